/- Printed by wip/xp/xprint.sh out of the translation, for this claim: what each function answers, as a plain function, and that the machine does just that. No condition. -/
import Derived.Test.YtegchbdjbefdbaaPFnExactClientAskx0
import Derived.Test.YtegchbdjbefdbaaPFnExactClientAskx4
namespace Go.Proofs.Ytegchbdjbefdbaa.PFnExactClientAsk
open Go.RowKit Go.Proofs.YtegchbdjbefdbaaW.PrintWords Go.Proofs.YtegchbdjbefdbaaW.PrintLast Go.Proofs.YtegchbdjbefdbaaW.PrintMore
attribute [local go_sem] max2_int min2_int max_two min_two max_three min_three max_four min_four   -- for this text's walks alone
set_option linter.unusedVariables false
set_option linter.unusedSimpArgs false
mutual
def spec_ClientOk.j0 : Nat → Bool → Int → List Int → List (S41) → List Int → Option (Bool)
 | 0, _, _, _, _, _ => none
 | k + 1, x32, x251000, x251001, x251002, x251003 => if x32 = true then (some false) else (if 0 ≤ x251000 then (if (x251000 : Int).toNat ≤ 281474976710656 then ((some (([] : List Int) : List Int)).bind fun y255 => (if y255.length + x251001.length < 17592186044416 then ((some (y255 ++ x251001 : List Int)).bind fun y258 => (if y258.length + x251003.length < 17592186044416 then (spec_ClientOk.l0 k (List.replicate (x251000 : Int).toNat false) (y258 ++ x251003) 0 x251000 x251001 x251002 x251003) else (none))) else (none))) else (none)) else (none))
def spec_ClientOk.l0 : Nat → List Bool → List Int → Int → Int → List Int → List (S41) → List Int → Option (Bool)
 | 0, _, _, _, _, _, _, _ => none
 | k + 1, x3, x4, x5, x251000, x251001, x251002, x251003 => if x5 < (x251002.length : Int) then (if 0 ≤ x5 then (if (((rd_T41 x251002 x5).f1).length : Int) > 9 then (some false) else (if x4.length < 17592186044416 then (spec_ClientOk.l0 k x3 (x4 ++ [(rd_T41 x251002 x5).f0]) (wrap64 (x5 + 1)) x251000 x251001 x251002 x251003) else (none))) else (none)) else (spec_ClientOk.l1 k x3 x4 0 x251000 x251001 x251002 x251003)
def spec_ClientOk.l1 : Nat → List Bool → List Int → Int → Int → List Int → List (S41) → List Int → Option (Bool)
 | 0, _, _, _, _, _, _, _ => none
 | k + 1, x3, x4, x6, x251000, x251001, x251002, x251003 => if x6 < (x4.length : Int) then (if 0 ≤ x6 then ((spec_l1In.f (rd x4 x6) 0 (wrap64 (x251000 - 1))).bind fun t270 => (if t270 = true then (if 0 ≤ (rd x4 x6) then (if (rd x4 x6) < (x3.length : Int) then (if rdOf false x3 (rd x4 x6) = true then (spec_ClientOk.j3 k x3 x4 x6 true x251000 x251001 x251002 x251003) else (if x6 > 0 then (if x6 < (x251001.length : Int) then (if 0 ≤ (wrap64 (x6 - 1)) then (if (wrap64 (x6 - 1)) < (x4.length : Int) then (spec_ClientOk.j3 k x3 x4 x6 (decide ((rd x4 (wrap64 (x6 - 1))) ≥ (rd x4 x6))) x251000 x251001 x251002 x251003) else (none)) else (none)) else (spec_ClientOk.j3 k x3 x4 x6 false x251000 x251001 x251002 x251003)) else (spec_ClientOk.j3 k x3 x4 x6 false x251000 x251001 x251002 x251003))) else (none)) else (none)) else (spec_ClientOk.j3 k x3 x4 x6 true x251000 x251001 x251002 x251003))) else (none)) else (some true)
def spec_ClientOk.j3 : Nat → List Bool → List Int → Int → Bool → Int → List Int → List (S41) → List Int → Option (Bool)
 | 0, _, _, _, _, _, _, _, _ => none
 | k + 1, x3, x4, x6, x113, x251000, x251001, x251002, x251003 => if x113 = true then (some false) else (if 0 ≤ x6 then (if x6 < (x4.length : Int) then (if 0 ≤ (rd x4 x6) then (if (rd x4 x6) < (x3.length : Int) then (spec_ClientOk.l1 k (x3.set ((rd x4 x6) : Int).toNat true) x4 (wrap64 (x6 + 1)) x251000 x251001 x251002 x251003) else (none)) else (none)) else (none)) else (none))
end
def spec_ClientOk.f (k : Nat) (a0_0 : Int) (l0_1 : List Int) (l0_2 : List (S41)) (l0_3 : List Int) : Option (Bool) := (spec_l1In.f a0_0 0 256).bind fun t251 => (if t251 = true then (if (l0_1.length : Int) > 4 then (spec_ClientOk.j0 k true a0_0 l0_1 l0_2 l0_3) else (spec_ClientOk.j0 k ((wrap64 ((wrap64 ((l0_1.length : Int) + (l0_2.length : Int))) + (l0_3.length : Int))) != a0_0) a0_0 l0_1 l0_2 l0_3)) else (spec_ClientOk.j0 k true a0_0 l0_1 l0_2 l0_3))
theorem spec_ClientOk.mono_l : ∀ k, (∀ y0 y1 y2 y3 y4, LeO (spec_ClientOk.j0 k y0 y1 y2 y3 y4) (spec_ClientOk.j0 (k + 1) y0 y1 y2 y3 y4)) ∧ (∀ y0 y1 y2 y3 y4 y5 y6, LeO (spec_ClientOk.l0 k y0 y1 y2 y3 y4 y5 y6) (spec_ClientOk.l0 (k + 1) y0 y1 y2 y3 y4 y5 y6)) ∧ (∀ y0 y1 y2 y3 y4 y5 y6, LeO (spec_ClientOk.l1 k y0 y1 y2 y3 y4 y5 y6) (spec_ClientOk.l1 (k + 1) y0 y1 y2 y3 y4 y5 y6)) ∧ (∀ y0 y1 y2 y3 y4 y5 y6 y7, LeO (spec_ClientOk.j3 k y0 y1 y2 y3 y4 y5 y6 y7) (spec_ClientOk.j3 (k + 1) y0 y1 y2 y3 y4 y5 y6 y7))
 | 0 => ⟨fun _ _ _ _ _ r h => by simp [spec_ClientOk.j0] at h, fun _ _ _ _ _ _ _ r h => by simp [spec_ClientOk.l0] at h, fun _ _ _ _ _ _ _ r h => by simp [spec_ClientOk.l1] at h, fun _ _ _ _ _ _ _ _ r h => by simp [spec_ClientOk.j3] at h⟩
 | k + 1 => by
  obtain ⟨ih0, ih1, ih2, ih3⟩ := spec_ClientOk.mono_l k
  refine ⟨?_, ?_, ?_, ?_⟩
  ·intro y0 y1 y2 y3 y4
   unfold spec_ClientOk.j0
   repeat' first | (with_reducible first | apply ih0 | apply ih1 | apply ih2 | apply ih3 | exact LeO.refl _ | exact LeO.none _ | refine LeO.ite ?_ ?_ | refine LeO.bind ?_ fun _ => ?_) | apply ih0 | apply ih1 | apply ih2 | apply ih3 | exact LeO.none _ | refine LeO.ite ?_ ?_ | refine LeO.bind ?_ fun _ => ?_
  ·intro y0 y1 y2 y3 y4 y5 y6
   unfold spec_ClientOk.l0
   repeat' first | (with_reducible first | apply ih0 | apply ih1 | apply ih2 | apply ih3 | exact LeO.refl _ | exact LeO.none _ | refine LeO.ite ?_ ?_ | refine LeO.bind ?_ fun _ => ?_) | apply ih0 | apply ih1 | apply ih2 | apply ih3 | exact LeO.none _ | refine LeO.ite ?_ ?_ | refine LeO.bind ?_ fun _ => ?_
  ·intro y0 y1 y2 y3 y4 y5 y6
   unfold spec_ClientOk.l1
   repeat' first | (with_reducible first | apply ih0 | apply ih1 | apply ih2 | apply ih3 | exact LeO.refl _ | exact LeO.none _ | refine LeO.ite ?_ ?_ | refine LeO.bind ?_ fun _ => ?_) | apply ih0 | apply ih1 | apply ih2 | apply ih3 | exact LeO.none _ | refine LeO.ite ?_ ?_ | refine LeO.bind ?_ fun _ => ?_
  ·intro y0 y1 y2 y3 y4 y5 y6 y7
   unfold spec_ClientOk.j3
   repeat' first | (with_reducible first | apply ih0 | apply ih1 | apply ih2 | apply ih3 | exact LeO.refl _ | exact LeO.none _ | refine LeO.ite ?_ ?_ | refine LeO.bind ?_ fun _ => ?_) | apply ih0 | apply ih1 | apply ih2 | apply ih3 | exact LeO.none _ | refine LeO.ite ?_ ?_ | refine LeO.bind ?_ fun _ => ?_
theorem spec_ClientOk.mono : ∀ a0 a1 a2 a3 k, LeO (spec_ClientOk.f k a0 a1 a2 a3) (spec_ClientOk.f (k + 1) a0 a1 a2 a3) := by
 intro a0 a1 a2 a3 k
 obtain ⟨ih0, ih1, ih2, ih3⟩ := spec_ClientOk.mono_l k
 unfold spec_ClientOk.f
 repeat' first | (with_reducible first | apply ih0 | apply ih1 | apply ih2 | apply ih3 | exact LeO.refl _ | exact LeO.none _ | refine LeO.ite ?_ ?_ | refine LeO.bind ?_ fun _ => ?_) | apply ih0 | apply ih1 | apply ih2 | apply ih3 | exact LeO.none _ | refine LeO.ite ?_ ?_ | refine LeO.bind ?_ fun _ => ?_
def spec_ClientOk.T4 : Bool × List (List Nat × List Nat) := (true, [([], []), ([], []), ([1], [1]), ([0, 2], [0, 2]), ([], []), ([4], [4]), ([3, 5, 3], [3, 5]), ([6, 6, 0, 1, 2, 3, 4, 5, 6], [6])])
def spec_ClientOk.B4 : List Nat := [0, 0, 2, 7, 0, 16, 63, 127]
theorem spec_ClientOk.tab4 : rtab .any (opsOf Try.f12 4) = spec_ClientOk.T4 := by kernel_rfl
theorem spec_ClientOk.bits4 : waitsOk spec_ClientOk.T4.2 spec_ClientOk.B4 = true := by kernel_rfl
def spec_ClientOk.T14 : Bool × List (List Nat × List Nat) := (true, [([], []), ([], []), ([0, 1], [0, 1]), ([2], [2]), ([], []), ([4], [4]), ([5], [5]), ([3, 6], [3, 6]), ([7], [7]), ([8, 7], [8]), ([9], [9]), ([9], [9]), ([9], [9]), ([11, 12, 9], [9, 11, 12]), ([13, 9], [9, 13]), ([10, 14, 9], [9, 10, 14]), ([15, 9], [9, 15]), ([9, 16], [9, 16]), ([17, 9], [17]), ([18], [18]), ([19, 18], [18, 19]), ([20, 18, 18], [18, 20]), ([21], [21]), ([21], [21]), ([23, 21], [21, 23]), ([24, 21], [21, 24]), ([22, 25, 21], [21, 22, 25]), ([21, 26, 18], [18, 21, 26]), ([27, 21, 18], [18, 27]), ([28], [28]), ([28], [28]), ([30, 28], [28, 30]), ([29, 31, 28], [28, 29, 31]), ([32, 28], [28, 32]), ([28], [28]), ([28], [28]), ([34, 35, 28], [28, 34, 35]), ([36, 28], [28, 36]), ([33, 37, 28], [28, 33, 37]), ([28, 38, 18], [18, 28, 38]), ([18, 39], [18, 39])])
def spec_ClientOk.B14 : List Nat := [0, 0, 3, 7, 0, 16, 48, 127, 255, 511, 1023, 1023, 1023, 7167, 15359, 32767, 65535, 131071, 262143, 524287, 1048575, 2097151, 4194303, 4194303, 12582911, 29360127, 67108863, 134217727, 268435455, 536870911, 536870911, 1610612735, 4294967295, 8589934591, 536870911, 536870911, 52076478463, 120795955199, 274877906943, 549755813887, 1099511627775]
theorem spec_ClientOk.tab14 : rtab .any (opsOf Try.f12 14) = spec_ClientOk.T14 := by kernel_rfl
theorem spec_ClientOk.bits14 : waitsOk spec_ClientOk.T14.2 spec_ClientOk.B14 = true := by kernel_rfl
set_option maxHeartbeats 8000000 in
set_option maxRecDepth 100000 in
theorem spec_ClientOk.calls (k : Nat) (a0_0 : Int) (A0_1 : Option Addr) (c0_1 : Nat) (l0_1 : List Int) (A0_2 : Option Addr) (c0_2 : Nat) (l0_2 : List (S41)) (A0_3 : Option Addr) (c0_3 : Nat) (l0_3 : List Int) (r : Bool) (w : World) (hr0_1 : Kd.C (Kd.int .i64) w A0_1 l0_1.length l0_1) (hc0_1 : l0_1.length ≤ c0_1) (hr0_2 : Kd.C k41 w A0_2 l0_2.length l0_2) (hc0_2 : l0_2.length ≤ c0_2) (hr0_3 : Kd.C (Kd.int .i64) w A0_3 l0_3.length l0_3) (hc0_3 : l0_3.length ≤ c0_3) (h : spec_ClientOk.f k a0_0 l0_1 l0_2 l0_3 = some r) :
  Calls Try.prog 12 #[.agg #[.int .i64 a0_0, .slice A0_1 l0_1.length c0_1, .slice A0_2 l0_2.length c0_2, .slice A0_3 l0_3.length c0_3]] w fun e w' => e = .returned (.bool r) ∧ Below w.heap.size w w' := by
 have hu30 := Try.underlying30; have HR0_1 := Aside0.mk hr0_1; have HC0_1 := Aside0.mk hc0_1; clear hr0_1 hc0_1; have HR0_2 := Aside0.mk hr0_2; have HC0_2 := Aside0.mk hc0_2; clear hr0_2 hc0_2; have HR0_3 := Aside0.mk hr0_3; have HC0_3 := Aside0.mk hc0_3; clear hr0_3 hc0_3
 have HB := Aside0.mk (Below.refl w.heap.size w)
 have H : ((spec_l1In.f a0_0 0 256).bind fun t251 => (if t251 = true then (if (l0_1.length : Int) > 4 then (spec_ClientOk.j0 k true a0_0 l0_1 l0_2 l0_3) else (spec_ClientOk.j0 k ((wrap64 ((wrap64 ((l0_1.length : Int) + (l0_2.length : Int))) + (l0_3.length : Int))) != a0_0) a0_0 l0_1 l0_2 l0_3)) else (spec_ClientOk.j0 k true a0_0 l0_1 l0_2 l0_3))) = some r := h
 clear h; have HC2 := Aside0.mk H; clear H
 go_enter Try.func12, Try.ntmps12
 go_upto_region 1 with (first | ((with_reducible refine gate_dst (N := 1) rfl ?_); (try (refine gate_guard (by rfl) ?_; dsimp only)); refine box_ (N := 1) (cs := #[.int .i64 a0_0, .slice A0_1 l0_1.length c0_1, .slice A0_2 l0_2.length c0_2, .slice A0_3 l0_3.length c0_3]) (t := 30) (fun gb250 hg w3 hbox hb => ?_); have BK250 := Aside0.mk (hbox); have GW250 := ge_ hg HB; have GE250 := ge_ hg HB; replace HB := (bs_ HB hb); clear hb hbox hg))
 (try simp only [Act.put, List.setIfInBounds_toArray, List.set_cons_zero, List.set_cons_succ])
 go_cut [32] (fun v32 wc => ∃ (kq : Nat) (x32_1 : Bool), v32 = .bool x32_1 ∧ Aside0 (spec_ClientOk.j0 kq x32_1 a0_0 l0_1 l0_2 l0_3 = some r) ∧ Aside0 (kq ≤ k) ∧ Aside0 (wc.heap[gb250]? = some (.cells #[.int .i64 a0_0, (.slice A0_1 l0_1.length c0_1), (.slice A0_2 l0_2.length c0_2), (.slice A0_3 l0_3.length c0_3)] 30 (0, 0))) ∧ Aside0 (Below w.heap.size w wc))
 case first =>
  have H := HC2.out; clear HC2
  replace H := Option.bind_eq_some_iff.mp H
  obtain ⟨t251, A40, H⟩ := H
  (try dsimp only at H)
  have A4 := Aside0.mk A40; clear A40
  by_cases c5 : t251 = true
  ·subst c5
   rw [if_pos rfl] at H
   by_cases c6 : (l0_1.length : Int) > 4
   ·rw [if_pos c6] at H
    have c6b0 : decide (4 < (l0_1.length : Int)) = true := decide_eq_true c6
    have c6b1 : decide (4 < l0_1.length) = true := decide_eq_true (by omega)
    clear c6
    (first | rw [c6b0] | (simp only [i64_w, i32_w]; rw [c6b0]) | skip)
    have H' := Aside0.mk H
    clear H; have Z7 := zz4 BK250
    go_wp2_with (first | ((with_reducible refine gate_callee (f := 46) rfl ?_); refine goesL_ (some 9) rfl rfl Try.func46 (by kernel_rfl) rfl #[.int .i64 a0_0, .int .i64 0, .int .i64 256] rfl ar_ ?_; (with_reducible refine (spec_l1In.calls a0_0 0 256 true _ A4.out).mono ?_); rintro e w' ⟨rfl, ⟨nd, rfl⟩⟩; refine ⟨_, rfl, ?_⟩))
    go_meet
    case rel => exact ⟨_, (true), (by first | rfl | (simp; done) | (simp [*]; done)), H', ⟨by first | omega | exact Nat.le_refl _⟩, ⟨by refine kb_ ?_; exact BK250.out⟩, ⟨hbA_ HB.out⟩⟩
   ·rw [if_neg c6] at H
    have c6b0 : decide (4 < (l0_1.length : Int)) = false := decide_eq_false c6
    have c6b1 : decide (4 < l0_1.length) = false := decide_eq_false (by omega)
    clear c6
    (first | rw [c6b0] | (simp only [i64_w, i32_w]; rw [c6b0]) | skip)
    have H' := Aside0.mk H
    clear H; have Z8 := zz4 BK250
    go_wp2_with (first | ((with_reducible refine gate_callee (f := 46) rfl ?_); refine goesL_ (some 9) rfl rfl Try.func46 (by kernel_rfl) rfl #[.int .i64 a0_0, .int .i64 0, .int .i64 256] rfl ar_ ?_; (with_reducible refine (spec_l1In.calls a0_0 0 256 true _ A4.out).mono ?_); rintro e w' ⟨rfl, ⟨nd, rfl⟩⟩; refine ⟨_, rfl, ?_⟩))
    go_meet
    case rel => exact ⟨_, (((wrap64 ((wrap64 ((l0_1.length : Int) + (l0_2.length : Int))) + (l0_3.length : Int))) != a0_0)), (by first | rfl | (simp; done) | (simp [*]; done)), H', ⟨by first | omega | exact Nat.le_refl _⟩, ⟨by refine kb_ ?_; exact BK250.out⟩, ⟨hbA_ HB.out⟩⟩
  ·replace c5 := Bool.eq_false_iff.mpr c5
   subst c5
   rw [if_neg (show ¬ (false = true) by decide)] at H
   have H' := Aside0.mk H
   clear H; have Z9 := zz4 BK250
   go_wp2_with (first | ((with_reducible refine gate_callee (f := 46) rfl ?_); refine goesL_ (some 9) rfl rfl Try.func46 (by kernel_rfl) rfl #[.int .i64 a0_0, .int .i64 0, .int .i64 256] rfl ar_ ?_; (with_reducible refine (spec_l1In.calls a0_0 0 256 false _ A4.out).mono ?_); rintro e w' ⟨rfl, ⟨nd, rfl⟩⟩; refine ⟨_, rfl, ?_⟩))
   go_meet
   case rel => exact ⟨_, (true), (by first | rfl | (simp; done) | (simp [*]; done)), H', ⟨by first | omega | exact Nat.le_refl _⟩, ⟨by refine kb_ ?_; exact BK250.out⟩, ⟨hbA_ HB.out⟩⟩
 case rest =>
  clear HC2; (try clear c1); (try clear p2); (try clear c4); (try clear c5); (try clear c6); (try clear c6b0); (try clear c6b1); (try clear p6); (try clear Z7); (try clear Z8); (try clear Z9)
  obtain ⟨kq, x32_1, rfl, HA, HJ1, BK250, HB⟩ := hcut
  cases kq with
  | zero => exact absurd HA.out (by simp [spec_ClientOk.j0])
  | succ kj1 =>
   have H := HA.out; clear HA
   simp only [spec_ClientOk.j0] at H
   by_cases c10 : x32_1 = true
   ·subst c10
    rw [if_pos rfl] at H
    obtain rfl := Option.some.inj H
    go_wp2
    go_ret
    exact ⟨by first | rfl | (simp [errW_none, errW_some] <;> rfl) | (simp [*, errW_none, errW_some] <;> rfl), hbA_ HB.out⟩
   ·replace c10 := Bool.eq_false_iff.mpr c10
    subst c10
    rw [if_neg (show ¬ (false = true) by decide)] at H
    by_cases c11 : 0 ≤ a0_0
    ·rw [if_pos c11] at H
     have c11b0 := eq_true c11
     have c11b1 : decide (0 ≤ a0_0) = true := decide_eq_true c11
     clear c11
     by_cases c12 : (a0_0 : Int).toNat ≤ 281474976710656
     ·rw [if_pos c12] at H
      have c12b0 := eq_true c12
      have c12b1 : decide ((a0_0 : Int).toNat ≤ 281474976710656) = true := decide_eq_true c12
      clear c12
      obtain ⟨y252, hy252⟩ : ∃ y_ : List Bool, y_ = (List.replicate (a0_0 : Int).toNat false) := ⟨_, rfl⟩
      (first | replace H := sb_ hy252 H | rw [← hy252] at H)
      have Ny252 := Aside0.mk hy252; clear hy252
      obtain ⟨y255, hy255⟩ : ∃ y_ : List Int, y_ = (([] : List Int)) := ⟨_, rfl⟩
      (first | replace H := sb_ hy255 H | rw [← hy255] at H)
      have Ny255 := Aside0.mk hy255; clear hy255
      by_cases c13 : y255.length + l0_1.length < 17592186044416
      ·rw [if_pos c13] at H
       have LMc13 := Aside0.mk c13; clear c13
       obtain ⟨y258, hy258⟩ : ∃ y_ : List Int, y_ = (y255 ++ l0_1) := ⟨_, rfl⟩
       (first | replace H := sb_ hy258 H | rw [← hy258] at H)
       have Ny258 := Aside0.mk hy258; clear hy258
       by_cases c14 : y258.length + l0_3.length < 17592186044416
       ·rw [if_pos c14] at H
        have LMc14 := Aside0.mk c14; clear c14
        obtain ⟨y261, hy261⟩ : ∃ y_ : List Int, y_ = (y258 ++ l0_3) := ⟨_, rfl⟩
        (first | replace H := sb_ hy261 H | rw [← hy261] at H)
        have Ny261 := Aside0.mk hy261; clear hy261
        have H' := Aside0.mk H
        clear H; have Z15 := zz4 BK250
        try go_wp2_with (first | ((with_reducible refine gate_dst (N := 35) rfl ?_); (try (refine gate_guard (by rfl) ?_; dsimp only)); refine Kd.R_make Kd.bool _ 4 rfl (N := 35) rfl 68 _ _ rfl a0_0 rfl rfl Try.underlying68 (.bool false) 1 info4 rfl (by decide) (by omega) false (ok := fun _ => True) (okp := fun _ => True) rfl (fun _ hk => hk) trivial (of_decide_eq_true (by first | (with_reducible assumption) | assumption)) (Nat.le_trans (Nat.mul_le_mul_right _ (of_decide_eq_true (by first | (with_reducible assumption) | assumption) : a0_0.toNat ≤ 281474976710656)) (by omega)) (Below.refl _ _) (Nat.le_refl _) ?_; intro v253 w16 ho17 hb hg_ hnew_; clear hg_ hnew_; (first | rw [← Ny252.out] at ho17 | (simp only [Int.reduceToNat] at ho17; rw [← Ny252.out] at ho17)); have HO254 := Aside0.mk (Kd.R_lower ho17 (below_size (hbA_ HB.out))); replace BK250 := (bbA_ BK250 hb); replace HB := (bs_ HB hb); clear hb ho17))
        replace HO254 := Aside0.mk (Kd.R_drew HO254.out); replace BK250 := Aside0.mk (blk_drew BK250.out); replace HB := (bd_ HB)
        refine start_ (n := 8) (S := fun w' => w'.cell? ⟨gb250, 0, none⟩ = some (.int .i64 a0_0) ∧ w'.cell? ⟨gb250, 1, none⟩ = some (.slice A0_1 l0_1.length c0_1) ∧ w'.cell? ⟨gb250, 2, none⟩ = some (.slice A0_2 l0_2.length c0_2) ∧ w'.cell? ⟨gb250, 3, none⟩ = some (.slice A0_3 l0_3.length c0_3)) (ds := []) #[false, false, false, false, false, false, false, false] (by kernel_rfl) rfl rfl (cz4 BK250.out) (fun hHeld => ?_); refine with_tabW spec_ClientOk.tab4 spec_ClientOk.bits4 (fun HT_ HW_ => ?_)
        generalize w16.drew = w18 at HO254 BK250 HB hHeld ⊢
        refine pu_ (i := 1) (N := some 37) HT_ ?_; refine pu_ (i := 4) (N := some 40) HT_ ?_; refine tk_ (i := 2) (N := some 38) HT_ HW_ hHeld ?_; refine tk_ (i := 5) (N := some 41) HT_ HW_ hHeld ?_
        refine on_ (i := 0) (N := some 36) HT_ (fun K hK => ?_)
        refine Kd.R_lit_step (Kd.int .i64) _ 3 ?hg (N := 36) ?hd (xs := ([] : List Int)) (inner := []) (ok := fun _ => True) (okp := fun _ => True) ?hr ?hp (fun _ hk => hk) trivial (Below.refl _ _) (Nat.le_refl _) (by simp) ?_; (case hd => rfl); (case hg => rfl); (case hr => first | (go_simp; done) | (go_simp; rfl)); (case hp => exact (Reps.none _ _))
        intro v256 w19 ho20 hb hg_ hnew_
        clear hg_ hnew_
        (first | rw [← Ny255.out] at ho20 | (simp only [Int.reduceToNat] at ho20; rw [← Ny255.out] at ho20))
        have n0_ := Aside0.mk (Kd.R_below (kR_ HO254.out) hb); have n1_ := Aside0.mk (Kd.R_lower ho20 (below_size (hbA_ HB.out))); have n2_ := (bbA_ BK250 hb); have n3_ := (bs_ HB hb); clear HO254 BK250 HB; have HO254 := n0_; have HO257 := n1_; have BK250 := n2_; have HB := n3_; clear n0_ n1_ n2_ n3_ hb ho20
        refine hK.out _ _ (cz4 BK250.out) (fun hHeld => ?_)
        clear hK K; refine nm_ 36 ?_
        refine on_ (i := 3) (N := some 39) HT_ (fun K hK => ?_)
        refine Kd.R_append_rows_step (Kd.int .i64) (w0 := w) w.heap.size (by rfl) (.tmp 36) (.tmp 38) 22 3 (.int .i64 0) 8 rfl Try.underlying22 info3 rfl (by decide) (by omega) v256 y255 l0_1 _ _ _ (fun _ => True) (fun _ => False) rfl rfl ?aO ?aR (fun _ _ h => h) (fun _ h => h.elim) ?aF ?aB ?aS ?aL ?_
        (case aR => exact kC_ (Kd.C_below HR0_1.out HB.out))
        (case aB => exact (hbA_ HB.out))
        (case aF => exact (fun _ _ => trivial))
        (case aO => exact (kR_ HO257.out))
        (case aS => exact (below_size (hbA_ HB.out)))
        (case aL => have := LMc13.out; omega)
        intro v259 w21 ho hb hg hat
        rw [← Ny258.out] at ho
        have n0_ := (bgA_ BK250 hg (Kd.R_ne HO257.out BK250.out (by decide))); have n1_ := Aside0.mk (Kd.R_over' (kR_ HO254.out) (Kd.R_typed (kR_ HO257.out)) (by decide) hg); have n2_ := Aside0.mk (hb); have n3_ := Aside0.mk (ho); clear BK250 HO254 HB HO257; have BK250 := n0_; have HO254 := n1_; have HB := n2_; have HO260 := n3_; clear n0_ n1_ n2_ n3_ ho hb hg hat
        refine hK.out _ _ (cz4 BK250.out) (fun hHeld => ?_)
        clear hK K; refine nm_ 39 ?_
        refine on_ (i := 6) (N := some 42) HT_ (fun K hK => ?_)
        refine Kd.R_append_rows_step (Kd.int .i64) (w0 := w) w.heap.size (by rfl) (.tmp 39) (.tmp 41) 22 3 (.int .i64 0) 8 rfl Try.underlying22 info3 rfl (by decide) (by omega) v259 y258 l0_3 _ _ _ (fun _ => True) (fun _ => False) rfl rfl ?aO ?aR (fun _ _ h => h) (fun _ h => h.elim) ?aF ?aB ?aS ?aL ?_
        (case aR => exact kC_ (Kd.C_below HR0_3.out HB.out))
        (case aB => exact (hbA_ HB.out))
        (case aF => exact (fun _ _ => trivial))
        (case aO => exact (kR_ HO260.out))
        (case aS => exact (below_size (hbA_ HB.out)))
        (case aL => have := LMc14.out; omega)
        intro v262 w22 ho hb hg hat
        rw [← Ny261.out] at ho
        have n0_ := (bgA_ BK250 hg (Kd.R_ne HO260.out BK250.out (by decide))); have n1_ := Aside0.mk (Kd.R_over' (kR_ HO254.out) (Kd.R_typed (kR_ HO260.out)) (by decide) hg); have n2_ := Aside0.mk (hb); have n3_ := Aside0.mk (ho); clear BK250 HO254 HB HO260; have BK250 := n0_; have HO254 := n1_; have HB := n2_; have HO263 := n3_; clear n0_ n1_ n2_ n3_ ho hb hg hat
        refine hK.out _ _ (cz4 BK250.out) (fun hHeld => ?_)
        clear hK K; refine nm_ 42 ?_; refine pu_ (i := 7) (N := some 4) HT_ ?_
        refine done_ (done_of HT_.out (by kernel_rfl)) ?_
        try go_wp2
        go_loopg [4, 5] kj1 (fun kq v4 v5 w' => ∃ (x4_2 : List Int) (x5_2 : Int), v5 = .int .i64 x5_2 ∧ Aside0 (spec_ClientOk.l0 kq y252 x4_2 x5_2 a0_0 l0_1 l0_2 l0_3 = some r) ∧ Aside0 (kq ≤ kj1) ∧ Aside0 (Kd.R Kd.bool 4 w' w.heap.size (fun _ => True) v253 y252) ∧ Aside0 (Kd.R (Kd.int .i64) 3 w' w.heap.size (fun _ => True) v4 x4_2) ∧ Aside0 (w'.heap[gb250]? = some (.cells #[.int .i64 a0_0, (.slice A0_1 l0_1.length c0_1), (.slice A0_2 l0_2.length c0_2), (.slice A0_3 l0_3.length c0_3)] 30 (0, 0))) ∧ Aside0 (Below w.heap.size w w'))
        case atStart => exact ⟨(y261), (0), (by first | rfl | (simp; done) | (simp [*]; done)), H', ⟨Nat.le_refl _⟩, ⟨kR_ HO254.out⟩, ⟨kR_ HO263.out⟩, ⟨by refine kb_ ?_; exact BK250.out⟩, ⟨hbA_ HB.out⟩⟩
        case round =>
         clear H'; (try clear c1); (try clear p2); (try clear c4); (try clear c5); (try clear c6); (try clear c6b0); (try clear c6b1); (try clear p6); (try clear c10); (try clear c11); (try clear c11b0); (try clear c11b1); (try clear c12); (try clear c12b0); (try clear c12b1); (try clear c13); (try clear c14); (try clear Z15); (try clear Z7); (try clear Z8); (try clear Z9); (try clear p2); (try clear p6)
         obtain ⟨x4_2, x5_2, rfl, HA, HK2, HO_3, HO_4, BK250, HB⟩ := hrel
         cases gk with
         | zero => exact absurd HA.out (by simp [spec_ClientOk.l0])
         | succ k2 =>
          have H := HA.out; clear HA
          simp only [spec_ClientOk.l0] at H
          by_cases c23 : x5_2 < (l0_2.length : Int)
          ·rw [if_pos c23] at H
           have c23b0 : decide (x5_2 < (l0_2.length : Int)) = true := decide_eq_true c23
           clear c23
           by_cases c24 : 0 ≤ x5_2
           ·rw [if_pos c24] at H
            have c24b0 : decide (0 ≤ x5_2) = true := decide_eq_true c24
            clear c24
            by_cases c25 : (((rd_T41 l0_2 x5_2).f1).length : Int) > 9
            ·rw [if_pos c25] at H
             have c25b0 : decide (9 < (((rd_T41 l0_2 x5_2).f1).length : Int)) = true := decide_eq_true c25
             have c25b1 : decide (9 < ((rd_T41 l0_2 x5_2).f1).length) = true := decide_eq_true (by omega)
             clear c25
             obtain rfl := Option.some.inj H
             have Z26 := zz4 BK250
             have p264 : 0 ≤ (x5_2 : Int) := of_decide_eq_true (by first | (with_reducible assumption) | assumption)
             have q264 : x5_2 < (l0_2.length : Int) := of_decide_eq_true (by first | (with_reducible assumption) | assumption)
             obtain ⟨ad264, A264_1, c264_1, e264, hx264_0, hx264_1, hl264_1, hi264_1⟩ := at_T41 HR0_2.out x5_2 p264 q264
             cases e264
             replace hx264_0 := cc_ HB hx264_0
             replace hx264_1 := cc_ HB hx264_1
             have HR264_1 := Aside0.mk hi264_1; have HC264_1 := Aside0.mk hl264_1; clear hi264_1 hl264_1
             replace p264 := eq_true p264
             replace q264 := eq_true q264
             go_wp2
             go_ret
             exact ⟨by first | rfl | (simp [errW_none, errW_some] <;> rfl) | (simp [*, errW_none, errW_some] <;> rfl), hbA_ HB.out⟩
            ·rw [if_neg c25] at H
             have c25b0 : decide (9 < (((rd_T41 l0_2 x5_2).f1).length : Int)) = false := decide_eq_false c25
             have c25b1 : decide (9 < ((rd_T41 l0_2 x5_2).f1).length) = false := decide_eq_false (by omega)
             clear c25
             by_cases c27 : x4_2.length < 17592186044416
             ·rw [if_pos c27] at H
              have LMc27 := Aside0.mk c27; clear c27
              obtain ⟨y266, hy266⟩ : ∃ y_ : List Int, y_ = (x4_2 ++ [(rd_T41 l0_2 x5_2).f0]) := ⟨_, rfl⟩
              (first | replace H := sb_ hy266 H | rw [← hy266] at H)
              have Ny266 := Aside0.mk hy266; clear hy266
              have H' := Aside0.mk H
              clear H; have Z28 := zz4 BK250
              have p264 : 0 ≤ (x5_2 : Int) := of_decide_eq_true (by first | (with_reducible assumption) | assumption)
              have q264 : x5_2 < (l0_2.length : Int) := of_decide_eq_true (by first | (with_reducible assumption) | assumption)
              obtain ⟨ad264, A264_1, c264_1, e264, hx264_0, hx264_1, hl264_1, hi264_1⟩ := at_T41 HR0_2.out x5_2 p264 q264
              cases e264
              replace hx264_0 := cc_ HB hx264_0
              replace hx264_1 := cc_ HB hx264_1
              have HR264_1 := Aside0.mk hi264_1; have HC264_1 := Aside0.mk hl264_1; clear hi264_1 hl264_1
              replace p264 := eq_true p264
              replace q264 := eq_true q264
              have p265 : 0 ≤ (x5_2 : Int) := of_decide_eq_true (by first | (with_reducible assumption) | assumption)
              have q265 : x5_2 < (l0_2.length : Int) := of_decide_eq_true (by first | (with_reducible assumption) | assumption)
              obtain ⟨ad265, A265_1, c265_1, e265, hx265_0, hx265_1, hl265_1, hi265_1⟩ := at_T41 HR0_2.out x5_2 p265 q265
              obtain rfl : ad264 = ad265 := (by injection e265)
              replace hx265_0 := cc_ HB hx265_0
              replace hx265_1 := cc_ HB hx265_1
              have HR265_1 := Aside0.mk hi265_1; have HC265_1 := Aside0.mk hl265_1; clear hi265_1 hl265_1
              replace p265 := eq_true p265
              replace q265 := eq_true q265
              have ea_ := Option.some.inj (hx264_1.symm.trans hx265_1)
              injection ea_ with ea_ en_ ec_
              subst ea_; subst ec_; clear en_
              go_wp2_with (first | ((with_reducible refine gate_builtin (b := .append) (xs := #[.tmp 58, .tmp 65]) rfl ?_); (try (refine gate_guard (by rfl) ?_; dsimp only)); at_builtin; refine Kd.R_append (Kd.int .i64) (w0 := w) w.heap.size rfl (.tmp 58) (.tmp 65) 22 3 (.int .i64 0) 8 rfl Try.underlying22 info3 rfl (by decide) (by omega) u4 x4_2 ((rd_T41 l0_2 x5_2).f0) [.int .i64 ((rd_T41 l0_2 x5_2).f0)] (fun _ => True) (fun _ => False) rfl rfl ?aP (fun _ hk => hk.elim) ?aF ?aO ?aB ?aS ?aL ?_; (case aP => exact rfl); (case aB => exact (hbA_ HB.out)); (case aF => exact (fun _ _ => trivial)); (case aO => exact (kR_ HO_4.out)); (case aS => exact (below_size (hbA_ HB.out))); (case aL => have := LMc27.out; omega); intro v267 w29 ho hb hg hat; rw [← Ny266.out] at ho; replace HO_3 := Aside0.mk (Kd.R_over' (kR_ HO_3.out) (Kd.R_typed (kR_ HO_4.out)) (by decide) hg); replace BK250 := (bgA_ BK250 hg (Kd.R_ne HO_4.out BK250.out (by decide))); replace HB := Aside0.mk (hb); have HO268 := Aside0.mk (ho); clear HO_4; clear ho hb hg hat))
              go_roundg k2
              case measure => have := HJ1.out; have := HK2.out; omega
              case rel => exact ⟨(y266), (wrap64 (x5_2 + 1)), (by first | rfl | (simp; done) | (simp [*]; done)), H', ⟨by have := HJ1.out; have := HK2.out; omega⟩, ⟨kR_ HO_3.out⟩, ⟨kR_ HO268.out⟩, ⟨by refine kb_ ?_; exact BK250.out⟩, ⟨hbA_ HB.out⟩⟩
             ·rw [if_neg c27] at H
              exact absurd H (by simp)
           ·rw [if_neg c24] at H
            exact absurd H (by simp)
          ·rw [if_neg c23] at H
           have c23b0 : decide (x5_2 < (l0_2.length : Int)) = false := decide_eq_false c23
           clear c23
           have H' := Aside0.mk H
           clear H; have Z30 := zz4 BK250
           go_wp2
           go_loopg [6] k2 (fun kq v6 w' => ∃ (x3_3 : List Bool) (x6_3 : Int), v6 = .int .i64 x6_3 ∧ Aside0 (spec_ClientOk.l1 kq x3_3 x4_2 x6_3 a0_0 l0_1 l0_2 l0_3 = some r) ∧ Aside0 (kq ≤ k2) ∧ Aside0 (Kd.R Kd.bool 4 w' w.heap.size (fun _ => True) v253 x3_3) ∧ Aside0 (Kd.R (Kd.int .i64) 3 w' w.heap.size (fun _ => True) u4 x4_2) ∧ Aside0 (w'.heap[gb250]? = some (.cells #[.int .i64 a0_0, (.slice A0_1 l0_1.length c0_1), (.slice A0_2 l0_2.length c0_2), (.slice A0_3 l0_3.length c0_3)] 30 (0, 0))) ∧ Aside0 (Below w.heap.size w w'))
           case atStart => exact ⟨(y252), (0), (by first | rfl | (simp; done) | (simp [*]; done)), H', ⟨Nat.le_refl _⟩, ⟨kR_ HO_3.out⟩, ⟨kR_ HO_4.out⟩, ⟨by refine kb_ ?_; exact BK250.out⟩, ⟨hbA_ HB.out⟩⟩
           case round =>
            clear H'; (try clear c1); (try clear c2); (try clear p2); (try clear q2); (try clear hx2); (try clear c4); (try clear c5); (try clear c6); (try clear c6b0); (try clear c6b1); (try clear p6); (try clear c10); (try clear c11); (try clear c11b0); (try clear c11b1); (try clear c12); (try clear c12b0); (try clear c12b1); (try clear c13); (try clear c14); (try clear c23); (try clear c23b0); (try clear c24); (try clear c24b0); (try clear c25); (try clear c25b0); (try clear c25b1); (try clear c26); (try clear p26); (try clear q26); (try clear hx26); (try clear c27); (try clear Z15); (try clear Z26); (try clear Z28); (try clear Z30); (try clear Z7); (try clear Z8); (try clear Z9); (try clear hx264_0); (try clear hx264_1); (try clear hx265_0); (try clear hx265_1); (try clear p2); (try clear p264); (try clear p265); (try clear p6); (try clear q264); (try clear q265)
            obtain ⟨x3_3, x6_3, rfl, HA, HK3, HO_3, HO_4, BK250, HB⟩ := hrel
            cases gk with
            | zero => exact absurd HA.out (by simp [spec_ClientOk.l1])
            | succ k3 =>
             have H := HA.out; clear HA
             simp only [spec_ClientOk.l1] at H
             by_cases c31 : x6_3 < (x4_2.length : Int)
             ·rw [if_pos c31] at H
              have c31b0 : decide (x6_3 < (x4_2.length : Int)) = true := decide_eq_true c31
              clear c31; have HC32 := Aside0.mk H; clear H
              obtain ⟨Ao33, co33, eo33⟩ := Kd.R_slice HO_4.out
              subst eo33
              go_upto_region 14 with (fail)
              go_cut [113] (fun v113 wc => ∃ (kq : Nat) (x113_31 : Bool), v113 = .bool x113_31 ∧ Aside0 (spec_ClientOk.j3 kq x3_3 x4_2 x6_3 x113_31 a0_0 l0_1 l0_2 l0_3 = some r) ∧ Aside0 (kq ≤ k3) ∧ Aside0 (Kd.R Kd.bool 4 wc w.heap.size (fun _ => True) v253 x3_3) ∧ Aside0 (Kd.R (Kd.int .i64) 3 wc w.heap.size (fun _ => True) (.slice Ao33 x4_2.length co33) x4_2) ∧ Aside0 (wc.heap[gb250]? = some (.cells #[.int .i64 a0_0, (.slice A0_1 l0_1.length c0_1), (.slice A0_2 l0_2.length c0_2), (.slice A0_3 l0_3.length c0_3)] 30 (0, 0))) ∧ Aside0 (Below w.heap.size w wc))
              case first =>
               have H := HC32.out; clear HC32
               by_cases c34 : 0 ≤ x6_3
               ·rw [if_pos c34] at H
                have c34b0 : decide (0 ≤ x6_3) = true := decide_eq_true c34
                clear c34
                (first | rw [c34b0] | (simp only [i64_w, i32_w]; rw [c34b0]) | skip)
                replace H := Option.bind_eq_some_iff.mp H
                obtain ⟨t270, A350, H⟩ := H
                (try dsimp only at H)
                have A35 := Aside0.mk A350; clear A350
                by_cases c36 : t270 = true
                ·subst c36
                 rw [if_pos rfl] at H
                 by_cases c37 : 0 ≤ (rd x4_2 x6_3)
                 ·rw [if_pos c37] at H
                  have c37b0 : decide (0 ≤ (rd x4_2 x6_3)) = true := decide_eq_true c37
                  clear c37
                  by_cases c38 : (rd x4_2 x6_3) < (x3_3.length : Int)
                  ·rw [if_pos c38] at H
                   have c38b0 : decide ((rd x4_2 x6_3) < (x3_3.length : Int)) = true := decide_eq_true c38
                   clear c38
                   obtain ⟨bq39, hbq39⟩ : ∃ b_ : Bool, b_ = (rdOf false x3_3 (rd x4_2 x6_3)) := ⟨_, rfl⟩
                   replace H : (if bq39 = true then (spec_ClientOk.j3 k3 x3_3 x4_2 x6_3 true a0_0 l0_1 l0_2 l0_3) else (if x6_3 > 0 then (if x6_3 < (l0_1.length : Int) then (if 0 ≤ (wrap64 (x6_3 - 1)) then (if (wrap64 (x6_3 - 1)) < (x4_2.length : Int) then (spec_ClientOk.j3 k3 x3_3 x4_2 x6_3 (decide ((rd x4_2 (wrap64 (x6_3 - 1))) ≥ (rd x4_2 x6_3))) a0_0 l0_1 l0_2 l0_3) else (none)) else (none)) else (spec_ClientOk.j3 k3 x3_3 x4_2 x6_3 false a0_0 l0_1 l0_2 l0_3)) else (spec_ClientOk.j3 k3 x3_3 x4_2 x6_3 false a0_0 l0_1 l0_2 l0_3))) = some r := by rw [← hbq39] at H; exact H
                   have Nbq39 := Aside0.mk hbq39; clear hbq39
                   by_cases c40 : bq39 = true
                   ·subst c40
                    rw [if_pos rfl] at H
                    have H' := Aside0.mk H
                    clear H
                    try go_wp2
                    replace HO_3 := Aside0.mk (Kd.R_drew HO_3.out); replace HO_4 := Aside0.mk (Kd.R_drew HO_4.out); replace BK250 := Aside0.mk (blk_drew BK250.out); replace HB := (bd_ HB)
                    have p269 : 0 ≤ (x6_3 : Int) := of_decide_eq_true (by first | (with_reducible assumption) | assumption)
                    have q269 : x6_3 < (x4_2.length : Int) := of_decide_eq_true (by first | (with_reducible assumption) | assumption)
                    obtain ⟨ad269, e269, hx269_0⟩ := Kd.at_int (Kd.R_reads' HO_4.out).2.2 x6_3 p269 q269
                    cases e269
                    replace p269 := eq_true p269
                    replace q269 := eq_true q269
                    have p271 : 0 ≤ (x6_3 : Int) := of_decide_eq_true (by first | (with_reducible assumption) | assumption)
                    have q271 : x6_3 < (x4_2.length : Int) := of_decide_eq_true (by first | (with_reducible assumption) | assumption)
                    obtain ⟨ad271, e271, hx271_0⟩ := Kd.at_int (Kd.R_reads' HO_4.out).2.2 x6_3 p271 q271
                    obtain rfl : ad269 = ad271 := (by injection e271)
                    replace p271 := eq_true p271
                    replace q271 := eq_true q271
                    have p272 : 0 ≤ ((rd x4_2 x6_3) : Int) := of_decide_eq_true (by first | (with_reducible assumption) | assumption)
                    have q272 : (rd x4_2 x6_3) < (x3_3.length : Int) := of_decide_eq_true (by first | (with_reducible assumption) | assumption)
                    (try (obtain ⟨Aq_, cq_, eq_⟩ := Kd.R_slice HO_3.out; subst eq_))
                    obtain ⟨ad272, e272, hx272_0⟩ := Kd.at_bool (Kd.R_reads' HO_3.out).2.2 (rd x4_2 x6_3) p272 q272
                    (try rw [← Nbq39.out] at hx272_0)
                    cases e272
                    replace p272 := eq_true p272
                    replace q272 := eq_true q272
                    refine start_ (n := 41) (S := fun w' => w'.cell? ⟨gb250, 0, none⟩ = some (.int .i64 a0_0) ∧ w'.cell? ⟨gb250, 1, none⟩ = some (.slice A0_1 l0_1.length c0_1) ∧ w'.cell? ⟨gb250, 2, none⟩ = some (.slice A0_2 l0_2.length c0_2) ∧ w'.cell? ⟨gb250, 3, none⟩ = some (.slice A0_3 l0_3.length c0_3) ∧ w'.cell? (ad269.add (x6_3).toNat) = some (.int .i64 (rd x4_2 x6_3)) ∧ w'.cell? (ad269.add (x6_3).toNat) = some (.int .i64 (rd x4_2 x6_3)) ∧ w'.cell? (ad272.add ((rd x4_2 x6_3)).toNat) = some (.bool true)) (ds := []) #[false, false, false, false, false, false, false, false, false, false, false, false, false, false, false, false, false, false, false, false, false, false, false, false, false, false, false, false, false, false, false, false, false, false, false, false, false, false, false, false, false] (by kernel_rfl) rfl rfl ⟨bc_ BK250 0, bc_ BK250 1, bc_ BK250 2, bc_ BK250 3, hx269_0, hx271_0, hx272_0⟩ (fun hHeld => ?_); refine with_tabW spec_ClientOk.tab14 spec_ClientOk.bits14 (fun HT_ HW_ => ?_)
                    generalize wr.drew = w41 at HO_3 HO_4 BK250 HB hx269_0 hx271_0 hx272_0 hHeld ⊢
                    refine pu_ (i := 0) (N := some 73) HT_ ?_; refine pu_ (i := 1) (N := some 74) HT_ ?_; refine pu_ (i := 2) (N := some 75) HT_ ?_; refine pu_ (i := 4) (N := some 77) HT_ ?_; refine tk_ (i := 3) (N := some 76) HT_ HW_ hHeld ?_; refine tk_ (i := 5) (N := some 78) HT_ HW_ hHeld ?_; refine pu_ (i := 6) (N := some 79) HT_ ?_
                    refine on_ (i := 7) (N := some 80) HT_ (fun K hK => ?_)
                    refine goes_ Try.func46 (by kernel_rfl) rfl #[.int .i64 (rd x4_2 x6_3), .int .i64 0, .int .i64 (wrap64 (a0_0 - 1))] (by rfl) rfl rfl ar_ ?_
                    with_reducible refine (spec_l1In.calls (rd x4_2 x6_3) 0 (wrap64 (a0_0 - 1)) true _ A35.out).mono ?_
                    rintro e w' ⟨rfl, ⟨nd, rfl⟩⟩
                    refine ⟨_, rfl, ?_⟩
                    obtain ⟨Ao42, co42, eo42⟩ := Kd.R_slice HO_3.out
                    (first | subst eo42 | (injection eo42 with f1_ f2_ f3_; have f4_ := f1_.symm; have f5_ := f3_.symm; clear f1_ f2_ f3_; subst f4_; subst f5_))
                    refine hK.out _ _ ⟨bc_ BK250 0, bc_ BK250 1, bc_ BK250 2, bc_ BK250 3, hHeld.2.2.2.2.1, hHeld.2.2.2.2.2.1, hHeld.2.2.2.2.2.2⟩ (fun hHeld => ?_)
                    clear hK K; refine nm_ 80 ?_; refine pu_ (i := 8) (N := some 81) HT_ ?_; refine pu_ (i := 9) (N := some 82) HT_ ?_; refine pu_ (i := 10) (N := some 83) HT_ ?_; refine pu_ (i := 11) (N := some 84) HT_ ?_; refine pu_ (i := 12) (N := some 85) HT_ ?_; refine pu_ (i := 13) (N := some 86) HT_ ?_; refine tk_ (i := 14) (N := some 87) HT_ HW_ hHeld ?_; refine pu_ (i := 15) (N := some 88) HT_ ?_; refine tk_ (i := 16) (N := some 89) HT_ HW_ hHeld ?_; refine pu_ (i := 17) (N := some 90) HT_ ?_; refine pu_ (i := 18) (N := some 91) HT_ ?_; refine pn_ (i := 19) (N := some 92) HT_ ?_; refine pn_ (i := 20) (N := some 93) HT_ ?_; refine pn_ (i := 21) (N := some 94) HT_ ?_; refine pn_ (i := 22) (N := some 95) HT_ ?_; refine pn_ (i := 23) (N := some 96) HT_ ?_; refine pn_ (i := 24) (N := some 97) HT_ ?_; refine pn_ (i := 25) (N := some 98) HT_ ?_; refine pn_ (i := 26) (N := some 99) HT_ ?_; refine pn_ (i := 27) (N := some 100) HT_ ?_; refine pn_ (i := 28) (N := some 101) HT_ ?_; refine pn_ (i := 29) (N := some 102) HT_ ?_; refine pn_ (i := 30) (N := some 103) HT_ ?_; refine pn_ (i := 31) (N := some 104) HT_ ?_; refine pn_ (i := 32) (N := some 105) HT_ ?_; refine pn_ (i := 33) (N := some 106) HT_ ?_; refine pn_ (i := 34) (N := some 107) HT_ ?_; refine pn_ (i := 35) (N := some 108) HT_ ?_; refine pn_ (i := 36) (N := some 109) HT_ ?_; refine pn_ (i := 37) (N := some 110) HT_ ?_; refine pn_ (i := 38) (N := some 111) HT_ ?_; refine pn_ (i := 39) (N := some 112) HT_ ?_; refine pu_ (i := 40) (N := some 113) HT_ ?_
                    refine done_ (done_of HT_.out (by kernel_rfl)) ?_
                    try go_wp2
                    go_meet
                    case rel => exact ⟨_, (true), (by first | rfl | (simp; done) | (simp [*]; done)), H', ⟨by have := HJ1.out; have := HK2.out; have := HK3.out; first | omega | exact Nat.le_refl _⟩, ⟨kR_ HO_3.out⟩, ⟨kR_ HO_4.out⟩, ⟨by refine kb_ ?_; exact BK250.out⟩, ⟨hbA_ HB.out⟩⟩
                   ·replace c40 := Bool.eq_false_iff.mpr c40
                    subst c40
                    rw [if_neg (show ¬ (false = true) by decide)] at H
                    by_cases c43 : x6_3 > 0
                    ·rw [if_pos c43] at H
                     have c43b0 : decide (0 < x6_3) = true := decide_eq_true c43
                     clear c43
                     by_cases c44 : x6_3 < (l0_1.length : Int)
                     ·rw [if_pos c44] at H
                      have c44b0 : decide (x6_3 < (l0_1.length : Int)) = true := decide_eq_true c44
                      clear c44
                      obtain ⟨ji45, hji45⟩ : ∃ j_ : Int, (wrap64 (x6_3 - 1)) = j_ := ⟨_, rfl⟩
                      (first | rw [hji45] at H | simp only [hji45] at H)
                      (try rw [hji45] at A35)
                      have hji45w : (IntKind.i64.wrap (x6_3 - 1)) = ji45 := (i64_w _).trans hji45
                      by_cases c46 : 0 ≤ (ji45)
                      ·rw [if_pos c46] at H
                       have c46b0 : decide (0 ≤ (ji45)) = true := decide_eq_true c46
                       clear c46
                       by_cases c47 : (ji45) < (x4_2.length : Int)
                       ·rw [if_pos c47] at H
                        have c47b0 : decide ((ji45) < (x4_2.length : Int)) = true := decide_eq_true c47
                        clear c47
                        have H' := Aside0.mk H
                        clear H
                        try go_wp2
                        replace HO_3 := Aside0.mk (Kd.R_drew HO_3.out); replace HO_4 := Aside0.mk (Kd.R_drew HO_4.out); replace BK250 := Aside0.mk (blk_drew BK250.out); replace HB := (bd_ HB)
                        have p269 : 0 ≤ (x6_3 : Int) := of_decide_eq_true (by first | (with_reducible assumption) | assumption)
                        have q269 : x6_3 < (x4_2.length : Int) := of_decide_eq_true (by first | (with_reducible assumption) | assumption)
                        obtain ⟨ad269, e269, hx269_0⟩ := Kd.at_int (Kd.R_reads' HO_4.out).2.2 x6_3 p269 q269
                        cases e269
                        replace p269 := eq_true p269
                        replace q269 := eq_true q269
                        have p271 : 0 ≤ (x6_3 : Int) := of_decide_eq_true (by first | (with_reducible assumption) | assumption)
                        have q271 : x6_3 < (x4_2.length : Int) := of_decide_eq_true (by first | (with_reducible assumption) | assumption)
                        obtain ⟨ad271, e271, hx271_0⟩ := Kd.at_int (Kd.R_reads' HO_4.out).2.2 x6_3 p271 q271
                        obtain rfl : ad269 = ad271 := (by injection e271)
                        replace p271 := eq_true p271
                        replace q271 := eq_true q271
                        have p272 : 0 ≤ ((rd x4_2 x6_3) : Int) := of_decide_eq_true (by first | (with_reducible assumption) | assumption)
                        have q272 : (rd x4_2 x6_3) < (x3_3.length : Int) := of_decide_eq_true (by first | (with_reducible assumption) | assumption)
                        (try (obtain ⟨Aq_, cq_, eq_⟩ := Kd.R_slice HO_3.out; subst eq_))
                        obtain ⟨ad272, e272, hx272_0⟩ := Kd.at_bool (Kd.R_reads' HO_3.out).2.2 (rd x4_2 x6_3) p272 q272
                        (try rw [← Nbq39.out] at hx272_0)
                        cases e272
                        replace p272 := eq_true p272
                        replace q272 := eq_true q272
                        have p273 : 0 ≤ ((ji45) : Int) := of_decide_eq_true (by first | (with_reducible assumption) | assumption)
                        have q273 : (ji45) < (x4_2.length : Int) := of_decide_eq_true (by first | (with_reducible assumption) | assumption)
                        obtain ⟨ad273, e273, hx273_0⟩ := Kd.at_int (Kd.R_reads' HO_4.out).2.2 (ji45) p273 q273
                        obtain rfl : ad269 = ad273 := (by injection e273)
                        replace p273 := eq_true p273
                        replace q273 := eq_true q273
                        have p274 : 0 ≤ (x6_3 : Int) := of_decide_eq_true (by first | (with_reducible assumption) | assumption)
                        have q274 : x6_3 < (x4_2.length : Int) := of_decide_eq_true (by first | (with_reducible assumption) | assumption)
                        obtain ⟨ad274, e274, hx274_0⟩ := Kd.at_int (Kd.R_reads' HO_4.out).2.2 x6_3 p274 q274
                        obtain rfl : ad269 = ad274 := (by injection e274)
                        replace p274 := eq_true p274
                        replace q274 := eq_true q274
                        refine start_ (n := 41) (S := fun w' => w'.cell? ⟨gb250, 0, none⟩ = some (.int .i64 a0_0) ∧ w'.cell? ⟨gb250, 1, none⟩ = some (.slice A0_1 l0_1.length c0_1) ∧ w'.cell? ⟨gb250, 2, none⟩ = some (.slice A0_2 l0_2.length c0_2) ∧ w'.cell? ⟨gb250, 3, none⟩ = some (.slice A0_3 l0_3.length c0_3) ∧ w'.cell? (ad269.add (x6_3).toNat) = some (.int .i64 (rd x4_2 x6_3)) ∧ w'.cell? (ad269.add (x6_3).toNat) = some (.int .i64 (rd x4_2 x6_3)) ∧ w'.cell? (ad272.add ((rd x4_2 x6_3)).toNat) = some (.bool false) ∧ w'.cell? (ad269.add ((ji45)).toNat) = some (.int .i64 (rd x4_2 (ji45))) ∧ w'.cell? (ad269.add (x6_3).toNat) = some (.int .i64 (rd x4_2 x6_3))) (ds := []) #[false, false, false, false, false, false, false, false, false, false, false, false, false, false, false, false, false, false, false, false, false, false, false, false, false, false, false, false, false, false, false, false, false, false, false, false, false, false, false, false, false] (by kernel_rfl) rfl rfl ⟨bc_ BK250 0, bc_ BK250 1, bc_ BK250 2, bc_ BK250 3, hx269_0, hx271_0, hx272_0, hx273_0, hx274_0⟩ (fun hHeld => ?_); refine with_tabW spec_ClientOk.tab14 spec_ClientOk.bits14 (fun HT_ HW_ => ?_)
                        generalize wr.drew = w48 at HO_3 HO_4 BK250 HB hx269_0 hx271_0 hx272_0 hx273_0 hx274_0 hHeld ⊢
                        refine pu_ (i := 0) (N := some 73) HT_ ?_; refine pu_ (i := 1) (N := some 74) HT_ ?_; refine pu_ (i := 2) (N := some 75) HT_ ?_; refine pu_ (i := 4) (N := some 77) HT_ ?_; refine tk_ (i := 3) (N := some 76) HT_ HW_ hHeld ?_; refine tk_ (i := 5) (N := some 78) HT_ HW_ hHeld ?_; refine pu_ (i := 6) (N := some 79) HT_ ?_
                        refine on_ (i := 7) (N := some 80) HT_ (fun K hK => ?_)
                        refine goes_ Try.func46 (by kernel_rfl) rfl #[.int .i64 (rd x4_2 x6_3), .int .i64 0, .int .i64 (wrap64 (a0_0 - 1))] (by rfl) rfl rfl ar_ ?_
                        with_reducible refine (spec_l1In.calls (rd x4_2 x6_3) 0 (wrap64 (a0_0 - 1)) true _ A35.out).mono ?_
                        rintro e w' ⟨rfl, ⟨nd, rfl⟩⟩
                        refine ⟨_, rfl, ?_⟩
                        obtain ⟨Ao49, co49, eo49⟩ := Kd.R_slice HO_3.out
                        (first | subst eo49 | (injection eo49 with f1_ f2_ f3_; have f4_ := f1_.symm; have f5_ := f3_.symm; clear f1_ f2_ f3_; subst f4_; subst f5_))
                        refine hK.out _ _ ⟨bc_ BK250 0, bc_ BK250 1, bc_ BK250 2, bc_ BK250 3, hHeld.2.2.2.2.1, hHeld.2.2.2.2.2.1, hHeld.2.2.2.2.2.2.1, hHeld.2.2.2.2.2.2.2.1, hHeld.2.2.2.2.2.2.2.2⟩ (fun hHeld => ?_)
                        clear hK K; refine nm_ 80 ?_; refine pu_ (i := 8) (N := some 81) HT_ ?_; refine pu_ (i := 9) (N := some 82) HT_ ?_; refine pu_ (i := 10) (N := some 83) HT_ ?_; refine pu_ (i := 11) (N := some 84) HT_ ?_; refine pu_ (i := 12) (N := some 85) HT_ ?_; refine pu_ (i := 13) (N := some 86) HT_ ?_; refine tk_ (i := 14) (N := some 87) HT_ HW_ hHeld ?_; refine pu_ (i := 15) (N := some 88) HT_ ?_; refine tk_ (i := 16) (N := some 89) HT_ HW_ hHeld ?_; refine pu_ (i := 17) (N := some 90) HT_ ?_; refine pu_ (i := 18) (N := some 91) HT_ ?_; refine pu_ (i := 19) (N := some 92) HT_ ?_; refine pu_ (i := 20) (N := some 93) HT_ ?_; refine pu_ (i := 21) (N := some 94) HT_ ?_; refine pu_ (i := 22) (N := some 95) HT_ ?_; refine pu_ (i := 23) (N := some 96) HT_ ?_; refine tk_ (i := 24) (N := some 97) HT_ HW_ hHeld ?_; refine pu_ (i := 25) (N := some 98) HT_ ?_; refine pu_ (i := 26) (N := some 99) HT_ ?_; refine pu_ (i := 27) (N := some 100) HT_ ?_; refine pu_ (i := 28) (N := some 101) HT_ ?_; refine pu_ (i := 29) (N := some 102) HT_ ?_; refine pu_ (i := 30) (N := some 103) HT_ ?_; refine pu_ (i := 31) (N := some 104) HT_ ?_; refine pu_ (i := 32) (N := some 105) HT_ ?_; refine pu_ (i := 34) (N := some 107) HT_ ?_; refine pu_ (i := 35) (N := some 108) HT_ ?_; refine pu_ (i := 36) (N := some 109) HT_ ?_; refine tk_ (i := 33) (N := some 106) HT_ HW_ hHeld ?_; refine tk_ (i := 37) (N := some 110) HT_ HW_ hHeld ?_; refine pu_ (i := 38) (N := some 111) HT_ ?_; refine pu_ (i := 39) (N := some 112) HT_ ?_; refine pu_ (i := 40) (N := some 113) HT_ ?_
                        refine done_ (done_of HT_.out (by kernel_rfl)) ?_
                        try go_wp2
                        first | go_meet | ((try simp only [← hji45]); go_meet)
                        case rel => exact ⟨_, (decide ((rd x4_2 (ji45)) ≥ (rd x4_2 x6_3))), (by first | rfl | (simp; done) | (simp only [← hji45] <;> (first | rfl | simp)) | (simp [*]; done)), H', ⟨by have := HJ1.out; have := HK2.out; have := HK3.out; first | omega | exact Nat.le_refl _⟩, ⟨kR_ HO_3.out⟩, ⟨kR_ HO_4.out⟩, ⟨by refine kb_ ?_; exact BK250.out⟩, ⟨hbA_ HB.out⟩⟩
                       ·rw [if_neg c47] at H
                        exact absurd H (by simp)
                      ·rw [if_neg c46] at H
                       exact absurd H (by simp)
                     ·rw [if_neg c44] at H
                      have c44b0 : decide (x6_3 < (l0_1.length : Int)) = false := decide_eq_false c44
                      clear c44
                      have H' := Aside0.mk H
                      clear H
                      try go_wp2
                      replace HO_3 := Aside0.mk (Kd.R_drew HO_3.out); replace HO_4 := Aside0.mk (Kd.R_drew HO_4.out); replace BK250 := Aside0.mk (blk_drew BK250.out); replace HB := (bd_ HB)
                      have p269 : 0 ≤ (x6_3 : Int) := of_decide_eq_true (by first | (with_reducible assumption) | assumption)
                      have q269 : x6_3 < (x4_2.length : Int) := of_decide_eq_true (by first | (with_reducible assumption) | assumption)
                      obtain ⟨ad269, e269, hx269_0⟩ := Kd.at_int (Kd.R_reads' HO_4.out).2.2 x6_3 p269 q269
                      cases e269
                      replace p269 := eq_true p269
                      replace q269 := eq_true q269
                      have p271 : 0 ≤ (x6_3 : Int) := of_decide_eq_true (by first | (with_reducible assumption) | assumption)
                      have q271 : x6_3 < (x4_2.length : Int) := of_decide_eq_true (by first | (with_reducible assumption) | assumption)
                      obtain ⟨ad271, e271, hx271_0⟩ := Kd.at_int (Kd.R_reads' HO_4.out).2.2 x6_3 p271 q271
                      obtain rfl : ad269 = ad271 := (by injection e271)
                      replace p271 := eq_true p271
                      replace q271 := eq_true q271
                      have p272 : 0 ≤ ((rd x4_2 x6_3) : Int) := of_decide_eq_true (by first | (with_reducible assumption) | assumption)
                      have q272 : (rd x4_2 x6_3) < (x3_3.length : Int) := of_decide_eq_true (by first | (with_reducible assumption) | assumption)
                      (try (obtain ⟨Aq_, cq_, eq_⟩ := Kd.R_slice HO_3.out; subst eq_))
                      obtain ⟨ad272, e272, hx272_0⟩ := Kd.at_bool (Kd.R_reads' HO_3.out).2.2 (rd x4_2 x6_3) p272 q272
                      (try rw [← Nbq39.out] at hx272_0)
                      cases e272
                      replace p272 := eq_true p272
                      replace q272 := eq_true q272
                      refine start_ (n := 41) (S := fun w' => w'.cell? ⟨gb250, 0, none⟩ = some (.int .i64 a0_0) ∧ w'.cell? ⟨gb250, 1, none⟩ = some (.slice A0_1 l0_1.length c0_1) ∧ w'.cell? ⟨gb250, 2, none⟩ = some (.slice A0_2 l0_2.length c0_2) ∧ w'.cell? ⟨gb250, 3, none⟩ = some (.slice A0_3 l0_3.length c0_3) ∧ w'.cell? (ad269.add (x6_3).toNat) = some (.int .i64 (rd x4_2 x6_3)) ∧ w'.cell? (ad269.add (x6_3).toNat) = some (.int .i64 (rd x4_2 x6_3)) ∧ w'.cell? (ad272.add ((rd x4_2 x6_3)).toNat) = some (.bool false)) (ds := []) #[false, false, false, false, false, false, false, false, false, false, false, false, false, false, false, false, false, false, false, false, false, false, false, false, false, false, false, false, false, false, false, false, false, false, false, false, false, false, false, false, false] (by kernel_rfl) rfl rfl ⟨bc_ BK250 0, bc_ BK250 1, bc_ BK250 2, bc_ BK250 3, hx269_0, hx271_0, hx272_0⟩ (fun hHeld => ?_); refine with_tabW spec_ClientOk.tab14 spec_ClientOk.bits14 (fun HT_ HW_ => ?_)
                      generalize wr.drew = w50 at HO_3 HO_4 BK250 HB hx269_0 hx271_0 hx272_0 hHeld ⊢
                      refine pu_ (i := 0) (N := some 73) HT_ ?_; refine pu_ (i := 1) (N := some 74) HT_ ?_; refine pu_ (i := 2) (N := some 75) HT_ ?_; refine pu_ (i := 4) (N := some 77) HT_ ?_; refine tk_ (i := 3) (N := some 76) HT_ HW_ hHeld ?_; refine tk_ (i := 5) (N := some 78) HT_ HW_ hHeld ?_; refine pu_ (i := 6) (N := some 79) HT_ ?_
                      refine on_ (i := 7) (N := some 80) HT_ (fun K hK => ?_)
                      refine goes_ Try.func46 (by kernel_rfl) rfl #[.int .i64 (rd x4_2 x6_3), .int .i64 0, .int .i64 (wrap64 (a0_0 - 1))] (by rfl) rfl rfl ar_ ?_
                      with_reducible refine (spec_l1In.calls (rd x4_2 x6_3) 0 (wrap64 (a0_0 - 1)) true _ A35.out).mono ?_
                      rintro e w' ⟨rfl, ⟨nd, rfl⟩⟩
                      refine ⟨_, rfl, ?_⟩
                      obtain ⟨Ao51, co51, eo51⟩ := Kd.R_slice HO_3.out
                      (first | subst eo51 | (injection eo51 with f1_ f2_ f3_; have f4_ := f1_.symm; have f5_ := f3_.symm; clear f1_ f2_ f3_; subst f4_; subst f5_))
                      refine hK.out _ _ ⟨bc_ BK250 0, bc_ BK250 1, bc_ BK250 2, bc_ BK250 3, hHeld.2.2.2.2.1, hHeld.2.2.2.2.2.1, hHeld.2.2.2.2.2.2⟩ (fun hHeld => ?_)
                      clear hK K; refine nm_ 80 ?_; refine pu_ (i := 8) (N := some 81) HT_ ?_; refine pu_ (i := 9) (N := some 82) HT_ ?_; refine pu_ (i := 10) (N := some 83) HT_ ?_; refine pu_ (i := 11) (N := some 84) HT_ ?_; refine pu_ (i := 12) (N := some 85) HT_ ?_; refine pu_ (i := 13) (N := some 86) HT_ ?_; refine tk_ (i := 14) (N := some 87) HT_ HW_ hHeld ?_; refine pu_ (i := 15) (N := some 88) HT_ ?_; refine tk_ (i := 16) (N := some 89) HT_ HW_ hHeld ?_; refine pu_ (i := 17) (N := some 90) HT_ ?_; refine pu_ (i := 18) (N := some 91) HT_ ?_; refine pu_ (i := 19) (N := some 92) HT_ ?_; refine pu_ (i := 20) (N := some 93) HT_ ?_; refine pu_ (i := 21) (N := some 94) HT_ ?_; refine pu_ (i := 22) (N := some 95) HT_ ?_; refine pu_ (i := 23) (N := some 96) HT_ ?_; refine tk_ (i := 24) (N := some 97) HT_ HW_ hHeld ?_; refine pu_ (i := 25) (N := some 98) HT_ ?_; refine pu_ (i := 26) (N := some 99) HT_ ?_; refine pu_ (i := 27) (N := some 100) HT_ ?_; refine pu_ (i := 28) (N := some 101) HT_ ?_; refine pn_ (i := 29) (N := some 102) HT_ ?_; refine pn_ (i := 30) (N := some 103) HT_ ?_; refine pn_ (i := 31) (N := some 104) HT_ ?_; refine pn_ (i := 32) (N := some 105) HT_ ?_; refine pn_ (i := 33) (N := some 106) HT_ ?_; refine pn_ (i := 34) (N := some 107) HT_ ?_; refine pn_ (i := 35) (N := some 108) HT_ ?_; refine pn_ (i := 36) (N := some 109) HT_ ?_; refine pn_ (i := 37) (N := some 110) HT_ ?_; refine pn_ (i := 38) (N := some 111) HT_ ?_; refine pu_ (i := 39) (N := some 112) HT_ ?_; refine pu_ (i := 40) (N := some 113) HT_ ?_
                      refine done_ (done_of HT_.out (by kernel_rfl)) ?_
                      try go_wp2
                      go_meet
                      case rel => exact ⟨_, (false), (by first | rfl | (simp; done) | (simp [*]; done)), H', ⟨by have := HJ1.out; have := HK2.out; have := HK3.out; first | omega | exact Nat.le_refl _⟩, ⟨kR_ HO_3.out⟩, ⟨kR_ HO_4.out⟩, ⟨by refine kb_ ?_; exact BK250.out⟩, ⟨hbA_ HB.out⟩⟩
                    ·rw [if_neg c43] at H
                     have c43b0 : decide (0 < x6_3) = false := decide_eq_false c43
                     clear c43
                     have H' := Aside0.mk H
                     clear H
                     try go_wp2
                     replace HO_3 := Aside0.mk (Kd.R_drew HO_3.out); replace HO_4 := Aside0.mk (Kd.R_drew HO_4.out); replace BK250 := Aside0.mk (blk_drew BK250.out); replace HB := (bd_ HB)
                     have p269 : 0 ≤ (x6_3 : Int) := of_decide_eq_true (by first | (with_reducible assumption) | assumption)
                     have q269 : x6_3 < (x4_2.length : Int) := of_decide_eq_true (by first | (with_reducible assumption) | assumption)
                     obtain ⟨ad269, e269, hx269_0⟩ := Kd.at_int (Kd.R_reads' HO_4.out).2.2 x6_3 p269 q269
                     cases e269
                     replace p269 := eq_true p269
                     replace q269 := eq_true q269
                     have p271 : 0 ≤ (x6_3 : Int) := of_decide_eq_true (by first | (with_reducible assumption) | assumption)
                     have q271 : x6_3 < (x4_2.length : Int) := of_decide_eq_true (by first | (with_reducible assumption) | assumption)
                     obtain ⟨ad271, e271, hx271_0⟩ := Kd.at_int (Kd.R_reads' HO_4.out).2.2 x6_3 p271 q271
                     obtain rfl : ad269 = ad271 := (by injection e271)
                     replace p271 := eq_true p271
                     replace q271 := eq_true q271
                     have p272 : 0 ≤ ((rd x4_2 x6_3) : Int) := of_decide_eq_true (by first | (with_reducible assumption) | assumption)
                     have q272 : (rd x4_2 x6_3) < (x3_3.length : Int) := of_decide_eq_true (by first | (with_reducible assumption) | assumption)
                     (try (obtain ⟨Aq_, cq_, eq_⟩ := Kd.R_slice HO_3.out; subst eq_))
                     obtain ⟨ad272, e272, hx272_0⟩ := Kd.at_bool (Kd.R_reads' HO_3.out).2.2 (rd x4_2 x6_3) p272 q272
                     (try rw [← Nbq39.out] at hx272_0)
                     cases e272
                     replace p272 := eq_true p272
                     replace q272 := eq_true q272
                     refine start_ (n := 41) (S := fun w' => w'.cell? ⟨gb250, 0, none⟩ = some (.int .i64 a0_0) ∧ w'.cell? ⟨gb250, 1, none⟩ = some (.slice A0_1 l0_1.length c0_1) ∧ w'.cell? ⟨gb250, 2, none⟩ = some (.slice A0_2 l0_2.length c0_2) ∧ w'.cell? ⟨gb250, 3, none⟩ = some (.slice A0_3 l0_3.length c0_3) ∧ w'.cell? (ad269.add (x6_3).toNat) = some (.int .i64 (rd x4_2 x6_3)) ∧ w'.cell? (ad269.add (x6_3).toNat) = some (.int .i64 (rd x4_2 x6_3)) ∧ w'.cell? (ad272.add ((rd x4_2 x6_3)).toNat) = some (.bool false)) (ds := []) #[false, false, false, false, false, false, false, false, false, false, false, false, false, false, false, false, false, false, false, false, false, false, false, false, false, false, false, false, false, false, false, false, false, false, false, false, false, false, false, false, false] (by kernel_rfl) rfl rfl ⟨bc_ BK250 0, bc_ BK250 1, bc_ BK250 2, bc_ BK250 3, hx269_0, hx271_0, hx272_0⟩ (fun hHeld => ?_); refine with_tabW spec_ClientOk.tab14 spec_ClientOk.bits14 (fun HT_ HW_ => ?_)
                     generalize wr.drew = w52 at HO_3 HO_4 BK250 HB hx269_0 hx271_0 hx272_0 hHeld ⊢
                     refine pu_ (i := 0) (N := some 73) HT_ ?_; refine pu_ (i := 1) (N := some 74) HT_ ?_; refine pu_ (i := 2) (N := some 75) HT_ ?_; refine pu_ (i := 4) (N := some 77) HT_ ?_; refine tk_ (i := 3) (N := some 76) HT_ HW_ hHeld ?_; refine tk_ (i := 5) (N := some 78) HT_ HW_ hHeld ?_; refine pu_ (i := 6) (N := some 79) HT_ ?_
                     refine on_ (i := 7) (N := some 80) HT_ (fun K hK => ?_)
                     refine goes_ Try.func46 (by kernel_rfl) rfl #[.int .i64 (rd x4_2 x6_3), .int .i64 0, .int .i64 (wrap64 (a0_0 - 1))] (by rfl) rfl rfl ar_ ?_
                     with_reducible refine (spec_l1In.calls (rd x4_2 x6_3) 0 (wrap64 (a0_0 - 1)) true _ A35.out).mono ?_
                     rintro e w' ⟨rfl, ⟨nd, rfl⟩⟩
                     refine ⟨_, rfl, ?_⟩
                     obtain ⟨Ao53, co53, eo53⟩ := Kd.R_slice HO_3.out
                     (first | subst eo53 | (injection eo53 with f1_ f2_ f3_; have f4_ := f1_.symm; have f5_ := f3_.symm; clear f1_ f2_ f3_; subst f4_; subst f5_))
                     refine hK.out _ _ ⟨bc_ BK250 0, bc_ BK250 1, bc_ BK250 2, bc_ BK250 3, hHeld.2.2.2.2.1, hHeld.2.2.2.2.2.1, hHeld.2.2.2.2.2.2⟩ (fun hHeld => ?_)
                     clear hK K; refine nm_ 80 ?_; refine pu_ (i := 8) (N := some 81) HT_ ?_; refine pu_ (i := 9) (N := some 82) HT_ ?_; refine pu_ (i := 10) (N := some 83) HT_ ?_; refine pu_ (i := 11) (N := some 84) HT_ ?_; refine pu_ (i := 12) (N := some 85) HT_ ?_; refine pu_ (i := 13) (N := some 86) HT_ ?_; refine tk_ (i := 14) (N := some 87) HT_ HW_ hHeld ?_; refine pu_ (i := 15) (N := some 88) HT_ ?_; refine tk_ (i := 16) (N := some 89) HT_ HW_ hHeld ?_; refine pu_ (i := 17) (N := some 90) HT_ ?_; refine pu_ (i := 18) (N := some 91) HT_ ?_; refine pu_ (i := 19) (N := some 92) HT_ ?_; refine pu_ (i := 20) (N := some 93) HT_ ?_; refine pu_ (i := 21) (N := some 94) HT_ ?_; refine pn_ (i := 22) (N := some 95) HT_ ?_; refine pn_ (i := 23) (N := some 96) HT_ ?_; refine pn_ (i := 24) (N := some 97) HT_ ?_; refine pn_ (i := 25) (N := some 98) HT_ ?_; refine pn_ (i := 26) (N := some 99) HT_ ?_; refine pu_ (i := 27) (N := some 100) HT_ ?_; refine pu_ (i := 28) (N := some 101) HT_ ?_; refine pn_ (i := 29) (N := some 102) HT_ ?_; refine pn_ (i := 30) (N := some 103) HT_ ?_; refine pn_ (i := 31) (N := some 104) HT_ ?_; refine pn_ (i := 32) (N := some 105) HT_ ?_; refine pn_ (i := 33) (N := some 106) HT_ ?_; refine pn_ (i := 34) (N := some 107) HT_ ?_; refine pn_ (i := 35) (N := some 108) HT_ ?_; refine pn_ (i := 36) (N := some 109) HT_ ?_; refine pn_ (i := 37) (N := some 110) HT_ ?_; refine pn_ (i := 38) (N := some 111) HT_ ?_; refine pu_ (i := 39) (N := some 112) HT_ ?_; refine pu_ (i := 40) (N := some 113) HT_ ?_
                     refine done_ (done_of HT_.out (by kernel_rfl)) ?_
                     try go_wp2
                     go_meet
                     case rel => exact ⟨_, (false), (by first | rfl | (simp; done) | (simp [*]; done)), H', ⟨by have := HJ1.out; have := HK2.out; have := HK3.out; first | omega | exact Nat.le_refl _⟩, ⟨kR_ HO_3.out⟩, ⟨kR_ HO_4.out⟩, ⟨by refine kb_ ?_; exact BK250.out⟩, ⟨hbA_ HB.out⟩⟩
                  ·rw [if_neg c38] at H
                   exact absurd H (by simp)
                 ·rw [if_neg c37] at H
                  exact absurd H (by simp)
                ·replace c36 := Bool.eq_false_iff.mpr c36
                 subst c36
                 rw [if_neg (show ¬ (false = true) by decide)] at H
                 have H' := Aside0.mk H
                 clear H
                 try go_wp2
                 replace HO_3 := Aside0.mk (Kd.R_drew HO_3.out); replace HO_4 := Aside0.mk (Kd.R_drew HO_4.out); replace BK250 := Aside0.mk (blk_drew BK250.out); replace HB := (bd_ HB)
                 have p269 : 0 ≤ (x6_3 : Int) := of_decide_eq_true (by first | (with_reducible assumption) | assumption)
                 have q269 : x6_3 < (x4_2.length : Int) := of_decide_eq_true (by first | (with_reducible assumption) | assumption)
                 obtain ⟨ad269, e269, hx269_0⟩ := Kd.at_int (Kd.R_reads' HO_4.out).2.2 x6_3 p269 q269
                 cases e269
                 replace p269 := eq_true p269
                 replace q269 := eq_true q269
                 refine start_ (n := 41) (S := fun w' => w'.cell? ⟨gb250, 0, none⟩ = some (.int .i64 a0_0) ∧ w'.cell? ⟨gb250, 1, none⟩ = some (.slice A0_1 l0_1.length c0_1) ∧ w'.cell? ⟨gb250, 2, none⟩ = some (.slice A0_2 l0_2.length c0_2) ∧ w'.cell? ⟨gb250, 3, none⟩ = some (.slice A0_3 l0_3.length c0_3) ∧ w'.cell? (ad269.add (x6_3).toNat) = some (.int .i64 (rd x4_2 x6_3))) (ds := []) #[false, false, false, false, false, false, false, false, false, false, false, false, false, false, false, false, false, false, false, false, false, false, false, false, false, false, false, false, false, false, false, false, false, false, false, false, false, false, false, false, false] (by kernel_rfl) rfl rfl ⟨bc_ BK250 0, bc_ BK250 1, bc_ BK250 2, bc_ BK250 3, hx269_0⟩ (fun hHeld => ?_); refine with_tabW spec_ClientOk.tab14 spec_ClientOk.bits14 (fun HT_ HW_ => ?_)
                 generalize wr.drew = w54 at HO_3 HO_4 BK250 HB hx269_0 hHeld ⊢
                 refine pu_ (i := 0) (N := some 73) HT_ ?_; refine pu_ (i := 1) (N := some 74) HT_ ?_; refine pu_ (i := 2) (N := some 75) HT_ ?_; refine pu_ (i := 4) (N := some 77) HT_ ?_; refine tk_ (i := 3) (N := some 76) HT_ HW_ hHeld ?_; refine tk_ (i := 5) (N := some 78) HT_ HW_ hHeld ?_; refine pu_ (i := 6) (N := some 79) HT_ ?_
                 refine on_ (i := 7) (N := some 80) HT_ (fun K hK => ?_)
                 refine goes_ Try.func46 (by kernel_rfl) rfl #[.int .i64 (rd x4_2 x6_3), .int .i64 0, .int .i64 (wrap64 (a0_0 - 1))] (by rfl) rfl rfl ar_ ?_
                 with_reducible refine (spec_l1In.calls (rd x4_2 x6_3) 0 (wrap64 (a0_0 - 1)) false _ A35.out).mono ?_
                 rintro e w' ⟨rfl, ⟨nd, rfl⟩⟩
                 refine ⟨_, rfl, ?_⟩
                 refine hK.out _ _ ⟨bc_ BK250 0, bc_ BK250 1, bc_ BK250 2, bc_ BK250 3, hHeld.2.2.2.2⟩ (fun hHeld => ?_)
                 clear hK K; refine nm_ 80 ?_; refine pu_ (i := 8) (N := some 81) HT_ ?_; refine pu_ (i := 9) (N := some 82) HT_ ?_; refine pn_ (i := 10) (N := some 83) HT_ ?_; refine pn_ (i := 11) (N := some 84) HT_ ?_; refine pn_ (i := 12) (N := some 85) HT_ ?_; refine pn_ (i := 13) (N := some 86) HT_ ?_; refine pn_ (i := 14) (N := some 87) HT_ ?_; refine pn_ (i := 15) (N := some 88) HT_ ?_; refine pn_ (i := 16) (N := some 89) HT_ ?_; refine pu_ (i := 17) (N := some 90) HT_ ?_; refine pu_ (i := 18) (N := some 91) HT_ ?_; refine pn_ (i := 19) (N := some 92) HT_ ?_; refine pn_ (i := 20) (N := some 93) HT_ ?_; refine pn_ (i := 21) (N := some 94) HT_ ?_; refine pn_ (i := 22) (N := some 95) HT_ ?_; refine pn_ (i := 23) (N := some 96) HT_ ?_; refine pn_ (i := 24) (N := some 97) HT_ ?_; refine pn_ (i := 25) (N := some 98) HT_ ?_; refine pn_ (i := 26) (N := some 99) HT_ ?_; refine pn_ (i := 27) (N := some 100) HT_ ?_; refine pn_ (i := 28) (N := some 101) HT_ ?_; refine pn_ (i := 29) (N := some 102) HT_ ?_; refine pn_ (i := 30) (N := some 103) HT_ ?_; refine pn_ (i := 31) (N := some 104) HT_ ?_; refine pn_ (i := 32) (N := some 105) HT_ ?_; refine pn_ (i := 33) (N := some 106) HT_ ?_; refine pn_ (i := 34) (N := some 107) HT_ ?_; refine pn_ (i := 35) (N := some 108) HT_ ?_; refine pn_ (i := 36) (N := some 109) HT_ ?_; refine pn_ (i := 37) (N := some 110) HT_ ?_; refine pn_ (i := 38) (N := some 111) HT_ ?_; refine pn_ (i := 39) (N := some 112) HT_ ?_; refine pu_ (i := 40) (N := some 113) HT_ ?_
                 refine done_ (done_of HT_.out (by kernel_rfl)) ?_
                 try go_wp2
                 go_meet
                 case rel => exact ⟨_, (true), (by first | rfl | (simp; done) | (simp [*]; done)), H', ⟨by have := HJ1.out; have := HK2.out; have := HK3.out; first | omega | exact Nat.le_refl _⟩, ⟨kR_ HO_3.out⟩, ⟨kR_ HO_4.out⟩, ⟨by refine kb_ ?_; exact BK250.out⟩, ⟨hbA_ HB.out⟩⟩
               ·rw [if_neg c34] at H
                exact absurd H (by simp)
              case rest =>
               clear HC32; (try clear p2); (try clear q2); (try clear hx2); (try clear c3); (try clear q3); (try clear c4); (try clear p6); (try clear p26); (try clear q26); (try clear hx26); (try clear p27); (try clear q27); (try clear hx27); (try clear c34); (try clear c36); (try clear c37); (try clear c38); (try clear q39); (try clear c43); (try clear c43b0); (try clear c46); (try clear hx269_0); (try clear hx271_0); (try clear hx272_0); (try clear p269); (try clear p271); (try clear p272); (try clear q269); (try clear q271); (try clear q272)
               obtain ⟨kq, x113_31, rfl, HA, HJ31, HO_3, HO_4, BK250, HB⟩ := hcut
               cases kq with
               | zero => exact absurd HA.out (by simp [spec_ClientOk.j3])
               | succ kj31 =>
                have H := HA.out; clear HA
                simp only [spec_ClientOk.j3] at H
                by_cases c55 : x113_31 = true
                ·subst c55
                 rw [if_pos rfl] at H
                 obtain rfl := Option.some.inj H
                 go_wp2
                 go_ret
                 exact ⟨by first | rfl | (simp [errW_none, errW_some] <;> rfl) | (simp [*, errW_none, errW_some] <;> rfl), hbA_ HB.out⟩
                ·replace c55 := Bool.eq_false_iff.mpr c55
                 subst c55
                 rw [if_neg (show ¬ (false = true) by decide)] at H
                 by_cases c56 : 0 ≤ x6_3
                 ·rw [if_pos c56] at H
                  have c56b0 : decide (0 ≤ x6_3) = true := decide_eq_true c56
                  clear c56
                  by_cases c57 : x6_3 < (x4_2.length : Int)
                  ·rw [if_pos c57] at H
                   have c57b0 : decide (x6_3 < (x4_2.length : Int)) = true := decide_eq_true c57
                   clear c57
                   by_cases c58 : 0 ≤ (rd x4_2 x6_3)
                   ·rw [if_pos c58] at H
                    have c58b0 : decide (0 ≤ (rd x4_2 x6_3)) = true := decide_eq_true c58
                    clear c58
                    by_cases c59 : (rd x4_2 x6_3) < (x3_3.length : Int)
                    ·rw [if_pos c59] at H
                     have c59b0 : decide ((rd x4_2 x6_3) < (x3_3.length : Int)) = true := decide_eq_true c59
                     clear c59
                     obtain ⟨y276, hy276⟩ : ∃ y_ : List Bool, y_ = (x3_3.set ((rd x4_2 x6_3) : Int).toNat true) := ⟨_, rfl⟩
                     (first | replace H := sb_ hy276 H | rw [← hy276] at H)
                     have Ny276 := Aside0.mk hy276; clear hy276
                     have H' := Aside0.mk H
                     clear H
                     have p275 : 0 ≤ (x6_3 : Int) := of_decide_eq_true (by first | (with_reducible assumption) | assumption)
                     have q275 : x6_3 < (x4_2.length : Int) := of_decide_eq_true (by first | (with_reducible assumption) | assumption)
                     obtain ⟨ad275, e275, hx275_0⟩ := Kd.at_int (Kd.R_reads' HO_4.out).2.2 x6_3 p275 q275
                     cases e275
                     replace p275 := eq_true p275
                     replace q275 := eq_true q275
                     have p60 : 0 ≤ ((rd x4_2 x6_3) : Int) := of_decide_eq_true (by first | (with_reducible assumption) | assumption)
                     have q60 : ((rd x4_2 x6_3) : Int) < ((x3_3.length : Int) : Int) := of_decide_eq_true (by first | (with_reducible assumption) | assumption)
                     obtain ⟨go60, co60, eo60, gb60, gl60, cl60, HG60⟩ := Kd.R_form HO_3.out (by omega)
                     (first | cases eo60 | (injection eo60 with ea_ en_ ec_; (first | subst ea_ | (injection ea_ with ea_; subst ea_)); subst ec_; clear en_))
                     have GB60 := Aside0.mk gb60; have GG60 := Aside0.mk HG60; clear gb60 gl60 HG60
                     obtain ⟨hx60_0, hf60_0⟩ := Kd.R_celln false HO_3.out ((rd x4_2 x6_3) : Int) p60 q60
                     replace p60 := eq_true p60
                     replace q60 := eq_true q60
                     have HP61 := Kd.R_putg HO_3.out ((rd x4_2 x6_3) : Int) true
                     go_wp2_with (first | ((with_reducible refine gate_store (t := 4) (p := 119) rfl ?_); refine store_event (t := 4) (p := 119) (v := ?vo_w62) (w1 := (wc.setCell ⟨go60, ((rd x4_2 x6_3) : Int).toNat, none⟩ (.bool true))) ?hg ?ho ?hn ?hr ?_; (case ho => rfl); (case hg => rfl); (case hn => rfl); (case hr => first | (go_simp; done) | (go_simp; rfl)); intro w62 hw; have hg : wc.grownBy w62 (some go60) := (by rw [hw]; exact HP61.2); have hp_ : Kd.R Kd.bool 4 w62 w.heap.size (fun _ => True) (.slice (some ⟨go60, 0, none⟩) x3_3.length co60) y276 := (by rw [hw, Ny276.out]; exact HP61.1); clear HP61; replace HO_4 := Aside0.mk (Kd.R_over' (v := (.slice (some ⟨go60, 0, none⟩) x3_3.length co60)) (kR_ HO_4.out) (Kd.R_typed HO_3.out) (by decide) hg); replace BK250 := (bgA_ BK250 hg (Kd.R_ne HO_3.out BK250.out (by decide))); replace HO_3 := Aside0.mk (hp_); replace HB := Aside0.mk ((by rw [hw]; exact below_set (HB.out) GB60.out : Below w.heap.size w w62)); clear hg hw hp_))
                     go_roundg kj31
                     case measure => have := HJ1.out; have := HK2.out; have := HK3.out; have := HJ31.out; omega
                     case rel => exact ⟨(y276), (wrap64 (x6_3 + 1)), (by first | rfl | (simp; done) | (simp [*]; done)), H', ⟨by have := HJ1.out; have := HK2.out; have := HK3.out; have := HJ31.out; omega⟩, ⟨kR_ HO_3.out⟩, ⟨kR_ HO_4.out⟩, ⟨by refine kb_ ?_; exact BK250.out⟩, ⟨hbA_ HB.out⟩⟩
                    ·rw [if_neg c59] at H
                     exact absurd H (by simp)
                   ·rw [if_neg c58] at H
                    exact absurd H (by simp)
                  ·rw [if_neg c57] at H
                   exact absurd H (by simp)
                 ·rw [if_neg c56] at H
                  exact absurd H (by simp)
             ·rw [if_neg c31] at H
              have c31b0 : decide (x6_3 < (x4_2.length : Int)) = false := decide_eq_false c31
              clear c31
              obtain rfl := Option.some.inj H
              obtain ⟨Ao63, co63, eo63⟩ := Kd.R_slice HO_4.out
              subst eo63
              go_wp2
              go_ret
              exact ⟨by first | rfl | (simp [errW_none, errW_some] <;> rfl) | (simp [*, errW_none, errW_some] <;> rfl), hbA_ HB.out⟩
       ·rw [if_neg c14] at H
        exact absurd H (by simp)
      ·rw [if_neg c13] at H
       exact absurd H (by simp)
     ·rw [if_neg c12] at H
      exact absurd H (by simp)
    ·rw [if_neg c11] at H
     exact absurd H (by simp)
end Go.Proofs.Ytegchbdjbefdbaa.PFnExactClientAsk
