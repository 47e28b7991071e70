/- Printed by wip/xp/xprint.sh out of the translation, for this claim: what each function answers, as a plain function, and that the machine does just that. No condition. -/
import Derived.Test.YtbhofhdmbbipgaaPFnExactEarHearx0
import Derived.Test.YtbhofhdmbbipgaaPFnExactEarHearx1
namespace Go.Proofs.Ytbhofhdmbbipgaa.PFnExactEarHear
open Go.RowKit Go.Proofs.YtbhofhdmbbipgaaW.PrintWords Go.Proofs.YtbhofhdmbbipgaaW.PrintLast Go.Proofs.YtbhofhdmbbipgaaW.PrintMore
attribute [local go_sem] max2_int min2_int max_two min_two max_three min_three max_four min_four   -- for this text's walks alone
set_option linter.unusedVariables false
set_option linter.unusedSimpArgs false
mutual
def spec_EarHear.j0 : Nat → Int → List Int → Bool → Int → Int → List Int → List (S96) → Option (Int × Int × List Int × (List (S96)))
 | 0, _, _, _, _, _, _, _ => none
 | k + 1, x1, x2, x19, x134000, x134001, x134002, x134003 => if x19 = true then (some (0, 0, ([] : List Int), ([] : List (S96)))) else ((spec_EarFree.f k x134000 x134001 x134002 x134003).bind fun t137 => ((some (([] : List (S96)) : List (S96))).bind fun y138 => (if y138.length + x134003.length < 8796093022208 then (spec_EarHear.l0 k x1 x2 t137 (y138 ++ x134003) 0 x134000 x134001 x134002 x134003) else (none))))
def spec_EarHear.l0 : Nat → Int → List Int → Int → List (S96) → Int → Int → Int → List Int → List (S96) → Option (Int × Int × List Int × (List (S96)))
 | 0, _, _, _, _, _, _, _, _, _ => none
 | k + 1, x1, x2, x7, x8, x9, x134000, x134001, x134002, x134003 => if x9 < (x2.length : Int) then (if (wrap64 (x1 + x9)) ≥ x134000 then (if (wrap64 (x1 + x9)) < (wrap64 (x134000 + x7)) then (if 0 ≤ x9 then ((spec_l12Put.f k x8 (wrap64 (x1 + x9)) (rd x2 x9)).bind fun t145 => (spec_EarHear.l0 k x1 x2 x7 t145 (wrap64 (x9 + 1)) x134000 x134001 x134002 x134003)) else (none)) else (spec_EarHear.l0 k x1 x2 x7 x8 (wrap64 (x9 + 1)) x134000 x134001 x134002 x134003)) else (spec_EarHear.l0 k x1 x2 x7 x8 (wrap64 (x9 + 1)) x134000 x134001 x134002 x134003)) else ((some (([] : List Int) : List Int)).bind fun y148 => (if y148.length + x134002.length < 140737488355328 then (spec_EarHear.l1 k x8 0 x134000 x134001 (y148 ++ x134002)) else (none)))
def spec_EarHear.j3 : Nat → List (S96) → Int → Int → Int → List Int → Option (Int × Int × List Int × (List (S96)))
 | 0, _, _, _, _, _ => none
 | k + 1, x8, x11, x155000, x155001, x155002 => if 0 ≤ x11 then (if x11 ≤ (x8.length : Int) then (if x155000 > 1000000 then (some (0, 0, ([] : List Int), ([] : List (S96)))) else (some (x155000, x155001, x155002, (x8.drop (x11 : Int).toNat)))) else (none)) else (none)
def spec_EarHear.l1 : Nat → List (S96) → Int → Int → Int → List Int → Option (Int × Int × List Int × (List (S96)))
 | 0, _, _, _, _, _ => none
 | k + 1, x8, x11, x155000, x155001, x155002 => if x11 < (x8.length : Int) then (if 0 ≤ x11 then (if ((rd_T96 x8 x11).f0) = x155000 then (if x155002.length < 140737488355328 then (spec_EarHear.l1 k x8 (wrap64 (x11 + 1)) (wrap64 (x155000 + 1)) x155001 (x155002 ++ [(rd_T96 x8 x11).f1])) else (none)) else (spec_EarHear.j3 k x8 x11 x155000 x155001 x155002)) else (none)) else (spec_EarHear.j3 k x8 x11 x155000 x155001 x155002)
end
def spec_EarHear.f (k : Nat) (a0_0 : Int) (a0_1 : Int) (l0_2 : List Int) (l0_3 : List (S96)) (a1 : Int) (l2 : List Int) : Option (Int × Int × List Int × (List (S96))) := (spec_EarOk.f k a0_0 a0_1 l0_2 l0_3).bind fun t135 => (if t135 = true then ((spec_l1In.f a1 0 1000000).bind fun t136 => (spec_EarHear.j0 k a1 l2 (!t136) a0_0 a0_1 l0_2 l0_3)) else (spec_EarHear.j0 k a1 l2 true a0_0 a0_1 l0_2 l0_3))
theorem spec_EarHear.mono_l : ∀ k, (∀ y0 y1 y2 y3 y4 y5 y6, LeO (spec_EarHear.j0 k y0 y1 y2 y3 y4 y5 y6) (spec_EarHear.j0 (k + 1) y0 y1 y2 y3 y4 y5 y6)) ∧ (∀ y0 y1 y2 y3 y4 y5 y6 y7 y8, LeO (spec_EarHear.l0 k y0 y1 y2 y3 y4 y5 y6 y7 y8) (spec_EarHear.l0 (k + 1) y0 y1 y2 y3 y4 y5 y6 y7 y8)) ∧ (∀ y0 y1 y2 y3 y4, LeO (spec_EarHear.j3 k y0 y1 y2 y3 y4) (spec_EarHear.j3 (k + 1) y0 y1 y2 y3 y4)) ∧ (∀ y0 y1 y2 y3 y4, LeO (spec_EarHear.l1 k y0 y1 y2 y3 y4) (spec_EarHear.l1 (k + 1) y0 y1 y2 y3 y4))
 | 0 => ⟨fun _ _ _ _ _ _ _ r h => by simp [spec_EarHear.j0] at h, fun _ _ _ _ _ _ _ _ _ r h => by simp [spec_EarHear.l0] at h, fun _ _ _ _ _ r h => by simp [spec_EarHear.j3] at h, fun _ _ _ _ _ r h => by simp [spec_EarHear.l1] at h⟩
 | k + 1 => by
  obtain ⟨ih0, ih1, ih2, ih3⟩ := spec_EarHear.mono_l k
  refine ⟨?_, ?_, ?_, ?_⟩
  ·intro y0 y1 y2 y3 y4 y5 y6
   unfold spec_EarHear.j0
   repeat' first | (with_reducible first | apply ih0 | apply ih1 | apply ih2 | apply ih3 | apply spec_EarFree.mono | apply spec_EarOk.mono | apply spec_l12Put.mono | exact LeO.refl _ | exact LeO.none _ | refine LeO.ite ?_ ?_ | refine LeO.bind ?_ fun _ => ?_) | apply ih0 | apply ih1 | apply ih2 | apply ih3 | apply spec_EarFree.mono | apply spec_EarOk.mono | apply spec_l12Put.mono | exact LeO.none _ | refine LeO.ite ?_ ?_ | refine LeO.bind ?_ fun _ => ?_
  ·intro y0 y1 y2 y3 y4 y5 y6 y7 y8
   unfold spec_EarHear.l0
   repeat' first | (with_reducible first | apply ih0 | apply ih1 | apply ih2 | apply ih3 | apply spec_EarFree.mono | apply spec_EarOk.mono | apply spec_l12Put.mono | exact LeO.refl _ | exact LeO.none _ | refine LeO.ite ?_ ?_ | refine LeO.bind ?_ fun _ => ?_) | apply ih0 | apply ih1 | apply ih2 | apply ih3 | apply spec_EarFree.mono | apply spec_EarOk.mono | apply spec_l12Put.mono | exact LeO.none _ | refine LeO.ite ?_ ?_ | refine LeO.bind ?_ fun _ => ?_
  ·intro y0 y1 y2 y3 y4
   unfold spec_EarHear.j3
   repeat' first | (with_reducible first | apply ih0 | apply ih1 | apply ih2 | apply ih3 | apply spec_EarFree.mono | apply spec_EarOk.mono | apply spec_l12Put.mono | exact LeO.refl _ | exact LeO.none _ | refine LeO.ite ?_ ?_ | refine LeO.bind ?_ fun _ => ?_) | apply ih0 | apply ih1 | apply ih2 | apply ih3 | apply spec_EarFree.mono | apply spec_EarOk.mono | apply spec_l12Put.mono | exact LeO.none _ | refine LeO.ite ?_ ?_ | refine LeO.bind ?_ fun _ => ?_
  ·intro y0 y1 y2 y3 y4
   unfold spec_EarHear.l1
   repeat' first | (with_reducible first | apply ih0 | apply ih1 | apply ih2 | apply ih3 | apply spec_EarFree.mono | apply spec_EarOk.mono | apply spec_l12Put.mono | exact LeO.refl _ | exact LeO.none _ | refine LeO.ite ?_ ?_ | refine LeO.bind ?_ fun _ => ?_) | apply ih0 | apply ih1 | apply ih2 | apply ih3 | apply spec_EarFree.mono | apply spec_EarOk.mono | apply spec_l12Put.mono | exact LeO.none _ | refine LeO.ite ?_ ?_ | refine LeO.bind ?_ fun _ => ?_
theorem spec_EarHear.mono : ∀ a0 a1 a2 a3 a4 a5 k, LeO (spec_EarHear.f k a0 a1 a2 a3 a4 a5) (spec_EarHear.f (k + 1) a0 a1 a2 a3 a4 a5) := by
 intro a0 a1 a2 a3 a4 a5 k
 obtain ⟨ih0, ih1, ih2, ih3⟩ := spec_EarHear.mono_l k
 unfold spec_EarHear.f
 repeat' first | (with_reducible first | apply ih0 | apply ih1 | apply ih2 | apply ih3 | apply spec_EarFree.mono | apply spec_EarOk.mono | apply spec_l12Put.mono | exact LeO.refl _ | exact LeO.none _ | refine LeO.ite ?_ ?_ | refine LeO.bind ?_ fun _ => ?_) | apply ih0 | apply ih1 | apply ih2 | apply ih3 | apply spec_EarFree.mono | apply spec_EarOk.mono | apply spec_l12Put.mono | exact LeO.none _ | refine LeO.ite ?_ ?_ | refine LeO.bind ?_ fun _ => ?_
def spec_EarHear.T10 : Bool × List (List Nat × List Nat) := (true, [([], []), ([0], [0]), ([], []), ([2], [2]), ([], []), ([], []), ([5], [5]), ([4, 6], [4, 6]), ([1, 3, 7], [1, 3, 7]), ([], []), ([9, 8, 7, 0, 1, 2, 3, 4, 5, 6, 7, 8, 9], [8, 9])])
def spec_EarHear.B10 : List Nat := [0, 1, 0, 4, 0, 0, 32, 112, 255, 0, 1023]
theorem spec_EarHear.tab10 : rtab .any (opsOf Try.f24 10) = spec_EarHear.T10 := by kernel_rfl
theorem spec_EarHear.bits10 : waitsOk spec_EarHear.T10.2 spec_EarHear.B10 = true := by kernel_rfl
def spec_EarHear.T12 : Bool × List (List Nat × List Nat) := (true, [([], []), ([], []), ([1], [1]), ([0, 2], [0, 2]), ([3], [3]), ([4], [4]), ([4], [4]), ([5, 6, 4], [4, 5, 6]), ([7, 4], [4, 7]), ([8, 4], [4, 8]), ([4], [4]), ([10, 4], [4, 10]), ([9, 11, 4], [4, 9, 11]), ([4, 12], [4, 12])])
def spec_EarHear.B12 : List Nat := [0, 0, 2, 7, 15, 31, 31, 127, 255, 511, 31, 1055, 4095, 8191]
theorem spec_EarHear.tab12 : rtab .any (opsOf Try.f24 12) = spec_EarHear.T12 := by kernel_rfl
theorem spec_EarHear.bits12 : waitsOk spec_EarHear.T12.2 spec_EarHear.B12 = true := by kernel_rfl
def spec_EarHear.T13 : Bool × List (List Nat × List Nat) := (true, [([], []), ([0], [0]), ([], []), ([], []), ([2, 3], [2, 3]), ([4], [4]), ([5], [5]), ([6], [6]), ([1, 7], [1, 7]), ([0, 1, 2, 3, 4, 5, 6, 7, 8], []), ([9, 8, 8, 0, 1, 2, 3, 4, 5, 6, 7, 8], [8, 9])])
def spec_EarHear.B13 : List Nat := [0, 1, 0, 0, 12, 28, 60, 124, 255, 511, 1023]
theorem spec_EarHear.tab13 : rtab .any (opsOf Try.f24 13) = spec_EarHear.T13 := by kernel_rfl
theorem spec_EarHear.bits13 : waitsOk spec_EarHear.T13.2 spec_EarHear.B13 = true := by kernel_rfl
set_option maxHeartbeats 8000000 in
set_option maxRecDepth 100000 in
theorem spec_EarHear.calls (k : Nat) (a0_0 : Int) (a0_1 : Int) (A0_2 : Option Addr) (c0_2 : Nat) (l0_2 : List Int) (A0_3 : Option Addr) (c0_3 : Nat) (l0_3 : List (S96)) (a1 : Int) (A2 : Option Addr) (c2 : Nat) (l2 : List Int) (r1 : Int) (r2 : Int) (r3 : List Int) (r4 : List (S96)) (w : World) (hr0_2 : Kd.C (Kd.int .u8) w A0_2 l0_2.length l0_2) (hc0_2 : l0_2.length ≤ c0_2) (hr0_3 : Kd.C k96 w A0_3 l0_3.length l0_3) (hc0_3 : l0_3.length ≤ c0_3) (hr2 : Kd.C (Kd.int .u8) w A2 l2.length l2) (hc2 : l2.length ≤ c2) (h : spec_EarHear.f k a0_0 a0_1 l0_2 l0_3 a1 l2 = some (r1, r2, r3, r4)) :
  Calls Try.prog 24 #[.agg #[.int .i64 a0_0, .int .i64 a0_1, .slice A0_2 l0_2.length c0_2, .slice A0_3 l0_3.length c0_3], .int .i64 a1, .slice A2 l2.length c2] w fun e w' => ∃ v2_ v3_ : Value, e = .returned (.agg #[.int .i64 r1, .int .i64 r2, v2_, v3_]) ∧ Kd.R (Kd.int .u8) 5 w' w.heap.size (fun _ => True) v2_ r3 ∧ Kd.Q k96 96 w' w.heap.size (fun _ => True) v3_ r4 ∧ Below w.heap.size w w' := by
 have hu48 := Try.underlying48; have hu96 := Try.underlying96; have HR0_2 := Aside0.mk hr0_2; have HC0_2 := Aside0.mk hc0_2; clear hr0_2 hc0_2; have HR0_3 := Aside0.mk hr0_3; have HC0_3 := Aside0.mk hc0_3; clear hr0_3 hc0_3; have HR2 := Aside0.mk hr2; have HC2 := Aside0.mk hc2; clear hr2 hc2
 have HB := Aside0.mk (Below.refl w.heap.size w)
 have H : ((spec_EarOk.f k a0_0 a0_1 l0_2 l0_3).bind fun t135 => (if t135 = true then ((spec_l1In.f a1 0 1000000).bind fun t136 => (spec_EarHear.j0 k a1 l2 (!t136) a0_0 a0_1 l0_2 l0_3)) else (spec_EarHear.j0 k a1 l2 true a0_0 a0_1 l0_2 l0_3))) = some (r1, r2, r3, r4) := h
 clear h; have HC4 := Aside0.mk H; clear H
 go_enter Try.func24, Try.ntmps24
 go_upto_region 1 with (first | ((with_reducible refine gate_dst (N := 3) rfl ?_); refine box_ (N := 3) (cs := #[.int .i64 a0_0, .int .i64 a0_1, .slice A0_2 l0_2.length c0_2, .slice A0_3 l0_3.length c0_3]) (t := 48) (fun gb133 hg w5 hbox hb => ?_); have BK133 := Aside0.mk (hbox); have GW133 := ge_ hg HB; have GE133 := ge_ hg HB; replace HB := (bs_ HB hb); clear hb hbox hg) | ((with_reducible refine gate_dst (N := 6) rfl ?_); refine box_ (N := 6) (cs := #[.int .i64 0, .int .i64 0, .slice none 0 0, .slice none 0 0]) (t := 48) (fun gb134 hg w6 hbox hb => ?_); have BK134 := Aside0.mk (hbox); have GW134 := ge_ hg HB; have GE134 := ge_ hg HB; replace HB := (bs_ HB hb); have NB133_134 := nl_ hg BK133; have NB134_133 := ng_ hg BK133; replace BK133 := (bbA_ BK133 hb); clear hb hbox hg))
 (try simp only [Act.put, List.setIfInBounds_toArray, List.set_cons_zero, List.set_cons_succ])
 go_cut [19] (fun v19 wc => ∃ (kq : Nat) (x19_3 : Bool), v19 = .bool x19_3 ∧ Aside0 (spec_EarHear.j0 kq a1 l2 x19_3 a0_0 a0_1 l0_2 l0_3 = some (r1, r2, r3, r4)) ∧ Aside0 (kq ≤ k) ∧ Aside0 (wc.heap[gb133]? = some (.cells #[.int .i64 a0_0, .int .i64 a0_1, (.slice A0_2 l0_2.length c0_2), (.slice A0_3 l0_3.length c0_3)] 48 (0, 0))) ∧ Aside0 (wc.heap[gb134]? = some (.cells #[.int .i64 0, .int .i64 0, (.slice none 0 0), (.slice none 0 0)] 48 (0, 0))) ∧ Aside0 (Below w.heap.size w wc))
 case first =>
  have H := HC4.out; clear HC4
  replace H := Option.bind_eq_some_iff.mp H
  obtain ⟨t135, A70, H⟩ := H
  (try dsimp only at H)
  have A7 := Aside0.mk A70; clear A70
  by_cases c8 : t135 = true
  ·subst c8
   rw [if_pos rfl] at H
   replace H := Option.bind_eq_some_iff.mp H
   obtain ⟨t136, A90, H⟩ := H
   (try dsimp only at H)
   have A9 := Aside0.mk A90; clear A90
   have H' := Aside0.mk H
   clear H; have hnb10 := NB133_134.out; have hnc10 := NB134_133.out; have Z11 := zz4 BK133
   go_wp2_with (first | ((with_reducible refine gate_callee (f := 66) rfl ?_); refine goesL_ (some 13) rfl rfl Try.func66 (by kernel_rfl) rfl #[.agg #[.int .i64 a0_0, .int .i64 a0_1, .slice A0_2 l0_2.length c0_2, .slice A0_3 l0_3.length c0_3]] rfl ar_ ?_; (with_reducible refine (spec_EarOk.calls k a0_0 a0_1 _ _ l0_2 _ _ l0_3 true _ ?side1 ?side2 ?side3 ?side4 A7.out).mono ?_); (case side1 => exact kC_ (Kd.C_below HR0_2.out HB.out)); (case side2 => exact HC0_2.out); (case side3 => exact kC_ (Kd.C_below HR0_3.out HB.out)); (case side4 => exact HC0_3.out); rintro e w12 ⟨rfl, hb⟩; refine ⟨_, rfl, ?_⟩; replace BK133 := (bbA_ BK133 hb); replace BK134 := (bbA_ BK134 hb); replace HB := (bs_ HB hb); (try clear hb); (try clear hb2); (try clear hk); (try clear hi)) | (go_at_call 59; (with_reducible refine (spec_l1In.calls a1 0 1000000 t136 _ A9.out).mono ?_); rintro e w' ⟨rfl, ⟨nd, rfl⟩⟩))
   go_meet
   case rel => exact ⟨_, (!t136), (by first | rfl | (simp; done) | (simp [*]; done)), H', ⟨by first | omega | exact Nat.le_refl _⟩, ⟨by refine kb_ ?_; exact BK133.out⟩, ⟨by refine kb_ ?_; exact BK134.out⟩, ⟨hbA_ HB.out⟩⟩
  ·replace c8 := Bool.eq_false_iff.mpr c8
   subst c8
   rw [if_neg (show ¬ (false = true) by decide)] at H
   have H' := Aside0.mk H
   clear H; have hnb13 := NB133_134.out; have hnc13 := NB134_133.out; have Z14 := zz4 BK133
   go_wp2_with (first | ((with_reducible refine gate_callee (f := 66) rfl ?_); refine goesL_ (some 13) rfl rfl Try.func66 (by kernel_rfl) rfl #[.agg #[.int .i64 a0_0, .int .i64 a0_1, .slice A0_2 l0_2.length c0_2, .slice A0_3 l0_3.length c0_3]] rfl ar_ ?_; (with_reducible refine (spec_EarOk.calls k a0_0 a0_1 _ _ l0_2 _ _ l0_3 false _ ?side1 ?side2 ?side3 ?side4 A7.out).mono ?_); (case side1 => exact kC_ (Kd.C_below HR0_2.out HB.out)); (case side2 => exact HC0_2.out); (case side3 => exact kC_ (Kd.C_below HR0_3.out HB.out)); (case side4 => exact HC0_3.out); rintro e w15 ⟨rfl, hb⟩; refine ⟨_, rfl, ?_⟩; replace BK133 := (bbA_ BK133 hb); replace BK134 := (bbA_ BK134 hb); replace HB := (bs_ HB hb); (try clear hb); (try clear hb2); (try clear hk); (try clear hi)))
   go_meet
   case rel => exact ⟨_, (true), (by first | rfl | (simp; done) | (simp [*]; done)), H', ⟨by first | omega | exact Nat.le_refl _⟩, ⟨by refine kb_ ?_; exact BK133.out⟩, ⟨by refine kb_ ?_; exact BK134.out⟩, ⟨hbA_ HB.out⟩⟩
 case rest =>
  clear HC4; (try clear c1); (try clear c2); (try clear p2); (try clear c6); (try clear c8); (try clear c10); (try clear c13); (try clear Z11); (try clear Z14)
  obtain ⟨kq, x19_3, rfl, HA, HJ3, BK133, BK134, HB⟩ := hcut
  cases kq with
  | zero => exact absurd HA.out (by simp [spec_EarHear.j0])
  | succ kj3 =>
   have H := HA.out; clear HA
   simp only [spec_EarHear.j0] at H
   by_cases c16 : x19_3 = true
   ·subst c16
    rw [if_pos rfl] at H
    simp only [Option.some.injEq, Prod.mk.injEq] at H
    obtain ⟨rfl, rfl, rfl, rfl⟩ := H
    have hnb17 := NB134_133.out; have hnc17 := NB133_134.out; have Z18 := zz4 BK134
    go_wp2
    refine bodyPost_ret (results_cell_row rfl _ _ gb134 48 #[.int .i64 0, .int .i64 0, .slice none 0 0, .slice none 0 0] (0, 0) _ rfl (by refine kb_ ?_; refine pz4 (cs := #[.int .i64 0, .int .i64 0, .slice none 0 0, .slice none 0 0]) ?_; refine kb_ ?_; exact BK134.out) Try.underlying48 rfl (by kernel_rfl)) rfl ?_
    exact ⟨_, _, by first | rfl | (simp [errW_none, errW_some] <;> rfl) | (simp [*, errW_none, errW_some] <;> rfl), by first | exact Kd.R_nil _ _ _ _ _ | exact Kd.N_nil _ _ _ _ _ | exact Kd.V_nil _ _ _ _ _ | exact Kd.Q_nil _ _ _ _ _ | exact Kd.S_nil _ _ _ _ _, Kd.Q_of_R (by first | exact Kd.R_nil _ _ _ _ _ | exact Kd.N_nil _ _ _ _ _ | exact Kd.V_nil _ _ _ _ _ | exact Kd.Q_nil _ _ _ _ _ | exact Kd.S_nil _ _ _ _ _), hbA_ HB.out⟩
   ·replace c16 := Bool.eq_false_iff.mpr c16
    subst c16
    rw [if_neg (show ¬ (false = true) by decide)] at H
    replace H := Option.bind_eq_some_iff.mp H
    obtain ⟨t137, A190, H⟩ := H
    (try dsimp only at H)
    have A19 := Aside0.mk A190; clear A190
    obtain ⟨y138, hy138⟩ : ∃ y_ : List (S96), y_ = (([] : List (S96))) := ⟨_, rfl⟩
    (first | replace H := sb_ hy138 H | rw [← hy138] at H)
    have Ny138 := Aside0.mk hy138; clear hy138
    by_cases c20 : y138.length + l0_3.length < 8796093022208
    ·rw [if_pos c20] at H
     have LMc20 := Aside0.mk c20; clear c20
     obtain ⟨y141, hy141⟩ : ∃ y_ : List (S96), y_ = (y138 ++ l0_3) := ⟨_, rfl⟩
     (first | replace H := sb_ hy141 H | rw [← hy141] at H)
     have Ny141 := Aside0.mk hy141; clear hy141
     have H' := Aside0.mk H
     clear H; have hnb21 := NB133_134.out; have hnc21 := NB134_133.out; have Z22 := zz4 BK133
     go_wp2_with (first | ((with_reducible refine gate_callee (f := 67) rfl ?_); refine goesL_ (some 22) rfl rfl Try.func67 (by kernel_rfl) rfl #[.agg #[.int .i64 a0_0, .int .i64 a0_1, .slice A0_2 l0_2.length c0_2, .slice A0_3 l0_3.length c0_3]] rfl ar_ ?_; (with_reducible refine (spec_EarFree.calls kj3 a0_0 a0_1 _ _ l0_2 _ _ l0_3 t137 _ ?side1 ?side2 ?side3 ?side4 A19.out).mono ?_); (case side1 => exact kC_ (Kd.C_below HR0_2.out HB.out)); (case side2 => exact HC0_2.out); (case side3 => exact kC_ (Kd.C_below HR0_3.out HB.out)); (case side4 => exact HC0_3.out); rintro e w23 ⟨rfl, hb⟩; refine ⟨_, rfl, ?_⟩; replace BK133 := (bbA_ BK133 hb); replace BK134 := (bbA_ BK134 hb); replace HB := (bs_ HB hb); (try clear hb); (try clear hb2); (try clear hk); (try clear hi)) | ((with_reducible refine gate_dst (N := 23) rfl ?_); refine Kd.R_lit k96 _ 96 ?hg (N := 23) ?hd (xs := ([] : List (S96))) (inner := []) (ok := fun _ => True) (okp := fun _ => True) ?hr ?hp (fun _ hk => hk) trivial (Below.refl _ _) (Nat.le_refl _) (by simp) ?_; (case hd => rfl); (case hg => rfl); (case hr => first | (go_simp; done) | (go_simp; rfl)); (case hp => exact (Reps.none _ _)); intro v139 w24 ho25 hb hg_ hnew_; clear hg_ hnew_; (first | rw [← Ny138.out] at ho25 | (simp only [Int.reduceToNat] at ho25; rw [← Ny138.out] at ho25)); have HO140 := Aside0.mk (Kd.R_lower ho25 (below_size (hbA_ HB.out))); replace BK133 := (bbA_ BK133 hb); replace BK134 := (bbA_ BK134 hb); replace HB := (bs_ HB hb); clear hb ho25; have Z26 := zz4 BK133) | ((with_reducible refine gate_builtin (b := .append) (xs := #[.tmp 23, .tmp 25]) rfl ?_); at_builtin; refine Kd.R_append_rows k96 (w0 := w) w.heap.size rfl (.tmp 23) (.tmp 25) 46 96 (.agg #[(.int .i64 0), (.int .u8 0)]) 16 rfl Try.underlying46 info96 rfl (by decide) (by omega) v139 y138 l0_3 _ _ _ (fun _ => True) (fun _ => False) rfl rfl ?aO ?aR (fun _ _ h => h) (fun _ h => h.elim) ?aF ?aB ?aS ?aL ?_; (case aR => exact kC_ (Kd.C_below HR0_3.out HB.out)); (case aB => exact (hbA_ HB.out)); (case aF => exact (fun _ _ => trivial)); (case aO => exact (kR_ HO140.out)); (case aS => exact (below_size (hbA_ HB.out))); (case aL => have := LMc20.out; omega); intro v142 w27 ho hb hg hat; rw [← Ny141.out] at ho; replace BK133 := (bgA_ BK133 hg (Kd.R_ne HO140.out BK133.out (by decide))); replace BK134 := (bgA_ BK134 hg (Kd.R_ne HO140.out BK134.out (by decide))); replace HB := Aside0.mk (hb); have HO143 := Aside0.mk (ho); clear HO140; clear ho hb hg hat))
     go_loopg [8, 9] kj3 (fun kq v8 v9 w' => ∃ (x8_2 : List (S96)) (x9_2 : Int), v9 = .int .i64 x9_2 ∧ Aside0 (spec_EarHear.l0 kq a1 l2 t137 x8_2 x9_2 a0_0 a0_1 l0_2 l0_3 = some (r1, r2, r3, r4)) ∧ Aside0 (kq ≤ kj3) ∧ Aside0 (Kd.R k96 96 w' w.heap.size (fun _ => True) v8 x8_2) ∧ Aside0 (w'.heap[gb133]? = some (.cells #[.int .i64 a0_0, .int .i64 a0_1, (.slice A0_2 l0_2.length c0_2), (.slice A0_3 l0_3.length c0_3)] 48 (0, 0))) ∧ Aside0 (w'.heap[gb134]? = some (.cells #[.int .i64 0, .int .i64 0, (.slice none 0 0), (.slice none 0 0)] 48 (0, 0))) ∧ Aside0 (Below w.heap.size w w'))
     case atStart => exact ⟨(y141), (0), (by first | rfl | (simp; done) | (simp [*]; done)), H', ⟨Nat.le_refl _⟩, ⟨kR_ HO143.out⟩, ⟨by refine kb_ ?_; exact BK133.out⟩, ⟨by refine kb_ ?_; exact BK134.out⟩, ⟨hbA_ HB.out⟩⟩
     case round =>
      clear H'; (try clear c1); (try clear c2); (try clear p2); (try clear c6); (try clear c8); (try clear c10); (try clear c13); (try clear c16); (try clear c17); (try clear c20); (try clear c21); (try clear c24); (try clear Z11); (try clear Z14); (try clear Z18); (try clear Z22); (try clear Z26); (try clear p2)
      obtain ⟨x8_2, x9_2, rfl, HA, HK2, HO_8, BK133, BK134, HB⟩ := hrel
      cases gk with
      | zero => exact absurd HA.out (by simp [spec_EarHear.l0])
      | succ k2 =>
       have H := HA.out; clear HA
       simp only [spec_EarHear.l0] at H
       by_cases c28 : x9_2 < (l2.length : Int)
       ·rw [if_pos c28] at H
        have c28b0 : decide (x9_2 < (l2.length : Int)) = true := decide_eq_true c28
        clear c28
        by_cases c29 : (wrap64 (a1 + x9_2)) ≥ a0_0
        ·rw [if_pos c29] at H
         have c29b0 : decide (a0_0 ≤ (wrap64 (a1 + x9_2))) = true := decide_eq_true c29
         clear c29
         by_cases c30 : (wrap64 (a1 + x9_2)) < (wrap64 (a0_0 + t137))
         ·rw [if_pos c30] at H
          have c30b0 : decide ((wrap64 (a1 + x9_2)) < (wrap64 (a0_0 + t137))) = true := decide_eq_true c30
          clear c30
          by_cases c31 : 0 ≤ x9_2
          ·rw [if_pos c31] at H
           have c31b0 : decide (0 ≤ x9_2) = true := decide_eq_true c31
           clear c31
           replace H := Option.bind_eq_some_iff.mp H
           obtain ⟨t145, A320, H⟩ := H
           (try dsimp only at H)
           have A32 := Aside0.mk A320; clear A320
           have H' := Aside0.mk H
           clear H; have hnb33 := NB133_134.out; have hnc33 := NB134_133.out; have Z34 := zz4 BK133
           have p144 : 0 ≤ (x9_2 : Int) := of_decide_eq_true (by first | (with_reducible assumption) | assumption)
           have q144 : x9_2 < (l2.length : Int) := of_decide_eq_true (by first | (with_reducible assumption) | assumption)
           obtain ⟨ad144, e144, hx144_0⟩ := Kd.at_int HR2.out x9_2 p144 q144
           cases e144
           replace hx144_0 := cc_ HB hx144_0
           replace p144 := eq_true p144
           replace q144 := eq_true q144
           obtain ⟨Ao35, co35, eo35⟩ := Kd.R_slice HO_8.out
           subst eo35
           go_wp2_with (first | ((with_reducible refine gate_callee (f := 68) rfl ?_); refine goesL_ (some 58) rfl rfl Try.func68 (by kernel_rfl) rfl #[.slice Ao35 x8_2.length co35, .agg #[.int .i64 (wrap64 (a1 + x9_2)), .int .u8 (rd l2 x9_2)]] rfl ar_ ?_; (with_reducible refine (spec_l12Put.calls k2 _ _ x8_2 (wrap64 (a1 + x9_2)) (rd l2 x9_2) t145 _ ?side1 ?side2 A32.out).mono ?_); (case side1 => exact kC_ (Kd.R_reads' HO_8.out).2.2); (case side2 => exact (Kd.R_reads' HO_8.out).2.1); rintro e w36 ⟨v146, rfl, ho0, hb⟩; refine ⟨_, rfl, ?_⟩; have HO147 := Aside0.mk (Kd.R_lower (Kd.R_new' ho0 (Kd.R_lt (kR_ HO_8.out))) (below_size (hbA_ HB.out))); replace HO_8 := Aside0.mk (Kd.R_elder' (kR_ HO_8.out) (Kd.R_base ho0) hb); replace BK133 := (bbA_ BK133 hb); replace BK134 := (bbA_ BK134 hb); replace HB := (bs_ HB hb); (try clear hb); (try clear hb2); (try clear hk); (try clear hi); (try clear ho0)))
           go_roundg k2
           case measure => have := HJ3.out; have := HK2.out; omega
           case rel => exact ⟨(t145), (wrap64 (x9_2 + 1)), (by first | rfl | (simp; done) | (simp [*]; done)), H', ⟨by have := HJ3.out; have := HK2.out; omega⟩, ⟨by refine kR_ ?_; exact Kd.R_mono HO147.out (fun _ hk => trivial)⟩, ⟨by refine kb_ ?_; exact BK133.out⟩, ⟨by refine kb_ ?_; exact BK134.out⟩, ⟨hbA_ HB.out⟩⟩
          ·rw [if_neg c31] at H
           exact absurd H (by simp)
         ·rw [if_neg c30] at H
          have c30b0 : decide ((wrap64 (a1 + x9_2)) < (wrap64 (a0_0 + t137))) = false := decide_eq_false c30
          clear c30
          have H' := Aside0.mk H
          clear H; have hnb37 := NB133_134.out; have hnc37 := NB134_133.out; have Z38 := zz4 BK133
          go_wp2
          go_roundg k2
          case measure => have := HJ3.out; have := HK2.out; omega
          case rel => exact ⟨(x8_2), (wrap64 (x9_2 + 1)), (by first | rfl | (simp; done) | (simp [*]; done)), H', ⟨by have := HJ3.out; have := HK2.out; omega⟩, ⟨kR_ HO_8.out⟩, ⟨by refine kb_ ?_; exact BK133.out⟩, ⟨by refine kb_ ?_; exact BK134.out⟩, ⟨hbA_ HB.out⟩⟩
        ·rw [if_neg c29] at H
         have c29b0 : decide (a0_0 ≤ (wrap64 (a1 + x9_2))) = false := decide_eq_false c29
         clear c29
         have H' := Aside0.mk H
         clear H; have hnb39 := NB133_134.out; have hnc39 := NB134_133.out; have Z40 := zz4 BK133
         go_wp2
         go_roundg k2
         case measure => have := HJ3.out; have := HK2.out; omega
         case rel => exact ⟨(x8_2), (wrap64 (x9_2 + 1)), (by first | rfl | (simp; done) | (simp [*]; done)), H', ⟨by have := HJ3.out; have := HK2.out; omega⟩, ⟨kR_ HO_8.out⟩, ⟨by refine kb_ ?_; exact BK133.out⟩, ⟨by refine kb_ ?_; exact BK134.out⟩, ⟨hbA_ HB.out⟩⟩
       ·rw [if_neg c28] at H
        have c28b0 : decide (x9_2 < (l2.length : Int)) = false := decide_eq_false c28
        clear c28
        obtain ⟨y148, hy148⟩ : ∃ y_ : List Int, y_ = (([] : List Int)) := ⟨_, rfl⟩
        (first | replace H := sb_ hy148 H | rw [← hy148] at H)
        have Ny148 := Aside0.mk hy148; clear hy148
        by_cases c41 : y148.length + l0_2.length < 140737488355328
        ·rw [if_pos c41] at H
         have LMc41 := Aside0.mk c41; clear c41
         obtain ⟨y151, hy151⟩ : ∃ y_ : List Int, y_ = (y148 ++ l0_2) := ⟨_, rfl⟩
         (first | replace H := sb_ hy151 H | rw [← hy151] at H)
         have Ny151 := Aside0.mk hy151; clear hy151; have HC42 := Aside0.mk H; clear H
         try go_wp2
         replace HO_8 := Aside0.mk (Kd.R_drew HO_8.out); replace BK133 := Aside0.mk (blk_drew BK133.out); replace BK134 := Aside0.mk (blk_drew BK134.out); replace HB := (bd_ HB)
         refine start_ (n := 11) (S := fun w' => w'.cell? ⟨gb133, 0, none⟩ = some (.int .i64 a0_0) ∧ w'.cell? ⟨gb133, 1, none⟩ = some (.int .i64 a0_1) ∧ w'.cell? ⟨gb133, 2, none⟩ = some (.slice A0_2 l0_2.length c0_2) ∧ w'.cell? ⟨gb133, 3, none⟩ = some (.slice A0_3 l0_3.length c0_3)) (ds := []) #[false, false, false, false, false, false, false, false, false, false, false] (by kernel_rfl) rfl rfl (cz4 BK133.out) (fun hHeld => ?_); refine with_tabW spec_EarHear.tab10 spec_EarHear.bits10 (fun HT_ HW_ => ?_)
         generalize wr.drew = w43 at HO_8 BK133 BK134 HB hHeld ⊢
         refine pu_ (i := 0) (N := some 59) HT_ ?_; refine pu_ (i := 2) (N := some 61) HT_ ?_; refine pu_ (i := 5) (N := some 64) HT_ ?_; refine tk_ (i := 1) (N := some 60) HT_ HW_ hHeld ?_; refine tk_ (i := 3) (N := some 62) HT_ HW_ hHeld ?_; refine tk_ (i := 6) (N := some 65) HT_ HW_ hHeld ?_
         refine join_ (σ := Value × Value × Nat) 1 #[true, true, true, true, true, true, true, true, true, true, false] (fun s_ => [(63, s_.1), (66, s_.2.1), (10, .pointer (some ⟨s_.2.2, 0, none⟩)), (67, .agg #[.int .i64 a0_0, .int .i64 a0_1, s_.2.1, .slice none 0 0])]) (fun s_ w' => (w'.cell? ⟨gb133, 0, none⟩ = some (.int .i64 a0_0) ∧ w'.cell? ⟨gb133, 1, none⟩ = some (.int .i64 a0_1) ∧ w'.cell? ⟨gb133, 2, none⟩ = some (.slice A0_2 l0_2.length c0_2) ∧ w'.cell? ⟨gb133, 3, none⟩ = some (.slice A0_3 l0_3.length c0_3)) ∧ (Kd.R (Kd.int .u8) 5 w' w.heap.size (fun _ => True) s_.2.1 y151) ∧ (Kd.R k96 96 w' w.heap.size (fun _ => True) u8 x8_2) ∧ (w'.heap[gb133]? = some (.cells #[.int .i64 a0_0, .int .i64 a0_1, .slice A0_2 l0_2.length c0_2, .slice A0_3 l0_3.length c0_3] 48 (0, 0))) ∧ (w'.heap[gb134]? = some (.cells #[.int .i64 0, .int .i64 0, .slice none 0 0, .slice none 0 0] 48 (0, 0))) ∧ (w'.heap[s_.2.2]? = some (.cells #[.int .i64 0, .int .i64 0, .slice none 0 0, .slice none 0 0] 48 (0, 0))) ∧ (w.heap.size ≤ s_.2.2) ∧ (w.heap.size ≤ s_.2.2) ∧ (gb133 ≠ s_.2.2) ∧ (s_.2.2 ≠ gb133) ∧ (gb134 ≠ s_.2.2) ∧ (s_.2.2 ≠ gb134) ∧ (Below w.heap.size w w')) ?_ ?_
         rotate_left
         ·intro hCont
          refine two_ (i := 4) (j := 9) (Ni := some 63) (Nj := some 10) #[true, true, true, true, true, true, true, false, false, false, false] #[true, true, true, true, false, true, true, false, false, true, false] rfl rfl rfl rfl (two_of HT_.out (by kernel_rfl)) (by decide) (by decide) (fun K hK => ?_) (fun K hK => ?_)
          ·skip
           refine Kd.R_lit_step (Kd.int .u8) _ 5 ?hg (N := 63) ?hd (xs := ([] : List Int)) (inner := []) (ok := fun _ => True) (okp := fun _ => True) ?hr ?hp (fun _ hk => hk) trivial (Below.refl _ _) (Nat.le_refl _) (by simp) ?_; (case hd => rfl); (case hg => rfl); (case hr => first | (go_simp; done) | (go_simp; rfl)); (case hp => exact (Reps.none _ _))
           intro v149 w44 ho45 hb hg_ hnew_
           clear hg_ hnew_
           (first | rw [← Ny148.out] at ho45 | (simp only [Int.reduceToNat] at ho45; rw [← Ny148.out] at ho45))
           have n0_ := Aside0.mk (Kd.R_below (kR_ HO_8.out) hb); have n1_ := Aside0.mk (Kd.R_lower ho45 (below_size (hbA_ HB.out))); have n2_ := (bbA_ BK133 hb); have n3_ := (bbA_ BK134 hb); have n4_ := (bs_ HB hb); clear HO_8 BK133 BK134 HB; have HO_8 := n0_; have HO150 := n1_; have BK133 := n2_; have BK134 := n3_; have HB := n4_; clear n0_ n1_ n2_ n3_ n4_ hb ho45
           refine hK.out _ _ (cz4 BK133.out) (fun hHeld => ?_)
           clear hK K; refine nm_ 63 ?_
           refine two_ (i := 7) (j := 9) (Ni := some 66) (Nj := some 10) #[true, true, true, true, true, true, true, true, false, false, false] #[true, true, true, true, true, true, true, false, false, true, false] rfl rfl rfl rfl (two_of HT_.out (by kernel_rfl)) (by decide) (by decide) (fun K hK => ?_) (fun K hK => ?_)
           ·skip
            refine Kd.R_append_rows_step (Kd.int .u8) (w0 := w) w.heap.size (by rfl) (.tmp 63) (.tmp 65) 22 5 (.int .u8 0) 1 rfl Try.underlying22 info5 rfl (by decide) (by omega) v149 y148 l0_2 _ _ _ (fun _ => True) (fun _ => False) rfl rfl ?aO ?aR (fun _ _ h => h) (fun _ h => h.elim) ?aF ?aB ?aS ?aL ?_
            (case aR => exact kC_ (Kd.C_below HR0_2.out HB.out))
            (case aB => exact (hbA_ HB.out))
            (case aF => exact (fun _ _ => trivial))
            (case aO => exact (kR_ HO150.out))
            (case aS => exact (below_size (hbA_ HB.out)))
            (case aL => have := LMc41.out; omega)
            intro v152 w46 ho hb hg hat
            rw [← Ny151.out] at ho
            have n0_ := Aside0.mk (Kd.R_over' (kR_ HO_8.out) (Kd.R_typed (kR_ HO150.out)) (by decide) hg); have n1_ := (bgA_ BK133 hg (Kd.R_ne HO150.out BK133.out (by decide))); have n2_ := (bgA_ BK134 hg (Kd.R_ne HO150.out BK134.out (by decide))); have n3_ := Aside0.mk (hb); have n4_ := Aside0.mk (ho); clear HO_8 BK133 BK134 HB HO150; have HO_8 := n0_; have BK133 := n1_; have BK134 := n2_; have HB := n3_; have HO153 := n4_; clear n0_ n1_ n2_ n3_ n4_ ho hb hg hat
            obtain ⟨Ao47, co47, eo47⟩ := Kd.R_slice HO153.out
            (first | subst eo47 | (injection eo47 with f1_ f2_ f3_; have f4_ := f1_.symm; have f5_ := f3_.symm; clear f1_ f2_ f3_; subst f4_; subst f5_))
            refine hK.out _ _ (cz4 BK133.out) (fun hHeld => ?_)
            clear hK K; refine nm_ 66 ?_; refine pu_ (i := 8) (N := some 67) HT_ ?_
            refine on_ (i := 9) (N := some 10) HT_ (fun K hK => ?_)
            refine box_step ?hg (N := 10) ?hd (cs := #[.int .i64 0, .int .i64 0, .slice none 0 0, .slice none 0 0]) (t := 48) ?hr ?_; (case hd => rfl); (case hg => rfl); (case hr => first | (go_simp; done) | (go_simp; rfl))
            intro gb154 hg w48 hbox hb
            have n0_ := Aside0.mk (Kd.R_below (kR_ HO_8.out) hb); have n1_ := Aside0.mk (Kd.R_below (kR_ HO153.out) hb); have n2_ := (bbA_ BK133 hb); have n3_ := (bbA_ BK134 hb); have n4_ := (bs_ HB hb); have n5_ := Aside0.mk (hbox); have n6_ := ge_ hg HB; have n7_ := ge_ hg HB; have n8_ := nl_ hg BK133; have n9_ := ng_ hg BK133; have n10_ := nl_ hg BK134; have n11_ := ng_ hg BK134; clear HO_8 HO153 BK133 BK134 HB; have HO_8 := n0_; have HO153 := n1_; have BK133 := n2_; have BK134 := n3_; have HB := n4_; have BK154 := n5_; have GW154 := n6_; have GE154 := n7_; have NB133_154 := n8_; have NB154_133 := n9_; have NB134_154 := n10_; have NB154_134 := n11_; clear n0_ n1_ n2_ n3_ n4_ n5_ n6_ n7_ n8_ n9_ n10_ n11_ hb hbox hg
            refine hK.out _ _ (cz4 BK133.out) (fun hHeld => ?_)
            clear hK K; refine nm_ 10 ?_
            exact norm_ (by simp only [putAll, Act.put, List.setIfInBounds_toArray, List.set_cons_zero, List.set_cons_succ]) (hCont (v149, .slice Ao47 y151.length co47, gb154) _ ⟨hHeld, (kR_ HO153.out), (kR_ HO_8.out), (kb_ BK133.out), (kb_ BK134.out), (kb_ BK154.out), GW154.out, GE154.out, NB133_154.out, NB154_133.out, NB134_154.out, NB154_134.out, (hbA_ HB.out)⟩)
           ·skip
            refine box_step ?hg (N := 10) ?hd (cs := #[.int .i64 0, .int .i64 0, .slice none 0 0, .slice none 0 0]) (t := 48) ?hr ?_; (case hd => rfl); (case hg => rfl); (case hr => first | (go_simp; done) | (go_simp; rfl))
            intro gb154 hg w46 hbox hb
            have n0_ := Aside0.mk (Kd.R_below (kR_ HO_8.out) hb); have n1_ := Aside0.mk (Kd.R_below (kR_ HO150.out) hb); have n2_ := (bbA_ BK133 hb); have n3_ := (bbA_ BK134 hb); have n4_ := (bs_ HB hb); have n5_ := Aside0.mk (hbox); have n6_ := ge_ hg HB; have n7_ := ge_ hg HB; have n8_ := nl_ hg BK133; have n9_ := ng_ hg BK133; have n10_ := nl_ hg BK134; have n11_ := ng_ hg BK134; clear HO_8 HO150 BK133 BK134 HB; have HO_8 := n0_; have HO150 := n1_; have BK133 := n2_; have BK134 := n3_; have HB := n4_; have BK154 := n5_; have GW154 := n6_; have GE154 := n7_; have NB133_154 := n8_; have NB154_133 := n9_; have NB134_154 := n10_; have NB154_134 := n11_; clear n0_ n1_ n2_ n3_ n4_ n5_ n6_ n7_ n8_ n9_ n10_ n11_ hb hbox hg
            refine hK.out _ _ (cz4 BK133.out) (fun hHeld => ?_)
            clear hK K; refine nm_ 10 ?_
            refine on_ (i := 7) (N := some 66) HT_ (fun K hK => ?_)
            refine Kd.R_append_rows_step (Kd.int .u8) (w0 := w) w.heap.size (by rfl) (.tmp 63) (.tmp 65) 22 5 (.int .u8 0) 1 rfl Try.underlying22 info5 rfl (by decide) (by omega) v149 y148 l0_2 _ _ _ (fun _ => True) (fun _ => False) rfl rfl ?aO ?aR (fun _ _ h => h) (fun _ h => h.elim) ?aF ?aB ?aS ?aL ?_
            (case aR => exact kC_ (Kd.C_below HR0_2.out HB.out))
            (case aB => exact (hbA_ HB.out))
            (case aF => exact (fun _ _ => trivial))
            (case aO => exact (kR_ HO150.out))
            (case aS => exact (below_size (hbA_ HB.out)))
            (case aL => have := LMc41.out; omega)
            intro v152 w47 ho hb hg hat
            rw [← Ny151.out] at ho
            have n0_ := Aside0.mk (Kd.R_over' (kR_ HO_8.out) (Kd.R_typed (kR_ HO150.out)) (by decide) hg); have n1_ := (bgA_ BK133 hg (Kd.R_ne HO150.out BK133.out (by decide))); have n2_ := (bgA_ BK134 hg (Kd.R_ne HO150.out BK134.out (by decide))); have n3_ := (bgA_ BK154 hg (Kd.R_ne HO150.out BK154.out (by decide))); have n4_ := Aside0.mk (hb); have n5_ := Aside0.mk (ho); clear HO_8 BK133 BK134 BK154 HB HO150; have HO_8 := n0_; have BK133 := n1_; have BK134 := n2_; have BK154 := n3_; have HB := n4_; have HO153 := n5_; clear n0_ n1_ n2_ n3_ n4_ n5_ ho hb hg hat
            obtain ⟨Ao48, co48, eo48⟩ := Kd.R_slice HO153.out
            (first | subst eo48 | (injection eo48 with f1_ f2_ f3_; have f4_ := f1_.symm; have f5_ := f3_.symm; clear f1_ f2_ f3_; subst f4_; subst f5_))
            refine hK.out _ _ (cz4 BK133.out) (fun hHeld => ?_)
            clear hK K; refine nm_ 66 ?_; refine pu_ (i := 8) (N := some 67) HT_ ?_
            exact norm_ (by simp only [putAll, Act.put, List.setIfInBounds_toArray, List.set_cons_zero, List.set_cons_succ]) (hCont (v149, .slice Ao48 y151.length co48, gb154) _ ⟨hHeld, (kR_ HO153.out), (kR_ HO_8.out), (kb_ BK133.out), (kb_ BK134.out), (kb_ BK154.out), GW154.out, GE154.out, NB133_154.out, NB154_133.out, NB134_154.out, NB154_134.out, (hbA_ HB.out)⟩)
          ·skip
           refine box_step ?hg (N := 10) ?hd (cs := #[.int .i64 0, .int .i64 0, .slice none 0 0, .slice none 0 0]) (t := 48) ?hr ?_; (case hd => rfl); (case hg => rfl); (case hr => first | (go_simp; done) | (go_simp; rfl))
           intro gb154 hg w44 hbox hb
           have n0_ := Aside0.mk (Kd.R_below (kR_ HO_8.out) hb); have n1_ := (bbA_ BK133 hb); have n2_ := (bbA_ BK134 hb); have n3_ := (bs_ HB hb); have n4_ := Aside0.mk (hbox); have n5_ := ge_ hg HB; have n6_ := ge_ hg HB; have n7_ := nl_ hg BK133; have n8_ := ng_ hg BK133; have n9_ := nl_ hg BK134; have n10_ := ng_ hg BK134; clear HO_8 BK133 BK134 HB; have HO_8 := n0_; have BK133 := n1_; have BK134 := n2_; have HB := n3_; have BK154 := n4_; have GW154 := n5_; have GE154 := n6_; have NB133_154 := n7_; have NB154_133 := n8_; have NB134_154 := n9_; have NB154_134 := n10_; clear n0_ n1_ n2_ n3_ n4_ n5_ n6_ n7_ n8_ n9_ n10_ hb hbox hg
           refine hK.out _ _ (cz4 BK133.out) (fun hHeld => ?_)
           clear hK K; refine nm_ 10 ?_
           refine on_ (i := 4) (N := some 63) HT_ (fun K hK => ?_)
           refine Kd.R_lit_step (Kd.int .u8) _ 5 ?hg (N := 63) ?hd (xs := ([] : List Int)) (inner := []) (ok := fun _ => True) (okp := fun _ => True) ?hr ?hp (fun _ hk => hk) trivial (Below.refl _ _) (Nat.le_refl _) (by simp) ?_; (case hd => rfl); (case hg => rfl); (case hr => first | (go_simp; done) | (go_simp; rfl)); (case hp => exact (Reps.none _ _))
           intro v149 w45 ho46 hb hg_ hnew_
           clear hg_ hnew_
           (first | rw [← Ny148.out] at ho46 | (simp only [Int.reduceToNat] at ho46; rw [← Ny148.out] at ho46))
           have n0_ := Aside0.mk (Kd.R_below (kR_ HO_8.out) hb); have n1_ := Aside0.mk (Kd.R_lower ho46 (below_size (hbA_ HB.out))); have n2_ := (bbA_ BK133 hb); have n3_ := (bbA_ BK134 hb); have n4_ := (bbA_ BK154 hb); have n5_ := (bs_ HB hb); clear HO_8 BK133 BK134 BK154 HB; have HO_8 := n0_; have HO150 := n1_; have BK133 := n2_; have BK134 := n3_; have BK154 := n4_; have HB := n5_; clear n0_ n1_ n2_ n3_ n4_ n5_ hb ho46
           refine hK.out _ _ (cz4 BK133.out) (fun hHeld => ?_)
           clear hK K; refine nm_ 63 ?_
           refine on_ (i := 7) (N := some 66) HT_ (fun K hK => ?_)
           refine Kd.R_append_rows_step (Kd.int .u8) (w0 := w) w.heap.size (by rfl) (.tmp 63) (.tmp 65) 22 5 (.int .u8 0) 1 rfl Try.underlying22 info5 rfl (by decide) (by omega) v149 y148 l0_2 _ _ _ (fun _ => True) (fun _ => False) rfl rfl ?aO ?aR (fun _ _ h => h) (fun _ h => h.elim) ?aF ?aB ?aS ?aL ?_
           (case aR => exact kC_ (Kd.C_below HR0_2.out HB.out))
           (case aB => exact (hbA_ HB.out))
           (case aF => exact (fun _ _ => trivial))
           (case aO => exact (kR_ HO150.out))
           (case aS => exact (below_size (hbA_ HB.out)))
           (case aL => have := LMc41.out; omega)
           intro v152 w47 ho hb hg hat
           rw [← Ny151.out] at ho
           have n0_ := Aside0.mk (Kd.R_over' (kR_ HO_8.out) (Kd.R_typed (kR_ HO150.out)) (by decide) hg); have n1_ := (bgA_ BK133 hg (Kd.R_ne HO150.out BK133.out (by decide))); have n2_ := (bgA_ BK134 hg (Kd.R_ne HO150.out BK134.out (by decide))); have n3_ := (bgA_ BK154 hg (Kd.R_ne HO150.out BK154.out (by decide))); have n4_ := Aside0.mk (hb); have n5_ := Aside0.mk (ho); clear HO_8 BK133 BK134 BK154 HB HO150; have HO_8 := n0_; have BK133 := n1_; have BK134 := n2_; have BK154 := n3_; have HB := n4_; have HO153 := n5_; clear n0_ n1_ n2_ n3_ n4_ n5_ ho hb hg hat
           obtain ⟨Ao48, co48, eo48⟩ := Kd.R_slice HO153.out
           (first | subst eo48 | (injection eo48 with f1_ f2_ f3_; have f4_ := f1_.symm; have f5_ := f3_.symm; clear f1_ f2_ f3_; subst f4_; subst f5_))
           refine hK.out _ _ (cz4 BK133.out) (fun hHeld => ?_)
           clear hK K; refine nm_ 66 ?_; refine pu_ (i := 8) (N := some 67) HT_ ?_
           exact norm_ (by simp only [putAll, Act.put, List.setIfInBounds_toArray, List.set_cons_zero, List.set_cons_succ]) (hCont (v149, .slice Ao48 y151.length co48, gb154) _ ⟨hHeld, (kR_ HO153.out), (kR_ HO_8.out), (kb_ BK133.out), (kb_ BK134.out), (kb_ BK154.out), GW154.out, GE154.out, NB133_154.out, NB154_133.out, NB134_154.out, NB154_134.out, (hbA_ HB.out)⟩)
         rintro ⟨v149, v152, gb154⟩ w49 ⟨hS_, h0_, h1_, h2_, h3_, h4_, h5_, h6_, h7_, h8_, h9_, h10_, h11_⟩
         have n0_ : Aside0 (Kd.R (Kd.int .u8) 5 w49 w.heap.size (fun _ => True) v152 y151) := ⟨h0_⟩
         have n1_ : Aside0 (Kd.R k96 96 w49 w.heap.size (fun _ => True) u8 x8_2) := ⟨h1_⟩
         have n2_ : Aside0 (w49.heap[gb133]? = some (.cells #[.int .i64 a0_0, .int .i64 a0_1, .slice A0_2 l0_2.length c0_2, .slice A0_3 l0_3.length c0_3] 48 (0, 0))) := ⟨h2_⟩
         have n3_ : Aside0 (w49.heap[gb134]? = some (.cells #[.int .i64 0, .int .i64 0, .slice none 0 0, .slice none 0 0] 48 (0, 0))) := ⟨h3_⟩
         have n4_ : Aside0 (w49.heap[gb154]? = some (.cells #[.int .i64 0, .int .i64 0, .slice none 0 0, .slice none 0 0] 48 (0, 0))) := ⟨h4_⟩
         have n5_ : Aside0 (w.heap.size ≤ gb154) := ⟨h5_⟩
         have n6_ : Aside0 (w.heap.size ≤ gb154) := ⟨h6_⟩
         have n7_ : Aside0 (gb133 ≠ gb154) := ⟨h7_⟩
         have n8_ : Aside0 (gb154 ≠ gb133) := ⟨h8_⟩
         have n9_ : Aside0 (gb134 ≠ gb154) := ⟨h9_⟩
         have n10_ : Aside0 (gb154 ≠ gb134) := ⟨h10_⟩
         have n11_ : Aside0 (Below w.heap.size w w49) := ⟨h11_⟩
         clear HO_8 BK133 BK134 HB h0_ h1_ h2_ h3_ h4_ h5_ h6_ h7_ h8_ h9_ h10_ h11_; have HO153 := n0_; have HO_8 := n1_; have BK133 := n2_; have BK134 := n3_; have BK154 := n4_; have GW154 := n5_; have GE154 := n6_; have NB133_154 := n7_; have NB154_133 := n8_; have NB134_154 := n9_; have NB154_134 := n10_; have HB := n11_; clear n0_ n1_ n2_ n3_ n4_ n5_ n6_ n7_ n8_ n9_ n10_ n11_
         have hHeld : w49.cell? ⟨gb133, 0, none⟩ = some (.int .i64 a0_0) ∧ w49.cell? ⟨gb133, 1, none⟩ = some (.int .i64 a0_1) ∧ w49.cell? ⟨gb133, 2, none⟩ = some (.slice A0_2 l0_2.length c0_2) ∧ w49.cell? ⟨gb133, 3, none⟩ = some (.slice A0_3 l0_3.length c0_3) := hS_
         obtain ⟨Ao50, co50, eo50⟩ := Kd.R_slice HO153.out
         (first | subst eo50 | (injection eo50 with f1_ f2_ f3_; have f4_ := f1_.symm; have f5_ := f3_.symm; clear f1_ f2_ f3_; subst f4_; subst f5_))
         refine norm_ (a' := ?_) ?_ ?_
         rotate_left
         ·simp only [putAll, Act.put, List.setIfInBounds_toArray, List.set_cons_zero, List.set_cons_succ]
          rfl
         refine on_ (i := 10) (N := none) HT_ (fun K hK => ?_)
         have hs51 : w49.cell? ⟨gb154, 0, none⟩ = some (.int .i64 0) := bc_ BK154 0
         have hfs51 := blk_frozen BK154.out 0
         have hns51_0 := NB133_154.out; have hns51_1 := NB134_154.out; have hms51_0 := NB154_133.out; have hms51_1 := NB154_134.out
         have hs52 : w49.cell? ⟨gb154, 1, none⟩ = some (.int .i64 0) := bc_ BK154 1
         have hfs52 := blk_frozen BK154.out 1
         have hns52_0 := NB133_154.out; have hns52_1 := NB134_154.out; have hms52_0 := NB154_133.out; have hms52_1 := NB154_134.out
         have hs53 : w49.cell? ⟨gb154, 2, none⟩ = some (.slice none 0 0) := bc_ BK154 2
         have hfs53 := blk_frozen BK154.out 2
         have hns53_0 := NB133_154.out; have hns53_1 := NB134_154.out; have hms53_0 := NB154_133.out; have hms53_1 := NB154_134.out
         have hs54 : w49.cell? ⟨gb154, 3, none⟩ = some (.slice none 0 0) := bc_ BK154 3
         have hfs54 := blk_frozen BK154.out 3
         have hns54_0 := NB133_154.out; have hns54_1 := NB134_154.out; have hms54_0 := NB154_133.out; have hms54_1 := NB154_134.out
         refine skip_ (w1 := ?_) (by rfl) rfl ?_ ?_
         rotate_left
         ·go_simp
          rfl
         refine hK.out _ _ ⟨((cell_far (p := ⟨gb154, _, none⟩) NB133_154.out _).trans (((cell_far (p := ⟨gb154, _, none⟩) NB133_154.out _).trans (((cell_far (p := ⟨gb154, _, none⟩) NB133_154.out _).trans (((cell_far (p := ⟨gb154, _, none⟩) NB133_154.out _).trans (hHeld.1)))))))), ((cell_far (p := ⟨gb154, _, none⟩) NB133_154.out _).trans (((cell_far (p := ⟨gb154, _, none⟩) NB133_154.out _).trans (((cell_far (p := ⟨gb154, _, none⟩) NB133_154.out _).trans (((cell_far (p := ⟨gb154, _, none⟩) NB133_154.out _).trans (hHeld.2.1)))))))), ((cell_far (p := ⟨gb154, _, none⟩) NB133_154.out _).trans (((cell_far (p := ⟨gb154, _, none⟩) NB133_154.out _).trans (((cell_far (p := ⟨gb154, _, none⟩) NB133_154.out _).trans (((cell_far (p := ⟨gb154, _, none⟩) NB133_154.out _).trans (hHeld.2.2.1)))))))), ((cell_far (p := ⟨gb154, _, none⟩) NB133_154.out _).trans (((cell_far (p := ⟨gb154, _, none⟩) NB133_154.out _).trans (((cell_far (p := ⟨gb154, _, none⟩) NB133_154.out _).trans (((cell_far (p := ⟨gb154, _, none⟩) NB133_154.out _).trans (hHeld.2.2.2))))))))⟩ (fun hHeld => ?_)
         clear hK K
         refine done_ (done_of HT_.out (by kernel_rfl)) ?_
         go_upto_block 2 with (fail)
         go_cut [11] (fun v11 wc => ∃ (kq : Nat) (x11_41 : Int) (x155000_41 : Int) (x155002_41 : List Int) (u155002 : Value), v11 = .int .i64 x11_41 ∧ Aside0 (spec_EarHear.j3 kq x8_2 x11_41 x155000_41 a0_1 x155002_41 = some (r1, r2, r3, r4)) ∧ Aside0 (kq ≤ k2) ∧ Aside0 (Kd.R k96 96 wc w.heap.size (fun _ => True) u8 x8_2) ∧ Aside0 (Kd.R (Kd.int .u8) 5 wc w.heap.size (fun _ => True) u155002 x155002_41) ∧ Aside0 (wc.heap[gb133]? = some (.cells #[.int .i64 a0_0, .int .i64 a0_1, (.slice A0_2 l0_2.length c0_2), (.slice A0_3 l0_3.length c0_3)] 48 (0, 0))) ∧ Aside0 (wc.heap[gb134]? = some (.cells #[.int .i64 0, .int .i64 0, (.slice none 0 0), (.slice none 0 0)] 48 (0, 0))) ∧ Aside0 (wc.heap[gb154]? = some (.cells #[.int .i64 x155000_41, .int .i64 a0_1, u155002, (.slice none 0 0)] 48 (0, 0))) ∧ Aside0 (Below w.heap.size w wc))
         case first =>
          have H := HC42.out; clear HC42
          have H' := Aside0.mk H
          clear H
          go_wp2
          go_loopg [11] k2 (fun kq v11 w' => ∃ (x11_3 : Int) (x155000_3 : Int) (x155002_3 : List Int) (u155002 : Value), v11 = .int .i64 x11_3 ∧ Aside0 (spec_EarHear.l1 kq x8_2 x11_3 x155000_3 a0_1 x155002_3 = some (r1, r2, r3, r4)) ∧ Aside0 (kq ≤ k2) ∧ Aside0 (Kd.R k96 96 w' w.heap.size (fun _ => True) u8 x8_2) ∧ Aside0 (Kd.R (Kd.int .u8) 5 w' w.heap.size (fun _ => True) u155002 x155002_3) ∧ Aside0 (w'.heap[gb133]? = some (.cells #[.int .i64 a0_0, .int .i64 a0_1, (.slice A0_2 l0_2.length c0_2), (.slice A0_3 l0_3.length c0_3)] 48 (0, 0))) ∧ Aside0 (w'.heap[gb134]? = some (.cells #[.int .i64 0, .int .i64 0, (.slice none 0 0), (.slice none 0 0)] 48 (0, 0))) ∧ Aside0 (w'.heap[gb154]? = some (.cells #[.int .i64 x155000_3, .int .i64 a0_1, u155002, (.slice none 0 0)] 48 (0, 0))) ∧ Aside0 (Below w.heap.size w w'))
          case atStart => exact ⟨(0), (a0_0), (y151), (.slice Ao50 y151.length co50), (by first | rfl | (simp; done) | (simp [*]; done)), H', ⟨Nat.le_refl _⟩, ⟨by refine kR_ ?_; exact rfm_ ((Kd.R_types HO_8.out BK154.out (by decide))) (fun _ hk => trivial)⟩, ⟨by refine kR_ ?_; exact rfm_ ((Kd.R_types HO153.out BK154.out (by decide))) (fun _ hk => trivial)⟩, ⟨by exact kf_ BK133.out⟩, ⟨by exact kf_ BK134.out⟩, ⟨by refine kb_ ?_; refine pz4 (cs := #[.int .i64 0, .int .i64 0, .slice none 0 0, .slice none 0 0]) ?_; refine kb_ ?_; exact BK154.out⟩, ⟨hbA_ HB.out⟩⟩
          case round =>
           clear H'; (try clear p1); (try clear q1); (try clear hx1); (try clear c2); (try clear p2); (try clear c3); (try clear c4); (try clear c6); (try clear p6); (try clear p14); (try clear q14); (try clear hx14); (try clear c28); (try clear c28b0); (try clear c29); (try clear c29b0); (try clear c30); (try clear c30b0); (try clear c31); (try clear c31b0); (try clear c33); (try clear c37); (try clear c39); (try clear c41); (try clear Z34); (try clear Z38); (try clear Z40); (try clear hx144_0); (try clear p144); (try clear p2); (try clear q144)
           obtain ⟨x11_3, x155000_3, x155002_3, u155002, rfl, HA, HK3, HO_8, HO_155002, BK133, BK134, BK154, HB⟩ := hrel
           cases gk with
           | zero => exact absurd HA.out (by simp [spec_EarHear.l1])
           | succ k3 =>
            have H := HA.out; clear HA
            simp only [spec_EarHear.l1] at H
            by_cases c55 : x11_3 < (x8_2.length : Int)
            ·rw [if_pos c55] at H
             have c55b0 : decide (x11_3 < (x8_2.length : Int)) = true := decide_eq_true c55
             clear c55
             (first | rw [c55b0] | (simp only [i64_w, i32_w]; rw [c55b0]) | skip)
             by_cases c56 : 0 ≤ x11_3
             ·rw [if_pos c56] at H
              have c56b0 : decide (0 ≤ x11_3) = true := decide_eq_true c56
              clear c56
              by_cases c57 : ((rd_T96 x8_2 x11_3).f0) = x155000_3
              ·rw [if_pos c57] at H
               have c57b0 : (((rd_T96 x8_2 x11_3).f0) == x155000_3) = true := beq_iff_eq.mpr c57
               have c57b1 : (((rd_T96 x8_2 x11_3).f0) != x155000_3) = false := bne_eq_false_iff_eq.mpr c57
               clear c57
               by_cases c58 : x155002_3.length < 140737488355328
               ·rw [if_pos c58] at H
                have LMc58 := Aside0.mk c58; clear c58
                obtain ⟨y157, hy157⟩ : ∃ y_ : List Int, y_ = (x155002_3 ++ [(rd_T96 x8_2 x11_3).f1]) := ⟨_, rfl⟩
                (first | replace H := sb_ hy157 H | rw [← hy157] at H)
                have Ny157 := Aside0.mk hy157; clear hy157
                have H' := Aside0.mk H
                clear H
                try go_wp2
                replace HO_8 := Aside0.mk (Kd.R_drew HO_8.out); replace HO_155002 := Aside0.mk (Kd.R_drew HO_155002.out); replace BK133 := Aside0.mk (blk_drew BK133.out); replace BK134 := Aside0.mk (blk_drew BK134.out); replace BK154 := Aside0.mk (blk_drew BK154.out); replace HB := (bd_ HB)
                obtain ⟨Ao60, co60, eo60⟩ := Kd.R_slice HO_8.out
                (first | subst eo60 | (injection eo60 with f1_ f2_ f3_; have f4_ := f1_.symm; have f5_ := f3_.symm; clear f1_ f2_ f3_; subst f4_; subst f5_))
                have p155 : 0 ≤ (x11_3 : Int) := of_decide_eq_true (by first | (with_reducible assumption) | assumption)
                have q155 : x11_3 < (x8_2.length : Int) := of_decide_eq_true (by first | (with_reducible assumption) | assumption)
                obtain ⟨ad155, e155, hx155_0, hx155_1⟩ := at_T96 (Kd.R_reads' HO_8.out).2.2 x11_3 p155 q155
                cases e155
                replace p155 := eq_true p155
                replace q155 := eq_true q155
                refine start_ (n := 14) (S := fun w' => w'.cell? ⟨gb154, 0, none⟩ = some (.int .i64 x155000_3) ∧ w'.cell? ⟨gb154, 1, none⟩ = some (.int .i64 a0_1) ∧ w'.cell? ⟨gb154, 2, none⟩ = some (u155002) ∧ w'.cell? ⟨gb154, 3, none⟩ = some (.slice none 0 0) ∧ w'.cell? (ad155.add ((x11_3).toNat * 2)) = some (.int .i64 ((rd_T96 x8_2 x11_3).f0)) ∧ w'.cell? ⟨(ad155.add ((x11_3).toNat * 2)).block, (ad155.add ((x11_3).toNat * 2)).off + 1, none⟩ = some (.int .u8 ((rd_T96 x8_2 x11_3).f1))) (ds := []) #[false, false, false, false, false, false, false, false, false, false, false, false, false, false] (by kernel_rfl) rfl rfl ⟨bc_ BK154 0, bc_ BK154 1, bc_ BK154 2, bc_ BK154 3, hx155_0, hx155_1⟩ (fun hHeld => ?_); refine with_tabW spec_EarHear.tab12 spec_EarHear.bits12 (fun HT_ HW_ => ?_)
                generalize wr.drew = w59 at HO_8 HO_155002 BK133 BK134 BK154 HB hx155_0 hx155_1 hHeld ⊢
                refine pu_ (i := 0) (N := some 68) HT_ ?_; refine pu_ (i := 1) (N := some 69) HT_ ?_; refine pu_ (i := 2) (N := some 70) HT_ ?_; refine pu_ (i := 3) (N := some 71) HT_ ?_; refine pu_ (i := 4) (N := some 72) HT_ ?_; refine pu_ (i := 5) (N := some 73) HT_ ?_; refine pu_ (i := 6) (N := some 74) HT_ ?_; refine pu_ (i := 7) (N := some 75) HT_ ?_; refine pu_ (i := 8) (N := some 76) HT_ ?_; refine pu_ (i := 10) (N := some 78) HT_ ?_; refine tk_ (i := 9) (N := some 77) HT_ HW_ hHeld ?_; refine tk_ (i := 11) (N := some 79) HT_ HW_ hHeld ?_; refine pu_ (i := 12) (N := some 80) HT_ ?_; refine pu_ (i := 13) (N := some 81) HT_ ?_
                refine done_ (done_of HT_.out (by kernel_rfl)) ?_
                try go_wp2
                replace HO_8 := Aside0.mk (Kd.R_drew HO_8.out); replace HO_155002 := Aside0.mk (Kd.R_drew HO_155002.out); replace BK133 := Aside0.mk (blk_drew BK133.out); replace BK134 := Aside0.mk (blk_drew BK134.out); replace BK154 := Aside0.mk (blk_drew BK154.out); replace HB := (bd_ HB)
                have p156 : 0 ≤ (x11_3 : Int) := of_decide_eq_true (by first | (with_reducible assumption) | assumption)
                have q156 : x11_3 < (x8_2.length : Int) := of_decide_eq_true (by first | (with_reducible assumption) | assumption)
                obtain ⟨ad156, e156, hx156_0, hx156_1⟩ := at_T96 (Kd.R_reads' HO_8.out).2.2 x11_3 p156 q156
                obtain rfl : ad155 = ad156 := (by injection e156)
                replace p156 := eq_true p156
                replace q156 := eq_true q156
                refine start_ (n := 11) (S := fun w' => w'.cell? ⟨gb154, 0, none⟩ = some (.int .i64 x155000_3) ∧ w'.cell? ⟨gb154, 1, none⟩ = some (.int .i64 a0_1) ∧ w'.cell? ⟨gb154, 2, none⟩ = some (u155002) ∧ w'.cell? ⟨gb154, 3, none⟩ = some (.slice none 0 0) ∧ w'.cell? (ad155.add ((x11_3).toNat * 2)) = some (.int .i64 ((rd_T96 x8_2 x11_3).f0)) ∧ w'.cell? ⟨(ad155.add ((x11_3).toNat * 2)).block, (ad155.add ((x11_3).toNat * 2)).off + 1, none⟩ = some (.int .u8 ((rd_T96 x8_2 x11_3).f1))) (ds := [8, 10]) #[false, false, false, false, false, false, false, false, false, false, false] (by kernel_rfl) rfl rfl ⟨bc_ BK154 0, bc_ BK154 1, bc_ BK154 2, bc_ BK154 3, hx156_0, hx156_1⟩ (fun hHeld => ?_); refine with_tabW spec_EarHear.tab13 spec_EarHear.bits13 (fun HT_ HW_ => ?_)
                generalize w59.drew = w61 at HO_8 HO_155002 BK133 BK134 BK154 HB hx156_0 hx156_1 hHeld ⊢
                refine pu_ (i := 0) (N := some 82) HT_ ?_; refine pu_ (i := 2) (N := some 84) HT_ ?_; refine pu_ (i := 3) (N := some 85) HT_ ?_; refine pu_ (i := 4) (N := some 86) HT_ ?_; refine pu_ (i := 5) (N := some 87) HT_ ?_; refine tk_ (i := 1) (N := some 83) HT_ HW_ hHeld ?_; refine tk_ (i := 6) (N := some 88) HT_ HW_ hHeld ?_
                refine on_ (i := 7) (N := some 89) HT_ (fun K hK => ?_)
                refine value_ (w1 := ?_) (v := ?_) (by rfl) rfl ?_ ?_
                rotate_left 2
                ·go_simp
                 constructor
                 ·rfl
                 ·rfl
                refine hK.out _ _ ⟨(blk_cell (blk_alloc BK154.out _) 0).trans rfl, (blk_cell (blk_alloc BK154.out _) 1).trans rfl, (blk_cell (blk_alloc BK154.out _) 2).trans rfl, (blk_cell (blk_alloc BK154.out _) 3).trans rfl, (World.cell?_alloc_lt _ _ _ (World.block_lt_of_cell? _ _ (hHeld.2.2.2.2.1))).trans (hHeld.2.2.2.2.1), (World.cell?_alloc_lt _ _ _ (World.block_lt_of_cell? _ _ (hHeld.2.2.2.2.2))).trans (hHeld.2.2.2.2.2)⟩ (fun hHeld => ?_)
                clear hK K; refine nm_ 89 ?_
                refine last_ (i := 8) (N := some 90) #[true, true, true, true, true, true, true, true, true, false, false] rfl rfl (one_of HT_.out (by kernel_rfl)) (by decide) (fun K hK => ?_)
                refine Kd.R_append_step (Kd.int .u8) (w0 := w) w.heap.size (by rfl) (.tmp 83) (.tmp 89) 22 5 (.int .u8 0) 1 rfl Try.underlying22 info5 rfl (by decide) (by omega) u155002 x155002_3 ((rd_T96 x8_2 x11_3).f1) [.int .u8 ((rd_T96 x8_2 x11_3).f1)] (fun _ => True) (fun _ => False) rfl rfl ?aP (fun _ hk => hk.elim) ?aF ?aO ?aB ?aS ?aL ?_
                (case aP => exact rfl)
                (case aB => exact (hbA_ HB.out))
                (case aF => exact (fun _ _ => trivial))
                (case aO => exact (kR_ HO_155002.out))
                (case aS => exact (below_size (hbA_ HB.out)))
                (case aL => have := LMc58.out; omega)
                intro v158 w62 ho hb hg hat
                rw [← Ny157.out] at ho
                have n0_ := Aside0.mk (Kd.R_over' (kR_ HO_8.out) (Kd.R_typed (kR_ HO_155002.out)) (by decide) hg); have n1_ := (bgA_ BK133 hg (Kd.R_ne HO_155002.out BK133.out (by decide))); have n2_ := (bgA_ BK134 hg (Kd.R_ne HO_155002.out BK134.out (by decide))); have n3_ := (bgA_ BK154 hg (Kd.R_ne HO_155002.out BK154.out (by decide))); have n4_ := Aside0.mk (hb); have n5_ := Aside0.mk (ho); clear HO_8 BK133 BK134 BK154 HB HO_155002; have HO_8 := n0_; have BK133 := n1_; have BK134 := n2_; have BK154 := n3_; have HB := n4_; have HO159 := n5_; clear n0_ n1_ n2_ n3_ n4_ n5_ ho hb hg hat
                obtain ⟨Ao63, co63, eo63⟩ := Kd.R_slice HO159.out
                (first | subst eo63 | (injection eo63 with f1_ f2_ f3_; have f4_ := f1_.symm; have f5_ := f3_.symm; clear f1_ f2_ f3_; subst f4_; subst f5_))
                refine hK.out _ _ ?_
                clear hK K; refine nm_ 90 ?_; refine pu_ (i := 9) (N := some 91) HT_ ?_
                refine last_ (i := 10) (N := none) #[true, true, true, true, true, true, true, true, true, true, true] rfl rfl (one_of HT_.out (by kernel_rfl)) (by decide) (fun K hK => ?_)
                have hs64 : w62.cell? ⟨gb154, 2, none⟩ = some (u155002) := bc_ BK154 2
                have hfs64 := blk_frozen BK154.out 2
                have hns64_0 := NB133_154.out; have hns64_1 := NB134_154.out; have hms64_0 := NB154_133.out; have hms64_1 := NB154_134.out
                refine skip_ (w1 := ?_) (by rfl) rfl ?_ ?_
                rotate_left
                ·go_simp
                 rfl
                refine hK.out _ _ ?_
                clear hK K
                refine done_ (done_of HT_.out (by kernel_rfl)) ?_
                have hnb65 := NB154_133.out; have hnc65 := NB133_154.out; have hnb66 := NB154_134.out; have hnc66 := NB134_154.out; have Z67 := zz4 BK154
                try go_wp2
                go_roundg k3
                case measure => have := HJ3.out; have := HK2.out; have := HK3.out; omega
                case rel => exact ⟨(wrap64 (x11_3 + 1)), (wrap64 (x155000_3 + 1)), (y157), (.slice Ao63 y157.length co63), (by first | rfl | (simp; done) | (simp [*]; done)), H', ⟨by have := HJ3.out; have := HK2.out; have := HK3.out; omega⟩, ⟨by refine kR_ ?_; exact rfm_ ((Kd.R_types HO_8.out BK154.out (by decide))) (fun _ hk => trivial)⟩, ⟨by refine kR_ ?_; exact rfm_ ((Kd.R_types HO159.out BK154.out (by decide))) (fun _ hk => trivial)⟩, ⟨by exact kf_ BK133.out⟩, ⟨by exact kf_ BK134.out⟩, ⟨by refine kb_ ?_; refine blk_put (cs := #[.int .i64 x155000_3, .int .i64 a0_1, .slice Ao63 y157.length co63, .slice none 0 0]) ?_ 0 _ rfl; refine kb_ ?_; refine blk_put (cs := #[.int .i64 x155000_3, .int .i64 a0_1, u155002, .slice none 0 0]) ?_ 2 _ rfl; refine kb_ ?_; exact BK154.out⟩, ⟨hbA_ HB.out⟩⟩
               ·rw [if_neg c58] at H
                exact absurd H (by simp)
              ·rw [if_neg c57] at H
               have c57b0 : (((rd_T96 x8_2 x11_3).f0) == x155000_3) = false := beq_eq_false_iff_ne.mpr c57
               have c57b1 : (((rd_T96 x8_2 x11_3).f0) != x155000_3) = true := bne_iff_ne.mpr c57
               have H' := Aside0.mk H
               clear H
               try go_wp2
               replace HO_8 := Aside0.mk (Kd.R_drew HO_8.out); replace HO_155002 := Aside0.mk (Kd.R_drew HO_155002.out); replace BK133 := Aside0.mk (blk_drew BK133.out); replace BK134 := Aside0.mk (blk_drew BK134.out); replace BK154 := Aside0.mk (blk_drew BK154.out); replace HB := (bd_ HB)
               obtain ⟨Ao69, co69, eo69⟩ := Kd.R_slice HO_8.out
               (first | subst eo69 | (injection eo69 with f1_ f2_ f3_; have f4_ := f1_.symm; have f5_ := f3_.symm; clear f1_ f2_ f3_; subst f4_; subst f5_))
               have p155 : 0 ≤ (x11_3 : Int) := of_decide_eq_true (by first | (with_reducible assumption) | assumption)
               have q155 : x11_3 < (x8_2.length : Int) := of_decide_eq_true (by first | (with_reducible assumption) | assumption)
               obtain ⟨ad155, e155, hx155_0, hx155_1⟩ := at_T96 (Kd.R_reads' HO_8.out).2.2 x11_3 p155 q155
               cases e155
               replace p155 := eq_true p155
               replace q155 := eq_true q155
               refine start_ (n := 14) (S := fun w' => w'.cell? ⟨gb154, 0, none⟩ = some (.int .i64 x155000_3) ∧ w'.cell? ⟨gb154, 1, none⟩ = some (.int .i64 a0_1) ∧ w'.cell? ⟨gb154, 2, none⟩ = some (u155002) ∧ w'.cell? ⟨gb154, 3, none⟩ = some (.slice none 0 0) ∧ w'.cell? (ad155.add ((x11_3).toNat * 2)) = some (.int .i64 ((rd_T96 x8_2 x11_3).f0)) ∧ w'.cell? ⟨(ad155.add ((x11_3).toNat * 2)).block, (ad155.add ((x11_3).toNat * 2)).off + 1, none⟩ = some (.int .u8 ((rd_T96 x8_2 x11_3).f1))) (ds := []) #[false, false, false, false, false, false, false, false, false, false, false, false, false, false] (by kernel_rfl) rfl rfl ⟨bc_ BK154 0, bc_ BK154 1, bc_ BK154 2, bc_ BK154 3, hx155_0, hx155_1⟩ (fun hHeld => ?_); refine with_tabW spec_EarHear.tab12 spec_EarHear.bits12 (fun HT_ HW_ => ?_)
               generalize wr.drew = w68 at HO_8 HO_155002 BK133 BK134 BK154 HB hx155_0 hx155_1 hHeld ⊢
               refine pu_ (i := 0) (N := some 68) HT_ ?_; refine pu_ (i := 1) (N := some 69) HT_ ?_; refine pu_ (i := 2) (N := some 70) HT_ ?_; refine pu_ (i := 3) (N := some 71) HT_ ?_; refine pu_ (i := 4) (N := some 72) HT_ ?_; refine pu_ (i := 5) (N := some 73) HT_ ?_; refine pu_ (i := 6) (N := some 74) HT_ ?_; refine pu_ (i := 7) (N := some 75) HT_ ?_; refine pu_ (i := 8) (N := some 76) HT_ ?_; refine pu_ (i := 10) (N := some 78) HT_ ?_; refine tk_ (i := 9) (N := some 77) HT_ HW_ hHeld ?_; refine tk_ (i := 11) (N := some 79) HT_ HW_ hHeld ?_; refine pu_ (i := 12) (N := some 80) HT_ ?_; refine pu_ (i := 13) (N := some 81) HT_ ?_
               refine done_ (done_of HT_.out (by kernel_rfl)) ?_
               try go_wp2
               go_meet
               case rel => exact ⟨_, (x11_3), (x155000_3), (x155002_3), (u155002), (by first | rfl | (simp; done) | (simp [*]; done)), H', ⟨by have := HJ3.out; have := HK2.out; have := HK3.out; first | omega | exact Nat.le_refl _⟩, ⟨kR_ HO_8.out⟩, ⟨kR_ HO_155002.out⟩, ⟨by refine kb_ ?_; exact BK133.out⟩, ⟨by refine kb_ ?_; exact BK134.out⟩, ⟨by refine kb_ ?_; exact BK154.out⟩, ⟨hbA_ HB.out⟩⟩
             ·rw [if_neg c56] at H
              exact absurd H (by simp)
            ·rw [if_neg c55] at H
             have c55b0 : decide (x11_3 < (x8_2.length : Int)) = false := decide_eq_false c55
             clear c55
             (first | rw [c55b0] | (simp only [i64_w, i32_w]; rw [c55b0]) | skip)
             have H' := Aside0.mk H
             clear H
             try go_wp2
             replace HO_8 := Aside0.mk (Kd.R_drew HO_8.out); replace HO_155002 := Aside0.mk (Kd.R_drew HO_155002.out); replace BK133 := Aside0.mk (blk_drew BK133.out); replace BK134 := Aside0.mk (blk_drew BK134.out); replace BK154 := Aside0.mk (blk_drew BK154.out); replace HB := (bd_ HB)
             obtain ⟨Ao71, co71, eo71⟩ := Kd.R_slice HO_8.out
             (first | subst eo71 | (injection eo71 with f1_ f2_ f3_; have f4_ := f1_.symm; have f5_ := f3_.symm; clear f1_ f2_ f3_; subst f4_; subst f5_))
             refine start_ (n := 14) (S := fun w' => True) (ds := []) #[false, false, false, false, false, false, false, false, false, false, false, false, false, false] (by kernel_rfl) rfl rfl trivial (fun hHeld => ?_); refine with_tabW spec_EarHear.tab12 spec_EarHear.bits12 (fun HT_ HW_ => ?_)
             generalize wr.drew = w70 at HO_8 HO_155002 BK133 BK134 BK154 HB hHeld ⊢
             refine pu_ (i := 0) (N := some 68) HT_ ?_; refine pu_ (i := 1) (N := some 69) HT_ ?_; refine pu_ (i := 2) (N := some 70) HT_ ?_; refine pu_ (i := 3) (N := some 71) HT_ ?_; refine pu_ (i := 4) (N := some 72) HT_ ?_; refine pn_ (i := 5) (N := some 73) HT_ ?_; refine pn_ (i := 6) (N := some 74) HT_ ?_; refine pn_ (i := 7) (N := some 75) HT_ ?_; refine pn_ (i := 8) (N := some 76) HT_ ?_; refine pn_ (i := 9) (N := some 77) HT_ ?_; refine pn_ (i := 10) (N := some 78) HT_ ?_; refine pn_ (i := 11) (N := some 79) HT_ ?_; refine pn_ (i := 12) (N := some 80) HT_ ?_; refine pu_ (i := 13) (N := some 81) HT_ ?_
             refine done_ (done_of HT_.out (by kernel_rfl)) ?_
             try go_wp2
             go_meet
             case rel => exact ⟨_, (x11_3), (x155000_3), (x155002_3), (u155002), (by first | rfl | (simp; done) | (simp [*]; done)), H', ⟨by have := HJ3.out; have := HK2.out; have := HK3.out; first | omega | exact Nat.le_refl _⟩, ⟨kR_ HO_8.out⟩, ⟨kR_ HO_155002.out⟩, ⟨by refine kb_ ?_; exact BK133.out⟩, ⟨by refine kb_ ?_; exact BK134.out⟩, ⟨by refine kb_ ?_; exact BK154.out⟩, ⟨hbA_ HB.out⟩⟩
         case rest =>
          clear HC42; (try clear p1); (try clear q1); (try clear hx1); (try clear p2); (try clear c5); (try clear c6); (try clear p6); (try clear p15); (try clear q15); (try clear hx15); (try clear c55); (try clear c55b0); (try clear c56); (try clear c57); (try clear c57b0); (try clear c57b1); (try clear c58); (try clear p64); (try clear c65); (try clear c66); (try clear Z67); (try clear hx155_0); (try clear hx155_1); (try clear hx156_0); (try clear hx156_1); (try clear p155); (try clear p156); (try clear q155); (try clear q156)
          obtain ⟨kq, x11_41, x155000_41, x155002_41, u155002, rfl, HA, HJ41, HO_8, HO_155002, BK133, BK134, BK154, HB⟩ := hcut
          cases kq with
          | zero => exact absurd HA.out (by simp [spec_EarHear.j3])
          | succ kj41 =>
           have H := HA.out; clear HA
           simp only [spec_EarHear.j3] at H
           by_cases c72 : 0 ≤ x11_41
           ·rw [if_pos c72] at H
            have c72b0 := eq_true c72
            have c72b1 : decide (0 ≤ x11_41) = true := decide_eq_true c72
            clear c72
            by_cases c73 : x11_41 ≤ (x8_2.length : Int)
            ·rw [if_pos c73] at H
             have c73b0 := eq_true c73
             have c73b1 : decide (x11_41 ≤ (x8_2.length : Int)) = true := decide_eq_true c73
             clear c73
             obtain ⟨y160, hy160⟩ : ∃ y_ : List (S96), y_ = (x8_2.drop (x11_41 : Int).toNat) := ⟨_, rfl⟩
             (first | replace H := sb_ hy160 H | rw [← hy160] at H)
             have Ny160 := Aside0.mk hy160; clear hy160
             by_cases c74 : x155000_41 > 1000000
             ·rw [if_pos c74] at H
              have c74b0 : decide (1000000 < x155000_41) = true := decide_eq_true c74
              clear c74
              simp only [Option.some.injEq, Prod.mk.injEq] at H
              obtain ⟨rfl, rfl, rfl, rfl⟩ := H
              obtain ⟨Ao75, co75, eo75⟩ := Kd.R_slice HO_8.out
              subst eo75
              have q76 : (x11_41 : Int) ≤ ((x8_2.length : Int) : Int) := of_decide_eq_true (by first | (with_reducible assumption) | assumption)
              obtain ⟨i076, hi076, _, hsz76, _⟩ := info_parts info96
              have hcut76 := cut_from (P := Try.prog) 46 96 .i64 Try.underlying46 hi076 2 hsz76 Ao75 x8_2.length co75 x11_41 (of_decide_eq_true (by first | (with_reducible assumption) | assumption)) q76
              have hr76 := Kd.Q_drop (k := (x11_41 : Int).toNat) (Kd.Q_of_R HO_8.out) (by omega)
              obtain ⟨A76, hA76⟩ : ∃ A1, A1 = (if co75 = (x11_41 : Int).toNat then Ao75 else (Ao75 : Option Addr).map (·.add ((x11_41 : Int).toNat * 2))) := ⟨_, rfl⟩
              obtain ⟨c76, hc76⟩ : ∃ c1, c1 = co75 - (x11_41 : Int).toNat := ⟨_, rfl⟩
              have hy76 : y160.length = x8_2.length - (x11_41 : Int).toNat := (by rw [Ny160.out, List.length_drop])
              rw [← Ny160.out] at hr76
              rw [← hy76, ← hA76, ← hc76] at hcut76
              replace hr76 : Kd.Q k96 96 wc w.heap.size (fun _ => True) (.slice A76 y160.length c76) y160 := (by rw [hA76, hc76, hy76]; exact hr76)
              have HE76 : Aside0 ((Value.slice A76 y160.length c76).ownBlock = (.slice Ao75 x8_2.length co75 : Value).ownBlock) := ⟨by rw [hA76]; split <;> (cases (Ao75 : Option Addr) <;> first | rfl | simp [Value.ownBlock, add_block])⟩
              clear hy76 hi076 hsz76 HO_8 hA76 hc76; have HO162 := Aside0.mk hr76; clear hr76
              replace q76 := eq_true q76
              have hnb77 := NB154_133.out; have hnc77 := NB133_154.out; have hnb78 := NB154_134.out; have hnc78 := NB134_154.out; have Z79 := zz4 BK154; have hnb80 := NB134_133.out; have hnc80 := NB133_134.out; have Z81 := zz4 BK134
              go_wp2
              refine bodyPost_ret (results_cell_row rfl _ _ gb134 48 #[.int .i64 0, .int .i64 0, .slice none 0 0, .slice none 0 0] (0, 0) _ rfl (by refine kb_ ?_; refine pz4 (cs := #[.int .i64 0, .int .i64 0, .slice none 0 0, .slice none 0 0]) ?_; exact kf_ BK134.out) Try.underlying48 rfl (by kernel_rfl)) rfl ?_
              exact ⟨_, _, by first | rfl | (simp [errW_none, errW_some] <;> rfl) | (simp [*, errW_none, errW_some] <;> rfl), by first | exact Kd.R_nil _ _ _ _ _ | exact Kd.N_nil _ _ _ _ _ | exact Kd.V_nil _ _ _ _ _ | exact Kd.Q_nil _ _ _ _ _ | exact Kd.S_nil _ _ _ _ _, Kd.Q_of_R (by first | exact Kd.R_nil _ _ _ _ _ | exact Kd.N_nil _ _ _ _ _ | exact Kd.V_nil _ _ _ _ _ | exact Kd.Q_nil _ _ _ _ _ | exact Kd.S_nil _ _ _ _ _), hbA_ HB.out⟩
             ·rw [if_neg c74] at H
              have c74b0 : decide (1000000 < x155000_41) = false := decide_eq_false c74
              clear c74
              simp only [Option.some.injEq, Prod.mk.injEq] at H
              obtain ⟨rfl, rfl, rfl, rfl⟩ := H
              obtain ⟨Ao82, co82, eo82⟩ := Kd.R_slice HO_8.out
              subst eo82
              have q83 : (x11_41 : Int) ≤ ((x8_2.length : Int) : Int) := of_decide_eq_true (by first | (with_reducible assumption) | assumption)
              obtain ⟨i083, hi083, _, hsz83, _⟩ := info_parts info96
              have hcut83 := cut_from (P := Try.prog) 46 96 .i64 Try.underlying46 hi083 2 hsz83 Ao82 x8_2.length co82 x11_41 (of_decide_eq_true (by first | (with_reducible assumption) | assumption)) q83
              have hr83 := Kd.Q_drop (k := (x11_41 : Int).toNat) (Kd.Q_of_R HO_8.out) (by omega)
              obtain ⟨A83, hA83⟩ : ∃ A1, A1 = (if co82 = (x11_41 : Int).toNat then Ao82 else (Ao82 : Option Addr).map (·.add ((x11_41 : Int).toNat * 2))) := ⟨_, rfl⟩
              obtain ⟨c83, hc83⟩ : ∃ c1, c1 = co82 - (x11_41 : Int).toNat := ⟨_, rfl⟩
              have hy83 : y160.length = x8_2.length - (x11_41 : Int).toNat := (by rw [Ny160.out, List.length_drop])
              rw [← Ny160.out] at hr83
              rw [← hy83, ← hA83, ← hc83] at hcut83
              replace hr83 : Kd.Q k96 96 wc w.heap.size (fun _ => True) (.slice A83 y160.length c83) y160 := (by rw [hA83, hc83, hy83]; exact hr83)
              have HE83 : Aside0 ((Value.slice A83 y160.length c83).ownBlock = (.slice Ao82 x8_2.length co82 : Value).ownBlock) := ⟨by rw [hA83]; split <;> (cases (Ao82 : Option Addr) <;> first | rfl | simp [Value.ownBlock, add_block])⟩
              clear hy83 hi083 hsz83 HO_8 hA83 hc83; have HO162 := Aside0.mk hr83; clear hr83
              replace q83 := eq_true q83
              have hnb84 := NB154_133.out; have hnc84 := NB133_154.out; have hnb85 := NB154_134.out; have hnc85 := NB134_154.out; have Z86 := zz4 BK154; have hnb87 := NB134_133.out; have hnc87 := NB133_134.out; have Z88 := zz4 BK134
              obtain ⟨Ao89, co89, eo89⟩ := Kd.R_slice HO_155002.out
              subst eo89
              go_wp2
              refine bodyPost_ret (results_cell_row rfl _ _ gb134 48 #[.int .i64 x155000_41, .int .i64 a0_1, .slice Ao89 x155002_41.length co89, .slice A83 y160.length c83] (0, 0) _ rfl (by refine kb_ ?_; refine pz4 (cs := #[.int .i64 0, .int .i64 0, .slice none 0 0, .slice none 0 0]) ?_; exact kf_ BK134.out) Try.underlying48 rfl (by kernel_rfl)) rfl ?_
              exact ⟨_, _, by first | rfl | (simp [errW_none, errW_some] <;> rfl) | (simp [*, errW_none, errW_some] <;> rfl), by refine kR_ ?_; exact rfm_ ((Kd.R_far (p := ⟨gb154, 3, none⟩) (Kd.R_types (Kd.R_types HO_155002.out BK154.out (by decide)) BK134.out (by decide)) (fun _ hk => hk.1.2) (.slice A83 y160.length c83))) (fun _ hk => trivial), by (with_reducible repeat (first | apply Kd.Q_alloc | apply Kd.Q_drewN | apply Kd.Q_drew)); exact Kd.Q_mono (Kd.Q_far (p := ⟨gb134, 3, none⟩) (Kd.Q_far (p := ⟨gb134, 2, none⟩) (Kd.Q_far (p := ⟨gb134, 1, none⟩) (Kd.Q_far (p := ⟨gb134, 0, none⟩) (Kd.Q_far (p := ⟨gb154, 3, none⟩) (Kd.Q_types (Kd.Q_types HO162.out BK154.out (by decide)) BK134.out (by decide)) (fun _ hk => hk.1.2) (.slice A83 y160.length c83)) (fun _ hk => hk.2) (.int .i64 x155000_41)) (fun _ hk => hk.2) (.int .i64 a0_1)) (fun _ hk => hk.2) (.slice Ao89 x155002_41.length co89)) (fun _ hk => hk.2) (.slice A83 y160.length c83)) (fun _ hk => trivial), hbA_ HB.out⟩
            ·rw [if_neg c73] at H
             exact absurd H (by simp)
           ·rw [if_neg c72] at H
            exact absurd H (by simp)
        ·rw [if_neg c41] at H
         exact absurd H (by simp)
    ·rw [if_neg c20] at H
     exact absurd H (by simp)
def laws_toByteS.l0 : Nat → List Int → List Int → Int → Option (List Int)
 | 0, _, _, _ => none
 | k + 1, x0, x3, x4 => if x4 < (x0.length : Int) then (if 0 ≤ x4 then (if x4 < (x3.length : Int) then (laws_toByteS.l0 k x0 (x3.set (x4 : Int).toNat (rd x0 x4)) (wrap64 (x4 + 1))) else (none)) else (none)) else (some x3)
def laws_toByteS.f (k : Nat) (l0 : List Int) : Option (List Int) := if 0 ≤ (l0.length : Int) then (if ((l0.length : Int) : Int).toNat ≤ 281474976710656 then (laws_toByteS.l0 k l0 (List.replicate ((l0.length : Int) : Int).toNat 0) 0) else (none)) else (none)
theorem laws_toByteS.mono_l : ∀ k, (∀ y0 y1 y2, LeO (laws_toByteS.l0 k y0 y1 y2) (laws_toByteS.l0 (k + 1) y0 y1 y2))
 | 0 => fun _ _ _ r h => by simp [laws_toByteS.l0] at h
 | k + 1 => by
  have ih0 := laws_toByteS.mono_l k
  ·intro y0 y1 y2
   unfold laws_toByteS.l0
   repeat' first | (with_reducible first | apply ih0 | exact LeO.refl _ | exact LeO.none _ | refine LeO.ite ?_ ?_ | refine LeO.bind ?_ fun _ => ?_) | apply ih0 | exact LeO.none _ | refine LeO.ite ?_ ?_ | refine LeO.bind ?_ fun _ => ?_
theorem laws_toByteS.mono : ∀ a0 k, LeO (laws_toByteS.f k a0) (laws_toByteS.f (k + 1) a0) := by
 intro a0 k
 have ih0 := laws_toByteS.mono_l k
 unfold laws_toByteS.f
 repeat' first | (with_reducible first | apply ih0 | exact LeO.refl _ | exact LeO.none _ | refine LeO.ite ?_ ?_ | refine LeO.bind ?_ fun _ => ?_) | apply ih0 | exact LeO.none _ | refine LeO.ite ?_ ?_ | refine LeO.bind ?_ fun _ => ?_
set_option maxHeartbeats 8000000 in
set_option maxRecDepth 100000 in
theorem laws_toByteS.calls (k : Nat) (A0 : Option Addr) (c0 : Nat) (l0 : List Int) (r : List Int) (w : World) (hr0 : Kd.C (Kd.int .u8) w A0 l0.length l0) (hc0 : l0.length ≤ c0) (h : laws_toByteS.f k l0 = some r) :
  Calls Try.prog 26 #[.slice A0 l0.length c0] w fun e w' => ∃ v0_ : Value, e = .returned (v0_) ∧ Kd.R (Kd.int .u8) 5 w' w.heap.size (fun _ => True) v0_ r ∧ Below w.heap.size w w' := by
 have HR0 := Aside0.mk hr0; have HC0 := Aside0.mk hc0; clear hr0 hc0
 have HB := Aside0.mk (Below.refl w.heap.size w)
 have H : (if 0 ≤ (l0.length : Int) then (if ((l0.length : Int) : Int).toNat ≤ 281474976710656 then (laws_toByteS.l0 k l0 (List.replicate ((l0.length : Int) : Int).toNat 0) 0) else (none)) else (none)) = some r := h
 clear h
 by_cases c2 : 0 ≤ (l0.length : Int)
 ·rw [if_pos c2] at H
  have c2b0 := eq_true c2
  have c2b1 : decide (0 ≤ (l0.length : Int)) = true := decide_eq_true c2
  clear c2
  by_cases c3 : ((l0.length : Int) : Int).toNat ≤ 281474976710656
  ·rw [if_pos c3] at H
   have c3b0 := eq_true c3
   have c3b1 : decide (((l0.length : Int) : Int).toNat ≤ 281474976710656) = true := decide_eq_true c3
   clear c3
   obtain ⟨y163, hy163⟩ : ∃ y_ : List Int, y_ = (List.replicate ((l0.length : Int) : Int).toNat 0) := ⟨_, rfl⟩
   (first | replace H := sb_ hy163 H | rw [← hy163] at H)
   have Ny163 := Aside0.mk hy163; clear hy163
   have H' := Aside0.mk H
   clear H
   go_enter Try.func26, Try.ntmps26
   go_wp2_with (first | ((with_reducible refine gate_dst (N := 7) rfl ?_); refine Kd.R_make (Kd.int .u8) _ 5 rfl (N := 7) rfl 22 _ _ rfl (l0.length : Int) rfl rfl Try.underlying22 (.int .u8 0) 1 info5 rfl (by decide) (by omega) 0 (ok := fun _ => True) (okp := fun _ => True) rfl (fun _ hk => hk) trivial (of_decide_eq_true (by first | (with_reducible assumption) | assumption)) (Nat.le_trans (Nat.mul_le_mul_right _ (of_decide_eq_true (by first | (with_reducible assumption) | assumption) : (l0.length : Int).toNat ≤ 281474976710656)) (by omega)) (Below.refl _ _) (Nat.le_refl _) ?_; intro v164 w4 ho5 hb hg_ hnew_; clear hg_ hnew_; (first | rw [← Ny163.out] at ho5 | (simp only [Int.reduceToNat] at ho5; rw [← Ny163.out] at ho5)); have HO165 := Aside0.mk (Kd.R_lower ho5 (below_size (hbA_ HB.out))); replace HB := (bs_ HB hb); clear hb ho5))
   go_loopg [4] k (fun kq v4 w' => ∃ (x3_1 : List Int) (x4_1 : Int), v4 = .int .i64 x4_1 ∧ Aside0 (laws_toByteS.l0 kq l0 x3_1 x4_1 = some r) ∧ Aside0 (kq ≤ k) ∧ Aside0 (Kd.R (Kd.int .u8) 5 w' w.heap.size (fun _ => True) v164 x3_1) ∧ Aside0 (Below w.heap.size w w'))
   case atStart => exact ⟨(y163), (0), (by first | rfl | (simp; done) | (simp [*]; done)), H', ⟨Nat.le_refl _⟩, ⟨kR_ HO165.out⟩, ⟨hbA_ HB.out⟩⟩
   case round =>
    clear H'; (try clear c2); (try clear c2b0); (try clear c2b1); (try clear p2); (try clear c3); (try clear c3b0); (try clear c3b1)
    obtain ⟨x3_1, x4_1, rfl, HA, HK1, HO_3, HB⟩ := hrel
    cases gk with
    | zero => exact absurd HA.out (by simp [laws_toByteS.l0])
    | succ k1 =>
     have H := HA.out; clear HA
     simp only [laws_toByteS.l0] at H
     by_cases c6 : x4_1 < (l0.length : Int)
     ·rw [if_pos c6] at H
      have c6b0 : decide (x4_1 < (l0.length : Int)) = true := decide_eq_true c6
      clear c6
      by_cases c7 : 0 ≤ x4_1
      ·rw [if_pos c7] at H
       have c7b0 : decide (0 ≤ x4_1) = true := decide_eq_true c7
       clear c7
       by_cases c8 : x4_1 < (x3_1.length : Int)
       ·rw [if_pos c8] at H
        have c8b0 : decide (x4_1 < (x3_1.length : Int)) = true := decide_eq_true c8
        clear c8
        obtain ⟨y167, hy167⟩ : ∃ y_ : List Int, y_ = (x3_1.set (x4_1 : Int).toNat (rd l0 x4_1)) := ⟨_, rfl⟩
        (first | replace H := sb_ hy167 H | rw [← hy167] at H)
        have Ny167 := Aside0.mk hy167; clear hy167
        have H' := Aside0.mk H
        clear H
        have p166 : 0 ≤ (x4_1 : Int) := of_decide_eq_true (by first | (with_reducible assumption) | assumption)
        have q166 : x4_1 < (l0.length : Int) := of_decide_eq_true (by first | (with_reducible assumption) | assumption)
        obtain ⟨ad166, e166, hx166_0⟩ := Kd.at_int HR0.out x4_1 p166 q166
        cases e166
        replace hx166_0 := cc_ HB hx166_0
        replace p166 := eq_true p166
        replace q166 := eq_true q166
        have p9 : 0 ≤ (x4_1 : Int) := of_decide_eq_true (by first | (with_reducible assumption) | assumption)
        have q9 : (x4_1 : Int) < ((x3_1.length : Int) : Int) := of_decide_eq_true (by first | (with_reducible assumption) | assumption)
        obtain ⟨go9, co9, eo9, gb9, gl9, cl9, HG9⟩ := Kd.R_form HO_3.out (by omega)
        (first | cases eo9 | (injection eo9 with ea_ en_ ec_; (first | subst ea_ | (injection ea_ with ea_; subst ea_)); subst ec_; clear en_))
        have GB9 := Aside0.mk gb9; have GG9 := Aside0.mk HG9; clear gb9 gl9 HG9
        obtain ⟨hx9_0, hf9_0⟩ := Kd.R_celln 0 HO_3.out (x4_1 : Int) p9 q9
        replace p9 := eq_true p9
        replace q9 := eq_true q9
        have HP10 := Kd.R_putg HO_3.out (x4_1 : Int) (rd l0 x4_1)
        go_wp2_with (first | ((with_reducible refine gate_store (t := 5) (p := 20) rfl ?_); refine store_event (t := 5) (p := 20) (v := ?vo_w11) (w1 := (wr.setCell ⟨go9, (x4_1 : Int).toNat, none⟩ (.int .u8 (rd l0 x4_1)))) ?hg ?ho ?hn ?hr ?_; (case ho => rfl); (case hg => rfl); (case hn => rfl); (case hr => first | (go_simp; done) | (go_simp; rfl)); intro w11 hw; have hg : wr.grownBy w11 (some go9) := (by rw [hw]; exact HP10.2); have hp_ : Kd.R (Kd.int .u8) 5 w11 w.heap.size (fun _ => True) (.slice (some ⟨go9, 0, none⟩) x3_1.length co9) y167 := (by rw [hw, Ny167.out]; exact HP10.1); clear HP10; replace HO_3 := Aside0.mk (hp_); replace HB := Aside0.mk ((by rw [hw]; exact below_set (HB.out) GB9.out : Below w.heap.size w w11)); clear hg hw hp_))
        go_roundg k1
        case measure => have := HK1.out; omega
        case rel => exact ⟨(y167), (wrap64 (x4_1 + 1)), (by first | rfl | (simp; done) | (simp [*]; done)), H', ⟨by have := HK1.out; omega⟩, ⟨kR_ HO_3.out⟩, ⟨hbA_ HB.out⟩⟩
       ·rw [if_neg c8] at H
        exact absurd H (by simp)
      ·rw [if_neg c7] at H
       exact absurd H (by simp)
     ·rw [if_neg c6] at H
      have c6b0 : decide (x4_1 < (l0.length : Int)) = false := decide_eq_false c6
      clear c6
      obtain rfl := Option.some.inj H
      go_wp2
      go_ret
      exact ⟨_, by first | rfl | (simp [errW_none, errW_some] <;> rfl) | (simp [*, errW_none, errW_some] <;> rfl), kR_ HO_3.out, hbA_ HB.out⟩
  ·rw [if_neg c3] at H
   exact absurd H (by simp)
 ·rw [if_neg c2] at H
  exact absurd H (by simp)
def laws_toEarly.f (a0_0 : Int) (a0_1 : Int) : Option (Int × Int) := some (a0_0, a0_1)
set_option maxHeartbeats 8000000 in
set_option maxRecDepth 100000 in
theorem laws_toEarly.calls (a0_0 : Int) (a0_1 : Int) (r1 : Int) (r2 : Int) (w : World) (h : laws_toEarly.f a0_0 a0_1 = some (r1, r2)) :
  Calls Try.prog 95 #[.agg #[.int .i64 a0_0, .int .u8 a0_1]] w fun e w' => e = .returned (.agg #[.int .i64 r1, .int .u8 r2]) ∧ Below w.heap.size w w' := by
 have hu121 := Try.underlying121; have hu96 := Try.underlying96
 have HB := Aside0.mk (Below.refl w.heap.size w)
 have H : (some (a0_0, a0_1)) = some (r1, r2) := h
 clear h
 simp only [Option.some.injEq, Prod.mk.injEq] at H
 obtain ⟨rfl, rfl⟩ := H
 go_enter Try.func95, Try.ntmps95
 go_wp2_with (first | ((with_reducible refine gate_dst (N := 1) rfl ?_); refine box_ (N := 1) (cs := #[.int .i64 a0_0, .int .u8 a0_1]) (t := 121) (fun gb168 hg w2 hbox hb => ?_); have BK168 := Aside0.mk (hbox); have GW168 := ge_ hg HB; have GE168 := ge_ hg HB; replace HB := (bs_ HB hb); clear hb hbox hg) | ((with_reducible refine gate_dst (N := 2) rfl ?_); refine box_ (N := 2) (cs := #[.int .i64 0, .int .u8 0]) (t := 96) (fun gb169 hg w3 hbox hb => ?_); have BK169 := Aside0.mk (hbox); have GW169 := ge_ hg HB; have GE169 := ge_ hg HB; replace HB := (bs_ HB hb); have NB168_169 := nl_ hg BK168; have NB169_168 := ng_ hg BK168; replace BK168 := (bbA_ BK168 hb); clear hb hbox hg) | ((with_reducible refine gate_dst (N := 3) rfl ?_); refine box_ (N := 3) (cs := #[.int .i64 0, .int .u8 0]) (t := 96) (fun gb170 hg w4 hbox hb => ?_); have BK170 := Aside0.mk (hbox); have GW170 := ge_ hg HB; have GE170 := ge_ hg HB; replace HB := (bs_ HB hb); have NB168_170 := nl_ hg BK168; have NB170_168 := ng_ hg BK168; replace BK168 := (bbA_ BK168 hb); have NB169_170 := nl_ hg BK169; have NB170_169 := ng_ hg BK169; replace BK169 := (bbA_ BK169 hb); clear hb hbox hg; have hnb5 := NB168_169.out; have hnc5 := NB169_168.out; have hnb6 := NB168_170.out; have hnc6 := NB170_168.out; have Z7 := zz2 BK168; have hnb8 := NB170_169.out; have hnc8 := NB169_170.out; have Z9 := zz2 BK170; have Z10 := zz2 BK169))
 refine bodyPost_ret (results_cell_row rfl _ _ gb169 96 #[.int .i64 a0_0, .int .u8 a0_1] (0, 0) _ rfl (by refine kb_ ?_; refine pz2 (cs := #[.int .i64 0, .int .u8 0]) ?_; exact kf_ BK169.out) Try.underlying96 rfl (by kernel_rfl)) rfl ?_
 exact ⟨by first | rfl | (simp [errW_none, errW_some] <;> rfl) | (simp [*, errW_none, errW_some] <;> rfl), hbA_ HB.out⟩
def laws_toEarlyS.l0 : Nat → List (S121) → List (S96) → Int → Option ((List (S96)))
 | 0, _, _, _ => none
 | k + 1, x0, x3, x4 => if x4 < (x0.length : Int) then (if 0 ≤ x4 then ((laws_toEarly.f ((rd_T121 x0 x4).f0) ((rd_T121 x0 x4).f1)).bind fun bt175 => (if x4 < (x3.length : Int) then (laws_toEarlyS.l0 k x0 (x3.set (x4 : Int).toNat (⟨bt175.1, bt175.2⟩ : S96)) (wrap64 (x4 + 1))) else (none))) else (none)) else (some x3)
def laws_toEarlyS.f (k : Nat) (l0 : List (S121)) : Option ((List (S96))) := if 0 ≤ (l0.length : Int) then (if ((l0.length : Int) : Int).toNat ≤ 17592186044416 then (laws_toEarlyS.l0 k l0 (List.replicate ((l0.length : Int) : Int).toNat z96) 0) else (none)) else (none)
theorem laws_toEarlyS.mono_l : ∀ k, (∀ y0 y1 y2, LeO (laws_toEarlyS.l0 k y0 y1 y2) (laws_toEarlyS.l0 (k + 1) y0 y1 y2))
 | 0 => fun _ _ _ r h => by simp [laws_toEarlyS.l0] at h
 | k + 1 => by
  have ih0 := laws_toEarlyS.mono_l k
  ·intro y0 y1 y2
   unfold laws_toEarlyS.l0
   repeat' first | (with_reducible first | apply ih0 | exact LeO.refl _ | exact LeO.none _ | refine LeO.ite ?_ ?_ | refine LeO.bind ?_ fun _ => ?_) | apply ih0 | exact LeO.none _ | refine LeO.ite ?_ ?_ | refine LeO.bind ?_ fun _ => ?_
theorem laws_toEarlyS.mono : ∀ a0 k, LeO (laws_toEarlyS.f k a0) (laws_toEarlyS.f (k + 1) a0) := by
 intro a0 k
 have ih0 := laws_toEarlyS.mono_l k
 unfold laws_toEarlyS.f
 repeat' first | (with_reducible first | apply ih0 | exact LeO.refl _ | exact LeO.none _ | refine LeO.ite ?_ ?_ | refine LeO.bind ?_ fun _ => ?_) | apply ih0 | exact LeO.none _ | refine LeO.ite ?_ ?_ | refine LeO.bind ?_ fun _ => ?_
set_option maxHeartbeats 8000000 in
set_option maxRecDepth 100000 in
theorem laws_toEarlyS.calls (k : Nat) (A0 : Option Addr) (c0 : Nat) (l0 : List (S121)) (r : List (S96)) (w : World) (hr0 : Kd.C k121 w A0 l0.length l0) (hc0 : l0.length ≤ c0) (h : laws_toEarlyS.f k l0 = some r) :
  Calls Try.prog 69 #[.slice A0 l0.length c0] w fun e w' => ∃ v0_ : Value, e = .returned (v0_) ∧ Kd.R k96 96 w' w.heap.size (fun _ => True) v0_ r ∧ Below w.heap.size w w' := by
 have hu121 := Try.underlying121; have hu96 := Try.underlying96; have HR0 := Aside0.mk hr0; have HC0 := Aside0.mk hc0; clear hr0 hc0
 have HB := Aside0.mk (Below.refl w.heap.size w)
 have H : (if 0 ≤ (l0.length : Int) then (if ((l0.length : Int) : Int).toNat ≤ 17592186044416 then (laws_toEarlyS.l0 k l0 (List.replicate ((l0.length : Int) : Int).toNat z96) 0) else (none)) else (none)) = some r := h
 clear h
 by_cases c2 : 0 ≤ (l0.length : Int)
 ·rw [if_pos c2] at H
  have c2b0 := eq_true c2
  have c2b1 : decide (0 ≤ (l0.length : Int)) = true := decide_eq_true c2
  clear c2
  by_cases c3 : ((l0.length : Int) : Int).toNat ≤ 17592186044416
  ·rw [if_pos c3] at H
   have c3b0 := eq_true c3
   have c3b1 : decide (((l0.length : Int) : Int).toNat ≤ 17592186044416) = true := decide_eq_true c3
   clear c3
   obtain ⟨y171, hy171⟩ : ∃ y_ : List (S96), y_ = (List.replicate ((l0.length : Int) : Int).toNat z96) := ⟨_, rfl⟩
   (first | replace H := sb_ hy171 H | rw [← hy171] at H)
   have Ny171 := Aside0.mk hy171; clear hy171
   have H' := Aside0.mk H
   clear H
   go_enter Try.func69, Try.ntmps69
   go_wp2_with (first | ((with_reducible refine gate_dst (N := 7) rfl ?_); refine Kd.R_make k96 _ 96 rfl (N := 7) rfl 46 _ _ rfl (l0.length : Int) rfl rfl Try.underlying46 (.agg #[(.int .i64 0), (.int .u8 0)]) 16 info96 rfl (by decide) (by omega) z96 (ok := fun _ => True) (okp := fun _ => True) (k96_mkM _ _ _ z96 ) (fun _ hk => hk) trivial (of_decide_eq_true (by first | (with_reducible assumption) | assumption)) (Nat.le_trans (Nat.mul_le_mul_right _ (of_decide_eq_true (by first | (with_reducible assumption) | assumption) : (l0.length : Int).toNat ≤ 17592186044416)) (by omega)) (Below.refl _ _) (Nat.le_refl _) ?_; intro v172 w4 ho5 hb hg_ hnew_; clear hg_ hnew_; (first | rw [← Ny171.out] at ho5 | (simp only [Int.reduceToNat] at ho5; rw [← Ny171.out] at ho5)); have HO173 := Aside0.mk (Kd.R_lower ho5 (below_size (hbA_ HB.out))); replace HB := (bs_ HB hb); clear hb ho5))
   go_loopg [4] k (fun kq v4 w' => ∃ (x3_1 : List (S96)) (x4_1 : Int), v4 = .int .i64 x4_1 ∧ Aside0 (laws_toEarlyS.l0 kq l0 x3_1 x4_1 = some r) ∧ Aside0 (kq ≤ k) ∧ Aside0 (Kd.R k96 96 w' w.heap.size (fun _ => True) v172 x3_1) ∧ Aside0 (Below w.heap.size w w'))
   case atStart => exact ⟨(y171), (0), (by first | rfl | (simp; done) | (simp [*]; done)), H', ⟨Nat.le_refl _⟩, ⟨kR_ HO173.out⟩, ⟨hbA_ HB.out⟩⟩
   case round =>
    clear H'; (try clear c2); (try clear c2b0); (try clear c2b1); (try clear p2); (try clear c3); (try clear c3b0); (try clear c3b1)
    obtain ⟨x3_1, x4_1, rfl, HA, HK1, HO_3, HB⟩ := hrel
    cases gk with
    | zero => exact absurd HA.out (by simp [laws_toEarlyS.l0])
    | succ k1 =>
     have H := HA.out; clear HA
     simp only [laws_toEarlyS.l0] at H
     by_cases c6 : x4_1 < (l0.length : Int)
     ·rw [if_pos c6] at H
      have c6b0 : decide (x4_1 < (l0.length : Int)) = true := decide_eq_true c6
      clear c6
      by_cases c7 : 0 ≤ x4_1
      ·rw [if_pos c7] at H
       have c7b0 : decide (0 ≤ x4_1) = true := decide_eq_true c7
       clear c7
       replace H := Option.bind_eq_some_iff.mp H
       obtain ⟨⟨t175, t176⟩, A80, H⟩ := H
       (try dsimp only at H)
       have A8 := Aside0.mk A80; clear A80
       by_cases c9 : x4_1 < (x3_1.length : Int)
       ·rw [if_pos c9] at H
        have c9b0 : decide (x4_1 < (x3_1.length : Int)) = true := decide_eq_true c9
        clear c9
        obtain ⟨y177, hy177⟩ : ∃ y_ : List (S96), y_ = (x3_1.set (x4_1 : Int).toNat (⟨t175, t176⟩ : S96)) := ⟨_, rfl⟩
        (first | replace H := sb_ hy177 H | rw [← hy177] at H)
        have Ny177 := Aside0.mk hy177; clear hy177
        have H' := Aside0.mk H
        clear H
        have p174 : 0 ≤ (x4_1 : Int) := of_decide_eq_true (by first | (with_reducible assumption) | assumption)
        have q174 : x4_1 < (l0.length : Int) := of_decide_eq_true (by first | (with_reducible assumption) | assumption)
        obtain ⟨ad174, e174, hx174_0, hx174_1⟩ := at_T121 HR0.out x4_1 p174 q174
        cases e174
        replace hx174_0 := cc_ HB hx174_0
        replace hx174_1 := cc_ HB hx174_1
        replace p174 := eq_true p174
        replace q174 := eq_true q174
        go_wp2_with (first | ((with_reducible refine gate_callee (f := 95) rfl ?_); refine goesL_ (some 20) rfl rfl Try.func95 (by kernel_rfl) rfl #[.agg #[.int .i64 ((rd_T121 l0 x4_1).f0), .int .u8 ((rd_T121 l0 x4_1).f1)]] rfl ar_ ?_; (with_reducible refine (laws_toEarly.calls ((rd_T121 l0 x4_1).f0) ((rd_T121 l0 x4_1).f1) t175 t176 _ A8.out).mono ?_); rintro e w11 ⟨rfl, hb⟩; refine ⟨_, rfl, ?_⟩; replace HO_3 := Aside0.mk (Kd.R_below (kR_ HO_3.out) hb); replace HB := (bs_ HB hb); (try clear hb); (try clear hb2); (try clear hk); (try clear hi); have p10 : 0 ≤ (x4_1 : Int) := of_decide_eq_true (by first | (with_reducible assumption) | assumption); have q10 : (x4_1 : Int) < ((x3_1.length : Int) : Int) := of_decide_eq_true (by first | (with_reducible assumption) | assumption); obtain ⟨go10, co10, eo10, gb10, gl10, cl10, HG10⟩ := Kd.R_form HO_3.out (by omega); (first | cases eo10 | (injection eo10 with ea_ en_ ec_; (first | subst ea_ | (injection ea_ with ea_; subst ea_)); subst ec_; clear en_)); have GB10 := Aside0.mk gb10; have GG10 := Aside0.mk HG10; clear gb10 gl10 HG10; obtain ⟨ce10, hcl10, hM10, hcc10, hfr10⟩ := Kd.R_elem HO_3.out z96 (x4_1 : Int) p10 q10; obtain rfl := k96_openM hM10; have hx10_0 : w11.cell? ⟨go10, (x4_1 : Int).toNat * 2, none⟩ = some (.int .i64 ((rd_T96 x3_1 x4_1).f0)) := hcc10 0 _ rfl; have hx10_1 : w11.cell? ⟨go10, (x4_1 : Int).toNat * 2 + 1, none⟩ = some (.int .u8 ((rd_T96 x3_1 x4_1).f1)) := hcc10 1 _ rfl; have hf10_0 : w11.frozen? ⟨go10, (x4_1 : Int).toNat * 2, none⟩ = false := hfr10 0; have hf10_1 : w11.frozen? ⟨go10, (x4_1 : Int).toNat * 2 + 1, none⟩ = false := hfr10 1; clear hcl10 hcc10 hfr10 hM10; replace p10 := eq_true p10; replace q10 := eq_true q10; have HX12 := Aside0.mk (show Kd.R k96 96 w11 w.heap.size (fun _ => True) (.slice (some ⟨go10, 0, none⟩) x3_1.length co10) x3_1 from (kR_ HO_3.out)); obtain ⟨ce12, hcl12, hM12, hcc12, hfr12⟩ := Kd.R_elem HX12.out z96 (x4_1 : Int) (of_decide_eq_true (by first | (with_reducible assumption) | assumption)) (by have h_ : (x4_1 : Int) < ((x3_1.length : Int) : Int) := of_decide_eq_true (by first | (with_reducible assumption) | assumption); first | exact h_ | (have e_ := (Kd.R_reads' HO_3.out).1; omega) | simpa using h_); obtain rfl := k96_openM hM12; have HP12 := Kd.R_seg HX12.out (x4_1 : Int) (of_decide_eq_true (by first | (with_reducible assumption) | assumption)) (by have h_ : (x4_1 : Int) < ((x3_1.length : Int) : Int) := of_decide_eq_true (by first | (with_reducible assumption) | assumption); first | exact h_ | (have e_ := (Kd.R_reads' HO_3.out).1; omega) | simpa using h_) (seg := [.int .i64 t175, .int .u8 t176]) (j := 0) hcl12 hcc12 (show 2 ≤ 2 from by decide) (x' := (⟨t175, t176⟩ : S96)) (k96_mkM _ _ _ (⟨t175, t176⟩ : S96) ) (fun _ hk => hk); have hx12_0 := hcc12 0 _ rfl; (try simp only [show (k96).sz = 2 from rfl, Nat.mul_one, Nat.add_zero] at hx12_0); have hf12_0 := hfr12 0; (try simp only [show (k96).sz = 2 from rfl, Nat.mul_one, Nat.add_zero] at hf12_0); have hx12_1 := hcc12 1 _ rfl; (try simp only [show (k96).sz = 2 from rfl, Nat.mul_one, Nat.add_zero] at hx12_1); have hf12_1 := hfr12 1; (try simp only [show (k96).sz = 2 from rfl, Nat.mul_one, Nat.add_zero] at hf12_1); clear hcl12 hcc12 hfr12 hM12) | ((with_reducible refine gate_store (t := 96) (p := 21) rfl ?_); refine store_event (t := 96) (p := 21) (v := ?vo_w13) (w1 := ((w11.setCell ⟨go10, (x4_1 : Int).toNat * 2, none⟩ (.int .i64 t175)).setCell ⟨go10, (x4_1 : Int).toNat * 2 + 1, none⟩ (.int .u8 t176))) ?hg ?ho ?hn ?hr ?_; (case ho => rfl); (case hg => rfl); (case hn => rfl); (case hr => first | (go_simp; done) | (go_simp; rfl)); intro w13 hw; have hg : w11.grownBy w13 (some go10) := (by rw [hw]; exact HP12.2); have hp_ : Kd.R k96 96 w13 w.heap.size (fun _ => True) (.slice (some ⟨go10, 0, none⟩) x3_1.length co10) y177 := (by rw [hw, Ny177.out]; exact HP12.1); clear HP12; replace HO_3 := Aside0.mk (hp_); replace HB := Aside0.mk ((by rw [hw]; exact below_set (below_set (HB.out) GB10.out) GB10.out : Below w.heap.size w w13)); clear hg hw hp_))
        go_roundg k1
        case measure => have := HK1.out; omega
        case rel => exact ⟨(y177), (wrap64 (x4_1 + 1)), (by first | rfl | (simp; done) | (simp [*]; done)), H', ⟨by have := HK1.out; omega⟩, ⟨kR_ HO_3.out⟩, ⟨hbA_ HB.out⟩⟩
       ·rw [if_neg c9] at H
        exact absurd H (by simp)
      ·rw [if_neg c7] at H
       exact absurd H (by simp)
     ·rw [if_neg c6] at H
      have c6b0 : decide (x4_1 < (l0.length : Int)) = false := decide_eq_false c6
      clear c6
      obtain rfl := Option.some.inj H
      go_wp2
      go_ret
      exact ⟨_, by first | rfl | (simp [errW_none, errW_some] <;> rfl) | (simp [*, errW_none, errW_some] <;> rfl), kR_ HO_3.out, hbA_ HB.out⟩
  ·rw [if_neg c3] at H
   exact absurd H (by simp)
 ·rw [if_neg c2] at H
  exact absurd H (by simp)
def laws_toEar.f (k : Nat) (a0_0 : Int) (a0_1 : Int) (l0_2 : List Int) (l0_3 : List (S121)) : Option (Int × Int × List Int × (List (S96))) := (laws_toByteS.f k l0_2).bind fun t181 => ((laws_toEarlyS.f k l0_3).bind fun t184 => (some (a0_0, a0_1, t181, t184)))
theorem laws_toEar.mono : ∀ a0 a1 a2 a3 k, LeO (laws_toEar.f k a0 a1 a2 a3) (laws_toEar.f (k + 1) a0 a1 a2 a3) := by
 intro a0 a1 a2 a3 k
 unfold laws_toEar.f
 repeat' first | (with_reducible first | apply laws_toByteS.mono | apply laws_toEarlyS.mono | exact LeO.refl _ | exact LeO.none _ | refine LeO.ite ?_ ?_ | refine LeO.bind ?_ fun _ => ?_) | apply laws_toByteS.mono | apply laws_toEarlyS.mono | exact LeO.none _ | refine LeO.ite ?_ ?_ | refine LeO.bind ?_ fun _ => ?_
set_option maxHeartbeats 8000000 in
set_option maxRecDepth 100000 in
theorem laws_toEar.calls (k : Nat) (a0_0 : Int) (a0_1 : Int) (A0_2 : Option Addr) (c0_2 : Nat) (l0_2 : List Int) (A0_3 : Option Addr) (c0_3 : Nat) (l0_3 : List (S121)) (r1 : Int) (r2 : Int) (r3 : List Int) (r4 : List (S96)) (w : World) (hr0_2 : Kd.C (Kd.int .u8) w A0_2 l0_2.length l0_2) (hc0_2 : l0_2.length ≤ c0_2) (hr0_3 : Kd.C k121 w A0_3 l0_3.length l0_3) (hc0_3 : l0_3.length ≤ c0_3) (h : laws_toEar.f k a0_0 a0_1 l0_2 l0_3 = some (r1, r2, r3, r4)) :
  Calls Try.prog 25 #[.agg #[.int .i64 a0_0, .int .i64 a0_1, .slice A0_2 l0_2.length c0_2, .slice A0_3 l0_3.length c0_3]] w fun e w' => ∃ v2_ v3_ : Value, e = .returned (.agg #[.int .i64 r1, .int .i64 r2, v2_, v3_]) ∧ Kd.R (Kd.int .u8) 5 w' w.heap.size (fun _ => True) v2_ r3 ∧ Kd.R k96 96 w' w.heap.size (fun _ => True) v3_ r4 ∧ Below w.heap.size w w' := by
 have hu44 := Try.underlying44; have hu48 := Try.underlying48; have HR0_2 := Aside0.mk hr0_2; have HC0_2 := Aside0.mk hc0_2; clear hr0_2 hc0_2; have HR0_3 := Aside0.mk hr0_3; have HC0_3 := Aside0.mk hc0_3; clear hr0_3 hc0_3
 have HB := Aside0.mk (Below.refl w.heap.size w)
 have H : ((laws_toByteS.f k l0_2).bind fun t181 => ((laws_toEarlyS.f k l0_3).bind fun t184 => (some (a0_0, a0_1, t181, t184)))) = some (r1, r2, r3, r4) := h
 clear h
 replace H := Option.bind_eq_some_iff.mp H
 obtain ⟨t181, A20, H⟩ := H
 (try dsimp only at H)
 have A2 := Aside0.mk A20; clear A20
 replace H := Option.bind_eq_some_iff.mp H
 obtain ⟨t184, A30, H⟩ := H
 (try dsimp only at H)
 have A3 := Aside0.mk A30; clear A30
 simp only [Option.some.injEq, Prod.mk.injEq] at H
 obtain ⟨rfl, rfl, rfl, rfl⟩ := H
 go_enter Try.func25, Try.ntmps25
 go_wp2_with (first | ((with_reducible refine gate_dst (N := 1) rfl ?_); refine box_ (N := 1) (cs := #[.int .i64 a0_0, .int .i64 a0_1, .slice A0_2 l0_2.length c0_2, .slice A0_3 l0_3.length c0_3]) (t := 44) (fun gb178 hg w4 hbox hb => ?_); have BK178 := Aside0.mk (hbox); have GW178 := ge_ hg HB; have GE178 := ge_ hg HB; replace HB := (bs_ HB hb); clear hb hbox hg) | ((with_reducible refine gate_dst (N := 2) rfl ?_); refine box_ (N := 2) (cs := #[.int .i64 0, .int .i64 0, .slice none 0 0, .slice none 0 0]) (t := 48) (fun gb179 hg w5 hbox hb => ?_); have BK179 := Aside0.mk (hbox); have GW179 := ge_ hg HB; have GE179 := ge_ hg HB; replace HB := (bs_ HB hb); have NB178_179 := nl_ hg BK178; have NB179_178 := ng_ hg BK178; replace BK178 := (bbA_ BK178 hb); clear hb hbox hg) | ((with_reducible refine gate_dst (N := 3) rfl ?_); refine box_ (N := 3) (cs := #[.int .i64 0, .int .i64 0, .slice none 0 0, .slice none 0 0]) (t := 48) (fun gb180 hg w6 hbox hb => ?_); have BK180 := Aside0.mk (hbox); have GW180 := ge_ hg HB; have GE180 := ge_ hg HB; replace HB := (bs_ HB hb); have NB178_180 := nl_ hg BK178; have NB180_178 := ng_ hg BK178; replace BK178 := (bbA_ BK178 hb); have NB179_180 := nl_ hg BK179; have NB180_179 := ng_ hg BK179; replace BK179 := (bbA_ BK179 hb); clear hb hbox hg; have hnb7 := NB178_179.out; have hnc7 := NB179_178.out; have hnb8 := NB178_180.out; have hnc8 := NB180_178.out; have Z9 := zz4 BK178; have hnb10 := NB180_179.out; have hnc10 := NB179_180.out; have Z11 := zz4 BK180) | ((with_reducible refine gate_callee (f := 26) rfl ?_); refine goesL_ (some 12) rfl rfl Try.func26 (by kernel_rfl) rfl #[.slice A0_2 l0_2.length c0_2] rfl ar_ ?_; (with_reducible refine (laws_toByteS.calls k _ _ l0_2 t181 _ ?side1 ?side2 A2.out).mono ?_); (case side1 => exact Kd.C_below HR0_2.out (hbA_ HB.out)); (case side2 => exact HC0_2.out); rintro e w12 ⟨v182, rfl, ho0, hb⟩; refine ⟨_, rfl, ?_⟩; have HO183 := Aside0.mk (Kd.R_lower ho0 (below_size (hbA_ HB.out))); replace BK178 := Aside0.mk (blk_below (g := gb178) (o := .cells #[.int .i64 a0_0, .int .i64 a0_1, .slice A0_2 l0_2.length c0_2, .slice A0_3 l0_3.length c0_3] 44 (0, 0)) (by exact kf_ BK178.out) hb); replace BK179 := Aside0.mk (blk_below (g := gb179) (o := .cells #[.int .i64 0, .int .i64 0, .slice none 0 0, .slice none 0 0] 48 (0, 0)) (by exact kf_ BK179.out) hb); replace BK180 := Aside0.mk (blk_below (g := gb180) (o := .cells #[.int .i64 a0_0, .int .i64 a0_1, .slice none 0 0, .slice none 0 0] 48 (0, 0)) (by refine kb_ ?_; refine blk_put (cs := #[.int .i64 a0_0, .int .i64 0, .slice none 0 0, .slice none 0 0]) ?_ 1 _ rfl; refine kb_ ?_; refine blk_put (cs := #[.int .i64 0, .int .i64 0, .slice none 0 0, .slice none 0 0]) ?_ 0 _ rfl; refine kb_ ?_; exact BK180.out) hb); replace HB := (bs_ HB hb); (try clear hb); (try clear hb2); (try clear hk); (try clear hi); (try clear ho0); obtain ⟨Ao13, co13, eo13⟩ := Kd.R_slice HO183.out; subst eo13; have Z14 := zz4 BK180; have Z15 := zz4 BK178) | ((with_reducible refine gate_callee (f := 69) rfl ?_); refine goesL_ (some 16) rfl rfl Try.func69 (by kernel_rfl) rfl #[.slice A0_3 l0_3.length c0_3] rfl ar_ ?_; (with_reducible refine (laws_toEarlyS.calls k _ _ l0_3 t184 _ ?side1 ?side2 A3.out).mono ?_); (case side1 => exact Kd.C_below HR0_3.out (hbA_ HB.out)); (case side2 => exact HC0_3.out); rintro e w16 ⟨v185, rfl, ho0, hb⟩; refine ⟨_, rfl, ?_⟩; replace HO183 := Aside0.mk (Kd.R_below (by refine kR_ ?_; exact (Kd.R_mono (Kd.R_f gb180 2 (.slice Ao13 t181.length co13) (Kd.R_types HO183.out BK180.out (by decide))) (fun _ h_ => op1_ h_))) hb); have HO186 := Aside0.mk (Kd.R_lower ho0 (below_size (hbA_ HB.out))); replace BK178 := Aside0.mk (blk_below (g := gb178) (o := .cells #[.int .i64 a0_0, .int .i64 a0_1, .slice A0_2 l0_2.length c0_2, .slice A0_3 l0_3.length c0_3] 44 (0, 0)) (by exact kf_ BK178.out) hb); replace BK179 := Aside0.mk (blk_below (g := gb179) (o := .cells #[.int .i64 0, .int .i64 0, .slice none 0 0, .slice none 0 0] 48 (0, 0)) (by exact kf_ BK179.out) hb); replace BK180 := Aside0.mk (blk_below (g := gb180) (o := .cells #[.int .i64 a0_0, .int .i64 a0_1, .slice Ao13 t181.length co13, .slice none 0 0] 48 (0, 0)) (by refine kb_ ?_; refine blk_put (cs := #[.int .i64 a0_0, .int .i64 a0_1, .slice none 0 0, .slice none 0 0]) ?_ 2 _ rfl; refine kb_ ?_; exact BK180.out) hb); replace HB := (bs_ HB hb); (try clear hb); (try clear hb2); (try clear hk); (try clear hi); (try clear ho0); obtain ⟨Ao17, co17, eo17⟩ := Kd.R_slice HO186.out; subst eo17; have Z18 := zz4 BK180; have Z19 := zz4 BK179))
 refine bodyPost_ret (results_cell_row rfl _ _ gb179 48 #[.int .i64 a0_0, .int .i64 a0_1, .slice Ao13 t181.length co13, .slice Ao17 t184.length co17] (0, 0) _ rfl (by refine kb_ ?_; refine pz4 (cs := #[.int .i64 0, .int .i64 0, .slice none 0 0, .slice none 0 0]) ?_; exact kf_ BK179.out) Try.underlying48 rfl (by kernel_rfl)) rfl ?_
 exact ⟨_, _, by first | rfl | (simp [errW_none, errW_some] <;> rfl) | (simp [*, errW_none, errW_some] <;> rfl), by refine kR_ ?_; exact rfm_ ((Kd.R_far (p := ⟨gb180, 3, none⟩) (Kd.R_types (Kd.R_types HO183.out BK180.out (by decide)) BK179.out (by decide)) (fun _ hk => hk.1.2) (.slice Ao17 t184.length co17))) (fun _ hk => trivial), by refine kR_ ?_; exact rfm_ ((Kd.R_far (p := ⟨gb180, 3, none⟩) (Kd.R_types (Kd.R_types HO186.out BK180.out (by decide)) BK179.out (by decide)) (fun _ hk => hk.1.2) (.slice Ao17 t184.length co17))) (fun _ hk => trivial), hbA_ HB.out⟩
def impl_in.f (a0 : Int) (a1 : Int) (a2 : Int) : Option (Bool) := if a0 ≥ a1 then (some (decide (a0 ≤ a2))) else (some false)
set_option maxHeartbeats 8000000 in
set_option maxRecDepth 100000 in
theorem impl_in.calls (a0 : Int) (a1 : Int) (a2 : Int) (r : Bool) (w : World) (h : impl_in.f a0 a1 a2 = some r) :
  Calls Try.prog 56 #[.int .i64 a0, .int .i64 a1, .int .i64 a2] w fun e w' => e = .returned (.bool r) ∧ Drawn0 w w' := by
 have H : (if a0 ≥ a1 then (some (decide (a0 ≤ a2))) else (some false)) = some r := h
 clear h
 by_cases c4 : a0 ≥ a1
 ·rw [if_pos c4] at H
  have c4b0 : decide (a1 ≤ a0) = true := decide_eq_true c4
  clear c4
  obtain rfl := Option.some.inj H
  go_enter Try.func56, Try.ntmps56
  go_wp2
  go_ret
  exact ⟨by first | rfl | (simp; done) | (simp [*]; done), by repeat (first | exact Drawn0.refl _ | apply Drawn0.step)⟩
 ·rw [if_neg c4] at H
  have c4b0 : decide (a1 ≤ a0) = false := decide_eq_false c4
  clear c4
  obtain rfl := Option.some.inj H
  go_enter Try.func56, Try.ntmps56
  go_wp2
  go_ret
  exact ⟨by first | rfl | (simp; done) | (simp [*]; done), by repeat (first | exact Drawn0.refl _ | apply Drawn0.step)⟩
def impl_Ear_free.f (a0_0 : Int) (a0_1 : Int) (l0_2 : List Int) (l0_3 : List (S96)) : Option (Int) := some (wrap64 (a0_1 - (l0_2.length : Int)))
set_option maxHeartbeats 8000000 in
set_option maxRecDepth 100000 in
theorem impl_Ear_free.calls (a0_0 : Int) (a0_1 : Int) (A0_2 : Option Addr) (c0_2 : Nat) (l0_2 : List Int) (A0_3 : Option Addr) (c0_3 : Nat) (l0_3 : List (S96)) (r : Int) (w : World) (hr0_2 : Kd.C (Kd.int .u8) w A0_2 l0_2.length l0_2) (hc0_2 : l0_2.length ≤ c0_2) (hr0_3 : Kd.C k96 w A0_3 l0_3.length l0_3) (hc0_3 : l0_3.length ≤ c0_3) (h : impl_Ear_free.f a0_0 a0_1 l0_2 l0_3 = some r) :
  Calls Try.prog 77 #[.agg #[.int .i64 a0_0, .int .i64 a0_1, .slice A0_2 l0_2.length c0_2, .slice A0_3 l0_3.length c0_3]] w fun e w' => e = .returned (.int .i64 r) ∧ Below w.heap.size w w' := by
 have hu48 := Try.underlying48; have HR0_2 := Aside0.mk hr0_2; have HC0_2 := Aside0.mk hc0_2; clear hr0_2 hc0_2; have HR0_3 := Aside0.mk hr0_3; have HC0_3 := Aside0.mk hc0_3; clear hr0_3 hc0_3
 have HB := Aside0.mk (Below.refl w.heap.size w)
 have H : (some (wrap64 (a0_1 - (l0_2.length : Int)))) = some r := h
 clear h
 obtain rfl := Option.some.inj H
 go_enter Try.func77, Try.ntmps77
 go_wp2_with (first | ((with_reducible refine gate_dst (N := 1) rfl ?_); refine box_ (N := 1) (cs := #[.int .i64 a0_0, .int .i64 a0_1, .slice A0_2 l0_2.length c0_2, .slice A0_3 l0_3.length c0_3]) (t := 48) (fun gb187 hg w2 hbox hb => ?_); have BK187 := Aside0.mk (hbox); have GW187 := ge_ hg HB; have GE187 := ge_ hg HB; replace HB := (bs_ HB hb); clear hb hbox hg; have Z3 := zz4 BK187))
 go_ret
 exact ⟨by first | rfl | (simp [errW_none, errW_some] <;> rfl) | (simp [*, errW_none, errW_some] <;> rfl), hbA_ HB.out⟩
end Go.Proofs.Ytbhofhdmbbipgaa.PFnExactEarHear
