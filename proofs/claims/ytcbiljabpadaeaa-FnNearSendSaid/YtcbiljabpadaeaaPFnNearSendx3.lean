/- Printed by wip/xp/xprint.sh out of the translation, for this claim: what each function answers, as a plain function, and that the machine does just that. No condition. -/
import Derived.Test.YtcbiljabpadaeaaPFnNearSendx0
import Derived.Test.YtcbiljabpadaeaaPFnNearSendx2
namespace Go.Proofs.Ytcbiljabpadaeaa.PFnNearSend
open Go.RowKit Go.Proofs.YtcbiljabpadaeaaW.PrintWords Go.Proofs.YtcbiljabpadaeaaW.PrintLast Go.Proofs.YtcbiljabpadaeaaW.PrintMore
attribute [local go_sem] max2_int min2_int max_two min_two max_three min_three max_four min_four   -- for this text's walks alone
set_option linter.unusedVariables false
set_option linter.unusedSimpArgs false
def spec_NearSend.j0 : Nat → Int → List Int → Int → Bool → List (S60) → List (S36) → Option ((List (S60)) × (List (S36)) × Int)
 | 0, _, _, _, _, _, _ => none
 | k + 1, x1, x2, x3, x29, x140000, x140001 => if x29 = true then (some (([] : List (S60)), ([] : List (S36)), (-1))) else ((spec_l3Copy.f k x140000 x140001).bind fun bt144 => ((spec_NearFind.f k x140000 x140001 x1 x3).bind fun t151 => (if t151 ≥ 0 then (some (bt144.1, bt144.2, t151)) else ((some (([] : List Int) : List Int)).bind fun y152 => (if y152.length + x2.length < 140737488355328 then (if bt144.2.length < 4398046511104 then ((some (bt144.2 ++ [(⟨x1, (y152 ++ x2)⟩ : S36)] : List (S36))).bind fun y158 => (if (y158.length : Int) > 4 then (if 1 ≤ (y158.length : Int) then (some (bt144.1, (y158.drop (1 : Int).toNat), (-1))) else (none)) else (some (bt144.1, y158, (-1))))) else (none)) else (none))))))
def spec_NearSend.f (k : Nat) (l0_0 : List (S60)) (l0_1 : List (S36)) (a1 : Int) (l2 : List Int) (a3 : Int) : Option ((List (S60)) × (List (S36)) × Int) := (spec_NearOk.f k l0_0 l0_1).bind fun t141 => (if t141 = true then ((spec_l1In.f a1 0 65535).bind fun t142 => (if t142 = true then (if (l2.length : Int) > 64 then (spec_NearSend.j0 k a1 l2 a3 true l0_0 l0_1) else ((spec_l1In.f a3 0 999980).bind fun t143 => (spec_NearSend.j0 k a1 l2 a3 (!t143) l0_0 l0_1))) else (spec_NearSend.j0 k a1 l2 a3 true l0_0 l0_1))) else (spec_NearSend.j0 k a1 l2 a3 true l0_0 l0_1))
theorem spec_NearSend.mono_l : ∀ k, (∀ y0 y1 y2 y3 y4 y5, LeO (spec_NearSend.j0 k y0 y1 y2 y3 y4 y5) (spec_NearSend.j0 (k + 1) y0 y1 y2 y3 y4 y5))
 | 0 => fun _ _ _ _ _ _ r h => by simp [spec_NearSend.j0] at h
 | k + 1 => by
  have ih0 := spec_NearSend.mono_l k
  ·intro y0 y1 y2 y3 y4 y5
   unfold spec_NearSend.j0
   repeat' first | (with_reducible first | apply ih0 | apply spec_NearFind.mono | apply spec_NearOk.mono | apply spec_l3Copy.mono | exact LeO.refl _ | exact LeO.none _ | refine LeO.ite ?_ ?_ | refine LeO.bind ?_ fun _ => ?_) | apply ih0 | apply spec_NearFind.mono | apply spec_NearOk.mono | apply spec_l3Copy.mono | exact LeO.none _ | refine LeO.ite ?_ ?_ | refine LeO.bind ?_ fun _ => ?_
theorem spec_NearSend.mono : ∀ a0 a1 a2 a3 a4 k, LeO (spec_NearSend.f k a0 a1 a2 a3 a4) (spec_NearSend.f (k + 1) a0 a1 a2 a3 a4) := by
 intro a0 a1 a2 a3 a4 k
 have ih0 := spec_NearSend.mono_l k
 unfold spec_NearSend.f
 repeat' first | (with_reducible first | apply ih0 | apply spec_NearFind.mono | apply spec_NearOk.mono | apply spec_l3Copy.mono | exact LeO.refl _ | exact LeO.none _ | refine LeO.ite ?_ ?_ | refine LeO.bind ?_ fun _ => ?_) | apply ih0 | apply spec_NearFind.mono | apply spec_NearOk.mono | apply spec_l3Copy.mono | exact LeO.none _ | refine LeO.ite ?_ ?_ | refine LeO.bind ?_ fun _ => ?_
def spec_NearSend.T7 : Bool × List (List Nat × List Nat) := (true, [([], []), ([0], [0]), ([], []), ([], []), ([], []), ([3, 4], [3, 4]), ([2, 5], [2, 5]), ([6], [6]), ([1, 7, 5], [1, 7]), ([0, 1, 2, 3, 4, 5, 6, 7, 8], []), ([9, 8, 8, 0, 1, 2, 3, 4, 5, 6, 7, 8], [8, 9])])
def spec_NearSend.B7 : List Nat := [0, 1, 0, 0, 0, 24, 60, 124, 255, 511, 1023]
theorem spec_NearSend.tab7 : rtab .any (opsOf Try.f7 7) = spec_NearSend.T7 := by kernel_rfl
theorem spec_NearSend.bits7 : waitsOk spec_NearSend.T7.2 spec_NearSend.B7 = true := by kernel_rfl
set_option maxHeartbeats 8000000 in
set_option maxRecDepth 100000 in
theorem spec_NearSend.calls (k : Nat) (A0_0 : Option Addr) (c0_0 : Nat) (l0_0 : List (S60)) (A0_1 : Option Addr) (c0_1 : Nat) (l0_1 : List (S36)) (a1 : Int) (A2 : Option Addr) (c2 : Nat) (l2 : List Int) (a3 : Int) (r1 : List (S60)) (r2 : List (S36)) (r3 : Int) (w : World) (hr0_0 : Kd.C k60 w A0_0 l0_0.length l0_0) (hc0_0 : l0_0.length ≤ c0_0) (hr0_1 : Kd.C k36 w A0_1 l0_1.length l0_1) (hc0_1 : l0_1.length ≤ c0_1) (hr2 : Kd.C (Kd.int .u8) w A2 l2.length l2) (hc2 : l2.length ≤ c2) (h : spec_NearSend.f k l0_0 l0_1 a1 l2 a3 = some (r1, r2, r3)) :
  Calls Try.prog 7 #[.agg #[.slice A0_0 l0_0.length c0_0, .slice A0_1 l0_1.length c0_1], .int .i64 a1, .slice A2 l2.length c2, .int .i64 a3] w fun e w' => ∃ v0_ v1_ : Value, e = .returned (.tuple #[.agg #[v0_, v1_], .int .i64 r3]) ∧ Kd.R k60 60 w' w.heap.size (fun _ => True) v0_ r1 ∧ Kd.Q k36 36 w' w.heap.size (fun _ => True) v1_ r2 ∧ Below w.heap.size w w' := by
 have hu26 := Try.underlying26; have hu36 := Try.underlying36; have HR0_0 := Aside0.mk hr0_0; have HC0_0 := Aside0.mk hc0_0; clear hr0_0 hc0_0; have HR0_1 := Aside0.mk hr0_1; have HC0_1 := Aside0.mk hc0_1; clear hr0_1 hc0_1; have HR2 := Aside0.mk hr2; have HC2 := Aside0.mk hc2; clear hr2 hc2
 have HB := Aside0.mk (Below.refl w.heap.size w)
 have H : ((spec_NearOk.f k l0_0 l0_1).bind fun t141 => (if t141 = true then ((spec_l1In.f a1 0 65535).bind fun t142 => (if t142 = true then (if (l2.length : Int) > 64 then (spec_NearSend.j0 k a1 l2 a3 true l0_0 l0_1) else ((spec_l1In.f a3 0 999980).bind fun t143 => (spec_NearSend.j0 k a1 l2 a3 (!t143) l0_0 l0_1))) else (spec_NearSend.j0 k a1 l2 a3 true l0_0 l0_1))) else (spec_NearSend.j0 k a1 l2 a3 true l0_0 l0_1))) = some (r1, r2, r3) := h
 clear h; have HC5 := Aside0.mk H; clear H
 go_enter Try.func7, Try.ntmps7
 go_upto_region 1 with (first | ((with_reducible refine gate_dst (N := 4) rfl ?_); (try (refine gate_guard (by rfl) ?_; dsimp only)); refine box_ (N := 4) (cs := #[.slice A0_0 l0_0.length c0_0, .slice A0_1 l0_1.length c0_1]) (t := 26) (fun gb139 hg w6 hbox hb => ?_); have BK139 := Aside0.mk (hbox); have GW139 := ge_ hg HB; have GE139 := ge_ hg HB; replace HB := (bs_ HB hb); clear hb hbox hg) | ((with_reducible refine gate_dst (N := 8) rfl ?_); (try (refine gate_guard (by rfl) ?_; dsimp only)); refine box_ (N := 8) (cs := #[.slice none 0 0, .slice none 0 0]) (t := 26) (fun gb140 hg w7 hbox hb => ?_); have BK140 := Aside0.mk (hbox); have GW140 := ge_ hg HB; have GE140 := ge_ hg HB; replace HB := (bs_ HB hb); have NB139_140 := nl_ hg BK139; have NB140_139 := ng_ hg BK139; replace BK139 := (bbA_ BK139 hb); clear hb hbox hg))
 (try simp only [Act.put, List.setIfInBounds_toArray, List.set_cons_zero, List.set_cons_succ])
 go_cut [29] (fun v29 wc => ∃ (kq : Nat) (x29_4 : Bool), v29 = .bool x29_4 ∧ Aside0 (spec_NearSend.j0 kq a1 l2 a3 x29_4 l0_0 l0_1 = some (r1, r2, r3)) ∧ Aside0 (kq ≤ k) ∧ Aside0 (wc.heap[gb139]? = some (.cells #[(.slice A0_0 l0_0.length c0_0), (.slice A0_1 l0_1.length c0_1)] 26 (0, 0))) ∧ Aside0 (wc.heap[gb140]? = some (.cells #[(.slice none 0 0), (.slice none 0 0)] 26 (0, 0))) ∧ Aside0 (Below w.heap.size w wc))
 case first =>
  have H := HC5.out; clear HC5
  replace H := Option.bind_eq_some_iff.mp H
  obtain ⟨t141, A80, H⟩ := H
  (try dsimp only at H)
  have A8 := Aside0.mk A80; clear A80
  by_cases c9 : t141 = true
  ·subst c9
   rw [if_pos rfl] at H
   replace H := Option.bind_eq_some_iff.mp H
   obtain ⟨t142, A100, H⟩ := H
   (try dsimp only at H)
   have A10 := Aside0.mk A100; clear A100
   by_cases c11 : t142 = true
   ·subst c11
    rw [if_pos rfl] at H
    by_cases c12 : (l2.length : Int) > 64
    ·rw [if_pos c12] at H
     have c12b0 : decide (64 < (l2.length : Int)) = true := decide_eq_true c12
     have c12b1 : decide (64 < l2.length) = true := decide_eq_true (by omega)
     clear c12
     (first | rw [c12b0] | (simp only [i64_w, i32_w]; rw [c12b0]) | skip)
     have H' := Aside0.mk H
     clear H; have hnb13 := NB139_140.out; have hnc13 := NB140_139.out; have Z14 := zz2 BK139
     go_wp2_with (first | ((with_reducible refine gate_callee (f := 29) rfl ?_); refine goesL_ (some 13) rfl rfl Try.func29 (by kernel_rfl) rfl #[.agg #[.slice A0_0 l0_0.length c0_0, .slice A0_1 l0_1.length c0_1]] rfl ar_ ?_; (with_reducible refine (spec_NearOk.calls k _ _ l0_0 _ _ l0_1 true _ ?side1 ?side2 ?side3 ?side4 A8.out).mono ?_); (case side1 => exact kC_ (Kd.C_below HR0_0.out HB.out)); (case side2 => exact HC0_0.out); (case side3 => exact kC_ (Kd.C_below HR0_1.out HB.out)); (case side4 => exact HC0_1.out); rintro e w15 ⟨rfl, hb⟩; refine ⟨_, rfl, ?_⟩; replace BK139 := (bbA_ BK139 hb); replace BK140 := (bbA_ BK140 hb); replace HB := (bs_ HB hb); (try clear hb); (try clear hb2); (try clear hk); (try clear hi)) | (go_at_call 30; (with_reducible refine (spec_l1In.calls a1 0 65535 true _ A10.out).mono ?_); rintro e w' ⟨rfl, ⟨nd, rfl⟩⟩))
     go_meet
     case rel => exact ⟨_, (true), (by first | rfl | (simp; done) | (simp [*]; done)), H', ⟨by first | omega | exact Nat.le_refl _⟩, ⟨by refine kb_ ?_; exact BK139.out⟩, ⟨by refine kb_ ?_; exact BK140.out⟩, ⟨hbA_ HB.out⟩⟩
    ·rw [if_neg c12] at H
     have c12b0 : decide (64 < (l2.length : Int)) = false := decide_eq_false c12
     have c12b1 : decide (64 < l2.length) = false := decide_eq_false (by omega)
     clear c12
     (first | rw [c12b0] | (simp only [i64_w, i32_w]; rw [c12b0]) | skip)
     replace H := Option.bind_eq_some_iff.mp H
     obtain ⟨t143, A160, H⟩ := H
     (try dsimp only at H)
     have A16 := Aside0.mk A160; clear A160
     have H' := Aside0.mk H
     clear H; have hnb17 := NB139_140.out; have hnc17 := NB140_139.out; have Z18 := zz2 BK139
     go_wp2_with (first | ((with_reducible refine gate_callee (f := 29) rfl ?_); refine goesL_ (some 13) rfl rfl Try.func29 (by kernel_rfl) rfl #[.agg #[.slice A0_0 l0_0.length c0_0, .slice A0_1 l0_1.length c0_1]] rfl ar_ ?_; (with_reducible refine (spec_NearOk.calls k _ _ l0_0 _ _ l0_1 true _ ?side1 ?side2 ?side3 ?side4 A8.out).mono ?_); (case side1 => exact kC_ (Kd.C_below HR0_0.out HB.out)); (case side2 => exact HC0_0.out); (case side3 => exact kC_ (Kd.C_below HR0_1.out HB.out)); (case side4 => exact HC0_1.out); rintro e w19 ⟨rfl, hb⟩; refine ⟨_, rfl, ?_⟩; replace BK139 := (bbA_ BK139 hb); replace BK140 := (bbA_ BK140 hb); replace HB := (bs_ HB hb); (try clear hb); (try clear hb2); (try clear hk); (try clear hi)) | (go_at_call 30; (with_reducible refine (spec_l1In.calls a1 0 65535 true _ A10.out).mono ?_); rintro e w' ⟨rfl, ⟨nd, rfl⟩⟩) | (go_at_call 30; (with_reducible refine (spec_l1In.calls a3 0 999980 t143 _ A16.out).mono ?_); rintro e w' ⟨rfl, ⟨nd, rfl⟩⟩))
     go_meet
     case rel => exact ⟨_, (!t143), (by first | rfl | (simp; done) | (simp [*]; done)), H', ⟨by first | omega | exact Nat.le_refl _⟩, ⟨by refine kb_ ?_; exact BK139.out⟩, ⟨by refine kb_ ?_; exact BK140.out⟩, ⟨hbA_ HB.out⟩⟩
   ·replace c11 := Bool.eq_false_iff.mpr c11
    subst c11
    rw [if_neg (show ¬ (false = true) by decide)] at H
    have H' := Aside0.mk H
    clear H; have hnb20 := NB139_140.out; have hnc20 := NB140_139.out; have Z21 := zz2 BK139
    go_wp2_with (first | ((with_reducible refine gate_callee (f := 29) rfl ?_); refine goesL_ (some 13) rfl rfl Try.func29 (by kernel_rfl) rfl #[.agg #[.slice A0_0 l0_0.length c0_0, .slice A0_1 l0_1.length c0_1]] rfl ar_ ?_; (with_reducible refine (spec_NearOk.calls k _ _ l0_0 _ _ l0_1 true _ ?side1 ?side2 ?side3 ?side4 A8.out).mono ?_); (case side1 => exact kC_ (Kd.C_below HR0_0.out HB.out)); (case side2 => exact HC0_0.out); (case side3 => exact kC_ (Kd.C_below HR0_1.out HB.out)); (case side4 => exact HC0_1.out); rintro e w22 ⟨rfl, hb⟩; refine ⟨_, rfl, ?_⟩; replace BK139 := (bbA_ BK139 hb); replace BK140 := (bbA_ BK140 hb); replace HB := (bs_ HB hb); (try clear hb); (try clear hb2); (try clear hk); (try clear hi)) | (go_at_call 30; (with_reducible refine (spec_l1In.calls a1 0 65535 false _ A10.out).mono ?_); rintro e w' ⟨rfl, ⟨nd, rfl⟩⟩))
    go_meet
    case rel => exact ⟨_, (true), (by first | rfl | (simp; done) | (simp [*]; done)), H', ⟨by first | omega | exact Nat.le_refl _⟩, ⟨by refine kb_ ?_; exact BK139.out⟩, ⟨by refine kb_ ?_; exact BK140.out⟩, ⟨hbA_ HB.out⟩⟩
  ·replace c9 := Bool.eq_false_iff.mpr c9
   subst c9
   rw [if_neg (show ¬ (false = true) by decide)] at H
   have H' := Aside0.mk H
   clear H; have hnb23 := NB139_140.out; have hnc23 := NB140_139.out; have Z24 := zz2 BK139
   go_wp2_with (first | ((with_reducible refine gate_callee (f := 29) rfl ?_); refine goesL_ (some 13) rfl rfl Try.func29 (by kernel_rfl) rfl #[.agg #[.slice A0_0 l0_0.length c0_0, .slice A0_1 l0_1.length c0_1]] rfl ar_ ?_; (with_reducible refine (spec_NearOk.calls k _ _ l0_0 _ _ l0_1 false _ ?side1 ?side2 ?side3 ?side4 A8.out).mono ?_); (case side1 => exact kC_ (Kd.C_below HR0_0.out HB.out)); (case side2 => exact HC0_0.out); (case side3 => exact kC_ (Kd.C_below HR0_1.out HB.out)); (case side4 => exact HC0_1.out); rintro e w25 ⟨rfl, hb⟩; refine ⟨_, rfl, ?_⟩; replace BK139 := (bbA_ BK139 hb); replace BK140 := (bbA_ BK140 hb); replace HB := (bs_ HB hb); (try clear hb); (try clear hb2); (try clear hk); (try clear hi)))
   go_meet
   case rel => exact ⟨_, (true), (by first | rfl | (simp; done) | (simp [*]; done)), H', ⟨by first | omega | exact Nat.le_refl _⟩, ⟨by refine kb_ ?_; exact BK139.out⟩, ⟨by refine kb_ ?_; exact BK140.out⟩, ⟨hbA_ HB.out⟩⟩
 case rest =>
  clear HC5; (try clear c1); (try clear c2); (try clear p2); (try clear c7); (try clear c9); (try clear c11); (try clear c12); (try clear c12b0); (try clear c12b1); (try clear c13); (try clear c17); (try clear c20); (try clear c23); (try clear Z14); (try clear Z18); (try clear Z21); (try clear Z24)
  obtain ⟨kq, x29_4, rfl, HA, HJ4, BK139, BK140, HB⟩ := hcut
  cases kq with
  | zero => exact absurd HA.out (by simp [spec_NearSend.j0])
  | succ kj4 =>
   have H := HA.out; clear HA
   simp only [spec_NearSend.j0] at H
   by_cases c26 : x29_4 = true
   ·subst c26
    rw [if_pos rfl] at H
    simp only [Option.some.injEq, Prod.mk.injEq] at H
    obtain ⟨rfl, rfl, rfl⟩ := H
    have hnb27 := NB140_139.out; have hnc27 := NB139_140.out; have Z28 := zz2 BK140
    go_wp2
    refine bodyPost_ret (results_ct rfl _ _ gb140 26 #[.slice none 0 0, .slice none 0 0] (0, 0) _ rfl (by refine kb_ ?_; refine pz2 (cs := #[.slice none 0 0, .slice none 0 0]) ?_; refine kb_ ?_; exact BK140.out) Try.underlying26 rfl (by kernel_rfl)) rfl ?_
    exact ⟨_, _, by first | rfl | (simp [errW_none, errW_some] <;> rfl) | (simp [*, errW_none, errW_some] <;> rfl), by first | exact Kd.R_nil _ _ _ _ _ | exact Kd.N_nil _ _ _ _ _ | exact Kd.V_nil _ _ _ _ _ | exact Kd.Q_nil _ _ _ _ _ | exact Kd.S_nil _ _ _ _ _, Kd.Q_of_R ((Kd.S_R (by first | exact Kd.S_nil _ _ _ _ _ | exact Kd.N_nil _ _ _ _ _ | exact Kd.V_nil _ _ _ _ _ | exact Kd.Q_nil _ _ _ _ _ | exact Kd.R_nil _ _ _ _ _))), hbA_ HB.out⟩
   ·replace c26 := Bool.eq_false_iff.mpr c26
    subst c26
    rw [if_neg (show ¬ (false = true) by decide)] at H
    replace H := Option.bind_eq_some_iff.mp H
    obtain ⟨⟨t144, t147⟩, A290, H⟩ := H
    (try dsimp only at H)
    have A29 := Aside0.mk A290; clear A290
    replace H := Option.bind_eq_some_iff.mp H
    obtain ⟨t151, A300, H⟩ := H
    (try dsimp only at H)
    have A30 := Aside0.mk A300; clear A300
    by_cases c31 : t151 ≥ 0
    ·rw [if_pos c31] at H
     have c31b0 : decide (0 ≤ t151) = true := decide_eq_true c31
     clear c31
     simp only [Option.some.injEq, Prod.mk.injEq] at H
     obtain ⟨rfl, rfl, rfl⟩ := H
     have hnb32 := NB139_140.out; have hnc32 := NB140_139.out; have Z33 := zz2 BK139
     go_wp2_with (first | ((with_reducible refine gate_callee (f := 31) rfl ?_); refine goesL_ (some 32) rfl rfl Try.func31 (by kernel_rfl) rfl #[.agg #[.slice A0_0 l0_0.length c0_0, .slice A0_1 l0_1.length c0_1]] rfl ar_ ?_; (with_reducible refine (spec_l3Copy.calls kj4 _ _ l0_0 _ _ l0_1 t144 t147 _ ?side1 ?side2 ?side3 ?side4 A29.out).mono ?_); (case side1 => exact kC_ (Kd.C_below HR0_0.out HB.out)); (case side2 => exact HC0_0.out); (case side3 => exact kC_ (Kd.C_below HR0_1.out HB.out)); (case side4 => exact HC0_1.out); rintro e w34 ⟨v145, v148, rfl, ho0, ho1, hb⟩; refine ⟨_, rfl, ?_⟩; have HO146 := Aside0.mk (Kd.R_lower ho0 (below_size (hbA_ HB.out))); have HO149 := Aside0.mk (Kd.S_lower ho1 (below_size (hbA_ HB.out))); replace BK139 := (bbA_ BK139 hb); replace BK140 := (bbA_ BK140 hb); replace HB := (bs_ HB hb); (try clear hb); (try clear hb2); (try clear hk); (try clear hi); (try clear ho0); (try clear ho1)) | ((with_reducible refine gate_dst (N := 10) rfl ?_); (try (refine gate_guard (by rfl) ?_; dsimp only)); refine box_ (N := 10) (cs := #[.slice none 0 0, .slice none 0 0]) (t := 26) (fun gb150 hg w35 hbox hb => ?_); replace HO146 := Aside0.mk (Kd.R_below (kR_ HO146.out) hb); replace HO149 := Aside0.mk (Kd.S_below (kS_ HO149.out) hb); have BK150 := Aside0.mk (hbox); have GW150 := ge_ hg HB; have GE150 := ge_ hg HB; replace HB := (bs_ HB hb); have NB139_150 := nl_ hg BK139; have NB150_139 := ng_ hg BK139; replace BK139 := (bbA_ BK139 hb); have NB140_150 := nl_ hg BK140; have NB150_140 := ng_ hg BK140; replace BK140 := (bbA_ BK140 hb); clear hb hbox hg; obtain ⟨Ao36, co36, eo36⟩ := Kd.R_slice HO146.out; subst eo36; have hnb37 := NB150_139.out; have hnc37 := NB139_150.out; have hnb38 := NB150_140.out; have hnc38 := NB140_150.out; have Z39 := zz2 BK150; obtain ⟨Ao40, co40, eo40⟩ := Kd.S_slice HO149.out; subst eo40; have Z41 := zz2 BK139) | ((with_reducible refine gate_callee (f := 32) rfl ?_); refine goesL_ (some 36) rfl rfl Try.func32 (by kernel_rfl) rfl #[.agg #[.slice A0_0 l0_0.length c0_0, .slice A0_1 l0_1.length c0_1], .int .i64 a1, .int .i64 a3] rfl ar_ ?_; (with_reducible refine (spec_NearFind.calls kj4 _ _ l0_0 _ _ l0_1 a1 a3 t151 _ ?side1 ?side2 ?side3 ?side4 A30.out).mono ?_); (case side1 => exact Kd.C_below HR0_0.out (hbA_ HB.out)); (case side2 => exact HC0_0.out); (case side3 => exact Kd.C_below HR0_1.out (hbA_ HB.out)); (case side4 => exact HC0_1.out); rintro e w42 ⟨rfl, hb⟩; refine ⟨_, rfl, ?_⟩; replace HO146 := Aside0.mk (Kd.R_below (by refine kR_ ?_; exact (rfm_ ((Kd.R_types HO146.out BK150.out (by decide))) (fun _ h_ => op1_ h_))) hb); replace HO149 := Aside0.mk (Kd.S_below (by refine kS_ ?_; exact (Kd.S_mono (Kd.S_far (p := ⟨gb150, 1, none⟩) (Kd.S_far (p := ⟨gb150, 0, none⟩) (Kd.S_types HO149.out BK150.out (by decide)) (fun _ hk => hk.2) (.slice Ao36 t144.length co36)) (fun _ hk => hk.2) (.slice Ao40 t147.length co40)) (fun _ h_ => op1_ h_))) hb); replace BK139 := Aside0.mk (blk_below (g := gb139) (o := .cells #[.slice A0_0 l0_0.length c0_0, .slice A0_1 l0_1.length c0_1] 26 (0, 0)) (by exact kf_ BK139.out) hb); replace BK140 := Aside0.mk (blk_below (g := gb140) (o := .cells #[.slice none 0 0, .slice none 0 0] 26 (0, 0)) (by exact kf_ BK140.out) hb); replace BK150 := Aside0.mk (blk_below (g := gb150) (o := .cells #[.slice Ao36 t144.length co36, .slice Ao40 t147.length co40] 26 (0, 0)) (by refine kb_ ?_; refine pz2 (cs := #[.slice none 0 0, .slice none 0 0]) ?_; refine kb_ ?_; exact BK150.out) hb); replace HB := (bs_ HB hb); (try clear hb); (try clear hb2); (try clear hk); (try clear hi); have Z43 := zz2 BK150; have Z44 := zz2 BK140))
     refine bodyPost_ret (results_ct rfl _ _ gb140 26 #[.slice Ao36 t144.length co36, .slice Ao40 t147.length co40] (0, 0) _ rfl (by refine kb_ ?_; refine pz2 (cs := #[.slice none 0 0, .slice none 0 0]) ?_; refine kb_ ?_; exact BK140.out) Try.underlying26 rfl (by kernel_rfl)) rfl ?_
     exact ⟨_, _, by first | rfl | (simp [errW_none, errW_some] <;> rfl) | (simp [*, errW_none, errW_some] <;> rfl), by refine kR_ ?_; exact rfm_ ((Kd.R_types HO146.out BK140.out (by decide))) (fun _ hk => trivial), Kd.Q_of_R ((Kd.S_R (by refine kS_ ?_; exact Kd.S_mono (Kd.S_far (p := ⟨gb140, 1, none⟩) (Kd.S_far (p := ⟨gb140, 0, none⟩) (Kd.S_types HO149.out BK140.out (by decide)) (fun _ hk => hk.2) (.slice Ao36 t144.length co36)) (fun _ hk => hk.2) (.slice Ao40 t147.length co40)) (fun _ hk => trivial)))), hbA_ HB.out⟩
    ·rw [if_neg c31] at H
     have c31b0 : decide (0 ≤ t151) = false := decide_eq_false c31
     clear c31
     obtain ⟨y152, hy152⟩ : ∃ y_ : List Int, y_ = (([] : List Int)) := ⟨_, rfl⟩
     (first | replace H := sb_ hy152 H | rw [← hy152] at H)
     have Ny152 := Aside0.mk hy152; clear hy152
     by_cases c45 : y152.length + l2.length < 140737488355328
     ·rw [if_pos c45] at H
      have LMc45 := Aside0.mk c45; clear c45
      obtain ⟨y155, hy155⟩ : ∃ y_ : List Int, y_ = (y152 ++ l2) := ⟨_, rfl⟩
      (first | replace H := sb_ hy155 H | rw [← hy155] at H)
      have Ny155 := Aside0.mk hy155; clear hy155
      by_cases c46 : t147.length < 4398046511104
      ·rw [if_pos c46] at H
       have LMc46 := Aside0.mk c46; clear c46
       obtain ⟨y158, hy158⟩ : ∃ y_ : List (S36), y_ = (t147 ++ [(⟨a1, y155⟩ : S36)]) := ⟨_, rfl⟩
       (first | replace H := sb_ hy158 H | rw [← hy158] at H)
       have Ny158 := Aside0.mk hy158; clear hy158
       by_cases c47 : (y158.length : Int) > 4
       ·rw [if_pos c47] at H
        have c47b0 : decide (4 < (y158.length : Int)) = true := decide_eq_true c47
        have c47b1 : decide (4 < y158.length) = true := decide_eq_true (by omega)
        clear c47
        by_cases c48 : 1 ≤ (y158.length : Int)
        ·rw [if_pos c48] at H
         have c48b0 := eq_true c48
         have c48b1 : decide (1 ≤ (y158.length : Int)) = true := decide_eq_true c48
         clear c48
         obtain ⟨y161, hy161⟩ : ∃ y_ : List (S36), y_ = (y158.drop (1 : Int).toNat) := ⟨_, rfl⟩
         (first | replace H := sb_ hy161 H | rw [← hy161] at H)
         have Ny161 := Aside0.mk hy161; clear hy161
         simp only [Option.some.injEq, Prod.mk.injEq] at H
         obtain ⟨rfl, rfl, rfl⟩ := H
         have hnb49 := NB139_140.out; have hnc49 := NB140_139.out; have Z50 := zz2 BK139
         try go_wp2_with (first | ((with_reducible refine gate_callee (f := 31) rfl ?_); refine goesL_ (some 32) rfl rfl Try.func31 (by kernel_rfl) rfl #[.agg #[.slice A0_0 l0_0.length c0_0, .slice A0_1 l0_1.length c0_1]] rfl ar_ ?_; (with_reducible refine (spec_l3Copy.calls kj4 _ _ l0_0 _ _ l0_1 t144 t147 _ ?side1 ?side2 ?side3 ?side4 A29.out).mono ?_); (case side1 => exact kC_ (Kd.C_below HR0_0.out HB.out)); (case side2 => exact HC0_0.out); (case side3 => exact kC_ (Kd.C_below HR0_1.out HB.out)); (case side4 => exact HC0_1.out); rintro e w51 ⟨v145, v148, rfl, ho0, ho1, hb⟩; refine ⟨_, rfl, ?_⟩; have HO146 := Aside0.mk (Kd.R_lower ho0 (below_size (hbA_ HB.out))); have HO149 := Aside0.mk (Kd.S_lower ho1 (below_size (hbA_ HB.out))); replace BK139 := (bbA_ BK139 hb); replace BK140 := (bbA_ BK140 hb); replace HB := (bs_ HB hb); (try clear hb); (try clear hb2); (try clear hk); (try clear hi); (try clear ho0); (try clear ho1)) | ((with_reducible refine gate_dst (N := 10) rfl ?_); (try (refine gate_guard (by rfl) ?_; dsimp only)); refine box_ (N := 10) (cs := #[.slice none 0 0, .slice none 0 0]) (t := 26) (fun gb150 hg w52 hbox hb => ?_); replace HO146 := Aside0.mk (Kd.R_below (kR_ HO146.out) hb); replace HO149 := Aside0.mk (Kd.S_below (kS_ HO149.out) hb); have BK150 := Aside0.mk (hbox); have GW150 := ge_ hg HB; have GE150 := ge_ hg HB; replace HB := (bs_ HB hb); have NB139_150 := nl_ hg BK139; have NB150_139 := ng_ hg BK139; replace BK139 := (bbA_ BK139 hb); have NB140_150 := nl_ hg BK140; have NB150_140 := ng_ hg BK140; replace BK140 := (bbA_ BK140 hb); clear hb hbox hg; obtain ⟨Ao53, co53, eo53⟩ := Kd.R_slice HO146.out; subst eo53; have hnb54 := NB150_139.out; have hnc54 := NB139_150.out; have hnb55 := NB150_140.out; have hnc55 := NB140_150.out; have Z56 := zz2 BK150; obtain ⟨Ao57, co57, eo57⟩ := Kd.S_slice HO149.out; subst eo57; have Z58 := zz2 BK139) | ((with_reducible refine gate_callee (f := 32) rfl ?_); refine goesL_ (some 36) rfl rfl Try.func32 (by kernel_rfl) rfl #[.agg #[.slice A0_0 l0_0.length c0_0, .slice A0_1 l0_1.length c0_1], .int .i64 a1, .int .i64 a3] rfl ar_ ?_; (with_reducible refine (spec_NearFind.calls kj4 _ _ l0_0 _ _ l0_1 a1 a3 t151 _ ?side1 ?side2 ?side3 ?side4 A30.out).mono ?_); (case side1 => exact Kd.C_below HR0_0.out (hbA_ HB.out)); (case side2 => exact HC0_0.out); (case side3 => exact Kd.C_below HR0_1.out (hbA_ HB.out)); (case side4 => exact HC0_1.out); rintro e w59 ⟨rfl, hb⟩; refine ⟨_, rfl, ?_⟩; replace HO146 := Aside0.mk (Kd.R_below (by refine kR_ ?_; exact (rfm_ ((Kd.R_types HO146.out BK150.out (by decide))) (fun _ h_ => op1_ h_))) hb); replace HO149 := Aside0.mk (Kd.S_below (by refine kS_ ?_; exact (Kd.S_mono (Kd.S_far (p := ⟨gb150, 1, none⟩) (Kd.S_far (p := ⟨gb150, 0, none⟩) (Kd.S_types HO149.out BK150.out (by decide)) (fun _ hk => hk.2) (.slice Ao53 t144.length co53)) (fun _ hk => hk.2) (.slice Ao57 t147.length co57)) (fun _ h_ => op1_ h_))) hb); replace BK139 := Aside0.mk (blk_below (g := gb139) (o := .cells #[.slice A0_0 l0_0.length c0_0, .slice A0_1 l0_1.length c0_1] 26 (0, 0)) (by exact kf_ BK139.out) hb); replace BK140 := Aside0.mk (blk_below (g := gb140) (o := .cells #[.slice none 0 0, .slice none 0 0] 26 (0, 0)) (by exact kf_ BK140.out) hb); replace BK150 := Aside0.mk (blk_below (g := gb150) (o := .cells #[.slice Ao53 t144.length co53, .slice Ao57 t147.length co57] 26 (0, 0)) (by refine kb_ ?_; refine pz2 (cs := #[.slice none 0 0, .slice none 0 0]) ?_; refine kb_ ?_; exact BK150.out) hb); replace HB := (bs_ HB hb); (try clear hb); (try clear hb2); (try clear hk); (try clear hi)))
         replace HO146 := Aside0.mk (Kd.R_drew HO146.out); replace HO149 := Aside0.mk (Kd.S_drew HO149.out); replace BK139 := Aside0.mk (blk_drew BK139.out); replace BK140 := Aside0.mk (blk_drew BK140.out); replace BK150 := Aside0.mk (blk_drew BK150.out); replace HB := (bd_ HB)
         refine start_ (n := 11) (S := fun w' => w'.cell? ⟨gb150, 0, none⟩ = some (.slice Ao53 t144.length co53) ∧ w'.cell? ⟨gb150, 1, none⟩ = some (.slice Ao57 t147.length co57)) (ds := [10]) #[false, false, false, false, false, false, false, false, false, false, false] (by kernel_rfl) rfl rfl (cz2 BK150.out) (fun hHeld => ?_); refine with_tabW spec_NearSend.tab7 spec_NearSend.bits7 (fun HT_ HW_ => ?_)
         generalize w59.drew = w60 at HO146 HO149 BK139 BK140 BK150 HB hHeld ⊢
         refine pu_ (i := 0) (N := some 41) HT_ ?_; refine pu_ (i := 2) (N := some 43) HT_ ?_; refine pu_ (i := 4) (N := some 45) HT_ ?_; refine tk_ (i := 1) (N := some 42) HT_ HW_ hHeld ?_
         refine on_ (i := 3) (N := some 44) HT_ (fun K hK => ?_)
         refine Kd.R_lit_step (Kd.int .u8) _ 5 ?hg (N := 44) ?hd (xs := ([] : List Int)) (inner := []) (ok := fun _ => True) (okp := fun _ => True) ?hr ?hp (fun _ hk => hk) trivial (Below.refl _ _) (Nat.le_refl _) (by simp) ?_; (case hd => rfl); (case hg => rfl); (case hr => first | (go_simp; done) | (go_simp; rfl)); (case hp => exact (Reps.none _ _))
         intro v153 w61 ho62 hb hg_ hnew_
         clear hg_ hnew_
         (first | rw [← Ny152.out] at ho62 | (simp only [Int.reduceToNat] at ho62; rw [← Ny152.out] at ho62))
         have n0_ := Aside0.mk (Kd.R_below (kR_ HO146.out) hb); have n1_ := Aside0.mk (Kd.S_elder' (kS_ HO149.out) (Kd.R_base ho62) hb); have n2_ := Aside0.mk (Kd.R_lower ho62 (below_size (hbA_ HB.out))); have n3_ := (bbA_ BK139 hb); have n4_ := (bbA_ BK140 hb); have n5_ := (bbA_ BK150 hb); have n6_ := (bs_ HB hb); clear HO146 HO149 BK139 BK140 BK150 HB; have HO146 := n0_; have HO149 := n1_; have HO154 := n2_; have BK139 := n3_; have BK140 := n4_; have BK150 := n5_; have HB := n6_; clear n0_ n1_ n2_ n3_ n4_ n5_ n6_ hb ho62
         refine hK.out _ _ (cz2 BK150.out) (fun hHeld => ?_)
         clear hK K; refine nm_ 44 ?_
         refine on_ (i := 5) (N := some 46) HT_ (fun K hK => ?_)
         refine Kd.R_append_rows_step (Kd.int .u8) (w0 := w) w.heap.size (by rfl) (.tmp 44) (.tmp 45) 22 5 (.int .u8 0) 1 rfl Try.underlying22 info5 rfl (by decide) (by omega) v153 y152 l2 _ _ _ (fun _ => True) (fun _ => False) rfl rfl ?aO ?aR (fun _ _ h => h) (fun _ h => h.elim) ?aF ?aB ?aS ?aL ?_
         (case aR => exact kC_ (Kd.C_below HR2.out HB.out))
         (case aB => exact (hbA_ HB.out))
         (case aF => exact (fun _ _ => trivial))
         (case aO => exact (kR_ HO154.out))
         (case aS => exact (below_size (hbA_ HB.out)))
         (case aL => have := LMc45.out; omega)
         intro v156 w63 ho hb hg hat
         rw [← Ny155.out] at ho
         have n0_ := (bgA_ BK139 hg (Kd.R_ne HO154.out BK139.out (by decide))); have n1_ := (bgA_ BK140 hg (Kd.R_ne HO154.out BK140.out (by decide))); have n2_ := Aside0.mk (Kd.R_over' (kR_ HO146.out) (Kd.R_typed (kR_ HO154.out)) (by decide) hg); have n3_ := Aside0.mk (Kd.S_after (ok := (fun _ => True)) (kS_ HO149.out) hg hat); have n4_ := (bgA_ BK150 hg (Kd.R_ne HO154.out BK150.out (by decide))); have n5_ := Aside0.mk (hb); have n6_ := Aside0.mk (ho); clear BK139 BK140 HO146 HO149 BK150 HB HO154; have BK139 := n0_; have BK140 := n1_; have HO146 := n2_; have HO149 := n3_; have BK150 := n4_; have HB := n5_; have HO157 := n6_; clear n0_ n1_ n2_ n3_ n4_ n5_ n6_ ho hb hg hat
         obtain ⟨Ao64, co64, eo64⟩ := Kd.R_slice HO157.out
         (first | subst eo64 | (injection eo64 with f1_ f2_ f3_; have f4_ := f1_.symm; have f5_ := f3_.symm; clear f1_ f2_ f3_; subst f4_; subst f5_))
         refine hK.out _ _ (cz2 BK150.out) (fun hHeld => ?_)
         clear hK K; refine nm_ 46 ?_; refine pu_ (i := 6) (N := some 47) HT_ ?_
         refine on_ (i := 7) (N := some 48) HT_ (fun K hK => ?_)
         refine value_ (w1 := ?_) (v := ?_) (by rfl) rfl ?_ ?_
         rotate_left 2
         ·go_simp
          constructor
          ·rfl
          ·rfl
         refine hK.out _ _ ⟨(blk_cell (blk_alloc BK150.out _) 0).trans rfl, (blk_cell (blk_alloc BK150.out _) 1).trans rfl⟩ (fun hHeld => ?_)
         clear hK K; refine nm_ 48 ?_
         refine on_ (i := 8) (N := some 49) HT_ (fun K hK => ?_)
         refine Kd.S_append_step k36 (w0 := w) w.heap.size (by rfl) (.tmp 42) (.tmp 48) 24 36 (.agg #[(.int .i64 0), (.slice none 0 0)]) 32 rfl Try.underlying24 info36 rfl (by decide) (by omega) (.slice Ao57 t147.length co57) t147 (⟨a1, y155⟩ : S36) [.int .i64 a1, .slice Ao64 y155.length co64] (fun _ => True) (fun k_ => some k_ = (.slice Ao64 y155.length co64 : Value).ownBlock) rfl rfl ?aP (fun k_ hk_ => ((Kd.R_mono (ok' := fun k_ => ((fun _ => True)) k_ ∧ some k_ ≠ (.slice Ao57 t147.length co57 : Value).ownBlock) (Kd.R_apart' (HO157.out) (Kd.S_typed HO149.out) (by decide)) (fun k_ hk => ⟨trivial, hk.2⟩))).1 k_ hk_.symm) ?aF ?aO ?aB ?aS ?aL ?_
         (case aP => exact k36_mkM _ _ _ (⟨a1, y155⟩ : S36) (Kd.R_mono (Kd.R_tight rfl (Kd.R_mono (ok' := fun k_ => ((fun _ => True)) k_ ∧ some k_ ≠ (.slice Ao57 t147.length co57 : Value).ownBlock) (Kd.R_apart' (HO157.out) (Kd.S_typed HO149.out) (by decide)) (fun k_ hk => ⟨trivial, hk.2⟩))) (fun _ h_ => h_)))
         (case aB => exact (hbA_ HB.out))
         (case aF => exact (fun _ _ => trivial))
         (case aO => exact (by refine kS_ ?_; exact Kd.S_mono HO149.out (fun k_ hk => ⟨trivial, fun e_ => hk.2 e_⟩)))
         (case aS => exact (below_size (hbA_ HB.out)))
         (case aL => have := LMc46.out; omega)
         intro v159 w65 ho hb hg hat
         rw [← Ny158.out] at ho
         have n0_ := (bgA_ BK139 hg (Kd.S_ne HO149.out BK139.out (by decide))); have n1_ := (bgA_ BK140 hg (Kd.S_ne HO149.out BK140.out (by decide))); have n2_ := Aside0.mk (Kd.R_over' (kR_ HO146.out) (Kd.S_typed (kS_ HO149.out)) (by decide) hg); have n3_ := (bgA_ BK150 hg (Kd.S_ne HO149.out BK150.out (by decide))); have n4_ := Aside0.mk (hb); have n5_ := Aside0.mk (ho); clear BK139 BK140 HO146 BK150 HB HO149 HO157; have BK139 := n0_; have BK140 := n1_; have HO146 := n2_; have BK150 := n3_; have HB := n4_; have HO160 := n5_; clear n0_ n1_ n2_ n3_ n4_ n5_ ho hb hg hat
         obtain ⟨Ao66, co66, eo66⟩ := Kd.S_slice HO160.out
         (first | subst eo66 | (injection eo66 with f1_ f2_ f3_; have f4_ := f1_.symm; have f5_ := f3_.symm; clear f1_ f2_ f3_; subst f4_; subst f5_))
         refine hK.out _ _ (cz2 BK150.out) (fun hHeld => ?_)
         clear hK K; refine nm_ 49 ?_; refine pu_ (i := 9) (N := some 50) HT_ ?_
         refine last_ (i := 10) (N := none) #[true, true, true, true, true, true, true, true, true, true, true] rfl rfl (one_of HT_.out (by kernel_rfl)) (by decide) (fun K hK => ?_)
         have hs67 : w65.cell? ⟨gb150, 1, none⟩ = some (.slice Ao57 t147.length co57) := bc_ BK150 1
         have hfs67 := blk_frozen BK150.out 1
         have hns67_0 := NB139_150.out; have hns67_1 := NB140_150.out; have hms67_0 := NB150_139.out; have hms67_1 := NB150_140.out
         refine skip_ (w1 := ?_) (by rfl) rfl ?_ ?_
         rotate_left
         ·go_simp
          rfl
         refine hK.out _ _ ?_
         clear hK K
         refine done_ (done_of HT_.out (by kernel_rfl)) ?_
         obtain ⟨w68, h_w68⟩ : ∃ w_, (w65.setCell ⟨gb150, 1, none⟩ (.slice Ao66 y158.length co66)) = w_ := ⟨_, rfl⟩
         have n0_ : Aside0 (Kd.R k60 60 w68 w.heap.size (fun _ => True) (.slice Ao53 t144.length co53) t144) := ⟨by subst h_w68; refine kR_ ?_; exact Kd.R_mono (Kd.R_f gb150 1 (.slice Ao66 y158.length co66) (Kd.R_types HO146.out BK150.out (by decide))) (fun _ hk => trivial)⟩
         have n1_ : Aside0 (Kd.S k36 36 w68 w.heap.size (fun _ => True) (.slice Ao66 y158.length co66) y158) := ⟨by subst h_w68; refine kS_ ?_; exact Kd.S_mono (Kd.S_far (p := ⟨gb150, 1, none⟩) (Kd.S_types HO160.out BK150.out (by decide)) (fun _ hk => hk.2) (.slice Ao66 y158.length co66)) (fun _ hk => trivial)⟩
         have n2_ : Aside0 (w68.heap[gb139]? = some (.cells #[.slice A0_0 l0_0.length c0_0, .slice A0_1 l0_1.length c0_1] 26 (0, 0))) := ⟨by subst h_w68; exact kf_ BK139.out⟩
         have n3_ : Aside0 (w68.heap[gb140]? = some (.cells #[.slice none 0 0, .slice none 0 0] 26 (0, 0))) := ⟨by subst h_w68; exact kf_ BK140.out⟩
         have n4_ : Aside0 (w68.heap[gb150]? = some (.cells #[.slice Ao53 t144.length co53, .slice Ao66 y158.length co66] 26 (0, 0))) := ⟨by subst h_w68; refine kb_ ?_; refine blk_put (cs := #[.slice Ao53 t144.length co53, .slice Ao57 t147.length co57]) ?_ 1 _ rfl; refine kb_ ?_; exact BK150.out⟩
         have n5_ : Aside0 (Below w.heap.size w w68) := ⟨by subst h_w68; exact hbA_ HB.out⟩
         (try clear HO146); (try clear HO160); (try clear BK139); (try clear BK140); (try clear BK150); (try clear HB)
         (try rw [h_w68]); clear h_w68
         have HO146 := n0_; have HO160 := n1_; have BK139 := n2_; have BK140 := n3_; have BK150 := n4_; have HB := n5_; clear n0_ n1_ n2_ n3_ n4_ n5_; have Z69 := zz2 BK150
         have q70 : (1 : Int) ≤ ((y158.length : Int) : Int) := of_decide_eq_true (by first | (with_reducible assumption) | assumption)
         obtain ⟨i070, hi070, _, hsz70, _⟩ := info_parts info36
         have hcut70 := cut_from (P := Try.prog) 24 36 .i64 Try.underlying24 hi070 2 hsz70 Ao66 y158.length co66 1 (by omega) q70
         have hr70 := Kd.Q_drop (k := (1 : Int).toNat) (Kd.Q_of_R (Kd.S_R HO160.out)) (by omega)
         obtain ⟨A70, hA70⟩ : ∃ A1, A1 = (if co66 = (1 : Int).toNat then Ao66 else (Ao66 : Option Addr).map (·.add ((1 : Int).toNat * 2))) := ⟨_, rfl⟩
         obtain ⟨c70, hc70⟩ : ∃ c1, c1 = co66 - (1 : Int).toNat := ⟨_, rfl⟩
         have hy70 : y161.length = y158.length - (1 : Int).toNat := (by rw [Ny161.out, List.length_drop])
         rw [← Ny161.out] at hr70
         rw [← hy70, ← hA70, ← hc70] at hcut70
         replace hr70 : Kd.Q k36 36 w68 w.heap.size (fun _ => True) (.slice A70 y161.length c70) y161 := (by rw [hA70, hc70, hy70]; exact hr70)
         have HE70 : Aside0 ((Value.slice A70 y161.length c70).ownBlock = (.slice Ao66 y158.length co66 : Value).ownBlock) := ⟨by rw [hA70]; split <;> (cases (Ao66 : Option Addr) <;> first | rfl | simp [Value.ownBlock, add_block])⟩
         clear hy70 hi070 hsz70 HO160 hA70 hc70; have HO163 := Aside0.mk hr70; clear hr70
         replace q70 := eq_true q70
         have Z71 := zz2 BK140
         try go_wp2
         refine bodyPost_ret (results_ct rfl _ _ gb140 26 #[.slice Ao53 t144.length co53, .slice A70 y161.length c70] (0, 0) _ rfl (by refine kb_ ?_; refine pz2 (cs := #[.slice none 0 0, .slice none 0 0]) ?_; exact kf_ BK140.out) Try.underlying26 rfl (by kernel_rfl)) rfl ?_
         exact ⟨_, _, by first | rfl | (simp [errW_none, errW_some] <;> rfl) | (simp [*, errW_none, errW_some] <;> rfl), by refine kR_ ?_; exact rfm_ ((Kd.R_far (p := ⟨gb150, 1, none⟩) (Kd.R_types (Kd.R_types HO146.out BK150.out (by decide)) BK140.out (by decide)) (fun _ hk => hk.1.2) (.slice A70 y161.length c70))) (fun _ hk => trivial), by (with_reducible repeat (first | apply Kd.Q_alloc | apply Kd.Q_drewN | apply Kd.Q_drew)); exact Kd.Q_mono (Kd.Q_far (p := ⟨gb140, 1, none⟩) (Kd.Q_far (p := ⟨gb140, 0, none⟩) (Kd.Q_far (p := ⟨gb150, 1, none⟩) (Kd.Q_types (Kd.Q_types HO163.out BK150.out (by decide)) BK140.out (by decide)) (fun _ hk => hk.1.2) (.slice A70 y161.length c70)) (fun _ hk => hk.2) (.slice Ao53 t144.length co53)) (fun _ hk => hk.2) (.slice A70 y161.length c70)) (fun _ hk => trivial), hbA_ HB.out⟩
        ·rw [if_neg c48] at H
         exact absurd H (by simp)
       ·rw [if_neg c47] at H
        have c47b0 : decide (4 < (y158.length : Int)) = false := decide_eq_false c47
        have c47b1 : decide (4 < y158.length) = false := decide_eq_false (by omega)
        clear c47
        simp only [Option.some.injEq, Prod.mk.injEq] at H
        obtain ⟨rfl, rfl, rfl⟩ := H
        have hnb72 := NB139_140.out; have hnc72 := NB140_139.out; have Z73 := zz2 BK139
        try go_wp2_with (first | ((with_reducible refine gate_callee (f := 31) rfl ?_); refine goesL_ (some 32) rfl rfl Try.func31 (by kernel_rfl) rfl #[.agg #[.slice A0_0 l0_0.length c0_0, .slice A0_1 l0_1.length c0_1]] rfl ar_ ?_; (with_reducible refine (spec_l3Copy.calls kj4 _ _ l0_0 _ _ l0_1 t144 t147 _ ?side1 ?side2 ?side3 ?side4 A29.out).mono ?_); (case side1 => exact kC_ (Kd.C_below HR0_0.out HB.out)); (case side2 => exact HC0_0.out); (case side3 => exact kC_ (Kd.C_below HR0_1.out HB.out)); (case side4 => exact HC0_1.out); rintro e w74 ⟨v145, v148, rfl, ho0, ho1, hb⟩; refine ⟨_, rfl, ?_⟩; have HO146 := Aside0.mk (Kd.R_lower ho0 (below_size (hbA_ HB.out))); have HO149 := Aside0.mk (Kd.S_lower ho1 (below_size (hbA_ HB.out))); replace BK139 := (bbA_ BK139 hb); replace BK140 := (bbA_ BK140 hb); replace HB := (bs_ HB hb); (try clear hb); (try clear hb2); (try clear hk); (try clear hi); (try clear ho0); (try clear ho1)) | ((with_reducible refine gate_dst (N := 10) rfl ?_); (try (refine gate_guard (by rfl) ?_; dsimp only)); refine box_ (N := 10) (cs := #[.slice none 0 0, .slice none 0 0]) (t := 26) (fun gb150 hg w75 hbox hb => ?_); replace HO146 := Aside0.mk (Kd.R_below (kR_ HO146.out) hb); replace HO149 := Aside0.mk (Kd.S_below (kS_ HO149.out) hb); have BK150 := Aside0.mk (hbox); have GW150 := ge_ hg HB; have GE150 := ge_ hg HB; replace HB := (bs_ HB hb); have NB139_150 := nl_ hg BK139; have NB150_139 := ng_ hg BK139; replace BK139 := (bbA_ BK139 hb); have NB140_150 := nl_ hg BK140; have NB150_140 := ng_ hg BK140; replace BK140 := (bbA_ BK140 hb); clear hb hbox hg; obtain ⟨Ao76, co76, eo76⟩ := Kd.R_slice HO146.out; subst eo76; have hnb77 := NB150_139.out; have hnc77 := NB139_150.out; have hnb78 := NB150_140.out; have hnc78 := NB140_150.out; have Z79 := zz2 BK150; obtain ⟨Ao80, co80, eo80⟩ := Kd.S_slice HO149.out; subst eo80; have Z81 := zz2 BK139) | ((with_reducible refine gate_callee (f := 32) rfl ?_); refine goesL_ (some 36) rfl rfl Try.func32 (by kernel_rfl) rfl #[.agg #[.slice A0_0 l0_0.length c0_0, .slice A0_1 l0_1.length c0_1], .int .i64 a1, .int .i64 a3] rfl ar_ ?_; (with_reducible refine (spec_NearFind.calls kj4 _ _ l0_0 _ _ l0_1 a1 a3 t151 _ ?side1 ?side2 ?side3 ?side4 A30.out).mono ?_); (case side1 => exact Kd.C_below HR0_0.out (hbA_ HB.out)); (case side2 => exact HC0_0.out); (case side3 => exact Kd.C_below HR0_1.out (hbA_ HB.out)); (case side4 => exact HC0_1.out); rintro e w82 ⟨rfl, hb⟩; refine ⟨_, rfl, ?_⟩; replace HO146 := Aside0.mk (Kd.R_below (by refine kR_ ?_; exact (rfm_ ((Kd.R_types HO146.out BK150.out (by decide))) (fun _ h_ => op1_ h_))) hb); replace HO149 := Aside0.mk (Kd.S_below (by refine kS_ ?_; exact (Kd.S_mono (Kd.S_far (p := ⟨gb150, 1, none⟩) (Kd.S_far (p := ⟨gb150, 0, none⟩) (Kd.S_types HO149.out BK150.out (by decide)) (fun _ hk => hk.2) (.slice Ao76 t144.length co76)) (fun _ hk => hk.2) (.slice Ao80 t147.length co80)) (fun _ h_ => op1_ h_))) hb); replace BK139 := Aside0.mk (blk_below (g := gb139) (o := .cells #[.slice A0_0 l0_0.length c0_0, .slice A0_1 l0_1.length c0_1] 26 (0, 0)) (by exact kf_ BK139.out) hb); replace BK140 := Aside0.mk (blk_below (g := gb140) (o := .cells #[.slice none 0 0, .slice none 0 0] 26 (0, 0)) (by exact kf_ BK140.out) hb); replace BK150 := Aside0.mk (blk_below (g := gb150) (o := .cells #[.slice Ao76 t144.length co76, .slice Ao80 t147.length co80] 26 (0, 0)) (by refine kb_ ?_; refine pz2 (cs := #[.slice none 0 0, .slice none 0 0]) ?_; refine kb_ ?_; exact BK150.out) hb); replace HB := (bs_ HB hb); (try clear hb); (try clear hb2); (try clear hk); (try clear hi)))
        replace HO146 := Aside0.mk (Kd.R_drew HO146.out); replace HO149 := Aside0.mk (Kd.S_drew HO149.out); replace BK139 := Aside0.mk (blk_drew BK139.out); replace BK140 := Aside0.mk (blk_drew BK140.out); replace BK150 := Aside0.mk (blk_drew BK150.out); replace HB := (bd_ HB)
        refine start_ (n := 11) (S := fun w' => w'.cell? ⟨gb150, 0, none⟩ = some (.slice Ao76 t144.length co76) ∧ w'.cell? ⟨gb150, 1, none⟩ = some (.slice Ao80 t147.length co80)) (ds := [10]) #[false, false, false, false, false, false, false, false, false, false, false] (by kernel_rfl) rfl rfl (cz2 BK150.out) (fun hHeld => ?_); refine with_tabW spec_NearSend.tab7 spec_NearSend.bits7 (fun HT_ HW_ => ?_)
        generalize w82.drew = w83 at HO146 HO149 BK139 BK140 BK150 HB hHeld ⊢
        refine pu_ (i := 0) (N := some 41) HT_ ?_; refine pu_ (i := 2) (N := some 43) HT_ ?_; refine pu_ (i := 4) (N := some 45) HT_ ?_; refine tk_ (i := 1) (N := some 42) HT_ HW_ hHeld ?_
        refine on_ (i := 3) (N := some 44) HT_ (fun K hK => ?_)
        refine Kd.R_lit_step (Kd.int .u8) _ 5 ?hg (N := 44) ?hd (xs := ([] : List Int)) (inner := []) (ok := fun _ => True) (okp := fun _ => True) ?hr ?hp (fun _ hk => hk) trivial (Below.refl _ _) (Nat.le_refl _) (by simp) ?_; (case hd => rfl); (case hg => rfl); (case hr => first | (go_simp; done) | (go_simp; rfl)); (case hp => exact (Reps.none _ _))
        intro v153 w84 ho85 hb hg_ hnew_
        clear hg_ hnew_
        (first | rw [← Ny152.out] at ho85 | (simp only [Int.reduceToNat] at ho85; rw [← Ny152.out] at ho85))
        have n0_ := Aside0.mk (Kd.R_below (kR_ HO146.out) hb); have n1_ := Aside0.mk (Kd.S_elder' (kS_ HO149.out) (Kd.R_base ho85) hb); have n2_ := Aside0.mk (Kd.R_lower ho85 (below_size (hbA_ HB.out))); have n3_ := (bbA_ BK139 hb); have n4_ := (bbA_ BK140 hb); have n5_ := (bbA_ BK150 hb); have n6_ := (bs_ HB hb); clear HO146 HO149 BK139 BK140 BK150 HB; have HO146 := n0_; have HO149 := n1_; have HO154 := n2_; have BK139 := n3_; have BK140 := n4_; have BK150 := n5_; have HB := n6_; clear n0_ n1_ n2_ n3_ n4_ n5_ n6_ hb ho85
        refine hK.out _ _ (cz2 BK150.out) (fun hHeld => ?_)
        clear hK K; refine nm_ 44 ?_
        refine on_ (i := 5) (N := some 46) HT_ (fun K hK => ?_)
        refine Kd.R_append_rows_step (Kd.int .u8) (w0 := w) w.heap.size (by rfl) (.tmp 44) (.tmp 45) 22 5 (.int .u8 0) 1 rfl Try.underlying22 info5 rfl (by decide) (by omega) v153 y152 l2 _ _ _ (fun _ => True) (fun _ => False) rfl rfl ?aO ?aR (fun _ _ h => h) (fun _ h => h.elim) ?aF ?aB ?aS ?aL ?_
        (case aR => exact kC_ (Kd.C_below HR2.out HB.out))
        (case aB => exact (hbA_ HB.out))
        (case aF => exact (fun _ _ => trivial))
        (case aO => exact (kR_ HO154.out))
        (case aS => exact (below_size (hbA_ HB.out)))
        (case aL => have := LMc45.out; omega)
        intro v156 w86 ho hb hg hat
        rw [← Ny155.out] at ho
        have n0_ := (bgA_ BK139 hg (Kd.R_ne HO154.out BK139.out (by decide))); have n1_ := (bgA_ BK140 hg (Kd.R_ne HO154.out BK140.out (by decide))); have n2_ := Aside0.mk (Kd.R_over' (kR_ HO146.out) (Kd.R_typed (kR_ HO154.out)) (by decide) hg); have n3_ := Aside0.mk (Kd.S_after (ok := (fun _ => True)) (kS_ HO149.out) hg hat); have n4_ := (bgA_ BK150 hg (Kd.R_ne HO154.out BK150.out (by decide))); have n5_ := Aside0.mk (hb); have n6_ := Aside0.mk (ho); clear BK139 BK140 HO146 HO149 BK150 HB HO154; have BK139 := n0_; have BK140 := n1_; have HO146 := n2_; have HO149 := n3_; have BK150 := n4_; have HB := n5_; have HO157 := n6_; clear n0_ n1_ n2_ n3_ n4_ n5_ n6_ ho hb hg hat
        obtain ⟨Ao87, co87, eo87⟩ := Kd.R_slice HO157.out
        (first | subst eo87 | (injection eo87 with f1_ f2_ f3_; have f4_ := f1_.symm; have f5_ := f3_.symm; clear f1_ f2_ f3_; subst f4_; subst f5_))
        refine hK.out _ _ (cz2 BK150.out) (fun hHeld => ?_)
        clear hK K; refine nm_ 46 ?_; refine pu_ (i := 6) (N := some 47) HT_ ?_
        refine on_ (i := 7) (N := some 48) HT_ (fun K hK => ?_)
        refine value_ (w1 := ?_) (v := ?_) (by rfl) rfl ?_ ?_
        rotate_left 2
        ·go_simp
         constructor
         ·rfl
         ·rfl
        refine hK.out _ _ ⟨(blk_cell (blk_alloc BK150.out _) 0).trans rfl, (blk_cell (blk_alloc BK150.out _) 1).trans rfl⟩ (fun hHeld => ?_)
        clear hK K; refine nm_ 48 ?_
        refine on_ (i := 8) (N := some 49) HT_ (fun K hK => ?_)
        refine Kd.S_append_step k36 (w0 := w) w.heap.size (by rfl) (.tmp 42) (.tmp 48) 24 36 (.agg #[(.int .i64 0), (.slice none 0 0)]) 32 rfl Try.underlying24 info36 rfl (by decide) (by omega) (.slice Ao80 t147.length co80) t147 (⟨a1, y155⟩ : S36) [.int .i64 a1, .slice Ao87 y155.length co87] (fun _ => True) (fun k_ => some k_ = (.slice Ao87 y155.length co87 : Value).ownBlock) rfl rfl ?aP (fun k_ hk_ => ((Kd.R_mono (ok' := fun k_ => ((fun _ => True)) k_ ∧ some k_ ≠ (.slice Ao80 t147.length co80 : Value).ownBlock) (Kd.R_apart' (HO157.out) (Kd.S_typed HO149.out) (by decide)) (fun k_ hk => ⟨trivial, hk.2⟩))).1 k_ hk_.symm) ?aF ?aO ?aB ?aS ?aL ?_
        (case aP => exact k36_mkM _ _ _ (⟨a1, y155⟩ : S36) (Kd.R_mono (Kd.R_tight rfl (Kd.R_mono (ok' := fun k_ => ((fun _ => True)) k_ ∧ some k_ ≠ (.slice Ao80 t147.length co80 : Value).ownBlock) (Kd.R_apart' (HO157.out) (Kd.S_typed HO149.out) (by decide)) (fun k_ hk => ⟨trivial, hk.2⟩))) (fun _ h_ => h_)))
        (case aB => exact (hbA_ HB.out))
        (case aF => exact (fun _ _ => trivial))
        (case aO => exact (by refine kS_ ?_; exact Kd.S_mono HO149.out (fun k_ hk => ⟨trivial, fun e_ => hk.2 e_⟩)))
        (case aS => exact (below_size (hbA_ HB.out)))
        (case aL => have := LMc46.out; omega)
        intro v159 w88 ho hb hg hat
        rw [← Ny158.out] at ho
        have n0_ := (bgA_ BK139 hg (Kd.S_ne HO149.out BK139.out (by decide))); have n1_ := (bgA_ BK140 hg (Kd.S_ne HO149.out BK140.out (by decide))); have n2_ := Aside0.mk (Kd.R_over' (kR_ HO146.out) (Kd.S_typed (kS_ HO149.out)) (by decide) hg); have n3_ := (bgA_ BK150 hg (Kd.S_ne HO149.out BK150.out (by decide))); have n4_ := Aside0.mk (hb); have n5_ := Aside0.mk (ho); clear BK139 BK140 HO146 BK150 HB HO149 HO157; have BK139 := n0_; have BK140 := n1_; have HO146 := n2_; have BK150 := n3_; have HB := n4_; have HO160 := n5_; clear n0_ n1_ n2_ n3_ n4_ n5_ ho hb hg hat
        obtain ⟨Ao89, co89, eo89⟩ := Kd.S_slice HO160.out
        (first | subst eo89 | (injection eo89 with f1_ f2_ f3_; have f4_ := f1_.symm; have f5_ := f3_.symm; clear f1_ f2_ f3_; subst f4_; subst f5_))
        refine hK.out _ _ (cz2 BK150.out) (fun hHeld => ?_)
        clear hK K; refine nm_ 49 ?_; refine pu_ (i := 9) (N := some 50) HT_ ?_
        refine last_ (i := 10) (N := none) #[true, true, true, true, true, true, true, true, true, true, true] rfl rfl (one_of HT_.out (by kernel_rfl)) (by decide) (fun K hK => ?_)
        have hs90 : w88.cell? ⟨gb150, 1, none⟩ = some (.slice Ao80 t147.length co80) := bc_ BK150 1
        have hfs90 := blk_frozen BK150.out 1
        have hns90_0 := NB139_150.out; have hns90_1 := NB140_150.out; have hms90_0 := NB150_139.out; have hms90_1 := NB150_140.out
        refine skip_ (w1 := ?_) (by rfl) rfl ?_ ?_
        rotate_left
        ·go_simp
         rfl
        refine hK.out _ _ ?_
        clear hK K
        refine done_ (done_of HT_.out (by kernel_rfl)) ?_
        have Z91 := zz2 BK150; have Z92 := zz2 BK140
        try go_wp2
        refine bodyPost_ret (results_ct rfl _ _ gb140 26 #[.slice Ao76 t144.length co76, .slice Ao89 y158.length co89] (0, 0) _ rfl (by refine kb_ ?_; refine pz2 (cs := #[.slice none 0 0, .slice none 0 0]) ?_; exact kf_ BK140.out) Try.underlying26 rfl (by kernel_rfl)) rfl ?_
        exact ⟨_, _, by first | rfl | (simp [errW_none, errW_some] <;> rfl) | (simp [*, errW_none, errW_some] <;> rfl), by refine kR_ ?_; exact rfm_ ((Kd.R_far (p := ⟨gb150, 1, none⟩) (Kd.R_types (Kd.R_types HO146.out BK150.out (by decide)) BK140.out (by decide)) (fun _ hk => hk.1.2) (.slice Ao89 y158.length co89))) (fun _ hk => trivial), Kd.Q_of_R ((Kd.S_R (by refine kS_ ?_; exact Kd.S_mono (Kd.S_far (p := ⟨gb140, 1, none⟩) (Kd.S_far (p := ⟨gb140, 0, none⟩) (Kd.S_far (p := ⟨gb150, 1, none⟩) (Kd.S_types (Kd.S_types HO160.out BK150.out (by decide)) BK140.out (by decide)) (fun _ hk => hk.1.2) (.slice Ao89 y158.length co89)) (fun _ hk => hk.2) (.slice Ao76 t144.length co76)) (fun _ hk => hk.2) (.slice Ao89 y158.length co89)) (fun _ hk => trivial)))), hbA_ HB.out⟩
      ·rw [if_neg c46] at H
       exact absurd H (by simp)
     ·rw [if_neg c45] at H
      exact absurd H (by simp)
def spec_l20Rd_pick.j0 : Nat → Int → Bool → List Int → Int → Option (Int × Int)
 | 0, _, _, _, _ => none
 | k + 1, x1, x24, x1000, x1001 => if x24 = true then (some (0, x1001)) else (if (wrap64 (x1001 - 1)) < (x1000.length : Int) then (if 0 ≤ (wrap64 (x1001 - 1)) then (if x1 = 0 then (none) else (some (Int.tmod (wrap64 (rd x1000 (wrap64 (x1001 - 1)))) x1, x1001))) else (none)) else (if (x1000.length : Int) = 0 then (none) else (if 0 ≤ (Int.tmod (wrap64 (x1001 - 1)) (x1000.length : Int)) then (if (Int.tmod (wrap64 (x1001 - 1)) (x1000.length : Int)) < (x1000.length : Int) then (if 0 ≤ (Int.tmod (wrap64 ((wrap64 ((wrap64 (x1001 - 1)) * 7)) + 3)) (x1000.length : Int)) then (if (Int.tmod (wrap64 ((wrap64 ((wrap64 (x1001 - 1)) * 7)) + 3)) (x1000.length : Int)) < (x1000.length : Int) then (if x1 = 0 then (none) else (some (Int.tmod (Go.bits .xor .i64 (wrap64 ((wrap64 ((wrap64 ((wrap64 ((wrap64 (rd x1000 (Int.tmod (wrap64 (x1001 - 1)) (x1000.length : Int)))) * 131)) + (wrap64 ((wrap64 (rd x1000 (Int.tmod (wrap64 ((wrap64 ((wrap64 (x1001 - 1)) * 7)) + 3)) (x1000.length : Int)))) * 1117)))) + (wrap64 ((wrap64 (x1001 - 1)) * 29)))) + (wrap64 ((wrap64 (Int.tdiv (wrap64 (x1001 - 1)) (x1000.length : Int))) * 53)))) (wrap64 (Int.tdiv (wrap64 ((wrap64 ((wrap64 ((wrap64 ((wrap64 (rd x1000 (Int.tmod (wrap64 (x1001 - 1)) (x1000.length : Int)))) * 131)) + (wrap64 ((wrap64 (rd x1000 (Int.tmod (wrap64 ((wrap64 ((wrap64 (x1001 - 1)) * 7)) + 3)) (x1000.length : Int)))) * 1117)))) + (wrap64 ((wrap64 (x1001 - 1)) * 29)))) + (wrap64 ((wrap64 (Int.tdiv (wrap64 (x1001 - 1)) (x1000.length : Int))) * 53)))) 64))) x1, x1001))) else (none)) else (none)) else (none)) else (none))))
def spec_l20Rd_pick.f (k : Nat) (s0_0 : List Int) (s0_1 : Int) (a1 : Int) : Option (Int × Int) := if a1 < 1 then (spec_l20Rd_pick.j0 k a1 true s0_0 (wrap64 (s0_1 + 1))) else (spec_l20Rd_pick.j0 k a1 ((s0_0.length : Int) == 0) s0_0 (wrap64 (s0_1 + 1)))
theorem spec_l20Rd_pick.mono_l : ∀ k, (∀ y0 y1 y2 y3, LeO (spec_l20Rd_pick.j0 k y0 y1 y2 y3) (spec_l20Rd_pick.j0 (k + 1) y0 y1 y2 y3))
 | 0 => fun _ _ _ _ r h => by simp [spec_l20Rd_pick.j0] at h
 | k + 1 => by
  have ih0 := spec_l20Rd_pick.mono_l k
  ·intro y0 y1 y2 y3
   unfold spec_l20Rd_pick.j0
   repeat' first | (with_reducible first | apply ih0 | exact LeO.refl _ | exact LeO.none _ | refine LeO.ite ?_ ?_ | refine LeO.bind ?_ fun _ => ?_) | apply ih0 | exact LeO.none _ | refine LeO.ite ?_ ?_ | refine LeO.bind ?_ fun _ => ?_
theorem spec_l20Rd_pick.mono : ∀ a0 a1 a2 k, LeO (spec_l20Rd_pick.f k a0 a1 a2) (spec_l20Rd_pick.f (k + 1) a0 a1 a2) := by
 intro a0 a1 a2 k
 have ih0 := spec_l20Rd_pick.mono_l k
 unfold spec_l20Rd_pick.f
 repeat' first | (with_reducible first | apply ih0 | exact LeO.refl _ | exact LeO.none _ | refine LeO.ite ?_ ?_ | refine LeO.bind ?_ fun _ => ?_) | apply ih0 | exact LeO.none _ | refine LeO.ite ?_ ?_ | refine LeO.bind ?_ fun _ => ?_
set_option maxHeartbeats 8000000 in
set_option maxRecDepth 100000 in
theorem spec_l20Rd_pick.calls (k : Nat) (g : Nat) (s0_0 : List Int) (s0_1 : Int) (a1 : Int) (r1 : Int) (r2 : Int) (w0 w : World) (hI : IsS73 w0 w g s0_0 s0_1) (hB : Below w0.heap.size w0 w) (h : spec_l20Rd_pick.f k s0_0 s0_1 a1 = some (r1, r2)) :
  Calls Try.prog 23 #[.pointer (some ⟨g, 0, none⟩), .int .i64 a1] w fun e w' => e = .returned (.int .i64 r1) ∧ IsS73 w0 w' g s0_0 r2 ∧ Below w0.heap.size w0 w' ∧ KeepBut w w' g none := by
 have HI0 := Aside0.mk hI
 have HK := Aside0.mk (KeepBut.refl w g none)
 have HL := Aside0.mk hB.size; clear hI; have HW0 := Aside0.mk hB.size; have HB := Aside0.mk hB; clear hB
 have H : (if a1 < 1 then (spec_l20Rd_pick.j0 k a1 true s0_0 (wrap64 (s0_1 + 1))) else (spec_l20Rd_pick.j0 k a1 ((s0_0.length : Int) == 0) s0_0 (wrap64 (s0_1 + 1)))) = some (r1, r2) := h
 clear h; have HC3 := Aside0.mk H; clear H
 obtain ⟨ASz4_0, cSz4_0, HGz4, hgz4, HSz4_0⟩ := HI0.out
 have hcz4_0 := cellS73_0 HGz4
 have hcz4_1 := cellS73_1 HGz4
 have hfz4_1 := blk_frozen HGz4 1; clear HGz4 hgz4
 go_enter Try.func23, Try.ntmps23
 go_upto_region 2 with (fail)
 repeat (go_quiet (fail); go_upto_region 2 with (fail))
 go_cut [24] (fun v24 wc => ∃ (kq : Nat) (x24_2 : Bool), v24 = .bool x24_2 ∧ Aside0 (spec_l20Rd_pick.j0 kq a1 x24_2 s0_0 (wrap64 (s0_1 + 1)) = some (r1, r2)) ∧ Aside0 (kq ≤ k) ∧ Aside0 (IsS73 w0 wc g s0_0 (wrap64 (s0_1 + 1))) ∧ Aside0 (KeepBut w wc g none) ∧ Aside0 (Below w0.heap.size w0 wc))
 case first =>
  have H := HC3.out; clear HC3
  by_cases c5 : a1 < 1
  ·rw [if_pos c5] at H
   have c5b0 : decide (a1 < 1) = true := decide_eq_true c5
   clear c5
   (first | rw [c5b0] | (simp only [i64_w, i32_w]; rw [c5b0]) | skip)
   have H' := Aside0.mk H
   clear H
   go_wp2
   repeat (go_quiet (fail); try go_wp2)
   go_meet
   case rel => exact ⟨_, (true), (by first | rfl | (simp; done) | (simp [*]; done)), H', ⟨by first | omega | exact Nat.le_refl _⟩, ⟨is73_ HI0.out⟩, ⟨hkA_ HK.out⟩, ⟨hb73_ HB.out⟩⟩
  ·rw [if_neg c5] at H
   have c5b0 : decide (a1 < 1) = false := decide_eq_false c5
   clear c5
   (first | rw [c5b0] | (simp only [i64_w, i32_w]; rw [c5b0]) | skip)
   have H' := Aside0.mk H
   clear H
   obtain ⟨ASz6_0, cSz6_0, HGz6, hgz6, HSz6_0⟩ := HI0.out
   have hcz6_0 := cellS73_0 HGz6
   have hcz6_1 := cellS73_1 HGz6
   have hfz6_1 := blk_frozen HGz6 1; clear HGz6 hgz6
   go_wp2
   repeat (go_quiet (fail); try go_wp2)
   go_meet
   case rel => exact ⟨_, (((s0_0.length : Int) == 0)), (by first | rfl | (simp; done) | (simp [*]; done)), H', ⟨by first | omega | exact Nat.le_refl _⟩, ⟨is73_ HI0.out⟩, ⟨hkA_ HK.out⟩, ⟨hb73_ HB.out⟩⟩
 case rest =>
  clear HC3; (try clear c2); (try clear p2); (try clear c5); (try clear c5b0); (try clear p6); (try clear hcz4_0); (try clear hcz4_1); (try clear hcz6_0); (try clear hcz6_1); (try clear hfz4_1); (try clear hfz6_1)
  obtain ⟨kq, x24_2, rfl, HA, HJ2, HI0, HK, HB⟩ := hcut
  cases kq with
  | zero => exact absurd HA.out (by simp [spec_l20Rd_pick.j0])
  | succ kj2 =>
   have H := HA.out; clear HA
   simp only [spec_l20Rd_pick.j0] at H
   by_cases c7 : x24_2 = true
   ·subst c7
    rw [if_pos rfl] at H
    simp only [Option.some.injEq, Prod.mk.injEq] at H
    obtain ⟨rfl, rfl⟩ := H
    go_wp2
    repeat (go_quiet (fail); try go_wp2)
    go_ret
    exact ⟨by first | rfl | (simp [errW_none, errW_some] <;> rfl) | (simp [*, errW_none, errW_some] <;> rfl), is73_ HI0.out, hb73_ HB.out, hkA_ HK.out⟩
   ·replace c7 := Bool.eq_false_iff.mpr c7
    subst c7
    rw [if_neg (show ¬ (false = true) by decide)] at H
    by_cases c8 : (wrap64 ((wrap64 (s0_1 + 1)) - 1)) < (s0_0.length : Int)
    ·rw [if_pos c8] at H
     have c8b0 : decide ((wrap64 ((wrap64 (s0_1 + 1)) - 1)) < (s0_0.length : Int)) = true := decide_eq_true c8
     clear c8
     obtain ⟨ji9, hji9⟩ : ∃ j_ : Int, (wrap64 ((wrap64 (s0_1 + 1)) - 1)) = j_ := ⟨_, rfl⟩
     (first | rw [hji9] at H | simp only [hji9] at H)
     (try rw [hji9] at c8b0)
     have hji9w : (IntKind.i64.wrap ((wrap64 (s0_1 + 1)) - 1)) = ji9 := (i64_w _).trans hji9
     by_cases c10 : 0 ≤ (ji9)
     ·rw [if_pos c10] at H
      have c10b0 : decide (0 ≤ (ji9)) = true := decide_eq_true c10
      clear c10
      by_cases c11 : a1 = 0
      ·rw [if_pos c11] at H
       exact absurd H (by simp)
      ·rw [if_neg c11] at H
       have c11b0 : (a1 == 0) = false := beq_eq_false_iff_ne.mpr c11
       have c11b1 : (a1 != 0) = true := bne_iff_ne.mpr c11
       simp only [Option.some.injEq, Prod.mk.injEq] at H
       obtain ⟨rfl, rfl⟩ := H
       obtain ⟨ASz12_0, cSz12_0, HGz12, hgz12, HSz12_0⟩ := HI0.out
       have hcz12_0 := cellS73_0 HGz12
       have hcz12_1 := cellS73_1 HGz12
       have hfz12_1 := blk_frozen HGz12 1; clear HGz12 hgz12
       have p164 : 0 ≤ ((ji9) : Int) := of_decide_eq_true (by first | (with_reducible assumption) | assumption)
       have q164 : (ji9) < (s0_0.length : Int) := of_decide_eq_true (by first | (with_reducible assumption) | assumption)
       obtain ⟨ad164, e164, hx164_0⟩ := Kd.at_int HSz12_0 (ji9) p164 q164
       cases e164
       replace hx164_0 := pw_cell_below HB.out hx164_0
       replace p164 := eq_true p164
       replace q164 := eq_true q164
       go_wp2
       repeat (go_quiet (fail); try go_wp2)
       go_ret
       exact ⟨by first | rfl | (simp [errW_none, errW_some] <;> rfl) | (simp only [← hji9]; first | rfl | (simp [errW_none, errW_some] <;> rfl)) | (simp [*, errW_none, errW_some] <;> rfl), is73_ HI0.out, hb73_ HB.out, hkA_ HK.out⟩
     ·rw [if_neg c10] at H
      exact absurd H (by simp)
    ·rw [if_neg c8] at H
     have c8b0 : decide ((wrap64 ((wrap64 (s0_1 + 1)) - 1)) < (s0_0.length : Int)) = false := decide_eq_false c8
     clear c8
     by_cases c13 : (s0_0.length : Int) = 0
     ·rw [if_pos c13] at H
      exact absurd H (by simp)
     ·rw [if_neg c13] at H
      have c13b0 : ((s0_0.length : Int) == 0) = false := beq_eq_false_iff_ne.mpr c13
      have c13b1 : ((s0_0.length : Int) != 0) = true := bne_iff_ne.mpr c13
      have c13b2 : ¬ (s0_0 = []) := fun h_ => c13 (by rw [h_]; rfl)
      obtain ⟨ji14, hji14⟩ : ∃ j_ : Int, (Int.tmod (wrap64 ((wrap64 (s0_1 + 1)) - 1)) (s0_0.length : Int)) = j_ := ⟨_, rfl⟩
      (first | rw [hji14] at H | simp only [hji14] at H)
      by_cases c15 : 0 ≤ (ji14)
      ·rw [if_pos c15] at H
       have c15b0 : decide (0 ≤ (ji14)) = true := decide_eq_true c15
       clear c15
       by_cases c16 : (ji14) < (s0_0.length : Int)
       ·rw [if_pos c16] at H
        have c16b0 : decide ((ji14) < (s0_0.length : Int)) = true := decide_eq_true c16
        clear c16
        obtain ⟨ji17, hji17⟩ : ∃ j_ : Int, (Int.tmod (wrap64 ((wrap64 ((wrap64 ((wrap64 (s0_1 + 1)) - 1)) * 7)) + 3)) (s0_0.length : Int)) = j_ := ⟨_, rfl⟩
        (first | rw [hji17] at H | simp only [hji17] at H)
        by_cases c18 : 0 ≤ (ji17)
        ·rw [if_pos c18] at H
         have c18b0 : decide (0 ≤ (ji17)) = true := decide_eq_true c18
         clear c18
         by_cases c19 : (ji17) < (s0_0.length : Int)
         ·rw [if_pos c19] at H
          have c19b0 : decide ((ji17) < (s0_0.length : Int)) = true := decide_eq_true c19
          clear c19
          by_cases c20 : a1 = 0
          ·rw [if_pos c20] at H
           exact absurd H (by simp)
          ·rw [if_neg c20] at H
           have c20b0 : (a1 == 0) = false := beq_eq_false_iff_ne.mpr c20
           have c20b1 : (a1 != 0) = true := bne_iff_ne.mpr c20
           simp only [Option.some.injEq, Prod.mk.injEq] at H
           obtain ⟨rfl, rfl⟩ := H
           obtain ⟨ASz21_0, cSz21_0, HGz21, hgz21, HSz21_0⟩ := HI0.out
           have hcz21_0 := cellS73_0 HGz21
           have hcz21_1 := cellS73_1 HGz21
           have hfz21_1 := blk_frozen HGz21 1; clear HGz21 hgz21
           have p165 : 0 ≤ ((ji14) : Int) := of_decide_eq_true (by first | (with_reducible assumption) | assumption)
           have q165 : (ji14) < (s0_0.length : Int) := of_decide_eq_true (by first | (with_reducible assumption) | assumption)
           obtain ⟨ad165, e165, hx165_0⟩ := Kd.at_int HSz21_0 (ji14) p165 q165
           cases e165
           replace hx165_0 := pw_cell_below HB.out hx165_0
           replace p165 := eq_true p165
           replace q165 := eq_true q165
           have p166 : 0 ≤ ((ji17) : Int) := of_decide_eq_true (by first | (with_reducible assumption) | assumption)
           have q166 : (ji17) < (s0_0.length : Int) := of_decide_eq_true (by first | (with_reducible assumption) | assumption)
           obtain ⟨ad166, e166, hx166_0⟩ := Kd.at_int HSz21_0 (ji17) p166 q166
           obtain rfl : ad165 = ad166 := (by injection e166)
           replace hx166_0 := pw_cell_below HB.out hx166_0
           replace p166 := eq_true p166
           replace q166 := eq_true q166
           go_wp2
           repeat (go_quiet (fail); try go_wp2)
           go_ret
           exact ⟨by first | rfl | (simp [errW_none, errW_some] <;> rfl) | (simp only [← hji14, ← hji17]; first | rfl | (simp [errW_none, errW_some] <;> rfl)) | (simp [*, errW_none, errW_some] <;> rfl), is73_ HI0.out, hb73_ HB.out, hkA_ HK.out⟩
         ·rw [if_neg c19] at H
          exact absurd H (by simp)
        ·rw [if_neg c18] at H
         exact absurd H (by simp)
       ·rw [if_neg c16] at H
        exact absurd H (by simp)
      ·rw [if_neg c15] at H
       exact absurd H (by simp)
def spec_l20Rd_bytes.l0 : Nat → Int → List Int → List Int → Int → Option (List Int × Int)
 | 0, _, _, _, _ => none
 | k + 1, x1, x5, x1000, x1001 => if x1 > 0 then ((spec_l20Rd_pick.f k x1000 x1001 3).bind fun bt170 => (if bt170.1 = 0 then ((spec_l20Rd_pick.f k x1000 bt170.2 256).bind fun bt172 => (if x5.length < 140737488355328 then (spec_l20Rd_bytes.l0 k (wrap64 (x1 - 1)) (x5 ++ [(bt172.1) % 256]) x1000 bt172.2) else (none))) else ((spec_l20Rd_pick.f k x1000 bt170.2 3).bind fun bt177 => (if x5.length < 140737488355328 then (spec_l20Rd_bytes.l0 k (wrap64 (x1 - 1)) (x5 ++ [(wrap64 (bt177.1 + 97)) % 256]) x1000 bt177.2) else (none))))) else (some (x5, x1001))
def spec_l20Rd_bytes.f (k : Nat) (s0_0 : List Int) (s0_1 : Int) (a1 : Int) : Option (List Int × Int) := spec_l20Rd_bytes.l0 k a1 (([] : List Int)) s0_0 s0_1
theorem spec_l20Rd_bytes.mono_l : ∀ k, (∀ y0 y1 y2 y3, LeO (spec_l20Rd_bytes.l0 k y0 y1 y2 y3) (spec_l20Rd_bytes.l0 (k + 1) y0 y1 y2 y3))
 | 0 => fun _ _ _ _ r h => by simp [spec_l20Rd_bytes.l0] at h
 | k + 1 => by
  have ih0 := spec_l20Rd_bytes.mono_l k
  ·intro y0 y1 y2 y3
   unfold spec_l20Rd_bytes.l0
   repeat' first | (with_reducible first | apply ih0 | apply spec_l20Rd_pick.mono | exact LeO.refl _ | exact LeO.none _ | refine LeO.ite ?_ ?_ | refine LeO.bind ?_ fun _ => ?_) | apply ih0 | apply spec_l20Rd_pick.mono | exact LeO.none _ | refine LeO.ite ?_ ?_ | refine LeO.bind ?_ fun _ => ?_
theorem spec_l20Rd_bytes.mono : ∀ a0 a1 a2 k, LeO (spec_l20Rd_bytes.f k a0 a1 a2) (spec_l20Rd_bytes.f (k + 1) a0 a1 a2) := by
 intro a0 a1 a2 k
 have ih0 := spec_l20Rd_bytes.mono_l k
 unfold spec_l20Rd_bytes.f
 repeat' first | (with_reducible first | apply ih0 | apply spec_l20Rd_pick.mono | exact LeO.refl _ | exact LeO.none _ | refine LeO.ite ?_ ?_ | refine LeO.bind ?_ fun _ => ?_) | apply ih0 | apply spec_l20Rd_pick.mono | exact LeO.none _ | refine LeO.ite ?_ ?_ | refine LeO.bind ?_ fun _ => ?_
set_option maxHeartbeats 8000000 in
set_option maxRecDepth 100000 in
theorem spec_l20Rd_bytes.calls (k : Nat) (g : Nat) (s0_0 : List Int) (s0_1 : Int) (a1 : Int) (r1 : List Int) (r2 : Int) (w0 w : World) (hI : IsS73 w0 w g s0_0 s0_1) (hB : Below w0.heap.size w0 w) (h : spec_l20Rd_bytes.f k s0_0 s0_1 a1 = some (r1, r2)) :
  Calls Try.prog 24 #[.pointer (some ⟨g, 0, none⟩), .int .i64 a1] w fun e w' => ∃ v0_ : Value, e = .returned (v0_) ∧ Kd.R (Kd.int .u8) 5 w' w.heap.size (fun _ => True) v0_ r1 ∧ IsS73 w0 w' g s0_0 r2 ∧ Below w0.heap.size w0 w' ∧ KeepBut w w' g none := by
 have HI0 := Aside0.mk hI
 have HK := Aside0.mk (KeepBut.refl w g none)
 have HL := Aside0.mk hB.size; clear hI; have HW0 := Aside0.mk hB.size; have HB := Aside0.mk hB; clear hB
 have H : (spec_l20Rd_bytes.l0 k a1 (([] : List Int)) s0_0 s0_1) = some (r1, r2) := h
 clear h
 obtain ⟨y167, hy167⟩ : ∃ y_ : List Int, y_ = (([] : List Int)) := ⟨_, rfl⟩
 (first | replace H := sb_ hy167 H | rw [← hy167] at H)
 have Ny167 := Aside0.mk hy167; clear hy167
 have H' := Aside0.mk H
 clear H
 go_enter Try.func24, Try.ntmps24
 go_wp2_with (first | ((with_reducible refine gate_dst (N := 6) rfl ?_); refine Kd.R_lit (Kd.int .u8) _ 5 ?hg (N := 6) ?hd (xs := ([] : List Int)) (inner := []) (ok := fun _ => True) (okp := fun _ => True) ?hr ?hp (fun _ hk => hk) trivial (Below.refl _ _) (Nat.le_refl _) (by simp) ?_; (case hd => rfl); (case hg => rfl); (case hr => first | (go_simp; done) | (go_simp; rfl)); (case hp => exact (Reps.none _ _)); intro v168 w3 ho4 hb hg_ hnew_; clear hg_ hnew_; (first | rw [← Ny167.out] at ho4 | (simp only [Int.reduceToNat] at ho4; rw [← Ny167.out] at ho4)); have HO169 := Aside0.mk (Kd.R_lower ho4 (keep_size (w := w) (g := g) (row := none) (hkA_ HK.out))); replace HI0 := (ib73_ HI0 hb); replace HK := (kw_ HK hb); replace HB := (bs73_ HB hb); clear hb ho4))
 go_loopg [1, 5] k (fun kq v1 v5 w' => ∃ (x1_1 : Int) (x5_1 : List Int) (x1001_1 : Int), v1 = .int .i64 x1_1 ∧ Aside0 (spec_l20Rd_bytes.l0 kq x1_1 x5_1 s0_0 x1001_1 = some (r1, r2)) ∧ Aside0 (kq ≤ k) ∧ Aside0 (Kd.R (Kd.int .u8) 5 w' w.heap.size (fun _ => True) v5 x5_1) ∧ Aside0 (IsS73 w0 w' g s0_0 x1001_1) ∧ Aside0 (KeepBut w w' g none) ∧ Aside0 (Below w0.heap.size w0 w'))
 case atStart => exact ⟨(a1), (y167), (s0_1), (by first | rfl | (simp; done) | (simp [*]; done)), H', ⟨Nat.le_refl _⟩, ⟨kR_ HO169.out⟩, ⟨is73_ HI0.out⟩, ⟨hkA_ HK.out⟩, ⟨hb73_ HB.out⟩⟩
 case round =>
  clear H'; (try clear c2); (try clear p2)
  obtain ⟨x1_1, x5_1, x1001_1, rfl, HA, HK1, HO_5, HI0, HK, HB⟩ := hrel
  cases gk with
  | zero => exact absurd HA.out (by simp [spec_l20Rd_bytes.l0])
  | succ k1 =>
   have H := HA.out; clear HA
   simp only [spec_l20Rd_bytes.l0] at H
   by_cases c5 : x1_1 > 0
   ·rw [if_pos c5] at H
    have c5b0 : decide (0 < x1_1) = true := decide_eq_true c5
    clear c5
    replace H := Option.bind_eq_some_iff.mp H
    obtain ⟨⟨t170, t171⟩, A60, H⟩ := H
    (try dsimp only at H)
    have A6 := Aside0.mk A60; clear A60
    by_cases c7 : t170 = 0
    ·rw [if_pos c7] at H
     have c7b0 : (t170 == 0) = true := beq_iff_eq.mpr c7
     have c7b1 : (t170 != 0) = false := bne_eq_false_iff_eq.mpr c7
     clear c7
     replace H := Option.bind_eq_some_iff.mp H
     obtain ⟨⟨t172, t173⟩, A80, H⟩ := H
     (try dsimp only at H)
     have A8 := Aside0.mk A80; clear A80
     by_cases c9 : x5_1.length < 140737488355328
     ·rw [if_pos c9] at H
      have LMc9 := Aside0.mk c9; clear c9
      obtain ⟨y174, hy174⟩ : ∃ y_ : List Int, y_ = (x5_1 ++ [(t172) % 256]) := ⟨_, rfl⟩
      (first | replace H := sb_ hy174 H | rw [← hy174] at H)
      have Ny174 := Aside0.mk hy174; clear hy174
      have H' := Aside0.mk H
      clear H
      go_wp2_with (first | ((with_reducible refine gate_callee (f := 23) rfl ?_); refine goesL_ (some 12) rfl rfl Try.func23 (by kernel_rfl) rfl #[.pointer (some ⟨g, 0, none⟩), .int .i64 3] rfl ar_ ?_; (with_reducible refine (spec_l20Rd_pick.calls k1 g s0_0 x1001_1 3 t170 t171 w0 _ ?side1 ?side2 A6.out).mono ?_); (case side1 => exact is73_ HI0.out); (case side2 => exact hb73_ HB.out); rintro e w10 ⟨rfl, hi, hb, hk⟩; refine ⟨_, rfl, ?_⟩; replace HO_5 := (rk73_ HI0 HO_5 hk); replace HK := (kk_ HK hk); replace HB := Aside0.mk (hb); replace HI0 := Aside0.mk (hi); (try clear hb); (try clear hb2); (try clear hk); (try clear hi)) | ((with_reducible refine gate_callee (f := 23) rfl ?_); refine goesL_ (some 16) rfl rfl Try.func23 (by kernel_rfl) rfl #[.pointer (some ⟨g, 0, none⟩), .int .i64 256] rfl ar_ ?_; (with_reducible refine (spec_l20Rd_pick.calls k1 g s0_0 t171 256 t172 t173 w0 _ ?side1 ?side2 A8.out).mono ?_); (case side1 => exact is73_ HI0.out); (case side2 => exact hb73_ HB.out); rintro e w11 ⟨rfl, hi, hb, hk⟩; refine ⟨_, rfl, ?_⟩; replace HO_5 := (rk73_ HI0 HO_5 hk); replace HK := (kk_ HK hk); replace HB := Aside0.mk (hb); replace HI0 := Aside0.mk (hi); (try clear hb); (try clear hb2); (try clear hk); (try clear hi)) | ((with_reducible refine gate_builtin (b := .append) (xs := #[.tmp 14, .tmp 18]) rfl ?_); at_builtin; refine Kd.R_append (Kd.int .u8) w.heap.size rfl (.tmp 14) (.tmp 18) 22 5 (.int .u8 0) 1 rfl Try.underlying22 info5 rfl (by decide) (by omega) u5 x5_1 ((t172) % 256) [.int .u8 ((t172) % 256)] (fun _ => True) (fun _ => False) rfl rfl ?aP (fun _ hk => hk.elim) ?aF ?aO (Below.refl _ _) ?aS ?aL ?_; (case aP => exact rfl); (case aF => exact (fun _ _ => trivial)); (case aO => exact (kR_ HO_5.out)); (case aS => exact (keep_size (w := w) (g := g) (row := none) (hkA_ HK.out))); (case aL => have := LMc9.out; omega); intro v175 w12 ho hb hg hat; rw [← Ny174.out] at ho; replace HI0 := Aside0.mk (IsS73.grown (is73_ HI0.out) hg (IsS73.own_ne HI0.out HO_5.out (by decide))); replace HB := Aside0.mk (below_weaken (hb73_ HB.out) HL.out hb); replace HK := Aside0.mk (KeepBut.trans (hkA_ HK.out) (KeepBut.of_grown hg g) (Kd.R_base2 HO_5.out)); have HO176 := Aside0.mk (ho); clear HO_5; clear ho hb hg hat))
      go_roundg k1
      case measure => have := HK1.out; omega
      case rel => exact ⟨(wrap64 (x1_1 - 1)), (y174), (t173), (by first | rfl | (simp; done) | (simp [*]; done)), H', ⟨by have := HK1.out; omega⟩, ⟨kR_ HO176.out⟩, ⟨is73_ HI0.out⟩, ⟨hkA_ HK.out⟩, ⟨hb73_ HB.out⟩⟩
     ·rw [if_neg c9] at H
      exact absurd H (by simp)
    ·rw [if_neg c7] at H
     have c7b0 : (t170 == 0) = false := beq_eq_false_iff_ne.mpr c7
     have c7b1 : (t170 != 0) = true := bne_iff_ne.mpr c7
     replace H := Option.bind_eq_some_iff.mp H
     obtain ⟨⟨t177, t178⟩, A130, H⟩ := H
     (try dsimp only at H)
     have A13 := Aside0.mk A130; clear A130
     by_cases c14 : x5_1.length < 140737488355328
     ·rw [if_pos c14] at H
      have LMc14 := Aside0.mk c14; clear c14
      obtain ⟨y179, hy179⟩ : ∃ y_ : List Int, y_ = (x5_1 ++ [(wrap64 (t177 + 97)) % 256]) := ⟨_, rfl⟩
      (first | replace H := sb_ hy179 H | rw [← hy179] at H)
      have Ny179 := Aside0.mk hy179; clear hy179
      have H' := Aside0.mk H
      clear H
      go_wp2_with (first | ((with_reducible refine gate_callee (f := 23) rfl ?_); refine goesL_ (some 12) rfl rfl Try.func23 (by kernel_rfl) rfl #[.pointer (some ⟨g, 0, none⟩), .int .i64 3] rfl ar_ ?_; (with_reducible refine (spec_l20Rd_pick.calls k1 g s0_0 x1001_1 3 t170 t171 w0 _ ?side1 ?side2 A6.out).mono ?_); (case side1 => exact is73_ HI0.out); (case side2 => exact hb73_ HB.out); rintro e w15 ⟨rfl, hi, hb, hk⟩; refine ⟨_, rfl, ?_⟩; replace HO_5 := (rk73_ HI0 HO_5 hk); replace HK := (kk_ HK hk); replace HB := Aside0.mk (hb); replace HI0 := Aside0.mk (hi); (try clear hb); (try clear hb2); (try clear hk); (try clear hi)) | ((with_reducible refine gate_callee (f := 23) rfl ?_); refine goesL_ (some 22) rfl rfl Try.func23 (by kernel_rfl) rfl #[.pointer (some ⟨g, 0, none⟩), .int .i64 3] rfl ar_ ?_; (with_reducible refine (spec_l20Rd_pick.calls k1 g s0_0 t171 3 t177 t178 w0 _ ?side1 ?side2 A13.out).mono ?_); (case side1 => exact is73_ HI0.out); (case side2 => exact hb73_ HB.out); rintro e w16 ⟨rfl, hi, hb, hk⟩; refine ⟨_, rfl, ?_⟩; replace HO_5 := (rk73_ HI0 HO_5 hk); replace HK := (kk_ HK hk); replace HB := Aside0.mk (hb); replace HI0 := Aside0.mk (hi); (try clear hb); (try clear hb2); (try clear hk); (try clear hi)) | ((with_reducible refine gate_builtin (b := .append) (xs := #[.tmp 20, .tmp 25]) rfl ?_); at_builtin; refine Kd.R_append (Kd.int .u8) w.heap.size rfl (.tmp 20) (.tmp 25) 22 5 (.int .u8 0) 1 rfl Try.underlying22 info5 rfl (by decide) (by omega) u5 x5_1 ((wrap64 (t177 + 97)) % 256) [.int .u8 ((wrap64 (t177 + 97)) % 256)] (fun _ => True) (fun _ => False) rfl rfl ?aP (fun _ hk => hk.elim) ?aF ?aO (Below.refl _ _) ?aS ?aL ?_; (case aP => exact rfl); (case aF => exact (fun _ _ => trivial)); (case aO => exact (kR_ HO_5.out)); (case aS => exact (keep_size (w := w) (g := g) (row := none) (hkA_ HK.out))); (case aL => have := LMc14.out; omega); intro v180 w17 ho hb hg hat; rw [← Ny179.out] at ho; replace HI0 := Aside0.mk (IsS73.grown (is73_ HI0.out) hg (IsS73.own_ne HI0.out HO_5.out (by decide))); replace HB := Aside0.mk (below_weaken (hb73_ HB.out) HL.out hb); replace HK := Aside0.mk (KeepBut.trans (hkA_ HK.out) (KeepBut.of_grown hg g) (Kd.R_base2 HO_5.out)); have HO181 := Aside0.mk (ho); clear HO_5; clear ho hb hg hat))
      go_roundg k1
      case measure => have := HK1.out; omega
      case rel => exact ⟨(wrap64 (x1_1 - 1)), (y179), (t178), (by first | rfl | (simp; done) | (simp [*]; done)), H', ⟨by have := HK1.out; omega⟩, ⟨kR_ HO181.out⟩, ⟨is73_ HI0.out⟩, ⟨hkA_ HK.out⟩, ⟨hb73_ HB.out⟩⟩
     ·rw [if_neg c14] at H
      exact absurd H (by simp)
   ·rw [if_neg c5] at H
    have c5b0 : decide (0 < x1_1) = false := decide_eq_false c5
    clear c5
    simp only [Option.some.injEq, Prod.mk.injEq] at H
    obtain ⟨rfl, rfl⟩ := H
    go_wp2
    go_ret
    exact ⟨_, by first | rfl | (simp [errW_none, errW_some] <;> rfl) | (simp [*, errW_none, errW_some] <;> rfl), kR_ HO_5.out, is73_ HI0.out, hb73_ HB.out, hkA_ HK.out⟩
def spec_QueryOk.f (a0_0 : Int) (a0_1 : Int) (a0_2 : Int) (a0_3 : Int) : Option (Bool) := if a0_0 = 1 then ((spec_l1In.f a0_1 0 254).bind fun t183 => (if t183 = true then ((spec_l1In.f a0_2 0 65535).bind fun t184 => (if t184 = true then ((spec_l1In.f a0_3 0 65535).bind fun t185 => (some t185)) else (some false))) else (some false))) else (if a0_0 = 2 then ((spec_l1In.f a0_1 0 254).bind fun t186 => (if t186 = true then ((spec_l1In.f a0_2 0 65535).bind fun t187 => (if t187 = true then ((spec_l1In.f a0_3 0 65535).bind fun t188 => (some t188)) else (some false))) else (some false))) else (some false))
set_option maxHeartbeats 8000000 in
set_option maxRecDepth 100000 in
theorem spec_QueryOk.calls (a0_0 : Int) (a0_1 : Int) (a0_2 : Int) (a0_3 : Int) (r : Bool) (w : World) (h : spec_QueryOk.f a0_0 a0_1 a0_2 a0_3 = some r) :
  Calls Try.prog 63 #[.agg #[.int .i64 a0_0, .int .i64 a0_1, .int .i64 a0_2, .int .i64 a0_3]] w fun e w' => e = .returned (.bool r) ∧ Below w.heap.size w w' := by
 have hu78 := Try.underlying78
 have HB := Aside0.mk (Below.refl w.heap.size w)
 have H : (if a0_0 = 1 then ((spec_l1In.f a0_1 0 254).bind fun t183 => (if t183 = true then ((spec_l1In.f a0_2 0 65535).bind fun t184 => (if t184 = true then ((spec_l1In.f a0_3 0 65535).bind fun t185 => (some t185)) else (some false))) else (some false))) else (if a0_0 = 2 then ((spec_l1In.f a0_1 0 254).bind fun t186 => (if t186 = true then ((spec_l1In.f a0_2 0 65535).bind fun t187 => (if t187 = true then ((spec_l1In.f a0_3 0 65535).bind fun t188 => (some t188)) else (some false))) else (some false))) else (some false))) = some r := h
 clear h
 by_cases c2 : a0_0 = 1
 ·rw [if_pos c2] at H
  have c2b0 : (a0_0 == 1) = true := beq_iff_eq.mpr c2
  have c2b1 : (a0_0 != 1) = false := bne_eq_false_iff_eq.mpr c2
  clear c2
  replace H := Option.bind_eq_some_iff.mp H
  obtain ⟨t183, A30, H⟩ := H
  (try dsimp only at H)
  have A3 := Aside0.mk A30; clear A30
  by_cases c4 : t183 = true
  ·subst c4
   rw [if_pos rfl] at H
   replace H := Option.bind_eq_some_iff.mp H
   obtain ⟨t184, A50, H⟩ := H
   (try dsimp only at H)
   have A5 := Aside0.mk A50; clear A50
   by_cases c6 : t184 = true
   ·subst c6
    rw [if_pos rfl] at H
    replace H := Option.bind_eq_some_iff.mp H
    obtain ⟨t185, A70, H⟩ := H
    (try dsimp only at H)
    have A7 := Aside0.mk A70; clear A70
    obtain rfl := Option.some.inj H
    go_enter Try.func63, Try.ntmps63
    go_wp2_with (first | ((with_reducible refine gate_dst (N := 1) rfl ?_); refine box_ (N := 1) (cs := #[.int .i64 a0_0, .int .i64 a0_1, .int .i64 a0_2, .int .i64 a0_3]) (t := 78) (fun gb182 hg w8 hbox hb => ?_); have BK182 := Aside0.mk (hbox); have GW182 := ge_ hg HB; have GE182 := ge_ hg HB; replace HB := (bs_ HB hb); clear hb hbox hg; have Z9 := zz4 BK182) | (go_at_call 30; (with_reducible refine (spec_l1In.calls a0_1 0 254 true _ A3.out).mono ?_); rintro e w' ⟨rfl, ⟨nd, rfl⟩⟩) | (go_at_call 30; (with_reducible refine (spec_l1In.calls a0_2 0 65535 true _ A5.out).mono ?_); rintro e w' ⟨rfl, ⟨nd, rfl⟩⟩) | (go_at_call 30; (with_reducible refine (spec_l1In.calls a0_3 0 65535 t185 _ A7.out).mono ?_); rintro e w' ⟨rfl, ⟨nd, rfl⟩⟩))
    go_ret
    exact ⟨by first | rfl | (simp [errW_none, errW_some] <;> rfl) | (simp [*, errW_none, errW_some] <;> rfl), hbA_ HB.out⟩
   ·replace c6 := Bool.eq_false_iff.mpr c6
    subst c6
    rw [if_neg (show ¬ (false = true) by decide)] at H
    obtain rfl := Option.some.inj H
    go_enter Try.func63, Try.ntmps63
    go_wp2_with (first | ((with_reducible refine gate_dst (N := 1) rfl ?_); refine box_ (N := 1) (cs := #[.int .i64 a0_0, .int .i64 a0_1, .int .i64 a0_2, .int .i64 a0_3]) (t := 78) (fun gb182 hg w10 hbox hb => ?_); have BK182 := Aside0.mk (hbox); have GW182 := ge_ hg HB; have GE182 := ge_ hg HB; replace HB := (bs_ HB hb); clear hb hbox hg; have Z11 := zz4 BK182) | (go_at_call 30; (with_reducible refine (spec_l1In.calls a0_1 0 254 true _ A3.out).mono ?_); rintro e w' ⟨rfl, ⟨nd, rfl⟩⟩) | (go_at_call 30; (with_reducible refine (spec_l1In.calls a0_2 0 65535 false _ A5.out).mono ?_); rintro e w' ⟨rfl, ⟨nd, rfl⟩⟩))
    go_ret
    exact ⟨by first | rfl | (simp [errW_none, errW_some] <;> rfl) | (simp [*, errW_none, errW_some] <;> rfl), hbA_ HB.out⟩
  ·replace c4 := Bool.eq_false_iff.mpr c4
   subst c4
   rw [if_neg (show ¬ (false = true) by decide)] at H
   obtain rfl := Option.some.inj H
   go_enter Try.func63, Try.ntmps63
   go_wp2_with (first | ((with_reducible refine gate_dst (N := 1) rfl ?_); refine box_ (N := 1) (cs := #[.int .i64 a0_0, .int .i64 a0_1, .int .i64 a0_2, .int .i64 a0_3]) (t := 78) (fun gb182 hg w12 hbox hb => ?_); have BK182 := Aside0.mk (hbox); have GW182 := ge_ hg HB; have GE182 := ge_ hg HB; replace HB := (bs_ HB hb); clear hb hbox hg; have Z13 := zz4 BK182) | (go_at_call 30; (with_reducible refine (spec_l1In.calls a0_1 0 254 false _ A3.out).mono ?_); rintro e w' ⟨rfl, ⟨nd, rfl⟩⟩))
   go_ret
   exact ⟨by first | rfl | (simp [errW_none, errW_some] <;> rfl) | (simp [*, errW_none, errW_some] <;> rfl), hbA_ HB.out⟩
 ·rw [if_neg c2] at H
  have c2b0 : (a0_0 == 1) = false := beq_eq_false_iff_ne.mpr c2
  have c2b1 : (a0_0 != 1) = true := bne_iff_ne.mpr c2
  by_cases c14 : a0_0 = 2
  ·rw [if_pos c14] at H
   have c14b0 : (a0_0 == 2) = true := beq_iff_eq.mpr c14
   have c14b1 : (a0_0 != 2) = false := bne_eq_false_iff_eq.mpr c14
   clear c14
   replace H := Option.bind_eq_some_iff.mp H
   obtain ⟨t186, A150, H⟩ := H
   (try dsimp only at H)
   have A15 := Aside0.mk A150; clear A150
   by_cases c16 : t186 = true
   ·subst c16
    rw [if_pos rfl] at H
    replace H := Option.bind_eq_some_iff.mp H
    obtain ⟨t187, A170, H⟩ := H
    (try dsimp only at H)
    have A17 := Aside0.mk A170; clear A170
    by_cases c18 : t187 = true
    ·subst c18
     rw [if_pos rfl] at H
     replace H := Option.bind_eq_some_iff.mp H
     obtain ⟨t188, A190, H⟩ := H
     (try dsimp only at H)
     have A19 := Aside0.mk A190; clear A190
     obtain rfl := Option.some.inj H
     go_enter Try.func63, Try.ntmps63
     go_wp2_with (first | ((with_reducible refine gate_dst (N := 1) rfl ?_); refine box_ (N := 1) (cs := #[.int .i64 a0_0, .int .i64 a0_1, .int .i64 a0_2, .int .i64 a0_3]) (t := 78) (fun gb182 hg w20 hbox hb => ?_); have BK182 := Aside0.mk (hbox); have GW182 := ge_ hg HB; have GE182 := ge_ hg HB; replace HB := (bs_ HB hb); clear hb hbox hg; have Z21 := zz4 BK182) | (go_at_call 30; (with_reducible refine (spec_l1In.calls a0_1 0 254 true _ A15.out).mono ?_); rintro e w' ⟨rfl, ⟨nd, rfl⟩⟩) | (go_at_call 30; (with_reducible refine (spec_l1In.calls a0_2 0 65535 true _ A17.out).mono ?_); rintro e w' ⟨rfl, ⟨nd, rfl⟩⟩) | (go_at_call 30; (with_reducible refine (spec_l1In.calls a0_3 0 65535 t188 _ A19.out).mono ?_); rintro e w' ⟨rfl, ⟨nd, rfl⟩⟩))
     go_ret
     exact ⟨by first | rfl | (simp [errW_none, errW_some] <;> rfl) | (simp [*, errW_none, errW_some] <;> rfl), hbA_ HB.out⟩
    ·replace c18 := Bool.eq_false_iff.mpr c18
     subst c18
     rw [if_neg (show ¬ (false = true) by decide)] at H
     obtain rfl := Option.some.inj H
     go_enter Try.func63, Try.ntmps63
     go_wp2_with (first | ((with_reducible refine gate_dst (N := 1) rfl ?_); refine box_ (N := 1) (cs := #[.int .i64 a0_0, .int .i64 a0_1, .int .i64 a0_2, .int .i64 a0_3]) (t := 78) (fun gb182 hg w22 hbox hb => ?_); have BK182 := Aside0.mk (hbox); have GW182 := ge_ hg HB; have GE182 := ge_ hg HB; replace HB := (bs_ HB hb); clear hb hbox hg; have Z23 := zz4 BK182) | (go_at_call 30; (with_reducible refine (spec_l1In.calls a0_1 0 254 true _ A15.out).mono ?_); rintro e w' ⟨rfl, ⟨nd, rfl⟩⟩) | (go_at_call 30; (with_reducible refine (spec_l1In.calls a0_2 0 65535 false _ A17.out).mono ?_); rintro e w' ⟨rfl, ⟨nd, rfl⟩⟩))
     go_ret
     exact ⟨by first | rfl | (simp [errW_none, errW_some] <;> rfl) | (simp [*, errW_none, errW_some] <;> rfl), hbA_ HB.out⟩
   ·replace c16 := Bool.eq_false_iff.mpr c16
    subst c16
    rw [if_neg (show ¬ (false = true) by decide)] at H
    obtain rfl := Option.some.inj H
    go_enter Try.func63, Try.ntmps63
    go_wp2_with (first | ((with_reducible refine gate_dst (N := 1) rfl ?_); refine box_ (N := 1) (cs := #[.int .i64 a0_0, .int .i64 a0_1, .int .i64 a0_2, .int .i64 a0_3]) (t := 78) (fun gb182 hg w24 hbox hb => ?_); have BK182 := Aside0.mk (hbox); have GW182 := ge_ hg HB; have GE182 := ge_ hg HB; replace HB := (bs_ HB hb); clear hb hbox hg; have Z25 := zz4 BK182) | (go_at_call 30; (with_reducible refine (spec_l1In.calls a0_1 0 254 false _ A15.out).mono ?_); rintro e w' ⟨rfl, ⟨nd, rfl⟩⟩))
    go_ret
    exact ⟨by first | rfl | (simp [errW_none, errW_some] <;> rfl) | (simp [*, errW_none, errW_some] <;> rfl), hbA_ HB.out⟩
  ·rw [if_neg c14] at H
   have c14b0 : (a0_0 == 2) = false := beq_eq_false_iff_ne.mpr c14
   have c14b1 : (a0_0 != 2) = true := bne_iff_ne.mpr c14
   obtain rfl := Option.some.inj H
   go_enter Try.func63, Try.ntmps63
   go_wp2_with (first | ((with_reducible refine gate_dst (N := 1) rfl ?_); refine box_ (N := 1) (cs := #[.int .i64 a0_0, .int .i64 a0_1, .int .i64 a0_2, .int .i64 a0_3]) (t := 78) (fun gb182 hg w26 hbox hb => ?_); have BK182 := Aside0.mk (hbox); have GW182 := ge_ hg HB; have GE182 := ge_ hg HB; replace HB := (bs_ HB hb); clear hb hbox hg; have Z27 := zz4 BK182))
   go_ret
   exact ⟨by first | rfl | (simp [errW_none, errW_some] <;> rfl) | (simp [*, errW_none, errW_some] <;> rfl), hbA_ HB.out⟩
end Go.Proofs.Ytcbiljabpadaeaa.PFnNearSend
