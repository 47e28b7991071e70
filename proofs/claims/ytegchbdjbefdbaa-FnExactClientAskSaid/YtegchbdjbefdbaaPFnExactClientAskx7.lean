/- Printed by wip/xp/xprint.sh out of the translation, for this claim: what each function answers, as a plain function, and that the machine does just that. No condition. -/
import Derived.Test.YtegchbdjbefdbaaPFnExactClientAskx0
import Derived.Test.YtegchbdjbefdbaaPFnExactClientAskx5
import Derived.Test.YtegchbdjbefdbaaPFnExactClientAskx6
namespace Go.Proofs.Ytegchbdjbefdbaa.PFnExactClientAsk
open Go.RowKit Go.Proofs.YtegchbdjbefdbaaW.PrintWords Go.Proofs.YtegchbdjbefdbaaW.PrintLast Go.Proofs.YtegchbdjbefdbaaW.PrintMore
attribute [local go_sem] max2_int min2_int max_two min_two max_three min_three max_four min_four   -- for this text's walks alone
set_option linter.unusedVariables false
set_option linter.unusedSimpArgs false
def spec_ClientAsk.j0 : Nat → List Int → Bool → Int → List Int → List (S41) → List Int → Option (Int × List Int × (List (S41)) × List Int × List Int × Bool)
 | 0, _, _, _, _, _, _ => none
 | k + 1, x1, x15, x318000, x318001, x318002, x318003 => if x15 = true then (some (0, ([] : List Int), ([] : List (S41)), ([] : List Int), (([] : List Int)), false)) else ((spec_l20Client.f k x318000 x318001 x318002 x318003).bind fun bt323 => (if (x318001.length : Int) = 4 then (some (bt323.1, bt323.2.1, bt323.2.2.1, bt323.2.2.2, (([] : List Int)), false)) else (if x318000 = 256 then (some (bt323.1, bt323.2.1, bt323.2.2.1, bt323.2.2.2, (([] : List Int)), false)) else (if bt323.2.1.length < 17592186044416 then ((spec_WordsBytes.f x318000 x1).bind fun t343 => (some (wrap64 (x318000 + 1), (bt323.2.1 ++ [x318000]), bt323.2.2.1, bt323.2.2.2, t343, true))) else (none)))))
def spec_ClientAsk.f (k : Nat) (a0_0 : Int) (l0_1 : List Int) (l0_2 : List (S41)) (l0_3 : List Int) (l1 : List Int) : Option (Int × List Int × (List (S41)) × List Int × List Int × Bool) := (spec_ClientOk.f k a0_0 l0_1 l0_2 l0_3).bind fun t319 => (if t319 = true then (spec_ClientAsk.j0 k l1 (decide ((l1.length : Int) > 9)) a0_0 l0_1 l0_2 l0_3) else (spec_ClientAsk.j0 k l1 true a0_0 l0_1 l0_2 l0_3))
theorem spec_ClientAsk.mono_l : ∀ k, (∀ y0 y1 y2 y3 y4 y5, LeO (spec_ClientAsk.j0 k y0 y1 y2 y3 y4 y5) (spec_ClientAsk.j0 (k + 1) y0 y1 y2 y3 y4 y5))
 | 0 => fun _ _ _ _ _ _ r h => by simp [spec_ClientAsk.j0] at h
 | k + 1 => by
  have ih0 := spec_ClientAsk.mono_l k
  ·intro y0 y1 y2 y3 y4 y5
   unfold spec_ClientAsk.j0
   repeat' first | (with_reducible first | apply ih0 | apply spec_ClientOk.mono | apply spec_l20Client.mono | exact LeO.refl _ | exact LeO.none _ | refine LeO.ite ?_ ?_ | refine LeO.bind ?_ fun _ => ?_) | apply ih0 | apply spec_ClientOk.mono | apply spec_l20Client.mono | exact LeO.none _ | refine LeO.ite ?_ ?_ | refine LeO.bind ?_ fun _ => ?_
theorem spec_ClientAsk.mono : ∀ a0 a1 a2 a3 a4 k, LeO (spec_ClientAsk.f k a0 a1 a2 a3 a4) (spec_ClientAsk.f (k + 1) a0 a1 a2 a3 a4) := by
 intro a0 a1 a2 a3 a4 k
 have ih0 := spec_ClientAsk.mono_l k
 unfold spec_ClientAsk.f
 repeat' first | (with_reducible first | apply ih0 | apply spec_ClientOk.mono | apply spec_l20Client.mono | exact LeO.refl _ | exact LeO.none _ | refine LeO.ite ?_ ?_ | refine LeO.bind ?_ fun _ => ?_) | apply ih0 | apply spec_ClientOk.mono | apply spec_l20Client.mono | exact LeO.none _ | refine LeO.ite ?_ ?_ | refine LeO.bind ?_ fun _ => ?_
def spec_ClientAsk.T8 : Bool × List (List Nat × List Nat) := (true, [([], []), ([], []), ([1], [1]), ([], []), ([2, 3], [2, 3]), ([4], [4]), ([0, 5, 0], [0]), ([5, 6, 0, 1, 2, 3, 4, 5, 6], [5]), ([7, 0, 1, 2, 3, 4, 5, 6, 7], [])])
def spec_ClientAsk.B8 : List Nat := [0, 0, 2, 0, 14, 30, 63, 127, 255]
theorem spec_ClientAsk.tab8 : rtab .any (opsOf Try.f27 8) = spec_ClientAsk.T8 := by kernel_rfl
theorem spec_ClientAsk.bits8 : waitsOk spec_ClientAsk.T8.2 spec_ClientAsk.B8 = true := by kernel_rfl
set_option maxHeartbeats 8000000 in
set_option maxRecDepth 100000 in
theorem spec_ClientAsk.calls (k : Nat) (a0_0 : Int) (A0_1 : Option Addr) (c0_1 : Nat) (l0_1 : List Int) (A0_2 : Option Addr) (c0_2 : Nat) (l0_2 : List (S41)) (A0_3 : Option Addr) (c0_3 : Nat) (l0_3 : List Int) (A1 : Option Addr) (c1 : Nat) (l1 : List Int) (r1 : Int) (r2 : List Int) (r3 : List (S41)) (r4 : List Int) (r5 : List Int) (r6 : Bool) (w : World) (hr0_1 : Kd.C (Kd.int .i64) w A0_1 l0_1.length l0_1) (hc0_1 : l0_1.length ≤ c0_1) (hr0_2 : Kd.C k41 w A0_2 l0_2.length l0_2) (hc0_2 : l0_2.length ≤ c0_2) (hr0_3 : Kd.C (Kd.int .i64) w A0_3 l0_3.length l0_3) (hc0_3 : l0_3.length ≤ c0_3) (hr1 : Kd.C (Kd.int .u8) w A1 l1.length l1) (hc1 : l1.length ≤ c1) (h : spec_ClientAsk.f k a0_0 l0_1 l0_2 l0_3 l1 = some (r1, r2, r3, r4, r5, r6)) :
  Calls Try.prog 27 #[.agg #[.int .i64 a0_0, .slice A0_1 l0_1.length c0_1, .slice A0_2 l0_2.length c0_2, .slice A0_3 l0_3.length c0_3], .slice A1 l1.length c1] w fun e w' => ∃ v1_ v2_ v3_ v4_ : Value, e = .returned (.tuple #[.agg #[.int .i64 r1, v1_, v2_, v3_], v4_, .bool r6]) ∧ Kd.R (Kd.int .i64) 3 w' w.heap.size (fun k_ => some k_ ≠ (v3_ : Value).ownBlock) v1_ r2 ∧ Kd.S k41 41 w' w.heap.size (fun k_ => some k_ ≠ (v4_ : Value).ownBlock) v2_ r3 ∧ Kd.R (Kd.int .i64) 3 w' w.heap.size (fun k_ => some k_ ≠ (v1_ : Value).ownBlock) v3_ r4 ∧ Kd.R (Kd.int .u8) 5 w' w.heap.size (fun _ => True) v4_ r5 ∧ Below w.heap.size w w' := by
 have hu30 := Try.underlying30; have hu41 := Try.underlying41; have HR0_1 := Aside0.mk hr0_1; have HC0_1 := Aside0.mk hc0_1; clear hr0_1 hc0_1; have HR0_2 := Aside0.mk hr0_2; have HC0_2 := Aside0.mk hc0_2; clear hr0_2 hc0_2; have HR0_3 := Aside0.mk hr0_3; have HC0_3 := Aside0.mk hc0_3; clear hr0_3 hc0_3; have HR1 := Aside0.mk hr1; have HC1 := Aside0.mk hc1; clear hr1 hc1
 have HB := Aside0.mk (Below.refl w.heap.size w)
 have H : ((spec_ClientOk.f k a0_0 l0_1 l0_2 l0_3).bind fun t319 => (if t319 = true then (spec_ClientAsk.j0 k l1 (decide ((l1.length : Int) > 9)) a0_0 l0_1 l0_2 l0_3) else (spec_ClientAsk.j0 k l1 true a0_0 l0_1 l0_2 l0_3))) = some (r1, r2, r3, r4, r5, r6) := h
 clear h; have HC3 := Aside0.mk H; clear H
 go_enter Try.func27, Try.ntmps27
 go_upto_region 1 with (first | ((with_reducible refine gate_dst (N := 2) rfl ?_); (try (refine gate_guard (by rfl) ?_; dsimp only)); refine box_ (N := 2) (cs := #[.int .i64 a0_0, .slice A0_1 l0_1.length c0_1, .slice A0_2 l0_2.length c0_2, .slice A0_3 l0_3.length c0_3]) (t := 30) (fun gb317 hg w4 hbox hb => ?_); have BK317 := Aside0.mk (hbox); have GW317 := ge_ hg HB; have GE317 := ge_ hg HB; replace HB := (bs_ HB hb); clear hb hbox hg) | ((with_reducible refine gate_dst (N := 4) rfl ?_); (try (refine gate_guard (by rfl) ?_; dsimp only)); refine box_ (N := 4) (cs := #[.int .i64 0, .slice none 0 0, .slice none 0 0, .slice none 0 0]) (t := 30) (fun gb318 hg w5 hbox hb => ?_); have BK318 := Aside0.mk (hbox); have GW318 := ge_ hg HB; have GE318 := ge_ hg HB; replace HB := (bs_ HB hb); have NB317_318 := nl_ hg BK317; have NB318_317 := ng_ hg BK317; replace BK317 := (bbA_ BK317 hb); clear hb hbox hg))
 (try simp only [Act.put, List.setIfInBounds_toArray, List.set_cons_zero, List.set_cons_succ])
 go_cut [15] (fun v15 wc => ∃ (kq : Nat) (x15_2 : Bool), v15 = .bool x15_2 ∧ Aside0 (spec_ClientAsk.j0 kq l1 x15_2 a0_0 l0_1 l0_2 l0_3 = some (r1, r2, r3, r4, r5, r6)) ∧ Aside0 (kq ≤ k) ∧ Aside0 (wc.heap[gb317]? = some (.cells #[.int .i64 a0_0, (.slice A0_1 l0_1.length c0_1), (.slice A0_2 l0_2.length c0_2), (.slice A0_3 l0_3.length c0_3)] 30 (0, 0))) ∧ Aside0 (wc.heap[gb318]? = some (.cells #[.int .i64 0, (.slice none 0 0), (.slice none 0 0), (.slice none 0 0)] 30 (0, 0))) ∧ Aside0 (Below w.heap.size w wc))
 case first =>
  have H := HC3.out; clear HC3
  replace H := Option.bind_eq_some_iff.mp H
  obtain ⟨t319, A60, H⟩ := H
  (try dsimp only at H)
  have A6 := Aside0.mk A60; clear A60
  by_cases c7 : t319 = true
  ·subst c7
   rw [if_pos rfl] at H
   have H' := Aside0.mk H
   clear H; have hnb8 := NB317_318.out; have hnc8 := NB318_317.out; have Z9 := zz4 BK317
   go_wp2_with (first | ((with_reducible refine gate_callee (f := 12) rfl ?_); refine goesL_ (some 9) rfl rfl Try.func12 (by kernel_rfl) rfl #[.agg #[.int .i64 a0_0, .slice A0_1 l0_1.length c0_1, .slice A0_2 l0_2.length c0_2, .slice A0_3 l0_3.length c0_3]] rfl ar_ ?_; (with_reducible refine (spec_ClientOk.calls k a0_0 _ _ l0_1 _ _ l0_2 _ _ l0_3 true _ ?side1 ?side2 ?side3 ?side4 ?side5 ?side6 A6.out).mono ?_); (case side1 => exact kC_ (Kd.C_below HR0_1.out HB.out)); (case side2 => exact HC0_1.out); (case side3 => exact kC_ (Kd.C_below HR0_2.out HB.out)); (case side4 => exact HC0_2.out); (case side5 => exact kC_ (Kd.C_below HR0_3.out HB.out)); (case side6 => exact HC0_3.out); rintro e w10 ⟨rfl, hb⟩; refine ⟨_, rfl, ?_⟩; replace BK317 := (bbA_ BK317 hb); replace BK318 := (bbA_ BK318 hb); replace HB := (bs_ HB hb); (try clear hb); (try clear hb2); (try clear hk); (try clear hi)))
   go_meet
   case rel => exact ⟨_, (decide ((l1.length : Int) > 9)), (by first | rfl | (simp; done) | (simp [*]; done)), H', ⟨by first | omega | exact Nat.le_refl _⟩, ⟨by refine kb_ ?_; exact BK317.out⟩, ⟨by refine kb_ ?_; exact BK318.out⟩, ⟨hbA_ HB.out⟩⟩
  ·replace c7 := Bool.eq_false_iff.mpr c7
   subst c7
   rw [if_neg (show ¬ (false = true) by decide)] at H
   have H' := Aside0.mk H
   clear H; have hnb11 := NB317_318.out; have hnc11 := NB318_317.out; have Z12 := zz4 BK317
   go_wp2_with (first | ((with_reducible refine gate_callee (f := 12) rfl ?_); refine goesL_ (some 9) rfl rfl Try.func12 (by kernel_rfl) rfl #[.agg #[.int .i64 a0_0, .slice A0_1 l0_1.length c0_1, .slice A0_2 l0_2.length c0_2, .slice A0_3 l0_3.length c0_3]] rfl ar_ ?_; (with_reducible refine (spec_ClientOk.calls k a0_0 _ _ l0_1 _ _ l0_2 _ _ l0_3 false _ ?side1 ?side2 ?side3 ?side4 ?side5 ?side6 A6.out).mono ?_); (case side1 => exact kC_ (Kd.C_below HR0_1.out HB.out)); (case side2 => exact HC0_1.out); (case side3 => exact kC_ (Kd.C_below HR0_2.out HB.out)); (case side4 => exact HC0_2.out); (case side5 => exact kC_ (Kd.C_below HR0_3.out HB.out)); (case side6 => exact HC0_3.out); rintro e w13 ⟨rfl, hb⟩; refine ⟨_, rfl, ?_⟩; replace BK317 := (bbA_ BK317 hb); replace BK318 := (bbA_ BK318 hb); replace HB := (bs_ HB hb); (try clear hb); (try clear hb2); (try clear hk); (try clear hi)))
   go_meet
   case rel => exact ⟨_, (true), (by first | rfl | (simp; done) | (simp [*]; done)), H', ⟨by first | omega | exact Nat.le_refl _⟩, ⟨by refine kb_ ?_; exact BK317.out⟩, ⟨by refine kb_ ?_; exact BK318.out⟩, ⟨hbA_ HB.out⟩⟩
 case rest =>
  clear HC3; (try clear c1); (try clear c2); (try clear p2); (try clear c7); (try clear c8); (try clear c11); (try clear c12); (try clear Z12); (try clear Z9)
  obtain ⟨kq, x15_2, rfl, HA, HJ2, BK317, BK318, HB⟩ := hcut
  cases kq with
  | zero => exact absurd HA.out (by simp [spec_ClientAsk.j0])
  | succ kj2 =>
   have H := HA.out; clear HA
   simp only [spec_ClientAsk.j0] at H
   by_cases c14 : x15_2 = true
   ·subst c14
    rw [if_pos rfl] at H
    obtain ⟨y320, hy320⟩ : ∃ y_ : List Int, y_ = (([] : List Int)) := ⟨_, rfl⟩
    (first | replace H := sb_ hy320 H | rw [← hy320] at H)
    have Ny320 := Aside0.mk hy320; clear hy320
    simp only [Option.some.injEq, Prod.mk.injEq] at H
    obtain ⟨rfl, rfl, rfl, rfl, rfl, rfl⟩ := H
    go_wp2_with (first | ((with_reducible refine gate_dst (N := 17) rfl ?_); (try (refine gate_guard (by rfl) ?_; dsimp only)); refine Kd.R_lit (Kd.int .u8) _ 5 ?hg (N := 17) ?hd (xs := ([] : List Int)) (inner := []) (ok := fun _ => True) (okp := fun _ => True) ?hr ?hp (fun _ hk => hk) trivial (Below.refl _ _) (Nat.le_refl _) (by simp) ?_; (case hd => rfl); (case hg => rfl); (case hr => first | (go_simp; done) | (go_simp; rfl)); (case hp => exact (Reps.none _ _)); intro v321 w15 ho16 hb hg_ hnew_; clear hg_ hnew_; (first | rw [← Ny320.out] at ho16 | (simp only [Int.reduceToNat] at ho16; rw [← Ny320.out] at ho16)); have HO322 := Aside0.mk (Kd.R_lower ho16 (below_size (hbA_ HB.out))); replace BK317 := (bbA_ BK317 hb); replace BK318 := (bbA_ BK318 hb); replace HB := (bs_ HB hb); clear hb ho16; have hnb17 := NB318_317.out; have hnc17 := NB317_318.out; have Z18 := zz4 BK318))
    refine bodyPost_ret (results_ctt rfl _ _ gb318 30 #[.int .i64 0, .slice none 0 0, .slice none 0 0, .slice none 0 0] (0, 0) _ rfl (by refine kb_ ?_; refine pz4 (cs := #[.int .i64 0, .slice none 0 0, .slice none 0 0, .slice none 0 0]) ?_; refine kb_ ?_; exact BK318.out) Try.underlying30 rfl (by kernel_rfl)) rfl ?_
    exact ⟨_, _, _, _, by first | rfl | (simp [errW_none, errW_some] <;> rfl) | (simp [*, errW_none, errW_some] <;> rfl), by (try rw [Ny320.out]); first | exact Kd.R_nil _ _ _ _ _ | exact Kd.N_nil _ _ _ _ _ | exact Kd.V_nil _ _ _ _ _ | exact Kd.Q_nil _ _ _ _ _ | exact Kd.S_nil _ _ _ _ _, by (try rw [Ny320.out]); first | exact Kd.S_nil _ _ _ _ _ | exact Kd.N_nil _ _ _ _ _ | exact Kd.V_nil _ _ _ _ _ | exact Kd.Q_nil _ _ _ _ _ | exact Kd.R_nil _ _ _ _ _, by (try rw [Ny320.out]); first | exact Kd.R_nil _ _ _ _ _ | exact Kd.N_nil _ _ _ _ _ | exact Kd.V_nil _ _ _ _ _ | exact Kd.Q_nil _ _ _ _ _ | exact Kd.S_nil _ _ _ _ _, by refine kR_ ?_; exact rfm_ ((Kd.R_types HO322.out BK318.out (by decide))) (fun _ hk => trivial), hbA_ HB.out⟩
   ·replace c14 := Bool.eq_false_iff.mpr c14
    subst c14
    rw [if_neg (show ¬ (false = true) by decide)] at H
    replace H := Option.bind_eq_some_iff.mp H
    obtain ⟨⟨t323, t324, t327, t330⟩, A190, H⟩ := H
    (try dsimp only at H)
    have A19 := Aside0.mk A190; clear A190
    by_cases c20 : (l0_1.length : Int) = 4
    ·rw [if_pos c20] at H
     have c20b0 : ((l0_1.length : Int) == 4) = true := beq_iff_eq.mpr c20
     have c20b1 : ((l0_1.length : Int) != 4) = false := bne_eq_false_iff_eq.mpr c20
     clear c20
     obtain ⟨y334, hy334⟩ : ∃ y_ : List Int, y_ = (([] : List Int)) := ⟨_, rfl⟩
     (first | replace H := sb_ hy334 H | rw [← hy334] at H)
     have Ny334 := Aside0.mk hy334; clear hy334
     simp only [Option.some.injEq, Prod.mk.injEq] at H
     obtain ⟨rfl, rfl, rfl, rfl, rfl, rfl⟩ := H
     have hnb21 := NB317_318.out; have hnc21 := NB318_317.out; have Z22 := zz4 BK317
     go_wp2_with (first | ((with_reducible refine gate_callee (f := 56) rfl ?_); refine goesL_ (some 19) rfl rfl Try.func56 (by kernel_rfl) rfl #[.agg #[.int .i64 a0_0, .slice A0_1 l0_1.length c0_1, .slice A0_2 l0_2.length c0_2, .slice A0_3 l0_3.length c0_3]] rfl ar_ ?_; (with_reducible refine (spec_l20Client.calls kj2 a0_0 _ _ l0_1 _ _ l0_2 _ _ l0_3 t323 t324 t327 t330 _ ?side1 ?side2 ?side3 ?side4 ?side5 ?side6 A19.out).mono ?_); (case side1 => exact kC_ (Kd.C_below HR0_1.out HB.out)); (case side2 => exact HC0_1.out); (case side3 => exact kC_ (Kd.C_below HR0_2.out HB.out)); (case side4 => exact HC0_2.out); (case side5 => exact kC_ (Kd.C_below HR0_3.out HB.out)); (case side6 => exact HC0_3.out); rintro e w23 ⟨v325, v328, v331, rfl, ho0, ho1, ho2, hb⟩; refine ⟨_, rfl, ?_⟩; have HO326 := Aside0.mk (Kd.R_lower ho0 (below_size (hbA_ HB.out))); have HO329 := Aside0.mk (Kd.S_lower ho1 (below_size (hbA_ HB.out))); have HO332 := Aside0.mk (Kd.R_lower ho2 (below_size (hbA_ HB.out))); replace BK317 := (bbA_ BK317 hb); replace BK318 := (bbA_ BK318 hb); replace HB := (bs_ HB hb); (try clear hb); (try clear hb2); (try clear hk); (try clear hi); (try clear ho0); (try clear ho1); (try clear ho2)) | ((with_reducible refine gate_dst (N := 7) rfl ?_); (try (refine gate_guard (by rfl) ?_; dsimp only)); refine box_ (N := 7) (cs := #[.int .i64 0, .slice none 0 0, .slice none 0 0, .slice none 0 0]) (t := 30) (fun gb333 hg w24 hbox hb => ?_); replace HO326 := Aside0.mk (Kd.R_below (kR_ HO326.out) hb); replace HO329 := Aside0.mk (Kd.S_below (kS_ HO329.out) hb); replace HO332 := Aside0.mk (Kd.R_below (kR_ HO332.out) hb); have BK333 := Aside0.mk (hbox); have GW333 := ge_ hg HB; have GE333 := ge_ hg HB; replace HB := (bs_ HB hb); have NB317_333 := nl_ hg BK317; have NB333_317 := ng_ hg BK317; replace BK317 := (bbA_ BK317 hb); have NB318_333 := nl_ hg BK318; have NB333_318 := ng_ hg BK318; replace BK318 := (bbA_ BK318 hb); clear hb hbox hg; have hnb25 := NB333_317.out; have hnc25 := NB317_333.out; have hnb26 := NB333_318.out; have hnc26 := NB318_333.out; have Z27 := zz4 BK333; obtain ⟨Ao28, co28, eo28⟩ := Kd.R_slice HO326.out; subst eo28; obtain ⟨Ao29, co29, eo29⟩ := Kd.S_slice HO329.out; subst eo29; obtain ⟨Ao30, co30, eo30⟩ := Kd.R_slice HO332.out; subst eo30; have Z31 := zz4 BK317) | ((with_reducible refine gate_dst (N := 30) rfl ?_); (try (refine gate_guard (by rfl) ?_; dsimp only)); refine Kd.R_lit (Kd.int .u8) _ 5 ?hg (N := 30) ?hd (xs := ([] : List Int)) (inner := []) (ok := fun _ => True) (okp := fun _ => True) ?hr ?hp (fun _ hk => hk) trivial (Below.refl _ _) (Nat.le_refl _) (by simp) ?_; (case hd => rfl); (case hg => rfl); (case hr => first | (go_simp; done) | (go_simp; rfl)); (case hp => exact (Reps.none _ _)); intro v335 w32 ho33 hb hg_ hnew_; clear hg_ hnew_; (first | rw [← Ny334.out] at ho33 | (simp only [Int.reduceToNat] at ho33; rw [← Ny334.out] at ho33)); replace HO326 := Aside0.mk (Kd.R_below (by refine kR_ ?_; exact (rfm_ ((Kd.R_types HO326.out BK333.out (by decide))) (fun _ h_ => op1_ h_))) hb); replace HO329 := Aside0.mk (Kd.S_elder' (by refine kS_ ?_; exact (Kd.S_mono (Kd.S_far (p := ⟨gb333, 3, none⟩) (Kd.S_far (p := ⟨gb333, 2, none⟩) (Kd.S_far (p := ⟨gb333, 1, none⟩) (Kd.S_far (p := ⟨gb333, 0, none⟩) (Kd.S_types HO329.out BK333.out (by decide)) (fun _ hk => hk.2) (.int .i64 t323)) (fun _ hk => hk.2) (.slice Ao28 t324.length co28)) (fun _ hk => hk.2) (.slice Ao29 t327.length co29)) (fun _ hk => hk.2) (.slice Ao30 t330.length co30)) (fun _ h_ => op1_ h_))) (Kd.R_base ho33) hb); replace HO332 := Aside0.mk (Kd.R_below (by refine kR_ ?_; exact (rfm_ ((Kd.R_types HO332.out BK333.out (by decide))) (fun _ h_ => op1_ h_))) hb); have HO336 := Aside0.mk (Kd.R_lower ho33 (below_size (hbA_ HB.out))); replace BK317 := Aside0.mk (blk_below (g := gb317) (o := .cells #[.int .i64 a0_0, .slice A0_1 l0_1.length c0_1, .slice A0_2 l0_2.length c0_2, .slice A0_3 l0_3.length c0_3] 30 (0, 0)) (by exact kf_ BK317.out) hb); replace BK318 := Aside0.mk (blk_below (g := gb318) (o := .cells #[.int .i64 0, .slice none 0 0, .slice none 0 0, .slice none 0 0] 30 (0, 0)) (by exact kf_ BK318.out) hb); replace BK333 := Aside0.mk (blk_below (g := gb333) (o := .cells #[.int .i64 t323, .slice Ao28 t324.length co28, .slice Ao29 t327.length co29, .slice Ao30 t330.length co30] 30 (0, 0)) (by refine kb_ ?_; refine pz4 (cs := #[.int .i64 0, .slice none 0 0, .slice none 0 0, .slice none 0 0]) ?_; refine kb_ ?_; exact BK333.out) hb); replace HB := (bs_ HB hb); clear hb ho33; have Z34 := zz4 BK318))
     refine bodyPost_ret (results_ctt rfl _ _ gb318 30 #[.int .i64 t323, .slice Ao28 t324.length co28, .slice Ao29 t327.length co29, .slice Ao30 t330.length co30] (0, 0) _ rfl (by refine kb_ ?_; refine pz4 (cs := #[.int .i64 0, .slice none 0 0, .slice none 0 0, .slice none 0 0]) ?_; refine kb_ ?_; exact BK318.out) Try.underlying30 rfl (by kernel_rfl)) rfl ?_
     exact ⟨_, _, _, _, by first | rfl | (simp [errW_none, errW_some] <;> rfl) | (simp [*, errW_none, errW_some] <;> rfl), by refine kR_ ?_; exact rfm_ ((Kd.R_types HO326.out BK318.out (by decide))) (fun _ hk => hk.1), by refine kS_ ?_; exact Kd.S_mono (Kd.S_far (p := ⟨gb318, 3, none⟩) (Kd.S_far (p := ⟨gb318, 2, none⟩) (Kd.S_far (p := ⟨gb318, 1, none⟩) (Kd.S_far (p := ⟨gb318, 0, none⟩) (Kd.S_types HO329.out BK318.out (by decide)) (fun _ hk => hk.2) (.int .i64 t323)) (fun _ hk => hk.2) (.slice Ao28 t324.length co28)) (fun _ hk => hk.2) (.slice Ao29 t327.length co29)) (fun _ hk => hk.2) (.slice Ao30 t330.length co30)) (fun _ hk => hk.1.2), by refine kR_ ?_; exact rfm_ ((Kd.R_types HO332.out BK318.out (by decide))) (fun _ hk => hk.1), by refine kR_ ?_; exact rfm_ ((Kd.R_types HO336.out BK318.out (by decide))) (fun _ hk => trivial), hbA_ HB.out⟩
    ·rw [if_neg c20] at H
     have c20b0 : ((l0_1.length : Int) == 4) = false := beq_eq_false_iff_ne.mpr c20
     have c20b1 : ((l0_1.length : Int) != 4) = true := bne_iff_ne.mpr c20
     by_cases c35 : a0_0 = 256
     ·rw [if_pos c35] at H
      have c35b0 : (a0_0 == 256) = true := beq_iff_eq.mpr c35
      have c35b1 : (a0_0 != 256) = false := bne_eq_false_iff_eq.mpr c35
      clear c35
      obtain ⟨y337, hy337⟩ : ∃ y_ : List Int, y_ = (([] : List Int)) := ⟨_, rfl⟩
      (first | replace H := sb_ hy337 H | rw [← hy337] at H)
      have Ny337 := Aside0.mk hy337; clear hy337
      simp only [Option.some.injEq, Prod.mk.injEq] at H
      obtain ⟨rfl, rfl, rfl, rfl, rfl, rfl⟩ := H
      have hnb36 := NB317_318.out; have hnc36 := NB318_317.out; have Z37 := zz4 BK317
      go_wp2_with (first | ((with_reducible refine gate_callee (f := 56) rfl ?_); refine goesL_ (some 19) rfl rfl Try.func56 (by kernel_rfl) rfl #[.agg #[.int .i64 a0_0, .slice A0_1 l0_1.length c0_1, .slice A0_2 l0_2.length c0_2, .slice A0_3 l0_3.length c0_3]] rfl ar_ ?_; (with_reducible refine (spec_l20Client.calls kj2 a0_0 _ _ l0_1 _ _ l0_2 _ _ l0_3 t323 t324 t327 t330 _ ?side1 ?side2 ?side3 ?side4 ?side5 ?side6 A19.out).mono ?_); (case side1 => exact kC_ (Kd.C_below HR0_1.out HB.out)); (case side2 => exact HC0_1.out); (case side3 => exact kC_ (Kd.C_below HR0_2.out HB.out)); (case side4 => exact HC0_2.out); (case side5 => exact kC_ (Kd.C_below HR0_3.out HB.out)); (case side6 => exact HC0_3.out); rintro e w38 ⟨v325, v328, v331, rfl, ho0, ho1, ho2, hb⟩; refine ⟨_, rfl, ?_⟩; have HO326 := Aside0.mk (Kd.R_lower ho0 (below_size (hbA_ HB.out))); have HO329 := Aside0.mk (Kd.S_lower ho1 (below_size (hbA_ HB.out))); have HO332 := Aside0.mk (Kd.R_lower ho2 (below_size (hbA_ HB.out))); replace BK317 := (bbA_ BK317 hb); replace BK318 := (bbA_ BK318 hb); replace HB := (bs_ HB hb); (try clear hb); (try clear hb2); (try clear hk); (try clear hi); (try clear ho0); (try clear ho1); (try clear ho2)) | ((with_reducible refine gate_dst (N := 7) rfl ?_); (try (refine gate_guard (by rfl) ?_; dsimp only)); refine box_ (N := 7) (cs := #[.int .i64 0, .slice none 0 0, .slice none 0 0, .slice none 0 0]) (t := 30) (fun gb333 hg w39 hbox hb => ?_); replace HO326 := Aside0.mk (Kd.R_below (kR_ HO326.out) hb); replace HO329 := Aside0.mk (Kd.S_below (kS_ HO329.out) hb); replace HO332 := Aside0.mk (Kd.R_below (kR_ HO332.out) hb); have BK333 := Aside0.mk (hbox); have GW333 := ge_ hg HB; have GE333 := ge_ hg HB; replace HB := (bs_ HB hb); have NB317_333 := nl_ hg BK317; have NB333_317 := ng_ hg BK317; replace BK317 := (bbA_ BK317 hb); have NB318_333 := nl_ hg BK318; have NB333_318 := ng_ hg BK318; replace BK318 := (bbA_ BK318 hb); clear hb hbox hg; have hnb40 := NB333_317.out; have hnc40 := NB317_333.out; have hnb41 := NB333_318.out; have hnc41 := NB318_333.out; have Z42 := zz4 BK333; obtain ⟨Ao43, co43, eo43⟩ := Kd.R_slice HO326.out; subst eo43; obtain ⟨Ao44, co44, eo44⟩ := Kd.S_slice HO329.out; subst eo44; obtain ⟨Ao45, co45, eo45⟩ := Kd.R_slice HO332.out; subst eo45; have Z46 := zz4 BK317) | ((with_reducible refine gate_dst (N := 30) rfl ?_); (try (refine gate_guard (by rfl) ?_; dsimp only)); refine Kd.R_lit (Kd.int .u8) _ 5 ?hg (N := 30) ?hd (xs := ([] : List Int)) (inner := []) (ok := fun _ => True) (okp := fun _ => True) ?hr ?hp (fun _ hk => hk) trivial (Below.refl _ _) (Nat.le_refl _) (by simp) ?_; (case hd => rfl); (case hg => rfl); (case hr => first | (go_simp; done) | (go_simp; rfl)); (case hp => exact (Reps.none _ _)); intro v338 w47 ho48 hb hg_ hnew_; clear hg_ hnew_; (first | rw [← Ny337.out] at ho48 | (simp only [Int.reduceToNat] at ho48; rw [← Ny337.out] at ho48)); replace HO326 := Aside0.mk (Kd.R_below (by refine kR_ ?_; exact (rfm_ ((Kd.R_types HO326.out BK333.out (by decide))) (fun _ h_ => op1_ h_))) hb); replace HO329 := Aside0.mk (Kd.S_elder' (by refine kS_ ?_; exact (Kd.S_mono (Kd.S_far (p := ⟨gb333, 3, none⟩) (Kd.S_far (p := ⟨gb333, 2, none⟩) (Kd.S_far (p := ⟨gb333, 1, none⟩) (Kd.S_far (p := ⟨gb333, 0, none⟩) (Kd.S_types HO329.out BK333.out (by decide)) (fun _ hk => hk.2) (.int .i64 t323)) (fun _ hk => hk.2) (.slice Ao43 t324.length co43)) (fun _ hk => hk.2) (.slice Ao44 t327.length co44)) (fun _ hk => hk.2) (.slice Ao45 t330.length co45)) (fun _ h_ => op1_ h_))) (Kd.R_base ho48) hb); replace HO332 := Aside0.mk (Kd.R_below (by refine kR_ ?_; exact (rfm_ ((Kd.R_types HO332.out BK333.out (by decide))) (fun _ h_ => op1_ h_))) hb); have HO339 := Aside0.mk (Kd.R_lower ho48 (below_size (hbA_ HB.out))); replace BK317 := Aside0.mk (blk_below (g := gb317) (o := .cells #[.int .i64 a0_0, .slice A0_1 l0_1.length c0_1, .slice A0_2 l0_2.length c0_2, .slice A0_3 l0_3.length c0_3] 30 (0, 0)) (by exact kf_ BK317.out) hb); replace BK318 := Aside0.mk (blk_below (g := gb318) (o := .cells #[.int .i64 0, .slice none 0 0, .slice none 0 0, .slice none 0 0] 30 (0, 0)) (by exact kf_ BK318.out) hb); replace BK333 := Aside0.mk (blk_below (g := gb333) (o := .cells #[.int .i64 t323, .slice Ao43 t324.length co43, .slice Ao44 t327.length co44, .slice Ao45 t330.length co45] 30 (0, 0)) (by refine kb_ ?_; refine pz4 (cs := #[.int .i64 0, .slice none 0 0, .slice none 0 0, .slice none 0 0]) ?_; refine kb_ ?_; exact BK333.out) hb); replace HB := (bs_ HB hb); clear hb ho48; have Z49 := zz4 BK318))
      refine bodyPost_ret (results_ctt rfl _ _ gb318 30 #[.int .i64 t323, .slice Ao43 t324.length co43, .slice Ao44 t327.length co44, .slice Ao45 t330.length co45] (0, 0) _ rfl (by refine kb_ ?_; refine pz4 (cs := #[.int .i64 0, .slice none 0 0, .slice none 0 0, .slice none 0 0]) ?_; refine kb_ ?_; exact BK318.out) Try.underlying30 rfl (by kernel_rfl)) rfl ?_
      exact ⟨_, _, _, _, by first | rfl | (simp [errW_none, errW_some] <;> rfl) | (simp [*, errW_none, errW_some] <;> rfl), by refine kR_ ?_; exact rfm_ ((Kd.R_types HO326.out BK318.out (by decide))) (fun _ hk => hk.1), by refine kS_ ?_; exact Kd.S_mono (Kd.S_far (p := ⟨gb318, 3, none⟩) (Kd.S_far (p := ⟨gb318, 2, none⟩) (Kd.S_far (p := ⟨gb318, 1, none⟩) (Kd.S_far (p := ⟨gb318, 0, none⟩) (Kd.S_types HO329.out BK318.out (by decide)) (fun _ hk => hk.2) (.int .i64 t323)) (fun _ hk => hk.2) (.slice Ao43 t324.length co43)) (fun _ hk => hk.2) (.slice Ao44 t327.length co44)) (fun _ hk => hk.2) (.slice Ao45 t330.length co45)) (fun _ hk => hk.1.2), by refine kR_ ?_; exact rfm_ ((Kd.R_types HO332.out BK318.out (by decide))) (fun _ hk => hk.1), by refine kR_ ?_; exact rfm_ ((Kd.R_types HO339.out BK318.out (by decide))) (fun _ hk => trivial), hbA_ HB.out⟩
     ·rw [if_neg c35] at H
      have c35b0 : (a0_0 == 256) = false := beq_eq_false_iff_ne.mpr c35
      have c35b1 : (a0_0 != 256) = true := bne_iff_ne.mpr c35
      by_cases c50 : t324.length < 17592186044416
      ·rw [if_pos c50] at H
       have LMc50 := Aside0.mk c50; clear c50
       obtain ⟨y340, hy340⟩ : ∃ y_ : List Int, y_ = (t324 ++ [a0_0]) := ⟨_, rfl⟩
       (first | replace H := sb_ hy340 H | rw [← hy340] at H)
       have Ny340 := Aside0.mk hy340; clear hy340
       replace H := Option.bind_eq_some_iff.mp H
       obtain ⟨t343, A510, H⟩ := H
       (try dsimp only at H)
       have A51 := Aside0.mk A510; clear A510
       simp only [Option.some.injEq, Prod.mk.injEq] at H
       obtain ⟨rfl, rfl, rfl, rfl, rfl, rfl⟩ := H
       have hnb52 := NB317_318.out; have hnc52 := NB318_317.out; have Z53 := zz4 BK317
       try go_wp2_with (first | ((with_reducible refine gate_callee (f := 56) rfl ?_); refine goesL_ (some 19) rfl rfl Try.func56 (by kernel_rfl) rfl #[.agg #[.int .i64 a0_0, .slice A0_1 l0_1.length c0_1, .slice A0_2 l0_2.length c0_2, .slice A0_3 l0_3.length c0_3]] rfl ar_ ?_; (with_reducible refine (spec_l20Client.calls kj2 a0_0 _ _ l0_1 _ _ l0_2 _ _ l0_3 t323 t324 t327 t330 _ ?side1 ?side2 ?side3 ?side4 ?side5 ?side6 A19.out).mono ?_); (case side1 => exact kC_ (Kd.C_below HR0_1.out HB.out)); (case side2 => exact HC0_1.out); (case side3 => exact kC_ (Kd.C_below HR0_2.out HB.out)); (case side4 => exact HC0_2.out); (case side5 => exact kC_ (Kd.C_below HR0_3.out HB.out)); (case side6 => exact HC0_3.out); rintro e w54 ⟨v325, v328, v331, rfl, ho0, ho1, ho2, hb⟩; refine ⟨_, rfl, ?_⟩; have HO326 := Aside0.mk (Kd.R_lower ho0 (below_size (hbA_ HB.out))); have HO329 := Aside0.mk (Kd.S_lower ho1 (below_size (hbA_ HB.out))); have HO332 := Aside0.mk (Kd.R_lower ho2 (below_size (hbA_ HB.out))); replace BK317 := (bbA_ BK317 hb); replace BK318 := (bbA_ BK318 hb); replace HB := (bs_ HB hb); (try clear hb); (try clear hb2); (try clear hk); (try clear hi); (try clear ho0); (try clear ho1); (try clear ho2)) | ((with_reducible refine gate_dst (N := 7) rfl ?_); (try (refine gate_guard (by rfl) ?_; dsimp only)); refine box_ (N := 7) (cs := #[.int .i64 0, .slice none 0 0, .slice none 0 0, .slice none 0 0]) (t := 30) (fun gb333 hg w55 hbox hb => ?_); replace HO326 := Aside0.mk (Kd.R_below (kR_ HO326.out) hb); replace HO329 := Aside0.mk (Kd.S_below (kS_ HO329.out) hb); replace HO332 := Aside0.mk (Kd.R_below (kR_ HO332.out) hb); have BK333 := Aside0.mk (hbox); have GW333 := ge_ hg HB; have GE333 := ge_ hg HB; replace HB := (bs_ HB hb); have NB317_333 := nl_ hg BK317; have NB333_317 := ng_ hg BK317; replace BK317 := (bbA_ BK317 hb); have NB318_333 := nl_ hg BK318; have NB333_318 := ng_ hg BK318; replace BK318 := (bbA_ BK318 hb); clear hb hbox hg; have hnb56 := NB333_317.out; have hnc56 := NB317_333.out; have hnb57 := NB333_318.out; have hnc57 := NB318_333.out; have Z58 := zz4 BK333; obtain ⟨Ao59, co59, eo59⟩ := Kd.R_slice HO326.out; subst eo59; obtain ⟨Ao60, co60, eo60⟩ := Kd.S_slice HO329.out; subst eo60; obtain ⟨Ao61, co61, eo61⟩ := Kd.R_slice HO332.out; subst eo61; have Z62 := zz4 BK317) | ((with_reducible refine gate_builtin (b := .append) (xs := #[.tmp 32, .tmp 35]) rfl ?_); (try (refine gate_guard (by rfl) ?_; dsimp only)); at_builtin; refine Kd.R_append (Kd.int .i64) (w0 := w) w.heap.size rfl (.tmp 32) (.tmp 35) 22 3 (.int .i64 0) 8 rfl Try.underlying22 info3 rfl (by decide) (by omega) (.slice Ao59 t324.length co59) t324 a0_0 [.int .i64 a0_0] (fun k_ => some k_ ≠ (.slice Ao61 t330.length co61 : Value).ownBlock) (fun _ => False) rfl (by first | (go_simp; done) | (go_simp; rfl)) ?aP (fun _ hk => hk.elim) ?aF ?aO ?aB ?aS ?aL ?_; (case aP => exact rfl); (case aB => exact (hbA_ HB.out)); (case aF => exact (fun k_ hk => Kd.fresh' (Kd.R_lt (by refine kR_ ?_; exact (rfm_ ((Kd.R_types HO332.out BK333.out (by decide))) (fun _ h_ => op1_ h_)))) k_ hk)); (case aO => exact (by refine kR_ ?_; exact rfm_ ((Kd.R_types HO326.out BK333.out (by decide))) (fun _ hk => hk.1))); (case aS => exact (below_size (hbA_ HB.out))); (case aL => have := LMc50.out; omega); intro v341 w63 ho hb hg hat; rw [← Ny340.out] at ho; replace BK317 := Aside0.mk (blk_grown (g := gb317) (o := .cells #[.int .i64 a0_0, .slice A0_1 l0_1.length c0_1, .slice A0_2 l0_2.length c0_2, .slice A0_3 l0_3.length c0_3] 30 (0, 0)) (by exact kf_ BK317.out) hg (Kd.R_ne HO326.out BK317.out (by decide))); replace BK318 := Aside0.mk (blk_grown (g := gb318) (o := .cells #[.int .i64 0, .slice none 0 0, .slice none 0 0, .slice none 0 0] 30 (0, 0)) (by exact kf_ BK318.out) hg (Kd.R_ne HO326.out BK318.out (by decide))); replace HO329 := Aside0.mk (Kd.S_over' (by refine kS_ ?_; exact (Kd.S_mono (Kd.S_far (p := ⟨gb333, 3, none⟩) (Kd.S_far (p := ⟨gb333, 2, none⟩) (Kd.S_far (p := ⟨gb333, 1, none⟩) (Kd.S_far (p := ⟨gb333, 0, none⟩) (Kd.S_types HO329.out BK333.out (by decide)) (fun _ hk => hk.2) (.int .i64 t323)) (fun _ hk => hk.2) (.slice Ao59 t324.length co59)) (fun _ hk => hk.2) (.slice Ao60 t327.length co60)) (fun _ hk => hk.2) (.slice Ao61 t330.length co61)) (fun _ h_ => op1_ h_))) (Kd.R_typed (by refine kR_ ?_; exact (rfm_ ((Kd.R_types HO326.out BK333.out (by decide))) (fun _ h_ => op1_ h_)))) (by decide) hg); replace HO332 := Aside0.mk (Kd.R_after (ok := (fun _ => True)) (by refine kR_ ?_; exact rfm_ ((Kd.R_types HO332.out BK333.out (by decide))) (fun _ hk => ⟨trivial, hk.1⟩)) hg hat); replace BK333 := Aside0.mk (blk_grown (g := gb333) (o := .cells #[.int .i64 t323, .slice Ao59 t324.length co59, .slice Ao60 t327.length co60, .slice Ao61 t330.length co61] 30 (0, 0)) (by refine kb_ ?_; refine pz4 (cs := #[.int .i64 0, .slice none 0 0, .slice none 0 0, .slice none 0 0]) ?_; refine kb_ ?_; exact BK333.out) hg (Kd.R_ne HO326.out BK333.out (by decide))); replace HB := Aside0.mk (hb); have HO342 := Aside0.mk (ho); clear HO326; clear ho hb hg hat; obtain ⟨Ao64, co64, eo64⟩ := Kd.R_slice HO342.out; subst eo64; have Z65 := zz4 BK333; have Z66 := zz4 BK317))
       obtain ⟨w67, h_w67⟩ : ∃ w_, ((w63.setCell ⟨gb333, 1, none⟩ (.slice Ao64 y340.length co64)).setCell ⟨gb333, 0, none⟩ (.int .i64 (wrap64 (a0_0 + 1)))) = w_ := ⟨_, rfl⟩
       have n0_ : Aside0 (Kd.S k41 41 w67 w.heap.size (fun _ => True) (.slice Ao60 t327.length co60) t327) := ⟨by subst h_w67; refine kS_ ?_; exact Kd.S_mono (Kd.S_far (p := ⟨gb333, 0, none⟩) (Kd.S_far (p := ⟨gb333, 1, none⟩) (Kd.S_types HO329.out BK333.out (by decide)) (fun _ hk => hk.2) (.slice Ao64 y340.length co64)) (fun _ hk => hk.2) (.int .i64 (wrap64 (a0_0 + 1)))) (fun _ hk => trivial)⟩
       have n1_ : Aside0 (Kd.R (Kd.int .i64) 3 w67 w.heap.size (fun k_ => some k_ ≠ (.slice Ao64 y340.length co64 : Value).ownBlock) (.slice Ao61 t330.length co61) t330) := ⟨by subst h_w67; refine kR_ ?_; exact rfm_ ((Kd.R_types HO332.out BK333.out (by decide))) (fun _ hk => hk.1.2)⟩
       have n2_ : Aside0 (Kd.R (Kd.int .i64) 3 w67 w.heap.size (fun k_ => some k_ ≠ (.slice Ao61 t330.length co61 : Value).ownBlock) (.slice Ao64 y340.length co64) y340) := ⟨by subst h_w67; refine kR_ ?_; exact rfm_ ((Kd.R_types HO342.out BK333.out (by decide))) (fun _ hk => hk.1)⟩
       have n3_ : Aside0 (w67.heap[gb317]? = some (.cells #[.int .i64 a0_0, .slice A0_1 l0_1.length c0_1, .slice A0_2 l0_2.length c0_2, .slice A0_3 l0_3.length c0_3] 30 (0, 0))) := ⟨by subst h_w67; exact kf_ BK317.out⟩
       have n4_ : Aside0 (w67.heap[gb318]? = some (.cells #[.int .i64 0, .slice none 0 0, .slice none 0 0, .slice none 0 0] 30 (0, 0))) := ⟨by subst h_w67; exact kf_ BK318.out⟩
       have n5_ : Aside0 (w67.heap[gb333]? = some (.cells #[.int .i64 (wrap64 (a0_0 + 1)), .slice Ao64 y340.length co64, .slice Ao60 t327.length co60, .slice Ao61 t330.length co61] 30 (0, 0))) := ⟨by subst h_w67; refine kb_ ?_; refine blk_put (cs := #[.int .i64 t323, .slice Ao64 y340.length co64, .slice Ao60 t327.length co60, .slice Ao61 t330.length co61]) ?_ 0 _ rfl; refine kb_ ?_; refine blk_put (cs := #[.int .i64 t323, .slice Ao59 t324.length co59, .slice Ao60 t327.length co60, .slice Ao61 t330.length co61]) ?_ 1 _ rfl; refine kb_ ?_; exact BK333.out⟩
       have n6_ : Aside0 (Below w.heap.size w w67) := ⟨by subst h_w67; exact hbA_ HB.out⟩
       (try clear HO329); (try clear HO332); (try clear HO342); (try clear BK317); (try clear BK318); (try clear BK333); (try clear HB)
       (try rw [h_w67]); clear h_w67
       have HO329 := n0_; have HO332 := n1_; have HO342 := n2_; have BK317 := n3_; have BK318 := n4_; have BK333 := n5_; have HB := n6_; clear n0_ n1_ n2_ n3_ n4_ n5_ n6_; replace HO329 := Aside0.mk (Kd.S_drew HO329.out); replace HO332 := Aside0.mk (Kd.R_drew HO332.out); replace HO342 := Aside0.mk (Kd.R_drew HO342.out); replace BK317 := Aside0.mk (blk_drew BK317.out); replace BK318 := Aside0.mk (blk_drew BK318.out); replace BK333 := Aside0.mk (blk_drew BK333.out); replace HB := (bd_ HB)
       refine start_ (n := 9) (S := fun w' => w'.cell? ⟨gb333, 0, none⟩ = some (.int .i64 (wrap64 (a0_0 + 1))) ∧ w'.cell? ⟨gb333, 1, none⟩ = some (.slice Ao64 y340.length co64) ∧ w'.cell? ⟨gb333, 2, none⟩ = some (.slice Ao60 t327.length co60) ∧ w'.cell? ⟨gb333, 3, none⟩ = some (.slice Ao61 t330.length co61) ∧ w'.cell? ⟨gb317, 0, none⟩ = some (.int .i64 a0_0) ∧ w'.cell? ⟨gb317, 1, none⟩ = some (.slice A0_1 l0_1.length c0_1) ∧ w'.cell? ⟨gb317, 2, none⟩ = some (.slice A0_2 l0_2.length c0_2) ∧ w'.cell? ⟨gb317, 3, none⟩ = some (.slice A0_3 l0_3.length c0_3)) (ds := []) #[false, false, false, false, false, false, false, false, false] (by kernel_rfl) rfl rfl ⟨bc_ BK333 0, bc_ BK333 1, bc_ BK333 2, bc_ BK333 3, bc_ BK317 0, bc_ BK317 1, bc_ BK317 2, bc_ BK317 3⟩ (fun hHeld => ?_); refine with_tabW spec_ClientAsk.tab8 spec_ClientAsk.bits8 (fun HT_ HW_ => ?_)
       generalize w67.drew = w68 at HO329 HO332 HO342 BK317 BK318 BK333 HB hHeld ⊢
       refine pu_ (i := 1) (N := some 43) HT_ ?_; refine pu_ (i := 3) (N := some 45) HT_ ?_; refine tk_ (i := 0) (N := some 42) HT_ HW_ hHeld ?_; refine tk_ (i := 2) (N := some 44) HT_ HW_ hHeld ?_; refine pu_ (i := 4) (N := some 46) HT_ ?_
       refine on_ (i := 5) (N := some 47) HT_ (fun K hK => ?_)
       refine goes_ Try.func64 (by kernel_rfl) rfl #[.agg #[.int .i64 a0_0, .slice A1 l1.length c1]] (by rfl) rfl rfl ar_ ?_
       with_reducible refine (spec_WordsBytes.calls a0_0 _ _ l1 t343 _ ?side1 ?side2 A51.out).mono ?_
       (case side1 => exact kC_ (Kd.C_below HR1.out HB.out))
       (case side2 => exact HC1.out)
       rintro e w69 ⟨v344, rfl, ho0, hb⟩
       refine ⟨_, rfl, ?_⟩
       replace HO329 := Aside0.mk (Kd.S_elder' (kS_ HO329.out) (Kd.R_base ho0) hb); replace HO332 := Aside0.mk (Kd.R_below (kR_ HO332.out) hb); replace HO342 := Aside0.mk (Kd.R_below (kR_ HO342.out) hb); have HO345 := Aside0.mk (Kd.R_lower ho0 (below_size (hbA_ HB.out))); replace BK317 := (bbA_ BK317 hb); replace BK318 := (bbA_ BK318 hb); replace BK333 := (bbA_ BK333 hb); replace HB := (bs_ HB hb); (try clear hb); (try clear hb2); (try clear hk); (try clear hi); (try clear ho0)
       refine hK.out _ _ ⟨bc_ BK333 0, bc_ BK333 1, bc_ BK333 2, bc_ BK333 3, bc_ BK317 0, bc_ BK317 1, bc_ BK317 2, bc_ BK317 3⟩ (fun hHeld => ?_)
       clear hK K; refine nm_ 47 ?_
       refine on_ (i := 6) (N := none) HT_ (fun K hK => ?_)
       have hs70 : w69.cell? ⟨gb318, 0, none⟩ = some (.int .i64 0) := bc_ BK318 0
       have hfs70 := blk_frozen BK318.out 0
       have hns70_0 := NB317_318.out; have hns70_2 := NB333_318.out; have hms70_0 := NB318_317.out; have hms70_2 := NB318_333.out
       have hs71 : w69.cell? ⟨gb318, 1, none⟩ = some (.slice none 0 0) := bc_ BK318 1
       have hfs71 := blk_frozen BK318.out 1
       have hns71_0 := NB317_318.out; have hns71_2 := NB333_318.out; have hms71_0 := NB318_317.out; have hms71_2 := NB318_333.out
       have hs72 : w69.cell? ⟨gb318, 2, none⟩ = some (.slice none 0 0) := bc_ BK318 2
       have hfs72 := blk_frozen BK318.out 2
       have hns72_0 := NB317_318.out; have hns72_2 := NB333_318.out; have hms72_0 := NB318_317.out; have hms72_2 := NB318_333.out
       have hs73 : w69.cell? ⟨gb318, 3, none⟩ = some (.slice none 0 0) := bc_ BK318 3
       have hfs73 := blk_frozen BK318.out 3
       have hns73_0 := NB317_318.out; have hns73_2 := NB333_318.out; have hms73_0 := NB318_317.out; have hms73_2 := NB318_333.out
       refine skip_ (w1 := ?_) (by rfl) rfl ?_ ?_
       rotate_left
       ·go_simp
        rfl
       refine hK.out _ _ ⟨((cell_far (p := ⟨gb318, _, none⟩) NB333_318.out _).trans (((cell_far (p := ⟨gb318, _, none⟩) NB333_318.out _).trans (((cell_far (p := ⟨gb318, _, none⟩) NB333_318.out _).trans (((cell_far (p := ⟨gb318, _, none⟩) NB333_318.out _).trans (hHeld.1)))))))), ((cell_far (p := ⟨gb318, _, none⟩) NB333_318.out _).trans (((cell_far (p := ⟨gb318, _, none⟩) NB333_318.out _).trans (((cell_far (p := ⟨gb318, _, none⟩) NB333_318.out _).trans (((cell_far (p := ⟨gb318, _, none⟩) NB333_318.out _).trans (hHeld.2.1)))))))), ((cell_far (p := ⟨gb318, _, none⟩) NB333_318.out _).trans (((cell_far (p := ⟨gb318, _, none⟩) NB333_318.out _).trans (((cell_far (p := ⟨gb318, _, none⟩) NB333_318.out _).trans (((cell_far (p := ⟨gb318, _, none⟩) NB333_318.out _).trans (hHeld.2.2.1)))))))), ((cell_far (p := ⟨gb318, _, none⟩) NB333_318.out _).trans (((cell_far (p := ⟨gb318, _, none⟩) NB333_318.out _).trans (((cell_far (p := ⟨gb318, _, none⟩) NB333_318.out _).trans (((cell_far (p := ⟨gb318, _, none⟩) NB333_318.out _).trans (hHeld.2.2.2.1)))))))), ((cell_far (p := ⟨gb318, _, none⟩) NB317_318.out _).trans (((cell_far (p := ⟨gb318, _, none⟩) NB317_318.out _).trans (((cell_far (p := ⟨gb318, _, none⟩) NB317_318.out _).trans (((cell_far (p := ⟨gb318, _, none⟩) NB317_318.out _).trans (hHeld.2.2.2.2.1)))))))), ((cell_far (p := ⟨gb318, _, none⟩) NB317_318.out _).trans (((cell_far (p := ⟨gb318, _, none⟩) NB317_318.out _).trans (((cell_far (p := ⟨gb318, _, none⟩) NB317_318.out _).trans (((cell_far (p := ⟨gb318, _, none⟩) NB317_318.out _).trans (hHeld.2.2.2.2.2.1)))))))), ((cell_far (p := ⟨gb318, _, none⟩) NB317_318.out _).trans (((cell_far (p := ⟨gb318, _, none⟩) NB317_318.out _).trans (((cell_far (p := ⟨gb318, _, none⟩) NB317_318.out _).trans (((cell_far (p := ⟨gb318, _, none⟩) NB317_318.out _).trans (hHeld.2.2.2.2.2.2.1)))))))), ((cell_far (p := ⟨gb318, _, none⟩) NB317_318.out _).trans (((cell_far (p := ⟨gb318, _, none⟩) NB317_318.out _).trans (((cell_far (p := ⟨gb318, _, none⟩) NB317_318.out _).trans (((cell_far (p := ⟨gb318, _, none⟩) NB317_318.out _).trans (hHeld.2.2.2.2.2.2.2))))))))⟩ (fun hHeld => ?_)
       clear hK K; refine pu_ (i := 7) (N := some 5) HT_ ?_; refine pu_ (i := 8) (N := some 6) HT_ ?_
       refine done_ (done_of HT_.out (by kernel_rfl)) ?_
       try go_wp2
       refine bodyPost_ret (results_ctt rfl _ _ gb318 30 #[.int .i64 (wrap64 (a0_0 + 1)), .slice Ao64 y340.length co64, .slice Ao60 t327.length co60, .slice Ao61 t330.length co61] (0, 0) _ rfl (by refine kb_ ?_; refine pz4 (cs := #[.int .i64 0, .slice none 0 0, .slice none 0 0, .slice none 0 0]) ?_; refine kb_ ?_; exact BK318.out) Try.underlying30 rfl (by kernel_rfl)) rfl ?_
       exact ⟨_, _, _, _, by first | rfl | (simp [errW_none, errW_some] <;> rfl) | (simp [*, errW_none, errW_some] <;> rfl), by refine kR_ ?_; exact rfm_ ((Kd.R_types HO342.out BK318.out (by decide))) (fun _ hk => hk.1), by refine kS_ ?_; exact Kd.S_mono (Kd.S_far (p := ⟨gb318, 3, none⟩) (Kd.S_far (p := ⟨gb318, 2, none⟩) (Kd.S_far (p := ⟨gb318, 1, none⟩) (Kd.S_far (p := ⟨gb318, 0, none⟩) (Kd.S_types HO329.out BK318.out (by decide)) (fun _ hk => hk.2) (.int .i64 (wrap64 (a0_0 + 1)))) (fun _ hk => hk.2) (.slice Ao64 y340.length co64)) (fun _ hk => hk.2) (.slice Ao60 t327.length co60)) (fun _ hk => hk.2) (.slice Ao61 t330.length co61)) (fun _ hk => hk.1.2), by refine kR_ ?_; exact rfm_ ((Kd.R_types HO332.out BK318.out (by decide))) (fun _ hk => hk.1), by refine kR_ ?_; exact rfm_ ((Kd.R_types HO345.out BK318.out (by decide))) (fun _ hk => trivial), hbA_ HB.out⟩
      ·rw [if_neg c50] at H
       exact absurd H (by simp)
def laws_markByteS.l0 : Nat → List Int → Int → Int → Option (Int × List Int)
 | 0, _, _, _ => none
 | k + 1, x0, x1, x5 => if x5 < (x0.length : Int) then (if 0 ≤ x5 then (laws_markByteS.l0 k (x0.set (x5 : Int).toNat ((x1) % 256)) (wrap64 (x1 + 1)) (wrap64 (x5 + 1))) else (none)) else (some (x1, x0))
def laws_markByteS.f (k : Nat) (l0 : List Int) (a1 : Int) : Option (Int × List Int) := laws_markByteS.l0 k l0 a1 0
theorem laws_markByteS.mono_l : ∀ k, (∀ y0 y1 y2, LeO (laws_markByteS.l0 k y0 y1 y2) (laws_markByteS.l0 (k + 1) y0 y1 y2))
 | 0 => fun _ _ _ r h => by simp [laws_markByteS.l0] at h
 | k + 1 => by
  have ih0 := laws_markByteS.mono_l k
  ·intro y0 y1 y2
   unfold laws_markByteS.l0
   repeat' first | (with_reducible first | apply ih0 | exact LeO.refl _ | exact LeO.none _ | refine LeO.ite ?_ ?_ | refine LeO.bind ?_ fun _ => ?_) | apply ih0 | exact LeO.none _ | refine LeO.ite ?_ ?_ | refine LeO.bind ?_ fun _ => ?_
theorem laws_markByteS.mono : ∀ a0 a1 k, LeO (laws_markByteS.f k a0 a1) (laws_markByteS.f (k + 1) a0 a1) := by
 intro a0 a1 k
 have ih0 := laws_markByteS.mono_l k
 unfold laws_markByteS.f
 repeat' first | (with_reducible first | apply ih0 | exact LeO.refl _ | exact LeO.none _ | refine LeO.ite ?_ ?_ | refine LeO.bind ?_ fun _ => ?_) | apply ih0 | exact LeO.none _ | refine LeO.ite ?_ ?_ | refine LeO.bind ?_ fun _ => ?_
set_option maxHeartbeats 8000000 in
set_option maxRecDepth 100000 in
theorem laws_markByteS.calls (k : Nat) (P0_ : Nat → Prop) (u9000_ : Value) (l0 : List Int) (a1 : Int) (r1 : Int) (r2 : List Int) (w0 w : World) (hB : Below w0.heap.size w0 w) (ho0 : Kd.R (Kd.int .u8) 5 w w0.heap.size P0_ u9000_ l0) (h : laws_markByteS.f k l0 a1 = some (r1, r2)) :
  Calls Try.prog 34 #[u9000_, .int .i64 a1] w fun e w' => e = .returned (.int .i64 r1) ∧ Kd.R (Kd.int .u8) 5 w' w0.heap.size (fun k_ => (P0_ k_ ∨ w.heap.size ≤ k_)) u9000_ r2 ∧ Below w0.heap.size w0 w' ∧ Kept w w' (fun k_ => P0_ k_) := by
 have HO0 := Aside0.mk (show Kd.R (Kd.int .u8) 5 w w0.heap.size (fun k_ => (P0_ k_ ∨ w.heap.size ≤ k_)) u9000_ l0 from Kd.R_mono ho0 (fun k_ hk => (.inl hk)))
 have HK := Aside0.mk (Kept.refl w (fun k_ => P0_ k_))
 have HW0 := Aside0.mk hB.size; have HB := Aside0.mk hB; clear hB
 have H : (laws_markByteS.l0 k l0 a1 0) = some (r1, r2) := h
 clear h
 have H' := Aside0.mk H
 clear H
 go_enter Try.func34, Try.ntmps34
 go_wp2
 go_loopg [1, 5] k (fun kq v1 v5 w' => ∃ (x0_1 : List Int) (x1_1 : Int) (x5_1 : Int), v1 = .int .i64 x1_1 ∧ v5 = .int .i64 x5_1 ∧ Aside0 (laws_markByteS.l0 kq x0_1 x1_1 x5_1 = some (r1, r2)) ∧ Aside0 (kq ≤ k) ∧ Aside0 (Kd.R (Kd.int .u8) 5 w' w0.heap.size (fun k_ => (P0_ k_ ∨ w.heap.size ≤ k_)) u9000_ x0_1) ∧ Aside0 (Kept w w' (fun k_ => P0_ k_)) ∧ Aside0 (Below w0.heap.size w0 w'))
 case atStart => exact ⟨(l0), (a1), (0), (by first | rfl | (simp; done) | (simp [*]; done)), (by first | rfl | (simp; done) | (simp [*]; done)), H', ⟨Nat.le_refl _⟩, ⟨kR_ HO0.out⟩, ⟨by repeat (first | (with_reducible first | exact HK.out | apply Kept.alloc | apply Kept.drewN | apply Kept.drew) | exact HK.out)⟩, ⟨hbA_ HB.out⟩⟩
 case round =>
  clear H'; (try clear p2)
  obtain ⟨x0_1, x1_1, x5_1, rfl, rfl, HA, HK1, HO_0, HK, HB⟩ := hrel
  cases gk with
  | zero => exact absurd HA.out (by simp [laws_markByteS.l0])
  | succ k1 =>
   have H := HA.out; clear HA
   simp only [laws_markByteS.l0] at H
   by_cases c3 : x5_1 < (x0_1.length : Int)
   ·rw [if_pos c3] at H
    have c3b0 : decide (x5_1 < (x0_1.length : Int)) = true := decide_eq_true c3
    clear c3
    by_cases c4 : 0 ≤ x5_1
    ·rw [if_pos c4] at H
     have c4b0 : decide (0 ≤ x5_1) = true := decide_eq_true c4
     clear c4
     obtain ⟨y346, hy346⟩ : ∃ y_ : List Int, y_ = (x0_1.set (x5_1 : Int).toNat ((x1_1) % 256)) := ⟨_, rfl⟩
     (first | replace H := sb_ hy346 H | rw [← hy346] at H)
     have Ny346 := Aside0.mk hy346; clear hy346
     have H' := Aside0.mk H
     clear H
     obtain ⟨Ao6, co6, eo6⟩ := Kd.R_slice HO_0.out
     subst eo6
     have p5 : 0 ≤ (x5_1 : Int) := of_decide_eq_true (by first | (with_reducible assumption) | assumption)
     have q5 : (x5_1 : Int) < ((x0_1.length : Int) : Int) := of_decide_eq_true (by first | (with_reducible assumption) | assumption)
     obtain ⟨go5, co5, eo5, gb5, gl5, cl5, HG5⟩ := Kd.R_form HO_0.out (by omega)
     (first | cases eo5 | (injection eo5 with ea_ en_ ec_; (first | subst ea_ | (injection ea_ with ea_; subst ea_)); subst ec_; clear en_))
     have GB5 := Aside0.mk gb5; have GG5 := Aside0.mk HG5; clear gb5 gl5 HG5
     have HMgo5 := Aside0.mk (show (P0_ go5 ∨ w.heap.size ≤ go5) from (HO_0.out.1 _ rfl))
     obtain ⟨hx5_0, hf5_0⟩ := Kd.R_celln 0 HO_0.out (x5_1 : Int) p5 q5
     replace p5 := eq_true p5
     replace q5 := eq_true q5
     have HP7 := Kd.R_putg HO_0.out (x5_1 : Int) ((x1_1) % 256)
     go_wp2_with (first | ((with_reducible refine gate_store (t := 5) (p := 16) rfl ?_); refine store_event (t := 5) (p := 16) (v := ?vo_w8) (w1 := (wr.setCell ⟨go5, (x5_1 : Int).toNat, none⟩ (.int .u8 ((x1_1) % 256)))) ?hg ?ho ?hn ?hr ?_; (case ho => rfl); (case hg => rfl); (case hn => rfl); (case hr => first | (go_simp; done) | (go_simp; rfl)); intro w8 hw; have hg : wr.grownBy w8 (some go5) := (by rw [hw]; exact HP7.2); have hp_ : Kd.R (Kd.int .u8) 5 w8 w0.heap.size (fun k_ => (P0_ k_ ∨ w.heap.size ≤ k_)) (.slice (some ⟨go5, 0, none⟩) x0_1.length co6) y346 := (by rw [hw, Ny346.out]; exact HP7.1); clear HP7; replace HB := Aside0.mk ((by rw [hw]; exact below_set (HB.out) GB5.out : Below w0.heap.size w0 w8)); replace HK := Aside0.mk (Kept.of_grown (S := (fun k_ => P0_ k_)) hg (by repeat (first | (with_reducible first | exact HK.out | apply Kept.alloc | apply Kept.drewN | apply Kept.drew) | exact HK.out)) (fun k_ e_ => (HO_0.out.1 k_ e_))); replace HO_0 := Aside0.mk (hp_); clear hg hw hp_))
     go_roundg k1
     case measure => have := HK1.out; omega
     case rel => exact ⟨(y346), (wrap64 (x1_1 + 1)), (wrap64 (x5_1 + 1)), (by first | rfl | (simp; done) | (simp [*]; done)), (by first | rfl | (simp; done) | (simp [*]; done)), H', ⟨by have := HK1.out; omega⟩, ⟨kR_ HO_0.out⟩, ⟨by repeat (first | (with_reducible first | exact HK.out | apply Kept.alloc | apply Kept.drewN | apply Kept.drew) | exact HK.out)⟩, ⟨hbA_ HB.out⟩⟩
    ·rw [if_neg c4] at H
     exact absurd H (by simp)
   ·rw [if_neg c3] at H
    have c3b0 : decide (x5_1 < (x0_1.length : Int)) = false := decide_eq_false c3
    clear c3
    simp only [Option.some.injEq, Prod.mk.injEq] at H
    obtain ⟨rfl, rfl⟩ := H
    obtain ⟨Ao9, co9, eo9⟩ := Kd.R_slice HO_0.out
    subst eo9
    go_wp2
    go_ret
    exact ⟨by first | rfl | (simp [errW_none, errW_some] <;> rfl) | (simp [*, errW_none, errW_some] <;> rfl), kR_ HO_0.out, hbA_ HB.out, by repeat (first | (with_reducible first | exact HK.out | apply Kept.alloc | apply Kept.drewN | apply Kept.drew) | exact HK.out)⟩
def laws_markWordsS.l0 : Nat → List S41 → Int → Int → Option (Int × List S41)
  | 0, _, _, _ => none
  | k + 1, x0, x1, x5 => if x5 < (x0.length : Int) then (if 0 ≤ x5 then ((laws_markByteS.f k (rd_T41 x0 x5).f1 (wrap64 (x1 + 1))).bind fun t => laws_markWordsS.l0 k (x0.set x5.toNat (⟨(x1), t.2⟩ : S41)) t.1 (wrap64 (x5 + 1))) else none) else (some (x1, x0))
def laws_markWordsS.f (k : Nat) (l0 : List S41) (a1 : Int) : Option (Int × List S41) := laws_markWordsS.l0 k l0 a1 0
theorem laws_markWordsS.mono_l : ∀ k, (∀ y0 y1 y2, LeO (laws_markWordsS.l0 k y0 y1 y2) (laws_markWordsS.l0 (k + 1) y0 y1 y2))
  | 0 => fun _ _ _ r h => by simp [laws_markWordsS.l0] at h
  | k + 1 => by
    have ih0 := laws_markWordsS.mono_l k
    · intro y0 y1 y2
      unfold laws_markWordsS.l0
      repeat' first
      | (with_reducible exact ih0 _ _ _)
      | (with_reducible exact laws_markByteS.mono _ _ _)
      | (with_reducible exact LeO.refl _)
      | (with_reducible exact LeO.none _)
      | (with_reducible refine LeO.ite ?_ ?_)
      | (with_reducible refine LeO.bind ?_ (fun _ => ?_))
      | exact ih0 _ _ _
      | exact laws_markByteS.mono _ _ _
      | exact LeO.none _
      | refine LeO.ite ?_ ?_
      | refine LeO.bind ?_ (fun _ => ?_)
theorem laws_markWordsS.mono : ∀ a0 a1 k, LeO (laws_markWordsS.f k a0 a1) (laws_markWordsS.f (k + 1) a0 a1) := by
  intro a0 a1 k
  have ih0 := laws_markWordsS.mono_l k
  unfold laws_markWordsS.f
  repeat' first
      | (with_reducible exact ih0 _ _ _)
      | (with_reducible exact laws_markByteS.mono _ _ _)
      | (with_reducible exact LeO.refl _)
      | (with_reducible exact LeO.none _)
      | (with_reducible refine LeO.ite ?_ ?_)
      | (with_reducible refine LeO.bind ?_ (fun _ => ?_))
      | exact ih0 _ _ _
      | exact laws_markByteS.mono _ _ _
      | exact LeO.none _
      | refine LeO.ite ?_ ?_
      | refine LeO.bind ?_ (fun _ => ?_)
set_option maxHeartbeats 8000000 in
set_option maxRecDepth 100000 in
theorem laws_markWordsS.calls (k : Nat) (P0_ : Nat → Prop) (u9000_ : Value) (l0 : List S41) (a1 : Int) (r1 : Int) (r2 : List S41) (w0 w : World) (hB : Below w0.heap.size w0 w) (ho0 : Kd.S k41 41 w w0.heap.size P0_ u9000_ l0) (h : laws_markWordsS.f k l0 a1 = some (r1, r2)) :
    Calls Try.prog 42 #[u9000_, .int .i64 a1] w fun e w' => e = .returned (.int .i64 r1) ∧ Kd.S k41 41 w' w0.heap.size P0_ u9000_ r2 ∧ Below w0.heap.size w0 w' ∧ Kept w w' (fun k_ => P0_ k_) := by
  have HO0 := Aside0.mk ho0; clear ho0
  have HK := Aside0.mk (Kept.refl w (fun k_ => P0_ k_))
  have HB := Aside0.mk hB; clear hB
  have H' := Aside0.mk (show laws_markWordsS.l0 k l0 a1 0 = some (r1, r2) from h)
  clear h
  go_enter Try.func42, Try.ntmps42
  go_wp2
  go_loopg [1, 5] k (fun kq v1 v5 w' => ∃ (x0_1 : List S41) (x1_1 : Int) (x5_1 : Int), v1 = .int .i64 x1_1 ∧ v5 = .int .i64 x5_1 ∧ Aside0 (laws_markWordsS.l0 kq x0_1 x1_1 x5_1 = some (r1, r2)) ∧ Aside0 (kq ≤ k) ∧ Aside0 (Kd.S k41 41 w' w0.heap.size P0_ u9000_ x0_1) ∧ Aside0 (Kept w w' (fun k_ => P0_ k_)) ∧ Aside0 (Below w0.heap.size w0 w'))
  case atStart => exact ⟨l0, a1, 0, (by first | rfl | (simp; done) | (simp [*]; done)), (by first | rfl | (simp; done) | (simp [*]; done)), H', ⟨Nat.le_refl _⟩, ⟨kS_ HO0.out⟩, ⟨by repeat (first | (with_reducible first | exact HK.out | apply Kept.alloc | apply Kept.drewN | apply Kept.drew) | exact HK.out)⟩, ⟨hbA_ HB.out⟩⟩
  case round =>
    clear H'; (try clear p2)
    obtain ⟨x0_1, x1_1, x5_1, rfl, rfl, HA, HK1, HO_0, HK, HB⟩ := hrel
    cases gk with
    | zero => exact absurd HA.out (by simp [laws_markWordsS.l0])
    | succ k1 =>
      have H := HA.out; clear HA
      simp only [laws_markWordsS.l0] at H
      by_cases c3 : x5_1 < (x0_1.length : Int)
      · rw [if_pos c3] at H
        have c3b0 : decide (x5_1 < (x0_1.length : Int)) = true := decide_eq_true c3
        by_cases c4 : 0 ≤ x5_1
        · rw [if_pos c4] at H
          have c4b0 : decide (0 ≤ x5_1) = true := decide_eq_true c4
          replace H := Option.bind_eq_some_iff.mp H
          obtain ⟨⟨t1, t2⟩, A20, H⟩ := H
          have A2 := Aside0.mk A20; clear A20
          have H' := Aside0.mk H
          clear H
          obtain ⟨Ao6, co6, eo6⟩ := Kd.S_slice HO_0.out
          subst eo6
          have p5 : 0 ≤ (x5_1 : Int) := c4
          have q5 : (x5_1 : Int) < ((x0_1.length : Nat) : Int) := c3
          have P5 := Aside0.mk p5
          have Q5 := Aside0.mk q5
          clear c3 c4
          obtain ⟨go5, co5, eo5, gb5, gl5, cl5, HG5⟩ := Kd.S_form HO_0.out (by omega)
          (first | cases eo5 | (injection eo5 with ea_ en_ ec_; (first | subst ea_ | (injection ea_ with ea_; subst ea_)); subst ec_; clear en_))
          have GB5 := Aside0.mk gb5; clear gb5 gl5 HG5
          have HMgo5 := Aside0.mk (show P0_ go5 from (Kd.S_R HO_0.out).1 _ rfl)
          have HS0 := Aside0.mk (show Kd.S k41 41 wr w0.heap.size P0_ (.slice (some ⟨go5, 0, none⟩) x0_1.length co6) (x0_1.set x5_1.toNat (rd_T41 x0_1 x5_1)) from Kd.S_start HO_0.out z41 x5_1)
          clear HO_0
          obtain ⟨ok0_, c0_, hM0_, hc0_, hf0_, hk0_, hb0_⟩ := Kd.S_cells HS0.out P5.out Q5.out
          obtain ⟨ve0_, rfl, ge0_⟩ := k41_openM hM0_
          have hx0 := hc0_ 0 _ rfl
          have hf0 := hf0_ 0
          (try simp only [show k41.sz = 2 from rfl, Nat.add_zero] at hx0 hf0)
          clear hM0_ hc0_ hf0_ hk0_ hb0_ ge0_
          replace p5 := eq_true p5
          replace q5 := eq_true q5
          have HP0 := Kd.S_put1 HS0.out P5.out Q5.out 0 (.int .i64 x1_1) (by decide) (⟨(x1_1), (rd_T41 x0_1 x5_1).f1⟩ : S41) (fun hM_ => by obtain ⟨v1, rfl, g1⟩ := k41_openM hM_; exact k41_mkM _ _ _ (⟨(x1_1), (rd_T41 x0_1 x5_1).f1⟩ : S41) g1)
          (try simp only [show k41.sz = 2 from rfl, Nat.add_zero] at HP0)
          go_wp2_with (first | ((with_reducible refine gate_store (t := 3) (p := 16) rfl ?_); refine store_event (t := 3) (p := 16) (v := ?vo_w8) (w1 := (wr.setCell ⟨go5, (x5_1 : Int).toNat * 2, none⟩ (.int .i64 x1_1))) ?hg ?ho ?hn ?hr ?_; (case ho => rfl); (case hg => rfl); (case hn => rfl); (case hr => first | (go_simp; done) | (go_simp; rfl)); intro w8 hw; have hg : wr.grownBy w8 (some go5) := (by rw [hw]; exact HP0.2); have HS1 : Aside0 (Kd.S k41 41 w8 w0.heap.size P0_ (.slice (some ⟨go5, 0, none⟩) x0_1.length co6) (x0_1.set x5_1.toNat (⟨(x1_1), (rd_T41 x0_1 x5_1).f1⟩ : S41))) := ⟨by rw [hw]; exact HP0.1⟩; clear HP0; replace HB := Aside0.mk ((by rw [hw]; exact below_set (HB.out) GB5.out : Below w0.heap.size w0 w8)); replace HK := Aside0.mk (Kept.of_grown (S := (fun k_ => P0_ k_)) hg (by repeat (first | (with_reducible first | exact HK.out | apply Kept.alloc | apply Kept.drewN | apply Kept.drew) | exact HK.out)) (fun k_ e_ => .inl (by injection e_ with e_; subst e_; exact HMgo5.out))); clear hg hw HS0 hx0 hf0; obtain ⟨ok1_, c1_, hM1_, hc1_, hf1_, hk1_, hb1_⟩ := Kd.S_cells HS1.out P5.out Q5.out; obtain ⟨ve1_, rfl, ge1_⟩ := k41_openM hM1_; obtain ⟨Ae1_, ce1_, ee1_⟩ := Kd.R_slice ge1_; subst ee1_; have hx1 := hc1_ 1 _ rfl; (try simp only [show k41.sz = 2 from rfl, Nat.add_zero] at hx1); have HG1 := Aside0.mk ge1_; have HK1_ := Aside0.mk hk1_; have HW1 := Aside0.mk @hb1_; clear hM1_ hc1_ hf1_ ge1_ hk1_ hb1_) | ((with_reducible refine gate_callee (f := 34) rfl ?_); refine goesL_ (some 25) rfl rfl Try.func34 (by kernel_rfl) rfl #[.slice Ae1_ (rd_T41 x0_1 x5_1).f1.length ce1_, .int .i64 (wrap64 (x1_1 + 1))] rfl ar_ ?_; refine (laws_markByteS.calls k1 (fun k_ => some k_ = (.slice Ae1_ (rd_T41 x0_1 x5_1).f1.length ce1_ : Value).ownBlock) _ _ _ t1 t2 w0 _ HB.out (Kd.R_tight rfl HG1.out) A2.out).mono ?_; rintro e w30 ⟨rfl, hy, hb, hkp⟩; refine ⟨_, rfl, ?_⟩; have HSe : Aside0 (Kd.S k41 41 w30 w0.heap.size P0_ (.slice (some ⟨go5, 0, none⟩) x0_1.length co6) (x0_1.set x5_1.toNat (⟨(x1_1), t2⟩ : S41))) := ⟨HW1.out hkp (fun k_ e_ => HG1.out.1 k_ e_.symm) (k41_mkM _ _ _ (⟨(x1_1), t2⟩ : S41) (Kd.R_reok rfl hy (fun k_ e_ => HG1.out.1 k_ e_)))⟩; replace HB := Aside0.mk hb; replace HK := Aside0.mk (Kept.then_ (S := (fun k_ => P0_ k_)) (by repeat (first | (with_reducible first | exact HK.out | apply Kept.alloc | apply Kept.drewN | apply Kept.drew) | exact HK.out)) hkp (fun k_ e_ => .inl (HK1_.out k_ (HG1.out.1 k_ e_.symm)).1)); clear hy hb hkp HW1 HS1 hx1 HG1 HK1_))
          go_roundg k1
          case measure => have := HK1.out; omega
          case rel => exact ⟨(x0_1.set x5_1.toNat (⟨(x1_1), t2⟩ : S41)), t1, (wrap64 (x5_1 + 1)), (by first | rfl | (simp; done) | (simp [*]; done)), (by first | rfl | (simp; done) | (simp [*]; done)), H', ⟨by have := HK1.out; omega⟩, ⟨kS_ HSe.out⟩, ⟨by repeat (first | (with_reducible first | exact HK.out | apply Kept.alloc | apply Kept.drewN | apply Kept.drew) | exact HK.out)⟩, ⟨hbA_ HB.out⟩⟩
        · rw [if_neg c4] at H
          exact absurd H (by simp)
      · rw [if_neg c3] at H
        have c3b0 : decide (x5_1 < (x0_1.length : Int)) = false := decide_eq_false c3
        clear c3
        simp only [Option.some.injEq, Prod.mk.injEq] at H
        obtain ⟨rfl, rfl⟩ := H
        obtain ⟨Ao9, co9, eo9⟩ := Kd.S_slice HO_0.out
        subst eo9
        go_wp2
        go_ret
        exact ⟨by first | rfl | (simp [*]; done), kS_ HO_0.out, hbA_ HB.out, by repeat (first | (with_reducible first | exact HK.out | apply Kept.alloc | apply Kept.drewN | apply Kept.drew) | exact HK.out)⟩
def laws_markIntS.l0 : Nat → List Int → Int → Int → Option (Int × List Int)
 | 0, _, _, _ => none
 | k + 1, x0, x1, x5 => if x5 < (x0.length : Int) then (if 0 ≤ x5 then (laws_markIntS.l0 k (x0.set (x5 : Int).toNat x1) (wrap64 (x1 + 1)) (wrap64 (x5 + 1))) else (none)) else (some (x1, x0))
def laws_markIntS.f (k : Nat) (l0 : List Int) (a1 : Int) : Option (Int × List Int) := laws_markIntS.l0 k l0 a1 0
theorem laws_markIntS.mono_l : ∀ k, (∀ y0 y1 y2, LeO (laws_markIntS.l0 k y0 y1 y2) (laws_markIntS.l0 (k + 1) y0 y1 y2))
 | 0 => fun _ _ _ r h => by simp [laws_markIntS.l0] at h
 | k + 1 => by
  have ih0 := laws_markIntS.mono_l k
  ·intro y0 y1 y2
   unfold laws_markIntS.l0
   repeat' first | (with_reducible first | apply ih0 | exact LeO.refl _ | exact LeO.none _ | refine LeO.ite ?_ ?_ | refine LeO.bind ?_ fun _ => ?_) | apply ih0 | exact LeO.none _ | refine LeO.ite ?_ ?_ | refine LeO.bind ?_ fun _ => ?_
theorem laws_markIntS.mono : ∀ a0 a1 k, LeO (laws_markIntS.f k a0 a1) (laws_markIntS.f (k + 1) a0 a1) := by
 intro a0 a1 k
 have ih0 := laws_markIntS.mono_l k
 unfold laws_markIntS.f
 repeat' first | (with_reducible first | apply ih0 | exact LeO.refl _ | exact LeO.none _ | refine LeO.ite ?_ ?_ | refine LeO.bind ?_ fun _ => ?_) | apply ih0 | exact LeO.none _ | refine LeO.ite ?_ ?_ | refine LeO.bind ?_ fun _ => ?_
set_option maxHeartbeats 8000000 in
set_option maxRecDepth 100000 in
theorem laws_markIntS.calls (k : Nat) (P0_ : Nat → Prop) (u9000_ : Value) (l0 : List Int) (a1 : Int) (r1 : Int) (r2 : List Int) (w0 w : World) (hB : Below w0.heap.size w0 w) (ho0 : Kd.R (Kd.int .i64) 3 w w0.heap.size P0_ u9000_ l0) (h : laws_markIntS.f k l0 a1 = some (r1, r2)) :
  Calls Try.prog 67 #[u9000_, .int .i64 a1] w fun e w' => e = .returned (.int .i64 r1) ∧ Kd.R (Kd.int .i64) 3 w' w0.heap.size (fun k_ => (P0_ k_ ∨ w.heap.size ≤ k_)) u9000_ r2 ∧ Below w0.heap.size w0 w' ∧ Kept w w' (fun k_ => P0_ k_) := by
 have HO0 := Aside0.mk (show Kd.R (Kd.int .i64) 3 w w0.heap.size (fun k_ => (P0_ k_ ∨ w.heap.size ≤ k_)) u9000_ l0 from Kd.R_mono ho0 (fun k_ hk => (.inl hk)))
 have HK := Aside0.mk (Kept.refl w (fun k_ => P0_ k_))
 have HW0 := Aside0.mk hB.size; have HB := Aside0.mk hB; clear hB
 have H : (laws_markIntS.l0 k l0 a1 0) = some (r1, r2) := h
 clear h
 have H' := Aside0.mk H
 clear H
 go_enter Try.func67, Try.ntmps67
 go_wp2
 go_loopg [1, 5] k (fun kq v1 v5 w' => ∃ (x0_1 : List Int) (x1_1 : Int) (x5_1 : Int), v1 = .int .i64 x1_1 ∧ v5 = .int .i64 x5_1 ∧ Aside0 (laws_markIntS.l0 kq x0_1 x1_1 x5_1 = some (r1, r2)) ∧ Aside0 (kq ≤ k) ∧ Aside0 (Kd.R (Kd.int .i64) 3 w' w0.heap.size (fun k_ => (P0_ k_ ∨ w.heap.size ≤ k_)) u9000_ x0_1) ∧ Aside0 (Kept w w' (fun k_ => P0_ k_)) ∧ Aside0 (Below w0.heap.size w0 w'))
 case atStart => exact ⟨(l0), (a1), (0), (by first | rfl | (simp; done) | (simp [*]; done)), (by first | rfl | (simp; done) | (simp [*]; done)), H', ⟨Nat.le_refl _⟩, ⟨kR_ HO0.out⟩, ⟨by repeat (first | (with_reducible first | exact HK.out | apply Kept.alloc | apply Kept.drewN | apply Kept.drew) | exact HK.out)⟩, ⟨hbA_ HB.out⟩⟩
 case round =>
  clear H'; (try clear p2)
  obtain ⟨x0_1, x1_1, x5_1, rfl, rfl, HA, HK1, HO_0, HK, HB⟩ := hrel
  cases gk with
  | zero => exact absurd HA.out (by simp [laws_markIntS.l0])
  | succ k1 =>
   have H := HA.out; clear HA
   simp only [laws_markIntS.l0] at H
   by_cases c3 : x5_1 < (x0_1.length : Int)
   ·rw [if_pos c3] at H
    have c3b0 : decide (x5_1 < (x0_1.length : Int)) = true := decide_eq_true c3
    clear c3
    by_cases c4 : 0 ≤ x5_1
    ·rw [if_pos c4] at H
     have c4b0 : decide (0 ≤ x5_1) = true := decide_eq_true c4
     clear c4
     obtain ⟨y347, hy347⟩ : ∃ y_ : List Int, y_ = (x0_1.set (x5_1 : Int).toNat x1_1) := ⟨_, rfl⟩
     (first | replace H := sb_ hy347 H | rw [← hy347] at H)
     have Ny347 := Aside0.mk hy347; clear hy347
     have H' := Aside0.mk H
     clear H
     obtain ⟨Ao6, co6, eo6⟩ := Kd.R_slice HO_0.out
     subst eo6
     have p5 : 0 ≤ (x5_1 : Int) := of_decide_eq_true (by first | (with_reducible assumption) | assumption)
     have q5 : (x5_1 : Int) < ((x0_1.length : Int) : Int) := of_decide_eq_true (by first | (with_reducible assumption) | assumption)
     obtain ⟨go5, co5, eo5, gb5, gl5, cl5, HG5⟩ := Kd.R_form HO_0.out (by omega)
     (first | cases eo5 | (injection eo5 with ea_ en_ ec_; (first | subst ea_ | (injection ea_ with ea_; subst ea_)); subst ec_; clear en_))
     have GB5 := Aside0.mk gb5; have GG5 := Aside0.mk HG5; clear gb5 gl5 HG5
     have HMgo5 := Aside0.mk (show (P0_ go5 ∨ w.heap.size ≤ go5) from (HO_0.out.1 _ rfl))
     obtain ⟨hx5_0, hf5_0⟩ := Kd.R_celln 0 HO_0.out (x5_1 : Int) p5 q5
     replace p5 := eq_true p5
     replace q5 := eq_true q5
     have HP7 := Kd.R_putg HO_0.out (x5_1 : Int) x1_1
     go_wp2_with (first | ((with_reducible refine gate_store (t := 3) (p := 15) rfl ?_); refine store_event (t := 3) (p := 15) (v := ?vo_w8) (w1 := (wr.setCell ⟨go5, (x5_1 : Int).toNat, none⟩ (.int .i64 x1_1))) ?hg ?ho ?hn ?hr ?_; (case ho => rfl); (case hg => rfl); (case hn => rfl); (case hr => first | (go_simp; done) | (go_simp; rfl)); intro w8 hw; have hg : wr.grownBy w8 (some go5) := (by rw [hw]; exact HP7.2); have hp_ : Kd.R (Kd.int .i64) 3 w8 w0.heap.size (fun k_ => (P0_ k_ ∨ w.heap.size ≤ k_)) (.slice (some ⟨go5, 0, none⟩) x0_1.length co6) y347 := (by rw [hw, Ny347.out]; exact HP7.1); clear HP7; replace HB := Aside0.mk ((by rw [hw]; exact below_set (HB.out) GB5.out : Below w0.heap.size w0 w8)); replace HK := Aside0.mk (Kept.of_grown (S := (fun k_ => P0_ k_)) hg (by repeat (first | (with_reducible first | exact HK.out | apply Kept.alloc | apply Kept.drewN | apply Kept.drew) | exact HK.out)) (fun k_ e_ => (HO_0.out.1 k_ e_))); replace HO_0 := Aside0.mk (hp_); clear hg hw hp_))
     go_roundg k1
     case measure => have := HK1.out; omega
     case rel => exact ⟨(y347), (wrap64 (x1_1 + 1)), (wrap64 (x5_1 + 1)), (by first | rfl | (simp; done) | (simp [*]; done)), (by first | rfl | (simp; done) | (simp [*]; done)), H', ⟨by have := HK1.out; omega⟩, ⟨kR_ HO_0.out⟩, ⟨by repeat (first | (with_reducible first | exact HK.out | apply Kept.alloc | apply Kept.drewN | apply Kept.drew) | exact HK.out)⟩, ⟨hbA_ HB.out⟩⟩
    ·rw [if_neg c4] at H
     exact absurd H (by simp)
   ·rw [if_neg c3] at H
    have c3b0 : decide (x5_1 < (x0_1.length : Int)) = false := decide_eq_false c3
    clear c3
    simp only [Option.some.injEq, Prod.mk.injEq] at H
    obtain ⟨rfl, rfl⟩ := H
    obtain ⟨Ao9, co9, eo9⟩ := Kd.R_slice HO_0.out
    subst eo9
    go_wp2
    go_ret
    exact ⟨by first | rfl | (simp [errW_none, errW_some] <;> rfl) | (simp [*, errW_none, errW_some] <;> rfl), kR_ HO_0.out, hbA_ HB.out, by repeat (first | (with_reducible first | exact HK.out | apply Kept.alloc | apply Kept.drewN | apply Kept.drew) | exact HK.out)⟩
def laws_markClient.f (k : Nat) (a0_0 : Int) (l0_1 : List Int) (l0_2 : List (S41)) (l0_3 : List Int) (a1 : Int) : Option (Int × (List Int) × (List (S41)) × (List Int)) := (laws_markIntS.f k l0_1 a1).bind fun b1 => (laws_markWordsS.f k l0_2 b1.1).bind fun b2 => (laws_markIntS.f k l0_3 b2.1).bind fun b3 => some (b3.1, b1.2, b2.2, b3.2)
theorem laws_markClient.mono : ∀ a0 a1 a2 a3 a4 k, LeO (laws_markClient.f k a0 a1 a2 a3 a4) (laws_markClient.f (k + 1) a0 a1 a2 a3 a4) := by
  intro a0 a1 a2 a3 a4 k
  unfold laws_markClient.f
  repeat' first
      | (with_reducible exact laws_markIntS.mono _ _ _)
      | (with_reducible exact laws_markWordsS.mono _ _ _)
      | (with_reducible exact LeO.refl _)
      | (with_reducible exact LeO.none _)
      | (with_reducible refine LeO.ite ?_ ?_)
      | (with_reducible refine LeO.bind ?_ (fun _ => ?_))
      | exact laws_markIntS.mono _ _ _
      | exact laws_markWordsS.mono _ _ _
      | exact LeO.none _
      | refine LeO.ite ?_ ?_
      | refine LeO.bind ?_ (fun _ => ?_)
set_option maxHeartbeats 8000000 in
set_option maxRecDepth 100000 in
theorem laws_markClient.calls (k : Nat) (a0_0 : Int) (P0_1_ : Nat → Prop) (u9000_ : Value) (l0_1 : List Int) (P0_2_ : Nat → Prop) (u9001_ : Value) (l0_2 : List (S41)) (P0_3_ : Nat → Prop) (u9002_ : Value) (l0_3 : List Int) (a1 : Int) (r1 : Int) (r2 : List Int) (r3 : List (S41)) (r4 : List Int) (w0 w : World) (hB : Below w0.heap.size w0 w) (ho0_1 : Kd.R (Kd.int .i64) 3 w w0.heap.size P0_1_ u9000_ l0_1) (hp0_1_0_3 : ∀ k_, P0_1_ k_ → ¬ P0_3_ k_) (ho0_2 : Kd.S k41 41 w w0.heap.size P0_2_ u9001_ l0_2) (ho0_3 : Kd.R (Kd.int .i64) 3 w w0.heap.size P0_3_ u9002_ l0_3) (hp0_3_0_1 : ∀ k_, P0_3_ k_ → ¬ P0_1_ k_) (h : laws_markClient.f k a0_0 l0_1 l0_2 l0_3 a1 = some (r1, r2, r3, r4)) :
    Calls Try.prog 30 #[.agg #[.int .i64 a0_0, u9000_, u9001_, u9002_], .int .i64 a1] w fun e w' => e = .returned (.int .i64 r1) ∧ Kd.R (Kd.int .i64) 3 w' w0.heap.size P0_1_ u9000_ r2 ∧ Kd.S k41 41 w' w0.heap.size P0_2_ u9001_ r3 ∧ Kd.R (Kd.int .i64) 3 w' w0.heap.size P0_3_ u9002_ r4 ∧ Below w0.heap.size w0 w' ∧ Kept w w' (fun k_ => P0_1_ k_ ∨ P0_2_ k_ ∨ P0_3_ k_) := by
  unfold laws_markClient.f at h
  obtain ⟨⟨t1, s1⟩, A10, h⟩ := Option.bind_eq_some_iff.mp h
  (try dsimp only at A10 h)
  have A1 := Aside0.mk A10; clear A10
  obtain ⟨⟨t2, s2⟩, A20, h⟩ := Option.bind_eq_some_iff.mp h
  (try dsimp only at A20 h)
  have A2 := Aside0.mk A20; clear A20
  obtain ⟨⟨t3, s3⟩, A30, h⟩ := Option.bind_eq_some_iff.mp h
  (try dsimp only at A30 h)
  have A3 := Aside0.mk A30; clear A30
  simp only [Option.some.injEq, Prod.mk.injEq] at h
  obtain ⟨rfl, rfl, rfl, rfl⟩ := h
  have HK := Aside0.mk (Kept.refl w (fun k_ => P0_1_ k_ ∨ P0_2_ k_ ∨ P0_3_ k_))
  have HB := Aside0.mk hB; clear hB
  have HO1 := Aside0.mk ho0_1; clear ho0_1
  have Hhp0_1_0_3 := Aside0.mk hp0_1_0_3; clear hp0_1_0_3
  obtain ⟨Av1, cv1, ev1⟩ := Kd.R_slice HO1.out
  subst ev1
  have HO2 := Aside0.mk ho0_2; clear ho0_2
  obtain ⟨Av2, cv2, ev2⟩ := Kd.S_slice HO2.out
  subst ev2
  have HO3 := Aside0.mk ho0_3; clear ho0_3
  have Hhp0_3_0_1 := Aside0.mk hp0_3_0_1; clear hp0_3_0_1
  obtain ⟨Av3, cv3, ev3⟩ := Kd.R_slice HO3.out
  subst ev3
  go_enter Try.func30, Try.ntmps30
  go_wp2_with (first | ((with_reducible refine gate_dst (N := 2) rfl ?_); refine box_ (N := 2) (cs := #[.int .i64 a0_0, .slice Av1 l0_1.length cv1, .slice Av2 l0_2.length cv2, .slice Av3 l0_3.length cv3]) (t := 30) (fun gb hg w1 hbox hb => ?_); replace HO1 := Aside0.mk (Kd.R_below (kR_ HO1.out) hb); replace HO2 := Aside0.mk (Kd.S_below (kS_ HO2.out) hb); replace HO3 := Aside0.mk (Kd.R_below (kR_ HO3.out) hb); replace HK := Aside0.mk (Kept.below HK.out hb); replace HB := (bs_ HB hb); have BK := Aside0.mk hbox; clear hb hbox hg; have hc1 := bc_ BK 1) | ((with_reducible refine gate_callee (f := 67) rfl ?_); refine goesL_ (some 8) rfl rfl Try.func67 (by kernel_rfl) rfl #[.slice Av1 l0_1.length cv1, .int .i64 a1] rfl ar_ ?_; refine (laws_markIntS.calls k (fun k_ => P0_1_ k_ ∧ w0.heap.size ≤ k_ ∧ k_ < w1.heap.size ∧ ∃ q, q ∈ 3 :: (Kd.int .i64).E ∧ ∃ cells, w1.heap[k_]? = some (.cells cells q (0, 0))) _ _ _ t1 s1 w0 w1 HB.out (Kd.R_bound HO1.out) A1.out).mono ?_; rintro e w2 ⟨rfl, hy, hb, hkp⟩; refine ⟨_, rfl, ?_⟩; have n1_ : Aside0 (Kd.R (Kd.int .i64) 3 w2 w0.heap.size P0_1_ (.slice Av1 l0_1.length cv1) s1) := ⟨Kd.R_reok rfl hy (fun k_ e_ => HO1.out.1 k_ e_)⟩; have n2_ := Aside0.mk (Kd.S_keptT HO2.out hkp (by decide)); have n3_ := Aside0.mk (Kd.R_keptP HO3.out hkp Hhp0_3_0_1.out); replace BK := Aside0.mk (blk_keptT BK.out hkp (by decide)); replace HB := Aside0.mk hb; replace HK := Aside0.mk (Kept.then_ (S := (fun k_ => P0_1_ k_ ∨ P0_2_ k_ ∨ P0_3_ k_)) HK.out hkp (fun k_ h_ => .inl (Or.inl h_.1))); clear hy hb hkp hc1; replace HO1 := n1_; replace HO2 := n2_; replace HO3 := n3_; clear n1_ n2_ n3_; have hc2 := bc_ BK 2) | ((with_reducible refine gate_callee (f := 42) rfl ?_); refine goesL_ (some 12) rfl rfl Try.func42 (by kernel_rfl) rfl #[.slice Av2 l0_2.length cv2, .int .i64 t1] rfl ar_ ?_; refine (laws_markWordsS.calls k (fun k_ => P0_2_ k_ ∧ w0.heap.size ≤ k_ ∧ k_ < w2.heap.size ∧ ∃ q, q ∈ 41 :: k41.E ∧ ∃ cells, w2.heap[k_]? = some (.cells cells q (0, 0))) _ _ _ t2 s2 w0 w2 HB.out (Kd.S_bound HO2.out) A2.out).mono ?_; rintro e w3 ⟨rfl, hy, hb, hkp⟩; refine ⟨_, rfl, ?_⟩; have n1_ := Aside0.mk (Kd.R_keptT HO1.out hkp (by decide)); have n2_ : Aside0 (Kd.S k41 41 w3 w0.heap.size P0_2_ (.slice Av2 l0_2.length cv2) s2) := ⟨Kd.S_mono hy (fun _ h_ => h_.1)⟩; have n3_ := Aside0.mk (Kd.R_keptT HO3.out hkp (by decide)); replace BK := Aside0.mk (blk_keptT BK.out hkp (by decide)); replace HB := Aside0.mk hb; replace HK := Aside0.mk (Kept.then_ (S := (fun k_ => P0_1_ k_ ∨ P0_2_ k_ ∨ P0_3_ k_)) HK.out hkp (fun k_ h_ => .inl (Or.inr (Or.inl h_.1)))); clear hy hb hkp hc2; replace HO1 := n1_; replace HO2 := n2_; replace HO3 := n3_; clear n1_ n2_ n3_; have hc3 := bc_ BK 3) | ((with_reducible refine gate_callee (f := 67) rfl ?_); refine goesL_ (some 16) rfl rfl Try.func67 (by kernel_rfl) rfl #[.slice Av3 l0_3.length cv3, .int .i64 t2] rfl ar_ ?_; refine (laws_markIntS.calls k (fun k_ => P0_3_ k_ ∧ w0.heap.size ≤ k_ ∧ k_ < w3.heap.size ∧ ∃ q, q ∈ 3 :: (Kd.int .i64).E ∧ ∃ cells, w3.heap[k_]? = some (.cells cells q (0, 0))) _ _ _ t3 s3 w0 w3 HB.out (Kd.R_bound HO3.out) A3.out).mono ?_; rintro e w4 ⟨rfl, hy, hb, hkp⟩; refine ⟨_, rfl, ?_⟩; have n1_ := Aside0.mk (Kd.R_keptP HO1.out hkp Hhp0_1_0_3.out); have n2_ := Aside0.mk (Kd.S_keptT HO2.out hkp (by decide)); have n3_ : Aside0 (Kd.R (Kd.int .i64) 3 w4 w0.heap.size P0_3_ (.slice Av3 l0_3.length cv3) s3) := ⟨Kd.R_reok rfl hy (fun k_ e_ => HO3.out.1 k_ e_)⟩; replace BK := Aside0.mk (blk_keptT BK.out hkp (by decide)); replace HB := Aside0.mk hb; replace HK := Aside0.mk (Kept.then_ (S := (fun k_ => P0_1_ k_ ∨ P0_2_ k_ ∨ P0_3_ k_)) HK.out hkp (fun k_ h_ => .inl (Or.inr (Or.inr (h_.1))))); clear hy hb hkp hc3; replace HO1 := n1_; replace HO2 := n2_; replace HO3 := n3_; clear n1_ n2_ n3_))
  go_ret
  exact ⟨rfl, kR_ HO1.out, kS_ HO2.out, kR_ HO3.out, hbA_ HB.out, by repeat (first | (with_reducible first | exact HK.out | apply Kept.alloc | apply Kept.drewN | apply Kept.drew) | exact HK.out)⟩
def laws_heldByteS.l0 : Nat → List Int → Int → Int → Option (Int)
 | 0, _, _, _ => none
 | k + 1, x0, x1, x5 => if x5 < (x0.length : Int) then (if 0 ≤ x5 then (if (rd x0 x5) = ((x1) % 256) then (laws_heldByteS.l0 k x0 (wrap64 (x1 + 1)) (wrap64 (x5 + 1))) else (some (-1))) else (none)) else (some x1)
def laws_heldByteS.f (k : Nat) (l0 : List Int) (a1 : Int) : Option (Int) := laws_heldByteS.l0 k l0 a1 0
theorem laws_heldByteS.mono_l : ∀ k, (∀ y0 y1 y2, LeO (laws_heldByteS.l0 k y0 y1 y2) (laws_heldByteS.l0 (k + 1) y0 y1 y2))
 | 0 => fun _ _ _ r h => by simp [laws_heldByteS.l0] at h
 | k + 1 => by
  have ih0 := laws_heldByteS.mono_l k
  ·intro y0 y1 y2
   unfold laws_heldByteS.l0
   repeat' first | (with_reducible first | apply ih0 | exact LeO.refl _ | exact LeO.none _ | refine LeO.ite ?_ ?_ | refine LeO.bind ?_ fun _ => ?_) | apply ih0 | exact LeO.none _ | refine LeO.ite ?_ ?_ | refine LeO.bind ?_ fun _ => ?_
theorem laws_heldByteS.mono : ∀ a0 a1 k, LeO (laws_heldByteS.f k a0 a1) (laws_heldByteS.f (k + 1) a0 a1) := by
 intro a0 a1 k
 have ih0 := laws_heldByteS.mono_l k
 unfold laws_heldByteS.f
 repeat' first | (with_reducible first | apply ih0 | exact LeO.refl _ | exact LeO.none _ | refine LeO.ite ?_ ?_ | refine LeO.bind ?_ fun _ => ?_) | apply ih0 | exact LeO.none _ | refine LeO.ite ?_ ?_ | refine LeO.bind ?_ fun _ => ?_
set_option maxHeartbeats 8000000 in
set_option maxRecDepth 100000 in
theorem laws_heldByteS.calls (k : Nat) (A0 : Option Addr) (c0 : Nat) (l0 : List Int) (a1 : Int) (r : Int) (w : World) (hr0 : Kd.C (Kd.int .u8) w A0 l0.length l0) (hc0 : l0.length ≤ c0) (h : laws_heldByteS.f k l0 a1 = some r) :
  Calls Try.prog 35 #[.slice A0 l0.length c0, .int .i64 a1] w fun e w' => e = .returned (.int .i64 r) ∧ Drawn0 w w' := by
 have HR0 := Aside0.mk hr0; have HC0 := Aside0.mk hc0; clear hr0 hc0
 have H : (laws_heldByteS.l0 k l0 a1 0) = some r := h
 clear h
 have H' := Aside0.mk H
 clear H
 go_enter Try.func35, Try.ntmps35
 go_wp2
 go_loopg [1, 5] k (fun kq v1 v5 w' => ∃ (x1_1 : Int) (x5_1 : Int), v1 = .int .i64 x1_1 ∧ v5 = .int .i64 x5_1 ∧ Aside0 (laws_heldByteS.l0 kq l0 x1_1 x5_1 = some r) ∧ Aside0 (kq ≤ k) ∧ Drawn0 w w')
 case atStart => exact ⟨(a1), (0), (by first | rfl | (simp; done) | (simp [*]; done)), (by first | rfl | (simp; done) | (simp [*]; done)), H', ⟨Nat.le_refl _⟩, by repeat (first | exact Drawn0.refl _ | apply Drawn0.step)⟩
 case round =>
  clear H'; (try clear p2)
  obtain ⟨x1_1, x5_1, rfl, rfl, HA, HK1, ⟨m1, rfl⟩⟩ := hrel
  cases gk with
  | zero => exact absurd HA.out (by simp [laws_heldByteS.l0])
  | succ k1 =>
   have H := HA.out; clear HA
   simp only [laws_heldByteS.l0] at H
   by_cases c3 : x5_1 < (l0.length : Int)
   ·rw [if_pos c3] at H
    have c3b0 : decide (x5_1 < (l0.length : Int)) = true := decide_eq_true c3
    clear c3
    by_cases c4 : 0 ≤ x5_1
    ·rw [if_pos c4] at H
     have c4b0 : decide (0 ≤ x5_1) = true := decide_eq_true c4
     clear c4
     by_cases c5 : (rd l0 x5_1) = ((x1_1) % 256)
     ·rw [if_pos c5] at H
      have c5b0 : ((rd l0 x5_1) == ((x1_1) % 256)) = true := beq_iff_eq.mpr c5
      have c5b1 : ((rd l0 x5_1) != ((x1_1) % 256)) = false := bne_eq_false_iff_eq.mpr c5
      clear c5
      have H' := Aside0.mk H
      clear H
      have p348 : 0 ≤ (x5_1 : Int) := of_decide_eq_true (by first | (with_reducible assumption) | assumption)
      have q348 : x5_1 < (l0.length : Int) := of_decide_eq_true (by first | (with_reducible assumption) | assumption)
      obtain ⟨ad348, e348, hx348_0⟩ := Kd.at_int HR0.out x5_1 p348 q348
      cases e348
      replace p348 := eq_true p348
      replace q348 := eq_true q348
      go_wp2
      go_roundg k1
      case measure => have := HK1.out; omega
      case rel => exact ⟨(wrap64 (x1_1 + 1)), (wrap64 (x5_1 + 1)), (by first | rfl | (simp; done) | (simp [*]; done)), (by first | rfl | (simp; done) | (simp [*]; done)), H', ⟨by have := HK1.out; omega⟩, by repeat (first | exact Drawn0.refl _ | apply Drawn0.step)⟩
     ·rw [if_neg c5] at H
      have c5b0 : ((rd l0 x5_1) == ((x1_1) % 256)) = false := beq_eq_false_iff_ne.mpr c5
      have c5b1 : ((rd l0 x5_1) != ((x1_1) % 256)) = true := bne_iff_ne.mpr c5
      obtain rfl := Option.some.inj H
      have p348 : 0 ≤ (x5_1 : Int) := of_decide_eq_true (by first | (with_reducible assumption) | assumption)
      have q348 : x5_1 < (l0.length : Int) := of_decide_eq_true (by first | (with_reducible assumption) | assumption)
      obtain ⟨ad348, e348, hx348_0⟩ := Kd.at_int HR0.out x5_1 p348 q348
      cases e348
      replace p348 := eq_true p348
      replace q348 := eq_true q348
      go_wp2
      go_ret
      exact ⟨by first | rfl | (simp; done) | (simp [*]; done), by repeat (first | exact Drawn0.refl _ | apply Drawn0.step)⟩
    ·rw [if_neg c4] at H
     exact absurd H (by simp)
   ·rw [if_neg c3] at H
    have c3b0 : decide (x5_1 < (l0.length : Int)) = false := decide_eq_false c3
    clear c3
    obtain rfl := Option.some.inj H
    go_wp2
    go_ret
    exact ⟨by first | rfl | (simp; done) | (simp [*]; done), by repeat (first | exact Drawn0.refl _ | apply Drawn0.step)⟩
def laws_heldWordsS.l0 : Nat → List (S41) → Int → Int → Option (Int)
 | 0, _, _, _ => none
 | k + 1, x0, x1, x5 => if x5 < (x0.length : Int) then (if 0 ≤ x5 then (if ((rd_T41 x0 x5).f0) = x1 then ((laws_heldByteS.f k ((rd_T41 x0 x5).f1) (wrap64 (x1 + 1))).bind fun t351 => (if t351 < 0 then (some (-1)) else (laws_heldWordsS.l0 k x0 t351 (wrap64 (x5 + 1))))) else (some (-1))) else (none)) else (some x1)
def laws_heldWordsS.f (k : Nat) (l0 : List (S41)) (a1 : Int) : Option (Int) := laws_heldWordsS.l0 k l0 a1 0
theorem laws_heldWordsS.mono_l : ∀ k, (∀ y0 y1 y2, LeO (laws_heldWordsS.l0 k y0 y1 y2) (laws_heldWordsS.l0 (k + 1) y0 y1 y2))
 | 0 => fun _ _ _ r h => by simp [laws_heldWordsS.l0] at h
 | k + 1 => by
  have ih0 := laws_heldWordsS.mono_l k
  ·intro y0 y1 y2
   unfold laws_heldWordsS.l0
   repeat' first | (with_reducible first | apply ih0 | apply laws_heldByteS.mono | exact LeO.refl _ | exact LeO.none _ | refine LeO.ite ?_ ?_ | refine LeO.bind ?_ fun _ => ?_) | apply ih0 | apply laws_heldByteS.mono | exact LeO.none _ | refine LeO.ite ?_ ?_ | refine LeO.bind ?_ fun _ => ?_
theorem laws_heldWordsS.mono : ∀ a0 a1 k, LeO (laws_heldWordsS.f k a0 a1) (laws_heldWordsS.f (k + 1) a0 a1) := by
 intro a0 a1 k
 have ih0 := laws_heldWordsS.mono_l k
 unfold laws_heldWordsS.f
 repeat' first | (with_reducible first | apply ih0 | apply laws_heldByteS.mono | exact LeO.refl _ | exact LeO.none _ | refine LeO.ite ?_ ?_ | refine LeO.bind ?_ fun _ => ?_) | apply ih0 | apply laws_heldByteS.mono | exact LeO.none _ | refine LeO.ite ?_ ?_ | refine LeO.bind ?_ fun _ => ?_
set_option maxHeartbeats 8000000 in
set_option maxRecDepth 100000 in
theorem laws_heldWordsS.calls (k : Nat) (A0 : Option Addr) (c0 : Nat) (l0 : List (S41)) (a1 : Int) (r : Int) (w : World) (hr0 : Kd.C k41 w A0 l0.length l0) (hc0 : l0.length ≤ c0) (h : laws_heldWordsS.f k l0 a1 = some r) :
  Calls Try.prog 43 #[.slice A0 l0.length c0, .int .i64 a1] w fun e w' => e = .returned (.int .i64 r) ∧ Drawn0 w w' := by
 have HR0 := Aside0.mk hr0; have HC0 := Aside0.mk hc0; clear hr0 hc0
 have H : (laws_heldWordsS.l0 k l0 a1 0) = some r := h
 clear h
 have H' := Aside0.mk H
 clear H
 go_enter Try.func43, Try.ntmps43
 go_wp2
 go_loopg [1, 5] k (fun kq v1 v5 w' => ∃ (x1_1 : Int) (x5_1 : Int), v1 = .int .i64 x1_1 ∧ v5 = .int .i64 x5_1 ∧ Aside0 (laws_heldWordsS.l0 kq l0 x1_1 x5_1 = some r) ∧ Aside0 (kq ≤ k) ∧ Drawn0 w w')
 case atStart => exact ⟨(a1), (0), (by first | rfl | (simp; done) | (simp [*]; done)), (by first | rfl | (simp; done) | (simp [*]; done)), H', ⟨Nat.le_refl _⟩, by repeat (first | exact Drawn0.refl _ | apply Drawn0.step)⟩
 case round =>
  clear H'; (try clear p2)
  obtain ⟨x1_1, x5_1, rfl, rfl, HA, HK1, ⟨m1, rfl⟩⟩ := hrel
  cases gk with
  | zero => exact absurd HA.out (by simp [laws_heldWordsS.l0])
  | succ k1 =>
   have H := HA.out; clear HA
   simp only [laws_heldWordsS.l0] at H
   by_cases c3 : x5_1 < (l0.length : Int)
   ·rw [if_pos c3] at H
    have c3b0 : decide (x5_1 < (l0.length : Int)) = true := decide_eq_true c3
    clear c3
    by_cases c4 : 0 ≤ x5_1
    ·rw [if_pos c4] at H
     have c4b0 : decide (0 ≤ x5_1) = true := decide_eq_true c4
     clear c4
     by_cases c5 : ((rd_T41 l0 x5_1).f0) = x1_1
     ·rw [if_pos c5] at H
      have c5b0 : (((rd_T41 l0 x5_1).f0) == x1_1) = true := beq_iff_eq.mpr c5
      have c5b1 : (((rd_T41 l0 x5_1).f0) != x1_1) = false := bne_eq_false_iff_eq.mpr c5
      clear c5
      replace H := Option.bind_eq_some_iff.mp H
      obtain ⟨t351, A60, H⟩ := H
      (try dsimp only at H)
      have A6 := Aside0.mk A60; clear A60
      by_cases c7 : t351 < 0
      ·rw [if_pos c7] at H
       have c7b0 : decide (t351 < 0) = true := decide_eq_true c7
       clear c7
       obtain rfl := Option.some.inj H
       have p349 : 0 ≤ (x5_1 : Int) := of_decide_eq_true (by first | (with_reducible assumption) | assumption)
       have q349 : x5_1 < (l0.length : Int) := of_decide_eq_true (by first | (with_reducible assumption) | assumption)
       obtain ⟨ad349, A349_1, c349_1, e349, hx349_0, hx349_1, hl349_1, hi349_1⟩ := at_T41 HR0.out x5_1 p349 q349
       cases e349
       have HR349_1 := Aside0.mk hi349_1; have HC349_1 := Aside0.mk hl349_1; clear hi349_1 hl349_1
       replace p349 := eq_true p349
       replace q349 := eq_true q349
       have p350 : 0 ≤ (x5_1 : Int) := of_decide_eq_true (by first | (with_reducible assumption) | assumption)
       have q350 : x5_1 < (l0.length : Int) := of_decide_eq_true (by first | (with_reducible assumption) | assumption)
       obtain ⟨ad350, A350_1, c350_1, e350, hx350_0, hx350_1, hl350_1, hi350_1⟩ := at_T41 HR0.out x5_1 p350 q350
       obtain rfl : ad349 = ad350 := (by injection e350)
       have HR350_1 := Aside0.mk hi350_1; have HC350_1 := Aside0.mk hl350_1; clear hi350_1 hl350_1
       replace p350 := eq_true p350
       replace q350 := eq_true q350
       have ea_ := Option.some.inj (hx349_1.symm.trans hx350_1)
       injection ea_ with ea_ en_ ec_
       subst ea_; subst ec_; clear en_
       go_wp2_with (first | ((with_reducible refine gate_callee (f := 35) rfl ?_); refine goesL_ (some 27) rfl rfl Try.func35 (by kernel_rfl) rfl #[.slice A349_1 ((rd_T41 l0 x5_1).f1).length c349_1, .int .i64 (wrap64 (x1_1 + 1))] rfl ar_ ?_; (with_reducible refine (laws_heldByteS.calls k1 _ _ ((rd_T41 l0 x5_1).f1) (wrap64 (x1_1 + 1)) t351 _ ?side1 ?side2 A6.out).mono ?_); (case side1 => exact kC_ HR350_1.out); (case side2 => exact HC350_1.out); rintro e w' ⟨rfl, ⟨nd, rfl⟩⟩; refine ⟨_, rfl, ?_⟩))
       go_ret
       exact ⟨by first | rfl | (simp; done) | (simp [*]; done), by repeat (first | exact Drawn0.refl _ | apply Drawn0.step)⟩
      ·rw [if_neg c7] at H
       have c7b0 : decide (t351 < 0) = false := decide_eq_false c7
       clear c7
       have H' := Aside0.mk H
       clear H
       have p349 : 0 ≤ (x5_1 : Int) := of_decide_eq_true (by first | (with_reducible assumption) | assumption)
       have q349 : x5_1 < (l0.length : Int) := of_decide_eq_true (by first | (with_reducible assumption) | assumption)
       obtain ⟨ad349, A349_1, c349_1, e349, hx349_0, hx349_1, hl349_1, hi349_1⟩ := at_T41 HR0.out x5_1 p349 q349
       cases e349
       have HR349_1 := Aside0.mk hi349_1; have HC349_1 := Aside0.mk hl349_1; clear hi349_1 hl349_1
       replace p349 := eq_true p349
       replace q349 := eq_true q349
       have p350 : 0 ≤ (x5_1 : Int) := of_decide_eq_true (by first | (with_reducible assumption) | assumption)
       have q350 : x5_1 < (l0.length : Int) := of_decide_eq_true (by first | (with_reducible assumption) | assumption)
       obtain ⟨ad350, A350_1, c350_1, e350, hx350_0, hx350_1, hl350_1, hi350_1⟩ := at_T41 HR0.out x5_1 p350 q350
       obtain rfl : ad349 = ad350 := (by injection e350)
       have HR350_1 := Aside0.mk hi350_1; have HC350_1 := Aside0.mk hl350_1; clear hi350_1 hl350_1
       replace p350 := eq_true p350
       replace q350 := eq_true q350
       have ea_ := Option.some.inj (hx349_1.symm.trans hx350_1)
       injection ea_ with ea_ en_ ec_
       subst ea_; subst ec_; clear en_
       go_wp2_with (first | ((with_reducible refine gate_callee (f := 35) rfl ?_); refine goesL_ (some 27) rfl rfl Try.func35 (by kernel_rfl) rfl #[.slice A349_1 ((rd_T41 l0 x5_1).f1).length c349_1, .int .i64 (wrap64 (x1_1 + 1))] rfl ar_ ?_; (with_reducible refine (laws_heldByteS.calls k1 _ _ ((rd_T41 l0 x5_1).f1) (wrap64 (x1_1 + 1)) t351 _ ?side1 ?side2 A6.out).mono ?_); (case side1 => exact kC_ HR350_1.out); (case side2 => exact HC350_1.out); rintro e w' ⟨rfl, ⟨nd, rfl⟩⟩; refine ⟨_, rfl, ?_⟩))
       go_roundg k1
       case measure => have := HK1.out; omega
       case rel => exact ⟨(t351), (wrap64 (x5_1 + 1)), (by first | rfl | (simp; done) | (simp [*]; done)), (by first | rfl | (simp; done) | (simp [*]; done)), H', ⟨by have := HK1.out; omega⟩, by repeat (first | exact Drawn0.refl _ | apply Drawn0.step)⟩
     ·rw [if_neg c5] at H
      have c5b0 : (((rd_T41 l0 x5_1).f0) == x1_1) = false := beq_eq_false_iff_ne.mpr c5
      have c5b1 : (((rd_T41 l0 x5_1).f0) != x1_1) = true := bne_iff_ne.mpr c5
      obtain rfl := Option.some.inj H
      have p349 : 0 ≤ (x5_1 : Int) := of_decide_eq_true (by first | (with_reducible assumption) | assumption)
      have q349 : x5_1 < (l0.length : Int) := of_decide_eq_true (by first | (with_reducible assumption) | assumption)
      obtain ⟨ad349, A349_1, c349_1, e349, hx349_0, hx349_1, hl349_1, hi349_1⟩ := at_T41 HR0.out x5_1 p349 q349
      cases e349
      have HR349_1 := Aside0.mk hi349_1; have HC349_1 := Aside0.mk hl349_1; clear hi349_1 hl349_1
      replace p349 := eq_true p349
      replace q349 := eq_true q349
      go_wp2
      go_ret
      exact ⟨by first | rfl | (simp; done) | (simp [*]; done), by repeat (first | exact Drawn0.refl _ | apply Drawn0.step)⟩
    ·rw [if_neg c4] at H
     exact absurd H (by simp)
   ·rw [if_neg c3] at H
    have c3b0 : decide (x5_1 < (l0.length : Int)) = false := decide_eq_false c3
    clear c3
    obtain rfl := Option.some.inj H
    go_wp2
    go_ret
    exact ⟨by first | rfl | (simp; done) | (simp [*]; done), by repeat (first | exact Drawn0.refl _ | apply Drawn0.step)⟩
def laws_heldIntS.l0 : Nat → List Int → Int → Int → Option (Int)
 | 0, _, _, _ => none
 | k + 1, x0, x1, x5 => if x5 < (x0.length : Int) then (if 0 ≤ x5 then (if (rd x0 x5) = x1 then (laws_heldIntS.l0 k x0 (wrap64 (x1 + 1)) (wrap64 (x5 + 1))) else (some (-1))) else (none)) else (some x1)
def laws_heldIntS.f (k : Nat) (l0 : List Int) (a1 : Int) : Option (Int) := laws_heldIntS.l0 k l0 a1 0
theorem laws_heldIntS.mono_l : ∀ k, (∀ y0 y1 y2, LeO (laws_heldIntS.l0 k y0 y1 y2) (laws_heldIntS.l0 (k + 1) y0 y1 y2))
 | 0 => fun _ _ _ r h => by simp [laws_heldIntS.l0] at h
 | k + 1 => by
  have ih0 := laws_heldIntS.mono_l k
  ·intro y0 y1 y2
   unfold laws_heldIntS.l0
   repeat' first | (with_reducible first | apply ih0 | exact LeO.refl _ | exact LeO.none _ | refine LeO.ite ?_ ?_ | refine LeO.bind ?_ fun _ => ?_) | apply ih0 | exact LeO.none _ | refine LeO.ite ?_ ?_ | refine LeO.bind ?_ fun _ => ?_
theorem laws_heldIntS.mono : ∀ a0 a1 k, LeO (laws_heldIntS.f k a0 a1) (laws_heldIntS.f (k + 1) a0 a1) := by
 intro a0 a1 k
 have ih0 := laws_heldIntS.mono_l k
 unfold laws_heldIntS.f
 repeat' first | (with_reducible first | apply ih0 | exact LeO.refl _ | exact LeO.none _ | refine LeO.ite ?_ ?_ | refine LeO.bind ?_ fun _ => ?_) | apply ih0 | exact LeO.none _ | refine LeO.ite ?_ ?_ | refine LeO.bind ?_ fun _ => ?_
set_option maxHeartbeats 8000000 in
set_option maxRecDepth 100000 in
theorem laws_heldIntS.calls (k : Nat) (A0 : Option Addr) (c0 : Nat) (l0 : List Int) (a1 : Int) (r : Int) (w : World) (hr0 : Kd.C (Kd.int .i64) w A0 l0.length l0) (hc0 : l0.length ≤ c0) (h : laws_heldIntS.f k l0 a1 = some r) :
  Calls Try.prog 68 #[.slice A0 l0.length c0, .int .i64 a1] w fun e w' => e = .returned (.int .i64 r) ∧ Drawn0 w w' := by
 have HR0 := Aside0.mk hr0; have HC0 := Aside0.mk hc0; clear hr0 hc0
 have H : (laws_heldIntS.l0 k l0 a1 0) = some r := h
 clear h
 have H' := Aside0.mk H
 clear H
 go_enter Try.func68, Try.ntmps68
 go_wp2
 go_loopg [1, 5] k (fun kq v1 v5 w' => ∃ (x1_1 : Int) (x5_1 : Int), v1 = .int .i64 x1_1 ∧ v5 = .int .i64 x5_1 ∧ Aside0 (laws_heldIntS.l0 kq l0 x1_1 x5_1 = some r) ∧ Aside0 (kq ≤ k) ∧ Drawn0 w w')
 case atStart => exact ⟨(a1), (0), (by first | rfl | (simp; done) | (simp [*]; done)), (by first | rfl | (simp; done) | (simp [*]; done)), H', ⟨Nat.le_refl _⟩, by repeat (first | exact Drawn0.refl _ | apply Drawn0.step)⟩
 case round =>
  clear H'; (try clear p2)
  obtain ⟨x1_1, x5_1, rfl, rfl, HA, HK1, ⟨m1, rfl⟩⟩ := hrel
  cases gk with
  | zero => exact absurd HA.out (by simp [laws_heldIntS.l0])
  | succ k1 =>
   have H := HA.out; clear HA
   simp only [laws_heldIntS.l0] at H
   by_cases c3 : x5_1 < (l0.length : Int)
   ·rw [if_pos c3] at H
    have c3b0 : decide (x5_1 < (l0.length : Int)) = true := decide_eq_true c3
    clear c3
    by_cases c4 : 0 ≤ x5_1
    ·rw [if_pos c4] at H
     have c4b0 : decide (0 ≤ x5_1) = true := decide_eq_true c4
     clear c4
     by_cases c5 : (rd l0 x5_1) = x1_1
     ·rw [if_pos c5] at H
      have c5b0 : ((rd l0 x5_1) == x1_1) = true := beq_iff_eq.mpr c5
      have c5b1 : ((rd l0 x5_1) != x1_1) = false := bne_eq_false_iff_eq.mpr c5
      clear c5
      have H' := Aside0.mk H
      clear H
      have p352 : 0 ≤ (x5_1 : Int) := of_decide_eq_true (by first | (with_reducible assumption) | assumption)
      have q352 : x5_1 < (l0.length : Int) := of_decide_eq_true (by first | (with_reducible assumption) | assumption)
      obtain ⟨ad352, e352, hx352_0⟩ := Kd.at_int HR0.out x5_1 p352 q352
      cases e352
      replace p352 := eq_true p352
      replace q352 := eq_true q352
      go_wp2
      go_roundg k1
      case measure => have := HK1.out; omega
      case rel => exact ⟨(wrap64 (x1_1 + 1)), (wrap64 (x5_1 + 1)), (by first | rfl | (simp; done) | (simp [*]; done)), (by first | rfl | (simp; done) | (simp [*]; done)), H', ⟨by have := HK1.out; omega⟩, by repeat (first | exact Drawn0.refl _ | apply Drawn0.step)⟩
     ·rw [if_neg c5] at H
      have c5b0 : ((rd l0 x5_1) == x1_1) = false := beq_eq_false_iff_ne.mpr c5
      have c5b1 : ((rd l0 x5_1) != x1_1) = true := bne_iff_ne.mpr c5
      obtain rfl := Option.some.inj H
      have p352 : 0 ≤ (x5_1 : Int) := of_decide_eq_true (by first | (with_reducible assumption) | assumption)
      have q352 : x5_1 < (l0.length : Int) := of_decide_eq_true (by first | (with_reducible assumption) | assumption)
      obtain ⟨ad352, e352, hx352_0⟩ := Kd.at_int HR0.out x5_1 p352 q352
      cases e352
      replace p352 := eq_true p352
      replace q352 := eq_true q352
      go_wp2
      go_ret
      exact ⟨by first | rfl | (simp; done) | (simp [*]; done), by repeat (first | exact Drawn0.refl _ | apply Drawn0.step)⟩
    ·rw [if_neg c4] at H
     exact absurd H (by simp)
   ·rw [if_neg c3] at H
    have c3b0 : decide (x5_1 < (l0.length : Int)) = false := decide_eq_false c3
    clear c3
    obtain rfl := Option.some.inj H
    go_wp2
    go_ret
    exact ⟨by first | rfl | (simp; done) | (simp [*]; done), by repeat (first | exact Drawn0.refl _ | apply Drawn0.step)⟩
def laws_heldClient.f (k : Nat) (a0_0 : Int) (l0_1 : List Int) (l0_2 : List (S41)) (l0_3 : List Int) (a1 : Int) : Option (Int) := (laws_heldIntS.f k l0_1 a1).bind fun t354 => (if t354 < 0 then (some (-1)) else ((laws_heldWordsS.f k l0_2 t354).bind fun t355 => (if t355 < 0 then (some (-1)) else ((laws_heldIntS.f k l0_3 t355).bind fun t356 => (if t356 < 0 then (some (-1)) else (some t356))))))
theorem laws_heldClient.mono : ∀ a0 a1 a2 a3 a4 k, LeO (laws_heldClient.f k a0 a1 a2 a3 a4) (laws_heldClient.f (k + 1) a0 a1 a2 a3 a4) := by
 intro a0 a1 a2 a3 a4 k
 unfold laws_heldClient.f
 repeat' first | (with_reducible first | apply laws_heldIntS.mono | apply laws_heldWordsS.mono | exact LeO.refl _ | exact LeO.none _ | refine LeO.ite ?_ ?_ | refine LeO.bind ?_ fun _ => ?_) | apply laws_heldIntS.mono | apply laws_heldWordsS.mono | exact LeO.none _ | refine LeO.ite ?_ ?_ | refine LeO.bind ?_ fun _ => ?_
set_option maxHeartbeats 8000000 in
set_option maxRecDepth 100000 in
theorem laws_heldClient.calls (k : Nat) (a0_0 : Int) (A0_1 : Option Addr) (c0_1 : Nat) (l0_1 : List Int) (A0_2 : Option Addr) (c0_2 : Nat) (l0_2 : List (S41)) (A0_3 : Option Addr) (c0_3 : Nat) (l0_3 : List Int) (a1 : Int) (r : Int) (w : World) (hr0_1 : Kd.C (Kd.int .i64) w A0_1 l0_1.length l0_1) (hc0_1 : l0_1.length ≤ c0_1) (hr0_2 : Kd.C k41 w A0_2 l0_2.length l0_2) (hc0_2 : l0_2.length ≤ c0_2) (hr0_3 : Kd.C (Kd.int .i64) w A0_3 l0_3.length l0_3) (hc0_3 : l0_3.length ≤ c0_3) (h : laws_heldClient.f k a0_0 l0_1 l0_2 l0_3 a1 = some r) :
  Calls Try.prog 31 #[.agg #[.int .i64 a0_0, .slice A0_1 l0_1.length c0_1, .slice A0_2 l0_2.length c0_2, .slice A0_3 l0_3.length c0_3], .int .i64 a1] w fun e w' => e = .returned (.int .i64 r) ∧ Below w.heap.size w w' := by
 have hu30 := Try.underlying30; have HR0_1 := Aside0.mk hr0_1; have HC0_1 := Aside0.mk hc0_1; clear hr0_1 hc0_1; have HR0_2 := Aside0.mk hr0_2; have HC0_2 := Aside0.mk hc0_2; clear hr0_2 hc0_2; have HR0_3 := Aside0.mk hr0_3; have HC0_3 := Aside0.mk hc0_3; clear hr0_3 hc0_3
 have HB := Aside0.mk (Below.refl w.heap.size w)
 have H : ((laws_heldIntS.f k l0_1 a1).bind fun t354 => (if t354 < 0 then (some (-1)) else ((laws_heldWordsS.f k l0_2 t354).bind fun t355 => (if t355 < 0 then (some (-1)) else ((laws_heldIntS.f k l0_3 t355).bind fun t356 => (if t356 < 0 then (some (-1)) else (some t356))))))) = some r := h
 clear h
 replace H := Option.bind_eq_some_iff.mp H
 obtain ⟨t354, A30, H⟩ := H
 (try dsimp only at H)
 have A3 := Aside0.mk A30; clear A30
 by_cases c4 : t354 < 0
 ·rw [if_pos c4] at H
  have c4b0 : decide (t354 < 0) = true := decide_eq_true c4
  clear c4
  obtain rfl := Option.some.inj H
  go_enter Try.func31, Try.ntmps31
  go_wp2_with (first | ((with_reducible refine gate_dst (N := 2) rfl ?_); refine box_ (N := 2) (cs := #[.int .i64 a0_0, .slice A0_1 l0_1.length c0_1, .slice A0_2 l0_2.length c0_2, .slice A0_3 l0_3.length c0_3]) (t := 30) (fun gb353 hg w5 hbox hb => ?_); have BK353 := Aside0.mk (hbox); have GW353 := ge_ hg HB; have GE353 := ge_ hg HB; replace HB := (bs_ HB hb); clear hb hbox hg; have Z6 := zz4 BK353) | ((with_reducible refine gate_callee (f := 68) rfl ?_); refine goesL_ (some 8) rfl rfl Try.func68 (by kernel_rfl) rfl #[.slice A0_1 l0_1.length c0_1, .int .i64 a1] rfl ar_ ?_; (with_reducible refine (laws_heldIntS.calls k _ _ l0_1 a1 t354 _ ?side1 ?side2 A3.out).mono ?_); (case side1 => exact kC_ (Kd.C_below HR0_1.out HB.out)); (case side2 => exact HC0_1.out); rintro e w' ⟨rfl, ⟨nd, rfl⟩⟩; refine ⟨_, rfl, ?_⟩))
  go_ret
  exact ⟨by first | rfl | (simp [errW_none, errW_some] <;> rfl) | (simp [*, errW_none, errW_some] <;> rfl), hbA_ HB.out⟩
 ·rw [if_neg c4] at H
  have c4b0 : decide (t354 < 0) = false := decide_eq_false c4
  clear c4
  replace H := Option.bind_eq_some_iff.mp H
  obtain ⟨t355, A70, H⟩ := H
  (try dsimp only at H)
  have A7 := Aside0.mk A70; clear A70
  by_cases c8 : t355 < 0
  ·rw [if_pos c8] at H
   have c8b0 : decide (t355 < 0) = true := decide_eq_true c8
   clear c8
   obtain rfl := Option.some.inj H
   go_enter Try.func31, Try.ntmps31
   go_wp2_with (first | ((with_reducible refine gate_dst (N := 2) rfl ?_); refine box_ (N := 2) (cs := #[.int .i64 a0_0, .slice A0_1 l0_1.length c0_1, .slice A0_2 l0_2.length c0_2, .slice A0_3 l0_3.length c0_3]) (t := 30) (fun gb353 hg w9 hbox hb => ?_); have BK353 := Aside0.mk (hbox); have GW353 := ge_ hg HB; have GE353 := ge_ hg HB; replace HB := (bs_ HB hb); clear hb hbox hg; have Z10 := zz4 BK353) | ((with_reducible refine gate_callee (f := 68) rfl ?_); refine goesL_ (some 8) rfl rfl Try.func68 (by kernel_rfl) rfl #[.slice A0_1 l0_1.length c0_1, .int .i64 a1] rfl ar_ ?_; (with_reducible refine (laws_heldIntS.calls k _ _ l0_1 a1 t354 _ ?side1 ?side2 A3.out).mono ?_); (case side1 => exact kC_ (Kd.C_below HR0_1.out HB.out)); (case side2 => exact HC0_1.out); rintro e w' ⟨rfl, ⟨nd, rfl⟩⟩; refine ⟨_, rfl, ?_⟩) | ((with_reducible refine gate_callee (f := 43) rfl ?_); refine goesL_ (some 14) rfl rfl Try.func43 (by kernel_rfl) rfl #[.slice A0_2 l0_2.length c0_2, .int .i64 t354] rfl ar_ ?_; (with_reducible refine (laws_heldWordsS.calls k _ _ l0_2 t354 t355 _ ?side1 ?side2 A7.out).mono ?_); (case side1 => exact kC_ (Kd.C_below HR0_2.out (hbA_ HB.out))); (case side2 => exact HC0_2.out); rintro e w' ⟨rfl, ⟨nd, rfl⟩⟩; refine ⟨_, rfl, ?_⟩))
   go_ret
   exact ⟨by first | rfl | (simp [errW_none, errW_some] <;> rfl) | (simp [*, errW_none, errW_some] <;> rfl), hbA_ HB.out⟩
  ·rw [if_neg c8] at H
   have c8b0 : decide (t355 < 0) = false := decide_eq_false c8
   clear c8
   replace H := Option.bind_eq_some_iff.mp H
   obtain ⟨t356, A110, H⟩ := H
   (try dsimp only at H)
   have A11 := Aside0.mk A110; clear A110
   by_cases c12 : t356 < 0
   ·rw [if_pos c12] at H
    have c12b0 : decide (t356 < 0) = true := decide_eq_true c12
    clear c12
    obtain rfl := Option.some.inj H
    go_enter Try.func31, Try.ntmps31
    go_wp2_with (first | ((with_reducible refine gate_dst (N := 2) rfl ?_); refine box_ (N := 2) (cs := #[.int .i64 a0_0, .slice A0_1 l0_1.length c0_1, .slice A0_2 l0_2.length c0_2, .slice A0_3 l0_3.length c0_3]) (t := 30) (fun gb353 hg w13 hbox hb => ?_); have BK353 := Aside0.mk (hbox); have GW353 := ge_ hg HB; have GE353 := ge_ hg HB; replace HB := (bs_ HB hb); clear hb hbox hg; have Z14 := zz4 BK353) | ((with_reducible refine gate_callee (f := 68) rfl ?_); refine goesL_ (some 8) rfl rfl Try.func68 (by kernel_rfl) rfl #[.slice A0_1 l0_1.length c0_1, .int .i64 a1] rfl ar_ ?_; (with_reducible refine (laws_heldIntS.calls k _ _ l0_1 a1 t354 _ ?side1 ?side2 A3.out).mono ?_); (case side1 => exact kC_ (Kd.C_below HR0_1.out HB.out)); (case side2 => exact HC0_1.out); rintro e w' ⟨rfl, ⟨nd, rfl⟩⟩; refine ⟨_, rfl, ?_⟩) | ((with_reducible refine gate_callee (f := 43) rfl ?_); refine goesL_ (some 14) rfl rfl Try.func43 (by kernel_rfl) rfl #[.slice A0_2 l0_2.length c0_2, .int .i64 t354] rfl ar_ ?_; (with_reducible refine (laws_heldWordsS.calls k _ _ l0_2 t354 t355 _ ?side1 ?side2 A7.out).mono ?_); (case side1 => exact kC_ (Kd.C_below HR0_2.out (hbA_ HB.out))); (case side2 => exact HC0_2.out); rintro e w' ⟨rfl, ⟨nd, rfl⟩⟩; refine ⟨_, rfl, ?_⟩) | ((with_reducible refine gate_callee (f := 68) rfl ?_); refine goesL_ (some 20) rfl rfl Try.func68 (by kernel_rfl) rfl #[.slice A0_3 l0_3.length c0_3, .int .i64 t355] rfl ar_ ?_; (with_reducible refine (laws_heldIntS.calls k _ _ l0_3 t355 t356 _ ?side1 ?side2 A11.out).mono ?_); (case side1 => exact kC_ (Kd.C_below HR0_3.out (hbA_ HB.out))); (case side2 => exact HC0_3.out); rintro e w' ⟨rfl, ⟨nd, rfl⟩⟩; refine ⟨_, rfl, ?_⟩))
    go_ret
    exact ⟨by first | rfl | (simp [errW_none, errW_some] <;> rfl) | (simp [*, errW_none, errW_some] <;> rfl), hbA_ HB.out⟩
   ·rw [if_neg c12] at H
    have c12b0 : decide (t356 < 0) = false := decide_eq_false c12
    clear c12
    obtain rfl := Option.some.inj H
    go_enter Try.func31, Try.ntmps31
    go_wp2_with (first | ((with_reducible refine gate_dst (N := 2) rfl ?_); refine box_ (N := 2) (cs := #[.int .i64 a0_0, .slice A0_1 l0_1.length c0_1, .slice A0_2 l0_2.length c0_2, .slice A0_3 l0_3.length c0_3]) (t := 30) (fun gb353 hg w15 hbox hb => ?_); have BK353 := Aside0.mk (hbox); have GW353 := ge_ hg HB; have GE353 := ge_ hg HB; replace HB := (bs_ HB hb); clear hb hbox hg; have Z16 := zz4 BK353) | ((with_reducible refine gate_callee (f := 68) rfl ?_); refine goesL_ (some 8) rfl rfl Try.func68 (by kernel_rfl) rfl #[.slice A0_1 l0_1.length c0_1, .int .i64 a1] rfl ar_ ?_; (with_reducible refine (laws_heldIntS.calls k _ _ l0_1 a1 t354 _ ?side1 ?side2 A3.out).mono ?_); (case side1 => exact kC_ (Kd.C_below HR0_1.out HB.out)); (case side2 => exact HC0_1.out); rintro e w' ⟨rfl, ⟨nd, rfl⟩⟩; refine ⟨_, rfl, ?_⟩) | ((with_reducible refine gate_callee (f := 43) rfl ?_); refine goesL_ (some 14) rfl rfl Try.func43 (by kernel_rfl) rfl #[.slice A0_2 l0_2.length c0_2, .int .i64 t354] rfl ar_ ?_; (with_reducible refine (laws_heldWordsS.calls k _ _ l0_2 t354 t355 _ ?side1 ?side2 A7.out).mono ?_); (case side1 => exact kC_ (Kd.C_below HR0_2.out (hbA_ HB.out))); (case side2 => exact HC0_2.out); rintro e w' ⟨rfl, ⟨nd, rfl⟩⟩; refine ⟨_, rfl, ?_⟩) | ((with_reducible refine gate_callee (f := 68) rfl ?_); refine goesL_ (some 20) rfl rfl Try.func68 (by kernel_rfl) rfl #[.slice A0_3 l0_3.length c0_3, .int .i64 t355] rfl ar_ ?_; (with_reducible refine (laws_heldIntS.calls k _ _ l0_3 t355 t356 _ ?side1 ?side2 A11.out).mono ?_); (case side1 => exact kC_ (Kd.C_below HR0_3.out (hbA_ HB.out))); (case side2 => exact HC0_3.out); rintro e w' ⟨rfl, ⟨nd, rfl⟩⟩; refine ⟨_, rfl, ?_⟩))
    go_ret
    exact ⟨by first | rfl | (simp [errW_none, errW_some] <;> rfl) | (simp [*, errW_none, errW_some] <;> rfl), hbA_ HB.out⟩
end Go.Proofs.Ytegchbdjbefdbaa.PFnExactClientAsk
