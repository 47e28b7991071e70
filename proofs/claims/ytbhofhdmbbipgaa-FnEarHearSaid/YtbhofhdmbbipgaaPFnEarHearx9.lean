/- Printed by wip/xp/xprint.sh out of the translation, for this claim: what each function answers, as a plain function, and that the machine does just that. No condition. -/
import Derived.Test.YtbhofhdmbbipgaaPFnEarHearx0
import Derived.Test.YtbhofhdmbbipgaaPFnEarHearx1
import Derived.Test.YtbhofhdmbbipgaaPFnEarHearx2
import Derived.Test.YtbhofhdmbbipgaaPFnEarHearx3
import Derived.Test.YtbhofhdmbbipgaaPFnEarHearx4
import Derived.Test.YtbhofhdmbbipgaaPFnEarHearx5
import Derived.Test.YtbhofhdmbbipgaaPFnEarHearx8
namespace Go.Proofs.Ytbhofhdmbbipgaa.PFnEarHear
open Go.RowKit Go.Proofs.YtbhofhdmbbipgaaW.PrintWords Go.Proofs.YtbhofhdmbbipgaaW.PrintLast Go.Proofs.YtbhofhdmbbipgaaW.PrintMore
attribute [local go_sem] max2_int min2_int max_two min_two max_three min_three max_four min_four   -- for this text's walks alone
set_option linter.unusedVariables false
set_option linter.unusedSimpArgs false
attribute [local go_sem high] eqA96
mutual
def laws_sameEar.j0 : Nat → Bool → Int → Int → List Int → List (S96) → Int → Int → List Int → List (S96) → Option (Bool)
 | 0, _, _, _, _, _, _, _, _, _ => none
 | k + 1, x34, x395000, x395001, x395002, x395003, x396000, x396001, x396002, x396003 => if x34 = true then (some false) else (laws_sameEar.l0 k 0 x395000 x395001 x395002 x395003 x396000 x396001 x396002 x396003)
def laws_sameEar.l0 : Nat → Int → Int → Int → List Int → List (S96) → Int → Int → List Int → List (S96) → Option (Bool)
 | 0, _, _, _, _, _, _, _, _, _ => none
 | k + 1, x5, x395000, x395001, x395002, x395003, x396000, x396001, x396002, x396003 => if x5 < (x395003.length : Int) then (if 0 ≤ x5 then (if x5 < (x396003.length : Int) then (if (!(((rd_T96 x395003 x5).f0) == ((rd_T96 x396003 x5).f0)) || (!(((rd_T96 x395003 x5).f1) == ((rd_T96 x396003 x5).f1)))) = true then (some false) else (laws_sameEar.l0 k (wrap64 (x5 + 1)) x395000 x395001 x395002 x395003 x396000 x396001 x396002 x396003)) else (none)) else (none)) else (some true)
end
def laws_sameEar.f (k : Nat) (a0_0 : Int) (a0_1 : Int) (l0_2 : List Int) (l0_3 : List (S96)) (a1_0 : Int) (a1_1 : Int) (l1_2 : List Int) (l1_3 : List (S96)) : Option (Bool) := if a0_0 = a1_0 then (if a0_1 = a1_1 then ((laws_sameBytes.f l0_2 l1_2).bind fun t396 => (if t396 = true then (laws_sameEar.j0 k ((l0_3.length : Int) != (l1_3.length : Int)) a0_0 a0_1 l0_2 l0_3 a1_0 a1_1 l1_2 l1_3) else (laws_sameEar.j0 k true a0_0 a0_1 l0_2 l0_3 a1_0 a1_1 l1_2 l1_3))) else (laws_sameEar.j0 k true a0_0 a0_1 l0_2 l0_3 a1_0 a1_1 l1_2 l1_3)) else (laws_sameEar.j0 k true a0_0 a0_1 l0_2 l0_3 a1_0 a1_1 l1_2 l1_3)
theorem laws_sameEar.mono_l : ∀ k, (∀ y0 y1 y2 y3 y4 y5 y6 y7 y8, LeO (laws_sameEar.j0 k y0 y1 y2 y3 y4 y5 y6 y7 y8) (laws_sameEar.j0 (k + 1) y0 y1 y2 y3 y4 y5 y6 y7 y8)) ∧ (∀ y0 y1 y2 y3 y4 y5 y6 y7 y8, LeO (laws_sameEar.l0 k y0 y1 y2 y3 y4 y5 y6 y7 y8) (laws_sameEar.l0 (k + 1) y0 y1 y2 y3 y4 y5 y6 y7 y8))
 | 0 => ⟨fun _ _ _ _ _ _ _ _ _ r h => by simp [laws_sameEar.j0] at h, fun _ _ _ _ _ _ _ _ _ r h => by simp [laws_sameEar.l0] at h⟩
 | k + 1 => by
  obtain ⟨ih0, ih1⟩ := laws_sameEar.mono_l k
  refine ⟨?_, ?_⟩
  ·intro y0 y1 y2 y3 y4 y5 y6 y7 y8
   unfold laws_sameEar.j0
   repeat' first | (with_reducible first | apply ih0 | apply ih1 | exact LeO.refl _ | exact LeO.none _ | refine LeO.ite ?_ ?_ | refine LeO.bind ?_ fun _ => ?_) | apply ih0 | apply ih1 | exact LeO.none _ | refine LeO.ite ?_ ?_ | refine LeO.bind ?_ fun _ => ?_
  ·intro y0 y1 y2 y3 y4 y5 y6 y7 y8
   unfold laws_sameEar.l0
   repeat' first | (with_reducible first | apply ih0 | apply ih1 | exact LeO.refl _ | exact LeO.none _ | refine LeO.ite ?_ ?_ | refine LeO.bind ?_ fun _ => ?_) | apply ih0 | apply ih1 | exact LeO.none _ | refine LeO.ite ?_ ?_ | refine LeO.bind ?_ fun _ => ?_
theorem laws_sameEar.mono : ∀ a0 a1 a2 a3 a4 a5 a6 a7 k, LeO (laws_sameEar.f k a0 a1 a2 a3 a4 a5 a6 a7) (laws_sameEar.f (k + 1) a0 a1 a2 a3 a4 a5 a6 a7) := by
 intro a0 a1 a2 a3 a4 a5 a6 a7 k
 obtain ⟨ih0, ih1⟩ := laws_sameEar.mono_l k
 unfold laws_sameEar.f
 repeat' first | (with_reducible first | apply ih0 | apply ih1 | exact LeO.refl _ | exact LeO.none _ | refine LeO.ite ?_ ?_ | refine LeO.bind ?_ fun _ => ?_) | apply ih0 | apply ih1 | exact LeO.none _ | refine LeO.ite ?_ ?_ | refine LeO.bind ?_ fun _ => ?_
set_option maxHeartbeats 8000000 in
set_option maxRecDepth 100000 in
theorem laws_sameEar.calls (k : Nat) (a0_0 : Int) (a0_1 : Int) (A0_2 : Option Addr) (c0_2 : Nat) (l0_2 : List Int) (A0_3 : Option Addr) (c0_3 : Nat) (l0_3 : List (S96)) (a1_0 : Int) (a1_1 : Int) (A1_2 : Option Addr) (c1_2 : Nat) (l1_2 : List Int) (A1_3 : Option Addr) (c1_3 : Nat) (l1_3 : List (S96)) (r : Bool) (w : World) (hr0_2 : Kd.C (Kd.int .u8) w A0_2 l0_2.length l0_2) (hc0_2 : l0_2.length ≤ c0_2) (hr0_3 : Kd.C k96 w A0_3 l0_3.length l0_3) (hc0_3 : l0_3.length ≤ c0_3) (hr1_2 : Kd.C (Kd.int .u8) w A1_2 l1_2.length l1_2) (hc1_2 : l1_2.length ≤ c1_2) (hr1_3 : Kd.C k96 w A1_3 l1_3.length l1_3) (hc1_3 : l1_3.length ≤ c1_3) (h : laws_sameEar.f k a0_0 a0_1 l0_2 l0_3 a1_0 a1_1 l1_2 l1_3 = some r) :
  Calls Try.prog 34 #[.agg #[.int .i64 a0_0, .int .i64 a0_1, .slice A0_2 l0_2.length c0_2, .slice A0_3 l0_3.length c0_3], .agg #[.int .i64 a1_0, .int .i64 a1_1, .slice A1_2 l1_2.length c1_2, .slice A1_3 l1_3.length c1_3]] w fun e w' => e = .returned (.bool r) ∧ Below w.heap.size w w' := by
 have hu48 := Try.underlying48; have hu96 := Try.underlying96; have HR0_2 := Aside0.mk hr0_2; have HC0_2 := Aside0.mk hc0_2; clear hr0_2 hc0_2; have HR0_3 := Aside0.mk hr0_3; have HC0_3 := Aside0.mk hc0_3; clear hr0_3 hc0_3; have HR1_2 := Aside0.mk hr1_2; have HC1_2 := Aside0.mk hc1_2; clear hr1_2 hc1_2; have HR1_3 := Aside0.mk hr1_3; have HC1_3 := Aside0.mk hc1_3; clear hr1_3 hc1_3
 have HB := Aside0.mk (Below.refl w.heap.size w)
 have H : (if a0_0 = a1_0 then (if a0_1 = a1_1 then ((laws_sameBytes.f l0_2 l1_2).bind fun t396 => (if t396 = true then (laws_sameEar.j0 k ((l0_3.length : Int) != (l1_3.length : Int)) a0_0 a0_1 l0_2 l0_3 a1_0 a1_1 l1_2 l1_3) else (laws_sameEar.j0 k true a0_0 a0_1 l0_2 l0_3 a1_0 a1_1 l1_2 l1_3))) else (laws_sameEar.j0 k true a0_0 a0_1 l0_2 l0_3 a1_0 a1_1 l1_2 l1_3)) else (laws_sameEar.j0 k true a0_0 a0_1 l0_2 l0_3 a1_0 a1_1 l1_2 l1_3)) = some r := h
 clear h; have HC3 := Aside0.mk H; clear H
 go_enter Try.func34, Try.ntmps34
 go_upto_region 1 with (first | ((with_reducible refine gate_dst (N := 2) rfl ?_); (try (refine gate_guard (by rfl) ?_; dsimp only)); refine box_ (N := 2) (cs := #[.int .i64 a0_0, .int .i64 a0_1, .slice A0_2 l0_2.length c0_2, .slice A0_3 l0_3.length c0_3]) (t := 48) (fun gb394 hg w4 hbox hb => ?_); have BK394 := Aside0.mk (hbox); have GW394 := ge_ hg HB; have GE394 := ge_ hg HB; replace HB := (bs_ HB hb); clear hb hbox hg) | ((with_reducible refine gate_dst (N := 3) rfl ?_); (try (refine gate_guard (by rfl) ?_; dsimp only)); refine box_ (N := 3) (cs := #[.int .i64 a1_0, .int .i64 a1_1, .slice A1_2 l1_2.length c1_2, .slice A1_3 l1_3.length c1_3]) (t := 48) (fun gb395 hg w5 hbox hb => ?_); have BK395 := Aside0.mk (hbox); have GW395 := ge_ hg HB; have GE395 := ge_ hg HB; replace HB := (bs_ HB hb); have NB394_395 := nl_ hg BK394; have NB395_394 := ng_ hg BK394; replace BK394 := (bbA_ BK394 hb); clear hb hbox hg))
 repeat (go_quiet (first | ((with_reducible refine gate_dst (N := 2) rfl ?_); (try (refine gate_guard (by rfl) ?_; dsimp only)); refine box_ (N := 2) (cs := #[.int .i64 a0_0, .int .i64 a0_1, .slice A0_2 l0_2.length c0_2, .slice A0_3 l0_3.length c0_3]) (t := 48) (fun gb394 hg w4 hbox hb => ?_); have BK394 := Aside0.mk (hbox); have GW394 := ge_ hg HB; have GE394 := ge_ hg HB; replace HB := (bs_ HB hb); clear hb hbox hg) | ((with_reducible refine gate_dst (N := 3) rfl ?_); (try (refine gate_guard (by rfl) ?_; dsimp only)); refine box_ (N := 3) (cs := #[.int .i64 a1_0, .int .i64 a1_1, .slice A1_2 l1_2.length c1_2, .slice A1_3 l1_3.length c1_3]) (t := 48) (fun gb395 hg w5 hbox hb => ?_); have BK395 := Aside0.mk (hbox); have GW395 := ge_ hg HB; have GE395 := ge_ hg HB; replace HB := (bs_ HB hb); have NB394_395 := nl_ hg BK394; have NB395_394 := ng_ hg BK394; replace BK394 := (bbA_ BK394 hb); clear hb hbox hg)); go_upto_region 1 with (first | ((with_reducible refine gate_dst (N := 2) rfl ?_); (try (refine gate_guard (by rfl) ?_; dsimp only)); refine box_ (N := 2) (cs := #[.int .i64 a0_0, .int .i64 a0_1, .slice A0_2 l0_2.length c0_2, .slice A0_3 l0_3.length c0_3]) (t := 48) (fun gb394 hg w4 hbox hb => ?_); have BK394 := Aside0.mk (hbox); have GW394 := ge_ hg HB; have GE394 := ge_ hg HB; replace HB := (bs_ HB hb); clear hb hbox hg) | ((with_reducible refine gate_dst (N := 3) rfl ?_); (try (refine gate_guard (by rfl) ?_; dsimp only)); refine box_ (N := 3) (cs := #[.int .i64 a1_0, .int .i64 a1_1, .slice A1_2 l1_2.length c1_2, .slice A1_3 l1_3.length c1_3]) (t := 48) (fun gb395 hg w5 hbox hb => ?_); have BK395 := Aside0.mk (hbox); have GW395 := ge_ hg HB; have GE395 := ge_ hg HB; replace HB := (bs_ HB hb); have NB394_395 := nl_ hg BK394; have NB395_394 := ng_ hg BK394; replace BK394 := (bbA_ BK394 hb); clear hb hbox hg)))
 (try simp only [Act.put, List.setIfInBounds_toArray, List.set_cons_zero, List.set_cons_succ])
 go_cut [34] (fun v34 wc => ∃ (kq : Nat) (x34_2 : Bool), v34 = .bool x34_2 ∧ Aside0 (laws_sameEar.j0 kq x34_2 a0_0 a0_1 l0_2 l0_3 a1_0 a1_1 l1_2 l1_3 = some r) ∧ Aside0 (kq ≤ k) ∧ Aside0 (wc.heap[gb394]? = some (.cells #[.int .i64 a0_0, .int .i64 a0_1, (.slice A0_2 l0_2.length c0_2), (.slice A0_3 l0_3.length c0_3)] 48 (0, 0))) ∧ Aside0 (wc.heap[gb395]? = some (.cells #[.int .i64 a1_0, .int .i64 a1_1, (.slice A1_2 l1_2.length c1_2), (.slice A1_3 l1_3.length c1_3)] 48 (0, 0))) ∧ Aside0 (Below w.heap.size w wc))
 case first =>
  have H := HC3.out; clear HC3
  by_cases c6 : a0_0 = a1_0
  ·rw [if_pos c6] at H
   have c6b0 : (a0_0 == a1_0) = true := beq_iff_eq.mpr c6
   have c6b1 : (a0_0 != a1_0) = false := bne_eq_false_iff_eq.mpr c6
   clear c6
   (first | rw [c6b0] | (simp only [i64_w, i32_w]; rw [c6b0]) | skip)
   by_cases c7 : a0_1 = a1_1
   ·rw [if_pos c7] at H
    have c7b0 : (a0_1 == a1_1) = true := beq_iff_eq.mpr c7
    have c7b1 : (a0_1 != a1_1) = false := bne_eq_false_iff_eq.mpr c7
    clear c7
    replace H := Option.bind_eq_some_iff.mp H
    obtain ⟨t396, A80, H⟩ := H
    (try dsimp only at H)
    have A8 := Aside0.mk A80; clear A80
    by_cases c9 : t396 = true
    ·subst c9
     rw [if_pos rfl] at H
     have H' := Aside0.mk H
     clear H; have hnb10 := NB394_395.out; have hnc10 := NB395_394.out; have Z11 := zz4 BK394; have Z12 := zz4 BK395
     go_wp2_with (first | (go_at_call 15; (with_reducible refine (laws_sameBytes.calls _ _ l0_2 _ _ l1_2 true _ ?side1 ?side2 ?side3 ?side4 A8.out).mono ?_); (case side1 => exact kC_ (Kd.C_below HR0_2.out HB.out)); (case side2 => exact HC0_2.out); (case side3 => exact kC_ (Kd.C_below HR1_2.out HB.out)); (case side4 => exact HC1_2.out); rintro e w' ⟨rfl, ⟨nd, rfl⟩⟩; (try first | exact ⟨rfl, _, World.drewN_drewN _ _ _⟩ | exact ⟨rfl, _, Eq.trans (World.drewN_drewN _ _ _) (congrArg (World.drewN _) (Nat.add_assoc _ _ _))⟩)))
     repeat (go_quiet (first | (go_at_call 15; (with_reducible refine (laws_sameBytes.calls _ _ l0_2 _ _ l1_2 true _ ?side1 ?side2 ?side3 ?side4 A8.out).mono ?_); (case side1 => exact kC_ (Kd.C_below HR0_2.out HB.out)); (case side2 => exact HC0_2.out); (case side3 => exact kC_ (Kd.C_below HR1_2.out HB.out)); (case side4 => exact HC1_2.out); rintro e w' ⟨rfl, ⟨nd, rfl⟩⟩; (try first | exact ⟨rfl, _, World.drewN_drewN _ _ _⟩ | exact ⟨rfl, _, Eq.trans (World.drewN_drewN _ _ _) (congrArg (World.drewN _) (Nat.add_assoc _ _ _))⟩))); try go_wp2_with (first | (go_at_call 15; (with_reducible refine (laws_sameBytes.calls _ _ l0_2 _ _ l1_2 true _ ?side1 ?side2 ?side3 ?side4 A8.out).mono ?_); (case side1 => exact kC_ (Kd.C_below HR0_2.out HB.out)); (case side2 => exact HC0_2.out); (case side3 => exact kC_ (Kd.C_below HR1_2.out HB.out)); (case side4 => exact HC1_2.out); rintro e w' ⟨rfl, ⟨nd, rfl⟩⟩; (try first | exact ⟨rfl, _, World.drewN_drewN _ _ _⟩ | exact ⟨rfl, _, Eq.trans (World.drewN_drewN _ _ _) (congrArg (World.drewN _) (Nat.add_assoc _ _ _))⟩))))
     go_meet
     case rel => exact ⟨_, (((l0_3.length : Int) != (l1_3.length : Int))), (by first | rfl | (simp; done) | (simp [*]; done)), H', ⟨by first | omega | exact Nat.le_refl _⟩, ⟨by refine kb_ ?_; exact BK394.out⟩, ⟨by refine kb_ ?_; exact BK395.out⟩, ⟨hbA_ HB.out⟩⟩
    ·replace c9 := Bool.eq_false_iff.mpr c9
     subst c9
     rw [if_neg (show ¬ (false = true) by decide)] at H
     have H' := Aside0.mk H
     clear H; have hnb13 := NB394_395.out; have hnc13 := NB395_394.out; have Z14 := zz4 BK394; have Z15 := zz4 BK395
     go_wp2_with (first | (go_at_call 15; (with_reducible refine (laws_sameBytes.calls _ _ l0_2 _ _ l1_2 false _ ?side1 ?side2 ?side3 ?side4 A8.out).mono ?_); (case side1 => exact kC_ (Kd.C_below HR0_2.out HB.out)); (case side2 => exact HC0_2.out); (case side3 => exact kC_ (Kd.C_below HR1_2.out HB.out)); (case side4 => exact HC1_2.out); rintro e w' ⟨rfl, ⟨nd, rfl⟩⟩; (try first | exact ⟨rfl, _, World.drewN_drewN _ _ _⟩ | exact ⟨rfl, _, Eq.trans (World.drewN_drewN _ _ _) (congrArg (World.drewN _) (Nat.add_assoc _ _ _))⟩)))
     repeat (go_quiet (first | (go_at_call 15; (with_reducible refine (laws_sameBytes.calls _ _ l0_2 _ _ l1_2 false _ ?side1 ?side2 ?side3 ?side4 A8.out).mono ?_); (case side1 => exact kC_ (Kd.C_below HR0_2.out HB.out)); (case side2 => exact HC0_2.out); (case side3 => exact kC_ (Kd.C_below HR1_2.out HB.out)); (case side4 => exact HC1_2.out); rintro e w' ⟨rfl, ⟨nd, rfl⟩⟩; (try first | exact ⟨rfl, _, World.drewN_drewN _ _ _⟩ | exact ⟨rfl, _, Eq.trans (World.drewN_drewN _ _ _) (congrArg (World.drewN _) (Nat.add_assoc _ _ _))⟩))); try go_wp2_with (first | (go_at_call 15; (with_reducible refine (laws_sameBytes.calls _ _ l0_2 _ _ l1_2 false _ ?side1 ?side2 ?side3 ?side4 A8.out).mono ?_); (case side1 => exact kC_ (Kd.C_below HR0_2.out HB.out)); (case side2 => exact HC0_2.out); (case side3 => exact kC_ (Kd.C_below HR1_2.out HB.out)); (case side4 => exact HC1_2.out); rintro e w' ⟨rfl, ⟨nd, rfl⟩⟩; (try first | exact ⟨rfl, _, World.drewN_drewN _ _ _⟩ | exact ⟨rfl, _, Eq.trans (World.drewN_drewN _ _ _) (congrArg (World.drewN _) (Nat.add_assoc _ _ _))⟩))))
     go_meet
     case rel => exact ⟨_, (true), (by first | rfl | (simp; done) | (simp [*]; done)), H', ⟨by first | omega | exact Nat.le_refl _⟩, ⟨by refine kb_ ?_; exact BK394.out⟩, ⟨by refine kb_ ?_; exact BK395.out⟩, ⟨hbA_ HB.out⟩⟩
   ·rw [if_neg c7] at H
    have c7b0 : (a0_1 == a1_1) = false := beq_eq_false_iff_ne.mpr c7
    have c7b1 : (a0_1 != a1_1) = true := bne_iff_ne.mpr c7
    have H' := Aside0.mk H
    clear H; have hnb16 := NB394_395.out; have hnc16 := NB395_394.out; have Z17 := zz4 BK394; have Z18 := zz4 BK395
    go_wp2
    repeat (go_quiet (fail); try go_wp2)
    go_meet
    case rel => exact ⟨_, (true), (by first | rfl | (simp; done) | (simp [*]; done)), H', ⟨by first | omega | exact Nat.le_refl _⟩, ⟨by refine kb_ ?_; exact BK394.out⟩, ⟨by refine kb_ ?_; exact BK395.out⟩, ⟨hbA_ HB.out⟩⟩
  ·rw [if_neg c6] at H
   have c6b0 : (a0_0 == a1_0) = false := beq_eq_false_iff_ne.mpr c6
   have c6b1 : (a0_0 != a1_0) = true := bne_iff_ne.mpr c6
   (first | rw [c6b0] | (simp only [i64_w, i32_w]; rw [c6b0]) | skip)
   have H' := Aside0.mk H
   clear H; have hnb19 := NB394_395.out; have hnc19 := NB395_394.out; have Z20 := zz4 BK394; have Z21 := zz4 BK395
   go_wp2
   repeat (go_quiet (fail); try go_wp2)
   go_meet
   case rel => exact ⟨_, (true), (by first | rfl | (simp; done) | (simp [*]; done)), H', ⟨by first | omega | exact Nat.le_refl _⟩, ⟨by refine kb_ ?_; exact BK394.out⟩, ⟨by refine kb_ ?_; exact BK395.out⟩, ⟨hbA_ HB.out⟩⟩
 case rest =>
  clear HC3; (try clear c1); (try clear p2); (try clear c3); (try clear c6); (try clear c6b0); (try clear c6b1); (try clear c7); (try clear c7b0); (try clear c7b1); (try clear c9); (try clear c10); (try clear c13); (try clear c16); (try clear c19); (try clear Z11); (try clear Z12); (try clear Z14); (try clear Z15); (try clear Z17); (try clear Z18); (try clear Z20); (try clear Z21)
  obtain ⟨kq, x34_2, rfl, HA, HJ2, BK394, BK395, HB⟩ := hcut
  cases kq with
  | zero => exact absurd HA.out (by simp [laws_sameEar.j0])
  | succ kj2 =>
   have H := HA.out; clear HA
   simp only [laws_sameEar.j0] at H
   by_cases c22 : x34_2 = true
   ·subst c22
    rw [if_pos rfl] at H
    obtain rfl := Option.some.inj H
    go_wp2
    repeat (go_quiet (fail); try go_wp2)
    go_ret
    exact ⟨by first | rfl | (simp [errW_none, errW_some] <;> rfl) | (simp [*, errW_none, errW_some] <;> rfl), hbA_ HB.out⟩
   ·replace c22 := Bool.eq_false_iff.mpr c22
    subst c22
    rw [if_neg (show ¬ (false = true) by decide)] at H
    have H' := Aside0.mk H
    clear H
    go_wp2
    repeat (go_quiet (fail); try go_wp2)
    go_loopg [5] kj2 (fun kq v5 w' => ∃ (x5_2 : Int), v5 = .int .i64 x5_2 ∧ Aside0 (laws_sameEar.l0 kq x5_2 a0_0 a0_1 l0_2 l0_3 a1_0 a1_1 l1_2 l1_3 = some r) ∧ Aside0 (kq ≤ kj2) ∧ Aside0 (w'.heap[gb394]? = some (.cells #[.int .i64 a0_0, .int .i64 a0_1, (.slice A0_2 l0_2.length c0_2), (.slice A0_3 l0_3.length c0_3)] 48 (0, 0))) ∧ Aside0 (w'.heap[gb395]? = some (.cells #[.int .i64 a1_0, .int .i64 a1_1, (.slice A1_2 l1_2.length c1_2), (.slice A1_3 l1_3.length c1_3)] 48 (0, 0))) ∧ Aside0 (Below w.heap.size w w'))
    case atStart => exact ⟨(0), (by first | rfl | (simp; done) | (simp [*]; done)), H', ⟨Nat.le_refl _⟩, ⟨by refine kb_ ?_; exact BK394.out⟩, ⟨by refine kb_ ?_; exact BK395.out⟩, ⟨hbA_ HB.out⟩⟩
    case round =>
     clear H'; (try clear c1); (try clear c2); (try clear p2); (try clear c3); (try clear c6); (try clear c6b0); (try clear c6b1); (try clear c7); (try clear c7b0); (try clear c7b1); (try clear c9); (try clear c10); (try clear c13); (try clear c16); (try clear c19); (try clear c22); (try clear Z11); (try clear Z12); (try clear Z14); (try clear Z15); (try clear Z17); (try clear Z18); (try clear Z20); (try clear Z21); (try clear p2)
     obtain ⟨x5_2, rfl, HA, HK2, BK394, BK395, HB⟩ := hrel
     cases gk with
     | zero => exact absurd HA.out (by simp [laws_sameEar.l0])
     | succ k2 =>
      have H := HA.out; clear HA
      simp only [laws_sameEar.l0] at H
      by_cases c23 : x5_2 < (l0_3.length : Int)
      ·rw [if_pos c23] at H
       have c23b0 : decide (x5_2 < (l0_3.length : Int)) = true := decide_eq_true c23
       clear c23
       by_cases c24 : 0 ≤ x5_2
       ·rw [if_pos c24] at H
        have c24b0 : decide (0 ≤ x5_2) = true := decide_eq_true c24
        clear c24
        by_cases c25 : x5_2 < (l1_3.length : Int)
        ·rw [if_pos c25] at H
         have c25b0 : decide (x5_2 < (l1_3.length : Int)) = true := decide_eq_true c25
         clear c25
         by_cases c26 : (!(((rd_T96 l0_3 x5_2).f0) == ((rd_T96 l1_3 x5_2).f0)) || (!(((rd_T96 l0_3 x5_2).f1) == ((rd_T96 l1_3 x5_2).f1)))) = true
         ·rw [if_pos c26] at H
          have c26b0 : (!(((rd_T96 l0_3 x5_2).f0) == ((rd_T96 l1_3 x5_2).f0)) || (!(((rd_T96 l0_3 x5_2).f1) == ((rd_T96 l1_3 x5_2).f1)))) = true := c26
          clear c26
          obtain rfl := Option.some.inj H
          have hnb27 := NB394_395.out; have hnc27 := NB395_394.out; have Z28 := zz4 BK394
          have p397 : 0 ≤ (x5_2 : Int) := of_decide_eq_true (by first | (with_reducible assumption) | assumption)
          have q397 : x5_2 < (l0_3.length : Int) := of_decide_eq_true (by first | (with_reducible assumption) | assumption)
          obtain ⟨ad397, e397, hx397_0, hx397_1⟩ := at_T96 HR0_3.out x5_2 p397 q397
          cases e397
          replace hx397_0 := cc_ HB hx397_0
          replace hx397_1 := cc_ HB hx397_1
          replace p397 := eq_true p397
          replace q397 := eq_true q397
          have Z29 := zz4 BK395
          have p398 : 0 ≤ (x5_2 : Int) := of_decide_eq_true (by first | (with_reducible assumption) | assumption)
          have q398 : x5_2 < (l1_3.length : Int) := of_decide_eq_true (by first | (with_reducible assumption) | assumption)
          obtain ⟨ad398, e398, hx398_0, hx398_1⟩ := at_T96 HR1_3.out x5_2 p398 q398
          cases e398
          replace hx398_0 := cc_ HB hx398_0
          replace hx398_1 := cc_ HB hx398_1
          replace p398 := eq_true p398
          replace q398 := eq_true q398
          go_wp2
          repeat (go_quiet (fail); try go_wp2)
          go_ret
          exact ⟨by first | rfl | (simp [errW_none, errW_some] <;> rfl) | (simp [*, errW_none, errW_some] <;> rfl), hbA_ HB.out⟩
         ·rw [if_neg c26] at H
          have c26b0 : (!(((rd_T96 l0_3 x5_2).f0) == ((rd_T96 l1_3 x5_2).f0)) || (!(((rd_T96 l0_3 x5_2).f1) == ((rd_T96 l1_3 x5_2).f1)))) = false := by simpa using c26
          clear c26
          have H' := Aside0.mk H
          clear H; have hnb30 := NB394_395.out; have hnc30 := NB395_394.out; have Z31 := zz4 BK394
          have p397 : 0 ≤ (x5_2 : Int) := of_decide_eq_true (by first | (with_reducible assumption) | assumption)
          have q397 : x5_2 < (l0_3.length : Int) := of_decide_eq_true (by first | (with_reducible assumption) | assumption)
          obtain ⟨ad397, e397, hx397_0, hx397_1⟩ := at_T96 HR0_3.out x5_2 p397 q397
          cases e397
          replace hx397_0 := cc_ HB hx397_0
          replace hx397_1 := cc_ HB hx397_1
          replace p397 := eq_true p397
          replace q397 := eq_true q397
          have Z32 := zz4 BK395
          have p398 : 0 ≤ (x5_2 : Int) := of_decide_eq_true (by first | (with_reducible assumption) | assumption)
          have q398 : x5_2 < (l1_3.length : Int) := of_decide_eq_true (by first | (with_reducible assumption) | assumption)
          obtain ⟨ad398, e398, hx398_0, hx398_1⟩ := at_T96 HR1_3.out x5_2 p398 q398
          cases e398
          replace hx398_0 := cc_ HB hx398_0
          replace hx398_1 := cc_ HB hx398_1
          replace p398 := eq_true p398
          replace q398 := eq_true q398
          go_wp2
          repeat (go_quiet (fail); try go_wp2)
          go_roundg k2
          case measure => have := HJ2.out; have := HK2.out; omega
          case rel => exact ⟨(wrap64 (x5_2 + 1)), (by first | rfl | (simp; done) | (simp [*]; done)), H', ⟨by have := HJ2.out; have := HK2.out; omega⟩, ⟨by refine kb_ ?_; exact BK394.out⟩, ⟨by refine kb_ ?_; exact BK395.out⟩, ⟨hbA_ HB.out⟩⟩
        ·rw [if_neg c25] at H
         exact absurd H (by simp)
       ·rw [if_neg c24] at H
        exact absurd H (by simp)
      ·rw [if_neg c23] at H
       have c23b0 : decide (x5_2 < (l0_3.length : Int)) = false := decide_eq_false c23
       clear c23
       obtain rfl := Option.some.inj H
       have hnb33 := NB394_395.out; have hnc33 := NB395_394.out; have Z34 := zz4 BK394
       go_wp2
       repeat (go_quiet (fail); try go_wp2)
       go_ret
       exact ⟨by first | rfl | (simp [errW_none, errW_some] <;> rfl) | (simp [*, errW_none, errW_some] <;> rfl), hbA_ HB.out⟩
def laws_FnEarHear.f (k : Nat) (l0 : List Int) : Option (Bool) := if (l0.length : Int) > 1048576 then (some true) else ((spec_DrawEarHear.f k l0).bind fun bt399 => ((impl_EarHear.f k bt399.1 bt399.2.1 bt399.2.2.1 bt399.2.2.2.1 bt399.2.2.2.2.1 bt399.2.2.2.2.2).bind fun bt412 => ((spec_EarHear.f k bt399.1 bt399.2.1 bt399.2.2.1 bt399.2.2.2.1 bt399.2.2.2.2.1 bt399.2.2.2.2.2).bind fun bt421 => ((laws_sameEar.f k bt412.1 bt412.2.1 bt412.2.2.1 bt412.2.2.2 bt421.1 bt421.2.1 bt421.2.2.1 bt421.2.2.2).bind fun t429 => (if t429 = true then ((impl_EarOk.f k bt399.1 bt399.2.1 bt399.2.2.1 bt399.2.2.2.1).bind fun t430 => (if t430 = true then ((impl_EarOk.f k bt412.1 bt412.2.1 bt412.2.2.1 bt412.2.2.2).bind fun t432 => (if t432 = true then (if bt412.1 ≥ bt399.1 then (if (wrap64 ((bt412.2.2.1.length : Int) - (bt399.2.2.1.length : Int))) = (wrap64 (bt412.1 - bt399.1)) then (if 0 ≤ (bt399.2.2.1.length : Int) then (if (bt399.2.2.1.length : Int) ≤ (bt412.2.2.1.length : Int) then ((laws_sameBytes.f (bt412.2.2.1.take ((bt399.2.2.1.length : Int) : Int).toNat) bt399.2.2.1).bind fun t437 => (if t437 = true then ((impl_EarHear.f k bt412.1 bt412.2.1 bt412.2.2.1 bt412.2.2.2 bt399.2.2.2.2.1 bt399.2.2.2.2.2).bind fun bt438 => ((laws_sameEar.f k bt438.1 bt438.2.1 bt438.2.2.1 bt438.2.2.2 bt412.1 bt412.2.1 bt412.2.2.1 bt412.2.2.2).bind fun t446 => (some t446))) else (some false))) else (none)) else (none)) else (some false)) else (some false)) else (some false))) else (if bt412.2.1 = 0 then ((laws_alive.f k).bind fun t431 => (some t431)) else (some false)))) else (some false))))))
theorem laws_FnEarHear.mono : ∀ a0 k, LeO (laws_FnEarHear.f k a0) (laws_FnEarHear.f (k + 1) a0) := by
 intro a0 k
 unfold laws_FnEarHear.f
 repeat' first | (with_reducible first | apply impl_EarHear.mono | apply impl_EarOk.mono | apply laws_alive.mono | apply laws_sameEar.mono | apply spec_DrawEarHear.mono | apply spec_EarHear.mono | exact LeO.refl _ | exact LeO.none _ | refine LeO.ite ?_ ?_ | refine LeO.bind ?_ fun _ => ?_) | apply impl_EarHear.mono | apply impl_EarOk.mono | apply laws_alive.mono | apply laws_sameEar.mono | apply spec_DrawEarHear.mono | apply spec_EarHear.mono | exact LeO.none _ | refine LeO.ite ?_ ?_ | refine LeO.bind ?_ fun _ => ?_
def laws_FnEarHear.T10 : Bool × List (List Nat × List Nat) := (true, [([], []), ([0], [0]), ([1, 1], [1]), ([2], [2]), ([3, 2], [2, 3]), ([2], [2]), ([5, 2], [2, 5]), ([4, 6, 2], [2, 4, 6]), ([2, 7], [2, 7]), ([8, 2], [8]), ([9], [9]), ([9], [9]), ([11, 9], [9, 11]), ([9], [9]), ([13, 9], [9, 13]), ([12, 14, 9], [9, 12, 14]), ([10, 15, 9], [9, 10, 15]), ([9, 16], [9, 16]), ([17, 9], [17]), ([18], [18]), ([19, 18], [18, 19]), ([18], [18]), ([21, 18], [18, 21]), ([22, 18], [18, 22]), ([20, 23, 18], [18, 20, 23]), ([18], [18]), ([25, 18], [18, 25]), ([24, 26, 18, 18], [18, 24, 26]), ([18, 27], [18, 27]), ([28, 27], [28]), ([29], [29]), ([29], [29]), ([29], [29]), ([30, 31, 32, 29, 29], [29, 30, 31, 32]), ([29], [29]), ([33, 34, 33, 29], [29, 33, 34]), ([29, 35], [29, 35]), ([36, 35, 0, 1, 2, 3, 4, 5, 6, 7, 8, 9, 10, 11, 12, 13, 14, 15, 16, 17, 18, 19, 20, 21, 22, 23, 24, 25, 26, 27, 28, 29, 30, 31, 32, 33, 34, 35, 36], [36])])
def laws_FnEarHear.B10 : List Nat := [0, 1, 3, 7, 15, 7, 39, 127, 255, 511, 1023, 1023, 3071, 1023, 9215, 31743, 65535, 131071, 262143, 524287, 1048575, 524287, 2621439, 6815743, 16777215, 524287, 34078719, 134217727, 268435455, 536870911, 1073741823, 1073741823, 1073741823, 8589934591, 1073741823, 34359738367, 68719476735, 137438953471]
theorem laws_FnEarHear.tab10 : rtab .any (opsOf Try.f6 10) = laws_FnEarHear.T10 := by kernel_rfl
theorem laws_FnEarHear.bits10 : waitsOk laws_FnEarHear.T10.2 laws_FnEarHear.B10 = true := by kernel_rfl
set_option maxHeartbeats 8000000 in
set_option maxRecDepth 100000 in
theorem laws_FnEarHear.calls (k : Nat) (A0 : Option Addr) (c0 : Nat) (l0 : List Int) (r : Bool) (w : World) (hr0 : Kd.C (Kd.int .u8) w A0 l0.length l0) (hc0 : l0.length ≤ c0) (h : laws_FnEarHear.f k l0 = some r) (hlw : r = true) :
  Calls Try.prog 6 #[.slice A0 l0.length c0] w fun e w' => e = .returned (.bool r) ∧ Below w.heap.size w w' := by
 have hu48 := Try.underlying48; have HLW := Aside0.mk hlw; clear hlw; have HR0 := Aside0.mk hr0; have HC0 := Aside0.mk hc0; clear hr0 hc0
 have HB := Aside0.mk (Below.refl w.heap.size w)
 have H : (if (l0.length : Int) > 1048576 then (some true) else ((spec_DrawEarHear.f k l0).bind fun bt399 => ((impl_EarHear.f k bt399.1 bt399.2.1 bt399.2.2.1 bt399.2.2.2.1 bt399.2.2.2.2.1 bt399.2.2.2.2.2).bind fun bt412 => ((spec_EarHear.f k bt399.1 bt399.2.1 bt399.2.2.1 bt399.2.2.2.1 bt399.2.2.2.2.1 bt399.2.2.2.2.2).bind fun bt421 => ((laws_sameEar.f k bt412.1 bt412.2.1 bt412.2.2.1 bt412.2.2.2 bt421.1 bt421.2.1 bt421.2.2.1 bt421.2.2.2).bind fun t429 => (if t429 = true then ((impl_EarOk.f k bt399.1 bt399.2.1 bt399.2.2.1 bt399.2.2.2.1).bind fun t430 => (if t430 = true then ((impl_EarOk.f k bt412.1 bt412.2.1 bt412.2.2.1 bt412.2.2.2).bind fun t432 => (if t432 = true then (if bt412.1 ≥ bt399.1 then (if (wrap64 ((bt412.2.2.1.length : Int) - (bt399.2.2.1.length : Int))) = (wrap64 (bt412.1 - bt399.1)) then (if 0 ≤ (bt399.2.2.1.length : Int) then (if (bt399.2.2.1.length : Int) ≤ (bt412.2.2.1.length : Int) then ((laws_sameBytes.f (bt412.2.2.1.take ((bt399.2.2.1.length : Int) : Int).toNat) bt399.2.2.1).bind fun t437 => (if t437 = true then ((impl_EarHear.f k bt412.1 bt412.2.1 bt412.2.2.1 bt412.2.2.2 bt399.2.2.2.2.1 bt399.2.2.2.2.2).bind fun bt438 => ((laws_sameEar.f k bt438.1 bt438.2.1 bt438.2.2.1 bt438.2.2.2 bt412.1 bt412.2.1 bt412.2.2.1 bt412.2.2.2).bind fun t446 => (some t446))) else (some false))) else (none)) else (none)) else (some false)) else (some false)) else (some false))) else (if bt412.2.1 = 0 then ((laws_alive.f k).bind fun t431 => (some t431)) else (some false)))) else (some false))))))) = some r := h
 clear h
 by_cases c2 : (l0.length : Int) > 1048576
 ·rw [if_pos c2] at H
  have c2b0 : decide (1048576 < (l0.length : Int)) = true := decide_eq_true c2
  have c2b1 : decide (1048576 < l0.length) = true := decide_eq_true (by omega)
  clear c2
  obtain rfl := Option.some.inj H
  go_enter Try.func6, Try.ntmps6
  go_wp2
  go_ret
  exact ⟨by first | rfl | (simp [errW_none, errW_some] <;> rfl) | (simp [*, errW_none, errW_some] <;> rfl), hbA_ HB.out⟩
 ·rw [if_neg c2] at H
  have c2b0 : decide (1048576 < (l0.length : Int)) = false := decide_eq_false c2
  have c2b1 : decide (1048576 < l0.length) = false := decide_eq_false (by omega)
  clear c2
  replace H := Option.bind_eq_some_iff.mp H
  obtain ⟨⟨t399, t400, t401, t404, t407, t408⟩, A30, H⟩ := H
  (try dsimp only at H)
  have A3 := Aside0.mk A30; clear A30
  replace H := Option.bind_eq_some_iff.mp H
  obtain ⟨⟨t412, t413, t414, t417⟩, A40, H⟩ := H
  (try dsimp only at H)
  have A4 := Aside0.mk A40; clear A40
  replace H := Option.bind_eq_some_iff.mp H
  obtain ⟨⟨t421, t422, t423, t426⟩, A50, H⟩ := H
  (try dsimp only at H)
  have A5 := Aside0.mk A50; clear A50
  replace H := Option.bind_eq_some_iff.mp H
  obtain ⟨t429, A60, H⟩ := H
  (try dsimp only at H)
  have A6 := Aside0.mk A60; clear A60
  by_cases c7 : t429 = true
  ·subst c7
   rw [if_pos rfl] at H
   replace H := Option.bind_eq_some_iff.mp H
   obtain ⟨t430, A80, H⟩ := H
   (try dsimp only at H)
   have A8 := Aside0.mk A80; clear A80
   by_cases c9 : t430 = true
   ·subst c9
    rw [if_pos rfl] at H
    replace H := Option.bind_eq_some_iff.mp H
    obtain ⟨t432, A100, H⟩ := H
    (try dsimp only at H)
    have A10 := Aside0.mk A100; clear A100
    by_cases c11 : t432 = true
    ·subst c11
     rw [if_pos rfl] at H
     by_cases c12 : t412 ≥ t399
     ·rw [if_pos c12] at H
      have c12b0 : decide (t399 ≤ t412) = true := decide_eq_true c12
      clear c12
      by_cases c13 : (wrap64 ((t414.length : Int) - (t401.length : Int))) = (wrap64 (t412 - t399))
      ·rw [if_pos c13] at H
       have c13b0 : ((wrap64 ((t414.length : Int) - (t401.length : Int))) == (wrap64 (t412 - t399))) = true := beq_iff_eq.mpr c13
       have c13b1 : ((wrap64 ((t414.length : Int) - (t401.length : Int))) != (wrap64 (t412 - t399))) = false := bne_eq_false_iff_eq.mpr c13
       clear c13
       by_cases c14 : 0 ≤ (t401.length : Int)
       ·rw [if_pos c14] at H
        have c14b0 := eq_true c14
        have c14b1 : decide (0 ≤ (t401.length : Int)) = true := decide_eq_true c14
        clear c14
        by_cases c15 : (t401.length : Int) ≤ (t414.length : Int)
        ·rw [if_pos c15] at H
         have c15b0 := eq_true c15
         have c15b1 : decide ((t401.length : Int) ≤ (t414.length : Int)) = true := decide_eq_true c15
         clear c15
         obtain ⟨y433, hy433⟩ : ∃ y_ : List Int, y_ = (t414.take ((t401.length : Int) : Int).toNat) := ⟨_, rfl⟩
         (first | replace H := sb_ hy433 H | rw [← hy433] at H)
         have Ny433 := Aside0.mk hy433; clear hy433
         replace H := Option.bind_eq_some_iff.mp H
         obtain ⟨t437, A160, H⟩ := H
         (try dsimp only at H)
         have A16 := Aside0.mk A160; clear A160
         by_cases c17 : t437 = true
         ·subst c17
          rw [if_pos rfl] at H
          replace H := Option.bind_eq_some_iff.mp H
          obtain ⟨⟨t438, t439, t440, t443⟩, A180, H⟩ := H
          (try dsimp only at H)
          have A18 := Aside0.mk A180; clear A180
          replace H := Option.bind_eq_some_iff.mp H
          obtain ⟨t446, A190, H⟩ := H
          (try dsimp only at H)
          have A19 := Aside0.mk A190; clear A190
          obtain rfl := Option.some.inj H
          go_enter Try.func6, Try.ntmps6
          try go_wp2_with (first | ((with_reducible refine gate_callee (f := 33) rfl ?_); refine goesL_ (some 13) rfl rfl Try.func33 (by kernel_rfl) rfl #[.slice A0 l0.length c0] rfl ar_ ?_; (with_reducible refine (spec_DrawEarHear.calls k _ _ l0 t399 t400 t401 t404 t407 t408 _ ?side1 ?side2 A3.out).mono ?_); (case side1 => exact kC_ HR0.out); (case side2 => exact HC0.out); rintro e w20 ⟨v402, v405, v409, rfl, ho0, ho1, ho2, hb⟩; refine ⟨_, rfl, ?_⟩; have HO403 := Aside0.mk (Kd.R_lower ho0 (below_size (hbA_ HB.out))); have HO406 := Aside0.mk (Kd.Q_lower ho1 (below_size (hbA_ HB.out))); have HO410 := Aside0.mk (Kd.R_lower ho2 (below_size (hbA_ HB.out))); replace HB := (bs_ HB hb); (try clear hb); (try clear hb2); (try clear hk); (try clear hi); (try clear ho0); (try clear ho1); (try clear ho2)) | ((with_reducible refine gate_dst (N := 3) rfl ?_); (try (refine gate_guard (by rfl) ?_; dsimp only)); refine box_ (N := 3) (cs := #[.int .i64 0, .int .i64 0, .slice none 0 0, .slice none 0 0]) (t := 48) (fun gb411 hg w21 hbox hb => ?_); replace HO403 := Aside0.mk (Kd.R_below (kR_ HO403.out) hb); replace HO406 := Aside0.mk (Kd.Q_below (by (with_reducible repeat (first | apply Kd.Q_alloc | apply Kd.Q_drewN | apply Kd.Q_drew)); exact HO406.out) hb); replace HO410 := Aside0.mk (Kd.R_below (kR_ HO410.out) hb); have BK411 := Aside0.mk (hbox); have GW411 := ge_ hg HB; have GE411 := ge_ hg HB; replace HB := (bs_ HB hb); clear hb hbox hg; have Z22 := zz4 BK411; obtain ⟨Ao23, co23, eo23⟩ := Kd.R_slice HO403.out; subst eo23; obtain ⟨Ao24, co24, eo24, _⟩ := Kd.Q_slice HO406.out; subst eo24; obtain ⟨Ao25, co25, eo25⟩ := Kd.R_slice HO410.out; subst eo25) | ((with_reducible refine gate_callee (f := 27) rfl ?_); refine goesL_ (some 20) rfl rfl Try.func27 (by kernel_rfl) rfl #[.agg #[.int .i64 t399, .int .i64 t400, .slice Ao23 t401.length co23, .slice Ao24 t404.length co24], .int .i64 t407, .slice Ao25 t408.length co25] rfl ar_ ?_; (with_reducible refine (impl_EarHear.calls k t399 t400 _ _ t401 _ _ t404 t407 _ _ t408 t412 t413 t414 t417 _ ?side1 ?side2 ?side3 ?side4 ?side5 ?side6 A4.out).mono ?_); (case side1 => refine (Kd.R_reads' (e := 5) (base := w.heap.size) (ok := fun k_ => some k_ ≠ (.slice Ao25 t408.length co25 : Value).ownBlock) (n := t401.length) (c := co23) ?_).2.2; exact (by refine kR_ ?_; exact (rfm_ ((Kd.R_types HO403.out BK411.out (by decide))) (fun _ h_ => op1_ h_)))); (case side2 => exact (Kd.R_reads' HO403.out).2.1); (case side3 => refine (Kd.Q_reads' (e := 96) (base := w.heap.size) (ok := fun k_ => True) (n := t404.length) (c := co24) ?_).2.2; exact (by (with_reducible repeat (first | apply Kd.Q_alloc | apply Kd.Q_drewN | apply Kd.Q_drew)); exact (Kd.Q_mono (Kd.Q_far (p := ⟨gb411, 3, none⟩) (Kd.Q_far (p := ⟨gb411, 2, none⟩) (Kd.Q_far (p := ⟨gb411, 1, none⟩) (Kd.Q_far (p := ⟨gb411, 0, none⟩) (Kd.Q_types HO406.out BK411.out (by decide)) (fun _ hk => hk.2) (.int .i64 t399)) (fun _ hk => hk.2) (.int .i64 t400)) (fun _ hk => hk.2) (.slice Ao23 t401.length co23)) (fun _ hk => hk.2) (.slice Ao24 t404.length co24)) (fun _ h_ => op1_ h_)))); (case side4 => exact (Kd.Q_reads' HO406.out).2.1); (case side5 => refine (Kd.R_reads' (e := 5) (base := w.heap.size) (ok := fun k_ => some k_ ≠ (.slice Ao23 t401.length co23 : Value).ownBlock) (n := t408.length) (c := co25) ?_).2.2; exact (by refine kR_ ?_; exact (rfm_ ((Kd.R_types HO410.out BK411.out (by decide))) (fun _ h_ => op1_ h_)))); (case side6 => exact (Kd.R_reads' HO410.out).2.1); rintro e w26 ⟨v415, v418, rfl, ho0, ho1, hb⟩; refine ⟨_, rfl, ?_⟩; have HO416 := Aside0.mk (Kd.R_lower (Kd.R_new' (Kd.R_new' ho0 (Kd.R_lt (by refine kR_ ?_; exact (rfm_ ((Kd.R_types HO403.out BK411.out (by decide))) (fun _ h_ => op1_ h_))))) (Kd.R_lt (by refine kR_ ?_; exact (rfm_ ((Kd.R_types HO410.out BK411.out (by decide))) (fun _ h_ => op1_ h_))))) (below_size (hbA_ HB.out))); replace HO403 := Aside0.mk (Kd.R_elder' (by refine kR_ ?_; exact (rfm_ ((Kd.R_types HO403.out BK411.out (by decide))) (fun _ h_ => op1_ h_))) (Kd.R_base ho0) hb); replace HO410 := Aside0.mk (Kd.R_elder' (by refine kR_ ?_; exact (rfm_ ((Kd.R_types HO410.out BK411.out (by decide))) (fun _ h_ => op1_ h_))) (Kd.R_base ho0) hb); have HO419 := Aside0.mk (Kd.R_lower (Kd.R_new' ho1 (Kd.Q_lt (by (with_reducible repeat (first | apply Kd.Q_alloc | apply Kd.Q_drewN | apply Kd.Q_drew)); exact (Kd.Q_mono (Kd.Q_far (p := ⟨gb411, 3, none⟩) (Kd.Q_far (p := ⟨gb411, 2, none⟩) (Kd.Q_far (p := ⟨gb411, 1, none⟩) (Kd.Q_far (p := ⟨gb411, 0, none⟩) (Kd.Q_types HO406.out BK411.out (by decide)) (fun _ hk => hk.2) (.int .i64 t399)) (fun _ hk => hk.2) (.int .i64 t400)) (fun _ hk => hk.2) (.slice Ao23 t401.length co23)) (fun _ hk => hk.2) (.slice Ao24 t404.length co24)) (fun _ h_ => op1_ h_))))) (below_size (hbA_ HB.out))); replace HO406 := Aside0.mk (Kd.Q_elder' (by (with_reducible repeat (first | apply Kd.Q_alloc | apply Kd.Q_drewN | apply Kd.Q_drew)); exact (Kd.Q_mono (Kd.Q_far (p := ⟨gb411, 3, none⟩) (Kd.Q_far (p := ⟨gb411, 2, none⟩) (Kd.Q_far (p := ⟨gb411, 1, none⟩) (Kd.Q_far (p := ⟨gb411, 0, none⟩) (Kd.Q_types HO406.out BK411.out (by decide)) (fun _ hk => hk.2) (.int .i64 t399)) (fun _ hk => hk.2) (.int .i64 t400)) (fun _ hk => hk.2) (.slice Ao23 t401.length co23)) (fun _ hk => hk.2) (.slice Ao24 t404.length co24)) (fun _ h_ => op1_ h_))) (Kd.R_base ho1) hb); replace BK411 := Aside0.mk (blk_below (g := gb411) (o := .cells #[.int .i64 t399, .int .i64 t400, .slice Ao23 t401.length co23, .slice Ao24 t404.length co24] 48 (0, 0)) (by refine kb_ ?_; refine pz4 (cs := #[.int .i64 0, .int .i64 0, .slice none 0 0, .slice none 0 0]) ?_; refine kb_ ?_; exact BK411.out) hb); replace HB := (bs_ HB hb); (try clear hb); (try clear hb2); (try clear hk); (try clear hi); (try clear ho0); (try clear ho1)) | ((with_reducible refine gate_dst (N := 6) rfl ?_); (try (refine gate_guard (by rfl) ?_; dsimp only)); refine box_ (N := 6) (cs := #[.int .i64 0, .int .i64 0, .slice none 0 0, .slice none 0 0]) (t := 48) (fun gb420 hg w27 hbox hb => ?_); replace HO403 := Aside0.mk (Kd.R_below (kR_ HO403.out) hb); replace HO406 := Aside0.mk (Kd.Q_below (by (with_reducible repeat (first | apply Kd.Q_alloc | apply Kd.Q_drewN | apply Kd.Q_drew)); exact HO406.out) hb); replace HO410 := Aside0.mk (Kd.R_below (kR_ HO410.out) hb); replace HO416 := Aside0.mk (Kd.R_below (kR_ HO416.out) hb); replace HO419 := Aside0.mk (Kd.R_below (kR_ HO419.out) hb); have BK420 := Aside0.mk (hbox); have GW420 := ge_ hg HB; have GE420 := ge_ hg HB; replace HB := (bs_ HB hb); have NB411_420 := nl_ hg BK411; have NB420_411 := ng_ hg BK411; replace BK411 := (bbA_ BK411 hb); clear hb hbox hg; have hnb28 := NB420_411.out; have hnc28 := NB411_420.out; have Z29 := zz4 BK420; obtain ⟨Ao30, co30, eo30⟩ := Kd.R_slice HO416.out; subst eo30; obtain ⟨Ao31, co31, eo31⟩ := Kd.R_slice HO419.out; subst eo31))
          obtain ⟨w32, h_w32⟩ : ∃ w_, ((((w27.setCell ⟨gb420, 0, none⟩ (.int .i64 t412)).setCell ⟨gb420, 1, none⟩ (.int .i64 t413)).setCell ⟨gb420, 2, none⟩ (.slice Ao30 t414.length co30)).setCell ⟨gb420, 3, none⟩ (.slice Ao31 t417.length co31)) = w_ := ⟨_, rfl⟩
          have n0_ : Aside0 (Kd.R (Kd.int .u8) 5 w32 w.heap.size (fun k_ => some k_ ≠ (.slice Ao25 t408.length co25 : Value).ownBlock ∧ some k_ ≠ (.slice Ao30 t414.length co30 : Value).ownBlock) (.slice Ao23 t401.length co23) t401) := ⟨by subst h_w32; refine kR_ ?_; exact rfm_ ((Kd.R_types HO403.out BK420.out (by decide))) (fun _ hk => ⟨hk.1.1, hk.1.2⟩)⟩
          have n1_ : Aside0 (Kd.Q k96 96 w32 w.heap.size (fun k_ => some k_ ≠ (.slice Ao31 t417.length co31 : Value).ownBlock) (.slice Ao24 t404.length co24) t404) := ⟨by subst h_w32; (with_reducible repeat (first | apply Kd.Q_alloc | apply Kd.Q_drewN | apply Kd.Q_drew)); exact Kd.Q_mono (Kd.Q_far (p := ⟨gb420, 3, none⟩) (Kd.Q_far (p := ⟨gb420, 2, none⟩) (Kd.Q_far (p := ⟨gb420, 1, none⟩) (Kd.Q_far (p := ⟨gb420, 0, none⟩) (Kd.Q_types HO406.out BK420.out (by decide)) (fun _ hk => hk.2) (.int .i64 t412)) (fun _ hk => hk.2) (.int .i64 t413)) (fun _ hk => hk.2) (.slice Ao30 t414.length co30)) (fun _ hk => hk.2) (.slice Ao31 t417.length co31)) (fun _ hk => hk.1.2)⟩
          have n2_ : Aside0 (Kd.R (Kd.int .u8) 5 w32 w.heap.size (fun k_ => some k_ ≠ (.slice Ao23 t401.length co23 : Value).ownBlock ∧ some k_ ≠ (.slice Ao30 t414.length co30 : Value).ownBlock) (.slice Ao25 t408.length co25) t408) := ⟨by subst h_w32; refine kR_ ?_; exact rfm_ ((Kd.R_types HO410.out BK420.out (by decide))) (fun _ hk => ⟨hk.1.1, hk.1.2⟩)⟩
          have n3_ : Aside0 (Kd.R (Kd.int .u8) 5 w32 w.heap.size (fun k_ => some k_ ≠ (.slice Ao23 t401.length co23 : Value).ownBlock ∧ some k_ ≠ (.slice Ao25 t408.length co25 : Value).ownBlock) (.slice Ao30 t414.length co30) t414) := ⟨by subst h_w32; refine kR_ ?_; exact rfm_ ((Kd.R_types HO416.out BK420.out (by decide))) (fun _ hk => ⟨hk.1.1.2, hk.1.2⟩)⟩
          have n4_ : Aside0 (Kd.R k96 96 w32 w.heap.size (fun k_ => some k_ ≠ (.slice Ao24 t404.length co24 : Value).ownBlock) (.slice Ao31 t417.length co31) t417) := ⟨by subst h_w32; refine kR_ ?_; exact rfm_ ((Kd.R_types HO419.out BK420.out (by decide))) (fun _ hk => hk.1.2)⟩
          have n5_ : Aside0 (w32.heap[gb411]? = some (.cells #[.int .i64 t399, .int .i64 t400, .slice Ao23 t401.length co23, .slice Ao24 t404.length co24] 48 (0, 0))) := ⟨by subst h_w32; exact kf_ BK411.out⟩
          have n6_ : Aside0 (w32.heap[gb420]? = some (.cells #[.int .i64 t412, .int .i64 t413, .slice Ao30 t414.length co30, .slice Ao31 t417.length co31] 48 (0, 0))) := ⟨by subst h_w32; refine kb_ ?_; refine pz4 (cs := #[.int .i64 0, .int .i64 0, .slice none 0 0, .slice none 0 0]) ?_; refine kb_ ?_; exact BK420.out⟩
          have n7_ : Aside0 (Below w.heap.size w w32) := ⟨by subst h_w32; exact hbA_ HB.out⟩
          (try clear HO403); (try clear HO406); (try clear HO410); (try clear HO416); (try clear HO419); (try clear BK411); (try clear BK420); (try clear HB)
          (try rw [h_w32]); clear h_w32
          have HO403 := n0_; have HO406 := n1_; have HO410 := n2_; have HO416 := n3_; have HO419 := n4_; have BK411 := n5_; have BK420 := n6_; have HB := n7_; clear n0_ n1_ n2_ n3_ n4_ n5_ n6_ n7_; replace HO403 := Aside0.mk (Kd.R_drew HO403.out); replace HO406 := Aside0.mk (Kd.Q_drew HO406.out); replace HO410 := Aside0.mk (Kd.R_drew HO410.out); replace HO416 := Aside0.mk (Kd.R_drew HO416.out); replace HO419 := Aside0.mk (Kd.R_drew HO419.out); replace BK411 := Aside0.mk (blk_drew BK411.out); replace BK420 := Aside0.mk (blk_drew BK420.out); replace HB := (bd_ HB)
          refine start_ (n := 7) (S := fun w' => w'.cell? ⟨gb420, 0, none⟩ = some (.int .i64 t412) ∧ w'.cell? ⟨gb420, 1, none⟩ = some (.int .i64 t413) ∧ w'.cell? ⟨gb420, 2, none⟩ = some (.slice Ao30 t414.length co30) ∧ w'.cell? ⟨gb420, 3, none⟩ = some (.slice Ao31 t417.length co31) ∧ w'.cell? ⟨gb411, 0, none⟩ = some (.int .i64 t399) ∧ w'.cell? ⟨gb411, 1, none⟩ = some (.int .i64 t400) ∧ w'.cell? ⟨gb411, 2, none⟩ = some (.slice Ao23 t401.length co23) ∧ w'.cell? ⟨gb411, 3, none⟩ = some (.slice Ao24 t404.length co24)) (ds := []) #[false, false, false, false, false, false, false] (by kernel_rfl) rfl rfl ⟨bc_ BK420 0, bc_ BK420 1, bc_ BK420 2, bc_ BK420 3, bc_ BK411 0, bc_ BK411 1, bc_ BK411 2, bc_ BK411 3⟩ (fun hHeld => ?_)
          generalize w32.drew = w33 at HO403 HO406 HO410 HO416 HO419 BK411 BK420 HB hHeld ⊢
          refine pure_ (i := 2) (N := some 23) (v := ?_) (a' := ?_) #[false, false, true, false, false, false, false] rfl rfl (by kernel_rfl) (fun _ _ _ h => h) (Or.inl ⟨by rfl, ?_⟩) ?_ ?_
          rotate_left
          ·intro w'
           go_simp
           with_reducible rfl
          rotate_left
          ·simp only [Act.put, List.setIfInBounds_toArray, List.set_cons_zero, List.set_cons_succ, i64_w, i32_w]
           rfl
          refine pure_ (i := 3) (N := some 24) (v := ?_) (a' := ?_) #[false, false, true, true, false, false, false] rfl rfl (by kernel_rfl) (fun _ _ _ h => h) (Or.inl ⟨by rfl, ?_⟩) ?_ ?_
          rotate_left
          ·intro w'
           go_simp
           with_reducible rfl
          rotate_left
          ·simp only [Act.put, List.setIfInBounds_toArray, List.set_cons_zero, List.set_cons_succ, i64_w, i32_w]
           rfl
          refine take_ (i := 0) (N := some 21) (v := ?_) (a' := ?_) #[true, false, true, true, false, false, false] rfl rfl (by kernel_rfl) (fun _ _ _ h => h) (Or.inl ⟨by rfl, ?_⟩) hHeld ?_ ?_
          rotate_left
          ·rintro w' ⟨s0, s1, s2, s3, s4, s5, s6, s7⟩
           go_simp
           with_reducible rfl
          rotate_left
          ·simp only [Act.put, List.setIfInBounds_toArray, List.set_cons_zero, List.set_cons_succ, i64_w, i32_w]
           rfl
          refine take_ (i := 1) (N := some 22) (v := ?_) (a' := ?_) #[true, true, true, true, false, false, false] rfl rfl (by kernel_rfl) (fun _ _ _ h => h) (Or.inl ⟨by rfl, ?_⟩) hHeld ?_ ?_
          rotate_left
          ·rintro w' ⟨s0, s1, s2, s3, s4, s5, s6, s7⟩
           go_simp
           with_reducible rfl
          rotate_left
          ·simp only [Act.put, List.setIfInBounds_toArray, List.set_cons_zero, List.set_cons_succ, i64_w, i32_w]
           rfl
          refine one_ (i := 4) (N := some 25) #[true, true, true, true, true, false, false] rfl rfl (by kernel_rfl) (by decide) (fun K hK => ?_)
          refine goes_ Try.func24 (by kernel_rfl) rfl #[.agg #[.int .i64 t399, .int .i64 t400, .slice Ao23 t401.length co23, .slice Ao24 t404.length co24], .int .i64 t407, .slice Ao25 t408.length co25] (by rfl) rfl rfl ar_ ?_
          with_reducible refine (spec_EarHear.calls k t399 t400 _ _ t401 _ _ t404 t407 _ _ t408 t421 t422 t423 t426 _ ?side1 ?side2 ?side3 ?side4 ?side5 ?side6 A5.out).mono ?_
          (case side1 => exact kC_ (Kd.R_reads' HO403.out).2.2)
          (case side2 => exact (Kd.R_reads' HO403.out).2.1)
          (case side3 => exact kC_ (Kd.Q_reads' HO406.out).2.2)
          (case side4 => exact (Kd.Q_reads' HO406.out).2.1)
          (case side5 => exact kC_ (Kd.R_reads' HO410.out).2.2)
          (case side6 => exact (Kd.R_reads' HO410.out).2.1)
          rintro e w34 ⟨v424, v427, rfl, ho0, ho1, hb⟩
          refine ⟨_, rfl, ?_⟩
          have HO425 := Aside0.mk (Kd.R_lower (Kd.R_new' (Kd.R_new' (Kd.R_new' ho0 (Kd.R_lt (kR_ HO403.out))) (Kd.R_lt (kR_ HO410.out))) (Kd.R_lt (kR_ HO416.out))) (below_size (hbA_ HB.out))); replace HO403 := Aside0.mk (Kd.R_elder' (kR_ HO403.out) (Kd.R_base ho0) hb); replace HO410 := Aside0.mk (Kd.R_elder' (kR_ HO410.out) (Kd.R_base ho0) hb); replace HO416 := Aside0.mk (Kd.R_elder' (kR_ HO416.out) (Kd.R_base ho0) hb); have HO428 := Aside0.mk (Kd.Q_lower (Kd.Q_new' (Kd.Q_new' ho1 (Kd.Q_lt (by (with_reducible repeat (first | apply Kd.Q_alloc | apply Kd.Q_drewN | apply Kd.Q_drew)); exact HO406.out))) (Kd.R_lt (kR_ HO419.out))) (below_size (hbA_ HB.out))); replace HO406 := Aside0.mk (Kd.Q_elder' (by (with_reducible repeat (first | apply Kd.Q_alloc | apply Kd.Q_drewN | apply Kd.Q_drew)); exact HO406.out) (Kd.Q_base ho1) hb); replace HO419 := Aside0.mk (Kd.R_elder' (kR_ HO419.out) (Kd.Q_base ho1) hb); replace BK411 := (bbA_ BK411 hb); replace BK420 := (bbA_ BK420 hb); replace HB := (bs_ HB hb); (try clear hb); (try clear hb2); (try clear hk); (try clear hi); (try clear ho0); (try clear ho1)
          obtain ⟨Ao35, co35, eo35⟩ := Kd.R_slice HO425.out
          (first | subst eo35 | (injection eo35 with f1_ f2_ f3_; have f4_ := f1_.symm; have f5_ := f3_.symm; clear f1_ f2_ f3_; subst f4_; subst f5_))
          obtain ⟨Ao36, co36, eo36, _⟩ := Kd.Q_slice HO428.out
          (first | subst eo36 | (injection eo36 with f1_ f2_ f3_; have f4_ := f1_.symm; have f5_ := f3_.symm; clear f1_ f2_ f3_; subst f4_; subst f5_))
          refine hK.out _ _ ⟨bc_ BK420 0, bc_ BK420 1, bc_ BK420 2, bc_ BK420 3, bc_ BK411 0, bc_ BK411 1, bc_ BK411 2, bc_ BK411 3⟩ (fun hHeld => ?_)
          clear hK K; refine nm_ 25 ?_
          refine one_ (i := 5) (N := some 26) #[true, true, true, true, true, true, false] rfl rfl (by kernel_rfl) (by decide) (fun K hK => ?_)
          refine goes_ Try.func34 (by kernel_rfl) rfl #[.agg #[.int .i64 t412, .int .i64 t413, .slice Ao30 t414.length co30, .slice Ao31 t417.length co31], .agg #[.int .i64 t421, .int .i64 t422, .slice Ao35 t423.length co35, .slice Ao36 t426.length co36]] (by rfl) rfl rfl ar_ ?_
          with_reducible refine (laws_sameEar.calls k t412 t413 _ _ t414 _ _ t417 t421 t422 _ _ t423 _ _ t426 true _ ?side1 ?side2 ?side3 ?side4 ?side5 ?side6 ?side7 ?side8 A6.out).mono ?_
          (case side1 => exact kC_ (Kd.R_reads' HO416.out).2.2)
          (case side2 => exact (Kd.R_reads' HO416.out).2.1)
          (case side3 => exact kC_ (Kd.R_reads' HO419.out).2.2)
          (case side4 => exact (Kd.R_reads' HO419.out).2.1)
          (case side5 => exact kC_ (Kd.R_reads' HO425.out).2.2)
          (case side6 => exact (Kd.R_reads' HO425.out).2.1)
          (case side7 => exact kC_ (Kd.Q_reads' HO428.out).2.2)
          (case side8 => exact (Kd.Q_reads' HO428.out).2.1)
          rintro e w37 ⟨rfl, hb⟩
          refine ⟨_, rfl, ?_⟩
          replace HO403 := Aside0.mk (Kd.R_below (kR_ HO403.out) hb); replace HO406 := Aside0.mk (Kd.Q_below (by (with_reducible repeat (first | apply Kd.Q_alloc | apply Kd.Q_drewN | apply Kd.Q_drew)); exact HO406.out) hb); replace HO410 := Aside0.mk (Kd.R_below (kR_ HO410.out) hb); replace HO416 := Aside0.mk (Kd.R_below (kR_ HO416.out) hb); replace HO419 := Aside0.mk (Kd.R_below (kR_ HO419.out) hb); replace HO425 := Aside0.mk (Kd.R_below (kR_ HO425.out) hb); replace HO428 := Aside0.mk (Kd.Q_below (by (with_reducible repeat (first | apply Kd.Q_alloc | apply Kd.Q_drewN | apply Kd.Q_drew)); exact HO428.out) hb); replace BK411 := (bbA_ BK411 hb); replace BK420 := (bbA_ BK420 hb); replace HB := (bs_ HB hb); (try clear hb); (try clear hb2); (try clear hk); (try clear hi)
          refine hK.out _ _ ⟨bc_ BK420 0, bc_ BK420 1, bc_ BK420 2, bc_ BK420 3, bc_ BK411 0, bc_ BK411 1, bc_ BK411 2, bc_ BK411 3⟩ (fun hHeld => ?_)
          clear hK K; refine nm_ 26 ?_
          refine pure_ (i := 6) (N := some 27) (v := ?_) (a' := ?_) #[true, true, true, true, true, true, true] rfl rfl (by kernel_rfl) (fun _ _ _ h => h) (Or.inl ⟨by rfl, ?_⟩) ?_ ?_
          rotate_left
          ·intro w'
           go_simp
           with_reducible rfl
          rotate_left
          ·simp only [Act.put, List.setIfInBounds_toArray, List.set_cons_zero, List.set_cons_succ, i64_w, i32_w]
           rfl
          refine done_ (by kernel_rfl) ?_
          have Z38 := zz4 BK411
          try go_wp2_with (first | ((with_reducible refine gate_callee (f := 35) rfl ?_); refine goesL_ (some 29) rfl rfl Try.func35 (by kernel_rfl) rfl #[.agg #[.int .i64 t399, .int .i64 t400, .slice Ao23 t401.length co23, .slice Ao24 t404.length co24]] rfl ar_ ?_; (with_reducible refine (impl_EarOk.calls k t399 t400 _ _ t401 _ _ t404 true _ ?side1 ?side2 ?side3 ?side4 A8.out).mono ?_); (case side1 => exact kC_ (Kd.R_reads' HO403.out).2.2); (case side2 => exact (Kd.R_reads' HO403.out).2.1); (case side3 => exact kC_ (Kd.Q_reads' HO406.out).2.2); (case side4 => exact (Kd.Q_reads' HO406.out).2.1); rintro e w39 ⟨rfl, hb⟩; refine ⟨_, rfl, ?_⟩; replace HO403 := Aside0.mk (Kd.R_below (kR_ HO403.out) hb); replace HO406 := Aside0.mk (Kd.Q_below (by (with_reducible repeat (first | apply Kd.Q_alloc | apply Kd.Q_drewN | apply Kd.Q_drew)); exact HO406.out) hb); replace HO410 := Aside0.mk (Kd.R_below (kR_ HO410.out) hb); replace HO416 := Aside0.mk (Kd.R_below (kR_ HO416.out) hb); replace HO419 := Aside0.mk (Kd.R_below (kR_ HO419.out) hb); replace HO425 := Aside0.mk (Kd.R_below (kR_ HO425.out) hb); replace HO428 := Aside0.mk (Kd.Q_below (by (with_reducible repeat (first | apply Kd.Q_alloc | apply Kd.Q_drewN | apply Kd.Q_drew)); exact HO428.out) hb); replace BK411 := (bbA_ BK411 hb); replace BK420 := (bbA_ BK420 hb); replace HB := (bs_ HB hb); (try clear hb); (try clear hb2); (try clear hk); (try clear hi); have Z40 := zz4 BK420; have Z41 := zz4 BK411))
          replace HO403 := Aside0.mk (Kd.R_drew HO403.out); replace HO406 := Aside0.mk (Kd.Q_drew HO406.out); replace HO410 := Aside0.mk (Kd.R_drew HO410.out); replace HO416 := Aside0.mk (Kd.R_drew HO416.out); replace HO419 := Aside0.mk (Kd.R_drew HO419.out); replace HO425 := Aside0.mk (Kd.R_drew HO425.out); replace HO428 := Aside0.mk (Kd.Q_drew HO428.out); replace BK411 := Aside0.mk (blk_drew BK411.out); replace BK420 := Aside0.mk (blk_drew BK420.out); replace HB := (bd_ HB)
          refine start_ (n := 38) (S := fun w' => w'.cell? ⟨gb420, 0, none⟩ = some (.int .i64 t412) ∧ w'.cell? ⟨gb420, 1, none⟩ = some (.int .i64 t413) ∧ w'.cell? ⟨gb420, 2, none⟩ = some (.slice Ao30 t414.length co30) ∧ w'.cell? ⟨gb420, 3, none⟩ = some (.slice Ao31 t417.length co31) ∧ w'.cell? ⟨gb411, 0, none⟩ = some (.int .i64 t399) ∧ w'.cell? ⟨gb411, 1, none⟩ = some (.int .i64 t400) ∧ w'.cell? ⟨gb411, 2, none⟩ = some (.slice Ao23 t401.length co23) ∧ w'.cell? ⟨gb411, 3, none⟩ = some (.slice Ao24 t404.length co24)) (ds := []) #[false, false, false, false, false, false, false, false, false, false, false, false, false, false, false, false, false, false, false, false, false, false, false, false, false, false, false, false, false, false, false, false, false, false, false, false, false, false] (by kernel_rfl) rfl rfl ⟨bc_ BK420 0, bc_ BK420 1, bc_ BK420 2, bc_ BK420 3, bc_ BK411 0, bc_ BK411 1, bc_ BK411 2, bc_ BK411 3⟩ (fun hHeld => ?_); refine with_tabW laws_FnEarHear.tab10 laws_FnEarHear.bits10 (fun HT_ HW_ => ?_)
          generalize w39.drew = w42 at HO403 HO406 HO410 HO416 HO419 HO425 HO428 BK411 BK420 HB hHeld ⊢
          refine tk_ (i := 0) (N := some 44) HT_ HW_ hHeld ?_
          refine on_ (i := 1) (N := some 45) HT_ (fun K hK => ?_)
          refine goes_ Try.func35 (by kernel_rfl) rfl #[.agg #[.int .i64 t412, .int .i64 t413, .slice Ao30 t414.length co30, .slice Ao31 t417.length co31]] (by rfl) rfl rfl ar_ ?_
          with_reducible refine (impl_EarOk.calls k t412 t413 _ _ t414 _ _ t417 true _ ?side1 ?side2 ?side3 ?side4 A10.out).mono ?_
          (case side1 => exact kC_ (Kd.R_reads' HO416.out).2.2)
          (case side2 => exact (Kd.R_reads' HO416.out).2.1)
          (case side3 => exact kC_ (Kd.R_reads' HO419.out).2.2)
          (case side4 => exact (Kd.R_reads' HO419.out).2.1)
          rintro e w43 ⟨rfl, hb⟩
          refine ⟨_, rfl, ?_⟩
          replace HO403 := Aside0.mk (Kd.R_below (kR_ HO403.out) hb); replace HO406 := Aside0.mk (Kd.Q_below (by (with_reducible repeat (first | apply Kd.Q_alloc | apply Kd.Q_drewN | apply Kd.Q_drew)); exact HO406.out) hb); replace HO410 := Aside0.mk (Kd.R_below (kR_ HO410.out) hb); replace HO416 := Aside0.mk (Kd.R_below (kR_ HO416.out) hb); replace HO419 := Aside0.mk (Kd.R_below (kR_ HO419.out) hb); replace HO425 := Aside0.mk (Kd.R_below (kR_ HO425.out) hb); replace HO428 := Aside0.mk (Kd.Q_below (by (with_reducible repeat (first | apply Kd.Q_alloc | apply Kd.Q_drewN | apply Kd.Q_drew)); exact HO428.out) hb); replace BK411 := (bbA_ BK411 hb); replace BK420 := (bbA_ BK420 hb); replace HB := (bs_ HB hb); (try clear hb); (try clear hb2); (try clear hk); (try clear hi)
          have q44 : ((t401.length : Int) : Int) ≤ ((t414.length : Int) : Int) := of_decide_eq_true (by first | (with_reducible assumption) | assumption)
          obtain ⟨i044, hi044, _, hsz44, _⟩ := info_parts info5
          have hroom44 : t414.length ≤ co30 := (Kd.R_reads' HO416.out).2.1
          have hC44 : Kd.C (Kd.int .u8) _ Ao30 t414.length t414 := (Kd.R_reads' HO416.out).2.2
          have hcut44 := cut_to (P := Try.prog) 22 5 .i64 Try.underlying22 hi044 Ao30 t414.length co30 (t401.length : Int) (of_decide_eq_true (by first | (with_reducible assumption) | assumption)) q44 hroom44
          have hr44 := Kd.C_take (m := ((t401.length : Int) : Int).toNat) hC44 (by omega)
          have hy44 : y433.length = ((t401.length : Int) : Int).toNat := (by rw [Ny433.out, List.length_take]; omega)
          rw [← Ny433.out] at hr44
          rw [← hy44] at hcut44
          have HR436 := Aside0.mk hr44
          have HC436 := Aside0.mk (show y433.length ≤ co30 from by omega)
          clear hr44 hC44 hroom44 hi044 hsz44; have KY44 := Aside0.mk hy44; clear hy44
          have KL44 := Aside0.mk (show ((t401.length : Int) : Int).toNat ≤ t414.length from by omega)
          replace q44 := eq_true q44
          refine hK.out _ _ ⟨bc_ BK420 0, bc_ BK420 1, bc_ BK420 2, bc_ BK420 3, bc_ BK411 0, bc_ BK411 1, bc_ BK411 2, bc_ BK411 3⟩ (fun hHeld => ?_)
          clear hK K; refine nm_ 45 ?_; refine pu_ (i := 2) (N := some 46) HT_ ?_; refine pu_ (i := 3) (N := some 47) HT_ ?_; refine pu_ (i := 5) (N := some 49) HT_ ?_; refine tk_ (i := 4) (N := some 48) HT_ HW_ hHeld ?_; refine tk_ (i := 6) (N := some 50) HT_ HW_ hHeld ?_; refine pu_ (i := 7) (N := some 51) HT_ ?_; refine pu_ (i := 8) (N := some 52) HT_ ?_; refine pu_ (i := 9) (N := some 53) HT_ ?_; refine pu_ (i := 10) (N := some 54) HT_ ?_; refine pu_ (i := 11) (N := some 55) HT_ ?_; refine pu_ (i := 13) (N := some 57) HT_ ?_; refine tk_ (i := 12) (N := some 56) HT_ HW_ hHeld ?_; refine tk_ (i := 14) (N := some 58) HT_ HW_ hHeld ?_; refine pu_ (i := 15) (N := some 59) HT_ ?_; refine pu_ (i := 16) (N := some 60) HT_ ?_; refine pu_ (i := 17) (N := some 61) HT_ ?_; refine pu_ (i := 18) (N := some 62) HT_ ?_; refine pu_ (i := 19) (N := some 63) HT_ ?_; refine pu_ (i := 21) (N := some 65) HT_ ?_; refine pu_ (i := 25) (N := some 69) HT_ ?_; refine tk_ (i := 20) (N := some 64) HT_ HW_ hHeld ?_; refine tk_ (i := 22) (N := some 66) HT_ HW_ hHeld ?_; refine pu_ (i := 23) (N := some 67) HT_ ?_; refine pu_ (i := 24) (N := some 68) HT_ ?_; refine tk_ (i := 26) (N := some 70) HT_ HW_ hHeld ?_
          refine on_ (i := 27) (N := some 71) HT_ (fun K hK => ?_)
          refine goes_ Try.func15 (by kernel_rfl) rfl #[.slice Ao30 y433.length co30, .slice Ao23 t401.length co23] (by rfl) rfl rfl ar_ ?_
          with_reducible refine (laws_sameBytes.calls _ _ y433 _ _ t401 true _ ?side1 ?side2 ?side3 ?side4 A16.out).mono ?_
          (case side1 => exact kC_ (by repeat (first | (with_reducible exact HR436.out) | (with_reducible exact Kd.C_drewN HR436.out _) | (with_reducible refine Kd.C_alloc ?_ _) | (with_reducible refine Kd.C_drewN ?_ _) | (with_reducible refine Kd.C_drew ?_) | exact HR436.out)))
          (case side2 => exact HC436.out)
          (case side3 => exact kC_ (Kd.R_reads' HO403.out).2.2)
          (case side4 => exact (Kd.R_reads' HO403.out).2.1)
          rintro e w' ⟨rfl, ⟨nd, rfl⟩⟩
          refine ⟨_, rfl, ?_⟩
          refine hK.out _ _ ⟨bc_ BK420 0, bc_ BK420 1, bc_ BK420 2, bc_ BK420 3, bc_ BK411 0, bc_ BK411 1, bc_ BK411 2, bc_ BK411 3⟩ (fun hHeld => ?_)
          clear hK K; refine nm_ 71 ?_; refine pu_ (i := 28) (N := some 72) HT_ ?_; refine pu_ (i := 29) (N := some 73) HT_ ?_; refine pu_ (i := 31) (N := some 75) HT_ ?_; refine pu_ (i := 32) (N := some 76) HT_ ?_; refine tk_ (i := 30) (N := some 74) HT_ HW_ hHeld ?_; refine tk_ (i := 34) (N := some 78) HT_ HW_ hHeld ?_
          refine on_ (i := 33) (N := some 77) HT_ (fun K hK => ?_)
          refine goes_ Try.func27 (by kernel_rfl) rfl #[.agg #[.int .i64 t412, .int .i64 t413, .slice Ao30 t414.length co30, .slice Ao31 t417.length co31], .int .i64 t407, .slice Ao25 t408.length co25] (by rfl) rfl rfl ar_ ?_
          with_reducible refine (impl_EarHear.calls k t412 t413 _ _ t414 _ _ t417 t407 _ _ t408 t438 t439 t440 t443 _ ?side1 ?side2 ?side3 ?side4 ?side5 ?side6 A18.out).mono ?_
          (case side1 => exact kC_ (Kd.R_reads' HO416.out).2.2)
          (case side2 => exact (Kd.R_reads' HO416.out).2.1)
          (case side3 => exact kC_ (Kd.R_reads' HO419.out).2.2)
          (case side4 => exact (Kd.R_reads' HO419.out).2.1)
          (case side5 => exact kC_ (Kd.R_reads' HO410.out).2.2)
          (case side6 => exact (Kd.R_reads' HO410.out).2.1)
          rintro e w45 ⟨v441, v444, rfl, ho0, ho1, hb⟩
          refine ⟨_, rfl, ?_⟩
          have HO442 := Aside0.mk (Kd.R_lower (Kd.R_new' (Kd.R_new' (Kd.R_new' (Kd.R_new' ho0 (Kd.R_lt (kR_ HO403.out))) (Kd.R_lt (kR_ HO410.out))) (Kd.R_lt (kR_ HO416.out))) (Kd.R_lt (kR_ HO425.out))) (below_size (hbA_ HB.out))); replace HO403 := Aside0.mk (Kd.R_elder' (kR_ HO403.out) (Kd.R_base ho0) hb); replace HO410 := Aside0.mk (Kd.R_elder' (kR_ HO410.out) (Kd.R_base ho0) hb); replace HO416 := Aside0.mk (Kd.R_elder' (kR_ HO416.out) (Kd.R_base ho0) hb); replace HO425 := Aside0.mk (Kd.R_elder' (kR_ HO425.out) (Kd.R_base ho0) hb); have HO445 := Aside0.mk (Kd.R_lower (Kd.R_new' (Kd.R_new' (Kd.R_new' ho1 (Kd.Q_lt (by (with_reducible repeat (first | apply Kd.Q_alloc | apply Kd.Q_drewN | apply Kd.Q_drew)); exact HO406.out))) (Kd.R_lt (kR_ HO419.out))) (Kd.Q_lt (by (with_reducible repeat (first | apply Kd.Q_alloc | apply Kd.Q_drewN | apply Kd.Q_drew)); exact HO428.out))) (below_size (hbA_ HB.out))); replace HO406 := Aside0.mk (Kd.Q_elder' (by (with_reducible repeat (first | apply Kd.Q_alloc | apply Kd.Q_drewN | apply Kd.Q_drew)); exact HO406.out) (Kd.R_base ho1) hb); replace HO419 := Aside0.mk (Kd.R_elder' (kR_ HO419.out) (Kd.R_base ho1) hb); replace HO428 := Aside0.mk (Kd.Q_elder' (by (with_reducible repeat (first | apply Kd.Q_alloc | apply Kd.Q_drewN | apply Kd.Q_drew)); exact HO428.out) (Kd.R_base ho1) hb); replace BK411 := (bbA_ BK411 hb); replace BK420 := (bbA_ BK420 hb); replace HR436 := Aside0.mk (Kd.C_below (by repeat (first | (with_reducible exact HR436.out) | (with_reducible exact Kd.C_drewN HR436.out _) | (with_reducible refine Kd.C_alloc ?_ _) | (with_reducible refine Kd.C_drewN ?_ _) | (with_reducible refine Kd.C_drew ?_) | exact HR436.out)) hb); replace HB := (bs_ HB hb); (try clear hb); (try clear hb2); (try clear hk); (try clear hi); (try clear ho0); (try clear ho1)
          obtain ⟨Ao46, co46, eo46⟩ := Kd.R_slice HO442.out
          (first | subst eo46 | (injection eo46 with f1_ f2_ f3_; have f4_ := f1_.symm; have f5_ := f3_.symm; clear f1_ f2_ f3_; subst f4_; subst f5_))
          obtain ⟨Ao47, co47, eo47⟩ := Kd.R_slice HO445.out
          (first | subst eo47 | (injection eo47 with f1_ f2_ f3_; have f4_ := f1_.symm; have f5_ := f3_.symm; clear f1_ f2_ f3_; subst f4_; subst f5_))
          refine hK.out _ _ ⟨bc_ BK420 0, bc_ BK420 1, bc_ BK420 2, bc_ BK420 3, bc_ BK411 0, bc_ BK411 1, bc_ BK411 2, bc_ BK411 3⟩ (fun hHeld => ?_)
          clear hK K; refine nm_ 77 ?_
          refine on_ (i := 35) (N := some 79) HT_ (fun K hK => ?_)
          refine goes_ Try.func34 (by kernel_rfl) rfl #[.agg #[.int .i64 t438, .int .i64 t439, .slice Ao46 t440.length co46, .slice Ao47 t443.length co47], .agg #[.int .i64 t412, .int .i64 t413, .slice Ao30 t414.length co30, .slice Ao31 t417.length co31]] (by rfl) rfl rfl ar_ ?_
          with_reducible refine (laws_sameEar.calls k t438 t439 _ _ t440 _ _ t443 t412 t413 _ _ t414 _ _ t417 t446 _ ?side1 ?side2 ?side3 ?side4 ?side5 ?side6 ?side7 ?side8 A19.out).mono ?_
          (case side1 => exact kC_ (Kd.R_reads' HO442.out).2.2)
          (case side2 => exact (Kd.R_reads' HO442.out).2.1)
          (case side3 => exact kC_ (Kd.R_reads' HO445.out).2.2)
          (case side4 => exact (Kd.R_reads' HO445.out).2.1)
          (case side5 => exact kC_ (Kd.R_reads' HO416.out).2.2)
          (case side6 => exact (Kd.R_reads' HO416.out).2.1)
          (case side7 => exact kC_ (Kd.R_reads' HO419.out).2.2)
          (case side8 => exact (Kd.R_reads' HO419.out).2.1)
          rintro e w48 ⟨rfl, hb⟩
          refine ⟨_, rfl, ?_⟩
          replace HO403 := Aside0.mk (Kd.R_below (kR_ HO403.out) hb); replace HO406 := Aside0.mk (Kd.Q_below (by (with_reducible repeat (first | apply Kd.Q_alloc | apply Kd.Q_drewN | apply Kd.Q_drew)); exact HO406.out) hb); replace HO410 := Aside0.mk (Kd.R_below (kR_ HO410.out) hb); replace HO416 := Aside0.mk (Kd.R_below (kR_ HO416.out) hb); replace HO419 := Aside0.mk (Kd.R_below (kR_ HO419.out) hb); replace HO425 := Aside0.mk (Kd.R_below (kR_ HO425.out) hb); replace HO428 := Aside0.mk (Kd.Q_below (by (with_reducible repeat (first | apply Kd.Q_alloc | apply Kd.Q_drewN | apply Kd.Q_drew)); exact HO428.out) hb); replace HO442 := Aside0.mk (Kd.R_below (kR_ HO442.out) hb); replace HO445 := Aside0.mk (Kd.R_below (kR_ HO445.out) hb); replace BK411 := (bbA_ BK411 hb); replace BK420 := (bbA_ BK420 hb); replace HR436 := Aside0.mk (Kd.C_below (by repeat (first | (with_reducible exact HR436.out) | (with_reducible exact Kd.C_drewN HR436.out _) | (with_reducible refine Kd.C_alloc ?_ _) | (with_reducible refine Kd.C_drewN ?_ _) | (with_reducible refine Kd.C_drew ?_) | exact HR436.out)) hb); replace HB := (bs_ HB hb); (try clear hb); (try clear hb2); (try clear hk); (try clear hi)
          refine hK.out _ _ ⟨bc_ BK420 0, bc_ BK420 1, bc_ BK420 2, bc_ BK420 3, bc_ BK411 0, bc_ BK411 1, bc_ BK411 2, bc_ BK411 3⟩ (fun hHeld => ?_)
          clear hK K; refine nm_ 79 ?_; refine pu_ (i := 36) (N := some 80) HT_ ?_; refine pu_ (i := 37) (N := some 2) HT_ ?_
          refine done_ (done_of HT_.out (by kernel_rfl)) ?_
          try go_wp2
          go_ret
          exact ⟨by first | rfl | (simp [errW_none, errW_some] <;> rfl) | (simp [*, errW_none, errW_some] <;> rfl), hbA_ HB.out⟩
         ·replace c17 := Bool.eq_false_iff.mpr c17
          subst c17
          rw [if_neg (show ¬ (false = true) by decide)] at H
          exact absurd (Option.some.inj H) (by rw [HLW.out]; exact Bool.false_ne_true)
        ·rw [if_neg c15] at H
         exact absurd H (by simp)
       ·rw [if_neg c14] at H
        exact absurd H (by simp)
      ·rw [if_neg c13] at H
       have c13b0 : ((wrap64 ((t414.length : Int) - (t401.length : Int))) == (wrap64 (t412 - t399))) = false := beq_eq_false_iff_ne.mpr c13
       have c13b1 : ((wrap64 ((t414.length : Int) - (t401.length : Int))) != (wrap64 (t412 - t399))) = true := bne_iff_ne.mpr c13
       exact absurd (Option.some.inj H) (by rw [HLW.out]; exact Bool.false_ne_true)
     ·rw [if_neg c12] at H
      have c12b0 : decide (t399 ≤ t412) = false := decide_eq_false c12
      clear c12
      exact absurd (Option.some.inj H) (by rw [HLW.out]; exact Bool.false_ne_true)
    ·replace c11 := Bool.eq_false_iff.mpr c11
     subst c11
     rw [if_neg (show ¬ (false = true) by decide)] at H
     exact absurd (Option.some.inj H) (by rw [HLW.out]; exact Bool.false_ne_true)
   ·replace c9 := Bool.eq_false_iff.mpr c9
    subst c9
    rw [if_neg (show ¬ (false = true) by decide)] at H
    by_cases c49 : t413 = 0
    ·rw [if_pos c49] at H
     have c49b0 : (t413 == 0) = true := beq_iff_eq.mpr c49
     have c49b1 : (t413 != 0) = false := bne_eq_false_iff_eq.mpr c49
     clear c49
     replace H := Option.bind_eq_some_iff.mp H
     obtain ⟨t431, A500, H⟩ := H
     (try dsimp only at H)
     have A50 := Aside0.mk A500; clear A500
     obtain rfl := Option.some.inj H
     go_enter Try.func6, Try.ntmps6
     try go_wp2_with (first | ((with_reducible refine gate_callee (f := 33) rfl ?_); refine goesL_ (some 13) rfl rfl Try.func33 (by kernel_rfl) rfl #[.slice A0 l0.length c0] rfl ar_ ?_; (with_reducible refine (spec_DrawEarHear.calls k _ _ l0 t399 t400 t401 t404 t407 t408 _ ?side1 ?side2 A3.out).mono ?_); (case side1 => exact kC_ HR0.out); (case side2 => exact HC0.out); rintro e w51 ⟨v402, v405, v409, rfl, ho0, ho1, ho2, hb⟩; refine ⟨_, rfl, ?_⟩; have HO403 := Aside0.mk (Kd.R_lower ho0 (below_size (hbA_ HB.out))); have HO406 := Aside0.mk (Kd.Q_lower ho1 (below_size (hbA_ HB.out))); have HO410 := Aside0.mk (Kd.R_lower ho2 (below_size (hbA_ HB.out))); replace HB := (bs_ HB hb); (try clear hb); (try clear hb2); (try clear hk); (try clear hi); (try clear ho0); (try clear ho1); (try clear ho2)) | ((with_reducible refine gate_dst (N := 3) rfl ?_); (try (refine gate_guard (by rfl) ?_; dsimp only)); refine box_ (N := 3) (cs := #[.int .i64 0, .int .i64 0, .slice none 0 0, .slice none 0 0]) (t := 48) (fun gb411 hg w52 hbox hb => ?_); replace HO403 := Aside0.mk (Kd.R_below (kR_ HO403.out) hb); replace HO406 := Aside0.mk (Kd.Q_below (by (with_reducible repeat (first | apply Kd.Q_alloc | apply Kd.Q_drewN | apply Kd.Q_drew)); exact HO406.out) hb); replace HO410 := Aside0.mk (Kd.R_below (kR_ HO410.out) hb); have BK411 := Aside0.mk (hbox); have GW411 := ge_ hg HB; have GE411 := ge_ hg HB; replace HB := (bs_ HB hb); clear hb hbox hg; have Z53 := zz4 BK411; obtain ⟨Ao54, co54, eo54⟩ := Kd.R_slice HO403.out; subst eo54; obtain ⟨Ao55, co55, eo55, _⟩ := Kd.Q_slice HO406.out; subst eo55; obtain ⟨Ao56, co56, eo56⟩ := Kd.R_slice HO410.out; subst eo56) | ((with_reducible refine gate_callee (f := 27) rfl ?_); refine goesL_ (some 20) rfl rfl Try.func27 (by kernel_rfl) rfl #[.agg #[.int .i64 t399, .int .i64 t400, .slice Ao54 t401.length co54, .slice Ao55 t404.length co55], .int .i64 t407, .slice Ao56 t408.length co56] rfl ar_ ?_; (with_reducible refine (impl_EarHear.calls k t399 t400 _ _ t401 _ _ t404 t407 _ _ t408 t412 t413 t414 t417 _ ?side1 ?side2 ?side3 ?side4 ?side5 ?side6 A4.out).mono ?_); (case side1 => refine (Kd.R_reads' (e := 5) (base := w.heap.size) (ok := fun k_ => some k_ ≠ (.slice Ao56 t408.length co56 : Value).ownBlock) (n := t401.length) (c := co54) ?_).2.2; exact (by refine kR_ ?_; exact (rfm_ ((Kd.R_types HO403.out BK411.out (by decide))) (fun _ h_ => op1_ h_)))); (case side2 => exact (Kd.R_reads' HO403.out).2.1); (case side3 => refine (Kd.Q_reads' (e := 96) (base := w.heap.size) (ok := fun k_ => True) (n := t404.length) (c := co55) ?_).2.2; exact (by (with_reducible repeat (first | apply Kd.Q_alloc | apply Kd.Q_drewN | apply Kd.Q_drew)); exact (Kd.Q_mono (Kd.Q_far (p := ⟨gb411, 3, none⟩) (Kd.Q_far (p := ⟨gb411, 2, none⟩) (Kd.Q_far (p := ⟨gb411, 1, none⟩) (Kd.Q_far (p := ⟨gb411, 0, none⟩) (Kd.Q_types HO406.out BK411.out (by decide)) (fun _ hk => hk.2) (.int .i64 t399)) (fun _ hk => hk.2) (.int .i64 t400)) (fun _ hk => hk.2) (.slice Ao54 t401.length co54)) (fun _ hk => hk.2) (.slice Ao55 t404.length co55)) (fun _ h_ => op1_ h_)))); (case side4 => exact (Kd.Q_reads' HO406.out).2.1); (case side5 => refine (Kd.R_reads' (e := 5) (base := w.heap.size) (ok := fun k_ => some k_ ≠ (.slice Ao54 t401.length co54 : Value).ownBlock) (n := t408.length) (c := co56) ?_).2.2; exact (by refine kR_ ?_; exact (rfm_ ((Kd.R_types HO410.out BK411.out (by decide))) (fun _ h_ => op1_ h_)))); (case side6 => exact (Kd.R_reads' HO410.out).2.1); rintro e w57 ⟨v415, v418, rfl, ho0, ho1, hb⟩; refine ⟨_, rfl, ?_⟩; have HO416 := Aside0.mk (Kd.R_lower (Kd.R_new' (Kd.R_new' ho0 (Kd.R_lt (by refine kR_ ?_; exact (rfm_ ((Kd.R_types HO403.out BK411.out (by decide))) (fun _ h_ => op1_ h_))))) (Kd.R_lt (by refine kR_ ?_; exact (rfm_ ((Kd.R_types HO410.out BK411.out (by decide))) (fun _ h_ => op1_ h_))))) (below_size (hbA_ HB.out))); replace HO403 := Aside0.mk (Kd.R_elder' (by refine kR_ ?_; exact (rfm_ ((Kd.R_types HO403.out BK411.out (by decide))) (fun _ h_ => op1_ h_))) (Kd.R_base ho0) hb); replace HO410 := Aside0.mk (Kd.R_elder' (by refine kR_ ?_; exact (rfm_ ((Kd.R_types HO410.out BK411.out (by decide))) (fun _ h_ => op1_ h_))) (Kd.R_base ho0) hb); have HO419 := Aside0.mk (Kd.R_lower (Kd.R_new' ho1 (Kd.Q_lt (by (with_reducible repeat (first | apply Kd.Q_alloc | apply Kd.Q_drewN | apply Kd.Q_drew)); exact (Kd.Q_mono (Kd.Q_far (p := ⟨gb411, 3, none⟩) (Kd.Q_far (p := ⟨gb411, 2, none⟩) (Kd.Q_far (p := ⟨gb411, 1, none⟩) (Kd.Q_far (p := ⟨gb411, 0, none⟩) (Kd.Q_types HO406.out BK411.out (by decide)) (fun _ hk => hk.2) (.int .i64 t399)) (fun _ hk => hk.2) (.int .i64 t400)) (fun _ hk => hk.2) (.slice Ao54 t401.length co54)) (fun _ hk => hk.2) (.slice Ao55 t404.length co55)) (fun _ h_ => op1_ h_))))) (below_size (hbA_ HB.out))); replace HO406 := Aside0.mk (Kd.Q_elder' (by (with_reducible repeat (first | apply Kd.Q_alloc | apply Kd.Q_drewN | apply Kd.Q_drew)); exact (Kd.Q_mono (Kd.Q_far (p := ⟨gb411, 3, none⟩) (Kd.Q_far (p := ⟨gb411, 2, none⟩) (Kd.Q_far (p := ⟨gb411, 1, none⟩) (Kd.Q_far (p := ⟨gb411, 0, none⟩) (Kd.Q_types HO406.out BK411.out (by decide)) (fun _ hk => hk.2) (.int .i64 t399)) (fun _ hk => hk.2) (.int .i64 t400)) (fun _ hk => hk.2) (.slice Ao54 t401.length co54)) (fun _ hk => hk.2) (.slice Ao55 t404.length co55)) (fun _ h_ => op1_ h_))) (Kd.R_base ho1) hb); replace BK411 := Aside0.mk (blk_below (g := gb411) (o := .cells #[.int .i64 t399, .int .i64 t400, .slice Ao54 t401.length co54, .slice Ao55 t404.length co55] 48 (0, 0)) (by refine kb_ ?_; refine pz4 (cs := #[.int .i64 0, .int .i64 0, .slice none 0 0, .slice none 0 0]) ?_; refine kb_ ?_; exact BK411.out) hb); replace HB := (bs_ HB hb); (try clear hb); (try clear hb2); (try clear hk); (try clear hi); (try clear ho0); (try clear ho1)) | ((with_reducible refine gate_dst (N := 6) rfl ?_); (try (refine gate_guard (by rfl) ?_; dsimp only)); refine box_ (N := 6) (cs := #[.int .i64 0, .int .i64 0, .slice none 0 0, .slice none 0 0]) (t := 48) (fun gb420 hg w58 hbox hb => ?_); replace HO403 := Aside0.mk (Kd.R_below (kR_ HO403.out) hb); replace HO406 := Aside0.mk (Kd.Q_below (by (with_reducible repeat (first | apply Kd.Q_alloc | apply Kd.Q_drewN | apply Kd.Q_drew)); exact HO406.out) hb); replace HO410 := Aside0.mk (Kd.R_below (kR_ HO410.out) hb); replace HO416 := Aside0.mk (Kd.R_below (kR_ HO416.out) hb); replace HO419 := Aside0.mk (Kd.R_below (kR_ HO419.out) hb); have BK420 := Aside0.mk (hbox); have GW420 := ge_ hg HB; have GE420 := ge_ hg HB; replace HB := (bs_ HB hb); have NB411_420 := nl_ hg BK411; have NB420_411 := ng_ hg BK411; replace BK411 := (bbA_ BK411 hb); clear hb hbox hg; have hnb59 := NB420_411.out; have hnc59 := NB411_420.out; have Z60 := zz4 BK420; obtain ⟨Ao61, co61, eo61⟩ := Kd.R_slice HO416.out; subst eo61; obtain ⟨Ao62, co62, eo62⟩ := Kd.R_slice HO419.out; subst eo62))
     obtain ⟨w63, h_w63⟩ : ∃ w_, ((((w58.setCell ⟨gb420, 0, none⟩ (.int .i64 t412)).setCell ⟨gb420, 1, none⟩ (.int .i64 t413)).setCell ⟨gb420, 2, none⟩ (.slice Ao61 t414.length co61)).setCell ⟨gb420, 3, none⟩ (.slice Ao62 t417.length co62)) = w_ := ⟨_, rfl⟩
     have n0_ : Aside0 (Kd.R (Kd.int .u8) 5 w63 w.heap.size (fun k_ => some k_ ≠ (.slice Ao56 t408.length co56 : Value).ownBlock ∧ some k_ ≠ (.slice Ao61 t414.length co61 : Value).ownBlock) (.slice Ao54 t401.length co54) t401) := ⟨by subst h_w63; refine kR_ ?_; exact rfm_ ((Kd.R_types HO403.out BK420.out (by decide))) (fun _ hk => ⟨hk.1.1, hk.1.2⟩)⟩
     have n1_ : Aside0 (Kd.Q k96 96 w63 w.heap.size (fun k_ => some k_ ≠ (.slice Ao62 t417.length co62 : Value).ownBlock) (.slice Ao55 t404.length co55) t404) := ⟨by subst h_w63; (with_reducible repeat (first | apply Kd.Q_alloc | apply Kd.Q_drewN | apply Kd.Q_drew)); exact Kd.Q_mono (Kd.Q_far (p := ⟨gb420, 3, none⟩) (Kd.Q_far (p := ⟨gb420, 2, none⟩) (Kd.Q_far (p := ⟨gb420, 1, none⟩) (Kd.Q_far (p := ⟨gb420, 0, none⟩) (Kd.Q_types HO406.out BK420.out (by decide)) (fun _ hk => hk.2) (.int .i64 t412)) (fun _ hk => hk.2) (.int .i64 t413)) (fun _ hk => hk.2) (.slice Ao61 t414.length co61)) (fun _ hk => hk.2) (.slice Ao62 t417.length co62)) (fun _ hk => hk.1.2)⟩
     have n2_ : Aside0 (Kd.R (Kd.int .u8) 5 w63 w.heap.size (fun k_ => some k_ ≠ (.slice Ao54 t401.length co54 : Value).ownBlock ∧ some k_ ≠ (.slice Ao61 t414.length co61 : Value).ownBlock) (.slice Ao56 t408.length co56) t408) := ⟨by subst h_w63; refine kR_ ?_; exact rfm_ ((Kd.R_types HO410.out BK420.out (by decide))) (fun _ hk => ⟨hk.1.1, hk.1.2⟩)⟩
     have n3_ : Aside0 (Kd.R (Kd.int .u8) 5 w63 w.heap.size (fun k_ => some k_ ≠ (.slice Ao54 t401.length co54 : Value).ownBlock ∧ some k_ ≠ (.slice Ao56 t408.length co56 : Value).ownBlock) (.slice Ao61 t414.length co61) t414) := ⟨by subst h_w63; refine kR_ ?_; exact rfm_ ((Kd.R_types HO416.out BK420.out (by decide))) (fun _ hk => ⟨hk.1.1.2, hk.1.2⟩)⟩
     have n4_ : Aside0 (Kd.R k96 96 w63 w.heap.size (fun k_ => some k_ ≠ (.slice Ao55 t404.length co55 : Value).ownBlock) (.slice Ao62 t417.length co62) t417) := ⟨by subst h_w63; refine kR_ ?_; exact rfm_ ((Kd.R_types HO419.out BK420.out (by decide))) (fun _ hk => hk.1.2)⟩
     have n5_ : Aside0 (w63.heap[gb411]? = some (.cells #[.int .i64 t399, .int .i64 t400, .slice Ao54 t401.length co54, .slice Ao55 t404.length co55] 48 (0, 0))) := ⟨by subst h_w63; exact kf_ BK411.out⟩
     have n6_ : Aside0 (w63.heap[gb420]? = some (.cells #[.int .i64 t412, .int .i64 t413, .slice Ao61 t414.length co61, .slice Ao62 t417.length co62] 48 (0, 0))) := ⟨by subst h_w63; refine kb_ ?_; refine pz4 (cs := #[.int .i64 0, .int .i64 0, .slice none 0 0, .slice none 0 0]) ?_; refine kb_ ?_; exact BK420.out⟩
     have n7_ : Aside0 (Below w.heap.size w w63) := ⟨by subst h_w63; exact hbA_ HB.out⟩
     (try clear HO403); (try clear HO406); (try clear HO410); (try clear HO416); (try clear HO419); (try clear BK411); (try clear BK420); (try clear HB)
     (try rw [h_w63]); clear h_w63
     have HO403 := n0_; have HO406 := n1_; have HO410 := n2_; have HO416 := n3_; have HO419 := n4_; have BK411 := n5_; have BK420 := n6_; have HB := n7_; clear n0_ n1_ n2_ n3_ n4_ n5_ n6_ n7_; replace HO403 := Aside0.mk (Kd.R_drew HO403.out); replace HO406 := Aside0.mk (Kd.Q_drew HO406.out); replace HO410 := Aside0.mk (Kd.R_drew HO410.out); replace HO416 := Aside0.mk (Kd.R_drew HO416.out); replace HO419 := Aside0.mk (Kd.R_drew HO419.out); replace BK411 := Aside0.mk (blk_drew BK411.out); replace BK420 := Aside0.mk (blk_drew BK420.out); replace HB := (bd_ HB)
     refine start_ (n := 7) (S := fun w' => w'.cell? ⟨gb420, 0, none⟩ = some (.int .i64 t412) ∧ w'.cell? ⟨gb420, 1, none⟩ = some (.int .i64 t413) ∧ w'.cell? ⟨gb420, 2, none⟩ = some (.slice Ao61 t414.length co61) ∧ w'.cell? ⟨gb420, 3, none⟩ = some (.slice Ao62 t417.length co62) ∧ w'.cell? ⟨gb411, 0, none⟩ = some (.int .i64 t399) ∧ w'.cell? ⟨gb411, 1, none⟩ = some (.int .i64 t400) ∧ w'.cell? ⟨gb411, 2, none⟩ = some (.slice Ao54 t401.length co54) ∧ w'.cell? ⟨gb411, 3, none⟩ = some (.slice Ao55 t404.length co55)) (ds := []) #[false, false, false, false, false, false, false] (by kernel_rfl) rfl rfl ⟨bc_ BK420 0, bc_ BK420 1, bc_ BK420 2, bc_ BK420 3, bc_ BK411 0, bc_ BK411 1, bc_ BK411 2, bc_ BK411 3⟩ (fun hHeld => ?_)
     generalize w63.drew = w64 at HO403 HO406 HO410 HO416 HO419 BK411 BK420 HB hHeld ⊢
     refine pure_ (i := 2) (N := some 23) (v := ?_) (a' := ?_) #[false, false, true, false, false, false, false] rfl rfl (by kernel_rfl) (fun _ _ _ h => h) (Or.inl ⟨by rfl, ?_⟩) ?_ ?_
     rotate_left
     ·intro w'
      go_simp
      with_reducible rfl
     rotate_left
     ·simp only [Act.put, List.setIfInBounds_toArray, List.set_cons_zero, List.set_cons_succ, i64_w, i32_w]
      rfl
     refine pure_ (i := 3) (N := some 24) (v := ?_) (a' := ?_) #[false, false, true, true, false, false, false] rfl rfl (by kernel_rfl) (fun _ _ _ h => h) (Or.inl ⟨by rfl, ?_⟩) ?_ ?_
     rotate_left
     ·intro w'
      go_simp
      with_reducible rfl
     rotate_left
     ·simp only [Act.put, List.setIfInBounds_toArray, List.set_cons_zero, List.set_cons_succ, i64_w, i32_w]
      rfl
     refine take_ (i := 0) (N := some 21) (v := ?_) (a' := ?_) #[true, false, true, true, false, false, false] rfl rfl (by kernel_rfl) (fun _ _ _ h => h) (Or.inl ⟨by rfl, ?_⟩) hHeld ?_ ?_
     rotate_left
     ·rintro w' ⟨s0, s1, s2, s3, s4, s5, s6, s7⟩
      go_simp
      with_reducible rfl
     rotate_left
     ·simp only [Act.put, List.setIfInBounds_toArray, List.set_cons_zero, List.set_cons_succ, i64_w, i32_w]
      rfl
     refine take_ (i := 1) (N := some 22) (v := ?_) (a' := ?_) #[true, true, true, true, false, false, false] rfl rfl (by kernel_rfl) (fun _ _ _ h => h) (Or.inl ⟨by rfl, ?_⟩) hHeld ?_ ?_
     rotate_left
     ·rintro w' ⟨s0, s1, s2, s3, s4, s5, s6, s7⟩
      go_simp
      with_reducible rfl
     rotate_left
     ·simp only [Act.put, List.setIfInBounds_toArray, List.set_cons_zero, List.set_cons_succ, i64_w, i32_w]
      rfl
     refine one_ (i := 4) (N := some 25) #[true, true, true, true, true, false, false] rfl rfl (by kernel_rfl) (by decide) (fun K hK => ?_)
     refine goes_ Try.func24 (by kernel_rfl) rfl #[.agg #[.int .i64 t399, .int .i64 t400, .slice Ao54 t401.length co54, .slice Ao55 t404.length co55], .int .i64 t407, .slice Ao56 t408.length co56] (by rfl) rfl rfl ar_ ?_
     with_reducible refine (spec_EarHear.calls k t399 t400 _ _ t401 _ _ t404 t407 _ _ t408 t421 t422 t423 t426 _ ?side1 ?side2 ?side3 ?side4 ?side5 ?side6 A5.out).mono ?_
     (case side1 => exact kC_ (Kd.R_reads' HO403.out).2.2)
     (case side2 => exact (Kd.R_reads' HO403.out).2.1)
     (case side3 => exact kC_ (Kd.Q_reads' HO406.out).2.2)
     (case side4 => exact (Kd.Q_reads' HO406.out).2.1)
     (case side5 => exact kC_ (Kd.R_reads' HO410.out).2.2)
     (case side6 => exact (Kd.R_reads' HO410.out).2.1)
     rintro e w65 ⟨v424, v427, rfl, ho0, ho1, hb⟩
     refine ⟨_, rfl, ?_⟩
     have HO425 := Aside0.mk (Kd.R_lower (Kd.R_new' (Kd.R_new' (Kd.R_new' ho0 (Kd.R_lt (kR_ HO403.out))) (Kd.R_lt (kR_ HO410.out))) (Kd.R_lt (kR_ HO416.out))) (below_size (hbA_ HB.out))); replace HO403 := Aside0.mk (Kd.R_elder' (kR_ HO403.out) (Kd.R_base ho0) hb); replace HO410 := Aside0.mk (Kd.R_elder' (kR_ HO410.out) (Kd.R_base ho0) hb); replace HO416 := Aside0.mk (Kd.R_elder' (kR_ HO416.out) (Kd.R_base ho0) hb); have HO428 := Aside0.mk (Kd.Q_lower (Kd.Q_new' (Kd.Q_new' ho1 (Kd.Q_lt (by (with_reducible repeat (first | apply Kd.Q_alloc | apply Kd.Q_drewN | apply Kd.Q_drew)); exact HO406.out))) (Kd.R_lt (kR_ HO419.out))) (below_size (hbA_ HB.out))); replace HO406 := Aside0.mk (Kd.Q_elder' (by (with_reducible repeat (first | apply Kd.Q_alloc | apply Kd.Q_drewN | apply Kd.Q_drew)); exact HO406.out) (Kd.Q_base ho1) hb); replace HO419 := Aside0.mk (Kd.R_elder' (kR_ HO419.out) (Kd.Q_base ho1) hb); replace BK411 := (bbA_ BK411 hb); replace BK420 := (bbA_ BK420 hb); replace HB := (bs_ HB hb); (try clear hb); (try clear hb2); (try clear hk); (try clear hi); (try clear ho0); (try clear ho1)
     obtain ⟨Ao66, co66, eo66⟩ := Kd.R_slice HO425.out
     (first | subst eo66 | (injection eo66 with f1_ f2_ f3_; have f4_ := f1_.symm; have f5_ := f3_.symm; clear f1_ f2_ f3_; subst f4_; subst f5_))
     obtain ⟨Ao67, co67, eo67, _⟩ := Kd.Q_slice HO428.out
     (first | subst eo67 | (injection eo67 with f1_ f2_ f3_; have f4_ := f1_.symm; have f5_ := f3_.symm; clear f1_ f2_ f3_; subst f4_; subst f5_))
     refine hK.out _ _ ⟨bc_ BK420 0, bc_ BK420 1, bc_ BK420 2, bc_ BK420 3, bc_ BK411 0, bc_ BK411 1, bc_ BK411 2, bc_ BK411 3⟩ (fun hHeld => ?_)
     clear hK K; refine nm_ 25 ?_
     refine one_ (i := 5) (N := some 26) #[true, true, true, true, true, true, false] rfl rfl (by kernel_rfl) (by decide) (fun K hK => ?_)
     refine goes_ Try.func34 (by kernel_rfl) rfl #[.agg #[.int .i64 t412, .int .i64 t413, .slice Ao61 t414.length co61, .slice Ao62 t417.length co62], .agg #[.int .i64 t421, .int .i64 t422, .slice Ao66 t423.length co66, .slice Ao67 t426.length co67]] (by rfl) rfl rfl ar_ ?_
     with_reducible refine (laws_sameEar.calls k t412 t413 _ _ t414 _ _ t417 t421 t422 _ _ t423 _ _ t426 true _ ?side1 ?side2 ?side3 ?side4 ?side5 ?side6 ?side7 ?side8 A6.out).mono ?_
     (case side1 => exact kC_ (Kd.R_reads' HO416.out).2.2)
     (case side2 => exact (Kd.R_reads' HO416.out).2.1)
     (case side3 => exact kC_ (Kd.R_reads' HO419.out).2.2)
     (case side4 => exact (Kd.R_reads' HO419.out).2.1)
     (case side5 => exact kC_ (Kd.R_reads' HO425.out).2.2)
     (case side6 => exact (Kd.R_reads' HO425.out).2.1)
     (case side7 => exact kC_ (Kd.Q_reads' HO428.out).2.2)
     (case side8 => exact (Kd.Q_reads' HO428.out).2.1)
     rintro e w68 ⟨rfl, hb⟩
     refine ⟨_, rfl, ?_⟩
     replace HO403 := Aside0.mk (Kd.R_below (kR_ HO403.out) hb); replace HO406 := Aside0.mk (Kd.Q_below (by (with_reducible repeat (first | apply Kd.Q_alloc | apply Kd.Q_drewN | apply Kd.Q_drew)); exact HO406.out) hb); replace HO410 := Aside0.mk (Kd.R_below (kR_ HO410.out) hb); replace HO416 := Aside0.mk (Kd.R_below (kR_ HO416.out) hb); replace HO419 := Aside0.mk (Kd.R_below (kR_ HO419.out) hb); replace HO425 := Aside0.mk (Kd.R_below (kR_ HO425.out) hb); replace HO428 := Aside0.mk (Kd.Q_below (by (with_reducible repeat (first | apply Kd.Q_alloc | apply Kd.Q_drewN | apply Kd.Q_drew)); exact HO428.out) hb); replace BK411 := (bbA_ BK411 hb); replace BK420 := (bbA_ BK420 hb); replace HB := (bs_ HB hb); (try clear hb); (try clear hb2); (try clear hk); (try clear hi)
     refine hK.out _ _ ⟨bc_ BK420 0, bc_ BK420 1, bc_ BK420 2, bc_ BK420 3, bc_ BK411 0, bc_ BK411 1, bc_ BK411 2, bc_ BK411 3⟩ (fun hHeld => ?_)
     clear hK K; refine nm_ 26 ?_
     refine pure_ (i := 6) (N := some 27) (v := ?_) (a' := ?_) #[true, true, true, true, true, true, true] rfl rfl (by kernel_rfl) (fun _ _ _ h => h) (Or.inl ⟨by rfl, ?_⟩) ?_ ?_
     rotate_left
     ·intro w'
      go_simp
      with_reducible rfl
     rotate_left
     ·simp only [Act.put, List.setIfInBounds_toArray, List.set_cons_zero, List.set_cons_succ, i64_w, i32_w]
      rfl
     refine done_ (by kernel_rfl) ?_
     have Z69 := zz4 BK411
     try go_wp2_with (first | ((with_reducible refine gate_callee (f := 35) rfl ?_); refine goesL_ (some 29) rfl rfl Try.func35 (by kernel_rfl) rfl #[.agg #[.int .i64 t399, .int .i64 t400, .slice Ao54 t401.length co54, .slice Ao55 t404.length co55]] rfl ar_ ?_; (with_reducible refine (impl_EarOk.calls k t399 t400 _ _ t401 _ _ t404 false _ ?side1 ?side2 ?side3 ?side4 A8.out).mono ?_); (case side1 => exact kC_ (Kd.R_reads' HO403.out).2.2); (case side2 => exact (Kd.R_reads' HO403.out).2.1); (case side3 => exact kC_ (Kd.Q_reads' HO406.out).2.2); (case side4 => exact (Kd.Q_reads' HO406.out).2.1); rintro e w70 ⟨rfl, hb⟩; refine ⟨_, rfl, ?_⟩; replace HO403 := Aside0.mk (Kd.R_below (kR_ HO403.out) hb); replace HO406 := Aside0.mk (Kd.Q_below (by (with_reducible repeat (first | apply Kd.Q_alloc | apply Kd.Q_drewN | apply Kd.Q_drew)); exact HO406.out) hb); replace HO410 := Aside0.mk (Kd.R_below (kR_ HO410.out) hb); replace HO416 := Aside0.mk (Kd.R_below (kR_ HO416.out) hb); replace HO419 := Aside0.mk (Kd.R_below (kR_ HO419.out) hb); replace HO425 := Aside0.mk (Kd.R_below (kR_ HO425.out) hb); replace HO428 := Aside0.mk (Kd.Q_below (by (with_reducible repeat (first | apply Kd.Q_alloc | apply Kd.Q_drewN | apply Kd.Q_drew)); exact HO428.out) hb); replace BK411 := (bbA_ BK411 hb); replace BK420 := (bbA_ BK420 hb); replace HB := (bs_ HB hb); (try clear hb); (try clear hb2); (try clear hk); (try clear hi); have Z71 := zz4 BK420) | (go_at_call 13; (with_reducible refine (laws_alive.calls k  t431 _ A50.out).mono ?_); rintro e w72 ⟨rfl, hb⟩; replace HO403 := Aside0.mk (Kd.R_below (kR_ HO403.out) hb); replace HO406 := Aside0.mk (Kd.Q_below (by (with_reducible repeat (first | apply Kd.Q_alloc | apply Kd.Q_drewN | apply Kd.Q_drew)); exact HO406.out) hb); replace HO410 := Aside0.mk (Kd.R_below (kR_ HO410.out) hb); replace HO416 := Aside0.mk (Kd.R_below (kR_ HO416.out) hb); replace HO419 := Aside0.mk (Kd.R_below (kR_ HO419.out) hb); replace HO425 := Aside0.mk (Kd.R_below (kR_ HO425.out) hb); replace HO428 := Aside0.mk (Kd.Q_below (by (with_reducible repeat (first | apply Kd.Q_alloc | apply Kd.Q_drewN | apply Kd.Q_drew)); exact HO428.out) hb); replace BK411 := (bbA_ BK411 hb); replace BK420 := (bbA_ BK420 hb); replace HB := (bs_ HB hb); (try clear hb); (try clear hb2); (try clear hk); (try clear hi)))
     go_ret
     exact ⟨by first | rfl | (simp [errW_none, errW_some] <;> rfl) | (simp [*, errW_none, errW_some] <;> rfl), hbA_ HB.out⟩
    ·rw [if_neg c49] at H
     have c49b0 : (t413 == 0) = false := beq_eq_false_iff_ne.mpr c49
     have c49b1 : (t413 != 0) = true := bne_iff_ne.mpr c49
     exact absurd (Option.some.inj H) (by rw [HLW.out]; exact Bool.false_ne_true)
  ·replace c7 := Bool.eq_false_iff.mpr c7
   subst c7
   rw [if_neg (show ¬ (false = true) by decide)] at H
   exact absurd (Option.some.inj H) (by rw [HLW.out]; exact Bool.false_ne_true)
def laws_FnEarHear.Pure : Prop := ∀ (l0 : List Int), l0.length ≤ maxLen → l0.length * 1 ≤ 140737488351232 → (∀ x ∈ l0, (Lit.int .u8 x).wf = true) → ∃ k, laws_FnEarHear.f k l0 = some true
theorem laws_FnEarHear.walk (P : laws_FnEarHear.Pure) (a0 : Option Addr) (len0 cap0 : Nat) (z0 : List Int) (w : World) (w0 : (a0 = none ∧ len0 = 0 ∧ cap0 = 0 ∧ z0 = []) ∨ ∃ x, a0 = some x ∧ len0 ≤ cap0 ∧ cap0 ≤ maxLen ∧ z0.length = cap0 ∧ (∀ i, i < z0.length → w.cell? (x.add i) = some (.int .u8 (z0.getD i 0))) ∧ ∀ n ∈ z0, (Lit.int .u8 n).wf = true) (y0 : len0 * 1 ≤ 140737488351232) :
  Calls Try.prog 6 #[.slice a0 len0 cap0] w fun e w' => e = .returned (.bool true) ∧ Below w.heap.size w w' := by
 obtain ⟨l0, rfl, hr0, hm0, hw0, hc0⟩ := ReadsInt.ofRowC w0
 obtain ⟨k, h⟩ := P l0 hm0 y0 hw0
 refine (laws_FnEarHear.calls k _ _ l0 true w (Kd.C_of_reads (d := (0 : Int)) (h1 := fun _ => rfl) hr0) hc0 h rfl).mono ?_
 rintro e w' ⟨rfl, hd⟩
 exact ⟨rfl, hd⟩
end Go.Proofs.Ytbhofhdmbbipgaa.PFnEarHear
