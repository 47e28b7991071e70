/- Printed by wip/xp/xprint.sh out of the translation, for this claim: what each function answers, as a plain function, and that the machine does just that. No condition. -/
import Derived.Test.YtdoohdbfpnmndaaPFnNearHearx0
namespace Go.Proofs.Ytdoohdbfpnmndaa.PFnNearHear
open Go.RowKit Go.Proofs.YtdoohdbfpnmndaaW.PrintWords Go.Proofs.YtdoohdbfpnmndaaW.PrintLast Go.Proofs.YtdoohdbfpnmndaaW.PrintMore
attribute [local go_sem] max2_int min2_int max_two min_two max_three min_three max_four min_four   -- for this text's walks alone
set_option linter.unusedVariables false
set_option linter.unusedSimpArgs false
def spec_l1In.f (a0 : Int) (a1 : Int) (a2 : Int) : Option (Bool) := if a0 ≥ a1 then (some (decide (a0 ≤ a2))) else (some false)
set_option maxHeartbeats 8000000 in
set_option maxRecDepth 100000 in
theorem spec_l1In.calls (a0 : Int) (a1 : Int) (a2 : Int) (r : Bool) (w : World) (h : spec_l1In.f a0 a1 a2 = some r) :
  Calls Try.prog 33 #[.int .i64 a0, .int .i64 a1, .int .i64 a2] w fun e w' => e = .returned (.bool r) ∧ Drawn0 w w' := by
 have H : (if a0 ≥ a1 then (some (decide (a0 ≤ a2))) else (some false)) = some r := h
 clear h
 by_cases c4 : a0 ≥ a1
 ·rw [if_pos c4] at H
  have c4b0 : decide (a1 ≤ a0) = true := decide_eq_true c4
  clear c4
  obtain rfl := Option.some.inj H
  go_enter Try.func33, Try.ntmps33
  go_wp2
  go_ret
  exact ⟨by first | rfl | (simp; done) | (simp [*]; done), by repeat (first | exact Drawn0.refl _ | apply Drawn0.step)⟩
 ·rw [if_neg c4] at H
  have c4b0 : decide (a1 ≤ a0) = false := decide_eq_false c4
  clear c4
  obtain rfl := Option.some.inj H
  go_enter Try.func33, Try.ntmps33
  go_wp2
  go_ret
  exact ⟨by first | rfl | (simp; done) | (simp [*]; done), by repeat (first | exact Drawn0.refl _ | apply Drawn0.step)⟩
mutual
def spec_NearOk.l0 : Nat → Int → List (S63) → List (S65) → Option (Bool)
 | 0, _, _, _ => none
 | k + 1, x3, x102000, x102001 => if x3 < (x102000.length : Int) then (if 0 ≤ x3 then ((spec_l1In.f ((rd_T63 x102000 x3).f0) 0 65535).bind fun t104 => (if t104 = true then ((spec_l1In.f ((rd_T63 x102000 x3).f1) 0 254).bind fun t105 => (if t105 = true then ((spec_l1In.f ((rd_T63 x102000 x3).f2) 0 1000000).bind fun t106 => (spec_NearOk.j1 k x3 (!t106) x102000 x102001 ((rd_T63 x102000 x3).f0) ((rd_T63 x102000 x3).f1) ((rd_T63 x102000 x3).f2))) else (spec_NearOk.j1 k x3 true x102000 x102001 ((rd_T63 x102000 x3).f0) ((rd_T63 x102000 x3).f1) ((rd_T63 x102000 x3).f2)))) else (spec_NearOk.j1 k x3 true x102000 x102001 ((rd_T63 x102000 x3).f0) ((rd_T63 x102000 x3).f1) ((rd_T63 x102000 x3).f2)))) else (none)) else (spec_NearOk.l2 k 0 x102000 x102001)
def spec_NearOk.j1 : Nat → Int → Bool → List (S63) → List (S65) → Int → Int → Int → Option (Bool)
 | 0, _, _, _, _, _, _, _ => none
 | k + 1, x3, x34, x102000, x102001, x104000, x104001, x104002 => if x34 = true then (some false) else (spec_NearOk.l1 k x3 0 x102000 x102001 x104000 x104001 x104002)
def spec_NearOk.l1 : Nat → Int → Int → List (S63) → List (S65) → Int → Int → Int → Option (Bool)
 | 0, _, _, _, _, _, _, _ => none
 | k + 1, x3, x5, x102000, x102001, x104000, x104001, x104002 => if x5 < x3 then (if 0 ≤ x5 then (if x5 < (x102000.length : Int) then (if ((rd_T63 x102000 x5).f0) = x104000 then (some false) else (spec_NearOk.l1 k x3 (wrap64 (x5 + 1)) x102000 x102001 x104000 x104001 x104002)) else (none)) else (none)) else (spec_NearOk.l0 k (wrap64 (x3 + 1)) x102000 x102001)
def spec_NearOk.l2 : Nat → Int → List (S63) → List (S65) → Option (Bool)
 | 0, _, _, _ => none
 | k + 1, x6, x102000, x102001 => if x6 < (x102001.length : Int) then (if 0 ≤ x6 then ((spec_l1In.f ((rd_T65 x102001 x6).f0) 0 65535).bind fun t109 => (if t109 = true then (if (((rd_T65 x102001 x6).f1).length : Int) > 64 then (some false) else (spec_NearOk.l2 k (wrap64 (x6 + 1)) x102000 x102001)) else (some false))) else (none)) else (if (x102000.length : Int) ≤ 4 then (some (decide ((x102001.length : Int) ≤ 4))) else (some false))
end
def spec_NearOk.f (k : Nat) (l0_0 : List (S63)) (l0_1 : List (S65)) : Option (Bool) := spec_NearOk.l0 k 0 l0_0 l0_1
theorem spec_NearOk.mono_l : ∀ k, (∀ y0 y1 y2, LeO (spec_NearOk.l0 k y0 y1 y2) (spec_NearOk.l0 (k + 1) y0 y1 y2)) ∧ (∀ y0 y1 y2 y3 y4 y5 y6, LeO (spec_NearOk.j1 k y0 y1 y2 y3 y4 y5 y6) (spec_NearOk.j1 (k + 1) y0 y1 y2 y3 y4 y5 y6)) ∧ (∀ y0 y1 y2 y3 y4 y5 y6, LeO (spec_NearOk.l1 k y0 y1 y2 y3 y4 y5 y6) (spec_NearOk.l1 (k + 1) y0 y1 y2 y3 y4 y5 y6)) ∧ (∀ y0 y1 y2, LeO (spec_NearOk.l2 k y0 y1 y2) (spec_NearOk.l2 (k + 1) y0 y1 y2))
 | 0 => ⟨fun _ _ _ r h => by simp [spec_NearOk.l0] at h, fun _ _ _ _ _ _ _ r h => by simp [spec_NearOk.j1] at h, fun _ _ _ _ _ _ _ r h => by simp [spec_NearOk.l1] at h, fun _ _ _ r h => by simp [spec_NearOk.l2] at h⟩
 | k + 1 => by
  obtain ⟨ih0, ih1, ih2, ih3⟩ := spec_NearOk.mono_l k
  refine ⟨?_, ?_, ?_, ?_⟩
  ·intro y0 y1 y2
   unfold spec_NearOk.l0
   repeat' first | (with_reducible first | apply ih0 | apply ih1 | apply ih2 | apply ih3 | exact LeO.refl _ | exact LeO.none _ | refine LeO.ite ?_ ?_ | refine LeO.bind ?_ fun _ => ?_) | apply ih0 | apply ih1 | apply ih2 | apply ih3 | exact LeO.none _ | refine LeO.ite ?_ ?_ | refine LeO.bind ?_ fun _ => ?_
  ·intro y0 y1 y2 y3 y4 y5 y6
   unfold spec_NearOk.j1
   repeat' first | (with_reducible first | apply ih0 | apply ih1 | apply ih2 | apply ih3 | exact LeO.refl _ | exact LeO.none _ | refine LeO.ite ?_ ?_ | refine LeO.bind ?_ fun _ => ?_) | apply ih0 | apply ih1 | apply ih2 | apply ih3 | exact LeO.none _ | refine LeO.ite ?_ ?_ | refine LeO.bind ?_ fun _ => ?_
  ·intro y0 y1 y2 y3 y4 y5 y6
   unfold spec_NearOk.l1
   repeat' first | (with_reducible first | apply ih0 | apply ih1 | apply ih2 | apply ih3 | exact LeO.refl _ | exact LeO.none _ | refine LeO.ite ?_ ?_ | refine LeO.bind ?_ fun _ => ?_) | apply ih0 | apply ih1 | apply ih2 | apply ih3 | exact LeO.none _ | refine LeO.ite ?_ ?_ | refine LeO.bind ?_ fun _ => ?_
  ·intro y0 y1 y2
   unfold spec_NearOk.l2
   repeat' first | (with_reducible first | apply ih0 | apply ih1 | apply ih2 | apply ih3 | exact LeO.refl _ | exact LeO.none _ | refine LeO.ite ?_ ?_ | refine LeO.bind ?_ fun _ => ?_) | apply ih0 | apply ih1 | apply ih2 | apply ih3 | exact LeO.none _ | refine LeO.ite ?_ ?_ | refine LeO.bind ?_ fun _ => ?_
theorem spec_NearOk.mono : ∀ a0 a1 k, LeO (spec_NearOk.f k a0 a1) (spec_NearOk.f (k + 1) a0 a1) := by
 intro a0 a1 k
 obtain ⟨ih0, ih1, ih2, ih3⟩ := spec_NearOk.mono_l k
 unfold spec_NearOk.f
 repeat' first | (with_reducible first | apply ih0 | apply ih1 | apply ih2 | apply ih3 | exact LeO.refl _ | exact LeO.none _ | refine LeO.ite ?_ ?_ | refine LeO.bind ?_ fun _ => ?_) | apply ih0 | apply ih1 | apply ih2 | apply ih3 | exact LeO.none _ | refine LeO.ite ?_ ?_ | refine LeO.bind ?_ fun _ => ?_
set_option maxHeartbeats 8000000 in
set_option maxRecDepth 100000 in
theorem spec_NearOk.calls (k : Nat) (A0_0 : Option Addr) (c0_0 : Nat) (l0_0 : List (S63)) (A0_1 : Option Addr) (c0_1 : Nat) (l0_1 : List (S65)) (r : Bool) (w : World) (hr0_0 : Kd.C k63 w A0_0 l0_0.length l0_0) (hc0_0 : l0_0.length ≤ c0_0) (hr0_1 : Kd.C k65 w A0_1 l0_1.length l0_1) (hc0_1 : l0_1.length ≤ c0_1) (h : spec_NearOk.f k l0_0 l0_1 = some r) :
  Calls Try.prog 31 #[.agg #[.slice A0_0 l0_0.length c0_0, .slice A0_1 l0_1.length c0_1]] w fun e w' => e = .returned (.bool r) ∧ Below w.heap.size w w' := by
 have hu32 := Try.underlying32; have hu63 := Try.underlying63; have HR0_0 := Aside0.mk hr0_0; have HC0_0 := Aside0.mk hc0_0; clear hr0_0 hc0_0; have HR0_1 := Aside0.mk hr0_1; have HC0_1 := Aside0.mk hc0_1; clear hr0_1 hc0_1
 have HB := Aside0.mk (Below.refl w.heap.size w)
 have H : (spec_NearOk.l0 k 0 l0_0 l0_1) = some r := h
 clear h
 have H' := Aside0.mk H
 clear H
 go_enter Try.func31, Try.ntmps31
 go_wp2_with (first | ((with_reducible refine gate_dst (N := 1) rfl ?_); (try (refine gate_guard (by rfl) ?_; dsimp only)); refine box_ (N := 1) (cs := #[.slice A0_0 l0_0.length c0_0, .slice A0_1 l0_1.length c0_1]) (t := 32) (fun gb101 hg w2 hbox hb => ?_); have BK101 := Aside0.mk (hbox); have GW101 := ge_ hg HB; have GE101 := ge_ hg HB; replace HB := (bs_ HB hb); clear hb hbox hg))
 repeat (go_quiet (first | ((with_reducible refine gate_dst (N := 1) rfl ?_); (try (refine gate_guard (by rfl) ?_; dsimp only)); refine box_ (N := 1) (cs := #[.slice A0_0 l0_0.length c0_0, .slice A0_1 l0_1.length c0_1]) (t := 32) (fun gb101 hg w2 hbox hb => ?_); have BK101 := Aside0.mk (hbox); have GW101 := ge_ hg HB; have GE101 := ge_ hg HB; replace HB := (bs_ HB hb); clear hb hbox hg)); try go_wp2_with (first | ((with_reducible refine gate_dst (N := 1) rfl ?_); (try (refine gate_guard (by rfl) ?_; dsimp only)); refine box_ (N := 1) (cs := #[.slice A0_0 l0_0.length c0_0, .slice A0_1 l0_1.length c0_1]) (t := 32) (fun gb101 hg w2 hbox hb => ?_); have BK101 := Aside0.mk (hbox); have GW101 := ge_ hg HB; have GE101 := ge_ hg HB; replace HB := (bs_ HB hb); clear hb hbox hg)))
 go_loopg [3] k (fun kq v3 w' => ∃ (x3_1 : Int), v3 = .int .i64 x3_1 ∧ Aside0 (spec_NearOk.l0 kq x3_1 l0_0 l0_1 = some r) ∧ Aside0 (kq ≤ k) ∧ Aside0 (w'.heap[gb101]? = some (.cells #[(.slice A0_0 l0_0.length c0_0), (.slice A0_1 l0_1.length c0_1)] 32 (0, 0))) ∧ Aside0 (Below w.heap.size w w'))
 case atStart => exact ⟨(0), (by first | rfl | (simp; done) | (simp [*]; done)), H', ⟨Nat.le_refl _⟩, ⟨by refine kb_ ?_; exact BK101.out⟩, ⟨hbA_ HB.out⟩⟩
 case round =>
  clear H'; (try clear p2)
  obtain ⟨x3_1, rfl, HA, HK1, BK101, HB⟩ := hrel
  cases gk with
  | zero => exact absurd HA.out (by simp [spec_NearOk.l0])
  | succ k1 =>
   have H := HA.out; clear HA
   simp only [spec_NearOk.l0] at H
   by_cases c3 : x3_1 < (l0_0.length : Int)
   ·rw [if_pos c3] at H
    have c3b0 : decide (x3_1 < (l0_0.length : Int)) = true := decide_eq_true c3
    clear c3
    by_cases c4 : 0 ≤ x3_1
    ·rw [if_pos c4] at H
     have c4b0 : decide (0 ≤ x3_1) = true := decide_eq_true c4
     clear c4; have HC5 := Aside0.mk H; clear H; have Z6 := zz2 BK101
     have p102 : 0 ≤ (x3_1 : Int) := of_decide_eq_true (by first | (with_reducible assumption) | assumption)
     have q102 : x3_1 < (l0_0.length : Int) := of_decide_eq_true (by first | (with_reducible assumption) | assumption)
     obtain ⟨ad102, e102, hx102_0, hx102_1, hx102_2⟩ := at_T63 HR0_0.out x3_1 p102 q102
     cases e102
     replace hx102_0 := cc_ HB hx102_0
     replace hx102_1 := cc_ HB hx102_1
     replace hx102_2 := cc_ HB hx102_2
     replace p102 := eq_true p102
     replace q102 := eq_true q102
     go_upto_region 5 with (first | ((with_reducible refine gate_dst (N := 4) rfl ?_); (try (refine gate_guard (by rfl) ?_; dsimp only)); refine box_ (N := 4) (cs := #[.int .i64 0, .int .i64 0, .int .i64 0]) (t := 63) (fun gb103 hg w7 hbox hb => ?_); have BK103 := Aside0.mk (hbox); have GW103 := ge_ hg HB; have GE103 := ge_ hg HB; replace HB := (bs_ HB hb); have NB101_103 := nl_ hg BK101; have NB103_101 := ng_ hg BK101; replace BK101 := (bbA_ BK101 hb); clear hb hbox hg; have hnb8 := NB103_101.out; have hnc8 := NB101_103.out; have Z9 := zz3 BK103))
     repeat (go_quiet (first | ((with_reducible refine gate_dst (N := 4) rfl ?_); (try (refine gate_guard (by rfl) ?_; dsimp only)); refine box_ (N := 4) (cs := #[.int .i64 0, .int .i64 0, .int .i64 0]) (t := 63) (fun gb103 hg w7 hbox hb => ?_); have BK103 := Aside0.mk (hbox); have GW103 := ge_ hg HB; have GE103 := ge_ hg HB; replace HB := (bs_ HB hb); have NB101_103 := nl_ hg BK101; have NB103_101 := ng_ hg BK101; replace BK101 := (bbA_ BK101 hb); clear hb hbox hg; have hnb8 := NB103_101.out; have hnc8 := NB101_103.out; have Z9 := zz3 BK103)); go_upto_region 5 with (first | ((with_reducible refine gate_dst (N := 4) rfl ?_); (try (refine gate_guard (by rfl) ?_; dsimp only)); refine box_ (N := 4) (cs := #[.int .i64 0, .int .i64 0, .int .i64 0]) (t := 63) (fun gb103 hg w7 hbox hb => ?_); have BK103 := Aside0.mk (hbox); have GW103 := ge_ hg HB; have GE103 := ge_ hg HB; replace HB := (bs_ HB hb); have NB101_103 := nl_ hg BK101; have NB103_101 := ng_ hg BK101; replace BK101 := (bbA_ BK101 hb); clear hb hbox hg; have hnb8 := NB103_101.out; have hnc8 := NB101_103.out; have Z9 := zz3 BK103)))
     (try simp only [Act.put, List.setIfInBounds_toArray, List.set_cons_zero, List.set_cons_succ])
     go_cut [34] (fun v34 wc => ∃ (kq : Nat) (x34_4 : Bool), v34 = .bool x34_4 ∧ Aside0 (spec_NearOk.j1 kq x3_1 x34_4 l0_0 l0_1 ((rd_T63 l0_0 x3_1).f0) ((rd_T63 l0_0 x3_1).f1) ((rd_T63 l0_0 x3_1).f2) = some r) ∧ Aside0 (kq ≤ k1) ∧ Aside0 (wc.heap[gb101]? = some (.cells #[(.slice (some ad102) l0_0.length c0_0), (.slice A0_1 l0_1.length c0_1)] 32 (0, 0))) ∧ Aside0 (wc.heap[gb103]? = some (.cells #[.int .i64 ((rd_T63 l0_0 x3_1).f0), .int .i64 ((rd_T63 l0_0 x3_1).f1), .int .i64 ((rd_T63 l0_0 x3_1).f2)] 63 (0, 0))) ∧ Aside0 (Below w.heap.size w wc))
     case first =>
      have H := HC5.out; clear HC5
      replace H := Option.bind_eq_some_iff.mp H
      obtain ⟨t104, A100, H⟩ := H
      (try dsimp only at H)
      have A10 := Aside0.mk A100; clear A100
      by_cases c11 : t104 = true
      ·subst c11
       rw [if_pos rfl] at H
       replace H := Option.bind_eq_some_iff.mp H
       obtain ⟨t105, A120, H⟩ := H
       (try dsimp only at H)
       have A12 := Aside0.mk A120; clear A120
       by_cases c13 : t105 = true
       ·subst c13
        rw [if_pos rfl] at H
        replace H := Option.bind_eq_some_iff.mp H
        obtain ⟨t106, A140, H⟩ := H
        (try dsimp only at H)
        have A14 := Aside0.mk A140; clear A140
        have H' := Aside0.mk H
        clear H; have hnb15 := NB103_101.out; have hnc15 := NB101_103.out; have Z16 := zz3 BK103
        go_wp2_with (first | (go_at_call 33; (with_reducible refine (spec_l1In.calls ((rd_T63 l0_0 x3_1).f0) 0 65535 true _ A10.out).mono ?_); rintro e w' ⟨rfl, ⟨nd, rfl⟩⟩; (try first | exact ⟨rfl, _, World.drewN_drewN _ _ _⟩ | exact ⟨rfl, _, Eq.trans (World.drewN_drewN _ _ _) (congrArg (World.drewN _) (Nat.add_assoc _ _ _))⟩)) | (go_at_call 33; (with_reducible refine (spec_l1In.calls ((rd_T63 l0_0 x3_1).f1) 0 254 true _ A12.out).mono ?_); rintro e w' ⟨rfl, ⟨nd, rfl⟩⟩; (try first | exact ⟨rfl, _, World.drewN_drewN _ _ _⟩ | exact ⟨rfl, _, Eq.trans (World.drewN_drewN _ _ _) (congrArg (World.drewN _) (Nat.add_assoc _ _ _))⟩)) | (go_at_call 33; (with_reducible refine (spec_l1In.calls ((rd_T63 l0_0 x3_1).f2) 0 1000000 t106 _ A14.out).mono ?_); rintro e w' ⟨rfl, ⟨nd, rfl⟩⟩; (try first | exact ⟨rfl, _, World.drewN_drewN _ _ _⟩ | exact ⟨rfl, _, Eq.trans (World.drewN_drewN _ _ _) (congrArg (World.drewN _) (Nat.add_assoc _ _ _))⟩)))
        repeat (go_quiet (first | (go_at_call 33; (with_reducible refine (spec_l1In.calls ((rd_T63 l0_0 x3_1).f0) 0 65535 true _ A10.out).mono ?_); rintro e w' ⟨rfl, ⟨nd, rfl⟩⟩; (try first | exact ⟨rfl, _, World.drewN_drewN _ _ _⟩ | exact ⟨rfl, _, Eq.trans (World.drewN_drewN _ _ _) (congrArg (World.drewN _) (Nat.add_assoc _ _ _))⟩)) | (go_at_call 33; (with_reducible refine (spec_l1In.calls ((rd_T63 l0_0 x3_1).f1) 0 254 true _ A12.out).mono ?_); rintro e w' ⟨rfl, ⟨nd, rfl⟩⟩; (try first | exact ⟨rfl, _, World.drewN_drewN _ _ _⟩ | exact ⟨rfl, _, Eq.trans (World.drewN_drewN _ _ _) (congrArg (World.drewN _) (Nat.add_assoc _ _ _))⟩)) | (go_at_call 33; (with_reducible refine (spec_l1In.calls ((rd_T63 l0_0 x3_1).f2) 0 1000000 t106 _ A14.out).mono ?_); rintro e w' ⟨rfl, ⟨nd, rfl⟩⟩; (try first | exact ⟨rfl, _, World.drewN_drewN _ _ _⟩ | exact ⟨rfl, _, Eq.trans (World.drewN_drewN _ _ _) (congrArg (World.drewN _) (Nat.add_assoc _ _ _))⟩))); try go_wp2_with (first | (go_at_call 33; (with_reducible refine (spec_l1In.calls ((rd_T63 l0_0 x3_1).f0) 0 65535 true _ A10.out).mono ?_); rintro e w' ⟨rfl, ⟨nd, rfl⟩⟩; (try first | exact ⟨rfl, _, World.drewN_drewN _ _ _⟩ | exact ⟨rfl, _, Eq.trans (World.drewN_drewN _ _ _) (congrArg (World.drewN _) (Nat.add_assoc _ _ _))⟩)) | (go_at_call 33; (with_reducible refine (spec_l1In.calls ((rd_T63 l0_0 x3_1).f1) 0 254 true _ A12.out).mono ?_); rintro e w' ⟨rfl, ⟨nd, rfl⟩⟩; (try first | exact ⟨rfl, _, World.drewN_drewN _ _ _⟩ | exact ⟨rfl, _, Eq.trans (World.drewN_drewN _ _ _) (congrArg (World.drewN _) (Nat.add_assoc _ _ _))⟩)) | (go_at_call 33; (with_reducible refine (spec_l1In.calls ((rd_T63 l0_0 x3_1).f2) 0 1000000 t106 _ A14.out).mono ?_); rintro e w' ⟨rfl, ⟨nd, rfl⟩⟩; (try first | exact ⟨rfl, _, World.drewN_drewN _ _ _⟩ | exact ⟨rfl, _, Eq.trans (World.drewN_drewN _ _ _) (congrArg (World.drewN _) (Nat.add_assoc _ _ _))⟩))))
        go_meet
        case rel => exact ⟨_, (!t106), (by first | rfl | (simp; done) | (simp [*]; done)), H', ⟨by have := HK1.out; first | omega | exact Nat.le_refl _⟩, ⟨by exact kf_ BK101.out⟩, ⟨by refine kb_ ?_; refine pz3 (cs := #[.int .i64 0, .int .i64 0, .int .i64 0]) ?_; refine kb_ ?_; exact BK103.out⟩, ⟨hbA_ HB.out⟩⟩
       ·replace c13 := Bool.eq_false_iff.mpr c13
        subst c13
        rw [if_neg (show ¬ (false = true) by decide)] at H
        have H' := Aside0.mk H
        clear H; have hnb17 := NB103_101.out; have hnc17 := NB101_103.out; have Z18 := zz3 BK103
        go_wp2_with (first | (go_at_call 33; (with_reducible refine (spec_l1In.calls ((rd_T63 l0_0 x3_1).f0) 0 65535 true _ A10.out).mono ?_); rintro e w' ⟨rfl, ⟨nd, rfl⟩⟩; (try first | exact ⟨rfl, _, World.drewN_drewN _ _ _⟩ | exact ⟨rfl, _, Eq.trans (World.drewN_drewN _ _ _) (congrArg (World.drewN _) (Nat.add_assoc _ _ _))⟩)) | (go_at_call 33; (with_reducible refine (spec_l1In.calls ((rd_T63 l0_0 x3_1).f1) 0 254 false _ A12.out).mono ?_); rintro e w' ⟨rfl, ⟨nd, rfl⟩⟩; (try first | exact ⟨rfl, _, World.drewN_drewN _ _ _⟩ | exact ⟨rfl, _, Eq.trans (World.drewN_drewN _ _ _) (congrArg (World.drewN _) (Nat.add_assoc _ _ _))⟩)))
        repeat (go_quiet (first | (go_at_call 33; (with_reducible refine (spec_l1In.calls ((rd_T63 l0_0 x3_1).f0) 0 65535 true _ A10.out).mono ?_); rintro e w' ⟨rfl, ⟨nd, rfl⟩⟩; (try first | exact ⟨rfl, _, World.drewN_drewN _ _ _⟩ | exact ⟨rfl, _, Eq.trans (World.drewN_drewN _ _ _) (congrArg (World.drewN _) (Nat.add_assoc _ _ _))⟩)) | (go_at_call 33; (with_reducible refine (spec_l1In.calls ((rd_T63 l0_0 x3_1).f1) 0 254 false _ A12.out).mono ?_); rintro e w' ⟨rfl, ⟨nd, rfl⟩⟩; (try first | exact ⟨rfl, _, World.drewN_drewN _ _ _⟩ | exact ⟨rfl, _, Eq.trans (World.drewN_drewN _ _ _) (congrArg (World.drewN _) (Nat.add_assoc _ _ _))⟩))); try go_wp2_with (first | (go_at_call 33; (with_reducible refine (spec_l1In.calls ((rd_T63 l0_0 x3_1).f0) 0 65535 true _ A10.out).mono ?_); rintro e w' ⟨rfl, ⟨nd, rfl⟩⟩; (try first | exact ⟨rfl, _, World.drewN_drewN _ _ _⟩ | exact ⟨rfl, _, Eq.trans (World.drewN_drewN _ _ _) (congrArg (World.drewN _) (Nat.add_assoc _ _ _))⟩)) | (go_at_call 33; (with_reducible refine (spec_l1In.calls ((rd_T63 l0_0 x3_1).f1) 0 254 false _ A12.out).mono ?_); rintro e w' ⟨rfl, ⟨nd, rfl⟩⟩; (try first | exact ⟨rfl, _, World.drewN_drewN _ _ _⟩ | exact ⟨rfl, _, Eq.trans (World.drewN_drewN _ _ _) (congrArg (World.drewN _) (Nat.add_assoc _ _ _))⟩))))
        go_meet
        case rel => exact ⟨_, (true), (by first | rfl | (simp; done) | (simp [*]; done)), H', ⟨by have := HK1.out; first | omega | exact Nat.le_refl _⟩, ⟨by exact kf_ BK101.out⟩, ⟨by refine kb_ ?_; refine pz3 (cs := #[.int .i64 0, .int .i64 0, .int .i64 0]) ?_; refine kb_ ?_; exact BK103.out⟩, ⟨hbA_ HB.out⟩⟩
      ·replace c11 := Bool.eq_false_iff.mpr c11
       subst c11
       rw [if_neg (show ¬ (false = true) by decide)] at H
       have H' := Aside0.mk H
       clear H; have hnb19 := NB103_101.out; have hnc19 := NB101_103.out; have Z20 := zz3 BK103
       go_wp2_with (first | (go_at_call 33; (with_reducible refine (spec_l1In.calls ((rd_T63 l0_0 x3_1).f0) 0 65535 false _ A10.out).mono ?_); rintro e w' ⟨rfl, ⟨nd, rfl⟩⟩; (try first | exact ⟨rfl, _, World.drewN_drewN _ _ _⟩ | exact ⟨rfl, _, Eq.trans (World.drewN_drewN _ _ _) (congrArg (World.drewN _) (Nat.add_assoc _ _ _))⟩)))
       repeat (go_quiet (first | (go_at_call 33; (with_reducible refine (spec_l1In.calls ((rd_T63 l0_0 x3_1).f0) 0 65535 false _ A10.out).mono ?_); rintro e w' ⟨rfl, ⟨nd, rfl⟩⟩; (try first | exact ⟨rfl, _, World.drewN_drewN _ _ _⟩ | exact ⟨rfl, _, Eq.trans (World.drewN_drewN _ _ _) (congrArg (World.drewN _) (Nat.add_assoc _ _ _))⟩))); try go_wp2_with (first | (go_at_call 33; (with_reducible refine (spec_l1In.calls ((rd_T63 l0_0 x3_1).f0) 0 65535 false _ A10.out).mono ?_); rintro e w' ⟨rfl, ⟨nd, rfl⟩⟩; (try first | exact ⟨rfl, _, World.drewN_drewN _ _ _⟩ | exact ⟨rfl, _, Eq.trans (World.drewN_drewN _ _ _) (congrArg (World.drewN _) (Nat.add_assoc _ _ _))⟩))))
       go_meet
       case rel => exact ⟨_, (true), (by first | rfl | (simp; done) | (simp [*]; done)), H', ⟨by have := HK1.out; first | omega | exact Nat.le_refl _⟩, ⟨by exact kf_ BK101.out⟩, ⟨by refine kb_ ?_; refine pz3 (cs := #[.int .i64 0, .int .i64 0, .int .i64 0]) ?_; refine kb_ ?_; exact BK103.out⟩, ⟨hbA_ HB.out⟩⟩
     case rest =>
      clear HC5; (try clear c1); (try clear p1); (try clear q1); (try clear hx1); (try clear p2); (try clear c3); (try clear c3b0); (try clear c4); (try clear c4b0); (try clear c8); (try clear p10); (try clear q10); (try clear hx10); (try clear c11); (try clear c13); (try clear c15); (try clear c17); (try clear c19); (try clear Z16); (try clear Z18); (try clear Z20); (try clear Z6); (try clear Z9); (try clear hx102_0); (try clear hx102_1); (try clear hx102_2); (try clear p102); (try clear p2); (try clear q102)
      obtain ⟨kq, x34_4, rfl, HA, HJ4, BK101, BK103, HB⟩ := hcut
      cases kq with
      | zero => exact absurd HA.out (by simp [spec_NearOk.j1])
      | succ kj4 =>
       have H := HA.out; clear HA
       simp only [spec_NearOk.j1] at H
       by_cases c21 : x34_4 = true
       ·subst c21
        rw [if_pos rfl] at H
        obtain rfl := Option.some.inj H
        go_wp2
        repeat (go_quiet (fail); try go_wp2)
        go_ret
        exact ⟨by first | rfl | (simp [errW_none, errW_some] <;> rfl) | (simp [*, errW_none, errW_some] <;> rfl), hbA_ HB.out⟩
       ·replace c21 := Bool.eq_false_iff.mpr c21
        subst c21
        rw [if_neg (show ¬ (false = true) by decide)] at H
        have H' := Aside0.mk H
        clear H
        go_wp2
        repeat (go_quiet (fail); try go_wp2)
        go_loopg [5] kj4 (fun kq v5 w' => ∃ (x5_3 : Int), v5 = .int .i64 x5_3 ∧ Aside0 (spec_NearOk.l1 kq x3_1 x5_3 l0_0 l0_1 ((rd_T63 l0_0 x3_1).f0) ((rd_T63 l0_0 x3_1).f1) ((rd_T63 l0_0 x3_1).f2) = some r) ∧ Aside0 (kq ≤ kj4) ∧ Aside0 (w'.heap[gb101]? = some (.cells #[(.slice (some ad102) l0_0.length c0_0), (.slice A0_1 l0_1.length c0_1)] 32 (0, 0))) ∧ Aside0 (w'.heap[gb103]? = some (.cells #[.int .i64 ((rd_T63 l0_0 x3_1).f0), .int .i64 ((rd_T63 l0_0 x3_1).f1), .int .i64 ((rd_T63 l0_0 x3_1).f2)] 63 (0, 0))) ∧ Aside0 (Below w.heap.size w w'))
        case atStart => exact ⟨(0), (by first | rfl | (simp; done) | (simp [*]; done)), H', ⟨Nat.le_refl _⟩, ⟨by refine kb_ ?_; exact BK101.out⟩, ⟨by refine kb_ ?_; exact BK103.out⟩, ⟨hbA_ HB.out⟩⟩
        case round =>
         clear H'; (try clear c1); (try clear p1); (try clear q1); (try clear hx1); (try clear c2); (try clear p2); (try clear c3); (try clear c3b0); (try clear c4); (try clear c4b0); (try clear c8); (try clear p10); (try clear q10); (try clear hx10); (try clear c11); (try clear c13); (try clear c15); (try clear c17); (try clear c19); (try clear c21); (try clear Z16); (try clear Z18); (try clear Z20); (try clear Z6); (try clear Z9); (try clear hx102_0); (try clear hx102_1); (try clear hx102_2); (try clear p1); (try clear p10); (try clear p102); (try clear p2); (try clear q1); (try clear q10); (try clear q102)
         obtain ⟨x5_3, rfl, HA, HK3, BK101, BK103, HB⟩ := hrel
         cases gk with
         | zero => exact absurd HA.out (by simp [spec_NearOk.l1])
         | succ k3 =>
          have H := HA.out; clear HA
          simp only [spec_NearOk.l1] at H
          by_cases c22 : x5_3 < x3_1
          ·rw [if_pos c22] at H
           have c22b0 : decide (x5_3 < x3_1) = true := decide_eq_true c22
           clear c22
           by_cases c23 : 0 ≤ x5_3
           ·rw [if_pos c23] at H
            have c23b0 : decide (0 ≤ x5_3) = true := decide_eq_true c23
            clear c23
            by_cases c24 : x5_3 < (l0_0.length : Int)
            ·rw [if_pos c24] at H
             have c24b0 : decide (x5_3 < (l0_0.length : Int)) = true := decide_eq_true c24
             clear c24
             by_cases c25 : ((rd_T63 l0_0 x5_3).f0) = ((rd_T63 l0_0 x3_1).f0)
             ·rw [if_pos c25] at H
              have c25b0 : (((rd_T63 l0_0 x5_3).f0) == ((rd_T63 l0_0 x3_1).f0)) = true := beq_iff_eq.mpr c25
              have c25b1 : (((rd_T63 l0_0 x5_3).f0) != ((rd_T63 l0_0 x3_1).f0)) = false := bne_eq_false_iff_eq.mpr c25
              clear c25
              obtain rfl := Option.some.inj H
              have hnb26 := NB101_103.out; have hnc26 := NB103_101.out; have Z27 := zz2 BK101
              have p107 : 0 ≤ (x5_3 : Int) := of_decide_eq_true (by first | (with_reducible assumption) | assumption)
              have q107 : x5_3 < (l0_0.length : Int) := of_decide_eq_true (by first | (with_reducible assumption) | assumption)
              obtain ⟨ad107, e107, hx107_0, hx107_1, hx107_2⟩ := at_T63 HR0_0.out x5_3 p107 q107
              obtain rfl : ad102 = ad107 := (by injection e107)
              replace hx107_0 := cc_ HB hx107_0
              replace hx107_1 := cc_ HB hx107_1
              replace hx107_2 := cc_ HB hx107_2
              replace p107 := eq_true p107
              replace q107 := eq_true q107
              have Z28 := zz3 BK103
              go_wp2
              repeat (go_quiet (fail); try go_wp2)
              go_ret
              exact ⟨by first | rfl | (simp [errW_none, errW_some] <;> rfl) | (simp [*, errW_none, errW_some] <;> rfl), hbA_ HB.out⟩
             ·rw [if_neg c25] at H
              have c25b0 : (((rd_T63 l0_0 x5_3).f0) == ((rd_T63 l0_0 x3_1).f0)) = false := beq_eq_false_iff_ne.mpr c25
              have c25b1 : (((rd_T63 l0_0 x5_3).f0) != ((rd_T63 l0_0 x3_1).f0)) = true := bne_iff_ne.mpr c25
              have H' := Aside0.mk H
              clear H; have hnb29 := NB101_103.out; have hnc29 := NB103_101.out; have Z30 := zz2 BK101
              have p107 : 0 ≤ (x5_3 : Int) := of_decide_eq_true (by first | (with_reducible assumption) | assumption)
              have q107 : x5_3 < (l0_0.length : Int) := of_decide_eq_true (by first | (with_reducible assumption) | assumption)
              obtain ⟨ad107, e107, hx107_0, hx107_1, hx107_2⟩ := at_T63 HR0_0.out x5_3 p107 q107
              obtain rfl : ad102 = ad107 := (by injection e107)
              replace hx107_0 := cc_ HB hx107_0
              replace hx107_1 := cc_ HB hx107_1
              replace hx107_2 := cc_ HB hx107_2
              replace p107 := eq_true p107
              replace q107 := eq_true q107
              have Z31 := zz3 BK103
              go_wp2
              repeat (go_quiet (fail); try go_wp2)
              go_roundg k3
              case measure => have := HK1.out; have := HJ4.out; have := HK3.out; omega
              case rel => exact ⟨(wrap64 (x5_3 + 1)), (by first | rfl | (simp; done) | (simp [*]; done)), H', ⟨by have := HK1.out; have := HJ4.out; have := HK3.out; omega⟩, ⟨by refine kb_ ?_; exact BK101.out⟩, ⟨by refine kb_ ?_; exact BK103.out⟩, ⟨hbA_ HB.out⟩⟩
            ·rw [if_neg c24] at H
             exact absurd H (by simp)
           ·rw [if_neg c23] at H
            exact absurd H (by simp)
          ·rw [if_neg c22] at H
           have c22b0 : decide (x5_3 < x3_1) = false := decide_eq_false c22
           clear c22
           have H' := Aside0.mk H
           clear H
           go_wp2
           repeat (go_quiet (fail); try go_wp2)
           go_roundg k3
           case measure => have := HK1.out; have := HJ4.out; have := HK3.out; omega
           case rel => exact ⟨(wrap64 (x3_1 + 1)), (by first | rfl | (simp; done) | (simp [*]; done)), H', ⟨by have := HK1.out; have := HJ4.out; have := HK3.out; omega⟩, ⟨by refine kb_ ?_; exact BK101.out⟩, ⟨hbA_ HB.out⟩⟩
    ·rw [if_neg c4] at H
     exact absurd H (by simp)
   ·rw [if_neg c3] at H
    have c3b0 : decide (x3_1 < (l0_0.length : Int)) = false := decide_eq_false c3
    clear c3
    have H' := Aside0.mk H
    clear H; have Z32 := zz2 BK101
    go_wp2
    repeat (go_quiet (fail); try go_wp2)
    go_loopg [6] k1 (fun kq v6 w' => ∃ (x6_2 : Int), v6 = .int .i64 x6_2 ∧ Aside0 (spec_NearOk.l2 kq x6_2 l0_0 l0_1 = some r) ∧ Aside0 (kq ≤ k1) ∧ Aside0 (w'.heap[gb101]? = some (.cells #[(.slice A0_0 l0_0.length c0_0), (.slice A0_1 l0_1.length c0_1)] 32 (0, 0))) ∧ Aside0 (Below w.heap.size w w'))
    case atStart => exact ⟨(0), (by first | rfl | (simp; done) | (simp [*]; done)), H', ⟨Nat.le_refl _⟩, ⟨by refine kb_ ?_; exact BK101.out⟩, ⟨hbA_ HB.out⟩⟩
    case round =>
     clear H'; (try clear c1); (try clear p1); (try clear q1); (try clear hx1); (try clear c2); (try clear p2); (try clear c3); (try clear c3b0); (try clear c4); (try clear c4b0); (try clear p6); (try clear c8); (try clear p10); (try clear q10); (try clear hx10); (try clear c11); (try clear c13); (try clear c15); (try clear c17); (try clear c19); (try clear c21); (try clear c22); (try clear c22b0); (try clear c23); (try clear c23b0); (try clear c24); (try clear c24b0); (try clear c25); (try clear c25b0); (try clear c25b1); (try clear c26); (try clear c29); (try clear c31); (try clear Z16); (try clear Z18); (try clear Z20); (try clear Z27); (try clear Z28); (try clear Z30); (try clear Z31); (try clear Z32); (try clear Z6); (try clear Z9); (try clear hx102_0); (try clear hx102_1); (try clear hx102_2); (try clear hx107_0); (try clear hx107_1); (try clear hx107_2); (try clear p1); (try clear p10); (try clear p102); (try clear p107); (try clear p2); (try clear q1); (try clear q10); (try clear q102); (try clear q107)
     obtain ⟨x6_2, rfl, HA, HK2, BK101, HB⟩ := hrel
     cases gk with
     | zero => exact absurd HA.out (by simp [spec_NearOk.l2])
     | succ k2 =>
      have H := HA.out; clear HA
      simp only [spec_NearOk.l2] at H
      by_cases c33 : x6_2 < (l0_1.length : Int)
      ·rw [if_pos c33] at H
       have c33b0 : decide (x6_2 < (l0_1.length : Int)) = true := decide_eq_true c33
       clear c33
       by_cases c34 : 0 ≤ x6_2
       ·rw [if_pos c34] at H
        have c34b0 : decide (0 ≤ x6_2) = true := decide_eq_true c34
        clear c34
        replace H := Option.bind_eq_some_iff.mp H
        obtain ⟨t109, A350, H⟩ := H
        (try dsimp only at H)
        have A35 := Aside0.mk A350; clear A350
        by_cases c36 : t109 = true
        ·subst c36
         rw [if_pos rfl] at H
         by_cases c37 : (((rd_T65 l0_1 x6_2).f1).length : Int) > 64
         ·rw [if_pos c37] at H
          have c37b0 : decide (64 < (((rd_T65 l0_1 x6_2).f1).length : Int)) = true := decide_eq_true c37
          have c37b1 : decide (64 < ((rd_T65 l0_1 x6_2).f1).length) = true := decide_eq_true (by omega)
          clear c37
          obtain rfl := Option.some.inj H
          have Z38 := zz2 BK101
          have p108 : 0 ≤ (x6_2 : Int) := of_decide_eq_true (by first | (with_reducible assumption) | assumption)
          have q108 : x6_2 < (l0_1.length : Int) := of_decide_eq_true (by first | (with_reducible assumption) | assumption)
          obtain ⟨ad108, A108_1, c108_1, e108, hx108_0, hx108_1, hl108_1, hi108_1⟩ := at_T65 HR0_1.out x6_2 p108 q108
          cases e108
          replace hx108_0 := cc_ HB hx108_0
          replace hx108_1 := cc_ HB hx108_1
          have HR108_1 := Aside0.mk hi108_1; have HC108_1 := Aside0.mk hl108_1; clear hi108_1 hl108_1
          replace p108 := eq_true p108
          replace q108 := eq_true q108
          go_wp2_with (first | (go_at_call 33; (with_reducible refine (spec_l1In.calls ((rd_T65 l0_1 x6_2).f0) 0 65535 true _ A35.out).mono ?_); rintro e w' ⟨rfl, ⟨nd, rfl⟩⟩; (try first | exact ⟨rfl, _, World.drewN_drewN _ _ _⟩ | exact ⟨rfl, _, Eq.trans (World.drewN_drewN _ _ _) (congrArg (World.drewN _) (Nat.add_assoc _ _ _))⟩); have p110 : 0 ≤ (x6_2 : Int) := of_decide_eq_true (by first | (with_reducible assumption) | assumption); have q110 : x6_2 < (l0_1.length : Int) := of_decide_eq_true (by first | (with_reducible assumption) | assumption); obtain ⟨ad110, A110_1, c110_1, e110, hx110_0, hx110_1, hl110_1, hi110_1⟩ := at_T65 HR0_1.out x6_2 p110 q110; obtain rfl : ad108 = ad110 := (by injection e110); replace hx110_0 := cc_ HB hx110_0; replace hx110_1 := cc_ HB hx110_1; have HR110_1 := Aside0.mk hi110_1; have HC110_1 := Aside0.mk hl110_1; clear hi110_1 hl110_1; replace p110 := eq_true p110; replace q110 := eq_true q110; have ea_ := Option.some.inj (hx108_1.symm.trans hx110_1); injection ea_ with ea_ en_ ec_; subst ea_; subst ec_; clear en_))
          repeat (go_quiet (first | (go_at_call 33; (with_reducible refine (spec_l1In.calls ((rd_T65 l0_1 x6_2).f0) 0 65535 true _ A35.out).mono ?_); rintro e w' ⟨rfl, ⟨nd, rfl⟩⟩; (try first | exact ⟨rfl, _, World.drewN_drewN _ _ _⟩ | exact ⟨rfl, _, Eq.trans (World.drewN_drewN _ _ _) (congrArg (World.drewN _) (Nat.add_assoc _ _ _))⟩); have p110 : 0 ≤ (x6_2 : Int) := of_decide_eq_true (by first | (with_reducible assumption) | assumption); have q110 : x6_2 < (l0_1.length : Int) := of_decide_eq_true (by first | (with_reducible assumption) | assumption); obtain ⟨ad110, A110_1, c110_1, e110, hx110_0, hx110_1, hl110_1, hi110_1⟩ := at_T65 HR0_1.out x6_2 p110 q110; obtain rfl : ad108 = ad110 := (by injection e110); replace hx110_0 := cc_ HB hx110_0; replace hx110_1 := cc_ HB hx110_1; have HR110_1 := Aside0.mk hi110_1; have HC110_1 := Aside0.mk hl110_1; clear hi110_1 hl110_1; replace p110 := eq_true p110; replace q110 := eq_true q110; have ea_ := Option.some.inj (hx108_1.symm.trans hx110_1); injection ea_ with ea_ en_ ec_; subst ea_; subst ec_; clear en_)); try go_wp2_with (first | (go_at_call 33; (with_reducible refine (spec_l1In.calls ((rd_T65 l0_1 x6_2).f0) 0 65535 true _ A35.out).mono ?_); rintro e w' ⟨rfl, ⟨nd, rfl⟩⟩; (try first | exact ⟨rfl, _, World.drewN_drewN _ _ _⟩ | exact ⟨rfl, _, Eq.trans (World.drewN_drewN _ _ _) (congrArg (World.drewN _) (Nat.add_assoc _ _ _))⟩); have p110 : 0 ≤ (x6_2 : Int) := of_decide_eq_true (by first | (with_reducible assumption) | assumption); have q110 : x6_2 < (l0_1.length : Int) := of_decide_eq_true (by first | (with_reducible assumption) | assumption); obtain ⟨ad110, A110_1, c110_1, e110, hx110_0, hx110_1, hl110_1, hi110_1⟩ := at_T65 HR0_1.out x6_2 p110 q110; obtain rfl : ad108 = ad110 := (by injection e110); replace hx110_0 := cc_ HB hx110_0; replace hx110_1 := cc_ HB hx110_1; have HR110_1 := Aside0.mk hi110_1; have HC110_1 := Aside0.mk hl110_1; clear hi110_1 hl110_1; replace p110 := eq_true p110; replace q110 := eq_true q110; have ea_ := Option.some.inj (hx108_1.symm.trans hx110_1); injection ea_ with ea_ en_ ec_; subst ea_; subst ec_; clear en_)))
          go_ret
          exact ⟨by first | rfl | (simp [errW_none, errW_some] <;> rfl) | (simp [*, errW_none, errW_some] <;> rfl), hbA_ HB.out⟩
         ·rw [if_neg c37] at H
          have c37b0 : decide (64 < (((rd_T65 l0_1 x6_2).f1).length : Int)) = false := decide_eq_false c37
          have c37b1 : decide (64 < ((rd_T65 l0_1 x6_2).f1).length) = false := decide_eq_false (by omega)
          clear c37
          have H' := Aside0.mk H
          clear H; have Z39 := zz2 BK101
          have p108 : 0 ≤ (x6_2 : Int) := of_decide_eq_true (by first | (with_reducible assumption) | assumption)
          have q108 : x6_2 < (l0_1.length : Int) := of_decide_eq_true (by first | (with_reducible assumption) | assumption)
          obtain ⟨ad108, A108_1, c108_1, e108, hx108_0, hx108_1, hl108_1, hi108_1⟩ := at_T65 HR0_1.out x6_2 p108 q108
          cases e108
          replace hx108_0 := cc_ HB hx108_0
          replace hx108_1 := cc_ HB hx108_1
          have HR108_1 := Aside0.mk hi108_1; have HC108_1 := Aside0.mk hl108_1; clear hi108_1 hl108_1
          replace p108 := eq_true p108
          replace q108 := eq_true q108
          go_wp2_with (first | (go_at_call 33; (with_reducible refine (spec_l1In.calls ((rd_T65 l0_1 x6_2).f0) 0 65535 true _ A35.out).mono ?_); rintro e w' ⟨rfl, ⟨nd, rfl⟩⟩; (try first | exact ⟨rfl, _, World.drewN_drewN _ _ _⟩ | exact ⟨rfl, _, Eq.trans (World.drewN_drewN _ _ _) (congrArg (World.drewN _) (Nat.add_assoc _ _ _))⟩); have p110 : 0 ≤ (x6_2 : Int) := of_decide_eq_true (by first | (with_reducible assumption) | assumption); have q110 : x6_2 < (l0_1.length : Int) := of_decide_eq_true (by first | (with_reducible assumption) | assumption); obtain ⟨ad110, A110_1, c110_1, e110, hx110_0, hx110_1, hl110_1, hi110_1⟩ := at_T65 HR0_1.out x6_2 p110 q110; obtain rfl : ad108 = ad110 := (by injection e110); replace hx110_0 := cc_ HB hx110_0; replace hx110_1 := cc_ HB hx110_1; have HR110_1 := Aside0.mk hi110_1; have HC110_1 := Aside0.mk hl110_1; clear hi110_1 hl110_1; replace p110 := eq_true p110; replace q110 := eq_true q110; have ea_ := Option.some.inj (hx108_1.symm.trans hx110_1); injection ea_ with ea_ en_ ec_; subst ea_; subst ec_; clear en_))
          repeat (go_quiet (first | (go_at_call 33; (with_reducible refine (spec_l1In.calls ((rd_T65 l0_1 x6_2).f0) 0 65535 true _ A35.out).mono ?_); rintro e w' ⟨rfl, ⟨nd, rfl⟩⟩; (try first | exact ⟨rfl, _, World.drewN_drewN _ _ _⟩ | exact ⟨rfl, _, Eq.trans (World.drewN_drewN _ _ _) (congrArg (World.drewN _) (Nat.add_assoc _ _ _))⟩); have p110 : 0 ≤ (x6_2 : Int) := of_decide_eq_true (by first | (with_reducible assumption) | assumption); have q110 : x6_2 < (l0_1.length : Int) := of_decide_eq_true (by first | (with_reducible assumption) | assumption); obtain ⟨ad110, A110_1, c110_1, e110, hx110_0, hx110_1, hl110_1, hi110_1⟩ := at_T65 HR0_1.out x6_2 p110 q110; obtain rfl : ad108 = ad110 := (by injection e110); replace hx110_0 := cc_ HB hx110_0; replace hx110_1 := cc_ HB hx110_1; have HR110_1 := Aside0.mk hi110_1; have HC110_1 := Aside0.mk hl110_1; clear hi110_1 hl110_1; replace p110 := eq_true p110; replace q110 := eq_true q110; have ea_ := Option.some.inj (hx108_1.symm.trans hx110_1); injection ea_ with ea_ en_ ec_; subst ea_; subst ec_; clear en_)); try go_wp2_with (first | (go_at_call 33; (with_reducible refine (spec_l1In.calls ((rd_T65 l0_1 x6_2).f0) 0 65535 true _ A35.out).mono ?_); rintro e w' ⟨rfl, ⟨nd, rfl⟩⟩; (try first | exact ⟨rfl, _, World.drewN_drewN _ _ _⟩ | exact ⟨rfl, _, Eq.trans (World.drewN_drewN _ _ _) (congrArg (World.drewN _) (Nat.add_assoc _ _ _))⟩); have p110 : 0 ≤ (x6_2 : Int) := of_decide_eq_true (by first | (with_reducible assumption) | assumption); have q110 : x6_2 < (l0_1.length : Int) := of_decide_eq_true (by first | (with_reducible assumption) | assumption); obtain ⟨ad110, A110_1, c110_1, e110, hx110_0, hx110_1, hl110_1, hi110_1⟩ := at_T65 HR0_1.out x6_2 p110 q110; obtain rfl : ad108 = ad110 := (by injection e110); replace hx110_0 := cc_ HB hx110_0; replace hx110_1 := cc_ HB hx110_1; have HR110_1 := Aside0.mk hi110_1; have HC110_1 := Aside0.mk hl110_1; clear hi110_1 hl110_1; replace p110 := eq_true p110; replace q110 := eq_true q110; have ea_ := Option.some.inj (hx108_1.symm.trans hx110_1); injection ea_ with ea_ en_ ec_; subst ea_; subst ec_; clear en_)))
          go_roundg k2
          case measure => have := HK1.out; have := HK2.out; omega
          case rel => exact ⟨(wrap64 (x6_2 + 1)), (by first | rfl | (simp; done) | (simp [*]; done)), H', ⟨by have := HK1.out; have := HK2.out; omega⟩, ⟨by refine kb_ ?_; exact BK101.out⟩, ⟨hbA_ HB.out⟩⟩
        ·replace c36 := Bool.eq_false_iff.mpr c36
         subst c36
         rw [if_neg (show ¬ (false = true) by decide)] at H
         obtain rfl := Option.some.inj H
         have Z40 := zz2 BK101
         have p108 : 0 ≤ (x6_2 : Int) := of_decide_eq_true (by first | (with_reducible assumption) | assumption)
         have q108 : x6_2 < (l0_1.length : Int) := of_decide_eq_true (by first | (with_reducible assumption) | assumption)
         obtain ⟨ad108, A108_1, c108_1, e108, hx108_0, hx108_1, hl108_1, hi108_1⟩ := at_T65 HR0_1.out x6_2 p108 q108
         cases e108
         replace hx108_0 := cc_ HB hx108_0
         replace hx108_1 := cc_ HB hx108_1
         have HR108_1 := Aside0.mk hi108_1; have HC108_1 := Aside0.mk hl108_1; clear hi108_1 hl108_1
         replace p108 := eq_true p108
         replace q108 := eq_true q108
         go_wp2_with (first | (go_at_call 33; (with_reducible refine (spec_l1In.calls ((rd_T65 l0_1 x6_2).f0) 0 65535 false _ A35.out).mono ?_); rintro e w' ⟨rfl, ⟨nd, rfl⟩⟩; (try first | exact ⟨rfl, _, World.drewN_drewN _ _ _⟩ | exact ⟨rfl, _, Eq.trans (World.drewN_drewN _ _ _) (congrArg (World.drewN _) (Nat.add_assoc _ _ _))⟩)))
         repeat (go_quiet (first | (go_at_call 33; (with_reducible refine (spec_l1In.calls ((rd_T65 l0_1 x6_2).f0) 0 65535 false _ A35.out).mono ?_); rintro e w' ⟨rfl, ⟨nd, rfl⟩⟩; (try first | exact ⟨rfl, _, World.drewN_drewN _ _ _⟩ | exact ⟨rfl, _, Eq.trans (World.drewN_drewN _ _ _) (congrArg (World.drewN _) (Nat.add_assoc _ _ _))⟩))); try go_wp2_with (first | (go_at_call 33; (with_reducible refine (spec_l1In.calls ((rd_T65 l0_1 x6_2).f0) 0 65535 false _ A35.out).mono ?_); rintro e w' ⟨rfl, ⟨nd, rfl⟩⟩; (try first | exact ⟨rfl, _, World.drewN_drewN _ _ _⟩ | exact ⟨rfl, _, Eq.trans (World.drewN_drewN _ _ _) (congrArg (World.drewN _) (Nat.add_assoc _ _ _))⟩))))
         go_ret
         exact ⟨by first | rfl | (simp [errW_none, errW_some] <;> rfl) | (simp [*, errW_none, errW_some] <;> rfl), hbA_ HB.out⟩
       ·rw [if_neg c34] at H
        exact absurd H (by simp)
      ·rw [if_neg c33] at H
       have c33b0 : decide (x6_2 < (l0_1.length : Int)) = false := decide_eq_false c33
       clear c33
       by_cases c41 : (l0_0.length : Int) ≤ 4
       ·rw [if_pos c41] at H
        have c41b0 : decide ((l0_0.length : Int) ≤ 4) = true := decide_eq_true c41
        have c41b1 : decide (l0_0.length ≤ 4) = true := decide_eq_true (by omega)
        clear c41
        obtain rfl := Option.some.inj H
        have Z42 := zz2 BK101
        go_wp2
        repeat (go_quiet (fail); try go_wp2)
        go_ret
        exact ⟨by first | rfl | (simp [errW_none, errW_some] <;> rfl) | (simp [*, errW_none, errW_some] <;> rfl), hbA_ HB.out⟩
       ·rw [if_neg c41] at H
        have c41b0 : decide ((l0_0.length : Int) ≤ 4) = false := decide_eq_false c41
        have c41b1 : decide (l0_0.length ≤ 4) = false := decide_eq_false (by omega)
        clear c41
        obtain rfl := Option.some.inj H
        have Z43 := zz2 BK101
        go_wp2
        repeat (go_quiet (fail); try go_wp2)
        go_ret
        exact ⟨by first | rfl | (simp [errW_none, errW_some] <;> rfl) | (simp [*, errW_none, errW_some] <;> rfl), hbA_ HB.out⟩
def spec_QueryOk.f (a0_0 : Int) (a0_1 : Int) (a0_2 : Int) (a0_3 : Int) : Option (Bool) := if a0_0 = 1 then ((spec_l1In.f a0_1 0 254).bind fun t112 => (if t112 = true then ((spec_l1In.f a0_2 0 65535).bind fun t113 => (if t113 = true then ((spec_l1In.f a0_3 0 65535).bind fun t114 => (some t114)) else (some false))) else (some false))) else (if a0_0 = 2 then ((spec_l1In.f a0_1 0 254).bind fun t115 => (if t115 = true then ((spec_l1In.f a0_2 0 65535).bind fun t116 => (if t116 = true then ((spec_l1In.f a0_3 0 65535).bind fun t117 => (some t117)) else (some false))) else (some false))) else (some false))
set_option maxHeartbeats 8000000 in
set_option maxRecDepth 100000 in
theorem spec_QueryOk.calls (a0_0 : Int) (a0_1 : Int) (a0_2 : Int) (a0_3 : Int) (r : Bool) (w : World) (h : spec_QueryOk.f a0_0 a0_1 a0_2 a0_3 = some r) :
  Calls Try.prog 32 #[.agg #[.int .i64 a0_0, .int .i64 a0_1, .int .i64 a0_2, .int .i64 a0_3]] w fun e w' => e = .returned (.bool r) ∧ Below w.heap.size w w' := by
 have hu37 := Try.underlying37
 have HB := Aside0.mk (Below.refl w.heap.size w)
 have H : (if a0_0 = 1 then ((spec_l1In.f a0_1 0 254).bind fun t112 => (if t112 = true then ((spec_l1In.f a0_2 0 65535).bind fun t113 => (if t113 = true then ((spec_l1In.f a0_3 0 65535).bind fun t114 => (some t114)) else (some false))) else (some false))) else (if a0_0 = 2 then ((spec_l1In.f a0_1 0 254).bind fun t115 => (if t115 = true then ((spec_l1In.f a0_2 0 65535).bind fun t116 => (if t116 = true then ((spec_l1In.f a0_3 0 65535).bind fun t117 => (some t117)) else (some false))) else (some false))) else (some false))) = some r := h
 clear h
 by_cases c2 : a0_0 = 1
 ·rw [if_pos c2] at H
  have c2b0 : (a0_0 == 1) = true := beq_iff_eq.mpr c2
  have c2b1 : (a0_0 != 1) = false := bne_eq_false_iff_eq.mpr c2
  clear c2
  replace H := Option.bind_eq_some_iff.mp H
  obtain ⟨t112, A30, H⟩ := H
  (try dsimp only at H)
  have A3 := Aside0.mk A30; clear A30
  by_cases c4 : t112 = true
  ·subst c4
   rw [if_pos rfl] at H
   replace H := Option.bind_eq_some_iff.mp H
   obtain ⟨t113, A50, H⟩ := H
   (try dsimp only at H)
   have A5 := Aside0.mk A50; clear A50
   by_cases c6 : t113 = true
   ·subst c6
    rw [if_pos rfl] at H
    replace H := Option.bind_eq_some_iff.mp H
    obtain ⟨t114, A70, H⟩ := H
    (try dsimp only at H)
    have A7 := Aside0.mk A70; clear A70
    obtain rfl := Option.some.inj H
    go_enter Try.func32, Try.ntmps32
    go_wp2_with (first | ((with_reducible refine gate_dst (N := 1) rfl ?_); refine box_ (N := 1) (cs := #[.int .i64 a0_0, .int .i64 a0_1, .int .i64 a0_2, .int .i64 a0_3]) (t := 37) (fun gb111 hg w8 hbox hb => ?_); have BK111 := Aside0.mk (hbox); have GW111 := ge_ hg HB; have GE111 := ge_ hg HB; replace HB := (bs_ HB hb); clear hb hbox hg; have Z9 := zz4 BK111) | (go_at_call 33; (with_reducible refine (spec_l1In.calls a0_1 0 254 true _ A3.out).mono ?_); rintro e w' ⟨rfl, ⟨nd, rfl⟩⟩) | (go_at_call 33; (with_reducible refine (spec_l1In.calls a0_2 0 65535 true _ A5.out).mono ?_); rintro e w' ⟨rfl, ⟨nd, rfl⟩⟩) | (go_at_call 33; (with_reducible refine (spec_l1In.calls a0_3 0 65535 t114 _ A7.out).mono ?_); rintro e w' ⟨rfl, ⟨nd, rfl⟩⟩))
    go_ret
    exact ⟨by first | rfl | (simp [errW_none, errW_some] <;> rfl) | (simp [*, errW_none, errW_some] <;> rfl), hbA_ HB.out⟩
   ·replace c6 := Bool.eq_false_iff.mpr c6
    subst c6
    rw [if_neg (show ¬ (false = true) by decide)] at H
    obtain rfl := Option.some.inj H
    go_enter Try.func32, Try.ntmps32
    go_wp2_with (first | ((with_reducible refine gate_dst (N := 1) rfl ?_); refine box_ (N := 1) (cs := #[.int .i64 a0_0, .int .i64 a0_1, .int .i64 a0_2, .int .i64 a0_3]) (t := 37) (fun gb111 hg w10 hbox hb => ?_); have BK111 := Aside0.mk (hbox); have GW111 := ge_ hg HB; have GE111 := ge_ hg HB; replace HB := (bs_ HB hb); clear hb hbox hg; have Z11 := zz4 BK111) | (go_at_call 33; (with_reducible refine (spec_l1In.calls a0_1 0 254 true _ A3.out).mono ?_); rintro e w' ⟨rfl, ⟨nd, rfl⟩⟩) | (go_at_call 33; (with_reducible refine (spec_l1In.calls a0_2 0 65535 false _ A5.out).mono ?_); rintro e w' ⟨rfl, ⟨nd, rfl⟩⟩))
    go_ret
    exact ⟨by first | rfl | (simp [errW_none, errW_some] <;> rfl) | (simp [*, errW_none, errW_some] <;> rfl), hbA_ HB.out⟩
  ·replace c4 := Bool.eq_false_iff.mpr c4
   subst c4
   rw [if_neg (show ¬ (false = true) by decide)] at H
   obtain rfl := Option.some.inj H
   go_enter Try.func32, Try.ntmps32
   go_wp2_with (first | ((with_reducible refine gate_dst (N := 1) rfl ?_); refine box_ (N := 1) (cs := #[.int .i64 a0_0, .int .i64 a0_1, .int .i64 a0_2, .int .i64 a0_3]) (t := 37) (fun gb111 hg w12 hbox hb => ?_); have BK111 := Aside0.mk (hbox); have GW111 := ge_ hg HB; have GE111 := ge_ hg HB; replace HB := (bs_ HB hb); clear hb hbox hg; have Z13 := zz4 BK111) | (go_at_call 33; (with_reducible refine (spec_l1In.calls a0_1 0 254 false _ A3.out).mono ?_); rintro e w' ⟨rfl, ⟨nd, rfl⟩⟩))
   go_ret
   exact ⟨by first | rfl | (simp [errW_none, errW_some] <;> rfl) | (simp [*, errW_none, errW_some] <;> rfl), hbA_ HB.out⟩
 ·rw [if_neg c2] at H
  have c2b0 : (a0_0 == 1) = false := beq_eq_false_iff_ne.mpr c2
  have c2b1 : (a0_0 != 1) = true := bne_iff_ne.mpr c2
  by_cases c14 : a0_0 = 2
  ·rw [if_pos c14] at H
   have c14b0 : (a0_0 == 2) = true := beq_iff_eq.mpr c14
   have c14b1 : (a0_0 != 2) = false := bne_eq_false_iff_eq.mpr c14
   clear c14
   replace H := Option.bind_eq_some_iff.mp H
   obtain ⟨t115, A150, H⟩ := H
   (try dsimp only at H)
   have A15 := Aside0.mk A150; clear A150
   by_cases c16 : t115 = true
   ·subst c16
    rw [if_pos rfl] at H
    replace H := Option.bind_eq_some_iff.mp H
    obtain ⟨t116, A170, H⟩ := H
    (try dsimp only at H)
    have A17 := Aside0.mk A170; clear A170
    by_cases c18 : t116 = true
    ·subst c18
     rw [if_pos rfl] at H
     replace H := Option.bind_eq_some_iff.mp H
     obtain ⟨t117, A190, H⟩ := H
     (try dsimp only at H)
     have A19 := Aside0.mk A190; clear A190
     obtain rfl := Option.some.inj H
     go_enter Try.func32, Try.ntmps32
     go_wp2_with (first | ((with_reducible refine gate_dst (N := 1) rfl ?_); refine box_ (N := 1) (cs := #[.int .i64 a0_0, .int .i64 a0_1, .int .i64 a0_2, .int .i64 a0_3]) (t := 37) (fun gb111 hg w20 hbox hb => ?_); have BK111 := Aside0.mk (hbox); have GW111 := ge_ hg HB; have GE111 := ge_ hg HB; replace HB := (bs_ HB hb); clear hb hbox hg; have Z21 := zz4 BK111) | (go_at_call 33; (with_reducible refine (spec_l1In.calls a0_1 0 254 true _ A15.out).mono ?_); rintro e w' ⟨rfl, ⟨nd, rfl⟩⟩) | (go_at_call 33; (with_reducible refine (spec_l1In.calls a0_2 0 65535 true _ A17.out).mono ?_); rintro e w' ⟨rfl, ⟨nd, rfl⟩⟩) | (go_at_call 33; (with_reducible refine (spec_l1In.calls a0_3 0 65535 t117 _ A19.out).mono ?_); rintro e w' ⟨rfl, ⟨nd, rfl⟩⟩))
     go_ret
     exact ⟨by first | rfl | (simp [errW_none, errW_some] <;> rfl) | (simp [*, errW_none, errW_some] <;> rfl), hbA_ HB.out⟩
    ·replace c18 := Bool.eq_false_iff.mpr c18
     subst c18
     rw [if_neg (show ¬ (false = true) by decide)] at H
     obtain rfl := Option.some.inj H
     go_enter Try.func32, Try.ntmps32
     go_wp2_with (first | ((with_reducible refine gate_dst (N := 1) rfl ?_); refine box_ (N := 1) (cs := #[.int .i64 a0_0, .int .i64 a0_1, .int .i64 a0_2, .int .i64 a0_3]) (t := 37) (fun gb111 hg w22 hbox hb => ?_); have BK111 := Aside0.mk (hbox); have GW111 := ge_ hg HB; have GE111 := ge_ hg HB; replace HB := (bs_ HB hb); clear hb hbox hg; have Z23 := zz4 BK111) | (go_at_call 33; (with_reducible refine (spec_l1In.calls a0_1 0 254 true _ A15.out).mono ?_); rintro e w' ⟨rfl, ⟨nd, rfl⟩⟩) | (go_at_call 33; (with_reducible refine (spec_l1In.calls a0_2 0 65535 false _ A17.out).mono ?_); rintro e w' ⟨rfl, ⟨nd, rfl⟩⟩))
     go_ret
     exact ⟨by first | rfl | (simp [errW_none, errW_some] <;> rfl) | (simp [*, errW_none, errW_some] <;> rfl), hbA_ HB.out⟩
   ·replace c16 := Bool.eq_false_iff.mpr c16
    subst c16
    rw [if_neg (show ¬ (false = true) by decide)] at H
    obtain rfl := Option.some.inj H
    go_enter Try.func32, Try.ntmps32
    go_wp2_with (first | ((with_reducible refine gate_dst (N := 1) rfl ?_); refine box_ (N := 1) (cs := #[.int .i64 a0_0, .int .i64 a0_1, .int .i64 a0_2, .int .i64 a0_3]) (t := 37) (fun gb111 hg w24 hbox hb => ?_); have BK111 := Aside0.mk (hbox); have GW111 := ge_ hg HB; have GE111 := ge_ hg HB; replace HB := (bs_ HB hb); clear hb hbox hg; have Z25 := zz4 BK111) | (go_at_call 33; (with_reducible refine (spec_l1In.calls a0_1 0 254 false _ A15.out).mono ?_); rintro e w' ⟨rfl, ⟨nd, rfl⟩⟩))
    go_ret
    exact ⟨by first | rfl | (simp [errW_none, errW_some] <;> rfl) | (simp [*, errW_none, errW_some] <;> rfl), hbA_ HB.out⟩
  ·rw [if_neg c14] at H
   have c14b0 : (a0_0 == 2) = false := beq_eq_false_iff_ne.mpr c14
   have c14b1 : (a0_0 != 2) = true := bne_iff_ne.mpr c14
   obtain rfl := Option.some.inj H
   go_enter Try.func32, Try.ntmps32
   go_wp2_with (first | ((with_reducible refine gate_dst (N := 1) rfl ?_); refine box_ (N := 1) (cs := #[.int .i64 a0_0, .int .i64 a0_1, .int .i64 a0_2, .int .i64 a0_3]) (t := 37) (fun gb111 hg w26 hbox hb => ?_); have BK111 := Aside0.mk (hbox); have GW111 := ge_ hg HB; have GE111 := ge_ hg HB; replace HB := (bs_ HB hb); clear hb hbox hg; have Z27 := zz4 BK111))
   go_ret
   exact ⟨by first | rfl | (simp [errW_none, errW_some] <;> rfl) | (simp [*, errW_none, errW_some] <;> rfl), hbA_ HB.out⟩
def spec_l3Copy.l0 : Nat → Int → List (S63) → List (S65) → List (S63) → List (S65) → Option ((List (S63)) × (List (S65)))
 | 0, _, _, _, _, _ => none
 | k + 1, x4, x119000, x119001, x127000, x127001 => if x4 < (x119001.length : Int) then (if 0 ≤ x4 then ((some (([] : List Int) : List Int)).bind fun y128 => (if y128.length + ((rd_T65 x119001 x4).f1).length < 140737488355328 then (if x127001.length < 4398046511104 then (spec_l3Copy.l0 k (wrap64 (x4 + 1)) x119000 x119001 x127000 (x127001 ++ [(⟨(rd_T65 x119001 x4).f0, (y128 ++ ((rd_T65 x119001 x4).f1))⟩ : S65)])) else (none)) else (none))) else (none)) else (some (x127000, x127001))
def spec_l3Copy.f (k : Nat) (l0_0 : List (S63)) (l0_1 : List (S65)) : Option ((List (S63)) × (List (S65))) := (some (([] : List (S63)) : List (S63))).bind fun y120 => (if y120.length + l0_0.length < 5864062014805 then (spec_l3Copy.l0 k 0 l0_0 l0_1 (y120 ++ l0_0) ([] : List (S65))) else (none))
theorem spec_l3Copy.mono_l : ∀ k, (∀ y0 y1 y2 y3 y4, LeO (spec_l3Copy.l0 k y0 y1 y2 y3 y4) (spec_l3Copy.l0 (k + 1) y0 y1 y2 y3 y4))
 | 0 => fun _ _ _ _ _ r h => by simp [spec_l3Copy.l0] at h
 | k + 1 => by
  have ih0 := spec_l3Copy.mono_l k
  ·intro y0 y1 y2 y3 y4
   unfold spec_l3Copy.l0
   repeat' first | (with_reducible first | apply ih0 | exact LeO.refl _ | exact LeO.none _ | refine LeO.ite ?_ ?_ | refine LeO.bind ?_ fun _ => ?_) | apply ih0 | exact LeO.none _ | refine LeO.ite ?_ ?_ | refine LeO.bind ?_ fun _ => ?_
theorem spec_l3Copy.mono : ∀ a0 a1 k, LeO (spec_l3Copy.f k a0 a1) (spec_l3Copy.f (k + 1) a0 a1) := by
 intro a0 a1 k
 have ih0 := spec_l3Copy.mono_l k
 unfold spec_l3Copy.f
 repeat' first | (with_reducible first | apply ih0 | exact LeO.refl _ | exact LeO.none _ | refine LeO.ite ?_ ?_ | refine LeO.bind ?_ fun _ => ?_) | apply ih0 | exact LeO.none _ | refine LeO.ite ?_ ?_ | refine LeO.bind ?_ fun _ => ?_
def spec_l3Copy.T5 : Bool × List (List Nat × List Nat) := (true, [([], []), ([0], [0]), ([], []), ([2], [2]), ([], []), ([3, 4], [3, 4]), ([5], [5]), ([6], [6]), ([], []), ([], []), ([9], [9]), ([], []), ([10, 11], [10, 11]), ([12], [12]), ([13], [13]), ([8, 14], [8, 14]), ([7, 15], [7, 15]), ([16], [16]), ([1, 17, 15], [1, 17]), ([0, 1, 2, 3, 4, 5, 6, 7, 8, 9, 10, 11, 12, 13, 14, 15, 16, 17, 18], []), ([19, 18, 18, 0, 1, 2, 3, 4, 5, 6, 7, 8, 9, 10, 11, 12, 13, 14, 15, 16, 17, 18], [18, 19])])
def spec_l3Copy.B5 : List Nat := [0, 1, 0, 4, 0, 28, 60, 124, 0, 0, 512, 0, 3584, 7680, 15872, 32512, 65532, 131068, 262143, 524287, 1048575]
theorem spec_l3Copy.tab5 : rtab .any (opsOf Try.f34 5) = spec_l3Copy.T5 := by kernel_rfl
theorem spec_l3Copy.bits5 : waitsOk spec_l3Copy.T5.2 spec_l3Copy.B5 = true := by kernel_rfl
set_option maxHeartbeats 8000000 in
set_option maxRecDepth 100000 in
theorem spec_l3Copy.calls (k : Nat) (A0_0 : Option Addr) (c0_0 : Nat) (l0_0 : List (S63)) (A0_1 : Option Addr) (c0_1 : Nat) (l0_1 : List (S65)) (r1 : List (S63)) (r2 : List (S65)) (w : World) (hr0_0 : Kd.C k63 w A0_0 l0_0.length l0_0) (hc0_0 : l0_0.length ≤ c0_0) (hr0_1 : Kd.C k65 w A0_1 l0_1.length l0_1) (hc0_1 : l0_1.length ≤ c0_1) (h : spec_l3Copy.f k l0_0 l0_1 = some (r1, r2)) :
  Calls Try.prog 34 #[.agg #[.slice A0_0 l0_0.length c0_0, .slice A0_1 l0_1.length c0_1]] w fun e w' => ∃ v0_ v1_ : Value, e = .returned (.agg #[v0_, v1_]) ∧ Kd.R k63 63 w' w.heap.size (fun _ => True) v0_ r1 ∧ Kd.S k65 65 w' w.heap.size (fun _ => True) v1_ r2 ∧ Below w.heap.size w w' := by
 have hu32 := Try.underlying32; have hu65 := Try.underlying65; have HR0_0 := Aside0.mk hr0_0; have HC0_0 := Aside0.mk hc0_0; clear hr0_0 hc0_0; have HR0_1 := Aside0.mk hr0_1; have HC0_1 := Aside0.mk hc0_1; clear hr0_1 hc0_1
 have HB := Aside0.mk (Below.refl w.heap.size w)
 have H : ((some (([] : List (S63)) : List (S63))).bind fun y120 => (if y120.length + l0_0.length < 5864062014805 then (spec_l3Copy.l0 k 0 l0_0 l0_1 (y120 ++ l0_0) ([] : List (S65))) else (none))) = some (r1, r2) := h
 clear h
 obtain ⟨y120, hy120⟩ : ∃ y_ : List (S63), y_ = (([] : List (S63))) := ⟨_, rfl⟩
 (first | replace H := sb_ hy120 H | rw [← hy120] at H)
 have Ny120 := Aside0.mk hy120; clear hy120
 by_cases c2 : y120.length + l0_0.length < 5864062014805
 ·rw [if_pos c2] at H
  have LMc2 := Aside0.mk c2; clear c2
  obtain ⟨y123, hy123⟩ : ∃ y_ : List (S63), y_ = (y120 ++ l0_0) := ⟨_, rfl⟩
  (first | replace H := sb_ hy123 H | rw [← hy123] at H)
  have Ny123 := Aside0.mk hy123; clear hy123
  have H' := Aside0.mk H
  clear H
  go_enter Try.func34, Try.ntmps34
  go_wp2_with (first | ((with_reducible refine gate_dst (N := 1) rfl ?_); refine box_ (N := 1) (cs := #[.slice A0_0 l0_0.length c0_0, .slice A0_1 l0_1.length c0_1]) (t := 32) (fun gb118 hg w3 hbox hb => ?_); have BK118 := Aside0.mk (hbox); have GW118 := ge_ hg HB; have GE118 := ge_ hg HB; replace HB := (bs_ HB hb); clear hb hbox hg) | ((with_reducible refine gate_dst (N := 2) rfl ?_); refine box_ (N := 2) (cs := #[.slice none 0 0, .slice none 0 0]) (t := 32) (fun gb119 hg w4 hbox hb => ?_); have BK119 := Aside0.mk (hbox); have GW119 := ge_ hg HB; have GE119 := ge_ hg HB; replace HB := (bs_ HB hb); have NB118_119 := nl_ hg BK118; have NB119_118 := ng_ hg BK118; replace BK118 := (bbA_ BK118 hb); clear hb hbox hg) | ((with_reducible refine gate_dst (N := 5) rfl ?_); refine Kd.R_lit k63 _ 63 ?hg (N := 5) ?hd (xs := ([] : List (S63))) (inner := []) (ok := fun _ => True) (okp := fun _ => True) ?hr ?hp (fun _ hk => hk) trivial (Below.refl _ _) (Nat.le_refl _) (by simp) ?_; (case hd => rfl); (case hg => rfl); (case hr => first | (go_simp; done) | (go_simp; rfl)); (case hp => exact (Reps.none _ _)); intro v121 w5 ho6 hb hg_ hnew_; clear hg_ hnew_; (first | rw [← Ny120.out] at ho6 | (simp only [Int.reduceToNat] at ho6; rw [← Ny120.out] at ho6)); have HO122 := Aside0.mk (Kd.R_lower ho6 (below_size (hbA_ HB.out))); replace BK118 := (bbA_ BK118 hb); replace BK119 := (bbA_ BK119 hb); replace HB := (bs_ HB hb); clear hb ho6; have hnb7 := NB118_119.out; have hnc7 := NB119_118.out; have Z8 := zz2 BK118) | ((with_reducible refine gate_builtin (b := .append) (xs := #[.tmp 5, .tmp 7]) rfl ?_); at_builtin; refine Kd.R_append_rows k63 (w0 := w) w.heap.size rfl (.tmp 5) (.tmp 7) 29 63 (.agg #[(.int .i64 0), (.int .i64 0), (.int .i64 0)]) 24 rfl Try.underlying29 info63 rfl (by decide) (by omega) v121 y120 l0_0 _ _ _ (fun _ => True) (fun _ => False) rfl rfl ?aO ?aR (fun _ _ h => h) (fun _ h => h.elim) ?aF ?aB ?aS ?aL ?_; (case aR => exact kC_ (Kd.C_below HR0_0.out HB.out)); (case aB => exact (hbA_ HB.out)); (case aF => exact (fun _ _ => trivial)); (case aO => exact (kR_ HO122.out)); (case aS => exact (below_size (hbA_ HB.out))); (case aL => have := LMc2.out; omega); intro v124 w9 ho hb hg hat; rw [← Ny123.out] at ho; replace BK118 := (bgA_ BK118 hg (Kd.R_ne HO122.out BK118.out (by decide))); replace BK119 := (bgA_ BK119 hg (Kd.R_ne HO122.out BK119.out (by decide))); replace HB := Aside0.mk (hb); have HO125 := Aside0.mk (ho); clear HO122; clear ho hb hg hat; obtain ⟨Ao10, co10, eo10⟩ := Kd.R_slice HO125.out; subst eo10) | ((with_reducible refine gate_dst (N := 3) rfl ?_); refine box_ (N := 3) (cs := #[.slice none 0 0, .slice none 0 0]) (t := 32) (fun gb126 hg w11 hbox hb => ?_); replace HO125 := Aside0.mk (Kd.R_below (kR_ HO125.out) hb); have BK126 := Aside0.mk (hbox); have GW126 := ge_ hg HB; have GE126 := ge_ hg HB; replace HB := (bs_ HB hb); have NB118_126 := nl_ hg BK118; have NB126_118 := ng_ hg BK118; replace BK118 := (bbA_ BK118 hb); have NB119_126 := nl_ hg BK119; have NB126_119 := ng_ hg BK119; replace BK119 := (bbA_ BK119 hb); clear hb hbox hg; have hnb12 := NB126_118.out; have hnc12 := NB118_126.out; have hnb13 := NB126_119.out; have hnc13 := NB119_126.out; have Z14 := zz2 BK126))
  go_loopg [4] k (fun kq v4 w' => ∃ (x4_1 : Int) (x127001_1 : List (S65)) (u127001 : Value), v4 = .int .i64 x4_1 ∧ Aside0 (spec_l3Copy.l0 kq x4_1 l0_0 l0_1 y123 x127001_1 = some (r1, r2)) ∧ Aside0 (kq ≤ k) ∧ Aside0 (Kd.R k63 63 w' w.heap.size (fun _ => True) (.slice Ao10 y123.length co10) y123) ∧ Aside0 (Kd.S k65 65 w' w.heap.size (fun _ => True) u127001 x127001_1) ∧ Aside0 (w'.heap[gb118]? = some (.cells #[(.slice A0_0 l0_0.length c0_0), (.slice A0_1 l0_1.length c0_1)] 32 (0, 0))) ∧ Aside0 (w'.heap[gb119]? = some (.cells #[(.slice none 0 0), (.slice none 0 0)] 32 (0, 0))) ∧ Aside0 (w'.heap[gb126]? = some (.cells #[(.slice Ao10 y123.length co10), u127001] 32 (0, 0))) ∧ Aside0 (Below w.heap.size w w'))
  case atStart => exact ⟨(0), (([] : List (S65))), (.slice none 0 0), (by first | rfl | (simp; done) | (simp [*]; done)), H', ⟨Nat.le_refl _⟩, ⟨by refine kR_ ?_; exact rfm_ ((Kd.R_types HO125.out BK126.out (by decide))) (fun _ hk => trivial)⟩, ⟨by first | exact Kd.S_nil _ _ _ _ _ | exact Kd.N_nil _ _ _ _ _ | exact Kd.V_nil _ _ _ _ _ | exact Kd.Q_nil _ _ _ _ _ | exact Kd.R_nil _ _ _ _ _⟩, ⟨by exact kf_ BK118.out⟩, ⟨by exact kf_ BK119.out⟩, ⟨by refine kb_ ?_; refine pz2 (cs := #[.slice none 0 0, .slice none 0 0]) ?_; refine kb_ ?_; exact BK126.out⟩, ⟨hbA_ HB.out⟩⟩
  case round =>
   clear H'; (try clear c1); (try clear c2); (try clear p2); (try clear c3); (try clear c7); (try clear c12); (try clear c13); (try clear Z14); (try clear Z8)
   obtain ⟨x4_1, x127001_1, u127001, rfl, HA, HK1, HO_127000, HO_127001, BK118, BK119, BK126, HB⟩ := hrel
   cases gk with
   | zero => exact absurd HA.out (by simp [spec_l3Copy.l0])
   | succ k1 =>
    have H := HA.out; clear HA
    simp only [spec_l3Copy.l0] at H
    by_cases c15 : x4_1 < (l0_1.length : Int)
    ·rw [if_pos c15] at H
     have c15b0 : decide (x4_1 < (l0_1.length : Int)) = true := decide_eq_true c15
     clear c15
     by_cases c16 : 0 ≤ x4_1
     ·rw [if_pos c16] at H
      have c16b0 : decide (0 ≤ x4_1) = true := decide_eq_true c16
      clear c16
      obtain ⟨y128, hy128⟩ : ∃ y_ : List Int, y_ = (([] : List Int)) := ⟨_, rfl⟩
      (first | replace H := sb_ hy128 H | rw [← hy128] at H)
      have Ny128 := Aside0.mk hy128; clear hy128
      by_cases c17 : y128.length + ((rd_T65 l0_1 x4_1).f1).length < 140737488355328
      ·rw [if_pos c17] at H
       have LMc17 := Aside0.mk c17; clear c17
       obtain ⟨y132, hy132⟩ : ∃ y_ : List Int, y_ = (y128 ++ ((rd_T65 l0_1 x4_1).f1)) := ⟨_, rfl⟩
       (first | replace H := sb_ hy132 H | rw [← hy132] at H)
       have Ny132 := Aside0.mk hy132; clear hy132
       by_cases c18 : x127001_1.length < 4398046511104
       ·rw [if_pos c18] at H
        have LMc18 := Aside0.mk c18; clear c18
        obtain ⟨y135, hy135⟩ : ∃ y_ : List (S65), y_ = (x127001_1 ++ [(⟨(rd_T65 l0_1 x4_1).f0, y132⟩ : S65)]) := ⟨_, rfl⟩
        (first | replace H := sb_ hy135 H | rw [← hy135] at H)
        have Ny135 := Aside0.mk hy135; clear hy135
        have H' := Aside0.mk H
        clear H; have hnb19 := NB118_119.out; have hnc19 := NB119_118.out; have hnb20 := NB118_126.out; have hnc20 := NB126_118.out; have Z21 := zz2 BK118
        try go_wp2
        replace HO_127000 := Aside0.mk (Kd.R_drew HO_127000.out); replace HO_127001 := Aside0.mk (Kd.S_drew HO_127001.out); replace BK118 := Aside0.mk (blk_drew BK118.out); replace BK119 := Aside0.mk (blk_drew BK119.out); replace BK126 := Aside0.mk (blk_drew BK126.out); replace HB := (bd_ HB)
        have p127 : 0 ≤ (x4_1 : Int) := of_decide_eq_true (by first | (with_reducible assumption) | assumption)
        have q127 : x4_1 < (l0_1.length : Int) := of_decide_eq_true (by first | (with_reducible assumption) | assumption)
        obtain ⟨ad127, A127_1, c127_1, e127, hx127_0, hx127_1, hl127_1, hi127_1⟩ := at_T65 HR0_1.out x4_1 p127 q127
        have hw127_1 := hx127_1; have hw127_0 := hx127_0
        cases e127
        replace hx127_0 := cc_ HB hx127_0
        replace hx127_1 := cc_ HB hx127_1
        have HR127_1 := Aside0.mk hi127_1; have HC127_1 := Aside0.mk hl127_1; clear hi127_1 hl127_1
        replace p127 := eq_true p127
        replace q127 := eq_true q127
        have p131 : 0 ≤ (x4_1 : Int) := of_decide_eq_true (by first | (with_reducible assumption) | assumption)
        have q131 : x4_1 < (l0_1.length : Int) := of_decide_eq_true (by first | (with_reducible assumption) | assumption)
        obtain ⟨ad131, A131_1, c131_1, e131, hx131_0, hx131_1, hl131_1, hi131_1⟩ := at_T65 HR0_1.out x4_1 p131 q131
        have hw131_1 := hx131_1; have hw131_0 := hx131_0
        obtain rfl : ad127 = ad131 := (by injection e131)
        replace hx131_0 := cc_ HB hx131_0
        replace hx131_1 := cc_ HB hx131_1
        have HR131_1 := Aside0.mk hi131_1; have HC131_1 := Aside0.mk hl131_1; clear hi131_1 hl131_1
        replace p131 := eq_true p131
        replace q131 := eq_true q131
        have ea_ := Option.some.inj (hx127_1.symm.trans hx131_1)
        injection ea_ with ea_ en_ ec_
        subst ea_; subst ec_; clear en_
        refine start_ (n := 21) (S := fun w' => w'.cell? ⟨gb126, 0, none⟩ = some (.slice Ao10 y123.length co10) ∧ w'.cell? ⟨gb126, 1, none⟩ = some (u127001) ∧ w'.cell? ⟨gb118, 0, none⟩ = some (.slice A0_0 l0_0.length c0_0) ∧ w'.cell? ⟨gb118, 1, none⟩ = some (.slice (some ad127) l0_1.length c0_1) ∧ w'.cell? (ad127.add ((x4_1).toNat * 2)) = some (.int .i64 ((rd_T65 l0_1 x4_1).f0)) ∧ w'.cell? ⟨(ad127.add ((x4_1).toNat * 2)).block, (ad127.add ((x4_1).toNat * 2)).off + 1, none⟩ = some (.slice A127_1 ((rd_T65 l0_1 x4_1).f1).length c127_1) ∧ w'.cell? (ad127.add ((x4_1).toNat * 2)) = some (.int .i64 ((rd_T65 l0_1 x4_1).f0)) ∧ w'.cell? ⟨(ad127.add ((x4_1).toNat * 2)).block, (ad127.add ((x4_1).toNat * 2)).off + 1, none⟩ = some (.slice A127_1 ((rd_T65 l0_1 x4_1).f1).length c127_1)) (ds := [20]) #[false, false, false, false, false, false, false, false, false, false, false, false, false, false, false, false, false, false, false, false, false] (by kernel_rfl) rfl rfl ⟨bc_ BK126 0, bc_ BK126 1, bc_ BK118 0, bc_ BK118 1, (cc_ HB hw127_0), (cc_ HB hw127_1), (cc_ HB hw131_0), (cc_ HB hw131_1)⟩ (fun hHeld => ?_); refine with_tabW spec_l3Copy.tab5 spec_l3Copy.bits5 (fun HT_ HW_ => ?_)
        generalize wr.drew = w22 at HO_127000 HO_127001 BK118 BK119 BK126 HB HR127_1 HR131_1 hx127_0 hx127_1 hx131_0 hx131_1 hHeld ⊢
        refine pu_ (i := 0) (N := some 17) HT_ ?_; refine pu_ (i := 2) (N := some 19) HT_ ?_; refine pu_ (i := 4) (N := some 21) HT_ ?_; refine pu_ (i := 9) (N := some 26) HT_ ?_; refine pu_ (i := 11) (N := some 28) HT_ ?_; refine tk_ (i := 1) (N := some 18) HT_ HW_ hHeld ?_; refine tk_ (i := 3) (N := some 20) HT_ HW_ hHeld ?_; refine pu_ (i := 5) (N := some 22) HT_ ?_; refine pu_ (i := 6) (N := some 23) HT_ ?_; refine tk_ (i := 7) (N := some 24) HT_ HW_ hHeld ?_; refine tk_ (i := 10) (N := some 27) HT_ HW_ hHeld ?_; refine pu_ (i := 12) (N := some 29) HT_ ?_; refine pu_ (i := 13) (N := some 30) HT_ ?_; refine tk_ (i := 14) (N := some 31) HT_ HW_ hHeld ?_
        refine on_ (i := 8) (N := some 25) HT_ (fun K hK => ?_)
        refine Kd.R_lit_step (Kd.int .u8) _ 5 ?hg (N := 25) ?hd (xs := ([] : List Int)) (inner := []) (ok := fun _ => True) (okp := fun _ => True) ?hr ?hp (fun _ hk => hk) trivial (Below.refl _ _) (Nat.le_refl _) (by simp) ?_; (case hd => rfl); (case hg => rfl); (case hr => first | (go_simp; done) | (go_simp; rfl)); (case hp => exact (Reps.none _ _))
        intro v129 w23 ho24 hb hg_ hnew_
        clear hg_ hnew_
        (first | rw [← Ny128.out] at ho24 | (simp only [Int.reduceToNat] at ho24; rw [← Ny128.out] at ho24))
        have n0_ := Aside0.mk (Kd.R_below (kR_ HO_127000.out) hb); have n1_ := Aside0.mk (Kd.S_elder' (kS_ HO_127001.out) (Kd.R_base ho24) hb); have n2_ := Aside0.mk (Kd.R_lower ho24 (below_size (hbA_ HB.out))); have n3_ := (bbA_ BK118 hb); have n4_ := (bbA_ BK119 hb); have n5_ := (bbA_ BK126 hb); have n6_ := (bs_ HB hb); clear HO_127000 HO_127001 BK118 BK119 BK126 HB; have HO_127000 := n0_; have HO_127001 := n1_; have HO130 := n2_; have BK118 := n3_; have BK119 := n4_; have BK126 := n5_; have HB := n6_; clear n0_ n1_ n2_ n3_ n4_ n5_ n6_ hb ho24
        refine hK.out _ _ ⟨bc_ BK126 0, bc_ BK126 1, bc_ BK118 0, bc_ BK118 1, (by first | exact cc_ HB hw127_0 | exact cc_ ⟨hbA_ HB.out⟩ hw127_0), (by first | exact cc_ HB hw127_1 | exact cc_ ⟨hbA_ HB.out⟩ hw127_1), (by first | exact cc_ HB hw131_0 | exact cc_ ⟨hbA_ HB.out⟩ hw131_0), (by first | exact cc_ HB hw131_1 | exact cc_ ⟨hbA_ HB.out⟩ hw131_1)⟩ (fun hHeld => ?_)
        clear hK K; refine nm_ 25 ?_
        refine on_ (i := 15) (N := some 32) HT_ (fun K hK => ?_)
        refine Kd.R_append_rows_step (Kd.int .u8) (w0 := w) w.heap.size (by rfl) (.tmp 25) (.tmp 31) 44 5 (.int .u8 0) 1 rfl Try.underlying44 info5 rfl (by decide) (by omega) v129 y128 ((rd_T65 l0_1 x4_1).f1) _ _ _ (fun _ => True) (fun _ => False) rfl rfl ?aO ?aR (fun _ _ h => h) (fun _ h => h.elim) ?aF ?aB ?aS ?aL ?_
        (case aR => exact kC_ (Kd.C_below HR131_1.out HB.out))
        (case aB => exact (hbA_ HB.out))
        (case aF => exact (fun _ _ => trivial))
        (case aO => exact (kR_ HO130.out))
        (case aS => exact (below_size (hbA_ HB.out)))
        (case aL => have := LMc17.out; omega)
        intro v133 w25 ho hb hg hat
        rw [← Ny132.out] at ho
        have n0_ := Aside0.mk (Kd.R_over' (kR_ HO_127000.out) (Kd.R_typed (kR_ HO130.out)) (by decide) hg); have n1_ := Aside0.mk (Kd.S_after (ok := (fun _ => True)) (kS_ HO_127001.out) hg hat); have n2_ := (bgA_ BK118 hg (Kd.R_ne HO130.out BK118.out (by decide))); have n3_ := (bgA_ BK119 hg (Kd.R_ne HO130.out BK119.out (by decide))); have n4_ := (bgA_ BK126 hg (Kd.R_ne HO130.out BK126.out (by decide))); have n5_ := Aside0.mk (hb); have n6_ := Aside0.mk (ho); clear HO_127000 HO_127001 BK118 BK119 BK126 HB HO130; have HO_127000 := n0_; have HO_127001 := n1_; have BK118 := n2_; have BK119 := n3_; have BK126 := n4_; have HB := n5_; have HO134 := n6_; clear n0_ n1_ n2_ n3_ n4_ n5_ n6_ ho hb hg hat
        obtain ⟨Ao26, co26, eo26⟩ := Kd.R_slice HO134.out
        (first | subst eo26 | (injection eo26 with f1_ f2_ f3_; have f4_ := f1_.symm; have f5_ := f3_.symm; clear f1_ f2_ f3_; subst f4_; subst f5_))
        refine hK.out _ _ ⟨bc_ BK126 0, bc_ BK126 1, bc_ BK118 0, bc_ BK118 1, (by first | exact cc_ HB hw127_0 | exact cc_ ⟨hbA_ HB.out⟩ hw127_0), (by first | exact cc_ HB hw127_1 | exact cc_ ⟨hbA_ HB.out⟩ hw127_1), (by first | exact cc_ HB hw131_0 | exact cc_ ⟨hbA_ HB.out⟩ hw131_0), (by first | exact cc_ HB hw131_1 | exact cc_ ⟨hbA_ HB.out⟩ hw131_1)⟩ (fun hHeld => ?_)
        clear hK K; refine nm_ 32 ?_; refine pu_ (i := 16) (N := some 33) HT_ ?_
        refine on_ (i := 17) (N := some 34) HT_ (fun K hK => ?_)
        refine value_ (w1 := ?_) (v := ?_) (by rfl) rfl ?_ ?_
        rotate_left 2
        ·go_simp
         constructor
         ·rfl
         ·rfl
        refine hK.out _ _ ⟨(blk_cell (blk_alloc BK126.out _) 0).trans rfl, (blk_cell (blk_alloc BK126.out _) 1).trans rfl, (blk_cell (blk_alloc BK118.out _) 0).trans rfl, (blk_cell (blk_alloc BK118.out _) 1).trans rfl, (World.cell?_alloc_lt _ _ _ (World.block_lt_of_cell? _ _ ((by first | exact cc_ HB hw127_0 | exact cc_ ⟨hbA_ HB.out⟩ hw127_0)))).trans ((by first | exact cc_ HB hw127_0 | exact cc_ ⟨hbA_ HB.out⟩ hw127_0)), (World.cell?_alloc_lt _ _ _ (World.block_lt_of_cell? _ _ ((by first | exact cc_ HB hw127_1 | exact cc_ ⟨hbA_ HB.out⟩ hw127_1)))).trans ((by first | exact cc_ HB hw127_1 | exact cc_ ⟨hbA_ HB.out⟩ hw127_1)), (World.cell?_alloc_lt _ _ _ (World.block_lt_of_cell? _ _ ((by first | exact cc_ HB hw131_0 | exact cc_ ⟨hbA_ HB.out⟩ hw131_0)))).trans ((by first | exact cc_ HB hw131_0 | exact cc_ ⟨hbA_ HB.out⟩ hw131_0)), (World.cell?_alloc_lt _ _ _ (World.block_lt_of_cell? _ _ ((by first | exact cc_ HB hw131_1 | exact cc_ ⟨hbA_ HB.out⟩ hw131_1)))).trans ((by first | exact cc_ HB hw131_1 | exact cc_ ⟨hbA_ HB.out⟩ hw131_1))⟩ (fun hHeld => ?_)
        clear hK K; refine nm_ 34 ?_
        refine on_ (i := 18) (N := some 35) HT_ (fun K hK => ?_)
        refine Kd.S_append_step k65 (w0 := w) w.heap.size (by rfl) (.tmp 18) (.tmp 34) 30 65 (.agg #[(.int .i64 0), (.slice none 0 0)]) 32 rfl Try.underlying30 info65 rfl (by decide) (by omega) u127001 x127001_1 (⟨(rd_T65 l0_1 x4_1).f0, y132⟩ : S65) [.int .i64 ((rd_T65 l0_1 x4_1).f0), .slice Ao26 y132.length co26] (fun _ => True) (fun k_ => some k_ = (.slice Ao26 y132.length co26 : Value).ownBlock) rfl rfl ?aP (fun k_ hk_ => ((Kd.R_mono (ok' := fun k_ => ((fun _ => True)) k_ ∧ some k_ ≠ (u127001 : Value).ownBlock) (Kd.R_apart' (HO134.out) (Kd.S_typed HO_127001.out) (by decide)) (fun k_ hk => ⟨trivial, hk.2⟩))).1 k_ hk_.symm) ?aF ?aO ?aB ?aS ?aL ?_
        (case aP => exact k65_mkM _ _ _ (⟨(rd_T65 l0_1 x4_1).f0, y132⟩ : S65) (Kd.R_mono (Kd.R_tight rfl (Kd.R_mono (ok' := fun k_ => ((fun _ => True)) k_ ∧ some k_ ≠ (u127001 : Value).ownBlock) (Kd.R_apart' (HO134.out) (Kd.S_typed HO_127001.out) (by decide)) (fun k_ hk => ⟨trivial, hk.2⟩))) (fun _ h_ => h_)))
        (case aB => exact (hbA_ HB.out))
        (case aF => exact (fun _ _ => trivial))
        (case aO => exact (by refine kS_ ?_; exact Kd.S_mono HO_127001.out (fun k_ hk => ⟨trivial, fun e_ => hk.2 e_⟩)))
        (case aS => exact (below_size (hbA_ HB.out)))
        (case aL => have := LMc18.out; omega)
        intro v136 w27 ho hb hg hat
        rw [← Ny135.out] at ho
        have n0_ := Aside0.mk (Kd.R_over' (kR_ HO_127000.out) (Kd.S_typed (kS_ HO_127001.out)) (by decide) hg); have n1_ := (bgA_ BK118 hg (Kd.S_ne HO_127001.out BK118.out (by decide))); have n2_ := (bgA_ BK119 hg (Kd.S_ne HO_127001.out BK119.out (by decide))); have n3_ := (bgA_ BK126 hg (Kd.S_ne HO_127001.out BK126.out (by decide))); have n4_ := Aside0.mk (hb); have n5_ := Aside0.mk (ho); clear HO_127000 BK118 BK119 BK126 HB HO_127001 HO134; have HO_127000 := n0_; have BK118 := n1_; have BK119 := n2_; have BK126 := n3_; have HB := n4_; have HO137 := n5_; clear n0_ n1_ n2_ n3_ n4_ n5_ ho hb hg hat
        obtain ⟨Ao28, co28, eo28⟩ := Kd.S_slice HO137.out
        (first | subst eo28 | (injection eo28 with f1_ f2_ f3_; have f4_ := f1_.symm; have f5_ := f3_.symm; clear f1_ f2_ f3_; subst f4_; subst f5_))
        refine hK.out _ _ ⟨bc_ BK126 0, bc_ BK126 1, bc_ BK118 0, bc_ BK118 1, (by first | exact cc_ HB hw127_0 | exact cc_ ⟨hbA_ HB.out⟩ hw127_0), (by first | exact cc_ HB hw127_1 | exact cc_ ⟨hbA_ HB.out⟩ hw127_1), (by first | exact cc_ HB hw131_0 | exact cc_ ⟨hbA_ HB.out⟩ hw131_0), (by first | exact cc_ HB hw131_1 | exact cc_ ⟨hbA_ HB.out⟩ hw131_1)⟩ (fun hHeld => ?_)
        clear hK K; refine nm_ 35 ?_; refine pu_ (i := 19) (N := some 36) HT_ ?_
        refine last_ (i := 20) (N := none) #[true, true, true, true, true, true, true, true, true, true, true, true, true, true, true, true, true, true, true, true, true] rfl rfl (one_of HT_.out (by kernel_rfl)) (by decide) (fun K hK => ?_)
        have hs29 : w27.cell? ⟨gb126, 1, none⟩ = some (u127001) := bc_ BK126 1
        have hfs29 := blk_frozen BK126.out 1
        have hns29_0 := NB118_126.out; have hns29_1 := NB119_126.out; have hms29_0 := NB126_118.out; have hms29_1 := NB126_119.out
        refine skip_ (w1 := ?_) (by rfl) rfl ?_ ?_
        rotate_left
        ·go_simp
         rfl
        refine hK.out _ _ ?_
        clear hK K
        refine done_ (done_of HT_.out (by kernel_rfl)) ?_
        try go_wp2
        go_roundg k1
        case measure => have := HK1.out; omega
        case rel => exact ⟨(wrap64 (x4_1 + 1)), (y135), (.slice Ao28 y135.length co28), (by first | rfl | (simp; done) | (simp [*]; done)), H', ⟨by have := HK1.out; omega⟩, ⟨by refine kR_ ?_; exact Kd.R_mono (Kd.R_f gb126 1 (.slice Ao28 y135.length co28) (Kd.R_types HO_127000.out BK126.out (by decide))) (fun _ hk => trivial)⟩, ⟨by refine kS_ ?_; exact Kd.S_mono (Kd.S_far (p := ⟨gb126, 1, none⟩) (Kd.S_types HO137.out BK126.out (by decide)) (fun _ hk => hk.2) (.slice Ao28 y135.length co28)) (fun _ hk => trivial)⟩, ⟨by exact kf_ BK118.out⟩, ⟨by exact kf_ BK119.out⟩, ⟨by refine kb_ ?_; refine blk_put (cs := #[.slice Ao10 y123.length co10, u127001]) ?_ 1 _ rfl; refine kb_ ?_; exact BK126.out⟩, ⟨hbA_ HB.out⟩⟩
       ·rw [if_neg c18] at H
        exact absurd H (by simp)
      ·rw [if_neg c17] at H
       exact absurd H (by simp)
     ·rw [if_neg c16] at H
      exact absurd H (by simp)
    ·rw [if_neg c15] at H
     have c15b0 : decide (x4_1 < (l0_1.length : Int)) = false := decide_eq_false c15
     clear c15
     simp only [Option.some.injEq, Prod.mk.injEq] at H
     obtain ⟨rfl, rfl⟩ := H
     have hnb30 := NB118_119.out; have hnc30 := NB119_118.out; have hnb31 := NB118_126.out; have hnc31 := NB126_118.out; have Z32 := zz2 BK118; have hnb33 := NB126_119.out; have hnc33 := NB119_126.out; have Z34 := zz2 BK126; have Z35 := zz2 BK119
     obtain ⟨Ao36, co36, eo36⟩ := Kd.S_slice HO_127001.out
     subst eo36
     go_wp2
     refine bodyPost_ret (results_cell_row rfl _ _ gb119 32 #[.slice Ao10 y123.length co10, .slice Ao36 x127001_1.length co36] (0, 0) _ rfl (by refine kb_ ?_; refine pz2 (cs := #[.slice none 0 0, .slice none 0 0]) ?_; refine kb_ ?_; exact BK119.out) Try.underlying32 rfl (by kernel_rfl)) rfl ?_
     exact ⟨_, _, by first | rfl | (simp [errW_none, errW_some] <;> rfl) | (simp [*, errW_none, errW_some] <;> rfl), by refine kR_ ?_; exact rfm_ ((Kd.R_types HO_127000.out BK119.out (by decide))) (fun _ hk => trivial), by refine kS_ ?_; exact Kd.S_mono (Kd.S_far (p := ⟨gb119, 1, none⟩) (Kd.S_far (p := ⟨gb119, 0, none⟩) (Kd.S_types HO_127001.out BK119.out (by decide)) (fun _ hk => hk.2) (.slice Ao10 y123.length co10)) (fun _ hk => hk.2) (.slice Ao36 x127001_1.length co36)) (fun _ hk => trivial), hbA_ HB.out⟩
 ·rw [if_neg c2] at H
  exact absurd H (by simp)
end Go.Proofs.Ytdoohdbfpnmndaa.PFnNearHear
