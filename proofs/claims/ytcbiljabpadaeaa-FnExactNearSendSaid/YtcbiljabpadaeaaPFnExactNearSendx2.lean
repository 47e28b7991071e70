/- Printed by wip/xp/xprint.sh out of the translation, for this claim: what each function answers, as a plain function, and that the machine does just that. No condition. -/
import Derived.Test.YtcbiljabpadaeaaPFnExactNearSendx0
import Derived.Test.YtcbiljabpadaeaaPFnExactNearSendx1
namespace Go.Proofs.Ytcbiljabpadaeaa.PFnExactNearSend
open Go.RowKit Go.Proofs.YtcbiljabpadaeaaW.PrintWords Go.Proofs.YtcbiljabpadaeaaW.PrintLast Go.Proofs.YtcbiljabpadaeaaW.PrintMore
attribute [local go_sem] max2_int min2_int max_two min_two max_three min_three max_four min_four   -- for this text's walks alone
set_option linter.unusedVariables false
set_option linter.unusedSimpArgs false
def impl_NearSend.f (k : Nat) (l0_0 : List (S60)) (l0_1 : List (S36)) (a1 : Int) (l2 : List Int) (a3 : Int) : Option ((List (S60)) × (List (S36)) × Int) := (impl_NearOk.f k l0_0 l0_1).bind fun t137 => (if t137 = true then ((impl_word.f a1).bind fun t138 => (if t138 = true then (if (l2.length : Int) > 64 then (some (([] : List (S60)), ([] : List (S36)), (-1))) else ((impl_in.f a3 0 999980).bind fun t139 => (if t139 = true then ((impl_Near_find.f l0_0 l0_1 a1 a3).bind fun t140 => (if t140 ≥ 0 then ((impl_Near_copy.f k l0_0 l0_1).bind fun bt141 => (some (bt141.1, bt141.2, t140))) else ((impl_Near_copy.f k l0_0 l0_1).bind fun bt147 => (if bt147.2.length < 4398046511104 then ((some (bt147.2 ++ [(⟨a1, l2⟩ : S36)] : List (S36))).bind fun y154 => (if 0 ≤ (mx 0 (wrap64 ((y154.length : Int) - 4))) then (if (mx 0 (wrap64 ((y154.length : Int) - 4))) ≤ (y154.length : Int) then ((impl_Near_copy.f k bt147.1 (y154.drop ((mx 0 (wrap64 ((y154.length : Int) - 4))) : Int).toNat)).bind fun bt162 => (some (bt162.1, bt162.2, (-1)))) else (none)) else (none))) else (none))))) else (some (([] : List (S60)), ([] : List (S36)), (-1)))))) else (some (([] : List (S60)), ([] : List (S36)), (-1))))) else (some (([] : List (S60)), ([] : List (S36)), (-1))))
theorem impl_NearSend.mono : ∀ a0 a1 a2 a3 a4 k, LeO (impl_NearSend.f k a0 a1 a2 a3 a4) (impl_NearSend.f (k + 1) a0 a1 a2 a3 a4) := by
 intro a0 a1 a2 a3 a4 k
 unfold impl_NearSend.f
 repeat' first | (with_reducible first | apply impl_NearOk.mono | apply impl_Near_copy.mono | exact LeO.refl _ | exact LeO.none _ | refine LeO.ite ?_ ?_ | refine LeO.bind ?_ fun _ => ?_) | apply impl_NearOk.mono | apply impl_Near_copy.mono | exact LeO.none _ | refine LeO.ite ?_ ?_ | refine LeO.bind ?_ fun _ => ?_
set_option maxHeartbeats 8000000 in
set_option maxRecDepth 100000 in
theorem impl_NearSend.callsV (k : Nat) (A0_0 : Option Addr) (c0_0 : Nat) (l0_0 : List (S60)) (A0_1 : Option Addr) (c0_1 : Nat) (l0_1 : List (S36)) (a1 : Int) (P2_ : Nat → Prop) (A2 : Option Addr) (c2 : Nat) (l2 : List Int) (a3 : Int) (r1 : List (S60)) (r2 : List (S36)) (r3 : Int) (w : World) (hr0_0 : Kd.C k60 w A0_0 l0_0.length l0_0) (hc0_0 : l0_0.length ≤ c0_0) (hr0_1 : Kd.C k36 w A0_1 l0_1.length l0_1) (hc0_1 : l0_1.length ≤ c0_1) (hs2 : Kd.V (Kd.int .u8) 5 w w.heap.size (fun k_ => P2_ k_) (.slice A2 l2.length c2) l2) (h : impl_NearSend.f k l0_0 l0_1 a1 l2 a3 = some (r1, r2, r3)) :
  Calls Try.prog 6 #[.agg #[.slice A0_0 l0_0.length c0_0, .slice A0_1 l0_1.length c0_1], .int .i64 a1, .slice A2 l2.length c2, .int .i64 a3] w fun e w' => ∃ v0_ v1_ : Value, e = .returned (.tuple #[.agg #[v0_, v1_], .int .i64 r3]) ∧ Kd.R k60 60 w' w.heap.size (fun k_ => (w.heap.size ≤ k_)) v0_ r1 ∧ Kd.S k36 36 w' w.heap.size (fun k_ => (w.heap.size ≤ k_)) v1_ r2 ∧ Below w.heap.size w w' := by
 have hu26 := Try.underlying26; have hu36 := Try.underlying36; have HR0_0 := Aside0.mk hr0_0; have HC0_0 := Aside0.mk hc0_0; clear hr0_0 hc0_0; have HR0_1 := Aside0.mk hr0_1; have HC0_1 := Aside0.mk hc0_1; clear hr0_1 hc0_1
 have HO2 := Aside0.mk (show Kd.V (Kd.int .u8) 5 w w.heap.size (fun k_ => (P2_ k_ ∨ w.heap.size ≤ k_)) (.slice A2 l2.length c2) l2 from Kd.V_mono hs2 (fun k_ hk => .inl hk))
 have HB := Aside0.mk (Below.refl w.heap.size w)
 have H : ((impl_NearOk.f k l0_0 l0_1).bind fun t137 => (if t137 = true then ((impl_word.f a1).bind fun t138 => (if t138 = true then (if (l2.length : Int) > 64 then (some (([] : List (S60)), ([] : List (S36)), (-1))) else ((impl_in.f a3 0 999980).bind fun t139 => (if t139 = true then ((impl_Near_find.f l0_0 l0_1 a1 a3).bind fun t140 => (if t140 ≥ 0 then ((impl_Near_copy.f k l0_0 l0_1).bind fun bt141 => (some (bt141.1, bt141.2, t140))) else ((impl_Near_copy.f k l0_0 l0_1).bind fun bt147 => (if bt147.2.length < 4398046511104 then ((some (bt147.2 ++ [(⟨a1, l2⟩ : S36)] : List (S36))).bind fun y154 => (if 0 ≤ (mx 0 (wrap64 ((y154.length : Int) - 4))) then (if (mx 0 (wrap64 ((y154.length : Int) - 4))) ≤ (y154.length : Int) then ((impl_Near_copy.f k bt147.1 (y154.drop ((mx 0 (wrap64 ((y154.length : Int) - 4))) : Int).toNat)).bind fun bt162 => (some (bt162.1, bt162.2, (-1)))) else (none)) else (none))) else (none))))) else (some (([] : List (S60)), ([] : List (S36)), (-1)))))) else (some (([] : List (S60)), ([] : List (S36)), (-1))))) else (some (([] : List (S60)), ([] : List (S36)), (-1))))) = some (r1, r2, r3) := h
 clear h
 replace H := Option.bind_eq_some_iff.mp H
 obtain ⟨t137, A50, H⟩ := H
 (try dsimp only at H)
 have A5 := Aside0.mk A50; clear A50
 by_cases c6 : t137 = true
 ·subst c6
  rw [if_pos rfl] at H
  replace H := Option.bind_eq_some_iff.mp H
  obtain ⟨t138, A70, H⟩ := H
  (try dsimp only at H)
  have A7 := Aside0.mk A70; clear A70
  by_cases c8 : t138 = true
  ·subst c8
   rw [if_pos rfl] at H
   by_cases c9 : (l2.length : Int) > 64
   ·rw [if_pos c9] at H
    have c9b0 : decide (64 < (l2.length : Int)) = true := decide_eq_true c9
    have c9b1 : decide (64 < l2.length) = true := decide_eq_true (by omega)
    clear c9
    simp only [Option.some.injEq, Prod.mk.injEq] at H
    obtain ⟨rfl, rfl, rfl⟩ := H
    go_enter Try.func6, Try.ntmps6
    go_wp2_with (first | ((with_reducible refine gate_dst (N := 4) rfl ?_); (try (refine gate_guard (by rfl) ?_; dsimp only)); refine box_ (N := 4) (cs := #[.slice A0_0 l0_0.length c0_0, .slice A0_1 l0_1.length c0_1]) (t := 26) (fun gb135 hg w10 hbox hb => ?_); replace HO2 := Aside0.mk (Kd.V_below (Kd.V_elderB (kV_ HO2.out) gb135 (Nat.le_of_eq hg.symm)) hb); have BK135 := Aside0.mk (hbox); have GW135 := ge_ hg HB; have GE135 := ge_ hg HB; replace HB := (bs_ HB hb); clear hb hbox hg) | ((with_reducible refine gate_dst (N := 8) rfl ?_); (try (refine gate_guard (by rfl) ?_; dsimp only)); refine box_ (N := 8) (cs := #[.slice none 0 0, .slice none 0 0]) (t := 26) (fun gb136 hg w11 hbox hb => ?_); replace HO2 := Aside0.mk (Kd.V_below (Kd.V_elderB (kV_ HO2.out) gb136 (Nat.le_of_eq hg.symm)) hb); have BK136 := Aside0.mk (hbox); have GW136 := ge_ hg HB; have GE136 := ge_ hg HB; replace HB := (bs_ HB hb); have NB135_136 := nl_ hg BK135; have NB136_135 := ng_ hg BK135; replace BK135 := (bbA_ BK135 hb); clear hb hbox hg; have hnb12 := NB135_136.out; have hnc12 := NB136_135.out; have Z13 := zz2 BK135) | ((with_reducible refine gate_callee (f := 9) rfl ?_); refine goesL_ (some 13) rfl rfl Try.func9 (by kernel_rfl) rfl #[.agg #[.slice A0_0 l0_0.length c0_0, .slice A0_1 l0_1.length c0_1]] rfl ar_ ?_; (with_reducible refine (impl_NearOk.calls k _ _ l0_0 _ _ l0_1 true _ ?side1 ?side2 ?side3 ?side4 A5.out).mono ?_); (case side1 => exact kC_ (Kd.C_below HR0_0.out HB.out)); (case side2 => exact HC0_0.out); (case side3 => exact kC_ (Kd.C_below HR0_1.out HB.out)); (case side4 => exact HC0_1.out); rintro e w14 ⟨rfl, hb⟩; refine ⟨_, rfl, ?_⟩; replace HO2 := Aside0.mk (Kd.V_below (kV_ HO2.out) hb); replace BK135 := (bbA_ BK135 hb); replace BK136 := (bbA_ BK136 hb); replace HB := (bs_ HB hb); (try clear hb); (try clear hb2); (try clear hk); (try clear hi)) | (go_at_call 25; (with_reducible refine (impl_word.calls a1 true _ A7.out).mono ?_); rintro e w' ⟨rfl, ⟨nd, rfl⟩⟩; (try ((try simp only [World.drewN_drewN]); rw [drewN_self w14]; generalize hq_ : World.drewN w14 _ = w14; have n0_ : Aside0 (Kd.V (Kd.int .u8) 5 w14 w.heap.size (fun k_ => ((((P2_ k_ ∨ w.heap.size ≤ k_)) ∧ k_ ≠ gb135) ∧ k_ ≠ gb136)) (.slice A2 l2.length c2) l2) := ⟨by rw [← hq_]; exact (kV_ HO2.out)⟩; have n1_ : Aside0 (w14.heap[gb135]? = some (.cells #[.slice A0_0 l0_0.length c0_0, .slice A0_1 l0_1.length c0_1] 26 (0, 0))) := ⟨by rw [← hq_]; exact (kb_ BK135.out)⟩; have n2_ : Aside0 (w14.heap[gb136]? = some (.cells #[.slice none 0 0, .slice none 0 0] 26 (0, 0))) := ⟨by rw [← hq_]; exact (kb_ BK136.out)⟩; have n3_ : Aside0 (Below w.heap.size w w14) := ⟨by rw [← hq_]; exact (hbA_ HB.out)⟩; clear HO2 BK135 BK136 HB hq_; have HO2 := n0_; have BK135 := n1_; have BK136 := n2_; have HB := n3_; clear n0_ n1_ n2_ n3_)); have Z15 := zz2 BK136))
    refine bodyPost_ret (results_ct rfl _ _ gb136 26 #[.slice none 0 0, .slice none 0 0] (0, 0) _ rfl (by refine kb_ ?_; refine pz2 (cs := #[.slice none 0 0, .slice none 0 0]) ?_; refine kb_ ?_; exact BK136.out) Try.underlying26 rfl (by kernel_rfl)) rfl ?_
    exact ⟨_, _, by first | rfl | (simp [errW_none, errW_some] <;> rfl) | (simp [*, errW_none, errW_some] <;> rfl), by first | exact Kd.R_nil _ _ _ _ _ | exact Kd.N_nil _ _ _ _ _ | exact Kd.V_nil _ _ _ _ _ | exact Kd.Q_nil _ _ _ _ _ | exact Kd.S_nil _ _ _ _ _, by first | exact Kd.S_nil _ _ _ _ _ | exact Kd.N_nil _ _ _ _ _ | exact Kd.V_nil _ _ _ _ _ | exact Kd.Q_nil _ _ _ _ _ | exact Kd.R_nil _ _ _ _ _, hbA_ HB.out⟩
   ·rw [if_neg c9] at H
    have c9b0 : decide (64 < (l2.length : Int)) = false := decide_eq_false c9
    have c9b1 : decide (64 < l2.length) = false := decide_eq_false (by omega)
    clear c9
    replace H := Option.bind_eq_some_iff.mp H
    obtain ⟨t139, A160, H⟩ := H
    (try dsimp only at H)
    have A16 := Aside0.mk A160; clear A160
    by_cases c17 : t139 = true
    ·subst c17
     rw [if_pos rfl] at H
     replace H := Option.bind_eq_some_iff.mp H
     obtain ⟨t140, A180, H⟩ := H
     (try dsimp only at H)
     have A18 := Aside0.mk A180; clear A180
     by_cases c19 : t140 ≥ 0
     ·rw [if_pos c19] at H
      have c19b0 : decide (0 ≤ t140) = true := decide_eq_true c19
      clear c19
      replace H := Option.bind_eq_some_iff.mp H
      obtain ⟨⟨t141, t144⟩, A200, H⟩ := H
      (try dsimp only at H)
      have A20 := Aside0.mk A200; clear A200
      simp only [Option.some.injEq, Prod.mk.injEq] at H
      obtain ⟨rfl, rfl, rfl⟩ := H
      go_enter Try.func6, Try.ntmps6
      go_wp2_with (first | ((with_reducible refine gate_dst (N := 4) rfl ?_); (try (refine gate_guard (by rfl) ?_; dsimp only)); refine box_ (N := 4) (cs := #[.slice A0_0 l0_0.length c0_0, .slice A0_1 l0_1.length c0_1]) (t := 26) (fun gb135 hg w21 hbox hb => ?_); replace HO2 := Aside0.mk (Kd.V_below (Kd.V_elderB (kV_ HO2.out) gb135 (Nat.le_of_eq hg.symm)) hb); have BK135 := Aside0.mk (hbox); have GW135 := ge_ hg HB; have GE135 := ge_ hg HB; replace HB := (bs_ HB hb); clear hb hbox hg) | ((with_reducible refine gate_dst (N := 8) rfl ?_); (try (refine gate_guard (by rfl) ?_; dsimp only)); refine box_ (N := 8) (cs := #[.slice none 0 0, .slice none 0 0]) (t := 26) (fun gb136 hg w22 hbox hb => ?_); replace HO2 := Aside0.mk (Kd.V_below (Kd.V_elderB (kV_ HO2.out) gb136 (Nat.le_of_eq hg.symm)) hb); have BK136 := Aside0.mk (hbox); have GW136 := ge_ hg HB; have GE136 := ge_ hg HB; replace HB := (bs_ HB hb); have NB135_136 := nl_ hg BK135; have NB136_135 := ng_ hg BK135; replace BK135 := (bbA_ BK135 hb); clear hb hbox hg; have hnb23 := NB135_136.out; have hnc23 := NB136_135.out; have Z24 := zz2 BK135) | ((with_reducible refine gate_callee (f := 9) rfl ?_); refine goesL_ (some 13) rfl rfl Try.func9 (by kernel_rfl) rfl #[.agg #[.slice A0_0 l0_0.length c0_0, .slice A0_1 l0_1.length c0_1]] rfl ar_ ?_; (with_reducible refine (impl_NearOk.calls k _ _ l0_0 _ _ l0_1 true _ ?side1 ?side2 ?side3 ?side4 A5.out).mono ?_); (case side1 => exact kC_ (Kd.C_below HR0_0.out HB.out)); (case side2 => exact HC0_0.out); (case side3 => exact kC_ (Kd.C_below HR0_1.out HB.out)); (case side4 => exact HC0_1.out); rintro e w25 ⟨rfl, hb⟩; refine ⟨_, rfl, ?_⟩; replace HO2 := Aside0.mk (Kd.V_below (kV_ HO2.out) hb); replace BK135 := (bbA_ BK135 hb); replace BK136 := (bbA_ BK136 hb); replace HB := (bs_ HB hb); (try clear hb); (try clear hb2); (try clear hk); (try clear hi)) | (go_at_call 25; (with_reducible refine (impl_word.calls a1 true _ A7.out).mono ?_); rintro e w' ⟨rfl, ⟨nd, rfl⟩⟩; (try ((try simp only [World.drewN_drewN]); rw [drewN_self w25]; generalize hq_ : World.drewN w25 _ = w25; have n0_ : Aside0 (Kd.V (Kd.int .u8) 5 w25 w.heap.size (fun k_ => ((((P2_ k_ ∨ w.heap.size ≤ k_)) ∧ k_ ≠ gb135) ∧ k_ ≠ gb136)) (.slice A2 l2.length c2) l2) := ⟨by rw [← hq_]; exact (kV_ HO2.out)⟩; have n1_ : Aside0 (w25.heap[gb135]? = some (.cells #[.slice A0_0 l0_0.length c0_0, .slice A0_1 l0_1.length c0_1] 26 (0, 0))) := ⟨by rw [← hq_]; exact (kb_ BK135.out)⟩; have n2_ : Aside0 (w25.heap[gb136]? = some (.cells #[.slice none 0 0, .slice none 0 0] 26 (0, 0))) := ⟨by rw [← hq_]; exact (kb_ BK136.out)⟩; have n3_ : Aside0 (Below w.heap.size w w25) := ⟨by rw [← hq_]; exact (hbA_ HB.out)⟩; clear HO2 BK135 BK136 HB hq_; have HO2 := n0_; have BK135 := n1_; have BK136 := n2_; have HB := n3_; clear n0_ n1_ n2_ n3_))) | (go_at_call 26; (with_reducible refine (impl_in.calls a3 0 999980 true _ A16.out).mono ?_); rintro e w' ⟨rfl, ⟨nd, rfl⟩⟩; (try ((try simp only [World.drewN_drewN]); rw [drewN_self w25]; generalize hq_ : World.drewN w25 _ = w25; have n0_ : Aside0 (Kd.V (Kd.int .u8) 5 w25 w.heap.size (fun k_ => ((((P2_ k_ ∨ w.heap.size ≤ k_)) ∧ k_ ≠ gb135) ∧ k_ ≠ gb136)) (.slice A2 l2.length c2) l2) := ⟨by rw [← hq_]; exact (kV_ HO2.out)⟩; have n1_ : Aside0 (w25.heap[gb135]? = some (.cells #[.slice A0_0 l0_0.length c0_0, .slice A0_1 l0_1.length c0_1] 26 (0, 0))) := ⟨by rw [← hq_]; exact (kb_ BK135.out)⟩; have n2_ : Aside0 (w25.heap[gb136]? = some (.cells #[.slice none 0 0, .slice none 0 0] 26 (0, 0))) := ⟨by rw [← hq_]; exact (kb_ BK136.out)⟩; have n3_ : Aside0 (Below w.heap.size w w25) := ⟨by rw [← hq_]; exact (hbA_ HB.out)⟩; clear HO2 BK135 BK136 HB hq_; have HO2 := n0_; have BK135 := n1_; have BK136 := n2_; have HB := n3_; clear n0_ n1_ n2_ n3_)); have Z26 := zz2 BK135) | ((with_reducible refine gate_callee (f := 27) rfl ?_); refine goesL_ (some 34) rfl rfl Try.func27 (by kernel_rfl) rfl #[.agg #[.slice A0_0 l0_0.length c0_0, .slice A0_1 l0_1.length c0_1], .int .i64 a1, .int .i64 a3] rfl ar_ ?_; (with_reducible refine (impl_Near_find.calls _ _ l0_0 _ _ l0_1 a1 a3 t140 _ ?side1 ?side2 ?side3 ?side4 A18.out).mono ?_); (case side1 => exact kC_ (Kd.C_below HR0_0.out HB.out)); (case side2 => exact HC0_0.out); (case side3 => exact kC_ (Kd.C_below HR0_1.out HB.out)); (case side4 => exact HC0_1.out); rintro e w27 ⟨rfl, hb⟩; refine ⟨_, rfl, ?_⟩; replace HO2 := Aside0.mk (Kd.V_below (kV_ HO2.out) hb); replace BK135 := (bbA_ BK135 hb); replace BK136 := (bbA_ BK136 hb); replace HB := (bs_ HB hb); (try clear hb); (try clear hb2); (try clear hk); (try clear hi); have Z28 := zz2 BK135) | ((with_reducible refine gate_callee (f := 28) rfl ?_); refine goesL_ (some 38) rfl rfl Try.func28 (by kernel_rfl) rfl #[.agg #[.slice A0_0 l0_0.length c0_0, .slice A0_1 l0_1.length c0_1]] rfl ar_ ?_; (with_reducible refine (impl_Near_copy.calls k _ _ l0_0 _ _ l0_1 t141 t144 _ ?side1 ?side2 ?side3 ?side4 A20.out).mono ?_); (case side1 => exact kC_ (Kd.C_below HR0_0.out HB.out)); (case side2 => exact HC0_0.out); (case side3 => exact kC_ (Kd.C_below HR0_1.out HB.out)); (case side4 => exact HC0_1.out); rintro e w29 ⟨v142, v145, rfl, ho0, ho1, hb⟩; refine ⟨_, rfl, ?_⟩; obtain ⟨lo168, hi168, elo168, ehi168⟩ := gr_open hb; replace HO2 := Aside0.mk (Kd.V_mono (Kd.V_told (Kd.V_told (Kd.V_old (kV_ HO2.out) hb) (Kd.R_base ho0)) (Kd.base_ ho1)) (fun _ h_ => op1_ h_)); have HO143 := Aside0.mk (Kd.R_lower (Kd.R_newM (M := fun k_ => (w.heap.size ≤ k_)) ho0 (below_size (hbA_ HB.out)) (fun k_ h_ => h_)) (below_size (hbA_ HB.out))); have HO146 := Aside0.mk (Kd.N_lower (Kd.N_mono (ok' := fun k_ => (P2_ k_ ∨ w.heap.size ≤ k_) ∧ some k_ ≠ (v142 : Value).ownBlock ∧ k_ ≠ gb135 ∧ k_ ≠ gb136) (Kd.S_N (Kd.S_bound (Kd.S_apart' ho1 (Kd.R_typed ho0) (by decide)))) (fun k_ hk_ => ⟨(.inr (Nat.le_trans (below_size (hbA_ HB.out)) hk_.2.1)), hk_.1.2, (fb_ BK135 k_ hk_.2.1), (fb_ BK136 k_ hk_.2.1)⟩)) (below_size (hbA_ HB.out))); have GS168 := Aside0.mk (Kd.S_lower (gr_S2 elo168 ehi168 ho1) (below_size (hbA_ HB.out))); have HZ168 := Aside0.mk (Nat.le_of_eq ehi168.out); have WL168 := Aside0.mk (zb_ elo168 (below_size (hbA_ HB.out))); have BX168_135 := Aside0.mk (zx_ (g := gb135) (hi := hi168) elo168 (kb_ BK135.out)); replace BK135 := (bbA_ BK135 hb); have BX168_136 := Aside0.mk (zx_ (g := gb136) (hi := hi168) elo168 (kb_ BK136.out)); replace BK136 := (bbA_ BK136 hb); replace HB := (bs_ HB hb); (try clear hb); (try clear hb2); (try clear hk); (try clear hi); (try clear ho0); (try clear ho1); obtain ⟨Ao30, co30, eo30⟩ := Kd.R_slice HO143.out; subst eo30; have Z31 := zz2 BK136; obtain ⟨Ao32, co32, eo32⟩ := Kd.N_slice HO146.out; subst eo32))
      refine bodyPost_ret (results_ct rfl _ _ gb136 26 #[.slice Ao30 t141.length co30, .slice Ao32 t144.length co32] (0, 0) _ rfl (by refine kb_ ?_; refine pz2 (cs := #[.slice none 0 0, .slice none 0 0]) ?_; refine kb_ ?_; exact BK136.out) Try.underlying26 rfl (by kernel_rfl)) rfl ?_
      exact ⟨_, _, by first | rfl | (simp [errW_none, errW_some] <;> rfl) | (simp [*, errW_none, errW_some] <;> rfl), by refine kR_ ?_; exact rfm_ ((Kd.R_types HO143.out BK136.out (by decide))) (fun _ hk => hk.1.1), Kd.S_mono (ok := fun k_ => lo168 ≤ k_ ∧ k_ < hi168) (by refine kS_ ?_; exact (Kd.S_far (p := ⟨gb136, 1, none⟩) (Kd.S_far (p := ⟨gb136, 0, none⟩) GS168.out (fun _ hk => rng_box hk BX168_136.out) (.slice Ao30 t141.length co30)) (fun _ hk => rng_box hk BX168_136.out) (.slice Ao32 t144.length co32))) (fun k_ hk_ => Nat.le_trans WL168.out hk_.1), hbA_ HB.out⟩
     ·rw [if_neg c19] at H
      have c19b0 : decide (0 ≤ t140) = false := decide_eq_false c19
      clear c19
      replace H := Option.bind_eq_some_iff.mp H
      obtain ⟨⟨t147, t150⟩, A330, H⟩ := H
      (try dsimp only at H)
      have A33 := Aside0.mk A330; clear A330
      by_cases c34 : t150.length < 4398046511104
      ·rw [if_pos c34] at H
       have LMc34 := Aside0.mk c34; clear c34
       obtain ⟨y154, hy154⟩ : ∃ y_ : List (S36), y_ = (t150 ++ [(⟨a1, l2⟩ : S36)]) := ⟨_, rfl⟩
       (first | replace H := sb_ hy154 H | rw [← hy154] at H)
       have Ny154 := Aside0.mk hy154; clear hy154
       obtain ⟨ji35, hji35⟩ : ∃ j_ : Int, (mx 0 (wrap64 ((y154.length : Int) - 4))) = j_ := ⟨_, rfl⟩
       (first | rw [hji35] at H | simp only [hji35] at H)
       (try rw [hji35] at A5)
       (try rw [hji35] at A7)
       (try rw [hji35] at A16)
       (try rw [hji35] at A18)
       (try rw [hji35] at A33)
       (try (have hji35l : 0 ≤ ji35 := by (rw [← hji35]; unfold mx; (repeat' split) <;> omega)))
       (try (have hji35m : 0 ≤ ji35 := by omega))
       have hji35_ : (if 0 < (wrap64 ((y154.length : Int) - 4)) then (wrap64 ((y154.length : Int) - 4)) else 0) = ji35 := hji35
       by_cases c36 : 0 ≤ (ji35)
       ·rw [if_pos c36] at H
        have c36b0 := eq_true c36
        have c36b1 : decide (0 ≤ (ji35)) = true := decide_eq_true c36
        clear c36
        by_cases c37 : (ji35) ≤ (y154.length : Int)
        ·rw [if_pos c37] at H
         have c37b0 := eq_true c37
         have c37b1 : decide ((ji35) ≤ (y154.length : Int)) = true := decide_eq_true c37
         clear c37
         obtain ⟨y157, hy157⟩ : ∃ y_ : List (S36), y_ = (y154.drop ((ji35) : Int).toNat) := ⟨_, rfl⟩
         (first | replace H := sb_ hy157 H | rw [← hy157] at H)
         have Ny157 := Aside0.mk hy157; clear hy157
         replace H := Option.bind_eq_some_iff.mp H
         obtain ⟨⟨t162, t165⟩, A380, H⟩ := H
         (try dsimp only at H)
         have A38 := Aside0.mk A380; clear A380
         simp only [Option.some.injEq, Prod.mk.injEq] at H
         obtain ⟨rfl, rfl, rfl⟩ := H
         go_enter Try.func6, Try.ntmps6
         go_wp2_with (first | ((with_reducible refine gate_dst (N := 4) rfl ?_); (try (refine gate_guard (by rfl) ?_; dsimp only)); refine box_ (N := 4) (cs := #[.slice A0_0 l0_0.length c0_0, .slice A0_1 l0_1.length c0_1]) (t := 26) (fun gb135 hg w39 hbox hb => ?_); replace HO2 := Aside0.mk (Kd.V_below (Kd.V_elderB (kV_ HO2.out) gb135 (Nat.le_of_eq hg.symm)) hb); have BK135 := Aside0.mk (hbox); have GW135 := ge_ hg HB; have GE135 := ge_ hg HB; replace HB := (bs_ HB hb); clear hb hbox hg) | ((with_reducible refine gate_dst (N := 8) rfl ?_); (try (refine gate_guard (by rfl) ?_; dsimp only)); refine box_ (N := 8) (cs := #[.slice none 0 0, .slice none 0 0]) (t := 26) (fun gb136 hg w40 hbox hb => ?_); replace HO2 := Aside0.mk (Kd.V_below (Kd.V_elderB (kV_ HO2.out) gb136 (Nat.le_of_eq hg.symm)) hb); have BK136 := Aside0.mk (hbox); have GW136 := ge_ hg HB; have GE136 := ge_ hg HB; replace HB := (bs_ HB hb); have NB135_136 := nl_ hg BK135; have NB136_135 := ng_ hg BK135; replace BK135 := (bbA_ BK135 hb); clear hb hbox hg; have hnb41 := NB135_136.out; have hnc41 := NB136_135.out; have Z42 := zz2 BK135) | ((with_reducible refine gate_callee (f := 9) rfl ?_); refine goesL_ (some 13) rfl rfl Try.func9 (by kernel_rfl) rfl #[.agg #[.slice A0_0 l0_0.length c0_0, .slice A0_1 l0_1.length c0_1]] rfl ar_ ?_; (with_reducible refine (impl_NearOk.calls k _ _ l0_0 _ _ l0_1 true _ ?side1 ?side2 ?side3 ?side4 A5.out).mono ?_); (case side1 => exact kC_ (Kd.C_below HR0_0.out HB.out)); (case side2 => exact HC0_0.out); (case side3 => exact kC_ (Kd.C_below HR0_1.out HB.out)); (case side4 => exact HC0_1.out); rintro e w43 ⟨rfl, hb⟩; refine ⟨_, rfl, ?_⟩; replace HO2 := Aside0.mk (Kd.V_below (kV_ HO2.out) hb); replace BK135 := (bbA_ BK135 hb); replace BK136 := (bbA_ BK136 hb); replace HB := (bs_ HB hb); (try clear hb); (try clear hb2); (try clear hk); (try clear hi)) | (go_at_call 25; (with_reducible refine (impl_word.calls a1 true _ A7.out).mono ?_); rintro e w' ⟨rfl, ⟨nd, rfl⟩⟩; (try ((try simp only [World.drewN_drewN]); rw [drewN_self w43]; generalize hq_ : World.drewN w43 _ = w43; have n0_ : Aside0 (Kd.V (Kd.int .u8) 5 w43 w.heap.size (fun k_ => ((((P2_ k_ ∨ w.heap.size ≤ k_)) ∧ k_ ≠ gb135) ∧ k_ ≠ gb136)) (.slice A2 l2.length c2) l2) := ⟨by rw [← hq_]; exact (kV_ HO2.out)⟩; have n1_ : Aside0 (w43.heap[gb135]? = some (.cells #[.slice A0_0 l0_0.length c0_0, .slice A0_1 l0_1.length c0_1] 26 (0, 0))) := ⟨by rw [← hq_]; exact (kb_ BK135.out)⟩; have n2_ : Aside0 (w43.heap[gb136]? = some (.cells #[.slice none 0 0, .slice none 0 0] 26 (0, 0))) := ⟨by rw [← hq_]; exact (kb_ BK136.out)⟩; have n3_ : Aside0 (Below w.heap.size w w43) := ⟨by rw [← hq_]; exact (hbA_ HB.out)⟩; clear HO2 BK135 BK136 HB hq_; have HO2 := n0_; have BK135 := n1_; have BK136 := n2_; have HB := n3_; clear n0_ n1_ n2_ n3_))) | (go_at_call 26; (with_reducible refine (impl_in.calls a3 0 999980 true _ A16.out).mono ?_); rintro e w' ⟨rfl, ⟨nd, rfl⟩⟩; (try ((try simp only [World.drewN_drewN]); rw [drewN_self w43]; generalize hq_ : World.drewN w43 _ = w43; have n0_ : Aside0 (Kd.V (Kd.int .u8) 5 w43 w.heap.size (fun k_ => ((((P2_ k_ ∨ w.heap.size ≤ k_)) ∧ k_ ≠ gb135) ∧ k_ ≠ gb136)) (.slice A2 l2.length c2) l2) := ⟨by rw [← hq_]; exact (kV_ HO2.out)⟩; have n1_ : Aside0 (w43.heap[gb135]? = some (.cells #[.slice A0_0 l0_0.length c0_0, .slice A0_1 l0_1.length c0_1] 26 (0, 0))) := ⟨by rw [← hq_]; exact (kb_ BK135.out)⟩; have n2_ : Aside0 (w43.heap[gb136]? = some (.cells #[.slice none 0 0, .slice none 0 0] 26 (0, 0))) := ⟨by rw [← hq_]; exact (kb_ BK136.out)⟩; have n3_ : Aside0 (Below w.heap.size w w43) := ⟨by rw [← hq_]; exact (hbA_ HB.out)⟩; clear HO2 BK135 BK136 HB hq_; have HO2 := n0_; have BK135 := n1_; have BK136 := n2_; have HB := n3_; clear n0_ n1_ n2_ n3_)); have Z44 := zz2 BK135) | ((with_reducible refine gate_callee (f := 27) rfl ?_); refine goesL_ (some 34) rfl rfl Try.func27 (by kernel_rfl) rfl #[.agg #[.slice A0_0 l0_0.length c0_0, .slice A0_1 l0_1.length c0_1], .int .i64 a1, .int .i64 a3] rfl ar_ ?_; (with_reducible refine (impl_Near_find.calls _ _ l0_0 _ _ l0_1 a1 a3 t140 _ ?side1 ?side2 ?side3 ?side4 A18.out).mono ?_); (case side1 => exact kC_ (Kd.C_below HR0_0.out HB.out)); (case side2 => exact HC0_0.out); (case side3 => exact kC_ (Kd.C_below HR0_1.out HB.out)); (case side4 => exact HC0_1.out); rintro e w45 ⟨rfl, hb⟩; refine ⟨_, rfl, ?_⟩; replace HO2 := Aside0.mk (Kd.V_below (kV_ HO2.out) hb); replace BK135 := (bbA_ BK135 hb); replace BK136 := (bbA_ BK136 hb); replace HB := (bs_ HB hb); (try clear hb); (try clear hb2); (try clear hk); (try clear hi); have Z46 := zz2 BK135) | ((with_reducible refine gate_callee (f := 28) rfl ?_); refine goesL_ (some 41) rfl rfl Try.func28 (by kernel_rfl) rfl #[.agg #[.slice A0_0 l0_0.length c0_0, .slice A0_1 l0_1.length c0_1]] rfl ar_ ?_; (with_reducible refine (impl_Near_copy.calls k _ _ l0_0 _ _ l0_1 t147 t150 _ ?side1 ?side2 ?side3 ?side4 A33.out).mono ?_); (case side1 => exact kC_ (Kd.C_below HR0_0.out HB.out)); (case side2 => exact HC0_0.out); (case side3 => exact kC_ (Kd.C_below HR0_1.out HB.out)); (case side4 => exact HC0_1.out); rintro e w47 ⟨v148, v151, rfl, ho0, ho1, hb⟩; refine ⟨_, rfl, ?_⟩; obtain ⟨lo169, hi169, elo169, ehi169⟩ := gr_open hb; replace HO2 := Aside0.mk (Kd.V_mono (Kd.V_told (Kd.V_told (Kd.V_old (kV_ HO2.out) hb) (Kd.R_base ho0)) (Kd.base_ ho1)) (fun _ h_ => op1_ h_)); have HO149 := Aside0.mk (Kd.R_lower (Kd.R_newM (M := fun k_ => (w.heap.size ≤ k_)) ho0 (below_size (hbA_ HB.out)) (fun k_ h_ => h_)) (below_size (hbA_ HB.out))); have HO152 := Aside0.mk (Kd.N_lower (Kd.N_mono (ok' := fun k_ => (P2_ k_ ∨ w.heap.size ≤ k_) ∧ some k_ ≠ (v148 : Value).ownBlock ∧ k_ ≠ gb135 ∧ k_ ≠ gb136) (Kd.S_N (Kd.S_bound (Kd.S_apart' ho1 (Kd.R_typed ho0) (by decide)))) (fun k_ hk_ => ⟨(.inr (Nat.le_trans (below_size (hbA_ HB.out)) hk_.2.1)), hk_.1.2, (fb_ BK135 k_ hk_.2.1), (fb_ BK136 k_ hk_.2.1)⟩)) (below_size (hbA_ HB.out))); have GS169 := Aside0.mk (Kd.S_lower (gr_S2 elo169 ehi169 ho1) (below_size (hbA_ HB.out))); have HZ169 := Aside0.mk (Nat.le_of_eq ehi169.out); have WL169 := Aside0.mk (zb_ elo169 (below_size (hbA_ HB.out))); have BX169_135 := Aside0.mk (zx_ (g := gb135) (hi := hi169) elo169 (kb_ BK135.out)); replace BK135 := (bbA_ BK135 hb); have BX169_136 := Aside0.mk (zx_ (g := gb136) (hi := hi169) elo169 (kb_ BK136.out)); replace BK136 := (bbA_ BK136 hb); replace HB := (bs_ HB hb); (try clear hb); (try clear hb2); (try clear hk); (try clear hi); (try clear ho0); (try clear ho1)) | ((with_reducible refine gate_dst (N := 11) rfl ?_); (try (refine gate_guard (by rfl) ?_; dsimp only)); refine box_ (N := 11) (cs := #[.slice none 0 0, .slice none 0 0]) (t := 26) (fun gb153 hg w48 hbox hb => ?_); replace HO2 := Aside0.mk (Kd.V_below (Kd.V_elderB (kV_ HO2.out) gb153 (Nat.le_of_eq hg.symm)) hb); replace HO149 := Aside0.mk (Kd.R_below (kR_ HO149.out) hb); replace HO152 := Aside0.mk (Kd.N_below (Kd.N_elderB (kN_ HO152.out) gb153 (Nat.le_of_eq hg.symm)) hb); have BK153 := Aside0.mk (hbox); have GW153 := ge_ hg HB; have GE153 := ge_ hg HB; replace HB := (bs_ HB hb); have NB135_153 := nl_ hg BK135; have NB153_135 := ng_ hg BK135; replace BK135 := (bbA_ BK135 hb); have NB136_153 := nl_ hg BK136; have NB153_136 := ng_ hg BK136; replace BK136 := (bbA_ BK136 hb); have BX169_153 := Aside0.mk ((Or.inl (zl_ HZ169 ⟨hg⟩) : hi169 ≤ gb153 ∨ gb153 + 1 ≤ lo169)); replace GS169 := Aside0.mk (Kd.S_below (kS_ GS169.out) hb); replace HZ169 := Aside0.mk (zs_ HZ169 hb); clear hb hbox hg; obtain ⟨Ao49, co49, eo49⟩ := Kd.R_slice HO149.out; subst eo49; have hnb50 := NB153_135.out; have hnc50 := NB135_153.out; have hnb51 := NB153_136.out; have hnc51 := NB136_153.out; have Z52 := zz2 BK153; obtain ⟨Ao53, co53, eo53⟩ := Kd.N_slice HO152.out; subst eo53) | ((with_reducible refine gate_store (t := 26) (p := 11) rfl ?_); refine store_event (t := 26) (p := 11) (v := ?vo_w54) (w1 := ((w48.setCell ⟨gb153, 0, none⟩ (.slice Ao49 t147.length co49)).setCell ⟨gb153, 1, none⟩ (.slice Ao53 t150.length co53))) ?hg ?ho ?hn ?hr ?_; (case ho => rfl); (case hg => rfl); (case hn => rfl); (case hr => first | (go_simp; done) | (go_simp; rfl)); intro w54 hw; have n0_ : Aside0 (Kd.V (Kd.int .u8) 5 w54 w.heap.size (fun k_ => (P2_ k_ ∨ w.heap.size ≤ k_) ∧ some k_ ≠ (.slice Ao49 t147.length co49 : Value).ownBlock ∧ some k_ ≠ (.slice Ao53 t150.length co53 : Value).ownBlock ∧ k_ ≠ gb135 ∧ k_ ≠ gb136 ∧ k_ ≠ gb153) (.slice A2 l2.length c2) l2) := ⟨(by rw [hw]; exact (by refine kV_ ?_; exact nfV_ gb153 HO2.out (fun _ hk => hk.2) (fun _ hk => ⟨hk.1.1.1.1.1.1, ⟨hk.1.1.1.2, ⟨hk.1.1.2, ⟨hk.1.1.1.1.1.2, ⟨hk.1.1.1.1.2, hk.1.2⟩⟩⟩⟩⟩)))⟩; have n1_ : Aside0 (Kd.R k60 60 w54 w.heap.size (fun k_ => (w.heap.size ≤ k_)) (.slice Ao49 t147.length co49) t147) := ⟨(by rw [hw]; exact (by refine kR_ ?_; exact rfm_ ((Kd.R_types HO149.out BK153.out (by decide))) (fun _ hk => hk.1.1)))⟩; have n2_ : Aside0 (Kd.N k36 36 w54 w.heap.size (fun k_ => (P2_ k_ ∨ w.heap.size ≤ k_) ∧ some k_ ≠ (.slice Ao49 t147.length co49 : Value).ownBlock ∧ k_ ≠ gb135 ∧ k_ ≠ gb136 ∧ k_ ≠ gb153) (.slice Ao53 t150.length co53) t150) := ⟨(by rw [hw]; exact (by refine kN_ ?_; exact nfN_ gb153 HO152.out (fun _ hk => hk.2) (fun _ hk => ⟨hk.1.1.1, ⟨hk.1.1.2.1, ⟨hk.1.1.2.2.1, ⟨hk.1.1.2.2.2, hk.1.2⟩⟩⟩⟩)))⟩; have n3_ : Aside0 (w54.heap[gb135]? = some (.cells #[.slice A0_0 l0_0.length c0_0, .slice A0_1 l0_1.length c0_1] 26 (0, 0))) := ⟨(by rw [hw]; exact (by exact kf_ BK135.out))⟩; have n4_ : Aside0 (w54.heap[gb136]? = some (.cells #[.slice none 0 0, .slice none 0 0] 26 (0, 0))) := ⟨(by rw [hw]; exact (by exact kf_ BK136.out))⟩; have n5_ : Aside0 (w54.heap[gb153]? = some (.cells #[.slice Ao49 t147.length co49, .slice Ao53 t150.length co53] 26 (0, 0))) := ⟨(by rw [hw]; exact (by refine kb_ ?_; refine pz2 (cs := #[.slice none 0 0, .slice none 0 0]) ?_; refine kb_ ?_; exact BK153.out))⟩; have n6_ : Aside0 (Below w.heap.size w w54) := ⟨(by rw [hw]; exact (hbA_ HB.out))⟩; have n7_ : Aside0 (Kd.S k36 36 w54 w.heap.size (fun k_ => lo169 ≤ k_ ∧ k_ < hi169) (.slice Ao53 t150.length co53) t150) := ⟨(by rw [hw]; exact (by refine kS_ ?_; exact (Kd.S_far (p := ⟨gb153, 1, none⟩) (Kd.S_far (p := ⟨gb153, 0, none⟩) GS169.out (fun _ hk => rng_box hk BX169_153.out) (.slice Ao49 t147.length co49)) (fun _ hk => rng_box hk BX169_153.out) (.slice Ao53 t150.length co53))))⟩; have n8_ : Aside0 (hi169 ≤ w54.heap.size) := ⟨(by rw [hw]; exact (hz_ HZ169))⟩; clear hw; clear HO2; clear HO149; clear HO152; clear BK135; clear BK136; clear BK153; clear HB; clear GS169; clear HZ169; have HO2 := n0_; have HO149 := n1_; have HO152 := n2_; have BK135 := n3_; have BK136 := n4_; have BK153 := n5_; have HB := n6_; have GS169 := n7_; have HZ169 := n8_; clear n0_ n1_ n2_ n3_ n4_ n5_ n6_ n7_ n8_; have Z55 := zz2 BK153) | ((with_reducible refine gate_builtin (b := .append) (xs := #[.tmp 43, .tmp 47]) rfl ?_); (try (refine gate_guard (by rfl) ?_; dsimp only)); at_builtin; refine Kd.N_append k36 (w0 := w) w.heap.size rfl (.tmp 43) (.tmp 47) 24 36 (.agg #[(.int .i64 0), (.slice none 0 0)]) 32 rfl Try.underlying24 info36 rfl (by decide) (by omega) (.slice Ao53 t150.length co53) t150 (⟨a1, l2⟩ : S36) [.int .i64 a1, .slice A2 l2.length c2] (fun k_ => (P2_ k_ ∨ w.heap.size ≤ k_) ∧ some k_ ≠ (.slice Ao49 t147.length co49 : Value).ownBlock ∧ k_ ≠ gb135 ∧ k_ ≠ gb136 ∧ k_ ≠ gb153) (fun k_ => ((fun k_ => (P2_ k_ ∨ w.heap.size ≤ k_) ∧ some k_ ≠ (.slice Ao49 t147.length co49 : Value).ownBlock ∧ k_ ≠ gb135 ∧ k_ ≠ gb136 ∧ k_ ≠ gb153)) k_ ∧ some k_ ≠ (.slice Ao53 t150.length co53 : Value).ownBlock) rfl rfl ?aP (fun _ hk => hk) ?aF ?aO ?aB ?aS ?aL ?_; (case aP => exact (k36_mkF _ _ (⟨a1, l2⟩ : S36) (Kd.V_reads' (Kd.V_mono (ok' := (fun k_ => ((fun k_ => (P2_ k_ ∨ w.heap.size ≤ k_) ∧ some k_ ≠ (.slice Ao49 t147.length co49 : Value).ownBlock ∧ k_ ≠ gb135 ∧ k_ ≠ gb136 ∧ k_ ≠ gb153)) k_ ∧ some k_ ≠ (.slice Ao53 t150.length co53 : Value).ownBlock)) (HO2.out) (fun k_ hk => ⟨⟨hk.1, ⟨hk.2.1, ⟨hk.2.2.2.1, ⟨hk.2.2.2.2.1, hk.2.2.2.2.2⟩⟩⟩⟩, hk.2.2.1⟩))).2.1 (Kd.V_F (Kd.V_mono (ok' := (fun k_ => ((fun k_ => (P2_ k_ ∨ w.heap.size ≤ k_) ∧ some k_ ≠ (.slice Ao49 t147.length co49 : Value).ownBlock ∧ k_ ≠ gb135 ∧ k_ ≠ gb136 ∧ k_ ≠ gb153)) k_ ∧ some k_ ≠ (.slice Ao53 t150.length co53 : Value).ownBlock)) (HO2.out) (fun k_ hk => ⟨⟨hk.1, ⟨hk.2.1, ⟨hk.2.2.2.1, ⟨hk.2.2.2.2.1, hk.2.2.2.2.2⟩⟩⟩⟩, hk.2.2.1⟩))))); (case aB => exact (hbA_ HB.out)); (case aF => exact (fun k_ hk => ⟨(.inr (Nat.le_trans (below_size (hbA_ HB.out)) hk)), Kd.fresh' (Kd.R_lt (kR_ HO149.out)) k_ hk, fb_ BK135 k_ hk, fb_ BK136 k_ hk, fb_ BK153 k_ hk⟩)); (case aO => exact (kN_ HO152.out)); (case aS => exact (below_size (hbA_ HB.out))); (case aL => have := LMc34.out; omega); intro v155 w56 ho hb hg hat; rw [← Ny154.out] at ho; replace HO2 := Aside0.mk (Kd.V_afterv (ok := (fun k_ => (P2_ k_ ∨ w.heap.size ≤ k_) ∧ some k_ ≠ (.slice Ao49 t147.length co49 : Value).ownBlock ∧ k_ ≠ gb135 ∧ k_ ≠ gb136 ∧ k_ ≠ gb153)) (by refine kV_ ?_; exact Kd.V_mono HO2.out (fun _ hk => ⟨⟨hk.1, ⟨hk.2.1, ⟨hk.2.2.2.1, ⟨hk.2.2.2.2.1, hk.2.2.2.2.2⟩⟩⟩⟩, hk.2.2.1⟩)) hg hat); replace BK135 := (bgA_ BK135 hg (Kd.N_ne HO152.out BK135.out (by decide))); replace BK136 := (bgA_ BK136 hg (Kd.N_ne HO152.out BK136.out (by decide))); replace HO149 := Aside0.mk (Kd.R_over' (kR_ HO149.out) (Kd.N_typed (kN_ HO152.out)) (by decide) hg); replace BK153 := (bgA_ BK153 hg (Kd.N_ne HO152.out BK153.out (by decide))); replace HB := Aside0.mk (hb); have HO156 := Aside0.mk (ho); clear HO152; clear ho hb hg hat; obtain ⟨Ao57, co57, eo57⟩ := Kd.N_slice HO156.out; subst eo57; have Z58 := zz2 BK153) | ((with_reducible refine gate_store (t := 24) (p := 49) rfl ?_); refine store_event (t := 24) (p := 49) (v := ?vo_w59) (w1 := (w56.setCell ⟨gb153, 1, none⟩ (.slice Ao57 y154.length co57))) ?hg ?ho ?hn ?hr ?_; (case ho => rfl); (case hg => rfl); (case hn => rfl); (case hr => first | (go_simp; done) | (go_simp; rfl)); intro w59 hw; have n0_ : Aside0 (Kd.V (Kd.int .u8) 5 w59 w.heap.size (fun k_ => (P2_ k_ ∨ w.heap.size ≤ k_) ∧ some k_ ≠ (.slice Ao49 t147.length co49 : Value).ownBlock ∧ some k_ ≠ (.slice Ao57 y154.length co57 : Value).ownBlock ∧ k_ ≠ gb135 ∧ k_ ≠ gb136 ∧ k_ ≠ gb153) (.slice A2 l2.length c2) l2) := ⟨(by rw [hw]; exact (by refine kV_ ?_; exact nfV_ gb153 HO2.out (fun _ hk => hk.1.2.2.2.2) (fun _ hk => ⟨hk.1.1.1, ⟨hk.1.1.2.1, ⟨hk.1.2, ⟨hk.1.1.2.2.1, ⟨hk.1.1.2.2.2.1, hk.1.1.2.2.2.2⟩⟩⟩⟩⟩)))⟩; have n1_ : Aside0 (Kd.R k60 60 w59 w.heap.size (fun k_ => (w.heap.size ≤ k_)) (.slice Ao49 t147.length co49) t147) := ⟨(by rw [hw]; exact (by refine kR_ ?_; exact Kd.R_mono (Kd.R_f gb153 1 (.slice Ao57 y154.length co57) (Kd.R_types HO149.out BK153.out (by decide))) (fun _ hk => hk.1)))⟩; have n2_ : Aside0 (Kd.N k36 36 w59 w.heap.size (fun k_ => (P2_ k_ ∨ w.heap.size ≤ k_) ∧ some k_ ≠ (.slice Ao49 t147.length co49 : Value).ownBlock ∧ k_ ≠ gb135 ∧ k_ ≠ gb136 ∧ k_ ≠ gb153) (.slice Ao57 y154.length co57) y154) := ⟨(by rw [hw]; exact (by refine kN_ ?_; exact nfN_ gb153 HO156.out (fun _ hk => hk.2.2.2.2) (fun _ hk => ⟨hk.1.1, ⟨hk.1.2.1, ⟨hk.1.2.2.1, ⟨hk.1.2.2.2.1, hk.1.2.2.2.2⟩⟩⟩⟩)))⟩; have n3_ : Aside0 (w59.heap[gb135]? = some (.cells #[.slice A0_0 l0_0.length c0_0, .slice A0_1 l0_1.length c0_1] 26 (0, 0))) := ⟨(by rw [hw]; exact (by exact kf_ BK135.out))⟩; have n4_ : Aside0 (w59.heap[gb136]? = some (.cells #[.slice none 0 0, .slice none 0 0] 26 (0, 0))) := ⟨(by rw [hw]; exact (by exact kf_ BK136.out))⟩; have n5_ : Aside0 (w59.heap[gb153]? = some (.cells #[.slice Ao49 t147.length co49, .slice Ao57 y154.length co57] 26 (0, 0))) := ⟨(by rw [hw]; exact (by refine kb_ ?_; refine blk_put (cs := #[.slice Ao49 t147.length co49, .slice Ao53 t150.length co53]) ?_ 1 _ rfl; refine kb_ ?_; exact BK153.out))⟩; have n6_ : Aside0 (Below w.heap.size w w59) := ⟨(by rw [hw]; exact (hbA_ HB.out))⟩; clear hw; clear HO2; clear HO149; clear HO156; clear BK135; clear BK136; clear BK153; clear HB; have HO2 := n0_; have HO149 := n1_; have HO156 := n2_; have BK135 := n3_; have BK136 := n4_; have BK153 := n5_; have HB := n6_; clear n0_ n1_ n2_ n3_ n4_ n5_ n6_; have Z60 := zz2 BK153; have q61 : ((ji35) : Int) ≤ ((y154.length : Int) : Int) := of_decide_eq_true (by first | (with_reducible assumption) | assumption); obtain ⟨i061, hi061, _, hsz61, _⟩ := info_parts info36; have hroom61 : y154.length ≤ co57 := (Kd.N_reads' HO156.out).2.1; have hC61 : Kd.F k36 _ _ Ao57 y154.length y154 := (Kd.V_at (base := w.heap.size) (Kd.N_V HO156.out)).2.2; have q061 : (0 : Int) ≤ ((ji35) : Int) := of_decide_eq_true (by first | (with_reducible assumption) | assumption); have hcut61 := cut_from (P := Try.prog) 24 36 .i64 Try.underlying24 hi061 2 hsz61 Ao57 y154.length co57 (ji35) q061 q61; have hr61 := Kd.F_cut (m := ((ji35) : Int).toNat) (c := co57) hC61 (by omega) hroom61; obtain ⟨A61, hA61⟩ : ∃ A1, A1 = (if co57 = ((ji35) : Int).toNat then Ao57 else (Ao57 : Option Addr).map (·.add (((ji35) : Int).toNat * 2))) := ⟨_, rfl⟩; obtain ⟨c61, hc61⟩ : ∃ c1, c1 = co57 - ((ji35) : Int).toNat := ⟨_, rfl⟩; have hy61 : y157.length = y154.length - ((ji35) : Int).toNat := (by rw [Ny157.out, List.length_drop] <;> omega); rw [show (y154).drop ((ji35) : Int).toNat = y157 from Ny157.out.symm] at hr61; replace hr61 : Kd.F k36 _ _ A61 y157.length y157 := (by rw [hA61]; exact hr61); rw [← hy61, ← hA61, ← hc61] at hcut61; have HO161 := Aside0.mk (show Kd.V k36 36 _ w.heap.size _ (.slice A61 y157.length c61) y157 from Kd.V_mk (by rw [hy61, hc61]; exact Nat.sub_le_sub_right hroom61 _) hr61); have HC161 := Aside0.mk (show y157.length ≤ c61 from by rw [hy61, hc61]; exact Nat.sub_le_sub_right hroom61 _); clear hr61 hC61 hroom61 hi061 hsz61 hc61; have KY61 := Aside0.mk hy61; have KA61 := Aside0.mk hA61; clear hy61 hA61; replace q61 := eq_true q61) | ((with_reducible refine gate_store (t := 24) (p := 58) rfl ?_); refine store_event (t := 24) (p := 58) (v := ?vo_w62) (w1 := (w59.setCell ⟨gb153, 1, none⟩ (.slice A61 y157.length c61))) ?hg ?ho ?hn ?hr ?_; (case ho => rfl); (case hg => rfl); (case hn => rfl); (case hr => first | (go_simp; done) | (go_simp; rfl)); intro w62 hw; have n0_ : Aside0 (Kd.V (Kd.int .u8) 5 w62 w.heap.size (fun k_ => (P2_ k_ ∨ w.heap.size ≤ k_) ∧ some k_ ≠ (.slice Ao49 t147.length co49 : Value).ownBlock ∧ some k_ ≠ (.slice Ao57 y154.length co57 : Value).ownBlock ∧ k_ ≠ gb135 ∧ k_ ≠ gb136 ∧ k_ ≠ gb153) (.slice A2 l2.length c2) l2) := ⟨(by rw [hw]; exact (by refine kV_ ?_; exact nfV_ gb153 HO2.out (fun _ hk => hk.2.2.2.2.2) (fun _ hk => ⟨hk.1.1, ⟨hk.1.2.1, ⟨hk.1.2.2.1, ⟨hk.1.2.2.2.1, ⟨hk.1.2.2.2.2.1, hk.1.2.2.2.2.2⟩⟩⟩⟩⟩)))⟩; have n1_ : Aside0 (Kd.R k60 60 w62 w.heap.size (fun k_ => (w.heap.size ≤ k_)) (.slice Ao49 t147.length co49) t147) := ⟨(by rw [hw]; exact (by refine kR_ ?_; exact Kd.R_mono (Kd.R_f gb153 1 (.slice A61 y157.length c61) (Kd.R_types HO149.out BK153.out (by decide))) (fun _ hk => hk.1)))⟩; have n2_ : Aside0 (Kd.N k36 36 w62 w.heap.size (fun k_ => (P2_ k_ ∨ w.heap.size ≤ k_) ∧ some k_ ≠ (.slice Ao49 t147.length co49 : Value).ownBlock ∧ k_ ≠ gb135 ∧ k_ ≠ gb136 ∧ k_ ≠ gb153) (.slice Ao57 y154.length co57) y154) := ⟨(by rw [hw]; exact (by refine kN_ ?_; exact nfN_ gb153 HO156.out (fun _ hk => hk.2.2.2.2) (fun _ hk => ⟨hk.1.1, ⟨hk.1.2.1, ⟨hk.1.2.2.1, ⟨hk.1.2.2.2.1, hk.1.2.2.2.2⟩⟩⟩⟩)))⟩; have n3_ : Aside0 (Kd.V k36 36 w62 w.heap.size (fun k_ => (P2_ k_ ∨ w.heap.size ≤ k_) ∧ some k_ ≠ (.slice Ao49 t147.length co49 : Value).ownBlock ∧ k_ ≠ gb135 ∧ k_ ≠ gb136 ∧ k_ ≠ gb153) (.slice A61 y157.length c61) y157) := ⟨(by rw [hw]; exact (by refine kV_ ?_; exact nfV_ gb153 HO161.out (fun _ hk => hk.2.2.2.2) (fun _ hk => ⟨hk.1.1, ⟨hk.1.2.1, ⟨hk.1.2.2.1, ⟨hk.1.2.2.2.1, hk.1.2.2.2.2⟩⟩⟩⟩)))⟩; have n4_ : Aside0 (w62.heap[gb135]? = some (.cells #[.slice A0_0 l0_0.length c0_0, .slice A0_1 l0_1.length c0_1] 26 (0, 0))) := ⟨(by rw [hw]; exact (by exact kf_ BK135.out))⟩; have n5_ : Aside0 (w62.heap[gb136]? = some (.cells #[.slice none 0 0, .slice none 0 0] 26 (0, 0))) := ⟨(by rw [hw]; exact (by exact kf_ BK136.out))⟩; have n6_ : Aside0 (w62.heap[gb153]? = some (.cells #[.slice Ao49 t147.length co49, .slice A61 y157.length c61] 26 (0, 0))) := ⟨(by rw [hw]; exact (by refine kb_ ?_; refine blk_put (cs := #[.slice Ao49 t147.length co49, .slice Ao57 y154.length co57]) ?_ 1 _ rfl; refine kb_ ?_; exact BK153.out))⟩; have n7_ : Aside0 (Below w.heap.size w w62) := ⟨(by rw [hw]; exact (hbA_ HB.out))⟩; clear hw; clear HO2; clear HO149; clear HO156; clear HO161; clear BK135; clear BK136; clear BK153; clear HB; have HO2 := n0_; have HO149 := n1_; have HO156 := n2_; have HO161 := n3_; have BK135 := n4_; have BK136 := n5_; have BK153 := n6_; have HB := n7_; clear n0_ n1_ n2_ n3_ n4_ n5_ n6_ n7_; have Z63 := zz2 BK153) | ((with_reducible refine gate_callee (f := 28) rfl ?_); refine goesL_ (some 60) rfl rfl Try.func28 (by kernel_rfl) rfl #[.agg #[.slice Ao49 t147.length co49, .slice A61 y157.length c61]] rfl ar_ ?_; (with_reducible refine (impl_Near_copy.calls k _ _ t147 _ _ y157 t162 t165 _ ?side1 ?side2 ?side3 ?side4 A38.out).mono ?_); (case side1 => exact kC_ (Kd.R_reads' HO149.out).2.2); (case side2 => exact (Kd.R_reads' HO149.out).2.1); (case side3 => exact kC_ (Kd.V_reads' HO161.out).2.2); (case side4 => exact (Kd.V_reads' HO161.out).2.1); rintro e w64 ⟨v163, v166, rfl, ho0, ho1, hb⟩; refine ⟨_, rfl, ?_⟩; obtain ⟨lo170, hi170, elo170, ehi170⟩ := gr_open hb; replace HO2 := Aside0.mk (Kd.V_mono (Kd.V_told (Kd.V_told (Kd.V_old (kV_ HO2.out) hb) (Kd.R_base ho0)) (Kd.base_ ho1)) (fun _ h_ => op1_ h_)); replace HO161 := Aside0.mk (Kd.V_mono (Kd.V_told (Kd.V_told (Kd.V_old (kV_ HO161.out) hb) (Kd.R_base ho0)) (Kd.base_ ho1)) (fun _ h_ => op1_ h_)); have HO164 := Aside0.mk (Kd.R_lower (Kd.R_new' (Kd.R_newM (M := fun k_ => (w.heap.size ≤ k_)) ho0 (below_size (hbA_ HB.out)) (fun k_ h_ => h_)) (Kd.R_lt (kR_ HO149.out))) (below_size (hbA_ HB.out))); have HO167 := Aside0.mk (Kd.N_lower (Kd.N_mono (ok' := fun k_ => (P2_ k_ ∨ w.heap.size ≤ k_) ∧ some k_ ≠ (v163 : Value).ownBlock ∧ some k_ ≠ (.slice Ao49 t147.length co49 : Value).ownBlock ∧ some k_ ≠ (.slice Ao57 y154.length co57 : Value).ownBlock ∧ k_ ≠ gb135 ∧ k_ ≠ gb136 ∧ k_ ≠ gb153) (Kd.S_N (Kd.S_bound (Kd.S_apart' ho1 (Kd.R_typed ho0) (by decide)))) (fun k_ hk_ => ⟨(.inr (Nat.le_trans (below_size (hbA_ HB.out)) hk_.2.1)), hk_.1.2, (Kd.fresh' (Kd.R_lt (kR_ HO149.out)) k_ hk_.2.1), (Kd.fresh' (Kd.N_lt (kN_ HO156.out)) k_ hk_.2.1), (fb_ BK135 k_ hk_.2.1), (fb_ BK136 k_ hk_.2.1), (fb_ BK153 k_ hk_.2.1)⟩)) (below_size (hbA_ HB.out))); replace HO149 := Aside0.mk (Kd.R_elder' (kR_ HO149.out) (Kd.R_base ho0) hb); replace HO156 := Aside0.mk (Kd.N_mono (Kd.N_told (Kd.N_told (Kd.N_old (kN_ HO156.out) hb) (Kd.R_base ho0)) (Kd.base_ ho1)) (fun _ h_ => op1_ h_)); have GS170 := Aside0.mk (Kd.S_lower (gr_S2 elo170 ehi170 ho1) (below_size (hbA_ HB.out))); have HZ170 := Aside0.mk (Nat.le_of_eq ehi170.out); have WL170 := Aside0.mk (zb_ elo170 (below_size (hbA_ HB.out))); have BX170_135 := Aside0.mk (zx_ (g := gb135) (hi := hi170) elo170 (kb_ BK135.out)); replace BK135 := (bbA_ BK135 hb); have BX170_136 := Aside0.mk (zx_ (g := gb136) (hi := hi170) elo170 (kb_ BK136.out)); replace BK136 := (bbA_ BK136 hb); have BX170_153 := Aside0.mk (zx_ (g := gb153) (hi := hi170) elo170 (kb_ BK153.out)); replace BK153 := (bbA_ BK153 hb); replace HB := (bs_ HB hb); (try clear hb); (try clear hb2); (try clear hk); (try clear hi); (try clear ho0); (try clear ho1); obtain ⟨Ao65, co65, eo65⟩ := Kd.R_slice HO164.out; subst eo65; have Z66 := zz2 BK136; obtain ⟨Ao67, co67, eo67⟩ := Kd.N_slice HO167.out; subst eo67))
         refine bodyPost_ret (results_ct rfl _ _ gb136 26 #[.slice Ao65 t162.length co65, .slice Ao67 t165.length co67] (0, 0) _ rfl (by refine kb_ ?_; refine pz2 (cs := #[.slice none 0 0, .slice none 0 0]) ?_; refine kb_ ?_; exact BK136.out) Try.underlying26 rfl (by kernel_rfl)) rfl ?_
         exact ⟨_, _, by first | rfl | (simp [errW_none, errW_some] <;> rfl) | (simp only [← hji35]; first | rfl | (simp [errW_none, errW_some] <;> rfl)) | (simp [*, errW_none, errW_some] <;> rfl), by refine kR_ ?_; exact rfm_ ((Kd.R_types HO164.out BK136.out (by decide))) (fun _ hk => hk.1.1.1), Kd.S_mono (ok := fun k_ => lo170 ≤ k_ ∧ k_ < hi170) (by refine kS_ ?_; exact (Kd.S_far (p := ⟨gb136, 1, none⟩) (Kd.S_far (p := ⟨gb136, 0, none⟩) GS170.out (fun _ hk => rng_box hk BX170_136.out) (.slice Ao65 t162.length co65)) (fun _ hk => rng_box hk BX170_136.out) (.slice Ao67 t165.length co67))) (fun k_ hk_ => Nat.le_trans WL170.out hk_.1), hbA_ HB.out⟩
        ·rw [if_neg c37] at H
         exact absurd H (by simp)
       ·rw [if_neg c36] at H
        exact absurd H (by simp)
      ·rw [if_neg c34] at H
       exact absurd H (by simp)
    ·replace c17 := Bool.eq_false_iff.mpr c17
     subst c17
     rw [if_neg (show ¬ (false = true) by decide)] at H
     simp only [Option.some.injEq, Prod.mk.injEq] at H
     obtain ⟨rfl, rfl, rfl⟩ := H
     go_enter Try.func6, Try.ntmps6
     go_wp2_with (first | ((with_reducible refine gate_dst (N := 4) rfl ?_); (try (refine gate_guard (by rfl) ?_; dsimp only)); refine box_ (N := 4) (cs := #[.slice A0_0 l0_0.length c0_0, .slice A0_1 l0_1.length c0_1]) (t := 26) (fun gb135 hg w68 hbox hb => ?_); replace HO2 := Aside0.mk (Kd.V_below (Kd.V_elderB (kV_ HO2.out) gb135 (Nat.le_of_eq hg.symm)) hb); have BK135 := Aside0.mk (hbox); have GW135 := ge_ hg HB; have GE135 := ge_ hg HB; replace HB := (bs_ HB hb); clear hb hbox hg) | ((with_reducible refine gate_dst (N := 8) rfl ?_); (try (refine gate_guard (by rfl) ?_; dsimp only)); refine box_ (N := 8) (cs := #[.slice none 0 0, .slice none 0 0]) (t := 26) (fun gb136 hg w69 hbox hb => ?_); replace HO2 := Aside0.mk (Kd.V_below (Kd.V_elderB (kV_ HO2.out) gb136 (Nat.le_of_eq hg.symm)) hb); have BK136 := Aside0.mk (hbox); have GW136 := ge_ hg HB; have GE136 := ge_ hg HB; replace HB := (bs_ HB hb); have NB135_136 := nl_ hg BK135; have NB136_135 := ng_ hg BK135; replace BK135 := (bbA_ BK135 hb); clear hb hbox hg; have hnb70 := NB135_136.out; have hnc70 := NB136_135.out; have Z71 := zz2 BK135) | ((with_reducible refine gate_callee (f := 9) rfl ?_); refine goesL_ (some 13) rfl rfl Try.func9 (by kernel_rfl) rfl #[.agg #[.slice A0_0 l0_0.length c0_0, .slice A0_1 l0_1.length c0_1]] rfl ar_ ?_; (with_reducible refine (impl_NearOk.calls k _ _ l0_0 _ _ l0_1 true _ ?side1 ?side2 ?side3 ?side4 A5.out).mono ?_); (case side1 => exact kC_ (Kd.C_below HR0_0.out HB.out)); (case side2 => exact HC0_0.out); (case side3 => exact kC_ (Kd.C_below HR0_1.out HB.out)); (case side4 => exact HC0_1.out); rintro e w72 ⟨rfl, hb⟩; refine ⟨_, rfl, ?_⟩; replace HO2 := Aside0.mk (Kd.V_below (kV_ HO2.out) hb); replace BK135 := (bbA_ BK135 hb); replace BK136 := (bbA_ BK136 hb); replace HB := (bs_ HB hb); (try clear hb); (try clear hb2); (try clear hk); (try clear hi)) | (go_at_call 25; (with_reducible refine (impl_word.calls a1 true _ A7.out).mono ?_); rintro e w' ⟨rfl, ⟨nd, rfl⟩⟩; (try ((try simp only [World.drewN_drewN]); rw [drewN_self w72]; generalize hq_ : World.drewN w72 _ = w72; have n0_ : Aside0 (Kd.V (Kd.int .u8) 5 w72 w.heap.size (fun k_ => ((((P2_ k_ ∨ w.heap.size ≤ k_)) ∧ k_ ≠ gb135) ∧ k_ ≠ gb136)) (.slice A2 l2.length c2) l2) := ⟨by rw [← hq_]; exact (kV_ HO2.out)⟩; have n1_ : Aside0 (w72.heap[gb135]? = some (.cells #[.slice A0_0 l0_0.length c0_0, .slice A0_1 l0_1.length c0_1] 26 (0, 0))) := ⟨by rw [← hq_]; exact (kb_ BK135.out)⟩; have n2_ : Aside0 (w72.heap[gb136]? = some (.cells #[.slice none 0 0, .slice none 0 0] 26 (0, 0))) := ⟨by rw [← hq_]; exact (kb_ BK136.out)⟩; have n3_ : Aside0 (Below w.heap.size w w72) := ⟨by rw [← hq_]; exact (hbA_ HB.out)⟩; clear HO2 BK135 BK136 HB hq_; have HO2 := n0_; have BK135 := n1_; have BK136 := n2_; have HB := n3_; clear n0_ n1_ n2_ n3_))) | (go_at_call 26; (with_reducible refine (impl_in.calls a3 0 999980 false _ A16.out).mono ?_); rintro e w' ⟨rfl, ⟨nd, rfl⟩⟩; (try ((try simp only [World.drewN_drewN]); rw [drewN_self w72]; generalize hq_ : World.drewN w72 _ = w72; have n0_ : Aside0 (Kd.V (Kd.int .u8) 5 w72 w.heap.size (fun k_ => ((((P2_ k_ ∨ w.heap.size ≤ k_)) ∧ k_ ≠ gb135) ∧ k_ ≠ gb136)) (.slice A2 l2.length c2) l2) := ⟨by rw [← hq_]; exact (kV_ HO2.out)⟩; have n1_ : Aside0 (w72.heap[gb135]? = some (.cells #[.slice A0_0 l0_0.length c0_0, .slice A0_1 l0_1.length c0_1] 26 (0, 0))) := ⟨by rw [← hq_]; exact (kb_ BK135.out)⟩; have n2_ : Aside0 (w72.heap[gb136]? = some (.cells #[.slice none 0 0, .slice none 0 0] 26 (0, 0))) := ⟨by rw [← hq_]; exact (kb_ BK136.out)⟩; have n3_ : Aside0 (Below w.heap.size w w72) := ⟨by rw [← hq_]; exact (hbA_ HB.out)⟩; clear HO2 BK135 BK136 HB hq_; have HO2 := n0_; have BK135 := n1_; have BK136 := n2_; have HB := n3_; clear n0_ n1_ n2_ n3_)); have Z73 := zz2 BK136))
     refine bodyPost_ret (results_ct rfl _ _ gb136 26 #[.slice none 0 0, .slice none 0 0] (0, 0) _ rfl (by refine kb_ ?_; refine pz2 (cs := #[.slice none 0 0, .slice none 0 0]) ?_; refine kb_ ?_; exact BK136.out) Try.underlying26 rfl (by kernel_rfl)) rfl ?_
     exact ⟨_, _, by first | rfl | (simp [errW_none, errW_some] <;> rfl) | (simp [*, errW_none, errW_some] <;> rfl), by first | exact Kd.R_nil _ _ _ _ _ | exact Kd.N_nil _ _ _ _ _ | exact Kd.V_nil _ _ _ _ _ | exact Kd.Q_nil _ _ _ _ _ | exact Kd.S_nil _ _ _ _ _, by first | exact Kd.S_nil _ _ _ _ _ | exact Kd.N_nil _ _ _ _ _ | exact Kd.V_nil _ _ _ _ _ | exact Kd.Q_nil _ _ _ _ _ | exact Kd.R_nil _ _ _ _ _, hbA_ HB.out⟩
  ·replace c8 := Bool.eq_false_iff.mpr c8
   subst c8
   rw [if_neg (show ¬ (false = true) by decide)] at H
   simp only [Option.some.injEq, Prod.mk.injEq] at H
   obtain ⟨rfl, rfl, rfl⟩ := H
   go_enter Try.func6, Try.ntmps6
   go_wp2_with (first | ((with_reducible refine gate_dst (N := 4) rfl ?_); (try (refine gate_guard (by rfl) ?_; dsimp only)); refine box_ (N := 4) (cs := #[.slice A0_0 l0_0.length c0_0, .slice A0_1 l0_1.length c0_1]) (t := 26) (fun gb135 hg w74 hbox hb => ?_); replace HO2 := Aside0.mk (Kd.V_below (Kd.V_elderB (kV_ HO2.out) gb135 (Nat.le_of_eq hg.symm)) hb); have BK135 := Aside0.mk (hbox); have GW135 := ge_ hg HB; have GE135 := ge_ hg HB; replace HB := (bs_ HB hb); clear hb hbox hg) | ((with_reducible refine gate_dst (N := 8) rfl ?_); (try (refine gate_guard (by rfl) ?_; dsimp only)); refine box_ (N := 8) (cs := #[.slice none 0 0, .slice none 0 0]) (t := 26) (fun gb136 hg w75 hbox hb => ?_); replace HO2 := Aside0.mk (Kd.V_below (Kd.V_elderB (kV_ HO2.out) gb136 (Nat.le_of_eq hg.symm)) hb); have BK136 := Aside0.mk (hbox); have GW136 := ge_ hg HB; have GE136 := ge_ hg HB; replace HB := (bs_ HB hb); have NB135_136 := nl_ hg BK135; have NB136_135 := ng_ hg BK135; replace BK135 := (bbA_ BK135 hb); clear hb hbox hg; have hnb76 := NB135_136.out; have hnc76 := NB136_135.out; have Z77 := zz2 BK135) | ((with_reducible refine gate_callee (f := 9) rfl ?_); refine goesL_ (some 13) rfl rfl Try.func9 (by kernel_rfl) rfl #[.agg #[.slice A0_0 l0_0.length c0_0, .slice A0_1 l0_1.length c0_1]] rfl ar_ ?_; (with_reducible refine (impl_NearOk.calls k _ _ l0_0 _ _ l0_1 true _ ?side1 ?side2 ?side3 ?side4 A5.out).mono ?_); (case side1 => exact kC_ (Kd.C_below HR0_0.out HB.out)); (case side2 => exact HC0_0.out); (case side3 => exact kC_ (Kd.C_below HR0_1.out HB.out)); (case side4 => exact HC0_1.out); rintro e w78 ⟨rfl, hb⟩; refine ⟨_, rfl, ?_⟩; replace HO2 := Aside0.mk (Kd.V_below (kV_ HO2.out) hb); replace BK135 := (bbA_ BK135 hb); replace BK136 := (bbA_ BK136 hb); replace HB := (bs_ HB hb); (try clear hb); (try clear hb2); (try clear hk); (try clear hi)) | (go_at_call 25; (with_reducible refine (impl_word.calls a1 false _ A7.out).mono ?_); rintro e w' ⟨rfl, ⟨nd, rfl⟩⟩; (try ((try simp only [World.drewN_drewN]); rw [drewN_self w78]; generalize hq_ : World.drewN w78 _ = w78; have n0_ : Aside0 (Kd.V (Kd.int .u8) 5 w78 w.heap.size (fun k_ => ((((P2_ k_ ∨ w.heap.size ≤ k_)) ∧ k_ ≠ gb135) ∧ k_ ≠ gb136)) (.slice A2 l2.length c2) l2) := ⟨by rw [← hq_]; exact (kV_ HO2.out)⟩; have n1_ : Aside0 (w78.heap[gb135]? = some (.cells #[.slice A0_0 l0_0.length c0_0, .slice A0_1 l0_1.length c0_1] 26 (0, 0))) := ⟨by rw [← hq_]; exact (kb_ BK135.out)⟩; have n2_ : Aside0 (w78.heap[gb136]? = some (.cells #[.slice none 0 0, .slice none 0 0] 26 (0, 0))) := ⟨by rw [← hq_]; exact (kb_ BK136.out)⟩; have n3_ : Aside0 (Below w.heap.size w w78) := ⟨by rw [← hq_]; exact (hbA_ HB.out)⟩; clear HO2 BK135 BK136 HB hq_; have HO2 := n0_; have BK135 := n1_; have BK136 := n2_; have HB := n3_; clear n0_ n1_ n2_ n3_)); have Z79 := zz2 BK136))
   refine bodyPost_ret (results_ct rfl _ _ gb136 26 #[.slice none 0 0, .slice none 0 0] (0, 0) _ rfl (by refine kb_ ?_; refine pz2 (cs := #[.slice none 0 0, .slice none 0 0]) ?_; refine kb_ ?_; exact BK136.out) Try.underlying26 rfl (by kernel_rfl)) rfl ?_
   exact ⟨_, _, by first | rfl | (simp [errW_none, errW_some] <;> rfl) | (simp [*, errW_none, errW_some] <;> rfl), by first | exact Kd.R_nil _ _ _ _ _ | exact Kd.N_nil _ _ _ _ _ | exact Kd.V_nil _ _ _ _ _ | exact Kd.Q_nil _ _ _ _ _ | exact Kd.S_nil _ _ _ _ _, by first | exact Kd.S_nil _ _ _ _ _ | exact Kd.N_nil _ _ _ _ _ | exact Kd.V_nil _ _ _ _ _ | exact Kd.Q_nil _ _ _ _ _ | exact Kd.R_nil _ _ _ _ _, hbA_ HB.out⟩
 ·replace c6 := Bool.eq_false_iff.mpr c6
  subst c6
  rw [if_neg (show ¬ (false = true) by decide)] at H
  simp only [Option.some.injEq, Prod.mk.injEq] at H
  obtain ⟨rfl, rfl, rfl⟩ := H
  go_enter Try.func6, Try.ntmps6
  go_wp2_with (first | ((with_reducible refine gate_dst (N := 4) rfl ?_); (try (refine gate_guard (by rfl) ?_; dsimp only)); refine box_ (N := 4) (cs := #[.slice A0_0 l0_0.length c0_0, .slice A0_1 l0_1.length c0_1]) (t := 26) (fun gb135 hg w80 hbox hb => ?_); replace HO2 := Aside0.mk (Kd.V_below (Kd.V_elderB (kV_ HO2.out) gb135 (Nat.le_of_eq hg.symm)) hb); have BK135 := Aside0.mk (hbox); have GW135 := ge_ hg HB; have GE135 := ge_ hg HB; replace HB := (bs_ HB hb); clear hb hbox hg) | ((with_reducible refine gate_dst (N := 8) rfl ?_); (try (refine gate_guard (by rfl) ?_; dsimp only)); refine box_ (N := 8) (cs := #[.slice none 0 0, .slice none 0 0]) (t := 26) (fun gb136 hg w81 hbox hb => ?_); replace HO2 := Aside0.mk (Kd.V_below (Kd.V_elderB (kV_ HO2.out) gb136 (Nat.le_of_eq hg.symm)) hb); have BK136 := Aside0.mk (hbox); have GW136 := ge_ hg HB; have GE136 := ge_ hg HB; replace HB := (bs_ HB hb); have NB135_136 := nl_ hg BK135; have NB136_135 := ng_ hg BK135; replace BK135 := (bbA_ BK135 hb); clear hb hbox hg; have hnb82 := NB135_136.out; have hnc82 := NB136_135.out; have Z83 := zz2 BK135) | ((with_reducible refine gate_callee (f := 9) rfl ?_); refine goesL_ (some 13) rfl rfl Try.func9 (by kernel_rfl) rfl #[.agg #[.slice A0_0 l0_0.length c0_0, .slice A0_1 l0_1.length c0_1]] rfl ar_ ?_; (with_reducible refine (impl_NearOk.calls k _ _ l0_0 _ _ l0_1 false _ ?side1 ?side2 ?side3 ?side4 A5.out).mono ?_); (case side1 => exact kC_ (Kd.C_below HR0_0.out HB.out)); (case side2 => exact HC0_0.out); (case side3 => exact kC_ (Kd.C_below HR0_1.out HB.out)); (case side4 => exact HC0_1.out); rintro e w84 ⟨rfl, hb⟩; refine ⟨_, rfl, ?_⟩; replace HO2 := Aside0.mk (Kd.V_below (kV_ HO2.out) hb); replace BK135 := (bbA_ BK135 hb); replace BK136 := (bbA_ BK136 hb); replace HB := (bs_ HB hb); (try clear hb); (try clear hb2); (try clear hk); (try clear hi); have Z85 := zz2 BK136))
  refine bodyPost_ret (results_ct rfl _ _ gb136 26 #[.slice none 0 0, .slice none 0 0] (0, 0) _ rfl (by refine kb_ ?_; refine pz2 (cs := #[.slice none 0 0, .slice none 0 0]) ?_; refine kb_ ?_; exact BK136.out) Try.underlying26 rfl (by kernel_rfl)) rfl ?_
  exact ⟨_, _, by first | rfl | (simp [errW_none, errW_some] <;> rfl) | (simp [*, errW_none, errW_some] <;> rfl), by first | exact Kd.R_nil _ _ _ _ _ | exact Kd.N_nil _ _ _ _ _ | exact Kd.V_nil _ _ _ _ _ | exact Kd.Q_nil _ _ _ _ _ | exact Kd.S_nil _ _ _ _ _, by first | exact Kd.S_nil _ _ _ _ _ | exact Kd.N_nil _ _ _ _ _ | exact Kd.V_nil _ _ _ _ _ | exact Kd.Q_nil _ _ _ _ _ | exact Kd.R_nil _ _ _ _ _, hbA_ HB.out⟩
set_option maxHeartbeats 8000000 in
theorem impl_NearSend.calls (k : Nat) (A0_0 : Option Addr) (c0_0 : Nat) (l0_0 : List (S60)) (A0_1 : Option Addr) (c0_1 : Nat) (l0_1 : List (S36)) (a1 : Int) (A2 : Option Addr) (c2 : Nat) (l2 : List Int) (a3 : Int) (r1 : List (S60)) (r2 : List (S36)) (r3 : Int) (w : World) (hr0_0 : Kd.C k60 w A0_0 l0_0.length l0_0) (hc0_0 : l0_0.length ≤ c0_0) (hr0_1 : Kd.C k36 w A0_1 l0_1.length l0_1) (hc0_1 : l0_1.length ≤ c0_1) (hr2 : Kd.C (Kd.int .u8) w A2 l2.length l2) (hc2 : l2.length ≤ c2) (h : impl_NearSend.f k l0_0 l0_1 a1 l2 a3 = some (r1, r2, r3)) :
    Calls Try.prog 6 #[.agg #[.slice A0_0 l0_0.length c0_0, .slice A0_1 l0_1.length c0_1], .int .i64 a1, .slice A2 l2.length c2, .int .i64 a3] w fun e w' => ∃ v0_ v1_ : Value, e = .returned (.tuple #[.agg #[v0_, v1_], .int .i64 r3]) ∧ Kd.R k60 60 w' w.heap.size (fun _ => True) v0_ r1 ∧ Kd.S k36 36 w' w.heap.size (fun _ => True) v1_ r2 ∧ Below w.heap.size w w' := by
  refine (impl_NearSend.callsV k A0_0 c0_0 l0_0 A0_1 c0_1 l0_1 a1 (fun _ => True) A2 c2 l2 a3 r1 r2 r3 w hr0_0 hc0_0 hr0_1 hc0_1 (Kd.V_mk hc2 (fun W_ hW_ => Kd.Heap.C (Kd.heap_int .u8) (fun k_ hlt_ => hW_ k_ trivial hlt_) hr2)) h).mono ?_
  rintro e w' ⟨v0_, v1_, rfl, ho0, ho1, hb⟩
  exact ⟨v0_, v1_, rfl, Kd.R_mono ho0 (fun k_ hk_ => trivial), Kd.S_mono ho1 (fun k_ hk_ => trivial), hb⟩
def spec_l1In.f (a0 : Int) (a1 : Int) (a2 : Int) : Option (Bool) := if a0 ≥ a1 then (some (decide (a0 ≤ a2))) else (some false)
set_option maxHeartbeats 8000000 in
set_option maxRecDepth 100000 in
theorem spec_l1In.calls (a0 : Int) (a1 : Int) (a2 : Int) (r : Bool) (w : World) (h : spec_l1In.f a0 a1 a2 = some r) :
  Calls Try.prog 30 #[.int .i64 a0, .int .i64 a1, .int .i64 a2] w fun e w' => e = .returned (.bool r) ∧ Drawn0 w w' := by
 have H : (if a0 ≥ a1 then (some (decide (a0 ≤ a2))) else (some false)) = some r := h
 clear h
 by_cases c4 : a0 ≥ a1
 ·rw [if_pos c4] at H
  have c4b0 : decide (a1 ≤ a0) = true := decide_eq_true c4
  clear c4
  obtain rfl := Option.some.inj H
  go_enter Try.func30, Try.ntmps30
  go_wp2
  go_ret
  exact ⟨by first | rfl | (simp; done) | (simp [*]; done), by repeat (first | exact Drawn0.refl _ | apply Drawn0.step)⟩
 ·rw [if_neg c4] at H
  have c4b0 : decide (a1 ≤ a0) = false := decide_eq_false c4
  clear c4
  obtain rfl := Option.some.inj H
  go_enter Try.func30, Try.ntmps30
  go_wp2
  go_ret
  exact ⟨by first | rfl | (simp; done) | (simp [*]; done), by repeat (first | exact Drawn0.refl _ | apply Drawn0.step)⟩
mutual
def spec_NearOk.l0 : Nat → Int → List (S60) → List (S36) → Option (Bool)
 | 0, _, _, _ => none
 | k + 1, x3, x172000, x172001 => if x3 < (x172000.length : Int) then (if 0 ≤ x3 then ((spec_l1In.f ((rd_T60 x172000 x3).f0) 0 65535).bind fun t174 => (if t174 = true then ((spec_l1In.f ((rd_T60 x172000 x3).f1) 0 254).bind fun t175 => (if t175 = true then ((spec_l1In.f ((rd_T60 x172000 x3).f2) 0 1000000).bind fun t176 => (spec_NearOk.j1 k x3 (!t176) x172000 x172001 ((rd_T60 x172000 x3).f0) ((rd_T60 x172000 x3).f1) ((rd_T60 x172000 x3).f2))) else (spec_NearOk.j1 k x3 true x172000 x172001 ((rd_T60 x172000 x3).f0) ((rd_T60 x172000 x3).f1) ((rd_T60 x172000 x3).f2)))) else (spec_NearOk.j1 k x3 true x172000 x172001 ((rd_T60 x172000 x3).f0) ((rd_T60 x172000 x3).f1) ((rd_T60 x172000 x3).f2)))) else (none)) else (spec_NearOk.l2 k 0 x172000 x172001)
def spec_NearOk.j1 : Nat → Int → Bool → List (S60) → List (S36) → Int → Int → Int → Option (Bool)
 | 0, _, _, _, _, _, _, _ => none
 | k + 1, x3, x34, x172000, x172001, x174000, x174001, x174002 => if x34 = true then (some false) else (spec_NearOk.l1 k x3 0 x172000 x172001 x174000 x174001 x174002)
def spec_NearOk.l1 : Nat → Int → Int → List (S60) → List (S36) → Int → Int → Int → Option (Bool)
 | 0, _, _, _, _, _, _, _ => none
 | k + 1, x3, x5, x172000, x172001, x174000, x174001, x174002 => if x5 < x3 then (if 0 ≤ x5 then (if x5 < (x172000.length : Int) then (if ((rd_T60 x172000 x5).f0) = x174000 then (some false) else (spec_NearOk.l1 k x3 (wrap64 (x5 + 1)) x172000 x172001 x174000 x174001 x174002)) else (none)) else (none)) else (spec_NearOk.l0 k (wrap64 (x3 + 1)) x172000 x172001)
def spec_NearOk.l2 : Nat → Int → List (S60) → List (S36) → Option (Bool)
 | 0, _, _, _ => none
 | k + 1, x6, x172000, x172001 => if x6 < (x172001.length : Int) then (if 0 ≤ x6 then ((spec_l1In.f ((rd_T36 x172001 x6).f0) 0 65535).bind fun t179 => (if t179 = true then (if (((rd_T36 x172001 x6).f1).length : Int) > 64 then (some false) else (spec_NearOk.l2 k (wrap64 (x6 + 1)) x172000 x172001)) else (some false))) else (none)) else (if (x172000.length : Int) ≤ 4 then (some (decide ((x172001.length : Int) ≤ 4))) else (some false))
end
def spec_NearOk.f (k : Nat) (l0_0 : List (S60)) (l0_1 : List (S36)) : Option (Bool) := spec_NearOk.l0 k 0 l0_0 l0_1
theorem spec_NearOk.mono_l : ∀ k, (∀ y0 y1 y2, LeO (spec_NearOk.l0 k y0 y1 y2) (spec_NearOk.l0 (k + 1) y0 y1 y2)) ∧ (∀ y0 y1 y2 y3 y4 y5 y6, LeO (spec_NearOk.j1 k y0 y1 y2 y3 y4 y5 y6) (spec_NearOk.j1 (k + 1) y0 y1 y2 y3 y4 y5 y6)) ∧ (∀ y0 y1 y2 y3 y4 y5 y6, LeO (spec_NearOk.l1 k y0 y1 y2 y3 y4 y5 y6) (spec_NearOk.l1 (k + 1) y0 y1 y2 y3 y4 y5 y6)) ∧ (∀ y0 y1 y2, LeO (spec_NearOk.l2 k y0 y1 y2) (spec_NearOk.l2 (k + 1) y0 y1 y2))
 | 0 => ⟨fun _ _ _ r h => by simp [spec_NearOk.l0] at h, fun _ _ _ _ _ _ _ r h => by simp [spec_NearOk.j1] at h, fun _ _ _ _ _ _ _ r h => by simp [spec_NearOk.l1] at h, fun _ _ _ r h => by simp [spec_NearOk.l2] at h⟩
 | k + 1 => by
  obtain ⟨ih0, ih1, ih2, ih3⟩ := spec_NearOk.mono_l k
  refine ⟨?_, ?_, ?_, ?_⟩
  ·intro y0 y1 y2
   unfold spec_NearOk.l0
   repeat' first | (with_reducible first | apply ih0 | apply ih1 | apply ih2 | apply ih3 | exact LeO.refl _ | exact LeO.none _ | refine LeO.ite ?_ ?_ | refine LeO.bind ?_ fun _ => ?_) | apply ih0 | apply ih1 | apply ih2 | apply ih3 | exact LeO.none _ | refine LeO.ite ?_ ?_ | refine LeO.bind ?_ fun _ => ?_
  ·intro y0 y1 y2 y3 y4 y5 y6
   unfold spec_NearOk.j1
   repeat' first | (with_reducible first | apply ih0 | apply ih1 | apply ih2 | apply ih3 | exact LeO.refl _ | exact LeO.none _ | refine LeO.ite ?_ ?_ | refine LeO.bind ?_ fun _ => ?_) | apply ih0 | apply ih1 | apply ih2 | apply ih3 | exact LeO.none _ | refine LeO.ite ?_ ?_ | refine LeO.bind ?_ fun _ => ?_
  ·intro y0 y1 y2 y3 y4 y5 y6
   unfold spec_NearOk.l1
   repeat' first | (with_reducible first | apply ih0 | apply ih1 | apply ih2 | apply ih3 | exact LeO.refl _ | exact LeO.none _ | refine LeO.ite ?_ ?_ | refine LeO.bind ?_ fun _ => ?_) | apply ih0 | apply ih1 | apply ih2 | apply ih3 | exact LeO.none _ | refine LeO.ite ?_ ?_ | refine LeO.bind ?_ fun _ => ?_
  ·intro y0 y1 y2
   unfold spec_NearOk.l2
   repeat' first | (with_reducible first | apply ih0 | apply ih1 | apply ih2 | apply ih3 | exact LeO.refl _ | exact LeO.none _ | refine LeO.ite ?_ ?_ | refine LeO.bind ?_ fun _ => ?_) | apply ih0 | apply ih1 | apply ih2 | apply ih3 | exact LeO.none _ | refine LeO.ite ?_ ?_ | refine LeO.bind ?_ fun _ => ?_
theorem spec_NearOk.mono : ∀ a0 a1 k, LeO (spec_NearOk.f k a0 a1) (spec_NearOk.f (k + 1) a0 a1) := by
 intro a0 a1 k
 obtain ⟨ih0, ih1, ih2, ih3⟩ := spec_NearOk.mono_l k
 unfold spec_NearOk.f
 repeat' first | (with_reducible first | apply ih0 | apply ih1 | apply ih2 | apply ih3 | exact LeO.refl _ | exact LeO.none _ | refine LeO.ite ?_ ?_ | refine LeO.bind ?_ fun _ => ?_) | apply ih0 | apply ih1 | apply ih2 | apply ih3 | exact LeO.none _ | refine LeO.ite ?_ ?_ | refine LeO.bind ?_ fun _ => ?_
set_option maxHeartbeats 8000000 in
set_option maxRecDepth 100000 in
theorem spec_NearOk.calls (k : Nat) (A0_0 : Option Addr) (c0_0 : Nat) (l0_0 : List (S60)) (A0_1 : Option Addr) (c0_1 : Nat) (l0_1 : List (S36)) (r : Bool) (w : World) (hr0_0 : Kd.C k60 w A0_0 l0_0.length l0_0) (hc0_0 : l0_0.length ≤ c0_0) (hr0_1 : Kd.C k36 w A0_1 l0_1.length l0_1) (hc0_1 : l0_1.length ≤ c0_1) (h : spec_NearOk.f k l0_0 l0_1 = some r) :
  Calls Try.prog 29 #[.agg #[.slice A0_0 l0_0.length c0_0, .slice A0_1 l0_1.length c0_1]] w fun e w' => e = .returned (.bool r) ∧ Below w.heap.size w w' := by
 have hu26 := Try.underlying26; have hu60 := Try.underlying60; have HR0_0 := Aside0.mk hr0_0; have HC0_0 := Aside0.mk hc0_0; clear hr0_0 hc0_0; have HR0_1 := Aside0.mk hr0_1; have HC0_1 := Aside0.mk hc0_1; clear hr0_1 hc0_1
 have HB := Aside0.mk (Below.refl w.heap.size w)
 have H : (spec_NearOk.l0 k 0 l0_0 l0_1) = some r := h
 clear h
 have H' := Aside0.mk H
 clear H
 go_enter Try.func29, Try.ntmps29
 go_wp2_with (first | ((with_reducible refine gate_dst (N := 1) rfl ?_); (try (refine gate_guard (by rfl) ?_; dsimp only)); refine box_ (N := 1) (cs := #[.slice A0_0 l0_0.length c0_0, .slice A0_1 l0_1.length c0_1]) (t := 26) (fun gb171 hg w2 hbox hb => ?_); have BK171 := Aside0.mk (hbox); have GW171 := ge_ hg HB; have GE171 := ge_ hg HB; replace HB := (bs_ HB hb); clear hb hbox hg))
 repeat (go_quiet (first | ((with_reducible refine gate_dst (N := 1) rfl ?_); (try (refine gate_guard (by rfl) ?_; dsimp only)); refine box_ (N := 1) (cs := #[.slice A0_0 l0_0.length c0_0, .slice A0_1 l0_1.length c0_1]) (t := 26) (fun gb171 hg w2 hbox hb => ?_); have BK171 := Aside0.mk (hbox); have GW171 := ge_ hg HB; have GE171 := ge_ hg HB; replace HB := (bs_ HB hb); clear hb hbox hg)); try go_wp2_with (first | ((with_reducible refine gate_dst (N := 1) rfl ?_); (try (refine gate_guard (by rfl) ?_; dsimp only)); refine box_ (N := 1) (cs := #[.slice A0_0 l0_0.length c0_0, .slice A0_1 l0_1.length c0_1]) (t := 26) (fun gb171 hg w2 hbox hb => ?_); have BK171 := Aside0.mk (hbox); have GW171 := ge_ hg HB; have GE171 := ge_ hg HB; replace HB := (bs_ HB hb); clear hb hbox hg)))
 go_loopg [3] k (fun kq v3 w' => ∃ (x3_1 : Int), v3 = .int .i64 x3_1 ∧ Aside0 (spec_NearOk.l0 kq x3_1 l0_0 l0_1 = some r) ∧ Aside0 (kq ≤ k) ∧ Aside0 (w'.heap[gb171]? = some (.cells #[(.slice A0_0 l0_0.length c0_0), (.slice A0_1 l0_1.length c0_1)] 26 (0, 0))) ∧ Aside0 (Below w.heap.size w w'))
 case atStart => exact ⟨(0), (by first | rfl | (simp; done) | (simp [*]; done)), H', ⟨Nat.le_refl _⟩, ⟨by refine kb_ ?_; exact BK171.out⟩, ⟨hbA_ HB.out⟩⟩
 case round =>
  clear H'; (try clear c2); (try clear p2)
  obtain ⟨x3_1, rfl, HA, HK1, BK171, HB⟩ := hrel
  cases gk with
  | zero => exact absurd HA.out (by simp [spec_NearOk.l0])
  | succ k1 =>
   have H := HA.out; clear HA
   simp only [spec_NearOk.l0] at H
   by_cases c3 : x3_1 < (l0_0.length : Int)
   ·rw [if_pos c3] at H
    have c3b0 : decide (x3_1 < (l0_0.length : Int)) = true := decide_eq_true c3
    clear c3
    by_cases c4 : 0 ≤ x3_1
    ·rw [if_pos c4] at H
     have c4b0 : decide (0 ≤ x3_1) = true := decide_eq_true c4
     clear c4; have HC5 := Aside0.mk H; clear H; have Z6 := zz2 BK171
     have p172 : 0 ≤ (x3_1 : Int) := of_decide_eq_true (by first | (with_reducible assumption) | assumption)
     have q172 : x3_1 < (l0_0.length : Int) := of_decide_eq_true (by first | (with_reducible assumption) | assumption)
     obtain ⟨ad172, e172, hx172_0, hx172_1, hx172_2⟩ := at_T60 HR0_0.out x3_1 p172 q172
     cases e172
     replace hx172_0 := cc_ HB hx172_0
     replace hx172_1 := cc_ HB hx172_1
     replace hx172_2 := cc_ HB hx172_2
     replace p172 := eq_true p172
     replace q172 := eq_true q172
     go_upto_region 5 with (first | ((with_reducible refine gate_dst (N := 4) rfl ?_); (try (refine gate_guard (by rfl) ?_; dsimp only)); refine box_ (N := 4) (cs := #[.int .i64 0, .int .i64 0, .int .i64 0]) (t := 60) (fun gb173 hg w7 hbox hb => ?_); have BK173 := Aside0.mk (hbox); have GW173 := ge_ hg HB; have GE173 := ge_ hg HB; replace HB := (bs_ HB hb); have NB171_173 := nl_ hg BK171; have NB173_171 := ng_ hg BK171; replace BK171 := (bbA_ BK171 hb); clear hb hbox hg; have hnb8 := NB173_171.out; have hnc8 := NB171_173.out; have Z9 := zz3 BK173))
     repeat (go_quiet (first | ((with_reducible refine gate_dst (N := 4) rfl ?_); (try (refine gate_guard (by rfl) ?_; dsimp only)); refine box_ (N := 4) (cs := #[.int .i64 0, .int .i64 0, .int .i64 0]) (t := 60) (fun gb173 hg w7 hbox hb => ?_); have BK173 := Aside0.mk (hbox); have GW173 := ge_ hg HB; have GE173 := ge_ hg HB; replace HB := (bs_ HB hb); have NB171_173 := nl_ hg BK171; have NB173_171 := ng_ hg BK171; replace BK171 := (bbA_ BK171 hb); clear hb hbox hg; have hnb8 := NB173_171.out; have hnc8 := NB171_173.out; have Z9 := zz3 BK173)); go_upto_region 5 with (first | ((with_reducible refine gate_dst (N := 4) rfl ?_); (try (refine gate_guard (by rfl) ?_; dsimp only)); refine box_ (N := 4) (cs := #[.int .i64 0, .int .i64 0, .int .i64 0]) (t := 60) (fun gb173 hg w7 hbox hb => ?_); have BK173 := Aside0.mk (hbox); have GW173 := ge_ hg HB; have GE173 := ge_ hg HB; replace HB := (bs_ HB hb); have NB171_173 := nl_ hg BK171; have NB173_171 := ng_ hg BK171; replace BK171 := (bbA_ BK171 hb); clear hb hbox hg; have hnb8 := NB173_171.out; have hnc8 := NB171_173.out; have Z9 := zz3 BK173)))
     (try simp only [Act.put, List.setIfInBounds_toArray, List.set_cons_zero, List.set_cons_succ])
     go_cut [34] (fun v34 wc => ∃ (kq : Nat) (x34_4 : Bool), v34 = .bool x34_4 ∧ Aside0 (spec_NearOk.j1 kq x3_1 x34_4 l0_0 l0_1 ((rd_T60 l0_0 x3_1).f0) ((rd_T60 l0_0 x3_1).f1) ((rd_T60 l0_0 x3_1).f2) = some r) ∧ Aside0 (kq ≤ k1) ∧ Aside0 (wc.heap[gb171]? = some (.cells #[(.slice (some ad172) l0_0.length c0_0), (.slice A0_1 l0_1.length c0_1)] 26 (0, 0))) ∧ Aside0 (wc.heap[gb173]? = some (.cells #[.int .i64 ((rd_T60 l0_0 x3_1).f0), .int .i64 ((rd_T60 l0_0 x3_1).f1), .int .i64 ((rd_T60 l0_0 x3_1).f2)] 60 (0, 0))) ∧ Aside0 (Below w.heap.size w wc))
     case first =>
      have H := HC5.out; clear HC5
      replace H := Option.bind_eq_some_iff.mp H
      obtain ⟨t174, A100, H⟩ := H
      (try dsimp only at H)
      have A10 := Aside0.mk A100; clear A100
      by_cases c11 : t174 = true
      ·subst c11
       rw [if_pos rfl] at H
       replace H := Option.bind_eq_some_iff.mp H
       obtain ⟨t175, A120, H⟩ := H
       (try dsimp only at H)
       have A12 := Aside0.mk A120; clear A120
       by_cases c13 : t175 = true
       ·subst c13
        rw [if_pos rfl] at H
        replace H := Option.bind_eq_some_iff.mp H
        obtain ⟨t176, A140, H⟩ := H
        (try dsimp only at H)
        have A14 := Aside0.mk A140; clear A140
        have H' := Aside0.mk H
        clear H; have hnb15 := NB173_171.out; have hnc15 := NB171_173.out; have Z16 := zz3 BK173
        go_wp2_with (first | (go_at_call 30; (with_reducible refine (spec_l1In.calls ((rd_T60 l0_0 x3_1).f0) 0 65535 true _ A10.out).mono ?_); rintro e w' ⟨rfl, ⟨nd, rfl⟩⟩; (try first | exact ⟨rfl, _, World.drewN_drewN _ _ _⟩ | exact ⟨rfl, _, Eq.trans (World.drewN_drewN _ _ _) (congrArg (World.drewN _) (Nat.add_assoc _ _ _))⟩)) | (go_at_call 30; (with_reducible refine (spec_l1In.calls ((rd_T60 l0_0 x3_1).f1) 0 254 true _ A12.out).mono ?_); rintro e w' ⟨rfl, ⟨nd, rfl⟩⟩; (try first | exact ⟨rfl, _, World.drewN_drewN _ _ _⟩ | exact ⟨rfl, _, Eq.trans (World.drewN_drewN _ _ _) (congrArg (World.drewN _) (Nat.add_assoc _ _ _))⟩)) | (go_at_call 30; (with_reducible refine (spec_l1In.calls ((rd_T60 l0_0 x3_1).f2) 0 1000000 t176 _ A14.out).mono ?_); rintro e w' ⟨rfl, ⟨nd, rfl⟩⟩; (try first | exact ⟨rfl, _, World.drewN_drewN _ _ _⟩ | exact ⟨rfl, _, Eq.trans (World.drewN_drewN _ _ _) (congrArg (World.drewN _) (Nat.add_assoc _ _ _))⟩)))
        repeat (go_quiet (first | (go_at_call 30; (with_reducible refine (spec_l1In.calls ((rd_T60 l0_0 x3_1).f0) 0 65535 true _ A10.out).mono ?_); rintro e w' ⟨rfl, ⟨nd, rfl⟩⟩; (try first | exact ⟨rfl, _, World.drewN_drewN _ _ _⟩ | exact ⟨rfl, _, Eq.trans (World.drewN_drewN _ _ _) (congrArg (World.drewN _) (Nat.add_assoc _ _ _))⟩)) | (go_at_call 30; (with_reducible refine (spec_l1In.calls ((rd_T60 l0_0 x3_1).f1) 0 254 true _ A12.out).mono ?_); rintro e w' ⟨rfl, ⟨nd, rfl⟩⟩; (try first | exact ⟨rfl, _, World.drewN_drewN _ _ _⟩ | exact ⟨rfl, _, Eq.trans (World.drewN_drewN _ _ _) (congrArg (World.drewN _) (Nat.add_assoc _ _ _))⟩)) | (go_at_call 30; (with_reducible refine (spec_l1In.calls ((rd_T60 l0_0 x3_1).f2) 0 1000000 t176 _ A14.out).mono ?_); rintro e w' ⟨rfl, ⟨nd, rfl⟩⟩; (try first | exact ⟨rfl, _, World.drewN_drewN _ _ _⟩ | exact ⟨rfl, _, Eq.trans (World.drewN_drewN _ _ _) (congrArg (World.drewN _) (Nat.add_assoc _ _ _))⟩))); try go_wp2_with (first | (go_at_call 30; (with_reducible refine (spec_l1In.calls ((rd_T60 l0_0 x3_1).f0) 0 65535 true _ A10.out).mono ?_); rintro e w' ⟨rfl, ⟨nd, rfl⟩⟩; (try first | exact ⟨rfl, _, World.drewN_drewN _ _ _⟩ | exact ⟨rfl, _, Eq.trans (World.drewN_drewN _ _ _) (congrArg (World.drewN _) (Nat.add_assoc _ _ _))⟩)) | (go_at_call 30; (with_reducible refine (spec_l1In.calls ((rd_T60 l0_0 x3_1).f1) 0 254 true _ A12.out).mono ?_); rintro e w' ⟨rfl, ⟨nd, rfl⟩⟩; (try first | exact ⟨rfl, _, World.drewN_drewN _ _ _⟩ | exact ⟨rfl, _, Eq.trans (World.drewN_drewN _ _ _) (congrArg (World.drewN _) (Nat.add_assoc _ _ _))⟩)) | (go_at_call 30; (with_reducible refine (spec_l1In.calls ((rd_T60 l0_0 x3_1).f2) 0 1000000 t176 _ A14.out).mono ?_); rintro e w' ⟨rfl, ⟨nd, rfl⟩⟩; (try first | exact ⟨rfl, _, World.drewN_drewN _ _ _⟩ | exact ⟨rfl, _, Eq.trans (World.drewN_drewN _ _ _) (congrArg (World.drewN _) (Nat.add_assoc _ _ _))⟩))))
        go_meet
        case rel => exact ⟨_, (!t176), (by first | rfl | (simp; done) | (simp [*]; done)), H', ⟨by have := HK1.out; first | omega | exact Nat.le_refl _⟩, ⟨by exact kf_ BK171.out⟩, ⟨by refine kb_ ?_; refine pz3 (cs := #[.int .i64 0, .int .i64 0, .int .i64 0]) ?_; refine kb_ ?_; exact BK173.out⟩, ⟨hbA_ HB.out⟩⟩
       ·replace c13 := Bool.eq_false_iff.mpr c13
        subst c13
        rw [if_neg (show ¬ (false = true) by decide)] at H
        have H' := Aside0.mk H
        clear H; have hnb17 := NB173_171.out; have hnc17 := NB171_173.out; have Z18 := zz3 BK173
        go_wp2_with (first | (go_at_call 30; (with_reducible refine (spec_l1In.calls ((rd_T60 l0_0 x3_1).f0) 0 65535 true _ A10.out).mono ?_); rintro e w' ⟨rfl, ⟨nd, rfl⟩⟩; (try first | exact ⟨rfl, _, World.drewN_drewN _ _ _⟩ | exact ⟨rfl, _, Eq.trans (World.drewN_drewN _ _ _) (congrArg (World.drewN _) (Nat.add_assoc _ _ _))⟩)) | (go_at_call 30; (with_reducible refine (spec_l1In.calls ((rd_T60 l0_0 x3_1).f1) 0 254 false _ A12.out).mono ?_); rintro e w' ⟨rfl, ⟨nd, rfl⟩⟩; (try first | exact ⟨rfl, _, World.drewN_drewN _ _ _⟩ | exact ⟨rfl, _, Eq.trans (World.drewN_drewN _ _ _) (congrArg (World.drewN _) (Nat.add_assoc _ _ _))⟩)))
        repeat (go_quiet (first | (go_at_call 30; (with_reducible refine (spec_l1In.calls ((rd_T60 l0_0 x3_1).f0) 0 65535 true _ A10.out).mono ?_); rintro e w' ⟨rfl, ⟨nd, rfl⟩⟩; (try first | exact ⟨rfl, _, World.drewN_drewN _ _ _⟩ | exact ⟨rfl, _, Eq.trans (World.drewN_drewN _ _ _) (congrArg (World.drewN _) (Nat.add_assoc _ _ _))⟩)) | (go_at_call 30; (with_reducible refine (spec_l1In.calls ((rd_T60 l0_0 x3_1).f1) 0 254 false _ A12.out).mono ?_); rintro e w' ⟨rfl, ⟨nd, rfl⟩⟩; (try first | exact ⟨rfl, _, World.drewN_drewN _ _ _⟩ | exact ⟨rfl, _, Eq.trans (World.drewN_drewN _ _ _) (congrArg (World.drewN _) (Nat.add_assoc _ _ _))⟩))); try go_wp2_with (first | (go_at_call 30; (with_reducible refine (spec_l1In.calls ((rd_T60 l0_0 x3_1).f0) 0 65535 true _ A10.out).mono ?_); rintro e w' ⟨rfl, ⟨nd, rfl⟩⟩; (try first | exact ⟨rfl, _, World.drewN_drewN _ _ _⟩ | exact ⟨rfl, _, Eq.trans (World.drewN_drewN _ _ _) (congrArg (World.drewN _) (Nat.add_assoc _ _ _))⟩)) | (go_at_call 30; (with_reducible refine (spec_l1In.calls ((rd_T60 l0_0 x3_1).f1) 0 254 false _ A12.out).mono ?_); rintro e w' ⟨rfl, ⟨nd, rfl⟩⟩; (try first | exact ⟨rfl, _, World.drewN_drewN _ _ _⟩ | exact ⟨rfl, _, Eq.trans (World.drewN_drewN _ _ _) (congrArg (World.drewN _) (Nat.add_assoc _ _ _))⟩))))
        go_meet
        case rel => exact ⟨_, (true), (by first | rfl | (simp; done) | (simp [*]; done)), H', ⟨by have := HK1.out; first | omega | exact Nat.le_refl _⟩, ⟨by exact kf_ BK171.out⟩, ⟨by refine kb_ ?_; refine pz3 (cs := #[.int .i64 0, .int .i64 0, .int .i64 0]) ?_; refine kb_ ?_; exact BK173.out⟩, ⟨hbA_ HB.out⟩⟩
      ·replace c11 := Bool.eq_false_iff.mpr c11
       subst c11
       rw [if_neg (show ¬ (false = true) by decide)] at H
       have H' := Aside0.mk H
       clear H; have hnb19 := NB173_171.out; have hnc19 := NB171_173.out; have Z20 := zz3 BK173
       go_wp2_with (first | (go_at_call 30; (with_reducible refine (spec_l1In.calls ((rd_T60 l0_0 x3_1).f0) 0 65535 false _ A10.out).mono ?_); rintro e w' ⟨rfl, ⟨nd, rfl⟩⟩; (try first | exact ⟨rfl, _, World.drewN_drewN _ _ _⟩ | exact ⟨rfl, _, Eq.trans (World.drewN_drewN _ _ _) (congrArg (World.drewN _) (Nat.add_assoc _ _ _))⟩)))
       repeat (go_quiet (first | (go_at_call 30; (with_reducible refine (spec_l1In.calls ((rd_T60 l0_0 x3_1).f0) 0 65535 false _ A10.out).mono ?_); rintro e w' ⟨rfl, ⟨nd, rfl⟩⟩; (try first | exact ⟨rfl, _, World.drewN_drewN _ _ _⟩ | exact ⟨rfl, _, Eq.trans (World.drewN_drewN _ _ _) (congrArg (World.drewN _) (Nat.add_assoc _ _ _))⟩))); try go_wp2_with (first | (go_at_call 30; (with_reducible refine (spec_l1In.calls ((rd_T60 l0_0 x3_1).f0) 0 65535 false _ A10.out).mono ?_); rintro e w' ⟨rfl, ⟨nd, rfl⟩⟩; (try first | exact ⟨rfl, _, World.drewN_drewN _ _ _⟩ | exact ⟨rfl, _, Eq.trans (World.drewN_drewN _ _ _) (congrArg (World.drewN _) (Nat.add_assoc _ _ _))⟩))))
       go_meet
       case rel => exact ⟨_, (true), (by first | rfl | (simp; done) | (simp [*]; done)), H', ⟨by have := HK1.out; first | omega | exact Nat.le_refl _⟩, ⟨by exact kf_ BK171.out⟩, ⟨by refine kb_ ?_; refine pz3 (cs := #[.int .i64 0, .int .i64 0, .int .i64 0]) ?_; refine kb_ ?_; exact BK173.out⟩, ⟨hbA_ HB.out⟩⟩
     case rest =>
      clear HC5; (try clear c1); (try clear p1); (try clear q1); (try clear hx1); (try clear c2); (try clear p2); (try clear c3); (try clear c3b0); (try clear c4); (try clear c4b0); (try clear c8); (try clear c11); (try clear c13); (try clear c15); (try clear c17); (try clear p17); (try clear q17); (try clear hx17); (try clear c19); (try clear Z16); (try clear Z18); (try clear Z20); (try clear Z6); (try clear Z9); (try clear hx172_0); (try clear hx172_1); (try clear hx172_2); (try clear p172); (try clear p2); (try clear q172)
      obtain ⟨kq, x34_4, rfl, HA, HJ4, BK171, BK173, HB⟩ := hcut
      cases kq with
      | zero => exact absurd HA.out (by simp [spec_NearOk.j1])
      | succ kj4 =>
       have H := HA.out; clear HA
       simp only [spec_NearOk.j1] at H
       by_cases c21 : x34_4 = true
       ·subst c21
        rw [if_pos rfl] at H
        obtain rfl := Option.some.inj H
        go_wp2
        repeat (go_quiet (fail); try go_wp2)
        go_ret
        exact ⟨by first | rfl | (simp [errW_none, errW_some] <;> rfl) | (simp [*, errW_none, errW_some] <;> rfl), hbA_ HB.out⟩
       ·replace c21 := Bool.eq_false_iff.mpr c21
        subst c21
        rw [if_neg (show ¬ (false = true) by decide)] at H
        have H' := Aside0.mk H
        clear H
        go_wp2
        repeat (go_quiet (fail); try go_wp2)
        go_loopg [5] kj4 (fun kq v5 w' => ∃ (x5_3 : Int), v5 = .int .i64 x5_3 ∧ Aside0 (spec_NearOk.l1 kq x3_1 x5_3 l0_0 l0_1 ((rd_T60 l0_0 x3_1).f0) ((rd_T60 l0_0 x3_1).f1) ((rd_T60 l0_0 x3_1).f2) = some r) ∧ Aside0 (kq ≤ kj4) ∧ Aside0 (w'.heap[gb171]? = some (.cells #[(.slice (some ad172) l0_0.length c0_0), (.slice A0_1 l0_1.length c0_1)] 26 (0, 0))) ∧ Aside0 (w'.heap[gb173]? = some (.cells #[.int .i64 ((rd_T60 l0_0 x3_1).f0), .int .i64 ((rd_T60 l0_0 x3_1).f1), .int .i64 ((rd_T60 l0_0 x3_1).f2)] 60 (0, 0))) ∧ Aside0 (Below w.heap.size w w'))
        case atStart => exact ⟨(0), (by first | rfl | (simp; done) | (simp [*]; done)), H', ⟨Nat.le_refl _⟩, ⟨by refine kb_ ?_; exact BK171.out⟩, ⟨by refine kb_ ?_; exact BK173.out⟩, ⟨hbA_ HB.out⟩⟩
        case round =>
         clear H'; (try clear c1); (try clear p1); (try clear q1); (try clear hx1); (try clear c2); (try clear p2); (try clear c3); (try clear c3b0); (try clear c4); (try clear c4b0); (try clear c8); (try clear c11); (try clear c13); (try clear c15); (try clear c17); (try clear p17); (try clear q17); (try clear hx17); (try clear c19); (try clear c21); (try clear Z16); (try clear Z18); (try clear Z20); (try clear Z6); (try clear Z9); (try clear hx172_0); (try clear hx172_1); (try clear hx172_2); (try clear p1); (try clear p17); (try clear p172); (try clear p2); (try clear q1); (try clear q17); (try clear q172)
         obtain ⟨x5_3, rfl, HA, HK3, BK171, BK173, HB⟩ := hrel
         cases gk with
         | zero => exact absurd HA.out (by simp [spec_NearOk.l1])
         | succ k3 =>
          have H := HA.out; clear HA
          simp only [spec_NearOk.l1] at H
          by_cases c22 : x5_3 < x3_1
          ·rw [if_pos c22] at H
           have c22b0 : decide (x5_3 < x3_1) = true := decide_eq_true c22
           clear c22
           by_cases c23 : 0 ≤ x5_3
           ·rw [if_pos c23] at H
            have c23b0 : decide (0 ≤ x5_3) = true := decide_eq_true c23
            clear c23
            by_cases c24 : x5_3 < (l0_0.length : Int)
            ·rw [if_pos c24] at H
             have c24b0 : decide (x5_3 < (l0_0.length : Int)) = true := decide_eq_true c24
             clear c24
             by_cases c25 : ((rd_T60 l0_0 x5_3).f0) = ((rd_T60 l0_0 x3_1).f0)
             ·rw [if_pos c25] at H
              have c25b0 : (((rd_T60 l0_0 x5_3).f0) == ((rd_T60 l0_0 x3_1).f0)) = true := beq_iff_eq.mpr c25
              have c25b1 : (((rd_T60 l0_0 x5_3).f0) != ((rd_T60 l0_0 x3_1).f0)) = false := bne_eq_false_iff_eq.mpr c25
              clear c25
              obtain rfl := Option.some.inj H
              have hnb26 := NB171_173.out; have hnc26 := NB173_171.out; have Z27 := zz2 BK171
              have p177 : 0 ≤ (x5_3 : Int) := of_decide_eq_true (by first | (with_reducible assumption) | assumption)
              have q177 : x5_3 < (l0_0.length : Int) := of_decide_eq_true (by first | (with_reducible assumption) | assumption)
              obtain ⟨ad177, e177, hx177_0, hx177_1, hx177_2⟩ := at_T60 HR0_0.out x5_3 p177 q177
              obtain rfl : ad172 = ad177 := (by injection e177)
              replace hx177_0 := cc_ HB hx177_0
              replace hx177_1 := cc_ HB hx177_1
              replace hx177_2 := cc_ HB hx177_2
              replace p177 := eq_true p177
              replace q177 := eq_true q177
              have Z28 := zz3 BK173
              go_wp2
              repeat (go_quiet (fail); try go_wp2)
              go_ret
              exact ⟨by first | rfl | (simp [errW_none, errW_some] <;> rfl) | (simp [*, errW_none, errW_some] <;> rfl), hbA_ HB.out⟩
             ·rw [if_neg c25] at H
              have c25b0 : (((rd_T60 l0_0 x5_3).f0) == ((rd_T60 l0_0 x3_1).f0)) = false := beq_eq_false_iff_ne.mpr c25
              have c25b1 : (((rd_T60 l0_0 x5_3).f0) != ((rd_T60 l0_0 x3_1).f0)) = true := bne_iff_ne.mpr c25
              have H' := Aside0.mk H
              clear H; have hnb29 := NB171_173.out; have hnc29 := NB173_171.out; have Z30 := zz2 BK171
              have p177 : 0 ≤ (x5_3 : Int) := of_decide_eq_true (by first | (with_reducible assumption) | assumption)
              have q177 : x5_3 < (l0_0.length : Int) := of_decide_eq_true (by first | (with_reducible assumption) | assumption)
              obtain ⟨ad177, e177, hx177_0, hx177_1, hx177_2⟩ := at_T60 HR0_0.out x5_3 p177 q177
              obtain rfl : ad172 = ad177 := (by injection e177)
              replace hx177_0 := cc_ HB hx177_0
              replace hx177_1 := cc_ HB hx177_1
              replace hx177_2 := cc_ HB hx177_2
              replace p177 := eq_true p177
              replace q177 := eq_true q177
              have Z31 := zz3 BK173
              go_wp2
              repeat (go_quiet (fail); try go_wp2)
              go_roundg k3
              case measure => have := HK1.out; have := HJ4.out; have := HK3.out; omega
              case rel => exact ⟨(wrap64 (x5_3 + 1)), (by first | rfl | (simp; done) | (simp [*]; done)), H', ⟨by have := HK1.out; have := HJ4.out; have := HK3.out; omega⟩, ⟨by refine kb_ ?_; exact BK171.out⟩, ⟨by refine kb_ ?_; exact BK173.out⟩, ⟨hbA_ HB.out⟩⟩
            ·rw [if_neg c24] at H
             exact absurd H (by simp)
           ·rw [if_neg c23] at H
            exact absurd H (by simp)
          ·rw [if_neg c22] at H
           have c22b0 : decide (x5_3 < x3_1) = false := decide_eq_false c22
           clear c22
           have H' := Aside0.mk H
           clear H
           go_wp2
           repeat (go_quiet (fail); try go_wp2)
           go_roundg k3
           case measure => have := HK1.out; have := HJ4.out; have := HK3.out; omega
           case rel => exact ⟨(wrap64 (x3_1 + 1)), (by first | rfl | (simp; done) | (simp [*]; done)), H', ⟨by have := HK1.out; have := HJ4.out; have := HK3.out; omega⟩, ⟨by refine kb_ ?_; exact BK171.out⟩, ⟨hbA_ HB.out⟩⟩
    ·rw [if_neg c4] at H
     exact absurd H (by simp)
   ·rw [if_neg c3] at H
    have c3b0 : decide (x3_1 < (l0_0.length : Int)) = false := decide_eq_false c3
    clear c3
    have H' := Aside0.mk H
    clear H; have Z32 := zz2 BK171
    go_wp2
    repeat (go_quiet (fail); try go_wp2)
    go_loopg [6] k1 (fun kq v6 w' => ∃ (x6_2 : Int), v6 = .int .i64 x6_2 ∧ Aside0 (spec_NearOk.l2 kq x6_2 l0_0 l0_1 = some r) ∧ Aside0 (kq ≤ k1) ∧ Aside0 (w'.heap[gb171]? = some (.cells #[(.slice A0_0 l0_0.length c0_0), (.slice A0_1 l0_1.length c0_1)] 26 (0, 0))) ∧ Aside0 (Below w.heap.size w w'))
    case atStart => exact ⟨(0), (by first | rfl | (simp; done) | (simp [*]; done)), H', ⟨Nat.le_refl _⟩, ⟨by refine kb_ ?_; exact BK171.out⟩, ⟨hbA_ HB.out⟩⟩
    case round =>
     clear H'; (try clear c1); (try clear p1); (try clear q1); (try clear hx1); (try clear c2); (try clear p2); (try clear c3); (try clear c3b0); (try clear c4); (try clear c4b0); (try clear p6); (try clear c8); (try clear c11); (try clear c13); (try clear c15); (try clear c17); (try clear p17); (try clear q17); (try clear hx17); (try clear c19); (try clear c21); (try clear c22); (try clear c22b0); (try clear c23); (try clear c23b0); (try clear c24); (try clear c24b0); (try clear c25); (try clear c25b0); (try clear c25b1); (try clear c26); (try clear c29); (try clear Z16); (try clear Z18); (try clear Z20); (try clear Z27); (try clear Z28); (try clear Z30); (try clear Z31); (try clear Z32); (try clear Z6); (try clear Z9); (try clear hx172_0); (try clear hx172_1); (try clear hx172_2); (try clear hx177_0); (try clear hx177_1); (try clear hx177_2); (try clear p1); (try clear p17); (try clear p172); (try clear p177); (try clear p2); (try clear q1); (try clear q17); (try clear q172); (try clear q177)
     obtain ⟨x6_2, rfl, HA, HK2, BK171, HB⟩ := hrel
     cases gk with
     | zero => exact absurd HA.out (by simp [spec_NearOk.l2])
     | succ k2 =>
      have H := HA.out; clear HA
      simp only [spec_NearOk.l2] at H
      by_cases c33 : x6_2 < (l0_1.length : Int)
      ·rw [if_pos c33] at H
       have c33b0 : decide (x6_2 < (l0_1.length : Int)) = true := decide_eq_true c33
       clear c33
       by_cases c34 : 0 ≤ x6_2
       ·rw [if_pos c34] at H
        have c34b0 : decide (0 ≤ x6_2) = true := decide_eq_true c34
        clear c34
        replace H := Option.bind_eq_some_iff.mp H
        obtain ⟨t179, A350, H⟩ := H
        (try dsimp only at H)
        have A35 := Aside0.mk A350; clear A350
        by_cases c36 : t179 = true
        ·subst c36
         rw [if_pos rfl] at H
         by_cases c37 : (((rd_T36 l0_1 x6_2).f1).length : Int) > 64
         ·rw [if_pos c37] at H
          have c37b0 : decide (64 < (((rd_T36 l0_1 x6_2).f1).length : Int)) = true := decide_eq_true c37
          have c37b1 : decide (64 < ((rd_T36 l0_1 x6_2).f1).length) = true := decide_eq_true (by omega)
          clear c37
          obtain rfl := Option.some.inj H
          have Z38 := zz2 BK171
          have p178 : 0 ≤ (x6_2 : Int) := of_decide_eq_true (by first | (with_reducible assumption) | assumption)
          have q178 : x6_2 < (l0_1.length : Int) := of_decide_eq_true (by first | (with_reducible assumption) | assumption)
          obtain ⟨ad178, A178_1, c178_1, e178, hx178_0, hx178_1, hl178_1, hi178_1⟩ := at_T36 HR0_1.out x6_2 p178 q178
          cases e178
          replace hx178_0 := cc_ HB hx178_0
          replace hx178_1 := cc_ HB hx178_1
          have HR178_1 := Aside0.mk hi178_1; have HC178_1 := Aside0.mk hl178_1; clear hi178_1 hl178_1
          replace p178 := eq_true p178
          replace q178 := eq_true q178
          go_wp2_with (first | (go_at_call 30; (with_reducible refine (spec_l1In.calls ((rd_T36 l0_1 x6_2).f0) 0 65535 true _ A35.out).mono ?_); rintro e w' ⟨rfl, ⟨nd, rfl⟩⟩; (try first | exact ⟨rfl, _, World.drewN_drewN _ _ _⟩ | exact ⟨rfl, _, Eq.trans (World.drewN_drewN _ _ _) (congrArg (World.drewN _) (Nat.add_assoc _ _ _))⟩); have p180 : 0 ≤ (x6_2 : Int) := of_decide_eq_true (by first | (with_reducible assumption) | assumption); have q180 : x6_2 < (l0_1.length : Int) := of_decide_eq_true (by first | (with_reducible assumption) | assumption); obtain ⟨ad180, A180_1, c180_1, e180, hx180_0, hx180_1, hl180_1, hi180_1⟩ := at_T36 HR0_1.out x6_2 p180 q180; obtain rfl : ad178 = ad180 := (by injection e180); replace hx180_0 := cc_ HB hx180_0; replace hx180_1 := cc_ HB hx180_1; have HR180_1 := Aside0.mk hi180_1; have HC180_1 := Aside0.mk hl180_1; clear hi180_1 hl180_1; replace p180 := eq_true p180; replace q180 := eq_true q180; have ea_ := Option.some.inj (hx178_1.symm.trans hx180_1); injection ea_ with ea_ en_ ec_; subst ea_; subst ec_; clear en_))
          repeat (go_quiet (first | (go_at_call 30; (with_reducible refine (spec_l1In.calls ((rd_T36 l0_1 x6_2).f0) 0 65535 true _ A35.out).mono ?_); rintro e w' ⟨rfl, ⟨nd, rfl⟩⟩; (try first | exact ⟨rfl, _, World.drewN_drewN _ _ _⟩ | exact ⟨rfl, _, Eq.trans (World.drewN_drewN _ _ _) (congrArg (World.drewN _) (Nat.add_assoc _ _ _))⟩); have p180 : 0 ≤ (x6_2 : Int) := of_decide_eq_true (by first | (with_reducible assumption) | assumption); have q180 : x6_2 < (l0_1.length : Int) := of_decide_eq_true (by first | (with_reducible assumption) | assumption); obtain ⟨ad180, A180_1, c180_1, e180, hx180_0, hx180_1, hl180_1, hi180_1⟩ := at_T36 HR0_1.out x6_2 p180 q180; obtain rfl : ad178 = ad180 := (by injection e180); replace hx180_0 := cc_ HB hx180_0; replace hx180_1 := cc_ HB hx180_1; have HR180_1 := Aside0.mk hi180_1; have HC180_1 := Aside0.mk hl180_1; clear hi180_1 hl180_1; replace p180 := eq_true p180; replace q180 := eq_true q180; have ea_ := Option.some.inj (hx178_1.symm.trans hx180_1); injection ea_ with ea_ en_ ec_; subst ea_; subst ec_; clear en_)); try go_wp2_with (first | (go_at_call 30; (with_reducible refine (spec_l1In.calls ((rd_T36 l0_1 x6_2).f0) 0 65535 true _ A35.out).mono ?_); rintro e w' ⟨rfl, ⟨nd, rfl⟩⟩; (try first | exact ⟨rfl, _, World.drewN_drewN _ _ _⟩ | exact ⟨rfl, _, Eq.trans (World.drewN_drewN _ _ _) (congrArg (World.drewN _) (Nat.add_assoc _ _ _))⟩); have p180 : 0 ≤ (x6_2 : Int) := of_decide_eq_true (by first | (with_reducible assumption) | assumption); have q180 : x6_2 < (l0_1.length : Int) := of_decide_eq_true (by first | (with_reducible assumption) | assumption); obtain ⟨ad180, A180_1, c180_1, e180, hx180_0, hx180_1, hl180_1, hi180_1⟩ := at_T36 HR0_1.out x6_2 p180 q180; obtain rfl : ad178 = ad180 := (by injection e180); replace hx180_0 := cc_ HB hx180_0; replace hx180_1 := cc_ HB hx180_1; have HR180_1 := Aside0.mk hi180_1; have HC180_1 := Aside0.mk hl180_1; clear hi180_1 hl180_1; replace p180 := eq_true p180; replace q180 := eq_true q180; have ea_ := Option.some.inj (hx178_1.symm.trans hx180_1); injection ea_ with ea_ en_ ec_; subst ea_; subst ec_; clear en_)))
          go_ret
          exact ⟨by first | rfl | (simp [errW_none, errW_some] <;> rfl) | (simp [*, errW_none, errW_some] <;> rfl), hbA_ HB.out⟩
         ·rw [if_neg c37] at H
          have c37b0 : decide (64 < (((rd_T36 l0_1 x6_2).f1).length : Int)) = false := decide_eq_false c37
          have c37b1 : decide (64 < ((rd_T36 l0_1 x6_2).f1).length) = false := decide_eq_false (by omega)
          clear c37
          have H' := Aside0.mk H
          clear H; have Z39 := zz2 BK171
          have p178 : 0 ≤ (x6_2 : Int) := of_decide_eq_true (by first | (with_reducible assumption) | assumption)
          have q178 : x6_2 < (l0_1.length : Int) := of_decide_eq_true (by first | (with_reducible assumption) | assumption)
          obtain ⟨ad178, A178_1, c178_1, e178, hx178_0, hx178_1, hl178_1, hi178_1⟩ := at_T36 HR0_1.out x6_2 p178 q178
          cases e178
          replace hx178_0 := cc_ HB hx178_0
          replace hx178_1 := cc_ HB hx178_1
          have HR178_1 := Aside0.mk hi178_1; have HC178_1 := Aside0.mk hl178_1; clear hi178_1 hl178_1
          replace p178 := eq_true p178
          replace q178 := eq_true q178
          go_wp2_with (first | (go_at_call 30; (with_reducible refine (spec_l1In.calls ((rd_T36 l0_1 x6_2).f0) 0 65535 true _ A35.out).mono ?_); rintro e w' ⟨rfl, ⟨nd, rfl⟩⟩; (try first | exact ⟨rfl, _, World.drewN_drewN _ _ _⟩ | exact ⟨rfl, _, Eq.trans (World.drewN_drewN _ _ _) (congrArg (World.drewN _) (Nat.add_assoc _ _ _))⟩); have p180 : 0 ≤ (x6_2 : Int) := of_decide_eq_true (by first | (with_reducible assumption) | assumption); have q180 : x6_2 < (l0_1.length : Int) := of_decide_eq_true (by first | (with_reducible assumption) | assumption); obtain ⟨ad180, A180_1, c180_1, e180, hx180_0, hx180_1, hl180_1, hi180_1⟩ := at_T36 HR0_1.out x6_2 p180 q180; obtain rfl : ad178 = ad180 := (by injection e180); replace hx180_0 := cc_ HB hx180_0; replace hx180_1 := cc_ HB hx180_1; have HR180_1 := Aside0.mk hi180_1; have HC180_1 := Aside0.mk hl180_1; clear hi180_1 hl180_1; replace p180 := eq_true p180; replace q180 := eq_true q180; have ea_ := Option.some.inj (hx178_1.symm.trans hx180_1); injection ea_ with ea_ en_ ec_; subst ea_; subst ec_; clear en_))
          repeat (go_quiet (first | (go_at_call 30; (with_reducible refine (spec_l1In.calls ((rd_T36 l0_1 x6_2).f0) 0 65535 true _ A35.out).mono ?_); rintro e w' ⟨rfl, ⟨nd, rfl⟩⟩; (try first | exact ⟨rfl, _, World.drewN_drewN _ _ _⟩ | exact ⟨rfl, _, Eq.trans (World.drewN_drewN _ _ _) (congrArg (World.drewN _) (Nat.add_assoc _ _ _))⟩); have p180 : 0 ≤ (x6_2 : Int) := of_decide_eq_true (by first | (with_reducible assumption) | assumption); have q180 : x6_2 < (l0_1.length : Int) := of_decide_eq_true (by first | (with_reducible assumption) | assumption); obtain ⟨ad180, A180_1, c180_1, e180, hx180_0, hx180_1, hl180_1, hi180_1⟩ := at_T36 HR0_1.out x6_2 p180 q180; obtain rfl : ad178 = ad180 := (by injection e180); replace hx180_0 := cc_ HB hx180_0; replace hx180_1 := cc_ HB hx180_1; have HR180_1 := Aside0.mk hi180_1; have HC180_1 := Aside0.mk hl180_1; clear hi180_1 hl180_1; replace p180 := eq_true p180; replace q180 := eq_true q180; have ea_ := Option.some.inj (hx178_1.symm.trans hx180_1); injection ea_ with ea_ en_ ec_; subst ea_; subst ec_; clear en_)); try go_wp2_with (first | (go_at_call 30; (with_reducible refine (spec_l1In.calls ((rd_T36 l0_1 x6_2).f0) 0 65535 true _ A35.out).mono ?_); rintro e w' ⟨rfl, ⟨nd, rfl⟩⟩; (try first | exact ⟨rfl, _, World.drewN_drewN _ _ _⟩ | exact ⟨rfl, _, Eq.trans (World.drewN_drewN _ _ _) (congrArg (World.drewN _) (Nat.add_assoc _ _ _))⟩); have p180 : 0 ≤ (x6_2 : Int) := of_decide_eq_true (by first | (with_reducible assumption) | assumption); have q180 : x6_2 < (l0_1.length : Int) := of_decide_eq_true (by first | (with_reducible assumption) | assumption); obtain ⟨ad180, A180_1, c180_1, e180, hx180_0, hx180_1, hl180_1, hi180_1⟩ := at_T36 HR0_1.out x6_2 p180 q180; obtain rfl : ad178 = ad180 := (by injection e180); replace hx180_0 := cc_ HB hx180_0; replace hx180_1 := cc_ HB hx180_1; have HR180_1 := Aside0.mk hi180_1; have HC180_1 := Aside0.mk hl180_1; clear hi180_1 hl180_1; replace p180 := eq_true p180; replace q180 := eq_true q180; have ea_ := Option.some.inj (hx178_1.symm.trans hx180_1); injection ea_ with ea_ en_ ec_; subst ea_; subst ec_; clear en_)))
          go_roundg k2
          case measure => have := HK1.out; have := HK2.out; omega
          case rel => exact ⟨(wrap64 (x6_2 + 1)), (by first | rfl | (simp; done) | (simp [*]; done)), H', ⟨by have := HK1.out; have := HK2.out; omega⟩, ⟨by refine kb_ ?_; exact BK171.out⟩, ⟨hbA_ HB.out⟩⟩
        ·replace c36 := Bool.eq_false_iff.mpr c36
         subst c36
         rw [if_neg (show ¬ (false = true) by decide)] at H
         obtain rfl := Option.some.inj H
         have Z40 := zz2 BK171
         have p178 : 0 ≤ (x6_2 : Int) := of_decide_eq_true (by first | (with_reducible assumption) | assumption)
         have q178 : x6_2 < (l0_1.length : Int) := of_decide_eq_true (by first | (with_reducible assumption) | assumption)
         obtain ⟨ad178, A178_1, c178_1, e178, hx178_0, hx178_1, hl178_1, hi178_1⟩ := at_T36 HR0_1.out x6_2 p178 q178
         cases e178
         replace hx178_0 := cc_ HB hx178_0
         replace hx178_1 := cc_ HB hx178_1
         have HR178_1 := Aside0.mk hi178_1; have HC178_1 := Aside0.mk hl178_1; clear hi178_1 hl178_1
         replace p178 := eq_true p178
         replace q178 := eq_true q178
         go_wp2_with (first | (go_at_call 30; (with_reducible refine (spec_l1In.calls ((rd_T36 l0_1 x6_2).f0) 0 65535 false _ A35.out).mono ?_); rintro e w' ⟨rfl, ⟨nd, rfl⟩⟩; (try first | exact ⟨rfl, _, World.drewN_drewN _ _ _⟩ | exact ⟨rfl, _, Eq.trans (World.drewN_drewN _ _ _) (congrArg (World.drewN _) (Nat.add_assoc _ _ _))⟩)))
         repeat (go_quiet (first | (go_at_call 30; (with_reducible refine (spec_l1In.calls ((rd_T36 l0_1 x6_2).f0) 0 65535 false _ A35.out).mono ?_); rintro e w' ⟨rfl, ⟨nd, rfl⟩⟩; (try first | exact ⟨rfl, _, World.drewN_drewN _ _ _⟩ | exact ⟨rfl, _, Eq.trans (World.drewN_drewN _ _ _) (congrArg (World.drewN _) (Nat.add_assoc _ _ _))⟩))); try go_wp2_with (first | (go_at_call 30; (with_reducible refine (spec_l1In.calls ((rd_T36 l0_1 x6_2).f0) 0 65535 false _ A35.out).mono ?_); rintro e w' ⟨rfl, ⟨nd, rfl⟩⟩; (try first | exact ⟨rfl, _, World.drewN_drewN _ _ _⟩ | exact ⟨rfl, _, Eq.trans (World.drewN_drewN _ _ _) (congrArg (World.drewN _) (Nat.add_assoc _ _ _))⟩))))
         go_ret
         exact ⟨by first | rfl | (simp [errW_none, errW_some] <;> rfl) | (simp [*, errW_none, errW_some] <;> rfl), hbA_ HB.out⟩
       ·rw [if_neg c34] at H
        exact absurd H (by simp)
      ·rw [if_neg c33] at H
       have c33b0 : decide (x6_2 < (l0_1.length : Int)) = false := decide_eq_false c33
       clear c33
       by_cases c41 : (l0_0.length : Int) ≤ 4
       ·rw [if_pos c41] at H
        have c41b0 : decide ((l0_0.length : Int) ≤ 4) = true := decide_eq_true c41
        have c41b1 : decide (l0_0.length ≤ 4) = true := decide_eq_true (by omega)
        clear c41
        obtain rfl := Option.some.inj H
        have Z42 := zz2 BK171
        go_wp2
        repeat (go_quiet (fail); try go_wp2)
        go_ret
        exact ⟨by first | rfl | (simp [errW_none, errW_some] <;> rfl) | (simp [*, errW_none, errW_some] <;> rfl), hbA_ HB.out⟩
       ·rw [if_neg c41] at H
        have c41b0 : decide ((l0_0.length : Int) ≤ 4) = false := decide_eq_false c41
        have c41b1 : decide (l0_0.length ≤ 4) = false := decide_eq_false (by omega)
        clear c41
        obtain rfl := Option.some.inj H
        have Z43 := zz2 BK171
        go_wp2
        repeat (go_quiet (fail); try go_wp2)
        go_ret
        exact ⟨by first | rfl | (simp [errW_none, errW_some] <;> rfl) | (simp [*, errW_none, errW_some] <;> rfl), hbA_ HB.out⟩
def spec_l3Copy.l0 : Nat → Int → List (S60) → List (S36) → List (S60) → List (S36) → Option ((List (S60)) × (List (S36)))
 | 0, _, _, _, _, _ => none
 | k + 1, x4, x182000, x182001, x190000, x190001 => if x4 < (x182001.length : Int) then (if 0 ≤ x4 then ((some (([] : List Int) : List Int)).bind fun y191 => (if y191.length + ((rd_T36 x182001 x4).f1).length < 140737488355328 then (if x190001.length < 4398046511104 then (spec_l3Copy.l0 k (wrap64 (x4 + 1)) x182000 x182001 x190000 (x190001 ++ [(⟨(rd_T36 x182001 x4).f0, (y191 ++ ((rd_T36 x182001 x4).f1))⟩ : S36)])) else (none)) else (none))) else (none)) else (some (x190000, x190001))
def spec_l3Copy.f (k : Nat) (l0_0 : List (S60)) (l0_1 : List (S36)) : Option ((List (S60)) × (List (S36))) := (some (([] : List (S60)) : List (S60))).bind fun y183 => (if y183.length + l0_0.length < 5864062014805 then (spec_l3Copy.l0 k 0 l0_0 l0_1 (y183 ++ l0_0) ([] : List (S36))) else (none))
theorem spec_l3Copy.mono_l : ∀ k, (∀ y0 y1 y2 y3 y4, LeO (spec_l3Copy.l0 k y0 y1 y2 y3 y4) (spec_l3Copy.l0 (k + 1) y0 y1 y2 y3 y4))
 | 0 => fun _ _ _ _ _ r h => by simp [spec_l3Copy.l0] at h
 | k + 1 => by
  have ih0 := spec_l3Copy.mono_l k
  ·intro y0 y1 y2 y3 y4
   unfold spec_l3Copy.l0
   repeat' first | (with_reducible first | apply ih0 | exact LeO.refl _ | exact LeO.none _ | refine LeO.ite ?_ ?_ | refine LeO.bind ?_ fun _ => ?_) | apply ih0 | exact LeO.none _ | refine LeO.ite ?_ ?_ | refine LeO.bind ?_ fun _ => ?_
theorem spec_l3Copy.mono : ∀ a0 a1 k, LeO (spec_l3Copy.f k a0 a1) (spec_l3Copy.f (k + 1) a0 a1) := by
 intro a0 a1 k
 have ih0 := spec_l3Copy.mono_l k
 unfold spec_l3Copy.f
 repeat' first | (with_reducible first | apply ih0 | exact LeO.refl _ | exact LeO.none _ | refine LeO.ite ?_ ?_ | refine LeO.bind ?_ fun _ => ?_) | apply ih0 | exact LeO.none _ | refine LeO.ite ?_ ?_ | refine LeO.bind ?_ fun _ => ?_
def spec_l3Copy.T5 : Bool × List (List Nat × List Nat) := (true, [([], []), ([0], [0]), ([], []), ([2], [2]), ([], []), ([3, 4], [3, 4]), ([5], [5]), ([6], [6]), ([], []), ([], []), ([9], [9]), ([], []), ([10, 11], [10, 11]), ([12], [12]), ([13], [13]), ([8, 14], [8, 14]), ([7, 15], [7, 15]), ([16], [16]), ([1, 17, 15], [1, 17]), ([0, 1, 2, 3, 4, 5, 6, 7, 8, 9, 10, 11, 12, 13, 14, 15, 16, 17, 18], []), ([19, 18, 18, 0, 1, 2, 3, 4, 5, 6, 7, 8, 9, 10, 11, 12, 13, 14, 15, 16, 17, 18], [18, 19])])
def spec_l3Copy.B5 : List Nat := [0, 1, 0, 4, 0, 28, 60, 124, 0, 0, 512, 0, 3584, 7680, 15872, 32512, 65532, 131068, 262143, 524287, 1048575]
theorem spec_l3Copy.tab5 : rtab .any (opsOf Try.f31 5) = spec_l3Copy.T5 := by kernel_rfl
theorem spec_l3Copy.bits5 : waitsOk spec_l3Copy.T5.2 spec_l3Copy.B5 = true := by kernel_rfl
set_option maxHeartbeats 8000000 in
set_option maxRecDepth 100000 in
theorem spec_l3Copy.calls (k : Nat) (A0_0 : Option Addr) (c0_0 : Nat) (l0_0 : List (S60)) (A0_1 : Option Addr) (c0_1 : Nat) (l0_1 : List (S36)) (r1 : List (S60)) (r2 : List (S36)) (w : World) (hr0_0 : Kd.C k60 w A0_0 l0_0.length l0_0) (hc0_0 : l0_0.length ≤ c0_0) (hr0_1 : Kd.C k36 w A0_1 l0_1.length l0_1) (hc0_1 : l0_1.length ≤ c0_1) (h : spec_l3Copy.f k l0_0 l0_1 = some (r1, r2)) :
  Calls Try.prog 31 #[.agg #[.slice A0_0 l0_0.length c0_0, .slice A0_1 l0_1.length c0_1]] w fun e w' => ∃ v0_ v1_ : Value, e = .returned (.agg #[v0_, v1_]) ∧ Kd.R k60 60 w' w.heap.size (fun _ => True) v0_ r1 ∧ Kd.S k36 36 w' w.heap.size (fun _ => True) v1_ r2 ∧ Below w.heap.size w w' := by
 have hu26 := Try.underlying26; have hu36 := Try.underlying36; have HR0_0 := Aside0.mk hr0_0; have HC0_0 := Aside0.mk hc0_0; clear hr0_0 hc0_0; have HR0_1 := Aside0.mk hr0_1; have HC0_1 := Aside0.mk hc0_1; clear hr0_1 hc0_1
 have HB := Aside0.mk (Below.refl w.heap.size w)
 have H : ((some (([] : List (S60)) : List (S60))).bind fun y183 => (if y183.length + l0_0.length < 5864062014805 then (spec_l3Copy.l0 k 0 l0_0 l0_1 (y183 ++ l0_0) ([] : List (S36))) else (none))) = some (r1, r2) := h
 clear h
 obtain ⟨y183, hy183⟩ : ∃ y_ : List (S60), y_ = (([] : List (S60))) := ⟨_, rfl⟩
 (first | replace H := sb_ hy183 H | rw [← hy183] at H)
 have Ny183 := Aside0.mk hy183; clear hy183
 by_cases c2 : y183.length + l0_0.length < 5864062014805
 ·rw [if_pos c2] at H
  have LMc2 := Aside0.mk c2; clear c2
  obtain ⟨y186, hy186⟩ : ∃ y_ : List (S60), y_ = (y183 ++ l0_0) := ⟨_, rfl⟩
  (first | replace H := sb_ hy186 H | rw [← hy186] at H)
  have Ny186 := Aside0.mk hy186; clear hy186
  have H' := Aside0.mk H
  clear H
  go_enter Try.func31, Try.ntmps31
  go_wp2_with (first | ((with_reducible refine gate_dst (N := 1) rfl ?_); refine box_ (N := 1) (cs := #[.slice A0_0 l0_0.length c0_0, .slice A0_1 l0_1.length c0_1]) (t := 26) (fun gb181 hg w3 hbox hb => ?_); have BK181 := Aside0.mk (hbox); have GW181 := ge_ hg HB; have GE181 := ge_ hg HB; replace HB := (bs_ HB hb); clear hb hbox hg) | ((with_reducible refine gate_dst (N := 2) rfl ?_); refine box_ (N := 2) (cs := #[.slice none 0 0, .slice none 0 0]) (t := 26) (fun gb182 hg w4 hbox hb => ?_); have BK182 := Aside0.mk (hbox); have GW182 := ge_ hg HB; have GE182 := ge_ hg HB; replace HB := (bs_ HB hb); have NB181_182 := nl_ hg BK181; have NB182_181 := ng_ hg BK181; replace BK181 := (bbA_ BK181 hb); clear hb hbox hg) | ((with_reducible refine gate_dst (N := 5) rfl ?_); refine Kd.R_lit k60 _ 60 ?hg (N := 5) ?hd (xs := ([] : List (S60))) (inner := []) (ok := fun _ => True) (okp := fun _ => True) ?hr ?hp (fun _ hk => hk) trivial (Below.refl _ _) (Nat.le_refl _) (by simp) ?_; (case hd => rfl); (case hg => rfl); (case hr => first | (go_simp; done) | (go_simp; rfl)); (case hp => exact (Reps.none _ _)); intro v184 w5 ho6 hb hg_ hnew_; clear hg_ hnew_; (first | rw [← Ny183.out] at ho6 | (simp only [Int.reduceToNat] at ho6; rw [← Ny183.out] at ho6)); have HO185 := Aside0.mk (Kd.R_lower ho6 (below_size (hbA_ HB.out))); replace BK181 := (bbA_ BK181 hb); replace BK182 := (bbA_ BK182 hb); replace HB := (bs_ HB hb); clear hb ho6; have hnb7 := NB181_182.out; have hnc7 := NB182_181.out; have Z8 := zz2 BK181) | ((with_reducible refine gate_builtin (b := .append) (xs := #[.tmp 5, .tmp 7]) rfl ?_); at_builtin; refine Kd.R_append_rows k60 (w0 := w) w.heap.size rfl (.tmp 5) (.tmp 7) 23 60 (.agg #[(.int .i64 0), (.int .i64 0), (.int .i64 0)]) 24 rfl Try.underlying23 info60 rfl (by decide) (by omega) v184 y183 l0_0 _ _ _ (fun _ => True) (fun _ => False) rfl rfl ?aO ?aR (fun _ _ h => h) (fun _ h => h.elim) ?aF ?aB ?aS ?aL ?_; (case aR => exact kC_ (Kd.C_below HR0_0.out HB.out)); (case aB => exact (hbA_ HB.out)); (case aF => exact (fun _ _ => trivial)); (case aO => exact (kR_ HO185.out)); (case aS => exact (below_size (hbA_ HB.out))); (case aL => have := LMc2.out; omega); intro v187 w9 ho hb hg hat; rw [← Ny186.out] at ho; replace BK181 := (bgA_ BK181 hg (Kd.R_ne HO185.out BK181.out (by decide))); replace BK182 := (bgA_ BK182 hg (Kd.R_ne HO185.out BK182.out (by decide))); replace HB := Aside0.mk (hb); have HO188 := Aside0.mk (ho); clear HO185; clear ho hb hg hat; obtain ⟨Ao10, co10, eo10⟩ := Kd.R_slice HO188.out; subst eo10) | ((with_reducible refine gate_dst (N := 3) rfl ?_); refine box_ (N := 3) (cs := #[.slice none 0 0, .slice none 0 0]) (t := 26) (fun gb189 hg w11 hbox hb => ?_); replace HO188 := Aside0.mk (Kd.R_below (kR_ HO188.out) hb); have BK189 := Aside0.mk (hbox); have GW189 := ge_ hg HB; have GE189 := ge_ hg HB; replace HB := (bs_ HB hb); have NB181_189 := nl_ hg BK181; have NB189_181 := ng_ hg BK181; replace BK181 := (bbA_ BK181 hb); have NB182_189 := nl_ hg BK182; have NB189_182 := ng_ hg BK182; replace BK182 := (bbA_ BK182 hb); clear hb hbox hg; have hnb12 := NB189_181.out; have hnc12 := NB181_189.out; have hnb13 := NB189_182.out; have hnc13 := NB182_189.out; have Z14 := zz2 BK189))
  go_loopg [4] k (fun kq v4 w' => ∃ (x4_1 : Int) (x190001_1 : List (S36)) (u190001 : Value), v4 = .int .i64 x4_1 ∧ Aside0 (spec_l3Copy.l0 kq x4_1 l0_0 l0_1 y186 x190001_1 = some (r1, r2)) ∧ Aside0 (kq ≤ k) ∧ Aside0 (Kd.R k60 60 w' w.heap.size (fun _ => True) (.slice Ao10 y186.length co10) y186) ∧ Aside0 (Kd.S k36 36 w' w.heap.size (fun _ => True) u190001 x190001_1) ∧ Aside0 (w'.heap[gb181]? = some (.cells #[(.slice A0_0 l0_0.length c0_0), (.slice A0_1 l0_1.length c0_1)] 26 (0, 0))) ∧ Aside0 (w'.heap[gb182]? = some (.cells #[(.slice none 0 0), (.slice none 0 0)] 26 (0, 0))) ∧ Aside0 (w'.heap[gb189]? = some (.cells #[(.slice Ao10 y186.length co10), u190001] 26 (0, 0))) ∧ Aside0 (Below w.heap.size w w'))
  case atStart => exact ⟨(0), (([] : List (S36))), (.slice none 0 0), (by first | rfl | (simp; done) | (simp [*]; done)), H', ⟨Nat.le_refl _⟩, ⟨by refine kR_ ?_; exact rfm_ ((Kd.R_types HO188.out BK189.out (by decide))) (fun _ hk => trivial)⟩, ⟨by first | exact Kd.S_nil _ _ _ _ _ | exact Kd.N_nil _ _ _ _ _ | exact Kd.V_nil _ _ _ _ _ | exact Kd.Q_nil _ _ _ _ _ | exact Kd.R_nil _ _ _ _ _⟩, ⟨by exact kf_ BK181.out⟩, ⟨by exact kf_ BK182.out⟩, ⟨by refine kb_ ?_; refine pz2 (cs := #[.slice none 0 0, .slice none 0 0]) ?_; refine kb_ ?_; exact BK189.out⟩, ⟨hbA_ HB.out⟩⟩
  case round =>
   clear H'; (try clear c1); (try clear c2); (try clear p2); (try clear c3); (try clear c7); (try clear c12); (try clear c13); (try clear Z14); (try clear Z8)
   obtain ⟨x4_1, x190001_1, u190001, rfl, HA, HK1, HO_190000, HO_190001, BK181, BK182, BK189, HB⟩ := hrel
   cases gk with
   | zero => exact absurd HA.out (by simp [spec_l3Copy.l0])
   | succ k1 =>
    have H := HA.out; clear HA
    simp only [spec_l3Copy.l0] at H
    by_cases c15 : x4_1 < (l0_1.length : Int)
    ·rw [if_pos c15] at H
     have c15b0 : decide (x4_1 < (l0_1.length : Int)) = true := decide_eq_true c15
     clear c15
     by_cases c16 : 0 ≤ x4_1
     ·rw [if_pos c16] at H
      have c16b0 : decide (0 ≤ x4_1) = true := decide_eq_true c16
      clear c16
      obtain ⟨y191, hy191⟩ : ∃ y_ : List Int, y_ = (([] : List Int)) := ⟨_, rfl⟩
      (first | replace H := sb_ hy191 H | rw [← hy191] at H)
      have Ny191 := Aside0.mk hy191; clear hy191
      by_cases c17 : y191.length + ((rd_T36 l0_1 x4_1).f1).length < 140737488355328
      ·rw [if_pos c17] at H
       have LMc17 := Aside0.mk c17; clear c17
       obtain ⟨y195, hy195⟩ : ∃ y_ : List Int, y_ = (y191 ++ ((rd_T36 l0_1 x4_1).f1)) := ⟨_, rfl⟩
       (first | replace H := sb_ hy195 H | rw [← hy195] at H)
       have Ny195 := Aside0.mk hy195; clear hy195
       by_cases c18 : x190001_1.length < 4398046511104
       ·rw [if_pos c18] at H
        have LMc18 := Aside0.mk c18; clear c18
        obtain ⟨y198, hy198⟩ : ∃ y_ : List (S36), y_ = (x190001_1 ++ [(⟨(rd_T36 l0_1 x4_1).f0, y195⟩ : S36)]) := ⟨_, rfl⟩
        (first | replace H := sb_ hy198 H | rw [← hy198] at H)
        have Ny198 := Aside0.mk hy198; clear hy198
        have H' := Aside0.mk H
        clear H; have hnb19 := NB181_182.out; have hnc19 := NB182_181.out; have hnb20 := NB181_189.out; have hnc20 := NB189_181.out; have Z21 := zz2 BK181
        try go_wp2
        replace HO_190000 := Aside0.mk (Kd.R_drew HO_190000.out); replace HO_190001 := Aside0.mk (Kd.S_drew HO_190001.out); replace BK181 := Aside0.mk (blk_drew BK181.out); replace BK182 := Aside0.mk (blk_drew BK182.out); replace BK189 := Aside0.mk (blk_drew BK189.out); replace HB := (bd_ HB)
        have p190 : 0 ≤ (x4_1 : Int) := of_decide_eq_true (by first | (with_reducible assumption) | assumption)
        have q190 : x4_1 < (l0_1.length : Int) := of_decide_eq_true (by first | (with_reducible assumption) | assumption)
        obtain ⟨ad190, A190_1, c190_1, e190, hx190_0, hx190_1, hl190_1, hi190_1⟩ := at_T36 HR0_1.out x4_1 p190 q190
        have hw190_1 := hx190_1; have hw190_0 := hx190_0
        cases e190
        replace hx190_0 := cc_ HB hx190_0
        replace hx190_1 := cc_ HB hx190_1
        have HR190_1 := Aside0.mk hi190_1; have HC190_1 := Aside0.mk hl190_1; clear hi190_1 hl190_1
        replace p190 := eq_true p190
        replace q190 := eq_true q190
        have p194 : 0 ≤ (x4_1 : Int) := of_decide_eq_true (by first | (with_reducible assumption) | assumption)
        have q194 : x4_1 < (l0_1.length : Int) := of_decide_eq_true (by first | (with_reducible assumption) | assumption)
        obtain ⟨ad194, A194_1, c194_1, e194, hx194_0, hx194_1, hl194_1, hi194_1⟩ := at_T36 HR0_1.out x4_1 p194 q194
        have hw194_1 := hx194_1; have hw194_0 := hx194_0
        obtain rfl : ad190 = ad194 := (by injection e194)
        replace hx194_0 := cc_ HB hx194_0
        replace hx194_1 := cc_ HB hx194_1
        have HR194_1 := Aside0.mk hi194_1; have HC194_1 := Aside0.mk hl194_1; clear hi194_1 hl194_1
        replace p194 := eq_true p194
        replace q194 := eq_true q194
        have ea_ := Option.some.inj (hx190_1.symm.trans hx194_1)
        injection ea_ with ea_ en_ ec_
        subst ea_; subst ec_; clear en_
        refine start_ (n := 21) (S := fun w' => w'.cell? ⟨gb189, 0, none⟩ = some (.slice Ao10 y186.length co10) ∧ w'.cell? ⟨gb189, 1, none⟩ = some (u190001) ∧ w'.cell? ⟨gb181, 0, none⟩ = some (.slice A0_0 l0_0.length c0_0) ∧ w'.cell? ⟨gb181, 1, none⟩ = some (.slice (some ad190) l0_1.length c0_1) ∧ w'.cell? (ad190.add ((x4_1).toNat * 2)) = some (.int .i64 ((rd_T36 l0_1 x4_1).f0)) ∧ w'.cell? ⟨(ad190.add ((x4_1).toNat * 2)).block, (ad190.add ((x4_1).toNat * 2)).off + 1, none⟩ = some (.slice A190_1 ((rd_T36 l0_1 x4_1).f1).length c190_1) ∧ w'.cell? (ad190.add ((x4_1).toNat * 2)) = some (.int .i64 ((rd_T36 l0_1 x4_1).f0)) ∧ w'.cell? ⟨(ad190.add ((x4_1).toNat * 2)).block, (ad190.add ((x4_1).toNat * 2)).off + 1, none⟩ = some (.slice A190_1 ((rd_T36 l0_1 x4_1).f1).length c190_1)) (ds := [20]) #[false, false, false, false, false, false, false, false, false, false, false, false, false, false, false, false, false, false, false, false, false] (by kernel_rfl) rfl rfl ⟨bc_ BK189 0, bc_ BK189 1, bc_ BK181 0, bc_ BK181 1, (cc_ HB hw190_0), (cc_ HB hw190_1), (cc_ HB hw194_0), (cc_ HB hw194_1)⟩ (fun hHeld => ?_); refine with_tabW spec_l3Copy.tab5 spec_l3Copy.bits5 (fun HT_ HW_ => ?_)
        generalize wr.drew = w22 at HO_190000 HO_190001 BK181 BK182 BK189 HB HR190_1 HR194_1 hx190_0 hx190_1 hx194_0 hx194_1 hHeld ⊢
        refine pu_ (i := 0) (N := some 17) HT_ ?_; refine pu_ (i := 2) (N := some 19) HT_ ?_; refine pu_ (i := 4) (N := some 21) HT_ ?_; refine pu_ (i := 9) (N := some 26) HT_ ?_; refine pu_ (i := 11) (N := some 28) HT_ ?_; refine tk_ (i := 1) (N := some 18) HT_ HW_ hHeld ?_; refine tk_ (i := 3) (N := some 20) HT_ HW_ hHeld ?_; refine pu_ (i := 5) (N := some 22) HT_ ?_; refine pu_ (i := 6) (N := some 23) HT_ ?_; refine tk_ (i := 7) (N := some 24) HT_ HW_ hHeld ?_; refine tk_ (i := 10) (N := some 27) HT_ HW_ hHeld ?_; refine pu_ (i := 12) (N := some 29) HT_ ?_; refine pu_ (i := 13) (N := some 30) HT_ ?_; refine tk_ (i := 14) (N := some 31) HT_ HW_ hHeld ?_
        refine on_ (i := 8) (N := some 25) HT_ (fun K hK => ?_)
        refine Kd.R_lit_step (Kd.int .u8) _ 5 ?hg (N := 25) ?hd (xs := ([] : List Int)) (inner := []) (ok := fun _ => True) (okp := fun _ => True) ?hr ?hp (fun _ hk => hk) trivial (Below.refl _ _) (Nat.le_refl _) (by simp) ?_; (case hd => rfl); (case hg => rfl); (case hr => first | (go_simp; done) | (go_simp; rfl)); (case hp => exact (Reps.none _ _))
        intro v192 w23 ho24 hb hg_ hnew_
        clear hg_ hnew_
        (first | rw [← Ny191.out] at ho24 | (simp only [Int.reduceToNat] at ho24; rw [← Ny191.out] at ho24))
        have n0_ := Aside0.mk (Kd.R_below (kR_ HO_190000.out) hb); have n1_ := Aside0.mk (Kd.S_elder' (kS_ HO_190001.out) (Kd.R_base ho24) hb); have n2_ := Aside0.mk (Kd.R_lower ho24 (below_size (hbA_ HB.out))); have n3_ := (bbA_ BK181 hb); have n4_ := (bbA_ BK182 hb); have n5_ := (bbA_ BK189 hb); have n6_ := (bs_ HB hb); clear HO_190000 HO_190001 BK181 BK182 BK189 HB; have HO_190000 := n0_; have HO_190001 := n1_; have HO193 := n2_; have BK181 := n3_; have BK182 := n4_; have BK189 := n5_; have HB := n6_; clear n0_ n1_ n2_ n3_ n4_ n5_ n6_ hb ho24
        refine hK.out _ _ ⟨bc_ BK189 0, bc_ BK189 1, bc_ BK181 0, bc_ BK181 1, (cc_ HB hw190_0), (cc_ HB hw190_1), (cc_ HB hw194_0), (cc_ HB hw194_1)⟩ (fun hHeld => ?_)
        clear hK K; refine nm_ 25 ?_
        refine on_ (i := 15) (N := some 32) HT_ (fun K hK => ?_)
        refine Kd.R_append_rows_step (Kd.int .u8) (w0 := w) w.heap.size (by rfl) (.tmp 25) (.tmp 31) 22 5 (.int .u8 0) 1 rfl Try.underlying22 info5 rfl (by decide) (by omega) v192 y191 ((rd_T36 l0_1 x4_1).f1) _ _ _ (fun _ => True) (fun _ => False) rfl rfl ?aO ?aR (fun _ _ h => h) (fun _ h => h.elim) ?aF ?aB ?aS ?aL ?_
        (case aR => exact kC_ (Kd.C_below HR194_1.out HB.out))
        (case aB => exact (hbA_ HB.out))
        (case aF => exact (fun _ _ => trivial))
        (case aO => exact (kR_ HO193.out))
        (case aS => exact (below_size (hbA_ HB.out)))
        (case aL => have := LMc17.out; omega)
        intro v196 w25 ho hb hg hat
        rw [← Ny195.out] at ho
        have n0_ := Aside0.mk (Kd.R_over' (kR_ HO_190000.out) (Kd.R_typed (kR_ HO193.out)) (by decide) hg); have n1_ := Aside0.mk (Kd.S_after (ok := (fun _ => True)) (kS_ HO_190001.out) hg hat); have n2_ := (bgA_ BK181 hg (Kd.R_ne HO193.out BK181.out (by decide))); have n3_ := (bgA_ BK182 hg (Kd.R_ne HO193.out BK182.out (by decide))); have n4_ := (bgA_ BK189 hg (Kd.R_ne HO193.out BK189.out (by decide))); have n5_ := Aside0.mk (hb); have n6_ := Aside0.mk (ho); clear HO_190000 HO_190001 BK181 BK182 BK189 HB HO193; have HO_190000 := n0_; have HO_190001 := n1_; have BK181 := n2_; have BK182 := n3_; have BK189 := n4_; have HB := n5_; have HO197 := n6_; clear n0_ n1_ n2_ n3_ n4_ n5_ n6_ ho hb hg hat
        obtain ⟨Ao26, co26, eo26⟩ := Kd.R_slice HO197.out
        (first | subst eo26 | (injection eo26 with f1_ f2_ f3_; have f4_ := f1_.symm; have f5_ := f3_.symm; clear f1_ f2_ f3_; subst f4_; subst f5_))
        refine hK.out _ _ ⟨bc_ BK189 0, bc_ BK189 1, bc_ BK181 0, bc_ BK181 1, (cc_ HB hw190_0), (cc_ HB hw190_1), (cc_ HB hw194_0), (cc_ HB hw194_1)⟩ (fun hHeld => ?_)
        clear hK K; refine nm_ 32 ?_; refine pu_ (i := 16) (N := some 33) HT_ ?_
        refine on_ (i := 17) (N := some 34) HT_ (fun K hK => ?_)
        refine value_ (w1 := ?_) (v := ?_) (by rfl) rfl ?_ ?_
        rotate_left 2
        ·go_simp
         constructor
         ·rfl
         ·rfl
        refine hK.out _ _ ⟨(blk_cell (blk_alloc BK189.out _) 0).trans rfl, (blk_cell (blk_alloc BK189.out _) 1).trans rfl, (blk_cell (blk_alloc BK181.out _) 0).trans rfl, (blk_cell (blk_alloc BK181.out _) 1).trans rfl, (World.cell?_alloc_lt _ _ _ (World.block_lt_of_cell? _ _ ((cc_ HB hw190_0)))).trans ((cc_ HB hw190_0)), (World.cell?_alloc_lt _ _ _ (World.block_lt_of_cell? _ _ ((cc_ HB hw190_1)))).trans ((cc_ HB hw190_1)), (World.cell?_alloc_lt _ _ _ (World.block_lt_of_cell? _ _ ((cc_ HB hw194_0)))).trans ((cc_ HB hw194_0)), (World.cell?_alloc_lt _ _ _ (World.block_lt_of_cell? _ _ ((cc_ HB hw194_1)))).trans ((cc_ HB hw194_1))⟩ (fun hHeld => ?_)
        clear hK K; refine nm_ 34 ?_
        refine on_ (i := 18) (N := some 35) HT_ (fun K hK => ?_)
        refine Kd.S_append_step k36 (w0 := w) w.heap.size (by rfl) (.tmp 18) (.tmp 34) 24 36 (.agg #[(.int .i64 0), (.slice none 0 0)]) 32 rfl Try.underlying24 info36 rfl (by decide) (by omega) u190001 x190001_1 (⟨(rd_T36 l0_1 x4_1).f0, y195⟩ : S36) [.int .i64 ((rd_T36 l0_1 x4_1).f0), .slice Ao26 y195.length co26] (fun _ => True) (fun k_ => some k_ = (.slice Ao26 y195.length co26 : Value).ownBlock) rfl rfl ?aP (fun k_ hk_ => ((Kd.R_mono (ok' := fun k_ => ((fun _ => True)) k_ ∧ some k_ ≠ (u190001 : Value).ownBlock) (Kd.R_apart' (HO197.out) (Kd.S_typed HO_190001.out) (by decide)) (fun k_ hk => ⟨trivial, hk.2⟩))).1 k_ hk_.symm) ?aF ?aO ?aB ?aS ?aL ?_
        (case aP => exact k36_mkM _ _ _ (⟨(rd_T36 l0_1 x4_1).f0, y195⟩ : S36) (Kd.R_mono (Kd.R_tight rfl (Kd.R_mono (ok' := fun k_ => ((fun _ => True)) k_ ∧ some k_ ≠ (u190001 : Value).ownBlock) (Kd.R_apart' (HO197.out) (Kd.S_typed HO_190001.out) (by decide)) (fun k_ hk => ⟨trivial, hk.2⟩))) (fun _ h_ => h_)))
        (case aB => exact (hbA_ HB.out))
        (case aF => exact (fun _ _ => trivial))
        (case aO => exact (by refine kS_ ?_; exact Kd.S_mono HO_190001.out (fun k_ hk => ⟨trivial, fun e_ => hk.2 e_⟩)))
        (case aS => exact (below_size (hbA_ HB.out)))
        (case aL => have := LMc18.out; omega)
        intro v199 w27 ho hb hg hat
        rw [← Ny198.out] at ho
        have n0_ := Aside0.mk (Kd.R_over' (kR_ HO_190000.out) (Kd.S_typed (kS_ HO_190001.out)) (by decide) hg); have n1_ := (bgA_ BK181 hg (Kd.S_ne HO_190001.out BK181.out (by decide))); have n2_ := (bgA_ BK182 hg (Kd.S_ne HO_190001.out BK182.out (by decide))); have n3_ := (bgA_ BK189 hg (Kd.S_ne HO_190001.out BK189.out (by decide))); have n4_ := Aside0.mk (hb); have n5_ := Aside0.mk (ho); clear HO_190000 BK181 BK182 BK189 HB HO_190001 HO197; have HO_190000 := n0_; have BK181 := n1_; have BK182 := n2_; have BK189 := n3_; have HB := n4_; have HO200 := n5_; clear n0_ n1_ n2_ n3_ n4_ n5_ ho hb hg hat
        obtain ⟨Ao28, co28, eo28⟩ := Kd.S_slice HO200.out
        (first | subst eo28 | (injection eo28 with f1_ f2_ f3_; have f4_ := f1_.symm; have f5_ := f3_.symm; clear f1_ f2_ f3_; subst f4_; subst f5_))
        refine hK.out _ _ ⟨bc_ BK189 0, bc_ BK189 1, bc_ BK181 0, bc_ BK181 1, (cc_ HB hw190_0), (cc_ HB hw190_1), (cc_ HB hw194_0), (cc_ HB hw194_1)⟩ (fun hHeld => ?_)
        clear hK K; refine nm_ 35 ?_; refine pu_ (i := 19) (N := some 36) HT_ ?_
        refine last_ (i := 20) (N := none) #[true, true, true, true, true, true, true, true, true, true, true, true, true, true, true, true, true, true, true, true, true] rfl rfl (one_of HT_.out (by kernel_rfl)) (by decide) (fun K hK => ?_)
        have hs29 : w27.cell? ⟨gb189, 1, none⟩ = some (u190001) := bc_ BK189 1
        have hfs29 := blk_frozen BK189.out 1
        have hns29_0 := NB181_189.out; have hns29_1 := NB182_189.out; have hms29_0 := NB189_181.out; have hms29_1 := NB189_182.out
        refine skip_ (w1 := ?_) (by rfl) rfl ?_ ?_
        rotate_left
        ·go_simp
         rfl
        refine hK.out _ _ ?_
        clear hK K
        refine done_ (done_of HT_.out (by kernel_rfl)) ?_
        try go_wp2
        go_roundg k1
        case measure => have := HK1.out; omega
        case rel => exact ⟨(wrap64 (x4_1 + 1)), (y198), (.slice Ao28 y198.length co28), (by first | rfl | (simp; done) | (simp [*]; done)), H', ⟨by have := HK1.out; omega⟩, ⟨by refine kR_ ?_; exact Kd.R_mono (Kd.R_f gb189 1 (.slice Ao28 y198.length co28) (Kd.R_types HO_190000.out BK189.out (by decide))) (fun _ hk => trivial)⟩, ⟨by refine kS_ ?_; exact Kd.S_mono (Kd.S_far (p := ⟨gb189, 1, none⟩) (Kd.S_types HO200.out BK189.out (by decide)) (fun _ hk => hk.2) (.slice Ao28 y198.length co28)) (fun _ hk => trivial)⟩, ⟨by exact kf_ BK181.out⟩, ⟨by exact kf_ BK182.out⟩, ⟨by refine kb_ ?_; refine blk_put (cs := #[.slice Ao10 y186.length co10, u190001]) ?_ 1 _ rfl; refine kb_ ?_; exact BK189.out⟩, ⟨hbA_ HB.out⟩⟩
       ·rw [if_neg c18] at H
        exact absurd H (by simp)
      ·rw [if_neg c17] at H
       exact absurd H (by simp)
     ·rw [if_neg c16] at H
      exact absurd H (by simp)
    ·rw [if_neg c15] at H
     have c15b0 : decide (x4_1 < (l0_1.length : Int)) = false := decide_eq_false c15
     clear c15
     simp only [Option.some.injEq, Prod.mk.injEq] at H
     obtain ⟨rfl, rfl⟩ := H
     have hnb30 := NB181_182.out; have hnc30 := NB182_181.out; have hnb31 := NB181_189.out; have hnc31 := NB189_181.out; have Z32 := zz2 BK181; have hnb33 := NB189_182.out; have hnc33 := NB182_189.out; have Z34 := zz2 BK189; have Z35 := zz2 BK182
     obtain ⟨Ao36, co36, eo36⟩ := Kd.S_slice HO_190001.out
     subst eo36
     go_wp2
     refine bodyPost_ret (results_cell_row rfl _ _ gb182 26 #[.slice Ao10 y186.length co10, .slice Ao36 x190001_1.length co36] (0, 0) _ rfl (by refine kb_ ?_; refine pz2 (cs := #[.slice none 0 0, .slice none 0 0]) ?_; refine kb_ ?_; exact BK182.out) Try.underlying26 rfl (by kernel_rfl)) rfl ?_
     exact ⟨_, _, by first | rfl | (simp [errW_none, errW_some] <;> rfl) | (simp [*, errW_none, errW_some] <;> rfl), by refine kR_ ?_; exact rfm_ ((Kd.R_types HO_190000.out BK182.out (by decide))) (fun _ hk => trivial), by refine kS_ ?_; exact Kd.S_mono (Kd.S_far (p := ⟨gb182, 1, none⟩) (Kd.S_far (p := ⟨gb182, 0, none⟩) (Kd.S_types HO_190001.out BK182.out (by decide)) (fun _ hk => hk.2) (.slice Ao10 y186.length co10)) (fun _ hk => hk.2) (.slice Ao36 x190001_1.length co36)) (fun _ hk => trivial), hbA_ HB.out⟩
 ·rw [if_neg c2] at H
  exact absurd H (by simp)
end Go.Proofs.Ytcbiljabpadaeaa.PFnExactNearSend
