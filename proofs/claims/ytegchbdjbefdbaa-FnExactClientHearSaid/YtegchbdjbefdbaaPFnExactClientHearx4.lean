/- Printed by wip/xp/xprint.sh out of the translation, for this claim: what each function answers, as a plain function, and that the machine does just that. No condition. -/
import Derived.Test.YtegchbdjbefdbaaPFnExactClientHearx0
import Derived.Test.YtegchbdjbefdbaaPFnExactClientHearx3
namespace Go.Proofs.Ytegchbdjbefdbaa.PFnExactClientHear
open Go.RowKit Go.Proofs.YtegchbdjbefdbaaW.PrintWords Go.Proofs.YtegchbdjbefdbaaW.PrintLast Go.Proofs.YtegchbdjbefdbaaW.PrintMore
attribute [local go_sem] max2_int min2_int max_two min_two max_three min_three max_four min_four   -- for this text's walks alone
set_option linter.unusedVariables false
set_option linter.unusedSimpArgs false
def impl_ClientHear.f (k : Nat) (a0_0 : Int) (l0_1 : List Int) (l0_2 : List (S41)) (l0_3 : List Int) (a1_0 : Int) (l1_1 : List Int) : Option (Int × List Int × (List (S41)) × List Int × Bool) := (impl_ClientOk.f k a0_0 l0_1 l0_2 l0_3).bind fun t205 => (if t205 = true then ((impl_Client_copy.f k a0_0 l0_1 l0_2 l0_3).bind fun bt206 => ((slices_Index_int_int.f k bt206.2.1 a1_0).bind fun t217 => (if t217 < 0 then (some (bt206.1, bt206.2.1, bt206.2.2.1, bt206.2.2.2, false)) else (if (l1_1.length : Int) > 9 then (some (bt206.1, bt206.2.1, bt206.2.2.1, bt206.2.2.2, false)) else (if 0 ≤ t217 then (if t217 < (bt206.2.1.length : Int) then (if bt206.2.2.1.length < 4398046511104 then ((impl_Client_copy.f k bt206.1 (bt206.2.1.eraseIdx (t217 : Int).toNat) (bt206.2.2.1 ++ [(⟨a1_0, l1_1⟩ : S41)]) bt206.2.2.2).bind fun bt224 => (some (bt224.1, bt224.2.1, bt224.2.2.1, bt224.2.2.2, true))) else (none)) else (none)) else (none)))))) else (some (0, ([] : List Int), ([] : List (S41)), ([] : List Int), false)))
theorem impl_ClientHear.mono : ∀ a0 a1 a2 a3 a4 a5 k, LeO (impl_ClientHear.f k a0 a1 a2 a3 a4 a5) (impl_ClientHear.f (k + 1) a0 a1 a2 a3 a4 a5) := by
 intro a0 a1 a2 a3 a4 a5 k
 unfold impl_ClientHear.f
 repeat' first | (with_reducible first | apply impl_ClientOk.mono | apply impl_Client_copy.mono | apply slices_Index_int_int.mono | exact LeO.refl _ | exact LeO.none _ | refine LeO.ite ?_ ?_ | refine LeO.bind ?_ fun _ => ?_) | apply impl_ClientOk.mono | apply impl_Client_copy.mono | apply slices_Index_int_int.mono | exact LeO.none _ | refine LeO.ite ?_ ?_ | refine LeO.bind ?_ fun _ => ?_
set_option maxHeartbeats 8000000 in
set_option maxRecDepth 100000 in
theorem impl_ClientHear.callsV (k : Nat) (a0_0 : Int) (A0_1 : Option Addr) (c0_1 : Nat) (l0_1 : List Int) (A0_2 : Option Addr) (c0_2 : Nat) (l0_2 : List (S41)) (A0_3 : Option Addr) (c0_3 : Nat) (l0_3 : List Int) (a1_0 : Int) (P1_1_ : Nat → Prop) (A1_1 : Option Addr) (c1_1 : Nat) (l1_1 : List Int) (r1 : Int) (r2 : List Int) (r3 : List (S41)) (r4 : List Int) (r5 : Bool) (w : World) (hr0_1 : Kd.C (Kd.int .i64) w A0_1 l0_1.length l0_1) (hc0_1 : l0_1.length ≤ c0_1) (hr0_2 : Kd.C k41 w A0_2 l0_2.length l0_2) (hc0_2 : l0_2.length ≤ c0_2) (hr0_3 : Kd.C (Kd.int .i64) w A0_3 l0_3.length l0_3) (hc0_3 : l0_3.length ≤ c0_3) (hs1_1 : Kd.V (Kd.int .u8) 5 w w.heap.size (fun k_ => P1_1_ k_) (.slice A1_1 l1_1.length c1_1) l1_1) (h : impl_ClientHear.f k a0_0 l0_1 l0_2 l0_3 a1_0 l1_1 = some (r1, r2, r3, r4, r5)) :
  Calls Try.prog 23 #[.agg #[.int .i64 a0_0, .slice A0_1 l0_1.length c0_1, .slice A0_2 l0_2.length c0_2, .slice A0_3 l0_3.length c0_3], .agg #[.int .i64 a1_0, .slice A1_1 l1_1.length c1_1]] w fun e w' => ∃ v1_ v2_ v3_ : Value, e = .returned (.tuple #[.agg #[.int .i64 r1, v1_, v2_, v3_], .bool r5]) ∧ Kd.R (Kd.int .i64) 3 w' w.heap.size (fun k_ => (w.heap.size ≤ k_) ∧ some k_ ≠ (v3_ : Value).ownBlock) v1_ r2 ∧ Kd.S k41 41 w' w.heap.size (fun k_ => (w.heap.size ≤ k_)) v2_ r3 ∧ Kd.R (Kd.int .i64) 3 w' w.heap.size (fun k_ => (w.heap.size ≤ k_) ∧ some k_ ≠ (v1_ : Value).ownBlock) v3_ r4 ∧ Below w.heap.size w w' := by
 have hu30 := Try.underlying30; have hu41 := Try.underlying41; have HR0_1 := Aside0.mk hr0_1; have HC0_1 := Aside0.mk hc0_1; clear hr0_1 hc0_1; have HR0_2 := Aside0.mk hr0_2; have HC0_2 := Aside0.mk hc0_2; clear hr0_2 hc0_2; have HR0_3 := Aside0.mk hr0_3; have HC0_3 := Aside0.mk hc0_3; clear hr0_3 hc0_3
 have HO1_1 := Aside0.mk (show Kd.V (Kd.int .u8) 5 w w.heap.size (fun k_ => (P1_1_ k_ ∨ w.heap.size ≤ k_)) (.slice A1_1 l1_1.length c1_1) l1_1 from Kd.V_mono hs1_1 (fun k_ hk => .inl hk))
 have HB := Aside0.mk (Below.refl w.heap.size w)
 have H : ((impl_ClientOk.f k a0_0 l0_1 l0_2 l0_3).bind fun t205 => (if t205 = true then ((impl_Client_copy.f k a0_0 l0_1 l0_2 l0_3).bind fun bt206 => ((slices_Index_int_int.f k bt206.2.1 a1_0).bind fun t217 => (if t217 < 0 then (some (bt206.1, bt206.2.1, bt206.2.2.1, bt206.2.2.2, false)) else (if (l1_1.length : Int) > 9 then (some (bt206.1, bt206.2.1, bt206.2.2.1, bt206.2.2.2, false)) else (if 0 ≤ t217 then (if t217 < (bt206.2.1.length : Int) then (if bt206.2.2.1.length < 4398046511104 then ((impl_Client_copy.f k bt206.1 (bt206.2.1.eraseIdx (t217 : Int).toNat) (bt206.2.2.1 ++ [(⟨a1_0, l1_1⟩ : S41)]) bt206.2.2.2).bind fun bt224 => (some (bt224.1, bt224.2.1, bt224.2.2.1, bt224.2.2.2, true))) else (none)) else (none)) else (none)))))) else (some (0, ([] : List Int), ([] : List (S41)), ([] : List Int), false)))) = some (r1, r2, r3, r4, r5) := h
 clear h
 replace H := Option.bind_eq_some_iff.mp H
 obtain ⟨t205, A30, H⟩ := H
 (try dsimp only at H)
 have A3 := Aside0.mk A30; clear A30
 by_cases c4 : t205 = true
 ·subst c4
  rw [if_pos rfl] at H
  replace H := Option.bind_eq_some_iff.mp H
  obtain ⟨⟨t206, t207, t210, t213⟩, A50, H⟩ := H
  (try dsimp only at H)
  have A5 := Aside0.mk A50; clear A50
  replace H := Option.bind_eq_some_iff.mp H
  obtain ⟨t217, A60, H⟩ := H
  (try dsimp only at H)
  have A6 := Aside0.mk A60; clear A60
  by_cases c7 : t217 < 0
  ·rw [if_pos c7] at H
   have c7b0 : decide (t217 < 0) = true := decide_eq_true c7
   clear c7
   simp only [Option.some.injEq, Prod.mk.injEq] at H
   obtain ⟨rfl, rfl, rfl, rfl, rfl⟩ := H
   go_enter Try.func23, Try.ntmps23
   go_wp2_with (first | ((with_reducible refine gate_dst (N := 2) rfl ?_); (try (refine gate_guard (by rfl) ?_; dsimp only)); refine box_ (N := 2) (cs := #[.int .i64 a0_0, .slice A0_1 l0_1.length c0_1, .slice A0_2 l0_2.length c0_2, .slice A0_3 l0_3.length c0_3]) (t := 30) (fun gb202 hg w8 hbox hb => ?_); replace HO1_1 := Aside0.mk (Kd.V_below (Kd.V_elderB (kV_ HO1_1.out) gb202 (Nat.le_of_eq hg.symm)) hb); have BK202 := Aside0.mk (hbox); have GW202 := ge_ hg HB; have GE202 := ge_ hg HB; replace HB := (bs_ HB hb); clear hb hbox hg) | ((with_reducible refine gate_dst (N := 3) rfl ?_); (try (refine gate_guard (by rfl) ?_; dsimp only)); refine box_ (N := 3) (cs := #[.int .i64 a1_0, .slice A1_1 l1_1.length c1_1]) (t := 41) (fun gb203 hg w9 hbox hb => ?_); replace HO1_1 := Aside0.mk (Kd.V_below (Kd.V_elderB (kV_ HO1_1.out) gb203 (Nat.le_of_eq hg.symm)) hb); have BK203 := Aside0.mk (hbox); have GW203 := ge_ hg HB; have GE203 := ge_ hg HB; replace HB := (bs_ HB hb); have NB202_203 := nl_ hg BK202; have NB203_202 := ng_ hg BK202; replace BK202 := (bbA_ BK202 hb); clear hb hbox hg) | ((with_reducible refine gate_dst (N := 4) rfl ?_); (try (refine gate_guard (by rfl) ?_; dsimp only)); refine box_ (N := 4) (cs := #[.int .i64 0, .slice none 0 0, .slice none 0 0, .slice none 0 0]) (t := 30) (fun gb204 hg w10 hbox hb => ?_); replace HO1_1 := Aside0.mk (Kd.V_below (Kd.V_elderB (kV_ HO1_1.out) gb204 (Nat.le_of_eq hg.symm)) hb); have BK204 := Aside0.mk (hbox); have GW204 := ge_ hg HB; have GE204 := ge_ hg HB; replace HB := (bs_ HB hb); have NB202_204 := nl_ hg BK202; have NB204_202 := ng_ hg BK202; replace BK202 := (bbA_ BK202 hb); have NB203_204 := nl_ hg BK203; have NB204_203 := ng_ hg BK203; replace BK203 := (bbA_ BK203 hb); clear hb hbox hg; have hnb11 := NB202_203.out; have hnc11 := NB203_202.out; have hnb12 := NB202_204.out; have hnc12 := NB204_202.out; have Z13 := zz4 BK202) | ((with_reducible refine gate_callee (f := 14) rfl ?_); refine goesL_ (some 9) rfl rfl Try.func14 (by kernel_rfl) rfl #[.agg #[.int .i64 a0_0, .slice A0_1 l0_1.length c0_1, .slice A0_2 l0_2.length c0_2, .slice A0_3 l0_3.length c0_3]] rfl ar_ ?_; (with_reducible refine (impl_ClientOk.calls k a0_0 _ _ l0_1 _ _ l0_2 _ _ l0_3 true _ ?side1 ?side2 ?side3 ?side4 ?side5 ?side6 A3.out).mono ?_); (case side1 => exact kC_ (Kd.C_below HR0_1.out HB.out)); (case side2 => exact HC0_1.out); (case side3 => exact kC_ (Kd.C_below HR0_2.out HB.out)); (case side4 => exact HC0_2.out); (case side5 => exact kC_ (Kd.C_below HR0_3.out HB.out)); (case side6 => exact HC0_3.out); rintro e w14 ⟨rfl, hb⟩; refine ⟨_, rfl, ?_⟩; replace HO1_1 := Aside0.mk (Kd.V_below (kV_ HO1_1.out) hb); replace BK202 := (bbA_ BK202 hb); replace BK203 := (bbA_ BK203 hb); replace BK204 := (bbA_ BK204 hb); replace HB := (bs_ HB hb); (try clear hb); (try clear hb2); (try clear hk); (try clear hi); have Z15 := zz4 BK202) | ((with_reducible refine gate_callee (f := 54) rfl ?_); refine goesL_ (some 13) rfl rfl Try.func54 (by kernel_rfl) rfl #[.agg #[.int .i64 a0_0, .slice A0_1 l0_1.length c0_1, .slice A0_2 l0_2.length c0_2, .slice A0_3 l0_3.length c0_3]] rfl ar_ ?_; (with_reducible refine (impl_Client_copy.calls k a0_0 _ _ l0_1 _ _ l0_2 _ _ l0_3 t206 t207 t210 t213 _ ?side1 ?side2 ?side3 ?side4 ?side5 ?side6 A5.out).mono ?_); (case side1 => exact kC_ (Kd.C_below HR0_1.out HB.out)); (case side2 => exact HC0_1.out); (case side3 => exact kC_ (Kd.C_below HR0_2.out HB.out)); (case side4 => exact HC0_2.out); (case side5 => exact kC_ (Kd.C_below HR0_3.out HB.out)); (case side6 => exact HC0_3.out); rintro e w16 ⟨v208, v211, v214, rfl, ho0, ho1, ho2, hb⟩; refine ⟨_, rfl, ?_⟩; obtain ⟨lo234, hi234, elo234, ehi234⟩ := gr_open hb; replace HO1_1 := Aside0.mk (Kd.V_mono (Kd.V_told (Kd.V_told (Kd.V_told (Kd.V_old (kV_ HO1_1.out) hb) (Kd.R_base ho0)) (Kd.base_ ho1)) (Kd.R_base ho2)) (fun _ h_ => op1_ h_)); have HO209 := Aside0.mk (Kd.R_lower (Kd.R_newM (M := fun k_ => (w.heap.size ≤ k_)) ho0 (below_size (hbA_ HB.out)) (fun k_ h_ => h_)) (below_size (hbA_ HB.out))); have HO212 := Aside0.mk (Kd.N_lower (Kd.N_mono (ok' := fun k_ => (P1_1_ k_ ∨ w.heap.size ≤ k_) ∧ some k_ ≠ (v208 : Value).ownBlock ∧ some k_ ≠ (v214 : Value).ownBlock ∧ k_ ≠ gb202 ∧ k_ ≠ gb203 ∧ k_ ≠ gb204) (Kd.S_N (Kd.S_bound (Kd.S_apart' (Kd.S_apart' ho1 (Kd.R_typed ho0) (by decide)) (Kd.R_typed ho2) (by decide)))) (fun k_ hk_ => ⟨(.inr (Nat.le_trans (below_size (hbA_ HB.out)) hk_.2.1)), hk_.1.1.2, hk_.1.2, (fb_ BK202 k_ hk_.2.1), (fb_ BK203 k_ hk_.2.1), (fb_ BK204 k_ hk_.2.1)⟩)) (below_size (hbA_ HB.out))); have HO215 := Aside0.mk (Kd.R_lower (Kd.R_newM (M := fun k_ => (w.heap.size ≤ k_)) ho2 (below_size (hbA_ HB.out)) (fun k_ h_ => h_)) (below_size (hbA_ HB.out))); have GS234 := Aside0.mk (Kd.S_lower (gr_S2 elo234 ehi234 ho1) (below_size (hbA_ HB.out))); have HZ234 := Aside0.mk (Nat.le_of_eq ehi234.out); have WL234 := Aside0.mk (zb_ elo234 (below_size (hbA_ HB.out))); have BX234_202 := Aside0.mk (zx_ (g := gb202) (hi := hi234) elo234 (kb_ BK202.out)); replace BK202 := (bbA_ BK202 hb); have BX234_203 := Aside0.mk (zx_ (g := gb203) (hi := hi234) elo234 (kb_ BK203.out)); replace BK203 := (bbA_ BK203 hb); have BX234_204 := Aside0.mk (zx_ (g := gb204) (hi := hi234) elo234 (kb_ BK204.out)); replace BK204 := (bbA_ BK204 hb); replace HB := (bs_ HB hb); (try clear hb); (try clear hb2); (try clear hk); (try clear hi); (try clear ho0); (try clear ho1); (try clear ho2)) | ((with_reducible refine gate_dst (N := 6) rfl ?_); (try (refine gate_guard (by rfl) ?_; dsimp only)); refine box_ (N := 6) (cs := #[.int .i64 0, .slice none 0 0, .slice none 0 0, .slice none 0 0]) (t := 30) (fun gb216 hg w17 hbox hb => ?_); replace HO1_1 := Aside0.mk (Kd.V_below (Kd.V_elderB (kV_ HO1_1.out) gb216 (Nat.le_of_eq hg.symm)) hb); replace HO209 := Aside0.mk (Kd.R_below (kR_ HO209.out) hb); replace HO212 := Aside0.mk (Kd.N_below (Kd.N_elderB (kN_ HO212.out) gb216 (Nat.le_of_eq hg.symm)) hb); replace HO215 := Aside0.mk (Kd.R_below (kR_ HO215.out) hb); have BK216 := Aside0.mk (hbox); have GW216 := ge_ hg HB; have GE216 := ge_ hg HB; replace HB := (bs_ HB hb); have NB202_216 := nl_ hg BK202; have NB216_202 := ng_ hg BK202; replace BK202 := (bbA_ BK202 hb); have NB203_216 := nl_ hg BK203; have NB216_203 := ng_ hg BK203; replace BK203 := (bbA_ BK203 hb); have NB204_216 := nl_ hg BK204; have NB216_204 := ng_ hg BK204; replace BK204 := (bbA_ BK204 hb); have BX234_216 := Aside0.mk ((Or.inl (zl_ HZ234 ⟨hg⟩) : hi234 ≤ gb216 ∨ gb216 + 1 ≤ lo234)); replace GS234 := Aside0.mk (Kd.S_below (kS_ GS234.out) hb); replace HZ234 := Aside0.mk (zs_ HZ234 hb); clear hb hbox hg; have hnb18 := NB216_202.out; have hnc18 := NB202_216.out; have hnb19 := NB216_203.out; have hnc19 := NB203_216.out; have hnb20 := NB216_204.out; have hnc20 := NB204_216.out; have Z21 := zz4 BK216; obtain ⟨Ao22, co22, eo22⟩ := Kd.R_slice HO209.out; subst eo22; obtain ⟨Ao23, co23, eo23⟩ := Kd.N_slice HO212.out; subst eo23; obtain ⟨Ao24, co24, eo24⟩ := Kd.R_slice HO215.out; subst eo24) | ((with_reducible refine gate_store (t := 30) (p := 6) rfl ?_); refine store_event (t := 30) (p := 6) (v := ?vo_w25) (w1 := ((((w17.setCell ⟨gb216, 0, none⟩ (.int .i64 t206)).setCell ⟨gb216, 1, none⟩ (.slice Ao22 t207.length co22)).setCell ⟨gb216, 2, none⟩ (.slice Ao23 t210.length co23)).setCell ⟨gb216, 3, none⟩ (.slice Ao24 t213.length co24))) ?hg ?ho ?hn ?hr ?_; (case ho => rfl); (case hg => rfl); (case hn => rfl); (case hr => first | (go_simp; done) | (go_simp; rfl)); intro w25 hw; have n0_ : Aside0 (Kd.V (Kd.int .u8) 5 w25 w.heap.size (fun k_ => (P1_1_ k_ ∨ w.heap.size ≤ k_) ∧ some k_ ≠ (.slice Ao22 t207.length co22 : Value).ownBlock ∧ some k_ ≠ (.slice Ao23 t210.length co23 : Value).ownBlock ∧ some k_ ≠ (.slice Ao24 t213.length co24 : Value).ownBlock ∧ k_ ≠ gb202 ∧ k_ ≠ gb203 ∧ k_ ≠ gb204 ∧ k_ ≠ gb216) (.slice A1_1 l1_1.length c1_1) l1_1) := ⟨(by rw [hw]; exact (by refine kV_ ?_; exact nfV_ gb216 HO1_1.out (fun _ hk => hk.2) (fun _ hk => ⟨hk.1.1.1.1.1.1.1.1, ⟨hk.1.1.1.1.2, ⟨hk.1.1.1.2, ⟨hk.1.1.2, ⟨hk.1.1.1.1.1.1.1.2, ⟨hk.1.1.1.1.1.1.2, ⟨hk.1.1.1.1.1.2, hk.1.2⟩⟩⟩⟩⟩⟩⟩)))⟩; have n1_ : Aside0 (Kd.R (Kd.int .i64) 3 w25 w.heap.size (fun k_ => (w.heap.size ≤ k_) ∧ some k_ ≠ (.slice Ao24 t213.length co24 : Value).ownBlock) (.slice Ao22 t207.length co22) t207) := ⟨(by rw [hw]; exact (by refine kR_ ?_; exact rfm_ ((Kd.R_types HO209.out BK216.out (by decide))) (fun _ hk => ⟨hk.1.1, hk.1.2⟩)))⟩; have n2_ : Aside0 (Kd.N k41 41 w25 w.heap.size (fun k_ => (P1_1_ k_ ∨ w.heap.size ≤ k_) ∧ some k_ ≠ (.slice Ao22 t207.length co22 : Value).ownBlock ∧ some k_ ≠ (.slice Ao24 t213.length co24 : Value).ownBlock ∧ k_ ≠ gb202 ∧ k_ ≠ gb203 ∧ k_ ≠ gb204 ∧ k_ ≠ gb216) (.slice Ao23 t210.length co23) t210) := ⟨(by rw [hw]; exact (by refine kN_ ?_; exact nfN_ gb216 HO212.out (fun _ hk => hk.2) (fun _ hk => ⟨hk.1.1.1, ⟨hk.1.1.2.1, ⟨hk.1.1.2.2.1, ⟨hk.1.1.2.2.2.1, ⟨hk.1.1.2.2.2.2.1, ⟨hk.1.1.2.2.2.2.2, hk.1.2⟩⟩⟩⟩⟩⟩)))⟩; have n3_ : Aside0 (Kd.R (Kd.int .i64) 3 w25 w.heap.size (fun k_ => (w.heap.size ≤ k_) ∧ some k_ ≠ (.slice Ao22 t207.length co22 : Value).ownBlock) (.slice Ao24 t213.length co24) t213) := ⟨(by rw [hw]; exact (by refine kR_ ?_; exact rfm_ ((Kd.R_types HO215.out BK216.out (by decide))) (fun _ hk => ⟨hk.1.1, hk.1.2⟩)))⟩; have n4_ : Aside0 (w25.heap[gb202]? = some (.cells #[.int .i64 a0_0, .slice A0_1 l0_1.length c0_1, .slice A0_2 l0_2.length c0_2, .slice A0_3 l0_3.length c0_3] 30 (0, 0))) := ⟨(by rw [hw]; exact (by exact kf_ BK202.out))⟩; have n5_ : Aside0 (w25.heap[gb203]? = some (.cells #[.int .i64 a1_0, .slice A1_1 l1_1.length c1_1] 41 (0, 0))) := ⟨(by rw [hw]; exact (by exact kf_ BK203.out))⟩; have n6_ : Aside0 (w25.heap[gb204]? = some (.cells #[.int .i64 0, .slice none 0 0, .slice none 0 0, .slice none 0 0] 30 (0, 0))) := ⟨(by rw [hw]; exact (by exact kf_ BK204.out))⟩; have n7_ : Aside0 (w25.heap[gb216]? = some (.cells #[.int .i64 t206, .slice Ao22 t207.length co22, .slice Ao23 t210.length co23, .slice Ao24 t213.length co24] 30 (0, 0))) := ⟨(by rw [hw]; exact (by refine kb_ ?_; refine pz4 (cs := #[.int .i64 0, .slice none 0 0, .slice none 0 0, .slice none 0 0]) ?_; refine kb_ ?_; exact BK216.out))⟩; have n8_ : Aside0 (Below w.heap.size w w25) := ⟨(by rw [hw]; exact (hbA_ HB.out))⟩; have n9_ : Aside0 (Kd.S k41 41 w25 w.heap.size (fun k_ => lo234 ≤ k_ ∧ k_ < hi234) (.slice Ao23 t210.length co23) t210) := ⟨(by rw [hw]; exact (by refine kS_ ?_; exact (Kd.S_far (p := ⟨gb216, 3, none⟩) (Kd.S_far (p := ⟨gb216, 2, none⟩) (Kd.S_far (p := ⟨gb216, 1, none⟩) (Kd.S_far (p := ⟨gb216, 0, none⟩) GS234.out (fun _ hk => rng_box hk BX234_216.out) (.int .i64 t206)) (fun _ hk => rng_box hk BX234_216.out) (.slice Ao22 t207.length co22)) (fun _ hk => rng_box hk BX234_216.out) (.slice Ao23 t210.length co23)) (fun _ hk => rng_box hk BX234_216.out) (.slice Ao24 t213.length co24))))⟩; have n10_ : Aside0 (hi234 ≤ w25.heap.size) := ⟨(by rw [hw]; exact (hz_ HZ234))⟩; clear hw; clear HO1_1; clear HO209; clear HO212; clear HO215; clear BK202; clear BK203; clear BK204; clear BK216; clear HB; clear GS234; clear HZ234; have HO1_1 := n0_; have HO209 := n1_; have HO212 := n2_; have HO215 := n3_; have BK202 := n4_; have BK203 := n5_; have BK204 := n6_; have BK216 := n7_; have HB := n8_; have GS234 := n9_; have HZ234 := n10_; clear n0_ n1_ n2_ n3_ n4_ n5_ n6_ n7_ n8_ n9_ n10_; have Z26 := zz4 BK216; have hnb27 := NB203_204.out; have hnc27 := NB204_203.out; have Z28 := zz2 BK203) | ((with_reducible refine gate_callee (f := 59) rfl ?_); refine goesL_ (some 18) rfl rfl Try.func59 (by kernel_rfl) rfl #[.slice Ao22 t207.length co22, .int .i64 a1_0] rfl ar_ ?_; (with_reducible refine (slices_Index_int_int.calls k _ _ t207 a1_0 t217 _ ?side1 ?side2 A6.out).mono ?_); (case side1 => exact kC_ (Kd.R_reads' HO209.out).2.2); (case side2 => exact (Kd.R_reads' HO209.out).2.1); rintro e w' ⟨rfl, ⟨nd, rfl⟩⟩; refine ⟨_, rfl, ?_⟩; (try ((try simp only [World.drewN_drewN]); rw [drewN_self w25]; generalize hq_ : World.drewN w25 _ = w25; have n0_ : Aside0 (Kd.S k41 41 w25 w.heap.size (fun k_ => lo234 ≤ k_ ∧ k_ < hi234) (.slice Ao23 t210.length co23) t210) := ⟨by rw [← hq_]; exact (kS_ GS234.out)⟩; have n1_ : Aside0 (hi234 ≤ w25.heap.size) := ⟨by rw [← hq_]; exact (hz_ HZ234)⟩; have n2_ : Aside0 (Kd.V (Kd.int .u8) 5 w25 w.heap.size (fun k_ => (P1_1_ k_ ∨ w.heap.size ≤ k_) ∧ some k_ ≠ (.slice Ao22 t207.length co22 : Value).ownBlock ∧ some k_ ≠ (.slice Ao23 t210.length co23 : Value).ownBlock ∧ some k_ ≠ (.slice Ao24 t213.length co24 : Value).ownBlock ∧ k_ ≠ gb202 ∧ k_ ≠ gb203 ∧ k_ ≠ gb204 ∧ k_ ≠ gb216) (.slice A1_1 l1_1.length c1_1) l1_1) := ⟨by rw [← hq_]; exact (kV_ HO1_1.out)⟩; have n3_ : Aside0 (Kd.R (Kd.int .i64) 3 w25 w.heap.size (fun k_ => (w.heap.size ≤ k_) ∧ some k_ ≠ (.slice Ao24 t213.length co24 : Value).ownBlock) (.slice Ao22 t207.length co22) t207) := ⟨by rw [← hq_]; exact (kR_ HO209.out)⟩; have n4_ : Aside0 (Kd.N k41 41 w25 w.heap.size (fun k_ => (P1_1_ k_ ∨ w.heap.size ≤ k_) ∧ some k_ ≠ (.slice Ao22 t207.length co22 : Value).ownBlock ∧ some k_ ≠ (.slice Ao24 t213.length co24 : Value).ownBlock ∧ k_ ≠ gb202 ∧ k_ ≠ gb203 ∧ k_ ≠ gb204 ∧ k_ ≠ gb216) (.slice Ao23 t210.length co23) t210) := ⟨by rw [← hq_]; exact (kN_ HO212.out)⟩; have n5_ : Aside0 (Kd.R (Kd.int .i64) 3 w25 w.heap.size (fun k_ => (w.heap.size ≤ k_) ∧ some k_ ≠ (.slice Ao22 t207.length co22 : Value).ownBlock) (.slice Ao24 t213.length co24) t213) := ⟨by rw [← hq_]; exact (kR_ HO215.out)⟩; have n6_ : Aside0 (w25.heap[gb202]? = some (.cells #[.int .i64 a0_0, .slice A0_1 l0_1.length c0_1, .slice A0_2 l0_2.length c0_2, .slice A0_3 l0_3.length c0_3] 30 (0, 0))) := ⟨by rw [← hq_]; exact (kb_ BK202.out)⟩; have n7_ : Aside0 (w25.heap[gb203]? = some (.cells #[.int .i64 a1_0, .slice A1_1 l1_1.length c1_1] 41 (0, 0))) := ⟨by rw [← hq_]; exact (kb_ BK203.out)⟩; have n8_ : Aside0 (w25.heap[gb204]? = some (.cells #[.int .i64 0, .slice none 0 0, .slice none 0 0, .slice none 0 0] 30 (0, 0))) := ⟨by rw [← hq_]; exact (kb_ BK204.out)⟩; have n9_ : Aside0 (w25.heap[gb216]? = some (.cells #[.int .i64 t206, .slice Ao22 t207.length co22, .slice Ao23 t210.length co23, .slice Ao24 t213.length co24] 30 (0, 0))) := ⟨by rw [← hq_]; exact (kb_ BK216.out)⟩; have n10_ : Aside0 (Below w.heap.size w w25) := ⟨by rw [← hq_]; exact (hbA_ HB.out)⟩; clear GS234 HZ234 HO1_1 HO209 HO212 HO215 BK202 BK203 BK204 BK216 HB hq_; have GS234 := n0_; have HZ234 := n1_; have HO1_1 := n2_; have HO209 := n3_; have HO212 := n4_; have HO215 := n5_; have BK202 := n6_; have BK203 := n7_; have BK204 := n8_; have BK216 := n9_; have HB := n10_; clear n0_ n1_ n2_ n3_ n4_ n5_ n6_ n7_ n8_ n9_ n10_)); have Z29 := zz4 BK216; have Z30 := zz4 BK204))
   refine bodyPost_ret (results_ct rfl _ _ gb204 30 #[.int .i64 t206, .slice Ao22 t207.length co22, .slice Ao23 t210.length co23, .slice Ao24 t213.length co24] (0, 0) _ rfl (by refine kb_ ?_; refine pz4 (cs := #[.int .i64 0, .slice none 0 0, .slice none 0 0, .slice none 0 0]) ?_; refine kb_ ?_; exact BK204.out) Try.underlying30 rfl (by kernel_rfl)) rfl ?_
   exact ⟨_, _, _, by first | rfl | (simp [errW_none, errW_some] <;> rfl) | (simp [*, errW_none, errW_some] <;> rfl), by refine kR_ ?_; exact rfm_ ((Kd.R_types HO209.out BK204.out (by decide))) (fun _ hk => ⟨hk.1.1, hk.1.2⟩), Kd.S_mono (ok := fun k_ => lo234 ≤ k_ ∧ k_ < hi234) (by refine kS_ ?_; exact (Kd.S_far (p := ⟨gb204, 3, none⟩) (Kd.S_far (p := ⟨gb204, 2, none⟩) (Kd.S_far (p := ⟨gb204, 1, none⟩) (Kd.S_far (p := ⟨gb204, 0, none⟩) GS234.out (fun _ hk => rng_box hk BX234_204.out) (.int .i64 t206)) (fun _ hk => rng_box hk BX234_204.out) (.slice Ao22 t207.length co22)) (fun _ hk => rng_box hk BX234_204.out) (.slice Ao23 t210.length co23)) (fun _ hk => rng_box hk BX234_204.out) (.slice Ao24 t213.length co24))) (fun k_ hk_ => Nat.le_trans WL234.out hk_.1), by refine kR_ ?_; exact rfm_ ((Kd.R_types HO215.out BK204.out (by decide))) (fun _ hk => ⟨hk.1.1, hk.1.2⟩), hbA_ HB.out⟩
  ·rw [if_neg c7] at H
   have c7b0 : decide (t217 < 0) = false := decide_eq_false c7
   clear c7
   by_cases c31 : (l1_1.length : Int) > 9
   ·rw [if_pos c31] at H
    have c31b0 : decide (9 < (l1_1.length : Int)) = true := decide_eq_true c31
    have c31b1 : decide (9 < l1_1.length) = true := decide_eq_true (by omega)
    clear c31
    simp only [Option.some.injEq, Prod.mk.injEq] at H
    obtain ⟨rfl, rfl, rfl, rfl, rfl⟩ := H
    go_enter Try.func23, Try.ntmps23
    go_wp2_with (first | ((with_reducible refine gate_dst (N := 2) rfl ?_); (try (refine gate_guard (by rfl) ?_; dsimp only)); refine box_ (N := 2) (cs := #[.int .i64 a0_0, .slice A0_1 l0_1.length c0_1, .slice A0_2 l0_2.length c0_2, .slice A0_3 l0_3.length c0_3]) (t := 30) (fun gb202 hg w32 hbox hb => ?_); replace HO1_1 := Aside0.mk (Kd.V_below (Kd.V_elderB (kV_ HO1_1.out) gb202 (Nat.le_of_eq hg.symm)) hb); have BK202 := Aside0.mk (hbox); have GW202 := ge_ hg HB; have GE202 := ge_ hg HB; replace HB := (bs_ HB hb); clear hb hbox hg) | ((with_reducible refine gate_dst (N := 3) rfl ?_); (try (refine gate_guard (by rfl) ?_; dsimp only)); refine box_ (N := 3) (cs := #[.int .i64 a1_0, .slice A1_1 l1_1.length c1_1]) (t := 41) (fun gb203 hg w33 hbox hb => ?_); replace HO1_1 := Aside0.mk (Kd.V_below (Kd.V_elderB (kV_ HO1_1.out) gb203 (Nat.le_of_eq hg.symm)) hb); have BK203 := Aside0.mk (hbox); have GW203 := ge_ hg HB; have GE203 := ge_ hg HB; replace HB := (bs_ HB hb); have NB202_203 := nl_ hg BK202; have NB203_202 := ng_ hg BK202; replace BK202 := (bbA_ BK202 hb); clear hb hbox hg) | ((with_reducible refine gate_dst (N := 4) rfl ?_); (try (refine gate_guard (by rfl) ?_; dsimp only)); refine box_ (N := 4) (cs := #[.int .i64 0, .slice none 0 0, .slice none 0 0, .slice none 0 0]) (t := 30) (fun gb204 hg w34 hbox hb => ?_); replace HO1_1 := Aside0.mk (Kd.V_below (Kd.V_elderB (kV_ HO1_1.out) gb204 (Nat.le_of_eq hg.symm)) hb); have BK204 := Aside0.mk (hbox); have GW204 := ge_ hg HB; have GE204 := ge_ hg HB; replace HB := (bs_ HB hb); have NB202_204 := nl_ hg BK202; have NB204_202 := ng_ hg BK202; replace BK202 := (bbA_ BK202 hb); have NB203_204 := nl_ hg BK203; have NB204_203 := ng_ hg BK203; replace BK203 := (bbA_ BK203 hb); clear hb hbox hg; have hnb35 := NB202_203.out; have hnc35 := NB203_202.out; have hnb36 := NB202_204.out; have hnc36 := NB204_202.out; have Z37 := zz4 BK202) | ((with_reducible refine gate_callee (f := 14) rfl ?_); refine goesL_ (some 9) rfl rfl Try.func14 (by kernel_rfl) rfl #[.agg #[.int .i64 a0_0, .slice A0_1 l0_1.length c0_1, .slice A0_2 l0_2.length c0_2, .slice A0_3 l0_3.length c0_3]] rfl ar_ ?_; (with_reducible refine (impl_ClientOk.calls k a0_0 _ _ l0_1 _ _ l0_2 _ _ l0_3 true _ ?side1 ?side2 ?side3 ?side4 ?side5 ?side6 A3.out).mono ?_); (case side1 => exact kC_ (Kd.C_below HR0_1.out HB.out)); (case side2 => exact HC0_1.out); (case side3 => exact kC_ (Kd.C_below HR0_2.out HB.out)); (case side4 => exact HC0_2.out); (case side5 => exact kC_ (Kd.C_below HR0_3.out HB.out)); (case side6 => exact HC0_3.out); rintro e w38 ⟨rfl, hb⟩; refine ⟨_, rfl, ?_⟩; replace HO1_1 := Aside0.mk (Kd.V_below (kV_ HO1_1.out) hb); replace BK202 := (bbA_ BK202 hb); replace BK203 := (bbA_ BK203 hb); replace BK204 := (bbA_ BK204 hb); replace HB := (bs_ HB hb); (try clear hb); (try clear hb2); (try clear hk); (try clear hi); have Z39 := zz4 BK202) | ((with_reducible refine gate_callee (f := 54) rfl ?_); refine goesL_ (some 13) rfl rfl Try.func54 (by kernel_rfl) rfl #[.agg #[.int .i64 a0_0, .slice A0_1 l0_1.length c0_1, .slice A0_2 l0_2.length c0_2, .slice A0_3 l0_3.length c0_3]] rfl ar_ ?_; (with_reducible refine (impl_Client_copy.calls k a0_0 _ _ l0_1 _ _ l0_2 _ _ l0_3 t206 t207 t210 t213 _ ?side1 ?side2 ?side3 ?side4 ?side5 ?side6 A5.out).mono ?_); (case side1 => exact kC_ (Kd.C_below HR0_1.out HB.out)); (case side2 => exact HC0_1.out); (case side3 => exact kC_ (Kd.C_below HR0_2.out HB.out)); (case side4 => exact HC0_2.out); (case side5 => exact kC_ (Kd.C_below HR0_3.out HB.out)); (case side6 => exact HC0_3.out); rintro e w40 ⟨v208, v211, v214, rfl, ho0, ho1, ho2, hb⟩; refine ⟨_, rfl, ?_⟩; obtain ⟨lo235, hi235, elo235, ehi235⟩ := gr_open hb; replace HO1_1 := Aside0.mk (Kd.V_mono (Kd.V_told (Kd.V_told (Kd.V_told (Kd.V_old (kV_ HO1_1.out) hb) (Kd.R_base ho0)) (Kd.base_ ho1)) (Kd.R_base ho2)) (fun _ h_ => op1_ h_)); have HO209 := Aside0.mk (Kd.R_lower (Kd.R_newM (M := fun k_ => (w.heap.size ≤ k_)) ho0 (below_size (hbA_ HB.out)) (fun k_ h_ => h_)) (below_size (hbA_ HB.out))); have HO212 := Aside0.mk (Kd.N_lower (Kd.N_mono (ok' := fun k_ => (P1_1_ k_ ∨ w.heap.size ≤ k_) ∧ some k_ ≠ (v208 : Value).ownBlock ∧ some k_ ≠ (v214 : Value).ownBlock ∧ k_ ≠ gb202 ∧ k_ ≠ gb203 ∧ k_ ≠ gb204) (Kd.S_N (Kd.S_bound (Kd.S_apart' (Kd.S_apart' ho1 (Kd.R_typed ho0) (by decide)) (Kd.R_typed ho2) (by decide)))) (fun k_ hk_ => ⟨(.inr (Nat.le_trans (below_size (hbA_ HB.out)) hk_.2.1)), hk_.1.1.2, hk_.1.2, (fb_ BK202 k_ hk_.2.1), (fb_ BK203 k_ hk_.2.1), (fb_ BK204 k_ hk_.2.1)⟩)) (below_size (hbA_ HB.out))); have HO215 := Aside0.mk (Kd.R_lower (Kd.R_newM (M := fun k_ => (w.heap.size ≤ k_)) ho2 (below_size (hbA_ HB.out)) (fun k_ h_ => h_)) (below_size (hbA_ HB.out))); have GS235 := Aside0.mk (Kd.S_lower (gr_S2 elo235 ehi235 ho1) (below_size (hbA_ HB.out))); have HZ235 := Aside0.mk (Nat.le_of_eq ehi235.out); have WL235 := Aside0.mk (zb_ elo235 (below_size (hbA_ HB.out))); have BX235_202 := Aside0.mk (zx_ (g := gb202) (hi := hi235) elo235 (kb_ BK202.out)); replace BK202 := (bbA_ BK202 hb); have BX235_203 := Aside0.mk (zx_ (g := gb203) (hi := hi235) elo235 (kb_ BK203.out)); replace BK203 := (bbA_ BK203 hb); have BX235_204 := Aside0.mk (zx_ (g := gb204) (hi := hi235) elo235 (kb_ BK204.out)); replace BK204 := (bbA_ BK204 hb); replace HB := (bs_ HB hb); (try clear hb); (try clear hb2); (try clear hk); (try clear hi); (try clear ho0); (try clear ho1); (try clear ho2)) | ((with_reducible refine gate_dst (N := 6) rfl ?_); (try (refine gate_guard (by rfl) ?_; dsimp only)); refine box_ (N := 6) (cs := #[.int .i64 0, .slice none 0 0, .slice none 0 0, .slice none 0 0]) (t := 30) (fun gb216 hg w41 hbox hb => ?_); replace HO1_1 := Aside0.mk (Kd.V_below (Kd.V_elderB (kV_ HO1_1.out) gb216 (Nat.le_of_eq hg.symm)) hb); replace HO209 := Aside0.mk (Kd.R_below (kR_ HO209.out) hb); replace HO212 := Aside0.mk (Kd.N_below (Kd.N_elderB (kN_ HO212.out) gb216 (Nat.le_of_eq hg.symm)) hb); replace HO215 := Aside0.mk (Kd.R_below (kR_ HO215.out) hb); have BK216 := Aside0.mk (hbox); have GW216 := ge_ hg HB; have GE216 := ge_ hg HB; replace HB := (bs_ HB hb); have NB202_216 := nl_ hg BK202; have NB216_202 := ng_ hg BK202; replace BK202 := (bbA_ BK202 hb); have NB203_216 := nl_ hg BK203; have NB216_203 := ng_ hg BK203; replace BK203 := (bbA_ BK203 hb); have NB204_216 := nl_ hg BK204; have NB216_204 := ng_ hg BK204; replace BK204 := (bbA_ BK204 hb); have BX235_216 := Aside0.mk ((Or.inl (zl_ HZ235 ⟨hg⟩) : hi235 ≤ gb216 ∨ gb216 + 1 ≤ lo235)); replace GS235 := Aside0.mk (Kd.S_below (kS_ GS235.out) hb); replace HZ235 := Aside0.mk (zs_ HZ235 hb); clear hb hbox hg; have hnb42 := NB216_202.out; have hnc42 := NB202_216.out; have hnb43 := NB216_203.out; have hnc43 := NB203_216.out; have hnb44 := NB216_204.out; have hnc44 := NB204_216.out; have Z45 := zz4 BK216; obtain ⟨Ao46, co46, eo46⟩ := Kd.R_slice HO209.out; subst eo46; obtain ⟨Ao47, co47, eo47⟩ := Kd.N_slice HO212.out; subst eo47; obtain ⟨Ao48, co48, eo48⟩ := Kd.R_slice HO215.out; subst eo48) | ((with_reducible refine gate_store (t := 30) (p := 6) rfl ?_); refine store_event (t := 30) (p := 6) (v := ?vo_w49) (w1 := ((((w41.setCell ⟨gb216, 0, none⟩ (.int .i64 t206)).setCell ⟨gb216, 1, none⟩ (.slice Ao46 t207.length co46)).setCell ⟨gb216, 2, none⟩ (.slice Ao47 t210.length co47)).setCell ⟨gb216, 3, none⟩ (.slice Ao48 t213.length co48))) ?hg ?ho ?hn ?hr ?_; (case ho => rfl); (case hg => rfl); (case hn => rfl); (case hr => first | (go_simp; done) | (go_simp; rfl)); intro w49 hw; have n0_ : Aside0 (Kd.V (Kd.int .u8) 5 w49 w.heap.size (fun k_ => (P1_1_ k_ ∨ w.heap.size ≤ k_) ∧ some k_ ≠ (.slice Ao46 t207.length co46 : Value).ownBlock ∧ some k_ ≠ (.slice Ao47 t210.length co47 : Value).ownBlock ∧ some k_ ≠ (.slice Ao48 t213.length co48 : Value).ownBlock ∧ k_ ≠ gb202 ∧ k_ ≠ gb203 ∧ k_ ≠ gb204 ∧ k_ ≠ gb216) (.slice A1_1 l1_1.length c1_1) l1_1) := ⟨(by rw [hw]; exact (by refine kV_ ?_; exact nfV_ gb216 HO1_1.out (fun _ hk => hk.2) (fun _ hk => ⟨hk.1.1.1.1.1.1.1.1, ⟨hk.1.1.1.1.2, ⟨hk.1.1.1.2, ⟨hk.1.1.2, ⟨hk.1.1.1.1.1.1.1.2, ⟨hk.1.1.1.1.1.1.2, ⟨hk.1.1.1.1.1.2, hk.1.2⟩⟩⟩⟩⟩⟩⟩)))⟩; have n1_ : Aside0 (Kd.R (Kd.int .i64) 3 w49 w.heap.size (fun k_ => (w.heap.size ≤ k_) ∧ some k_ ≠ (.slice Ao48 t213.length co48 : Value).ownBlock) (.slice Ao46 t207.length co46) t207) := ⟨(by rw [hw]; exact (by refine kR_ ?_; exact rfm_ ((Kd.R_types HO209.out BK216.out (by decide))) (fun _ hk => ⟨hk.1.1, hk.1.2⟩)))⟩; have n2_ : Aside0 (Kd.N k41 41 w49 w.heap.size (fun k_ => (P1_1_ k_ ∨ w.heap.size ≤ k_) ∧ some k_ ≠ (.slice Ao46 t207.length co46 : Value).ownBlock ∧ some k_ ≠ (.slice Ao48 t213.length co48 : Value).ownBlock ∧ k_ ≠ gb202 ∧ k_ ≠ gb203 ∧ k_ ≠ gb204 ∧ k_ ≠ gb216) (.slice Ao47 t210.length co47) t210) := ⟨(by rw [hw]; exact (by refine kN_ ?_; exact nfN_ gb216 HO212.out (fun _ hk => hk.2) (fun _ hk => ⟨hk.1.1.1, ⟨hk.1.1.2.1, ⟨hk.1.1.2.2.1, ⟨hk.1.1.2.2.2.1, ⟨hk.1.1.2.2.2.2.1, ⟨hk.1.1.2.2.2.2.2, hk.1.2⟩⟩⟩⟩⟩⟩)))⟩; have n3_ : Aside0 (Kd.R (Kd.int .i64) 3 w49 w.heap.size (fun k_ => (w.heap.size ≤ k_) ∧ some k_ ≠ (.slice Ao46 t207.length co46 : Value).ownBlock) (.slice Ao48 t213.length co48) t213) := ⟨(by rw [hw]; exact (by refine kR_ ?_; exact rfm_ ((Kd.R_types HO215.out BK216.out (by decide))) (fun _ hk => ⟨hk.1.1, hk.1.2⟩)))⟩; have n4_ : Aside0 (w49.heap[gb202]? = some (.cells #[.int .i64 a0_0, .slice A0_1 l0_1.length c0_1, .slice A0_2 l0_2.length c0_2, .slice A0_3 l0_3.length c0_3] 30 (0, 0))) := ⟨(by rw [hw]; exact (by exact kf_ BK202.out))⟩; have n5_ : Aside0 (w49.heap[gb203]? = some (.cells #[.int .i64 a1_0, .slice A1_1 l1_1.length c1_1] 41 (0, 0))) := ⟨(by rw [hw]; exact (by exact kf_ BK203.out))⟩; have n6_ : Aside0 (w49.heap[gb204]? = some (.cells #[.int .i64 0, .slice none 0 0, .slice none 0 0, .slice none 0 0] 30 (0, 0))) := ⟨(by rw [hw]; exact (by exact kf_ BK204.out))⟩; have n7_ : Aside0 (w49.heap[gb216]? = some (.cells #[.int .i64 t206, .slice Ao46 t207.length co46, .slice Ao47 t210.length co47, .slice Ao48 t213.length co48] 30 (0, 0))) := ⟨(by rw [hw]; exact (by refine kb_ ?_; refine pz4 (cs := #[.int .i64 0, .slice none 0 0, .slice none 0 0, .slice none 0 0]) ?_; refine kb_ ?_; exact BK216.out))⟩; have n8_ : Aside0 (Below w.heap.size w w49) := ⟨(by rw [hw]; exact (hbA_ HB.out))⟩; have n9_ : Aside0 (Kd.S k41 41 w49 w.heap.size (fun k_ => lo235 ≤ k_ ∧ k_ < hi235) (.slice Ao47 t210.length co47) t210) := ⟨(by rw [hw]; exact (by refine kS_ ?_; exact (Kd.S_far (p := ⟨gb216, 3, none⟩) (Kd.S_far (p := ⟨gb216, 2, none⟩) (Kd.S_far (p := ⟨gb216, 1, none⟩) (Kd.S_far (p := ⟨gb216, 0, none⟩) GS235.out (fun _ hk => rng_box hk BX235_216.out) (.int .i64 t206)) (fun _ hk => rng_box hk BX235_216.out) (.slice Ao46 t207.length co46)) (fun _ hk => rng_box hk BX235_216.out) (.slice Ao47 t210.length co47)) (fun _ hk => rng_box hk BX235_216.out) (.slice Ao48 t213.length co48))))⟩; have n10_ : Aside0 (hi235 ≤ w49.heap.size) := ⟨(by rw [hw]; exact (hz_ HZ235))⟩; clear hw; clear HO1_1; clear HO209; clear HO212; clear HO215; clear BK202; clear BK203; clear BK204; clear BK216; clear HB; clear GS235; clear HZ235; have HO1_1 := n0_; have HO209 := n1_; have HO212 := n2_; have HO215 := n3_; have BK202 := n4_; have BK203 := n5_; have BK204 := n6_; have BK216 := n7_; have HB := n8_; have GS235 := n9_; have HZ235 := n10_; clear n0_ n1_ n2_ n3_ n4_ n5_ n6_ n7_ n8_ n9_ n10_; have Z50 := zz4 BK216; have hnb51 := NB203_204.out; have hnc51 := NB204_203.out; have Z52 := zz2 BK203) | ((with_reducible refine gate_callee (f := 59) rfl ?_); refine goesL_ (some 18) rfl rfl Try.func59 (by kernel_rfl) rfl #[.slice Ao46 t207.length co46, .int .i64 a1_0] rfl ar_ ?_; (with_reducible refine (slices_Index_int_int.calls k _ _ t207 a1_0 t217 _ ?side1 ?side2 A6.out).mono ?_); (case side1 => exact kC_ (Kd.R_reads' HO209.out).2.2); (case side2 => exact (Kd.R_reads' HO209.out).2.1); rintro e w' ⟨rfl, ⟨nd, rfl⟩⟩; refine ⟨_, rfl, ?_⟩; (try ((try simp only [World.drewN_drewN]); rw [drewN_self w49]; generalize hq_ : World.drewN w49 _ = w49; have n0_ : Aside0 (Kd.S k41 41 w49 w.heap.size (fun k_ => lo235 ≤ k_ ∧ k_ < hi235) (.slice Ao47 t210.length co47) t210) := ⟨by rw [← hq_]; exact (kS_ GS235.out)⟩; have n1_ : Aside0 (hi235 ≤ w49.heap.size) := ⟨by rw [← hq_]; exact (hz_ HZ235)⟩; have n2_ : Aside0 (Kd.V (Kd.int .u8) 5 w49 w.heap.size (fun k_ => (P1_1_ k_ ∨ w.heap.size ≤ k_) ∧ some k_ ≠ (.slice Ao46 t207.length co46 : Value).ownBlock ∧ some k_ ≠ (.slice Ao47 t210.length co47 : Value).ownBlock ∧ some k_ ≠ (.slice Ao48 t213.length co48 : Value).ownBlock ∧ k_ ≠ gb202 ∧ k_ ≠ gb203 ∧ k_ ≠ gb204 ∧ k_ ≠ gb216) (.slice A1_1 l1_1.length c1_1) l1_1) := ⟨by rw [← hq_]; exact (kV_ HO1_1.out)⟩; have n3_ : Aside0 (Kd.R (Kd.int .i64) 3 w49 w.heap.size (fun k_ => (w.heap.size ≤ k_) ∧ some k_ ≠ (.slice Ao48 t213.length co48 : Value).ownBlock) (.slice Ao46 t207.length co46) t207) := ⟨by rw [← hq_]; exact (kR_ HO209.out)⟩; have n4_ : Aside0 (Kd.N k41 41 w49 w.heap.size (fun k_ => (P1_1_ k_ ∨ w.heap.size ≤ k_) ∧ some k_ ≠ (.slice Ao46 t207.length co46 : Value).ownBlock ∧ some k_ ≠ (.slice Ao48 t213.length co48 : Value).ownBlock ∧ k_ ≠ gb202 ∧ k_ ≠ gb203 ∧ k_ ≠ gb204 ∧ k_ ≠ gb216) (.slice Ao47 t210.length co47) t210) := ⟨by rw [← hq_]; exact (kN_ HO212.out)⟩; have n5_ : Aside0 (Kd.R (Kd.int .i64) 3 w49 w.heap.size (fun k_ => (w.heap.size ≤ k_) ∧ some k_ ≠ (.slice Ao46 t207.length co46 : Value).ownBlock) (.slice Ao48 t213.length co48) t213) := ⟨by rw [← hq_]; exact (kR_ HO215.out)⟩; have n6_ : Aside0 (w49.heap[gb202]? = some (.cells #[.int .i64 a0_0, .slice A0_1 l0_1.length c0_1, .slice A0_2 l0_2.length c0_2, .slice A0_3 l0_3.length c0_3] 30 (0, 0))) := ⟨by rw [← hq_]; exact (kb_ BK202.out)⟩; have n7_ : Aside0 (w49.heap[gb203]? = some (.cells #[.int .i64 a1_0, .slice A1_1 l1_1.length c1_1] 41 (0, 0))) := ⟨by rw [← hq_]; exact (kb_ BK203.out)⟩; have n8_ : Aside0 (w49.heap[gb204]? = some (.cells #[.int .i64 0, .slice none 0 0, .slice none 0 0, .slice none 0 0] 30 (0, 0))) := ⟨by rw [← hq_]; exact (kb_ BK204.out)⟩; have n9_ : Aside0 (w49.heap[gb216]? = some (.cells #[.int .i64 t206, .slice Ao46 t207.length co46, .slice Ao47 t210.length co47, .slice Ao48 t213.length co48] 30 (0, 0))) := ⟨by rw [← hq_]; exact (kb_ BK216.out)⟩; have n10_ : Aside0 (Below w.heap.size w w49) := ⟨by rw [← hq_]; exact (hbA_ HB.out)⟩; clear GS235 HZ235 HO1_1 HO209 HO212 HO215 BK202 BK203 BK204 BK216 HB hq_; have GS235 := n0_; have HZ235 := n1_; have HO1_1 := n2_; have HO209 := n3_; have HO212 := n4_; have HO215 := n5_; have BK202 := n6_; have BK203 := n7_; have BK204 := n8_; have BK216 := n9_; have HB := n10_; clear n0_ n1_ n2_ n3_ n4_ n5_ n6_ n7_ n8_ n9_ n10_)); have Z53 := zz2 BK203; have Z54 := zz4 BK216; have Z55 := zz4 BK204))
    refine bodyPost_ret (results_ct rfl _ _ gb204 30 #[.int .i64 t206, .slice Ao46 t207.length co46, .slice Ao47 t210.length co47, .slice Ao48 t213.length co48] (0, 0) _ rfl (by refine kb_ ?_; refine pz4 (cs := #[.int .i64 0, .slice none 0 0, .slice none 0 0, .slice none 0 0]) ?_; refine kb_ ?_; exact BK204.out) Try.underlying30 rfl (by kernel_rfl)) rfl ?_
    exact ⟨_, _, _, by first | rfl | (simp [errW_none, errW_some] <;> rfl) | (simp [*, errW_none, errW_some] <;> rfl), by refine kR_ ?_; exact rfm_ ((Kd.R_types HO209.out BK204.out (by decide))) (fun _ hk => ⟨hk.1.1, hk.1.2⟩), Kd.S_mono (ok := fun k_ => lo235 ≤ k_ ∧ k_ < hi235) (by refine kS_ ?_; exact (Kd.S_far (p := ⟨gb204, 3, none⟩) (Kd.S_far (p := ⟨gb204, 2, none⟩) (Kd.S_far (p := ⟨gb204, 1, none⟩) (Kd.S_far (p := ⟨gb204, 0, none⟩) GS235.out (fun _ hk => rng_box hk BX235_204.out) (.int .i64 t206)) (fun _ hk => rng_box hk BX235_204.out) (.slice Ao46 t207.length co46)) (fun _ hk => rng_box hk BX235_204.out) (.slice Ao47 t210.length co47)) (fun _ hk => rng_box hk BX235_204.out) (.slice Ao48 t213.length co48))) (fun k_ hk_ => Nat.le_trans WL235.out hk_.1), by refine kR_ ?_; exact rfm_ ((Kd.R_types HO215.out BK204.out (by decide))) (fun _ hk => ⟨hk.1.1, hk.1.2⟩), hbA_ HB.out⟩
   ·rw [if_neg c31] at H
    have c31b0 : decide (9 < (l1_1.length : Int)) = false := decide_eq_false c31
    have c31b1 : decide (9 < l1_1.length) = false := decide_eq_false (by omega)
    clear c31
    by_cases c56 : 0 ≤ t217
    ·rw [if_pos c56] at H
     have c56b0 := eq_true c56
     have c56b1 : decide (0 ≤ t217) = true := decide_eq_true c56
     clear c56
     by_cases c57 : t217 < (t207.length : Int)
     ·rw [if_pos c57] at H
      have c57b0 := eq_true c57
      have c57b1 : decide (t217 < (t207.length : Int)) = true := decide_eq_true c57
      clear c57
      obtain ⟨y218, hy218⟩ : ∃ y_ : List Int, y_ = (t207.eraseIdx (t217 : Int).toNat) := ⟨_, rfl⟩
      (first | replace H := sb_ hy218 H | rw [← hy218] at H)
      have Ny218 := Aside0.mk hy218; clear hy218
      by_cases c58 : t210.length < 4398046511104
      ·rw [if_pos c58] at H
       have LMc58 := Aside0.mk c58; clear c58
       obtain ⟨y221, hy221⟩ : ∃ y_ : List (S41), y_ = (t210 ++ [(⟨a1_0, l1_1⟩ : S41)]) := ⟨_, rfl⟩
       (first | replace H := sb_ hy221 H | rw [← hy221] at H)
       have Ny221 := Aside0.mk hy221; clear hy221
       replace H := Option.bind_eq_some_iff.mp H
       obtain ⟨⟨t224, t225, t228, t231⟩, A590, H⟩ := H
       (try dsimp only at H)
       have A59 := Aside0.mk A590; clear A590
       simp only [Option.some.injEq, Prod.mk.injEq] at H
       obtain ⟨rfl, rfl, rfl, rfl, rfl⟩ := H
       go_enter Try.func23, Try.ntmps23
       go_wp2_with (first | ((with_reducible refine gate_dst (N := 2) rfl ?_); (try (refine gate_guard (by rfl) ?_; dsimp only)); refine box_ (N := 2) (cs := #[.int .i64 a0_0, .slice A0_1 l0_1.length c0_1, .slice A0_2 l0_2.length c0_2, .slice A0_3 l0_3.length c0_3]) (t := 30) (fun gb202 hg w60 hbox hb => ?_); replace HO1_1 := Aside0.mk (Kd.V_below (Kd.V_elderB (kV_ HO1_1.out) gb202 (Nat.le_of_eq hg.symm)) hb); have BK202 := Aside0.mk (hbox); have GW202 := ge_ hg HB; have GE202 := ge_ hg HB; replace HB := (bs_ HB hb); clear hb hbox hg) | ((with_reducible refine gate_dst (N := 3) rfl ?_); (try (refine gate_guard (by rfl) ?_; dsimp only)); refine box_ (N := 3) (cs := #[.int .i64 a1_0, .slice A1_1 l1_1.length c1_1]) (t := 41) (fun gb203 hg w61 hbox hb => ?_); replace HO1_1 := Aside0.mk (Kd.V_below (Kd.V_elderB (kV_ HO1_1.out) gb203 (Nat.le_of_eq hg.symm)) hb); have BK203 := Aside0.mk (hbox); have GW203 := ge_ hg HB; have GE203 := ge_ hg HB; replace HB := (bs_ HB hb); have NB202_203 := nl_ hg BK202; have NB203_202 := ng_ hg BK202; replace BK202 := (bbA_ BK202 hb); clear hb hbox hg) | ((with_reducible refine gate_dst (N := 4) rfl ?_); (try (refine gate_guard (by rfl) ?_; dsimp only)); refine box_ (N := 4) (cs := #[.int .i64 0, .slice none 0 0, .slice none 0 0, .slice none 0 0]) (t := 30) (fun gb204 hg w62 hbox hb => ?_); replace HO1_1 := Aside0.mk (Kd.V_below (Kd.V_elderB (kV_ HO1_1.out) gb204 (Nat.le_of_eq hg.symm)) hb); have BK204 := Aside0.mk (hbox); have GW204 := ge_ hg HB; have GE204 := ge_ hg HB; replace HB := (bs_ HB hb); have NB202_204 := nl_ hg BK202; have NB204_202 := ng_ hg BK202; replace BK202 := (bbA_ BK202 hb); have NB203_204 := nl_ hg BK203; have NB204_203 := ng_ hg BK203; replace BK203 := (bbA_ BK203 hb); clear hb hbox hg; have hnb63 := NB202_203.out; have hnc63 := NB203_202.out; have hnb64 := NB202_204.out; have hnc64 := NB204_202.out; have Z65 := zz4 BK202) | ((with_reducible refine gate_callee (f := 14) rfl ?_); refine goesL_ (some 9) rfl rfl Try.func14 (by kernel_rfl) rfl #[.agg #[.int .i64 a0_0, .slice A0_1 l0_1.length c0_1, .slice A0_2 l0_2.length c0_2, .slice A0_3 l0_3.length c0_3]] rfl ar_ ?_; (with_reducible refine (impl_ClientOk.calls k a0_0 _ _ l0_1 _ _ l0_2 _ _ l0_3 true _ ?side1 ?side2 ?side3 ?side4 ?side5 ?side6 A3.out).mono ?_); (case side1 => exact kC_ (Kd.C_below HR0_1.out HB.out)); (case side2 => exact HC0_1.out); (case side3 => exact kC_ (Kd.C_below HR0_2.out HB.out)); (case side4 => exact HC0_2.out); (case side5 => exact kC_ (Kd.C_below HR0_3.out HB.out)); (case side6 => exact HC0_3.out); rintro e w66 ⟨rfl, hb⟩; refine ⟨_, rfl, ?_⟩; replace HO1_1 := Aside0.mk (Kd.V_below (kV_ HO1_1.out) hb); replace BK202 := (bbA_ BK202 hb); replace BK203 := (bbA_ BK203 hb); replace BK204 := (bbA_ BK204 hb); replace HB := (bs_ HB hb); (try clear hb); (try clear hb2); (try clear hk); (try clear hi); have Z67 := zz4 BK202) | ((with_reducible refine gate_callee (f := 54) rfl ?_); refine goesL_ (some 13) rfl rfl Try.func54 (by kernel_rfl) rfl #[.agg #[.int .i64 a0_0, .slice A0_1 l0_1.length c0_1, .slice A0_2 l0_2.length c0_2, .slice A0_3 l0_3.length c0_3]] rfl ar_ ?_; (with_reducible refine (impl_Client_copy.calls k a0_0 _ _ l0_1 _ _ l0_2 _ _ l0_3 t206 t207 t210 t213 _ ?side1 ?side2 ?side3 ?side4 ?side5 ?side6 A5.out).mono ?_); (case side1 => exact kC_ (Kd.C_below HR0_1.out HB.out)); (case side2 => exact HC0_1.out); (case side3 => exact kC_ (Kd.C_below HR0_2.out HB.out)); (case side4 => exact HC0_2.out); (case side5 => exact kC_ (Kd.C_below HR0_3.out HB.out)); (case side6 => exact HC0_3.out); rintro e w68 ⟨v208, v211, v214, rfl, ho0, ho1, ho2, hb⟩; refine ⟨_, rfl, ?_⟩; obtain ⟨lo236, hi236, elo236, ehi236⟩ := gr_open hb; replace HO1_1 := Aside0.mk (Kd.V_mono (Kd.V_told (Kd.V_told (Kd.V_told (Kd.V_old (kV_ HO1_1.out) hb) (Kd.R_base ho0)) (Kd.base_ ho1)) (Kd.R_base ho2)) (fun _ h_ => op1_ h_)); have HO209 := Aside0.mk (Kd.R_lower (Kd.R_newM (M := fun k_ => (w.heap.size ≤ k_)) ho0 (below_size (hbA_ HB.out)) (fun k_ h_ => h_)) (below_size (hbA_ HB.out))); have HO212 := Aside0.mk (Kd.N_lower (Kd.N_mono (ok' := fun k_ => (P1_1_ k_ ∨ w.heap.size ≤ k_) ∧ some k_ ≠ (v208 : Value).ownBlock ∧ some k_ ≠ (v214 : Value).ownBlock ∧ k_ ≠ gb202 ∧ k_ ≠ gb203 ∧ k_ ≠ gb204) (Kd.S_N (Kd.S_bound (Kd.S_apart' (Kd.S_apart' ho1 (Kd.R_typed ho0) (by decide)) (Kd.R_typed ho2) (by decide)))) (fun k_ hk_ => ⟨(.inr (Nat.le_trans (below_size (hbA_ HB.out)) hk_.2.1)), hk_.1.1.2, hk_.1.2, (fb_ BK202 k_ hk_.2.1), (fb_ BK203 k_ hk_.2.1), (fb_ BK204 k_ hk_.2.1)⟩)) (below_size (hbA_ HB.out))); have HO215 := Aside0.mk (Kd.R_lower (Kd.R_newM (M := fun k_ => (w.heap.size ≤ k_)) ho2 (below_size (hbA_ HB.out)) (fun k_ h_ => h_)) (below_size (hbA_ HB.out))); have GS236 := Aside0.mk (Kd.S_lower (gr_S2 elo236 ehi236 ho1) (below_size (hbA_ HB.out))); have HZ236 := Aside0.mk (Nat.le_of_eq ehi236.out); have WL236 := Aside0.mk (zb_ elo236 (below_size (hbA_ HB.out))); have BX236_202 := Aside0.mk (zx_ (g := gb202) (hi := hi236) elo236 (kb_ BK202.out)); replace BK202 := (bbA_ BK202 hb); have BX236_203 := Aside0.mk (zx_ (g := gb203) (hi := hi236) elo236 (kb_ BK203.out)); replace BK203 := (bbA_ BK203 hb); have BX236_204 := Aside0.mk (zx_ (g := gb204) (hi := hi236) elo236 (kb_ BK204.out)); replace BK204 := (bbA_ BK204 hb); replace HB := (bs_ HB hb); (try clear hb); (try clear hb2); (try clear hk); (try clear hi); (try clear ho0); (try clear ho1); (try clear ho2)) | ((with_reducible refine gate_dst (N := 6) rfl ?_); (try (refine gate_guard (by rfl) ?_; dsimp only)); refine box_ (N := 6) (cs := #[.int .i64 0, .slice none 0 0, .slice none 0 0, .slice none 0 0]) (t := 30) (fun gb216 hg w69 hbox hb => ?_); replace HO1_1 := Aside0.mk (Kd.V_below (Kd.V_elderB (kV_ HO1_1.out) gb216 (Nat.le_of_eq hg.symm)) hb); replace HO209 := Aside0.mk (Kd.R_below (kR_ HO209.out) hb); replace HO212 := Aside0.mk (Kd.N_below (Kd.N_elderB (kN_ HO212.out) gb216 (Nat.le_of_eq hg.symm)) hb); replace HO215 := Aside0.mk (Kd.R_below (kR_ HO215.out) hb); have BK216 := Aside0.mk (hbox); have GW216 := ge_ hg HB; have GE216 := ge_ hg HB; replace HB := (bs_ HB hb); have NB202_216 := nl_ hg BK202; have NB216_202 := ng_ hg BK202; replace BK202 := (bbA_ BK202 hb); have NB203_216 := nl_ hg BK203; have NB216_203 := ng_ hg BK203; replace BK203 := (bbA_ BK203 hb); have NB204_216 := nl_ hg BK204; have NB216_204 := ng_ hg BK204; replace BK204 := (bbA_ BK204 hb); have BX236_216 := Aside0.mk ((Or.inl (zl_ HZ236 ⟨hg⟩) : hi236 ≤ gb216 ∨ gb216 + 1 ≤ lo236)); replace GS236 := Aside0.mk (Kd.S_below (kS_ GS236.out) hb); replace HZ236 := Aside0.mk (zs_ HZ236 hb); clear hb hbox hg; have hnb70 := NB216_202.out; have hnc70 := NB202_216.out; have hnb71 := NB216_203.out; have hnc71 := NB203_216.out; have hnb72 := NB216_204.out; have hnc72 := NB204_216.out; have Z73 := zz4 BK216; obtain ⟨Ao74, co74, eo74⟩ := Kd.R_slice HO209.out; subst eo74; obtain ⟨Ao75, co75, eo75⟩ := Kd.N_slice HO212.out; subst eo75; obtain ⟨Ao76, co76, eo76⟩ := Kd.R_slice HO215.out; subst eo76) | ((with_reducible refine gate_store (t := 30) (p := 6) rfl ?_); refine store_event (t := 30) (p := 6) (v := ?vo_w77) (w1 := ((((w69.setCell ⟨gb216, 0, none⟩ (.int .i64 t206)).setCell ⟨gb216, 1, none⟩ (.slice Ao74 t207.length co74)).setCell ⟨gb216, 2, none⟩ (.slice Ao75 t210.length co75)).setCell ⟨gb216, 3, none⟩ (.slice Ao76 t213.length co76))) ?hg ?ho ?hn ?hr ?_; (case ho => rfl); (case hg => rfl); (case hn => rfl); (case hr => first | (go_simp; done) | (go_simp; rfl)); intro w77 hw; have n0_ : Aside0 (Kd.V (Kd.int .u8) 5 w77 w.heap.size (fun k_ => (P1_1_ k_ ∨ w.heap.size ≤ k_) ∧ some k_ ≠ (.slice Ao74 t207.length co74 : Value).ownBlock ∧ some k_ ≠ (.slice Ao75 t210.length co75 : Value).ownBlock ∧ some k_ ≠ (.slice Ao76 t213.length co76 : Value).ownBlock ∧ k_ ≠ gb202 ∧ k_ ≠ gb203 ∧ k_ ≠ gb204 ∧ k_ ≠ gb216) (.slice A1_1 l1_1.length c1_1) l1_1) := ⟨(by rw [hw]; exact (by refine kV_ ?_; exact nfV_ gb216 HO1_1.out (fun _ hk => hk.2) (fun _ hk => ⟨hk.1.1.1.1.1.1.1.1, ⟨hk.1.1.1.1.2, ⟨hk.1.1.1.2, ⟨hk.1.1.2, ⟨hk.1.1.1.1.1.1.1.2, ⟨hk.1.1.1.1.1.1.2, ⟨hk.1.1.1.1.1.2, hk.1.2⟩⟩⟩⟩⟩⟩⟩)))⟩; have n1_ : Aside0 (Kd.R (Kd.int .i64) 3 w77 w.heap.size (fun k_ => (w.heap.size ≤ k_) ∧ some k_ ≠ (.slice Ao76 t213.length co76 : Value).ownBlock) (.slice Ao74 t207.length co74) t207) := ⟨(by rw [hw]; exact (by refine kR_ ?_; exact rfm_ ((Kd.R_types HO209.out BK216.out (by decide))) (fun _ hk => ⟨hk.1.1, hk.1.2⟩)))⟩; have n2_ : Aside0 (Kd.N k41 41 w77 w.heap.size (fun k_ => (P1_1_ k_ ∨ w.heap.size ≤ k_) ∧ some k_ ≠ (.slice Ao74 t207.length co74 : Value).ownBlock ∧ some k_ ≠ (.slice Ao76 t213.length co76 : Value).ownBlock ∧ k_ ≠ gb202 ∧ k_ ≠ gb203 ∧ k_ ≠ gb204 ∧ k_ ≠ gb216) (.slice Ao75 t210.length co75) t210) := ⟨(by rw [hw]; exact (by refine kN_ ?_; exact nfN_ gb216 HO212.out (fun _ hk => hk.2) (fun _ hk => ⟨hk.1.1.1, ⟨hk.1.1.2.1, ⟨hk.1.1.2.2.1, ⟨hk.1.1.2.2.2.1, ⟨hk.1.1.2.2.2.2.1, ⟨hk.1.1.2.2.2.2.2, hk.1.2⟩⟩⟩⟩⟩⟩)))⟩; have n3_ : Aside0 (Kd.R (Kd.int .i64) 3 w77 w.heap.size (fun k_ => (w.heap.size ≤ k_) ∧ some k_ ≠ (.slice Ao74 t207.length co74 : Value).ownBlock) (.slice Ao76 t213.length co76) t213) := ⟨(by rw [hw]; exact (by refine kR_ ?_; exact rfm_ ((Kd.R_types HO215.out BK216.out (by decide))) (fun _ hk => ⟨hk.1.1, hk.1.2⟩)))⟩; have n4_ : Aside0 (w77.heap[gb202]? = some (.cells #[.int .i64 a0_0, .slice A0_1 l0_1.length c0_1, .slice A0_2 l0_2.length c0_2, .slice A0_3 l0_3.length c0_3] 30 (0, 0))) := ⟨(by rw [hw]; exact (by exact kf_ BK202.out))⟩; have n5_ : Aside0 (w77.heap[gb203]? = some (.cells #[.int .i64 a1_0, .slice A1_1 l1_1.length c1_1] 41 (0, 0))) := ⟨(by rw [hw]; exact (by exact kf_ BK203.out))⟩; have n6_ : Aside0 (w77.heap[gb204]? = some (.cells #[.int .i64 0, .slice none 0 0, .slice none 0 0, .slice none 0 0] 30 (0, 0))) := ⟨(by rw [hw]; exact (by exact kf_ BK204.out))⟩; have n7_ : Aside0 (w77.heap[gb216]? = some (.cells #[.int .i64 t206, .slice Ao74 t207.length co74, .slice Ao75 t210.length co75, .slice Ao76 t213.length co76] 30 (0, 0))) := ⟨(by rw [hw]; exact (by refine kb_ ?_; refine pz4 (cs := #[.int .i64 0, .slice none 0 0, .slice none 0 0, .slice none 0 0]) ?_; refine kb_ ?_; exact BK216.out))⟩; have n8_ : Aside0 (Below w.heap.size w w77) := ⟨(by rw [hw]; exact (hbA_ HB.out))⟩; have n9_ : Aside0 (Kd.S k41 41 w77 w.heap.size (fun k_ => lo236 ≤ k_ ∧ k_ < hi236) (.slice Ao75 t210.length co75) t210) := ⟨(by rw [hw]; exact (by refine kS_ ?_; exact (Kd.S_far (p := ⟨gb216, 3, none⟩) (Kd.S_far (p := ⟨gb216, 2, none⟩) (Kd.S_far (p := ⟨gb216, 1, none⟩) (Kd.S_far (p := ⟨gb216, 0, none⟩) GS236.out (fun _ hk => rng_box hk BX236_216.out) (.int .i64 t206)) (fun _ hk => rng_box hk BX236_216.out) (.slice Ao74 t207.length co74)) (fun _ hk => rng_box hk BX236_216.out) (.slice Ao75 t210.length co75)) (fun _ hk => rng_box hk BX236_216.out) (.slice Ao76 t213.length co76))))⟩; have n10_ : Aside0 (hi236 ≤ w77.heap.size) := ⟨(by rw [hw]; exact (hz_ HZ236))⟩; clear hw; clear HO1_1; clear HO209; clear HO212; clear HO215; clear BK202; clear BK203; clear BK204; clear BK216; clear HB; clear GS236; clear HZ236; have HO1_1 := n0_; have HO209 := n1_; have HO212 := n2_; have HO215 := n3_; have BK202 := n4_; have BK203 := n5_; have BK204 := n6_; have BK216 := n7_; have HB := n8_; have GS236 := n9_; have HZ236 := n10_; clear n0_ n1_ n2_ n3_ n4_ n5_ n6_ n7_ n8_ n9_ n10_; have Z78 := zz4 BK216; have hnb79 := NB203_204.out; have hnc79 := NB204_203.out; have Z80 := zz2 BK203) | ((with_reducible refine gate_callee (f := 59) rfl ?_); refine goesL_ (some 18) rfl rfl Try.func59 (by kernel_rfl) rfl #[.slice Ao74 t207.length co74, .int .i64 a1_0] rfl ar_ ?_; (with_reducible refine (slices_Index_int_int.calls k _ _ t207 a1_0 t217 _ ?side1 ?side2 A6.out).mono ?_); (case side1 => exact kC_ (Kd.R_reads' HO209.out).2.2); (case side2 => exact (Kd.R_reads' HO209.out).2.1); rintro e w' ⟨rfl, ⟨nd, rfl⟩⟩; refine ⟨_, rfl, ?_⟩; (try ((try simp only [World.drewN_drewN]); rw [drewN_self w77]; generalize hq_ : World.drewN w77 _ = w77; have n0_ : Aside0 (Kd.S k41 41 w77 w.heap.size (fun k_ => lo236 ≤ k_ ∧ k_ < hi236) (.slice Ao75 t210.length co75) t210) := ⟨by rw [← hq_]; exact (kS_ GS236.out)⟩; have n1_ : Aside0 (hi236 ≤ w77.heap.size) := ⟨by rw [← hq_]; exact (hz_ HZ236)⟩; have n2_ : Aside0 (Kd.V (Kd.int .u8) 5 w77 w.heap.size (fun k_ => (P1_1_ k_ ∨ w.heap.size ≤ k_) ∧ some k_ ≠ (.slice Ao74 t207.length co74 : Value).ownBlock ∧ some k_ ≠ (.slice Ao75 t210.length co75 : Value).ownBlock ∧ some k_ ≠ (.slice Ao76 t213.length co76 : Value).ownBlock ∧ k_ ≠ gb202 ∧ k_ ≠ gb203 ∧ k_ ≠ gb204 ∧ k_ ≠ gb216) (.slice A1_1 l1_1.length c1_1) l1_1) := ⟨by rw [← hq_]; exact (kV_ HO1_1.out)⟩; have n3_ : Aside0 (Kd.R (Kd.int .i64) 3 w77 w.heap.size (fun k_ => (w.heap.size ≤ k_) ∧ some k_ ≠ (.slice Ao76 t213.length co76 : Value).ownBlock) (.slice Ao74 t207.length co74) t207) := ⟨by rw [← hq_]; exact (kR_ HO209.out)⟩; have n4_ : Aside0 (Kd.N k41 41 w77 w.heap.size (fun k_ => (P1_1_ k_ ∨ w.heap.size ≤ k_) ∧ some k_ ≠ (.slice Ao74 t207.length co74 : Value).ownBlock ∧ some k_ ≠ (.slice Ao76 t213.length co76 : Value).ownBlock ∧ k_ ≠ gb202 ∧ k_ ≠ gb203 ∧ k_ ≠ gb204 ∧ k_ ≠ gb216) (.slice Ao75 t210.length co75) t210) := ⟨by rw [← hq_]; exact (kN_ HO212.out)⟩; have n5_ : Aside0 (Kd.R (Kd.int .i64) 3 w77 w.heap.size (fun k_ => (w.heap.size ≤ k_) ∧ some k_ ≠ (.slice Ao74 t207.length co74 : Value).ownBlock) (.slice Ao76 t213.length co76) t213) := ⟨by rw [← hq_]; exact (kR_ HO215.out)⟩; have n6_ : Aside0 (w77.heap[gb202]? = some (.cells #[.int .i64 a0_0, .slice A0_1 l0_1.length c0_1, .slice A0_2 l0_2.length c0_2, .slice A0_3 l0_3.length c0_3] 30 (0, 0))) := ⟨by rw [← hq_]; exact (kb_ BK202.out)⟩; have n7_ : Aside0 (w77.heap[gb203]? = some (.cells #[.int .i64 a1_0, .slice A1_1 l1_1.length c1_1] 41 (0, 0))) := ⟨by rw [← hq_]; exact (kb_ BK203.out)⟩; have n8_ : Aside0 (w77.heap[gb204]? = some (.cells #[.int .i64 0, .slice none 0 0, .slice none 0 0, .slice none 0 0] 30 (0, 0))) := ⟨by rw [← hq_]; exact (kb_ BK204.out)⟩; have n9_ : Aside0 (w77.heap[gb216]? = some (.cells #[.int .i64 t206, .slice Ao74 t207.length co74, .slice Ao75 t210.length co75, .slice Ao76 t213.length co76] 30 (0, 0))) := ⟨by rw [← hq_]; exact (kb_ BK216.out)⟩; have n10_ : Aside0 (Below w.heap.size w w77) := ⟨by rw [← hq_]; exact (hbA_ HB.out)⟩; clear GS236 HZ236 HO1_1 HO209 HO212 HO215 BK202 BK203 BK204 BK216 HB hq_; have GS236 := n0_; have HZ236 := n1_; have HO1_1 := n2_; have HO209 := n3_; have HO212 := n4_; have HO215 := n5_; have BK202 := n6_; have BK203 := n7_; have BK204 := n8_; have BK216 := n9_; have HB := n10_; clear n0_ n1_ n2_ n3_ n4_ n5_ n6_ n7_ n8_ n9_ n10_)); have Z81 := zz2 BK203; have Z82 := zz4 BK216) | ((with_reducible refine gate_callee (f := 60) rfl ?_); have hj_ : 0 ≤ (t217 : Int) := of_decide_eq_true (by first | (with_reducible assumption) | assumption); have hl_ : (t217 : Int) < (t207.length : Int) := of_decide_eq_true (by first | (with_reducible assumption) | assumption); obtain ⟨gd84, cap_, ev_, _⟩ := Kd.R_form HO209.out (by omega); injection ev_ with ea_ en_ ec_; subst ea_; subst ec_; clear en_; refine goesL_ (some 33) rfl rfl Try.func60 (by kernel_rfl) rfl #[.slice (some ⟨gd84, 0, none⟩) t207.length co74, .int .i64 t217, .int .i64 (wrap64 (t217 + 1))] rfl (by (try simp only [List.map_toArray, List.map_cons, List.map_nil]); first | done | rfl) ?_; refine (slices_Delete_int_int.calls (w0 := w) (base := w.heap.size) (g := gd84) (n := t207.length) (c := co74) (a1 := t217) (a2 := (wrap64 (t217 + 1))) (kR_ HO209.out) (hbA_ HB.out) (below_size (hbA_ HB.out)) hj_ hl_ rfl).mono ?_; rintro e w83 ⟨rfl, ho, hb, hg⟩; refine ⟨_, rfl, ?_⟩; clear hj_ hl_; rw [← Ny218.out] at ho; have hn_ : t207.length - 1 = y218.length := (by have := (Kd.R_reads' ho).1; omega); rw [hn_] at ho ⊢; clear hn_; replace HO1_1 := Aside0.mk (Kd.V_afterv (v := (.slice (some ⟨gd84, 0, none⟩) t207.length co74)) (v1 := .slice (some ⟨gd84, 0, none⟩) y218.length co74) (ok := (fun k_ => (P1_1_ k_ ∨ w.heap.size ≤ k_) ∧ some k_ ≠ (.slice Ao75 t210.length co75 : Value).ownBlock ∧ some k_ ≠ (.slice Ao76 t213.length co76 : Value).ownBlock ∧ k_ ≠ gb202 ∧ k_ ≠ gb203 ∧ k_ ≠ gb204 ∧ k_ ≠ gb216)) (by refine kV_ ?_; exact Kd.V_mono HO1_1.out (fun _ hk => ⟨⟨hk.1, ⟨hk.2.2.1, ⟨hk.2.2.2.1, ⟨hk.2.2.2.2.1, ⟨hk.2.2.2.2.2.1, ⟨hk.2.2.2.2.2.2.1, hk.2.2.2.2.2.2.2⟩⟩⟩⟩⟩⟩, hk.2.1⟩)) hg (.inl rfl)); replace BK202 := (bgA_ BK202 hg (Kd.R_ne HO209.out BK202.out (by decide))); replace BK203 := (bgA_ BK203 hg (Kd.R_ne HO209.out BK203.out (by decide))); replace BK204 := (bgA_ BK204 hg (Kd.R_ne HO209.out BK204.out (by decide))); replace HO212 := Aside0.mk (Kd.N_afterv (v := (.slice (some ⟨gd84, 0, none⟩) t207.length co74)) (v1 := .slice (some ⟨gd84, 0, none⟩) y218.length co74) (ok := (fun k_ => (P1_1_ k_ ∨ w.heap.size ≤ k_) ∧ some k_ ≠ (.slice Ao76 t213.length co76 : Value).ownBlock ∧ k_ ≠ gb202 ∧ k_ ≠ gb203 ∧ k_ ≠ gb204 ∧ k_ ≠ gb216)) (by refine kN_ ?_; exact Kd.N_mono HO212.out (fun _ hk => ⟨⟨hk.1, ⟨hk.2.2.1, ⟨hk.2.2.2.1, ⟨hk.2.2.2.2.1, ⟨hk.2.2.2.2.2.1, hk.2.2.2.2.2.2⟩⟩⟩⟩⟩, hk.2.1⟩)) hg (.inl rfl)); replace HO215 := Aside0.mk (Kd.R_after (v := (.slice (some ⟨gd84, 0, none⟩) t207.length co74)) (v1 := .slice (some ⟨gd84, 0, none⟩) y218.length co74) (ok := (fun k_ => (w.heap.size ≤ k_))) (kR_ HO215.out) hg (.inl rfl)); replace BK216 := (bgA_ BK216 hg (Kd.R_ne HO209.out BK216.out (by decide))); replace HO209 := Aside0.mk (ho); replace HB := Aside0.mk (hb); clear ho hb hg; have Z85 := zz4 BK216) | ((with_reducible refine gate_store (t := 22) (p := 34) rfl ?_); refine store_event (t := 22) (p := 34) (v := ?vo_w86) (w1 := (w83.setCell ⟨gb216, 1, none⟩ (.slice (some ⟨gd84, 0, none⟩) y218.length co74))) ?hg ?ho ?hn ?hr ?_; (case ho => rfl); (case hg => rfl); (case hn => rfl); (case hr => first | (go_simp; done) | (go_simp; rfl)); intro w86 hw; have n0_ : Aside0 (Kd.V (Kd.int .u8) 5 w86 w.heap.size (fun k_ => (P1_1_ k_ ∨ w.heap.size ≤ k_) ∧ some k_ ≠ (.slice (some ⟨gd84, 0, none⟩) y218.length co74 : Value).ownBlock ∧ some k_ ≠ (.slice Ao75 t210.length co75 : Value).ownBlock ∧ some k_ ≠ (.slice Ao76 t213.length co76 : Value).ownBlock ∧ k_ ≠ gb202 ∧ k_ ≠ gb203 ∧ k_ ≠ gb204 ∧ k_ ≠ gb216) (.slice A1_1 l1_1.length c1_1) l1_1) := ⟨(by rw [hw]; exact (by refine kV_ ?_; exact nfV_ gb216 HO1_1.out (fun _ hk => hk.1.2.2.2.2.2.2) (fun _ hk => ⟨hk.1.1.1, ⟨hk.1.2, ⟨hk.1.1.2.1, ⟨hk.1.1.2.2.1, ⟨hk.1.1.2.2.2.1, ⟨hk.1.1.2.2.2.2.1, ⟨hk.1.1.2.2.2.2.2.1, hk.1.1.2.2.2.2.2.2⟩⟩⟩⟩⟩⟩⟩)))⟩; have n1_ : Aside0 (Kd.R (Kd.int .i64) 3 w86 w.heap.size (fun k_ => (w.heap.size ≤ k_) ∧ some k_ ≠ (.slice Ao76 t213.length co76 : Value).ownBlock) (.slice (some ⟨gd84, 0, none⟩) y218.length co74) y218) := ⟨(by rw [hw]; exact (by refine kR_ ?_; exact Kd.R_mono (Kd.R_f gb216 1 (.slice (some ⟨gd84, 0, none⟩) y218.length co74) (Kd.R_types HO209.out BK216.out (by decide))) (fun _ hk => ⟨hk.1.1, hk.1.2⟩)))⟩; have n2_ : Aside0 (Kd.N k41 41 w86 w.heap.size (fun k_ => (P1_1_ k_ ∨ w.heap.size ≤ k_) ∧ some k_ ≠ (.slice (some ⟨gd84, 0, none⟩) y218.length co74 : Value).ownBlock ∧ some k_ ≠ (.slice Ao76 t213.length co76 : Value).ownBlock ∧ k_ ≠ gb202 ∧ k_ ≠ gb203 ∧ k_ ≠ gb204 ∧ k_ ≠ gb216) (.slice Ao75 t210.length co75) t210) := ⟨(by rw [hw]; exact (by refine kN_ ?_; exact nfN_ gb216 HO212.out (fun _ hk => hk.1.2.2.2.2.2) (fun _ hk => ⟨hk.1.1.1, ⟨hk.1.2, ⟨hk.1.1.2.1, ⟨hk.1.1.2.2.1, ⟨hk.1.1.2.2.2.1, ⟨hk.1.1.2.2.2.2.1, hk.1.1.2.2.2.2.2⟩⟩⟩⟩⟩⟩)))⟩; have n3_ : Aside0 (Kd.R (Kd.int .i64) 3 w86 w.heap.size (fun k_ => (w.heap.size ≤ k_) ∧ some k_ ≠ (.slice (some ⟨gd84, 0, none⟩) y218.length co74 : Value).ownBlock) (.slice Ao76 t213.length co76) t213) := ⟨(by rw [hw]; exact (by refine kR_ ?_; exact Kd.R_mono (Kd.R_f gb216 1 (.slice (some ⟨gd84, 0, none⟩) y218.length co74) (Kd.R_types HO215.out BK216.out (by decide))) (fun _ hk => ⟨hk.1.1, hk.1.2⟩)))⟩; have n4_ : Aside0 (w86.heap[gb202]? = some (.cells #[.int .i64 a0_0, .slice A0_1 l0_1.length c0_1, .slice A0_2 l0_2.length c0_2, .slice A0_3 l0_3.length c0_3] 30 (0, 0))) := ⟨(by rw [hw]; exact (by exact kf_ BK202.out))⟩; have n5_ : Aside0 (w86.heap[gb203]? = some (.cells #[.int .i64 a1_0, .slice A1_1 l1_1.length c1_1] 41 (0, 0))) := ⟨(by rw [hw]; exact (by exact kf_ BK203.out))⟩; have n6_ : Aside0 (w86.heap[gb204]? = some (.cells #[.int .i64 0, .slice none 0 0, .slice none 0 0, .slice none 0 0] 30 (0, 0))) := ⟨(by rw [hw]; exact (by exact kf_ BK204.out))⟩; have n7_ : Aside0 (w86.heap[gb216]? = some (.cells #[.int .i64 t206, .slice (some ⟨gd84, 0, none⟩) y218.length co74, .slice Ao75 t210.length co75, .slice Ao76 t213.length co76] 30 (0, 0))) := ⟨(by rw [hw]; exact (by refine kb_ ?_; refine blk_put (cs := #[.int .i64 t206, .slice (some ⟨gd84, 0, none⟩) t207.length co74, .slice Ao75 t210.length co75, .slice Ao76 t213.length co76]) ?_ 1 _ rfl; refine kb_ ?_; exact BK216.out))⟩; have n8_ : Aside0 (Below w.heap.size w w86) := ⟨(by rw [hw]; exact (hbA_ HB.out))⟩; clear hw; clear HO1_1; clear HO209; clear HO212; clear HO215; clear BK202; clear BK203; clear BK204; clear BK216; clear HB; have HO1_1 := n0_; have HO209 := n1_; have HO212 := n2_; have HO215 := n3_; have BK202 := n4_; have BK203 := n5_; have BK204 := n6_; have BK216 := n7_; have HB := n8_; clear n0_ n1_ n2_ n3_ n4_ n5_ n6_ n7_ n8_; have Z87 := zz4 BK216; have Z88 := zz2 BK203) | ((with_reducible refine gate_builtin (b := .append) (xs := #[.tmp 36, .tmp 38]) rfl ?_); (try (refine gate_guard (by rfl) ?_; dsimp only)); at_builtin; refine Kd.N_append k41 (w0 := w) w.heap.size rfl (.tmp 36) (.tmp 38) 28 41 (.agg #[(.int .i64 0), (.slice none 0 0)]) 32 rfl Try.underlying28 info41 rfl (by decide) (by omega) (.slice Ao75 t210.length co75) t210 (⟨a1_0, l1_1⟩ : S41) [.int .i64 a1_0, .slice A1_1 l1_1.length c1_1] (fun k_ => (P1_1_ k_ ∨ w.heap.size ≤ k_) ∧ some k_ ≠ (.slice (some ⟨gd84, 0, none⟩) y218.length co74 : Value).ownBlock ∧ some k_ ≠ (.slice Ao76 t213.length co76 : Value).ownBlock ∧ k_ ≠ gb202 ∧ k_ ≠ gb203 ∧ k_ ≠ gb204 ∧ k_ ≠ gb216) (fun k_ => ((fun k_ => (P1_1_ k_ ∨ w.heap.size ≤ k_) ∧ some k_ ≠ (.slice (some ⟨gd84, 0, none⟩) y218.length co74 : Value).ownBlock ∧ some k_ ≠ (.slice Ao76 t213.length co76 : Value).ownBlock ∧ k_ ≠ gb202 ∧ k_ ≠ gb203 ∧ k_ ≠ gb204 ∧ k_ ≠ gb216)) k_ ∧ some k_ ≠ (.slice Ao75 t210.length co75 : Value).ownBlock) rfl rfl ?aP (fun _ hk => hk) ?aF ?aO ?aB ?aS ?aL ?_; (case aP => exact (k41_mkF _ _ (⟨a1_0, l1_1⟩ : S41) (Kd.V_reads' (Kd.V_mono (ok' := (fun k_ => ((fun k_ => (P1_1_ k_ ∨ w.heap.size ≤ k_) ∧ some k_ ≠ (.slice (some ⟨gd84, 0, none⟩) y218.length co74 : Value).ownBlock ∧ some k_ ≠ (.slice Ao76 t213.length co76 : Value).ownBlock ∧ k_ ≠ gb202 ∧ k_ ≠ gb203 ∧ k_ ≠ gb204 ∧ k_ ≠ gb216)) k_ ∧ some k_ ≠ (.slice Ao75 t210.length co75 : Value).ownBlock)) (HO1_1.out) (fun k_ hk => ⟨⟨hk.1, ⟨hk.2.1, ⟨hk.2.2.2.1, ⟨hk.2.2.2.2.1, ⟨hk.2.2.2.2.2.1, ⟨hk.2.2.2.2.2.2.1, hk.2.2.2.2.2.2.2⟩⟩⟩⟩⟩⟩, hk.2.2.1⟩))).2.1 (Kd.V_F (Kd.V_mono (ok' := (fun k_ => ((fun k_ => (P1_1_ k_ ∨ w.heap.size ≤ k_) ∧ some k_ ≠ (.slice (some ⟨gd84, 0, none⟩) y218.length co74 : Value).ownBlock ∧ some k_ ≠ (.slice Ao76 t213.length co76 : Value).ownBlock ∧ k_ ≠ gb202 ∧ k_ ≠ gb203 ∧ k_ ≠ gb204 ∧ k_ ≠ gb216)) k_ ∧ some k_ ≠ (.slice Ao75 t210.length co75 : Value).ownBlock)) (HO1_1.out) (fun k_ hk => ⟨⟨hk.1, ⟨hk.2.1, ⟨hk.2.2.2.1, ⟨hk.2.2.2.2.1, ⟨hk.2.2.2.2.2.1, ⟨hk.2.2.2.2.2.2.1, hk.2.2.2.2.2.2.2⟩⟩⟩⟩⟩⟩, hk.2.2.1⟩))))); (case aB => exact (hbA_ HB.out)); (case aF => exact (fun k_ hk => ⟨(.inr (Nat.le_trans (below_size (hbA_ HB.out)) hk)), Kd.fresh' (Kd.R_lt (kR_ HO209.out)) k_ hk, Kd.fresh' (Kd.R_lt (kR_ HO215.out)) k_ hk, fb_ BK202 k_ hk, fb_ BK203 k_ hk, fb_ BK204 k_ hk, fb_ BK216 k_ hk⟩)); (case aO => exact (kN_ HO212.out)); (case aS => exact (below_size (hbA_ HB.out))); (case aL => have := LMc58.out; omega); intro v222 w89 ho hb hg hat; rw [← Ny221.out] at ho; replace HO1_1 := Aside0.mk (Kd.V_afterv (ok := (fun k_ => (P1_1_ k_ ∨ w.heap.size ≤ k_) ∧ some k_ ≠ (.slice (some ⟨gd84, 0, none⟩) y218.length co74 : Value).ownBlock ∧ some k_ ≠ (.slice Ao76 t213.length co76 : Value).ownBlock ∧ k_ ≠ gb202 ∧ k_ ≠ gb203 ∧ k_ ≠ gb204 ∧ k_ ≠ gb216)) (by refine kV_ ?_; exact Kd.V_mono HO1_1.out (fun _ hk => ⟨⟨hk.1, ⟨hk.2.1, ⟨hk.2.2.2.1, ⟨hk.2.2.2.2.1, ⟨hk.2.2.2.2.2.1, ⟨hk.2.2.2.2.2.2.1, hk.2.2.2.2.2.2.2⟩⟩⟩⟩⟩⟩, hk.2.2.1⟩)) hg hat); replace BK202 := (bgA_ BK202 hg (Kd.N_ne HO212.out BK202.out (by decide))); replace BK203 := (bgA_ BK203 hg (Kd.N_away HO212.out (fun _ hk => hk.2.2.2.2.1))); replace BK204 := (bgA_ BK204 hg (Kd.N_ne HO212.out BK204.out (by decide))); replace HO209 := Aside0.mk (Kd.R_over' (kR_ HO209.out) (Kd.N_typed (kN_ HO212.out)) (by decide) hg); replace HO215 := Aside0.mk (Kd.R_over' (kR_ HO215.out) (Kd.N_typed (kN_ HO212.out)) (by decide) hg); replace BK216 := (bgA_ BK216 hg (Kd.N_ne HO212.out BK216.out (by decide))); replace HB := Aside0.mk (hb); have HO223 := Aside0.mk (ho); clear HO212; clear ho hb hg hat; obtain ⟨Ao90, co90, eo90⟩ := Kd.N_slice HO223.out; subst eo90; have Z91 := zz4 BK216) | ((with_reducible refine gate_store (t := 28) (p := 40) rfl ?_); refine store_event (t := 28) (p := 40) (v := ?vo_w92) (w1 := (w89.setCell ⟨gb216, 2, none⟩ (.slice Ao90 y221.length co90))) ?hg ?ho ?hn ?hr ?_; (case ho => rfl); (case hg => rfl); (case hn => rfl); (case hr => first | (go_simp; done) | (go_simp; rfl)); intro w92 hw; have n0_ : Aside0 (Kd.V (Kd.int .u8) 5 w92 w.heap.size (fun k_ => (P1_1_ k_ ∨ w.heap.size ≤ k_) ∧ some k_ ≠ (.slice (some ⟨gd84, 0, none⟩) y218.length co74 : Value).ownBlock ∧ some k_ ≠ (.slice Ao76 t213.length co76 : Value).ownBlock ∧ some k_ ≠ (.slice Ao90 y221.length co90 : Value).ownBlock ∧ k_ ≠ gb202 ∧ k_ ≠ gb203 ∧ k_ ≠ gb204 ∧ k_ ≠ gb216) (.slice A1_1 l1_1.length c1_1) l1_1) := ⟨(by rw [hw]; exact (by refine kV_ ?_; exact nfV_ gb216 HO1_1.out (fun _ hk => hk.1.2.2.2.2.2.2) (fun _ hk => ⟨hk.1.1.1, ⟨hk.1.1.2.1, ⟨hk.1.1.2.2.1, ⟨hk.1.2, ⟨hk.1.1.2.2.2.1, ⟨hk.1.1.2.2.2.2.1, ⟨hk.1.1.2.2.2.2.2.1, hk.1.1.2.2.2.2.2.2⟩⟩⟩⟩⟩⟩⟩)))⟩; have n1_ : Aside0 (Kd.R (Kd.int .i64) 3 w92 w.heap.size (fun k_ => (w.heap.size ≤ k_) ∧ some k_ ≠ (.slice Ao76 t213.length co76 : Value).ownBlock) (.slice (some ⟨gd84, 0, none⟩) y218.length co74) y218) := ⟨(by rw [hw]; exact (by refine kR_ ?_; exact Kd.R_mono (Kd.R_f gb216 2 (.slice Ao90 y221.length co90) (Kd.R_types HO209.out BK216.out (by decide))) (fun _ hk => ⟨hk.1.1, hk.1.2⟩)))⟩; have n2_ : Aside0 (Kd.R (Kd.int .i64) 3 w92 w.heap.size (fun k_ => (w.heap.size ≤ k_) ∧ some k_ ≠ (.slice (some ⟨gd84, 0, none⟩) y218.length co74 : Value).ownBlock) (.slice Ao76 t213.length co76) t213) := ⟨(by rw [hw]; exact (by refine kR_ ?_; exact Kd.R_mono (Kd.R_f gb216 2 (.slice Ao90 y221.length co90) (Kd.R_types HO215.out BK216.out (by decide))) (fun _ hk => ⟨hk.1.1, hk.1.2⟩)))⟩; have n3_ : Aside0 (Kd.N k41 41 w92 w.heap.size (fun k_ => (P1_1_ k_ ∨ w.heap.size ≤ k_) ∧ some k_ ≠ (.slice (some ⟨gd84, 0, none⟩) y218.length co74 : Value).ownBlock ∧ some k_ ≠ (.slice Ao76 t213.length co76 : Value).ownBlock ∧ k_ ≠ gb202 ∧ k_ ≠ gb203 ∧ k_ ≠ gb204 ∧ k_ ≠ gb216) (.slice Ao90 y221.length co90) y221) := ⟨(by rw [hw]; exact (by refine kN_ ?_; exact nfN_ gb216 HO223.out (fun _ hk => hk.2.2.2.2.2.2) (fun _ hk => ⟨hk.1.1, ⟨hk.1.2.1, ⟨hk.1.2.2.1, ⟨hk.1.2.2.2.1, ⟨hk.1.2.2.2.2.1, ⟨hk.1.2.2.2.2.2.1, hk.1.2.2.2.2.2.2⟩⟩⟩⟩⟩⟩)))⟩; have n4_ : Aside0 (w92.heap[gb202]? = some (.cells #[.int .i64 a0_0, .slice A0_1 l0_1.length c0_1, .slice A0_2 l0_2.length c0_2, .slice A0_3 l0_3.length c0_3] 30 (0, 0))) := ⟨(by rw [hw]; exact (by exact kf_ BK202.out))⟩; have n5_ : Aside0 (w92.heap[gb203]? = some (.cells #[.int .i64 a1_0, .slice A1_1 l1_1.length c1_1] 41 (0, 0))) := ⟨(by rw [hw]; exact (by exact kf_ BK203.out))⟩; have n6_ : Aside0 (w92.heap[gb204]? = some (.cells #[.int .i64 0, .slice none 0 0, .slice none 0 0, .slice none 0 0] 30 (0, 0))) := ⟨(by rw [hw]; exact (by exact kf_ BK204.out))⟩; have n7_ : Aside0 (w92.heap[gb216]? = some (.cells #[.int .i64 t206, .slice (some ⟨gd84, 0, none⟩) y218.length co74, .slice Ao90 y221.length co90, .slice Ao76 t213.length co76] 30 (0, 0))) := ⟨(by rw [hw]; exact (by refine kb_ ?_; refine blk_put (cs := #[.int .i64 t206, .slice (some ⟨gd84, 0, none⟩) y218.length co74, .slice Ao75 t210.length co75, .slice Ao76 t213.length co76]) ?_ 2 _ rfl; refine kb_ ?_; exact BK216.out))⟩; have n8_ : Aside0 (Below w.heap.size w w92) := ⟨(by rw [hw]; exact (hbA_ HB.out))⟩; clear hw; clear HO1_1; clear HO209; clear HO215; clear HO223; clear BK202; clear BK203; clear BK204; clear BK216; clear HB; have HO1_1 := n0_; have HO209 := n1_; have HO215 := n2_; have HO223 := n3_; have BK202 := n4_; have BK203 := n5_; have BK204 := n6_; have BK216 := n7_; have HB := n8_; clear n0_ n1_ n2_ n3_ n4_ n5_ n6_ n7_ n8_; have Z93 := zz4 BK216) | ((with_reducible refine gate_callee (f := 54) rfl ?_); refine goesL_ (some 42) rfl rfl Try.func54 (by kernel_rfl) rfl #[.agg #[.int .i64 t206, .slice (some ⟨gd84, 0, none⟩) y218.length co74, .slice Ao90 y221.length co90, .slice Ao76 t213.length co76]] rfl ar_ ?_; (with_reducible refine (impl_Client_copy.calls k t206 _ _ y218 _ _ y221 _ _ t213 t224 t225 t228 t231 _ ?side1 ?side2 ?side3 ?side4 ?side5 ?side6 A59.out).mono ?_); (case side1 => exact kC_ (Kd.R_reads' HO209.out).2.2); (case side2 => exact (Kd.R_reads' HO209.out).2.1); (case side3 => exact kC_ (Kd.N_reads' HO223.out).2.2); (case side4 => exact (Kd.N_reads' HO223.out).2.1); (case side5 => exact kC_ (Kd.R_reads' HO215.out).2.2); (case side6 => exact (Kd.R_reads' HO215.out).2.1); rintro e w94 ⟨v226, v229, v232, rfl, ho0, ho1, ho2, hb⟩; refine ⟨_, rfl, ?_⟩; obtain ⟨lo237, hi237, elo237, ehi237⟩ := gr_open hb; replace HO1_1 := Aside0.mk (Kd.V_mono (Kd.V_told (Kd.V_told (Kd.V_told (Kd.V_old (kV_ HO1_1.out) hb) (Kd.R_base ho0)) (Kd.base_ ho1)) (Kd.R_base ho2)) (fun _ h_ => op1_ h_)); have HO227 := Aside0.mk (Kd.R_lower (Kd.R_new' (Kd.R_new' (Kd.R_newM (M := fun k_ => (w.heap.size ≤ k_)) ho0 (below_size (hbA_ HB.out)) (fun k_ h_ => h_)) (Kd.R_lt (kR_ HO209.out))) (Kd.R_lt (kR_ HO215.out))) (below_size (hbA_ HB.out))); have HO230 := Aside0.mk (Kd.N_lower (Kd.N_mono (ok' := fun k_ => (P1_1_ k_ ∨ w.heap.size ≤ k_) ∧ some k_ ≠ (v226 : Value).ownBlock ∧ some k_ ≠ (v232 : Value).ownBlock ∧ some k_ ≠ (.slice (some ⟨gd84, 0, none⟩) y218.length co74 : Value).ownBlock ∧ some k_ ≠ (.slice Ao76 t213.length co76 : Value).ownBlock ∧ some k_ ≠ (.slice Ao90 y221.length co90 : Value).ownBlock ∧ k_ ≠ gb202 ∧ k_ ≠ gb203 ∧ k_ ≠ gb204 ∧ k_ ≠ gb216) (Kd.S_N (Kd.S_bound (Kd.S_apart' (Kd.S_apart' ho1 (Kd.R_typed ho0) (by decide)) (Kd.R_typed ho2) (by decide)))) (fun k_ hk_ => ⟨(.inr (Nat.le_trans (below_size (hbA_ HB.out)) hk_.2.1)), hk_.1.1.2, hk_.1.2, (Kd.fresh' (Kd.R_lt (kR_ HO209.out)) k_ hk_.2.1), (Kd.fresh' (Kd.R_lt (kR_ HO215.out)) k_ hk_.2.1), (Kd.fresh' (Kd.N_lt (kN_ HO223.out)) k_ hk_.2.1), (fb_ BK202 k_ hk_.2.1), (fb_ BK203 k_ hk_.2.1), (fb_ BK204 k_ hk_.2.1), (fb_ BK216 k_ hk_.2.1)⟩)) (below_size (hbA_ HB.out))); replace HO223 := Aside0.mk (Kd.N_mono (Kd.N_told (Kd.N_told (Kd.N_told (Kd.N_old (kN_ HO223.out) hb) (Kd.R_base ho0)) (Kd.base_ ho1)) (Kd.R_base ho2)) (fun _ h_ => op1_ h_)); have HO233 := Aside0.mk (Kd.R_lower (Kd.R_new' (Kd.R_new' (Kd.R_newM (M := fun k_ => (w.heap.size ≤ k_)) ho2 (below_size (hbA_ HB.out)) (fun k_ h_ => h_)) (Kd.R_lt (kR_ HO209.out))) (Kd.R_lt (kR_ HO215.out))) (below_size (hbA_ HB.out))); replace HO209 := Aside0.mk (Kd.R_mono (Kd.R_told (Kd.R_told (Kd.R_old (kR_ HO209.out) hb) (Kd.R_base ho0)) (Kd.R_base ho2)) (fun _ h_ => op1_ h_)); replace HO215 := Aside0.mk (Kd.R_mono (Kd.R_told (Kd.R_told (Kd.R_old (kR_ HO215.out) hb) (Kd.R_base ho0)) (Kd.R_base ho2)) (fun _ h_ => op1_ h_)); have GS237 := Aside0.mk (Kd.S_lower (gr_S2 elo237 ehi237 ho1) (below_size (hbA_ HB.out))); have HZ237 := Aside0.mk (Nat.le_of_eq ehi237.out); have WL237 := Aside0.mk (zb_ elo237 (below_size (hbA_ HB.out))); have BX237_202 := Aside0.mk (zx_ (g := gb202) (hi := hi237) elo237 (kb_ BK202.out)); replace BK202 := (bbA_ BK202 hb); have BX237_203 := Aside0.mk (zx_ (g := gb203) (hi := hi237) elo237 (kb_ BK203.out)); replace BK203 := (bbA_ BK203 hb); have BX237_204 := Aside0.mk (zx_ (g := gb204) (hi := hi237) elo237 (kb_ BK204.out)); replace BK204 := (bbA_ BK204 hb); have BX237_216 := Aside0.mk (zx_ (g := gb216) (hi := hi237) elo237 (kb_ BK216.out)); replace BK216 := (bbA_ BK216 hb); replace HB := (bs_ HB hb); (try clear hb); (try clear hb2); (try clear hk); (try clear hi); (try clear ho0); (try clear ho1); (try clear ho2); have Z95 := zz4 BK204; obtain ⟨Ao96, co96, eo96⟩ := Kd.R_slice HO227.out; subst eo96; obtain ⟨Ao97, co97, eo97⟩ := Kd.N_slice HO230.out; subst eo97; obtain ⟨Ao98, co98, eo98⟩ := Kd.R_slice HO233.out; subst eo98))
       refine bodyPost_ret (results_ct rfl _ _ gb204 30 #[.int .i64 t224, .slice Ao96 t225.length co96, .slice Ao97 t228.length co97, .slice Ao98 t231.length co98] (0, 0) _ rfl (by refine kb_ ?_; refine pz4 (cs := #[.int .i64 0, .slice none 0 0, .slice none 0 0, .slice none 0 0]) ?_; refine kb_ ?_; exact BK204.out) Try.underlying30 rfl (by kernel_rfl)) rfl ?_
       exact ⟨_, _, _, by first | rfl | (simp [errW_none, errW_some] <;> rfl) | (simp [*, errW_none, errW_some] <;> rfl), by refine kR_ ?_; exact rfm_ ((Kd.R_types HO227.out BK204.out (by decide))) (fun _ hk => ⟨hk.1.1.1.1, hk.1.1.1.2⟩), Kd.S_mono (ok := fun k_ => lo237 ≤ k_ ∧ k_ < hi237) (by refine kS_ ?_; exact (Kd.S_far (p := ⟨gb204, 3, none⟩) (Kd.S_far (p := ⟨gb204, 2, none⟩) (Kd.S_far (p := ⟨gb204, 1, none⟩) (Kd.S_far (p := ⟨gb204, 0, none⟩) GS237.out (fun _ hk => rng_box hk BX237_204.out) (.int .i64 t224)) (fun _ hk => rng_box hk BX237_204.out) (.slice Ao96 t225.length co96)) (fun _ hk => rng_box hk BX237_204.out) (.slice Ao97 t228.length co97)) (fun _ hk => rng_box hk BX237_204.out) (.slice Ao98 t231.length co98))) (fun k_ hk_ => Nat.le_trans WL237.out hk_.1), by refine kR_ ?_; exact rfm_ ((Kd.R_types HO233.out BK204.out (by decide))) (fun _ hk => ⟨hk.1.1.1.1, hk.1.1.1.2⟩), hbA_ HB.out⟩
      ·rw [if_neg c58] at H
       exact absurd H (by simp)
     ·rw [if_neg c57] at H
      exact absurd H (by simp)
    ·rw [if_neg c56] at H
     exact absurd H (by simp)
 ·replace c4 := Bool.eq_false_iff.mpr c4
  subst c4
  rw [if_neg (show ¬ (false = true) by decide)] at H
  simp only [Option.some.injEq, Prod.mk.injEq] at H
  obtain ⟨rfl, rfl, rfl, rfl, rfl⟩ := H
  go_enter Try.func23, Try.ntmps23
  go_wp2_with (first | ((with_reducible refine gate_dst (N := 2) rfl ?_); (try (refine gate_guard (by rfl) ?_; dsimp only)); refine box_ (N := 2) (cs := #[.int .i64 a0_0, .slice A0_1 l0_1.length c0_1, .slice A0_2 l0_2.length c0_2, .slice A0_3 l0_3.length c0_3]) (t := 30) (fun gb202 hg w99 hbox hb => ?_); replace HO1_1 := Aside0.mk (Kd.V_below (Kd.V_elderB (kV_ HO1_1.out) gb202 (Nat.le_of_eq hg.symm)) hb); have BK202 := Aside0.mk (hbox); have GW202 := ge_ hg HB; have GE202 := ge_ hg HB; replace HB := (bs_ HB hb); clear hb hbox hg) | ((with_reducible refine gate_dst (N := 3) rfl ?_); (try (refine gate_guard (by rfl) ?_; dsimp only)); refine box_ (N := 3) (cs := #[.int .i64 a1_0, .slice A1_1 l1_1.length c1_1]) (t := 41) (fun gb203 hg w100 hbox hb => ?_); replace HO1_1 := Aside0.mk (Kd.V_below (Kd.V_elderB (kV_ HO1_1.out) gb203 (Nat.le_of_eq hg.symm)) hb); have BK203 := Aside0.mk (hbox); have GW203 := ge_ hg HB; have GE203 := ge_ hg HB; replace HB := (bs_ HB hb); have NB202_203 := nl_ hg BK202; have NB203_202 := ng_ hg BK202; replace BK202 := (bbA_ BK202 hb); clear hb hbox hg) | ((with_reducible refine gate_dst (N := 4) rfl ?_); (try (refine gate_guard (by rfl) ?_; dsimp only)); refine box_ (N := 4) (cs := #[.int .i64 0, .slice none 0 0, .slice none 0 0, .slice none 0 0]) (t := 30) (fun gb204 hg w101 hbox hb => ?_); replace HO1_1 := Aside0.mk (Kd.V_below (Kd.V_elderB (kV_ HO1_1.out) gb204 (Nat.le_of_eq hg.symm)) hb); have BK204 := Aside0.mk (hbox); have GW204 := ge_ hg HB; have GE204 := ge_ hg HB; replace HB := (bs_ HB hb); have NB202_204 := nl_ hg BK202; have NB204_202 := ng_ hg BK202; replace BK202 := (bbA_ BK202 hb); have NB203_204 := nl_ hg BK203; have NB204_203 := ng_ hg BK203; replace BK203 := (bbA_ BK203 hb); clear hb hbox hg; have hnb102 := NB202_203.out; have hnc102 := NB203_202.out; have hnb103 := NB202_204.out; have hnc103 := NB204_202.out; have Z104 := zz4 BK202) | ((with_reducible refine gate_callee (f := 14) rfl ?_); refine goesL_ (some 9) rfl rfl Try.func14 (by kernel_rfl) rfl #[.agg #[.int .i64 a0_0, .slice A0_1 l0_1.length c0_1, .slice A0_2 l0_2.length c0_2, .slice A0_3 l0_3.length c0_3]] rfl ar_ ?_; (with_reducible refine (impl_ClientOk.calls k a0_0 _ _ l0_1 _ _ l0_2 _ _ l0_3 false _ ?side1 ?side2 ?side3 ?side4 ?side5 ?side6 A3.out).mono ?_); (case side1 => exact kC_ (Kd.C_below HR0_1.out HB.out)); (case side2 => exact HC0_1.out); (case side3 => exact kC_ (Kd.C_below HR0_2.out HB.out)); (case side4 => exact HC0_2.out); (case side5 => exact kC_ (Kd.C_below HR0_3.out HB.out)); (case side6 => exact HC0_3.out); rintro e w105 ⟨rfl, hb⟩; refine ⟨_, rfl, ?_⟩; replace HO1_1 := Aside0.mk (Kd.V_below (kV_ HO1_1.out) hb); replace BK202 := (bbA_ BK202 hb); replace BK203 := (bbA_ BK203 hb); replace BK204 := (bbA_ BK204 hb); replace HB := (bs_ HB hb); (try clear hb); (try clear hb2); (try clear hk); (try clear hi); have hnb106 := NB204_203.out; have hnc106 := NB203_204.out; have Z107 := zz4 BK204))
  refine bodyPost_ret (results_ct rfl _ _ gb204 30 #[.int .i64 0, .slice none 0 0, .slice none 0 0, .slice none 0 0] (0, 0) _ rfl (by refine kb_ ?_; refine pz4 (cs := #[.int .i64 0, .slice none 0 0, .slice none 0 0, .slice none 0 0]) ?_; refine kb_ ?_; exact BK204.out) Try.underlying30 rfl (by kernel_rfl)) rfl ?_
  exact ⟨_, _, _, by first | rfl | (simp [errW_none, errW_some] <;> rfl) | (simp [*, errW_none, errW_some] <;> rfl), by first | exact Kd.R_nil _ _ _ _ _ | exact Kd.N_nil _ _ _ _ _ | exact Kd.V_nil _ _ _ _ _ | exact Kd.Q_nil _ _ _ _ _ | exact Kd.S_nil _ _ _ _ _, by first | exact Kd.S_nil _ _ _ _ _ | exact Kd.N_nil _ _ _ _ _ | exact Kd.V_nil _ _ _ _ _ | exact Kd.Q_nil _ _ _ _ _ | exact Kd.R_nil _ _ _ _ _, by first | exact Kd.R_nil _ _ _ _ _ | exact Kd.N_nil _ _ _ _ _ | exact Kd.V_nil _ _ _ _ _ | exact Kd.Q_nil _ _ _ _ _ | exact Kd.S_nil _ _ _ _ _, hbA_ HB.out⟩
set_option maxHeartbeats 8000000 in
theorem impl_ClientHear.calls (k : Nat) (a0_0 : Int) (A0_1 : Option Addr) (c0_1 : Nat) (l0_1 : List Int) (A0_2 : Option Addr) (c0_2 : Nat) (l0_2 : List (S41)) (A0_3 : Option Addr) (c0_3 : Nat) (l0_3 : List Int) (a1_0 : Int) (A1_1 : Option Addr) (c1_1 : Nat) (l1_1 : List Int) (r1 : Int) (r2 : List Int) (r3 : List (S41)) (r4 : List Int) (r5 : Bool) (w : World) (hr0_1 : Kd.C (Kd.int .i64) w A0_1 l0_1.length l0_1) (hc0_1 : l0_1.length ≤ c0_1) (hr0_2 : Kd.C k41 w A0_2 l0_2.length l0_2) (hc0_2 : l0_2.length ≤ c0_2) (hr0_3 : Kd.C (Kd.int .i64) w A0_3 l0_3.length l0_3) (hc0_3 : l0_3.length ≤ c0_3) (hr1_1 : Kd.C (Kd.int .u8) w A1_1 l1_1.length l1_1) (hc1_1 : l1_1.length ≤ c1_1) (h : impl_ClientHear.f k a0_0 l0_1 l0_2 l0_3 a1_0 l1_1 = some (r1, r2, r3, r4, r5)) :
    Calls Try.prog 23 #[.agg #[.int .i64 a0_0, .slice A0_1 l0_1.length c0_1, .slice A0_2 l0_2.length c0_2, .slice A0_3 l0_3.length c0_3], .agg #[.int .i64 a1_0, .slice A1_1 l1_1.length c1_1]] w fun e w' => ∃ v1_ v2_ v3_ : Value, e = .returned (.tuple #[.agg #[.int .i64 r1, v1_, v2_, v3_], .bool r5]) ∧ Kd.R (Kd.int .i64) 3 w' w.heap.size (fun k_ => some k_ ≠ (v3_ : Value).ownBlock) v1_ r2 ∧ Kd.S k41 41 w' w.heap.size (fun _ => True) v2_ r3 ∧ Kd.R (Kd.int .i64) 3 w' w.heap.size (fun k_ => some k_ ≠ (v1_ : Value).ownBlock) v3_ r4 ∧ Below w.heap.size w w' := by
  refine (impl_ClientHear.callsV k a0_0 A0_1 c0_1 l0_1 A0_2 c0_2 l0_2 A0_3 c0_3 l0_3 a1_0 (fun _ => True) A1_1 c1_1 l1_1 r1 r2 r3 r4 r5 w hr0_1 hc0_1 hr0_2 hc0_2 hr0_3 hc0_3 (Kd.V_mk hc1_1 (fun W_ hW_ => Kd.Heap.C (Kd.heap_int .u8) (fun k_ hlt_ => hW_ k_ trivial hlt_) hr1_1)) h).mono ?_
  rintro e w' ⟨v1_, v2_, v3_, rfl, ho1, ho2, ho3, hb⟩
  exact ⟨v1_, v2_, v3_, rfl, Kd.R_mono ho1 (fun k_ hk_ => hk_.2), Kd.S_mono ho2 (fun k_ hk_ => trivial), Kd.R_mono ho3 (fun k_ hk_ => hk_.2), hb⟩
def spec_l1In.f (a0 : Int) (a1 : Int) (a2 : Int) : Option (Bool) := if a0 ≥ a1 then (some (decide (a0 ≤ a2))) else (some false)
set_option maxHeartbeats 8000000 in
set_option maxRecDepth 100000 in
theorem spec_l1In.calls (a0 : Int) (a1 : Int) (a2 : Int) (r : Bool) (w : World) (h : spec_l1In.f a0 a1 a2 = some r) :
  Calls Try.prog 46 #[.int .i64 a0, .int .i64 a1, .int .i64 a2] w fun e w' => e = .returned (.bool r) ∧ Drawn0 w w' := by
 have H : (if a0 ≥ a1 then (some (decide (a0 ≤ a2))) else (some false)) = some r := h
 clear h
 by_cases c4 : a0 ≥ a1
 ·rw [if_pos c4] at H
  have c4b0 : decide (a1 ≤ a0) = true := decide_eq_true c4
  clear c4
  obtain rfl := Option.some.inj H
  go_enter Try.func46, Try.ntmps46
  go_wp2
  go_ret
  exact ⟨by first | rfl | (simp; done) | (simp [*]; done), by repeat (first | exact Drawn0.refl _ | apply Drawn0.step)⟩
 ·rw [if_neg c4] at H
  have c4b0 : decide (a1 ≤ a0) = false := decide_eq_false c4
  clear c4
  obtain rfl := Option.some.inj H
  go_enter Try.func46, Try.ntmps46
  go_wp2
  go_ret
  exact ⟨by first | rfl | (simp; done) | (simp [*]; done), by repeat (first | exact Drawn0.refl _ | apply Drawn0.step)⟩
mutual
def spec_ClientOk.j0 : Nat → Bool → Int → List Int → List (S41) → List Int → Option (Bool)
 | 0, _, _, _, _, _ => none
 | k + 1, x32, x239000, x239001, x239002, x239003 => if x32 = true then (some false) else (if 0 ≤ x239000 then (if (x239000 : Int).toNat ≤ 281474976710656 then ((some (([] : List Int) : List Int)).bind fun y243 => (if y243.length + x239001.length < 17592186044416 then ((some (y243 ++ x239001 : List Int)).bind fun y246 => (if y246.length + x239003.length < 17592186044416 then (spec_ClientOk.l0 k (List.replicate (x239000 : Int).toNat false) (y246 ++ x239003) 0 x239000 x239001 x239002 x239003) else (none))) else (none))) else (none)) else (none))
def spec_ClientOk.l0 : Nat → List Bool → List Int → Int → Int → List Int → List (S41) → List Int → Option (Bool)
 | 0, _, _, _, _, _, _, _ => none
 | k + 1, x3, x4, x5, x239000, x239001, x239002, x239003 => if x5 < (x239002.length : Int) then (if 0 ≤ x5 then (if (((rd_T41 x239002 x5).f1).length : Int) > 9 then (some false) else (if x4.length < 17592186044416 then (spec_ClientOk.l0 k x3 (x4 ++ [(rd_T41 x239002 x5).f0]) (wrap64 (x5 + 1)) x239000 x239001 x239002 x239003) else (none))) else (none)) else (spec_ClientOk.l1 k x3 x4 0 x239000 x239001 x239002 x239003)
def spec_ClientOk.l1 : Nat → List Bool → List Int → Int → Int → List Int → List (S41) → List Int → Option (Bool)
 | 0, _, _, _, _, _, _, _ => none
 | k + 1, x3, x4, x6, x239000, x239001, x239002, x239003 => if x6 < (x4.length : Int) then (if 0 ≤ x6 then ((spec_l1In.f (rd x4 x6) 0 (wrap64 (x239000 - 1))).bind fun t258 => (if t258 = true then (if 0 ≤ (rd x4 x6) then (if (rd x4 x6) < (x3.length : Int) then (if rdOf false x3 (rd x4 x6) = true then (spec_ClientOk.j3 k x3 x4 x6 true x239000 x239001 x239002 x239003) else (if x6 > 0 then (if x6 < (x239001.length : Int) then (if 0 ≤ (wrap64 (x6 - 1)) then (if (wrap64 (x6 - 1)) < (x4.length : Int) then (spec_ClientOk.j3 k x3 x4 x6 (decide ((rd x4 (wrap64 (x6 - 1))) ≥ (rd x4 x6))) x239000 x239001 x239002 x239003) else (none)) else (none)) else (spec_ClientOk.j3 k x3 x4 x6 false x239000 x239001 x239002 x239003)) else (spec_ClientOk.j3 k x3 x4 x6 false x239000 x239001 x239002 x239003))) else (none)) else (none)) else (spec_ClientOk.j3 k x3 x4 x6 true x239000 x239001 x239002 x239003))) else (none)) else (some true)
def spec_ClientOk.j3 : Nat → List Bool → List Int → Int → Bool → Int → List Int → List (S41) → List Int → Option (Bool)
 | 0, _, _, _, _, _, _, _, _ => none
 | k + 1, x3, x4, x6, x113, x239000, x239001, x239002, x239003 => if x113 = true then (some false) else (if 0 ≤ x6 then (if x6 < (x4.length : Int) then (if 0 ≤ (rd x4 x6) then (if (rd x4 x6) < (x3.length : Int) then (spec_ClientOk.l1 k (x3.set ((rd x4 x6) : Int).toNat true) x4 (wrap64 (x6 + 1)) x239000 x239001 x239002 x239003) else (none)) else (none)) else (none)) else (none))
end
def spec_ClientOk.f (k : Nat) (a0_0 : Int) (l0_1 : List Int) (l0_2 : List (S41)) (l0_3 : List Int) : Option (Bool) := (spec_l1In.f a0_0 0 256).bind fun t239 => (if t239 = true then (if (l0_1.length : Int) > 4 then (spec_ClientOk.j0 k true a0_0 l0_1 l0_2 l0_3) else (spec_ClientOk.j0 k ((wrap64 ((wrap64 ((l0_1.length : Int) + (l0_2.length : Int))) + (l0_3.length : Int))) != a0_0) a0_0 l0_1 l0_2 l0_3)) else (spec_ClientOk.j0 k true a0_0 l0_1 l0_2 l0_3))
theorem spec_ClientOk.mono_l : ∀ k, (∀ y0 y1 y2 y3 y4, LeO (spec_ClientOk.j0 k y0 y1 y2 y3 y4) (spec_ClientOk.j0 (k + 1) y0 y1 y2 y3 y4)) ∧ (∀ y0 y1 y2 y3 y4 y5 y6, LeO (spec_ClientOk.l0 k y0 y1 y2 y3 y4 y5 y6) (spec_ClientOk.l0 (k + 1) y0 y1 y2 y3 y4 y5 y6)) ∧ (∀ y0 y1 y2 y3 y4 y5 y6, LeO (spec_ClientOk.l1 k y0 y1 y2 y3 y4 y5 y6) (spec_ClientOk.l1 (k + 1) y0 y1 y2 y3 y4 y5 y6)) ∧ (∀ y0 y1 y2 y3 y4 y5 y6 y7, LeO (spec_ClientOk.j3 k y0 y1 y2 y3 y4 y5 y6 y7) (spec_ClientOk.j3 (k + 1) y0 y1 y2 y3 y4 y5 y6 y7))
 | 0 => ⟨fun _ _ _ _ _ r h => by simp [spec_ClientOk.j0] at h, fun _ _ _ _ _ _ _ r h => by simp [spec_ClientOk.l0] at h, fun _ _ _ _ _ _ _ r h => by simp [spec_ClientOk.l1] at h, fun _ _ _ _ _ _ _ _ r h => by simp [spec_ClientOk.j3] at h⟩
 | k + 1 => by
  obtain ⟨ih0, ih1, ih2, ih3⟩ := spec_ClientOk.mono_l k
  refine ⟨?_, ?_, ?_, ?_⟩
  ·intro y0 y1 y2 y3 y4
   unfold spec_ClientOk.j0
   repeat' first | (with_reducible first | apply ih0 | apply ih1 | apply ih2 | apply ih3 | exact LeO.refl _ | exact LeO.none _ | refine LeO.ite ?_ ?_ | refine LeO.bind ?_ fun _ => ?_) | apply ih0 | apply ih1 | apply ih2 | apply ih3 | exact LeO.none _ | refine LeO.ite ?_ ?_ | refine LeO.bind ?_ fun _ => ?_
  ·intro y0 y1 y2 y3 y4 y5 y6
   unfold spec_ClientOk.l0
   repeat' first | (with_reducible first | apply ih0 | apply ih1 | apply ih2 | apply ih3 | exact LeO.refl _ | exact LeO.none _ | refine LeO.ite ?_ ?_ | refine LeO.bind ?_ fun _ => ?_) | apply ih0 | apply ih1 | apply ih2 | apply ih3 | exact LeO.none _ | refine LeO.ite ?_ ?_ | refine LeO.bind ?_ fun _ => ?_
  ·intro y0 y1 y2 y3 y4 y5 y6
   unfold spec_ClientOk.l1
   repeat' first | (with_reducible first | apply ih0 | apply ih1 | apply ih2 | apply ih3 | exact LeO.refl _ | exact LeO.none _ | refine LeO.ite ?_ ?_ | refine LeO.bind ?_ fun _ => ?_) | apply ih0 | apply ih1 | apply ih2 | apply ih3 | exact LeO.none _ | refine LeO.ite ?_ ?_ | refine LeO.bind ?_ fun _ => ?_
  ·intro y0 y1 y2 y3 y4 y5 y6 y7
   unfold spec_ClientOk.j3
   repeat' first | (with_reducible first | apply ih0 | apply ih1 | apply ih2 | apply ih3 | exact LeO.refl _ | exact LeO.none _ | refine LeO.ite ?_ ?_ | refine LeO.bind ?_ fun _ => ?_) | apply ih0 | apply ih1 | apply ih2 | apply ih3 | exact LeO.none _ | refine LeO.ite ?_ ?_ | refine LeO.bind ?_ fun _ => ?_
theorem spec_ClientOk.mono : ∀ a0 a1 a2 a3 k, LeO (spec_ClientOk.f k a0 a1 a2 a3) (spec_ClientOk.f (k + 1) a0 a1 a2 a3) := by
 intro a0 a1 a2 a3 k
 obtain ⟨ih0, ih1, ih2, ih3⟩ := spec_ClientOk.mono_l k
 unfold spec_ClientOk.f
 repeat' first | (with_reducible first | apply ih0 | apply ih1 | apply ih2 | apply ih3 | exact LeO.refl _ | exact LeO.none _ | refine LeO.ite ?_ ?_ | refine LeO.bind ?_ fun _ => ?_) | apply ih0 | apply ih1 | apply ih2 | apply ih3 | exact LeO.none _ | refine LeO.ite ?_ ?_ | refine LeO.bind ?_ fun _ => ?_
def spec_ClientOk.T4 : Bool × List (List Nat × List Nat) := (true, [([], []), ([], []), ([1], [1]), ([0, 2], [0, 2]), ([], []), ([4], [4]), ([3, 5, 3], [3, 5]), ([6, 6, 0, 1, 2, 3, 4, 5, 6], [6])])
def spec_ClientOk.B4 : List Nat := [0, 0, 2, 7, 0, 16, 63, 127]
theorem spec_ClientOk.tab4 : rtab .any (opsOf Try.f12 4) = spec_ClientOk.T4 := by kernel_rfl
theorem spec_ClientOk.bits4 : waitsOk spec_ClientOk.T4.2 spec_ClientOk.B4 = true := by kernel_rfl
def spec_ClientOk.T14 : Bool × List (List Nat × List Nat) := (true, [([], []), ([], []), ([0, 1], [0, 1]), ([2], [2]), ([], []), ([4], [4]), ([5], [5]), ([3, 6], [3, 6]), ([7], [7]), ([8, 7], [8]), ([9], [9]), ([9], [9]), ([9], [9]), ([11, 12, 9], [9, 11, 12]), ([13, 9], [9, 13]), ([10, 14, 9], [9, 10, 14]), ([15, 9], [9, 15]), ([9, 16], [9, 16]), ([17, 9], [17]), ([18], [18]), ([19, 18], [18, 19]), ([20, 18, 18], [18, 20]), ([21], [21]), ([21], [21]), ([23, 21], [21, 23]), ([24, 21], [21, 24]), ([22, 25, 21], [21, 22, 25]), ([21, 26, 18], [18, 21, 26]), ([27, 21, 18], [18, 27]), ([28], [28]), ([28], [28]), ([30, 28], [28, 30]), ([29, 31, 28], [28, 29, 31]), ([32, 28], [28, 32]), ([28], [28]), ([28], [28]), ([34, 35, 28], [28, 34, 35]), ([36, 28], [28, 36]), ([33, 37, 28], [28, 33, 37]), ([28, 38, 18], [18, 28, 38]), ([18, 39], [18, 39])])
def spec_ClientOk.B14 : List Nat := [0, 0, 3, 7, 0, 16, 48, 127, 255, 511, 1023, 1023, 1023, 7167, 15359, 32767, 65535, 131071, 262143, 524287, 1048575, 2097151, 4194303, 4194303, 12582911, 29360127, 67108863, 134217727, 268435455, 536870911, 536870911, 1610612735, 4294967295, 8589934591, 536870911, 536870911, 52076478463, 120795955199, 274877906943, 549755813887, 1099511627775]
theorem spec_ClientOk.tab14 : rtab .any (opsOf Try.f12 14) = spec_ClientOk.T14 := by kernel_rfl
theorem spec_ClientOk.bits14 : waitsOk spec_ClientOk.T14.2 spec_ClientOk.B14 = true := by kernel_rfl
set_option maxHeartbeats 8000000 in
set_option maxRecDepth 100000 in
theorem spec_ClientOk.calls (k : Nat) (a0_0 : Int) (A0_1 : Option Addr) (c0_1 : Nat) (l0_1 : List Int) (A0_2 : Option Addr) (c0_2 : Nat) (l0_2 : List (S41)) (A0_3 : Option Addr) (c0_3 : Nat) (l0_3 : List Int) (r : Bool) (w : World) (hr0_1 : Kd.C (Kd.int .i64) w A0_1 l0_1.length l0_1) (hc0_1 : l0_1.length ≤ c0_1) (hr0_2 : Kd.C k41 w A0_2 l0_2.length l0_2) (hc0_2 : l0_2.length ≤ c0_2) (hr0_3 : Kd.C (Kd.int .i64) w A0_3 l0_3.length l0_3) (hc0_3 : l0_3.length ≤ c0_3) (h : spec_ClientOk.f k a0_0 l0_1 l0_2 l0_3 = some r) :
  Calls Try.prog 12 #[.agg #[.int .i64 a0_0, .slice A0_1 l0_1.length c0_1, .slice A0_2 l0_2.length c0_2, .slice A0_3 l0_3.length c0_3]] w fun e w' => e = .returned (.bool r) ∧ Below w.heap.size w w' := by
 have hu30 := Try.underlying30; have HR0_1 := Aside0.mk hr0_1; have HC0_1 := Aside0.mk hc0_1; clear hr0_1 hc0_1; have HR0_2 := Aside0.mk hr0_2; have HC0_2 := Aside0.mk hc0_2; clear hr0_2 hc0_2; have HR0_3 := Aside0.mk hr0_3; have HC0_3 := Aside0.mk hc0_3; clear hr0_3 hc0_3
 have HB := Aside0.mk (Below.refl w.heap.size w)
 have H : ((spec_l1In.f a0_0 0 256).bind fun t239 => (if t239 = true then (if (l0_1.length : Int) > 4 then (spec_ClientOk.j0 k true a0_0 l0_1 l0_2 l0_3) else (spec_ClientOk.j0 k ((wrap64 ((wrap64 ((l0_1.length : Int) + (l0_2.length : Int))) + (l0_3.length : Int))) != a0_0) a0_0 l0_1 l0_2 l0_3)) else (spec_ClientOk.j0 k true a0_0 l0_1 l0_2 l0_3))) = some r := h
 clear h; have HC2 := Aside0.mk H; clear H
 go_enter Try.func12, Try.ntmps12
 go_upto_region 1 with (first | ((with_reducible refine gate_dst (N := 1) rfl ?_); (try (refine gate_guard (by rfl) ?_; dsimp only)); refine box_ (N := 1) (cs := #[.int .i64 a0_0, .slice A0_1 l0_1.length c0_1, .slice A0_2 l0_2.length c0_2, .slice A0_3 l0_3.length c0_3]) (t := 30) (fun gb238 hg w3 hbox hb => ?_); have BK238 := Aside0.mk (hbox); have GW238 := ge_ hg HB; have GE238 := ge_ hg HB; replace HB := (bs_ HB hb); clear hb hbox hg))
 (try simp only [Act.put, List.setIfInBounds_toArray, List.set_cons_zero, List.set_cons_succ])
 go_cut [32] (fun v32 wc => ∃ (kq : Nat) (x32_1 : Bool), v32 = .bool x32_1 ∧ Aside0 (spec_ClientOk.j0 kq x32_1 a0_0 l0_1 l0_2 l0_3 = some r) ∧ Aside0 (kq ≤ k) ∧ Aside0 (wc.heap[gb238]? = some (.cells #[.int .i64 a0_0, (.slice A0_1 l0_1.length c0_1), (.slice A0_2 l0_2.length c0_2), (.slice A0_3 l0_3.length c0_3)] 30 (0, 0))) ∧ Aside0 (Below w.heap.size w wc))
 case first =>
  have H := HC2.out; clear HC2
  replace H := Option.bind_eq_some_iff.mp H
  obtain ⟨t239, A40, H⟩ := H
  (try dsimp only at H)
  have A4 := Aside0.mk A40; clear A40
  by_cases c5 : t239 = true
  ·subst c5
   rw [if_pos rfl] at H
   by_cases c6 : (l0_1.length : Int) > 4
   ·rw [if_pos c6] at H
    have c6b0 : decide (4 < (l0_1.length : Int)) = true := decide_eq_true c6
    have c6b1 : decide (4 < l0_1.length) = true := decide_eq_true (by omega)
    clear c6
    (first | rw [c6b0] | (simp only [i64_w, i32_w]; rw [c6b0]) | skip)
    have H' := Aside0.mk H
    clear H; have Z7 := zz4 BK238
    go_wp2_with (first | ((with_reducible refine gate_callee (f := 46) rfl ?_); refine goesL_ (some 9) rfl rfl Try.func46 (by kernel_rfl) rfl #[.int .i64 a0_0, .int .i64 0, .int .i64 256] rfl ar_ ?_; (with_reducible refine (spec_l1In.calls a0_0 0 256 true _ A4.out).mono ?_); rintro e w' ⟨rfl, ⟨nd, rfl⟩⟩; refine ⟨_, rfl, ?_⟩))
    go_meet
    case rel => exact ⟨_, (true), (by first | rfl | (simp; done) | (simp [*]; done)), H', ⟨by first | omega | exact Nat.le_refl _⟩, ⟨by refine kb_ ?_; exact BK238.out⟩, ⟨hbA_ HB.out⟩⟩
   ·rw [if_neg c6] at H
    have c6b0 : decide (4 < (l0_1.length : Int)) = false := decide_eq_false c6
    have c6b1 : decide (4 < l0_1.length) = false := decide_eq_false (by omega)
    clear c6
    (first | rw [c6b0] | (simp only [i64_w, i32_w]; rw [c6b0]) | skip)
    have H' := Aside0.mk H
    clear H; have Z8 := zz4 BK238
    go_wp2_with (first | ((with_reducible refine gate_callee (f := 46) rfl ?_); refine goesL_ (some 9) rfl rfl Try.func46 (by kernel_rfl) rfl #[.int .i64 a0_0, .int .i64 0, .int .i64 256] rfl ar_ ?_; (with_reducible refine (spec_l1In.calls a0_0 0 256 true _ A4.out).mono ?_); rintro e w' ⟨rfl, ⟨nd, rfl⟩⟩; refine ⟨_, rfl, ?_⟩))
    go_meet
    case rel => exact ⟨_, (((wrap64 ((wrap64 ((l0_1.length : Int) + (l0_2.length : Int))) + (l0_3.length : Int))) != a0_0)), (by first | rfl | (simp; done) | (simp [*]; done)), H', ⟨by first | omega | exact Nat.le_refl _⟩, ⟨by refine kb_ ?_; exact BK238.out⟩, ⟨hbA_ HB.out⟩⟩
  ·replace c5 := Bool.eq_false_iff.mpr c5
   subst c5
   rw [if_neg (show ¬ (false = true) by decide)] at H
   have H' := Aside0.mk H
   clear H; have Z9 := zz4 BK238
   go_wp2_with (first | ((with_reducible refine gate_callee (f := 46) rfl ?_); refine goesL_ (some 9) rfl rfl Try.func46 (by kernel_rfl) rfl #[.int .i64 a0_0, .int .i64 0, .int .i64 256] rfl ar_ ?_; (with_reducible refine (spec_l1In.calls a0_0 0 256 false _ A4.out).mono ?_); rintro e w' ⟨rfl, ⟨nd, rfl⟩⟩; refine ⟨_, rfl, ?_⟩))
   go_meet
   case rel => exact ⟨_, (true), (by first | rfl | (simp; done) | (simp [*]; done)), H', ⟨by first | omega | exact Nat.le_refl _⟩, ⟨by refine kb_ ?_; exact BK238.out⟩, ⟨hbA_ HB.out⟩⟩
 case rest =>
  clear HC2; (try clear c1); (try clear p2); (try clear c4); (try clear c5); (try clear c6); (try clear c6b0); (try clear c6b1); (try clear p6); (try clear Z7); (try clear Z8); (try clear Z9)
  obtain ⟨kq, x32_1, rfl, HA, HJ1, BK238, HB⟩ := hcut
  cases kq with
  | zero => exact absurd HA.out (by simp [spec_ClientOk.j0])
  | succ kj1 =>
   have H := HA.out; clear HA
   simp only [spec_ClientOk.j0] at H
   by_cases c10 : x32_1 = true
   ·subst c10
    rw [if_pos rfl] at H
    obtain rfl := Option.some.inj H
    go_wp2
    go_ret
    exact ⟨by first | rfl | (simp [errW_none, errW_some] <;> rfl) | (simp [*, errW_none, errW_some] <;> rfl), hbA_ HB.out⟩
   ·replace c10 := Bool.eq_false_iff.mpr c10
    subst c10
    rw [if_neg (show ¬ (false = true) by decide)] at H
    by_cases c11 : 0 ≤ a0_0
    ·rw [if_pos c11] at H
     have c11b0 := eq_true c11
     have c11b1 : decide (0 ≤ a0_0) = true := decide_eq_true c11
     clear c11
     by_cases c12 : (a0_0 : Int).toNat ≤ 281474976710656
     ·rw [if_pos c12] at H
      have c12b0 := eq_true c12
      have c12b1 : decide ((a0_0 : Int).toNat ≤ 281474976710656) = true := decide_eq_true c12
      clear c12
      obtain ⟨y240, hy240⟩ : ∃ y_ : List Bool, y_ = (List.replicate (a0_0 : Int).toNat false) := ⟨_, rfl⟩
      (first | replace H := sb_ hy240 H | rw [← hy240] at H)
      have Ny240 := Aside0.mk hy240; clear hy240
      obtain ⟨y243, hy243⟩ : ∃ y_ : List Int, y_ = (([] : List Int)) := ⟨_, rfl⟩
      (first | replace H := sb_ hy243 H | rw [← hy243] at H)
      have Ny243 := Aside0.mk hy243; clear hy243
      by_cases c13 : y243.length + l0_1.length < 17592186044416
      ·rw [if_pos c13] at H
       have LMc13 := Aside0.mk c13; clear c13
       obtain ⟨y246, hy246⟩ : ∃ y_ : List Int, y_ = (y243 ++ l0_1) := ⟨_, rfl⟩
       (first | replace H := sb_ hy246 H | rw [← hy246] at H)
       have Ny246 := Aside0.mk hy246; clear hy246
       by_cases c14 : y246.length + l0_3.length < 17592186044416
       ·rw [if_pos c14] at H
        have LMc14 := Aside0.mk c14; clear c14
        obtain ⟨y249, hy249⟩ : ∃ y_ : List Int, y_ = (y246 ++ l0_3) := ⟨_, rfl⟩
        (first | replace H := sb_ hy249 H | rw [← hy249] at H)
        have Ny249 := Aside0.mk hy249; clear hy249
        have H' := Aside0.mk H
        clear H; have Z15 := zz4 BK238
        try go_wp2_with (first | ((with_reducible refine gate_dst (N := 35) rfl ?_); (try (refine gate_guard (by rfl) ?_; dsimp only)); refine Kd.R_make Kd.bool _ 4 rfl (N := 35) rfl 68 _ _ rfl a0_0 rfl rfl Try.underlying68 (.bool false) 1 info4 rfl (by decide) (by omega) false (ok := fun _ => True) (okp := fun _ => True) rfl (fun _ hk => hk) trivial (of_decide_eq_true (by first | (with_reducible assumption) | assumption)) (Nat.le_trans (Nat.mul_le_mul_right _ (of_decide_eq_true (by first | (with_reducible assumption) | assumption) : a0_0.toNat ≤ 281474976710656)) (by omega)) (Below.refl _ _) (Nat.le_refl _) ?_; intro v241 w16 ho17 hb hg_ hnew_; clear hg_ hnew_; (first | rw [← Ny240.out] at ho17 | (simp only [Int.reduceToNat] at ho17; rw [← Ny240.out] at ho17)); have HO242 := Aside0.mk (Kd.R_lower ho17 (below_size (hbA_ HB.out))); replace BK238 := (bbA_ BK238 hb); replace HB := (bs_ HB hb); clear hb ho17))
        replace HO242 := Aside0.mk (Kd.R_drew HO242.out); replace BK238 := Aside0.mk (blk_drew BK238.out); replace HB := (bd_ HB)
        refine start_ (n := 8) (S := fun w' => w'.cell? ⟨gb238, 0, none⟩ = some (.int .i64 a0_0) ∧ w'.cell? ⟨gb238, 1, none⟩ = some (.slice A0_1 l0_1.length c0_1) ∧ w'.cell? ⟨gb238, 2, none⟩ = some (.slice A0_2 l0_2.length c0_2) ∧ w'.cell? ⟨gb238, 3, none⟩ = some (.slice A0_3 l0_3.length c0_3)) (ds := []) #[false, false, false, false, false, false, false, false] (by kernel_rfl) rfl rfl (cz4 BK238.out) (fun hHeld => ?_); refine with_tabW spec_ClientOk.tab4 spec_ClientOk.bits4 (fun HT_ HW_ => ?_)
        generalize w16.drew = w18 at HO242 BK238 HB hHeld ⊢
        refine pu_ (i := 1) (N := some 37) HT_ ?_; refine pu_ (i := 4) (N := some 40) HT_ ?_; refine tk_ (i := 2) (N := some 38) HT_ HW_ hHeld ?_; refine tk_ (i := 5) (N := some 41) HT_ HW_ hHeld ?_
        refine on_ (i := 0) (N := some 36) HT_ (fun K hK => ?_)
        refine Kd.R_lit_step (Kd.int .i64) _ 3 ?hg (N := 36) ?hd (xs := ([] : List Int)) (inner := []) (ok := fun _ => True) (okp := fun _ => True) ?hr ?hp (fun _ hk => hk) trivial (Below.refl _ _) (Nat.le_refl _) (by simp) ?_; (case hd => rfl); (case hg => rfl); (case hr => first | (go_simp; done) | (go_simp; rfl)); (case hp => exact (Reps.none _ _))
        intro v244 w19 ho20 hb hg_ hnew_
        clear hg_ hnew_
        (first | rw [← Ny243.out] at ho20 | (simp only [Int.reduceToNat] at ho20; rw [← Ny243.out] at ho20))
        have n0_ := Aside0.mk (Kd.R_below (kR_ HO242.out) hb); have n1_ := Aside0.mk (Kd.R_lower ho20 (below_size (hbA_ HB.out))); have n2_ := (bbA_ BK238 hb); have n3_ := (bs_ HB hb); clear HO242 BK238 HB; have HO242 := n0_; have HO245 := n1_; have BK238 := n2_; have HB := n3_; clear n0_ n1_ n2_ n3_ hb ho20
        refine hK.out _ _ (cz4 BK238.out) (fun hHeld => ?_)
        clear hK K; refine nm_ 36 ?_
        refine on_ (i := 3) (N := some 39) HT_ (fun K hK => ?_)
        refine Kd.R_append_rows_step (Kd.int .i64) (w0 := w) w.heap.size (by rfl) (.tmp 36) (.tmp 38) 22 3 (.int .i64 0) 8 rfl Try.underlying22 info3 rfl (by decide) (by omega) v244 y243 l0_1 _ _ _ (fun _ => True) (fun _ => False) rfl rfl ?aO ?aR (fun _ _ h => h) (fun _ h => h.elim) ?aF ?aB ?aS ?aL ?_
        (case aR => exact kC_ (Kd.C_below HR0_1.out HB.out))
        (case aB => exact (hbA_ HB.out))
        (case aF => exact (fun _ _ => trivial))
        (case aO => exact (kR_ HO245.out))
        (case aS => exact (below_size (hbA_ HB.out)))
        (case aL => have := LMc13.out; omega)
        intro v247 w21 ho hb hg hat
        rw [← Ny246.out] at ho
        have n0_ := (bgA_ BK238 hg (Kd.R_ne HO245.out BK238.out (by decide))); have n1_ := Aside0.mk (Kd.R_over' (kR_ HO242.out) (Kd.R_typed (kR_ HO245.out)) (by decide) hg); have n2_ := Aside0.mk (hb); have n3_ := Aside0.mk (ho); clear BK238 HO242 HB HO245; have BK238 := n0_; have HO242 := n1_; have HB := n2_; have HO248 := n3_; clear n0_ n1_ n2_ n3_ ho hb hg hat
        refine hK.out _ _ (cz4 BK238.out) (fun hHeld => ?_)
        clear hK K; refine nm_ 39 ?_
        refine on_ (i := 6) (N := some 42) HT_ (fun K hK => ?_)
        refine Kd.R_append_rows_step (Kd.int .i64) (w0 := w) w.heap.size (by rfl) (.tmp 39) (.tmp 41) 22 3 (.int .i64 0) 8 rfl Try.underlying22 info3 rfl (by decide) (by omega) v247 y246 l0_3 _ _ _ (fun _ => True) (fun _ => False) rfl rfl ?aO ?aR (fun _ _ h => h) (fun _ h => h.elim) ?aF ?aB ?aS ?aL ?_
        (case aR => exact kC_ (Kd.C_below HR0_3.out HB.out))
        (case aB => exact (hbA_ HB.out))
        (case aF => exact (fun _ _ => trivial))
        (case aO => exact (kR_ HO248.out))
        (case aS => exact (below_size (hbA_ HB.out)))
        (case aL => have := LMc14.out; omega)
        intro v250 w22 ho hb hg hat
        rw [← Ny249.out] at ho
        have n0_ := (bgA_ BK238 hg (Kd.R_ne HO248.out BK238.out (by decide))); have n1_ := Aside0.mk (Kd.R_over' (kR_ HO242.out) (Kd.R_typed (kR_ HO248.out)) (by decide) hg); have n2_ := Aside0.mk (hb); have n3_ := Aside0.mk (ho); clear BK238 HO242 HB HO248; have BK238 := n0_; have HO242 := n1_; have HB := n2_; have HO251 := n3_; clear n0_ n1_ n2_ n3_ ho hb hg hat
        refine hK.out _ _ (cz4 BK238.out) (fun hHeld => ?_)
        clear hK K; refine nm_ 42 ?_; refine pu_ (i := 7) (N := some 4) HT_ ?_
        refine done_ (done_of HT_.out (by kernel_rfl)) ?_
        try go_wp2
        go_loopg [4, 5] kj1 (fun kq v4 v5 w' => ∃ (x4_2 : List Int) (x5_2 : Int), v5 = .int .i64 x5_2 ∧ Aside0 (spec_ClientOk.l0 kq y240 x4_2 x5_2 a0_0 l0_1 l0_2 l0_3 = some r) ∧ Aside0 (kq ≤ kj1) ∧ Aside0 (Kd.R Kd.bool 4 w' w.heap.size (fun _ => True) v241 y240) ∧ Aside0 (Kd.R (Kd.int .i64) 3 w' w.heap.size (fun _ => True) v4 x4_2) ∧ Aside0 (w'.heap[gb238]? = some (.cells #[.int .i64 a0_0, (.slice A0_1 l0_1.length c0_1), (.slice A0_2 l0_2.length c0_2), (.slice A0_3 l0_3.length c0_3)] 30 (0, 0))) ∧ Aside0 (Below w.heap.size w w'))
        case atStart => exact ⟨(y249), (0), (by first | rfl | (simp; done) | (simp [*]; done)), H', ⟨Nat.le_refl _⟩, ⟨kR_ HO242.out⟩, ⟨kR_ HO251.out⟩, ⟨by refine kb_ ?_; exact BK238.out⟩, ⟨hbA_ HB.out⟩⟩
        case round =>
         clear H'; (try clear c1); (try clear p2); (try clear c4); (try clear c5); (try clear c6); (try clear c6b0); (try clear c6b1); (try clear p6); (try clear c10); (try clear c11); (try clear c11b0); (try clear c11b1); (try clear c12); (try clear c12b0); (try clear c12b1); (try clear c13); (try clear c14); (try clear Z15); (try clear Z7); (try clear Z8); (try clear Z9); (try clear p2); (try clear p6)
         obtain ⟨x4_2, x5_2, rfl, HA, HK2, HO_3, HO_4, BK238, HB⟩ := hrel
         cases gk with
         | zero => exact absurd HA.out (by simp [spec_ClientOk.l0])
         | succ k2 =>
          have H := HA.out; clear HA
          simp only [spec_ClientOk.l0] at H
          by_cases c23 : x5_2 < (l0_2.length : Int)
          ·rw [if_pos c23] at H
           have c23b0 : decide (x5_2 < (l0_2.length : Int)) = true := decide_eq_true c23
           clear c23
           by_cases c24 : 0 ≤ x5_2
           ·rw [if_pos c24] at H
            have c24b0 : decide (0 ≤ x5_2) = true := decide_eq_true c24
            clear c24
            by_cases c25 : (((rd_T41 l0_2 x5_2).f1).length : Int) > 9
            ·rw [if_pos c25] at H
             have c25b0 : decide (9 < (((rd_T41 l0_2 x5_2).f1).length : Int)) = true := decide_eq_true c25
             have c25b1 : decide (9 < ((rd_T41 l0_2 x5_2).f1).length) = true := decide_eq_true (by omega)
             clear c25
             obtain rfl := Option.some.inj H
             have Z26 := zz4 BK238
             have p252 : 0 ≤ (x5_2 : Int) := of_decide_eq_true (by first | (with_reducible assumption) | assumption)
             have q252 : x5_2 < (l0_2.length : Int) := of_decide_eq_true (by first | (with_reducible assumption) | assumption)
             obtain ⟨ad252, A252_1, c252_1, e252, hx252_0, hx252_1, hl252_1, hi252_1⟩ := at_T41 HR0_2.out x5_2 p252 q252
             cases e252
             replace hx252_0 := cc_ HB hx252_0
             replace hx252_1 := cc_ HB hx252_1
             have HR252_1 := Aside0.mk hi252_1; have HC252_1 := Aside0.mk hl252_1; clear hi252_1 hl252_1
             replace p252 := eq_true p252
             replace q252 := eq_true q252
             go_wp2
             go_ret
             exact ⟨by first | rfl | (simp [errW_none, errW_some] <;> rfl) | (simp [*, errW_none, errW_some] <;> rfl), hbA_ HB.out⟩
            ·rw [if_neg c25] at H
             have c25b0 : decide (9 < (((rd_T41 l0_2 x5_2).f1).length : Int)) = false := decide_eq_false c25
             have c25b1 : decide (9 < ((rd_T41 l0_2 x5_2).f1).length) = false := decide_eq_false (by omega)
             clear c25
             by_cases c27 : x4_2.length < 17592186044416
             ·rw [if_pos c27] at H
              have LMc27 := Aside0.mk c27; clear c27
              obtain ⟨y254, hy254⟩ : ∃ y_ : List Int, y_ = (x4_2 ++ [(rd_T41 l0_2 x5_2).f0]) := ⟨_, rfl⟩
              (first | replace H := sb_ hy254 H | rw [← hy254] at H)
              have Ny254 := Aside0.mk hy254; clear hy254
              have H' := Aside0.mk H
              clear H; have Z28 := zz4 BK238
              have p252 : 0 ≤ (x5_2 : Int) := of_decide_eq_true (by first | (with_reducible assumption) | assumption)
              have q252 : x5_2 < (l0_2.length : Int) := of_decide_eq_true (by first | (with_reducible assumption) | assumption)
              obtain ⟨ad252, A252_1, c252_1, e252, hx252_0, hx252_1, hl252_1, hi252_1⟩ := at_T41 HR0_2.out x5_2 p252 q252
              cases e252
              replace hx252_0 := cc_ HB hx252_0
              replace hx252_1 := cc_ HB hx252_1
              have HR252_1 := Aside0.mk hi252_1; have HC252_1 := Aside0.mk hl252_1; clear hi252_1 hl252_1
              replace p252 := eq_true p252
              replace q252 := eq_true q252
              have p253 : 0 ≤ (x5_2 : Int) := of_decide_eq_true (by first | (with_reducible assumption) | assumption)
              have q253 : x5_2 < (l0_2.length : Int) := of_decide_eq_true (by first | (with_reducible assumption) | assumption)
              obtain ⟨ad253, A253_1, c253_1, e253, hx253_0, hx253_1, hl253_1, hi253_1⟩ := at_T41 HR0_2.out x5_2 p253 q253
              obtain rfl : ad252 = ad253 := (by injection e253)
              replace hx253_0 := cc_ HB hx253_0
              replace hx253_1 := cc_ HB hx253_1
              have HR253_1 := Aside0.mk hi253_1; have HC253_1 := Aside0.mk hl253_1; clear hi253_1 hl253_1
              replace p253 := eq_true p253
              replace q253 := eq_true q253
              have ea_ := Option.some.inj (hx252_1.symm.trans hx253_1)
              injection ea_ with ea_ en_ ec_
              subst ea_; subst ec_; clear en_
              go_wp2_with (first | ((with_reducible refine gate_builtin (b := .append) (xs := #[.tmp 58, .tmp 65]) rfl ?_); (try (refine gate_guard (by rfl) ?_; dsimp only)); at_builtin; refine Kd.R_append (Kd.int .i64) (w0 := w) w.heap.size rfl (.tmp 58) (.tmp 65) 22 3 (.int .i64 0) 8 rfl Try.underlying22 info3 rfl (by decide) (by omega) u4 x4_2 ((rd_T41 l0_2 x5_2).f0) [.int .i64 ((rd_T41 l0_2 x5_2).f0)] (fun _ => True) (fun _ => False) rfl rfl ?aP (fun _ hk => hk.elim) ?aF ?aO ?aB ?aS ?aL ?_; (case aP => exact rfl); (case aB => exact (hbA_ HB.out)); (case aF => exact (fun _ _ => trivial)); (case aO => exact (kR_ HO_4.out)); (case aS => exact (below_size (hbA_ HB.out))); (case aL => have := LMc27.out; omega); intro v255 w29 ho hb hg hat; rw [← Ny254.out] at ho; replace HO_3 := Aside0.mk (Kd.R_over' (kR_ HO_3.out) (Kd.R_typed (kR_ HO_4.out)) (by decide) hg); replace BK238 := (bgA_ BK238 hg (Kd.R_ne HO_4.out BK238.out (by decide))); replace HB := Aside0.mk (hb); have HO256 := Aside0.mk (ho); clear HO_4; clear ho hb hg hat))
              go_roundg k2
              case measure => have := HJ1.out; have := HK2.out; omega
              case rel => exact ⟨(y254), (wrap64 (x5_2 + 1)), (by first | rfl | (simp; done) | (simp [*]; done)), H', ⟨by have := HJ1.out; have := HK2.out; omega⟩, ⟨kR_ HO_3.out⟩, ⟨kR_ HO256.out⟩, ⟨by refine kb_ ?_; exact BK238.out⟩, ⟨hbA_ HB.out⟩⟩
             ·rw [if_neg c27] at H
              exact absurd H (by simp)
           ·rw [if_neg c24] at H
            exact absurd H (by simp)
          ·rw [if_neg c23] at H
           have c23b0 : decide (x5_2 < (l0_2.length : Int)) = false := decide_eq_false c23
           clear c23
           have H' := Aside0.mk H
           clear H; have Z30 := zz4 BK238
           go_wp2
           go_loopg [6] k2 (fun kq v6 w' => ∃ (x3_3 : List Bool) (x6_3 : Int), v6 = .int .i64 x6_3 ∧ Aside0 (spec_ClientOk.l1 kq x3_3 x4_2 x6_3 a0_0 l0_1 l0_2 l0_3 = some r) ∧ Aside0 (kq ≤ k2) ∧ Aside0 (Kd.R Kd.bool 4 w' w.heap.size (fun _ => True) v241 x3_3) ∧ Aside0 (Kd.R (Kd.int .i64) 3 w' w.heap.size (fun _ => True) u4 x4_2) ∧ Aside0 (w'.heap[gb238]? = some (.cells #[.int .i64 a0_0, (.slice A0_1 l0_1.length c0_1), (.slice A0_2 l0_2.length c0_2), (.slice A0_3 l0_3.length c0_3)] 30 (0, 0))) ∧ Aside0 (Below w.heap.size w w'))
           case atStart => exact ⟨(y240), (0), (by first | rfl | (simp; done) | (simp [*]; done)), H', ⟨Nat.le_refl _⟩, ⟨kR_ HO_3.out⟩, ⟨kR_ HO_4.out⟩, ⟨by refine kb_ ?_; exact BK238.out⟩, ⟨hbA_ HB.out⟩⟩
           case round =>
            clear H'; (try clear c1); (try clear c2); (try clear p2); (try clear q2); (try clear hx2); (try clear c4); (try clear c5); (try clear c6); (try clear c6b0); (try clear c6b1); (try clear p6); (try clear c10); (try clear c11); (try clear c11b0); (try clear c11b1); (try clear c12); (try clear c12b0); (try clear c12b1); (try clear c13); (try clear c14); (try clear c23); (try clear c23b0); (try clear c24); (try clear c24b0); (try clear c25); (try clear c25b0); (try clear c25b1); (try clear p25); (try clear q25); (try clear hx25); (try clear c27); (try clear Z15); (try clear Z26); (try clear Z28); (try clear Z30); (try clear Z7); (try clear Z8); (try clear Z9); (try clear hx252_0); (try clear hx252_1); (try clear hx253_0); (try clear hx253_1); (try clear p2); (try clear p252); (try clear p253); (try clear p6); (try clear q252); (try clear q253)
            obtain ⟨x3_3, x6_3, rfl, HA, HK3, HO_3, HO_4, BK238, HB⟩ := hrel
            cases gk with
            | zero => exact absurd HA.out (by simp [spec_ClientOk.l1])
            | succ k3 =>
             have H := HA.out; clear HA
             simp only [spec_ClientOk.l1] at H
             by_cases c31 : x6_3 < (x4_2.length : Int)
             ·rw [if_pos c31] at H
              have c31b0 : decide (x6_3 < (x4_2.length : Int)) = true := decide_eq_true c31
              clear c31; have HC32 := Aside0.mk H; clear H
              obtain ⟨Ao33, co33, eo33⟩ := Kd.R_slice HO_4.out
              subst eo33
              go_upto_region 14 with (fail)
              go_cut [113] (fun v113 wc => ∃ (kq : Nat) (x113_31 : Bool), v113 = .bool x113_31 ∧ Aside0 (spec_ClientOk.j3 kq x3_3 x4_2 x6_3 x113_31 a0_0 l0_1 l0_2 l0_3 = some r) ∧ Aside0 (kq ≤ k3) ∧ Aside0 (Kd.R Kd.bool 4 wc w.heap.size (fun _ => True) v241 x3_3) ∧ Aside0 (Kd.R (Kd.int .i64) 3 wc w.heap.size (fun _ => True) (.slice Ao33 x4_2.length co33) x4_2) ∧ Aside0 (wc.heap[gb238]? = some (.cells #[.int .i64 a0_0, (.slice A0_1 l0_1.length c0_1), (.slice A0_2 l0_2.length c0_2), (.slice A0_3 l0_3.length c0_3)] 30 (0, 0))) ∧ Aside0 (Below w.heap.size w wc))
              case first =>
               have H := HC32.out; clear HC32
               by_cases c34 : 0 ≤ x6_3
               ·rw [if_pos c34] at H
                have c34b0 : decide (0 ≤ x6_3) = true := decide_eq_true c34
                clear c34
                (first | rw [c34b0] | (simp only [i64_w, i32_w]; rw [c34b0]) | skip)
                replace H := Option.bind_eq_some_iff.mp H
                obtain ⟨t258, A350, H⟩ := H
                (try dsimp only at H)
                have A35 := Aside0.mk A350; clear A350
                by_cases c36 : t258 = true
                ·subst c36
                 rw [if_pos rfl] at H
                 by_cases c37 : 0 ≤ (rd x4_2 x6_3)
                 ·rw [if_pos c37] at H
                  have c37b0 : decide (0 ≤ (rd x4_2 x6_3)) = true := decide_eq_true c37
                  clear c37
                  by_cases c38 : (rd x4_2 x6_3) < (x3_3.length : Int)
                  ·rw [if_pos c38] at H
                   have c38b0 : decide ((rd x4_2 x6_3) < (x3_3.length : Int)) = true := decide_eq_true c38
                   clear c38
                   obtain ⟨bq39, hbq39⟩ : ∃ b_ : Bool, b_ = (rdOf false x3_3 (rd x4_2 x6_3)) := ⟨_, rfl⟩
                   replace H : (if bq39 = true then (spec_ClientOk.j3 k3 x3_3 x4_2 x6_3 true a0_0 l0_1 l0_2 l0_3) else (if x6_3 > 0 then (if x6_3 < (l0_1.length : Int) then (if 0 ≤ (wrap64 (x6_3 - 1)) then (if (wrap64 (x6_3 - 1)) < (x4_2.length : Int) then (spec_ClientOk.j3 k3 x3_3 x4_2 x6_3 (decide ((rd x4_2 (wrap64 (x6_3 - 1))) ≥ (rd x4_2 x6_3))) a0_0 l0_1 l0_2 l0_3) else (none)) else (none)) else (spec_ClientOk.j3 k3 x3_3 x4_2 x6_3 false a0_0 l0_1 l0_2 l0_3)) else (spec_ClientOk.j3 k3 x3_3 x4_2 x6_3 false a0_0 l0_1 l0_2 l0_3))) = some r := by rw [← hbq39] at H; exact H
                   have Nbq39 := Aside0.mk hbq39; clear hbq39
                   by_cases c40 : bq39 = true
                   ·subst c40
                    rw [if_pos rfl] at H
                    have H' := Aside0.mk H
                    clear H
                    try go_wp2
                    replace HO_3 := Aside0.mk (Kd.R_drew HO_3.out); replace HO_4 := Aside0.mk (Kd.R_drew HO_4.out); replace BK238 := Aside0.mk (blk_drew BK238.out); replace HB := (bd_ HB)
                    have p257 : 0 ≤ (x6_3 : Int) := of_decide_eq_true (by first | (with_reducible assumption) | assumption)
                    have q257 : x6_3 < (x4_2.length : Int) := of_decide_eq_true (by first | (with_reducible assumption) | assumption)
                    obtain ⟨ad257, e257, hx257_0⟩ := Kd.at_int (Kd.R_reads' HO_4.out).2.2 x6_3 p257 q257
                    cases e257
                    replace p257 := eq_true p257
                    replace q257 := eq_true q257
                    have p259 : 0 ≤ (x6_3 : Int) := of_decide_eq_true (by first | (with_reducible assumption) | assumption)
                    have q259 : x6_3 < (x4_2.length : Int) := of_decide_eq_true (by first | (with_reducible assumption) | assumption)
                    obtain ⟨ad259, e259, hx259_0⟩ := Kd.at_int (Kd.R_reads' HO_4.out).2.2 x6_3 p259 q259
                    obtain rfl : ad257 = ad259 := (by injection e259)
                    replace p259 := eq_true p259
                    replace q259 := eq_true q259
                    have p260 : 0 ≤ ((rd x4_2 x6_3) : Int) := of_decide_eq_true (by first | (with_reducible assumption) | assumption)
                    have q260 : (rd x4_2 x6_3) < (x3_3.length : Int) := of_decide_eq_true (by first | (with_reducible assumption) | assumption)
                    (try (obtain ⟨Aq_, cq_, eq_⟩ := Kd.R_slice HO_3.out; subst eq_))
                    obtain ⟨ad260, e260, hx260_0⟩ := Kd.at_bool (Kd.R_reads' HO_3.out).2.2 (rd x4_2 x6_3) p260 q260
                    (try rw [← Nbq39.out] at hx260_0)
                    cases e260
                    replace p260 := eq_true p260
                    replace q260 := eq_true q260
                    refine start_ (n := 41) (S := fun w' => w'.cell? ⟨gb238, 0, none⟩ = some (.int .i64 a0_0) ∧ w'.cell? ⟨gb238, 1, none⟩ = some (.slice A0_1 l0_1.length c0_1) ∧ w'.cell? ⟨gb238, 2, none⟩ = some (.slice A0_2 l0_2.length c0_2) ∧ w'.cell? ⟨gb238, 3, none⟩ = some (.slice A0_3 l0_3.length c0_3) ∧ w'.cell? (ad257.add (x6_3).toNat) = some (.int .i64 (rd x4_2 x6_3)) ∧ w'.cell? (ad257.add (x6_3).toNat) = some (.int .i64 (rd x4_2 x6_3)) ∧ w'.cell? (ad260.add ((rd x4_2 x6_3)).toNat) = some (.bool true)) (ds := []) #[false, false, false, false, false, false, false, false, false, false, false, false, false, false, false, false, false, false, false, false, false, false, false, false, false, false, false, false, false, false, false, false, false, false, false, false, false, false, false, false, false] (by kernel_rfl) rfl rfl ⟨bc_ BK238 0, bc_ BK238 1, bc_ BK238 2, bc_ BK238 3, hx257_0, hx259_0, hx260_0⟩ (fun hHeld => ?_); refine with_tabW spec_ClientOk.tab14 spec_ClientOk.bits14 (fun HT_ HW_ => ?_)
                    generalize wr.drew = w41 at HO_3 HO_4 BK238 HB hx257_0 hx259_0 hx260_0 hHeld ⊢
                    refine pu_ (i := 0) (N := some 73) HT_ ?_; refine pu_ (i := 1) (N := some 74) HT_ ?_; refine pu_ (i := 2) (N := some 75) HT_ ?_; refine pu_ (i := 4) (N := some 77) HT_ ?_; refine tk_ (i := 3) (N := some 76) HT_ HW_ hHeld ?_; refine tk_ (i := 5) (N := some 78) HT_ HW_ hHeld ?_; refine pu_ (i := 6) (N := some 79) HT_ ?_
                    refine on_ (i := 7) (N := some 80) HT_ (fun K hK => ?_)
                    refine goes_ Try.func46 (by kernel_rfl) rfl #[.int .i64 (rd x4_2 x6_3), .int .i64 0, .int .i64 (wrap64 (a0_0 - 1))] (by rfl) rfl rfl ar_ ?_
                    with_reducible refine (spec_l1In.calls (rd x4_2 x6_3) 0 (wrap64 (a0_0 - 1)) true _ A35.out).mono ?_
                    rintro e w' ⟨rfl, ⟨nd, rfl⟩⟩
                    refine ⟨_, rfl, ?_⟩
                    obtain ⟨Ao42, co42, eo42⟩ := Kd.R_slice HO_3.out
                    (first | subst eo42 | (injection eo42 with f1_ f2_ f3_; have f4_ := f1_.symm; have f5_ := f3_.symm; clear f1_ f2_ f3_; subst f4_; subst f5_))
                    refine hK.out _ _ ⟨bc_ BK238 0, bc_ BK238 1, bc_ BK238 2, bc_ BK238 3, hHeld.2.2.2.2.1, hHeld.2.2.2.2.2.1, hHeld.2.2.2.2.2.2⟩ (fun hHeld => ?_)
                    clear hK K; refine nm_ 80 ?_; refine pu_ (i := 8) (N := some 81) HT_ ?_; refine pu_ (i := 9) (N := some 82) HT_ ?_; refine pu_ (i := 10) (N := some 83) HT_ ?_; refine pu_ (i := 11) (N := some 84) HT_ ?_; refine pu_ (i := 12) (N := some 85) HT_ ?_; refine pu_ (i := 13) (N := some 86) HT_ ?_; refine tk_ (i := 14) (N := some 87) HT_ HW_ hHeld ?_; refine pu_ (i := 15) (N := some 88) HT_ ?_; refine tk_ (i := 16) (N := some 89) HT_ HW_ hHeld ?_; refine pu_ (i := 17) (N := some 90) HT_ ?_; refine pu_ (i := 18) (N := some 91) HT_ ?_; refine pn_ (i := 19) (N := some 92) HT_ ?_; refine pn_ (i := 20) (N := some 93) HT_ ?_; refine pn_ (i := 21) (N := some 94) HT_ ?_; refine pn_ (i := 22) (N := some 95) HT_ ?_; refine pn_ (i := 23) (N := some 96) HT_ ?_; refine pn_ (i := 24) (N := some 97) HT_ ?_; refine pn_ (i := 25) (N := some 98) HT_ ?_; refine pn_ (i := 26) (N := some 99) HT_ ?_; refine pn_ (i := 27) (N := some 100) HT_ ?_; refine pn_ (i := 28) (N := some 101) HT_ ?_; refine pn_ (i := 29) (N := some 102) HT_ ?_; refine pn_ (i := 30) (N := some 103) HT_ ?_; refine pn_ (i := 31) (N := some 104) HT_ ?_; refine pn_ (i := 32) (N := some 105) HT_ ?_; refine pn_ (i := 33) (N := some 106) HT_ ?_; refine pn_ (i := 34) (N := some 107) HT_ ?_; refine pn_ (i := 35) (N := some 108) HT_ ?_; refine pn_ (i := 36) (N := some 109) HT_ ?_; refine pn_ (i := 37) (N := some 110) HT_ ?_; refine pn_ (i := 38) (N := some 111) HT_ ?_; refine pn_ (i := 39) (N := some 112) HT_ ?_; refine pu_ (i := 40) (N := some 113) HT_ ?_
                    refine done_ (done_of HT_.out (by kernel_rfl)) ?_
                    try go_wp2
                    go_meet
                    case rel => exact ⟨_, (true), (by first | rfl | (simp; done) | (simp [*]; done)), H', ⟨by have := HJ1.out; have := HK2.out; have := HK3.out; first | omega | exact Nat.le_refl _⟩, ⟨kR_ HO_3.out⟩, ⟨kR_ HO_4.out⟩, ⟨by refine kb_ ?_; exact BK238.out⟩, ⟨hbA_ HB.out⟩⟩
                   ·replace c40 := Bool.eq_false_iff.mpr c40
                    subst c40
                    rw [if_neg (show ¬ (false = true) by decide)] at H
                    by_cases c43 : x6_3 > 0
                    ·rw [if_pos c43] at H
                     have c43b0 : decide (0 < x6_3) = true := decide_eq_true c43
                     clear c43
                     by_cases c44 : x6_3 < (l0_1.length : Int)
                     ·rw [if_pos c44] at H
                      have c44b0 : decide (x6_3 < (l0_1.length : Int)) = true := decide_eq_true c44
                      clear c44
                      obtain ⟨ji45, hji45⟩ : ∃ j_ : Int, (wrap64 (x6_3 - 1)) = j_ := ⟨_, rfl⟩
                      (first | rw [hji45] at H | simp only [hji45] at H)
                      (try rw [hji45] at A35)
                      have hji45w : (IntKind.i64.wrap (x6_3 - 1)) = ji45 := (i64_w _).trans hji45
                      by_cases c46 : 0 ≤ (ji45)
                      ·rw [if_pos c46] at H
                       have c46b0 : decide (0 ≤ (ji45)) = true := decide_eq_true c46
                       clear c46
                       by_cases c47 : (ji45) < (x4_2.length : Int)
                       ·rw [if_pos c47] at H
                        have c47b0 : decide ((ji45) < (x4_2.length : Int)) = true := decide_eq_true c47
                        clear c47
                        have H' := Aside0.mk H
                        clear H
                        try go_wp2
                        replace HO_3 := Aside0.mk (Kd.R_drew HO_3.out); replace HO_4 := Aside0.mk (Kd.R_drew HO_4.out); replace BK238 := Aside0.mk (blk_drew BK238.out); replace HB := (bd_ HB)
                        have p257 : 0 ≤ (x6_3 : Int) := of_decide_eq_true (by first | (with_reducible assumption) | assumption)
                        have q257 : x6_3 < (x4_2.length : Int) := of_decide_eq_true (by first | (with_reducible assumption) | assumption)
                        obtain ⟨ad257, e257, hx257_0⟩ := Kd.at_int (Kd.R_reads' HO_4.out).2.2 x6_3 p257 q257
                        cases e257
                        replace p257 := eq_true p257
                        replace q257 := eq_true q257
                        have p259 : 0 ≤ (x6_3 : Int) := of_decide_eq_true (by first | (with_reducible assumption) | assumption)
                        have q259 : x6_3 < (x4_2.length : Int) := of_decide_eq_true (by first | (with_reducible assumption) | assumption)
                        obtain ⟨ad259, e259, hx259_0⟩ := Kd.at_int (Kd.R_reads' HO_4.out).2.2 x6_3 p259 q259
                        obtain rfl : ad257 = ad259 := (by injection e259)
                        replace p259 := eq_true p259
                        replace q259 := eq_true q259
                        have p260 : 0 ≤ ((rd x4_2 x6_3) : Int) := of_decide_eq_true (by first | (with_reducible assumption) | assumption)
                        have q260 : (rd x4_2 x6_3) < (x3_3.length : Int) := of_decide_eq_true (by first | (with_reducible assumption) | assumption)
                        (try (obtain ⟨Aq_, cq_, eq_⟩ := Kd.R_slice HO_3.out; subst eq_))
                        obtain ⟨ad260, e260, hx260_0⟩ := Kd.at_bool (Kd.R_reads' HO_3.out).2.2 (rd x4_2 x6_3) p260 q260
                        (try rw [← Nbq39.out] at hx260_0)
                        cases e260
                        replace p260 := eq_true p260
                        replace q260 := eq_true q260
                        have p261 : 0 ≤ ((ji45) : Int) := of_decide_eq_true (by first | (with_reducible assumption) | assumption)
                        have q261 : (ji45) < (x4_2.length : Int) := of_decide_eq_true (by first | (with_reducible assumption) | assumption)
                        obtain ⟨ad261, e261, hx261_0⟩ := Kd.at_int (Kd.R_reads' HO_4.out).2.2 (ji45) p261 q261
                        obtain rfl : ad257 = ad261 := (by injection e261)
                        replace p261 := eq_true p261
                        replace q261 := eq_true q261
                        have p262 : 0 ≤ (x6_3 : Int) := of_decide_eq_true (by first | (with_reducible assumption) | assumption)
                        have q262 : x6_3 < (x4_2.length : Int) := of_decide_eq_true (by first | (with_reducible assumption) | assumption)
                        obtain ⟨ad262, e262, hx262_0⟩ := Kd.at_int (Kd.R_reads' HO_4.out).2.2 x6_3 p262 q262
                        obtain rfl : ad257 = ad262 := (by injection e262)
                        replace p262 := eq_true p262
                        replace q262 := eq_true q262
                        refine start_ (n := 41) (S := fun w' => w'.cell? ⟨gb238, 0, none⟩ = some (.int .i64 a0_0) ∧ w'.cell? ⟨gb238, 1, none⟩ = some (.slice A0_1 l0_1.length c0_1) ∧ w'.cell? ⟨gb238, 2, none⟩ = some (.slice A0_2 l0_2.length c0_2) ∧ w'.cell? ⟨gb238, 3, none⟩ = some (.slice A0_3 l0_3.length c0_3) ∧ w'.cell? (ad257.add (x6_3).toNat) = some (.int .i64 (rd x4_2 x6_3)) ∧ w'.cell? (ad257.add (x6_3).toNat) = some (.int .i64 (rd x4_2 x6_3)) ∧ w'.cell? (ad260.add ((rd x4_2 x6_3)).toNat) = some (.bool false) ∧ w'.cell? (ad257.add ((ji45)).toNat) = some (.int .i64 (rd x4_2 (ji45))) ∧ w'.cell? (ad257.add (x6_3).toNat) = some (.int .i64 (rd x4_2 x6_3))) (ds := []) #[false, false, false, false, false, false, false, false, false, false, false, false, false, false, false, false, false, false, false, false, false, false, false, false, false, false, false, false, false, false, false, false, false, false, false, false, false, false, false, false, false] (by kernel_rfl) rfl rfl ⟨bc_ BK238 0, bc_ BK238 1, bc_ BK238 2, bc_ BK238 3, hx257_0, hx259_0, hx260_0, hx261_0, hx262_0⟩ (fun hHeld => ?_); refine with_tabW spec_ClientOk.tab14 spec_ClientOk.bits14 (fun HT_ HW_ => ?_)
                        generalize wr.drew = w48 at HO_3 HO_4 BK238 HB hx257_0 hx259_0 hx260_0 hx261_0 hx262_0 hHeld ⊢
                        refine pu_ (i := 0) (N := some 73) HT_ ?_; refine pu_ (i := 1) (N := some 74) HT_ ?_; refine pu_ (i := 2) (N := some 75) HT_ ?_; refine pu_ (i := 4) (N := some 77) HT_ ?_; refine tk_ (i := 3) (N := some 76) HT_ HW_ hHeld ?_; refine tk_ (i := 5) (N := some 78) HT_ HW_ hHeld ?_; refine pu_ (i := 6) (N := some 79) HT_ ?_
                        refine on_ (i := 7) (N := some 80) HT_ (fun K hK => ?_)
                        refine goes_ Try.func46 (by kernel_rfl) rfl #[.int .i64 (rd x4_2 x6_3), .int .i64 0, .int .i64 (wrap64 (a0_0 - 1))] (by rfl) rfl rfl ar_ ?_
                        with_reducible refine (spec_l1In.calls (rd x4_2 x6_3) 0 (wrap64 (a0_0 - 1)) true _ A35.out).mono ?_
                        rintro e w' ⟨rfl, ⟨nd, rfl⟩⟩
                        refine ⟨_, rfl, ?_⟩
                        obtain ⟨Ao49, co49, eo49⟩ := Kd.R_slice HO_3.out
                        (first | subst eo49 | (injection eo49 with f1_ f2_ f3_; have f4_ := f1_.symm; have f5_ := f3_.symm; clear f1_ f2_ f3_; subst f4_; subst f5_))
                        refine hK.out _ _ ⟨bc_ BK238 0, bc_ BK238 1, bc_ BK238 2, bc_ BK238 3, hHeld.2.2.2.2.1, hHeld.2.2.2.2.2.1, hHeld.2.2.2.2.2.2.1, hHeld.2.2.2.2.2.2.2.1, hHeld.2.2.2.2.2.2.2.2⟩ (fun hHeld => ?_)
                        clear hK K; refine nm_ 80 ?_; refine pu_ (i := 8) (N := some 81) HT_ ?_; refine pu_ (i := 9) (N := some 82) HT_ ?_; refine pu_ (i := 10) (N := some 83) HT_ ?_; refine pu_ (i := 11) (N := some 84) HT_ ?_; refine pu_ (i := 12) (N := some 85) HT_ ?_; refine pu_ (i := 13) (N := some 86) HT_ ?_; refine tk_ (i := 14) (N := some 87) HT_ HW_ hHeld ?_; refine pu_ (i := 15) (N := some 88) HT_ ?_; refine tk_ (i := 16) (N := some 89) HT_ HW_ hHeld ?_; refine pu_ (i := 17) (N := some 90) HT_ ?_; refine pu_ (i := 18) (N := some 91) HT_ ?_; refine pu_ (i := 19) (N := some 92) HT_ ?_; refine pu_ (i := 20) (N := some 93) HT_ ?_; refine pu_ (i := 21) (N := some 94) HT_ ?_; refine pu_ (i := 22) (N := some 95) HT_ ?_; refine pu_ (i := 23) (N := some 96) HT_ ?_; refine tk_ (i := 24) (N := some 97) HT_ HW_ hHeld ?_; refine pu_ (i := 25) (N := some 98) HT_ ?_; refine pu_ (i := 26) (N := some 99) HT_ ?_; refine pu_ (i := 27) (N := some 100) HT_ ?_; refine pu_ (i := 28) (N := some 101) HT_ ?_; refine pu_ (i := 29) (N := some 102) HT_ ?_; refine pu_ (i := 30) (N := some 103) HT_ ?_; refine pu_ (i := 31) (N := some 104) HT_ ?_; refine pu_ (i := 32) (N := some 105) HT_ ?_; refine pu_ (i := 34) (N := some 107) HT_ ?_; refine pu_ (i := 35) (N := some 108) HT_ ?_; refine pu_ (i := 36) (N := some 109) HT_ ?_; refine tk_ (i := 33) (N := some 106) HT_ HW_ hHeld ?_; refine tk_ (i := 37) (N := some 110) HT_ HW_ hHeld ?_; refine pu_ (i := 38) (N := some 111) HT_ ?_; refine pu_ (i := 39) (N := some 112) HT_ ?_; refine pu_ (i := 40) (N := some 113) HT_ ?_
                        refine done_ (done_of HT_.out (by kernel_rfl)) ?_
                        try go_wp2
                        first | go_meet | ((try simp only [← hji45]); go_meet)
                        case rel => exact ⟨_, (decide ((rd x4_2 (ji45)) ≥ (rd x4_2 x6_3))), (by first | rfl | (simp; done) | (simp only [← hji45] <;> (first | rfl | simp)) | (simp [*]; done)), H', ⟨by have := HJ1.out; have := HK2.out; have := HK3.out; first | omega | exact Nat.le_refl _⟩, ⟨kR_ HO_3.out⟩, ⟨kR_ HO_4.out⟩, ⟨by refine kb_ ?_; exact BK238.out⟩, ⟨hbA_ HB.out⟩⟩
                       ·rw [if_neg c47] at H
                        exact absurd H (by simp)
                      ·rw [if_neg c46] at H
                       exact absurd H (by simp)
                     ·rw [if_neg c44] at H
                      have c44b0 : decide (x6_3 < (l0_1.length : Int)) = false := decide_eq_false c44
                      clear c44
                      have H' := Aside0.mk H
                      clear H
                      try go_wp2
                      replace HO_3 := Aside0.mk (Kd.R_drew HO_3.out); replace HO_4 := Aside0.mk (Kd.R_drew HO_4.out); replace BK238 := Aside0.mk (blk_drew BK238.out); replace HB := (bd_ HB)
                      have p257 : 0 ≤ (x6_3 : Int) := of_decide_eq_true (by first | (with_reducible assumption) | assumption)
                      have q257 : x6_3 < (x4_2.length : Int) := of_decide_eq_true (by first | (with_reducible assumption) | assumption)
                      obtain ⟨ad257, e257, hx257_0⟩ := Kd.at_int (Kd.R_reads' HO_4.out).2.2 x6_3 p257 q257
                      cases e257
                      replace p257 := eq_true p257
                      replace q257 := eq_true q257
                      have p259 : 0 ≤ (x6_3 : Int) := of_decide_eq_true (by first | (with_reducible assumption) | assumption)
                      have q259 : x6_3 < (x4_2.length : Int) := of_decide_eq_true (by first | (with_reducible assumption) | assumption)
                      obtain ⟨ad259, e259, hx259_0⟩ := Kd.at_int (Kd.R_reads' HO_4.out).2.2 x6_3 p259 q259
                      obtain rfl : ad257 = ad259 := (by injection e259)
                      replace p259 := eq_true p259
                      replace q259 := eq_true q259
                      have p260 : 0 ≤ ((rd x4_2 x6_3) : Int) := of_decide_eq_true (by first | (with_reducible assumption) | assumption)
                      have q260 : (rd x4_2 x6_3) < (x3_3.length : Int) := of_decide_eq_true (by first | (with_reducible assumption) | assumption)
                      (try (obtain ⟨Aq_, cq_, eq_⟩ := Kd.R_slice HO_3.out; subst eq_))
                      obtain ⟨ad260, e260, hx260_0⟩ := Kd.at_bool (Kd.R_reads' HO_3.out).2.2 (rd x4_2 x6_3) p260 q260
                      (try rw [← Nbq39.out] at hx260_0)
                      cases e260
                      replace p260 := eq_true p260
                      replace q260 := eq_true q260
                      refine start_ (n := 41) (S := fun w' => w'.cell? ⟨gb238, 0, none⟩ = some (.int .i64 a0_0) ∧ w'.cell? ⟨gb238, 1, none⟩ = some (.slice A0_1 l0_1.length c0_1) ∧ w'.cell? ⟨gb238, 2, none⟩ = some (.slice A0_2 l0_2.length c0_2) ∧ w'.cell? ⟨gb238, 3, none⟩ = some (.slice A0_3 l0_3.length c0_3) ∧ w'.cell? (ad257.add (x6_3).toNat) = some (.int .i64 (rd x4_2 x6_3)) ∧ w'.cell? (ad257.add (x6_3).toNat) = some (.int .i64 (rd x4_2 x6_3)) ∧ w'.cell? (ad260.add ((rd x4_2 x6_3)).toNat) = some (.bool false)) (ds := []) #[false, false, false, false, false, false, false, false, false, false, false, false, false, false, false, false, false, false, false, false, false, false, false, false, false, false, false, false, false, false, false, false, false, false, false, false, false, false, false, false, false] (by kernel_rfl) rfl rfl ⟨bc_ BK238 0, bc_ BK238 1, bc_ BK238 2, bc_ BK238 3, hx257_0, hx259_0, hx260_0⟩ (fun hHeld => ?_); refine with_tabW spec_ClientOk.tab14 spec_ClientOk.bits14 (fun HT_ HW_ => ?_)
                      generalize wr.drew = w50 at HO_3 HO_4 BK238 HB hx257_0 hx259_0 hx260_0 hHeld ⊢
                      refine pu_ (i := 0) (N := some 73) HT_ ?_; refine pu_ (i := 1) (N := some 74) HT_ ?_; refine pu_ (i := 2) (N := some 75) HT_ ?_; refine pu_ (i := 4) (N := some 77) HT_ ?_; refine tk_ (i := 3) (N := some 76) HT_ HW_ hHeld ?_; refine tk_ (i := 5) (N := some 78) HT_ HW_ hHeld ?_; refine pu_ (i := 6) (N := some 79) HT_ ?_
                      refine on_ (i := 7) (N := some 80) HT_ (fun K hK => ?_)
                      refine goes_ Try.func46 (by kernel_rfl) rfl #[.int .i64 (rd x4_2 x6_3), .int .i64 0, .int .i64 (wrap64 (a0_0 - 1))] (by rfl) rfl rfl ar_ ?_
                      with_reducible refine (spec_l1In.calls (rd x4_2 x6_3) 0 (wrap64 (a0_0 - 1)) true _ A35.out).mono ?_
                      rintro e w' ⟨rfl, ⟨nd, rfl⟩⟩
                      refine ⟨_, rfl, ?_⟩
                      obtain ⟨Ao51, co51, eo51⟩ := Kd.R_slice HO_3.out
                      (first | subst eo51 | (injection eo51 with f1_ f2_ f3_; have f4_ := f1_.symm; have f5_ := f3_.symm; clear f1_ f2_ f3_; subst f4_; subst f5_))
                      refine hK.out _ _ ⟨bc_ BK238 0, bc_ BK238 1, bc_ BK238 2, bc_ BK238 3, hHeld.2.2.2.2.1, hHeld.2.2.2.2.2.1, hHeld.2.2.2.2.2.2⟩ (fun hHeld => ?_)
                      clear hK K; refine nm_ 80 ?_; refine pu_ (i := 8) (N := some 81) HT_ ?_; refine pu_ (i := 9) (N := some 82) HT_ ?_; refine pu_ (i := 10) (N := some 83) HT_ ?_; refine pu_ (i := 11) (N := some 84) HT_ ?_; refine pu_ (i := 12) (N := some 85) HT_ ?_; refine pu_ (i := 13) (N := some 86) HT_ ?_; refine tk_ (i := 14) (N := some 87) HT_ HW_ hHeld ?_; refine pu_ (i := 15) (N := some 88) HT_ ?_; refine tk_ (i := 16) (N := some 89) HT_ HW_ hHeld ?_; refine pu_ (i := 17) (N := some 90) HT_ ?_; refine pu_ (i := 18) (N := some 91) HT_ ?_; refine pu_ (i := 19) (N := some 92) HT_ ?_; refine pu_ (i := 20) (N := some 93) HT_ ?_; refine pu_ (i := 21) (N := some 94) HT_ ?_; refine pu_ (i := 22) (N := some 95) HT_ ?_; refine pu_ (i := 23) (N := some 96) HT_ ?_; refine tk_ (i := 24) (N := some 97) HT_ HW_ hHeld ?_; refine pu_ (i := 25) (N := some 98) HT_ ?_; refine pu_ (i := 26) (N := some 99) HT_ ?_; refine pu_ (i := 27) (N := some 100) HT_ ?_; refine pu_ (i := 28) (N := some 101) HT_ ?_; refine pn_ (i := 29) (N := some 102) HT_ ?_; refine pn_ (i := 30) (N := some 103) HT_ ?_; refine pn_ (i := 31) (N := some 104) HT_ ?_; refine pn_ (i := 32) (N := some 105) HT_ ?_; refine pn_ (i := 33) (N := some 106) HT_ ?_; refine pn_ (i := 34) (N := some 107) HT_ ?_; refine pn_ (i := 35) (N := some 108) HT_ ?_; refine pn_ (i := 36) (N := some 109) HT_ ?_; refine pn_ (i := 37) (N := some 110) HT_ ?_; refine pn_ (i := 38) (N := some 111) HT_ ?_; refine pu_ (i := 39) (N := some 112) HT_ ?_; refine pu_ (i := 40) (N := some 113) HT_ ?_
                      refine done_ (done_of HT_.out (by kernel_rfl)) ?_
                      try go_wp2
                      go_meet
                      case rel => exact ⟨_, (false), (by first | rfl | (simp; done) | (simp [*]; done)), H', ⟨by have := HJ1.out; have := HK2.out; have := HK3.out; first | omega | exact Nat.le_refl _⟩, ⟨kR_ HO_3.out⟩, ⟨kR_ HO_4.out⟩, ⟨by refine kb_ ?_; exact BK238.out⟩, ⟨hbA_ HB.out⟩⟩
                    ·rw [if_neg c43] at H
                     have c43b0 : decide (0 < x6_3) = false := decide_eq_false c43
                     clear c43
                     have H' := Aside0.mk H
                     clear H
                     try go_wp2
                     replace HO_3 := Aside0.mk (Kd.R_drew HO_3.out); replace HO_4 := Aside0.mk (Kd.R_drew HO_4.out); replace BK238 := Aside0.mk (blk_drew BK238.out); replace HB := (bd_ HB)
                     have p257 : 0 ≤ (x6_3 : Int) := of_decide_eq_true (by first | (with_reducible assumption) | assumption)
                     have q257 : x6_3 < (x4_2.length : Int) := of_decide_eq_true (by first | (with_reducible assumption) | assumption)
                     obtain ⟨ad257, e257, hx257_0⟩ := Kd.at_int (Kd.R_reads' HO_4.out).2.2 x6_3 p257 q257
                     cases e257
                     replace p257 := eq_true p257
                     replace q257 := eq_true q257
                     have p259 : 0 ≤ (x6_3 : Int) := of_decide_eq_true (by first | (with_reducible assumption) | assumption)
                     have q259 : x6_3 < (x4_2.length : Int) := of_decide_eq_true (by first | (with_reducible assumption) | assumption)
                     obtain ⟨ad259, e259, hx259_0⟩ := Kd.at_int (Kd.R_reads' HO_4.out).2.2 x6_3 p259 q259
                     obtain rfl : ad257 = ad259 := (by injection e259)
                     replace p259 := eq_true p259
                     replace q259 := eq_true q259
                     have p260 : 0 ≤ ((rd x4_2 x6_3) : Int) := of_decide_eq_true (by first | (with_reducible assumption) | assumption)
                     have q260 : (rd x4_2 x6_3) < (x3_3.length : Int) := of_decide_eq_true (by first | (with_reducible assumption) | assumption)
                     (try (obtain ⟨Aq_, cq_, eq_⟩ := Kd.R_slice HO_3.out; subst eq_))
                     obtain ⟨ad260, e260, hx260_0⟩ := Kd.at_bool (Kd.R_reads' HO_3.out).2.2 (rd x4_2 x6_3) p260 q260
                     (try rw [← Nbq39.out] at hx260_0)
                     cases e260
                     replace p260 := eq_true p260
                     replace q260 := eq_true q260
                     refine start_ (n := 41) (S := fun w' => w'.cell? ⟨gb238, 0, none⟩ = some (.int .i64 a0_0) ∧ w'.cell? ⟨gb238, 1, none⟩ = some (.slice A0_1 l0_1.length c0_1) ∧ w'.cell? ⟨gb238, 2, none⟩ = some (.slice A0_2 l0_2.length c0_2) ∧ w'.cell? ⟨gb238, 3, none⟩ = some (.slice A0_3 l0_3.length c0_3) ∧ w'.cell? (ad257.add (x6_3).toNat) = some (.int .i64 (rd x4_2 x6_3)) ∧ w'.cell? (ad257.add (x6_3).toNat) = some (.int .i64 (rd x4_2 x6_3)) ∧ w'.cell? (ad260.add ((rd x4_2 x6_3)).toNat) = some (.bool false)) (ds := []) #[false, false, false, false, false, false, false, false, false, false, false, false, false, false, false, false, false, false, false, false, false, false, false, false, false, false, false, false, false, false, false, false, false, false, false, false, false, false, false, false, false] (by kernel_rfl) rfl rfl ⟨bc_ BK238 0, bc_ BK238 1, bc_ BK238 2, bc_ BK238 3, hx257_0, hx259_0, hx260_0⟩ (fun hHeld => ?_); refine with_tabW spec_ClientOk.tab14 spec_ClientOk.bits14 (fun HT_ HW_ => ?_)
                     generalize wr.drew = w52 at HO_3 HO_4 BK238 HB hx257_0 hx259_0 hx260_0 hHeld ⊢
                     refine pu_ (i := 0) (N := some 73) HT_ ?_; refine pu_ (i := 1) (N := some 74) HT_ ?_; refine pu_ (i := 2) (N := some 75) HT_ ?_; refine pu_ (i := 4) (N := some 77) HT_ ?_; refine tk_ (i := 3) (N := some 76) HT_ HW_ hHeld ?_; refine tk_ (i := 5) (N := some 78) HT_ HW_ hHeld ?_; refine pu_ (i := 6) (N := some 79) HT_ ?_
                     refine on_ (i := 7) (N := some 80) HT_ (fun K hK => ?_)
                     refine goes_ Try.func46 (by kernel_rfl) rfl #[.int .i64 (rd x4_2 x6_3), .int .i64 0, .int .i64 (wrap64 (a0_0 - 1))] (by rfl) rfl rfl ar_ ?_
                     with_reducible refine (spec_l1In.calls (rd x4_2 x6_3) 0 (wrap64 (a0_0 - 1)) true _ A35.out).mono ?_
                     rintro e w' ⟨rfl, ⟨nd, rfl⟩⟩
                     refine ⟨_, rfl, ?_⟩
                     obtain ⟨Ao53, co53, eo53⟩ := Kd.R_slice HO_3.out
                     (first | subst eo53 | (injection eo53 with f1_ f2_ f3_; have f4_ := f1_.symm; have f5_ := f3_.symm; clear f1_ f2_ f3_; subst f4_; subst f5_))
                     refine hK.out _ _ ⟨bc_ BK238 0, bc_ BK238 1, bc_ BK238 2, bc_ BK238 3, hHeld.2.2.2.2.1, hHeld.2.2.2.2.2.1, hHeld.2.2.2.2.2.2⟩ (fun hHeld => ?_)
                     clear hK K; refine nm_ 80 ?_; refine pu_ (i := 8) (N := some 81) HT_ ?_; refine pu_ (i := 9) (N := some 82) HT_ ?_; refine pu_ (i := 10) (N := some 83) HT_ ?_; refine pu_ (i := 11) (N := some 84) HT_ ?_; refine pu_ (i := 12) (N := some 85) HT_ ?_; refine pu_ (i := 13) (N := some 86) HT_ ?_; refine tk_ (i := 14) (N := some 87) HT_ HW_ hHeld ?_; refine pu_ (i := 15) (N := some 88) HT_ ?_; refine tk_ (i := 16) (N := some 89) HT_ HW_ hHeld ?_; refine pu_ (i := 17) (N := some 90) HT_ ?_; refine pu_ (i := 18) (N := some 91) HT_ ?_; refine pu_ (i := 19) (N := some 92) HT_ ?_; refine pu_ (i := 20) (N := some 93) HT_ ?_; refine pu_ (i := 21) (N := some 94) HT_ ?_; refine pn_ (i := 22) (N := some 95) HT_ ?_; refine pn_ (i := 23) (N := some 96) HT_ ?_; refine pn_ (i := 24) (N := some 97) HT_ ?_; refine pn_ (i := 25) (N := some 98) HT_ ?_; refine pn_ (i := 26) (N := some 99) HT_ ?_; refine pu_ (i := 27) (N := some 100) HT_ ?_; refine pu_ (i := 28) (N := some 101) HT_ ?_; refine pn_ (i := 29) (N := some 102) HT_ ?_; refine pn_ (i := 30) (N := some 103) HT_ ?_; refine pn_ (i := 31) (N := some 104) HT_ ?_; refine pn_ (i := 32) (N := some 105) HT_ ?_; refine pn_ (i := 33) (N := some 106) HT_ ?_; refine pn_ (i := 34) (N := some 107) HT_ ?_; refine pn_ (i := 35) (N := some 108) HT_ ?_; refine pn_ (i := 36) (N := some 109) HT_ ?_; refine pn_ (i := 37) (N := some 110) HT_ ?_; refine pn_ (i := 38) (N := some 111) HT_ ?_; refine pu_ (i := 39) (N := some 112) HT_ ?_; refine pu_ (i := 40) (N := some 113) HT_ ?_
                     refine done_ (done_of HT_.out (by kernel_rfl)) ?_
                     try go_wp2
                     go_meet
                     case rel => exact ⟨_, (false), (by first | rfl | (simp; done) | (simp [*]; done)), H', ⟨by have := HJ1.out; have := HK2.out; have := HK3.out; first | omega | exact Nat.le_refl _⟩, ⟨kR_ HO_3.out⟩, ⟨kR_ HO_4.out⟩, ⟨by refine kb_ ?_; exact BK238.out⟩, ⟨hbA_ HB.out⟩⟩
                  ·rw [if_neg c38] at H
                   exact absurd H (by simp)
                 ·rw [if_neg c37] at H
                  exact absurd H (by simp)
                ·replace c36 := Bool.eq_false_iff.mpr c36
                 subst c36
                 rw [if_neg (show ¬ (false = true) by decide)] at H
                 have H' := Aside0.mk H
                 clear H
                 try go_wp2
                 replace HO_3 := Aside0.mk (Kd.R_drew HO_3.out); replace HO_4 := Aside0.mk (Kd.R_drew HO_4.out); replace BK238 := Aside0.mk (blk_drew BK238.out); replace HB := (bd_ HB)
                 have p257 : 0 ≤ (x6_3 : Int) := of_decide_eq_true (by first | (with_reducible assumption) | assumption)
                 have q257 : x6_3 < (x4_2.length : Int) := of_decide_eq_true (by first | (with_reducible assumption) | assumption)
                 obtain ⟨ad257, e257, hx257_0⟩ := Kd.at_int (Kd.R_reads' HO_4.out).2.2 x6_3 p257 q257
                 cases e257
                 replace p257 := eq_true p257
                 replace q257 := eq_true q257
                 refine start_ (n := 41) (S := fun w' => w'.cell? ⟨gb238, 0, none⟩ = some (.int .i64 a0_0) ∧ w'.cell? ⟨gb238, 1, none⟩ = some (.slice A0_1 l0_1.length c0_1) ∧ w'.cell? ⟨gb238, 2, none⟩ = some (.slice A0_2 l0_2.length c0_2) ∧ w'.cell? ⟨gb238, 3, none⟩ = some (.slice A0_3 l0_3.length c0_3) ∧ w'.cell? (ad257.add (x6_3).toNat) = some (.int .i64 (rd x4_2 x6_3))) (ds := []) #[false, false, false, false, false, false, false, false, false, false, false, false, false, false, false, false, false, false, false, false, false, false, false, false, false, false, false, false, false, false, false, false, false, false, false, false, false, false, false, false, false] (by kernel_rfl) rfl rfl ⟨bc_ BK238 0, bc_ BK238 1, bc_ BK238 2, bc_ BK238 3, hx257_0⟩ (fun hHeld => ?_); refine with_tabW spec_ClientOk.tab14 spec_ClientOk.bits14 (fun HT_ HW_ => ?_)
                 generalize wr.drew = w54 at HO_3 HO_4 BK238 HB hx257_0 hHeld ⊢
                 refine pu_ (i := 0) (N := some 73) HT_ ?_; refine pu_ (i := 1) (N := some 74) HT_ ?_; refine pu_ (i := 2) (N := some 75) HT_ ?_; refine pu_ (i := 4) (N := some 77) HT_ ?_; refine tk_ (i := 3) (N := some 76) HT_ HW_ hHeld ?_; refine tk_ (i := 5) (N := some 78) HT_ HW_ hHeld ?_; refine pu_ (i := 6) (N := some 79) HT_ ?_
                 refine on_ (i := 7) (N := some 80) HT_ (fun K hK => ?_)
                 refine goes_ Try.func46 (by kernel_rfl) rfl #[.int .i64 (rd x4_2 x6_3), .int .i64 0, .int .i64 (wrap64 (a0_0 - 1))] (by rfl) rfl rfl ar_ ?_
                 with_reducible refine (spec_l1In.calls (rd x4_2 x6_3) 0 (wrap64 (a0_0 - 1)) false _ A35.out).mono ?_
                 rintro e w' ⟨rfl, ⟨nd, rfl⟩⟩
                 refine ⟨_, rfl, ?_⟩
                 refine hK.out _ _ ⟨bc_ BK238 0, bc_ BK238 1, bc_ BK238 2, bc_ BK238 3, hHeld.2.2.2.2⟩ (fun hHeld => ?_)
                 clear hK K; refine nm_ 80 ?_; refine pu_ (i := 8) (N := some 81) HT_ ?_; refine pu_ (i := 9) (N := some 82) HT_ ?_; refine pn_ (i := 10) (N := some 83) HT_ ?_; refine pn_ (i := 11) (N := some 84) HT_ ?_; refine pn_ (i := 12) (N := some 85) HT_ ?_; refine pn_ (i := 13) (N := some 86) HT_ ?_; refine pn_ (i := 14) (N := some 87) HT_ ?_; refine pn_ (i := 15) (N := some 88) HT_ ?_; refine pn_ (i := 16) (N := some 89) HT_ ?_; refine pu_ (i := 17) (N := some 90) HT_ ?_; refine pu_ (i := 18) (N := some 91) HT_ ?_; refine pn_ (i := 19) (N := some 92) HT_ ?_; refine pn_ (i := 20) (N := some 93) HT_ ?_; refine pn_ (i := 21) (N := some 94) HT_ ?_; refine pn_ (i := 22) (N := some 95) HT_ ?_; refine pn_ (i := 23) (N := some 96) HT_ ?_; refine pn_ (i := 24) (N := some 97) HT_ ?_; refine pn_ (i := 25) (N := some 98) HT_ ?_; refine pn_ (i := 26) (N := some 99) HT_ ?_; refine pn_ (i := 27) (N := some 100) HT_ ?_; refine pn_ (i := 28) (N := some 101) HT_ ?_; refine pn_ (i := 29) (N := some 102) HT_ ?_; refine pn_ (i := 30) (N := some 103) HT_ ?_; refine pn_ (i := 31) (N := some 104) HT_ ?_; refine pn_ (i := 32) (N := some 105) HT_ ?_; refine pn_ (i := 33) (N := some 106) HT_ ?_; refine pn_ (i := 34) (N := some 107) HT_ ?_; refine pn_ (i := 35) (N := some 108) HT_ ?_; refine pn_ (i := 36) (N := some 109) HT_ ?_; refine pn_ (i := 37) (N := some 110) HT_ ?_; refine pn_ (i := 38) (N := some 111) HT_ ?_; refine pn_ (i := 39) (N := some 112) HT_ ?_; refine pu_ (i := 40) (N := some 113) HT_ ?_
                 refine done_ (done_of HT_.out (by kernel_rfl)) ?_
                 try go_wp2
                 go_meet
                 case rel => exact ⟨_, (true), (by first | rfl | (simp; done) | (simp [*]; done)), H', ⟨by have := HJ1.out; have := HK2.out; have := HK3.out; first | omega | exact Nat.le_refl _⟩, ⟨kR_ HO_3.out⟩, ⟨kR_ HO_4.out⟩, ⟨by refine kb_ ?_; exact BK238.out⟩, ⟨hbA_ HB.out⟩⟩
               ·rw [if_neg c34] at H
                exact absurd H (by simp)
              case rest =>
               clear HC32; (try clear p2); (try clear q2); (try clear hx2); (try clear c3); (try clear q3); (try clear c4); (try clear p6); (try clear p25); (try clear q25); (try clear hx25); (try clear p26); (try clear q26); (try clear hx26); (try clear c34); (try clear c36); (try clear c37); (try clear c38); (try clear q39); (try clear c43); (try clear c43b0); (try clear c46); (try clear hx257_0); (try clear hx259_0); (try clear hx260_0); (try clear p257); (try clear p259); (try clear p260); (try clear q257); (try clear q259); (try clear q260)
               obtain ⟨kq, x113_31, rfl, HA, HJ31, HO_3, HO_4, BK238, HB⟩ := hcut
               cases kq with
               | zero => exact absurd HA.out (by simp [spec_ClientOk.j3])
               | succ kj31 =>
                have H := HA.out; clear HA
                simp only [spec_ClientOk.j3] at H
                by_cases c55 : x113_31 = true
                ·subst c55
                 rw [if_pos rfl] at H
                 obtain rfl := Option.some.inj H
                 go_wp2
                 go_ret
                 exact ⟨by first | rfl | (simp [errW_none, errW_some] <;> rfl) | (simp [*, errW_none, errW_some] <;> rfl), hbA_ HB.out⟩
                ·replace c55 := Bool.eq_false_iff.mpr c55
                 subst c55
                 rw [if_neg (show ¬ (false = true) by decide)] at H
                 by_cases c56 : 0 ≤ x6_3
                 ·rw [if_pos c56] at H
                  have c56b0 : decide (0 ≤ x6_3) = true := decide_eq_true c56
                  clear c56
                  by_cases c57 : x6_3 < (x4_2.length : Int)
                  ·rw [if_pos c57] at H
                   have c57b0 : decide (x6_3 < (x4_2.length : Int)) = true := decide_eq_true c57
                   clear c57
                   by_cases c58 : 0 ≤ (rd x4_2 x6_3)
                   ·rw [if_pos c58] at H
                    have c58b0 : decide (0 ≤ (rd x4_2 x6_3)) = true := decide_eq_true c58
                    clear c58
                    by_cases c59 : (rd x4_2 x6_3) < (x3_3.length : Int)
                    ·rw [if_pos c59] at H
                     have c59b0 : decide ((rd x4_2 x6_3) < (x3_3.length : Int)) = true := decide_eq_true c59
                     clear c59
                     obtain ⟨y264, hy264⟩ : ∃ y_ : List Bool, y_ = (x3_3.set ((rd x4_2 x6_3) : Int).toNat true) := ⟨_, rfl⟩
                     (first | replace H := sb_ hy264 H | rw [← hy264] at H)
                     have Ny264 := Aside0.mk hy264; clear hy264
                     have H' := Aside0.mk H
                     clear H
                     have p263 : 0 ≤ (x6_3 : Int) := of_decide_eq_true (by first | (with_reducible assumption) | assumption)
                     have q263 : x6_3 < (x4_2.length : Int) := of_decide_eq_true (by first | (with_reducible assumption) | assumption)
                     obtain ⟨ad263, e263, hx263_0⟩ := Kd.at_int (Kd.R_reads' HO_4.out).2.2 x6_3 p263 q263
                     cases e263
                     replace p263 := eq_true p263
                     replace q263 := eq_true q263
                     have p60 : 0 ≤ ((rd x4_2 x6_3) : Int) := of_decide_eq_true (by first | (with_reducible assumption) | assumption)
                     have q60 : ((rd x4_2 x6_3) : Int) < ((x3_3.length : Int) : Int) := of_decide_eq_true (by first | (with_reducible assumption) | assumption)
                     obtain ⟨go60, co60, eo60, gb60, gl60, cl60, HG60⟩ := Kd.R_form HO_3.out (by omega)
                     (first | cases eo60 | (injection eo60 with ea_ en_ ec_; (first | subst ea_ | (injection ea_ with ea_; subst ea_)); subst ec_; clear en_))
                     have GB60 := Aside0.mk gb60; have GG60 := Aside0.mk HG60; clear gb60 gl60 HG60
                     obtain ⟨hx60_0, hf60_0⟩ := Kd.R_celln false HO_3.out ((rd x4_2 x6_3) : Int) p60 q60
                     replace p60 := eq_true p60
                     replace q60 := eq_true q60
                     have HP61 := Kd.R_putg HO_3.out ((rd x4_2 x6_3) : Int) true
                     go_wp2_with (first | ((with_reducible refine gate_store (t := 4) (p := 119) rfl ?_); refine store_event (t := 4) (p := 119) (v := ?vo_w62) (w1 := (wc.setCell ⟨go60, ((rd x4_2 x6_3) : Int).toNat, none⟩ (.bool true))) ?hg ?ho ?hn ?hr ?_; (case ho => rfl); (case hg => rfl); (case hn => rfl); (case hr => first | (go_simp; done) | (go_simp; rfl)); intro w62 hw; have hg : wc.grownBy w62 (some go60) := (by rw [hw]; exact HP61.2); have hp_ : Kd.R Kd.bool 4 w62 w.heap.size (fun _ => True) (.slice (some ⟨go60, 0, none⟩) x3_3.length co60) y264 := (by rw [hw, Ny264.out]; exact HP61.1); clear HP61; replace HO_4 := Aside0.mk (Kd.R_over' (v := (.slice (some ⟨go60, 0, none⟩) x3_3.length co60)) (kR_ HO_4.out) (Kd.R_typed HO_3.out) (by decide) hg); replace BK238 := (bgA_ BK238 hg (Kd.R_ne HO_3.out BK238.out (by decide))); replace HO_3 := Aside0.mk (hp_); replace HB := Aside0.mk ((by rw [hw]; exact below_set (HB.out) GB60.out : Below w.heap.size w w62)); clear hg hw hp_))
                     go_roundg kj31
                     case measure => have := HJ1.out; have := HK2.out; have := HK3.out; have := HJ31.out; omega
                     case rel => exact ⟨(y264), (wrap64 (x6_3 + 1)), (by first | rfl | (simp; done) | (simp [*]; done)), H', ⟨by have := HJ1.out; have := HK2.out; have := HK3.out; have := HJ31.out; omega⟩, ⟨kR_ HO_3.out⟩, ⟨kR_ HO_4.out⟩, ⟨by refine kb_ ?_; exact BK238.out⟩, ⟨hbA_ HB.out⟩⟩
                    ·rw [if_neg c59] at H
                     exact absurd H (by simp)
                   ·rw [if_neg c58] at H
                    exact absurd H (by simp)
                  ·rw [if_neg c57] at H
                   exact absurd H (by simp)
                 ·rw [if_neg c56] at H
                  exact absurd H (by simp)
             ·rw [if_neg c31] at H
              have c31b0 : decide (x6_3 < (x4_2.length : Int)) = false := decide_eq_false c31
              clear c31
              obtain rfl := Option.some.inj H
              obtain ⟨Ao63, co63, eo63⟩ := Kd.R_slice HO_4.out
              subst eo63
              go_wp2
              go_ret
              exact ⟨by first | rfl | (simp [errW_none, errW_some] <;> rfl) | (simp [*, errW_none, errW_some] <;> rfl), hbA_ HB.out⟩
       ·rw [if_neg c14] at H
        exact absurd H (by simp)
      ·rw [if_neg c13] at H
       exact absurd H (by simp)
     ·rw [if_neg c12] at H
      exact absurd H (by simp)
    ·rw [if_neg c11] at H
     exact absurd H (by simp)
end Go.Proofs.Ytegchbdjbefdbaa.PFnExactClientHear
