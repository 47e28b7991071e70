/- Printed by wip/xp/xprint.sh out of the translation, for this claim: what each function answers, as a plain function, and that the machine does just that. No condition. -/
import Derived.Test.YtdoohdbfpnmndaaPFnWholeAskingx0
import Derived.Test.YtdoohdbfpnmndaaPFnWholeAskingx1
import Derived.Test.YtdoohdbfpnmndaaPFnWholeAskingx3
import Derived.Test.YtdoohdbfpnmndaaPFnWholeAskingx6
import Derived.Test.YtdoohdbfpnmndaaPFnWholeAskingx7
namespace Go.Proofs.Ytdoohdbfpnmndaa.PFnWholeAsking
open Go.RowKit Go.Proofs.YtdoohdbfpnmndaaW.PrintWords Go.Proofs.YtdoohdbfpnmndaaW.PrintLast Go.Proofs.YtdoohdbfpnmndaaW.PrintMore
attribute [local go_sem] max2_int min2_int max_two min_two max_three min_three max_four min_four   -- for this text's walks alone
set_option linter.unusedVariables false
set_option linter.unusedSimpArgs false
def impl_NearSend.j0 : Nat → Int → List Int → Int → Bool → List (S63) → List (S65) → Option ((List (S63)) × (List (S65)) × Int)
 | 0, _, _, _, _, _, _ => none
 | k + 1, x1, x2, x3, x29, x466000, x466001 => if x29 = true then (some (([] : List (S63)), ([] : List (S65)), (-1))) else ((impl_Near_find.f x466000 x466001 x1 x3).bind fun t470 => (if t470 ≥ 0 then ((impl_Near_copy.f k x466000 x466001).bind fun bt471 => (some (bt471.1, bt471.2, t470))) else ((impl_Near_copy.f k x466000 x466001).bind fun bt477 => (if bt477.2.length < 4398046511104 then ((some (bt477.2 ++ [(⟨x1, x2⟩ : S65)] : List (S65))).bind fun y484 => (if 0 ≤ (mx 0 (wrap64 ((y484.length : Int) - 4))) then (if (mx 0 (wrap64 ((y484.length : Int) - 4))) ≤ (y484.length : Int) then ((impl_Near_copy.f k bt477.1 (y484.drop ((mx 0 (wrap64 ((y484.length : Int) - 4))) : Int).toNat)).bind fun bt492 => (some (bt492.1, bt492.2, (-1)))) else (none)) else (none))) else (none)))))
def impl_NearSend.f (k : Nat) (l0_0 : List (S63)) (l0_1 : List (S65)) (a1 : Int) (l2 : List Int) (a3 : Int) : Option ((List (S63)) × (List (S65)) × Int) := (impl_NearOk.f k l0_0 l0_1).bind fun t467 => (if t467 = true then ((impl_word.f a1).bind fun t468 => (if t468 = true then (if (l2.length : Int) > 64 then (impl_NearSend.j0 k a1 l2 a3 true l0_0 l0_1) else ((impl_in.f a3 0 999980).bind fun t469 => (impl_NearSend.j0 k a1 l2 a3 (!t469) l0_0 l0_1))) else (impl_NearSend.j0 k a1 l2 a3 true l0_0 l0_1))) else (impl_NearSend.j0 k a1 l2 a3 true l0_0 l0_1))
theorem impl_NearSend.mono_l : ∀ k, (∀ y0 y1 y2 y3 y4 y5, LeO (impl_NearSend.j0 k y0 y1 y2 y3 y4 y5) (impl_NearSend.j0 (k + 1) y0 y1 y2 y3 y4 y5))
 | 0 => fun _ _ _ _ _ _ r h => by simp [impl_NearSend.j0] at h
 | k + 1 => by
  have ih0 := impl_NearSend.mono_l k
  ·intro y0 y1 y2 y3 y4 y5
   unfold impl_NearSend.j0
   repeat' first | (with_reducible first | apply ih0 | apply impl_NearOk.mono | apply impl_Near_copy.mono | exact LeO.refl _ | exact LeO.none _ | refine LeO.ite ?_ ?_ | refine LeO.bind ?_ fun _ => ?_) | apply ih0 | apply impl_NearOk.mono | apply impl_Near_copy.mono | exact LeO.none _ | refine LeO.ite ?_ ?_ | refine LeO.bind ?_ fun _ => ?_
theorem impl_NearSend.mono : ∀ a0 a1 a2 a3 a4 k, LeO (impl_NearSend.f k a0 a1 a2 a3 a4) (impl_NearSend.f (k + 1) a0 a1 a2 a3 a4) := by
 intro a0 a1 a2 a3 a4 k
 have ih0 := impl_NearSend.mono_l k
 unfold impl_NearSend.f
 repeat' first | (with_reducible first | apply ih0 | apply impl_NearOk.mono | apply impl_Near_copy.mono | exact LeO.refl _ | exact LeO.none _ | refine LeO.ite ?_ ?_ | refine LeO.bind ?_ fun _ => ?_) | apply ih0 | apply impl_NearOk.mono | apply impl_Near_copy.mono | exact LeO.none _ | refine LeO.ite ?_ ?_ | refine LeO.bind ?_ fun _ => ?_
set_option maxHeartbeats 8000000 in
set_option maxRecDepth 100000 in
theorem impl_NearSend.calls (k : Nat) (A0_0 : Option Addr) (c0_0 : Nat) (l0_0 : List (S63)) (A0_1 : Option Addr) (c0_1 : Nat) (l0_1 : List (S65)) (a1 : Int) (P2_ : Nat → Prop) (A2 : Option Addr) (c2 : Nat) (l2 : List Int) (a3 : Int) (r1 : List (S63)) (r2 : List (S65)) (r3 : Int) (w : World) (hr0_0 : Kd.C k63 w A0_0 l0_0.length l0_0) (hc0_0 : l0_0.length ≤ c0_0) (hr0_1 : Kd.C k65 w A0_1 l0_1.length l0_1) (hc0_1 : l0_1.length ≤ c0_1) (hs2 : Kd.V (Kd.int .u8) 5 w w.heap.size (fun k_ => P2_ k_) (.slice A2 l2.length c2) l2) (h : impl_NearSend.f k l0_0 l0_1 a1 l2 a3 = some (r1, r2, r3)) :
  Calls Try.prog 27 #[.agg #[.slice A0_0 l0_0.length c0_0, .slice A0_1 l0_1.length c0_1], .int .i64 a1, .slice A2 l2.length c2, .int .i64 a3] w fun e w' => ∃ v0_ v1_ : Value, e = .returned (.tuple #[.agg #[v0_, v1_], .int .i64 r3]) ∧ Kd.R k63 63 w' w.heap.size (fun k_ => (w.heap.size ≤ k_)) v0_ r1 ∧ Kd.N k65 65 w' w.heap.size (fun k_ => (P2_ k_ ∨ w.heap.size ≤ k_) ∧ some k_ ≠ (v0_ : Value).ownBlock) v1_ r2 ∧ Below w.heap.size w w' := by
 have hu32 := Try.underlying32; have hu65 := Try.underlying65; have HR0_0 := Aside0.mk hr0_0; have HC0_0 := Aside0.mk hc0_0; clear hr0_0 hc0_0; have HR0_1 := Aside0.mk hr0_1; have HC0_1 := Aside0.mk hc0_1; clear hr0_1 hc0_1
 have HO2 := Aside0.mk (show Kd.V (Kd.int .u8) 5 w w.heap.size (fun k_ => (P2_ k_ ∨ w.heap.size ≤ k_)) (.slice A2 l2.length c2) l2 from Kd.V_mono hs2 (fun k_ hk => .inl hk))
 have HB := Aside0.mk (Below.refl w.heap.size w)
 have H : ((impl_NearOk.f k l0_0 l0_1).bind fun t467 => (if t467 = true then ((impl_word.f a1).bind fun t468 => (if t468 = true then (if (l2.length : Int) > 64 then (impl_NearSend.j0 k a1 l2 a3 true l0_0 l0_1) else ((impl_in.f a3 0 999980).bind fun t469 => (impl_NearSend.j0 k a1 l2 a3 (!t469) l0_0 l0_1))) else (impl_NearSend.j0 k a1 l2 a3 true l0_0 l0_1))) else (impl_NearSend.j0 k a1 l2 a3 true l0_0 l0_1))) = some (r1, r2, r3) := h
 clear h; have HC5 := Aside0.mk H; clear H
 go_enter Try.func27, Try.ntmps27
 go_upto_region 1 with (first | ((with_reducible refine gate_dst (N := 4) rfl ?_); (try (refine gate_guard (by rfl) ?_; dsimp only)); refine box_ (N := 4) (cs := #[.slice A0_0 l0_0.length c0_0, .slice A0_1 l0_1.length c0_1]) (t := 32) (fun gb465 hg w6 hbox hb => ?_); replace HO2 := Aside0.mk (Kd.V_below (Kd.V_elderB (kV_ HO2.out) gb465 (Nat.le_of_eq hg.symm)) hb); have BK465 := Aside0.mk (hbox); have GW465 := ge_ hg HB; have GE465 := ge_ hg HB; replace HB := (bs_ HB hb); clear hb hbox hg) | ((with_reducible refine gate_dst (N := 8) rfl ?_); (try (refine gate_guard (by rfl) ?_; dsimp only)); refine box_ (N := 8) (cs := #[.slice none 0 0, .slice none 0 0]) (t := 32) (fun gb466 hg w7 hbox hb => ?_); replace HO2 := Aside0.mk (Kd.V_below (Kd.V_elderB (kV_ HO2.out) gb466 (Nat.le_of_eq hg.symm)) hb); have BK466 := Aside0.mk (hbox); have GW466 := ge_ hg HB; have GE466 := ge_ hg HB; replace HB := (bs_ HB hb); have NB465_466 := nl_ hg BK465; have NB466_465 := ng_ hg BK465; replace BK465 := (bbA_ BK465 hb); clear hb hbox hg))
 (try simp only [Act.put, List.setIfInBounds_toArray, List.set_cons_zero, List.set_cons_succ])
 go_cut [29] (fun v29 wc => ∃ (kq : Nat) (x29_4 : Bool), v29 = .bool x29_4 ∧ Aside0 (impl_NearSend.j0 kq a1 l2 a3 x29_4 l0_0 l0_1 = some (r1, r2, r3)) ∧ Aside0 (kq ≤ k) ∧ Aside0 (Kd.V (Kd.int .u8) 5 wc w.heap.size (fun k_ => (P2_ k_ ∨ w.heap.size ≤ k_) ∧ k_ ≠ gb465 ∧ k_ ≠ gb466) (.slice A2 l2.length c2) l2) ∧ Aside0 (wc.heap[gb465]? = some (.cells #[(.slice A0_0 l0_0.length c0_0), (.slice A0_1 l0_1.length c0_1)] 32 (0, 0))) ∧ Aside0 (wc.heap[gb466]? = some (.cells #[(.slice none 0 0), (.slice none 0 0)] 32 (0, 0))) ∧ Aside0 (Below w.heap.size w wc))
 case first =>
  have H := HC5.out; clear HC5
  replace H := Option.bind_eq_some_iff.mp H
  obtain ⟨t467, A80, H⟩ := H
  (try dsimp only at H)
  have A8 := Aside0.mk A80; clear A80
  by_cases c9 : t467 = true
  ·subst c9
   rw [if_pos rfl] at H
   replace H := Option.bind_eq_some_iff.mp H
   obtain ⟨t468, A100, H⟩ := H
   (try dsimp only at H)
   have A10 := Aside0.mk A100; clear A100
   by_cases c11 : t468 = true
   ·subst c11
    rw [if_pos rfl] at H
    by_cases c12 : (l2.length : Int) > 64
    ·rw [if_pos c12] at H
     have c12b0 : decide (64 < (l2.length : Int)) = true := decide_eq_true c12
     have c12b1 : decide (64 < l2.length) = true := decide_eq_true (by omega)
     clear c12
     (first | rw [c12b0] | (simp only [i64_w, i32_w]; rw [c12b0]) | skip)
     have H' := Aside0.mk H
     clear H; have hnb13 := NB465_466.out; have hnc13 := NB466_465.out; have Z14 := zz2 BK465
     go_wp2_with (first | ((with_reducible refine gate_callee (f := 20) rfl ?_); refine goesL_ (some 13) rfl rfl Try.func20 (by kernel_rfl) rfl #[.agg #[.slice A0_0 l0_0.length c0_0, .slice A0_1 l0_1.length c0_1]] rfl ar_ ?_; (with_reducible refine (impl_NearOk.calls k _ _ l0_0 _ _ l0_1 true _ ?side1 ?side2 ?side3 ?side4 A8.out).mono ?_); (case side1 => exact kC_ (Kd.C_below HR0_0.out HB.out)); (case side2 => exact HC0_0.out); (case side3 => exact kC_ (Kd.C_below HR0_1.out HB.out)); (case side4 => exact HC0_1.out); rintro e w15 ⟨rfl, hb⟩; refine ⟨_, rfl, ?_⟩; replace HO2 := Aside0.mk (Kd.V_below (kV_ HO2.out) hb); replace BK465 := (bbA_ BK465 hb); replace BK466 := (bbA_ BK466 hb); replace HB := (bs_ HB hb); (try clear hb); (try clear hb2); (try clear hk); (try clear hi)) | (go_at_call 61; (with_reducible refine (impl_word.calls a1 true _ A10.out).mono ?_); rintro e w' ⟨rfl, ⟨nd, rfl⟩⟩))
     go_meet
     case rel => exact ⟨_, (true), (by first | rfl | (simp; done) | (simp [*]; done)), H', ⟨by first | omega | exact Nat.le_refl _⟩, ⟨by refine kV_ ?_; exact Kd.V_mono HO2.out (fun _ hk => ⟨hk.1.1, ⟨hk.1.2, hk.2⟩⟩)⟩, ⟨by refine kb_ ?_; exact BK465.out⟩, ⟨by refine kb_ ?_; exact BK466.out⟩, ⟨hbA_ HB.out⟩⟩
    ·rw [if_neg c12] at H
     have c12b0 : decide (64 < (l2.length : Int)) = false := decide_eq_false c12
     have c12b1 : decide (64 < l2.length) = false := decide_eq_false (by omega)
     clear c12
     (first | rw [c12b0] | (simp only [i64_w, i32_w]; rw [c12b0]) | skip)
     replace H := Option.bind_eq_some_iff.mp H
     obtain ⟨t469, A160, H⟩ := H
     (try dsimp only at H)
     have A16 := Aside0.mk A160; clear A160
     have H' := Aside0.mk H
     clear H; have hnb17 := NB465_466.out; have hnc17 := NB466_465.out; have Z18 := zz2 BK465
     go_wp2_with (first | ((with_reducible refine gate_callee (f := 20) rfl ?_); refine goesL_ (some 13) rfl rfl Try.func20 (by kernel_rfl) rfl #[.agg #[.slice A0_0 l0_0.length c0_0, .slice A0_1 l0_1.length c0_1]] rfl ar_ ?_; (with_reducible refine (impl_NearOk.calls k _ _ l0_0 _ _ l0_1 true _ ?side1 ?side2 ?side3 ?side4 A8.out).mono ?_); (case side1 => exact kC_ (Kd.C_below HR0_0.out HB.out)); (case side2 => exact HC0_0.out); (case side3 => exact kC_ (Kd.C_below HR0_1.out HB.out)); (case side4 => exact HC0_1.out); rintro e w19 ⟨rfl, hb⟩; refine ⟨_, rfl, ?_⟩; replace HO2 := Aside0.mk (Kd.V_below (kV_ HO2.out) hb); replace BK465 := (bbA_ BK465 hb); replace BK466 := (bbA_ BK466 hb); replace HB := (bs_ HB hb); (try clear hb); (try clear hb2); (try clear hk); (try clear hi)) | (go_at_call 61; (with_reducible refine (impl_word.calls a1 true _ A10.out).mono ?_); rintro e w' ⟨rfl, ⟨nd, rfl⟩⟩) | (go_at_call 37; (with_reducible refine (impl_in.calls a3 0 999980 t469 _ A16.out).mono ?_); rintro e w' ⟨rfl, ⟨nd, rfl⟩⟩))
     go_meet
     case rel => exact ⟨_, (!t469), (by first | rfl | (simp; done) | (simp [*]; done)), H', ⟨by first | omega | exact Nat.le_refl _⟩, ⟨by refine kV_ ?_; exact Kd.V_mono HO2.out (fun _ hk => ⟨hk.1.1, ⟨hk.1.2, hk.2⟩⟩)⟩, ⟨by refine kb_ ?_; exact BK465.out⟩, ⟨by refine kb_ ?_; exact BK466.out⟩, ⟨hbA_ HB.out⟩⟩
   ·replace c11 := Bool.eq_false_iff.mpr c11
    subst c11
    rw [if_neg (show ¬ (false = true) by decide)] at H
    have H' := Aside0.mk H
    clear H; have hnb20 := NB465_466.out; have hnc20 := NB466_465.out; have Z21 := zz2 BK465
    go_wp2_with (first | ((with_reducible refine gate_callee (f := 20) rfl ?_); refine goesL_ (some 13) rfl rfl Try.func20 (by kernel_rfl) rfl #[.agg #[.slice A0_0 l0_0.length c0_0, .slice A0_1 l0_1.length c0_1]] rfl ar_ ?_; (with_reducible refine (impl_NearOk.calls k _ _ l0_0 _ _ l0_1 true _ ?side1 ?side2 ?side3 ?side4 A8.out).mono ?_); (case side1 => exact kC_ (Kd.C_below HR0_0.out HB.out)); (case side2 => exact HC0_0.out); (case side3 => exact kC_ (Kd.C_below HR0_1.out HB.out)); (case side4 => exact HC0_1.out); rintro e w22 ⟨rfl, hb⟩; refine ⟨_, rfl, ?_⟩; replace HO2 := Aside0.mk (Kd.V_below (kV_ HO2.out) hb); replace BK465 := (bbA_ BK465 hb); replace BK466 := (bbA_ BK466 hb); replace HB := (bs_ HB hb); (try clear hb); (try clear hb2); (try clear hk); (try clear hi)) | (go_at_call 61; (with_reducible refine (impl_word.calls a1 false _ A10.out).mono ?_); rintro e w' ⟨rfl, ⟨nd, rfl⟩⟩))
    go_meet
    case rel => exact ⟨_, (true), (by first | rfl | (simp; done) | (simp [*]; done)), H', ⟨by first | omega | exact Nat.le_refl _⟩, ⟨by refine kV_ ?_; exact Kd.V_mono HO2.out (fun _ hk => ⟨hk.1.1, ⟨hk.1.2, hk.2⟩⟩)⟩, ⟨by refine kb_ ?_; exact BK465.out⟩, ⟨by refine kb_ ?_; exact BK466.out⟩, ⟨hbA_ HB.out⟩⟩
  ·replace c9 := Bool.eq_false_iff.mpr c9
   subst c9
   rw [if_neg (show ¬ (false = true) by decide)] at H
   have H' := Aside0.mk H
   clear H; have hnb23 := NB465_466.out; have hnc23 := NB466_465.out; have Z24 := zz2 BK465
   go_wp2_with (first | ((with_reducible refine gate_callee (f := 20) rfl ?_); refine goesL_ (some 13) rfl rfl Try.func20 (by kernel_rfl) rfl #[.agg #[.slice A0_0 l0_0.length c0_0, .slice A0_1 l0_1.length c0_1]] rfl ar_ ?_; (with_reducible refine (impl_NearOk.calls k _ _ l0_0 _ _ l0_1 false _ ?side1 ?side2 ?side3 ?side4 A8.out).mono ?_); (case side1 => exact kC_ (Kd.C_below HR0_0.out HB.out)); (case side2 => exact HC0_0.out); (case side3 => exact kC_ (Kd.C_below HR0_1.out HB.out)); (case side4 => exact HC0_1.out); rintro e w25 ⟨rfl, hb⟩; refine ⟨_, rfl, ?_⟩; replace HO2 := Aside0.mk (Kd.V_below (kV_ HO2.out) hb); replace BK465 := (bbA_ BK465 hb); replace BK466 := (bbA_ BK466 hb); replace HB := (bs_ HB hb); (try clear hb); (try clear hb2); (try clear hk); (try clear hi)))
   go_meet
   case rel => exact ⟨_, (true), (by first | rfl | (simp; done) | (simp [*]; done)), H', ⟨by first | omega | exact Nat.le_refl _⟩, ⟨by refine kV_ ?_; exact Kd.V_mono HO2.out (fun _ hk => ⟨hk.1.1, ⟨hk.1.2, hk.2⟩⟩)⟩, ⟨by refine kb_ ?_; exact BK465.out⟩, ⟨by refine kb_ ?_; exact BK466.out⟩, ⟨hbA_ HB.out⟩⟩
 case rest =>
  clear HC5; (try clear c1); (try clear c2); (try clear p2); (try clear c9); (try clear c11); (try clear c12); (try clear c12b0); (try clear c12b1); (try clear c13); (try clear c17); (try clear c20); (try clear c23); (try clear Z14); (try clear Z18); (try clear Z21); (try clear Z24)
  obtain ⟨kq, x29_4, rfl, HA, HJ4, HO_2, BK465, BK466, HB⟩ := hcut
  cases kq with
  | zero => exact absurd HA.out (by simp [impl_NearSend.j0])
  | succ kj4 =>
   have H := HA.out; clear HA
   simp only [impl_NearSend.j0] at H
   by_cases c26 : x29_4 = true
   ·subst c26
    rw [if_pos rfl] at H
    simp only [Option.some.injEq, Prod.mk.injEq] at H
    obtain ⟨rfl, rfl, rfl⟩ := H
    have hnb27 := NB466_465.out; have hnc27 := NB465_466.out; have Z28 := zz2 BK466
    go_wp2
    refine bodyPost_ret (results_ct rfl _ _ gb466 32 #[.slice none 0 0, .slice none 0 0] (0, 0) _ rfl (by refine kb_ ?_; refine pz2 (cs := #[.slice none 0 0, .slice none 0 0]) ?_; refine kb_ ?_; exact BK466.out) Try.underlying32 rfl (by kernel_rfl)) rfl ?_
    exact ⟨_, _, by first | rfl | (simp [errW_none, errW_some] <;> rfl) | (simp [*, errW_none, errW_some] <;> rfl), by first | exact Kd.R_nil _ _ _ _ _ | exact Kd.N_nil _ _ _ _ _ | exact Kd.V_nil _ _ _ _ _ | exact Kd.Q_nil _ _ _ _ _ | exact Kd.S_nil _ _ _ _ _, by first | exact Kd.S_nil _ _ _ _ _ | exact Kd.N_nil _ _ _ _ _ | exact Kd.V_nil _ _ _ _ _ | exact Kd.Q_nil _ _ _ _ _ | exact Kd.R_nil _ _ _ _ _, hbA_ HB.out⟩
   ·replace c26 := Bool.eq_false_iff.mpr c26
    subst c26
    rw [if_neg (show ¬ (false = true) by decide)] at H
    replace H := Option.bind_eq_some_iff.mp H
    obtain ⟨t470, A290, H⟩ := H
    (try dsimp only at H)
    have A29 := Aside0.mk A290; clear A290
    by_cases c30 : t470 ≥ 0
    ·rw [if_pos c30] at H
     have c30b0 : decide (0 ≤ t470) = true := decide_eq_true c30
     clear c30
     replace H := Option.bind_eq_some_iff.mp H
     obtain ⟨⟨t471, t474⟩, A310, H⟩ := H
     (try dsimp only at H)
     have A31 := Aside0.mk A310; clear A310
     simp only [Option.some.injEq, Prod.mk.injEq] at H
     obtain ⟨rfl, rfl, rfl⟩ := H
     have hnb32 := NB465_466.out; have hnc32 := NB466_465.out; have Z33 := zz2 BK465
     go_wp2_with (first | ((with_reducible refine gate_callee (f := 64) rfl ?_); refine goesL_ (some 34) rfl rfl Try.func64 (by kernel_rfl) rfl #[.agg #[.slice A0_0 l0_0.length c0_0, .slice A0_1 l0_1.length c0_1], .int .i64 a1, .int .i64 a3] rfl ar_ ?_; (with_reducible refine (impl_Near_find.calls _ _ l0_0 _ _ l0_1 a1 a3 t470 _ ?side1 ?side2 ?side3 ?side4 A29.out).mono ?_); (case side1 => exact kC_ (Kd.C_below HR0_0.out HB.out)); (case side2 => exact HC0_0.out); (case side3 => exact kC_ (Kd.C_below HR0_1.out HB.out)); (case side4 => exact HC0_1.out); rintro e w34 ⟨rfl, hb⟩; refine ⟨_, rfl, ?_⟩; replace HO_2 := Aside0.mk (Kd.V_below (kV_ HO_2.out) hb); replace BK465 := (bbA_ BK465 hb); replace BK466 := (bbA_ BK466 hb); replace HB := (bs_ HB hb); (try clear hb); (try clear hb2); (try clear hk); (try clear hi); have Z35 := zz2 BK465) | ((with_reducible refine gate_callee (f := 41) rfl ?_); refine goesL_ (some 38) rfl rfl Try.func41 (by kernel_rfl) rfl #[.agg #[.slice A0_0 l0_0.length c0_0, .slice A0_1 l0_1.length c0_1]] rfl ar_ ?_; (with_reducible refine (impl_Near_copy.calls kj4 _ _ l0_0 _ _ l0_1 t471 t474 _ ?side1 ?side2 ?side3 ?side4 A31.out).mono ?_); (case side1 => exact kC_ (Kd.C_below HR0_0.out HB.out)); (case side2 => exact HC0_0.out); (case side3 => exact kC_ (Kd.C_below HR0_1.out HB.out)); (case side4 => exact HC0_1.out); rintro e w36 ⟨v472, v475, rfl, ho0, ho1, hb⟩; refine ⟨_, rfl, ?_⟩; replace HO_2 := Aside0.mk (Kd.V_mono (Kd.V_told (Kd.V_told (Kd.V_old (kV_ HO_2.out) hb) (Kd.R_base ho0)) (Kd.base_ ho1)) (fun _ h_ => op1_ h_)); have HO473 := Aside0.mk (Kd.R_lower (Kd.R_newM (M := fun k_ => (w.heap.size ≤ k_)) ho0 (below_size (hbA_ HB.out)) (fun k_ h_ => h_)) (below_size (hbA_ HB.out))); have HO476 := Aside0.mk (Kd.N_lower (Kd.N_mono (ok' := fun k_ => (P2_ k_ ∨ w.heap.size ≤ k_) ∧ some k_ ≠ (v472 : Value).ownBlock ∧ k_ ≠ gb465 ∧ k_ ≠ gb466) (Kd.S_N (Kd.S_bound (Kd.S_apart' ho1 (Kd.R_typed ho0) (by decide)))) (fun k_ hk_ => ⟨(.inr (Nat.le_trans (below_size (hbA_ HB.out)) hk_.2.1)), hk_.1.2, (fb_ BK465 k_ hk_.2.1), (fb_ BK466 k_ hk_.2.1)⟩)) (below_size (hbA_ HB.out))); replace BK465 := (bbA_ BK465 hb); replace BK466 := (bbA_ BK466 hb); replace HB := (bs_ HB hb); (try clear hb); (try clear hb2); (try clear hk); (try clear hi); (try clear ho0); (try clear ho1); obtain ⟨Ao37, co37, eo37⟩ := Kd.R_slice HO473.out; subst eo37; have Z38 := zz2 BK466; obtain ⟨Ao39, co39, eo39⟩ := Kd.N_slice HO476.out; subst eo39))
     refine bodyPost_ret (results_ct rfl _ _ gb466 32 #[.slice Ao37 t471.length co37, .slice Ao39 t474.length co39] (0, 0) _ rfl (by refine kb_ ?_; refine pz2 (cs := #[.slice none 0 0, .slice none 0 0]) ?_; refine kb_ ?_; exact BK466.out) Try.underlying32 rfl (by kernel_rfl)) rfl ?_
     exact ⟨_, _, by first | rfl | (simp [errW_none, errW_some] <;> rfl) | (simp [*, errW_none, errW_some] <;> rfl), by refine kR_ ?_; exact rfm_ ((Kd.R_types HO473.out BK466.out (by decide))) (fun _ hk => hk.1.1), by refine kN_ ?_; exact nfN_ gb466 HO476.out (fun _ hk => hk.2.2.2) (fun _ hk => ⟨hk.1.1, hk.1.2.1⟩), hbA_ HB.out⟩
    ·rw [if_neg c30] at H
     have c30b0 : decide (0 ≤ t470) = false := decide_eq_false c30
     clear c30
     replace H := Option.bind_eq_some_iff.mp H
     obtain ⟨⟨t477, t480⟩, A400, H⟩ := H
     (try dsimp only at H)
     have A40 := Aside0.mk A400; clear A400
     by_cases c41 : t480.length < 4398046511104
     ·rw [if_pos c41] at H
      have LMc41 := Aside0.mk c41; clear c41
      obtain ⟨y484, hy484⟩ : ∃ y_ : List (S65), y_ = (t480 ++ [(⟨a1, l2⟩ : S65)]) := ⟨_, rfl⟩
      (first | replace H := sb_ hy484 H | rw [← hy484] at H)
      have Ny484 := Aside0.mk hy484; clear hy484
      obtain ⟨ji42, hji42⟩ : ∃ j_ : Int, (mx 0 (wrap64 ((y484.length : Int) - 4))) = j_ := ⟨_, rfl⟩
      (first | rw [hji42] at H | simp only [hji42] at H)
      (try rw [hji42] at A29)
      (try rw [hji42] at A40)
      (try (have hji42l : 0 ≤ ji42 := by (rw [← hji42]; unfold mx; (repeat' split) <;> omega)))
      (try (have hji42m : 0 ≤ ji42 := by omega))
      have hji42_ : (if 0 < (wrap64 ((y484.length : Int) - 4)) then (wrap64 ((y484.length : Int) - 4)) else 0) = ji42 := hji42
      by_cases c43 : 0 ≤ (ji42)
      ·rw [if_pos c43] at H
       have c43b0 := eq_true c43
       have c43b1 : decide (0 ≤ (ji42)) = true := decide_eq_true c43
       clear c43
       by_cases c44 : (ji42) ≤ (y484.length : Int)
       ·rw [if_pos c44] at H
        have c44b0 := eq_true c44
        have c44b1 : decide ((ji42) ≤ (y484.length : Int)) = true := decide_eq_true c44
        clear c44
        obtain ⟨y487, hy487⟩ : ∃ y_ : List (S65), y_ = (y484.drop ((ji42) : Int).toNat) := ⟨_, rfl⟩
        (first | replace H := sb_ hy487 H | rw [← hy487] at H)
        have Ny487 := Aside0.mk hy487; clear hy487
        replace H := Option.bind_eq_some_iff.mp H
        obtain ⟨⟨t492, t495⟩, A450, H⟩ := H
        (try dsimp only at H)
        have A45 := Aside0.mk A450; clear A450
        simp only [Option.some.injEq, Prod.mk.injEq] at H
        obtain ⟨rfl, rfl, rfl⟩ := H
        have hnb46 := NB465_466.out; have hnc46 := NB466_465.out; have Z47 := zz2 BK465
        go_wp2_with (first | ((with_reducible refine gate_callee (f := 64) rfl ?_); refine goesL_ (some 34) rfl rfl Try.func64 (by kernel_rfl) rfl #[.agg #[.slice A0_0 l0_0.length c0_0, .slice A0_1 l0_1.length c0_1], .int .i64 a1, .int .i64 a3] rfl ar_ ?_; (with_reducible refine (impl_Near_find.calls _ _ l0_0 _ _ l0_1 a1 a3 t470 _ ?side1 ?side2 ?side3 ?side4 A29.out).mono ?_); (case side1 => exact kC_ (Kd.C_below HR0_0.out HB.out)); (case side2 => exact HC0_0.out); (case side3 => exact kC_ (Kd.C_below HR0_1.out HB.out)); (case side4 => exact HC0_1.out); rintro e w48 ⟨rfl, hb⟩; refine ⟨_, rfl, ?_⟩; replace HO_2 := Aside0.mk (Kd.V_below (kV_ HO_2.out) hb); replace BK465 := (bbA_ BK465 hb); replace BK466 := (bbA_ BK466 hb); replace HB := (bs_ HB hb); (try clear hb); (try clear hb2); (try clear hk); (try clear hi); have Z49 := zz2 BK465) | ((with_reducible refine gate_callee (f := 41) rfl ?_); refine goesL_ (some 41) rfl rfl Try.func41 (by kernel_rfl) rfl #[.agg #[.slice A0_0 l0_0.length c0_0, .slice A0_1 l0_1.length c0_1]] rfl ar_ ?_; (with_reducible refine (impl_Near_copy.calls kj4 _ _ l0_0 _ _ l0_1 t477 t480 _ ?side1 ?side2 ?side3 ?side4 A40.out).mono ?_); (case side1 => exact kC_ (Kd.C_below HR0_0.out HB.out)); (case side2 => exact HC0_0.out); (case side3 => exact kC_ (Kd.C_below HR0_1.out HB.out)); (case side4 => exact HC0_1.out); rintro e w50 ⟨v478, v481, rfl, ho0, ho1, hb⟩; refine ⟨_, rfl, ?_⟩; replace HO_2 := Aside0.mk (Kd.V_mono (Kd.V_told (Kd.V_told (Kd.V_old (kV_ HO_2.out) hb) (Kd.R_base ho0)) (Kd.base_ ho1)) (fun _ h_ => op1_ h_)); have HO479 := Aside0.mk (Kd.R_lower (Kd.R_newM (M := fun k_ => (w.heap.size ≤ k_)) ho0 (below_size (hbA_ HB.out)) (fun k_ h_ => h_)) (below_size (hbA_ HB.out))); have HO482 := Aside0.mk (Kd.N_lower (Kd.N_mono (ok' := fun k_ => (P2_ k_ ∨ w.heap.size ≤ k_) ∧ some k_ ≠ (v478 : Value).ownBlock ∧ k_ ≠ gb465 ∧ k_ ≠ gb466) (Kd.S_N (Kd.S_bound (Kd.S_apart' ho1 (Kd.R_typed ho0) (by decide)))) (fun k_ hk_ => ⟨(.inr (Nat.le_trans (below_size (hbA_ HB.out)) hk_.2.1)), hk_.1.2, (fb_ BK465 k_ hk_.2.1), (fb_ BK466 k_ hk_.2.1)⟩)) (below_size (hbA_ HB.out))); replace BK465 := (bbA_ BK465 hb); replace BK466 := (bbA_ BK466 hb); replace HB := (bs_ HB hb); (try clear hb); (try clear hb2); (try clear hk); (try clear hi); (try clear ho0); (try clear ho1)) | ((with_reducible refine gate_dst (N := 11) rfl ?_); (try (refine gate_guard (by rfl) ?_; dsimp only)); refine box_ (N := 11) (cs := #[.slice none 0 0, .slice none 0 0]) (t := 32) (fun gb483 hg w51 hbox hb => ?_); replace HO_2 := Aside0.mk (Kd.V_below (Kd.V_elderB (kV_ HO_2.out) gb483 (Nat.le_of_eq hg.symm)) hb); replace HO479 := Aside0.mk (Kd.R_below (kR_ HO479.out) hb); replace HO482 := Aside0.mk (Kd.N_below (Kd.N_elderB (kN_ HO482.out) gb483 (Nat.le_of_eq hg.symm)) hb); have BK483 := Aside0.mk (hbox); have GW483 := ge_ hg HB; have GE483 := ge_ hg HB; replace HB := (bs_ HB hb); have NB465_483 := nl_ hg BK465; have NB483_465 := ng_ hg BK465; replace BK465 := (bbA_ BK465 hb); have NB466_483 := nl_ hg BK466; have NB483_466 := ng_ hg BK466; replace BK466 := (bbA_ BK466 hb); clear hb hbox hg; obtain ⟨Ao52, co52, eo52⟩ := Kd.R_slice HO479.out; subst eo52; have hnb53 := NB483_465.out; have hnc53 := NB465_483.out; have hnb54 := NB483_466.out; have hnc54 := NB466_483.out; have Z55 := zz2 BK483; obtain ⟨Ao56, co56, eo56⟩ := Kd.N_slice HO482.out; subst eo56) | ((with_reducible refine gate_store (t := 32) (p := 11) rfl ?_); refine store_event (t := 32) (p := 11) (v := ?vo_w57) (w1 := ((w51.setCell ⟨gb483, 0, none⟩ (.slice Ao52 t477.length co52)).setCell ⟨gb483, 1, none⟩ (.slice Ao56 t480.length co56))) ?hg ?ho ?hn ?hr ?_; (case ho => rfl); (case hg => rfl); (case hn => rfl); (case hr => first | (go_simp; done) | (go_simp; rfl)); intro w57 hw; have n0_ : Aside0 (Kd.V (Kd.int .u8) 5 w57 w.heap.size (fun k_ => (P2_ k_ ∨ w.heap.size ≤ k_) ∧ some k_ ≠ (.slice Ao52 t477.length co52 : Value).ownBlock ∧ some k_ ≠ (.slice Ao56 t480.length co56 : Value).ownBlock ∧ k_ ≠ gb465 ∧ k_ ≠ gb466 ∧ k_ ≠ gb483) (.slice A2 l2.length c2) l2) := ⟨(by rw [hw]; exact (by refine kV_ ?_; exact nfV_ gb483 HO_2.out (fun _ hk => hk.2) (fun _ hk => ⟨hk.1.1.1.1.1, ⟨hk.1.1.1.2, ⟨hk.1.1.2, ⟨hk.1.1.1.1.2.1, ⟨hk.1.1.1.1.2.2, hk.1.2⟩⟩⟩⟩⟩)))⟩; have n1_ : Aside0 (Kd.R k63 63 w57 w.heap.size (fun k_ => (w.heap.size ≤ k_)) (.slice Ao52 t477.length co52) t477) := ⟨(by rw [hw]; exact (by refine kR_ ?_; exact rfm_ ((Kd.R_types HO479.out BK483.out (by decide))) (fun _ hk => hk.1.1)))⟩; have n2_ : Aside0 (Kd.N k65 65 w57 w.heap.size (fun k_ => (P2_ k_ ∨ w.heap.size ≤ k_) ∧ some k_ ≠ (.slice Ao52 t477.length co52 : Value).ownBlock ∧ k_ ≠ gb465 ∧ k_ ≠ gb466 ∧ k_ ≠ gb483) (.slice Ao56 t480.length co56) t480) := ⟨(by rw [hw]; exact (by refine kN_ ?_; exact nfN_ gb483 HO482.out (fun _ hk => hk.2) (fun _ hk => ⟨hk.1.1.1, ⟨hk.1.1.2.1, ⟨hk.1.1.2.2.1, ⟨hk.1.1.2.2.2, hk.1.2⟩⟩⟩⟩)))⟩; have n3_ : Aside0 (w57.heap[gb465]? = some (.cells #[.slice A0_0 l0_0.length c0_0, .slice A0_1 l0_1.length c0_1] 32 (0, 0))) := ⟨(by rw [hw]; exact (by exact kf_ BK465.out))⟩; have n4_ : Aside0 (w57.heap[gb466]? = some (.cells #[.slice none 0 0, .slice none 0 0] 32 (0, 0))) := ⟨(by rw [hw]; exact (by exact kf_ BK466.out))⟩; have n5_ : Aside0 (w57.heap[gb483]? = some (.cells #[.slice Ao52 t477.length co52, .slice Ao56 t480.length co56] 32 (0, 0))) := ⟨(by rw [hw]; exact (by refine kb_ ?_; refine pz2 (cs := #[.slice none 0 0, .slice none 0 0]) ?_; refine kb_ ?_; exact BK483.out))⟩; have n6_ : Aside0 (Below w.heap.size w w57) := ⟨(by rw [hw]; exact (hbA_ HB.out))⟩; clear hw; clear HO_2; clear HO479; clear HO482; clear BK465; clear BK466; clear BK483; clear HB; have HO_2 := n0_; have HO479 := n1_; have HO482 := n2_; have BK465 := n3_; have BK466 := n4_; have BK483 := n5_; have HB := n6_; clear n0_ n1_ n2_ n3_ n4_ n5_ n6_; have Z58 := zz2 BK483) | ((with_reducible refine gate_builtin (b := .append) (xs := #[.tmp 43, .tmp 47]) rfl ?_); (try (refine gate_guard (by rfl) ?_; dsimp only)); at_builtin; refine Kd.N_append k65 (w0 := w) w.heap.size rfl (.tmp 43) (.tmp 47) 30 65 (.agg #[(.int .i64 0), (.slice none 0 0)]) 32 rfl Try.underlying30 info65 rfl (by decide) (by omega) (.slice Ao56 t480.length co56) t480 (⟨a1, l2⟩ : S65) [.int .i64 a1, .slice A2 l2.length c2] (fun k_ => (P2_ k_ ∨ w.heap.size ≤ k_) ∧ some k_ ≠ (.slice Ao52 t477.length co52 : Value).ownBlock ∧ k_ ≠ gb465 ∧ k_ ≠ gb466 ∧ k_ ≠ gb483) (fun k_ => ((fun k_ => (P2_ k_ ∨ w.heap.size ≤ k_) ∧ some k_ ≠ (.slice Ao52 t477.length co52 : Value).ownBlock ∧ k_ ≠ gb465 ∧ k_ ≠ gb466 ∧ k_ ≠ gb483)) k_ ∧ some k_ ≠ (.slice Ao56 t480.length co56 : Value).ownBlock) rfl rfl ?aP (fun _ hk => hk) ?aF ?aO ?aB ?aS ?aL ?_; (case aP => exact (k65_mkF _ _ (⟨a1, l2⟩ : S65) (Kd.V_reads' (Kd.V_mono (ok' := (fun k_ => ((fun k_ => (P2_ k_ ∨ w.heap.size ≤ k_) ∧ some k_ ≠ (.slice Ao52 t477.length co52 : Value).ownBlock ∧ k_ ≠ gb465 ∧ k_ ≠ gb466 ∧ k_ ≠ gb483)) k_ ∧ some k_ ≠ (.slice Ao56 t480.length co56 : Value).ownBlock)) (HO_2.out) (fun k_ hk => ⟨⟨hk.1, ⟨hk.2.1, ⟨hk.2.2.2.1, ⟨hk.2.2.2.2.1, hk.2.2.2.2.2⟩⟩⟩⟩, hk.2.2.1⟩))).2.1 (Kd.V_F (Kd.V_mono (ok' := (fun k_ => ((fun k_ => (P2_ k_ ∨ w.heap.size ≤ k_) ∧ some k_ ≠ (.slice Ao52 t477.length co52 : Value).ownBlock ∧ k_ ≠ gb465 ∧ k_ ≠ gb466 ∧ k_ ≠ gb483)) k_ ∧ some k_ ≠ (.slice Ao56 t480.length co56 : Value).ownBlock)) (HO_2.out) (fun k_ hk => ⟨⟨hk.1, ⟨hk.2.1, ⟨hk.2.2.2.1, ⟨hk.2.2.2.2.1, hk.2.2.2.2.2⟩⟩⟩⟩, hk.2.2.1⟩))))); (case aB => exact (hbA_ HB.out)); (case aF => exact (fun k_ hk => ⟨(.inr (Nat.le_trans (below_size (hbA_ HB.out)) hk)), Kd.fresh' (Kd.R_lt (kR_ HO479.out)) k_ hk, fb_ BK465 k_ hk, fb_ BK466 k_ hk, fb_ BK483 k_ hk⟩)); (case aO => exact (kN_ HO482.out)); (case aS => exact (below_size (hbA_ HB.out))); (case aL => have := LMc41.out; omega); intro v485 w59 ho hb hg hat; rw [← Ny484.out] at ho; replace HO_2 := Aside0.mk (Kd.V_afterv (ok := (fun k_ => (P2_ k_ ∨ w.heap.size ≤ k_) ∧ some k_ ≠ (.slice Ao52 t477.length co52 : Value).ownBlock ∧ k_ ≠ gb465 ∧ k_ ≠ gb466 ∧ k_ ≠ gb483)) (by refine kV_ ?_; exact Kd.V_mono HO_2.out (fun _ hk => ⟨⟨hk.1, ⟨hk.2.1, ⟨hk.2.2.2.1, ⟨hk.2.2.2.2.1, hk.2.2.2.2.2⟩⟩⟩⟩, hk.2.2.1⟩)) hg hat); replace BK465 := (bgA_ BK465 hg (Kd.N_ne HO482.out BK465.out (by decide))); replace BK466 := (bgA_ BK466 hg (Kd.N_ne HO482.out BK466.out (by decide))); replace HO479 := Aside0.mk (Kd.R_over' (kR_ HO479.out) (Kd.N_typed (kN_ HO482.out)) (by decide) hg); replace BK483 := (bgA_ BK483 hg (Kd.N_ne HO482.out BK483.out (by decide))); replace HB := Aside0.mk (hb); have HO486 := Aside0.mk (ho); clear HO482; clear ho hb hg hat; obtain ⟨Ao60, co60, eo60⟩ := Kd.N_slice HO486.out; subst eo60; have Z61 := zz2 BK483) | ((with_reducible refine gate_store (t := 30) (p := 49) rfl ?_); refine store_event (t := 30) (p := 49) (v := ?vo_w62) (w1 := (w59.setCell ⟨gb483, 1, none⟩ (.slice Ao60 y484.length co60))) ?hg ?ho ?hn ?hr ?_; (case ho => rfl); (case hg => rfl); (case hn => rfl); (case hr => first | (go_simp; done) | (go_simp; rfl)); intro w62 hw; have n0_ : Aside0 (Kd.V (Kd.int .u8) 5 w62 w.heap.size (fun k_ => (P2_ k_ ∨ w.heap.size ≤ k_) ∧ some k_ ≠ (.slice Ao52 t477.length co52 : Value).ownBlock ∧ some k_ ≠ (.slice Ao60 y484.length co60 : Value).ownBlock ∧ k_ ≠ gb465 ∧ k_ ≠ gb466 ∧ k_ ≠ gb483) (.slice A2 l2.length c2) l2) := ⟨(by rw [hw]; exact (by refine kV_ ?_; exact nfV_ gb483 HO_2.out (fun _ hk => hk.1.2.2.2.2) (fun _ hk => ⟨hk.1.1.1, ⟨hk.1.1.2.1, ⟨hk.1.2, ⟨hk.1.1.2.2.1, ⟨hk.1.1.2.2.2.1, hk.1.1.2.2.2.2⟩⟩⟩⟩⟩)))⟩; have n1_ : Aside0 (Kd.R k63 63 w62 w.heap.size (fun k_ => (w.heap.size ≤ k_)) (.slice Ao52 t477.length co52) t477) := ⟨(by rw [hw]; exact (by refine kR_ ?_; exact Kd.R_mono (Kd.R_f gb483 1 (.slice Ao60 y484.length co60) (Kd.R_types HO479.out BK483.out (by decide))) (fun _ hk => hk.1)))⟩; have n2_ : Aside0 (Kd.N k65 65 w62 w.heap.size (fun k_ => (P2_ k_ ∨ w.heap.size ≤ k_) ∧ some k_ ≠ (.slice Ao52 t477.length co52 : Value).ownBlock ∧ k_ ≠ gb465 ∧ k_ ≠ gb466 ∧ k_ ≠ gb483) (.slice Ao60 y484.length co60) y484) := ⟨(by rw [hw]; exact (by refine kN_ ?_; exact nfN_ gb483 HO486.out (fun _ hk => hk.2.2.2.2) (fun _ hk => ⟨hk.1.1, ⟨hk.1.2.1, ⟨hk.1.2.2.1, ⟨hk.1.2.2.2.1, hk.1.2.2.2.2⟩⟩⟩⟩)))⟩; have n3_ : Aside0 (w62.heap[gb465]? = some (.cells #[.slice A0_0 l0_0.length c0_0, .slice A0_1 l0_1.length c0_1] 32 (0, 0))) := ⟨(by rw [hw]; exact (by exact kf_ BK465.out))⟩; have n4_ : Aside0 (w62.heap[gb466]? = some (.cells #[.slice none 0 0, .slice none 0 0] 32 (0, 0))) := ⟨(by rw [hw]; exact (by exact kf_ BK466.out))⟩; have n5_ : Aside0 (w62.heap[gb483]? = some (.cells #[.slice Ao52 t477.length co52, .slice Ao60 y484.length co60] 32 (0, 0))) := ⟨(by rw [hw]; exact (by refine kb_ ?_; refine blk_put (cs := #[.slice Ao52 t477.length co52, .slice Ao56 t480.length co56]) ?_ 1 _ rfl; refine kb_ ?_; exact BK483.out))⟩; have n6_ : Aside0 (Below w.heap.size w w62) := ⟨(by rw [hw]; exact (hbA_ HB.out))⟩; clear hw; clear HO_2; clear HO479; clear HO486; clear BK465; clear BK466; clear BK483; clear HB; have HO_2 := n0_; have HO479 := n1_; have HO486 := n2_; have BK465 := n3_; have BK466 := n4_; have BK483 := n5_; have HB := n6_; clear n0_ n1_ n2_ n3_ n4_ n5_ n6_; have Z63 := zz2 BK483; have q64 : ((ji42) : Int) ≤ ((y484.length : Int) : Int) := of_decide_eq_true (by first | (with_reducible assumption) | assumption); obtain ⟨i064, hi064, _, hsz64, _⟩ := info_parts info65; have hroom64 : y484.length ≤ co60 := (Kd.N_reads' HO486.out).2.1; have hC64 : Kd.F k65 _ _ Ao60 y484.length y484 := (Kd.V_at (base := w.heap.size) (Kd.N_V HO486.out)).2.2; have q064 : (0 : Int) ≤ ((ji42) : Int) := of_decide_eq_true (by first | (with_reducible assumption) | assumption); have hcut64 := cut_from (P := Try.prog) 30 65 .i64 Try.underlying30 hi064 2 hsz64 Ao60 y484.length co60 (ji42) q064 q64; have hr64 := Kd.F_cut (m := ((ji42) : Int).toNat) (c := co60) hC64 (by omega) hroom64; obtain ⟨A64, hA64⟩ : ∃ A1, A1 = (if co60 = ((ji42) : Int).toNat then Ao60 else (Ao60 : Option Addr).map (·.add (((ji42) : Int).toNat * 2))) := ⟨_, rfl⟩; obtain ⟨c64, hc64⟩ : ∃ c1, c1 = co60 - ((ji42) : Int).toNat := ⟨_, rfl⟩; have hy64 : y487.length = y484.length - ((ji42) : Int).toNat := (by rw [Ny487.out, List.length_drop] <;> omega); rw [show (y484).drop ((ji42) : Int).toNat = y487 from Ny487.out.symm] at hr64; replace hr64 : Kd.F k65 _ _ A64 y487.length y487 := (by rw [hA64]; exact hr64); rw [← hy64, ← hA64, ← hc64] at hcut64; have HO491 := Aside0.mk (show Kd.V k65 65 _ w.heap.size _ (.slice A64 y487.length c64) y487 from Kd.V_mk (by rw [hy64, hc64]; exact Nat.sub_le_sub_right hroom64 _) hr64); have HC491 := Aside0.mk (show y487.length ≤ c64 from by rw [hy64, hc64]; exact Nat.sub_le_sub_right hroom64 _); clear hr64 hC64 hroom64 hi064 hsz64 hc64; have KY64 := Aside0.mk hy64; have KA64 := Aside0.mk hA64; clear hy64 hA64; replace q64 := eq_true q64) | ((with_reducible refine gate_callee (f := 41) rfl ?_); refine goesL_ (some 60) rfl rfl Try.func41 (by kernel_rfl) rfl #[.agg #[.slice Ao52 t477.length co52, .slice A64 y487.length c64]] rfl ar_ ?_; (with_reducible refine (impl_Near_copy.calls kj4 _ _ t477 _ _ y487 t492 t495 _ ?side1 ?side2 ?side3 ?side4 A45.out).mono ?_); (case side1 => refine (Kd.R_reads' (e := 63) (base := w.heap.size) (ok := fun k_ => (w.heap.size ≤ k_)) (n := t477.length) (c := co52) ?_).2.2; exact (by refine kR_ ?_; exact (Kd.R_mono (Kd.R_f gb483 1 (.slice A64 y487.length c64) (Kd.R_types HO479.out BK483.out (by decide))) (fun _ h_ => op1_ h_)))); (case side2 => exact (Kd.R_reads' HO479.out).2.1); (case side3 => refine (Kd.V_reads' (e := 65) (base := w.heap.size) (ok := fun k_ => ((P2_ k_ ∨ w.heap.size ≤ k_) ∧ (some k_ ≠ (.slice Ao52 t477.length co52 : Value).ownBlock ∧ (k_ ≠ gb465 ∧ (k_ ≠ gb466 ∧ k_ ≠ gb483))))) (n := y487.length) (c := c64) ?_).2.2; exact (by refine kV_ ?_; exact (nfV_ gb483 HO491.out (fun _ hk => hk.2.2.2.2) (fun _ h_ => op1_ h_)))); (case side4 => exact (Kd.V_reads' HO491.out).2.1); rintro e w65 ⟨v493, v496, rfl, ho0, ho1, hb⟩; refine ⟨_, rfl, ?_⟩; replace HO_2 := Aside0.mk (Kd.V_mono (Kd.V_told (Kd.V_told (Kd.V_old (by refine kV_ ?_; exact (nfV_ gb483 HO_2.out (fun _ hk => hk.2.2.2.2.2) (fun _ h_ => op1_ h_))) hb) (Kd.R_base ho0)) (Kd.base_ ho1)) (fun _ h_ => op1_ h_)); replace HO491 := Aside0.mk (Kd.V_mono (Kd.V_told (Kd.V_told (Kd.V_old (by refine kV_ ?_; exact (nfV_ gb483 HO491.out (fun _ hk => hk.2.2.2.2) (fun _ h_ => op1_ h_))) hb) (Kd.R_base ho0)) (Kd.base_ ho1)) (fun _ h_ => op1_ h_)); have HO494 := Aside0.mk (Kd.R_lower (Kd.R_new' (Kd.R_newM (M := fun k_ => (w.heap.size ≤ k_)) ho0 (below_size (hbA_ HB.out)) (fun k_ h_ => h_)) (Kd.R_lt (by refine kR_ ?_; exact (Kd.R_mono (Kd.R_f gb483 1 (.slice A64 y487.length c64) (Kd.R_types HO479.out BK483.out (by decide))) (fun _ h_ => op1_ h_))))) (below_size (hbA_ HB.out))); have HO497 := Aside0.mk (Kd.N_lower (Kd.N_mono (ok' := fun k_ => (P2_ k_ ∨ w.heap.size ≤ k_) ∧ some k_ ≠ (v493 : Value).ownBlock ∧ some k_ ≠ (.slice Ao52 t477.length co52 : Value).ownBlock ∧ some k_ ≠ (.slice Ao60 y484.length co60 : Value).ownBlock ∧ k_ ≠ gb465 ∧ k_ ≠ gb466 ∧ k_ ≠ gb483) (Kd.S_N (Kd.S_bound (Kd.S_apart' ho1 (Kd.R_typed ho0) (by decide)))) (fun k_ hk_ => ⟨(.inr (Nat.le_trans (below_size (hbA_ HB.out)) hk_.2.1)), hk_.1.2, (Kd.fresh' (Kd.R_lt (by refine kR_ ?_; exact (Kd.R_mono (Kd.R_f gb483 1 (.slice A64 y487.length c64) (Kd.R_types HO479.out BK483.out (by decide))) (fun _ h_ => op1_ h_)))) k_ hk_.2.1), (Kd.fresh' (Kd.N_lt (by refine kN_ ?_; exact (nfN_ gb483 HO486.out (fun _ hk => hk.2.2.2.2) (fun _ h_ => op1_ h_)))) k_ hk_.2.1), (Kd.freshB (g := gb465) (o := .cells #[.slice A0_0 l0_0.length c0_0, .slice A0_1 l0_1.length c0_1] 32 (0, 0)) (by exact kf_ BK465.out) k_ hk_.2.1), (Kd.freshB (g := gb466) (o := .cells #[.slice none 0 0, .slice none 0 0] 32 (0, 0)) (by exact kf_ BK466.out) k_ hk_.2.1), (Kd.freshB (g := gb483) (o := .cells #[.slice Ao52 t477.length co52, .slice A64 y487.length c64] 32 (0, 0)) (by refine kb_ ?_; refine blk_put (cs := #[.slice Ao52 t477.length co52, .slice Ao60 y484.length co60]) ?_ 1 _ rfl; refine kb_ ?_; exact BK483.out) k_ hk_.2.1)⟩)) (below_size (hbA_ HB.out))); replace HO479 := Aside0.mk (Kd.R_elder' (by refine kR_ ?_; exact (Kd.R_mono (Kd.R_f gb483 1 (.slice A64 y487.length c64) (Kd.R_types HO479.out BK483.out (by decide))) (fun _ h_ => op1_ h_))) (Kd.R_base ho0) hb); replace HO486 := Aside0.mk (Kd.N_mono (Kd.N_told (Kd.N_told (Kd.N_old (by refine kN_ ?_; exact (nfN_ gb483 HO486.out (fun _ hk => hk.2.2.2.2) (fun _ h_ => op1_ h_))) hb) (Kd.R_base ho0)) (Kd.base_ ho1)) (fun _ h_ => op1_ h_)); replace BK465 := Aside0.mk (blk_below (g := gb465) (o := .cells #[.slice A0_0 l0_0.length c0_0, .slice A0_1 l0_1.length c0_1] 32 (0, 0)) (by exact kf_ BK465.out) hb); replace BK466 := Aside0.mk (blk_below (g := gb466) (o := .cells #[.slice none 0 0, .slice none 0 0] 32 (0, 0)) (by exact kf_ BK466.out) hb); replace BK483 := Aside0.mk (blk_below (g := gb483) (o := .cells #[.slice Ao52 t477.length co52, .slice A64 y487.length c64] 32 (0, 0)) (by refine kb_ ?_; refine blk_put (cs := #[.slice Ao52 t477.length co52, .slice Ao60 y484.length co60]) ?_ 1 _ rfl; refine kb_ ?_; exact BK483.out) hb); replace HB := (bs_ HB hb); (try clear hb); (try clear hb2); (try clear hk); (try clear hi); (try clear ho0); (try clear ho1); obtain ⟨Ao66, co66, eo66⟩ := Kd.R_slice HO494.out; subst eo66; have Z67 := zz2 BK466; obtain ⟨Ao68, co68, eo68⟩ := Kd.N_slice HO497.out; subst eo68))
        refine bodyPost_ret (results_ct rfl _ _ gb466 32 #[.slice Ao66 t492.length co66, .slice Ao68 t495.length co68] (0, 0) _ rfl (by refine kb_ ?_; refine pz2 (cs := #[.slice none 0 0, .slice none 0 0]) ?_; refine kb_ ?_; exact BK466.out) Try.underlying32 rfl (by kernel_rfl)) rfl ?_
        exact ⟨_, _, by first | rfl | (simp [errW_none, errW_some] <;> rfl) | (simp only [← hji42]; first | rfl | (simp [errW_none, errW_some] <;> rfl)) | (simp [*, errW_none, errW_some] <;> rfl), by refine kR_ ?_; exact rfm_ ((Kd.R_types HO494.out BK466.out (by decide))) (fun _ hk => hk.1.1.1), by refine kN_ ?_; exact nfN_ gb466 HO497.out (fun _ hk => hk.2.2.2.2.2.1) (fun _ hk => ⟨hk.1.1, hk.1.2.1⟩), hbA_ HB.out⟩
       ·rw [if_neg c44] at H
        exact absurd H (by simp)
      ·rw [if_neg c43] at H
       exact absurd H (by simp)
     ·rw [if_neg c41] at H
      exact absurd H (by simp)
def impl_NearTells.j0 : Nat → Int → Int → Bool → Int → Int → Int → Int → Option (Int × Int × Int × Int × Bool)
 | 0, _, _, _, _, _, _, _ => none
 | k + 1, x0, x1, x31, x499000, x499001, x499002, x499003 => if x31 = true then (some (0, 0, 0, 0, false)) else (some (2, x0, x1, x499002, true))
def impl_NearTells.f (k : Nat) (a0 : Int) (a1 : Int) (a2_0 : Int) (a2_1 : Int) (a2_2 : Int) (a2_3 : Int) : Option (Int × Int × Int × Int × Bool) := (impl_in.f a0 0 254).bind fun t500 => (if t500 = true then ((impl_word.f a1).bind fun t501 => (if t501 = true then ((impl_QueryOk.f a2_0 a2_1 a2_2 a2_3).bind fun t502 => (if t502 = true then (if a2_0 = 1 then (impl_NearTells.j0 k a0 a1 (a2_3 != a1) a2_0 a2_1 a2_2 a2_3) else (impl_NearTells.j0 k a0 a1 true a2_0 a2_1 a2_2 a2_3)) else (impl_NearTells.j0 k a0 a1 true a2_0 a2_1 a2_2 a2_3))) else (impl_NearTells.j0 k a0 a1 true a2_0 a2_1 a2_2 a2_3))) else (impl_NearTells.j0 k a0 a1 true a2_0 a2_1 a2_2 a2_3))
theorem impl_NearTells.mono_l : ∀ k, (∀ y0 y1 y2 y3 y4 y5 y6, LeO (impl_NearTells.j0 k y0 y1 y2 y3 y4 y5 y6) (impl_NearTells.j0 (k + 1) y0 y1 y2 y3 y4 y5 y6))
 | 0 => fun _ _ _ _ _ _ _ r h => by simp [impl_NearTells.j0] at h
 | k + 1 => by
  have ih0 := impl_NearTells.mono_l k
  ·intro y0 y1 y2 y3 y4 y5 y6
   unfold impl_NearTells.j0
   repeat' first | (with_reducible first | apply ih0 | exact LeO.refl _ | exact LeO.none _ | refine LeO.ite ?_ ?_ | refine LeO.bind ?_ fun _ => ?_) | apply ih0 | exact LeO.none _ | refine LeO.ite ?_ ?_ | refine LeO.bind ?_ fun _ => ?_
theorem impl_NearTells.mono : ∀ a0 a1 a2 a3 a4 a5 k, LeO (impl_NearTells.f k a0 a1 a2 a3 a4 a5) (impl_NearTells.f (k + 1) a0 a1 a2 a3 a4 a5) := by
 intro a0 a1 a2 a3 a4 a5 k
 have ih0 := impl_NearTells.mono_l k
 unfold impl_NearTells.f
 repeat' first | (with_reducible first | apply ih0 | exact LeO.refl _ | exact LeO.none _ | refine LeO.ite ?_ ?_ | refine LeO.bind ?_ fun _ => ?_) | apply ih0 | exact LeO.none _ | refine LeO.ite ?_ ?_ | refine LeO.bind ?_ fun _ => ?_
set_option maxHeartbeats 8000000 in
set_option maxRecDepth 100000 in
theorem impl_NearTells.calls (k : Nat) (a0 : Int) (a1 : Int) (a2_0 : Int) (a2_1 : Int) (a2_2 : Int) (a2_3 : Int) (r1 : Int) (r2 : Int) (r3 : Int) (r4 : Int) (r5 : Bool) (w : World) (h : impl_NearTells.f k a0 a1 a2_0 a2_1 a2_2 a2_3 = some (r1, r2, r3, r4, r5)) :
  Calls Try.prog 28 #[.int .i64 a0, .int .i64 a1, .agg #[.int .i64 a2_0, .int .i64 a2_1, .int .i64 a2_2, .int .i64 a2_3]] w fun e w' => e = .returned (.tuple #[.agg #[.int .i64 r1, .int .i64 r2, .int .i64 r3, .int .i64 r4], .bool r5]) ∧ Below w.heap.size w w' := by
 have hu37 := Try.underlying37
 have HB := Aside0.mk (Below.refl w.heap.size w)
 have H : ((impl_in.f a0 0 254).bind fun t500 => (if t500 = true then ((impl_word.f a1).bind fun t501 => (if t501 = true then ((impl_QueryOk.f a2_0 a2_1 a2_2 a2_3).bind fun t502 => (if t502 = true then (if a2_0 = 1 then (impl_NearTells.j0 k a0 a1 (a2_3 != a1) a2_0 a2_1 a2_2 a2_3) else (impl_NearTells.j0 k a0 a1 true a2_0 a2_1 a2_2 a2_3)) else (impl_NearTells.j0 k a0 a1 true a2_0 a2_1 a2_2 a2_3))) else (impl_NearTells.j0 k a0 a1 true a2_0 a2_1 a2_2 a2_3))) else (impl_NearTells.j0 k a0 a1 true a2_0 a2_1 a2_2 a2_3))) = some (r1, r2, r3, r4, r5) := h
 clear h; have HC4 := Aside0.mk H; clear H
 go_enter Try.func28, Try.ntmps28
 go_upto_region 1 with (first | ((with_reducible refine gate_dst (N := 5) rfl ?_); refine box_ (N := 5) (cs := #[.int .i64 a2_0, .int .i64 a2_1, .int .i64 a2_2, .int .i64 a2_3]) (t := 37) (fun gb498 hg w5 hbox hb => ?_); have BK498 := Aside0.mk (hbox); have GW498 := ge_ hg HB; have GE498 := ge_ hg HB; replace HB := (bs_ HB hb); clear hb hbox hg) | ((with_reducible refine gate_dst (N := 6) rfl ?_); refine box_ (N := 6) (cs := #[.int .i64 0, .int .i64 0, .int .i64 0, .int .i64 0]) (t := 37) (fun gb499 hg w6 hbox hb => ?_); have BK499 := Aside0.mk (hbox); have GW499 := ge_ hg HB; have GE499 := ge_ hg HB; replace HB := (bs_ HB hb); have NB498_499 := nl_ hg BK498; have NB499_498 := ng_ hg BK498; replace BK498 := (bbA_ BK498 hb); clear hb hbox hg))
 (try simp only [Act.put, List.setIfInBounds_toArray, List.set_cons_zero, List.set_cons_succ])
 go_cut [31] (fun v31 wc => ∃ (kq : Nat) (x31_3 : Bool), v31 = .bool x31_3 ∧ Aside0 (impl_NearTells.j0 kq a0 a1 x31_3 a2_0 a2_1 a2_2 a2_3 = some (r1, r2, r3, r4, r5)) ∧ Aside0 (kq ≤ k) ∧ Aside0 (wc.heap[gb498]? = some (.cells #[.int .i64 a2_0, .int .i64 a2_1, .int .i64 a2_2, .int .i64 a2_3] 37 (0, 0))) ∧ Aside0 (wc.heap[gb499]? = some (.cells #[.int .i64 0, .int .i64 0, .int .i64 0, .int .i64 0] 37 (0, 0))) ∧ Aside0 (Below w.heap.size w wc))
 case first =>
  have H := HC4.out; clear HC4
  replace H := Option.bind_eq_some_iff.mp H
  obtain ⟨t500, A70, H⟩ := H
  (try dsimp only at H)
  have A7 := Aside0.mk A70; clear A70
  by_cases c8 : t500 = true
  ·subst c8
   rw [if_pos rfl] at H
   replace H := Option.bind_eq_some_iff.mp H
   obtain ⟨t501, A90, H⟩ := H
   (try dsimp only at H)
   have A9 := Aside0.mk A90; clear A90
   by_cases c10 : t501 = true
   ·subst c10
    rw [if_pos rfl] at H
    replace H := Option.bind_eq_some_iff.mp H
    obtain ⟨t502, A110, H⟩ := H
    (try dsimp only at H)
    have A11 := Aside0.mk A110; clear A110
    by_cases c12 : t502 = true
    ·subst c12
     rw [if_pos rfl] at H
     by_cases c13 : a2_0 = 1
     ·rw [if_pos c13] at H
      have c13b0 : (a2_0 == 1) = true := beq_iff_eq.mpr c13
      have c13b1 : (a2_0 != 1) = false := bne_eq_false_iff_eq.mpr c13
      clear c13
      (first | rw [c13b0] | (simp only [i64_w, i32_w]; rw [c13b0]) | skip)
      have H' := Aside0.mk H
      clear H
      go_wp2_with (first | ((with_reducible refine gate_callee (f := 37) rfl ?_); refine goesL_ (some 9) rfl rfl Try.func37 (by kernel_rfl) rfl #[.int .i64 a0, .int .i64 0, .int .i64 254] rfl ar_ ?_; (with_reducible refine (impl_in.calls a0 0 254 true _ A7.out).mono ?_); rintro e w' ⟨rfl, ⟨nd, rfl⟩⟩; refine ⟨_, rfl, ?_⟩) | (go_at_call 61; (with_reducible refine (impl_word.calls a1 true _ A9.out).mono ?_); rintro e w' ⟨rfl, ⟨nd, rfl⟩⟩; have hnb14 := NB498_499.out; have hnc14 := NB499_498.out; have Z15 := zz4 BK498) | (go_at_call 21; (with_reducible refine (impl_QueryOk.calls a2_0 a2_1 a2_2 a2_3 true _ A11.out).mono ?_); rintro e w16 ⟨rfl, hb⟩; replace BK498 := (bbA_ BK498 hb); replace BK499 := (bbA_ BK499 hb); replace HB := (bs_ HB hb); (try clear hb); (try clear hb2); (try clear hk); (try clear hi); have Z17 := zz4 BK498))
      go_meet
      case rel => exact ⟨_, ((a2_3 != a1)), (by first | rfl | (simp; done) | (simp [*]; done)), H', ⟨by first | omega | exact Nat.le_refl _⟩, ⟨by refine kb_ ?_; exact BK498.out⟩, ⟨by refine kb_ ?_; exact BK499.out⟩, ⟨hbA_ HB.out⟩⟩
     ·rw [if_neg c13] at H
      have c13b0 : (a2_0 == 1) = false := beq_eq_false_iff_ne.mpr c13
      have c13b1 : (a2_0 != 1) = true := bne_iff_ne.mpr c13
      (first | rw [c13b0] | (simp only [i64_w, i32_w]; rw [c13b0]) | skip)
      have H' := Aside0.mk H
      clear H
      go_wp2_with (first | ((with_reducible refine gate_callee (f := 37) rfl ?_); refine goesL_ (some 9) rfl rfl Try.func37 (by kernel_rfl) rfl #[.int .i64 a0, .int .i64 0, .int .i64 254] rfl ar_ ?_; (with_reducible refine (impl_in.calls a0 0 254 true _ A7.out).mono ?_); rintro e w' ⟨rfl, ⟨nd, rfl⟩⟩; refine ⟨_, rfl, ?_⟩) | (go_at_call 61; (with_reducible refine (impl_word.calls a1 true _ A9.out).mono ?_); rintro e w' ⟨rfl, ⟨nd, rfl⟩⟩; have hnb18 := NB498_499.out; have hnc18 := NB499_498.out; have Z19 := zz4 BK498) | (go_at_call 21; (with_reducible refine (impl_QueryOk.calls a2_0 a2_1 a2_2 a2_3 true _ A11.out).mono ?_); rintro e w20 ⟨rfl, hb⟩; replace BK498 := (bbA_ BK498 hb); replace BK499 := (bbA_ BK499 hb); replace HB := (bs_ HB hb); (try clear hb); (try clear hb2); (try clear hk); (try clear hi); have Z21 := zz4 BK498))
      go_meet
      case rel => exact ⟨_, (true), (by first | rfl | (simp; done) | (simp [*]; done)), H', ⟨by first | omega | exact Nat.le_refl _⟩, ⟨by refine kb_ ?_; exact BK498.out⟩, ⟨by refine kb_ ?_; exact BK499.out⟩, ⟨hbA_ HB.out⟩⟩
    ·replace c12 := Bool.eq_false_iff.mpr c12
     subst c12
     rw [if_neg (show ¬ (false = true) by decide)] at H
     have H' := Aside0.mk H
     clear H
     go_wp2_with (first | ((with_reducible refine gate_callee (f := 37) rfl ?_); refine goesL_ (some 9) rfl rfl Try.func37 (by kernel_rfl) rfl #[.int .i64 a0, .int .i64 0, .int .i64 254] rfl ar_ ?_; (with_reducible refine (impl_in.calls a0 0 254 true _ A7.out).mono ?_); rintro e w' ⟨rfl, ⟨nd, rfl⟩⟩; refine ⟨_, rfl, ?_⟩) | (go_at_call 61; (with_reducible refine (impl_word.calls a1 true _ A9.out).mono ?_); rintro e w' ⟨rfl, ⟨nd, rfl⟩⟩; have hnb22 := NB498_499.out; have hnc22 := NB499_498.out; have Z23 := zz4 BK498) | (go_at_call 21; (with_reducible refine (impl_QueryOk.calls a2_0 a2_1 a2_2 a2_3 false _ A11.out).mono ?_); rintro e w24 ⟨rfl, hb⟩; replace BK498 := (bbA_ BK498 hb); replace BK499 := (bbA_ BK499 hb); replace HB := (bs_ HB hb); (try clear hb); (try clear hb2); (try clear hk); (try clear hi)))
     go_meet
     case rel => exact ⟨_, (true), (by first | rfl | (simp; done) | (simp [*]; done)), H', ⟨by first | omega | exact Nat.le_refl _⟩, ⟨by refine kb_ ?_; exact BK498.out⟩, ⟨by refine kb_ ?_; exact BK499.out⟩, ⟨hbA_ HB.out⟩⟩
   ·replace c10 := Bool.eq_false_iff.mpr c10
    subst c10
    rw [if_neg (show ¬ (false = true) by decide)] at H
    have H' := Aside0.mk H
    clear H
    go_wp2_with (first | ((with_reducible refine gate_callee (f := 37) rfl ?_); refine goesL_ (some 9) rfl rfl Try.func37 (by kernel_rfl) rfl #[.int .i64 a0, .int .i64 0, .int .i64 254] rfl ar_ ?_; (with_reducible refine (impl_in.calls a0 0 254 true _ A7.out).mono ?_); rintro e w' ⟨rfl, ⟨nd, rfl⟩⟩; refine ⟨_, rfl, ?_⟩) | (go_at_call 61; (with_reducible refine (impl_word.calls a1 false _ A9.out).mono ?_); rintro e w' ⟨rfl, ⟨nd, rfl⟩⟩))
    go_meet
    case rel => exact ⟨_, (true), (by first | rfl | (simp; done) | (simp [*]; done)), H', ⟨by first | omega | exact Nat.le_refl _⟩, ⟨by refine kb_ ?_; exact BK498.out⟩, ⟨by refine kb_ ?_; exact BK499.out⟩, ⟨hbA_ HB.out⟩⟩
  ·replace c8 := Bool.eq_false_iff.mpr c8
   subst c8
   rw [if_neg (show ¬ (false = true) by decide)] at H
   have H' := Aside0.mk H
   clear H
   go_wp2_with (first | ((with_reducible refine gate_callee (f := 37) rfl ?_); refine goesL_ (some 9) rfl rfl Try.func37 (by kernel_rfl) rfl #[.int .i64 a0, .int .i64 0, .int .i64 254] rfl ar_ ?_; (with_reducible refine (impl_in.calls a0 0 254 false _ A7.out).mono ?_); rintro e w' ⟨rfl, ⟨nd, rfl⟩⟩; refine ⟨_, rfl, ?_⟩))
   go_meet
   case rel => exact ⟨_, (true), (by first | rfl | (simp; done) | (simp [*]; done)), H', ⟨by first | omega | exact Nat.le_refl _⟩, ⟨by refine kb_ ?_; exact BK498.out⟩, ⟨by refine kb_ ?_; exact BK499.out⟩, ⟨hbA_ HB.out⟩⟩
 case rest =>
  clear HC4; (try clear c1); (try clear c2); (try clear p2); (try clear c3); (try clear c8); (try clear c10); (try clear c12); (try clear c13); (try clear c13b0); (try clear c13b1); (try clear c14); (try clear c18); (try clear c22); (try clear Z15); (try clear Z17); (try clear Z19); (try clear Z21); (try clear Z23)
  obtain ⟨kq, x31_3, rfl, HA, HJ3, BK498, BK499, HB⟩ := hcut
  cases kq with
  | zero => exact absurd HA.out (by simp [impl_NearTells.j0])
  | succ kj3 =>
   have H := HA.out; clear HA
   simp only [impl_NearTells.j0] at H
   by_cases c25 : x31_3 = true
   ·subst c25
    rw [if_pos rfl] at H
    simp only [Option.some.injEq, Prod.mk.injEq] at H
    obtain ⟨rfl, rfl, rfl, rfl, rfl⟩ := H
    have hnb26 := NB499_498.out; have hnc26 := NB498_499.out; have Z27 := zz4 BK499
    go_wp2
    refine bodyPost_ret (results_ct rfl _ _ gb499 37 #[.int .i64 0, .int .i64 0, .int .i64 0, .int .i64 0] (0, 0) _ rfl (by refine kb_ ?_; refine pz4 (cs := #[.int .i64 0, .int .i64 0, .int .i64 0, .int .i64 0]) ?_; refine kb_ ?_; exact BK499.out) Try.underlying37 rfl (by kernel_rfl)) rfl ?_
    exact ⟨by first | rfl | (simp [errW_none, errW_some] <;> rfl) | (simp [*, errW_none, errW_some] <;> rfl), hbA_ HB.out⟩
   ·replace c25 := Bool.eq_false_iff.mpr c25
    subst c25
    rw [if_neg (show ¬ (false = true) by decide)] at H
    simp only [Option.some.injEq, Prod.mk.injEq] at H
    obtain ⟨rfl, rfl, rfl, rfl, rfl⟩ := H
    have hnb28 := NB498_499.out; have hnc28 := NB499_498.out; have Z29 := zz4 BK498; have Z30 := zz4 BK499
    go_wp2
    refine bodyPost_ret (results_ct rfl _ _ gb499 37 #[.int .i64 2, .int .i64 a0, .int .i64 a1, .int .i64 a2_2] (0, 0) _ rfl (by refine kb_ ?_; refine pz4 (cs := #[.int .i64 0, .int .i64 0, .int .i64 0, .int .i64 0]) ?_; refine kb_ ?_; exact BK499.out) Try.underlying37 rfl (by kernel_rfl)) rfl ?_
    exact ⟨by first | rfl | (simp [errW_none, errW_some] <;> rfl) | (simp [*, errW_none, errW_some] <;> rfl), hbA_ HB.out⟩
mutual
def laws_FnWholeAsking.j0 : Nat → Int → Int → List (List Int) → Int → Bool → List (S63) → List (S65) → Option (Bool)
 | 0, _, _, _, _, _, _, _ => none
 | k + 1, x4, x5, x6, x7, x39, x516000, x516001 => if x39 = true then (some false) else ((impl_NearFind.f k x516000 x516001 x5 x7).bind fun t519 => (if t519 ≥ 0 then ((laws_alive.f k).bind fun t520 => (some t520)) else (laws_FnWholeAsking.l0 k x4 x5 x6 x7 0 x516000 x516001)))
def laws_FnWholeAsking.l0 : Nat → Int → Int → List (List Int) → Int → Int → List (S63) → List (S65) → Option (Bool)
 | 0, _, _, _, _, _, _, _ => none
 | k + 1, x4, x5, x6, x7, x8, x516000, x516001 => if x8 < (x6.length : Int) then (if 0 ≤ x8 then ((impl_NearSend.f k x516000 x516001 x5 (rd_L3 x6 x8) x7).bind fun bt522 => (if bt522.2.2 = (-1) then (laws_FnWholeAsking.l0 k x4 x5 x6 x7 (wrap64 (x8 + 1)) bt522.1 bt522.2.1) else (some false))) else (none)) else ((impl_NearTells.f k 7 x5 1 3 x4 x5).bind fun bt530 => ((impl_NearHear.f k x516000 x516001 x4 bt530.1 bt530.2.1 bt530.2.2.1 bt530.2.2.2.1 x7).bind fun bt536 => (if bt530.2.2.2.2 = true then ((laws_sameLists.f k bt536.2.2 x6).bind fun t546 => (if t546 = true then ((impl_NearFind.f k bt536.1 bt536.2.1 x5 x7).bind fun t547 => (if t547 = 7 then (some ((bt536.2.1.length : Int) == 0)) else (some false))) else (some false))) else (some false))))
end
def laws_FnWholeAsking.f (k : Nat) (l0 : List Int) : Option (Bool) := if (l0.length : Int) > 1048576 then (some true) else ((spec_DrawAsking.f k l0).bind fun bt503 => ((impl_NearOk.f k bt503.1 bt503.2.1).bind fun t516 => (if t516 = true then ((impl_NearFind.f k bt503.1 bt503.2.1 bt503.2.2.2.1 bt503.2.2.2.2.2).bind fun t517 => ((spec_NearFind.f k bt503.1 bt503.2.1 bt503.2.2.2.1 bt503.2.2.2.2.2).bind fun t518 => (laws_FnWholeAsking.j0 k bt503.2.2.1 bt503.2.2.2.1 bt503.2.2.2.2.1 bt503.2.2.2.2.2 (t517 != t518) bt503.1 bt503.2.1))) else (laws_FnWholeAsking.j0 k bt503.2.2.1 bt503.2.2.2.1 bt503.2.2.2.2.1 bt503.2.2.2.2.2 true bt503.1 bt503.2.1))))
theorem laws_FnWholeAsking.mono_l : ∀ k, (∀ y0 y1 y2 y3 y4 y5 y6, LeO (laws_FnWholeAsking.j0 k y0 y1 y2 y3 y4 y5 y6) (laws_FnWholeAsking.j0 (k + 1) y0 y1 y2 y3 y4 y5 y6)) ∧ (∀ y0 y1 y2 y3 y4 y5 y6, LeO (laws_FnWholeAsking.l0 k y0 y1 y2 y3 y4 y5 y6) (laws_FnWholeAsking.l0 (k + 1) y0 y1 y2 y3 y4 y5 y6))
 | 0 => ⟨fun _ _ _ _ _ _ _ r h => by simp [laws_FnWholeAsking.j0] at h, fun _ _ _ _ _ _ _ r h => by simp [laws_FnWholeAsking.l0] at h⟩
 | k + 1 => by
  obtain ⟨ih0, ih1⟩ := laws_FnWholeAsking.mono_l k
  refine ⟨?_, ?_⟩
  ·intro y0 y1 y2 y3 y4 y5 y6
   unfold laws_FnWholeAsking.j0
   repeat' first | (with_reducible first | apply ih0 | apply ih1 | apply impl_NearFind.mono | apply impl_NearHear.mono | apply impl_NearOk.mono | apply impl_NearSend.mono | apply impl_NearTells.mono | apply laws_alive.mono | apply laws_sameLists.mono | apply spec_DrawAsking.mono | apply spec_NearFind.mono | exact LeO.refl _ | exact LeO.none _ | refine LeO.ite ?_ ?_ | refine LeO.bind ?_ fun _ => ?_) | apply ih0 | apply ih1 | apply impl_NearFind.mono | apply impl_NearHear.mono | apply impl_NearOk.mono | apply impl_NearSend.mono | apply impl_NearTells.mono | apply laws_alive.mono | apply laws_sameLists.mono | apply spec_DrawAsking.mono | apply spec_NearFind.mono | exact LeO.none _ | refine LeO.ite ?_ ?_ | refine LeO.bind ?_ fun _ => ?_
  ·intro y0 y1 y2 y3 y4 y5 y6
   unfold laws_FnWholeAsking.l0
   repeat' first | (with_reducible first | apply ih0 | apply ih1 | apply impl_NearFind.mono | apply impl_NearHear.mono | apply impl_NearOk.mono | apply impl_NearSend.mono | apply impl_NearTells.mono | apply laws_alive.mono | apply laws_sameLists.mono | apply spec_DrawAsking.mono | apply spec_NearFind.mono | exact LeO.refl _ | exact LeO.none _ | refine LeO.ite ?_ ?_ | refine LeO.bind ?_ fun _ => ?_) | apply ih0 | apply ih1 | apply impl_NearFind.mono | apply impl_NearHear.mono | apply impl_NearOk.mono | apply impl_NearSend.mono | apply impl_NearTells.mono | apply laws_alive.mono | apply laws_sameLists.mono | apply spec_DrawAsking.mono | apply spec_NearFind.mono | exact LeO.none _ | refine LeO.ite ?_ ?_ | refine LeO.bind ?_ fun _ => ?_
theorem laws_FnWholeAsking.mono : ∀ a0 k, LeO (laws_FnWholeAsking.f k a0) (laws_FnWholeAsking.f (k + 1) a0) := by
 intro a0 k
 obtain ⟨ih0, ih1⟩ := laws_FnWholeAsking.mono_l k
 unfold laws_FnWholeAsking.f
 repeat' first | (with_reducible first | apply ih0 | apply ih1 | apply impl_NearFind.mono | apply impl_NearHear.mono | apply impl_NearOk.mono | apply impl_NearSend.mono | apply impl_NearTells.mono | apply laws_alive.mono | apply laws_sameLists.mono | apply spec_DrawAsking.mono | apply spec_NearFind.mono | exact LeO.refl _ | exact LeO.none _ | refine LeO.ite ?_ ?_ | refine LeO.bind ?_ fun _ => ?_) | apply ih0 | apply ih1 | apply impl_NearFind.mono | apply impl_NearHear.mono | apply impl_NearOk.mono | apply impl_NearSend.mono | apply impl_NearTells.mono | apply laws_alive.mono | apply laws_sameLists.mono | apply spec_DrawAsking.mono | apply spec_NearFind.mono | exact LeO.none _ | refine LeO.ite ?_ ?_ | refine LeO.bind ?_ fun _ => ?_
def laws_FnWholeAsking.T4 : Bool × List (List Nat × List Nat) := (true, [([], []), ([0], [0]), ([1], [1]), ([2, 1], [2]), ([3], [3]), ([3], [3]), ([3], [3]), ([4, 5, 6, 3, 3], [3, 4, 5, 6]), ([3], [3]), ([3], [3]), ([3], [3]), ([8, 9, 10, 7, 3], [3, 8, 9, 10]), ([7, 11, 3], [3, 7, 11]), ([3, 12], [3, 12])])
def laws_FnWholeAsking.B4 : List Nat := [0, 1, 3, 7, 15, 15, 15, 127, 15, 15, 15, 2047, 4095, 8191]
theorem laws_FnWholeAsking.tab4 : rtab .any (opsOf Try.f5 4) = laws_FnWholeAsking.T4 := by kernel_rfl
theorem laws_FnWholeAsking.bits4 : waitsOk laws_FnWholeAsking.T4.2 laws_FnWholeAsking.B4 = true := by kernel_rfl
def laws_FnWholeAsking.T11 : Bool × List (List Nat × List Nat) := (true, [([], []), ([], []), ([], []), ([], []), ([2, 3], [2, 3]), ([4], [4]), ([], []), ([0, 1, 5, 6], [0, 1, 5, 6]), ([7], [7]), ([8], [8]), ([8], [8]), ([], []), ([11, 9, 7, 0, 1, 2, 3, 4, 5, 6, 7, 8, 9, 11], [9, 11]), ([10, 12, 0, 1, 2, 3, 4, 5, 6, 7, 8, 9, 10, 11, 12], [10])])
def laws_FnWholeAsking.B11 : List Nat := [0, 0, 0, 0, 12, 28, 0, 127, 255, 511, 511, 0, 3071, 8191]
theorem laws_FnWholeAsking.tab11 : rtab .any (opsOf Try.f5 11) = laws_FnWholeAsking.T11 := by kernel_rfl
theorem laws_FnWholeAsking.bits11 : waitsOk laws_FnWholeAsking.T11.2 laws_FnWholeAsking.B11 = true := by kernel_rfl
set_option maxHeartbeats 8000000 in
set_option maxRecDepth 100000 in
theorem laws_FnWholeAsking.calls (k : Nat) (A0 : Option Addr) (c0 : Nat) (l0 : List Int) (r : Bool) (w : World) (hr0 : Kd.C (Kd.int .u8) w A0 l0.length l0) (hc0 : l0.length ≤ c0) (h : laws_FnWholeAsking.f k l0 = some r) (hlw : r = true) :
  Calls Try.prog 5 #[.slice A0 l0.length c0] w fun e w' => e = .returned (.bool r) ∧ Below w.heap.size w w' := by
 have hu32 := Try.underlying32; have hu37 := Try.underlying37; have HLW := Aside0.mk hlw; clear hlw; have HR0 := Aside0.mk hr0; have HC0 := Aside0.mk hc0; clear hr0 hc0
 have HB := Aside0.mk (Below.refl w.heap.size w)
 have H : (if (l0.length : Int) > 1048576 then (some true) else ((spec_DrawAsking.f k l0).bind fun bt503 => ((impl_NearOk.f k bt503.1 bt503.2.1).bind fun t516 => (if t516 = true then ((impl_NearFind.f k bt503.1 bt503.2.1 bt503.2.2.2.1 bt503.2.2.2.2.2).bind fun t517 => ((spec_NearFind.f k bt503.1 bt503.2.1 bt503.2.2.2.1 bt503.2.2.2.2.2).bind fun t518 => (laws_FnWholeAsking.j0 k bt503.2.2.1 bt503.2.2.2.1 bt503.2.2.2.2.1 bt503.2.2.2.2.2 (t517 != t518) bt503.1 bt503.2.1))) else (laws_FnWholeAsking.j0 k bt503.2.2.1 bt503.2.2.2.1 bt503.2.2.2.2.1 bt503.2.2.2.2.2 true bt503.1 bt503.2.1))))) = some r := h
 clear h
 by_cases c2 : (l0.length : Int) > 1048576
 ·rw [if_pos c2] at H
  have c2b0 : decide (1048576 < (l0.length : Int)) = true := decide_eq_true c2
  have c2b1 : decide (1048576 < l0.length) = true := decide_eq_true (by omega)
  clear c2
  obtain rfl := Option.some.inj H
  go_enter Try.func5, Try.ntmps5
  go_wp2
  go_ret
  exact ⟨by first | rfl | (simp [errW_none, errW_some] <;> rfl) | (simp [*, errW_none, errW_some] <;> rfl), hbA_ HB.out⟩
 ·rw [if_neg c2] at H
  have c2b0 : decide (1048576 < (l0.length : Int)) = false := decide_eq_false c2
  have c2b1 : decide (1048576 < l0.length) = false := decide_eq_false (by omega)
  clear c2
  replace H := Option.bind_eq_some_iff.mp H
  obtain ⟨⟨t503, t506, t509, t510, t511, t514⟩, A30, H⟩ := H
  (try dsimp only at H)
  have A3 := Aside0.mk A30; clear A30; have HC4 := Aside0.mk H; clear H
  go_enter Try.func5, Try.ntmps5
  go_upto_region 4 with (first | ((with_reducible refine gate_callee (f := 25) rfl ?_); refine goesL_ (some 20) rfl rfl Try.func25 (by kernel_rfl) rfl #[.slice A0 l0.length c0] rfl ar_ ?_; (with_reducible refine (spec_DrawAsking.calls k _ _ l0 t503 t506 t509 t510 t511 t514 _ ?side1 ?side2 A3.out).mono ?_); (case side1 => exact kC_ HR0.out); (case side2 => exact HC0.out); rintro e w5 ⟨v504, v507, v512, rfl, ho0, ho1, ho2, hb⟩; refine ⟨_, rfl, ?_⟩; have HO505 := Aside0.mk (Kd.Q_lower ho0 (below_size (hbA_ HB.out))); have HO508 := Aside0.mk (Kd.N_lower (Kd.N_mono (ok' := fun k_ => some k_ ≠ (v504 : Value).ownBlock ∧ some k_ ≠ (v512 : Value).ownBlock) (Kd.S_N (Kd.S_bound (Kd.S_apart' (Kd.S_apart' ho1 (Kd.Q_typed ho0) (by decide)) (Kd.S_typed ho2) (by decide)))) (fun k_ hk_ => ⟨hk_.1.1.2, hk_.1.2⟩)) (below_size (hbA_ HB.out))); have HO513 := Aside0.mk (Kd.N_lower (Kd.N_mono (ok' := fun k_ => some k_ ≠ (v504 : Value).ownBlock ∧ some k_ ≠ (v507 : Value).ownBlock) (Kd.S_N (Kd.S_bound (Kd.S_apart' (Kd.S_apart' ho2 (Kd.Q_typed ho0) (by decide)) (Kd.S_typed ho1) (by decide)))) (fun k_ hk_ => ⟨hk_.1.1.2, hk_.1.2⟩)) (below_size (hbA_ HB.out))); replace HB := (bs_ HB hb); (try clear hb); (try clear hb2); (try clear hk); (try clear hi); (try clear ho0); (try clear ho1); (try clear ho2)) | ((with_reducible refine gate_dst (N := 3) rfl ?_); (try (refine gate_guard (by rfl) ?_; dsimp only)); refine box_ (N := 3) (cs := #[.slice none 0 0, .slice none 0 0]) (t := 32) (fun gb515 hg w6 hbox hb => ?_); replace HO505 := Aside0.mk (Kd.Q_below (by (with_reducible repeat (first | apply Kd.Q_alloc | apply Kd.Q_drewN | apply Kd.Q_drew)); exact HO505.out) hb); replace HO508 := Aside0.mk (Kd.N_below (Kd.N_elderB (kN_ HO508.out) gb515 (Nat.le_of_eq hg.symm)) hb); replace HO513 := Aside0.mk (Kd.N_below (Kd.N_elderB (kN_ HO513.out) gb515 (Nat.le_of_eq hg.symm)) hb); have BK515 := Aside0.mk (hbox); have GW515 := ge_ hg HB; have GE515 := ge_ hg HB; replace HB := (bs_ HB hb); clear hb hbox hg; obtain ⟨Ao7, co7, eo7, _⟩ := Kd.Q_slice HO505.out; subst eo7; have Z8 := zz2 BK515; obtain ⟨Ao9, co9, eo9⟩ := Kd.N_slice HO508.out; subst eo9))
  (try simp only [Act.put, List.setIfInBounds_toArray, List.set_cons_zero, List.set_cons_succ])
  go_cut [39] (fun v39 wc => ∃ (kq : Nat) (x39_3 : Bool), v39 = .bool x39_3 ∧ Aside0 (laws_FnWholeAsking.j0 kq t509 t510 t511 t514 x39_3 t503 t506 = some r) ∧ Aside0 (kq ≤ k) ∧ Aside0 (Kd.N (Kd.slice 5 (Kd.int .u8)) 44 wc w.heap.size (fun k_ => some k_ ≠ ((.slice Ao7 t503.length co7) : Value).ownBlock ∧ some k_ ≠ ((.slice Ao9 t506.length co9) : Value).ownBlock ∧ k_ ≠ gb515) v512 t511) ∧ Aside0 (Kd.Q k63 63 wc w.heap.size (fun _ => True) (.slice Ao7 t503.length co7) t503) ∧ Aside0 (Kd.N k65 65 wc w.heap.size (fun k_ => some k_ ≠ (v512 : Value).ownBlock ∧ some k_ ≠ ((.slice Ao7 t503.length co7) : Value).ownBlock ∧ k_ ≠ gb515) (.slice Ao9 t506.length co9) t506) ∧ Aside0 (wc.heap[gb515]? = some (.cells #[(.slice Ao7 t503.length co7), (.slice Ao9 t506.length co9)] 32 (0, 0))) ∧ Aside0 (Below w.heap.size w wc))
  case first =>
   have H := HC4.out; clear HC4
   replace H := Option.bind_eq_some_iff.mp H
   obtain ⟨t516, A100, H⟩ := H
   (try dsimp only at H)
   have A10 := Aside0.mk A100; clear A100
   by_cases c11 : t516 = true
   ·subst c11
    rw [if_pos rfl] at H
    replace H := Option.bind_eq_some_iff.mp H
    obtain ⟨t517, A120, H⟩ := H
    (try dsimp only at H)
    have A12 := Aside0.mk A120; clear A120
    replace H := Option.bind_eq_some_iff.mp H
    obtain ⟨t518, A130, H⟩ := H
    (try dsimp only at H)
    have A13 := Aside0.mk A130; clear A130
    have H' := Aside0.mk H
    clear H
    try go_wp2
    obtain ⟨w14, h_w14⟩ : ∃ w_, ((w6.setCell ⟨gb515, 0, none⟩ (.slice Ao7 t503.length co7)).setCell ⟨gb515, 1, none⟩ (.slice Ao9 t506.length co9)) = w_ := ⟨_, rfl⟩
    have n0_ : Aside0 (Kd.Q k63 63 w14 w.heap.size (fun _ => True) (.slice Ao7 t503.length co7) t503) := ⟨by subst h_w14; (with_reducible repeat (first | apply Kd.Q_alloc | apply Kd.Q_drewN | apply Kd.Q_drew)); exact Kd.Q_mono (Kd.Q_far (p := ⟨gb515, 1, none⟩) (Kd.Q_far (p := ⟨gb515, 0, none⟩) (Kd.Q_types HO505.out BK515.out (by decide)) (fun _ hk => hk.2) (.slice Ao7 t503.length co7)) (fun _ hk => hk.2) (.slice Ao9 t506.length co9)) (fun _ hk => trivial)⟩
    have n1_ : Aside0 (Kd.N k65 65 w14 w.heap.size (fun k_ => some k_ ≠ (.slice Ao7 t503.length co7 : Value).ownBlock ∧ some k_ ≠ (v512 : Value).ownBlock ∧ k_ ≠ gb515) (.slice Ao9 t506.length co9) t506) := ⟨by subst h_w14; refine kN_ ?_; exact nfN_ gb515 HO508.out (fun _ hk => hk.2) (fun _ hk => ⟨hk.1.1.1, ⟨hk.1.1.2, hk.1.2⟩⟩)⟩
    have n2_ : Aside0 (Kd.N (Kd.slice 5 (Kd.int .u8)) 44 w14 w.heap.size (fun k_ => some k_ ≠ (.slice Ao7 t503.length co7 : Value).ownBlock ∧ some k_ ≠ (.slice Ao9 t506.length co9 : Value).ownBlock ∧ k_ ≠ gb515) v512 t511) := ⟨by subst h_w14; refine kN_ ?_; exact nfN_ gb515 HO513.out (fun _ hk => hk.2) (fun _ hk => ⟨hk.1.1.1, ⟨hk.1.1.2, hk.1.2⟩⟩)⟩
    have n3_ : Aside0 (w14.heap[gb515]? = some (.cells #[.slice Ao7 t503.length co7, .slice Ao9 t506.length co9] 32 (0, 0))) := ⟨by subst h_w14; refine kb_ ?_; refine pz2 (cs := #[.slice none 0 0, .slice none 0 0]) ?_; refine kb_ ?_; exact BK515.out⟩
    have n4_ : Aside0 (Below w.heap.size w w14) := ⟨by subst h_w14; exact hbA_ HB.out⟩
    (try clear HO505); (try clear HO508); (try clear HO513); (try clear BK515); (try clear HB)
    (try rw [h_w14]); clear h_w14
    have HO505 := n0_; have HO508 := n1_; have HO513 := n2_; have BK515 := n3_; have HB := n4_; clear n0_ n1_ n2_ n3_ n4_; replace HO505 := Aside0.mk (Kd.Q_drew HO505.out); replace HO508 := Aside0.mk (Kd.N_drew HO508.out); replace HO513 := Aside0.mk (Kd.N_drew HO513.out); replace BK515 := Aside0.mk (blk_drew BK515.out); replace HB := (bd_ HB)
    refine start_ (n := 14) (S := fun w' => w'.cell? ⟨gb515, 0, none⟩ = some (.slice Ao7 t503.length co7) ∧ w'.cell? ⟨gb515, 1, none⟩ = some (.slice Ao9 t506.length co9)) (ds := []) #[false, false, false, false, false, false, false, false, false, false, false, false, false, false] (by kernel_rfl) rfl rfl (cz2 BK515.out) (fun hHeld => ?_); refine with_tabW laws_FnWholeAsking.tab4 laws_FnWholeAsking.bits4 (fun HT_ HW_ => ?_)
    generalize w14.drew = w15 at HO505 HO508 HO513 BK515 HB hHeld ⊢
    refine tk_ (i := 0) (N := some 26) HT_ HW_ hHeld ?_
    refine on_ (i := 1) (N := some 27) HT_ (fun K hK => ?_)
    refine goes_ Try.func20 (by kernel_rfl) rfl #[.agg #[.slice Ao7 t503.length co7, .slice Ao9 t506.length co9]] (by rfl) rfl rfl ar_ ?_
    with_reducible refine (impl_NearOk.calls k _ _ t503 _ _ t506 true _ ?side1 ?side2 ?side3 ?side4 A10.out).mono ?_
    (case side1 => exact kC_ (Kd.Q_reads' HO505.out).2.2)
    (case side2 => exact (Kd.Q_reads' HO505.out).2.1)
    (case side3 => exact kC_ (Kd.N_reads' HO508.out).2.2)
    (case side4 => exact (Kd.N_reads' HO508.out).2.1)
    rintro e w16 ⟨rfl, hb⟩
    refine ⟨_, rfl, ?_⟩
    replace HO505 := Aside0.mk (Kd.Q_below (by (with_reducible repeat (first | apply Kd.Q_alloc | apply Kd.Q_drewN | apply Kd.Q_drew)); exact HO505.out) hb); replace HO508 := Aside0.mk (Kd.N_below (kN_ HO508.out) hb); replace HO513 := Aside0.mk (Kd.N_below (kN_ HO513.out) hb); replace BK515 := (bbA_ BK515 hb); replace HB := (bs_ HB hb); (try clear hb); (try clear hb2); (try clear hk); (try clear hi)
    refine hK.out _ _ (cz2 BK515.out) (fun hHeld => ?_)
    clear hK K; refine nm_ 27 ?_; refine pu_ (i := 2) (N := some 28) HT_ ?_; refine pu_ (i := 3) (N := some 29) HT_ ?_; refine pu_ (i := 5) (N := some 31) HT_ ?_; refine pu_ (i := 6) (N := some 32) HT_ ?_; refine pu_ (i := 9) (N := some 35) HT_ ?_; refine pu_ (i := 10) (N := some 36) HT_ ?_; refine tk_ (i := 4) (N := some 30) HT_ HW_ hHeld ?_; refine tk_ (i := 8) (N := some 34) HT_ HW_ hHeld ?_
    refine on_ (i := 7) (N := some 33) HT_ (fun K hK => ?_)
    refine goes_ Try.func24 (by kernel_rfl) rfl #[.agg #[.slice Ao7 t503.length co7, .slice Ao9 t506.length co9], .int .i64 t510, .int .i64 t514] (by rfl) rfl rfl ar_ ?_
    with_reducible refine (impl_NearFind.calls k _ _ t503 _ _ t506 t510 t514 t517 _ ?side1 ?side2 ?side3 ?side4 A12.out).mono ?_
    (case side1 => exact kC_ (Kd.Q_reads' HO505.out).2.2)
    (case side2 => exact (Kd.Q_reads' HO505.out).2.1)
    (case side3 => exact kC_ (Kd.N_reads' HO508.out).2.2)
    (case side4 => exact (Kd.N_reads' HO508.out).2.1)
    rintro e w17 ⟨rfl, hb⟩
    refine ⟨_, rfl, ?_⟩
    replace HO505 := Aside0.mk (Kd.Q_below (by (with_reducible repeat (first | apply Kd.Q_alloc | apply Kd.Q_drewN | apply Kd.Q_drew)); exact HO505.out) hb); replace HO508 := Aside0.mk (Kd.N_below (kN_ HO508.out) hb); replace HO513 := Aside0.mk (Kd.N_below (kN_ HO513.out) hb); replace BK515 := (bbA_ BK515 hb); replace HB := (bs_ HB hb); (try clear hb); (try clear hb2); (try clear hk); (try clear hi)
    refine hK.out _ _ (cz2 BK515.out) (fun hHeld => ?_)
    clear hK K; refine nm_ 33 ?_
    refine on_ (i := 11) (N := some 37) HT_ (fun K hK => ?_)
    refine goes_ Try.func26 (by kernel_rfl) rfl #[.agg #[.slice Ao7 t503.length co7, .slice Ao9 t506.length co9], .int .i64 t510, .int .i64 t514] (by rfl) rfl rfl ar_ ?_
    with_reducible refine (spec_NearFind.calls k _ _ t503 _ _ t506 t510 t514 t518 _ ?side1 ?side2 ?side3 ?side4 A13.out).mono ?_
    (case side1 => exact kC_ (Kd.Q_reads' HO505.out).2.2)
    (case side2 => exact (Kd.Q_reads' HO505.out).2.1)
    (case side3 => exact kC_ (Kd.N_reads' HO508.out).2.2)
    (case side4 => exact (Kd.N_reads' HO508.out).2.1)
    rintro e w18 ⟨rfl, hb⟩
    refine ⟨_, rfl, ?_⟩
    replace HO505 := Aside0.mk (Kd.Q_below (by (with_reducible repeat (first | apply Kd.Q_alloc | apply Kd.Q_drewN | apply Kd.Q_drew)); exact HO505.out) hb); replace HO508 := Aside0.mk (Kd.N_below (kN_ HO508.out) hb); replace HO513 := Aside0.mk (Kd.N_below (kN_ HO513.out) hb); replace BK515 := (bbA_ BK515 hb); replace HB := (bs_ HB hb); (try clear hb); (try clear hb2); (try clear hk); (try clear hi)
    refine hK.out _ _ (cz2 BK515.out) (fun hHeld => ?_)
    clear hK K; refine nm_ 37 ?_; refine pu_ (i := 12) (N := some 38) HT_ ?_; refine pu_ (i := 13) (N := some 39) HT_ ?_
    refine done_ (done_of HT_.out (by kernel_rfl)) ?_
    try go_wp2
    go_meet
    case rel => exact ⟨_, ((t517 != t518)), (by first | rfl | (simp; done) | (simp [*]; done)), H', ⟨by first | omega | exact Nat.le_refl _⟩, ⟨by refine kN_ ?_; exact HO513.out⟩, ⟨by (with_reducible repeat (first | apply Kd.Q_alloc | apply Kd.Q_drewN | apply Kd.Q_drew)); exact HO505.out⟩, ⟨by refine kN_ ?_; exact Kd.N_mono HO508.out (fun _ hk => ⟨hk.2.1, ⟨hk.1, hk.2.2⟩⟩)⟩, ⟨by refine kb_ ?_; exact BK515.out⟩, ⟨hbA_ HB.out⟩⟩
   ·replace c11 := Bool.eq_false_iff.mpr c11
    subst c11
    rw [if_neg (show ¬ (false = true) by decide)] at H
    have H' := Aside0.mk H
    clear H
    try go_wp2
    obtain ⟨w19, h_w19⟩ : ∃ w_, ((w6.setCell ⟨gb515, 0, none⟩ (.slice Ao7 t503.length co7)).setCell ⟨gb515, 1, none⟩ (.slice Ao9 t506.length co9)) = w_ := ⟨_, rfl⟩
    have n0_ : Aside0 (Kd.Q k63 63 w19 w.heap.size (fun _ => True) (.slice Ao7 t503.length co7) t503) := ⟨by subst h_w19; (with_reducible repeat (first | apply Kd.Q_alloc | apply Kd.Q_drewN | apply Kd.Q_drew)); exact Kd.Q_mono (Kd.Q_far (p := ⟨gb515, 1, none⟩) (Kd.Q_far (p := ⟨gb515, 0, none⟩) (Kd.Q_types HO505.out BK515.out (by decide)) (fun _ hk => hk.2) (.slice Ao7 t503.length co7)) (fun _ hk => hk.2) (.slice Ao9 t506.length co9)) (fun _ hk => trivial)⟩
    have n1_ : Aside0 (Kd.N k65 65 w19 w.heap.size (fun k_ => some k_ ≠ (.slice Ao7 t503.length co7 : Value).ownBlock ∧ some k_ ≠ (v512 : Value).ownBlock ∧ k_ ≠ gb515) (.slice Ao9 t506.length co9) t506) := ⟨by subst h_w19; refine kN_ ?_; exact nfN_ gb515 HO508.out (fun _ hk => hk.2) (fun _ hk => ⟨hk.1.1.1, ⟨hk.1.1.2, hk.1.2⟩⟩)⟩
    have n2_ : Aside0 (Kd.N (Kd.slice 5 (Kd.int .u8)) 44 w19 w.heap.size (fun k_ => some k_ ≠ (.slice Ao7 t503.length co7 : Value).ownBlock ∧ some k_ ≠ (.slice Ao9 t506.length co9 : Value).ownBlock ∧ k_ ≠ gb515) v512 t511) := ⟨by subst h_w19; refine kN_ ?_; exact nfN_ gb515 HO513.out (fun _ hk => hk.2) (fun _ hk => ⟨hk.1.1.1, ⟨hk.1.1.2, hk.1.2⟩⟩)⟩
    have n3_ : Aside0 (w19.heap[gb515]? = some (.cells #[.slice Ao7 t503.length co7, .slice Ao9 t506.length co9] 32 (0, 0))) := ⟨by subst h_w19; refine kb_ ?_; refine pz2 (cs := #[.slice none 0 0, .slice none 0 0]) ?_; refine kb_ ?_; exact BK515.out⟩
    have n4_ : Aside0 (Below w.heap.size w w19) := ⟨by subst h_w19; exact hbA_ HB.out⟩
    (try clear HO505); (try clear HO508); (try clear HO513); (try clear BK515); (try clear HB)
    (try rw [h_w19]); clear h_w19
    have HO505 := n0_; have HO508 := n1_; have HO513 := n2_; have BK515 := n3_; have HB := n4_; clear n0_ n1_ n2_ n3_ n4_; replace HO505 := Aside0.mk (Kd.Q_drew HO505.out); replace HO508 := Aside0.mk (Kd.N_drew HO508.out); replace HO513 := Aside0.mk (Kd.N_drew HO513.out); replace BK515 := Aside0.mk (blk_drew BK515.out); replace HB := (bd_ HB)
    refine start_ (n := 14) (S := fun w' => w'.cell? ⟨gb515, 0, none⟩ = some (.slice Ao7 t503.length co7) ∧ w'.cell? ⟨gb515, 1, none⟩ = some (.slice Ao9 t506.length co9)) (ds := []) #[false, false, false, false, false, false, false, false, false, false, false, false, false, false] (by kernel_rfl) rfl rfl (cz2 BK515.out) (fun hHeld => ?_); refine with_tabW laws_FnWholeAsking.tab4 laws_FnWholeAsking.bits4 (fun HT_ HW_ => ?_)
    generalize w19.drew = w20 at HO505 HO508 HO513 BK515 HB hHeld ⊢
    refine tk_ (i := 0) (N := some 26) HT_ HW_ hHeld ?_
    refine on_ (i := 1) (N := some 27) HT_ (fun K hK => ?_)
    refine goes_ Try.func20 (by kernel_rfl) rfl #[.agg #[.slice Ao7 t503.length co7, .slice Ao9 t506.length co9]] (by rfl) rfl rfl ar_ ?_
    with_reducible refine (impl_NearOk.calls k _ _ t503 _ _ t506 false _ ?side1 ?side2 ?side3 ?side4 A10.out).mono ?_
    (case side1 => exact kC_ (Kd.Q_reads' HO505.out).2.2)
    (case side2 => exact (Kd.Q_reads' HO505.out).2.1)
    (case side3 => exact kC_ (Kd.N_reads' HO508.out).2.2)
    (case side4 => exact (Kd.N_reads' HO508.out).2.1)
    rintro e w21 ⟨rfl, hb⟩
    refine ⟨_, rfl, ?_⟩
    replace HO505 := Aside0.mk (Kd.Q_below (by (with_reducible repeat (first | apply Kd.Q_alloc | apply Kd.Q_drewN | apply Kd.Q_drew)); exact HO505.out) hb); replace HO508 := Aside0.mk (Kd.N_below (kN_ HO508.out) hb); replace HO513 := Aside0.mk (Kd.N_below (kN_ HO513.out) hb); replace BK515 := (bbA_ BK515 hb); replace HB := (bs_ HB hb); (try clear hb); (try clear hb2); (try clear hk); (try clear hi)
    refine hK.out _ _ (cz2 BK515.out) (fun hHeld => ?_)
    clear hK K; refine nm_ 27 ?_; refine pu_ (i := 2) (N := some 28) HT_ ?_; refine pu_ (i := 3) (N := some 29) HT_ ?_; refine pn_ (i := 4) (N := some 30) HT_ ?_; refine pn_ (i := 5) (N := some 31) HT_ ?_; refine pn_ (i := 6) (N := some 32) HT_ ?_; refine pn_ (i := 7) (N := some 33) HT_ ?_; refine pn_ (i := 8) (N := some 34) HT_ ?_; refine pn_ (i := 9) (N := some 35) HT_ ?_; refine pn_ (i := 10) (N := some 36) HT_ ?_; refine pn_ (i := 11) (N := some 37) HT_ ?_; refine pn_ (i := 12) (N := some 38) HT_ ?_; refine pu_ (i := 13) (N := some 39) HT_ ?_
    refine done_ (done_of HT_.out (by kernel_rfl)) ?_
    try go_wp2
    go_meet
    case rel => exact ⟨_, (true), (by first | rfl | (simp; done) | (simp [*]; done)), H', ⟨by first | omega | exact Nat.le_refl _⟩, ⟨by refine kN_ ?_; exact HO513.out⟩, ⟨by (with_reducible repeat (first | apply Kd.Q_alloc | apply Kd.Q_drewN | apply Kd.Q_drew)); exact HO505.out⟩, ⟨by refine kN_ ?_; exact Kd.N_mono HO508.out (fun _ hk => ⟨hk.2.1, ⟨hk.1, hk.2.2⟩⟩)⟩, ⟨by refine kb_ ?_; exact BK515.out⟩, ⟨hbA_ HB.out⟩⟩
  case rest =>
   clear HC4; (try clear c1); (try clear c2); (try clear c2b0); (try clear c2b1); (try clear p2); (try clear c5); (try clear c11); (try clear c20); (try clear Z8)
   obtain ⟨kq, x39_3, rfl, HA, HJ3, HO_6, HO_516000, HO_516001, BK515, HB⟩ := hcut
   cases kq with
   | zero => exact absurd HA.out (by simp [laws_FnWholeAsking.j0])
   | succ kj3 =>
    have H := HA.out; clear HA
    simp only [laws_FnWholeAsking.j0] at H
    by_cases c22 : x39_3 = true
    ·subst c22
     rw [if_pos rfl] at H
     exact absurd (Option.some.inj H) (by rw [HLW.out]; exact Bool.false_ne_true)
    ·replace c22 := Bool.eq_false_iff.mpr c22
     subst c22
     rw [if_neg (show ¬ (false = true) by decide)] at H
     replace H := Option.bind_eq_some_iff.mp H
     obtain ⟨t519, A230, H⟩ := H
     (try dsimp only at H)
     have A23 := Aside0.mk A230; clear A230
     by_cases c24 : t519 ≥ 0
     ·rw [if_pos c24] at H
      have c24b0 : decide (0 ≤ t519) = true := decide_eq_true c24
      clear c24
      replace H := Option.bind_eq_some_iff.mp H
      obtain ⟨t520, A250, H⟩ := H
      (try dsimp only at H)
      have A25 := Aside0.mk A250; clear A250
      obtain rfl := Option.some.inj H
      have Z26 := zz2 BK515
      go_wp2_with (first | ((with_reducible refine gate_callee (f := 24) rfl ?_); refine goesL_ (some 43) rfl rfl Try.func24 (by kernel_rfl) rfl #[.agg #[.slice Ao7 t503.length co7, .slice Ao9 t506.length co9], .int .i64 t510, .int .i64 t514] rfl ar_ ?_; (with_reducible refine (impl_NearFind.calls kj3 _ _ t503 _ _ t506 t510 t514 t519 _ ?side1 ?side2 ?side3 ?side4 A23.out).mono ?_); (case side1 => exact kC_ (Kd.Q_reads' HO_516000.out).2.2); (case side2 => exact (Kd.Q_reads' HO_516000.out).2.1); (case side3 => exact kC_ (Kd.N_reads' HO_516001.out).2.2); (case side4 => exact (Kd.N_reads' HO_516001.out).2.1); rintro e w27 ⟨rfl, hb⟩; refine ⟨_, rfl, ?_⟩; replace HO_6 := Aside0.mk (Kd.N_below (kN_ HO_6.out) hb); replace HO_516000 := Aside0.mk (Kd.Q_below (by (with_reducible repeat (first | apply Kd.Q_alloc | apply Kd.Q_drewN | apply Kd.Q_drew)); exact HO_516000.out) hb); replace HO_516001 := Aside0.mk (Kd.N_below (kN_ HO_516001.out) hb); replace BK515 := (bbA_ BK515 hb); replace HB := (bs_ HB hb); (try clear hb); (try clear hb2); (try clear hk); (try clear hi)) | ((with_reducible refine gate_callee (f := 22) rfl ?_); refine goesL_ (some 45) rfl rfl Try.func22 (by kernel_rfl) rfl #[] rfl ar_ ?_; (with_reducible refine (laws_alive.calls kj3  t520 _ A25.out).mono ?_); rintro e w28 ⟨rfl, hb⟩; refine ⟨_, rfl, ?_⟩; replace HO_6 := Aside0.mk (Kd.N_below (kN_ HO_6.out) hb); replace HO_516000 := Aside0.mk (Kd.Q_below (by (with_reducible repeat (first | apply Kd.Q_alloc | apply Kd.Q_drewN | apply Kd.Q_drew)); exact HO_516000.out) hb); replace HO_516001 := Aside0.mk (Kd.N_below (kN_ HO_516001.out) hb); replace BK515 := (bbA_ BK515 hb); replace HB := (bs_ HB hb); (try clear hb); (try clear hb2); (try clear hk); (try clear hi)))
      go_ret
      exact ⟨by first | rfl | (simp [errW_none, errW_some] <;> rfl) | (simp [*, errW_none, errW_some] <;> rfl), hbA_ HB.out⟩
     ·rw [if_neg c24] at H
      have c24b0 : decide (0 ≤ t519) = false := decide_eq_false c24
      clear c24
      have H' := Aside0.mk H
      clear H; have Z29 := zz2 BK515
      go_wp2_with (first | ((with_reducible refine gate_callee (f := 24) rfl ?_); refine goesL_ (some 43) rfl rfl Try.func24 (by kernel_rfl) rfl #[.agg #[.slice Ao7 t503.length co7, .slice Ao9 t506.length co9], .int .i64 t510, .int .i64 t514] rfl ar_ ?_; (with_reducible refine (impl_NearFind.calls kj3 _ _ t503 _ _ t506 t510 t514 t519 _ ?side1 ?side2 ?side3 ?side4 A23.out).mono ?_); (case side1 => exact kC_ (Kd.Q_reads' HO_516000.out).2.2); (case side2 => exact (Kd.Q_reads' HO_516000.out).2.1); (case side3 => exact kC_ (Kd.N_reads' HO_516001.out).2.2); (case side4 => exact (Kd.N_reads' HO_516001.out).2.1); rintro e w30 ⟨rfl, hb⟩; refine ⟨_, rfl, ?_⟩; replace HO_6 := Aside0.mk (Kd.N_below (kN_ HO_6.out) hb); replace HO_516000 := Aside0.mk (Kd.Q_below (by (with_reducible repeat (first | apply Kd.Q_alloc | apply Kd.Q_drewN | apply Kd.Q_drew)); exact HO_516000.out) hb); replace HO_516001 := Aside0.mk (Kd.N_below (kN_ HO_516001.out) hb); replace BK515 := (bbA_ BK515 hb); replace HB := (bs_ HB hb); (try clear hb); (try clear hb2); (try clear hk); (try clear hi)))
      go_loopg [8] kj3 (fun kq v8 w' => ∃ (x8_2 : Int) (x516000_2 : List (S63)) (x516001_2 : List (S65)) (u516000 : Value) (u516001 : Value), v8 = .int .i64 x8_2 ∧ Aside0 (laws_FnWholeAsking.l0 kq t509 t510 t511 t514 x8_2 x516000_2 x516001_2 = some r) ∧ Aside0 (kq ≤ kj3) ∧ Aside0 (Kd.N (Kd.slice 5 (Kd.int .u8)) 44 w' w.heap.size (fun k_ => some k_ ≠ (u516000 : Value).ownBlock ∧ some k_ ≠ (u516001 : Value).ownBlock ∧ k_ ≠ gb515) v512 t511) ∧ Aside0 (Kd.Q k63 63 w' w.heap.size (fun _ => True) u516000 x516000_2) ∧ Aside0 (Kd.N k65 65 w' w.heap.size (fun k_ => some k_ ≠ (v512 : Value).ownBlock ∧ some k_ ≠ (u516000 : Value).ownBlock ∧ k_ ≠ gb515) u516001 x516001_2) ∧ Aside0 (w'.heap[gb515]? = some (.cells #[u516000, u516001] 32 (0, 0))) ∧ Aside0 (Below w.heap.size w w'))
      case atStart => exact ⟨(0), (t503), (t506), (.slice Ao7 t503.length co7), (.slice Ao9 t506.length co9), (by first | rfl | (simp; done) | (simp [*]; done)), H', ⟨Nat.le_refl _⟩, ⟨by refine kN_ ?_; exact HO_6.out⟩, ⟨by (with_reducible repeat (first | apply Kd.Q_alloc | apply Kd.Q_drewN | apply Kd.Q_drew)); exact HO_516000.out⟩, ⟨by refine kN_ ?_; exact HO_516001.out⟩, ⟨by refine kb_ ?_; exact BK515.out⟩, ⟨hbA_ HB.out⟩⟩
      case round =>
       clear H'; (try clear c1); (try clear c2); (try clear c2b0); (try clear c2b1); (try clear p2); (try clear c5); (try clear c11); (try clear c20); (try clear c22); (try clear c24); (try clear c24b0); (try clear c25); (try clear c26); (try clear Z26); (try clear Z29); (try clear Z8); (try clear p2)
       obtain ⟨x8_2, x516000_2, x516001_2, u516000, u516001, rfl, HA, HK2, HO_6, HO_516000, HO_516001, BK515, HB⟩ := hrel
       cases gk with
       | zero => exact absurd HA.out (by simp [laws_FnWholeAsking.l0])
       | succ k2 =>
        have H := HA.out; clear HA
        simp only [laws_FnWholeAsking.l0] at H
        by_cases c31 : x8_2 < (t511.length : Int)
        ·rw [if_pos c31] at H
         have c31b0 : decide (x8_2 < (t511.length : Int)) = true := decide_eq_true c31
         clear c31
         by_cases c32 : 0 ≤ x8_2
         ·rw [if_pos c32] at H
          have c32b0 : decide (0 ≤ x8_2) = true := decide_eq_true c32
          clear c32
          replace H := Option.bind_eq_some_iff.mp H
          obtain ⟨⟨t522, t525, t528⟩, A330, H⟩ := H
          (try dsimp only at H)
          have A33 := Aside0.mk A330; clear A330
          by_cases c34 : t528 = (-1)
          ·rw [if_pos c34] at H
           have c34b0 : (t528 == (-1)) = true := beq_iff_eq.mpr c34
           have c34b1 : (t528 != (-1)) = false := bne_eq_false_iff_eq.mpr c34
           clear c34
           have H' := Aside0.mk H
           clear H
           obtain ⟨Ao35, co35, eo35⟩ := Kd.N_slice HO_6.out
           subst eo35
           obtain ⟨Ao36, co36, eo36, _⟩ := Kd.Q_slice HO_516000.out
           subst eo36
           obtain ⟨Ao37, co37, eo37⟩ := Kd.N_slice HO_516001.out
           subst eo37
           try go_wp2
           replace HO_6 := Aside0.mk (Kd.N_drew HO_6.out); replace HO_516000 := Aside0.mk (Kd.Q_drew HO_516000.out); replace HO_516001 := Aside0.mk (Kd.N_drew HO_516001.out); replace BK515 := Aside0.mk (blk_drew BK515.out); replace HB := (bd_ HB)
           have p521 : 0 ≤ (x8_2 : Int) := of_decide_eq_true (by first | (with_reducible assumption) | assumption)
           have q521 : x8_2 < (t511.length : Int) := of_decide_eq_true (by first | (with_reducible assumption) | assumption)
           obtain ⟨ad521, A521_0, c521_0, e521, hx521_0, hl521_0, hi521_0⟩ := at_L3 (Kd.N_reads' HO_6.out).2.2 x8_2 p521 q521
           cases e521
           obtain ⟨ce521, hce521, hMe521, hcc521⟩ := Kd.N_get HO_6.out [] x8_2 p521 (by first | exact q521 | exact of_decide_eq_true (by first | (with_reducible assumption) | assumption) | (have e_ := (Kd.N_reads' HO_6.out).1; omega))
           obtain ⟨ua521_0, uc521_0, rfl, ul521_0, ge521_0⟩ := Kd.FK_slice_open hMe521
           have hv521_0 := hcc521 0 _ rfl
           rw [Nat.add_zero, show ((Kd.slice 5 (Kd.int .u8))).sz = 1 from rfl, Nat.mul_one] at hv521_0
           replace hv521_0 := Option.some.inj (hv521_0.symm.trans hx521_0)
           injection hv521_0 with hva_ hvn_ hvc_
           rw [hva_] at ge521_0
           rw [hvc_] at ul521_0
           have HL521_0 := Aside0.mk (show Kd.V (Kd.int .u8) 5 _ w.heap.size _ _ (rd_L3 t511 x8_2) from Kd.V_mk ul521_0 ge521_0)
           clear hva_ hvn_ hvc_ ge521_0 ul521_0 hcc521 hce521; have HR521_0 := Aside0.mk hi521_0; have HC521_0 := Aside0.mk hl521_0; clear hi521_0 hl521_0
           replace p521 := eq_true p521
           replace q521 := eq_true q521
           refine start_ (n := 14) (S := fun w' => w'.cell? ⟨gb515, 0, none⟩ = some (.slice Ao36 x516000_2.length co36) ∧ w'.cell? ⟨gb515, 1, none⟩ = some (.slice Ao37 x516001_2.length co37) ∧ w'.cell? (ad521.add (x8_2).toNat) = some (.slice A521_0 (rd_L3 t511 x8_2).length c521_0)) (ds := []) #[false, false, false, false, false, false, false, false, false, false, false, false, false, false] (by kernel_rfl) rfl rfl ⟨bc_ BK515 0, bc_ BK515 1, hx521_0⟩ (fun hHeld => ?_); refine with_tabW laws_FnWholeAsking.tab11 laws_FnWholeAsking.bits11 (fun HT_ HW_ => ?_)
           generalize wr.drew = w38 at HO_6 HO_516000 HO_516001 BK515 HB HL521_0 HR521_0 hx521_0 hHeld ⊢
           refine pu_ (i := 1) (N := some 54) HT_ ?_; refine pu_ (i := 2) (N := some 55) HT_ ?_; refine pu_ (i := 3) (N := some 56) HT_ ?_; refine pu_ (i := 4) (N := some 57) HT_ ?_; refine pu_ (i := 6) (N := some 59) HT_ ?_; refine tk_ (i := 0) (N := some 53) HT_ HW_ hHeld ?_; refine tk_ (i := 5) (N := some 58) HT_ HW_ hHeld ?_
           refine join_ (σ := Value × Value × Nat) 2 #[true, true, true, true, true, true, true, true, true, true, true, true, false, false] (fun s_ => [(60, .tuple #[.agg #[s_.1, s_.2.1], .int .i64 t528]), (9, .pointer (some ⟨s_.2.2, 0, none⟩)), (52, .tuple #[.agg #[s_.1, s_.2.1], .int .i64 t528]), (61, .agg #[s_.1, s_.2.1]), (62, .int .i64 t528)]) (fun s_ w' => (w'.cell? ⟨gb515, 0, none⟩ = some (.slice Ao36 x516000_2.length co36) ∧ w'.cell? ⟨gb515, 1, none⟩ = some (.slice Ao37 x516001_2.length co37) ∧ w'.cell? (ad521.add (x8_2).toNat) = some (.slice A521_0 (rd_L3 t511 x8_2).length c521_0)) ∧ (Kd.V (Kd.int .u8) 5 w' w.heap.size (fun k_ => some k_ ≠ (s_.1 : Value).ownBlock ∧ some k_ ≠ (s_.2.1 : Value).ownBlock ∧ some k_ ≠ (.slice Ao36 x516000_2.length co36 : Value).ownBlock ∧ some k_ ≠ (.slice Ao37 x516001_2.length co37 : Value).ownBlock ∧ some k_ ≠ (.slice (some ad521) t511.length co35 : Value).ownBlock ∧ k_ ≠ gb515 ∧ k_ ≠ s_.2.2) (.slice A521_0 (rd_L3 t511 x8_2).length c521_0) (rd_L3 t511 x8_2)) ∧ (Kd.R k63 63 w' w.heap.size (fun k_ => some k_ ≠ (.slice Ao36 x516000_2.length co36 : Value).ownBlock) s_.1 t522) ∧ (Kd.N k65 65 w' w.heap.size (fun k_ => some k_ ≠ (s_.1 : Value).ownBlock ∧ some k_ ≠ (.slice Ao36 x516000_2.length co36 : Value).ownBlock ∧ some k_ ≠ (.slice Ao37 x516001_2.length co37 : Value).ownBlock ∧ some k_ ≠ (.slice (some ad521) t511.length co35 : Value).ownBlock ∧ k_ ≠ gb515 ∧ k_ ≠ s_.2.2) s_.2.1 t525) ∧ (Kd.Q k63 63 w' w.heap.size (fun k_ => some k_ ≠ (s_.1 : Value).ownBlock) (.slice Ao36 x516000_2.length co36) x516000_2) ∧ (Kd.N k65 65 w' w.heap.size (fun k_ => some k_ ≠ (s_.1 : Value).ownBlock ∧ some k_ ≠ (s_.2.1 : Value).ownBlock ∧ some k_ ≠ (.slice Ao36 x516000_2.length co36 : Value).ownBlock ∧ some k_ ≠ (.slice (some ad521) t511.length co35 : Value).ownBlock ∧ k_ ≠ gb515 ∧ k_ ≠ s_.2.2) (.slice Ao37 x516001_2.length co37) x516001_2) ∧ (Kd.N (Kd.slice 5 (Kd.int .u8)) 44 w' w.heap.size (fun k_ => some k_ ≠ (s_.1 : Value).ownBlock ∧ some k_ ≠ (s_.2.1 : Value).ownBlock ∧ some k_ ≠ (.slice Ao36 x516000_2.length co36 : Value).ownBlock ∧ some k_ ≠ (.slice Ao37 x516001_2.length co37 : Value).ownBlock ∧ k_ ≠ gb515 ∧ k_ ≠ s_.2.2) (.slice (some ad521) t511.length co35) t511) ∧ (w'.heap[gb515]? = some (.cells #[.slice Ao36 x516000_2.length co36, .slice Ao37 x516001_2.length co37] 32 (0, 0))) ∧ (w'.heap[s_.2.2]? = some (.cells #[.slice none 0 0, .slice none 0 0] 32 (0, 0))) ∧ (w.heap.size ≤ s_.2.2) ∧ (w.heap.size ≤ s_.2.2) ∧ (gb515 ≠ s_.2.2) ∧ (s_.2.2 ≠ gb515) ∧ (Below w.heap.size w w')) ?_ ?_
           rotate_left
           ·intro hCont
            refine two_ (i := 7) (j := 11) (Ni := some 60) (Nj := some 9) #[true, true, true, true, true, true, true, true, false, false, false, false, false, false] #[true, true, true, true, true, true, true, false, false, false, false, true, false, false] rfl rfl rfl rfl (two_of HT_.out (by kernel_rfl)) (by decide) (by decide) (fun K hK => ?_) (fun K hK => ?_)
            ·skip
             refine goes_ Try.func27 (by kernel_rfl) rfl #[.agg #[.slice Ao36 x516000_2.length co36, .slice Ao37 x516001_2.length co37], .int .i64 t510, .slice A521_0 (rd_L3 t511 x8_2).length c521_0, .int .i64 t514] (by rfl) rfl rfl ar_ ?_
             with_reducible refine (impl_NearSend.calls k2 _ _ x516000_2 _ _ x516001_2 t510 (fun k_ => ((some k_ ≠ (.slice Ao36 x516000_2.length co36 : Value).ownBlock ∧ (some k_ ≠ (.slice Ao37 x516001_2.length co37 : Value).ownBlock ∧ k_ ≠ gb515)) ∧ some k_ ≠ (.slice (some ad521) t511.length co35 : Value).ownBlock)) _ _ (rd_L3 t511 x8_2) t514 t522 t525 t528 _ ?side1 ?side2 ?side3 ?side4 ?side5 A33.out).mono ?_
             (case side1 => exact kC_ (Kd.Q_reads' HO_516000.out).2.2)
             (case side2 => exact (Kd.Q_reads' HO_516000.out).2.1)
             (case side3 => exact kC_ (Kd.N_reads' HO_516001.out).2.2)
             (case side4 => exact (Kd.N_reads' HO_516001.out).2.1)
             (case side5 => exact HL521_0.out)
             rintro e w39 ⟨v523, v526, rfl, ho0, ho1, hb⟩
             have HS2_ := (hb.cell (World.block_lt_of_cell? _ _ (hHeld.2.2))).trans (hHeld.2.2)
             refine ⟨_, rfl, ?_⟩
             replace HL521_0 := Aside0.mk (Kd.V_mono (Kd.V_told (Kd.V_told (Kd.V_old (kV_ HL521_0.out) hb) (Kd.R_base ho0)) (Kd.base_ ho1)) (fun _ h_ => op1_ h_)); have HO524 := Aside0.mk (Kd.R_lower (Kd.R_new' (Kd.R_mono (ok' := fun k_ => True) ho0 (fun _ hk_ => trivial)) (Kd.Q_lt (by (with_reducible repeat (first | apply Kd.Q_alloc | apply Kd.Q_drewN | apply Kd.Q_drew)); exact HO_516000.out))) (below_size (hbA_ HB.out))); have HO527 := Aside0.mk (Kd.N_lower (Kd.N_mono (ok' := fun k_ => some k_ ≠ (v523 : Value).ownBlock ∧ some k_ ≠ (.slice (some ad521) t511.length co35 : Value).ownBlock ∧ some k_ ≠ (.slice Ao36 x516000_2.length co36 : Value).ownBlock ∧ some k_ ≠ (.slice Ao37 x516001_2.length co37 : Value).ownBlock ∧ k_ ≠ gb515) ho1 (fun k_ hk_ => ⟨hk_.2, Or.elim hk_.1 (fun hs_ => hs_.2) (fun hn_ => (Kd.fresh' (Kd.N_lt (kN_ HO_6.out)) k_ hn_)), Or.elim hk_.1 (fun hs_ => hs_.1.1) (fun hn_ => (Kd.fresh' (Kd.Q_lt (by (with_reducible repeat (first | apply Kd.Q_alloc | apply Kd.Q_drewN | apply Kd.Q_drew)); exact HO_516000.out)) k_ hn_)), Or.elim hk_.1 (fun hs_ => hs_.1.2.1) (fun hn_ => (Kd.fresh' (Kd.N_lt (kN_ HO_516001.out)) k_ hn_)), Or.elim hk_.1 (fun hs_ => hs_.1.2.2) (fun hn_ => (fb_ BK515 k_ hn_))⟩)) (below_size (hbA_ HB.out))); replace HO_6 := Aside0.mk (Kd.N_mono (Kd.N_told (Kd.N_told (Kd.N_old (kN_ HO_6.out) hb) (Kd.R_base ho0)) (Kd.base_ ho1)) (fun _ h_ => op1_ h_)); replace HO_516000 := Aside0.mk (Kd.Q_elder' (by (with_reducible repeat (first | apply Kd.Q_alloc | apply Kd.Q_drewN | apply Kd.Q_drew)); exact HO_516000.out) (Kd.R_base ho0) hb); replace HO_516001 := Aside0.mk (Kd.N_mono (Kd.N_told (Kd.N_told (Kd.N_old (kN_ HO_516001.out) hb) (Kd.R_base ho0)) (Kd.base_ ho1)) (fun _ h_ => op1_ h_)); replace BK515 := (bbA_ BK515 hb); replace HR521_0 := Aside0.mk (Kd.C_below (by repeat (first | (with_reducible exact HR521_0.out) | (with_reducible exact Kd.C_drewN HR521_0.out _) | (with_reducible refine Kd.C_alloc ?_ _) | (with_reducible refine Kd.C_drewN ?_ _) | (with_reducible refine Kd.C_drew ?_) | exact HR521_0.out)) hb); replace HB := (bs_ HB hb); (try clear hb); (try clear hb2); (try clear hk); (try clear hi); (try clear ho0); (try clear ho1)
             refine hK.out _ _ ⟨bc_ BK515 0, bc_ BK515 1, HS2_⟩ (fun hHeld => ?_)
             clear hK K; refine nm_ 60 ?_; refine pu_ (i := 8) (N := some 52) HT_ ?_; refine pu_ (i := 9) (N := some 61) HT_ ?_; refine pu_ (i := 10) (N := some 62) HT_ ?_
             refine on_ (i := 11) (N := some 9) HT_ (fun K hK => ?_)
             refine box_step ?hg (N := 9) ?hd (cs := #[.slice none 0 0, .slice none 0 0]) (t := 32) ?hr ?_; (case hd => rfl); (case hg => rfl); (case hr => first | (go_simp; done) | (go_simp; rfl))
             intro gb529 hg w40 hbox hb
             have HS2_ := (hb.cell (World.block_lt_of_cell? _ _ (hHeld.2.2))).trans (hHeld.2.2)
             have n0_ := Aside0.mk (Kd.N_below (Kd.N_elderB (kN_ HO_6.out) gb529 (Nat.le_of_eq hg.symm)) hb); have n1_ := Aside0.mk (Kd.Q_below (by (with_reducible repeat (first | apply Kd.Q_alloc | apply Kd.Q_drewN | apply Kd.Q_drew)); exact HO_516000.out) hb); have n2_ := Aside0.mk (Kd.N_below (Kd.N_elderB (kN_ HO_516001.out) gb529 (Nat.le_of_eq hg.symm)) hb); have n3_ := Aside0.mk (Kd.V_below (Kd.V_elderB (kV_ HL521_0.out) gb529 (Nat.le_of_eq hg.symm)) hb); have n4_ := Aside0.mk (Kd.R_below (kR_ HO524.out) hb); have n5_ := Aside0.mk (Kd.N_below (Kd.N_elderB (kN_ HO527.out) gb529 (Nat.le_of_eq hg.symm)) hb); have n6_ := (bbA_ BK515 hb); have n7_ := Aside0.mk (Kd.C_below (by repeat (first | (with_reducible exact HR521_0.out) | (with_reducible exact Kd.C_drewN HR521_0.out _) | (with_reducible refine Kd.C_alloc ?_ _) | (with_reducible refine Kd.C_drewN ?_ _) | (with_reducible refine Kd.C_drew ?_) | exact HR521_0.out)) hb); have n8_ := (bs_ HB hb); have n9_ := Aside0.mk (hbox); have n10_ := ge_ hg HB; have n11_ := ge_ hg HB; have n12_ := nl_ hg BK515; have n13_ := ng_ hg BK515; clear HO_6 HO_516000 HO_516001 HL521_0 HO524 HO527 BK515 HR521_0 HB; have HO_6 := n0_; have HO_516000 := n1_; have HO_516001 := n2_; have HL521_0 := n3_; have HO524 := n4_; have HO527 := n5_; have BK515 := n6_; have HR521_0 := n7_; have HB := n8_; have BK529 := n9_; have GW529 := n10_; have GE529 := n11_; have NB515_529 := n12_; have NB529_515 := n13_; clear n0_ n1_ n2_ n3_ n4_ n5_ n6_ n7_ n8_ n9_ n10_ n11_ n12_ n13_ hb hbox hg
             refine hK.out _ _ ⟨bc_ BK515 0, bc_ BK515 1, HS2_⟩ (fun hHeld => ?_)
             clear hK K; refine nm_ 9 ?_
             exact norm_ (by simp only [putAll, Act.put, List.setIfInBounds_toArray, List.set_cons_zero, List.set_cons_succ]) (hCont (v523, v526, gb529) _ ⟨hHeld, (by refine kV_ ?_; exact Kd.V_mono HL521_0.out (fun _ hk => ⟨hk.1.1.2, ⟨hk.1.2, ⟨hk.1.1.1.1.1, ⟨hk.1.1.1.1.2.1, ⟨hk.1.1.1.2, ⟨hk.1.1.1.1.2.2, hk.2⟩⟩⟩⟩⟩⟩)), (by refine kR_ ?_; first | exact Kd.R_mono HO524.out (fun _ hk => hk.2) | exact Kd.R_mono HO524.out (fun _ _ => trivial)), (by refine kN_ ?_; exact Kd.N_mono HO527.out (fun _ hk => ⟨hk.1.1, ⟨hk.1.2.2.1, ⟨hk.1.2.2.2.1, ⟨hk.1.2.1, ⟨hk.1.2.2.2.2, hk.2⟩⟩⟩⟩⟩)), (by (with_reducible repeat (first | apply Kd.Q_alloc | apply Kd.Q_drewN | apply Kd.Q_drew)); exact Kd.Q_mono HO_516000.out (fun _ hk => hk.2)), (by refine kN_ ?_; exact Kd.N_mono HO_516001.out (fun _ hk => ⟨hk.1.1.2, ⟨hk.1.2, ⟨hk.1.1.1.2.1, ⟨hk.1.1.1.1, ⟨hk.1.1.1.2.2, hk.2⟩⟩⟩⟩⟩)), (by refine kN_ ?_; exact Kd.N_mono HO_6.out (fun _ hk => ⟨hk.1.1.2, ⟨hk.1.2, ⟨hk.1.1.1.1, ⟨hk.1.1.1.2.1, ⟨hk.1.1.1.2.2, hk.2⟩⟩⟩⟩⟩)), (kb_ BK515.out), (kb_ BK529.out), GW529.out, GE529.out, NB515_529.out, NB529_515.out, (hbA_ HB.out)⟩)
            ·skip
             refine box_step ?hg (N := 9) ?hd (cs := #[.slice none 0 0, .slice none 0 0]) (t := 32) ?hr ?_; (case hd => rfl); (case hg => rfl); (case hr => first | (go_simp; done) | (go_simp; rfl))
             intro gb529 hg w39 hbox hb
             have HS2_ := (hb.cell (World.block_lt_of_cell? _ _ (hHeld.2.2))).trans (hHeld.2.2)
             have n0_ := Aside0.mk (Kd.N_below (Kd.N_elderB (kN_ HO_6.out) gb529 (Nat.le_of_eq hg.symm)) hb); have n1_ := Aside0.mk (Kd.Q_below (by (with_reducible repeat (first | apply Kd.Q_alloc | apply Kd.Q_drewN | apply Kd.Q_drew)); exact HO_516000.out) hb); have n2_ := Aside0.mk (Kd.N_below (Kd.N_elderB (kN_ HO_516001.out) gb529 (Nat.le_of_eq hg.symm)) hb); have n3_ := Aside0.mk (Kd.V_below (Kd.V_elderB (kV_ HL521_0.out) gb529 (Nat.le_of_eq hg.symm)) hb); have n4_ := (bbA_ BK515 hb); have n5_ := Aside0.mk (Kd.C_below (by repeat (first | (with_reducible exact HR521_0.out) | (with_reducible exact Kd.C_drewN HR521_0.out _) | (with_reducible refine Kd.C_alloc ?_ _) | (with_reducible refine Kd.C_drewN ?_ _) | (with_reducible refine Kd.C_drew ?_) | exact HR521_0.out)) hb); have n6_ := (bs_ HB hb); have n7_ := Aside0.mk (hbox); have n8_ := ge_ hg HB; have n9_ := ge_ hg HB; have n10_ := nl_ hg BK515; have n11_ := ng_ hg BK515; clear HO_6 HO_516000 HO_516001 HL521_0 BK515 HR521_0 HB; have HO_6 := n0_; have HO_516000 := n1_; have HO_516001 := n2_; have HL521_0 := n3_; have BK515 := n4_; have HR521_0 := n5_; have HB := n6_; have BK529 := n7_; have GW529 := n8_; have GE529 := n9_; have NB515_529 := n10_; have NB529_515 := n11_; clear n0_ n1_ n2_ n3_ n4_ n5_ n6_ n7_ n8_ n9_ n10_ n11_ hb hbox hg
             refine hK.out _ _ ⟨bc_ BK515 0, bc_ BK515 1, HS2_⟩ (fun hHeld => ?_)
             clear hK K; refine nm_ 9 ?_
             refine on_ (i := 7) (N := some 60) HT_ (fun K hK => ?_)
             refine goes_ Try.func27 (by kernel_rfl) rfl #[.agg #[.slice Ao36 x516000_2.length co36, .slice Ao37 x516001_2.length co37], .int .i64 t510, .slice A521_0 (rd_L3 t511 x8_2).length c521_0, .int .i64 t514] (by rfl) rfl rfl ar_ ?_
             with_reducible refine (impl_NearSend.calls k2 _ _ x516000_2 _ _ x516001_2 t510 (fun k_ => (((some k_ ≠ (.slice Ao36 x516000_2.length co36 : Value).ownBlock ∧ (some k_ ≠ (.slice Ao37 x516001_2.length co37 : Value).ownBlock ∧ k_ ≠ gb515)) ∧ some k_ ≠ (.slice (some ad521) t511.length co35 : Value).ownBlock) ∧ k_ ≠ gb529)) _ _ (rd_L3 t511 x8_2) t514 t522 t525 t528 _ ?side1 ?side2 ?side3 ?side4 ?side5 A33.out).mono ?_
             (case side1 => exact kC_ (Kd.Q_reads' HO_516000.out).2.2)
             (case side2 => exact (Kd.Q_reads' HO_516000.out).2.1)
             (case side3 => exact kC_ (Kd.N_reads' HO_516001.out).2.2)
             (case side4 => exact (Kd.N_reads' HO_516001.out).2.1)
             (case side5 => exact HL521_0.out)
             rintro e w40 ⟨v523, v526, rfl, ho0, ho1, hb⟩
             have HS2_ := (hb.cell (World.block_lt_of_cell? _ _ (hHeld.2.2))).trans (hHeld.2.2)
             refine ⟨_, rfl, ?_⟩
             replace HL521_0 := Aside0.mk (Kd.V_mono (Kd.V_told (Kd.V_told (Kd.V_old (kV_ HL521_0.out) hb) (Kd.R_base ho0)) (Kd.base_ ho1)) (fun _ h_ => op1_ h_)); have HO524 := Aside0.mk (Kd.R_lower (Kd.R_new' (Kd.R_mono (ok' := fun k_ => True) ho0 (fun _ hk_ => trivial)) (Kd.Q_lt (by (with_reducible repeat (first | apply Kd.Q_alloc | apply Kd.Q_drewN | apply Kd.Q_drew)); exact HO_516000.out))) (below_size (hbA_ HB.out))); have HO527 := Aside0.mk (Kd.N_lower (Kd.N_mono (ok' := fun k_ => some k_ ≠ (v523 : Value).ownBlock ∧ some k_ ≠ (.slice (some ad521) t511.length co35 : Value).ownBlock ∧ some k_ ≠ (.slice Ao36 x516000_2.length co36 : Value).ownBlock ∧ some k_ ≠ (.slice Ao37 x516001_2.length co37 : Value).ownBlock ∧ k_ ≠ gb515 ∧ k_ ≠ gb529) ho1 (fun k_ hk_ => ⟨hk_.2, Or.elim hk_.1 (fun hs_ => hs_.1.2) (fun hn_ => (Kd.fresh' (Kd.N_lt (kN_ HO_6.out)) k_ hn_)), Or.elim hk_.1 (fun hs_ => hs_.1.1.1) (fun hn_ => (Kd.fresh' (Kd.Q_lt (by (with_reducible repeat (first | apply Kd.Q_alloc | apply Kd.Q_drewN | apply Kd.Q_drew)); exact HO_516000.out)) k_ hn_)), Or.elim hk_.1 (fun hs_ => hs_.1.1.2.1) (fun hn_ => (Kd.fresh' (Kd.N_lt (kN_ HO_516001.out)) k_ hn_)), Or.elim hk_.1 (fun hs_ => hs_.1.1.2.2) (fun hn_ => (fb_ BK515 k_ hn_)), Or.elim hk_.1 (fun hs_ => hs_.2) (fun hn_ => (fb_ BK529 k_ hn_))⟩)) (below_size (hbA_ HB.out))); replace HO_6 := Aside0.mk (Kd.N_mono (Kd.N_told (Kd.N_told (Kd.N_old (kN_ HO_6.out) hb) (Kd.R_base ho0)) (Kd.base_ ho1)) (fun _ h_ => op1_ h_)); replace HO_516000 := Aside0.mk (Kd.Q_elder' (by (with_reducible repeat (first | apply Kd.Q_alloc | apply Kd.Q_drewN | apply Kd.Q_drew)); exact HO_516000.out) (Kd.R_base ho0) hb); replace HO_516001 := Aside0.mk (Kd.N_mono (Kd.N_told (Kd.N_told (Kd.N_old (kN_ HO_516001.out) hb) (Kd.R_base ho0)) (Kd.base_ ho1)) (fun _ h_ => op1_ h_)); replace BK515 := (bbA_ BK515 hb); replace HR521_0 := Aside0.mk (Kd.C_below (by repeat (first | (with_reducible exact HR521_0.out) | (with_reducible exact Kd.C_drewN HR521_0.out _) | (with_reducible refine Kd.C_alloc ?_ _) | (with_reducible refine Kd.C_drewN ?_ _) | (with_reducible refine Kd.C_drew ?_) | exact HR521_0.out)) hb); replace BK529 := (bbA_ BK529 hb); replace HB := (bs_ HB hb); (try clear hb); (try clear hb2); (try clear hk); (try clear hi); (try clear ho0); (try clear ho1)
             refine hK.out _ _ ⟨bc_ BK515 0, bc_ BK515 1, HS2_⟩ (fun hHeld => ?_)
             clear hK K; refine nm_ 60 ?_; refine pu_ (i := 8) (N := some 52) HT_ ?_; refine pu_ (i := 9) (N := some 61) HT_ ?_; refine pu_ (i := 10) (N := some 62) HT_ ?_
             exact norm_ (by simp only [putAll, Act.put, List.setIfInBounds_toArray, List.set_cons_zero, List.set_cons_succ]) (hCont (v523, v526, gb529) _ ⟨hHeld, (by refine kV_ ?_; exact Kd.V_mono HL521_0.out (fun _ hk => ⟨hk.1.2, ⟨hk.2, ⟨hk.1.1.1.1.1, ⟨hk.1.1.1.1.2.1, ⟨hk.1.1.1.2, ⟨hk.1.1.1.1.2.2, hk.1.1.2⟩⟩⟩⟩⟩⟩)), (by refine kR_ ?_; first | exact Kd.R_mono HO524.out (fun _ hk => hk.2) | exact Kd.R_mono HO524.out (fun _ _ => trivial)), (by refine kN_ ?_; exact Kd.N_mono HO527.out (fun _ hk => ⟨hk.1, ⟨hk.2.2.1, ⟨hk.2.2.2.1, ⟨hk.2.1, ⟨hk.2.2.2.2.1, hk.2.2.2.2.2⟩⟩⟩⟩⟩)), (by (with_reducible repeat (first | apply Kd.Q_alloc | apply Kd.Q_drewN | apply Kd.Q_drew)); exact Kd.Q_mono HO_516000.out (fun _ hk => hk.2)), (by refine kN_ ?_; exact Kd.N_mono HO_516001.out (fun _ hk => ⟨hk.1.2, ⟨hk.2, ⟨hk.1.1.1.2.1, ⟨hk.1.1.1.1, ⟨hk.1.1.1.2.2, hk.1.1.2⟩⟩⟩⟩⟩)), (by refine kN_ ?_; exact Kd.N_mono HO_6.out (fun _ hk => ⟨hk.1.2, ⟨hk.2, ⟨hk.1.1.1.1, ⟨hk.1.1.1.2.1, ⟨hk.1.1.1.2.2, hk.1.1.2⟩⟩⟩⟩⟩)), (kb_ BK515.out), (kb_ BK529.out), GW529.out, GE529.out, NB515_529.out, NB529_515.out, (hbA_ HB.out)⟩)
           rintro ⟨v523, v526, gb529⟩ w41 ⟨hS_, h0_, h1_, h2_, h3_, h4_, h5_, h6_, h7_, h8_, h9_, h10_, h11_, h12_⟩
           have n0_ : Aside0 (Kd.V (Kd.int .u8) 5 w41 w.heap.size (fun k_ => some k_ ≠ (v523 : Value).ownBlock ∧ some k_ ≠ (v526 : Value).ownBlock ∧ some k_ ≠ (.slice Ao36 x516000_2.length co36 : Value).ownBlock ∧ some k_ ≠ (.slice Ao37 x516001_2.length co37 : Value).ownBlock ∧ some k_ ≠ (.slice (some ad521) t511.length co35 : Value).ownBlock ∧ k_ ≠ gb515 ∧ k_ ≠ gb529) (.slice A521_0 (rd_L3 t511 x8_2).length c521_0) (rd_L3 t511 x8_2)) := ⟨h0_⟩
           have n1_ : Aside0 (Kd.R k63 63 w41 w.heap.size (fun k_ => some k_ ≠ (.slice Ao36 x516000_2.length co36 : Value).ownBlock) v523 t522) := ⟨h1_⟩
           have n2_ : Aside0 (Kd.N k65 65 w41 w.heap.size (fun k_ => some k_ ≠ (v523 : Value).ownBlock ∧ some k_ ≠ (.slice Ao36 x516000_2.length co36 : Value).ownBlock ∧ some k_ ≠ (.slice Ao37 x516001_2.length co37 : Value).ownBlock ∧ some k_ ≠ (.slice (some ad521) t511.length co35 : Value).ownBlock ∧ k_ ≠ gb515 ∧ k_ ≠ gb529) v526 t525) := ⟨h2_⟩
           have n3_ : Aside0 (Kd.Q k63 63 w41 w.heap.size (fun k_ => some k_ ≠ (v523 : Value).ownBlock) (.slice Ao36 x516000_2.length co36) x516000_2) := ⟨h3_⟩
           have n4_ : Aside0 (Kd.N k65 65 w41 w.heap.size (fun k_ => some k_ ≠ (v523 : Value).ownBlock ∧ some k_ ≠ (v526 : Value).ownBlock ∧ some k_ ≠ (.slice Ao36 x516000_2.length co36 : Value).ownBlock ∧ some k_ ≠ (.slice (some ad521) t511.length co35 : Value).ownBlock ∧ k_ ≠ gb515 ∧ k_ ≠ gb529) (.slice Ao37 x516001_2.length co37) x516001_2) := ⟨h4_⟩
           have n5_ : Aside0 (Kd.N (Kd.slice 5 (Kd.int .u8)) 44 w41 w.heap.size (fun k_ => some k_ ≠ (v523 : Value).ownBlock ∧ some k_ ≠ (v526 : Value).ownBlock ∧ some k_ ≠ (.slice Ao36 x516000_2.length co36 : Value).ownBlock ∧ some k_ ≠ (.slice Ao37 x516001_2.length co37 : Value).ownBlock ∧ k_ ≠ gb515 ∧ k_ ≠ gb529) (.slice (some ad521) t511.length co35) t511) := ⟨h5_⟩
           have n6_ : Aside0 (w41.heap[gb515]? = some (.cells #[.slice Ao36 x516000_2.length co36, .slice Ao37 x516001_2.length co37] 32 (0, 0))) := ⟨h6_⟩
           have n7_ : Aside0 (w41.heap[gb529]? = some (.cells #[.slice none 0 0, .slice none 0 0] 32 (0, 0))) := ⟨h7_⟩
           have n8_ : Aside0 (w.heap.size ≤ gb529) := ⟨h8_⟩
           have n9_ : Aside0 (w.heap.size ≤ gb529) := ⟨h9_⟩
           have n10_ : Aside0 (gb515 ≠ gb529) := ⟨h10_⟩
           have n11_ : Aside0 (gb529 ≠ gb515) := ⟨h11_⟩
           have n12_ : Aside0 (Below w.heap.size w w41) := ⟨h12_⟩
           clear HO_6 HO_516000 HO_516001 BK515 HB h0_ h1_ h2_ h3_ h4_ h5_ h6_ h7_ h8_ h9_ h10_ h11_ h12_; have HL521_0 := n0_; have HO524 := n1_; have HO527 := n2_; have HO_516000 := n3_; have HO_516001 := n4_; have HO_6 := n5_; have BK515 := n6_; have BK529 := n7_; have GW529 := n8_; have GE529 := n9_; have NB515_529 := n10_; have NB529_515 := n11_; have HB := n12_; clear n0_ n1_ n2_ n3_ n4_ n5_ n6_ n7_ n8_ n9_ n10_ n11_ n12_
           have hHeld : w41.cell? ⟨gb515, 0, none⟩ = some (.slice Ao36 x516000_2.length co36) ∧ w41.cell? ⟨gb515, 1, none⟩ = some (.slice Ao37 x516001_2.length co37) ∧ w41.cell? (ad521.add (x8_2).toNat) = some (.slice A521_0 (rd_L3 t511 x8_2).length c521_0) := hS_
           obtain ⟨Ao42, co42, eo42⟩ := Kd.R_slice HO524.out
           (first | subst eo42 | (injection eo42 with f1_ f2_ f3_; have f4_ := f1_.symm; have f5_ := f3_.symm; clear f1_ f2_ f3_; subst f4_; subst f5_))
           obtain ⟨Ao44, co44, eo44⟩ := Kd.N_slice HO527.out
           (first | subst eo44 | (injection eo44 with f1_ f2_ f3_; have f4_ := f1_.symm; have f5_ := f3_.symm; clear f1_ f2_ f3_; subst f4_; subst f5_))
           refine norm_ (a' := ?_) ?_ ?_
           rotate_left
           ·simp only [putAll, Act.put, List.setIfInBounds_toArray, List.set_cons_zero, List.set_cons_succ]
            rfl
           refine on_ (i := 12) (N := none) HT_ (fun K hK => ?_)
           have hs43 : w41.cell? ⟨gb529, 0, none⟩ = some (.slice none 0 0) := bc_ BK529 0
           have hfs43 := blk_frozen BK529.out 0
           have hns43_0 := NB515_529.out; have hms43_0 := NB529_515.out
           have hs45 : w41.cell? ⟨gb529, 1, none⟩ = some (.slice none 0 0) := bc_ BK529 1
           have hfs45 := blk_frozen BK529.out 1
           have hns45_0 := NB515_529.out; have hms45_0 := NB529_515.out
           refine skip_ (w1 := ?_) (by rfl) rfl ?_ ?_
           rotate_left
           ·go_simp
            rfl
           refine hK.out _ _ ⟨((cell_far (p := ⟨gb529, _, none⟩) NB515_529.out _).trans (((cell_far (p := ⟨gb529, _, none⟩) NB515_529.out _).trans (hHeld.1)))), ((cell_far (p := ⟨gb529, _, none⟩) NB515_529.out _).trans (((cell_far (p := ⟨gb529, _, none⟩) NB515_529.out _).trans (hHeld.2.1)))), ((cell_far (p := ⟨gb529, _, none⟩) (by first | exact Kd.own_blk (Kd.N_away HO_6.out (fun _ hk => hk.2.2.2.2.2)) | (rw [add_block]; exact Kd.own_blk (Kd.N_away HO_6.out (fun _ hk => hk.2.2.2.2.2))) | (show (Addr.add _ _).block ≠ _; rw [add_block]; exact Kd.own_blk (Kd.N_away HO_6.out (fun _ hk => hk.2.2.2.2.2))) | (dsimp only; exact Kd.own_blk (Kd.N_away HO_6.out (fun _ hk => hk.2.2.2.2.2)))) _).trans (((cell_far (p := ⟨gb529, _, none⟩) (by first | exact Kd.own_blk (Kd.N_away HO_6.out (fun _ hk => hk.2.2.2.2.2)) | (rw [add_block]; exact Kd.own_blk (Kd.N_away HO_6.out (fun _ hk => hk.2.2.2.2.2))) | (show (Addr.add _ _).block ≠ _; rw [add_block]; exact Kd.own_blk (Kd.N_away HO_6.out (fun _ hk => hk.2.2.2.2.2))) | (dsimp only; exact Kd.own_blk (Kd.N_away HO_6.out (fun _ hk => hk.2.2.2.2.2)))) _).trans (hHeld.2.2))))⟩ (fun hHeld => ?_)
           clear hK K; refine pu_ (i := 13) (N := some 10) HT_ ?_
           refine done_ (done_of HT_.out (by kernel_rfl)) ?_
           have hnb46 := NB529_515.out; have hnc46 := NB515_529.out; have Z47 := zz2 BK529; have Z48 := zz2 BK515
           try go_wp2
           go_roundg k2
           case measure => have := HJ3.out; have := HK2.out; omega
           case rel => exact ⟨(wrap64 (x8_2 + 1)), (t522), (t525), (.slice Ao42 t522.length co42), (.slice Ao44 t525.length co44), (by first | rfl | (simp; done) | (simp [*]; done)), H', ⟨by have := HJ3.out; have := HK2.out; omega⟩, ⟨by refine kN_ ?_; exact Kd.N_mono (Kd.N_far (p := ⟨gb515, 1, none⟩) (Kd.N_far (p := ⟨gb515, 0, none⟩) (Kd.N_far (p := ⟨gb529, 1, none⟩) (Kd.N_far (p := ⟨gb529, 0, none⟩) (Kd.N_mono (Kd.N_mono HO_6.out (fun k_ hk => (⟨hk, hk.2.2.2.2.2⟩ : _ ∧ k_ ≠ gb529))) (fun k_ hk => (⟨hk, hk.1.2.2.2.2.1⟩ : _ ∧ k_ ≠ gb515))) (fun _ hk => hk.1.2) (.slice Ao42 t522.length co42)) (fun _ hk => hk.1.2) (.slice Ao44 t525.length co44)) (fun _ hk => hk.2) (.slice Ao42 t522.length co42)) (fun _ hk => hk.2) (.slice Ao44 t525.length co44)) (fun _ hk => ⟨hk.1.1.1, ⟨hk.1.1.2.1, hk.1.1.2.2.2.2.1⟩⟩)⟩, ⟨Kd.Q_of_R (by refine kR_ ?_; exact rfm_ ((Kd.R_far (p := ⟨gb529, 1, none⟩) (Kd.R_far (p := ⟨gb529, 0, none⟩) (Kd.R_types (Kd.R_types HO524.out BK529.out (by decide)) BK515.out (by decide)) (fun _ hk => hk.1.2) (.slice Ao42 t522.length co42)) (fun _ hk => hk.1.2) (.slice Ao44 t525.length co44))) (fun _ hk => trivial))⟩, ⟨by refine kN_ ?_; exact Kd.N_mono (Kd.N_far (p := ⟨gb515, 1, none⟩) (Kd.N_far (p := ⟨gb515, 0, none⟩) (Kd.N_far (p := ⟨gb529, 1, none⟩) (Kd.N_far (p := ⟨gb529, 0, none⟩) (Kd.N_mono (Kd.N_mono HO527.out (fun k_ hk => (⟨hk, hk.2.2.2.2.2⟩ : _ ∧ k_ ≠ gb529))) (fun k_ hk => (⟨hk, hk.1.2.2.2.2.1⟩ : _ ∧ k_ ≠ gb515))) (fun _ hk => hk.1.2) (.slice Ao42 t522.length co42)) (fun _ hk => hk.1.2) (.slice Ao44 t525.length co44)) (fun _ hk => hk.2) (.slice Ao42 t522.length co42)) (fun _ hk => hk.2) (.slice Ao44 t525.length co44)) (fun _ hk => ⟨hk.1.1.2.2.2.1, ⟨hk.1.1.1, hk.1.1.2.2.2.2.1⟩⟩)⟩, ⟨by refine kb_ ?_; refine pz2 (cs := #[.slice Ao36 x516000_2.length co36, .slice Ao37 x516001_2.length co37]) ?_; exact kf_ BK515.out⟩, ⟨hbA_ HB.out⟩⟩
          ·rw [if_neg c34] at H
           have c34b0 : (t528 == (-1)) = false := beq_eq_false_iff_ne.mpr c34
           have c34b1 : (t528 != (-1)) = true := bne_iff_ne.mpr c34
           exact absurd (Option.some.inj H) (by rw [HLW.out]; exact Bool.false_ne_true)
         ·rw [if_neg c32] at H
          exact absurd H (by simp)
        ·rw [if_neg c31] at H
         have c31b0 : decide (x8_2 < (t511.length : Int)) = false := decide_eq_false c31
         clear c31
         replace H := Option.bind_eq_some_iff.mp H
         obtain ⟨⟨t530, t531, t532, t533, t534⟩, A490, H⟩ := H
         (try dsimp only at H)
         have A49 := Aside0.mk A490; clear A490
         replace H := Option.bind_eq_some_iff.mp H
         obtain ⟨⟨t536, t539, t542⟩, A500, H⟩ := H
         (try dsimp only at H)
         have A50 := Aside0.mk A500; clear A500
         by_cases c51 : t534 = true
         ·subst c51
          rw [if_pos rfl] at H
          replace H := Option.bind_eq_some_iff.mp H
          obtain ⟨t546, A520, H⟩ := H
          (try dsimp only at H)
          have A52 := Aside0.mk A520; clear A520
          by_cases c53 : t546 = true
          ·subst c53
           rw [if_pos rfl] at H
           replace H := Option.bind_eq_some_iff.mp H
           obtain ⟨t547, A540, H⟩ := H
           (try dsimp only at H)
           have A54 := Aside0.mk A540; clear A540
           by_cases c55 : t547 = 7
           ·rw [if_pos c55] at H
            have c55b0 : (t547 == 7) = true := beq_iff_eq.mpr c55
            have c55b1 : (t547 != 7) = false := bne_eq_false_iff_eq.mpr c55
            clear c55
            obtain rfl := Option.some.inj H
            obtain ⟨Ao56, co56, eo56⟩ := Kd.N_slice HO_6.out
            subst eo56
            go_wp2_with (first | ((with_reducible refine gate_callee (f := 28) rfl ?_); refine goesL_ (some 71) rfl rfl Try.func28 (by kernel_rfl) rfl #[.int .i64 7, .int .i64 t510, .agg #[.int .i64 1, .int .i64 3, .int .i64 t509, .int .i64 t510]] rfl ar_ ?_; (with_reducible refine (impl_NearTells.calls k2 7 t510 1 3 t509 t510 t530 t531 t532 t533 true _ A49.out).mono ?_); rintro e w57 ⟨rfl, hb⟩; refine ⟨_, rfl, ?_⟩; replace HO_6 := Aside0.mk (Kd.N_below (kN_ HO_6.out) hb); replace HO_516000 := Aside0.mk (Kd.Q_below (by (with_reducible repeat (first | apply Kd.Q_alloc | apply Kd.Q_drewN | apply Kd.Q_drew)); exact HO_516000.out) hb); replace HO_516001 := Aside0.mk (Kd.N_below (kN_ HO_516001.out) hb); replace BK515 := (bbA_ BK515 hb); replace HB := (bs_ HB hb); (try clear hb); (try clear hb2); (try clear hk); (try clear hi)) | ((with_reducible refine gate_dst (N := 11) rfl ?_); (try (refine gate_guard (by rfl) ?_; dsimp only)); refine box_ (N := 11) (cs := #[.int .i64 0, .int .i64 0, .int .i64 0, .int .i64 0]) (t := 37) (fun gb535 hg w58 hbox hb => ?_); replace HO_6 := Aside0.mk (Kd.N_below (Kd.N_elderB (kN_ HO_6.out) gb535 (Nat.le_of_eq hg.symm)) hb); replace HO_516000 := Aside0.mk (Kd.Q_below (by (with_reducible repeat (first | apply Kd.Q_alloc | apply Kd.Q_drewN | apply Kd.Q_drew)); exact HO_516000.out) hb); replace HO_516001 := Aside0.mk (Kd.N_below (Kd.N_elderB (kN_ HO_516001.out) gb535 (Nat.le_of_eq hg.symm)) hb); have BK535 := Aside0.mk (hbox); have GW535 := ge_ hg HB; have GE535 := ge_ hg HB; replace HB := (bs_ HB hb); have NB515_535 := nl_ hg BK515; have NB535_515 := ng_ hg BK515; replace BK515 := (bbA_ BK515 hb); clear hb hbox hg; have hnb59 := NB535_515.out; have hnc59 := NB515_535.out; have Z60 := zz4 BK535; have Z61 := zz2 BK515; obtain ⟨Ao62, co62, eo62, _⟩ := Kd.Q_slice HO_516000.out; subst eo62; obtain ⟨Ao63, co63, eo63⟩ := Kd.N_slice HO_516001.out; subst eo63) | ((with_reducible refine gate_callee (f := 10) rfl ?_); refine goesL_ (some 79) rfl rfl Try.func10 (by kernel_rfl) rfl #[.agg #[.slice Ao62 x516000_2.length co62, .slice Ao63 x516001_2.length co63], .int .i64 t509, .agg #[.int .i64 t530, .int .i64 t531, .int .i64 t532, .int .i64 t533], .int .i64 t514] rfl ar_ ?_; (with_reducible refine (impl_NearHear.calls k2 _ _ x516000_2 _ _ x516001_2 t509 t530 t531 t532 t533 t514 t536 t539 t542 _ ?side1 ?side2 ?side3 ?side4 A50.out).mono ?_); (case side1 => refine (Kd.Q_reads' (e := 63) (base := w.heap.size) (ok := fun k_ => True) (n := x516000_2.length) (c := co62) ?_).2.2; exact (by (with_reducible repeat (first | apply Kd.Q_alloc | apply Kd.Q_drewN | apply Kd.Q_drew)); exact (Kd.Q_mono (Kd.Q_far (p := ⟨gb535, 3, none⟩) (Kd.Q_far (p := ⟨gb535, 2, none⟩) (Kd.Q_far (p := ⟨gb535, 1, none⟩) (Kd.Q_far (p := ⟨gb535, 0, none⟩) (Kd.Q_types HO_516000.out BK535.out (by decide)) (fun _ hk => hk.2) (.int .i64 t530)) (fun _ hk => hk.2) (.int .i64 t531)) (fun _ hk => hk.2) (.int .i64 t532)) (fun _ hk => hk.2) (.int .i64 t533)) (fun _ h_ => op1_ h_)))); (case side2 => exact (Kd.Q_reads' HO_516000.out).2.1); (case side3 => refine (Kd.N_reads' (e := 65) (base := w.heap.size) (ok := fun k_ => ((some k_ ≠ (.slice Ao56 t511.length co56 : Value).ownBlock ∧ (some k_ ≠ (.slice Ao62 x516000_2.length co62 : Value).ownBlock ∧ k_ ≠ gb515)) ∧ k_ ≠ gb535)) (n := x516001_2.length) (c := co63) ?_).2.2; exact (by refine kN_ ?_; exact (nfN_ gb535 HO_516001.out (fun _ hk => hk.2) (fun _ h_ => op1_ h_)))); (case side4 => exact (Kd.N_reads' HO_516001.out).2.1); rintro e w64 ⟨v537, v540, v543, rfl, ho0, ho1, ho2, hb⟩; refine ⟨_, rfl, ?_⟩; have HO538 := Aside0.mk (Kd.R_lower (Kd.R_new' ho0 (Kd.Q_lt (by (with_reducible repeat (first | apply Kd.Q_alloc | apply Kd.Q_drewN | apply Kd.Q_drew)); exact (Kd.Q_mono (Kd.Q_far (p := ⟨gb535, 3, none⟩) (Kd.Q_far (p := ⟨gb535, 2, none⟩) (Kd.Q_far (p := ⟨gb535, 1, none⟩) (Kd.Q_far (p := ⟨gb535, 0, none⟩) (Kd.Q_types HO_516000.out BK535.out (by decide)) (fun _ hk => hk.2) (.int .i64 t530)) (fun _ hk => hk.2) (.int .i64 t531)) (fun _ hk => hk.2) (.int .i64 t532)) (fun _ hk => hk.2) (.int .i64 t533)) (fun _ h_ => op1_ h_))))) (below_size (hbA_ HB.out))); have HO541 := Aside0.mk (Kd.N_lower (Kd.N_mono (ok' := fun k_ => some k_ ≠ (v537 : Value).ownBlock ∧ some k_ ≠ (v543 : Value).ownBlock ∧ some k_ ≠ (.slice Ao56 t511.length co56 : Value).ownBlock ∧ some k_ ≠ (.slice Ao62 x516000_2.length co62 : Value).ownBlock ∧ some k_ ≠ (.slice Ao63 x516001_2.length co63 : Value).ownBlock ∧ k_ ≠ gb515 ∧ k_ ≠ gb535) (Kd.S_N (Kd.S_bound (Kd.S_apart' (Kd.S_apart' ho1 (Kd.R_typed ho0) (by decide)) (Kd.S_typed ho2) (by decide)))) (fun k_ hk_ => ⟨hk_.1.1.2, hk_.1.2, (Kd.fresh' (Kd.N_lt (by refine kN_ ?_; exact (nfN_ gb535 HO_6.out (fun _ hk => hk.2) (fun _ h_ => op1_ h_)))) k_ hk_.2.1), (Kd.fresh' (Kd.Q_lt (by (with_reducible repeat (first | apply Kd.Q_alloc | apply Kd.Q_drewN | apply Kd.Q_drew)); exact (Kd.Q_mono (Kd.Q_far (p := ⟨gb535, 3, none⟩) (Kd.Q_far (p := ⟨gb535, 2, none⟩) (Kd.Q_far (p := ⟨gb535, 1, none⟩) (Kd.Q_far (p := ⟨gb535, 0, none⟩) (Kd.Q_types HO_516000.out BK535.out (by decide)) (fun _ hk => hk.2) (.int .i64 t530)) (fun _ hk => hk.2) (.int .i64 t531)) (fun _ hk => hk.2) (.int .i64 t532)) (fun _ hk => hk.2) (.int .i64 t533)) (fun _ h_ => op1_ h_)))) k_ hk_.2.1), (Kd.fresh' (Kd.N_lt (by refine kN_ ?_; exact (nfN_ gb535 HO_516001.out (fun _ hk => hk.2) (fun _ h_ => op1_ h_)))) k_ hk_.2.1), (Kd.freshB (g := gb515) (o := .cells #[.slice Ao62 x516000_2.length co62, .slice Ao63 x516001_2.length co63] 32 (0, 0)) (by exact kf_ BK515.out) k_ hk_.2.1), (Kd.freshB (g := gb535) (o := .cells #[.int .i64 t530, .int .i64 t531, .int .i64 t532, .int .i64 t533] 37 (0, 0)) (by refine kb_ ?_; refine pz4 (cs := #[.int .i64 0, .int .i64 0, .int .i64 0, .int .i64 0]) ?_; refine kb_ ?_; exact BK535.out) k_ hk_.2.1)⟩)) (below_size (hbA_ HB.out))); have HO544 := Aside0.mk (Kd.N_lower (Kd.N_mono (ok' := fun k_ => some k_ ≠ (v537 : Value).ownBlock ∧ some k_ ≠ (v540 : Value).ownBlock ∧ some k_ ≠ (.slice Ao56 t511.length co56 : Value).ownBlock ∧ some k_ ≠ (.slice Ao62 x516000_2.length co62 : Value).ownBlock ∧ some k_ ≠ (.slice Ao63 x516001_2.length co63 : Value).ownBlock ∧ k_ ≠ gb515 ∧ k_ ≠ gb535) (Kd.S_N (Kd.S_bound (Kd.S_apart' (Kd.S_apart' ho2 (Kd.R_typed ho0) (by decide)) (Kd.S_typed ho1) (by decide)))) (fun k_ hk_ => ⟨hk_.1.1.2, hk_.1.2, (Kd.fresh' (Kd.N_lt (by refine kN_ ?_; exact (nfN_ gb535 HO_6.out (fun _ hk => hk.2) (fun _ h_ => op1_ h_)))) k_ hk_.2.1), (Kd.fresh' (Kd.Q_lt (by (with_reducible repeat (first | apply Kd.Q_alloc | apply Kd.Q_drewN | apply Kd.Q_drew)); exact (Kd.Q_mono (Kd.Q_far (p := ⟨gb535, 3, none⟩) (Kd.Q_far (p := ⟨gb535, 2, none⟩) (Kd.Q_far (p := ⟨gb535, 1, none⟩) (Kd.Q_far (p := ⟨gb535, 0, none⟩) (Kd.Q_types HO_516000.out BK535.out (by decide)) (fun _ hk => hk.2) (.int .i64 t530)) (fun _ hk => hk.2) (.int .i64 t531)) (fun _ hk => hk.2) (.int .i64 t532)) (fun _ hk => hk.2) (.int .i64 t533)) (fun _ h_ => op1_ h_)))) k_ hk_.2.1), (Kd.fresh' (Kd.N_lt (by refine kN_ ?_; exact (nfN_ gb535 HO_516001.out (fun _ hk => hk.2) (fun _ h_ => op1_ h_)))) k_ hk_.2.1), (Kd.freshB (g := gb515) (o := .cells #[.slice Ao62 x516000_2.length co62, .slice Ao63 x516001_2.length co63] 32 (0, 0)) (by exact kf_ BK515.out) k_ hk_.2.1), (Kd.freshB (g := gb535) (o := .cells #[.int .i64 t530, .int .i64 t531, .int .i64 t532, .int .i64 t533] 37 (0, 0)) (by refine kb_ ?_; refine pz4 (cs := #[.int .i64 0, .int .i64 0, .int .i64 0, .int .i64 0]) ?_; refine kb_ ?_; exact BK535.out) k_ hk_.2.1)⟩)) (below_size (hbA_ HB.out))); replace HO_6 := Aside0.mk (Kd.N_mono (Kd.N_told (Kd.N_told (Kd.N_told (Kd.N_old (by refine kN_ ?_; exact (nfN_ gb535 HO_6.out (fun _ hk => hk.2) (fun _ h_ => op1_ h_))) hb) (Kd.R_base ho0)) (Kd.base_ ho1)) (Kd.base_ ho2)) (fun _ h_ => op1_ h_)); replace HO_516000 := Aside0.mk (Kd.Q_elder' (by (with_reducible repeat (first | apply Kd.Q_alloc | apply Kd.Q_drewN | apply Kd.Q_drew)); exact (Kd.Q_mono (Kd.Q_far (p := ⟨gb535, 3, none⟩) (Kd.Q_far (p := ⟨gb535, 2, none⟩) (Kd.Q_far (p := ⟨gb535, 1, none⟩) (Kd.Q_far (p := ⟨gb535, 0, none⟩) (Kd.Q_types HO_516000.out BK535.out (by decide)) (fun _ hk => hk.2) (.int .i64 t530)) (fun _ hk => hk.2) (.int .i64 t531)) (fun _ hk => hk.2) (.int .i64 t532)) (fun _ hk => hk.2) (.int .i64 t533)) (fun _ h_ => op1_ h_))) (Kd.R_base ho0) hb); replace HO_516001 := Aside0.mk (Kd.N_mono (Kd.N_told (Kd.N_told (Kd.N_told (Kd.N_old (by refine kN_ ?_; exact (nfN_ gb535 HO_516001.out (fun _ hk => hk.2) (fun _ h_ => op1_ h_))) hb) (Kd.R_base ho0)) (Kd.base_ ho1)) (Kd.base_ ho2)) (fun _ h_ => op1_ h_)); replace BK515 := Aside0.mk (blk_below (g := gb515) (o := .cells #[.slice Ao62 x516000_2.length co62, .slice Ao63 x516001_2.length co63] 32 (0, 0)) (by exact kf_ BK515.out) hb); replace BK535 := Aside0.mk (blk_below (g := gb535) (o := .cells #[.int .i64 t530, .int .i64 t531, .int .i64 t532, .int .i64 t533] 37 (0, 0)) (by refine kb_ ?_; refine pz4 (cs := #[.int .i64 0, .int .i64 0, .int .i64 0, .int .i64 0]) ?_; refine kb_ ?_; exact BK535.out) hb); replace HB := (bs_ HB hb); (try clear hb); (try clear hb2); (try clear hk); (try clear hi); (try clear ho0); (try clear ho1); (try clear ho2)) | ((with_reducible refine gate_dst (N := 13) rfl ?_); (try (refine gate_guard (by rfl) ?_; dsimp only)); refine box_ (N := 13) (cs := #[.slice none 0 0, .slice none 0 0]) (t := 32) (fun gb545 hg w65 hbox hb => ?_); replace HO_6 := Aside0.mk (Kd.N_below (Kd.N_elderB (kN_ HO_6.out) gb545 (Nat.le_of_eq hg.symm)) hb); replace HO_516000 := Aside0.mk (Kd.Q_below (by (with_reducible repeat (first | apply Kd.Q_alloc | apply Kd.Q_drewN | apply Kd.Q_drew)); exact HO_516000.out) hb); replace HO_516001 := Aside0.mk (Kd.N_below (Kd.N_elderB (kN_ HO_516001.out) gb545 (Nat.le_of_eq hg.symm)) hb); replace HO538 := Aside0.mk (Kd.R_below (kR_ HO538.out) hb); replace HO541 := Aside0.mk (Kd.N_below (Kd.N_elderB (kN_ HO541.out) gb545 (Nat.le_of_eq hg.symm)) hb); replace HO544 := Aside0.mk (Kd.N_below (Kd.N_elderB (kN_ HO544.out) gb545 (Nat.le_of_eq hg.symm)) hb); have BK545 := Aside0.mk (hbox); have GW545 := ge_ hg HB; have GE545 := ge_ hg HB; replace HB := (bs_ HB hb); have NB515_545 := nl_ hg BK515; have NB545_515 := ng_ hg BK515; replace BK515 := (bbA_ BK515 hb); have NB535_545 := nl_ hg BK535; have NB545_535 := ng_ hg BK535; replace BK535 := (bbA_ BK535 hb); clear hb hbox hg; obtain ⟨Ao66, co66, eo66⟩ := Kd.R_slice HO538.out; subst eo66; have hnb67 := NB545_515.out; have hnc67 := NB515_545.out; have hnb68 := NB545_535.out; have hnc68 := NB535_545.out; have Z69 := zz2 BK545; obtain ⟨Ao70, co70, eo70⟩ := Kd.N_slice HO541.out; subst eo70; obtain ⟨Ao71, co71, eo71⟩ := Kd.N_slice HO544.out; subst eo71) | (go_at_call 19; (with_reducible refine (laws_sameLists.calls k2 _ _ t542 _ _ t511 true _ ?side1 ?side2 ?side3 ?side4 A52.out).mono ?_); (case side1 => refine (Kd.N_reads' (e := 44) (base := w.heap.size) (ok := fun k_ => ((some k_ ≠ (.slice Ao66 t536.length co66 : Value).ownBlock ∧ (some k_ ≠ (.slice Ao70 t539.length co70 : Value).ownBlock ∧ (some k_ ≠ (.slice Ao56 t511.length co56 : Value).ownBlock ∧ (some k_ ≠ (.slice Ao62 x516000_2.length co62 : Value).ownBlock ∧ (some k_ ≠ (.slice Ao63 x516001_2.length co63 : Value).ownBlock ∧ (k_ ≠ gb515 ∧ k_ ≠ gb535)))))) ∧ k_ ≠ gb545)) (n := t542.length) (c := co71) ?_).2.2; exact (by refine kN_ ?_; exact (nfN_ gb545 HO544.out (fun _ hk => hk.2) (fun _ h_ => op1_ h_)))); (case side2 => exact (Kd.N_reads' HO544.out).2.1); (case side3 => refine (Kd.N_reads' (e := 44) (base := w.heap.size) (ok := fun k_ => ((((((some k_ ≠ (.slice Ao62 x516000_2.length co62 : Value).ownBlock ∧ (some k_ ≠ (.slice Ao63 x516001_2.length co63 : Value).ownBlock ∧ k_ ≠ gb515)) ∧ k_ ≠ gb535) ∧ some k_ ≠ (.slice Ao66 t536.length co66 : Value).ownBlock) ∧ some k_ ≠ (.slice Ao70 t539.length co70 : Value).ownBlock) ∧ some k_ ≠ (.slice Ao71 t542.length co71 : Value).ownBlock) ∧ k_ ≠ gb545)) (n := t511.length) (c := co56) ?_).2.2; exact (by refine kN_ ?_; exact (nfN_ gb545 HO_6.out (fun _ hk => hk.2) (fun _ h_ => op1_ h_)))); (case side4 => exact (Kd.N_reads' HO_6.out).2.1); rintro e w' ⟨rfl, ⟨nd, rfl⟩⟩) | (go_at_call 24; (with_reducible refine (impl_NearFind.calls k2 _ _ t536 _ _ t539 t510 t514 t547 _ ?side1 ?side2 ?side3 ?side4 A54.out).mono ?_); (case side1 => refine (Kd.R_reads' (e := 63) (base := w.heap.size) (ok := fun k_ => (True ∧ some k_ ≠ (.slice Ao62 x516000_2.length co62 : Value).ownBlock)) (n := t536.length) (c := co66) ?_).2.2; exact (by refine kR_ ?_; exact (rfm_ ((Kd.R_types HO538.out BK545.out (by decide))) (fun _ h_ => op1_ h_)))); (case side2 => exact (Kd.R_reads' HO538.out).2.1); (case side3 => refine (Kd.N_reads' (e := 65) (base := w.heap.size) (ok := fun k_ => ((some k_ ≠ (.slice Ao66 t536.length co66 : Value).ownBlock ∧ (some k_ ≠ (.slice Ao71 t542.length co71 : Value).ownBlock ∧ (some k_ ≠ (.slice Ao56 t511.length co56 : Value).ownBlock ∧ (some k_ ≠ (.slice Ao62 x516000_2.length co62 : Value).ownBlock ∧ (some k_ ≠ (.slice Ao63 x516001_2.length co63 : Value).ownBlock ∧ (k_ ≠ gb515 ∧ k_ ≠ gb535)))))) ∧ k_ ≠ gb545)) (n := t539.length) (c := co70) ?_).2.2; exact (by refine kN_ ?_; exact (nfN_ gb545 HO541.out (fun _ hk => hk.2) (fun _ h_ => op1_ h_)))); (case side4 => exact (Kd.N_reads' HO541.out).2.1); rintro e w72 ⟨rfl, hb⟩; replace HO_6 := Aside0.mk (Kd.N_below (by refine kN_ ?_; exact (nfN_ gb545 HO_6.out (fun _ hk => hk.2) (fun _ h_ => op1_ h_))) hb); replace HO_516000 := Aside0.mk (Kd.Q_below (by (with_reducible repeat (first | apply Kd.Q_alloc | apply Kd.Q_drewN | apply Kd.Q_drew)); exact (Kd.Q_mono (Kd.Q_far (p := ⟨gb545, 1, none⟩) (Kd.Q_far (p := ⟨gb545, 0, none⟩) (Kd.Q_types HO_516000.out BK545.out (by decide)) (fun _ hk => hk.2) (.slice Ao66 t536.length co66)) (fun _ hk => hk.2) (.slice Ao70 t539.length co70)) (fun _ h_ => op1_ h_))) hb); replace HO_516001 := Aside0.mk (Kd.N_below (by refine kN_ ?_; exact (nfN_ gb545 HO_516001.out (fun _ hk => hk.2) (fun _ h_ => op1_ h_))) hb); replace HO538 := Aside0.mk (Kd.R_below (by refine kR_ ?_; exact (rfm_ ((Kd.R_types HO538.out BK545.out (by decide))) (fun _ h_ => op1_ h_))) hb); replace HO541 := Aside0.mk (Kd.N_below (by refine kN_ ?_; exact (nfN_ gb545 HO541.out (fun _ hk => hk.2) (fun _ h_ => op1_ h_))) hb); replace HO544 := Aside0.mk (Kd.N_below (by refine kN_ ?_; exact (nfN_ gb545 HO544.out (fun _ hk => hk.2) (fun _ h_ => op1_ h_))) hb); replace BK515 := Aside0.mk (blk_below (g := gb515) (o := .cells #[.slice Ao62 x516000_2.length co62, .slice Ao63 x516001_2.length co63] 32 (0, 0)) (by exact kf_ BK515.out) hb); replace BK535 := Aside0.mk (blk_below (g := gb535) (o := .cells #[.int .i64 t530, .int .i64 t531, .int .i64 t532, .int .i64 t533] 37 (0, 0)) (by exact kf_ BK535.out) hb); replace BK545 := Aside0.mk (blk_below (g := gb545) (o := .cells #[.slice Ao66 t536.length co66, .slice Ao70 t539.length co70] 32 (0, 0)) (by refine kb_ ?_; refine pz2 (cs := #[.slice none 0 0, .slice none 0 0]) ?_; refine kb_ ?_; exact BK545.out) hb); replace HB := (bs_ HB hb); (try clear hb); (try clear hb2); (try clear hk); (try clear hi); have Z73 := zz2 BK545))
            go_ret
            exact ⟨by first | rfl | (simp [errW_none, errW_some] <;> rfl) | (simp [*, errW_none, errW_some] <;> rfl), hbA_ HB.out⟩
           ·rw [if_neg c55] at H
            have c55b0 : (t547 == 7) = false := beq_eq_false_iff_ne.mpr c55
            have c55b1 : (t547 != 7) = true := bne_iff_ne.mpr c55
            exact absurd (Option.some.inj H) (by rw [HLW.out]; exact Bool.false_ne_true)
          ·replace c53 := Bool.eq_false_iff.mpr c53
           subst c53
           rw [if_neg (show ¬ (false = true) by decide)] at H
           exact absurd (Option.some.inj H) (by rw [HLW.out]; exact Bool.false_ne_true)
         ·replace c51 := Bool.eq_false_iff.mpr c51
          subst c51
          rw [if_neg (show ¬ (false = true) by decide)] at H
          exact absurd (Option.some.inj H) (by rw [HLW.out]; exact Bool.false_ne_true)
def laws_FnWholeAsking.Pure : Prop := ∀ (l0 : List Int), l0.length ≤ maxLen → l0.length * 1 ≤ 140737488351232 → (∀ x ∈ l0, (Lit.int .u8 x).wf = true) → ∃ k, laws_FnWholeAsking.f k l0 = some true
theorem laws_FnWholeAsking.walk (P : laws_FnWholeAsking.Pure) (a0 : Option Addr) (len0 cap0 : Nat) (z0 : List Int) (w : World) (w0 : (a0 = none ∧ len0 = 0 ∧ cap0 = 0 ∧ z0 = []) ∨ ∃ x, a0 = some x ∧ len0 ≤ cap0 ∧ cap0 ≤ maxLen ∧ z0.length = cap0 ∧ (∀ i, i < z0.length → w.cell? (x.add i) = some (.int .u8 (z0.getD i 0))) ∧ ∀ n ∈ z0, (Lit.int .u8 n).wf = true) (y0 : len0 * 1 ≤ 140737488351232) :
  Calls Try.prog 5 #[.slice a0 len0 cap0] w fun e w' => e = .returned (.bool true) ∧ Below w.heap.size w w' := by
 obtain ⟨l0, rfl, hr0, hm0, hw0, hc0⟩ := ReadsInt.ofRowC w0
 obtain ⟨k, h⟩ := P l0 hm0 y0 hw0
 refine (laws_FnWholeAsking.calls k _ _ l0 true w (Kd.C_of_reads (d := (0 : Int)) (h1 := fun _ => rfl) hr0) hc0 h rfl).mono ?_
 rintro e w' ⟨rfl, hd⟩
 exact ⟨rfl, hd⟩
end Go.Proofs.Ytdoohdbfpnmndaa.PFnWholeAsking
