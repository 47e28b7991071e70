/- Printed by wip/xp/xprint.sh out of the translation, for this claim: what each function answers, as a plain function, and that the machine does just that. No condition. -/
import Derived.Test.YtegchbdjbefdbaaPFnExactClientAskx0
import Derived.Test.YtegchbdjbefdbaaPFnExactClientAskx2
import Derived.Test.YtegchbdjbefdbaaPFnExactClientAskx3
namespace Go.Proofs.Ytegchbdjbefdbaa.PFnExactClientAsk
open Go.RowKit Go.Proofs.YtegchbdjbefdbaaW.PrintWords Go.Proofs.YtegchbdjbefdbaaW.PrintLast Go.Proofs.YtegchbdjbefdbaaW.PrintMore
attribute [local go_sem] max2_int min2_int max_two min_two max_three min_three max_four min_four   -- for this text's walks alone
set_option linter.unusedVariables false
set_option linter.unusedSimpArgs false
def impl_WordsBytes.f (k : Nat) (a0_0 : Int) (l0_1 : List Int) : Option (List Int) := (impl_in.f a0_0 0 255).bind fun t210 => (if t210 = true then (if (l0_1.length : Int) > 9 then (some ([] : List Int)) else ((slices_Concat_byte_byte.f k (([(([((l0_1.length : Int)) % 256, (a0_0) % 256] : List Int)), l0_1] : List (List Int)))).bind fun t217 => (some t217))) else (some ([] : List Int)))
theorem impl_WordsBytes.mono : ∀ a0 a1 k, LeO (impl_WordsBytes.f k a0 a1) (impl_WordsBytes.f (k + 1) a0 a1) := by
 intro a0 a1 k
 unfold impl_WordsBytes.f
 repeat' first | (with_reducible first | apply slices_Concat_byte_byte.mono | exact LeO.refl _ | exact LeO.none _ | refine LeO.ite ?_ ?_ | refine LeO.bind ?_ fun _ => ?_) | apply slices_Concat_byte_byte.mono | exact LeO.none _ | refine LeO.ite ?_ ?_ | refine LeO.bind ?_ fun _ => ?_
set_option maxHeartbeats 8000000 in
set_option maxRecDepth 100000 in
theorem impl_WordsBytes.callsV (k : Nat) (a0_0 : Int) (P0_1_ : Nat → Prop) (A0_1 : Option Addr) (c0_1 : Nat) (l0_1 : List Int) (r : List Int) (w : World) (hs0_1 : Kd.V (Kd.int .u8) 5 w w.heap.size (fun k_ => P0_1_ k_) (.slice A0_1 l0_1.length c0_1) l0_1) (h : impl_WordsBytes.f k a0_0 l0_1 = some r) :
  Calls Try.prog 63 #[.agg #[.int .i64 a0_0, .slice A0_1 l0_1.length c0_1]] w fun e w' => ∃ v0_ : Value, e = .returned (v0_) ∧ Kd.R (Kd.int .u8) 5 w' w.heap.size (fun k_ => (w.heap.size ≤ k_)) v0_ r ∧ Below w.heap.size w w' := by
 have hu41 := Try.underlying41
 have HO0_1 := Aside0.mk (show Kd.V (Kd.int .u8) 5 w w.heap.size (fun k_ => (P0_1_ k_ ∨ w.heap.size ≤ k_)) (.slice A0_1 l0_1.length c0_1) l0_1 from Kd.V_mono hs0_1 (fun k_ hk => .inl hk))
 have HB := Aside0.mk (Below.refl w.heap.size w)
 have H : ((impl_in.f a0_0 0 255).bind fun t210 => (if t210 = true then (if (l0_1.length : Int) > 9 then (some ([] : List Int)) else ((slices_Concat_byte_byte.f k (([(([((l0_1.length : Int)) % 256, (a0_0) % 256] : List Int)), l0_1] : List (List Int)))).bind fun t217 => (some t217))) else (some ([] : List Int)))) = some r := h
 clear h
 replace H := Option.bind_eq_some_iff.mp H
 obtain ⟨t210, A20, H⟩ := H
 (try dsimp only at H)
 have A2 := Aside0.mk A20; clear A20
 by_cases c3 : t210 = true
 ·subst c3
  rw [if_pos rfl] at H
  by_cases c4 : (l0_1.length : Int) > 9
  ·rw [if_pos c4] at H
   have c4b0 : decide (9 < (l0_1.length : Int)) = true := decide_eq_true c4
   have c4b1 : decide (9 < l0_1.length) = true := decide_eq_true (by omega)
   clear c4
   obtain rfl := Option.some.inj H
   go_enter Try.func63, Try.ntmps63
   go_wp2_with (first | ((with_reducible refine gate_dst (N := 1) rfl ?_); (try (refine gate_guard (by rfl) ?_; dsimp only)); refine box_ (N := 1) (cs := #[.int .i64 a0_0, .slice A0_1 l0_1.length c0_1]) (t := 41) (fun gb209 hg w5 hbox hb => ?_); replace HO0_1 := Aside0.mk (Kd.V_below (Kd.V_elderB (kV_ HO0_1.out) gb209 (Nat.le_of_eq hg.symm)) hb); have BK209 := Aside0.mk (hbox); have GW209 := ge_ hg HB; have GE209 := ge_ hg HB; replace HB := (bs_ HB hb); clear hb hbox hg; have Z6 := zz2 BK209) | ((with_reducible refine gate_callee (f := 49) rfl ?_); refine goesL_ (some 5) rfl rfl Try.func49 (by kernel_rfl) rfl #[.int .i64 a0_0, .int .i64 0, .int .i64 255] rfl ar_ ?_; (with_reducible refine (impl_in.calls a0_0 0 255 true _ A2.out).mono ?_); rintro e w' ⟨rfl, ⟨nd, rfl⟩⟩; refine ⟨_, rfl, ?_⟩))
   go_ret
   exact ⟨_, by first | rfl | (simp [errW_none, errW_some] <;> rfl) | (simp [*, errW_none, errW_some] <;> rfl), by first | exact Kd.R_nil _ _ _ _ _ | exact Kd.N_nil _ _ _ _ _ | exact Kd.V_nil _ _ _ _ _ | exact Kd.Q_nil _ _ _ _ _ | exact Kd.S_nil _ _ _ _ _, hbA_ HB.out⟩
  ·rw [if_neg c4] at H
   have c4b0 : decide (9 < (l0_1.length : Int)) = false := decide_eq_false c4
   have c4b1 : decide (9 < l0_1.length) = false := decide_eq_false (by omega)
   clear c4
   obtain ⟨y211, hy211⟩ : ∃ y_ : List Int, y_ = (([((l0_1.length : Int)) % 256, (a0_0) % 256] : List Int)) := ⟨_, rfl⟩
   (first | replace H := sb_ hy211 H | rw [← hy211] at H)
   have Ny211 := Aside0.mk hy211; clear hy211
   obtain ⟨y214, hy214⟩ : ∃ y_ : List (List Int), y_ = (([y211, l0_1] : List (List Int))) := ⟨_, rfl⟩
   (first | replace H := sb_ hy214 H | rw [← hy214] at H)
   have Ny214 := Aside0.mk hy214; clear hy214
   replace H := Option.bind_eq_some_iff.mp H
   obtain ⟨t217, A70, H⟩ := H
   (try dsimp only at H)
   have A7 := Aside0.mk A70; clear A70
   obtain rfl := Option.some.inj H
   go_enter Try.func63, Try.ntmps63
   go_wp2_with (first | ((with_reducible refine gate_dst (N := 1) rfl ?_); (try (refine gate_guard (by rfl) ?_; dsimp only)); refine box_ (N := 1) (cs := #[.int .i64 a0_0, .slice A0_1 l0_1.length c0_1]) (t := 41) (fun gb209 hg w8 hbox hb => ?_); replace HO0_1 := Aside0.mk (Kd.V_below (Kd.V_elderB (kV_ HO0_1.out) gb209 (Nat.le_of_eq hg.symm)) hb); have BK209 := Aside0.mk (hbox); have GW209 := ge_ hg HB; have GE209 := ge_ hg HB; replace HB := (bs_ HB hb); clear hb hbox hg; have Z9 := zz2 BK209) | ((with_reducible refine gate_callee (f := 49) rfl ?_); refine goesL_ (some 5) rfl rfl Try.func49 (by kernel_rfl) rfl #[.int .i64 a0_0, .int .i64 0, .int .i64 255] rfl ar_ ?_; (with_reducible refine (impl_in.calls a0_0 0 255 true _ A2.out).mono ?_); rintro e w' ⟨rfl, ⟨nd, rfl⟩⟩; refine ⟨_, rfl, ?_⟩) | ((with_reducible refine gate_dst (N := 20) rfl ?_); (try (refine gate_guard (by rfl) ?_; dsimp only)); refine Kd.R_lit (Kd.int .u8) _ 5 ?hg (N := 20) ?hd (xs := ([((l0_1.length : Int)) % 256, (a0_0) % 256] : List Int)) (inner := [.int .u8 (((l0_1.length : Int)) % 256), .int .u8 ((a0_0) % 256)]) (ok := fun _ => True) (okp := fun _ => True) ?hr ?hp (fun _ hk => hk) trivial (Below.refl _ _) (Nat.le_refl _) (by simp) ?_; (case hd => rfl); (case hg => rfl); (case hr => first | (go_simp; done) | (go_simp; rfl)); (case hp => exact (Reps.one (show Kd.M (Kd.int .u8) _ _ _ (((l0_1.length : Int)) % 256) [.int .u8 (((l0_1.length : Int)) % 256)] from rfl) (Reps.one (show Kd.M (Kd.int .u8) _ _ _ ((a0_0) % 256) [.int .u8 ((a0_0) % 256)] from rfl) (Reps.none _ _)))); intro v212 w10 ho11 hb hg_ hnew_; clear hg_ hnew_; (first | rw [← Ny211.out] at ho11 | (simp only [Int.reduceToNat] at ho11; rw [← Ny211.out] at ho11)); replace HO0_1 := Aside0.mk (Kd.V_elder' (kV_ HO0_1.out) (Kd.R_base ho11) hb); have HO213 := Aside0.mk (Kd.R_lower (Kd.R_newM (M := fun k_ => (w.heap.size ≤ k_)) ho11 (below_size (hbA_ HB.out)) (fun k_ h_ => h_)) (below_size (hbA_ HB.out))); replace BK209 := (bbA_ BK209 hb); replace HB := (bs_ HB hb); clear hb ho11; have Z12 := zz2 BK209; obtain ⟨Ao13, co13, eo13⟩ := Kd.R_slice HO213.out; subst eo13) | ((with_reducible refine gate_dst (N := 23) rfl ?_); (try (refine gate_guard (by rfl) ?_; dsimp only)); refine Kd.N_lit (Kd.slice 5 (Kd.int .u8)) _ 34 ?hg (N' := 23) ?hd (xs := ([y211, l0_1] : List (List Int))) (inner := [.slice Ao13 y211.length co13, .slice A0_1 l0_1.length c0_1]) (ok := (fun k_ => (P0_1_ k_ ∨ w.heap.size ≤ k_) ∧ k_ ≠ gb209)) (okp := (fun k_ => (P0_1_ k_ ∨ w.heap.size ≤ k_) ∧ k_ ≠ gb209)) ?hr ?hp (fun _ hk => hk) ((show ∀ k_, w10.heap.size ≤ k_ → (fun k_ => (P0_1_ k_ ∨ w.heap.size ≤ k_) ∧ k_ ≠ gb209) k_ from fun k_ hk => ⟨(.inr (Nat.le_trans (below_size (hbA_ HB.out)) hk)), fb_ BK209 k_ hk⟩) _ (Nat.le_refl _)) (Below.refl _ _) (Nat.le_refl _) (by simp) ?_; (case hd => rfl); (case hg => rfl); (case hr => first | (go_simp; done) | (go_simp; rfl)); (case hp => exact (Reps.one (show Kd.FK (Kd.slice 5 (Kd.int .u8)) _ _ y211 [.slice Ao13 y211.length co13] from (Kd.FK_slice_mk (Kd.R_reads' (Kd.R_mono (ok' := (fun k_ => (P0_1_ k_ ∨ w.heap.size ≤ k_) ∧ k_ ≠ gb209)) (Kd.R_types (HO213.out) BK209.out (by decide)) (fun k_ hk => ⟨(.inr (hk.1.1)), hk.2⟩))).2.1 (Kd.R_F (Kd.R_mono (ok' := (fun k_ => (P0_1_ k_ ∨ w.heap.size ≤ k_) ∧ k_ ≠ gb209)) (Kd.R_types (HO213.out) BK209.out (by decide)) (fun k_ hk => ⟨(.inr (hk.1.1)), hk.2⟩))))) (Reps.one (show Kd.FK (Kd.slice 5 (Kd.int .u8)) _ _ l0_1 [.slice A0_1 l0_1.length c0_1] from (Kd.FK_slice_mk (Kd.V_reads' (Kd.V_mono (ok' := (fun k_ => (P0_1_ k_ ∨ w.heap.size ≤ k_) ∧ k_ ≠ gb209)) (HO0_1.out) (fun k_ hk => ⟨hk.1.1, hk.1.2⟩))).2.1 (Kd.V_F (Kd.V_mono (ok' := (fun k_ => (P0_1_ k_ ∨ w.heap.size ≤ k_) ∧ k_ ≠ gb209)) (HO0_1.out) (fun k_ hk => ⟨hk.1.1, hk.1.2⟩))))) (Reps.none _ _)))); intro v215 w14 ho15 hb hg_ hnew_; clear hg_ hnew_; (first | rw [← Ny214.out] at ho15 | (simp only [Int.reduceToNat] at ho15; rw [← Ny214.out] at ho15)); replace HO0_1 := Aside0.mk (Kd.V_elder' (kV_ HO0_1.out) (Kd.base_ ho15) hb); have HO216 := Aside0.mk (Kd.N_lower ho15 (below_size (hbA_ HB.out))); replace BK209 := (bbA_ BK209 hb); replace HB := (bs_ HB hb); clear HO213; clear hb ho15; obtain ⟨Ao16, co16, eo16⟩ := Kd.N_slice HO216.out; subst eo16) | ((with_reducible refine gate_callee (f := 74) rfl ?_); refine goesL_ (some 24) rfl rfl Try.func74 (by kernel_rfl) rfl #[.slice Ao16 y214.length co16] rfl ar_ ?_; (with_reducible refine (slices_Concat_byte_byte.calls k _ _ y214 t217 _ ?side1 ?side2 A7.out).mono ?_); (case side1 => exact kC_ (Kd.N_reads' HO216.out).2.2); (case side2 => exact (Kd.N_reads' HO216.out).2.1); rintro e w17 ⟨v218, rfl, ho0, hb⟩; refine ⟨_, rfl, ?_⟩; replace HO0_1 := Aside0.mk (Kd.V_elder' (kV_ HO0_1.out) (Kd.R_base ho0) hb); replace HO216 := Aside0.mk (Kd.N_elder' (kN_ HO216.out) (Kd.R_base ho0) hb); have HO219 := Aside0.mk (Kd.R_lower (Kd.R_newM (M := fun k_ => (w.heap.size ≤ k_)) ho0 (below_size (hbA_ HB.out)) (fun k_ h_ => h_)) (below_size (hbA_ HB.out))); replace BK209 := (bbA_ BK209 hb); replace HB := (bs_ HB hb); (try clear hb); (try clear hb2); (try clear hk); (try clear hi); (try clear ho0)))
   go_ret
   exact ⟨_, by first | rfl | (simp [errW_none, errW_some] <;> rfl) | (simp [*, errW_none, errW_some] <;> rfl), by refine kR_ ?_; exact Kd.R_mono HO219.out (fun _ hk => hk.1), hbA_ HB.out⟩
 ·replace c3 := Bool.eq_false_iff.mpr c3
  subst c3
  rw [if_neg (show ¬ (false = true) by decide)] at H
  obtain rfl := Option.some.inj H
  go_enter Try.func63, Try.ntmps63
  go_wp2_with (first | ((with_reducible refine gate_dst (N := 1) rfl ?_); (try (refine gate_guard (by rfl) ?_; dsimp only)); refine box_ (N := 1) (cs := #[.int .i64 a0_0, .slice A0_1 l0_1.length c0_1]) (t := 41) (fun gb209 hg w18 hbox hb => ?_); replace HO0_1 := Aside0.mk (Kd.V_below (Kd.V_elderB (kV_ HO0_1.out) gb209 (Nat.le_of_eq hg.symm)) hb); have BK209 := Aside0.mk (hbox); have GW209 := ge_ hg HB; have GE209 := ge_ hg HB; replace HB := (bs_ HB hb); clear hb hbox hg; have Z19 := zz2 BK209) | ((with_reducible refine gate_callee (f := 49) rfl ?_); refine goesL_ (some 5) rfl rfl Try.func49 (by kernel_rfl) rfl #[.int .i64 a0_0, .int .i64 0, .int .i64 255] rfl ar_ ?_; (with_reducible refine (impl_in.calls a0_0 0 255 false _ A2.out).mono ?_); rintro e w' ⟨rfl, ⟨nd, rfl⟩⟩; refine ⟨_, rfl, ?_⟩))
  go_ret
  exact ⟨_, by first | rfl | (simp [errW_none, errW_some] <;> rfl) | (simp [*, errW_none, errW_some] <;> rfl), by first | exact Kd.R_nil _ _ _ _ _ | exact Kd.N_nil _ _ _ _ _ | exact Kd.V_nil _ _ _ _ _ | exact Kd.Q_nil _ _ _ _ _ | exact Kd.S_nil _ _ _ _ _, hbA_ HB.out⟩
set_option maxHeartbeats 8000000 in
theorem impl_WordsBytes.calls (k : Nat) (a0_0 : Int) (A0_1 : Option Addr) (c0_1 : Nat) (l0_1 : List Int) (r : List Int) (w : World) (hr0_1 : Kd.C (Kd.int .u8) w A0_1 l0_1.length l0_1) (hc0_1 : l0_1.length ≤ c0_1) (h : impl_WordsBytes.f k a0_0 l0_1 = some r) :
    Calls Try.prog 63 #[.agg #[.int .i64 a0_0, .slice A0_1 l0_1.length c0_1]] w fun e w' => ∃ v0_ : Value, e = .returned (v0_) ∧ Kd.R (Kd.int .u8) 5 w' w.heap.size (fun _ => True) v0_ r ∧ Below w.heap.size w w' := by
  refine (impl_WordsBytes.callsV k a0_0 (fun _ => True) A0_1 c0_1 l0_1 r w (Kd.V_mk hc0_1 (fun W_ hW_ => Kd.Heap.C (Kd.heap_int .u8) (fun k_ hlt_ => hW_ k_ trivial hlt_) hr0_1)) h).mono ?_
  rintro e w' ⟨v0_, rfl, ho0, hb⟩
  exact ⟨v0_, rfl, Kd.R_mono ho0 (fun k_ hk_ => trivial), hb⟩
mutual
def impl_ClientAsk.j0 : Nat → List Int → Bool → Int → List Int → List (S41) → List Int → Option (Int × List Int × (List (S41)) × List Int × List Int × Bool)
 | 0, _, _, _, _, _, _ => none
 | k + 1, x1, x15, x221000, x221001, x221002, x221003 => if x15 = true then (some (0, ([] : List Int), ([] : List (S41)), ([] : List Int), ([] : List Int), false)) else ((impl_Client_copy.f k x221000 x221001 x221002 x221003).bind fun bt223 => (if (x221001.length : Int) ≥ 4 then (impl_ClientAsk.j1 k x1 true x221000 x221001 x221002 x221003 bt223.1 bt223.2.1 bt223.2.2.1 bt223.2.2.2) else (impl_ClientAsk.j1 k x1 (decide (x221000 > 255)) x221000 x221001 x221002 x221003 bt223.1 bt223.2.1 bt223.2.2.1 bt223.2.2.2)))
def impl_ClientAsk.j1 : Nat → List Int → Bool → Int → List Int → List (S41) → List Int → Int → List Int → List (S41) → List Int → Option (Int × List Int × (List (S41)) × List Int × List Int × Bool)
 | 0, _, _, _, _, _, _, _, _, _, _ => none
 | k + 1, x1, x27, x221000, x221001, x221002, x221003, x234000, x234001, x234002, x234003 => if x27 = true then (some (x234000, x234001, x234002, x234003, ([] : List Int), false)) else (if x234001.length < 17592186044416 then ((impl_Client_copy.f k (wrap64 (x234000 + 1)) (x234001 ++ [x221000]) x234002 x234003).bind fun bt237 => ((impl_WordsBytes.f k x221000 x1).bind fun t247 => (some (bt237.1, bt237.2.1, bt237.2.2.1, bt237.2.2.2, t247, true)))) else (none))
end
def impl_ClientAsk.f (k : Nat) (a0_0 : Int) (l0_1 : List Int) (l0_2 : List (S41)) (l0_3 : List Int) (l1 : List Int) : Option (Int × List Int × (List (S41)) × List Int × List Int × Bool) := (impl_ClientOk.f k a0_0 l0_1 l0_2 l0_3).bind fun t222 => (if t222 = true then (impl_ClientAsk.j0 k l1 (decide ((l1.length : Int) > 9)) a0_0 l0_1 l0_2 l0_3) else (impl_ClientAsk.j0 k l1 true a0_0 l0_1 l0_2 l0_3))
theorem impl_ClientAsk.mono_l : ∀ k, (∀ y0 y1 y2 y3 y4 y5, LeO (impl_ClientAsk.j0 k y0 y1 y2 y3 y4 y5) (impl_ClientAsk.j0 (k + 1) y0 y1 y2 y3 y4 y5)) ∧ (∀ y0 y1 y2 y3 y4 y5 y6 y7 y8 y9, LeO (impl_ClientAsk.j1 k y0 y1 y2 y3 y4 y5 y6 y7 y8 y9) (impl_ClientAsk.j1 (k + 1) y0 y1 y2 y3 y4 y5 y6 y7 y8 y9))
 | 0 => ⟨fun _ _ _ _ _ _ r h => by simp [impl_ClientAsk.j0] at h, fun _ _ _ _ _ _ _ _ _ _ r h => by simp [impl_ClientAsk.j1] at h⟩
 | k + 1 => by
  obtain ⟨ih0, ih1⟩ := impl_ClientAsk.mono_l k
  refine ⟨?_, ?_⟩
  ·intro y0 y1 y2 y3 y4 y5
   unfold impl_ClientAsk.j0
   repeat' first | (with_reducible first | apply ih0 | apply ih1 | apply impl_ClientOk.mono | apply impl_Client_copy.mono | apply impl_WordsBytes.mono | exact LeO.refl _ | exact LeO.none _ | refine LeO.ite ?_ ?_ | refine LeO.bind ?_ fun _ => ?_) | apply ih0 | apply ih1 | apply impl_ClientOk.mono | apply impl_Client_copy.mono | apply impl_WordsBytes.mono | exact LeO.none _ | refine LeO.ite ?_ ?_ | refine LeO.bind ?_ fun _ => ?_
  ·intro y0 y1 y2 y3 y4 y5 y6 y7 y8 y9
   unfold impl_ClientAsk.j1
   repeat' first | (with_reducible first | apply ih0 | apply ih1 | apply impl_ClientOk.mono | apply impl_Client_copy.mono | apply impl_WordsBytes.mono | exact LeO.refl _ | exact LeO.none _ | refine LeO.ite ?_ ?_ | refine LeO.bind ?_ fun _ => ?_) | apply ih0 | apply ih1 | apply impl_ClientOk.mono | apply impl_Client_copy.mono | apply impl_WordsBytes.mono | exact LeO.none _ | refine LeO.ite ?_ ?_ | refine LeO.bind ?_ fun _ => ?_
theorem impl_ClientAsk.mono : ∀ a0 a1 a2 a3 a4 k, LeO (impl_ClientAsk.f k a0 a1 a2 a3 a4) (impl_ClientAsk.f (k + 1) a0 a1 a2 a3 a4) := by
 intro a0 a1 a2 a3 a4 k
 obtain ⟨ih0, ih1⟩ := impl_ClientAsk.mono_l k
 unfold impl_ClientAsk.f
 repeat' first | (with_reducible first | apply ih0 | apply ih1 | apply impl_ClientOk.mono | apply impl_Client_copy.mono | apply impl_WordsBytes.mono | exact LeO.refl _ | exact LeO.none _ | refine LeO.ite ?_ ?_ | refine LeO.bind ?_ fun _ => ?_) | apply ih0 | apply ih1 | apply impl_ClientOk.mono | apply impl_Client_copy.mono | apply impl_WordsBytes.mono | exact LeO.none _ | refine LeO.ite ?_ ?_ | refine LeO.bind ?_ fun _ => ?_
def impl_ClientAsk.T8 : Bool × List (List Nat × List Nat) := (true, [([], []), ([0], [0]), ([], []), ([2], [2]), ([], []), ([3, 4], [3, 4]), ([5, 1], [5]), ([1, 6, 0, 1], [1]), ([6, 7, 0, 1, 2, 3, 4, 5, 6, 7], [6]), ([8, 0, 1, 2, 3, 4, 5, 6, 7, 8], [])])
def impl_ClientAsk.B8 : List Nat := [0, 1, 0, 4, 0, 28, 63, 127, 255, 511]
theorem impl_ClientAsk.tab8 : rtab .any (opsOf Try.f26 8) = impl_ClientAsk.T8 := by kernel_rfl
theorem impl_ClientAsk.bits8 : waitsOk impl_ClientAsk.T8.2 impl_ClientAsk.B8 = true := by kernel_rfl
set_option maxHeartbeats 8000000 in
set_option maxRecDepth 100000 in
theorem impl_ClientAsk.calls (k : Nat) (a0_0 : Int) (A0_1 : Option Addr) (c0_1 : Nat) (l0_1 : List Int) (A0_2 : Option Addr) (c0_2 : Nat) (l0_2 : List (S41)) (A0_3 : Option Addr) (c0_3 : Nat) (l0_3 : List Int) (A1 : Option Addr) (c1 : Nat) (l1 : List Int) (r1 : Int) (r2 : List Int) (r3 : List (S41)) (r4 : List Int) (r5 : List Int) (r6 : Bool) (w : World) (hr0_1 : Kd.C (Kd.int .i64) w A0_1 l0_1.length l0_1) (hc0_1 : l0_1.length ≤ c0_1) (hr0_2 : Kd.C k41 w A0_2 l0_2.length l0_2) (hc0_2 : l0_2.length ≤ c0_2) (hr0_3 : Kd.C (Kd.int .i64) w A0_3 l0_3.length l0_3) (hc0_3 : l0_3.length ≤ c0_3) (hr1 : Kd.C (Kd.int .u8) w A1 l1.length l1) (hc1 : l1.length ≤ c1) (h : impl_ClientAsk.f k a0_0 l0_1 l0_2 l0_3 l1 = some (r1, r2, r3, r4, r5, r6)) :
  Calls Try.prog 26 #[.agg #[.int .i64 a0_0, .slice A0_1 l0_1.length c0_1, .slice A0_2 l0_2.length c0_2, .slice A0_3 l0_3.length c0_3], .slice A1 l1.length c1] w fun e w' => ∃ v1_ v2_ v3_ v4_ : Value, e = .returned (.tuple #[.agg #[.int .i64 r1, v1_, v2_, v3_], v4_, .bool r6]) ∧ Kd.R (Kd.int .i64) 3 w' w.heap.size (fun k_ => some k_ ≠ (v3_ : Value).ownBlock) v1_ r2 ∧ Kd.S k41 41 w' w.heap.size (fun k_ => some k_ ≠ (v4_ : Value).ownBlock) v2_ r3 ∧ Kd.R (Kd.int .i64) 3 w' w.heap.size (fun k_ => some k_ ≠ (v1_ : Value).ownBlock) v3_ r4 ∧ Kd.R (Kd.int .u8) 5 w' w.heap.size (fun _ => True) v4_ r5 ∧ Below w.heap.size w w' := by
 have hu30 := Try.underlying30; have hu41 := Try.underlying41; have HR0_1 := Aside0.mk hr0_1; have HC0_1 := Aside0.mk hc0_1; clear hr0_1 hc0_1; have HR0_2 := Aside0.mk hr0_2; have HC0_2 := Aside0.mk hc0_2; clear hr0_2 hc0_2; have HR0_3 := Aside0.mk hr0_3; have HC0_3 := Aside0.mk hc0_3; clear hr0_3 hc0_3; have HR1 := Aside0.mk hr1; have HC1 := Aside0.mk hc1; clear hr1 hc1
 have HB := Aside0.mk (Below.refl w.heap.size w)
 have H : ((impl_ClientOk.f k a0_0 l0_1 l0_2 l0_3).bind fun t222 => (if t222 = true then (impl_ClientAsk.j0 k l1 (decide ((l1.length : Int) > 9)) a0_0 l0_1 l0_2 l0_3) else (impl_ClientAsk.j0 k l1 true a0_0 l0_1 l0_2 l0_3))) = some (r1, r2, r3, r4, r5, r6) := h
 clear h; have HC3 := Aside0.mk H; clear H
 go_enter Try.func26, Try.ntmps26
 go_upto_region 1 with (first | ((with_reducible refine gate_dst (N := 2) rfl ?_); (try (refine gate_guard (by rfl) ?_; dsimp only)); refine box_ (N := 2) (cs := #[.int .i64 a0_0, .slice A0_1 l0_1.length c0_1, .slice A0_2 l0_2.length c0_2, .slice A0_3 l0_3.length c0_3]) (t := 30) (fun gb220 hg w4 hbox hb => ?_); have BK220 := Aside0.mk (hbox); have GW220 := ge_ hg HB; have GE220 := ge_ hg HB; replace HB := (bs_ HB hb); clear hb hbox hg) | ((with_reducible refine gate_dst (N := 4) rfl ?_); (try (refine gate_guard (by rfl) ?_; dsimp only)); refine box_ (N := 4) (cs := #[.int .i64 0, .slice none 0 0, .slice none 0 0, .slice none 0 0]) (t := 30) (fun gb221 hg w5 hbox hb => ?_); have BK221 := Aside0.mk (hbox); have GW221 := ge_ hg HB; have GE221 := ge_ hg HB; replace HB := (bs_ HB hb); have NB220_221 := nl_ hg BK220; have NB221_220 := ng_ hg BK220; replace BK220 := (bbA_ BK220 hb); clear hb hbox hg))
 (try simp only [Act.put, List.setIfInBounds_toArray, List.set_cons_zero, List.set_cons_succ])
 go_cut [15] (fun v15 wc => ∃ (kq : Nat) (x15_2 : Bool), v15 = .bool x15_2 ∧ Aside0 (impl_ClientAsk.j0 kq l1 x15_2 a0_0 l0_1 l0_2 l0_3 = some (r1, r2, r3, r4, r5, r6)) ∧ Aside0 (kq ≤ k) ∧ Aside0 (wc.heap[gb220]? = some (.cells #[.int .i64 a0_0, (.slice A0_1 l0_1.length c0_1), (.slice A0_2 l0_2.length c0_2), (.slice A0_3 l0_3.length c0_3)] 30 (0, 0))) ∧ Aside0 (wc.heap[gb221]? = some (.cells #[.int .i64 0, (.slice none 0 0), (.slice none 0 0), (.slice none 0 0)] 30 (0, 0))) ∧ Aside0 (Below w.heap.size w wc))
 case first =>
  have H := HC3.out; clear HC3
  replace H := Option.bind_eq_some_iff.mp H
  obtain ⟨t222, A60, H⟩ := H
  (try dsimp only at H)
  have A6 := Aside0.mk A60; clear A60
  by_cases c7 : t222 = true
  ·subst c7
   rw [if_pos rfl] at H
   have H' := Aside0.mk H
   clear H; have hnb8 := NB220_221.out; have hnc8 := NB221_220.out; have Z9 := zz4 BK220
   go_wp2_with (first | ((with_reducible refine gate_callee (f := 14) rfl ?_); refine goesL_ (some 9) rfl rfl Try.func14 (by kernel_rfl) rfl #[.agg #[.int .i64 a0_0, .slice A0_1 l0_1.length c0_1, .slice A0_2 l0_2.length c0_2, .slice A0_3 l0_3.length c0_3]] rfl ar_ ?_; (with_reducible refine (impl_ClientOk.calls k a0_0 _ _ l0_1 _ _ l0_2 _ _ l0_3 true _ ?side1 ?side2 ?side3 ?side4 ?side5 ?side6 A6.out).mono ?_); (case side1 => exact kC_ (Kd.C_below HR0_1.out HB.out)); (case side2 => exact HC0_1.out); (case side3 => exact kC_ (Kd.C_below HR0_2.out HB.out)); (case side4 => exact HC0_2.out); (case side5 => exact kC_ (Kd.C_below HR0_3.out HB.out)); (case side6 => exact HC0_3.out); rintro e w10 ⟨rfl, hb⟩; refine ⟨_, rfl, ?_⟩; replace BK220 := (bbA_ BK220 hb); replace BK221 := (bbA_ BK221 hb); replace HB := (bs_ HB hb); (try clear hb); (try clear hb2); (try clear hk); (try clear hi)))
   go_meet
   case rel => exact ⟨_, (decide ((l1.length : Int) > 9)), (by first | rfl | (simp; done) | (simp [*]; done)), H', ⟨by first | omega | exact Nat.le_refl _⟩, ⟨by refine kb_ ?_; exact BK220.out⟩, ⟨by refine kb_ ?_; exact BK221.out⟩, ⟨hbA_ HB.out⟩⟩
  ·replace c7 := Bool.eq_false_iff.mpr c7
   subst c7
   rw [if_neg (show ¬ (false = true) by decide)] at H
   have H' := Aside0.mk H
   clear H; have hnb11 := NB220_221.out; have hnc11 := NB221_220.out; have Z12 := zz4 BK220
   go_wp2_with (first | ((with_reducible refine gate_callee (f := 14) rfl ?_); refine goesL_ (some 9) rfl rfl Try.func14 (by kernel_rfl) rfl #[.agg #[.int .i64 a0_0, .slice A0_1 l0_1.length c0_1, .slice A0_2 l0_2.length c0_2, .slice A0_3 l0_3.length c0_3]] rfl ar_ ?_; (with_reducible refine (impl_ClientOk.calls k a0_0 _ _ l0_1 _ _ l0_2 _ _ l0_3 false _ ?side1 ?side2 ?side3 ?side4 ?side5 ?side6 A6.out).mono ?_); (case side1 => exact kC_ (Kd.C_below HR0_1.out HB.out)); (case side2 => exact HC0_1.out); (case side3 => exact kC_ (Kd.C_below HR0_2.out HB.out)); (case side4 => exact HC0_2.out); (case side5 => exact kC_ (Kd.C_below HR0_3.out HB.out)); (case side6 => exact HC0_3.out); rintro e w13 ⟨rfl, hb⟩; refine ⟨_, rfl, ?_⟩; replace BK220 := (bbA_ BK220 hb); replace BK221 := (bbA_ BK221 hb); replace HB := (bs_ HB hb); (try clear hb); (try clear hb2); (try clear hk); (try clear hi)))
   go_meet
   case rel => exact ⟨_, (true), (by first | rfl | (simp; done) | (simp [*]; done)), H', ⟨by first | omega | exact Nat.le_refl _⟩, ⟨by refine kb_ ?_; exact BK220.out⟩, ⟨by refine kb_ ?_; exact BK221.out⟩, ⟨hbA_ HB.out⟩⟩
 case rest =>
  clear HC3; (try clear c1); (try clear c2); (try clear p2); (try clear c7); (try clear c8); (try clear c11); (try clear Z12); (try clear Z9)
  obtain ⟨kq, x15_2, rfl, HA, HJ2, BK220, BK221, HB⟩ := hcut
  cases kq with
  | zero => exact absurd HA.out (by simp [impl_ClientAsk.j0])
  | succ kj2 =>
   have H := HA.out; clear HA
   simp only [impl_ClientAsk.j0] at H
   by_cases c14 : x15_2 = true
   ·subst c14
    rw [if_pos rfl] at H
    simp only [Option.some.injEq, Prod.mk.injEq] at H
    obtain ⟨rfl, rfl, rfl, rfl, rfl, rfl⟩ := H
    have hnb15 := NB221_220.out; have hnc15 := NB220_221.out; have Z16 := zz4 BK221
    go_wp2
    refine bodyPost_ret (results_ctt rfl _ _ gb221 30 #[.int .i64 0, .slice none 0 0, .slice none 0 0, .slice none 0 0] (0, 0) _ rfl (by refine kb_ ?_; refine pz4 (cs := #[.int .i64 0, .slice none 0 0, .slice none 0 0, .slice none 0 0]) ?_; refine kb_ ?_; exact BK221.out) Try.underlying30 rfl (by kernel_rfl)) rfl ?_
    exact ⟨_, _, _, _, by first | rfl | (simp [errW_none, errW_some] <;> rfl) | (simp [*, errW_none, errW_some] <;> rfl), by first | exact Kd.R_nil _ _ _ _ _ | exact Kd.N_nil _ _ _ _ _ | exact Kd.V_nil _ _ _ _ _ | exact Kd.Q_nil _ _ _ _ _ | exact Kd.S_nil _ _ _ _ _, by first | exact Kd.S_nil _ _ _ _ _ | exact Kd.N_nil _ _ _ _ _ | exact Kd.V_nil _ _ _ _ _ | exact Kd.Q_nil _ _ _ _ _ | exact Kd.R_nil _ _ _ _ _, by first | exact Kd.R_nil _ _ _ _ _ | exact Kd.N_nil _ _ _ _ _ | exact Kd.V_nil _ _ _ _ _ | exact Kd.Q_nil _ _ _ _ _ | exact Kd.S_nil _ _ _ _ _, by first | exact Kd.R_nil _ _ _ _ _ | exact Kd.N_nil _ _ _ _ _ | exact Kd.V_nil _ _ _ _ _ | exact Kd.Q_nil _ _ _ _ _ | exact Kd.S_nil _ _ _ _ _, hbA_ HB.out⟩
   ·replace c14 := Bool.eq_false_iff.mpr c14
    subst c14
    rw [if_neg (show ¬ (false = true) by decide)] at H
    replace H := Option.bind_eq_some_iff.mp H
    obtain ⟨⟨t223, t224, t227, t230⟩, A170, H⟩ := H
    (try dsimp only at H)
    have A17 := Aside0.mk A170; clear A170; have HC18 := Aside0.mk H; clear H; have hnb19 := NB220_221.out; have hnc19 := NB221_220.out; have Z20 := zz4 BK220
    go_upto_region 4 with (first | ((with_reducible refine gate_callee (f := 54) rfl ?_); refine goesL_ (some 18) rfl rfl Try.func54 (by kernel_rfl) rfl #[.agg #[.int .i64 a0_0, .slice A0_1 l0_1.length c0_1, .slice A0_2 l0_2.length c0_2, .slice A0_3 l0_3.length c0_3]] rfl ar_ ?_; (with_reducible refine (impl_Client_copy.calls kj2 a0_0 _ _ l0_1 _ _ l0_2 _ _ l0_3 t223 t224 t227 t230 _ ?side1 ?side2 ?side3 ?side4 ?side5 ?side6 A17.out).mono ?_); (case side1 => exact kC_ (Kd.C_below HR0_1.out HB.out)); (case side2 => exact HC0_1.out); (case side3 => exact kC_ (Kd.C_below HR0_2.out HB.out)); (case side4 => exact HC0_2.out); (case side5 => exact kC_ (Kd.C_below HR0_3.out HB.out)); (case side6 => exact HC0_3.out); rintro e w21 ⟨v225, v228, v231, rfl, ho0, ho1, ho2, hb⟩; refine ⟨_, rfl, ?_⟩; have HO226 := Aside0.mk (Kd.R_lower ho0 (below_size (hbA_ HB.out))); have HO229 := Aside0.mk (Kd.S_lower ho1 (below_size (hbA_ HB.out))); have HO232 := Aside0.mk (Kd.R_lower ho2 (below_size (hbA_ HB.out))); replace BK220 := (bbA_ BK220 hb); replace BK221 := (bbA_ BK221 hb); replace HB := (bs_ HB hb); (try clear hb); (try clear hb2); (try clear hk); (try clear hi); (try clear ho0); (try clear ho1); (try clear ho2)) | ((with_reducible refine gate_dst (N := 7) rfl ?_); (try (refine gate_guard (by rfl) ?_; dsimp only)); refine box_ (N := 7) (cs := #[.int .i64 0, .slice none 0 0, .slice none 0 0, .slice none 0 0]) (t := 30) (fun gb233 hg w22 hbox hb => ?_); replace HO226 := Aside0.mk (Kd.R_below (kR_ HO226.out) hb); replace HO229 := Aside0.mk (Kd.S_below (kS_ HO229.out) hb); replace HO232 := Aside0.mk (Kd.R_below (kR_ HO232.out) hb); have BK233 := Aside0.mk (hbox); have GW233 := ge_ hg HB; have GE233 := ge_ hg HB; replace HB := (bs_ HB hb); have NB220_233 := nl_ hg BK220; have NB233_220 := ng_ hg BK220; replace BK220 := (bbA_ BK220 hb); have NB221_233 := nl_ hg BK221; have NB233_221 := ng_ hg BK221; replace BK221 := (bbA_ BK221 hb); clear hb hbox hg; have hnb23 := NB233_220.out; have hnc23 := NB220_233.out; have hnb24 := NB233_221.out; have hnc24 := NB221_233.out; have Z25 := zz4 BK233; obtain ⟨Ao26, co26, eo26⟩ := Kd.R_slice HO226.out; subst eo26; obtain ⟨Ao27, co27, eo27⟩ := Kd.S_slice HO229.out; subst eo27; obtain ⟨Ao28, co28, eo28⟩ := Kd.R_slice HO232.out; subst eo28))
    (try simp only [Act.put, List.setIfInBounds_toArray, List.set_cons_zero, List.set_cons_succ])
    go_cut [27] (fun v27 wc => ∃ (kq : Nat) (x27_17 : Bool), v27 = .bool x27_17 ∧ Aside0 (impl_ClientAsk.j1 kq l1 x27_17 a0_0 l0_1 l0_2 l0_3 t223 t224 t227 t230 = some (r1, r2, r3, r4, r5, r6)) ∧ Aside0 (kq ≤ kj2) ∧ Aside0 (Kd.R (Kd.int .i64) 3 wc w.heap.size (fun k_ => some k_ ≠ ((.slice Ao28 t230.length co28) : Value).ownBlock) (.slice Ao26 t224.length co26) t224) ∧ Aside0 (Kd.S k41 41 wc w.heap.size (fun _ => True) (.slice Ao27 t227.length co27) t227) ∧ Aside0 (Kd.R (Kd.int .i64) 3 wc w.heap.size (fun k_ => some k_ ≠ ((.slice Ao26 t224.length co26) : Value).ownBlock) (.slice Ao28 t230.length co28) t230) ∧ Aside0 (wc.heap[gb220]? = some (.cells #[.int .i64 a0_0, (.slice A0_1 l0_1.length c0_1), (.slice A0_2 l0_2.length c0_2), (.slice A0_3 l0_3.length c0_3)] 30 (0, 0))) ∧ Aside0 (wc.heap[gb221]? = some (.cells #[.int .i64 0, (.slice none 0 0), (.slice none 0 0), (.slice none 0 0)] 30 (0, 0))) ∧ Aside0 (wc.heap[gb233]? = some (.cells #[.int .i64 t223, (.slice Ao26 t224.length co26), (.slice Ao27 t227.length co27), (.slice Ao28 t230.length co28)] 30 (0, 0))) ∧ Aside0 (Below w.heap.size w wc))
    case first =>
     have H := HC18.out; clear HC18
     by_cases c29 : (l0_1.length : Int) ≥ 4
     ·rw [if_pos c29] at H
      have c29b0 : decide (4 ≤ (l0_1.length : Int)) = true := decide_eq_true c29
      have c29b1 : decide (4 ≤ l0_1.length) = true := decide_eq_true (by omega)
      clear c29
      (first | rw [c29b0] | (simp only [i64_w, i32_w]; rw [c29b0]) | skip)
      have H' := Aside0.mk H
      clear H; have hnb30 := NB220_221.out; have hnc30 := NB221_220.out; have hnb31 := NB220_233.out; have hnc31 := NB233_220.out; have Z32 := zz4 BK220
      go_wp2
      go_meet
      case rel => exact ⟨_, (true), (by first | rfl | (simp; done) | (simp [*]; done)), H', ⟨by have := HJ2.out; first | omega | exact Nat.le_refl _⟩, ⟨by refine kR_ ?_; exact rfm_ ((Kd.R_types HO226.out BK233.out (by decide))) (fun _ hk => hk.1)⟩, ⟨by refine kS_ ?_; exact Kd.S_mono (Kd.S_far (p := ⟨gb233, 3, none⟩) (Kd.S_far (p := ⟨gb233, 2, none⟩) (Kd.S_far (p := ⟨gb233, 1, none⟩) (Kd.S_far (p := ⟨gb233, 0, none⟩) (Kd.S_types HO229.out BK233.out (by decide)) (fun _ hk => hk.2) (.int .i64 t223)) (fun _ hk => hk.2) (.slice Ao26 t224.length co26)) (fun _ hk => hk.2) (.slice Ao27 t227.length co27)) (fun _ hk => hk.2) (.slice Ao28 t230.length co28)) (fun _ hk => trivial)⟩, ⟨by refine kR_ ?_; exact rfm_ ((Kd.R_types HO232.out BK233.out (by decide))) (fun _ hk => hk.1)⟩, ⟨by exact kf_ BK220.out⟩, ⟨by exact kf_ BK221.out⟩, ⟨by refine kb_ ?_; refine pz4 (cs := #[.int .i64 0, .slice none 0 0, .slice none 0 0, .slice none 0 0]) ?_; refine kb_ ?_; exact BK233.out⟩, ⟨hbA_ HB.out⟩⟩
     ·rw [if_neg c29] at H
      have c29b0 : decide (4 ≤ (l0_1.length : Int)) = false := decide_eq_false c29
      have c29b1 : decide (4 ≤ l0_1.length) = false := decide_eq_false (by omega)
      clear c29
      (first | rw [c29b0] | (simp only [i64_w, i32_w]; rw [c29b0]) | skip)
      have H' := Aside0.mk H
      clear H; have hnb33 := NB220_221.out; have hnc33 := NB221_220.out; have hnb34 := NB220_233.out; have hnc34 := NB233_220.out; have Z35 := zz4 BK220
      go_wp2
      go_meet
      case rel => exact ⟨_, (decide (a0_0 > 255)), (by first | rfl | (simp; done) | (simp [*]; done)), H', ⟨by have := HJ2.out; first | omega | exact Nat.le_refl _⟩, ⟨by refine kR_ ?_; exact rfm_ ((Kd.R_types HO226.out BK233.out (by decide))) (fun _ hk => hk.1)⟩, ⟨by refine kS_ ?_; exact Kd.S_mono (Kd.S_far (p := ⟨gb233, 3, none⟩) (Kd.S_far (p := ⟨gb233, 2, none⟩) (Kd.S_far (p := ⟨gb233, 1, none⟩) (Kd.S_far (p := ⟨gb233, 0, none⟩) (Kd.S_types HO229.out BK233.out (by decide)) (fun _ hk => hk.2) (.int .i64 t223)) (fun _ hk => hk.2) (.slice Ao26 t224.length co26)) (fun _ hk => hk.2) (.slice Ao27 t227.length co27)) (fun _ hk => hk.2) (.slice Ao28 t230.length co28)) (fun _ hk => trivial)⟩, ⟨by refine kR_ ?_; exact rfm_ ((Kd.R_types HO232.out BK233.out (by decide))) (fun _ hk => hk.1)⟩, ⟨by exact kf_ BK220.out⟩, ⟨by exact kf_ BK221.out⟩, ⟨by refine kb_ ?_; refine pz4 (cs := #[.int .i64 0, .slice none 0 0, .slice none 0 0, .slice none 0 0]) ?_; refine kb_ ?_; exact BK233.out⟩, ⟨hbA_ HB.out⟩⟩
    case rest =>
     clear HC18; (try clear c1); (try clear c2); (try clear p2); (try clear c3); (try clear c5); (try clear c7); (try clear c8); (try clear c11); (try clear c14); (try clear c15); (try clear c19); (try clear c23); (try clear c24); (try clear c26); (try clear c29); (try clear c29b0); (try clear c29b1); (try clear c30); (try clear c31); (try clear c33); (try clear c34); (try clear Z12); (try clear Z16); (try clear Z20); (try clear Z25); (try clear Z32); (try clear Z35); (try clear Z9); (try clear p2)
     obtain ⟨kq, x27_17, rfl, HA, HJ17, HO_234001, HO_234002, HO_234003, BK220, BK221, BK233, HB⟩ := hcut
     cases kq with
     | zero => exact absurd HA.out (by simp [impl_ClientAsk.j1])
     | succ kj17 =>
      have H := HA.out; clear HA
      simp only [impl_ClientAsk.j1] at H
      by_cases c36 : x27_17 = true
      ·subst c36
       rw [if_pos rfl] at H
       simp only [Option.some.injEq, Prod.mk.injEq] at H
       obtain ⟨rfl, rfl, rfl, rfl, rfl, rfl⟩ := H
       have hnb37 := NB233_220.out; have hnc37 := NB220_233.out; have hnb38 := NB233_221.out; have hnc38 := NB221_233.out; have Z39 := zz4 BK233; have hnb40 := NB221_220.out; have hnc40 := NB220_221.out; have Z41 := zz4 BK221
       go_wp2
       refine bodyPost_ret (results_ctt rfl _ _ gb221 30 #[.int .i64 t223, .slice Ao26 t224.length co26, .slice Ao27 t227.length co27, .slice Ao28 t230.length co28] (0, 0) _ rfl (by refine kb_ ?_; refine pz4 (cs := #[.int .i64 0, .slice none 0 0, .slice none 0 0, .slice none 0 0]) ?_; refine kb_ ?_; exact BK221.out) Try.underlying30 rfl (by kernel_rfl)) rfl ?_
       exact ⟨_, _, _, _, by first | rfl | (simp [errW_none, errW_some] <;> rfl) | (simp [*, errW_none, errW_some] <;> rfl), by refine kR_ ?_; exact rfm_ ((Kd.R_types HO_234001.out BK221.out (by decide))) (fun _ hk => hk.1), by refine kS_ ?_; exact Kd.S_mono (Kd.S_far (p := ⟨gb221, 3, none⟩) (Kd.S_far (p := ⟨gb221, 2, none⟩) (Kd.S_far (p := ⟨gb221, 1, none⟩) (Kd.S_far (p := ⟨gb221, 0, none⟩) (Kd.S_types HO_234002.out BK221.out (by decide)) (fun _ hk => hk.2) (.int .i64 t223)) (fun _ hk => hk.2) (.slice Ao26 t224.length co26)) (fun _ hk => hk.2) (.slice Ao27 t227.length co27)) (fun _ hk => hk.2) (.slice Ao28 t230.length co28)) (fun _ hk => (by simp [Value.ownBlock])), by refine kR_ ?_; exact rfm_ ((Kd.R_types HO_234003.out BK221.out (by decide))) (fun _ hk => hk.1), by first | exact Kd.R_nil _ _ _ _ _ | exact Kd.N_nil _ _ _ _ _ | exact Kd.V_nil _ _ _ _ _ | exact Kd.Q_nil _ _ _ _ _ | exact Kd.S_nil _ _ _ _ _, hbA_ HB.out⟩
      ·replace c36 := Bool.eq_false_iff.mpr c36
       subst c36
       rw [if_neg (show ¬ (false = true) by decide)] at H
       by_cases c42 : t224.length < 17592186044416
       ·rw [if_pos c42] at H
        have LMc42 := Aside0.mk c42; clear c42
        obtain ⟨y234, hy234⟩ : ∃ y_ : List Int, y_ = (t224 ++ [a0_0]) := ⟨_, rfl⟩
        (first | replace H := sb_ hy234 H | rw [← hy234] at H)
        have Ny234 := Aside0.mk hy234; clear hy234
        replace H := Option.bind_eq_some_iff.mp H
        obtain ⟨⟨t237, t238, t241, t244⟩, A430, H⟩ := H
        (try dsimp only at H)
        have A43 := Aside0.mk A430; clear A430
        replace H := Option.bind_eq_some_iff.mp H
        obtain ⟨t247, A440, H⟩ := H
        (try dsimp only at H)
        have A44 := Aside0.mk A440; clear A440
        simp only [Option.some.injEq, Prod.mk.injEq] at H
        obtain ⟨rfl, rfl, rfl, rfl, rfl, rfl⟩ := H
        have hnb45 := NB233_220.out; have hnc45 := NB220_233.out; have hnb46 := NB233_221.out; have hnc46 := NB221_233.out; have Z47 := zz4 BK233; have hnb48 := NB220_221.out; have hnc48 := NB221_220.out; have Z49 := zz4 BK220
        try go_wp2_with (first | ((with_reducible refine gate_builtin (b := .append) (xs := #[.tmp 30, .tmp 33]) rfl ?_); (try (refine gate_guard (by rfl) ?_; dsimp only)); at_builtin; refine Kd.R_append (Kd.int .i64) (w0 := w) w.heap.size rfl (.tmp 30) (.tmp 33) 22 3 (.int .i64 0) 8 rfl Try.underlying22 info3 rfl (by decide) (by omega) (.slice Ao26 t224.length co26) t224 a0_0 [.int .i64 a0_0] (fun k_ => some k_ ≠ (.slice Ao28 t230.length co28 : Value).ownBlock) (fun _ => False) rfl rfl ?aP (fun _ hk => hk.elim) ?aF ?aO ?aB ?aS ?aL ?_; (case aP => exact rfl); (case aB => exact (hbA_ HB.out)); (case aF => exact (fun k_ hk => Kd.fresh' (Kd.R_lt (kR_ HO_234003.out)) k_ hk)); (case aO => exact (kR_ HO_234001.out)); (case aS => exact (below_size (hbA_ HB.out))); (case aL => have := LMc42.out; omega); intro v235 w50 ho hb hg hat; rw [← Ny234.out] at ho; replace HO_234002 := Aside0.mk (Kd.S_over' (kS_ HO_234002.out) (Kd.R_typed (kR_ HO_234001.out)) (by decide) hg); replace HO_234003 := Aside0.mk (Kd.R_after (ok := (fun _ => True)) (by refine kR_ ?_; exact Kd.R_mono HO_234003.out (fun _ hk => ⟨trivial, hk⟩)) hg hat); replace BK220 := (bgA_ BK220 hg (Kd.R_ne HO_234001.out BK220.out (by decide))); replace BK221 := (bgA_ BK221 hg (Kd.R_ne HO_234001.out BK221.out (by decide))); replace BK233 := (bgA_ BK233 hg (Kd.R_ne HO_234001.out BK233.out (by decide))); replace HB := Aside0.mk (hb); have HO236 := Aside0.mk (ho); clear HO_234001; clear ho hb hg hat; obtain ⟨Ao51, co51, eo51⟩ := Kd.R_slice HO236.out; subst eo51; have Z52 := zz4 BK233))
        obtain ⟨w53, h_w53⟩ : ∃ w_, ((w50.setCell ⟨gb233, 1, none⟩ (.slice Ao51 y234.length co51)).setCell ⟨gb233, 0, none⟩ (.int .i64 (wrap64 (t223 + 1)))) = w_ := ⟨_, rfl⟩
        have n0_ : Aside0 (Kd.S k41 41 w53 w.heap.size (fun _ => True) (.slice Ao27 t227.length co27) t227) := ⟨by subst h_w53; refine kS_ ?_; exact Kd.S_mono (Kd.S_far (p := ⟨gb233, 0, none⟩) (Kd.S_far (p := ⟨gb233, 1, none⟩) (Kd.S_types HO_234002.out BK233.out (by decide)) (fun _ hk => hk.2) (.slice Ao51 y234.length co51)) (fun _ hk => hk.2) (.int .i64 (wrap64 (t223 + 1)))) (fun _ hk => trivial)⟩
        have n1_ : Aside0 (Kd.R (Kd.int .i64) 3 w53 w.heap.size (fun k_ => some k_ ≠ (.slice Ao51 y234.length co51 : Value).ownBlock) (.slice Ao28 t230.length co28) t230) := ⟨by subst h_w53; refine kR_ ?_; exact rfm_ ((Kd.R_types HO_234003.out BK233.out (by decide))) (fun _ hk => hk.1.2)⟩
        have n2_ : Aside0 (Kd.R (Kd.int .i64) 3 w53 w.heap.size (fun k_ => some k_ ≠ (.slice Ao28 t230.length co28 : Value).ownBlock) (.slice Ao51 y234.length co51) y234) := ⟨by subst h_w53; refine kR_ ?_; exact rfm_ ((Kd.R_types HO236.out BK233.out (by decide))) (fun _ hk => hk.1)⟩
        have n3_ : Aside0 (w53.heap[gb220]? = some (.cells #[.int .i64 a0_0, .slice A0_1 l0_1.length c0_1, .slice A0_2 l0_2.length c0_2, .slice A0_3 l0_3.length c0_3] 30 (0, 0))) := ⟨by subst h_w53; exact kf_ BK220.out⟩
        have n4_ : Aside0 (w53.heap[gb221]? = some (.cells #[.int .i64 0, .slice none 0 0, .slice none 0 0, .slice none 0 0] 30 (0, 0))) := ⟨by subst h_w53; exact kf_ BK221.out⟩
        have n5_ : Aside0 (w53.heap[gb233]? = some (.cells #[.int .i64 (wrap64 (t223 + 1)), .slice Ao51 y234.length co51, .slice Ao27 t227.length co27, .slice Ao28 t230.length co28] 30 (0, 0))) := ⟨by subst h_w53; refine kb_ ?_; refine blk_put (cs := #[.int .i64 t223, .slice Ao51 y234.length co51, .slice Ao27 t227.length co27, .slice Ao28 t230.length co28]) ?_ 0 _ rfl; refine kb_ ?_; refine blk_put (cs := #[.int .i64 t223, .slice Ao26 t224.length co26, .slice Ao27 t227.length co27, .slice Ao28 t230.length co28]) ?_ 1 _ rfl; refine kb_ ?_; exact BK233.out⟩
        have n6_ : Aside0 (Below w.heap.size w w53) := ⟨by subst h_w53; exact hbA_ HB.out⟩
        (try clear HO_234002); (try clear HO_234003); (try clear HO236); (try clear BK220); (try clear BK221); (try clear BK233); (try clear HB)
        (try rw [h_w53]); clear h_w53
        have HO_234002 := n0_; have HO_234003 := n1_; have HO236 := n2_; have BK220 := n3_; have BK221 := n4_; have BK233 := n5_; have HB := n6_; clear n0_ n1_ n2_ n3_ n4_ n5_ n6_; replace HO_234002 := Aside0.mk (Kd.S_drew HO_234002.out); replace HO_234003 := Aside0.mk (Kd.R_drew HO_234003.out); replace HO236 := Aside0.mk (Kd.R_drew HO236.out); replace BK220 := Aside0.mk (blk_drew BK220.out); replace BK221 := Aside0.mk (blk_drew BK221.out); replace BK233 := Aside0.mk (blk_drew BK233.out); replace HB := (bd_ HB)
        refine start_ (n := 10) (S := fun w' => w'.cell? ⟨gb233, 0, none⟩ = some (.int .i64 (wrap64 (t223 + 1))) ∧ w'.cell? ⟨gb233, 1, none⟩ = some (.slice Ao51 y234.length co51) ∧ w'.cell? ⟨gb233, 2, none⟩ = some (.slice Ao27 t227.length co27) ∧ w'.cell? ⟨gb233, 3, none⟩ = some (.slice Ao28 t230.length co28) ∧ w'.cell? ⟨gb220, 0, none⟩ = some (.int .i64 a0_0) ∧ w'.cell? ⟨gb220, 1, none⟩ = some (.slice A0_1 l0_1.length c0_1) ∧ w'.cell? ⟨gb220, 2, none⟩ = some (.slice A0_2 l0_2.length c0_2) ∧ w'.cell? ⟨gb220, 3, none⟩ = some (.slice A0_3 l0_3.length c0_3)) (ds := []) #[false, false, false, false, false, false, false, false, false, false] (by kernel_rfl) rfl rfl ⟨bc_ BK233 0, bc_ BK233 1, bc_ BK233 2, bc_ BK233 3, bc_ BK220 0, bc_ BK220 1, bc_ BK220 2, bc_ BK220 3⟩ (fun hHeld => ?_); refine with_tabW impl_ClientAsk.tab8 impl_ClientAsk.bits8 (fun HT_ HW_ => ?_)
        generalize w53.drew = w54 at HO_234002 HO_234003 HO236 BK220 BK221 BK233 HB hHeld ⊢
        refine pu_ (i := 2) (N := some 42) HT_ ?_; refine pu_ (i := 4) (N := some 44) HT_ ?_; refine tk_ (i := 0) (N := some 40) HT_ HW_ hHeld ?_; refine tk_ (i := 3) (N := some 43) HT_ HW_ hHeld ?_; refine pu_ (i := 5) (N := some 45) HT_ ?_
        refine on_ (i := 1) (N := some 41) HT_ (fun K hK => ?_)
        refine goes_ Try.func54 (by kernel_rfl) rfl #[.agg #[.int .i64 (wrap64 (t223 + 1)), .slice Ao51 y234.length co51, .slice Ao27 t227.length co27, .slice Ao28 t230.length co28]] (by rfl) rfl rfl ar_ ?_
        with_reducible refine (impl_Client_copy.calls kj17 (wrap64 (t223 + 1)) _ _ y234 _ _ t227 _ _ t230 t237 t238 t241 t244 _ ?side1 ?side2 ?side3 ?side4 ?side5 ?side6 A43.out).mono ?_
        (case side1 => exact kC_ (Kd.R_reads' HO236.out).2.2)
        (case side2 => exact (Kd.R_reads' HO236.out).2.1)
        (case side3 => exact kC_ (Kd.S_reads' HO_234002.out).2.2)
        (case side4 => exact (Kd.S_reads' HO_234002.out).2.1)
        (case side5 => exact kC_ (Kd.R_reads' HO_234003.out).2.2)
        (case side6 => exact (Kd.R_reads' HO_234003.out).2.1)
        rintro e w55 ⟨v239, v242, v245, rfl, ho0, ho1, ho2, hb⟩
        refine ⟨_, rfl, ?_⟩
        have HO240 := Aside0.mk (Kd.R_lower (Kd.R_new' (Kd.R_new' ho0 (Kd.R_lt (kR_ HO_234003.out))) (Kd.R_lt (kR_ HO236.out))) (below_size (hbA_ HB.out))); have HO243 := Aside0.mk (Kd.S_lower (Kd.S_new' ho1 (Kd.S_lt (kS_ HO_234002.out))) (below_size (hbA_ HB.out))); replace HO_234002 := Aside0.mk (Kd.S_elder' (kS_ HO_234002.out) (Kd.S_base ho1) hb); have HO246 := Aside0.mk (Kd.R_lower (Kd.R_new' (Kd.R_new' ho2 (Kd.R_lt (kR_ HO_234003.out))) (Kd.R_lt (kR_ HO236.out))) (below_size (hbA_ HB.out))); replace HO_234003 := Aside0.mk (Kd.R_mono (Kd.R_told (Kd.R_told (Kd.R_old (kR_ HO_234003.out) hb) (Kd.R_base ho0)) (Kd.R_base ho2)) (fun _ h_ => op1_ h_)); replace HO236 := Aside0.mk (Kd.R_mono (Kd.R_told (Kd.R_told (Kd.R_old (kR_ HO236.out) hb) (Kd.R_base ho0)) (Kd.R_base ho2)) (fun _ h_ => op1_ h_)); replace BK220 := (bbA_ BK220 hb); replace BK221 := (bbA_ BK221 hb); replace BK233 := (bbA_ BK233 hb); replace HB := (bs_ HB hb); (try clear hb); (try clear hb2); (try clear hk); (try clear hi); (try clear ho0); (try clear ho1); (try clear ho2)
        refine hK.out _ _ ⟨bc_ BK233 0, bc_ BK233 1, bc_ BK233 2, bc_ BK233 3, bc_ BK220 0, bc_ BK220 1, bc_ BK220 2, bc_ BK220 3⟩ (fun hHeld => ?_)
        clear hK K; refine nm_ 41 ?_
        refine on_ (i := 6) (N := some 46) HT_ (fun K hK => ?_)
        refine goes_ Try.func63 (by kernel_rfl) rfl #[.agg #[.int .i64 a0_0, .slice A1 l1.length c1]] (by rfl) rfl rfl ar_ ?_
        with_reducible refine (impl_WordsBytes.calls kj17 a0_0 _ _ l1 t247 _ ?side1 ?side2 A44.out).mono ?_
        (case side1 => exact kC_ (Kd.C_below HR1.out HB.out))
        (case side2 => exact HC1.out)
        rintro e w56 ⟨v248, rfl, ho0, hb⟩
        refine ⟨_, rfl, ?_⟩
        replace HO_234002 := Aside0.mk (Kd.S_elder' (kS_ HO_234002.out) (Kd.R_base ho0) hb); replace HO_234003 := Aside0.mk (Kd.R_below (kR_ HO_234003.out) hb); replace HO236 := Aside0.mk (Kd.R_below (kR_ HO236.out) hb); replace HO240 := Aside0.mk (Kd.R_below (kR_ HO240.out) hb); replace HO243 := Aside0.mk (Kd.S_elder' (kS_ HO243.out) (Kd.R_base ho0) hb); replace HO246 := Aside0.mk (Kd.R_below (kR_ HO246.out) hb); have HO249 := Aside0.mk (Kd.R_lower ho0 (below_size (hbA_ HB.out))); replace BK220 := (bbA_ BK220 hb); replace BK221 := (bbA_ BK221 hb); replace BK233 := (bbA_ BK233 hb); replace HB := (bs_ HB hb); (try clear hb); (try clear hb2); (try clear hk); (try clear hi); (try clear ho0)
        obtain ⟨Ao58, co58, eo58⟩ := Kd.R_slice HO240.out
        (first | subst eo58 | (injection eo58 with f1_ f2_ f3_; have f4_ := f1_.symm; have f5_ := f3_.symm; clear f1_ f2_ f3_; subst f4_; subst f5_))
        obtain ⟨Ao60, co60, eo60⟩ := Kd.S_slice HO243.out
        (first | subst eo60 | (injection eo60 with f1_ f2_ f3_; have f4_ := f1_.symm; have f5_ := f3_.symm; clear f1_ f2_ f3_; subst f4_; subst f5_))
        obtain ⟨Ao62, co62, eo62⟩ := Kd.R_slice HO246.out
        (first | subst eo62 | (injection eo62 with f1_ f2_ f3_; have f4_ := f1_.symm; have f5_ := f3_.symm; clear f1_ f2_ f3_; subst f4_; subst f5_))
        refine hK.out _ _ ⟨bc_ BK233 0, bc_ BK233 1, bc_ BK233 2, bc_ BK233 3, bc_ BK220 0, bc_ BK220 1, bc_ BK220 2, bc_ BK220 3⟩ (fun hHeld => ?_)
        clear hK K; refine nm_ 46 ?_
        refine on_ (i := 7) (N := none) HT_ (fun K hK => ?_)
        have hs57 : w56.cell? ⟨gb221, 0, none⟩ = some (.int .i64 0) := bc_ BK221 0
        have hfs57 := blk_frozen BK221.out 0
        have hns57_0 := NB220_221.out; have hns57_2 := NB233_221.out; have hms57_0 := NB221_220.out; have hms57_2 := NB221_233.out
        have hs59 : w56.cell? ⟨gb221, 1, none⟩ = some (.slice none 0 0) := bc_ BK221 1
        have hfs59 := blk_frozen BK221.out 1
        have hns59_0 := NB220_221.out; have hns59_2 := NB233_221.out; have hms59_0 := NB221_220.out; have hms59_2 := NB221_233.out
        have hs61 : w56.cell? ⟨gb221, 2, none⟩ = some (.slice none 0 0) := bc_ BK221 2
        have hfs61 := blk_frozen BK221.out 2
        have hns61_0 := NB220_221.out; have hns61_2 := NB233_221.out; have hms61_0 := NB221_220.out; have hms61_2 := NB221_233.out
        have hs63 : w56.cell? ⟨gb221, 3, none⟩ = some (.slice none 0 0) := bc_ BK221 3
        have hfs63 := blk_frozen BK221.out 3
        have hns63_0 := NB220_221.out; have hns63_2 := NB233_221.out; have hms63_0 := NB221_220.out; have hms63_2 := NB221_233.out
        refine skip_ (w1 := ?_) (by rfl) rfl ?_ ?_
        rotate_left
        ·go_simp
         rfl
        refine hK.out _ _ ⟨((cell_far (p := ⟨gb221, _, none⟩) NB233_221.out _).trans (((cell_far (p := ⟨gb221, _, none⟩) NB233_221.out _).trans (((cell_far (p := ⟨gb221, _, none⟩) NB233_221.out _).trans (((cell_far (p := ⟨gb221, _, none⟩) NB233_221.out _).trans (hHeld.1)))))))), ((cell_far (p := ⟨gb221, _, none⟩) NB233_221.out _).trans (((cell_far (p := ⟨gb221, _, none⟩) NB233_221.out _).trans (((cell_far (p := ⟨gb221, _, none⟩) NB233_221.out _).trans (((cell_far (p := ⟨gb221, _, none⟩) NB233_221.out _).trans (hHeld.2.1)))))))), ((cell_far (p := ⟨gb221, _, none⟩) NB233_221.out _).trans (((cell_far (p := ⟨gb221, _, none⟩) NB233_221.out _).trans (((cell_far (p := ⟨gb221, _, none⟩) NB233_221.out _).trans (((cell_far (p := ⟨gb221, _, none⟩) NB233_221.out _).trans (hHeld.2.2.1)))))))), ((cell_far (p := ⟨gb221, _, none⟩) NB233_221.out _).trans (((cell_far (p := ⟨gb221, _, none⟩) NB233_221.out _).trans (((cell_far (p := ⟨gb221, _, none⟩) NB233_221.out _).trans (((cell_far (p := ⟨gb221, _, none⟩) NB233_221.out _).trans (hHeld.2.2.2.1)))))))), ((cell_far (p := ⟨gb221, _, none⟩) NB220_221.out _).trans (((cell_far (p := ⟨gb221, _, none⟩) NB220_221.out _).trans (((cell_far (p := ⟨gb221, _, none⟩) NB220_221.out _).trans (((cell_far (p := ⟨gb221, _, none⟩) NB220_221.out _).trans (hHeld.2.2.2.2.1)))))))), ((cell_far (p := ⟨gb221, _, none⟩) NB220_221.out _).trans (((cell_far (p := ⟨gb221, _, none⟩) NB220_221.out _).trans (((cell_far (p := ⟨gb221, _, none⟩) NB220_221.out _).trans (((cell_far (p := ⟨gb221, _, none⟩) NB220_221.out _).trans (hHeld.2.2.2.2.2.1)))))))), ((cell_far (p := ⟨gb221, _, none⟩) NB220_221.out _).trans (((cell_far (p := ⟨gb221, _, none⟩) NB220_221.out _).trans (((cell_far (p := ⟨gb221, _, none⟩) NB220_221.out _).trans (((cell_far (p := ⟨gb221, _, none⟩) NB220_221.out _).trans (hHeld.2.2.2.2.2.2.1)))))))), ((cell_far (p := ⟨gb221, _, none⟩) NB220_221.out _).trans (((cell_far (p := ⟨gb221, _, none⟩) NB220_221.out _).trans (((cell_far (p := ⟨gb221, _, none⟩) NB220_221.out _).trans (((cell_far (p := ⟨gb221, _, none⟩) NB220_221.out _).trans (hHeld.2.2.2.2.2.2.2))))))))⟩ (fun hHeld => ?_)
        clear hK K; refine pu_ (i := 8) (N := some 5) HT_ ?_; refine pu_ (i := 9) (N := some 6) HT_ ?_
        refine done_ (done_of HT_.out (by kernel_rfl)) ?_
        try go_wp2
        refine bodyPost_ret (results_ctt rfl _ _ gb221 30 #[.int .i64 t237, .slice Ao58 t238.length co58, .slice Ao60 t241.length co60, .slice Ao62 t244.length co62] (0, 0) _ rfl (by refine kb_ ?_; refine pz4 (cs := #[.int .i64 0, .slice none 0 0, .slice none 0 0, .slice none 0 0]) ?_; refine kb_ ?_; exact BK221.out) Try.underlying30 rfl (by kernel_rfl)) rfl ?_
        exact ⟨_, _, _, _, by first | rfl | (simp [errW_none, errW_some] <;> rfl) | (simp [*, errW_none, errW_some] <;> rfl), by refine kR_ ?_; exact rfm_ ((Kd.R_types HO240.out BK221.out (by decide))) (fun _ hk => hk.1.1.1), by refine kS_ ?_; exact Kd.S_mono (Kd.S_far (p := ⟨gb221, 3, none⟩) (Kd.S_far (p := ⟨gb221, 2, none⟩) (Kd.S_far (p := ⟨gb221, 1, none⟩) (Kd.S_far (p := ⟨gb221, 0, none⟩) (Kd.S_types HO243.out BK221.out (by decide)) (fun _ hk => hk.2) (.int .i64 t237)) (fun _ hk => hk.2) (.slice Ao58 t238.length co58)) (fun _ hk => hk.2) (.slice Ao60 t241.length co60)) (fun _ hk => hk.2) (.slice Ao62 t244.length co62)) (fun _ hk => hk.1.2), by refine kR_ ?_; exact rfm_ ((Kd.R_types HO246.out BK221.out (by decide))) (fun _ hk => hk.1.1.1), by refine kR_ ?_; exact rfm_ ((Kd.R_types HO249.out BK221.out (by decide))) (fun _ hk => trivial), hbA_ HB.out⟩
       ·rw [if_neg c42] at H
        exact absurd H (by simp)
def spec_l1In.f (a0 : Int) (a1 : Int) (a2 : Int) : Option (Bool) := if a0 ≥ a1 then (some (decide (a0 ≤ a2))) else (some false)
set_option maxHeartbeats 8000000 in
set_option maxRecDepth 100000 in
theorem spec_l1In.calls (a0 : Int) (a1 : Int) (a2 : Int) (r : Bool) (w : World) (h : spec_l1In.f a0 a1 a2 = some r) :
  Calls Try.prog 46 #[.int .i64 a0, .int .i64 a1, .int .i64 a2] w fun e w' => e = .returned (.bool r) ∧ Drawn0 w w' := by
 have H : (if a0 ≥ a1 then (some (decide (a0 ≤ a2))) else (some false)) = some r := h
 clear h
 by_cases c4 : a0 ≥ a1
 ·rw [if_pos c4] at H
  have c4b0 : decide (a1 ≤ a0) = true := decide_eq_true c4
  clear c4
  obtain rfl := Option.some.inj H
  go_enter Try.func46, Try.ntmps46
  go_wp2
  go_ret
  exact ⟨by first | rfl | (simp; done) | (simp [*]; done), by repeat (first | exact Drawn0.refl _ | apply Drawn0.step)⟩
 ·rw [if_neg c4] at H
  have c4b0 : decide (a1 ≤ a0) = false := decide_eq_false c4
  clear c4
  obtain rfl := Option.some.inj H
  go_enter Try.func46, Try.ntmps46
  go_wp2
  go_ret
  exact ⟨by first | rfl | (simp; done) | (simp [*]; done), by repeat (first | exact Drawn0.refl _ | apply Drawn0.step)⟩
end Go.Proofs.Ytegchbdjbefdbaa.PFnExactClientAsk
