/- Printed by wip/xp/xprint.sh out of the translation, for this claim: what each function answers, as a plain function, and that the machine does just that. No condition. -/
import Derived.Test.YtpbeljcgcdilnaaPFnClientOkx0
import Derived.Test.YtpbeljcgcdilnaaPFnClientOkx1
import Derived.Test.YtpbeljcgcdilnaaPFnClientOkx2
import Derived.Test.YtpbeljcgcdilnaaPFnClientOkx5
namespace Go.Proofs.Ytpbeljcgcdilnaa.PFnClientOk
open Go.RowKit Go.Proofs.YtpbeljcgcdilnaaW.PrintWords Go.Proofs.YtpbeljcgcdilnaaW.PrintLast Go.Proofs.YtpbeljcgcdilnaaW.PrintMore
attribute [local go_sem] max2_int min2_int max_two min_two max_three min_three max_four min_four   -- for this text's walks alone
set_option linter.unusedVariables false
set_option linter.unusedSimpArgs false
def impl_ClientOk.met (all : List Int) (next : Int) (nopen : Nat) : Int → List Int → List Int → Bool
 | _, [], _ => true
 | i, n :: rest, seen => if impl_in.f n 0 (wrap64 (next - 1)) = some true then (if seen.contains n = true then false else (if i > 0 ∧ i < (nopen : Int) ∧ rd all (wrap64 (i - 1)) ≥ n then false else impl_ClientOk.met all next nopen (i + 1) rest (n :: seen))) else false
theorem impl_ClientOk.inn_some (a b c : Int) : ∃ t, impl_in.f a b c = some t := by unfold impl_in.f; split <;> exact ⟨_, rfl⟩
theorem impl_ClientOk.inn_wf {n y : Int} (h : impl_in.f n 0 (wrap64 y) = some true) : (Lit.int .i64 n).wf = true := by
 have h0 : 0 ≤ n ∧ n ≤ wrap64 y := by
  unfold impl_in.f at h; split at h
  ·exact ⟨by assumption, by simpa using h⟩
  ·cases h
 have h1 : wrap64 y ≤ 9223372036854775807 := by unfold wrap64; omega
 generalize wrap64 y = z at h0 h1
 simp [Lit.wf, IntKind.min, IntKind.max, IntKind.bits, IntKind.signed]
 omega
theorem impl_ClientOk.rd_drop (l : List Int) (i : Int) (h0 : 0 ≤ i) (h1 : i < (l.length : Int)) : l.drop i.toNat = rd l i :: l.drop (i + 1).toNat := by
 have h : i.toNat < l.length := by omega
 rw [List.drop_eq_getElem_cons h, show (i + 1).toNat = i.toNat + 1 by omega]
 unfold rd
 rw [List.getD_eq_getElem?_getD, List.getElem?_eq_getElem h]; rfl
theorem impl_ClientOk.wrap_pred {i : Int} (h0 : 0 < i) (h1 : i < 17592186044416) : wrap64 (i - 1) = i - 1 := by unfold wrap64; omega
theorem impl_ClientOk.wrap_succ {i : Int} (h0 : 0 ≤ i) (h1 : i < 17592186044416) : wrap64 (i + 1) = i + 1 := by unfold wrap64; omega
mutual
def impl_ClientOk.j0 : Nat → Bool → Int → List Int → List (S81) → List Int → Option (Bool)
 | 0, _, _, _, _, _ => none
 | k + 1, x18, x397000, x397001, x397002, x397003 => if x18 = true then (some false) else ((slices_Concat_int_int.f k (([x397001, x397003] : List (List Int)))).bind fun t401 => (impl_ClientOk.l0 k t401 x397002 (x397002.length : Int) 0 x397000 x397001 x397002 x397003))
def impl_ClientOk.l0 : Nat → List Int → List (S81) → Int → Int → Int → List Int → List (S81) → List Int → Option (Bool)
 | 0, _, _, _, _, _, _, _, _ => none
 | k + 1, x3, x26, x27, x28, x397000, x397001, x397002, x397003 => if x28 < x27 then (if 0 ≤ x28 then (if x28 < (x26.length : Int) then (if (((rd_T81 x26 x28).f1).length : Int) > 9 then (some false) else (if x3.length < 17592186044416 then (impl_ClientOk.l0 k (x3 ++ [(rd_T81 x26 x28).f0]) x26 x27 (wrap64 (x28 + 1)) x397000 x397001 x397002 x397003) else (none))) else (none)) else (none)) else (if x3.length < 17592186044416 then (some (impl_ClientOk.met x3 x397000 x397001.length 0 x3 [] && ((x3.length : Int) == x397000))) else (none))
end
def impl_ClientOk.f (k : Nat) (a0_0 : Int) (l0_1 : List Int) (l0_2 : List (S81)) (l0_3 : List Int) : Option (Bool) := (impl_in.f a0_0 0 256).bind fun t397 => (if t397 = true then (impl_ClientOk.j0 k (decide ((l0_1.length : Int) > 4)) a0_0 l0_1 l0_2 l0_3) else (impl_ClientOk.j0 k true a0_0 l0_1 l0_2 l0_3))
theorem impl_ClientOk.mono_l : ∀ k, (∀ y0 y1 y2 y3 y4, LeO (impl_ClientOk.j0 k y0 y1 y2 y3 y4) (impl_ClientOk.j0 (k + 1) y0 y1 y2 y3 y4)) ∧ (∀ y0 y1 y2 y3 y4 y5 y6 y7, LeO (impl_ClientOk.l0 k y0 y1 y2 y3 y4 y5 y6 y7) (impl_ClientOk.l0 (k + 1) y0 y1 y2 y3 y4 y5 y6 y7))
 | 0 => ⟨fun _ _ _ _ _ r h => by simp [impl_ClientOk.j0] at h, fun _ _ _ _ _ _ _ _ r h => by simp [impl_ClientOk.l0] at h⟩
 | k + 1 => by
  obtain ⟨ih0, ih1⟩ := impl_ClientOk.mono_l k
  refine ⟨?_, ?_⟩
  ·intro y0 y1 y2 y3 y4
   unfold impl_ClientOk.j0
   repeat' first | (with_reducible first | apply ih0 | apply ih1 | apply slices_Concat_int_int.mono | exact LeO.refl _ | exact LeO.none _ | refine LeO.ite ?_ ?_ | refine LeO.bind ?_ fun _ => ?_) | apply ih0 | apply ih1 | apply slices_Concat_int_int.mono | exact LeO.none _ | refine LeO.ite ?_ ?_ | refine LeO.bind ?_ fun _ => ?_
  ·intro y0 y1 y2 y3 y4 y5 y6 y7
   unfold impl_ClientOk.l0
   repeat' first | (with_reducible first | apply ih0 | apply ih1 | apply slices_Concat_int_int.mono | exact LeO.refl _ | exact LeO.none _ | refine LeO.ite ?_ ?_ | refine LeO.bind ?_ fun _ => ?_) | apply ih0 | apply ih1 | apply slices_Concat_int_int.mono | exact LeO.none _ | refine LeO.ite ?_ ?_ | refine LeO.bind ?_ fun _ => ?_
theorem impl_ClientOk.mono : ∀ a0 a1 a2 a3 k, LeO (impl_ClientOk.f k a0 a1 a2 a3) (impl_ClientOk.f (k + 1) a0 a1 a2 a3) := by
 intro a0 a1 a2 a3 k
 obtain ⟨ih0, ih1⟩ := impl_ClientOk.mono_l k
 unfold impl_ClientOk.f
 repeat' first | (with_reducible first | apply ih0 | apply ih1 | apply slices_Concat_int_int.mono | exact LeO.refl _ | exact LeO.none _ | refine LeO.ite ?_ ?_ | refine LeO.bind ?_ fun _ => ?_) | apply ih0 | apply ih1 | apply slices_Concat_int_int.mono | exact LeO.none _ | refine LeO.ite ?_ ?_ | refine LeO.bind ?_ fun _ => ?_
set_option maxHeartbeats 8000000 in
set_option maxRecDepth 100000 in
theorem impl_ClientOk.callsV (k : Nat) (a0_0 : Int) (P0_1_ : Nat → Prop) (A0_1 : Option Addr) (c0_1 : Nat) (l0_1 : List Int) (A0_2 : Option Addr) (c0_2 : Nat) (l0_2 : List (S81)) (P0_3_ : Nat → Prop) (A0_3 : Option Addr) (c0_3 : Nat) (l0_3 : List Int) (r : Bool) (w : World) (hs0_1 : Kd.V (Kd.int .i64) 3 w w.heap.size (fun k_ => P0_1_ k_) (.slice A0_1 l0_1.length c0_1) l0_1) (hr0_2 : Kd.C k81 w A0_2 l0_2.length l0_2) (hc0_2 : l0_2.length ≤ c0_2) (hs0_3 : Kd.V (Kd.int .i64) 3 w w.heap.size (fun k_ => P0_3_ k_) (.slice A0_3 l0_3.length c0_3) l0_3) (h : impl_ClientOk.f k a0_0 l0_1 l0_2 l0_3 = some r) :
  Calls Try.prog 16 #[.agg #[.int .i64 a0_0, .slice A0_1 l0_1.length c0_1, .slice A0_2 l0_2.length c0_2, .slice A0_3 l0_3.length c0_3]] w fun e w' => e = .returned (.bool r) ∧ Below w.heap.size w w' := by
 have hu38 := Try.underlying38; have hu81 := Try.underlying81
 have HO0_1 := Aside0.mk (show Kd.V (Kd.int .i64) 3 w w.heap.size (fun k_ => ((P0_1_ k_ ∨ P0_3_ k_) ∨ w.heap.size ≤ k_)) (.slice A0_1 l0_1.length c0_1) l0_1 from Kd.V_mono hs0_1 (fun k_ hk => .inl (.inl hk)))
 have HR0_2 := Aside0.mk hr0_2; have HC0_2 := Aside0.mk hc0_2; clear hr0_2 hc0_2
 have HO0_3 := Aside0.mk (show Kd.V (Kd.int .i64) 3 w w.heap.size (fun k_ => ((P0_1_ k_ ∨ P0_3_ k_) ∨ w.heap.size ≤ k_)) (.slice A0_3 l0_3.length c0_3) l0_3 from Kd.V_mono hs0_3 (fun k_ hk => .inl (.inr hk)))
 have HB := Aside0.mk (Below.refl w.heap.size w)
 have H : ((impl_in.f a0_0 0 256).bind fun t397 => (if t397 = true then (impl_ClientOk.j0 k (decide ((l0_1.length : Int) > 4)) a0_0 l0_1 l0_2 l0_3) else (impl_ClientOk.j0 k true a0_0 l0_1 l0_2 l0_3))) = some r := h
 clear h; have HC2 := Aside0.mk H; clear H
 go_enter Try.func16, Try.ntmps16
 go_upto_region 1 with (first | ((with_reducible refine gate_dst (N := 1) rfl ?_); (try (refine gate_guard (by rfl) ?_; dsimp only)); refine box_ (N := 1) (cs := #[.int .i64 a0_0, .slice A0_1 l0_1.length c0_1, .slice A0_2 l0_2.length c0_2, .slice A0_3 l0_3.length c0_3]) (t := 38) (fun gb396 hg w3 hbox hb => ?_); replace HO0_1 := Aside0.mk (Kd.V_below (Kd.V_elderB (kV_ HO0_1.out) gb396 (Nat.le_of_eq hg.symm)) hb); replace HO0_3 := Aside0.mk (Kd.V_below (Kd.V_elderB (kV_ HO0_3.out) gb396 (Nat.le_of_eq hg.symm)) hb); have BK396 := Aside0.mk (hbox); have GW396 := ge_ hg HB; have GE396 := ge_ hg HB; replace HB := (bs_ HB hb); clear hb hbox hg))
 (try simp only [Act.put, List.setIfInBounds_toArray, List.set_cons_zero, List.set_cons_succ])
 go_cut [18] (fun v18 wc => ∃ (kq : Nat) (x18_1 : Bool), v18 = .bool x18_1 ∧ Aside0 (impl_ClientOk.j0 kq x18_1 a0_0 l0_1 l0_2 l0_3 = some r) ∧ Aside0 (kq ≤ k) ∧ Aside0 (Kd.V (Kd.int .i64) 3 wc w.heap.size (fun k_ => ((P0_1_ k_ ∨ P0_3_ k_) ∨ w.heap.size ≤ k_) ∧ k_ ≠ gb396) (.slice A0_1 l0_1.length c0_1) l0_1) ∧ Aside0 (Kd.V (Kd.int .i64) 3 wc w.heap.size (fun k_ => ((P0_1_ k_ ∨ P0_3_ k_) ∨ w.heap.size ≤ k_) ∧ k_ ≠ gb396) (.slice A0_3 l0_3.length c0_3) l0_3) ∧ Aside0 (wc.heap[gb396]? = some (.cells #[.int .i64 a0_0, (.slice A0_1 l0_1.length c0_1), (.slice A0_2 l0_2.length c0_2), (.slice A0_3 l0_3.length c0_3)] 38 (0, 0))) ∧ Aside0 (Below w.heap.size w wc))
 case first =>
  have H := HC2.out; clear HC2
  replace H := Option.bind_eq_some_iff.mp H
  obtain ⟨t397, A40, H⟩ := H
  (try dsimp only at H)
  have A4 := Aside0.mk A40; clear A40
  by_cases c5 : t397 = true
  ·subst c5
   rw [if_pos rfl] at H
   have H' := Aside0.mk H
   clear H; have Z6 := zz4 BK396
   go_wp2_with (first | ((with_reducible refine gate_callee (f := 49) rfl ?_); refine goesL_ (some 11) rfl rfl Try.func49 (by kernel_rfl) rfl #[.int .i64 a0_0, .int .i64 0, .int .i64 256] rfl ar_ ?_; (with_reducible refine (impl_in.calls a0_0 0 256 true _ A4.out).mono ?_); rintro e w' ⟨rfl, ⟨nd, rfl⟩⟩; refine ⟨_, rfl, ?_⟩))
   go_meet
   case rel => exact ⟨_, (decide ((l0_1.length : Int) > 4)), (by first | rfl | (simp; done) | (simp [*]; done)), H', ⟨by first | omega | exact Nat.le_refl _⟩, ⟨by refine kV_ ?_; exact HO0_1.out⟩, ⟨by refine kV_ ?_; exact HO0_3.out⟩, ⟨by refine kb_ ?_; exact BK396.out⟩, ⟨hbA_ HB.out⟩⟩
  ·replace c5 := Bool.eq_false_iff.mpr c5
   subst c5
   rw [if_neg (show ¬ (false = true) by decide)] at H
   have H' := Aside0.mk H
   clear H; have Z7 := zz4 BK396
   go_wp2_with (first | ((with_reducible refine gate_callee (f := 49) rfl ?_); refine goesL_ (some 11) rfl rfl Try.func49 (by kernel_rfl) rfl #[.int .i64 a0_0, .int .i64 0, .int .i64 256] rfl ar_ ?_; (with_reducible refine (impl_in.calls a0_0 0 256 false _ A4.out).mono ?_); rintro e w' ⟨rfl, ⟨nd, rfl⟩⟩; refine ⟨_, rfl, ?_⟩))
   go_meet
   case rel => exact ⟨_, (true), (by first | rfl | (simp; done) | (simp [*]; done)), H', ⟨by first | omega | exact Nat.le_refl _⟩, ⟨by refine kV_ ?_; exact HO0_1.out⟩, ⟨by refine kV_ ?_; exact HO0_3.out⟩, ⟨by refine kb_ ?_; exact BK396.out⟩, ⟨hbA_ HB.out⟩⟩
 case rest =>
  clear HC2; (try clear c1); (try clear p2); (try clear c4); (try clear c5); (try clear Z6); (try clear Z7)
  obtain ⟨kq, x18_1, rfl, HA, HJ1, HO_397001, HO_397003, BK396, HB⟩ := hcut
  cases kq with
  | zero => exact absurd HA.out (by simp [impl_ClientOk.j0])
  | succ kj1 =>
   have H := HA.out; clear HA
   simp only [impl_ClientOk.j0] at H
   by_cases c8 : x18_1 = true
   ·subst c8
    rw [if_pos rfl] at H
    obtain rfl := Option.some.inj H
    go_wp2
    go_ret
    exact ⟨by first | rfl | (simp [errW_none, errW_some] <;> rfl) | (simp [*, errW_none, errW_some] <;> rfl), hbA_ HB.out⟩
   ·replace c8 := Bool.eq_false_iff.mpr c8
    subst c8
    rw [if_neg (show ¬ (false = true) by decide)] at H
    obtain ⟨y398, hy398⟩ : ∃ y_ : List (List Int), y_ = (([l0_1, l0_3] : List (List Int))) := ⟨_, rfl⟩
    (first | replace H := sb_ hy398 H | rw [← hy398] at H)
    have Ny398 := Aside0.mk hy398; clear hy398
    replace H := Option.bind_eq_some_iff.mp H
    obtain ⟨t401, A90, H⟩ := H
    (try dsimp only at H)
    have A9 := Aside0.mk A90; clear A90
    have H' := Aside0.mk H
    clear H; have Z10 := zz4 BK396
    go_wp2_with (first | ((with_reducible refine gate_dst (N := 23) rfl ?_); (try (refine gate_guard (by rfl) ?_; dsimp only)); refine Kd.N_lit (Kd.slice 3 (Kd.int .i64)) _ 35 ?hg (N' := 23) ?hd (xs := ([l0_1, l0_3] : List (List Int))) (inner := [.slice A0_1 l0_1.length c0_1, .slice A0_3 l0_3.length c0_3]) (ok := (fun k_ => ((P0_1_ k_ ∨ P0_3_ k_) ∨ w.heap.size ≤ k_) ∧ k_ ≠ gb396)) (okp := (fun k_ => ((P0_1_ k_ ∨ P0_3_ k_) ∨ w.heap.size ≤ k_) ∧ k_ ≠ gb396)) ?hr ?hp (fun _ hk => hk) ((show ∀ k_, wc.heap.size ≤ k_ → (fun k_ => ((P0_1_ k_ ∨ P0_3_ k_) ∨ w.heap.size ≤ k_) ∧ k_ ≠ gb396) k_ from fun k_ hk => ⟨(.inr (Nat.le_trans (below_size (hbA_ HB.out)) hk)), fb_ BK396 k_ hk⟩) _ (Nat.le_refl _)) (Below.refl _ _) (Nat.le_refl _) (by simp) ?_; (case hd => rfl); (case hg => rfl); (case hr => first | (go_simp; done) | (go_simp; rfl)); (case hp => exact (Reps.one (show Kd.FK (Kd.slice 3 (Kd.int .i64)) _ _ l0_1 [.slice A0_1 l0_1.length c0_1] from (Kd.FK_slice_mk (Kd.V_reads' (Kd.V_mono (ok' := (fun k_ => ((P0_1_ k_ ∨ P0_3_ k_) ∨ w.heap.size ≤ k_) ∧ k_ ≠ gb396)) (HO_397001.out) (fun k_ hk => ⟨hk.1, hk.2⟩))).2.1 (Kd.V_F (Kd.V_mono (ok' := (fun k_ => ((P0_1_ k_ ∨ P0_3_ k_) ∨ w.heap.size ≤ k_) ∧ k_ ≠ gb396)) (HO_397001.out) (fun k_ hk => ⟨hk.1, hk.2⟩))))) (Reps.one (show Kd.FK (Kd.slice 3 (Kd.int .i64)) _ _ l0_3 [.slice A0_3 l0_3.length c0_3] from (Kd.FK_slice_mk (Kd.V_reads' (Kd.V_mono (ok' := (fun k_ => ((P0_1_ k_ ∨ P0_3_ k_) ∨ w.heap.size ≤ k_) ∧ k_ ≠ gb396)) (HO_397003.out) (fun k_ hk => ⟨hk.1, hk.2⟩))).2.1 (Kd.V_F (Kd.V_mono (ok' := (fun k_ => ((P0_1_ k_ ∨ P0_3_ k_) ∨ w.heap.size ≤ k_) ∧ k_ ≠ gb396)) (HO_397003.out) (fun k_ hk => ⟨hk.1, hk.2⟩))))) (Reps.none _ _)))); intro v399 w11 ho12 hb hg_ hnew_; clear hg_ hnew_; (first | rw [← Ny398.out] at ho12 | (simp only [Int.reduceToNat] at ho12; rw [← Ny398.out] at ho12)); replace HO_397001 := Aside0.mk (Kd.V_elder' (kV_ HO_397001.out) (Kd.N_base ho12) hb); replace HO_397003 := Aside0.mk (Kd.V_elder' (kV_ HO_397003.out) (Kd.N_base ho12) hb); have HO400 := Aside0.mk (Kd.N_lower ho12 (below_size (hbA_ HB.out))); replace BK396 := (bbA_ BK396 hb); replace HB := (bs_ HB hb); clear hb ho12; obtain ⟨Ao13, co13, eo13⟩ := Kd.N_slice HO400.out; subst eo13) | ((with_reducible refine gate_callee (f := 51) rfl ?_); refine goesL_ (some 24) rfl rfl Try.func51 (by kernel_rfl) rfl #[.slice Ao13 y398.length co13] rfl ar_ ?_; (with_reducible refine (slices_Concat_int_int.calls kj1 _ _ y398 t401 _ ?side1 ?side2 A9.out).mono ?_); (case side1 => exact kC_ (Kd.N_reads' HO400.out).2.2); (case side2 => exact (Kd.N_reads' HO400.out).2.1); rintro e w14 ⟨v402, rfl, ho0, hb⟩; refine ⟨_, rfl, ?_⟩; replace HO_397001 := Aside0.mk (Kd.V_elder' (kV_ HO_397001.out) (Kd.R_base ho0) hb); replace HO_397003 := Aside0.mk (Kd.V_elder' (kV_ HO_397003.out) (Kd.R_base ho0) hb); replace HO400 := Aside0.mk (Kd.N_elder' (kN_ HO400.out) (Kd.R_base ho0) hb); have HO403 := Aside0.mk (Kd.R_lower (Kd.R_newM (M := fun k_ => (w.heap.size ≤ k_)) ho0 (below_size (hbA_ HB.out)) (fun k_ h_ => h_)) (below_size (hbA_ HB.out))); replace BK396 := (bbA_ BK396 hb); replace HB := (bs_ HB hb); (try clear hb); (try clear hb2); (try clear hk); (try clear hi); (try clear ho0); have Z15 := zz4 BK396))
    go_loopg [3, 28] kj1 (fun kq v3 v28 w' => ∃ (x3_2 : List Int) (x28_2 : Int), v28 = .int .i64 x28_2 ∧ Aside0 (impl_ClientOk.l0 kq x3_2 l0_2 (l0_2.length : Int) x28_2 a0_0 l0_1 l0_2 l0_3 = some r) ∧ Aside0 (kq ≤ kj1) ∧ Aside0 (Kd.R (Kd.int .i64) 3 w' w.heap.size (fun k_ => (w.heap.size ≤ k_)) v3 x3_2) ∧ Aside0 (Kd.V (Kd.int .i64) 3 w' w.heap.size (fun k_ => ((P0_1_ k_ ∨ P0_3_ k_) ∨ w.heap.size ≤ k_) ∧ some k_ ≠ (v3 : Value).ownBlock ∧ k_ ≠ gb396) (.slice A0_1 l0_1.length c0_1) l0_1) ∧ Aside0 (Kd.V (Kd.int .i64) 3 w' w.heap.size (fun k_ => ((P0_1_ k_ ∨ P0_3_ k_) ∨ w.heap.size ≤ k_) ∧ some k_ ≠ (v3 : Value).ownBlock ∧ k_ ≠ gb396) (.slice A0_3 l0_3.length c0_3) l0_3) ∧ Aside0 (w'.heap[gb396]? = some (.cells #[.int .i64 a0_0, (.slice A0_1 l0_1.length c0_1), (.slice A0_2 l0_2.length c0_2), (.slice A0_3 l0_3.length c0_3)] 38 (0, 0))) ∧ Aside0 (Below w.heap.size w w'))
    case atStart => exact ⟨(t401), (0), (by first | rfl | (simp; done) | (simp [*]; done)), H', ⟨Nat.le_refl _⟩, ⟨by refine kR_ ?_; exact Kd.R_mono HO403.out (fun _ hk => hk.1)⟩, ⟨by refine kV_ ?_; exact Kd.V_mono HO_397001.out (fun _ hk => ⟨hk.1.1.1, ⟨hk.2, hk.1.1.2⟩⟩)⟩, ⟨by refine kV_ ?_; exact Kd.V_mono HO_397003.out (fun _ hk => ⟨hk.1.1.1, ⟨hk.2, hk.1.1.2⟩⟩)⟩, ⟨by refine kb_ ?_; exact BK396.out⟩, ⟨hbA_ HB.out⟩⟩
    case round =>
     clear H'; (try clear c1); (try clear p2); (try clear c4); (try clear c5); (try clear c8); (try clear Z10); (try clear Z15); (try clear Z6); (try clear Z7); (try clear p2)
     obtain ⟨x3_2, x28_2, rfl, HA, HK2, HO_3, HO_397001, HO_397003, BK396, HB⟩ := hrel
     cases gk with
     | zero => exact absurd HA.out (by simp [impl_ClientOk.l0])
     | succ k2 =>
      have H := HA.out; clear HA
      simp only [impl_ClientOk.l0] at H
      by_cases c16 : x28_2 < (l0_2.length : Int)
      ·rw [if_pos c16] at H
       have c16b0 : decide (x28_2 < (l0_2.length : Int)) = true := decide_eq_true c16
       clear c16
       by_cases c17 : 0 ≤ x28_2
       ·rw [if_pos c17] at H
        have c17b0 : decide (0 ≤ x28_2) = true := decide_eq_true c17
        clear c17
        by_cases c18 : x28_2 < (l0_2.length : Int)
        ·rw [if_pos c18] at H
         have c18b0 : decide (x28_2 < (l0_2.length : Int)) = true := decide_eq_true c18
         clear c18
         by_cases c19 : (((rd_T81 l0_2 x28_2).f1).length : Int) > 9
         ·rw [if_pos c19] at H
          have c19b0 : decide (9 < (((rd_T81 l0_2 x28_2).f1).length : Int)) = true := decide_eq_true c19
          have c19b1 : decide (9 < ((rd_T81 l0_2 x28_2).f1).length) = true := decide_eq_true (by omega)
          clear c19
          obtain rfl := Option.some.inj H
          have p404 : 0 ≤ (x28_2 : Int) := of_decide_eq_true (by first | (with_reducible assumption) | assumption)
          have q404 : x28_2 < (l0_2.length : Int) := of_decide_eq_true (by first | (with_reducible assumption) | assumption)
          obtain ⟨ad404, A404_1, c404_1, e404, hx404_0, hx404_1, hl404_1, hi404_1⟩ := at_T81 HR0_2.out x28_2 p404 q404
          cases e404
          replace hx404_0 := cc_ HB hx404_0
          replace hx404_1 := cc_ HB hx404_1
          have HR404_1 := Aside0.mk hi404_1; have HC404_1 := Aside0.mk hl404_1; clear hi404_1 hl404_1
          replace p404 := eq_true p404
          replace q404 := eq_true q404
          go_wp2_with (first | ((with_reducible refine gate_dst (N := 5) rfl ?_); (try (refine gate_guard (by rfl) ?_; dsimp only)); refine box_ (N := 5) (cs := #[.int .i64 0, .slice none 0 0]) (t := 81) (fun gb405 hg w20 hbox hb => ?_); replace HO_3 := Aside0.mk (Kd.R_below (kR_ HO_3.out) hb); replace HO_397001 := Aside0.mk (Kd.V_below (Kd.V_elderB (kV_ HO_397001.out) gb405 (Nat.le_of_eq hg.symm)) hb); replace HO_397003 := Aside0.mk (Kd.V_below (Kd.V_elderB (kV_ HO_397003.out) gb405 (Nat.le_of_eq hg.symm)) hb); have BK405 := Aside0.mk (hbox); have GW405 := ge_ hg HB; have GE405 := ge_ hg HB; replace HB := (bs_ HB hb); have NB396_405 := nl_ hg BK396; have NB405_396 := ng_ hg BK396; replace BK396 := (bbA_ BK396 hb); clear hb hbox hg; have hnb21 := NB405_396.out; have hnc21 := NB396_405.out; have Z22 := zz2 BK405))
          go_ret
          exact ⟨by first | rfl | (simp [errW_none, errW_some] <;> rfl) | (simp [*, errW_none, errW_some] <;> rfl), hbA_ HB.out⟩
         ·rw [if_neg c19] at H
          have c19b0 : decide (9 < (((rd_T81 l0_2 x28_2).f1).length : Int)) = false := decide_eq_false c19
          have c19b1 : decide (9 < ((rd_T81 l0_2 x28_2).f1).length) = false := decide_eq_false (by omega)
          clear c19
          by_cases c23 : x3_2.length < 17592186044416
          ·rw [if_pos c23] at H
           have LMc23 := Aside0.mk c23; clear c23
           obtain ⟨y406, hy406⟩ : ∃ y_ : List Int, y_ = (x3_2 ++ [(rd_T81 l0_2 x28_2).f0]) := ⟨_, rfl⟩
           (first | replace H := sb_ hy406 H | rw [← hy406] at H)
           have Ny406 := Aside0.mk hy406; clear hy406
           have H' := Aside0.mk H
           clear H
           have p404 : 0 ≤ (x28_2 : Int) := of_decide_eq_true (by first | (with_reducible assumption) | assumption)
           have q404 : x28_2 < (l0_2.length : Int) := of_decide_eq_true (by first | (with_reducible assumption) | assumption)
           obtain ⟨ad404, A404_1, c404_1, e404, hx404_0, hx404_1, hl404_1, hi404_1⟩ := at_T81 HR0_2.out x28_2 p404 q404
           cases e404
           replace hx404_0 := cc_ HB hx404_0
           replace hx404_1 := cc_ HB hx404_1
           have HR404_1 := Aside0.mk hi404_1; have HC404_1 := Aside0.mk hl404_1; clear hi404_1 hl404_1
           replace p404 := eq_true p404
           replace q404 := eq_true q404
           go_wp2_with (first | ((with_reducible refine gate_dst (N := 5) rfl ?_); (try (refine gate_guard (by rfl) ?_; dsimp only)); refine box_ (N := 5) (cs := #[.int .i64 0, .slice none 0 0]) (t := 81) (fun gb405 hg w24 hbox hb => ?_); replace HO_3 := Aside0.mk (Kd.R_below (kR_ HO_3.out) hb); replace HO_397001 := Aside0.mk (Kd.V_below (Kd.V_elderB (kV_ HO_397001.out) gb405 (Nat.le_of_eq hg.symm)) hb); replace HO_397003 := Aside0.mk (Kd.V_below (Kd.V_elderB (kV_ HO_397003.out) gb405 (Nat.le_of_eq hg.symm)) hb); have BK405 := Aside0.mk (hbox); have GW405 := ge_ hg HB; have GE405 := ge_ hg HB; replace HB := (bs_ HB hb); have NB396_405 := nl_ hg BK396; have NB405_396 := ng_ hg BK396; replace BK396 := (bbA_ BK396 hb); clear hb hbox hg; have hnb25 := NB405_396.out; have hnc25 := NB396_405.out; have Z26 := zz2 BK405) | ((with_reducible refine gate_builtin (b := .append) (xs := #[.tmp 36, .tmp 39]) rfl ?_); (try (refine gate_guard (by rfl) ?_; dsimp only)); at_builtin; refine Kd.R_append (Kd.int .i64) (w0 := w) w.heap.size rfl (.tmp 36) (.tmp 39) 35 3 (.int .i64 0) 8 rfl Try.underlying35 info3 rfl (by decide) (by omega) u3 x3_2 ((rd_T81 l0_2 x28_2).f0) [.int .i64 ((rd_T81 l0_2 x28_2).f0)] (fun k_ => (w.heap.size ≤ k_)) (fun _ => False) rfl (by first | (go_simp; done) | (go_simp; rfl)) ?aP (fun _ hk => hk.elim) ?aF ?aO ?aB ?aS ?aL ?_; (case aP => exact rfl); (case aB => exact (hbA_ HB.out)); (case aF => exact (fun k_ hk => (Nat.le_trans (below_size (hbA_ HB.out)) hk))); (case aO => exact (by refine kR_ ?_; exact rfm_ ((Kd.R_types HO_3.out BK405.out (by decide))) (fun _ hk => hk.1))); (case aS => exact (below_size (hbA_ HB.out))); (case aL => have := LMc23.out; omega); intro v407 w27 ho hb hg hat; rw [← Ny406.out] at ho; replace HO_397001 := Aside0.mk (Kd.V_afterv (ok := (fun k_ => ((P0_1_ k_ ∨ P0_3_ k_) ∨ w.heap.size ≤ k_) ∧ k_ ≠ gb396 ∧ k_ ≠ gb405)) (by refine kV_ ?_; exact nfV_ gb405 HO_397001.out (fun _ hk => hk.2) (fun _ hk => ⟨⟨hk.1.1.1, ⟨hk.1.1.2.2, hk.1.2⟩⟩, hk.1.1.2.1⟩)) hg hat); replace HO_397003 := Aside0.mk (Kd.V_afterv (ok := (fun k_ => ((P0_1_ k_ ∨ P0_3_ k_) ∨ w.heap.size ≤ k_) ∧ k_ ≠ gb396 ∧ k_ ≠ gb405)) (by refine kV_ ?_; exact nfV_ gb405 HO_397003.out (fun _ hk => hk.2) (fun _ hk => ⟨⟨hk.1.1.1, ⟨hk.1.1.2.2, hk.1.2⟩⟩, hk.1.1.2.1⟩)) hg hat); replace BK396 := Aside0.mk (blk_grown (g := gb396) (o := .cells #[.int .i64 a0_0, .slice A0_1 l0_1.length c0_1, .slice (some ad404) l0_2.length c0_2, .slice A0_3 l0_3.length c0_3] 38 (0, 0)) (by exact kf_ BK396.out) hg (Kd.R_ne HO_3.out BK396.out (by decide))); replace BK405 := Aside0.mk (blk_grown (g := gb405) (o := .cells #[.int .i64 ((rd_T81 l0_2 x28_2).f0), .slice A404_1 ((rd_T81 l0_2 x28_2).f1).length c404_1] 81 (0, 0)) (by refine kb_ ?_; refine pz2 (cs := #[.int .i64 0, .slice none 0 0]) ?_; refine kb_ ?_; exact BK405.out) hg (Kd.R_ne HO_3.out BK405.out (by decide))); replace HB := Aside0.mk (hb); have HO408 := Aside0.mk (ho); clear HO_3; clear ho hb hg hat))
           go_roundg k2
           case measure => have := HJ1.out; have := HK2.out; omega
           case rel => exact ⟨(y406), (wrap64 (x28_2 + 1)), (by first | rfl | (simp; done) | (simp [*]; done)), H', ⟨by have := HJ1.out; have := HK2.out; omega⟩, ⟨kR_ HO408.out⟩, ⟨by refine kV_ ?_; exact Kd.V_mono HO_397001.out (fun _ hk => ⟨hk.1.1, ⟨hk.2, hk.1.2.1⟩⟩)⟩, ⟨by refine kV_ ?_; exact Kd.V_mono HO_397003.out (fun _ hk => ⟨hk.1.1, ⟨hk.2, hk.1.2.1⟩⟩)⟩, ⟨by refine kb_ ?_; exact BK396.out⟩, ⟨hbA_ HB.out⟩⟩
          ·rw [if_neg c23] at H
           exact absurd H (by simp)
        ·rw [if_neg c18] at H
         exact absurd H (by simp)
       ·rw [if_neg c17] at H
        exact absurd H (by simp)
      ·rw [if_neg c16] at H
       have c16b0 : decide (x28_2 < (l0_2.length : Int)) = false := decide_eq_false c16
       clear c16
       by_cases cB : x3_2.length < 17592186044416
       ·rw [if_pos cB] at H
        have LB := Aside0.mk cB; clear cB
        have hr_ := Aside0.mk (Option.some.inj H); clear H
        obtain ⟨Ao28, co28, eo28⟩ := Kd.R_slice HO_3.out
        subst eo28; have Z29 := zz4 BK396
        clear HO_397001 HO_397003
        have hmm := @run_makeMap Try.prog
        go_wp2
        have MS := Aside0.mk (MSet.made wr Try.prog 3 4)
        have HBL := Aside0.mk (below_size HB.out)
        replace HO_3 := Aside0.mk (Kd.R_alloc HO_3.out (.map #[] 0)); replace BK396 := Aside0.mk (blk_alloc BK396.out (.map #[] 0)); replace HB := Aside0.mk (below_alloc HB.out (.map #[] 0))
        generalize hbm_ : wr.heap.size = bm at MS HBL ⊢
        generalize wr.alloc (.map #[] 0) = wm at HO_3 BK396 HB MS ⊢
        clear hmm Z29 hbm_
        go_loopg [45] (x3_2.length + 1) (fun kq v45 w' => ∃ (x45_3 : Int) (seen : List Int), v45 = .int .i64 x45_3 ∧ Aside0 ((impl_ClientOk.met x3_2 a0_0 l0_1.length x45_3 (x3_2.drop x45_3.toNat) seen && ((x3_2.length : Int) == a0_0)) = r) ∧ Aside0 (0 ≤ x45_3 ∧ x45_3.toNat + kq = x3_2.length + 1 ∧ seen.length ≤ x45_3.toNat) ∧ Aside0 (Kd.R (Kd.int .i64) 3 w' w.heap.size (fun k_ => (w.heap.size ≤ k_)) (.slice Ao28 x3_2.length co28) x3_2) ∧ Aside0 (MSet Try.prog 3 4 w' bm seen) ∧ Aside0 (w'.heap[gb396]? = some (.cells #[.int .i64 a0_0, (.slice A0_1 l0_1.length c0_1), (.slice A0_2 l0_2.length c0_2), (.slice A0_3 l0_3.length c0_3)] 38 (0, 0))) ∧ Aside0 (Below w.heap.size w w'))
        case atStart => exact ⟨0, [], (by first | rfl | (simp; done)), hr_, ⟨Int.le_refl _, by simp, by simp⟩, HO_3, MS, BK396, HB⟩
        case round =>
         clear hr_ HO_3 MS BK396 HB
         obtain ⟨x45_3, seen, rfl, HA, HK3, HO_3, MS, BK396, HB⟩ := hrel
         by_cases c29 : x45_3 < (x3_2.length : Int)
         ·have c29b0 : decide (x45_3 < (x3_2.length : Int)) = true := decide_eq_true c29
          have c30b0 : decide (0 ≤ x45_3) = true := decide_eq_true HK3.out.1
          have HM := HA.out; clear HA
          rw [impl_ClientOk.rd_drop x3_2 x45_3 HK3.out.1 c29] at HM
          unfold impl_ClientOk.met at HM
          have C29 := Aside0.mk c29; clear c29
          obtain ⟨t195, A33⟩ := impl_ClientOk.inn_some (rd x3_2 x45_3) 0 (wrap64 (a0_0 - 1))
          replace HM := Aside0.mk HM; replace A33 := Aside0.mk A33
          have p194 : 0 ≤ (x45_3 : Int) := HK3.out.1
          have q194 : x45_3 < (x3_2.length : Int) := C29.out
          obtain ⟨ad194, e194, hx194_0⟩ := Kd.at_int (Kd.R_reads' HO_3.out).2.2 x45_3 p194 q194
          cases e194
          replace p194 := eq_true p194
          replace q194 := eq_true q194
          go_upto_region 15 with (fail)
          go_cut [80] (fun v80 wc => ∃ (x80_31 : Bool), v80 = .bool x80_31 ∧ Aside0 ((if x80_31 = true then false else (impl_ClientOk.met x3_2 a0_0 l0_1.length (x45_3 + 1) (x3_2.drop (x45_3 + 1).toNat) (rd x3_2 x45_3 :: seen) && ((x3_2.length : Int) == a0_0))) = r) ∧ Aside0 (x80_31 = false → (Lit.int .i64 (rd x3_2 x45_3)).wf = true) ∧ Aside0 (Kd.R (Kd.int .i64) 3 wc w.heap.size (fun k_ => (w.heap.size ≤ k_)) (.slice (some ad194) x3_2.length co28) x3_2) ∧ Aside0 (MSet Try.prog 3 4 wc bm seen) ∧ Aside0 (wc.heap[gb396]? = some (.cells #[.int .i64 a0_0, (.slice A0_1 l0_1.length c0_1), (.slice A0_2 l0_2.length c0_2), (.slice A0_3 l0_3.length c0_3)] 38 (0, 0))) ∧ Aside0 (Below w.heap.size w wc))
          case first =>
           by_cases c34 : t195 = true
           ·subst c34
            have hwf := impl_ClientOk.inn_wf A33.out
            replace HM := HM.out; rw [if_pos A33.out] at HM
            have hz_ : ∀ W : World, (zeroValue 4).run Try.prog W = .ok (.bool false) W := fun W => by kernel_rfl
            cases c35 : seen.contains (rd x3_2 x45_3) with
            | true =>
             rw [if_pos c35, Bool.false_and] at HM
             have hL : ∀ nd, (Instr.lookup 82 (.map (some bm)) (.int .i64 (rd x3_2 x45_3)) false).run Try.prog (wr.drewN nd) = .ok (.bool true) (wr.drewN nd) := fun nd => by have h_ := (MS.out.drewN nd).look Try.underlying3 Try.underlying4 Try.underlying82 (hz_ _) hwf; rw [c35] at h_; exact h_
             clear hz_ hwf; replace HM := Aside0.mk HM; clear c35; have Z36 := zz4 BK396
             go_wp2_with (first | ((with_reducible refine gate_callee (f := 49) rfl ?_); refine goesL_ (some 54) rfl rfl Try.func49 (by kernel_rfl) rfl #[.int .i64 (rd x3_2 x45_3), .int .i64 0, .int .i64 (wrap64 (a0_0 - 1))] rfl ar_ ?_; (with_reducible refine (impl_in.calls (rd x3_2 x45_3) 0 (wrap64 (a0_0 - 1)) true _ A33.out).mono ?_); rintro e w' ⟨rfl, ⟨nd, rfl⟩⟩; refine ⟨_, rfl, ?_⟩))
             go_meet
             case rel => exact ⟨true, (by first | rfl | (simp; done) | (simp [*]; done)), HM, ⟨fun h_ => by cases h_⟩, ⟨kR_ HO_3.out⟩, ⟨MS.out.drewN _⟩, ⟨by refine kb_ ?_; exact BK396.out⟩, ⟨hbA_ HB.out⟩⟩
            | false =>
             rw [if_neg (by rw [c35]; decide)] at HM
             have hL : ∀ nd, (Instr.lookup 82 (.map (some bm)) (.int .i64 (rd x3_2 x45_3)) false).run Try.prog (wr.drewN nd) = .ok (.bool false) (wr.drewN nd) := fun nd => by have h_ := (MS.out.drewN nd).look Try.underlying3 Try.underlying4 Try.underlying82 (hz_ _) hwf; rw [c35] at h_; exact h_
             replace HWF := Aside0.mk hwf; clear hz_ hwf; replace HM := Aside0.mk HM; clear c35
             by_cases c37 : x45_3 > 0
             ·have c37b0 : decide (0 < x45_3) = true := decide_eq_true c37
              by_cases c38 : x45_3 < (l0_1.length : Int)
              ·have c38b0 : decide (x45_3 < (l0_1.length : Int)) = true := decide_eq_true c38
               obtain ⟨ji39, hji39⟩ : ∃ j_ : Int, (wrap64 (x45_3 - 1)) = j_ := ⟨_, rfl⟩
               have hjv : ji39 = x45_3 - 1 := by rw [← hji39]; exact impl_ClientOk.wrap_pred c37 (by have := C29.out; have := LB.out; omega)
               have c40b0 : decide (0 ≤ (ji39)) = true := decide_eq_true (by omega)
               have c41b0 : decide ((ji39) < (x3_2.length : Int)) = true := decide_eq_true (by have := C29.out; omega)
               replace HM := HM.out; rw [hji39] at HM
               have C3 := Aside0.mk (And.intro c37 c38); clear c37 c38 hjv
               have hji39w : (IntKind.i64.wrap (x45_3 - 1)) = ji39 := (i64_w _).trans hji39
               replace HM := Aside0.mk HM
               have Z42 := zz4 BK396
               go_wp2_with (first | ((with_reducible refine gate_callee (f := 49) rfl ?_); refine goesL_ (some 54) rfl rfl Try.func49 (by kernel_rfl) rfl #[.int .i64 (rd x3_2 x45_3), .int .i64 0, .int .i64 (wrap64 (a0_0 - 1))] rfl ar_ ?_; (with_reducible refine (impl_in.calls (rd x3_2 x45_3) 0 (wrap64 (a0_0 - 1)) true _ A33.out).mono ?_); rintro e w' ⟨rfl, ⟨nd, rfl⟩⟩; refine ⟨_, rfl, ?_⟩; have p196 : 0 ≤ ((ji39) : Int) := of_decide_eq_true (by first | (with_reducible assumption) | assumption); have q196 : (ji39) < (x3_2.length : Int) := of_decide_eq_true (by first | (with_reducible assumption) | assumption); obtain ⟨ad196, e196, hx196_0⟩ := Kd.at_int (Kd.R_reads' HO_3.out).2.2 (ji39) p196 q196; obtain rfl : ad194 = ad196 := (by injection e196); replace p196 := eq_true p196; replace q196 := eq_true q196))
               first | go_meet | ((try simp only [← hji39]); go_meet)
               case rel => exact ⟨(decide ((rd x3_2 (ji39)) ≥ (rd x3_2 x45_3))), (by first | rfl | (simp; done) | (simp only [← hji39] <;> (first | rfl | simp)) | (simp [*]; done)), ⟨by have h_ := HM.out; by_cases hc_ : rd x3_2 ji39 ≥ rd x3_2 x45_3; (· rw [if_pos ⟨C3.out.1, C3.out.2, hc_⟩, Bool.false_and] at h_; rw [if_pos (decide_eq_true hc_)]; exact h_); (· rw [if_neg (fun h => hc_ h.2.2)] at h_; rw [if_neg (by rw [decide_eq_false hc_]; decide)]; exact h_)⟩, ⟨fun _ => HWF.out⟩, ⟨kR_ HO_3.out⟩, ⟨MS.out.drewN _⟩, ⟨by refine kb_ ?_; exact BK396.out⟩, ⟨hbA_ HB.out⟩⟩
              ·have c38b0 : decide (x45_3 < (l0_1.length : Int)) = false := decide_eq_false c38
               replace HM := HM.out; rw [if_neg (fun h => c38 h.2.1)] at HM; clear c38 c37
               replace HM := Aside0.mk HM; have Z43 := zz4 BK396
               go_wp2_with (first | ((with_reducible refine gate_callee (f := 49) rfl ?_); refine goesL_ (some 54) rfl rfl Try.func49 (by kernel_rfl) rfl #[.int .i64 (rd x3_2 x45_3), .int .i64 0, .int .i64 (wrap64 (a0_0 - 1))] rfl ar_ ?_; (with_reducible refine (impl_in.calls (rd x3_2 x45_3) 0 (wrap64 (a0_0 - 1)) true _ A33.out).mono ?_); rintro e w' ⟨rfl, ⟨nd, rfl⟩⟩; refine ⟨_, rfl, ?_⟩))
               go_meet
               case rel => exact ⟨false, (by first | rfl | (simp; done) | (simp [*]; done)), HM, ⟨fun _ => HWF.out⟩, ⟨kR_ HO_3.out⟩, ⟨MS.out.drewN _⟩, ⟨by refine kb_ ?_; exact BK396.out⟩, ⟨hbA_ HB.out⟩⟩
             ·have c37b0 : decide (0 < x45_3) = false := decide_eq_false c37
              replace HM := HM.out; rw [if_neg (fun h => c37 h.1)] at HM; clear c37
              replace HM := Aside0.mk HM; have Z44 := zz4 BK396
              go_wp2_with (first | ((with_reducible refine gate_callee (f := 49) rfl ?_); refine goesL_ (some 54) rfl rfl Try.func49 (by kernel_rfl) rfl #[.int .i64 (rd x3_2 x45_3), .int .i64 0, .int .i64 (wrap64 (a0_0 - 1))] rfl ar_ ?_; (with_reducible refine (impl_in.calls (rd x3_2 x45_3) 0 (wrap64 (a0_0 - 1)) true _ A33.out).mono ?_); rintro e w' ⟨rfl, ⟨nd, rfl⟩⟩; refine ⟨_, rfl, ?_⟩))
              go_meet
              case rel => exact ⟨false, (by first | rfl | (simp; done) | (simp [*]; done)), HM, ⟨fun _ => HWF.out⟩, ⟨kR_ HO_3.out⟩, ⟨MS.out.drewN _⟩, ⟨by refine kb_ ?_; exact BK396.out⟩, ⟨hbA_ HB.out⟩⟩
           ·replace c34 := Bool.eq_false_iff.mpr c34
            subst c34
            replace HM := HM.out; rw [if_neg (by rw [A33.out]; decide), Bool.false_and] at HM
            replace HM := Aside0.mk HM; have Z45 := zz4 BK396
            go_wp2_with (first | ((with_reducible refine gate_callee (f := 49) rfl ?_); refine goesL_ (some 54) rfl rfl Try.func49 (by kernel_rfl) rfl #[.int .i64 (rd x3_2 x45_3), .int .i64 0, .int .i64 (wrap64 (a0_0 - 1))] rfl ar_ ?_; (with_reducible refine (impl_in.calls (rd x3_2 x45_3) 0 (wrap64 (a0_0 - 1)) false _ A33.out).mono ?_); rintro e w' ⟨rfl, ⟨nd, rfl⟩⟩; refine ⟨_, rfl, ?_⟩))
            go_meet
            case rel => exact ⟨true, (by first | rfl | (simp; done) | (simp [*]; done)), HM, ⟨fun h_ => by cases h_⟩, ⟨kR_ HO_3.out⟩, ⟨MS.out.drewN _⟩, ⟨by refine kb_ ?_; exact BK396.out⟩, ⟨hbA_ HB.out⟩⟩
          case rest =>
           clear HM A33 HO_3 MS BK396 HB hx194_0
           obtain ⟨x80_31, rfl, HA, HWF, HO_3, MS, BK396, HB⟩ := hcut
           cases x80_31 with
           | true =>
            have H := HA.out; clear HA
            rw [if_pos rfl] at H
            subst H
            go_wp2
            go_ret
            exact ⟨by first | rfl | (simp [*]; done), hbA_ HB.out⟩
           | false =>
            have H := HA.out; clear HA
            rw [if_neg (by decide)] at H
            have H := Aside0.mk H
            have hn_ : seen.length < maxLen := by have := HK3.out; have := C29.out; have := LB.out; unfold maxLen; omega
            have HN := Aside0.mk hn_; clear hn_
            have hwf_ := HWF.out rfl
            replace HWF := Aside0.mk hwf_; clear hwf_
            go_wp2_with (first | (at_mapUpdate; refine wpList_mapUpdate_set _ rfl (.tmp 81) (.tmp 82) 82 3 4 rfl Try.underlying3 Try.underlying4 Try.underlying82 bm seen rfl MS.out HN.out (rd x3_2 x45_3) rfl HWF.out ?_; intro wn MS2 hgrow; replace HO_3 := Aside0.mk (Kd.R_grown2 HO_3.out rfl hgrow (fun k_ hk_ => by have h_ := MS.out.ne_row HO_3.out; rw [hk_] at h_; exact h_)); replace BK396 := Aside0.mk (blk_grown BK396.out hgrow (MS.out.ne_blk BK396.out)); replace HB := Aside0.mk (pw_below_grown HB.out _ (below_size HB.out) hgrow (fun k_ hk_ => by injection hk_ with hk_; rw [← hk_]; exact HBL.out)); replace MS := Aside0.mk MS2; clear MS2 hgrow))
            go_roundg (gk - 1)
            case measure => have := HK3.out; have := C29.out; omega
            case rel =>
             have hw_ : wrap64 (x45_3 + 1) = x45_3 + 1 := impl_ClientOk.wrap_succ HK3.out.1 (by have := C29.out; have := LB.out; omega)
             exact ⟨(wrap64 (x45_3 + 1)), _, (by first | rfl | (simp; done) | (simp [*]; done)), by rw [hw_]; exact H, ⟨by have := HK3.out; have := C29.out; rw [hw_]; clear hw_; refine ⟨?_, ?_, ?_⟩ <;> (try simp only [List.length_cons]) <;> omega⟩, HO_3, MS, BK396, HB⟩
         ·have c29b0 : decide (x45_3 < (x3_2.length : Int)) = false := decide_eq_false c29
          have HM := HA.out; clear HA
          rw [List.drop_eq_nil_of_le (by have := HK3.out.1; omega)] at HM
          unfold impl_ClientOk.met at HM
          rw [Bool.true_and] at HM
          clear c29
          subst HM
          have Z47 := zz4 BK396
          go_wp2
          go_ret
          exact ⟨by first | rfl | (simp [errW_none, errW_some] <;> rfl) | (simp [*, errW_none, errW_some] <;> rfl), hbA_ HB.out⟩
       ·rw [if_neg cB] at H
        exact absurd H (by simp)
set_option maxHeartbeats 8000000 in
theorem impl_ClientOk.calls (k : Nat) (a0_0 : Int) (A0_1 : Option Addr) (c0_1 : Nat) (l0_1 : List Int) (A0_2 : Option Addr) (c0_2 : Nat) (l0_2 : List (S81)) (A0_3 : Option Addr) (c0_3 : Nat) (l0_3 : List Int) (r : Bool) (w : World) (hr0_1 : Kd.C (Kd.int .i64) w A0_1 l0_1.length l0_1) (hc0_1 : l0_1.length ≤ c0_1) (hr0_2 : Kd.C k81 w A0_2 l0_2.length l0_2) (hc0_2 : l0_2.length ≤ c0_2) (hr0_3 : Kd.C (Kd.int .i64) w A0_3 l0_3.length l0_3) (hc0_3 : l0_3.length ≤ c0_3) (h : impl_ClientOk.f k a0_0 l0_1 l0_2 l0_3 = some r) :
    Calls Try.prog 16 #[.agg #[.int .i64 a0_0, .slice A0_1 l0_1.length c0_1, .slice A0_2 l0_2.length c0_2, .slice A0_3 l0_3.length c0_3]] w fun e w' => e = .returned (.bool r) ∧ Below w.heap.size w w' := by
  refine (impl_ClientOk.callsV k a0_0 (fun _ => True) A0_1 c0_1 l0_1 A0_2 c0_2 l0_2 (fun _ => True) A0_3 c0_3 l0_3 r w (Kd.V_mk hc0_1 (fun W_ hW_ => Kd.Heap.C (Kd.heap_int .i64) (fun k_ hlt_ => hW_ k_ trivial hlt_) hr0_1)) hr0_2 hc0_2 (Kd.V_mk hc0_3 (fun W_ hW_ => Kd.Heap.C (Kd.heap_int .i64) (fun k_ hlt_ => hW_ k_ trivial hlt_) hr0_3)) h).mono ?_
  rintro e w' ⟨rfl, hb⟩
  exact ⟨rfl, hb⟩
def laws_FnClientOk.f (k : Nat) (l0 : List Int) : Option (Bool) := if (l0.length : Int) > 1048576 then (some true) else ((spec_DrawClientOk.f k l0).bind fun bt409 => ((impl_ClientOk.f k bt409.1 bt409.2.1 bt409.2.2.1 bt409.2.2.2).bind fun t420 => ((spec_ClientOk.f k bt409.1 bt409.2.1 bt409.2.2.1 bt409.2.2.2).bind fun t421 => (if (t420 != t421) = true then (some false) else (if t420 = true then ((impl_ClientOk.f k (wrap64 (bt409.1 + 1)) bt409.2.1 bt409.2.2.1 bt409.2.2.2).bind fun t423 => (if t423 = true then (some false) else ((impl_ClientOk.f k 0 ([] : List Int) ([] : List (S81)) ([] : List Int)).bind fun t424 => (if t424 = true then ((laws_alive.f k).bind fun t425 => (some t425)) else (some false))))) else ((impl_ClientOk.f k 0 ([] : List Int) ([] : List (S81)) ([] : List Int)).bind fun t426 => (if t426 = true then ((laws_alive.f k).bind fun t427 => (some t427)) else (some false))))))))
theorem laws_FnClientOk.mono : ∀ a0 k, LeO (laws_FnClientOk.f k a0) (laws_FnClientOk.f (k + 1) a0) := by
 intro a0 k
 unfold laws_FnClientOk.f
 repeat' first | (with_reducible first | apply impl_ClientOk.mono | apply laws_alive.mono | apply spec_ClientOk.mono | apply spec_DrawClientOk.mono | exact LeO.refl _ | exact LeO.none _ | refine LeO.ite ?_ ?_ | refine LeO.bind ?_ fun _ => ?_) | apply impl_ClientOk.mono | apply laws_alive.mono | apply spec_ClientOk.mono | apply spec_DrawClientOk.mono | exact LeO.none _ | refine LeO.ite ?_ ?_ | refine LeO.bind ?_ fun _ => ?_
set_option maxHeartbeats 8000000 in
set_option maxRecDepth 100000 in
theorem laws_FnClientOk.calls (k : Nat) (A0 : Option Addr) (c0 : Nat) (l0 : List Int) (r : Bool) (w : World) (hr0 : Kd.C (Kd.int .u8) w A0 l0.length l0) (hc0 : l0.length ≤ c0) (h : laws_FnClientOk.f k l0 = some r) (hlw : r = true) :
  Calls Try.prog 4 #[.slice A0 l0.length c0] w fun e w' => e = .returned (.bool r) ∧ Below w.heap.size w w' := by
 have hu38 := Try.underlying38; have HLW := Aside0.mk hlw; clear hlw; have HR0 := Aside0.mk hr0; have HC0 := Aside0.mk hc0; clear hr0 hc0
 have HB := Aside0.mk (Below.refl w.heap.size w)
 have H : (if (l0.length : Int) > 1048576 then (some true) else ((spec_DrawClientOk.f k l0).bind fun bt409 => ((impl_ClientOk.f k bt409.1 bt409.2.1 bt409.2.2.1 bt409.2.2.2).bind fun t420 => ((spec_ClientOk.f k bt409.1 bt409.2.1 bt409.2.2.1 bt409.2.2.2).bind fun t421 => (if (t420 != t421) = true then (some false) else (if t420 = true then ((impl_ClientOk.f k (wrap64 (bt409.1 + 1)) bt409.2.1 bt409.2.2.1 bt409.2.2.2).bind fun t423 => (if t423 = true then (some false) else ((impl_ClientOk.f k 0 ([] : List Int) ([] : List (S81)) ([] : List Int)).bind fun t424 => (if t424 = true then ((laws_alive.f k).bind fun t425 => (some t425)) else (some false))))) else ((impl_ClientOk.f k 0 ([] : List Int) ([] : List (S81)) ([] : List Int)).bind fun t426 => (if t426 = true then ((laws_alive.f k).bind fun t427 => (some t427)) else (some false))))))))) = some r := h
 clear h
 by_cases c2 : (l0.length : Int) > 1048576
 ·rw [if_pos c2] at H
  have c2b0 : decide (1048576 < (l0.length : Int)) = true := decide_eq_true c2
  have c2b1 : decide (1048576 < l0.length) = true := decide_eq_true (by omega)
  clear c2
  obtain rfl := Option.some.inj H
  go_enter Try.func4, Try.ntmps4
  go_wp2
  go_ret
  exact ⟨by first | rfl | (simp [errW_none, errW_some] <;> rfl) | (simp [*, errW_none, errW_some] <;> rfl), hbA_ HB.out⟩
 ·rw [if_neg c2] at H
  have c2b0 : decide (1048576 < (l0.length : Int)) = false := decide_eq_false c2
  have c2b1 : decide (1048576 < l0.length) = false := decide_eq_false (by omega)
  clear c2
  replace H := Option.bind_eq_some_iff.mp H
  obtain ⟨⟨t409, t410, t413, t416⟩, A30, H⟩ := H
  (try dsimp only at H)
  have A3 := Aside0.mk A30; clear A30
  replace H := Option.bind_eq_some_iff.mp H
  obtain ⟨t420, A40, H⟩ := H
  (try dsimp only at H)
  have A4 := Aside0.mk A40; clear A40
  replace H := Option.bind_eq_some_iff.mp H
  obtain ⟨t421, A50, H⟩ := H
  (try dsimp only at H)
  have A5 := Aside0.mk A50; clear A50
  by_cases c6 : (t420 != t421) = true
  ·rw [if_pos c6] at H
   have c6b0 : (t420 != t421) = true := c6
   (try (have c6b1 : decide (t420 = t421) = false := by simpa using c6))
   (try (have c6b2 : (t420 == t421) = false := by simpa using c6))
   (try (have c6b3 : ¬ (t420 = t421) := by simpa using c6))
   clear c6
   exact absurd (Option.some.inj H) (by rw [HLW.out]; exact Bool.false_ne_true)
  ·rw [if_neg c6] at H
   have c6b0 : (t420 != t421) = false := by simpa using c6
   (try (have c6b1 : decide (t420 = t421) = true := by simpa using c6))
   (try (have c6b2 : (t420 == t421) = true := by simpa using c6))
   clear c6
   by_cases c7 : t420 = true
   ·subst c7
    rw [if_pos rfl] at H
    replace H := Option.bind_eq_some_iff.mp H
    obtain ⟨t423, A80, H⟩ := H
    (try dsimp only at H)
    have A8 := Aside0.mk A80; clear A80
    by_cases c9 : t423 = true
    ·subst c9
     rw [if_pos rfl] at H
     exact absurd (Option.some.inj H) (by rw [HLW.out]; exact Bool.false_ne_true)
    ·replace c9 := Bool.eq_false_iff.mpr c9
     subst c9
     rw [if_neg (show ¬ (false = true) by decide)] at H
     replace H := Option.bind_eq_some_iff.mp H
     obtain ⟨t424, A100, H⟩ := H
     (try dsimp only at H)
     have A10 := Aside0.mk A100; clear A100
     by_cases c11 : t424 = true
     ·subst c11
      rw [if_pos rfl] at H
      replace H := Option.bind_eq_some_iff.mp H
      obtain ⟨t425, A120, H⟩ := H
      (try dsimp only at H)
      have A12 := Aside0.mk A120; clear A120
      obtain rfl := Option.some.inj H
      go_enter Try.func4, Try.ntmps4
      go_wp2_with (first | ((with_reducible refine gate_callee (f := 15) rfl ?_); refine goesL_ (some 10) rfl rfl Try.func15 (by kernel_rfl) rfl #[.slice A0 l0.length c0] rfl ar_ ?_; (with_reducible refine (spec_DrawClientOk.calls k _ _ l0 t409 t410 t413 t416 _ ?side1 ?side2 A3.out).mono ?_); (case side1 => exact kC_ HR0.out); (case side2 => exact HC0.out); rintro e w13 ⟨v411, v414, v417, rfl, ho0, ho1, ho2, hb⟩; refine ⟨_, rfl, ?_⟩; have HO412 := Aside0.mk (Kd.R_lower ho0 (below_size (hbA_ HB.out))); have HO415 := Aside0.mk (Kd.S_lower ho1 (below_size (hbA_ HB.out))); have HO418 := Aside0.mk (Kd.R_lower ho2 (below_size (hbA_ HB.out))); replace HB := (bs_ HB hb); (try clear hb); (try clear hb2); (try clear hk); (try clear hi); (try clear ho0); (try clear ho1); (try clear ho2)) | ((with_reducible refine gate_dst (N := 3) rfl ?_); refine box_ (N := 3) (cs := #[.int .i64 0, .slice none 0 0, .slice none 0 0, .slice none 0 0]) (t := 38) (fun gb419 hg w14 hbox hb => ?_); replace HO412 := Aside0.mk (Kd.R_below (kR_ HO412.out) hb); replace HO415 := Aside0.mk (Kd.S_below (kS_ HO415.out) hb); replace HO418 := Aside0.mk (Kd.R_below (kR_ HO418.out) hb); have BK419 := Aside0.mk (hbox); have GW419 := ge_ hg HB; have GE419 := ge_ hg HB; replace HB := (bs_ HB hb); clear hb hbox hg; have Z15 := zz4 BK419; obtain ⟨Ao16, co16, eo16⟩ := Kd.R_slice HO412.out; subst eo16; obtain ⟨Ao17, co17, eo17⟩ := Kd.S_slice HO415.out; subst eo17; obtain ⟨Ao18, co18, eo18⟩ := Kd.R_slice HO418.out; subst eo18) | ((with_reducible refine gate_callee (f := 16) rfl ?_); refine goesL_ (some 12) rfl rfl Try.func16 (by kernel_rfl) rfl #[.agg #[.int .i64 t409, .slice Ao16 t410.length co16, .slice Ao17 t413.length co17, .slice Ao18 t416.length co18]] rfl ar_ ?_; (with_reducible refine (impl_ClientOk.calls k t409 _ _ t410 _ _ t413 _ _ t416 true _ ?side1 ?side2 ?side3 ?side4 ?side5 ?side6 A4.out).mono ?_); (case side1 => refine (Kd.R_reads' (e := 3) (base := w.heap.size) (ok := fun k_ => some k_ ≠ (.slice Ao18 t416.length co18 : Value).ownBlock) (n := t410.length) (c := co16) ?_).2.2; exact (by refine kR_ ?_; exact (rfm_ ((Kd.R_types HO412.out BK419.out (by decide))) (fun _ h_ => op1_ h_)))); (case side2 => exact (Kd.R_reads' HO412.out).2.1); (case side3 => refine (Kd.S_reads' (e := 81) (base := w.heap.size) (ok := fun k_ => True) (n := t413.length) (c := co17) ?_).2.2; exact (by refine kS_ ?_; exact (Kd.S_mono (Kd.S_far (p := ⟨gb419, 3, none⟩) (Kd.S_far (p := ⟨gb419, 2, none⟩) (Kd.S_far (p := ⟨gb419, 1, none⟩) (Kd.S_far (p := ⟨gb419, 0, none⟩) (Kd.S_types HO415.out BK419.out (by decide)) (fun _ hk => hk.2) (.int .i64 t409)) (fun _ hk => hk.2) (.slice Ao16 t410.length co16)) (fun _ hk => hk.2) (.slice Ao17 t413.length co17)) (fun _ hk => hk.2) (.slice Ao18 t416.length co18)) (fun _ h_ => op1_ h_)))); (case side4 => exact (Kd.S_reads' HO415.out).2.1); (case side5 => refine (Kd.R_reads' (e := 3) (base := w.heap.size) (ok := fun k_ => some k_ ≠ (.slice Ao16 t410.length co16 : Value).ownBlock) (n := t416.length) (c := co18) ?_).2.2; exact (by refine kR_ ?_; exact (rfm_ ((Kd.R_types HO418.out BK419.out (by decide))) (fun _ h_ => op1_ h_)))); (case side6 => exact (Kd.R_reads' HO418.out).2.1); rintro e w19 ⟨rfl, hb⟩; refine ⟨_, rfl, ?_⟩; replace HO412 := Aside0.mk (Kd.R_below (by refine kR_ ?_; exact (rfm_ ((Kd.R_types HO412.out BK419.out (by decide))) (fun _ h_ => op1_ h_))) hb); replace HO415 := Aside0.mk (Kd.S_below (by refine kS_ ?_; exact (Kd.S_mono (Kd.S_far (p := ⟨gb419, 3, none⟩) (Kd.S_far (p := ⟨gb419, 2, none⟩) (Kd.S_far (p := ⟨gb419, 1, none⟩) (Kd.S_far (p := ⟨gb419, 0, none⟩) (Kd.S_types HO415.out BK419.out (by decide)) (fun _ hk => hk.2) (.int .i64 t409)) (fun _ hk => hk.2) (.slice Ao16 t410.length co16)) (fun _ hk => hk.2) (.slice Ao17 t413.length co17)) (fun _ hk => hk.2) (.slice Ao18 t416.length co18)) (fun _ h_ => op1_ h_))) hb); replace HO418 := Aside0.mk (Kd.R_below (by refine kR_ ?_; exact (rfm_ ((Kd.R_types HO418.out BK419.out (by decide))) (fun _ h_ => op1_ h_))) hb); replace BK419 := Aside0.mk (blk_below (g := gb419) (o := .cells #[.int .i64 t409, .slice Ao16 t410.length co16, .slice Ao17 t413.length co17, .slice Ao18 t416.length co18] 38 (0, 0)) (by refine kb_ ?_; refine pz4 (cs := #[.int .i64 0, .slice none 0 0, .slice none 0 0, .slice none 0 0]) ?_; refine kb_ ?_; exact BK419.out) hb); replace HB := (bs_ HB hb); (try clear hb); (try clear hb2); (try clear hk); (try clear hi); have Z20 := zz4 BK419) | ((with_reducible refine gate_callee (f := 17) rfl ?_); refine goesL_ (some 15) rfl rfl Try.func17 (by kernel_rfl) rfl #[.agg #[.int .i64 t409, .slice Ao16 t410.length co16, .slice Ao17 t413.length co17, .slice Ao18 t416.length co18]] rfl ar_ ?_; (with_reducible refine (spec_ClientOk.calls k t409 _ _ t410 _ _ t413 _ _ t416 t421 _ ?side1 ?side2 ?side3 ?side4 ?side5 ?side6 A5.out).mono ?_); (case side1 => exact kC_ (Kd.R_reads' HO412.out).2.2); (case side2 => exact (Kd.R_reads' HO412.out).2.1); (case side3 => exact kC_ (Kd.S_reads' HO415.out).2.2); (case side4 => exact (Kd.S_reads' HO415.out).2.1); (case side5 => exact kC_ (Kd.R_reads' HO418.out).2.2); (case side6 => exact (Kd.R_reads' HO418.out).2.1); rintro e w21 ⟨rfl, hb⟩; refine ⟨_, rfl, ?_⟩; replace HO412 := Aside0.mk (Kd.R_below (kR_ HO412.out) hb); replace HO415 := Aside0.mk (Kd.S_below (kS_ HO415.out) hb); replace HO418 := Aside0.mk (Kd.R_below (kR_ HO418.out) hb); replace BK419 := (bbA_ BK419 hb); replace HB := (bs_ HB hb); (try clear hb); (try clear hb2); (try clear hk); (try clear hi); have Z22 := zz4 BK419) | ((with_reducible refine gate_dst (N := 5) rfl ?_); refine box_ (N := 5) (cs := #[.int .i64 0, .slice none 0 0, .slice none 0 0, .slice none 0 0]) (t := 38) (fun gb422 hg w23 hbox hb => ?_); replace HO412 := Aside0.mk (Kd.R_below (kR_ HO412.out) hb); replace HO415 := Aside0.mk (Kd.S_below (kS_ HO415.out) hb); replace HO418 := Aside0.mk (Kd.R_below (kR_ HO418.out) hb); have BK422 := Aside0.mk (hbox); have GW422 := ge_ hg HB; have GE422 := ge_ hg HB; replace HB := (bs_ HB hb); have NB419_422 := nl_ hg BK419; have NB422_419 := ng_ hg BK419; replace BK419 := (bbA_ BK419 hb); clear hb hbox hg; have hnb24 := NB422_419.out; have hnc24 := NB419_422.out; have Z25 := zz4 BK422; have Z26 := zz4 BK419) | (go_at_call 16; (with_reducible refine (impl_ClientOk.calls k (wrap64 (t409 + 1)) _ _ t410 _ _ t413 _ _ t416 false _ ?side1 ?side2 ?side3 ?side4 ?side5 ?side6 A8.out).mono ?_); (case side1 => refine (Kd.R_reads' (e := 3) (base := w.heap.size) (ok := fun k_ => some k_ ≠ (.slice Ao18 t416.length co18 : Value).ownBlock) (n := t410.length) (c := co16) ?_).2.2; exact (by refine kR_ ?_; exact (rfm_ ((Kd.R_types HO412.out BK422.out (by decide))) (fun _ h_ => op1_ h_)))); (case side2 => exact (Kd.R_reads' HO412.out).2.1); (case side3 => refine (Kd.S_reads' (e := 81) (base := w.heap.size) (ok := fun k_ => True) (n := t413.length) (c := co17) ?_).2.2; exact (by refine kS_ ?_; exact (Kd.S_mono (Kd.S_far (p := ⟨gb422, 0, none⟩) (Kd.S_far (p := ⟨gb422, 3, none⟩) (Kd.S_far (p := ⟨gb422, 2, none⟩) (Kd.S_far (p := ⟨gb422, 1, none⟩) (Kd.S_far (p := ⟨gb422, 0, none⟩) (Kd.S_types HO415.out BK422.out (by decide)) (fun _ hk => hk.2) (.int .i64 t409)) (fun _ hk => hk.2) (.slice Ao16 t410.length co16)) (fun _ hk => hk.2) (.slice Ao17 t413.length co17)) (fun _ hk => hk.2) (.slice Ao18 t416.length co18)) (fun _ hk => hk.2) (.int .i64 (wrap64 (t409 + 1)))) (fun _ h_ => op1_ h_)))); (case side4 => exact (Kd.S_reads' HO415.out).2.1); (case side5 => refine (Kd.R_reads' (e := 3) (base := w.heap.size) (ok := fun k_ => some k_ ≠ (.slice Ao16 t410.length co16 : Value).ownBlock) (n := t416.length) (c := co18) ?_).2.2; exact (by refine kR_ ?_; exact (rfm_ ((Kd.R_types HO418.out BK422.out (by decide))) (fun _ h_ => op1_ h_)))); (case side6 => exact (Kd.R_reads' HO418.out).2.1); rintro e w27 ⟨rfl, hb⟩; replace HO412 := Aside0.mk (Kd.R_below (by refine kR_ ?_; exact (rfm_ ((Kd.R_types HO412.out BK422.out (by decide))) (fun _ h_ => op1_ h_))) hb); replace HO415 := Aside0.mk (Kd.S_below (by refine kS_ ?_; exact (Kd.S_mono (Kd.S_far (p := ⟨gb422, 0, none⟩) (Kd.S_far (p := ⟨gb422, 3, none⟩) (Kd.S_far (p := ⟨gb422, 2, none⟩) (Kd.S_far (p := ⟨gb422, 1, none⟩) (Kd.S_far (p := ⟨gb422, 0, none⟩) (Kd.S_types HO415.out BK422.out (by decide)) (fun _ hk => hk.2) (.int .i64 t409)) (fun _ hk => hk.2) (.slice Ao16 t410.length co16)) (fun _ hk => hk.2) (.slice Ao17 t413.length co17)) (fun _ hk => hk.2) (.slice Ao18 t416.length co18)) (fun _ hk => hk.2) (.int .i64 (wrap64 (t409 + 1)))) (fun _ h_ => op1_ h_))) hb); replace HO418 := Aside0.mk (Kd.R_below (by refine kR_ ?_; exact (rfm_ ((Kd.R_types HO418.out BK422.out (by decide))) (fun _ h_ => op1_ h_))) hb); replace BK419 := Aside0.mk (blk_below (g := gb419) (o := .cells #[.int .i64 t409, .slice Ao16 t410.length co16, .slice Ao17 t413.length co17, .slice Ao18 t416.length co18] 38 (0, 0)) (by exact kf_ BK419.out) hb); replace BK422 := Aside0.mk (blk_below (g := gb422) (o := .cells #[.int .i64 (wrap64 (t409 + 1)), .slice Ao16 t410.length co16, .slice Ao17 t413.length co17, .slice Ao18 t416.length co18] 38 (0, 0)) (by refine kb_ ?_; refine blk_put (cs := #[.int .i64 t409, .slice Ao16 t410.length co16, .slice Ao17 t413.length co17, .slice Ao18 t416.length co18]) ?_ 0 _ rfl; refine kb_ ?_; refine pz4 (cs := #[.int .i64 0, .slice none 0 0, .slice none 0 0, .slice none 0 0]) ?_; refine kb_ ?_; exact BK422.out) hb); replace HB := (bs_ HB hb); (try clear hb); (try clear hb2); (try clear hk); (try clear hi)) | (go_at_call 16; (refine (impl_ClientOk.calls k 0 _ _ ([] : List Int) _ _ ([] : List (S81)) _ _ ([] : List Int) true _ ?side1 ?side2 ?side3 ?side4 ?side5 ?side6 A10.out).mono ?_); (case side1 => exact Kd.C_nil _ _); (case side2 => first | exact Nat.le_refl _ | exact ⟨rfl, rfl⟩); (case side3 => exact Kd.C_nil _ _); (case side4 => first | exact Nat.le_refl _ | exact ⟨rfl, rfl⟩); (case side5 => exact Kd.C_nil _ _); (case side6 => first | exact Nat.le_refl _ | exact ⟨rfl, rfl⟩); rintro e w28 ⟨rfl, hb⟩; replace HO412 := Aside0.mk (Kd.R_below (kR_ HO412.out) hb); replace HO415 := Aside0.mk (Kd.S_below (kS_ HO415.out) hb); replace HO418 := Aside0.mk (Kd.R_below (kR_ HO418.out) hb); replace BK419 := (bbA_ BK419 hb); replace BK422 := (bbA_ BK422 hb); replace HB := (bs_ HB hb); (try clear hb); (try clear hb2); (try clear hk); (try clear hi)) | (go_at_call 13; (with_reducible refine (laws_alive.calls k  t425 _ A12.out).mono ?_); rintro e w29 ⟨rfl, hb⟩; replace HO412 := Aside0.mk (Kd.R_below (kR_ HO412.out) hb); replace HO415 := Aside0.mk (Kd.S_below (kS_ HO415.out) hb); replace HO418 := Aside0.mk (Kd.R_below (kR_ HO418.out) hb); replace BK419 := (bbA_ BK419 hb); replace BK422 := (bbA_ BK422 hb); replace HB := (bs_ HB hb); (try clear hb); (try clear hb2); (try clear hk); (try clear hi)))
      go_ret
      exact ⟨by first | rfl | (simp [errW_none, errW_some] <;> rfl) | (simp [*, errW_none, errW_some] <;> rfl), hbA_ HB.out⟩
     ·replace c11 := Bool.eq_false_iff.mpr c11
      subst c11
      rw [if_neg (show ¬ (false = true) by decide)] at H
      exact absurd (Option.some.inj H) (by rw [HLW.out]; exact Bool.false_ne_true)
   ·replace c7 := Bool.eq_false_iff.mpr c7
    subst c7
    rw [if_neg (show ¬ (false = true) by decide)] at H
    replace H := Option.bind_eq_some_iff.mp H
    obtain ⟨t426, A300, H⟩ := H
    (try dsimp only at H)
    have A30 := Aside0.mk A300; clear A300
    by_cases c31 : t426 = true
    ·subst c31
     rw [if_pos rfl] at H
     replace H := Option.bind_eq_some_iff.mp H
     obtain ⟨t427, A320, H⟩ := H
     (try dsimp only at H)
     have A32 := Aside0.mk A320; clear A320
     obtain rfl := Option.some.inj H
     go_enter Try.func4, Try.ntmps4
     go_wp2_with (first | ((with_reducible refine gate_callee (f := 15) rfl ?_); refine goesL_ (some 10) rfl rfl Try.func15 (by kernel_rfl) rfl #[.slice A0 l0.length c0] rfl ar_ ?_; (with_reducible refine (spec_DrawClientOk.calls k _ _ l0 t409 t410 t413 t416 _ ?side1 ?side2 A3.out).mono ?_); (case side1 => exact kC_ HR0.out); (case side2 => exact HC0.out); rintro e w33 ⟨v411, v414, v417, rfl, ho0, ho1, ho2, hb⟩; refine ⟨_, rfl, ?_⟩; have HO412 := Aside0.mk (Kd.R_lower ho0 (below_size (hbA_ HB.out))); have HO415 := Aside0.mk (Kd.S_lower ho1 (below_size (hbA_ HB.out))); have HO418 := Aside0.mk (Kd.R_lower ho2 (below_size (hbA_ HB.out))); replace HB := (bs_ HB hb); (try clear hb); (try clear hb2); (try clear hk); (try clear hi); (try clear ho0); (try clear ho1); (try clear ho2)) | ((with_reducible refine gate_dst (N := 3) rfl ?_); refine box_ (N := 3) (cs := #[.int .i64 0, .slice none 0 0, .slice none 0 0, .slice none 0 0]) (t := 38) (fun gb419 hg w34 hbox hb => ?_); replace HO412 := Aside0.mk (Kd.R_below (kR_ HO412.out) hb); replace HO415 := Aside0.mk (Kd.S_below (kS_ HO415.out) hb); replace HO418 := Aside0.mk (Kd.R_below (kR_ HO418.out) hb); have BK419 := Aside0.mk (hbox); have GW419 := ge_ hg HB; have GE419 := ge_ hg HB; replace HB := (bs_ HB hb); clear hb hbox hg; have Z35 := zz4 BK419; obtain ⟨Ao36, co36, eo36⟩ := Kd.R_slice HO412.out; subst eo36; obtain ⟨Ao37, co37, eo37⟩ := Kd.S_slice HO415.out; subst eo37; obtain ⟨Ao38, co38, eo38⟩ := Kd.R_slice HO418.out; subst eo38) | ((with_reducible refine gate_callee (f := 16) rfl ?_); refine goesL_ (some 12) rfl rfl Try.func16 (by kernel_rfl) rfl #[.agg #[.int .i64 t409, .slice Ao36 t410.length co36, .slice Ao37 t413.length co37, .slice Ao38 t416.length co38]] rfl ar_ ?_; (with_reducible refine (impl_ClientOk.calls k t409 _ _ t410 _ _ t413 _ _ t416 false _ ?side1 ?side2 ?side3 ?side4 ?side5 ?side6 A4.out).mono ?_); (case side1 => refine (Kd.R_reads' (e := 3) (base := w.heap.size) (ok := fun k_ => some k_ ≠ (.slice Ao38 t416.length co38 : Value).ownBlock) (n := t410.length) (c := co36) ?_).2.2; exact (by refine kR_ ?_; exact (rfm_ ((Kd.R_types HO412.out BK419.out (by decide))) (fun _ h_ => op1_ h_)))); (case side2 => exact (Kd.R_reads' HO412.out).2.1); (case side3 => refine (Kd.S_reads' (e := 81) (base := w.heap.size) (ok := fun k_ => True) (n := t413.length) (c := co37) ?_).2.2; exact (by refine kS_ ?_; exact (Kd.S_mono (Kd.S_far (p := ⟨gb419, 3, none⟩) (Kd.S_far (p := ⟨gb419, 2, none⟩) (Kd.S_far (p := ⟨gb419, 1, none⟩) (Kd.S_far (p := ⟨gb419, 0, none⟩) (Kd.S_types HO415.out BK419.out (by decide)) (fun _ hk => hk.2) (.int .i64 t409)) (fun _ hk => hk.2) (.slice Ao36 t410.length co36)) (fun _ hk => hk.2) (.slice Ao37 t413.length co37)) (fun _ hk => hk.2) (.slice Ao38 t416.length co38)) (fun _ h_ => op1_ h_)))); (case side4 => exact (Kd.S_reads' HO415.out).2.1); (case side5 => refine (Kd.R_reads' (e := 3) (base := w.heap.size) (ok := fun k_ => some k_ ≠ (.slice Ao36 t410.length co36 : Value).ownBlock) (n := t416.length) (c := co38) ?_).2.2; exact (by refine kR_ ?_; exact (rfm_ ((Kd.R_types HO418.out BK419.out (by decide))) (fun _ h_ => op1_ h_)))); (case side6 => exact (Kd.R_reads' HO418.out).2.1); rintro e w39 ⟨rfl, hb⟩; refine ⟨_, rfl, ?_⟩; replace HO412 := Aside0.mk (Kd.R_below (by refine kR_ ?_; exact (rfm_ ((Kd.R_types HO412.out BK419.out (by decide))) (fun _ h_ => op1_ h_))) hb); replace HO415 := Aside0.mk (Kd.S_below (by refine kS_ ?_; exact (Kd.S_mono (Kd.S_far (p := ⟨gb419, 3, none⟩) (Kd.S_far (p := ⟨gb419, 2, none⟩) (Kd.S_far (p := ⟨gb419, 1, none⟩) (Kd.S_far (p := ⟨gb419, 0, none⟩) (Kd.S_types HO415.out BK419.out (by decide)) (fun _ hk => hk.2) (.int .i64 t409)) (fun _ hk => hk.2) (.slice Ao36 t410.length co36)) (fun _ hk => hk.2) (.slice Ao37 t413.length co37)) (fun _ hk => hk.2) (.slice Ao38 t416.length co38)) (fun _ h_ => op1_ h_))) hb); replace HO418 := Aside0.mk (Kd.R_below (by refine kR_ ?_; exact (rfm_ ((Kd.R_types HO418.out BK419.out (by decide))) (fun _ h_ => op1_ h_))) hb); replace BK419 := Aside0.mk (blk_below (g := gb419) (o := .cells #[.int .i64 t409, .slice Ao36 t410.length co36, .slice Ao37 t413.length co37, .slice Ao38 t416.length co38] 38 (0, 0)) (by refine kb_ ?_; refine pz4 (cs := #[.int .i64 0, .slice none 0 0, .slice none 0 0, .slice none 0 0]) ?_; refine kb_ ?_; exact BK419.out) hb); replace HB := (bs_ HB hb); (try clear hb); (try clear hb2); (try clear hk); (try clear hi); have Z40 := zz4 BK419) | ((with_reducible refine gate_callee (f := 17) rfl ?_); refine goesL_ (some 15) rfl rfl Try.func17 (by kernel_rfl) rfl #[.agg #[.int .i64 t409, .slice Ao36 t410.length co36, .slice Ao37 t413.length co37, .slice Ao38 t416.length co38]] rfl ar_ ?_; (with_reducible refine (spec_ClientOk.calls k t409 _ _ t410 _ _ t413 _ _ t416 t421 _ ?side1 ?side2 ?side3 ?side4 ?side5 ?side6 A5.out).mono ?_); (case side1 => exact kC_ (Kd.R_reads' HO412.out).2.2); (case side2 => exact (Kd.R_reads' HO412.out).2.1); (case side3 => exact kC_ (Kd.S_reads' HO415.out).2.2); (case side4 => exact (Kd.S_reads' HO415.out).2.1); (case side5 => exact kC_ (Kd.R_reads' HO418.out).2.2); (case side6 => exact (Kd.R_reads' HO418.out).2.1); rintro e w41 ⟨rfl, hb⟩; refine ⟨_, rfl, ?_⟩; replace HO412 := Aside0.mk (Kd.R_below (kR_ HO412.out) hb); replace HO415 := Aside0.mk (Kd.S_below (kS_ HO415.out) hb); replace HO418 := Aside0.mk (Kd.R_below (kR_ HO418.out) hb); replace BK419 := (bbA_ BK419 hb); replace HB := (bs_ HB hb); (try clear hb); (try clear hb2); (try clear hk); (try clear hi); have Z42 := zz4 BK419) | ((with_reducible refine gate_dst (N := 5) rfl ?_); refine box_ (N := 5) (cs := #[.int .i64 0, .slice none 0 0, .slice none 0 0, .slice none 0 0]) (t := 38) (fun gb422 hg w43 hbox hb => ?_); replace HO412 := Aside0.mk (Kd.R_below (kR_ HO412.out) hb); replace HO415 := Aside0.mk (Kd.S_below (kS_ HO415.out) hb); replace HO418 := Aside0.mk (Kd.R_below (kR_ HO418.out) hb); have BK422 := Aside0.mk (hbox); have GW422 := ge_ hg HB; have GE422 := ge_ hg HB; replace HB := (bs_ HB hb); have NB419_422 := nl_ hg BK419; have NB422_419 := ng_ hg BK419; replace BK419 := (bbA_ BK419 hb); clear hb hbox hg; have hnb44 := NB422_419.out; have hnc44 := NB419_422.out; have Z45 := zz4 BK422; have Z46 := zz4 BK419) | (go_at_call 16; (refine (impl_ClientOk.calls k 0 _ _ ([] : List Int) _ _ ([] : List (S81)) _ _ ([] : List Int) true _ ?side1 ?side2 ?side3 ?side4 ?side5 ?side6 A30.out).mono ?_); (case side1 => exact Kd.C_nil _ _); (case side2 => first | exact Nat.le_refl _ | exact ⟨rfl, rfl⟩); (case side3 => exact Kd.C_nil _ _); (case side4 => first | exact Nat.le_refl _ | exact ⟨rfl, rfl⟩); (case side5 => exact Kd.C_nil _ _); (case side6 => first | exact Nat.le_refl _ | exact ⟨rfl, rfl⟩); rintro e w47 ⟨rfl, hb⟩; replace HO412 := Aside0.mk (Kd.R_below (by refine kR_ ?_; exact (rfm_ ((Kd.R_types HO412.out BK422.out (by decide))) (fun _ h_ => op1_ h_))) hb); replace HO415 := Aside0.mk (Kd.S_below (by refine kS_ ?_; exact (Kd.S_mono (Kd.S_far (p := ⟨gb422, 0, none⟩) (Kd.S_far (p := ⟨gb422, 3, none⟩) (Kd.S_far (p := ⟨gb422, 2, none⟩) (Kd.S_far (p := ⟨gb422, 1, none⟩) (Kd.S_far (p := ⟨gb422, 0, none⟩) (Kd.S_types HO415.out BK422.out (by decide)) (fun _ hk => hk.2) (.int .i64 t409)) (fun _ hk => hk.2) (.slice Ao36 t410.length co36)) (fun _ hk => hk.2) (.slice Ao37 t413.length co37)) (fun _ hk => hk.2) (.slice Ao38 t416.length co38)) (fun _ hk => hk.2) (.int .i64 (wrap64 (t409 + 1)))) (fun _ h_ => op1_ h_))) hb); replace HO418 := Aside0.mk (Kd.R_below (by refine kR_ ?_; exact (rfm_ ((Kd.R_types HO418.out BK422.out (by decide))) (fun _ h_ => op1_ h_))) hb); replace BK419 := Aside0.mk (blk_below (g := gb419) (o := .cells #[.int .i64 t409, .slice Ao36 t410.length co36, .slice Ao37 t413.length co37, .slice Ao38 t416.length co38] 38 (0, 0)) (by exact kf_ BK419.out) hb); replace BK422 := Aside0.mk (blk_below (g := gb422) (o := .cells #[.int .i64 (wrap64 (t409 + 1)), .slice Ao36 t410.length co36, .slice Ao37 t413.length co37, .slice Ao38 t416.length co38] 38 (0, 0)) (by refine kb_ ?_; refine blk_put (cs := #[.int .i64 t409, .slice Ao36 t410.length co36, .slice Ao37 t413.length co37, .slice Ao38 t416.length co38]) ?_ 0 _ rfl; refine kb_ ?_; refine pz4 (cs := #[.int .i64 0, .slice none 0 0, .slice none 0 0, .slice none 0 0]) ?_; refine kb_ ?_; exact BK422.out) hb); replace HB := (bs_ HB hb); (try clear hb); (try clear hb2); (try clear hk); (try clear hi)) | (go_at_call 13; (with_reducible refine (laws_alive.calls k  t427 _ A32.out).mono ?_); rintro e w48 ⟨rfl, hb⟩; replace HO412 := Aside0.mk (Kd.R_below (kR_ HO412.out) hb); replace HO415 := Aside0.mk (Kd.S_below (kS_ HO415.out) hb); replace HO418 := Aside0.mk (Kd.R_below (kR_ HO418.out) hb); replace BK419 := (bbA_ BK419 hb); replace BK422 := (bbA_ BK422 hb); replace HB := (bs_ HB hb); (try clear hb); (try clear hb2); (try clear hk); (try clear hi)))
     go_ret
     exact ⟨by first | rfl | (simp [errW_none, errW_some] <;> rfl) | (simp [*, errW_none, errW_some] <;> rfl), hbA_ HB.out⟩
    ·replace c31 := Bool.eq_false_iff.mpr c31
     subst c31
     rw [if_neg (show ¬ (false = true) by decide)] at H
     exact absurd (Option.some.inj H) (by rw [HLW.out]; exact Bool.false_ne_true)
def laws_FnClientOk.Pure : Prop := ∀ (l0 : List Int), l0.length ≤ maxLen → l0.length * 1 ≤ 140737488351232 → (∀ x ∈ l0, (Lit.int .u8 x).wf = true) → ∃ k, laws_FnClientOk.f k l0 = some true
theorem laws_FnClientOk.walk (P : laws_FnClientOk.Pure) (a0 : Option Addr) (len0 cap0 : Nat) (z0 : List Int) (w : World) (w0 : (a0 = none ∧ len0 = 0 ∧ cap0 = 0 ∧ z0 = []) ∨ ∃ x, a0 = some x ∧ len0 ≤ cap0 ∧ cap0 ≤ maxLen ∧ z0.length = cap0 ∧ (∀ i, i < z0.length → w.cell? (x.add i) = some (.int .u8 (z0.getD i 0))) ∧ ∀ n ∈ z0, (Lit.int .u8 n).wf = true) (y0 : len0 * 1 ≤ 140737488351232) :
  Calls Try.prog 4 #[.slice a0 len0 cap0] w fun e w' => e = .returned (.bool true) ∧ Below w.heap.size w w' := by
 obtain ⟨l0, rfl, hr0, hm0, hw0, hc0⟩ := ReadsInt.ofRowC w0
 obtain ⟨k, h⟩ := P l0 hm0 y0 hw0
 refine (laws_FnClientOk.calls k _ _ l0 true w (Kd.C_of_reads (d := (0 : Int)) (h1 := fun _ => rfl) hr0) hc0 h rfl).mono ?_
 rintro e w' ⟨rfl, hd⟩
 exact ⟨rfl, hd⟩
end Go.Proofs.Ytpbeljcgcdilnaa.PFnClientOk
