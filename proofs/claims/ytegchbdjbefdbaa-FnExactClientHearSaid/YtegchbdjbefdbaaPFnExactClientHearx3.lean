/- Printed by wip/xp/xprint.sh out of the translation, for this claim: what each function answers, as a plain function, and that the machine does just that. No condition. -/
import Derived.Test.YtegchbdjbefdbaaPFnExactClientHearx0
import Derived.Test.YtegchbdjbefdbaaPFnExactClientHearx2
namespace Go.Proofs.Ytegchbdjbefdbaa.PFnExactClientHear
open Go.RowKit Go.Proofs.YtegchbdjbefdbaaW.PrintWords Go.Proofs.YtegchbdjbefdbaaW.PrintLast Go.Proofs.YtegchbdjbefdbaaW.PrintMore
attribute [local go_sem] max2_int min2_int max_two min_two max_three min_three max_four min_four   -- for this text's walks alone
set_option linter.unusedVariables false
set_option linter.unusedSimpArgs false
def impl_ClientOk.met (all : List Int) (next : Int) (nopen : Nat) : Int → List Int → List Int → Bool
 | _, [], _ => true
 | i, n :: rest, seen => if impl_in.f n 0 (wrap64 (next - 1)) = some true then (if seen.contains n = true then false else (if i > 0 ∧ i < (nopen : Int) ∧ rd all (wrap64 (i - 1)) ≥ n then false else impl_ClientOk.met all next nopen (i + 1) rest (n :: seen))) else false
theorem impl_ClientOk.inn_some (a b c : Int) : ∃ t, impl_in.f a b c = some t := by unfold impl_in.f; split <;> exact ⟨_, rfl⟩
theorem impl_ClientOk.inn_wf {n y : Int} (h : impl_in.f n 0 (wrap64 y) = some true) : (Lit.int .i64 n).wf = true := by
 have h0 : 0 ≤ n ∧ n ≤ wrap64 y := by
  unfold impl_in.f at h; split at h
  ·exact ⟨by assumption, by simpa using h⟩
  ·cases h
 have h1 : wrap64 y ≤ 9223372036854775807 := by unfold wrap64; omega
 generalize wrap64 y = z at h0 h1
 simp [Lit.wf, IntKind.min, IntKind.max, IntKind.bits, IntKind.signed]
 omega
theorem impl_ClientOk.rd_drop (l : List Int) (i : Int) (h0 : 0 ≤ i) (h1 : i < (l.length : Int)) : l.drop i.toNat = rd l i :: l.drop (i + 1).toNat := by
 have h : i.toNat < l.length := by omega
 rw [List.drop_eq_getElem_cons h, show (i + 1).toNat = i.toNat + 1 by omega]
 unfold rd
 rw [List.getD_eq_getElem?_getD, List.getElem?_eq_getElem h]; rfl
theorem impl_ClientOk.wrap_pred {i : Int} (h0 : 0 < i) (h1 : i < 17592186044416) : wrap64 (i - 1) = i - 1 := by unfold wrap64; omega
theorem impl_ClientOk.wrap_succ {i : Int} (h0 : 0 ≤ i) (h1 : i < 17592186044416) : wrap64 (i + 1) = i + 1 := by unfold wrap64; omega
mutual
def impl_ClientOk.j0 : Nat → Bool → Int → List Int → List (S41) → List Int → Option (Bool)
 | 0, _, _, _, _, _ => none
 | k + 1, x18, x170000, x170001, x170002, x170003 => if x18 = true then (some false) else ((slices_Concat_int_int.f k (([x170001, x170003] : List (List Int)))).bind fun t174 => (impl_ClientOk.l0 k t174 x170002 (x170002.length : Int) 0 x170000 x170001 x170002 x170003))
def impl_ClientOk.l0 : Nat → List Int → List (S41) → Int → Int → Int → List Int → List (S41) → List Int → Option (Bool)
 | 0, _, _, _, _, _, _, _, _ => none
 | k + 1, x3, x26, x27, x28, x170000, x170001, x170002, x170003 => if x28 < x27 then (if 0 ≤ x28 then (if x28 < (x26.length : Int) then (if (((rd_T41 x26 x28).f1).length : Int) > 9 then (some false) else (if x3.length < 17592186044416 then (impl_ClientOk.l0 k (x3 ++ [(rd_T41 x26 x28).f0]) x26 x27 (wrap64 (x28 + 1)) x170000 x170001 x170002 x170003) else (none))) else (none)) else (none)) else (if x3.length < 17592186044416 then (some (impl_ClientOk.met x3 x170000 x170001.length 0 x3 [] && ((x3.length : Int) == x170000))) else (none))
end
def impl_ClientOk.f (k : Nat) (a0_0 : Int) (l0_1 : List Int) (l0_2 : List (S41)) (l0_3 : List Int) : Option (Bool) := (impl_in.f a0_0 0 256).bind fun t170 => (if t170 = true then (impl_ClientOk.j0 k (decide ((l0_1.length : Int) > 4)) a0_0 l0_1 l0_2 l0_3) else (impl_ClientOk.j0 k true a0_0 l0_1 l0_2 l0_3))
theorem impl_ClientOk.mono_l : ∀ k, (∀ y0 y1 y2 y3 y4, LeO (impl_ClientOk.j0 k y0 y1 y2 y3 y4) (impl_ClientOk.j0 (k + 1) y0 y1 y2 y3 y4)) ∧ (∀ y0 y1 y2 y3 y4 y5 y6 y7, LeO (impl_ClientOk.l0 k y0 y1 y2 y3 y4 y5 y6 y7) (impl_ClientOk.l0 (k + 1) y0 y1 y2 y3 y4 y5 y6 y7))
 | 0 => ⟨fun _ _ _ _ _ r h => by simp [impl_ClientOk.j0] at h, fun _ _ _ _ _ _ _ _ r h => by simp [impl_ClientOk.l0] at h⟩
 | k + 1 => by
  obtain ⟨ih0, ih1⟩ := impl_ClientOk.mono_l k
  refine ⟨?_, ?_⟩
  ·intro y0 y1 y2 y3 y4
   unfold impl_ClientOk.j0
   repeat' first | (with_reducible first | apply ih0 | apply ih1 | apply slices_Concat_int_int.mono | exact LeO.refl _ | exact LeO.none _ | refine LeO.ite ?_ ?_ | refine LeO.bind ?_ fun _ => ?_) | apply ih0 | apply ih1 | apply slices_Concat_int_int.mono | exact LeO.none _ | refine LeO.ite ?_ ?_ | refine LeO.bind ?_ fun _ => ?_
  ·intro y0 y1 y2 y3 y4 y5 y6 y7
   unfold impl_ClientOk.l0
   repeat' first | (with_reducible first | apply ih0 | apply ih1 | apply slices_Concat_int_int.mono | exact LeO.refl _ | exact LeO.none _ | refine LeO.ite ?_ ?_ | refine LeO.bind ?_ fun _ => ?_) | apply ih0 | apply ih1 | apply slices_Concat_int_int.mono | exact LeO.none _ | refine LeO.ite ?_ ?_ | refine LeO.bind ?_ fun _ => ?_
theorem impl_ClientOk.mono : ∀ a0 a1 a2 a3 k, LeO (impl_ClientOk.f k a0 a1 a2 a3) (impl_ClientOk.f (k + 1) a0 a1 a2 a3) := by
 intro a0 a1 a2 a3 k
 obtain ⟨ih0, ih1⟩ := impl_ClientOk.mono_l k
 unfold impl_ClientOk.f
 repeat' first | (with_reducible first | apply ih0 | apply ih1 | apply slices_Concat_int_int.mono | exact LeO.refl _ | exact LeO.none _ | refine LeO.ite ?_ ?_ | refine LeO.bind ?_ fun _ => ?_) | apply ih0 | apply ih1 | apply slices_Concat_int_int.mono | exact LeO.none _ | refine LeO.ite ?_ ?_ | refine LeO.bind ?_ fun _ => ?_
set_option maxHeartbeats 8000000 in
set_option maxRecDepth 100000 in
theorem impl_ClientOk.callsV (k : Nat) (a0_0 : Int) (P0_1_ : Nat → Prop) (A0_1 : Option Addr) (c0_1 : Nat) (l0_1 : List Int) (A0_2 : Option Addr) (c0_2 : Nat) (l0_2 : List (S41)) (P0_3_ : Nat → Prop) (A0_3 : Option Addr) (c0_3 : Nat) (l0_3 : List Int) (r : Bool) (w : World) (hs0_1 : Kd.V (Kd.int .i64) 3 w w.heap.size (fun k_ => P0_1_ k_) (.slice A0_1 l0_1.length c0_1) l0_1) (hr0_2 : Kd.C k41 w A0_2 l0_2.length l0_2) (hc0_2 : l0_2.length ≤ c0_2) (hs0_3 : Kd.V (Kd.int .i64) 3 w w.heap.size (fun k_ => P0_3_ k_) (.slice A0_3 l0_3.length c0_3) l0_3) (h : impl_ClientOk.f k a0_0 l0_1 l0_2 l0_3 = some r) :
  Calls Try.prog 14 #[.agg #[.int .i64 a0_0, .slice A0_1 l0_1.length c0_1, .slice A0_2 l0_2.length c0_2, .slice A0_3 l0_3.length c0_3]] w fun e w' => e = .returned (.bool r) ∧ Below w.heap.size w w' := by
 have hu30 := Try.underlying30; have hu41 := Try.underlying41
 have HO0_1 := Aside0.mk (show Kd.V (Kd.int .i64) 3 w w.heap.size (fun k_ => ((P0_1_ k_ ∨ P0_3_ k_) ∨ w.heap.size ≤ k_)) (.slice A0_1 l0_1.length c0_1) l0_1 from Kd.V_mono hs0_1 (fun k_ hk => .inl (.inl hk)))
 have HR0_2 := Aside0.mk hr0_2; have HC0_2 := Aside0.mk hc0_2; clear hr0_2 hc0_2
 have HO0_3 := Aside0.mk (show Kd.V (Kd.int .i64) 3 w w.heap.size (fun k_ => ((P0_1_ k_ ∨ P0_3_ k_) ∨ w.heap.size ≤ k_)) (.slice A0_3 l0_3.length c0_3) l0_3 from Kd.V_mono hs0_3 (fun k_ hk => .inl (.inr hk)))
 have HB := Aside0.mk (Below.refl w.heap.size w)
 have H : ((impl_in.f a0_0 0 256).bind fun t170 => (if t170 = true then (impl_ClientOk.j0 k (decide ((l0_1.length : Int) > 4)) a0_0 l0_1 l0_2 l0_3) else (impl_ClientOk.j0 k true a0_0 l0_1 l0_2 l0_3))) = some r := h
 clear h; have HC2 := Aside0.mk H; clear H
 go_enter Try.func14, Try.ntmps14
 go_upto_region 1 with (first | ((with_reducible refine gate_dst (N := 1) rfl ?_); (try (refine gate_guard (by rfl) ?_; dsimp only)); refine box_ (N := 1) (cs := #[.int .i64 a0_0, .slice A0_1 l0_1.length c0_1, .slice A0_2 l0_2.length c0_2, .slice A0_3 l0_3.length c0_3]) (t := 30) (fun gb169 hg w3 hbox hb => ?_); replace HO0_1 := Aside0.mk (Kd.V_below (Kd.V_elderB (kV_ HO0_1.out) gb169 (Nat.le_of_eq hg.symm)) hb); replace HO0_3 := Aside0.mk (Kd.V_below (Kd.V_elderB (kV_ HO0_3.out) gb169 (Nat.le_of_eq hg.symm)) hb); have BK169 := Aside0.mk (hbox); have GW169 := ge_ hg HB; have GE169 := ge_ hg HB; replace HB := (bs_ HB hb); clear hb hbox hg))
 (try simp only [Act.put, List.setIfInBounds_toArray, List.set_cons_zero, List.set_cons_succ])
 go_cut [18] (fun v18 wc => ∃ (kq : Nat) (x18_1 : Bool), v18 = .bool x18_1 ∧ Aside0 (impl_ClientOk.j0 kq x18_1 a0_0 l0_1 l0_2 l0_3 = some r) ∧ Aside0 (kq ≤ k) ∧ Aside0 (Kd.V (Kd.int .i64) 3 wc w.heap.size (fun k_ => ((P0_1_ k_ ∨ P0_3_ k_) ∨ w.heap.size ≤ k_) ∧ k_ ≠ gb169) (.slice A0_1 l0_1.length c0_1) l0_1) ∧ Aside0 (Kd.V (Kd.int .i64) 3 wc w.heap.size (fun k_ => ((P0_1_ k_ ∨ P0_3_ k_) ∨ w.heap.size ≤ k_) ∧ k_ ≠ gb169) (.slice A0_3 l0_3.length c0_3) l0_3) ∧ Aside0 (wc.heap[gb169]? = some (.cells #[.int .i64 a0_0, (.slice A0_1 l0_1.length c0_1), (.slice A0_2 l0_2.length c0_2), (.slice A0_3 l0_3.length c0_3)] 30 (0, 0))) ∧ Aside0 (Below w.heap.size w wc))
 case first =>
  have H := HC2.out; clear HC2
  replace H := Option.bind_eq_some_iff.mp H
  obtain ⟨t170, A40, H⟩ := H
  (try dsimp only at H)
  have A4 := Aside0.mk A40; clear A40
  by_cases c5 : t170 = true
  ·subst c5
   rw [if_pos rfl] at H
   have H' := Aside0.mk H
   clear H; have Z6 := zz4 BK169
   go_wp2_with (first | ((with_reducible refine gate_callee (f := 49) rfl ?_); refine goesL_ (some 11) rfl rfl Try.func49 (by kernel_rfl) rfl #[.int .i64 a0_0, .int .i64 0, .int .i64 256] rfl ar_ ?_; (with_reducible refine (impl_in.calls a0_0 0 256 true _ A4.out).mono ?_); rintro e w' ⟨rfl, ⟨nd, rfl⟩⟩; refine ⟨_, rfl, ?_⟩))
   go_meet
   case rel => exact ⟨_, (decide ((l0_1.length : Int) > 4)), (by first | rfl | (simp; done) | (simp [*]; done)), H', ⟨by first | omega | exact Nat.le_refl _⟩, ⟨by refine kV_ ?_; exact HO0_1.out⟩, ⟨by refine kV_ ?_; exact HO0_3.out⟩, ⟨by refine kb_ ?_; exact BK169.out⟩, ⟨hbA_ HB.out⟩⟩
  ·replace c5 := Bool.eq_false_iff.mpr c5
   subst c5
   rw [if_neg (show ¬ (false = true) by decide)] at H
   have H' := Aside0.mk H
   clear H; have Z7 := zz4 BK169
   go_wp2_with (first | ((with_reducible refine gate_callee (f := 49) rfl ?_); refine goesL_ (some 11) rfl rfl Try.func49 (by kernel_rfl) rfl #[.int .i64 a0_0, .int .i64 0, .int .i64 256] rfl ar_ ?_; (with_reducible refine (impl_in.calls a0_0 0 256 false _ A4.out).mono ?_); rintro e w' ⟨rfl, ⟨nd, rfl⟩⟩; refine ⟨_, rfl, ?_⟩))
   go_meet
   case rel => exact ⟨_, (true), (by first | rfl | (simp; done) | (simp [*]; done)), H', ⟨by first | omega | exact Nat.le_refl _⟩, ⟨by refine kV_ ?_; exact HO0_1.out⟩, ⟨by refine kV_ ?_; exact HO0_3.out⟩, ⟨by refine kb_ ?_; exact BK169.out⟩, ⟨hbA_ HB.out⟩⟩
 case rest =>
  clear HC2; (try clear c1); (try clear p2); (try clear c4); (try clear c5); (try clear Z6); (try clear Z7)
  obtain ⟨kq, x18_1, rfl, HA, HJ1, HO_170001, HO_170003, BK169, HB⟩ := hcut
  cases kq with
  | zero => exact absurd HA.out (by simp [impl_ClientOk.j0])
  | succ kj1 =>
   have H := HA.out; clear HA
   simp only [impl_ClientOk.j0] at H
   by_cases c8 : x18_1 = true
   ·subst c8
    rw [if_pos rfl] at H
    obtain rfl := Option.some.inj H
    go_wp2
    go_ret
    exact ⟨by first | rfl | (simp [errW_none, errW_some] <;> rfl) | (simp [*, errW_none, errW_some] <;> rfl), hbA_ HB.out⟩
   ·replace c8 := Bool.eq_false_iff.mpr c8
    subst c8
    rw [if_neg (show ¬ (false = true) by decide)] at H
    obtain ⟨y171, hy171⟩ : ∃ y_ : List (List Int), y_ = (([l0_1, l0_3] : List (List Int))) := ⟨_, rfl⟩
    (first | replace H := sb_ hy171 H | rw [← hy171] at H)
    have Ny171 := Aside0.mk hy171; clear hy171
    replace H := Option.bind_eq_some_iff.mp H
    obtain ⟨t174, A90, H⟩ := H
    (try dsimp only at H)
    have A9 := Aside0.mk A90; clear A90
    have H' := Aside0.mk H
    clear H; have Z10 := zz4 BK169
    go_wp2_with (first | ((with_reducible refine gate_dst (N := 23) rfl ?_); (try (refine gate_guard (by rfl) ?_; dsimp only)); refine Kd.N_lit (Kd.slice 3 (Kd.int .i64)) _ 22 ?hg (N' := 23) ?hd (xs := ([l0_1, l0_3] : List (List Int))) (inner := [.slice A0_1 l0_1.length c0_1, .slice A0_3 l0_3.length c0_3]) (ok := (fun k_ => ((P0_1_ k_ ∨ P0_3_ k_) ∨ w.heap.size ≤ k_) ∧ k_ ≠ gb169)) (okp := (fun k_ => ((P0_1_ k_ ∨ P0_3_ k_) ∨ w.heap.size ≤ k_) ∧ k_ ≠ gb169)) ?hr ?hp (fun _ hk => hk) ((show ∀ k_, wc.heap.size ≤ k_ → (fun k_ => ((P0_1_ k_ ∨ P0_3_ k_) ∨ w.heap.size ≤ k_) ∧ k_ ≠ gb169) k_ from fun k_ hk => ⟨(.inr (Nat.le_trans (below_size (hbA_ HB.out)) hk)), fb_ BK169 k_ hk⟩) _ (Nat.le_refl _)) (Below.refl _ _) (Nat.le_refl _) (by simp) ?_; (case hd => rfl); (case hg => rfl); (case hr => first | (go_simp; done) | (go_simp; rfl)); (case hp => exact (Reps.one (show Kd.FK (Kd.slice 3 (Kd.int .i64)) _ _ l0_1 [.slice A0_1 l0_1.length c0_1] from (Kd.FK_slice_mk (Kd.V_reads' (Kd.V_mono (ok' := (fun k_ => ((P0_1_ k_ ∨ P0_3_ k_) ∨ w.heap.size ≤ k_) ∧ k_ ≠ gb169)) (HO_170001.out) (fun k_ hk => ⟨hk.1, hk.2⟩))).2.1 (Kd.V_F (Kd.V_mono (ok' := (fun k_ => ((P0_1_ k_ ∨ P0_3_ k_) ∨ w.heap.size ≤ k_) ∧ k_ ≠ gb169)) (HO_170001.out) (fun k_ hk => ⟨hk.1, hk.2⟩))))) (Reps.one (show Kd.FK (Kd.slice 3 (Kd.int .i64)) _ _ l0_3 [.slice A0_3 l0_3.length c0_3] from (Kd.FK_slice_mk (Kd.V_reads' (Kd.V_mono (ok' := (fun k_ => ((P0_1_ k_ ∨ P0_3_ k_) ∨ w.heap.size ≤ k_) ∧ k_ ≠ gb169)) (HO_170003.out) (fun k_ hk => ⟨hk.1, hk.2⟩))).2.1 (Kd.V_F (Kd.V_mono (ok' := (fun k_ => ((P0_1_ k_ ∨ P0_3_ k_) ∨ w.heap.size ≤ k_) ∧ k_ ≠ gb169)) (HO_170003.out) (fun k_ hk => ⟨hk.1, hk.2⟩))))) (Reps.none _ _)))); intro v172 w11 ho12 hb hg_ hnew_; clear hg_ hnew_; (first | rw [← Ny171.out] at ho12 | (simp only [Int.reduceToNat] at ho12; rw [← Ny171.out] at ho12)); replace HO_170001 := Aside0.mk (Kd.V_elder' (kV_ HO_170001.out) (Kd.base_ ho12) hb); replace HO_170003 := Aside0.mk (Kd.V_elder' (kV_ HO_170003.out) (Kd.base_ ho12) hb); have HO173 := Aside0.mk (Kd.N_lower ho12 (below_size (hbA_ HB.out))); replace BK169 := (bbA_ BK169 hb); replace HB := (bs_ HB hb); clear hb ho12; obtain ⟨Ao13, co13, eo13⟩ := Kd.N_slice HO173.out; subst eo13) | ((with_reducible refine gate_callee (f := 50) rfl ?_); refine goesL_ (some 24) rfl rfl Try.func50 (by kernel_rfl) rfl #[.slice Ao13 y171.length co13] rfl ar_ ?_; (with_reducible refine (slices_Concat_int_int.calls kj1 _ _ y171 t174 _ ?side1 ?side2 A9.out).mono ?_); (case side1 => exact kC_ (Kd.N_reads' HO173.out).2.2); (case side2 => exact (Kd.N_reads' HO173.out).2.1); rintro e w14 ⟨v175, rfl, ho0, hb⟩; refine ⟨_, rfl, ?_⟩; replace HO_170001 := Aside0.mk (Kd.V_elder' (kV_ HO_170001.out) (Kd.R_base ho0) hb); replace HO_170003 := Aside0.mk (Kd.V_elder' (kV_ HO_170003.out) (Kd.R_base ho0) hb); replace HO173 := Aside0.mk (Kd.N_elder' (kN_ HO173.out) (Kd.R_base ho0) hb); have HO176 := Aside0.mk (Kd.R_lower (Kd.R_newM (M := fun k_ => (w.heap.size ≤ k_)) ho0 (below_size (hbA_ HB.out)) (fun k_ h_ => h_)) (below_size (hbA_ HB.out))); replace BK169 := (bbA_ BK169 hb); replace HB := (bs_ HB hb); (try clear hb); (try clear hb2); (try clear hk); (try clear hi); (try clear ho0); have Z15 := zz4 BK169))
    go_loopg [3, 28] kj1 (fun kq v3 v28 w' => ∃ (x3_2 : List Int) (x28_2 : Int), v28 = .int .i64 x28_2 ∧ Aside0 (impl_ClientOk.l0 kq x3_2 l0_2 (l0_2.length : Int) x28_2 a0_0 l0_1 l0_2 l0_3 = some r) ∧ Aside0 (kq ≤ kj1) ∧ Aside0 (Kd.R (Kd.int .i64) 3 w' w.heap.size (fun k_ => (w.heap.size ≤ k_)) v3 x3_2) ∧ Aside0 (Kd.V (Kd.int .i64) 3 w' w.heap.size (fun k_ => ((P0_1_ k_ ∨ P0_3_ k_) ∨ w.heap.size ≤ k_) ∧ some k_ ≠ (v3 : Value).ownBlock ∧ k_ ≠ gb169) (.slice A0_1 l0_1.length c0_1) l0_1) ∧ Aside0 (Kd.V (Kd.int .i64) 3 w' w.heap.size (fun k_ => ((P0_1_ k_ ∨ P0_3_ k_) ∨ w.heap.size ≤ k_) ∧ some k_ ≠ (v3 : Value).ownBlock ∧ k_ ≠ gb169) (.slice A0_3 l0_3.length c0_3) l0_3) ∧ Aside0 (w'.heap[gb169]? = some (.cells #[.int .i64 a0_0, (.slice A0_1 l0_1.length c0_1), (.slice A0_2 l0_2.length c0_2), (.slice A0_3 l0_3.length c0_3)] 30 (0, 0))) ∧ Aside0 (Below w.heap.size w w'))
    case atStart => exact ⟨(t174), (0), (by first | rfl | (simp; done) | (simp [*]; done)), H', ⟨Nat.le_refl _⟩, ⟨by refine kR_ ?_; exact Kd.R_mono HO176.out (fun _ hk => hk.1)⟩, ⟨by refine kV_ ?_; exact Kd.V_mono HO_170001.out (fun _ hk => ⟨hk.1.1.1, ⟨hk.2, hk.1.1.2⟩⟩)⟩, ⟨by refine kV_ ?_; exact Kd.V_mono HO_170003.out (fun _ hk => ⟨hk.1.1.1, ⟨hk.2, hk.1.1.2⟩⟩)⟩, ⟨by refine kb_ ?_; exact BK169.out⟩, ⟨hbA_ HB.out⟩⟩
    case round =>
     clear H'; (try clear c1); (try clear p2); (try clear c4); (try clear c5); (try clear c8); (try clear c14); (try clear Z10); (try clear Z15); (try clear Z6); (try clear Z7); (try clear p2)
     obtain ⟨x3_2, x28_2, rfl, HA, HK2, HO_3, HO_170001, HO_170003, BK169, HB⟩ := hrel
     cases gk with
     | zero => exact absurd HA.out (by simp [impl_ClientOk.l0])
     | succ k2 =>
      have H := HA.out; clear HA
      simp only [impl_ClientOk.l0] at H
      by_cases c16 : x28_2 < (l0_2.length : Int)
      ·rw [if_pos c16] at H
       have c16b0 : decide (x28_2 < (l0_2.length : Int)) = true := decide_eq_true c16
       clear c16
       by_cases c17 : 0 ≤ x28_2
       ·rw [if_pos c17] at H
        have c17b0 : decide (0 ≤ x28_2) = true := decide_eq_true c17
        clear c17
        by_cases c18 : x28_2 < (l0_2.length : Int)
        ·rw [if_pos c18] at H
         have c18b0 : decide (x28_2 < (l0_2.length : Int)) = true := decide_eq_true c18
         clear c18
         by_cases c19 : (((rd_T41 l0_2 x28_2).f1).length : Int) > 9
         ·rw [if_pos c19] at H
          have c19b0 : decide (9 < (((rd_T41 l0_2 x28_2).f1).length : Int)) = true := decide_eq_true c19
          have c19b1 : decide (9 < ((rd_T41 l0_2 x28_2).f1).length) = true := decide_eq_true (by omega)
          clear c19
          obtain rfl := Option.some.inj H
          have p177 : 0 ≤ (x28_2 : Int) := of_decide_eq_true (by first | (with_reducible assumption) | assumption)
          have q177 : x28_2 < (l0_2.length : Int) := of_decide_eq_true (by first | (with_reducible assumption) | assumption)
          obtain ⟨ad177, A177_1, c177_1, e177, hx177_0, hx177_1, hl177_1, hi177_1⟩ := at_T41 HR0_2.out x28_2 p177 q177
          cases e177
          replace hx177_0 := cc_ HB hx177_0
          replace hx177_1 := cc_ HB hx177_1
          have HR177_1 := Aside0.mk hi177_1; have HC177_1 := Aside0.mk hl177_1; clear hi177_1 hl177_1
          replace p177 := eq_true p177
          replace q177 := eq_true q177
          go_wp2_with (first | ((with_reducible refine gate_dst (N := 5) rfl ?_); (try (refine gate_guard (by rfl) ?_; dsimp only)); refine box_ (N := 5) (cs := #[.int .i64 0, .slice none 0 0]) (t := 41) (fun gb178 hg w20 hbox hb => ?_); replace HO_3 := Aside0.mk (Kd.R_below (kR_ HO_3.out) hb); replace HO_170001 := Aside0.mk (Kd.V_below (Kd.V_elderB (kV_ HO_170001.out) gb178 (Nat.le_of_eq hg.symm)) hb); replace HO_170003 := Aside0.mk (Kd.V_below (Kd.V_elderB (kV_ HO_170003.out) gb178 (Nat.le_of_eq hg.symm)) hb); have BK178 := Aside0.mk (hbox); have GW178 := ge_ hg HB; have GE178 := ge_ hg HB; replace HB := (bs_ HB hb); have NB169_178 := nl_ hg BK169; have NB178_169 := ng_ hg BK169; replace BK169 := (bbA_ BK169 hb); clear hb hbox hg; have hnb21 := NB178_169.out; have hnc21 := NB169_178.out; have Z22 := zz2 BK178))
          go_ret
          exact ⟨by first | rfl | (simp [errW_none, errW_some] <;> rfl) | (simp [*, errW_none, errW_some] <;> rfl), hbA_ HB.out⟩
         ·rw [if_neg c19] at H
          have c19b0 : decide (9 < (((rd_T41 l0_2 x28_2).f1).length : Int)) = false := decide_eq_false c19
          have c19b1 : decide (9 < ((rd_T41 l0_2 x28_2).f1).length) = false := decide_eq_false (by omega)
          clear c19
          by_cases c23 : x3_2.length < 17592186044416
          ·rw [if_pos c23] at H
           have LMc23 := Aside0.mk c23; clear c23
           obtain ⟨y179, hy179⟩ : ∃ y_ : List Int, y_ = (x3_2 ++ [(rd_T41 l0_2 x28_2).f0]) := ⟨_, rfl⟩
           (first | replace H := sb_ hy179 H | rw [← hy179] at H)
           have Ny179 := Aside0.mk hy179; clear hy179
           have H' := Aside0.mk H
           clear H
           have p177 : 0 ≤ (x28_2 : Int) := of_decide_eq_true (by first | (with_reducible assumption) | assumption)
           have q177 : x28_2 < (l0_2.length : Int) := of_decide_eq_true (by first | (with_reducible assumption) | assumption)
           obtain ⟨ad177, A177_1, c177_1, e177, hx177_0, hx177_1, hl177_1, hi177_1⟩ := at_T41 HR0_2.out x28_2 p177 q177
           cases e177
           replace hx177_0 := cc_ HB hx177_0
           replace hx177_1 := cc_ HB hx177_1
           have HR177_1 := Aside0.mk hi177_1; have HC177_1 := Aside0.mk hl177_1; clear hi177_1 hl177_1
           replace p177 := eq_true p177
           replace q177 := eq_true q177
           go_wp2_with (first | ((with_reducible refine gate_dst (N := 5) rfl ?_); (try (refine gate_guard (by rfl) ?_; dsimp only)); refine box_ (N := 5) (cs := #[.int .i64 0, .slice none 0 0]) (t := 41) (fun gb178 hg w24 hbox hb => ?_); replace HO_3 := Aside0.mk (Kd.R_below (kR_ HO_3.out) hb); replace HO_170001 := Aside0.mk (Kd.V_below (Kd.V_elderB (kV_ HO_170001.out) gb178 (Nat.le_of_eq hg.symm)) hb); replace HO_170003 := Aside0.mk (Kd.V_below (Kd.V_elderB (kV_ HO_170003.out) gb178 (Nat.le_of_eq hg.symm)) hb); have BK178 := Aside0.mk (hbox); have GW178 := ge_ hg HB; have GE178 := ge_ hg HB; replace HB := (bs_ HB hb); have NB169_178 := nl_ hg BK169; have NB178_169 := ng_ hg BK169; replace BK169 := (bbA_ BK169 hb); clear hb hbox hg; have hnb25 := NB178_169.out; have hnc25 := NB169_178.out; have Z26 := zz2 BK178) | ((with_reducible refine gate_builtin (b := .append) (xs := #[.tmp 36, .tmp 39]) rfl ?_); (try (refine gate_guard (by rfl) ?_; dsimp only)); at_builtin; refine Kd.R_append (Kd.int .i64) (w0 := w) w.heap.size rfl (.tmp 36) (.tmp 39) 22 3 (.int .i64 0) 8 rfl Try.underlying22 info3 rfl (by decide) (by omega) u3 x3_2 ((rd_T41 l0_2 x28_2).f0) [.int .i64 ((rd_T41 l0_2 x28_2).f0)] (fun k_ => (w.heap.size ≤ k_)) (fun _ => False) rfl (by first | (go_simp; done) | (go_simp; rfl)) ?aP (fun _ hk => hk.elim) ?aF ?aO ?aB ?aS ?aL ?_; (case aP => exact rfl); (case aB => exact (hbA_ HB.out)); (case aF => exact (fun k_ hk => (Nat.le_trans (below_size (hbA_ HB.out)) hk))); (case aO => exact (by refine kR_ ?_; exact rfm_ ((Kd.R_types HO_3.out BK178.out (by decide))) (fun _ hk => hk.1))); (case aS => exact (below_size (hbA_ HB.out))); (case aL => have := LMc23.out; omega); intro v180 w27 ho hb hg hat; rw [← Ny179.out] at ho; replace HO_170001 := Aside0.mk (Kd.V_afterv (ok := (fun k_ => ((P0_1_ k_ ∨ P0_3_ k_) ∨ w.heap.size ≤ k_) ∧ k_ ≠ gb169 ∧ k_ ≠ gb178)) (by refine kV_ ?_; exact nfV_ gb178 HO_170001.out (fun _ hk => hk.2) (fun _ hk => ⟨⟨hk.1.1.1, ⟨hk.1.1.2.2, hk.1.2⟩⟩, hk.1.1.2.1⟩)) hg hat); replace HO_170003 := Aside0.mk (Kd.V_afterv (ok := (fun k_ => ((P0_1_ k_ ∨ P0_3_ k_) ∨ w.heap.size ≤ k_) ∧ k_ ≠ gb169 ∧ k_ ≠ gb178)) (by refine kV_ ?_; exact nfV_ gb178 HO_170003.out (fun _ hk => hk.2) (fun _ hk => ⟨⟨hk.1.1.1, ⟨hk.1.1.2.2, hk.1.2⟩⟩, hk.1.1.2.1⟩)) hg hat); replace BK169 := Aside0.mk (blk_grown (g := gb169) (o := .cells #[.int .i64 a0_0, .slice A0_1 l0_1.length c0_1, .slice (some ad177) l0_2.length c0_2, .slice A0_3 l0_3.length c0_3] 30 (0, 0)) (by exact kf_ BK169.out) hg (Kd.R_ne HO_3.out BK169.out (by decide))); replace BK178 := Aside0.mk (blk_grown (g := gb178) (o := .cells #[.int .i64 ((rd_T41 l0_2 x28_2).f0), .slice A177_1 ((rd_T41 l0_2 x28_2).f1).length c177_1] 41 (0, 0)) (by refine kb_ ?_; refine pz2 (cs := #[.int .i64 0, .slice none 0 0]) ?_; refine kb_ ?_; exact BK178.out) hg (Kd.R_ne HO_3.out BK178.out (by decide))); replace HB := Aside0.mk (hb); have HO181 := Aside0.mk (ho); clear HO_3; clear ho hb hg hat))
           go_roundg k2
           case measure => have := HJ1.out; have := HK2.out; omega
           case rel => exact ⟨(y179), (wrap64 (x28_2 + 1)), (by first | rfl | (simp; done) | (simp [*]; done)), H', ⟨by have := HJ1.out; have := HK2.out; omega⟩, ⟨kR_ HO181.out⟩, ⟨by refine kV_ ?_; exact Kd.V_mono HO_170001.out (fun _ hk => ⟨hk.1.1, ⟨hk.2, hk.1.2.1⟩⟩)⟩, ⟨by refine kV_ ?_; exact Kd.V_mono HO_170003.out (fun _ hk => ⟨hk.1.1, ⟨hk.2, hk.1.2.1⟩⟩)⟩, ⟨by refine kb_ ?_; exact BK169.out⟩, ⟨hbA_ HB.out⟩⟩
          ·rw [if_neg c23] at H
           exact absurd H (by simp)
        ·rw [if_neg c18] at H
         exact absurd H (by simp)
       ·rw [if_neg c17] at H
        exact absurd H (by simp)
      ·rw [if_neg c16] at H
       have c16b0 : decide (x28_2 < (l0_2.length : Int)) = false := decide_eq_false c16
       clear c16
       by_cases cB : x3_2.length < 17592186044416
       ·rw [if_pos cB] at H
        have LB := Aside0.mk cB; clear cB
        have hr_ := Aside0.mk (Option.some.inj H); clear H
        obtain ⟨Ao28, co28, eo28⟩ := Kd.R_slice HO_3.out
        subst eo28; have Z29 := zz4 BK169
        clear HO_170001 HO_170003
        have hmm := @run_makeMap Try.prog
        go_wp2
        have MS := Aside0.mk (MSet.made wr Try.prog 3 4)
        have HBL := Aside0.mk (below_size HB.out)
        replace HO_3 := Aside0.mk (Kd.R_alloc HO_3.out (.map #[] 0)); replace BK169 := Aside0.mk (blk_alloc BK169.out (.map #[] 0)); replace HB := Aside0.mk (below_alloc HB.out (.map #[] 0))
        generalize hbm_ : wr.heap.size = bm at MS HBL ⊢
        generalize wr.alloc (.map #[] 0) = wm at HO_3 BK169 HB MS ⊢
        clear hmm Z29 hbm_
        go_loopg [45] (x3_2.length + 1) (fun kq v45 w' => ∃ (x45_3 : Int) (seen : List Int), v45 = .int .i64 x45_3 ∧ Aside0 ((impl_ClientOk.met x3_2 a0_0 l0_1.length x45_3 (x3_2.drop x45_3.toNat) seen && ((x3_2.length : Int) == a0_0)) = r) ∧ Aside0 (0 ≤ x45_3 ∧ x45_3.toNat + kq = x3_2.length + 1 ∧ seen.length ≤ x45_3.toNat) ∧ Aside0 (Kd.R (Kd.int .i64) 3 w' w.heap.size (fun k_ => (w.heap.size ≤ k_)) (.slice Ao28 x3_2.length co28) x3_2) ∧ Aside0 (MSet Try.prog 3 4 w' bm seen) ∧ Aside0 (w'.heap[gb169]? = some (.cells #[.int .i64 a0_0, (.slice A0_1 l0_1.length c0_1), (.slice A0_2 l0_2.length c0_2), (.slice A0_3 l0_3.length c0_3)] 30 (0, 0))) ∧ Aside0 (Below w.heap.size w w'))
        case atStart => exact ⟨0, [], (by first | rfl | (simp; done)), hr_, ⟨Int.le_refl _, by simp, by simp⟩, HO_3, MS, BK169, HB⟩
        case round =>
         clear hr_ HO_3 MS BK169 HB
         obtain ⟨x45_3, seen, rfl, HA, HK3, HO_3, MS, BK169, HB⟩ := hrel
         by_cases c29 : x45_3 < (x3_2.length : Int)
         ·have c29b0 : decide (x45_3 < (x3_2.length : Int)) = true := decide_eq_true c29
          have c30b0 : decide (0 ≤ x45_3) = true := decide_eq_true HK3.out.1
          have HM := HA.out; clear HA
          rw [impl_ClientOk.rd_drop x3_2 x45_3 HK3.out.1 c29] at HM
          unfold impl_ClientOk.met at HM
          have C29 := Aside0.mk c29; clear c29
          obtain ⟨t195, A33⟩ := impl_ClientOk.inn_some (rd x3_2 x45_3) 0 (wrap64 (a0_0 - 1))
          replace HM := Aside0.mk HM; replace A33 := Aside0.mk A33
          have p194 : 0 ≤ (x45_3 : Int) := HK3.out.1
          have q194 : x45_3 < (x3_2.length : Int) := C29.out
          obtain ⟨ad194, e194, hx194_0⟩ := Kd.at_int (Kd.R_reads' HO_3.out).2.2 x45_3 p194 q194
          cases e194
          replace p194 := eq_true p194
          replace q194 := eq_true q194
          go_upto_region 15 with (fail)
          go_cut [80] (fun v80 wc => ∃ (x80_31 : Bool), v80 = .bool x80_31 ∧ Aside0 ((if x80_31 = true then false else (impl_ClientOk.met x3_2 a0_0 l0_1.length (x45_3 + 1) (x3_2.drop (x45_3 + 1).toNat) (rd x3_2 x45_3 :: seen) && ((x3_2.length : Int) == a0_0))) = r) ∧ Aside0 (x80_31 = false → (Lit.int .i64 (rd x3_2 x45_3)).wf = true) ∧ Aside0 (Kd.R (Kd.int .i64) 3 wc w.heap.size (fun k_ => (w.heap.size ≤ k_)) (.slice (some ad194) x3_2.length co28) x3_2) ∧ Aside0 (MSet Try.prog 3 4 wc bm seen) ∧ Aside0 (wc.heap[gb169]? = some (.cells #[.int .i64 a0_0, (.slice A0_1 l0_1.length c0_1), (.slice A0_2 l0_2.length c0_2), (.slice A0_3 l0_3.length c0_3)] 30 (0, 0))) ∧ Aside0 (Below w.heap.size w wc))
          case first =>
           by_cases c34 : t195 = true
           ·subst c34
            have hwf := impl_ClientOk.inn_wf A33.out
            replace HM := HM.out; rw [if_pos A33.out] at HM
            have hz_ : ∀ W : World, (zeroValue 4).run Try.prog W = .ok (.bool false) W := fun W => by kernel_rfl
            cases c35 : seen.contains (rd x3_2 x45_3) with
            | true =>
             rw [if_pos c35, Bool.false_and] at HM
             have hL : ∀ nd, (Instr.lookup 72 (.map (some bm)) (.int .i64 (rd x3_2 x45_3)) false).run Try.prog (wr.drewN nd) = .ok (.bool true) (wr.drewN nd) := fun nd => by have h_ := (MS.out.drewN nd).look Try.underlying3 Try.underlying4 Try.underlying72 (hz_ _) hwf; rw [c35] at h_; exact h_
             clear hz_ hwf; replace HM := Aside0.mk HM; clear c35; have Z36 := zz4 BK169
             go_wp2_with (first | ((with_reducible refine gate_callee (f := 49) rfl ?_); refine goesL_ (some 54) rfl rfl Try.func49 (by kernel_rfl) rfl #[.int .i64 (rd x3_2 x45_3), .int .i64 0, .int .i64 (wrap64 (a0_0 - 1))] rfl ar_ ?_; (with_reducible refine (impl_in.calls (rd x3_2 x45_3) 0 (wrap64 (a0_0 - 1)) true _ A33.out).mono ?_); rintro e w' ⟨rfl, ⟨nd, rfl⟩⟩; refine ⟨_, rfl, ?_⟩))
             go_meet
             case rel => exact ⟨true, (by first | rfl | (simp; done) | (simp [*]; done)), HM, ⟨fun h_ => by cases h_⟩, ⟨kR_ HO_3.out⟩, ⟨MS.out.drewN _⟩, ⟨by refine kb_ ?_; exact BK169.out⟩, ⟨hbA_ HB.out⟩⟩
            | false =>
             rw [if_neg (by rw [c35]; decide)] at HM
             have hL : ∀ nd, (Instr.lookup 72 (.map (some bm)) (.int .i64 (rd x3_2 x45_3)) false).run Try.prog (wr.drewN nd) = .ok (.bool false) (wr.drewN nd) := fun nd => by have h_ := (MS.out.drewN nd).look Try.underlying3 Try.underlying4 Try.underlying72 (hz_ _) hwf; rw [c35] at h_; exact h_
             replace HWF := Aside0.mk hwf; clear hz_ hwf; replace HM := Aside0.mk HM; clear c35
             by_cases c37 : x45_3 > 0
             ·have c37b0 : decide (0 < x45_3) = true := decide_eq_true c37
              by_cases c38 : x45_3 < (l0_1.length : Int)
              ·have c38b0 : decide (x45_3 < (l0_1.length : Int)) = true := decide_eq_true c38
               obtain ⟨ji39, hji39⟩ : ∃ j_ : Int, (wrap64 (x45_3 - 1)) = j_ := ⟨_, rfl⟩
               have hjv : ji39 = x45_3 - 1 := by rw [← hji39]; exact impl_ClientOk.wrap_pred c37 (by have := C29.out; have := LB.out; omega)
               have c40b0 : decide (0 ≤ (ji39)) = true := decide_eq_true (by omega)
               have c41b0 : decide ((ji39) < (x3_2.length : Int)) = true := decide_eq_true (by have := C29.out; omega)
               replace HM := HM.out; rw [hji39] at HM
               have C3 := Aside0.mk (And.intro c37 c38); clear c37 c38 hjv
               have hji39w : (IntKind.i64.wrap (x45_3 - 1)) = ji39 := (i64_w _).trans hji39
               replace HM := Aside0.mk HM
               have Z42 := zz4 BK169
               go_wp2_with (first | ((with_reducible refine gate_callee (f := 49) rfl ?_); refine goesL_ (some 54) rfl rfl Try.func49 (by kernel_rfl) rfl #[.int .i64 (rd x3_2 x45_3), .int .i64 0, .int .i64 (wrap64 (a0_0 - 1))] rfl ar_ ?_; (with_reducible refine (impl_in.calls (rd x3_2 x45_3) 0 (wrap64 (a0_0 - 1)) true _ A33.out).mono ?_); rintro e w' ⟨rfl, ⟨nd, rfl⟩⟩; refine ⟨_, rfl, ?_⟩; have p196 : 0 ≤ ((ji39) : Int) := of_decide_eq_true (by first | (with_reducible assumption) | assumption); have q196 : (ji39) < (x3_2.length : Int) := of_decide_eq_true (by first | (with_reducible assumption) | assumption); obtain ⟨ad196, e196, hx196_0⟩ := Kd.at_int (Kd.R_reads' HO_3.out).2.2 (ji39) p196 q196; obtain rfl : ad194 = ad196 := (by injection e196); replace p196 := eq_true p196; replace q196 := eq_true q196))
               first | go_meet | ((try simp only [← hji39]); go_meet)
               case rel => exact ⟨(decide ((rd x3_2 (ji39)) ≥ (rd x3_2 x45_3))), (by first | rfl | (simp; done) | (simp only [← hji39] <;> (first | rfl | simp)) | (simp [*]; done)), ⟨by have h_ := HM.out; by_cases hc_ : rd x3_2 ji39 ≥ rd x3_2 x45_3; (· rw [if_pos ⟨C3.out.1, C3.out.2, hc_⟩, Bool.false_and] at h_; rw [if_pos (decide_eq_true hc_)]; exact h_); (· rw [if_neg (fun h => hc_ h.2.2)] at h_; rw [if_neg (by rw [decide_eq_false hc_]; decide)]; exact h_)⟩, ⟨fun _ => HWF.out⟩, ⟨kR_ HO_3.out⟩, ⟨MS.out.drewN _⟩, ⟨by refine kb_ ?_; exact BK169.out⟩, ⟨hbA_ HB.out⟩⟩
              ·have c38b0 : decide (x45_3 < (l0_1.length : Int)) = false := decide_eq_false c38
               replace HM := HM.out; rw [if_neg (fun h => c38 h.2.1)] at HM; clear c38 c37
               replace HM := Aside0.mk HM; have Z43 := zz4 BK169
               go_wp2_with (first | ((with_reducible refine gate_callee (f := 49) rfl ?_); refine goesL_ (some 54) rfl rfl Try.func49 (by kernel_rfl) rfl #[.int .i64 (rd x3_2 x45_3), .int .i64 0, .int .i64 (wrap64 (a0_0 - 1))] rfl ar_ ?_; (with_reducible refine (impl_in.calls (rd x3_2 x45_3) 0 (wrap64 (a0_0 - 1)) true _ A33.out).mono ?_); rintro e w' ⟨rfl, ⟨nd, rfl⟩⟩; refine ⟨_, rfl, ?_⟩))
               go_meet
               case rel => exact ⟨false, (by first | rfl | (simp; done) | (simp [*]; done)), HM, ⟨fun _ => HWF.out⟩, ⟨kR_ HO_3.out⟩, ⟨MS.out.drewN _⟩, ⟨by refine kb_ ?_; exact BK169.out⟩, ⟨hbA_ HB.out⟩⟩
             ·have c37b0 : decide (0 < x45_3) = false := decide_eq_false c37
              replace HM := HM.out; rw [if_neg (fun h => c37 h.1)] at HM; clear c37
              replace HM := Aside0.mk HM; have Z44 := zz4 BK169
              go_wp2_with (first | ((with_reducible refine gate_callee (f := 49) rfl ?_); refine goesL_ (some 54) rfl rfl Try.func49 (by kernel_rfl) rfl #[.int .i64 (rd x3_2 x45_3), .int .i64 0, .int .i64 (wrap64 (a0_0 - 1))] rfl ar_ ?_; (with_reducible refine (impl_in.calls (rd x3_2 x45_3) 0 (wrap64 (a0_0 - 1)) true _ A33.out).mono ?_); rintro e w' ⟨rfl, ⟨nd, rfl⟩⟩; refine ⟨_, rfl, ?_⟩))
              go_meet
              case rel => exact ⟨false, (by first | rfl | (simp; done) | (simp [*]; done)), HM, ⟨fun _ => HWF.out⟩, ⟨kR_ HO_3.out⟩, ⟨MS.out.drewN _⟩, ⟨by refine kb_ ?_; exact BK169.out⟩, ⟨hbA_ HB.out⟩⟩
           ·replace c34 := Bool.eq_false_iff.mpr c34
            subst c34
            replace HM := HM.out; rw [if_neg (by rw [A33.out]; decide), Bool.false_and] at HM
            replace HM := Aside0.mk HM; have Z45 := zz4 BK169
            go_wp2_with (first | ((with_reducible refine gate_callee (f := 49) rfl ?_); refine goesL_ (some 54) rfl rfl Try.func49 (by kernel_rfl) rfl #[.int .i64 (rd x3_2 x45_3), .int .i64 0, .int .i64 (wrap64 (a0_0 - 1))] rfl ar_ ?_; (with_reducible refine (impl_in.calls (rd x3_2 x45_3) 0 (wrap64 (a0_0 - 1)) false _ A33.out).mono ?_); rintro e w' ⟨rfl, ⟨nd, rfl⟩⟩; refine ⟨_, rfl, ?_⟩))
            go_meet
            case rel => exact ⟨true, (by first | rfl | (simp; done) | (simp [*]; done)), HM, ⟨fun h_ => by cases h_⟩, ⟨kR_ HO_3.out⟩, ⟨MS.out.drewN _⟩, ⟨by refine kb_ ?_; exact BK169.out⟩, ⟨hbA_ HB.out⟩⟩
          case rest =>
           clear HM A33 HO_3 MS BK169 HB hx194_0
           obtain ⟨x80_31, rfl, HA, HWF, HO_3, MS, BK169, HB⟩ := hcut
           cases x80_31 with
           | true =>
            have H := HA.out; clear HA
            rw [if_pos rfl] at H
            subst H
            go_wp2
            go_ret
            exact ⟨by first | rfl | (simp [*]; done), hbA_ HB.out⟩
           | false =>
            have H := HA.out; clear HA
            rw [if_neg (by decide)] at H
            have H := Aside0.mk H
            have hn_ : seen.length < maxLen := by have := HK3.out; have := C29.out; have := LB.out; unfold maxLen; omega
            have HN := Aside0.mk hn_; clear hn_
            have hwf_ := HWF.out rfl
            replace HWF := Aside0.mk hwf_; clear hwf_
            go_wp2_with (first | (at_mapUpdate; refine wpList_mapUpdate_set _ rfl (.tmp 81) (.tmp 82) 72 3 4 rfl Try.underlying3 Try.underlying4 Try.underlying72 bm seen rfl MS.out HN.out (rd x3_2 x45_3) rfl HWF.out ?_; intro wn MS2 hgrow; replace HO_3 := Aside0.mk (Kd.R_grown2 HO_3.out rfl hgrow (fun k_ hk_ => by have h_ := MS.out.ne_row HO_3.out; rw [hk_] at h_; exact h_)); replace BK169 := Aside0.mk (blk_grown BK169.out hgrow (MS.out.ne_blk BK169.out)); replace HB := Aside0.mk (pw_below_grown HB.out _ (below_size HB.out) hgrow (fun k_ hk_ => by injection hk_ with hk_; rw [← hk_]; exact HBL.out)); replace MS := Aside0.mk MS2; clear MS2 hgrow))
            go_roundg (gk - 1)
            case measure => have := HK3.out; have := C29.out; omega
            case rel =>
             have hw_ : wrap64 (x45_3 + 1) = x45_3 + 1 := impl_ClientOk.wrap_succ HK3.out.1 (by have := C29.out; have := LB.out; omega)
             exact ⟨(wrap64 (x45_3 + 1)), _, (by first | rfl | (simp; done) | (simp [*]; done)), by rw [hw_]; exact H, ⟨by have := HK3.out; have := C29.out; rw [hw_]; clear hw_; refine ⟨?_, ?_, ?_⟩ <;> (try simp only [List.length_cons]) <;> omega⟩, HO_3, MS, BK169, HB⟩
         ·have c29b0 : decide (x45_3 < (x3_2.length : Int)) = false := decide_eq_false c29
          have HM := HA.out; clear HA
          rw [List.drop_eq_nil_of_le (by have := HK3.out.1; omega)] at HM
          unfold impl_ClientOk.met at HM
          rw [Bool.true_and] at HM
          clear c29
          subst HM
          have Z47 := zz4 BK169
          go_wp2
          go_ret
          exact ⟨by first | rfl | (simp [errW_none, errW_some] <;> rfl) | (simp [*, errW_none, errW_some] <;> rfl), hbA_ HB.out⟩
       ·rw [if_neg cB] at H
        exact absurd H (by simp)
set_option maxHeartbeats 8000000 in
theorem impl_ClientOk.calls (k : Nat) (a0_0 : Int) (A0_1 : Option Addr) (c0_1 : Nat) (l0_1 : List Int) (A0_2 : Option Addr) (c0_2 : Nat) (l0_2 : List (S41)) (A0_3 : Option Addr) (c0_3 : Nat) (l0_3 : List Int) (r : Bool) (w : World) (hr0_1 : Kd.C (Kd.int .i64) w A0_1 l0_1.length l0_1) (hc0_1 : l0_1.length ≤ c0_1) (hr0_2 : Kd.C k41 w A0_2 l0_2.length l0_2) (hc0_2 : l0_2.length ≤ c0_2) (hr0_3 : Kd.C (Kd.int .i64) w A0_3 l0_3.length l0_3) (hc0_3 : l0_3.length ≤ c0_3) (h : impl_ClientOk.f k a0_0 l0_1 l0_2 l0_3 = some r) :
    Calls Try.prog 14 #[.agg #[.int .i64 a0_0, .slice A0_1 l0_1.length c0_1, .slice A0_2 l0_2.length c0_2, .slice A0_3 l0_3.length c0_3]] w fun e w' => e = .returned (.bool r) ∧ Below w.heap.size w w' := by
  refine (impl_ClientOk.callsV k a0_0 (fun _ => True) A0_1 c0_1 l0_1 A0_2 c0_2 l0_2 (fun _ => True) A0_3 c0_3 l0_3 r w (Kd.V_mk hc0_1 (fun W_ hW_ => Kd.Heap.C (Kd.heap_int .i64) (fun k_ hlt_ => hW_ k_ trivial hlt_) hr0_1)) hr0_2 hc0_2 (Kd.V_mk hc0_3 (fun W_ hW_ => Kd.Heap.C (Kd.heap_int .i64) (fun k_ hlt_ => hW_ k_ trivial hlt_) hr0_3)) h).mono ?_
  rintro e w' ⟨rfl, hb⟩
  exact ⟨rfl, hb⟩
theorem impl_Words.calls (A0 : Option Addr) (c0 n0 : Nat) (w : World) (hc : n0 ≤ c0) : Calls Try.prog 65 #[.slice A0 n0 c0] w fun e w' => e = .returned (.slice A0 n0 n0) ∧ w' = w := by
  go_enter Try.func65, Try.ntmps65
  go_wp2
  go_ret
  exact ⟨rfl, rfl⟩
theorem slices_Clip_byte_byte.calls (A0 : Option Addr) (c0 n0 : Nat) (w : World) (hc : n0 ≤ c0) : Calls Try.prog 75 #[.slice A0 n0 c0] w fun e w' => e = .returned (.slice A0 n0 n0) ∧ w' = w := by
  go_enter Try.func75, Try.ntmps75
  go_wp2
  go_ret
  exact ⟨rfl, rfl⟩
def impl_clone_byte.f (l0 : List Int) : Option (List Int) := if l0.length * 1 ≤ 140737488355328 then some l0 else none
theorem impl_clone_byte.calls (A0 : Option Addr) (c0 : Nat) (l0 : List Int) (r : List Int) (w : World) (hr0 : Kd.C (Kd.int .u8) w A0 l0.length l0) (hc0 : l0.length ≤ c0) (h : impl_clone_byte.f l0 = some r) :
    Calls Try.prog 66 #[.slice A0 l0.length c0] w fun e w' => ∃ v0_ : Value, e = .returned (v0_) ∧ Kd.R (Kd.int .u8) 5 w' w.heap.size (fun _ => True) v0_ r ∧ Below w.heap.size w w' := by
  obtain ⟨hle, rfl⟩ : l0.length * 1 ≤ 140737488355328 ∧ l0 = r := by
    unfold impl_clone_byte.f at h; split at h
    · exact ⟨by assumption, Option.some.inj h⟩
    · cases h
  have hm := hr0.2.1
  have HR := Aside0.mk hr0; clear hr0 h
  by_cases h0 : l0.length = 0
  · have hb : ((l0.length : Int) == 0) = true := by simp [h0]
    have HL : Aside0 (l0 = []) := ⟨List.eq_nil_of_length_eq_zero h0⟩
    clear h0
    go_enter Try.func66, Try.ntmps66
    go_wp2
    go_ret
    refine ⟨_, rfl, ?_, Below.refl _ _⟩
    rw [HL.out]; exact Kd.R_nil _ _ _ _ _
  · have hb : ((l0.length : Int) == 0) = false := by simp; intro hh; exact h0 (by simp [hh])
    clear h0
    go_enter Try.func66, Try.ntmps66
    go_wp2_with (first
      | ((with_reducible refine gate_dst (N := 7) rfl ?_); refine Kd.R_append_rows (Kd.int .u8) (Rr := (Kd.int .u8).K w) w.heap.size rfl _ _ 34 5 (.int .u8 0) 1 rfl Try.underlying34 info5 rfl (by decide) (by decide) (.slice none 0 0) [] l0 A0 l0.length c0 (fun _ => True) (fun _ => True) rfl rfl (Kd.R_nil _ _ _ _ _) HR.out (fun x cs h => h) (fun k _ => ⟨trivial, by simp [Value.ownBlock]⟩) (fun _ _ => trivial) (Below.refl _ _) (Nat.le_refl _) (by simpa using hle) ?_; intro v1 w1 ho hb1 hg hat; rw [List.nil_append] at ho; obtain ⟨A1, c1, hv1, hc1, _⟩ := Kd.R_reads ho; have HO := Aside0.mk ho; clear ho hat hg; have HB := Aside0.mk hb1; clear hb1; subst hv1)
      | (go_at_call 75; (with_reducible refine (slices_Clip_byte_byte.calls _ _ _ _ hc1).mono ?_); rintro e w' ⟨rfl, rfl⟩))
    go_ret
    exact ⟨_, rfl, Kd.R_clip HO.out (Nat.le_refl _) hc1, HB.out⟩
theorem slices_Clip_int_int.calls (A0 : Option Addr) (c0 n0 : Nat) (w : World) (hc : n0 ≤ c0) : Calls Try.prog 76 #[.slice A0 n0 c0] w fun e w' => e = .returned (.slice A0 n0 n0) ∧ w' = w := by
  go_enter Try.func76, Try.ntmps76
  go_wp2
  go_ret
  exact ⟨rfl, rfl⟩
def impl_clone_int.f (l0 : List Int) : Option (List Int) := if l0.length * 8 ≤ 140737488355328 then some l0 else none
theorem impl_clone_int.calls (A0 : Option Addr) (c0 : Nat) (l0 : List Int) (r : List Int) (w : World) (hr0 : Kd.C (Kd.int .i64) w A0 l0.length l0) (hc0 : l0.length ≤ c0) (h : impl_clone_int.f l0 = some r) :
    Calls Try.prog 72 #[.slice A0 l0.length c0] w fun e w' => ∃ v0_ : Value, e = .returned (v0_) ∧ Kd.R (Kd.int .i64) 3 w' w.heap.size (fun _ => True) v0_ r ∧ Below w.heap.size w w' := by
  obtain ⟨hle, rfl⟩ : l0.length * 8 ≤ 140737488355328 ∧ l0 = r := by
    unfold impl_clone_int.f at h; split at h
    · exact ⟨by assumption, Option.some.inj h⟩
    · cases h
  have hm := hr0.2.1
  have HR := Aside0.mk hr0; clear hr0 h
  by_cases h0 : l0.length = 0
  · have hb : ((l0.length : Int) == 0) = true := by simp [h0]
    have HL : Aside0 (l0 = []) := ⟨List.eq_nil_of_length_eq_zero h0⟩
    clear h0
    go_enter Try.func72, Try.ntmps72
    go_wp2
    go_ret
    refine ⟨_, rfl, ?_, Below.refl _ _⟩
    rw [HL.out]; exact Kd.R_nil _ _ _ _ _
  · have hb : ((l0.length : Int) == 0) = false := by simp; intro hh; exact h0 (by simp [hh])
    clear h0
    go_enter Try.func72, Try.ntmps72
    go_wp2_with (first
      | ((with_reducible refine gate_dst (N := 7) rfl ?_); refine Kd.R_append_rows (Kd.int .i64) (Rr := (Kd.int .i64).K w) w.heap.size rfl _ _ 22 3 (.int .i64 0) 8 rfl Try.underlying22 info3 rfl (by decide) (by decide) (.slice none 0 0) [] l0 A0 l0.length c0 (fun _ => True) (fun _ => True) rfl rfl (Kd.R_nil _ _ _ _ _) HR.out (fun x cs h => h) (fun k _ => ⟨trivial, by simp [Value.ownBlock]⟩) (fun _ _ => trivial) (Below.refl _ _) (Nat.le_refl _) (by simpa using hle) ?_; intro v1 w1 ho hb1 hg hat; rw [List.nil_append] at ho; obtain ⟨A1, c1, hv1, hc1, _⟩ := Kd.R_reads ho; have HO := Aside0.mk ho; clear ho hat hg; have HB := Aside0.mk hb1; clear hb1; subst hv1)
      | (go_at_call 76; (with_reducible refine (slices_Clip_int_int.calls _ _ _ _ hc1).mono ?_); rintro e w' ⟨rfl, rfl⟩))
    go_ret
    exact ⟨_, rfl, Kd.R_clip HO.out (Nat.le_refl _) hc1, HB.out⟩
def impl_Client_copy.l0 : Nat → List (S41) → Int → Int → Int → List Int → List (S41) → List Int → Option (Int × List Int × (List (S41)) × List Int)
 | 0, _, _, _, _, _, _, _ => none
 | k + 1, x16, x17, x18, x191000, x191001, x191002, x191003 => if x18 < x17 then (if 0 ≤ x18 then (if x18 < (x16.length : Int) then ((impl_clone_byte.f ((rd_T41 x16 x18).f1)).bind fun t193 => (if x191002.length < 4398046511104 then (impl_Client_copy.l0 k x16 x17 (wrap64 (x18 + 1)) x191000 x191001 (x191002 ++ [(⟨(rd_T41 x16 x18).f0, t193⟩ : S41)]) x191003) else (none))) else (none)) else (none)) else (some (x191000, x191001, x191002, x191003))
def impl_Client_copy.f (k : Nat) (a0_0 : Int) (l0_1 : List Int) (l0_2 : List (S41)) (l0_3 : List Int) : Option (Int × List Int × (List (S41)) × List Int) := (impl_clone_int.f l0_1).bind fun t184 => ((impl_clone_int.f l0_3).bind fun t187 => (impl_Client_copy.l0 k l0_2 (l0_2.length : Int) 0 a0_0 t184 ([] : List (S41)) t187))
theorem impl_Client_copy.mono_l : ∀ k, (∀ y0 y1 y2 y3 y4 y5 y6, LeO (impl_Client_copy.l0 k y0 y1 y2 y3 y4 y5 y6) (impl_Client_copy.l0 (k + 1) y0 y1 y2 y3 y4 y5 y6))
 | 0 => fun _ _ _ _ _ _ _ r h => by simp [impl_Client_copy.l0] at h
 | k + 1 => by
  have ih0 := impl_Client_copy.mono_l k
  ·intro y0 y1 y2 y3 y4 y5 y6
   unfold impl_Client_copy.l0
   repeat' first | (with_reducible first | apply ih0 | exact LeO.refl _ | exact LeO.none _ | refine LeO.ite ?_ ?_ | refine LeO.bind ?_ fun _ => ?_) | apply ih0 | exact LeO.none _ | refine LeO.ite ?_ ?_ | refine LeO.bind ?_ fun _ => ?_
theorem impl_Client_copy.mono : ∀ a0 a1 a2 a3 k, LeO (impl_Client_copy.f k a0 a1 a2 a3) (impl_Client_copy.f (k + 1) a0 a1 a2 a3) := by
 intro a0 a1 a2 a3 k
 have ih0 := impl_Client_copy.mono_l k
 unfold impl_Client_copy.f
 repeat' first | (with_reducible first | apply ih0 | exact LeO.refl _ | exact LeO.none _ | refine LeO.ite ?_ ?_ | refine LeO.bind ?_ fun _ => ?_) | apply ih0 | exact LeO.none _ | refine LeO.ite ?_ ?_ | refine LeO.bind ?_ fun _ => ?_
def impl_Client_copy.T1 : Bool × List (List Nat × List Nat) := (true, [([], []), ([0], [0]), ([], []), ([2], [2]), ([3], [3]), ([], []), ([5], [5]), ([6, 4], [6]), ([1, 4, 7], [1, 4, 7]), ([], []), ([9, 8, 7, 0, 1, 2, 3, 4, 5, 6, 7, 8, 9], [8, 9])])
def impl_Client_copy.B1 : List Nat := [0, 1, 0, 4, 12, 0, 32, 124, 255, 0, 1023]
theorem impl_Client_copy.tab1 : rtab .any (opsOf Try.f54 1) = impl_Client_copy.T1 := by kernel_rfl
theorem impl_Client_copy.bits1 : waitsOk impl_Client_copy.T1.2 impl_Client_copy.B1 = true := by kernel_rfl
def impl_Client_copy.T5 : Bool × List (List Nat × List Nat) := (true, [([], []), ([0], [0]), ([], []), ([2], [2]), ([], []), ([4], [4]), ([5], [5]), ([3, 6], [3, 6]), ([7], [7]), ([1, 8, 6], [1, 8]), ([0, 1, 2, 3, 4, 5, 6, 7, 8, 9], []), ([10, 9, 9, 0, 1, 2, 3, 4, 5, 6, 7, 8, 9], [9, 10])])
def impl_Client_copy.B5 : List Nat := [0, 1, 0, 4, 0, 16, 48, 124, 252, 511, 1023, 2047]
theorem impl_Client_copy.tab5 : rtab .any (opsOf Try.f54 5) = impl_Client_copy.T5 := by kernel_rfl
theorem impl_Client_copy.bits5 : waitsOk impl_Client_copy.T5.2 impl_Client_copy.B5 = true := by kernel_rfl
set_option maxHeartbeats 8000000 in
set_option maxRecDepth 100000 in
theorem impl_Client_copy.calls (k : Nat) (a0_0 : Int) (A0_1 : Option Addr) (c0_1 : Nat) (l0_1 : List Int) (A0_2 : Option Addr) (c0_2 : Nat) (l0_2 : List (S41)) (A0_3 : Option Addr) (c0_3 : Nat) (l0_3 : List Int) (r1 : Int) (r2 : List Int) (r3 : List (S41)) (r4 : List Int) (w : World) (hr0_1 : Kd.C (Kd.int .i64) w A0_1 l0_1.length l0_1) (hc0_1 : l0_1.length ≤ c0_1) (hr0_2 : Kd.C k41 w A0_2 l0_2.length l0_2) (hc0_2 : l0_2.length ≤ c0_2) (hr0_3 : Kd.C (Kd.int .i64) w A0_3 l0_3.length l0_3) (hc0_3 : l0_3.length ≤ c0_3) (h : impl_Client_copy.f k a0_0 l0_1 l0_2 l0_3 = some (r1, r2, r3, r4)) :
  Calls Try.prog 54 #[.agg #[.int .i64 a0_0, .slice A0_1 l0_1.length c0_1, .slice A0_2 l0_2.length c0_2, .slice A0_3 l0_3.length c0_3]] w fun e w' => ∃ v1_ v2_ v3_ : Value, e = .returned (.agg #[.int .i64 r1, v1_, v2_, v3_]) ∧ Kd.R (Kd.int .i64) 3 w' w.heap.size (fun k_ => some k_ ≠ (v3_ : Value).ownBlock) v1_ r2 ∧ Kd.S k41 41 w' w.heap.size (fun _ => True) v2_ r3 ∧ Kd.R (Kd.int .i64) 3 w' w.heap.size (fun k_ => some k_ ≠ (v1_ : Value).ownBlock) v3_ r4 ∧ Below w.heap.size w w' := by
 have hu30 := Try.underlying30; have hu41 := Try.underlying41; have HR0_1 := Aside0.mk hr0_1; have HC0_1 := Aside0.mk hc0_1; clear hr0_1 hc0_1; have HR0_2 := Aside0.mk hr0_2; have HC0_2 := Aside0.mk hc0_2; clear hr0_2 hc0_2; have HR0_3 := Aside0.mk hr0_3; have HC0_3 := Aside0.mk hc0_3; clear hr0_3 hc0_3
 have HB := Aside0.mk (Below.refl w.heap.size w)
 have H : ((impl_clone_int.f l0_1).bind fun t184 => ((impl_clone_int.f l0_3).bind fun t187 => (impl_Client_copy.l0 k l0_2 (l0_2.length : Int) 0 a0_0 t184 ([] : List (S41)) t187))) = some (r1, r2, r3, r4) := h
 clear h
 replace H := Option.bind_eq_some_iff.mp H
 obtain ⟨t184, A20, H⟩ := H
 (try dsimp only at H)
 have A2 := Aside0.mk A20; clear A20
 replace H := Option.bind_eq_some_iff.mp H
 obtain ⟨t187, A30, H⟩ := H
 (try dsimp only at H)
 have A3 := Aside0.mk A30; clear A30
 have H' := Aside0.mk H
 clear H
 go_enter Try.func54, Try.ntmps54
 try go_wp2_with (first | ((with_reducible refine gate_dst (N := 1) rfl ?_); refine box_ (N := 1) (cs := #[.int .i64 a0_0, .slice A0_1 l0_1.length c0_1, .slice A0_2 l0_2.length c0_2, .slice A0_3 l0_3.length c0_3]) (t := 30) (fun gb182 hg w4 hbox hb => ?_); have BK182 := Aside0.mk (hbox); have GW182 := ge_ hg HB; have GE182 := ge_ hg HB; replace HB := (bs_ HB hb); clear hb hbox hg) | ((with_reducible refine gate_dst (N := 2) rfl ?_); refine box_ (N := 2) (cs := #[.int .i64 0, .slice none 0 0, .slice none 0 0, .slice none 0 0]) (t := 30) (fun gb183 hg w5 hbox hb => ?_); have BK183 := Aside0.mk (hbox); have GW183 := ge_ hg HB; have GE183 := ge_ hg HB; replace HB := (bs_ HB hb); have NB182_183 := nl_ hg BK182; have NB183_182 := ng_ hg BK182; replace BK182 := (bbA_ BK182 hb); clear hb hbox hg))
 replace BK182 := Aside0.mk (blk_drew BK182.out); replace BK183 := Aside0.mk (blk_drew BK183.out); replace HB := (bd_ HB)
 refine start_ (n := 11) (S := fun w' => w'.cell? ⟨gb182, 0, none⟩ = some (.int .i64 a0_0) ∧ w'.cell? ⟨gb182, 1, none⟩ = some (.slice A0_1 l0_1.length c0_1) ∧ w'.cell? ⟨gb182, 2, none⟩ = some (.slice A0_2 l0_2.length c0_2) ∧ w'.cell? ⟨gb182, 3, none⟩ = some (.slice A0_3 l0_3.length c0_3)) (ds := []) #[false, false, false, false, false, false, false, false, false, false, false] (by kernel_rfl) rfl rfl (cz4 BK182.out) (fun hHeld => ?_); refine with_tabW impl_Client_copy.tab1 impl_Client_copy.bits1 (fun HT_ HW_ => ?_)
 generalize w5.drew = w6 at BK182 BK183 HB hHeld ⊢
 refine pu_ (i := 0) (N := some 6) HT_ ?_; refine pu_ (i := 2) (N := some 8) HT_ ?_; refine pu_ (i := 5) (N := some 11) HT_ ?_; refine tk_ (i := 1) (N := some 7) HT_ HW_ hHeld ?_; refine tk_ (i := 3) (N := some 9) HT_ HW_ hHeld ?_; refine tk_ (i := 6) (N := some 12) HT_ HW_ hHeld ?_
 refine join_ (σ := Value × Value × Nat) 1 #[true, true, true, true, true, true, true, true, true, true, false] (fun s_ => [(10, s_.1), (13, s_.2.1), (3, .pointer (some ⟨s_.2.2, 0, none⟩)), (14, .agg #[.int .i64 a0_0, s_.1, .slice none 0 0, s_.2.1])]) (fun s_ w' => (w'.cell? ⟨gb182, 0, none⟩ = some (.int .i64 a0_0) ∧ w'.cell? ⟨gb182, 1, none⟩ = some (.slice A0_1 l0_1.length c0_1) ∧ w'.cell? ⟨gb182, 2, none⟩ = some (.slice A0_2 l0_2.length c0_2) ∧ w'.cell? ⟨gb182, 3, none⟩ = some (.slice A0_3 l0_3.length c0_3)) ∧ (Kd.R (Kd.int .i64) 3 w' w.heap.size (fun k_ => some k_ ≠ (s_.2.1 : Value).ownBlock) s_.1 t184) ∧ (Kd.R (Kd.int .i64) 3 w' w.heap.size (fun k_ => some k_ ≠ (s_.1 : Value).ownBlock) s_.2.1 t187) ∧ (w'.heap[gb182]? = some (.cells #[.int .i64 a0_0, .slice A0_1 l0_1.length c0_1, .slice A0_2 l0_2.length c0_2, .slice A0_3 l0_3.length c0_3] 30 (0, 0))) ∧ (w'.heap[gb183]? = some (.cells #[.int .i64 0, .slice none 0 0, .slice none 0 0, .slice none 0 0] 30 (0, 0))) ∧ (w'.heap[s_.2.2]? = some (.cells #[.int .i64 0, .slice none 0 0, .slice none 0 0, .slice none 0 0] 30 (0, 0))) ∧ (w.heap.size ≤ s_.2.2) ∧ (w.heap.size ≤ s_.2.2) ∧ (gb182 ≠ s_.2.2) ∧ (s_.2.2 ≠ gb182) ∧ (gb183 ≠ s_.2.2) ∧ (s_.2.2 ≠ gb183) ∧ (Below w.heap.size w w')) ?_ ?_
 rotate_left
 ·intro hCont
  refine two_ (i := 4) (j := 9) (Ni := some 10) (Nj := some 3) #[true, true, true, true, true, true, true, false, false, false, false] #[true, true, true, true, false, true, true, false, false, true, false] rfl rfl rfl rfl (two_of HT_.out (by kernel_rfl)) (by decide) (by decide) (fun K hK => ?_) (fun K hK => ?_)
  ·skip
   refine goes_ Try.func72 (by kernel_rfl) rfl #[.slice A0_1 l0_1.length c0_1] (by rfl) rfl rfl ar_ ?_
   with_reducible refine (impl_clone_int.calls _ _ l0_1 t184 _ ?side1 ?side2 A2.out).mono ?_
   (case side1 => exact kC_ (Kd.C_below HR0_1.out HB.out))
   (case side2 => exact HC0_1.out)
   rintro e w7 ⟨v185, rfl, ho0, hb⟩
   refine ⟨_, rfl, ?_⟩
   have HO186 := Aside0.mk (Kd.R_lower ho0 (below_size (hbA_ HB.out))); replace BK182 := (bbA_ BK182 hb); replace BK183 := (bbA_ BK183 hb); replace HB := (bs_ HB hb); (try clear hb); (try clear hb2); (try clear hk); (try clear hi); (try clear ho0)
   refine hK.out _ _ (cz4 BK182.out) (fun hHeld => ?_)
   clear hK K; refine nm_ 10 ?_
   refine two_ (i := 7) (j := 9) (Ni := some 13) (Nj := some 3) #[true, true, true, true, true, true, true, true, false, false, false] #[true, true, true, true, true, true, true, false, false, true, false] rfl rfl rfl rfl (two_of HT_.out (by kernel_rfl)) (by decide) (by decide) (fun K hK => ?_) (fun K hK => ?_)
   ·skip
    refine goes_ Try.func72 (by kernel_rfl) rfl #[.slice A0_3 l0_3.length c0_3] (by rfl) rfl rfl ar_ ?_
    with_reducible refine (impl_clone_int.calls _ _ l0_3 t187 _ ?side1 ?side2 A3.out).mono ?_
    (case side1 => exact kC_ (Kd.C_below HR0_3.out HB.out))
    (case side2 => exact HC0_3.out)
    rintro e w8 ⟨v188, rfl, ho0, hb⟩
    refine ⟨_, rfl, ?_⟩
    have HO189 := Aside0.mk (Kd.R_lower (Kd.R_new' ho0 (Kd.R_lt (kR_ HO186.out))) (below_size (hbA_ HB.out))); replace HO186 := Aside0.mk (Kd.R_elder' (kR_ HO186.out) (Kd.R_base ho0) hb); replace BK182 := (bbA_ BK182 hb); replace BK183 := (bbA_ BK183 hb); replace HB := (bs_ HB hb); (try clear hb); (try clear hb2); (try clear hk); (try clear hi); (try clear ho0)
    obtain ⟨Ao9, co9, eo9⟩ := Kd.R_slice HO189.out
    (first | subst eo9 | (injection eo9 with f1_ f2_ f3_; have f4_ := f1_.symm; have f5_ := f3_.symm; clear f1_ f2_ f3_; subst f4_; subst f5_))
    obtain ⟨Ao10, co10, eo10⟩ := Kd.R_slice HO186.out
    (first | subst eo10 | (injection eo10 with f1_ f2_ f3_; have f4_ := f1_.symm; have f5_ := f3_.symm; clear f1_ f2_ f3_; subst f4_; subst f5_))
    refine hK.out _ _ (cz4 BK182.out) (fun hHeld => ?_)
    clear hK K; refine nm_ 13 ?_; refine pu_ (i := 8) (N := some 14) HT_ ?_
    refine on_ (i := 9) (N := some 3) HT_ (fun K hK => ?_)
    refine box_step ?hg (N := 3) ?hd (cs := #[.int .i64 0, .slice none 0 0, .slice none 0 0, .slice none 0 0]) (t := 30) ?hr ?_; (case hd => rfl); (case hg => rfl); (case hr => first | (go_simp; done) | (go_simp; rfl))
    intro gb190 hg w11 hbox hb
    have n0_ := Aside0.mk (Kd.R_below (kR_ HO186.out) hb); have n1_ := Aside0.mk (Kd.R_below (kR_ HO189.out) hb); have n2_ := (bbA_ BK182 hb); have n3_ := (bbA_ BK183 hb); have n4_ := (bs_ HB hb); have n5_ := Aside0.mk (hbox); have n6_ := ge_ hg HB; have n7_ := ge_ hg HB; have n8_ := nl_ hg BK182; have n9_ := ng_ hg BK182; have n10_ := nl_ hg BK183; have n11_ := ng_ hg BK183; clear HO186 HO189 BK182 BK183 HB; have HO186 := n0_; have HO189 := n1_; have BK182 := n2_; have BK183 := n3_; have HB := n4_; have BK190 := n5_; have GW190 := n6_; have GE190 := n7_; have NB182_190 := n8_; have NB190_182 := n9_; have NB183_190 := n10_; have NB190_183 := n11_; clear n0_ n1_ n2_ n3_ n4_ n5_ n6_ n7_ n8_ n9_ n10_ n11_ hb hbox hg
    refine hK.out _ _ (cz4 BK182.out) (fun hHeld => ?_)
    clear hK K; refine nm_ 3 ?_
    exact norm_ (by simp only [putAll, Act.put, List.setIfInBounds_toArray, List.set_cons_zero, List.set_cons_succ]) (hCont (.slice Ao10 t184.length co10, .slice Ao9 t187.length co9, gb190) _ ⟨hHeld, (by refine kR_ ?_; first | exact Kd.R_mono HO186.out (fun _ hk => hk.2) | exact Kd.R_mono HO186.out (fun _ _ => trivial)), (by refine kR_ ?_; first | exact Kd.R_mono HO189.out (fun _ hk => hk.2) | exact Kd.R_mono HO189.out (fun _ _ => trivial)), (kb_ BK182.out), (kb_ BK183.out), (kb_ BK190.out), GW190.out, GE190.out, NB182_190.out, NB190_182.out, NB183_190.out, NB190_183.out, (hbA_ HB.out)⟩)
   ·skip
    refine box_step ?hg (N := 3) ?hd (cs := #[.int .i64 0, .slice none 0 0, .slice none 0 0, .slice none 0 0]) (t := 30) ?hr ?_; (case hd => rfl); (case hg => rfl); (case hr => first | (go_simp; done) | (go_simp; rfl))
    intro gb190 hg w8 hbox hb
    have n0_ := Aside0.mk (Kd.R_below (kR_ HO186.out) hb); have n1_ := (bbA_ BK182 hb); have n2_ := (bbA_ BK183 hb); have n3_ := (bs_ HB hb); have n4_ := Aside0.mk (hbox); have n5_ := ge_ hg HB; have n6_ := ge_ hg HB; have n7_ := nl_ hg BK182; have n8_ := ng_ hg BK182; have n9_ := nl_ hg BK183; have n10_ := ng_ hg BK183; clear HO186 BK182 BK183 HB; have HO186 := n0_; have BK182 := n1_; have BK183 := n2_; have HB := n3_; have BK190 := n4_; have GW190 := n5_; have GE190 := n6_; have NB182_190 := n7_; have NB190_182 := n8_; have NB183_190 := n9_; have NB190_183 := n10_; clear n0_ n1_ n2_ n3_ n4_ n5_ n6_ n7_ n8_ n9_ n10_ hb hbox hg
    refine hK.out _ _ (cz4 BK182.out) (fun hHeld => ?_)
    clear hK K; refine nm_ 3 ?_
    refine on_ (i := 7) (N := some 13) HT_ (fun K hK => ?_)
    refine goes_ Try.func72 (by kernel_rfl) rfl #[.slice A0_3 l0_3.length c0_3] (by rfl) rfl rfl ar_ ?_
    with_reducible refine (impl_clone_int.calls _ _ l0_3 t187 _ ?side1 ?side2 A3.out).mono ?_
    (case side1 => exact kC_ (Kd.C_below HR0_3.out HB.out))
    (case side2 => exact HC0_3.out)
    rintro e w9 ⟨v188, rfl, ho0, hb⟩
    refine ⟨_, rfl, ?_⟩
    have HO189 := Aside0.mk (Kd.R_lower (Kd.R_new' ho0 (Kd.R_lt (kR_ HO186.out))) (below_size (hbA_ HB.out))); replace HO186 := Aside0.mk (Kd.R_elder' (kR_ HO186.out) (Kd.R_base ho0) hb); replace BK182 := (bbA_ BK182 hb); replace BK183 := (bbA_ BK183 hb); replace BK190 := (bbA_ BK190 hb); replace HB := (bs_ HB hb); (try clear hb); (try clear hb2); (try clear hk); (try clear hi); (try clear ho0)
    obtain ⟨Ao10, co10, eo10⟩ := Kd.R_slice HO189.out
    (first | subst eo10 | (injection eo10 with f1_ f2_ f3_; have f4_ := f1_.symm; have f5_ := f3_.symm; clear f1_ f2_ f3_; subst f4_; subst f5_))
    obtain ⟨Ao11, co11, eo11⟩ := Kd.R_slice HO186.out
    (first | subst eo11 | (injection eo11 with f1_ f2_ f3_; have f4_ := f1_.symm; have f5_ := f3_.symm; clear f1_ f2_ f3_; subst f4_; subst f5_))
    refine hK.out _ _ (cz4 BK182.out) (fun hHeld => ?_)
    clear hK K; refine nm_ 13 ?_; refine pu_ (i := 8) (N := some 14) HT_ ?_
    exact norm_ (by simp only [putAll, Act.put, List.setIfInBounds_toArray, List.set_cons_zero, List.set_cons_succ]) (hCont (.slice Ao11 t184.length co11, .slice Ao10 t187.length co10, gb190) _ ⟨hHeld, (by refine kR_ ?_; first | exact Kd.R_mono HO186.out (fun _ hk => hk.2) | exact Kd.R_mono HO186.out (fun _ _ => trivial)), (by refine kR_ ?_; first | exact Kd.R_mono HO189.out (fun _ hk => hk.2) | exact Kd.R_mono HO189.out (fun _ _ => trivial)), (kb_ BK182.out), (kb_ BK183.out), (kb_ BK190.out), GW190.out, GE190.out, NB182_190.out, NB190_182.out, NB183_190.out, NB190_183.out, (hbA_ HB.out)⟩)
  ·skip
   refine box_step ?hg (N := 3) ?hd (cs := #[.int .i64 0, .slice none 0 0, .slice none 0 0, .slice none 0 0]) (t := 30) ?hr ?_; (case hd => rfl); (case hg => rfl); (case hr => first | (go_simp; done) | (go_simp; rfl))
   intro gb190 hg w7 hbox hb
   have n0_ := (bbA_ BK182 hb); have n1_ := (bbA_ BK183 hb); have n2_ := (bs_ HB hb); have n3_ := Aside0.mk (hbox); have n4_ := ge_ hg HB; have n5_ := ge_ hg HB; have n6_ := nl_ hg BK182; have n7_ := ng_ hg BK182; have n8_ := nl_ hg BK183; have n9_ := ng_ hg BK183; clear BK182 BK183 HB; have BK182 := n0_; have BK183 := n1_; have HB := n2_; have BK190 := n3_; have GW190 := n4_; have GE190 := n5_; have NB182_190 := n6_; have NB190_182 := n7_; have NB183_190 := n8_; have NB190_183 := n9_; clear n0_ n1_ n2_ n3_ n4_ n5_ n6_ n7_ n8_ n9_ hb hbox hg
   refine hK.out _ _ (cz4 BK182.out) (fun hHeld => ?_)
   clear hK K; refine nm_ 3 ?_
   refine on_ (i := 4) (N := some 10) HT_ (fun K hK => ?_)
   refine goes_ Try.func72 (by kernel_rfl) rfl #[.slice A0_1 l0_1.length c0_1] (by rfl) rfl rfl ar_ ?_
   with_reducible refine (impl_clone_int.calls _ _ l0_1 t184 _ ?side1 ?side2 A2.out).mono ?_
   (case side1 => exact kC_ (Kd.C_below HR0_1.out HB.out))
   (case side2 => exact HC0_1.out)
   rintro e w8 ⟨v185, rfl, ho0, hb⟩
   refine ⟨_, rfl, ?_⟩
   have HO186 := Aside0.mk (Kd.R_lower ho0 (below_size (hbA_ HB.out))); replace BK182 := (bbA_ BK182 hb); replace BK183 := (bbA_ BK183 hb); replace BK190 := (bbA_ BK190 hb); replace HB := (bs_ HB hb); (try clear hb); (try clear hb2); (try clear hk); (try clear hi); (try clear ho0)
   refine hK.out _ _ (cz4 BK182.out) (fun hHeld => ?_)
   clear hK K; refine nm_ 10 ?_
   refine on_ (i := 7) (N := some 13) HT_ (fun K hK => ?_)
   refine goes_ Try.func72 (by kernel_rfl) rfl #[.slice A0_3 l0_3.length c0_3] (by rfl) rfl rfl ar_ ?_
   with_reducible refine (impl_clone_int.calls _ _ l0_3 t187 _ ?side1 ?side2 A3.out).mono ?_
   (case side1 => exact kC_ (Kd.C_below HR0_3.out HB.out))
   (case side2 => exact HC0_3.out)
   rintro e w9 ⟨v188, rfl, ho0, hb⟩
   refine ⟨_, rfl, ?_⟩
   have HO189 := Aside0.mk (Kd.R_lower (Kd.R_new' ho0 (Kd.R_lt (kR_ HO186.out))) (below_size (hbA_ HB.out))); replace HO186 := Aside0.mk (Kd.R_elder' (kR_ HO186.out) (Kd.R_base ho0) hb); replace BK182 := (bbA_ BK182 hb); replace BK183 := (bbA_ BK183 hb); replace BK190 := (bbA_ BK190 hb); replace HB := (bs_ HB hb); (try clear hb); (try clear hb2); (try clear hk); (try clear hi); (try clear ho0)
   obtain ⟨Ao10, co10, eo10⟩ := Kd.R_slice HO189.out
   (first | subst eo10 | (injection eo10 with f1_ f2_ f3_; have f4_ := f1_.symm; have f5_ := f3_.symm; clear f1_ f2_ f3_; subst f4_; subst f5_))
   obtain ⟨Ao11, co11, eo11⟩ := Kd.R_slice HO186.out
   (first | subst eo11 | (injection eo11 with f1_ f2_ f3_; have f4_ := f1_.symm; have f5_ := f3_.symm; clear f1_ f2_ f3_; subst f4_; subst f5_))
   refine hK.out _ _ (cz4 BK182.out) (fun hHeld => ?_)
   clear hK K; refine nm_ 13 ?_; refine pu_ (i := 8) (N := some 14) HT_ ?_
   exact norm_ (by simp only [putAll, Act.put, List.setIfInBounds_toArray, List.set_cons_zero, List.set_cons_succ]) (hCont (.slice Ao11 t184.length co11, .slice Ao10 t187.length co10, gb190) _ ⟨hHeld, (by refine kR_ ?_; first | exact Kd.R_mono HO186.out (fun _ hk => hk.2) | exact Kd.R_mono HO186.out (fun _ _ => trivial)), (by refine kR_ ?_; first | exact Kd.R_mono HO189.out (fun _ hk => hk.2) | exact Kd.R_mono HO189.out (fun _ _ => trivial)), (kb_ BK182.out), (kb_ BK183.out), (kb_ BK190.out), GW190.out, GE190.out, NB182_190.out, NB190_182.out, NB183_190.out, NB190_183.out, (hbA_ HB.out)⟩)
 rintro ⟨v185, v188, gb190⟩ w12 ⟨hS_, h0_, h1_, h2_, h3_, h4_, h5_, h6_, h7_, h8_, h9_, h10_, h11_⟩
 have n0_ : Aside0 (Kd.R (Kd.int .i64) 3 w12 w.heap.size (fun k_ => some k_ ≠ (v188 : Value).ownBlock) v185 t184) := ⟨h0_⟩
 have n1_ : Aside0 (Kd.R (Kd.int .i64) 3 w12 w.heap.size (fun k_ => some k_ ≠ (v185 : Value).ownBlock) v188 t187) := ⟨h1_⟩
 have n2_ : Aside0 (w12.heap[gb182]? = some (.cells #[.int .i64 a0_0, .slice A0_1 l0_1.length c0_1, .slice A0_2 l0_2.length c0_2, .slice A0_3 l0_3.length c0_3] 30 (0, 0))) := ⟨h2_⟩
 have n3_ : Aside0 (w12.heap[gb183]? = some (.cells #[.int .i64 0, .slice none 0 0, .slice none 0 0, .slice none 0 0] 30 (0, 0))) := ⟨h3_⟩
 have n4_ : Aside0 (w12.heap[gb190]? = some (.cells #[.int .i64 0, .slice none 0 0, .slice none 0 0, .slice none 0 0] 30 (0, 0))) := ⟨h4_⟩
 have n5_ : Aside0 (w.heap.size ≤ gb190) := ⟨h5_⟩
 have n6_ : Aside0 (w.heap.size ≤ gb190) := ⟨h6_⟩
 have n7_ : Aside0 (gb182 ≠ gb190) := ⟨h7_⟩
 have n8_ : Aside0 (gb190 ≠ gb182) := ⟨h8_⟩
 have n9_ : Aside0 (gb183 ≠ gb190) := ⟨h9_⟩
 have n10_ : Aside0 (gb190 ≠ gb183) := ⟨h10_⟩
 have n11_ : Aside0 (Below w.heap.size w w12) := ⟨h11_⟩
 clear BK182 BK183 HB h0_ h1_ h2_ h3_ h4_ h5_ h6_ h7_ h8_ h9_ h10_ h11_; have HO186 := n0_; have HO189 := n1_; have BK182 := n2_; have BK183 := n3_; have BK190 := n4_; have GW190 := n5_; have GE190 := n6_; have NB182_190 := n7_; have NB190_182 := n8_; have NB183_190 := n9_; have NB190_183 := n10_; have HB := n11_; clear n0_ n1_ n2_ n3_ n4_ n5_ n6_ n7_ n8_ n9_ n10_ n11_
 have hHeld : w12.cell? ⟨gb182, 0, none⟩ = some (.int .i64 a0_0) ∧ w12.cell? ⟨gb182, 1, none⟩ = some (.slice A0_1 l0_1.length c0_1) ∧ w12.cell? ⟨gb182, 2, none⟩ = some (.slice A0_2 l0_2.length c0_2) ∧ w12.cell? ⟨gb182, 3, none⟩ = some (.slice A0_3 l0_3.length c0_3) := hS_
 obtain ⟨Ao13, co13, eo13⟩ := Kd.R_slice HO189.out
 (first | subst eo13 | (injection eo13 with f1_ f2_ f3_; have f4_ := f1_.symm; have f5_ := f3_.symm; clear f1_ f2_ f3_; subst f4_; subst f5_))
 obtain ⟨Ao14, co14, eo14⟩ := Kd.R_slice HO186.out
 (first | subst eo14 | (injection eo14 with f1_ f2_ f3_; have f4_ := f1_.symm; have f5_ := f3_.symm; clear f1_ f2_ f3_; subst f4_; subst f5_))
 refine norm_ (a' := ?_) ?_ ?_
 rotate_left
 ·simp only [putAll, Act.put, List.setIfInBounds_toArray, List.set_cons_zero, List.set_cons_succ]
  rfl
 refine on_ (i := 10) (N := none) HT_ (fun K hK => ?_)
 have hs15 : w12.cell? ⟨gb190, 0, none⟩ = some (.int .i64 0) := bc_ BK190 0
 have hfs15 := blk_frozen BK190.out 0
 have hns15_0 := NB182_190.out; have hns15_1 := NB183_190.out; have hms15_0 := NB190_182.out; have hms15_1 := NB190_183.out
 have hs16 : w12.cell? ⟨gb190, 1, none⟩ = some (.slice none 0 0) := bc_ BK190 1
 have hfs16 := blk_frozen BK190.out 1
 have hns16_0 := NB182_190.out; have hns16_1 := NB183_190.out; have hms16_0 := NB190_182.out; have hms16_1 := NB190_183.out
 have hs17 : w12.cell? ⟨gb190, 2, none⟩ = some (.slice none 0 0) := bc_ BK190 2
 have hfs17 := blk_frozen BK190.out 2
 have hns17_0 := NB182_190.out; have hns17_1 := NB183_190.out; have hms17_0 := NB190_182.out; have hms17_1 := NB190_183.out
 have hs18 : w12.cell? ⟨gb190, 3, none⟩ = some (.slice none 0 0) := bc_ BK190 3
 have hfs18 := blk_frozen BK190.out 3
 have hns18_0 := NB182_190.out; have hns18_1 := NB183_190.out; have hms18_0 := NB190_182.out; have hms18_1 := NB190_183.out
 refine skip_ (w1 := ?_) (by rfl) rfl ?_ ?_
 rotate_left
 ·go_simp
  rfl
 refine hK.out _ _ ⟨((cell_far (p := ⟨gb190, _, none⟩) NB182_190.out _).trans (((cell_far (p := ⟨gb190, _, none⟩) NB182_190.out _).trans (((cell_far (p := ⟨gb190, _, none⟩) NB182_190.out _).trans (((cell_far (p := ⟨gb190, _, none⟩) NB182_190.out _).trans (hHeld.1)))))))), ((cell_far (p := ⟨gb190, _, none⟩) NB182_190.out _).trans (((cell_far (p := ⟨gb190, _, none⟩) NB182_190.out _).trans (((cell_far (p := ⟨gb190, _, none⟩) NB182_190.out _).trans (((cell_far (p := ⟨gb190, _, none⟩) NB182_190.out _).trans (hHeld.2.1)))))))), ((cell_far (p := ⟨gb190, _, none⟩) NB182_190.out _).trans (((cell_far (p := ⟨gb190, _, none⟩) NB182_190.out _).trans (((cell_far (p := ⟨gb190, _, none⟩) NB182_190.out _).trans (((cell_far (p := ⟨gb190, _, none⟩) NB182_190.out _).trans (hHeld.2.2.1)))))))), ((cell_far (p := ⟨gb190, _, none⟩) NB182_190.out _).trans (((cell_far (p := ⟨gb190, _, none⟩) NB182_190.out _).trans (((cell_far (p := ⟨gb190, _, none⟩) NB182_190.out _).trans (((cell_far (p := ⟨gb190, _, none⟩) NB182_190.out _).trans (hHeld.2.2.2))))))))⟩ (fun hHeld => ?_)
 clear hK K
 refine done_ (done_of HT_.out (by kernel_rfl)) ?_
 have hnb19 := NB182_183.out; have hnc19 := NB183_182.out; have hnb20 := NB182_190.out; have hnc20 := NB190_182.out; have Z21 := zz4 BK182
 try go_wp2
 go_loopg [18] k (fun kq v18 w' => ∃ (x18_1 : Int) (x191002_1 : List (S41)) (u191002 : Value), v18 = .int .i64 x18_1 ∧ Aside0 (impl_Client_copy.l0 kq l0_2 (l0_2.length : Int) x18_1 a0_0 t184 x191002_1 t187 = some (r1, r2, r3, r4)) ∧ Aside0 (kq ≤ k) ∧ Aside0 (Kd.R (Kd.int .i64) 3 w' w.heap.size (fun k_ => some k_ ≠ ((.slice Ao13 t187.length co13) : Value).ownBlock) (.slice Ao14 t184.length co14) t184) ∧ Aside0 (Kd.S k41 41 w' w.heap.size (fun _ => True) u191002 x191002_1) ∧ Aside0 (Kd.R (Kd.int .i64) 3 w' w.heap.size (fun k_ => some k_ ≠ ((.slice Ao14 t184.length co14) : Value).ownBlock) (.slice Ao13 t187.length co13) t187) ∧ Aside0 (w'.heap[gb182]? = some (.cells #[.int .i64 a0_0, (.slice A0_1 l0_1.length c0_1), (.slice A0_2 l0_2.length c0_2), (.slice A0_3 l0_3.length c0_3)] 30 (0, 0))) ∧ Aside0 (w'.heap[gb183]? = some (.cells #[.int .i64 0, (.slice none 0 0), (.slice none 0 0), (.slice none 0 0)] 30 (0, 0))) ∧ Aside0 (w'.heap[gb190]? = some (.cells #[.int .i64 a0_0, (.slice Ao14 t184.length co14), u191002, (.slice Ao13 t187.length co13)] 30 (0, 0))) ∧ Aside0 (Below w.heap.size w w'))
 case atStart => exact ⟨(0), (([] : List (S41))), (.slice none 0 0), (by first | rfl | (simp; done) | (simp [*]; done)), H', ⟨Nat.le_refl _⟩, ⟨by refine kR_ ?_; exact rfm_ ((Kd.R_types HO186.out BK190.out (by decide))) (fun _ hk => hk.1)⟩, ⟨by first | exact Kd.S_nil _ _ _ _ _ | exact Kd.N_nil _ _ _ _ _ | exact Kd.V_nil _ _ _ _ _ | exact Kd.Q_nil _ _ _ _ _ | exact Kd.R_nil _ _ _ _ _⟩, ⟨by refine kR_ ?_; exact rfm_ ((Kd.R_types HO189.out BK190.out (by decide))) (fun _ hk => hk.1)⟩, ⟨by exact kf_ BK182.out⟩, ⟨by exact kf_ BK183.out⟩, ⟨by refine kb_ ?_; refine pz4 (cs := #[.int .i64 0, .slice none 0 0, .slice none 0 0, .slice none 0 0]) ?_; refine kb_ ?_; exact BK190.out⟩, ⟨hbA_ HB.out⟩⟩
 case round =>
  clear H'; (try clear c1); (try clear c2); (try clear p2); (try clear c5); (try clear c7); (try clear c19); (try clear c20); (try clear Z21)
  obtain ⟨x18_1, x191002_1, u191002, rfl, HA, HK1, HO_191001, HO_191002, HO_191003, BK182, BK183, BK190, HB⟩ := hrel
  cases gk with
  | zero => exact absurd HA.out (by simp [impl_Client_copy.l0])
  | succ k1 =>
   have H := HA.out; clear HA
   simp only [impl_Client_copy.l0] at H
   by_cases c22 : x18_1 < (l0_2.length : Int)
   ·rw [if_pos c22] at H
    have c22b0 : decide (x18_1 < (l0_2.length : Int)) = true := decide_eq_true c22
    clear c22
    by_cases c23 : 0 ≤ x18_1
    ·rw [if_pos c23] at H
     have c23b0 : decide (0 ≤ x18_1) = true := decide_eq_true c23
     clear c23
     by_cases c24 : x18_1 < (l0_2.length : Int)
     ·rw [if_pos c24] at H
      have c24b0 : decide (x18_1 < (l0_2.length : Int)) = true := decide_eq_true c24
      clear c24
      replace H := Option.bind_eq_some_iff.mp H
      obtain ⟨t193, A250, H⟩ := H
      (try dsimp only at H)
      have A25 := Aside0.mk A250; clear A250
      by_cases c26 : x191002_1.length < 4398046511104
      ·rw [if_pos c26] at H
       have LMc26 := Aside0.mk c26; clear c26
       obtain ⟨y196, hy196⟩ : ∃ y_ : List (S41), y_ = (x191002_1 ++ [(⟨(rd_T41 l0_2 x18_1).f0, t193⟩ : S41)]) := ⟨_, rfl⟩
       (first | replace H := sb_ hy196 H | rw [← hy196] at H)
       have Ny196 := Aside0.mk hy196; clear hy196
       have H' := Aside0.mk H
       clear H
       have p191 : 0 ≤ (x18_1 : Int) := of_decide_eq_true (by first | (with_reducible assumption) | assumption)
       have q191 : x18_1 < (l0_2.length : Int) := of_decide_eq_true (by first | (with_reducible assumption) | assumption)
       obtain ⟨ad191, A191_1, c191_1, e191, hx191_0, hx191_1, hl191_1, hi191_1⟩ := at_T41 HR0_2.out x18_1 p191 q191
       cases e191
       replace hx191_0 := cc_ HB hx191_0
       replace hx191_1 := cc_ HB hx191_1
       have HR191_1 := Aside0.mk hi191_1; have HC191_1 := Aside0.mk hl191_1; clear hi191_1 hl191_1
       replace p191 := eq_true p191
       replace q191 := eq_true q191
       try go_wp2_with (first | ((with_reducible refine gate_dst (N := 5) rfl ?_); refine box_ (N := 5) (cs := #[.int .i64 0, .slice none 0 0]) (t := 41) (fun gb192 hg w27 hbox hb => ?_); replace HO_191001 := Aside0.mk (Kd.R_below (kR_ HO_191001.out) hb); replace HO_191002 := Aside0.mk (Kd.S_below (Kd.S_elderB (kS_ HO_191002.out) gb192 (Nat.le_of_eq hg.symm)) hb); replace HO_191003 := Aside0.mk (Kd.R_below (kR_ HO_191003.out) hb); have BK192 := Aside0.mk (hbox); have GW192 := ge_ hg HB; have GE192 := ge_ hg HB; replace HB := (bs_ HB hb); have NB182_192 := nl_ hg BK182; have NB192_182 := ng_ hg BK182; replace BK182 := (bbA_ BK182 hb); have NB183_192 := nl_ hg BK183; have NB192_183 := ng_ hg BK183; replace BK183 := (bbA_ BK183 hb); have NB190_192 := nl_ hg BK190; have NB192_190 := ng_ hg BK190; replace BK190 := (bbA_ BK190 hb); clear hb hbox hg; have hnb28 := NB192_182.out; have hnc28 := NB182_192.out; have hnb29 := NB192_183.out; have hnc29 := NB183_192.out; have hnb30 := NB192_190.out; have hnc30 := NB190_192.out; have Z31 := zz2 BK192))
       obtain ⟨w32, h_w32⟩ : ∃ w_, ((w27.setCell ⟨gb192, 0, none⟩ (.int .i64 ((rd_T41 l0_2 x18_1).f0))).setCell ⟨gb192, 1, none⟩ (.slice A191_1 ((rd_T41 l0_2 x18_1).f1).length c191_1)) = w_ := ⟨_, rfl⟩
       have n0_ : Aside0 (Kd.R (Kd.int .i64) 3 w32 w.heap.size (fun k_ => some k_ ≠ (.slice Ao13 t187.length co13 : Value).ownBlock) (.slice Ao14 t184.length co14) t184) := ⟨by subst h_w32; refine kR_ ?_; exact rfm_ ((Kd.R_types HO_191001.out BK192.out (by decide))) (fun _ hk => hk.1)⟩
       have n1_ : Aside0 (Kd.S k41 41 w32 w.heap.size (fun k_ => k_ ≠ gb192) u191002 x191002_1) := ⟨by subst h_w32; refine kS_ ?_; exact nfS_ gb192 HO_191002.out (fun _ hk => hk.2) (fun _ hk => hk.1.2)⟩
       have n2_ : Aside0 (Kd.R (Kd.int .i64) 3 w32 w.heap.size (fun k_ => some k_ ≠ (.slice Ao14 t184.length co14 : Value).ownBlock) (.slice Ao13 t187.length co13) t187) := ⟨by subst h_w32; refine kR_ ?_; exact rfm_ ((Kd.R_types HO_191003.out BK192.out (by decide))) (fun _ hk => hk.1)⟩
       have n3_ : Aside0 (w32.heap[gb182]? = some (.cells #[.int .i64 a0_0, .slice A0_1 l0_1.length c0_1, .slice (some ad191) l0_2.length c0_2, .slice A0_3 l0_3.length c0_3] 30 (0, 0))) := ⟨by subst h_w32; exact kf_ BK182.out⟩
       have n4_ : Aside0 (w32.heap[gb183]? = some (.cells #[.int .i64 0, .slice none 0 0, .slice none 0 0, .slice none 0 0] 30 (0, 0))) := ⟨by subst h_w32; exact kf_ BK183.out⟩
       have n5_ : Aside0 (w32.heap[gb190]? = some (.cells #[.int .i64 a0_0, .slice Ao14 t184.length co14, u191002, .slice Ao13 t187.length co13] 30 (0, 0))) := ⟨by subst h_w32; exact kf_ BK190.out⟩
       have n6_ : Aside0 (w32.heap[gb192]? = some (.cells #[.int .i64 ((rd_T41 l0_2 x18_1).f0), .slice A191_1 ((rd_T41 l0_2 x18_1).f1).length c191_1] 41 (0, 0))) := ⟨by subst h_w32; refine kb_ ?_; refine pz2 (cs := #[.int .i64 0, .slice none 0 0]) ?_; refine kb_ ?_; exact BK192.out⟩
       have n7_ : Aside0 (Below w.heap.size w w32) := ⟨by subst h_w32; exact hbA_ HB.out⟩
       (try clear HO_191001); (try clear HO_191002); (try clear HO_191003); (try clear BK182); (try clear BK183); (try clear BK190); (try clear BK192); (try clear HB)
       (try rw [h_w32]); clear h_w32
       have HO_191001 := n0_; have HO_191002 := n1_; have HO_191003 := n2_; have BK182 := n3_; have BK183 := n4_; have BK190 := n5_; have BK192 := n6_; have HB := n7_; clear n0_ n1_ n2_ n3_ n4_ n5_ n6_ n7_; replace HO_191001 := Aside0.mk (Kd.R_drew HO_191001.out); replace HO_191002 := Aside0.mk (Kd.S_drew HO_191002.out); replace HO_191003 := Aside0.mk (Kd.R_drew HO_191003.out); replace BK182 := Aside0.mk (blk_drew BK182.out); replace BK183 := Aside0.mk (blk_drew BK183.out); replace BK190 := Aside0.mk (blk_drew BK190.out); replace BK192 := Aside0.mk (blk_drew BK192.out); replace HB := (bd_ HB)
       refine start_ (n := 12) (S := fun w' => w'.cell? ⟨gb190, 0, none⟩ = some (.int .i64 a0_0) ∧ w'.cell? ⟨gb190, 1, none⟩ = some (.slice Ao14 t184.length co14) ∧ w'.cell? ⟨gb190, 2, none⟩ = some (u191002) ∧ w'.cell? ⟨gb190, 3, none⟩ = some (.slice Ao13 t187.length co13) ∧ w'.cell? ⟨gb192, 0, none⟩ = some (.int .i64 ((rd_T41 l0_2 x18_1).f0)) ∧ w'.cell? ⟨gb192, 1, none⟩ = some (.slice A191_1 ((rd_T41 l0_2 x18_1).f1).length c191_1)) (ds := [11]) #[false, false, false, false, false, false, false, false, false, false, false, false] (by kernel_rfl) rfl rfl ⟨bc_ BK190 0, bc_ BK190 1, bc_ BK190 2, bc_ BK190 3, bc_ BK192 0, bc_ BK192 1⟩ (fun hHeld => ?_); refine with_tabW impl_Client_copy.tab5 impl_Client_copy.bits5 (fun HT_ HW_ => ?_)
       generalize w32.drew = w33 at HO_191001 HO_191002 HO_191003 BK182 BK183 BK190 BK192 HB hHeld ⊢
       refine pu_ (i := 0) (N := some 22) HT_ ?_; refine pu_ (i := 2) (N := some 24) HT_ ?_; refine pu_ (i := 4) (N := some 26) HT_ ?_; refine tk_ (i := 1) (N := some 23) HT_ HW_ hHeld ?_; refine tk_ (i := 3) (N := some 25) HT_ HW_ hHeld ?_; refine tk_ (i := 5) (N := some 27) HT_ HW_ hHeld ?_
       refine on_ (i := 6) (N := some 28) HT_ (fun K hK => ?_)
       refine goes_ Try.func66 (by kernel_rfl) rfl #[.slice A191_1 ((rd_T41 l0_2 x18_1).f1).length c191_1] (by rfl) rfl rfl ar_ ?_
       with_reducible refine (impl_clone_byte.calls _ _ ((rd_T41 l0_2 x18_1).f1) t193 _ ?side1 ?side2 A25.out).mono ?_
       (case side1 => exact kC_ (Kd.C_below HR191_1.out HB.out))
       (case side2 => exact HC191_1.out)
       rintro e w34 ⟨v194, rfl, ho0, hb⟩
       refine ⟨_, rfl, ?_⟩
       replace HO_191001 := Aside0.mk (Kd.R_below (kR_ HO_191001.out) hb); replace HO_191002 := Aside0.mk (Kd.S_elder' (kS_ HO_191002.out) (Kd.R_base ho0) hb); replace HO_191003 := Aside0.mk (Kd.R_below (kR_ HO_191003.out) hb); have HO195 := Aside0.mk (Kd.R_lower ho0 (below_size (hbA_ HB.out))); replace BK182 := (bbA_ BK182 hb); replace BK183 := (bbA_ BK183 hb); replace BK190 := (bbA_ BK190 hb); replace BK192 := (bbA_ BK192 hb); replace HB := (bs_ HB hb); (try clear hb); (try clear hb2); (try clear hk); (try clear hi); (try clear ho0)
       obtain ⟨Ao35, co35, eo35⟩ := Kd.R_slice HO195.out
       (first | subst eo35 | (injection eo35 with f1_ f2_ f3_; have f4_ := f1_.symm; have f5_ := f3_.symm; clear f1_ f2_ f3_; subst f4_; subst f5_))
       refine hK.out _ _ ⟨bc_ BK190 0, bc_ BK190 1, bc_ BK190 2, bc_ BK190 3, bc_ BK192 0, bc_ BK192 1⟩ (fun hHeld => ?_)
       clear hK K; refine nm_ 28 ?_; refine pu_ (i := 7) (N := some 29) HT_ ?_
       refine on_ (i := 8) (N := some 30) HT_ (fun K hK => ?_)
       refine value_ (w1 := ?_) (v := ?_) (by rfl) rfl ?_ ?_
       rotate_left 2
       ·go_simp
        constructor
        ·rfl
        ·rfl
       refine hK.out _ _ ⟨(blk_cell (blk_alloc BK190.out _) 0).trans rfl, (blk_cell (blk_alloc BK190.out _) 1).trans rfl, (blk_cell (blk_alloc BK190.out _) 2).trans rfl, (blk_cell (blk_alloc BK190.out _) 3).trans rfl, (blk_cell (blk_alloc BK192.out _) 0).trans rfl, (blk_cell (blk_alloc BK192.out _) 1).trans rfl⟩ (fun hHeld => ?_)
       clear hK K; refine nm_ 30 ?_
       refine on_ (i := 9) (N := some 31) HT_ (fun K hK => ?_)
       refine Kd.S_append_step k41 (w0 := w) w.heap.size (by rfl) (.tmp 23) (.tmp 30) 28 41 (.agg #[(.int .i64 0), (.slice none 0 0)]) 32 rfl Try.underlying28 info41 rfl (by decide) (by omega) u191002 x191002_1 (⟨(rd_T41 l0_2 x18_1).f0, t193⟩ : S41) [.int .i64 ((rd_T41 l0_2 x18_1).f0), .slice Ao35 t193.length co35] (fun k_ => k_ ≠ gb192) (fun k_ => some k_ = (.slice Ao35 t193.length co35 : Value).ownBlock) rfl rfl ?aP (fun k_ hk_ => ((Kd.R_mono (ok' := fun k_ => ((fun k_ => k_ ≠ gb192)) k_ ∧ some k_ ≠ (u191002 : Value).ownBlock) (Kd.R_types (Kd.R_apart' (HO195.out) (Kd.S_typed HO_191002.out) (by decide)) BK192.out (by decide)) (fun k_ hk => ⟨hk.2, hk.1.2⟩))).1 k_ hk_.symm) ?aF ?aO ?aB ?aS ?aL ?_
       (case aP => exact k41_mkM _ _ _ (⟨(rd_T41 l0_2 x18_1).f0, t193⟩ : S41) (Kd.R_mono (Kd.R_tight rfl (Kd.R_mono (ok' := fun k_ => ((fun k_ => k_ ≠ gb192)) k_ ∧ some k_ ≠ (u191002 : Value).ownBlock) (Kd.R_types (Kd.R_apart' (HO195.out) (Kd.S_typed HO_191002.out) (by decide)) BK192.out (by decide)) (fun k_ hk => ⟨hk.2, hk.1.2⟩))) (fun _ h_ => h_)))
       (case aB => exact (hbA_ HB.out))
       (case aF => exact (fun k_ hk => fb_ BK192 k_ hk))
       (case aO => exact (by refine kS_ ?_; exact Kd.S_mono HO_191002.out (fun k_ hk => ⟨hk.1, fun e_ => hk.2 e_⟩)))
       (case aS => exact (below_size (hbA_ HB.out)))
       (case aL => have := LMc26.out; omega)
       intro v197 w36 ho hb hg hat
       rw [← Ny196.out] at ho
       have n0_ := Aside0.mk (Kd.R_over' (kR_ HO_191001.out) (Kd.S_typed (kS_ HO_191002.out)) (by decide) hg); have n1_ := Aside0.mk (Kd.R_over' (kR_ HO_191003.out) (Kd.S_typed (kS_ HO_191002.out)) (by decide) hg); have n2_ := (bgA_ BK182 hg (Kd.S_ne HO_191002.out BK182.out (by decide))); have n3_ := (bgA_ BK183 hg (Kd.S_ne HO_191002.out BK183.out (by decide))); have n4_ := (bgA_ BK190 hg (Kd.S_ne HO_191002.out BK190.out (by decide))); have n5_ := (bgA_ BK192 hg (Kd.S_away HO_191002.out (fun _ hk => hk.1))); have n6_ := Aside0.mk (hb); have n7_ := Aside0.mk (ho); clear HO_191001 HO_191003 BK182 BK183 BK190 BK192 HB HO_191002 HO195; have HO_191001 := n0_; have HO_191003 := n1_; have BK182 := n2_; have BK183 := n3_; have BK190 := n4_; have BK192 := n5_; have HB := n6_; have HO198 := n7_; clear n0_ n1_ n2_ n3_ n4_ n5_ n6_ n7_ ho hb hg hat
       obtain ⟨Ao37, co37, eo37⟩ := Kd.S_slice HO198.out
       (first | subst eo37 | (injection eo37 with f1_ f2_ f3_; have f4_ := f1_.symm; have f5_ := f3_.symm; clear f1_ f2_ f3_; subst f4_; subst f5_))
       refine hK.out _ _ ⟨bc_ BK190 0, bc_ BK190 1, bc_ BK190 2, bc_ BK190 3, bc_ BK192 0, bc_ BK192 1⟩ (fun hHeld => ?_)
       clear hK K; refine nm_ 31 ?_; refine pu_ (i := 10) (N := some 32) HT_ ?_
       refine last_ (i := 11) (N := none) #[true, true, true, true, true, true, true, true, true, true, true, true] rfl rfl (one_of HT_.out (by kernel_rfl)) (by decide) (fun K hK => ?_)
       have hs38 : w36.cell? ⟨gb190, 2, none⟩ = some (u191002) := bc_ BK190 2
       have hfs38 := blk_frozen BK190.out 2
       have hns38_0 := NB182_190.out; have hns38_1 := NB183_190.out; have hns38_3 := NB192_190.out; have hms38_0 := NB190_182.out; have hms38_1 := NB190_183.out; have hms38_3 := NB190_192.out
       refine skip_ (w1 := ?_) (by rfl) rfl ?_ ?_
       rotate_left
       ·go_simp
        rfl
       refine hK.out _ _ ?_
       clear hK K
       refine done_ (done_of HT_.out (by kernel_rfl)) ?_
       try go_wp2
       go_roundg k1
       case measure => have := HK1.out; omega
       case rel => exact ⟨(wrap64 (x18_1 + 1)), (y196), (.slice Ao37 y196.length co37), (by first | rfl | (simp; done) | (simp [*]; done)), H', ⟨by have := HK1.out; omega⟩, ⟨by refine kR_ ?_; exact Kd.R_mono (Kd.R_f gb190 2 (.slice Ao37 y196.length co37) (Kd.R_types HO_191001.out BK190.out (by decide))) (fun _ hk => hk.1)⟩, ⟨by refine kS_ ?_; exact Kd.S_mono (Kd.S_far (p := ⟨gb190, 2, none⟩) (Kd.S_types HO198.out BK190.out (by decide)) (fun _ hk => hk.2) (.slice Ao37 y196.length co37)) (fun _ hk => trivial)⟩, ⟨by refine kR_ ?_; exact Kd.R_mono (Kd.R_f gb190 2 (.slice Ao37 y196.length co37) (Kd.R_types HO_191003.out BK190.out (by decide))) (fun _ hk => hk.1)⟩, ⟨by exact kf_ BK182.out⟩, ⟨by exact kf_ BK183.out⟩, ⟨by refine kb_ ?_; refine blk_put (cs := #[.int .i64 a0_0, .slice Ao14 t184.length co14, u191002, .slice Ao13 t187.length co13]) ?_ 2 _ rfl; refine kb_ ?_; exact BK190.out⟩, ⟨hbA_ HB.out⟩⟩
      ·rw [if_neg c26] at H
       exact absurd H (by simp)
     ·rw [if_neg c24] at H
      exact absurd H (by simp)
    ·rw [if_neg c23] at H
     exact absurd H (by simp)
   ·rw [if_neg c22] at H
    have c22b0 : decide (x18_1 < (l0_2.length : Int)) = false := decide_eq_false c22
    clear c22
    simp only [Option.some.injEq, Prod.mk.injEq] at H
    obtain ⟨rfl, rfl, rfl, rfl⟩ := H
    have hnb39 := NB190_182.out; have hnc39 := NB182_190.out; have hnb40 := NB190_183.out; have hnc40 := NB183_190.out; have Z41 := zz4 BK190
    obtain ⟨Ao42, co42, eo42⟩ := Kd.S_slice HO_191002.out
    subst eo42
    have hq43 := (Kd.S_reads' HO_191002.out).2.1
    have hr43 := Aside0.mk (Kd.S_clip HO_191002.out (Nat.le_refl _) hq43)
    clear HO_191002; have HO200 := hr43; clear hr43
    go_wp2_with (first | (go_at_call 65; (with_reducible refine (impl_Words.calls _ _ _ _ hq43).mono ?_); rintro e w' ⟨rfl, rfl⟩; have hnb44 := NB183_182.out; have hnc44 := NB182_183.out; have Z45 := zz4 BK183))
    refine bodyPost_ret (results_cell_row rfl _ _ gb183 30 #[.int .i64 a0_0, .slice Ao14 t184.length co14, .slice Ao42 x191002_1.length x191002_1.length, .slice Ao13 t187.length co13] (0, 0) _ rfl (by refine kb_ ?_; refine pz4 (cs := #[.int .i64 0, .slice none 0 0, .slice none 0 0, .slice none 0 0]) ?_; exact kf_ BK183.out) Try.underlying30 rfl (by kernel_rfl)) rfl ?_
    exact ⟨_, _, _, by first | rfl | (simp [errW_none, errW_some] <;> rfl) | (simp [*, errW_none, errW_some] <;> rfl), by refine kR_ ?_; exact rfm_ ((Kd.R_far (p := ⟨gb190, 2, none⟩) (Kd.R_types (Kd.R_types HO_191001.out BK190.out (by decide)) BK183.out (by decide)) (fun _ hk => hk.1.2) (.slice Ao42 x191002_1.length x191002_1.length))) (fun _ hk => hk.1.1), by refine kS_ ?_; exact Kd.S_mono (Kd.S_far (p := ⟨gb183, 3, none⟩) (Kd.S_far (p := ⟨gb183, 2, none⟩) (Kd.S_far (p := ⟨gb183, 1, none⟩) (Kd.S_far (p := ⟨gb183, 0, none⟩) (Kd.S_far (p := ⟨gb190, 2, none⟩) (Kd.S_types (Kd.S_types HO200.out BK190.out (by decide)) BK183.out (by decide)) (fun _ hk => hk.1.2) (.slice Ao42 x191002_1.length x191002_1.length)) (fun _ hk => hk.2) (.int .i64 a0_0)) (fun _ hk => hk.2) (.slice Ao14 t184.length co14)) (fun _ hk => hk.2) (.slice Ao42 x191002_1.length x191002_1.length)) (fun _ hk => hk.2) (.slice Ao13 t187.length co13)) (fun _ hk => trivial), by refine kR_ ?_; exact rfm_ ((Kd.R_far (p := ⟨gb190, 2, none⟩) (Kd.R_types (Kd.R_types HO_191003.out BK190.out (by decide)) BK183.out (by decide)) (fun _ hk => hk.1.2) (.slice Ao42 x191002_1.length x191002_1.length))) (fun _ hk => hk.1.1), hbA_ HB.out⟩
def slices_Index_int_int.l0 : Nat → List Int → Int → Int → Int → Option (Int)
 | 0, _, _, _, _ => none
 | k + 1, x0, x1, x7, x8 => if x8 < x7 then (if 0 ≤ x8 then (if x8 < (x0.length : Int) then (if x1 = (rd x0 x8) then (some x8) else (slices_Index_int_int.l0 k x0 x1 x7 (wrap64 (x8 + 1)))) else (none)) else (none)) else (some (-1))
def slices_Index_int_int.f (k : Nat) (l0 : List Int) (a1 : Int) : Option (Int) := slices_Index_int_int.l0 k l0 a1 (l0.length : Int) 0
theorem slices_Index_int_int.mono_l : ∀ k, (∀ y0 y1 y2 y3, LeO (slices_Index_int_int.l0 k y0 y1 y2 y3) (slices_Index_int_int.l0 (k + 1) y0 y1 y2 y3))
 | 0 => fun _ _ _ _ r h => by simp [slices_Index_int_int.l0] at h
 | k + 1 => by
  have ih0 := slices_Index_int_int.mono_l k
  ·intro y0 y1 y2 y3
   unfold slices_Index_int_int.l0
   repeat' first | (with_reducible first | apply ih0 | exact LeO.refl _ | exact LeO.none _ | refine LeO.ite ?_ ?_ | refine LeO.bind ?_ fun _ => ?_) | apply ih0 | exact LeO.none _ | refine LeO.ite ?_ ?_ | refine LeO.bind ?_ fun _ => ?_
theorem slices_Index_int_int.mono : ∀ a0 a1 k, LeO (slices_Index_int_int.f k a0 a1) (slices_Index_int_int.f (k + 1) a0 a1) := by
 intro a0 a1 k
 have ih0 := slices_Index_int_int.mono_l k
 unfold slices_Index_int_int.f
 repeat' first | (with_reducible first | apply ih0 | exact LeO.refl _ | exact LeO.none _ | refine LeO.ite ?_ ?_ | refine LeO.bind ?_ fun _ => ?_) | apply ih0 | exact LeO.none _ | refine LeO.ite ?_ ?_ | refine LeO.bind ?_ fun _ => ?_
set_option maxHeartbeats 8000000 in
set_option maxRecDepth 100000 in
theorem slices_Index_int_int.calls (k : Nat) (A0 : Option Addr) (c0 : Nat) (l0 : List Int) (a1 : Int) (r : Int) (w : World) (hr0 : Kd.C (Kd.int .i64) w A0 l0.length l0) (hc0 : l0.length ≤ c0) (h : slices_Index_int_int.f k l0 a1 = some r) :
  Calls Try.prog 59 #[.slice A0 l0.length c0, .int .i64 a1] w fun e w' => e = .returned (.int .i64 r) ∧ Drawn0 w w' := by
 have HR0 := Aside0.mk hr0; have HC0 := Aside0.mk hc0; clear hr0 hc0
 have H : (slices_Index_int_int.l0 k l0 a1 (l0.length : Int) 0) = some r := h
 clear h
 have H' := Aside0.mk H
 clear H
 go_enter Try.func59, Try.ntmps59
 go_wp2
 go_loopg [8] k (fun kq v8 w' => ∃ (x8_1 : Int), v8 = .int .i64 x8_1 ∧ Aside0 (slices_Index_int_int.l0 kq l0 a1 (l0.length : Int) x8_1 = some r) ∧ Aside0 (kq ≤ k) ∧ Drawn0 w w')
 case atStart => exact ⟨(0), (by first | rfl | (simp; done) | (simp [*]; done)), H', ⟨Nat.le_refl _⟩, by repeat (first | exact Drawn0.refl _ | apply Drawn0.step)⟩
 case round =>
  clear H'; (try clear p2)
  obtain ⟨x8_1, rfl, HA, HK1, ⟨m1, rfl⟩⟩ := hrel
  cases gk with
  | zero => exact absurd HA.out (by simp [slices_Index_int_int.l0])
  | succ k1 =>
   have H := HA.out; clear HA
   simp only [slices_Index_int_int.l0] at H
   by_cases c3 : x8_1 < (l0.length : Int)
   ·rw [if_pos c3] at H
    have c3b0 : decide (x8_1 < (l0.length : Int)) = true := decide_eq_true c3
    clear c3
    by_cases c4 : 0 ≤ x8_1
    ·rw [if_pos c4] at H
     have c4b0 : decide (0 ≤ x8_1) = true := decide_eq_true c4
     clear c4
     by_cases c5 : x8_1 < (l0.length : Int)
     ·rw [if_pos c5] at H
      have c5b0 : decide (x8_1 < (l0.length : Int)) = true := decide_eq_true c5
      clear c5
      by_cases c6 : a1 = (rd l0 x8_1)
      ·rw [if_pos c6] at H
       have c6b0 : (a1 == (rd l0 x8_1)) = true := beq_iff_eq.mpr c6
       have c6b1 : (a1 != (rd l0 x8_1)) = false := bne_eq_false_iff_eq.mpr c6
       clear c6
       obtain rfl := Option.some.inj H
       have p201 : 0 ≤ (x8_1 : Int) := of_decide_eq_true (by first | (with_reducible assumption) | assumption)
       have q201 : x8_1 < (l0.length : Int) := of_decide_eq_true (by first | (with_reducible assumption) | assumption)
       obtain ⟨ad201, e201, hx201_0⟩ := Kd.at_int HR0.out x8_1 p201 q201
       cases e201
       replace p201 := eq_true p201
       replace q201 := eq_true q201
       go_wp2
       go_ret
       exact ⟨by first | rfl | (simp; done) | (simp [*]; done), by repeat (first | exact Drawn0.refl _ | apply Drawn0.step)⟩
      ·rw [if_neg c6] at H
       have c6b0 : (a1 == (rd l0 x8_1)) = false := beq_eq_false_iff_ne.mpr c6
       have c6b1 : (a1 != (rd l0 x8_1)) = true := bne_iff_ne.mpr c6
       have H' := Aside0.mk H
       clear H
       have p201 : 0 ≤ (x8_1 : Int) := of_decide_eq_true (by first | (with_reducible assumption) | assumption)
       have q201 : x8_1 < (l0.length : Int) := of_decide_eq_true (by first | (with_reducible assumption) | assumption)
       obtain ⟨ad201, e201, hx201_0⟩ := Kd.at_int HR0.out x8_1 p201 q201
       cases e201
       replace p201 := eq_true p201
       replace q201 := eq_true q201
       go_wp2
       go_roundg k1
       case measure => have := HK1.out; omega
       case rel => exact ⟨(wrap64 (x8_1 + 1)), (by first | rfl | (simp; done) | (simp [*]; done)), H', ⟨by have := HK1.out; omega⟩, by repeat (first | exact Drawn0.refl _ | apply Drawn0.step)⟩
     ·rw [if_neg c5] at H
      exact absurd H (by simp)
    ·rw [if_neg c4] at H
     exact absurd H (by simp)
   ·rw [if_neg c3] at H
    have c3b0 : decide (x8_1 < (l0.length : Int)) = false := decide_eq_false c3
    clear c3
    obtain rfl := Option.some.inj H
    go_wp2
    go_ret
    exact ⟨by first | rfl | (simp; done) | (simp [*]; done), by repeat (first | exact Drawn0.refl _ | apply Drawn0.step)⟩
set_option maxHeartbeats 8000000 in
set_option maxRecDepth 100000 in
theorem slices_Delete_int_int.calls {w0 w : World} {base g n c : Nat} {a1 a2 : Int} {x : List Int} {ok : Nat → Prop} (HO : Kd.R (Kd.int .i64) 3 w base ok (.slice (some ⟨g, 0, none⟩) n c) x) (hB : Below base w0 w) (hbase : base ≤ w.heap.size) (h0 : 0 ≤ a1) (h1 : a1 < n) (h2 : a2 = wrap64 (a1 + 1)) :
    Calls Try.prog 60 #[.slice (some ⟨g, 0, none⟩) n c, .int .i64 a1, .int .i64 a2] w fun e w' => e = .returned (.slice (some ⟨g, 0, none⟩) (n - 1) c) ∧ Kd.R (Kd.int .i64) 3 w' base ok (.slice (some ⟨g, 0, none⟩) (n - 1) c) (x.eraseIdx a1.toNat) ∧ Below base w0 w' ∧ w.grownBy w' (some g) := by
  obtain ⟨hn, hnc, _⟩ := Kd.R_reads' HO
  have hm := Kd.R_capmax HO
  obtain ⟨i, rfl⟩ := Int.eq_ofNat_of_zero_le h0
  obtain ⟨m, rfl⟩ : ∃ m, n = m + 1 := ⟨n - 1, by omega⟩
  obtain ⟨j, hj⟩ : ∃ j : Nat, j = i + 1 := ⟨_, rfl⟩
  have hlt : i < j := by omega
  have hjn : j ≤ m + 1 := by omega
  obtain rfl : a2 = (j : Int) := by rw [h2]; unfold wrap64; omega
  have heq : ¬ i = j := by omega
  have hic : i ≤ c := by omega
  have hjc : j ≤ c := by omega
  have hmc : m ≤ c := by omega
  have hcm : ¬ c = m := by omega
  have hjn2 : (j : Int) ≤ (m : Int) + 1 := by omega
  have hmm2 : (m : Int) ≤ (m : Int) + 1 := by omega
  have hmc2 : (m : Int) + 1 ≤ c := by omega
  have t22 := Try.underlying22
  obtain ⟨i0, hi0, hz0, hz1, hz2⟩ := info_parts info3
  obtain ⟨A, hA⟩ : ∃ A : Addr, (if c = j then some (⟨g, 0, none⟩ : Addr) else some ⟨g, j, none⟩) = some A := by
    by_cases h : c = j
    · exact ⟨_, by rw [if_pos h]⟩
    · exact ⟨_, by rw [if_neg h]⟩
  have HA := Aside0.mk (show some A = if c = i + 1 then some (⟨g, 0, none⟩ : Addr) else (some (⟨g, 0, none⟩ : Addr)).map (·.add ((i + 1) * (Kd.int .i64).sz)) from by
    rw [← hA, hj]
    by_cases h : c = i + 1
    · rw [if_pos h, if_pos h]
    · rw [if_neg h, if_neg h]
      show _ = some (Addr.add ⟨g, 0, none⟩ ((i + 1) * 1))
      rw [Nat.mul_one, Addr.add_lit, Nat.zero_add])
  have HJ := Aside0.mk hj
  have HI := Aside0.mk (show i < m + 1 by omega)
  have HO' := Aside0.mk HO
  have HB := Aside0.mk hB
  clear HO hB h0 h1 h2 hj hn
  go_enter Try.func60, Try.ntmps60
  go_wp2
  go_region_law (refine Kd.R_delete_step (Kd.int .i64) (w0 := w0) base rfl (.tmp 22) (.tmp 25) 22 3 rfl t22 (by kernel_rfl) (g := g) (n := m + 1) (c := c) (k := i) (m := m + 1 - j) (c2 := c - j) (A := some A) (by simp [Act.eval, Act.put]) (by simp [Act.eval, Act.put]) HA.out (by rw [HJ.out]) (Kd.R_drew HO'.out) HI.out (below_drew1 HB.out) hbase ?_; intro w1 ho hb hg)
  have v3 : ∀ w, (zeroValue 3).run Try.prog w = .ok (.int .i64 0) w := fun w => by simp [zeroValue, typeInfo, hi0, hz0]
  have ho' : Kd.R (Kd.int .i64) 3 w1 base ok (.slice (some ⟨g, 0, none⟩) m c) (x.eraseIdx i) := ho
  obtain ⟨q1, q2, q3, q4⟩ := Kd.R_past (Kd.int .i64) rfl (.int .i64 0) ho' (Nat.le_refl m) hnc
  have hcl : ∀ ty, (Builtin.clear_ #[22] ty #[.slice (some ⟨g, m, none⟩) 1 (c - m)]).run Try.prog w1 = .ok (.tuple #[]) (w1.setCells g m [.int .i64 0]) := by
    intro ty
    refine Lib.run_clear_slice w1 22 3 ty _ t22 v3 rfl rfl g m 1 (c - m) (by omega) (fun t ht => ?_) (fun t ht => ?_) <;> (obtain rfl : t = 0 := by omega) <;> assumption
  have hsz : base ≤ w1.heap.size := Nat.le_trans hbase hg.size
  have hba : ∀ k, some g = some k → base ≤ k := fun k hk => by injection hk with hk; subst hk; exact Kd.R_base HO'.out _ (by simp [Value.ownBlock])
  have q5 : w.grownBy (w1.setCells g m [.int .i64 0]) (some g) := ⟨q2.os.trans hg.os, q2.tape.trans hg.tape, q2.output.trans hg.output, Nat.le_trans hg.size q2.size, fun k hk hne => (q2.block k (Nat.lt_of_lt_of_le hk hg.size) hne).trans (hg.block k hk hne)⟩
  have Q1 := Aside0.mk q1
  have Q2 := Aside0.mk q5
  have Q3 := Aside0.mk (hb.grown q2 hsz hba)
  clear ho ho' hb hg q1 q2 q3 q4 q5 v3 hsz hba
  go_wp2
  go_ret
  exact ⟨rfl, Q1.out, Q3.out, Q2.out⟩
end Go.Proofs.Ytegchbdjbefdbaa.PFnExactClientHear
