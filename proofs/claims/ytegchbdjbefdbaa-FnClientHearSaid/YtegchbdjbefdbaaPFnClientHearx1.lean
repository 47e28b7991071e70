/- Printed by wip/xp/xprint.sh out of the translation, for this claim: what each function answers, as a plain function, and that the machine does just that. No condition. -/
import Derived.Test.YtegchbdjbefdbaaPFnClientHearx0
namespace Go.Proofs.Ytegchbdjbefdbaa.PFnClientHear
open Go.RowKit Go.Proofs.YtegchbdjbefdbaaW.PrintWords Go.Proofs.YtegchbdjbefdbaaW.PrintLast Go.Proofs.YtegchbdjbefdbaaW.PrintMore
attribute [local go_sem] max2_int min2_int max_two min_two max_three min_three max_four min_four   -- for this text's walks alone
set_option linter.unusedVariables false
set_option linter.unusedSimpArgs false
def impl_in.f (a0 : Int) (a1 : Int) (a2 : Int) : Option (Bool) := if a0 ≥ a1 then (some (decide (a0 ≤ a2))) else (some false)
set_option maxHeartbeats 8000000 in
set_option maxRecDepth 100000 in
theorem impl_in.calls (a0 : Int) (a1 : Int) (a2 : Int) (r : Bool) (w : World) (h : impl_in.f a0 a1 a2 = some r) :
  Calls Try.prog 49 #[.int .i64 a0, .int .i64 a1, .int .i64 a2] w fun e w' => e = .returned (.bool r) ∧ Drawn0 w w' := by
 have H : (if a0 ≥ a1 then (some (decide (a0 ≤ a2))) else (some false)) = some r := h
 clear h
 by_cases c4 : a0 ≥ a1
 ·rw [if_pos c4] at H
  have c4b0 : decide (a1 ≤ a0) = true := decide_eq_true c4
  clear c4
  obtain rfl := Option.some.inj H
  go_enter Try.func49, Try.ntmps49
  go_wp2
  go_ret
  exact ⟨by first | rfl | (simp; done) | (simp [*]; done), by repeat (first | exact Drawn0.refl _ | apply Drawn0.step)⟩
 ·rw [if_neg c4] at H
  have c4b0 : decide (a1 ≤ a0) = false := decide_eq_false c4
  clear c4
  obtain rfl := Option.some.inj H
  go_enter Try.func49, Try.ntmps49
  go_wp2
  go_ret
  exact ⟨by first | rfl | (simp; done) | (simp [*]; done), by repeat (first | exact Drawn0.refl _ | apply Drawn0.step)⟩
def slices_Grow_int_int.f (l0 : List Int) (a1 : Int) : Option (List Int) := if l0.length = 0 ∧ 0 ≤ a1 ∧ a1.toNat * 8 ≤ 140737488355328 then some [] else none
theorem slices_Grow_int_int.calls (A0 : Option Addr) (c0 : Nat) (l0 : List Int) (a1 : Int) (r : List Int) (w : World) (hr0 : Kd.C (Kd.int .i64) w A0 l0.length l0) (hc0 : A0 = none ∧ c0 = 0) (h : slices_Grow_int_int.f l0 a1 = some r) :
    Calls Try.prog 70 #[.slice A0 l0.length c0, .int .i64 a1] w fun e w' => ∃ v0_ : Value, e = .returned (v0_) ∧ Kd.R (Kd.int .i64) 3 w' w.heap.size (fun _ => True) v0_ r ∧ Below w.heap.size w w' := by
  obtain ⟨⟨hl0, h0, hle⟩, rfl⟩ : (l0.length = 0 ∧ 0 ≤ a1 ∧ a1.toNat * 8 ≤ 140737488355328) ∧ [] = r := by
    unfold slices_Grow_int_int.f at h; split at h
    · exact ⟨by assumption, Option.some.inj h⟩
    · cases h
  obtain rfl : l0 = [] := List.eq_nil_of_length_eq_zero hl0
  obtain ⟨rfl, rfl⟩ := hc0
  clear h hl0 hr0
  have hb : a1 ≤ 140737488355328 := by omega
  have HLE := Aside0.mk hle; clear hle
  have hneg : decide (a1 < 0) = false := decide_eq_false (by omega)
  by_cases hz : a1 = 0
  · subst hz
    clear hneg
    go_enter Try.func70, Try.ntmps70
    go_wp2
    go_ret
    exact ⟨_, rfl, Kd.R_nil _ _ _ _ _, Below.refl _ _⟩
  · have hp : decide (a1 > 0) = true := decide_eq_true (by omega)
    have hp2 : decide (0 < a1) = true := decide_eq_true (by omega)
    clear hz
    go_enter Try.func70, Try.ntmps70
    go_wp2_with (first
      | ((with_reducible refine gate_dst (N := 22) rfl ?_); refine Kd.R_append_zeros (Kd.int .i64) w.heap.size rfl _ _ 22 3 3 (.int .i64 0) 8 rfl Try.underlying22 Try.underlying3 info3 rfl (by decide) (by decide) (.slice none 0 0) [] 0 a1 (fun _ => True) rfl rfl (rfl) (fun _ _ => trivial) (Kd.R_nil _ _ _ _ _) h0 (Below.refl _ _) (Nat.le_refl _) (by simpa using HLE.out) ?_; intro v1 w1 ho hb1 hg hat; obtain ⟨A1, c1, hv1, hc1, _⟩ := Kd.R_reads ho; have HO := Aside0.mk ho; clear ho hat hg; have HB := Aside0.mk hb1; clear hb1; subst hv1))
    go_ret
    refine ⟨_, rfl, ?_, HB.out⟩
    have h2 := Kd.R_take (m := 0) HO.out (Nat.zero_le _)
    simpa using h2
mutual
def slices_Concat_int_int.l0 : Nat → List (List Int) → Int → List (List Int) → Int → Int → Option (List Int)
 | 0, _, _, _, _, _ => none
 | k + 1, x0, x3, x9, x10, x11 => if x11 < x10 then (if 0 ≤ x11 then (if x11 < (x9.length : Int) then (if (wrap64 (x3 + ((rd_L1 x9 x11).length : Int))) < 0 then (none) else (slices_Concat_int_int.l0 k x0 (wrap64 (x3 + ((rd_L1 x9 x11).length : Int))) x9 x10 (wrap64 (x11 + 1)))) else (none)) else (none)) else ((slices_Grow_int_int.f ([] : List Int) x3).bind fun t102 => (slices_Concat_int_int.l1 k t102 x0 (x0.length : Int) 0))
def slices_Concat_int_int.l1 : Nat → List Int → List (List Int) → Int → Int → Option (List Int)
 | 0, _, _, _, _ => none
 | k + 1, x6, x25, x26, x27 => if x27 < x26 then (if 0 ≤ x27 then (if x27 < (x25.length : Int) then (if x6.length + (rd_L1 x25 x27).length < 17592186044416 then (slices_Concat_int_int.l1 k (x6 ++ (rd_L1 x25 x27)) x25 x26 (wrap64 (x27 + 1))) else (none)) else (none)) else (none)) else (some x6)
end
def slices_Concat_int_int.f (k : Nat) (l0 : List (List Int)) : Option (List Int) := slices_Concat_int_int.l0 k l0 0 l0 (l0.length : Int) 0
theorem slices_Concat_int_int.mono_l : ∀ k, (∀ y0 y1 y2 y3 y4, LeO (slices_Concat_int_int.l0 k y0 y1 y2 y3 y4) (slices_Concat_int_int.l0 (k + 1) y0 y1 y2 y3 y4)) ∧ (∀ y0 y1 y2 y3, LeO (slices_Concat_int_int.l1 k y0 y1 y2 y3) (slices_Concat_int_int.l1 (k + 1) y0 y1 y2 y3))
 | 0 => ⟨fun _ _ _ _ _ r h => by simp [slices_Concat_int_int.l0] at h, fun _ _ _ _ r h => by simp [slices_Concat_int_int.l1] at h⟩
 | k + 1 => by
  obtain ⟨ih0, ih1⟩ := slices_Concat_int_int.mono_l k
  refine ⟨?_, ?_⟩
  ·intro y0 y1 y2 y3 y4
   unfold slices_Concat_int_int.l0
   repeat' first | (with_reducible first | apply ih0 | apply ih1 | exact LeO.refl _ | exact LeO.none _ | refine LeO.ite ?_ ?_ | refine LeO.bind ?_ fun _ => ?_) | apply ih0 | apply ih1 | exact LeO.none _ | refine LeO.ite ?_ ?_ | refine LeO.bind ?_ fun _ => ?_
  ·intro y0 y1 y2 y3
   unfold slices_Concat_int_int.l1
   repeat' first | (with_reducible first | apply ih0 | apply ih1 | exact LeO.refl _ | exact LeO.none _ | refine LeO.ite ?_ ?_ | refine LeO.bind ?_ fun _ => ?_) | apply ih0 | apply ih1 | exact LeO.none _ | refine LeO.ite ?_ ?_ | refine LeO.bind ?_ fun _ => ?_
theorem slices_Concat_int_int.mono : ∀ a0 k, LeO (slices_Concat_int_int.f k a0) (slices_Concat_int_int.f (k + 1) a0) := by
 intro a0 k
 obtain ⟨ih0, ih1⟩ := slices_Concat_int_int.mono_l k
 unfold slices_Concat_int_int.f
 repeat' first | (with_reducible first | apply ih0 | apply ih1 | exact LeO.refl _ | exact LeO.none _ | refine LeO.ite ?_ ?_ | refine LeO.bind ?_ fun _ => ?_) | apply ih0 | apply ih1 | exact LeO.none _ | refine LeO.ite ?_ ?_ | refine LeO.bind ?_ fun _ => ?_
set_option maxHeartbeats 8000000 in
set_option maxRecDepth 100000 in
theorem slices_Concat_int_int.calls (k : Nat) (A0 : Option Addr) (c0 : Nat) (l0 : List (List Int)) (r : List Int) (w : World) (hr0 : Kd.C (Kd.slice 3 (Kd.int .i64)) w A0 l0.length l0) (hc0 : l0.length ≤ c0) (h : slices_Concat_int_int.f k l0 = some r) :
  Calls Try.prog 50 #[.slice A0 l0.length c0] w fun e w' => ∃ v0_ : Value, e = .returned (v0_) ∧ Kd.R (Kd.int .i64) 3 w' w.heap.size (fun _ => True) v0_ r ∧ Below w.heap.size w w' := by
 have HR0 := Aside0.mk hr0; have HC0 := Aside0.mk hc0; clear hr0 hc0
 have HB := Aside0.mk (Below.refl w.heap.size w)
 have H : (slices_Concat_int_int.l0 k l0 0 l0 (l0.length : Int) 0) = some r := h
 clear h
 have H' := Aside0.mk H
 clear H
 go_enter Try.func50, Try.ntmps50
 go_wp2
 go_loopg [3, 11] k (fun kq v3 v11 w' => ∃ (x3_1 : Int) (x11_1 : Int), v3 = .int .i64 x3_1 ∧ v11 = .int .i64 x11_1 ∧ Aside0 (slices_Concat_int_int.l0 kq l0 x3_1 l0 (l0.length : Int) x11_1 = some r) ∧ Aside0 (kq ≤ k) ∧ Aside0 (Below w.heap.size w w'))
 case atStart => exact ⟨(0), (0), (by first | rfl | (simp; done) | (simp [*]; done)), (by first | rfl | (simp; done) | (simp [*]; done)), H', ⟨Nat.le_refl _⟩, ⟨hbA_ HB.out⟩⟩
 case round =>
  clear H'
  obtain ⟨x3_1, x11_1, rfl, rfl, HA, HK1, HB⟩ := hrel
  cases gk with
  | zero => exact absurd HA.out (by simp [slices_Concat_int_int.l0])
  | succ k1 =>
   have H := HA.out; clear HA
   simp only [slices_Concat_int_int.l0] at H
   by_cases c2 : x11_1 < (l0.length : Int)
   ·rw [if_pos c2] at H
    have c2b0 : decide (x11_1 < (l0.length : Int)) = true := decide_eq_true c2
    clear c2
    by_cases c3 : 0 ≤ x11_1
    ·rw [if_pos c3] at H
     have c3b0 : decide (0 ≤ x11_1) = true := decide_eq_true c3
     clear c3
     by_cases c4 : x11_1 < (l0.length : Int)
     ·rw [if_pos c4] at H
      have c4b0 : decide (x11_1 < (l0.length : Int)) = true := decide_eq_true c4
      clear c4
      by_cases c5 : (wrap64 (x3_1 + ((rd_L1 l0 x11_1).length : Int))) < 0
      ·rw [if_pos c5] at H
       exact absurd H (by simp)
      ·rw [if_neg c5] at H
       have c5b0 : decide ((wrap64 (x3_1 + ((rd_L1 l0 x11_1).length : Int))) < 0) = false := decide_eq_false c5
       clear c5
       have H' := Aside0.mk H
       clear H
       have p101 : 0 ≤ (x11_1 : Int) := of_decide_eq_true (by first | (with_reducible assumption) | assumption)
       have q101 : x11_1 < (l0.length : Int) := of_decide_eq_true (by first | (with_reducible assumption) | assumption)
       obtain ⟨ad101, A101_0, c101_0, e101, hx101_0, hl101_0, hi101_0⟩ := at_L1 HR0.out x11_1 p101 q101
       cases e101
       replace hx101_0 := cc_ HB hx101_0
       have HR101_0 := Aside0.mk hi101_0; have HC101_0 := Aside0.mk hl101_0; clear hi101_0 hl101_0
       replace p101 := eq_true p101
       replace q101 := eq_true q101
       go_wp2
       go_roundg k1
       case measure => have := HK1.out; omega
       case rel => exact ⟨(wrap64 (x3_1 + ((rd_L1 l0 x11_1).length : Int))), (wrap64 (x11_1 + 1)), (by first | rfl | (simp; done) | (simp [*]; done)), (by first | rfl | (simp; done) | (simp [*]; done)), H', ⟨by have := HK1.out; omega⟩, ⟨hbA_ HB.out⟩⟩
     ·rw [if_neg c4] at H
      exact absurd H (by simp)
    ·rw [if_neg c3] at H
     exact absurd H (by simp)
   ·rw [if_neg c2] at H
    have c2b0 : decide (x11_1 < (l0.length : Int)) = false := decide_eq_false c2
    clear c2
    replace H := Option.bind_eq_some_iff.mp H
    obtain ⟨t102, A60, H⟩ := H
    (try dsimp only at H)
    have A6 := Aside0.mk A60; clear A60
    have H' := Aside0.mk H
    clear H
    go_wp2_with (first | ((with_reducible refine gate_callee (f := 70) rfl ?_); refine goesL_ (some 24) rfl rfl Try.func70 (by kernel_rfl) rfl #[.slice none 0 0, .int .i64 x3_1] rfl ar_ ?_; (refine (slices_Grow_int_int.calls _ _ ([] : List Int) x3_1 t102 _ ?side1 ?side2 A6.out).mono ?_); (case side1 => exact Kd.C_nil _ _); (case side2 => first | exact Nat.le_refl _ | exact ⟨rfl, rfl⟩); rintro e w7 ⟨v103, rfl, ho0, hb⟩; refine ⟨_, rfl, ?_⟩; have HO104 := Aside0.mk (Kd.R_lower ho0 (below_size (hbA_ HB.out))); replace HB := (bs_ HB hb); (try clear hb); (try clear hb2); (try clear hk); (try clear hi); (try clear ho0)))
    go_loopg [6, 27] k1 (fun kq v6 v27 w' => ∃ (x6_2 : List Int) (x27_2 : Int), v27 = .int .i64 x27_2 ∧ Aside0 (slices_Concat_int_int.l1 kq x6_2 l0 (l0.length : Int) x27_2 = some r) ∧ Aside0 (kq ≤ k1) ∧ Aside0 (Kd.R (Kd.int .i64) 3 w' w.heap.size (fun _ => True) v6 x6_2) ∧ Aside0 (Below w.heap.size w w'))
    case atStart => exact ⟨(t102), (0), (by first | rfl | (simp; done) | (simp [*]; done)), H', ⟨Nat.le_refl _⟩, ⟨kR_ HO104.out⟩, ⟨hbA_ HB.out⟩⟩
    case round =>
     clear H'; (try clear c1); (try clear p1); (try clear q1); (try clear hx1); (try clear c2); (try clear c2b0); (try clear p2); (try clear c3); (try clear c3b0); (try clear c4); (try clear c4b0); (try clear c5); (try clear c5b0); (try clear p6); (try clear c7); (try clear hx101_0); (try clear p101); (try clear q101)
     obtain ⟨x6_2, x27_2, rfl, HA, HK2, HO_6, HB⟩ := hrel
     cases gk with
     | zero => exact absurd HA.out (by simp [slices_Concat_int_int.l1])
     | succ k2 =>
      have H := HA.out; clear HA
      simp only [slices_Concat_int_int.l1] at H
      by_cases c8 : x27_2 < (l0.length : Int)
      ·rw [if_pos c8] at H
       have c8b0 : decide (x27_2 < (l0.length : Int)) = true := decide_eq_true c8
       clear c8
       by_cases c9 : 0 ≤ x27_2
       ·rw [if_pos c9] at H
        have c9b0 : decide (0 ≤ x27_2) = true := decide_eq_true c9
        clear c9
        by_cases c10 : x27_2 < (l0.length : Int)
        ·rw [if_pos c10] at H
         have c10b0 : decide (x27_2 < (l0.length : Int)) = true := decide_eq_true c10
         clear c10
         by_cases c11 : x6_2.length + (rd_L1 l0 x27_2).length < 17592186044416
         ·rw [if_pos c11] at H
          have LMc11 := Aside0.mk c11; clear c11
          obtain ⟨y106, hy106⟩ : ∃ y_ : List Int, y_ = (x6_2 ++ (rd_L1 l0 x27_2)) := ⟨_, rfl⟩
          (first | replace H := sb_ hy106 H | rw [← hy106] at H)
          have Ny106 := Aside0.mk hy106; clear hy106
          have H' := Aside0.mk H
          clear H
          have p105 : 0 ≤ (x27_2 : Int) := of_decide_eq_true (by first | (with_reducible assumption) | assumption)
          have q105 : x27_2 < (l0.length : Int) := of_decide_eq_true (by first | (with_reducible assumption) | assumption)
          obtain ⟨ad105, A105_0, c105_0, e105, hx105_0, hl105_0, hi105_0⟩ := at_L1 HR0.out x27_2 p105 q105
          cases e105
          replace hx105_0 := cc_ HB hx105_0
          have HR105_0 := Aside0.mk hi105_0; have HC105_0 := Aside0.mk hl105_0; clear hi105_0 hl105_0
          replace p105 := eq_true p105
          replace q105 := eq_true q105
          go_wp2_with (first | ((with_reducible refine gate_builtin (b := .append) (xs := #[.tmp 31, .tmp 32]) rfl ?_); at_builtin; refine Kd.R_append_rows (Kd.int .i64) (w0 := w) w.heap.size rfl (.tmp 31) (.tmp 32) 22 3 (.int .i64 0) 8 rfl Try.underlying22 info3 rfl (by decide) (by omega) u6 x6_2 (rd_L1 l0 x27_2) _ _ _ (fun _ => True) (fun _ => False) rfl rfl ?aO ?aR (fun _ _ h => h) (fun _ h => h.elim) ?aF ?aB ?aS ?aL ?_; (case aR => exact kC_ (Kd.C_below HR105_0.out HB.out)); (case aB => exact (hbA_ HB.out)); (case aF => exact (fun _ _ => trivial)); (case aO => exact (kR_ HO_6.out)); (case aS => exact (below_size (hbA_ HB.out))); (case aL => have := LMc11.out; omega); intro v107 w12 ho hb hg hat; rw [← Ny106.out] at ho; replace HB := Aside0.mk (hb); have HO108 := Aside0.mk (ho); clear HO_6; clear ho hb hg hat))
          go_roundg k2
          case measure => have := HK1.out; have := HK2.out; omega
          case rel => exact ⟨(y106), (wrap64 (x27_2 + 1)), (by first | rfl | (simp; done) | (simp [*]; done)), H', ⟨by have := HK1.out; have := HK2.out; omega⟩, ⟨kR_ HO108.out⟩, ⟨hbA_ HB.out⟩⟩
         ·rw [if_neg c11] at H
          exact absurd H (by simp)
        ·rw [if_neg c10] at H
         exact absurd H (by simp)
       ·rw [if_neg c9] at H
        exact absurd H (by simp)
      ·rw [if_neg c8] at H
       have c8b0 : decide (x27_2 < (l0.length : Int)) = false := decide_eq_false c8
       clear c8
       obtain rfl := Option.some.inj H
       go_wp2
       go_ret
       exact ⟨_, by first | rfl | (simp [errW_none, errW_some] <;> rfl) | (simp [*, errW_none, errW_some] <;> rfl), kR_ HO_6.out, hbA_ HB.out⟩
def impl_ClientOk.met (all : List Int) (next : Int) (nopen : Nat) : Int → List Int → List Int → Bool
 | _, [], _ => true
 | i, n :: rest, seen => if impl_in.f n 0 (wrap64 (next - 1)) = some true then (if seen.contains n = true then false else (if i > 0 ∧ i < (nopen : Int) ∧ rd all (wrap64 (i - 1)) ≥ n then false else impl_ClientOk.met all next nopen (i + 1) rest (n :: seen))) else false
theorem impl_ClientOk.inn_some (a b c : Int) : ∃ t, impl_in.f a b c = some t := by unfold impl_in.f; split <;> exact ⟨_, rfl⟩
theorem impl_ClientOk.inn_wf {n y : Int} (h : impl_in.f n 0 (wrap64 y) = some true) : (Lit.int .i64 n).wf = true := by
 have h0 : 0 ≤ n ∧ n ≤ wrap64 y := by
  unfold impl_in.f at h; split at h
  ·exact ⟨by assumption, by simpa using h⟩
  ·cases h
 have h1 : wrap64 y ≤ 9223372036854775807 := by unfold wrap64; omega
 generalize wrap64 y = z at h0 h1
 simp [Lit.wf, IntKind.min, IntKind.max, IntKind.bits, IntKind.signed]
 omega
theorem impl_ClientOk.rd_drop (l : List Int) (i : Int) (h0 : 0 ≤ i) (h1 : i < (l.length : Int)) : l.drop i.toNat = rd l i :: l.drop (i + 1).toNat := by
 have h : i.toNat < l.length := by omega
 rw [List.drop_eq_getElem_cons h, show (i + 1).toNat = i.toNat + 1 by omega]
 unfold rd
 rw [List.getD_eq_getElem?_getD, List.getElem?_eq_getElem h]; rfl
theorem impl_ClientOk.wrap_pred {i : Int} (h0 : 0 < i) (h1 : i < 17592186044416) : wrap64 (i - 1) = i - 1 := by unfold wrap64; omega
theorem impl_ClientOk.wrap_succ {i : Int} (h0 : 0 ≤ i) (h1 : i < 17592186044416) : wrap64 (i + 1) = i + 1 := by unfold wrap64; omega
mutual
def impl_ClientOk.j0 : Nat → Bool → Int → List Int → List (S41) → List Int → Option (Bool)
 | 0, _, _, _, _, _ => none
 | k + 1, x18, x110000, x110001, x110002, x110003 => if x18 = true then (some false) else ((slices_Concat_int_int.f k (([x110001, x110003] : List (List Int)))).bind fun t114 => (impl_ClientOk.l0 k t114 x110002 (x110002.length : Int) 0 x110000 x110001 x110002 x110003))
def impl_ClientOk.l0 : Nat → List Int → List (S41) → Int → Int → Int → List Int → List (S41) → List Int → Option (Bool)
 | 0, _, _, _, _, _, _, _, _ => none
 | k + 1, x3, x26, x27, x28, x110000, x110001, x110002, x110003 => if x28 < x27 then (if 0 ≤ x28 then (if x28 < (x26.length : Int) then (if (((rd_T41 x26 x28).f1).length : Int) > 9 then (some false) else (if x3.length < 17592186044416 then (impl_ClientOk.l0 k (x3 ++ [(rd_T41 x26 x28).f0]) x26 x27 (wrap64 (x28 + 1)) x110000 x110001 x110002 x110003) else (none))) else (none)) else (none)) else (if x3.length < 17592186044416 then (some (impl_ClientOk.met x3 x110000 x110001.length 0 x3 [] && ((x3.length : Int) == x110000))) else (none))
end
def impl_ClientOk.f (k : Nat) (a0_0 : Int) (l0_1 : List Int) (l0_2 : List (S41)) (l0_3 : List Int) : Option (Bool) := (impl_in.f a0_0 0 256).bind fun t110 => (if t110 = true then (impl_ClientOk.j0 k (decide ((l0_1.length : Int) > 4)) a0_0 l0_1 l0_2 l0_3) else (impl_ClientOk.j0 k true a0_0 l0_1 l0_2 l0_3))
theorem impl_ClientOk.mono_l : ∀ k, (∀ y0 y1 y2 y3 y4, LeO (impl_ClientOk.j0 k y0 y1 y2 y3 y4) (impl_ClientOk.j0 (k + 1) y0 y1 y2 y3 y4)) ∧ (∀ y0 y1 y2 y3 y4 y5 y6 y7, LeO (impl_ClientOk.l0 k y0 y1 y2 y3 y4 y5 y6 y7) (impl_ClientOk.l0 (k + 1) y0 y1 y2 y3 y4 y5 y6 y7))
 | 0 => ⟨fun _ _ _ _ _ r h => by simp [impl_ClientOk.j0] at h, fun _ _ _ _ _ _ _ _ r h => by simp [impl_ClientOk.l0] at h⟩
 | k + 1 => by
  obtain ⟨ih0, ih1⟩ := impl_ClientOk.mono_l k
  refine ⟨?_, ?_⟩
  ·intro y0 y1 y2 y3 y4
   unfold impl_ClientOk.j0
   repeat' first | (with_reducible first | apply ih0 | apply ih1 | apply slices_Concat_int_int.mono | exact LeO.refl _ | exact LeO.none _ | refine LeO.ite ?_ ?_ | refine LeO.bind ?_ fun _ => ?_) | apply ih0 | apply ih1 | apply slices_Concat_int_int.mono | exact LeO.none _ | refine LeO.ite ?_ ?_ | refine LeO.bind ?_ fun _ => ?_
  ·intro y0 y1 y2 y3 y4 y5 y6 y7
   unfold impl_ClientOk.l0
   repeat' first | (with_reducible first | apply ih0 | apply ih1 | apply slices_Concat_int_int.mono | exact LeO.refl _ | exact LeO.none _ | refine LeO.ite ?_ ?_ | refine LeO.bind ?_ fun _ => ?_) | apply ih0 | apply ih1 | apply slices_Concat_int_int.mono | exact LeO.none _ | refine LeO.ite ?_ ?_ | refine LeO.bind ?_ fun _ => ?_
theorem impl_ClientOk.mono : ∀ a0 a1 a2 a3 k, LeO (impl_ClientOk.f k a0 a1 a2 a3) (impl_ClientOk.f (k + 1) a0 a1 a2 a3) := by
 intro a0 a1 a2 a3 k
 obtain ⟨ih0, ih1⟩ := impl_ClientOk.mono_l k
 unfold impl_ClientOk.f
 repeat' first | (with_reducible first | apply ih0 | apply ih1 | apply slices_Concat_int_int.mono | exact LeO.refl _ | exact LeO.none _ | refine LeO.ite ?_ ?_ | refine LeO.bind ?_ fun _ => ?_) | apply ih0 | apply ih1 | apply slices_Concat_int_int.mono | exact LeO.none _ | refine LeO.ite ?_ ?_ | refine LeO.bind ?_ fun _ => ?_
set_option maxHeartbeats 8000000 in
set_option maxRecDepth 100000 in
theorem impl_ClientOk.callsV (k : Nat) (a0_0 : Int) (P0_1_ : Nat → Prop) (A0_1 : Option Addr) (c0_1 : Nat) (l0_1 : List Int) (A0_2 : Option Addr) (c0_2 : Nat) (l0_2 : List (S41)) (P0_3_ : Nat → Prop) (A0_3 : Option Addr) (c0_3 : Nat) (l0_3 : List Int) (r : Bool) (w : World) (hs0_1 : Kd.V (Kd.int .i64) 3 w w.heap.size (fun k_ => P0_1_ k_) (.slice A0_1 l0_1.length c0_1) l0_1) (hr0_2 : Kd.C k41 w A0_2 l0_2.length l0_2) (hc0_2 : l0_2.length ≤ c0_2) (hs0_3 : Kd.V (Kd.int .i64) 3 w w.heap.size (fun k_ => P0_3_ k_) (.slice A0_3 l0_3.length c0_3) l0_3) (h : impl_ClientOk.f k a0_0 l0_1 l0_2 l0_3 = some r) :
  Calls Try.prog 14 #[.agg #[.int .i64 a0_0, .slice A0_1 l0_1.length c0_1, .slice A0_2 l0_2.length c0_2, .slice A0_3 l0_3.length c0_3]] w fun e w' => e = .returned (.bool r) ∧ Below w.heap.size w w' := by
 have hu30 := Try.underlying30; have hu41 := Try.underlying41
 have HO0_1 := Aside0.mk (show Kd.V (Kd.int .i64) 3 w w.heap.size (fun k_ => ((P0_1_ k_ ∨ P0_3_ k_) ∨ w.heap.size ≤ k_)) (.slice A0_1 l0_1.length c0_1) l0_1 from Kd.V_mono hs0_1 (fun k_ hk => .inl (.inl hk)))
 have HR0_2 := Aside0.mk hr0_2; have HC0_2 := Aside0.mk hc0_2; clear hr0_2 hc0_2
 have HO0_3 := Aside0.mk (show Kd.V (Kd.int .i64) 3 w w.heap.size (fun k_ => ((P0_1_ k_ ∨ P0_3_ k_) ∨ w.heap.size ≤ k_)) (.slice A0_3 l0_3.length c0_3) l0_3 from Kd.V_mono hs0_3 (fun k_ hk => .inl (.inr hk)))
 have HB := Aside0.mk (Below.refl w.heap.size w)
 have H : ((impl_in.f a0_0 0 256).bind fun t110 => (if t110 = true then (impl_ClientOk.j0 k (decide ((l0_1.length : Int) > 4)) a0_0 l0_1 l0_2 l0_3) else (impl_ClientOk.j0 k true a0_0 l0_1 l0_2 l0_3))) = some r := h
 clear h; have HC2 := Aside0.mk H; clear H
 go_enter Try.func14, Try.ntmps14
 go_upto_region 1 with (first | ((with_reducible refine gate_dst (N := 1) rfl ?_); (try (refine gate_guard (by rfl) ?_; dsimp only)); refine box_ (N := 1) (cs := #[.int .i64 a0_0, .slice A0_1 l0_1.length c0_1, .slice A0_2 l0_2.length c0_2, .slice A0_3 l0_3.length c0_3]) (t := 30) (fun gb109 hg w3 hbox hb => ?_); replace HO0_1 := Aside0.mk (Kd.V_below (Kd.V_elderB (kV_ HO0_1.out) gb109 (Nat.le_of_eq hg.symm)) hb); replace HO0_3 := Aside0.mk (Kd.V_below (Kd.V_elderB (kV_ HO0_3.out) gb109 (Nat.le_of_eq hg.symm)) hb); have BK109 := Aside0.mk (hbox); have GW109 := ge_ hg HB; have GE109 := ge_ hg HB; replace HB := (bs_ HB hb); clear hb hbox hg))
 (try simp only [Act.put, List.setIfInBounds_toArray, List.set_cons_zero, List.set_cons_succ])
 go_cut [18] (fun v18 wc => ∃ (kq : Nat) (x18_1 : Bool), v18 = .bool x18_1 ∧ Aside0 (impl_ClientOk.j0 kq x18_1 a0_0 l0_1 l0_2 l0_3 = some r) ∧ Aside0 (kq ≤ k) ∧ Aside0 (Kd.V (Kd.int .i64) 3 wc w.heap.size (fun k_ => ((P0_1_ k_ ∨ P0_3_ k_) ∨ w.heap.size ≤ k_) ∧ k_ ≠ gb109) (.slice A0_1 l0_1.length c0_1) l0_1) ∧ Aside0 (Kd.V (Kd.int .i64) 3 wc w.heap.size (fun k_ => ((P0_1_ k_ ∨ P0_3_ k_) ∨ w.heap.size ≤ k_) ∧ k_ ≠ gb109) (.slice A0_3 l0_3.length c0_3) l0_3) ∧ Aside0 (wc.heap[gb109]? = some (.cells #[.int .i64 a0_0, (.slice A0_1 l0_1.length c0_1), (.slice A0_2 l0_2.length c0_2), (.slice A0_3 l0_3.length c0_3)] 30 (0, 0))) ∧ Aside0 (Below w.heap.size w wc))
 case first =>
  have H := HC2.out; clear HC2
  replace H := Option.bind_eq_some_iff.mp H
  obtain ⟨t110, A40, H⟩ := H
  (try dsimp only at H)
  have A4 := Aside0.mk A40; clear A40
  by_cases c5 : t110 = true
  ·subst c5
   rw [if_pos rfl] at H
   have H' := Aside0.mk H
   clear H; have Z6 := zz4 BK109
   go_wp2_with (first | ((with_reducible refine gate_callee (f := 49) rfl ?_); refine goesL_ (some 11) rfl rfl Try.func49 (by kernel_rfl) rfl #[.int .i64 a0_0, .int .i64 0, .int .i64 256] rfl ar_ ?_; (with_reducible refine (impl_in.calls a0_0 0 256 true _ A4.out).mono ?_); rintro e w' ⟨rfl, ⟨nd, rfl⟩⟩; refine ⟨_, rfl, ?_⟩))
   go_meet
   case rel => exact ⟨_, (decide ((l0_1.length : Int) > 4)), (by first | rfl | (simp; done) | (simp [*]; done)), H', ⟨by first | omega | exact Nat.le_refl _⟩, ⟨by refine kV_ ?_; exact HO0_1.out⟩, ⟨by refine kV_ ?_; exact HO0_3.out⟩, ⟨by refine kb_ ?_; exact BK109.out⟩, ⟨hbA_ HB.out⟩⟩
  ·replace c5 := Bool.eq_false_iff.mpr c5
   subst c5
   rw [if_neg (show ¬ (false = true) by decide)] at H
   have H' := Aside0.mk H
   clear H; have Z7 := zz4 BK109
   go_wp2_with (first | ((with_reducible refine gate_callee (f := 49) rfl ?_); refine goesL_ (some 11) rfl rfl Try.func49 (by kernel_rfl) rfl #[.int .i64 a0_0, .int .i64 0, .int .i64 256] rfl ar_ ?_; (with_reducible refine (impl_in.calls a0_0 0 256 false _ A4.out).mono ?_); rintro e w' ⟨rfl, ⟨nd, rfl⟩⟩; refine ⟨_, rfl, ?_⟩))
   go_meet
   case rel => exact ⟨_, (true), (by first | rfl | (simp; done) | (simp [*]; done)), H', ⟨by first | omega | exact Nat.le_refl _⟩, ⟨by refine kV_ ?_; exact HO0_1.out⟩, ⟨by refine kV_ ?_; exact HO0_3.out⟩, ⟨by refine kb_ ?_; exact BK109.out⟩, ⟨hbA_ HB.out⟩⟩
 case rest =>
  clear HC2; (try clear c1); (try clear p2); (try clear c4); (try clear c5); (try clear Z6); (try clear Z7)
  obtain ⟨kq, x18_1, rfl, HA, HJ1, HO_110001, HO_110003, BK109, HB⟩ := hcut
  cases kq with
  | zero => exact absurd HA.out (by simp [impl_ClientOk.j0])
  | succ kj1 =>
   have H := HA.out; clear HA
   simp only [impl_ClientOk.j0] at H
   by_cases c8 : x18_1 = true
   ·subst c8
    rw [if_pos rfl] at H
    obtain rfl := Option.some.inj H
    go_wp2
    go_ret
    exact ⟨by first | rfl | (simp [errW_none, errW_some] <;> rfl) | (simp [*, errW_none, errW_some] <;> rfl), hbA_ HB.out⟩
   ·replace c8 := Bool.eq_false_iff.mpr c8
    subst c8
    rw [if_neg (show ¬ (false = true) by decide)] at H
    obtain ⟨y111, hy111⟩ : ∃ y_ : List (List Int), y_ = (([l0_1, l0_3] : List (List Int))) := ⟨_, rfl⟩
    (first | replace H := sb_ hy111 H | rw [← hy111] at H)
    have Ny111 := Aside0.mk hy111; clear hy111
    replace H := Option.bind_eq_some_iff.mp H
    obtain ⟨t114, A90, H⟩ := H
    (try dsimp only at H)
    have A9 := Aside0.mk A90; clear A90
    have H' := Aside0.mk H
    clear H; have Z10 := zz4 BK109
    go_wp2_with (first | ((with_reducible refine gate_dst (N := 23) rfl ?_); (try (refine gate_guard (by rfl) ?_; dsimp only)); refine Kd.N_lit (Kd.slice 3 (Kd.int .i64)) _ 22 ?hg (N' := 23) ?hd (xs := ([l0_1, l0_3] : List (List Int))) (inner := [.slice A0_1 l0_1.length c0_1, .slice A0_3 l0_3.length c0_3]) (ok := (fun k_ => ((P0_1_ k_ ∨ P0_3_ k_) ∨ w.heap.size ≤ k_) ∧ k_ ≠ gb109)) (okp := (fun k_ => ((P0_1_ k_ ∨ P0_3_ k_) ∨ w.heap.size ≤ k_) ∧ k_ ≠ gb109)) ?hr ?hp (fun _ hk => hk) ((show ∀ k_, wc.heap.size ≤ k_ → (fun k_ => ((P0_1_ k_ ∨ P0_3_ k_) ∨ w.heap.size ≤ k_) ∧ k_ ≠ gb109) k_ from fun k_ hk => ⟨(.inr (Nat.le_trans (below_size (hbA_ HB.out)) hk)), fb_ BK109 k_ hk⟩) _ (Nat.le_refl _)) (Below.refl _ _) (Nat.le_refl _) (by simp) ?_; (case hd => rfl); (case hg => rfl); (case hr => first | (go_simp; done) | (go_simp; rfl)); (case hp => exact (Reps.one (show Kd.FK (Kd.slice 3 (Kd.int .i64)) _ _ l0_1 [.slice A0_1 l0_1.length c0_1] from (Kd.FK_slice_mk (Kd.V_reads' (Kd.V_mono (ok' := (fun k_ => ((P0_1_ k_ ∨ P0_3_ k_) ∨ w.heap.size ≤ k_) ∧ k_ ≠ gb109)) (HO_110001.out) (fun k_ hk => ⟨hk.1, hk.2⟩))).2.1 (Kd.V_F (Kd.V_mono (ok' := (fun k_ => ((P0_1_ k_ ∨ P0_3_ k_) ∨ w.heap.size ≤ k_) ∧ k_ ≠ gb109)) (HO_110001.out) (fun k_ hk => ⟨hk.1, hk.2⟩))))) (Reps.one (show Kd.FK (Kd.slice 3 (Kd.int .i64)) _ _ l0_3 [.slice A0_3 l0_3.length c0_3] from (Kd.FK_slice_mk (Kd.V_reads' (Kd.V_mono (ok' := (fun k_ => ((P0_1_ k_ ∨ P0_3_ k_) ∨ w.heap.size ≤ k_) ∧ k_ ≠ gb109)) (HO_110003.out) (fun k_ hk => ⟨hk.1, hk.2⟩))).2.1 (Kd.V_F (Kd.V_mono (ok' := (fun k_ => ((P0_1_ k_ ∨ P0_3_ k_) ∨ w.heap.size ≤ k_) ∧ k_ ≠ gb109)) (HO_110003.out) (fun k_ hk => ⟨hk.1, hk.2⟩))))) (Reps.none _ _)))); intro v112 w11 ho12 hb hg_ hnew_; clear hg_ hnew_; (first | rw [← Ny111.out] at ho12 | (simp only [Int.reduceToNat] at ho12; rw [← Ny111.out] at ho12)); replace HO_110001 := Aside0.mk (Kd.V_elder' (kV_ HO_110001.out) (Kd.base_ ho12) hb); replace HO_110003 := Aside0.mk (Kd.V_elder' (kV_ HO_110003.out) (Kd.base_ ho12) hb); have HO113 := Aside0.mk (Kd.N_lower ho12 (below_size (hbA_ HB.out))); replace BK109 := (bbA_ BK109 hb); replace HB := (bs_ HB hb); clear hb ho12; obtain ⟨Ao13, co13, eo13⟩ := Kd.N_slice HO113.out; subst eo13) | ((with_reducible refine gate_callee (f := 50) rfl ?_); refine goesL_ (some 24) rfl rfl Try.func50 (by kernel_rfl) rfl #[.slice Ao13 y111.length co13] rfl ar_ ?_; (with_reducible refine (slices_Concat_int_int.calls kj1 _ _ y111 t114 _ ?side1 ?side2 A9.out).mono ?_); (case side1 => exact kC_ (Kd.N_reads' HO113.out).2.2); (case side2 => exact (Kd.N_reads' HO113.out).2.1); rintro e w14 ⟨v115, rfl, ho0, hb⟩; refine ⟨_, rfl, ?_⟩; replace HO_110001 := Aside0.mk (Kd.V_elder' (kV_ HO_110001.out) (Kd.R_base ho0) hb); replace HO_110003 := Aside0.mk (Kd.V_elder' (kV_ HO_110003.out) (Kd.R_base ho0) hb); replace HO113 := Aside0.mk (Kd.N_elder' (kN_ HO113.out) (Kd.R_base ho0) hb); have HO116 := Aside0.mk (Kd.R_lower (Kd.R_newM (M := fun k_ => (w.heap.size ≤ k_)) ho0 (below_size (hbA_ HB.out)) (fun k_ h_ => h_)) (below_size (hbA_ HB.out))); replace BK109 := (bbA_ BK109 hb); replace HB := (bs_ HB hb); (try clear hb); (try clear hb2); (try clear hk); (try clear hi); (try clear ho0); have Z15 := zz4 BK109))
    go_loopg [3, 28] kj1 (fun kq v3 v28 w' => ∃ (x3_2 : List Int) (x28_2 : Int), v28 = .int .i64 x28_2 ∧ Aside0 (impl_ClientOk.l0 kq x3_2 l0_2 (l0_2.length : Int) x28_2 a0_0 l0_1 l0_2 l0_3 = some r) ∧ Aside0 (kq ≤ kj1) ∧ Aside0 (Kd.R (Kd.int .i64) 3 w' w.heap.size (fun k_ => (w.heap.size ≤ k_)) v3 x3_2) ∧ Aside0 (Kd.V (Kd.int .i64) 3 w' w.heap.size (fun k_ => ((P0_1_ k_ ∨ P0_3_ k_) ∨ w.heap.size ≤ k_) ∧ some k_ ≠ (v3 : Value).ownBlock ∧ k_ ≠ gb109) (.slice A0_1 l0_1.length c0_1) l0_1) ∧ Aside0 (Kd.V (Kd.int .i64) 3 w' w.heap.size (fun k_ => ((P0_1_ k_ ∨ P0_3_ k_) ∨ w.heap.size ≤ k_) ∧ some k_ ≠ (v3 : Value).ownBlock ∧ k_ ≠ gb109) (.slice A0_3 l0_3.length c0_3) l0_3) ∧ Aside0 (w'.heap[gb109]? = some (.cells #[.int .i64 a0_0, (.slice A0_1 l0_1.length c0_1), (.slice A0_2 l0_2.length c0_2), (.slice A0_3 l0_3.length c0_3)] 30 (0, 0))) ∧ Aside0 (Below w.heap.size w w'))
    case atStart => exact ⟨(t114), (0), (by first | rfl | (simp; done) | (simp [*]; done)), H', ⟨Nat.le_refl _⟩, ⟨by refine kR_ ?_; exact Kd.R_mono HO116.out (fun _ hk => hk.1)⟩, ⟨by refine kV_ ?_; exact Kd.V_mono HO_110001.out (fun _ hk => ⟨hk.1.1.1, ⟨hk.2, hk.1.1.2⟩⟩)⟩, ⟨by refine kV_ ?_; exact Kd.V_mono HO_110003.out (fun _ hk => ⟨hk.1.1.1, ⟨hk.2, hk.1.1.2⟩⟩)⟩, ⟨by refine kb_ ?_; exact BK109.out⟩, ⟨hbA_ HB.out⟩⟩
    case round =>
     clear H'; (try clear c1); (try clear p2); (try clear c4); (try clear c5); (try clear c8); (try clear c14); (try clear Z10); (try clear Z15); (try clear Z6); (try clear Z7); (try clear p2)
     obtain ⟨x3_2, x28_2, rfl, HA, HK2, HO_3, HO_110001, HO_110003, BK109, HB⟩ := hrel
     cases gk with
     | zero => exact absurd HA.out (by simp [impl_ClientOk.l0])
     | succ k2 =>
      have H := HA.out; clear HA
      simp only [impl_ClientOk.l0] at H
      by_cases c16 : x28_2 < (l0_2.length : Int)
      ·rw [if_pos c16] at H
       have c16b0 : decide (x28_2 < (l0_2.length : Int)) = true := decide_eq_true c16
       clear c16
       by_cases c17 : 0 ≤ x28_2
       ·rw [if_pos c17] at H
        have c17b0 : decide (0 ≤ x28_2) = true := decide_eq_true c17
        clear c17
        by_cases c18 : x28_2 < (l0_2.length : Int)
        ·rw [if_pos c18] at H
         have c18b0 : decide (x28_2 < (l0_2.length : Int)) = true := decide_eq_true c18
         clear c18
         by_cases c19 : (((rd_T41 l0_2 x28_2).f1).length : Int) > 9
         ·rw [if_pos c19] at H
          have c19b0 : decide (9 < (((rd_T41 l0_2 x28_2).f1).length : Int)) = true := decide_eq_true c19
          have c19b1 : decide (9 < ((rd_T41 l0_2 x28_2).f1).length) = true := decide_eq_true (by omega)
          clear c19
          obtain rfl := Option.some.inj H
          have p117 : 0 ≤ (x28_2 : Int) := of_decide_eq_true (by first | (with_reducible assumption) | assumption)
          have q117 : x28_2 < (l0_2.length : Int) := of_decide_eq_true (by first | (with_reducible assumption) | assumption)
          obtain ⟨ad117, A117_1, c117_1, e117, hx117_0, hx117_1, hl117_1, hi117_1⟩ := at_T41 HR0_2.out x28_2 p117 q117
          cases e117
          replace hx117_0 := cc_ HB hx117_0
          replace hx117_1 := cc_ HB hx117_1
          have HR117_1 := Aside0.mk hi117_1; have HC117_1 := Aside0.mk hl117_1; clear hi117_1 hl117_1
          replace p117 := eq_true p117
          replace q117 := eq_true q117
          go_wp2_with (first | ((with_reducible refine gate_dst (N := 5) rfl ?_); (try (refine gate_guard (by rfl) ?_; dsimp only)); refine box_ (N := 5) (cs := #[.int .i64 0, .slice none 0 0]) (t := 41) (fun gb118 hg w20 hbox hb => ?_); replace HO_3 := Aside0.mk (Kd.R_below (kR_ HO_3.out) hb); replace HO_110001 := Aside0.mk (Kd.V_below (Kd.V_elderB (kV_ HO_110001.out) gb118 (Nat.le_of_eq hg.symm)) hb); replace HO_110003 := Aside0.mk (Kd.V_below (Kd.V_elderB (kV_ HO_110003.out) gb118 (Nat.le_of_eq hg.symm)) hb); have BK118 := Aside0.mk (hbox); have GW118 := ge_ hg HB; have GE118 := ge_ hg HB; replace HB := (bs_ HB hb); have NB109_118 := nl_ hg BK109; have NB118_109 := ng_ hg BK109; replace BK109 := (bbA_ BK109 hb); clear hb hbox hg; have hnb21 := NB118_109.out; have hnc21 := NB109_118.out; have Z22 := zz2 BK118))
          go_ret
          exact ⟨by first | rfl | (simp [errW_none, errW_some] <;> rfl) | (simp [*, errW_none, errW_some] <;> rfl), hbA_ HB.out⟩
         ·rw [if_neg c19] at H
          have c19b0 : decide (9 < (((rd_T41 l0_2 x28_2).f1).length : Int)) = false := decide_eq_false c19
          have c19b1 : decide (9 < ((rd_T41 l0_2 x28_2).f1).length) = false := decide_eq_false (by omega)
          clear c19
          by_cases c23 : x3_2.length < 17592186044416
          ·rw [if_pos c23] at H
           have LMc23 := Aside0.mk c23; clear c23
           obtain ⟨y119, hy119⟩ : ∃ y_ : List Int, y_ = (x3_2 ++ [(rd_T41 l0_2 x28_2).f0]) := ⟨_, rfl⟩
           (first | replace H := sb_ hy119 H | rw [← hy119] at H)
           have Ny119 := Aside0.mk hy119; clear hy119
           have H' := Aside0.mk H
           clear H
           have p117 : 0 ≤ (x28_2 : Int) := of_decide_eq_true (by first | (with_reducible assumption) | assumption)
           have q117 : x28_2 < (l0_2.length : Int) := of_decide_eq_true (by first | (with_reducible assumption) | assumption)
           obtain ⟨ad117, A117_1, c117_1, e117, hx117_0, hx117_1, hl117_1, hi117_1⟩ := at_T41 HR0_2.out x28_2 p117 q117
           cases e117
           replace hx117_0 := cc_ HB hx117_0
           replace hx117_1 := cc_ HB hx117_1
           have HR117_1 := Aside0.mk hi117_1; have HC117_1 := Aside0.mk hl117_1; clear hi117_1 hl117_1
           replace p117 := eq_true p117
           replace q117 := eq_true q117
           go_wp2_with (first | ((with_reducible refine gate_dst (N := 5) rfl ?_); (try (refine gate_guard (by rfl) ?_; dsimp only)); refine box_ (N := 5) (cs := #[.int .i64 0, .slice none 0 0]) (t := 41) (fun gb118 hg w24 hbox hb => ?_); replace HO_3 := Aside0.mk (Kd.R_below (kR_ HO_3.out) hb); replace HO_110001 := Aside0.mk (Kd.V_below (Kd.V_elderB (kV_ HO_110001.out) gb118 (Nat.le_of_eq hg.symm)) hb); replace HO_110003 := Aside0.mk (Kd.V_below (Kd.V_elderB (kV_ HO_110003.out) gb118 (Nat.le_of_eq hg.symm)) hb); have BK118 := Aside0.mk (hbox); have GW118 := ge_ hg HB; have GE118 := ge_ hg HB; replace HB := (bs_ HB hb); have NB109_118 := nl_ hg BK109; have NB118_109 := ng_ hg BK109; replace BK109 := (bbA_ BK109 hb); clear hb hbox hg; have hnb25 := NB118_109.out; have hnc25 := NB109_118.out; have Z26 := zz2 BK118) | ((with_reducible refine gate_builtin (b := .append) (xs := #[.tmp 36, .tmp 39]) rfl ?_); (try (refine gate_guard (by rfl) ?_; dsimp only)); at_builtin; refine Kd.R_append (Kd.int .i64) (w0 := w) w.heap.size rfl (.tmp 36) (.tmp 39) 22 3 (.int .i64 0) 8 rfl Try.underlying22 info3 rfl (by decide) (by omega) u3 x3_2 ((rd_T41 l0_2 x28_2).f0) [.int .i64 ((rd_T41 l0_2 x28_2).f0)] (fun k_ => (w.heap.size ≤ k_)) (fun _ => False) rfl (by first | (go_simp; done) | (go_simp; rfl)) ?aP (fun _ hk => hk.elim) ?aF ?aO ?aB ?aS ?aL ?_; (case aP => exact rfl); (case aB => exact (hbA_ HB.out)); (case aF => exact (fun k_ hk => (Nat.le_trans (below_size (hbA_ HB.out)) hk))); (case aO => exact (by refine kR_ ?_; exact rfm_ ((Kd.R_types HO_3.out BK118.out (by decide))) (fun _ hk => hk.1))); (case aS => exact (below_size (hbA_ HB.out))); (case aL => have := LMc23.out; omega); intro v120 w27 ho hb hg hat; rw [← Ny119.out] at ho; replace HO_110001 := Aside0.mk (Kd.V_afterv (ok := (fun k_ => ((P0_1_ k_ ∨ P0_3_ k_) ∨ w.heap.size ≤ k_) ∧ k_ ≠ gb109 ∧ k_ ≠ gb118)) (by refine kV_ ?_; exact nfV_ gb118 HO_110001.out (fun _ hk => hk.2) (fun _ hk => ⟨⟨hk.1.1.1, ⟨hk.1.1.2.2, hk.1.2⟩⟩, hk.1.1.2.1⟩)) hg hat); replace HO_110003 := Aside0.mk (Kd.V_afterv (ok := (fun k_ => ((P0_1_ k_ ∨ P0_3_ k_) ∨ w.heap.size ≤ k_) ∧ k_ ≠ gb109 ∧ k_ ≠ gb118)) (by refine kV_ ?_; exact nfV_ gb118 HO_110003.out (fun _ hk => hk.2) (fun _ hk => ⟨⟨hk.1.1.1, ⟨hk.1.1.2.2, hk.1.2⟩⟩, hk.1.1.2.1⟩)) hg hat); replace BK109 := Aside0.mk (blk_grown (g := gb109) (o := .cells #[.int .i64 a0_0, .slice A0_1 l0_1.length c0_1, .slice (some ad117) l0_2.length c0_2, .slice A0_3 l0_3.length c0_3] 30 (0, 0)) (by exact kf_ BK109.out) hg (Kd.R_ne HO_3.out BK109.out (by decide))); replace BK118 := Aside0.mk (blk_grown (g := gb118) (o := .cells #[.int .i64 ((rd_T41 l0_2 x28_2).f0), .slice A117_1 ((rd_T41 l0_2 x28_2).f1).length c117_1] 41 (0, 0)) (by refine kb_ ?_; refine pz2 (cs := #[.int .i64 0, .slice none 0 0]) ?_; refine kb_ ?_; exact BK118.out) hg (Kd.R_ne HO_3.out BK118.out (by decide))); replace HB := Aside0.mk (hb); have HO121 := Aside0.mk (ho); clear HO_3; clear ho hb hg hat))
           go_roundg k2
           case measure => have := HJ1.out; have := HK2.out; omega
           case rel => exact ⟨(y119), (wrap64 (x28_2 + 1)), (by first | rfl | (simp; done) | (simp [*]; done)), H', ⟨by have := HJ1.out; have := HK2.out; omega⟩, ⟨kR_ HO121.out⟩, ⟨by refine kV_ ?_; exact Kd.V_mono HO_110001.out (fun _ hk => ⟨hk.1.1, ⟨hk.2, hk.1.2.1⟩⟩)⟩, ⟨by refine kV_ ?_; exact Kd.V_mono HO_110003.out (fun _ hk => ⟨hk.1.1, ⟨hk.2, hk.1.2.1⟩⟩)⟩, ⟨by refine kb_ ?_; exact BK109.out⟩, ⟨hbA_ HB.out⟩⟩
          ·rw [if_neg c23] at H
           exact absurd H (by simp)
        ·rw [if_neg c18] at H
         exact absurd H (by simp)
       ·rw [if_neg c17] at H
        exact absurd H (by simp)
      ·rw [if_neg c16] at H
       have c16b0 : decide (x28_2 < (l0_2.length : Int)) = false := decide_eq_false c16
       clear c16
       by_cases cB : x3_2.length < 17592186044416
       ·rw [if_pos cB] at H
        have LB := Aside0.mk cB; clear cB
        have hr_ := Aside0.mk (Option.some.inj H); clear H
        obtain ⟨Ao28, co28, eo28⟩ := Kd.R_slice HO_3.out
        subst eo28; have Z29 := zz4 BK109
        clear HO_110001 HO_110003
        have hmm := @run_makeMap Try.prog
        go_wp2
        have MS := Aside0.mk (MSet.made wr Try.prog 3 4)
        have HBL := Aside0.mk (below_size HB.out)
        replace HO_3 := Aside0.mk (Kd.R_alloc HO_3.out (.map #[] 0)); replace BK109 := Aside0.mk (blk_alloc BK109.out (.map #[] 0)); replace HB := Aside0.mk (below_alloc HB.out (.map #[] 0))
        generalize hbm_ : wr.heap.size = bm at MS HBL ⊢
        generalize wr.alloc (.map #[] 0) = wm at HO_3 BK109 HB MS ⊢
        clear hmm Z29 hbm_
        go_loopg [45] (x3_2.length + 1) (fun kq v45 w' => ∃ (x45_3 : Int) (seen : List Int), v45 = .int .i64 x45_3 ∧ Aside0 ((impl_ClientOk.met x3_2 a0_0 l0_1.length x45_3 (x3_2.drop x45_3.toNat) seen && ((x3_2.length : Int) == a0_0)) = r) ∧ Aside0 (0 ≤ x45_3 ∧ x45_3.toNat + kq = x3_2.length + 1 ∧ seen.length ≤ x45_3.toNat) ∧ Aside0 (Kd.R (Kd.int .i64) 3 w' w.heap.size (fun k_ => (w.heap.size ≤ k_)) (.slice Ao28 x3_2.length co28) x3_2) ∧ Aside0 (MSet Try.prog 3 4 w' bm seen) ∧ Aside0 (w'.heap[gb109]? = some (.cells #[.int .i64 a0_0, (.slice A0_1 l0_1.length c0_1), (.slice A0_2 l0_2.length c0_2), (.slice A0_3 l0_3.length c0_3)] 30 (0, 0))) ∧ Aside0 (Below w.heap.size w w'))
        case atStart => exact ⟨0, [], (by first | rfl | (simp; done)), hr_, ⟨Int.le_refl _, by simp, by simp⟩, HO_3, MS, BK109, HB⟩
        case round =>
         clear hr_ HO_3 MS BK109 HB
         obtain ⟨x45_3, seen, rfl, HA, HK3, HO_3, MS, BK109, HB⟩ := hrel
         by_cases c29 : x45_3 < (x3_2.length : Int)
         ·have c29b0 : decide (x45_3 < (x3_2.length : Int)) = true := decide_eq_true c29
          have c30b0 : decide (0 ≤ x45_3) = true := decide_eq_true HK3.out.1
          have HM := HA.out; clear HA
          rw [impl_ClientOk.rd_drop x3_2 x45_3 HK3.out.1 c29] at HM
          unfold impl_ClientOk.met at HM
          have C29 := Aside0.mk c29; clear c29
          obtain ⟨t195, A33⟩ := impl_ClientOk.inn_some (rd x3_2 x45_3) 0 (wrap64 (a0_0 - 1))
          replace HM := Aside0.mk HM; replace A33 := Aside0.mk A33
          have p194 : 0 ≤ (x45_3 : Int) := HK3.out.1
          have q194 : x45_3 < (x3_2.length : Int) := C29.out
          obtain ⟨ad194, e194, hx194_0⟩ := Kd.at_int (Kd.R_reads' HO_3.out).2.2 x45_3 p194 q194
          cases e194
          replace p194 := eq_true p194
          replace q194 := eq_true q194
          go_upto_region 15 with (fail)
          go_cut [80] (fun v80 wc => ∃ (x80_31 : Bool), v80 = .bool x80_31 ∧ Aside0 ((if x80_31 = true then false else (impl_ClientOk.met x3_2 a0_0 l0_1.length (x45_3 + 1) (x3_2.drop (x45_3 + 1).toNat) (rd x3_2 x45_3 :: seen) && ((x3_2.length : Int) == a0_0))) = r) ∧ Aside0 (x80_31 = false → (Lit.int .i64 (rd x3_2 x45_3)).wf = true) ∧ Aside0 (Kd.R (Kd.int .i64) 3 wc w.heap.size (fun k_ => (w.heap.size ≤ k_)) (.slice (some ad194) x3_2.length co28) x3_2) ∧ Aside0 (MSet Try.prog 3 4 wc bm seen) ∧ Aside0 (wc.heap[gb109]? = some (.cells #[.int .i64 a0_0, (.slice A0_1 l0_1.length c0_1), (.slice A0_2 l0_2.length c0_2), (.slice A0_3 l0_3.length c0_3)] 30 (0, 0))) ∧ Aside0 (Below w.heap.size w wc))
          case first =>
           by_cases c34 : t195 = true
           ·subst c34
            have hwf := impl_ClientOk.inn_wf A33.out
            replace HM := HM.out; rw [if_pos A33.out] at HM
            have hz_ : ∀ W : World, (zeroValue 4).run Try.prog W = .ok (.bool false) W := fun W => by kernel_rfl
            cases c35 : seen.contains (rd x3_2 x45_3) with
            | true =>
             rw [if_pos c35, Bool.false_and] at HM
             have hL : ∀ nd, (Instr.lookup 72 (.map (some bm)) (.int .i64 (rd x3_2 x45_3)) false).run Try.prog (wr.drewN nd) = .ok (.bool true) (wr.drewN nd) := fun nd => by have h_ := (MS.out.drewN nd).look Try.underlying3 Try.underlying4 Try.underlying72 (hz_ _) hwf; rw [c35] at h_; exact h_
             clear hz_ hwf; replace HM := Aside0.mk HM; clear c35; have Z36 := zz4 BK109
             go_wp2_with (first | ((with_reducible refine gate_callee (f := 49) rfl ?_); refine goesL_ (some 54) rfl rfl Try.func49 (by kernel_rfl) rfl #[.int .i64 (rd x3_2 x45_3), .int .i64 0, .int .i64 (wrap64 (a0_0 - 1))] rfl ar_ ?_; (with_reducible refine (impl_in.calls (rd x3_2 x45_3) 0 (wrap64 (a0_0 - 1)) true _ A33.out).mono ?_); rintro e w' ⟨rfl, ⟨nd, rfl⟩⟩; refine ⟨_, rfl, ?_⟩))
             go_meet
             case rel => exact ⟨true, (by first | rfl | (simp; done) | (simp [*]; done)), HM, ⟨fun h_ => by cases h_⟩, ⟨kR_ HO_3.out⟩, ⟨MS.out.drewN _⟩, ⟨by refine kb_ ?_; exact BK109.out⟩, ⟨hbA_ HB.out⟩⟩
            | false =>
             rw [if_neg (by rw [c35]; decide)] at HM
             have hL : ∀ nd, (Instr.lookup 72 (.map (some bm)) (.int .i64 (rd x3_2 x45_3)) false).run Try.prog (wr.drewN nd) = .ok (.bool false) (wr.drewN nd) := fun nd => by have h_ := (MS.out.drewN nd).look Try.underlying3 Try.underlying4 Try.underlying72 (hz_ _) hwf; rw [c35] at h_; exact h_
             replace HWF := Aside0.mk hwf; clear hz_ hwf; replace HM := Aside0.mk HM; clear c35
             by_cases c37 : x45_3 > 0
             ·have c37b0 : decide (0 < x45_3) = true := decide_eq_true c37
              by_cases c38 : x45_3 < (l0_1.length : Int)
              ·have c38b0 : decide (x45_3 < (l0_1.length : Int)) = true := decide_eq_true c38
               obtain ⟨ji39, hji39⟩ : ∃ j_ : Int, (wrap64 (x45_3 - 1)) = j_ := ⟨_, rfl⟩
               have hjv : ji39 = x45_3 - 1 := by rw [← hji39]; exact impl_ClientOk.wrap_pred c37 (by have := C29.out; have := LB.out; omega)
               have c40b0 : decide (0 ≤ (ji39)) = true := decide_eq_true (by omega)
               have c41b0 : decide ((ji39) < (x3_2.length : Int)) = true := decide_eq_true (by have := C29.out; omega)
               replace HM := HM.out; rw [hji39] at HM
               have C3 := Aside0.mk (And.intro c37 c38); clear c37 c38 hjv
               have hji39w : (IntKind.i64.wrap (x45_3 - 1)) = ji39 := (i64_w _).trans hji39
               replace HM := Aside0.mk HM
               have Z42 := zz4 BK109
               go_wp2_with (first | ((with_reducible refine gate_callee (f := 49) rfl ?_); refine goesL_ (some 54) rfl rfl Try.func49 (by kernel_rfl) rfl #[.int .i64 (rd x3_2 x45_3), .int .i64 0, .int .i64 (wrap64 (a0_0 - 1))] rfl ar_ ?_; (with_reducible refine (impl_in.calls (rd x3_2 x45_3) 0 (wrap64 (a0_0 - 1)) true _ A33.out).mono ?_); rintro e w' ⟨rfl, ⟨nd, rfl⟩⟩; refine ⟨_, rfl, ?_⟩; have p196 : 0 ≤ ((ji39) : Int) := of_decide_eq_true (by first | (with_reducible assumption) | assumption); have q196 : (ji39) < (x3_2.length : Int) := of_decide_eq_true (by first | (with_reducible assumption) | assumption); obtain ⟨ad196, e196, hx196_0⟩ := Kd.at_int (Kd.R_reads' HO_3.out).2.2 (ji39) p196 q196; obtain rfl : ad194 = ad196 := (by injection e196); replace p196 := eq_true p196; replace q196 := eq_true q196))
               first | go_meet | ((try simp only [← hji39]); go_meet)
               case rel => exact ⟨(decide ((rd x3_2 (ji39)) ≥ (rd x3_2 x45_3))), (by first | rfl | (simp; done) | (simp only [← hji39] <;> (first | rfl | simp)) | (simp [*]; done)), ⟨by have h_ := HM.out; by_cases hc_ : rd x3_2 ji39 ≥ rd x3_2 x45_3; (· rw [if_pos ⟨C3.out.1, C3.out.2, hc_⟩, Bool.false_and] at h_; rw [if_pos (decide_eq_true hc_)]; exact h_); (· rw [if_neg (fun h => hc_ h.2.2)] at h_; rw [if_neg (by rw [decide_eq_false hc_]; decide)]; exact h_)⟩, ⟨fun _ => HWF.out⟩, ⟨kR_ HO_3.out⟩, ⟨MS.out.drewN _⟩, ⟨by refine kb_ ?_; exact BK109.out⟩, ⟨hbA_ HB.out⟩⟩
              ·have c38b0 : decide (x45_3 < (l0_1.length : Int)) = false := decide_eq_false c38
               replace HM := HM.out; rw [if_neg (fun h => c38 h.2.1)] at HM; clear c38 c37
               replace HM := Aside0.mk HM; have Z43 := zz4 BK109
               go_wp2_with (first | ((with_reducible refine gate_callee (f := 49) rfl ?_); refine goesL_ (some 54) rfl rfl Try.func49 (by kernel_rfl) rfl #[.int .i64 (rd x3_2 x45_3), .int .i64 0, .int .i64 (wrap64 (a0_0 - 1))] rfl ar_ ?_; (with_reducible refine (impl_in.calls (rd x3_2 x45_3) 0 (wrap64 (a0_0 - 1)) true _ A33.out).mono ?_); rintro e w' ⟨rfl, ⟨nd, rfl⟩⟩; refine ⟨_, rfl, ?_⟩))
               go_meet
               case rel => exact ⟨false, (by first | rfl | (simp; done) | (simp [*]; done)), HM, ⟨fun _ => HWF.out⟩, ⟨kR_ HO_3.out⟩, ⟨MS.out.drewN _⟩, ⟨by refine kb_ ?_; exact BK109.out⟩, ⟨hbA_ HB.out⟩⟩
             ·have c37b0 : decide (0 < x45_3) = false := decide_eq_false c37
              replace HM := HM.out; rw [if_neg (fun h => c37 h.1)] at HM; clear c37
              replace HM := Aside0.mk HM; have Z44 := zz4 BK109
              go_wp2_with (first | ((with_reducible refine gate_callee (f := 49) rfl ?_); refine goesL_ (some 54) rfl rfl Try.func49 (by kernel_rfl) rfl #[.int .i64 (rd x3_2 x45_3), .int .i64 0, .int .i64 (wrap64 (a0_0 - 1))] rfl ar_ ?_; (with_reducible refine (impl_in.calls (rd x3_2 x45_3) 0 (wrap64 (a0_0 - 1)) true _ A33.out).mono ?_); rintro e w' ⟨rfl, ⟨nd, rfl⟩⟩; refine ⟨_, rfl, ?_⟩))
              go_meet
              case rel => exact ⟨false, (by first | rfl | (simp; done) | (simp [*]; done)), HM, ⟨fun _ => HWF.out⟩, ⟨kR_ HO_3.out⟩, ⟨MS.out.drewN _⟩, ⟨by refine kb_ ?_; exact BK109.out⟩, ⟨hbA_ HB.out⟩⟩
           ·replace c34 := Bool.eq_false_iff.mpr c34
            subst c34
            replace HM := HM.out; rw [if_neg (by rw [A33.out]; decide), Bool.false_and] at HM
            replace HM := Aside0.mk HM; have Z45 := zz4 BK109
            go_wp2_with (first | ((with_reducible refine gate_callee (f := 49) rfl ?_); refine goesL_ (some 54) rfl rfl Try.func49 (by kernel_rfl) rfl #[.int .i64 (rd x3_2 x45_3), .int .i64 0, .int .i64 (wrap64 (a0_0 - 1))] rfl ar_ ?_; (with_reducible refine (impl_in.calls (rd x3_2 x45_3) 0 (wrap64 (a0_0 - 1)) false _ A33.out).mono ?_); rintro e w' ⟨rfl, ⟨nd, rfl⟩⟩; refine ⟨_, rfl, ?_⟩))
            go_meet
            case rel => exact ⟨true, (by first | rfl | (simp; done) | (simp [*]; done)), HM, ⟨fun h_ => by cases h_⟩, ⟨kR_ HO_3.out⟩, ⟨MS.out.drewN _⟩, ⟨by refine kb_ ?_; exact BK109.out⟩, ⟨hbA_ HB.out⟩⟩
          case rest =>
           clear HM A33 HO_3 MS BK109 HB hx194_0
           obtain ⟨x80_31, rfl, HA, HWF, HO_3, MS, BK109, HB⟩ := hcut
           cases x80_31 with
           | true =>
            have H := HA.out; clear HA
            rw [if_pos rfl] at H
            subst H
            go_wp2
            go_ret
            exact ⟨by first | rfl | (simp [*]; done), hbA_ HB.out⟩
           | false =>
            have H := HA.out; clear HA
            rw [if_neg (by decide)] at H
            have H := Aside0.mk H
            have hn_ : seen.length < maxLen := by have := HK3.out; have := C29.out; have := LB.out; unfold maxLen; omega
            have HN := Aside0.mk hn_; clear hn_
            have hwf_ := HWF.out rfl
            replace HWF := Aside0.mk hwf_; clear hwf_
            go_wp2_with (first | (at_mapUpdate; refine wpList_mapUpdate_set _ rfl (.tmp 81) (.tmp 82) 72 3 4 rfl Try.underlying3 Try.underlying4 Try.underlying72 bm seen rfl MS.out HN.out (rd x3_2 x45_3) rfl HWF.out ?_; intro wn MS2 hgrow; replace HO_3 := Aside0.mk (Kd.R_grown2 HO_3.out rfl hgrow (fun k_ hk_ => by have h_ := MS.out.ne_row HO_3.out; rw [hk_] at h_; exact h_)); replace BK109 := Aside0.mk (blk_grown BK109.out hgrow (MS.out.ne_blk BK109.out)); replace HB := Aside0.mk (pw_below_grown HB.out _ (below_size HB.out) hgrow (fun k_ hk_ => by injection hk_ with hk_; rw [← hk_]; exact HBL.out)); replace MS := Aside0.mk MS2; clear MS2 hgrow))
            go_roundg (gk - 1)
            case measure => have := HK3.out; have := C29.out; omega
            case rel =>
             have hw_ : wrap64 (x45_3 + 1) = x45_3 + 1 := impl_ClientOk.wrap_succ HK3.out.1 (by have := C29.out; have := LB.out; omega)
             exact ⟨(wrap64 (x45_3 + 1)), _, (by first | rfl | (simp; done) | (simp [*]; done)), by rw [hw_]; exact H, ⟨by have := HK3.out; have := C29.out; rw [hw_]; clear hw_; refine ⟨?_, ?_, ?_⟩ <;> (try simp only [List.length_cons]) <;> omega⟩, HO_3, MS, BK109, HB⟩
         ·have c29b0 : decide (x45_3 < (x3_2.length : Int)) = false := decide_eq_false c29
          have HM := HA.out; clear HA
          rw [List.drop_eq_nil_of_le (by have := HK3.out.1; omega)] at HM
          unfold impl_ClientOk.met at HM
          rw [Bool.true_and] at HM
          clear c29
          subst HM
          have Z47 := zz4 BK109
          go_wp2
          go_ret
          exact ⟨by first | rfl | (simp [errW_none, errW_some] <;> rfl) | (simp [*, errW_none, errW_some] <;> rfl), hbA_ HB.out⟩
       ·rw [if_neg cB] at H
        exact absurd H (by simp)
set_option maxHeartbeats 8000000 in
theorem impl_ClientOk.calls (k : Nat) (a0_0 : Int) (A0_1 : Option Addr) (c0_1 : Nat) (l0_1 : List Int) (A0_2 : Option Addr) (c0_2 : Nat) (l0_2 : List (S41)) (A0_3 : Option Addr) (c0_3 : Nat) (l0_3 : List Int) (r : Bool) (w : World) (hr0_1 : Kd.C (Kd.int .i64) w A0_1 l0_1.length l0_1) (hc0_1 : l0_1.length ≤ c0_1) (hr0_2 : Kd.C k41 w A0_2 l0_2.length l0_2) (hc0_2 : l0_2.length ≤ c0_2) (hr0_3 : Kd.C (Kd.int .i64) w A0_3 l0_3.length l0_3) (hc0_3 : l0_3.length ≤ c0_3) (h : impl_ClientOk.f k a0_0 l0_1 l0_2 l0_3 = some r) :
    Calls Try.prog 14 #[.agg #[.int .i64 a0_0, .slice A0_1 l0_1.length c0_1, .slice A0_2 l0_2.length c0_2, .slice A0_3 l0_3.length c0_3]] w fun e w' => e = .returned (.bool r) ∧ Below w.heap.size w w' := by
  refine (impl_ClientOk.callsV k a0_0 (fun _ => True) A0_1 c0_1 l0_1 A0_2 c0_2 l0_2 (fun _ => True) A0_3 c0_3 l0_3 r w (Kd.V_mk hc0_1 (fun W_ hW_ => Kd.Heap.C (Kd.heap_int .i64) (fun k_ hlt_ => hW_ k_ trivial hlt_) hr0_1)) hr0_2 hc0_2 (Kd.V_mk hc0_3 (fun W_ hW_ => Kd.Heap.C (Kd.heap_int .i64) (fun k_ hlt_ => hW_ k_ trivial hlt_) hr0_3)) h).mono ?_
  rintro e w' ⟨rfl, hb⟩
  exact ⟨rfl, hb⟩
def laws_sameBytes.f (l0 : List Int) (l1 : List Int) : Option (Bool) := some ((strOfNums l0).toList == (strOfNums l1).toList)
set_option maxHeartbeats 8000000 in
set_option maxRecDepth 100000 in
theorem laws_sameBytes.calls (A0 : Option Addr) (c0 : Nat) (l0 : List Int) (A1 : Option Addr) (c1 : Nat) (l1 : List Int) (r : Bool) (w : World) (hr0 : Kd.C (Kd.int .u8) w A0 l0.length l0) (hc0 : l0.length ≤ c0) (hr1 : Kd.C (Kd.int .u8) w A1 l1.length l1) (hc1 : l1.length ≤ c1) (h : laws_sameBytes.f l0 l1 = some r) :
  Calls Try.prog 28 #[.slice A0 l0.length c0, .slice A1 l1.length c1] w fun e w' => e = .returned (.bool r) ∧ Drawn0 w w' := by
 have HR0 := Aside0.mk hr0; have HC0 := Aside0.mk hc0; clear hr0 hc0; have HR1 := Aside0.mk hr1; have HC1 := Aside0.mk hc1; clear hr1 hc1
 have H : (some ((strOfNums l0).toList == (strOfNums l1).toList)) = some r := h
 clear h
 obtain rfl := Option.some.inj H
 have hcv3 := Kd.C_string (P := Try.prog) (A := A0) (c := c0) Try.underlying34 Try.underlying5 Try.underlying9 HR0.out
 have hcv4 := Kd.C_string (P := Try.prog) (A := A1) (c := c1) Try.underlying34 Try.underlying5 Try.underlying9 HR1.out
 go_enter Try.func28, Try.ntmps28
 go_wp2
 go_ret
 exact ⟨by first | rfl | (simp; done) | (simp [*]; done), by repeat (first | exact Drawn0.refl _ | apply Drawn0.step)⟩
def laws_sameInts.l0 : Nat → List Int → List Int → Int → Option (Bool)
 | 0, _, _, _ => none
 | k + 1, x0, x1, x5 => if x5 < (x0.length : Int) then (if 0 ≤ x5 then (if x5 < (x1.length : Int) then (if (rd x0 x5) = (rd x1 x5) then (laws_sameInts.l0 k x0 x1 (wrap64 (x5 + 1))) else (some false)) else (none)) else (none)) else (some true)
def laws_sameInts.f (k : Nat) (l0 : List Int) (l1 : List Int) : Option (Bool) := if (l0.length : Int) = (l1.length : Int) then (laws_sameInts.l0 k l0 l1 0) else (some false)
theorem laws_sameInts.mono_l : ∀ k, (∀ y0 y1 y2, LeO (laws_sameInts.l0 k y0 y1 y2) (laws_sameInts.l0 (k + 1) y0 y1 y2))
 | 0 => fun _ _ _ r h => by simp [laws_sameInts.l0] at h
 | k + 1 => by
  have ih0 := laws_sameInts.mono_l k
  ·intro y0 y1 y2
   unfold laws_sameInts.l0
   repeat' first | (with_reducible first | apply ih0 | exact LeO.refl _ | exact LeO.none _ | refine LeO.ite ?_ ?_ | refine LeO.bind ?_ fun _ => ?_) | apply ih0 | exact LeO.none _ | refine LeO.ite ?_ ?_ | refine LeO.bind ?_ fun _ => ?_
theorem laws_sameInts.mono : ∀ a0 a1 k, LeO (laws_sameInts.f k a0 a1) (laws_sameInts.f (k + 1) a0 a1) := by
 intro a0 a1 k
 have ih0 := laws_sameInts.mono_l k
 unfold laws_sameInts.f
 repeat' first | (with_reducible first | apply ih0 | exact LeO.refl _ | exact LeO.none _ | refine LeO.ite ?_ ?_ | refine LeO.bind ?_ fun _ => ?_) | apply ih0 | exact LeO.none _ | refine LeO.ite ?_ ?_ | refine LeO.bind ?_ fun _ => ?_
set_option maxHeartbeats 8000000 in
set_option maxRecDepth 100000 in
theorem laws_sameInts.calls (k : Nat) (A0 : Option Addr) (c0 : Nat) (l0 : List Int) (A1 : Option Addr) (c1 : Nat) (l1 : List Int) (r : Bool) (w : World) (hr0 : Kd.C (Kd.int .i64) w A0 l0.length l0) (hc0 : l0.length ≤ c0) (hr1 : Kd.C (Kd.int .i64) w A1 l1.length l1) (hc1 : l1.length ≤ c1) (h : laws_sameInts.f k l0 l1 = some r) :
  Calls Try.prog 55 #[.slice A0 l0.length c0, .slice A1 l1.length c1] w fun e w' => e = .returned (.bool r) ∧ Drawn0 w w' := by
 have HR0 := Aside0.mk hr0; have HC0 := Aside0.mk hc0; clear hr0 hc0; have HR1 := Aside0.mk hr1; have HC1 := Aside0.mk hc1; clear hr1 hc1
 have H : (if (l0.length : Int) = (l1.length : Int) then (laws_sameInts.l0 k l0 l1 0) else (some false)) = some r := h
 clear h
 by_cases c3 : (l0.length : Int) = (l1.length : Int)
 ·rw [if_pos c3] at H
  have c3b0 : ((l0.length : Int) == (l1.length : Int)) = true := beq_iff_eq.mpr c3
  have c3b1 : ((l0.length : Int) != (l1.length : Int)) = false := bne_eq_false_iff_eq.mpr c3
  have c3b2 : (l0.length == l1.length) = true := by first | simpa using c3 | (simp at c3 ⊢; omega)
  clear c3
  have H' := Aside0.mk H
  clear H
  go_enter Try.func55, Try.ntmps55
  go_wp2
  repeat (go_quiet (fail); try go_wp2)
  go_loopg [5] k (fun kq v5 w' => ∃ (x5_1 : Int), v5 = .int .i64 x5_1 ∧ Aside0 (laws_sameInts.l0 kq l0 l1 x5_1 = some r) ∧ Aside0 (kq ≤ k) ∧ Drawn0 w w')
  case atStart => exact ⟨(0), (by first | rfl | (simp; done) | (simp [*]; done)), H', ⟨Nat.le_refl _⟩, by repeat (first | exact Drawn0.refl _ | apply Drawn0.step)⟩
  case round =>
   clear H'; (try clear c1); (try clear p2); (try clear c3); (try clear c3b0); (try clear c3b1); (try clear c3b2)
   obtain ⟨x5_1, rfl, HA, HK1, ⟨m1, rfl⟩⟩ := hrel
   cases gk with
   | zero => exact absurd HA.out (by simp [laws_sameInts.l0])
   | succ k1 =>
    have H := HA.out; clear HA
    simp only [laws_sameInts.l0] at H
    by_cases c4 : x5_1 < (l0.length : Int)
    ·rw [if_pos c4] at H
     have c4b0 : decide (x5_1 < (l0.length : Int)) = true := decide_eq_true c4
     clear c4
     by_cases c5 : 0 ≤ x5_1
     ·rw [if_pos c5] at H
      have c5b0 : decide (0 ≤ x5_1) = true := decide_eq_true c5
      clear c5
      by_cases c6 : x5_1 < (l1.length : Int)
      ·rw [if_pos c6] at H
       have c6b0 : decide (x5_1 < (l1.length : Int)) = true := decide_eq_true c6
       clear c6
       by_cases c7 : (rd l0 x5_1) = (rd l1 x5_1)
       ·rw [if_pos c7] at H
        have c7b0 : ((rd l0 x5_1) == (rd l1 x5_1)) = true := beq_iff_eq.mpr c7
        have c7b1 : ((rd l0 x5_1) != (rd l1 x5_1)) = false := bne_eq_false_iff_eq.mpr c7
        clear c7
        have H' := Aside0.mk H
        clear H
        have p122 : 0 ≤ (x5_1 : Int) := of_decide_eq_true (by first | (with_reducible assumption) | assumption)
        have q122 : x5_1 < (l0.length : Int) := of_decide_eq_true (by first | (with_reducible assumption) | assumption)
        obtain ⟨ad122, e122, hx122_0⟩ := Kd.at_int HR0.out x5_1 p122 q122
        cases e122
        replace p122 := eq_true p122
        replace q122 := eq_true q122
        have p123 : 0 ≤ (x5_1 : Int) := of_decide_eq_true (by first | (with_reducible assumption) | assumption)
        have q123 : x5_1 < (l1.length : Int) := of_decide_eq_true (by first | (with_reducible assumption) | assumption)
        obtain ⟨ad123, e123, hx123_0⟩ := Kd.at_int HR1.out x5_1 p123 q123
        cases e123
        replace p123 := eq_true p123
        replace q123 := eq_true q123
        go_wp2
        repeat (go_quiet (fail); try go_wp2)
        go_roundg k1
        case measure => have := HK1.out; omega
        case rel => exact ⟨(wrap64 (x5_1 + 1)), (by first | rfl | (simp; done) | (simp [*]; done)), H', ⟨by have := HK1.out; omega⟩, by repeat (first | exact Drawn0.refl _ | apply Drawn0.step)⟩
       ·rw [if_neg c7] at H
        have c7b0 : ((rd l0 x5_1) == (rd l1 x5_1)) = false := beq_eq_false_iff_ne.mpr c7
        have c7b1 : ((rd l0 x5_1) != (rd l1 x5_1)) = true := bne_iff_ne.mpr c7
        obtain rfl := Option.some.inj H
        have p122 : 0 ≤ (x5_1 : Int) := of_decide_eq_true (by first | (with_reducible assumption) | assumption)
        have q122 : x5_1 < (l0.length : Int) := of_decide_eq_true (by first | (with_reducible assumption) | assumption)
        obtain ⟨ad122, e122, hx122_0⟩ := Kd.at_int HR0.out x5_1 p122 q122
        cases e122
        replace p122 := eq_true p122
        replace q122 := eq_true q122
        have p123 : 0 ≤ (x5_1 : Int) := of_decide_eq_true (by first | (with_reducible assumption) | assumption)
        have q123 : x5_1 < (l1.length : Int) := of_decide_eq_true (by first | (with_reducible assumption) | assumption)
        obtain ⟨ad123, e123, hx123_0⟩ := Kd.at_int HR1.out x5_1 p123 q123
        cases e123
        replace p123 := eq_true p123
        replace q123 := eq_true q123
        go_wp2
        repeat (go_quiet (fail); try go_wp2)
        go_ret
        exact ⟨by first | rfl | (simp; done) | (simp [*]; done), by repeat (first | exact Drawn0.refl _ | apply Drawn0.step)⟩
      ·rw [if_neg c6] at H
       exact absurd H (by simp)
     ·rw [if_neg c5] at H
      exact absurd H (by simp)
    ·rw [if_neg c4] at H
     have c4b0 : decide (x5_1 < (l0.length : Int)) = false := decide_eq_false c4
     clear c4
     obtain rfl := Option.some.inj H
     go_wp2
     repeat (go_quiet (fail); try go_wp2)
     go_ret
     exact ⟨by first | rfl | (simp; done) | (simp [*]; done), by repeat (first | exact Drawn0.refl _ | apply Drawn0.step)⟩
 ·rw [if_neg c3] at H
  have c3b0 : ((l0.length : Int) == (l1.length : Int)) = false := beq_eq_false_iff_ne.mpr c3
  have c3b1 : ((l0.length : Int) != (l1.length : Int)) = true := bne_iff_ne.mpr c3
  have c3b2 : (l0.length == l1.length) = false := by first | simpa using c3 | (simp at c3 ⊢; omega)
  obtain rfl := Option.some.inj H
  go_enter Try.func55, Try.ntmps55
  go_wp2
  repeat (go_quiet (fail); try go_wp2)
  go_ret
  exact ⟨by first | rfl | (simp; done) | (simp [*]; done), by repeat (first | exact Drawn0.refl _ | apply Drawn0.step)⟩
end Go.Proofs.Ytegchbdjbefdbaa.PFnClientHear
