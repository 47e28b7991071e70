/- Printed by wip/xp/xprint.sh out of the translation, for this claim: what each function answers, as a plain function, and that the machine does just that. No condition. -/
import Derived.Test.YtjiodkbbmhhccaaPFnExactMouthNextx0
import Derived.Test.YtjiodkbbmhhccaaPFnExactMouthNextx2
import Derived.Test.YtjiodkbbmhhccaaPFnExactMouthNextx4
namespace Go.Proofs.Ytjiodkbbmhhccaa.PFnExactMouthNext
open Go.RowKit Go.Proofs.YtjiodkbbmhhccaaW.PrintWords Go.Proofs.YtjiodkbbmhhccaaW.PrintLast Go.Proofs.YtjiodkbbmhhccaaW.PrintMore
attribute [local go_sem] max2_int min2_int max_two min_two max_three min_three max_four min_four   -- for this text's walks alone
set_option linter.unusedVariables false
set_option linter.unusedSimpArgs false

/-! ### laws_szMouth: function 35 -/
def laws_szMouth.f (a0_0 : Int) (l0_1 : List Int) (a0_2 : Int) (a0_3 : Int) (l0_4 : List (S103)) (a1 : Int) : Option (Int) := (laws_szByteS.f l0_1 a1).bind fun t200 => (if t200 < 0 then (some (-1)) else ((laws_szRangeS.f l0_4 t200).bind fun t201 => (if t201 < 0 then (some (-1)) else (some t201))))
set_option maxHeartbeats 8000000 in
set_option maxRecDepth 100000 in
theorem laws_szMouth.calls (a0_0 : Int) (A0_1 : Option Addr) (c0_1 : Nat) (l0_1 : List Int) (a0_2 : Int) (a0_3 : Int) (A0_4 : Option Addr) (c0_4 : Nat) (l0_4 : List (S103)) (a1 : Int) (r : Int) (w : World) (hr0_1 : Kd.C (Kd.int .u8) w A0_1 l0_1.length l0_1) (hc0_1 : l0_1.length ≤ c0_1) (hr0_4 : Kd.C k103 w A0_4 l0_4.length l0_4) (hc0_4 : l0_4.length ≤ c0_4) (h : laws_szMouth.f a0_0 l0_1 a0_2 a0_3 l0_4 a1 = some r) :
  Calls Try.prog 35 #[.agg #[.int .i64 a0_0, .slice A0_1 l0_1.length c0_1, .int .i64 a0_2, .int .i64 a0_3, .slice A0_4 l0_4.length c0_4], .int .i64 a1] w fun e w' => e = .returned (.int .i64 r) ∧ Below w.heap.size w w' := by
 have hu59 := Try.underlying59; have HR0_1 := Aside0.mk hr0_1; have HC0_1 := Aside0.mk hc0_1; clear hr0_1 hc0_1; have HR0_4 := Aside0.mk hr0_4; have HC0_4 := Aside0.mk hc0_4; clear hr0_4 hc0_4
 have HB := Aside0.mk (Below.refl w.heap.size w)
 have H : ((laws_szByteS.f l0_1 a1).bind fun t200 => (if t200 < 0 then (some (-1)) else ((laws_szRangeS.f l0_4 t200).bind fun t201 => (if t201 < 0 then (some (-1)) else (some t201))))) = some r := h
 clear h
 replace H := Option.bind_eq_some_iff.mp H
 obtain ⟨t200, A30, H⟩ := H
 replace H : (if t200 < 0 then (some (-1)) else ((laws_szRangeS.f l0_4 t200).bind fun t201 => (if t201 < 0 then (some (-1)) else (some t201)))) = some r := H
 have A3 := Aside0.mk A30; clear A30
 by_cases c4 : t200 < 0
 ·rw [if_pos c4] at H
  have c4b0 : decide (t200 < 0) = true := decide_eq_true c4
  clear c4
  obtain rfl := Option.some.inj H
  go_enter Try.func35, Try.ntmps35
  go_wp2_with (first | ((with_reducible refine gate_dst (N := 2) rfl ?_); refine box_event ?hg (N := 2) ?hd (cs := #[.int .i64 a0_0, .slice A0_1 l0_1.length c0_1, .int .i64 a0_2, .int .i64 a0_3, .slice A0_4 l0_4.length c0_4]) (t := 59) ?hr ?_; (case hd => rfl); (case hg => rfl); (case hr => first | (go_simp; done) | (go_simp; rfl)); intro gb199 hg w5 hbox hb; have n0_ := Aside0.mk (below_step (hb0_ HB.out) hb); have n1_ := Aside0.mk (hbox); have n2_ := Aside0.mk ((by rw [hg]; exact (below_size (hb0_ HB.out)) : w.heap.size ≤ gb199)); have n3_ := Aside0.mk ((by rw [hg]; exact (below_size (hb0_ HB.out)) : w.heap.size ≤ gb199)); clear HB; have HB := n0_; have BK199 := n1_; have GW199 := n2_; have GE199 := n3_; clear n0_ n1_ n2_ n3_; clear hb hbox hg; have hcz6_0 : w5.cell? ⟨gb199, 0, none⟩ = some (.int .i64 a0_0) := (blk_cell BK199.out 0).trans rfl; have hcz6_1 : w5.cell? ⟨gb199, 1, none⟩ = some (.slice A0_1 l0_1.length c0_1) := (blk_cell BK199.out 1).trans rfl; have hcz6_2 : w5.cell? ⟨gb199, 2, none⟩ = some (.int .i64 a0_2) := (blk_cell BK199.out 2).trans rfl; have hcz6_3 : w5.cell? ⟨gb199, 3, none⟩ = some (.int .i64 a0_3) := (blk_cell BK199.out 3).trans rfl; have hcz6_4 : w5.cell? ⟨gb199, 4, none⟩ = some (.slice A0_4 l0_4.length c0_4) := (blk_cell BK199.out 4).trans rfl; have hfz6_0 := blk_frozen BK199.out 0; have hfz6_1 := blk_frozen BK199.out 1; have hfz6_2 := blk_frozen BK199.out 2; have hfz6_3 := blk_frozen BK199.out 3; have hfz6_4 := blk_frozen BK199.out 4) | ((with_reducible refine gate_callee (f := 49) rfl ?_); refine goesL_ (some 8) rfl rfl Try.func49 (by kernel_rfl) rfl #[.slice A0_1 l0_1.length c0_1, .int .i64 a1] rfl ar_ ?_; (with_reducible refine (laws_szByteS.calls _ _ l0_1 a1 t200 _ ?side1 ?side2 A3.out).mono ?_); (case side1 => exact kC_ (Kd.C_below HR0_1.out HB.out)); (case side2 => exact HC0_1.out); rintro e w' ⟨rfl, ⟨nd, rfl⟩⟩; refine ⟨_, rfl, ?_⟩))
  go_ret
  exact ⟨by first | rfl | (simp [errW_none, errW_some] <;> rfl) | (simp [*, errW_none, errW_some] <;> rfl), by repeat (first | (with_reducible first | exact HB.out | apply below_alloc | apply pw_below_drewN | apply below_drew1 | refine below_set ?_ GE199.out) | exact HB.out)⟩
 ·rw [if_neg c4] at H
  have c4b0 : decide (t200 < 0) = false := decide_eq_false c4
  clear c4
  replace H := Option.bind_eq_some_iff.mp H
  obtain ⟨t201, A70, H⟩ := H
  replace H : (if t201 < 0 then (some (-1)) else (some t201)) = some r := H
  have A7 := Aside0.mk A70; clear A70
  by_cases c8 : t201 < 0
  ·rw [if_pos c8] at H
   have c8b0 : decide (t201 < 0) = true := decide_eq_true c8
   clear c8
   obtain rfl := Option.some.inj H
   go_enter Try.func35, Try.ntmps35
   go_wp2_with (first | ((with_reducible refine gate_dst (N := 2) rfl ?_); refine box_event ?hg (N := 2) ?hd (cs := #[.int .i64 a0_0, .slice A0_1 l0_1.length c0_1, .int .i64 a0_2, .int .i64 a0_3, .slice A0_4 l0_4.length c0_4]) (t := 59) ?hr ?_; (case hd => rfl); (case hg => rfl); (case hr => first | (go_simp; done) | (go_simp; rfl)); intro gb199 hg w9 hbox hb; have n0_ := Aside0.mk (below_step (hb0_ HB.out) hb); have n1_ := Aside0.mk (hbox); have n2_ := Aside0.mk ((by rw [hg]; exact (below_size (hb0_ HB.out)) : w.heap.size ≤ gb199)); have n3_ := Aside0.mk ((by rw [hg]; exact (below_size (hb0_ HB.out)) : w.heap.size ≤ gb199)); clear HB; have HB := n0_; have BK199 := n1_; have GW199 := n2_; have GE199 := n3_; clear n0_ n1_ n2_ n3_; clear hb hbox hg; have hcz10_0 : w9.cell? ⟨gb199, 0, none⟩ = some (.int .i64 a0_0) := (blk_cell BK199.out 0).trans rfl; have hcz10_1 : w9.cell? ⟨gb199, 1, none⟩ = some (.slice A0_1 l0_1.length c0_1) := (blk_cell BK199.out 1).trans rfl; have hcz10_2 : w9.cell? ⟨gb199, 2, none⟩ = some (.int .i64 a0_2) := (blk_cell BK199.out 2).trans rfl; have hcz10_3 : w9.cell? ⟨gb199, 3, none⟩ = some (.int .i64 a0_3) := (blk_cell BK199.out 3).trans rfl; have hcz10_4 : w9.cell? ⟨gb199, 4, none⟩ = some (.slice A0_4 l0_4.length c0_4) := (blk_cell BK199.out 4).trans rfl; have hfz10_0 := blk_frozen BK199.out 0; have hfz10_1 := blk_frozen BK199.out 1; have hfz10_2 := blk_frozen BK199.out 2; have hfz10_3 := blk_frozen BK199.out 3; have hfz10_4 := blk_frozen BK199.out 4) | ((with_reducible refine gate_callee (f := 49) rfl ?_); refine goesL_ (some 8) rfl rfl Try.func49 (by kernel_rfl) rfl #[.slice A0_1 l0_1.length c0_1, .int .i64 a1] rfl ar_ ?_; (with_reducible refine (laws_szByteS.calls _ _ l0_1 a1 t200 _ ?side1 ?side2 A3.out).mono ?_); (case side1 => exact kC_ (Kd.C_below HR0_1.out HB.out)); (case side2 => exact HC0_1.out); rintro e w' ⟨rfl, ⟨nd, rfl⟩⟩; refine ⟨_, rfl, ?_⟩) | ((with_reducible refine gate_callee (f := 65) rfl ?_); refine goesL_ (some 14) rfl rfl Try.func65 (by kernel_rfl) rfl #[.slice A0_4 l0_4.length c0_4, .int .i64 t200] rfl ar_ ?_; (with_reducible refine (laws_szRangeS.calls _ _ l0_4 t200 t201 _ ?side1 ?side2 A7.out).mono ?_); (case side1 => exact kC_ (Kd.C_below HR0_4.out (hb1_ HB.out GE199.out))); (case side2 => exact HC0_4.out); rintro e w' ⟨rfl, ⟨nd, rfl⟩⟩; refine ⟨_, rfl, ?_⟩))
   go_ret
   exact ⟨by first | rfl | (simp [errW_none, errW_some] <;> rfl) | (simp [*, errW_none, errW_some] <;> rfl), by repeat (first | (with_reducible first | exact HB.out | apply below_alloc | apply pw_below_drewN | apply below_drew1 | refine below_set ?_ GE199.out) | exact HB.out)⟩
  ·rw [if_neg c8] at H
   have c8b0 : decide (t201 < 0) = false := decide_eq_false c8
   clear c8
   obtain rfl := Option.some.inj H
   go_enter Try.func35, Try.ntmps35
   go_wp2_with (first | ((with_reducible refine gate_dst (N := 2) rfl ?_); refine box_event ?hg (N := 2) ?hd (cs := #[.int .i64 a0_0, .slice A0_1 l0_1.length c0_1, .int .i64 a0_2, .int .i64 a0_3, .slice A0_4 l0_4.length c0_4]) (t := 59) ?hr ?_; (case hd => rfl); (case hg => rfl); (case hr => first | (go_simp; done) | (go_simp; rfl)); intro gb199 hg w11 hbox hb; have n0_ := Aside0.mk (below_step (hb0_ HB.out) hb); have n1_ := Aside0.mk (hbox); have n2_ := Aside0.mk ((by rw [hg]; exact (below_size (hb0_ HB.out)) : w.heap.size ≤ gb199)); have n3_ := Aside0.mk ((by rw [hg]; exact (below_size (hb0_ HB.out)) : w.heap.size ≤ gb199)); clear HB; have HB := n0_; have BK199 := n1_; have GW199 := n2_; have GE199 := n3_; clear n0_ n1_ n2_ n3_; clear hb hbox hg; have hcz12_0 : w11.cell? ⟨gb199, 0, none⟩ = some (.int .i64 a0_0) := (blk_cell BK199.out 0).trans rfl; have hcz12_1 : w11.cell? ⟨gb199, 1, none⟩ = some (.slice A0_1 l0_1.length c0_1) := (blk_cell BK199.out 1).trans rfl; have hcz12_2 : w11.cell? ⟨gb199, 2, none⟩ = some (.int .i64 a0_2) := (blk_cell BK199.out 2).trans rfl; have hcz12_3 : w11.cell? ⟨gb199, 3, none⟩ = some (.int .i64 a0_3) := (blk_cell BK199.out 3).trans rfl; have hcz12_4 : w11.cell? ⟨gb199, 4, none⟩ = some (.slice A0_4 l0_4.length c0_4) := (blk_cell BK199.out 4).trans rfl; have hfz12_0 := blk_frozen BK199.out 0; have hfz12_1 := blk_frozen BK199.out 1; have hfz12_2 := blk_frozen BK199.out 2; have hfz12_3 := blk_frozen BK199.out 3; have hfz12_4 := blk_frozen BK199.out 4) | ((with_reducible refine gate_callee (f := 49) rfl ?_); refine goesL_ (some 8) rfl rfl Try.func49 (by kernel_rfl) rfl #[.slice A0_1 l0_1.length c0_1, .int .i64 a1] rfl ar_ ?_; (with_reducible refine (laws_szByteS.calls _ _ l0_1 a1 t200 _ ?side1 ?side2 A3.out).mono ?_); (case side1 => exact kC_ (Kd.C_below HR0_1.out HB.out)); (case side2 => exact HC0_1.out); rintro e w' ⟨rfl, ⟨nd, rfl⟩⟩; refine ⟨_, rfl, ?_⟩) | ((with_reducible refine gate_callee (f := 65) rfl ?_); refine goesL_ (some 14) rfl rfl Try.func65 (by kernel_rfl) rfl #[.slice A0_4 l0_4.length c0_4, .int .i64 t200] rfl ar_ ?_; (with_reducible refine (laws_szRangeS.calls _ _ l0_4 t200 t201 _ ?side1 ?side2 A7.out).mono ?_); (case side1 => exact kC_ (Kd.C_below HR0_4.out (hb1_ HB.out GE199.out))); (case side2 => exact HC0_4.out); rintro e w' ⟨rfl, ⟨nd, rfl⟩⟩; refine ⟨_, rfl, ?_⟩))
   go_ret
   exact ⟨by first | rfl | (simp [errW_none, errW_some] <;> rfl) | (simp [*, errW_none, errW_some] <;> rfl), by repeat (first | (with_reducible first | exact HB.out | apply below_alloc | apply pw_below_drewN | apply below_drew1 | refine below_set ?_ GE199.out) | exact HB.out)⟩

/-! ### laws_toByteS: function 51 -/
def laws_toByteS.l0 : Nat → List Int → List Int → Int → Option (List Int)
 | 0, _, _, _ => none
 | k + 1, x0, x3, x4 => if x4 < (x0.length : Int) then (if 0 ≤ x4 then (if x4 < (x3.length : Int) then (laws_toByteS.l0 k x0 (x3.set (x4 : Int).toNat (rd x0 x4)) (wrap64 (x4 + 1))) else (none)) else (none)) else (some x3)
def laws_toByteS.f (k : Nat) (l0 : List Int) : Option (List Int) := if 0 ≤ (l0.length : Int) then (if ((l0.length : Int) : Int).toNat ≤ 281474976710656 then (laws_toByteS.l0 k l0 (List.replicate ((l0.length : Int) : Int).toNat 0) 0) else (none)) else (none)
theorem laws_toByteS.mono_l : ∀ k, (∀ y0 y1 y2, LeO (laws_toByteS.l0 k y0 y1 y2) (laws_toByteS.l0 (k + 1) y0 y1 y2))
 | 0 => fun _ _ _ r h => by simp [laws_toByteS.l0] at h
 | k + 1 => by
  have ih0 := laws_toByteS.mono_l k
  ·intro y0 y1 y2
   unfold laws_toByteS.l0
   repeat' first
   | (with_reducible exact ih0 _ _ _)
   | (with_reducible exact LeO.refl _)
   | (with_reducible exact LeO.none _)
   | (with_reducible refine LeO.ite ?_ ?_)
   | (with_reducible refine LeO.bind ?_ (fun _ => ?_))
   | exact ih0 _ _ _
   | exact LeO.none _
   | refine LeO.ite ?_ ?_
   | refine LeO.bind ?_ (fun _ => ?_)
theorem laws_toByteS.mono : ∀ a0 k, LeO (laws_toByteS.f k a0) (laws_toByteS.f (k + 1) a0) := by
 intro a0 k
 have ih0 := laws_toByteS.mono_l k
 unfold laws_toByteS.f
 repeat' first
   | (with_reducible exact ih0 _ _ _)
   | (with_reducible exact LeO.refl _)
   | (with_reducible exact LeO.none _)
   | (with_reducible refine LeO.ite ?_ ?_)
   | (with_reducible refine LeO.bind ?_ (fun _ => ?_))
   | exact ih0 _ _ _
   | exact LeO.none _
   | refine LeO.ite ?_ ?_
   | refine LeO.bind ?_ (fun _ => ?_)
set_option maxHeartbeats 8000000 in
set_option maxRecDepth 100000 in
theorem laws_toByteS.calls (k : Nat) (A0 : Option Addr) (c0 : Nat) (l0 : List Int) (r : List Int) (w : World) (hr0 : Kd.C (Kd.int .u8) w A0 l0.length l0) (hc0 : l0.length ≤ c0) (h : laws_toByteS.f k l0 = some r) :
  Calls Try.prog 51 #[.slice A0 l0.length c0] w fun e w' => ∃ v0_ : Value, e = .returned (v0_) ∧ Kd.R (Kd.int .u8) 5 w' w.heap.size (fun _ => True) v0_ r ∧ Below w.heap.size w w' := by
 have HR0 := Aside0.mk hr0; have HC0 := Aside0.mk hc0; clear hr0 hc0
 have HB := Aside0.mk (Below.refl w.heap.size w)
 have H : (if 0 ≤ (l0.length : Int) then (if ((l0.length : Int) : Int).toNat ≤ 281474976710656 then (laws_toByteS.l0 k l0 (List.replicate ((l0.length : Int) : Int).toNat 0) 0) else (none)) else (none)) = some r := h
 clear h
 by_cases c2 : 0 ≤ (l0.length : Int)
 ·rw [if_pos c2] at H
  have c2b0 := eq_true c2
  have c2b1 : decide (0 ≤ (l0.length : Int)) = true := decide_eq_true c2
  clear c2
  by_cases c3 : ((l0.length : Int) : Int).toNat ≤ 281474976710656
  ·rw [if_pos c3] at H
   have c3b0 := eq_true c3
   have c3b1 : decide (((l0.length : Int) : Int).toNat ≤ 281474976710656) = true := decide_eq_true c3
   clear c3
   obtain ⟨y202, hy202⟩ : ∃ y_ : List Int, y_ = (List.replicate ((l0.length : Int) : Int).toNat 0) := ⟨_, rfl⟩
   replace H : (laws_toByteS.l0 k l0 y202 0) = some r := by first | (rw [hy202]; with_reducible exact H) | (have H2_ := (Option.bind_some _ _).symm.trans H; rw [hy202]; with_reducible exact H2_) | (have H2_ := (Option.bind_some _ _).symm.trans H; with_reducible exact H2_) | with_reducible exact H | (rw [hy202]; exact H) | exact H
   have Ny202 := Aside0.mk hy202; clear hy202
   have H' := Aside0.mk H
   clear H
   go_enter Try.func51, Try.ntmps51
   go_wp2_with (first | ((with_reducible refine gate_dst (N := 7) rfl ?_); refine Kd.R_make (Kd.int .u8) _ 5 rfl (N := 7) rfl 22 _ _ rfl (l0.length : Int) rfl rfl Try.underlying22 (.int .u8 0) 1 info5 rfl (by decide) (by omega) 0 (ok := fun _ => True) (okp := fun _ => True) rfl (fun _ hk => hk) trivial (of_decide_eq_true (by first | (with_reducible assumption) | assumption)) (Nat.le_trans (Nat.mul_le_mul_right _ (of_decide_eq_true (by first | (with_reducible assumption) | assumption) : (l0.length : Int).toNat ≤ 281474976710656)) (by omega)) (Below.refl _ _) (Nat.le_refl _) ?_; intro v203 w4 ho5 hb hg_ hnew_; clear hg_ hnew_; (first | rw [← Ny202.out] at ho5 | (simp only [Int.reduceToNat] at ho5; rw [← Ny202.out] at ho5)); have n0_ := Aside0.mk (Kd.R_lower ho5 (below_size (hb0_ HB.out))); have n1_ := Aside0.mk (below_step (hb0_ HB.out) hb); clear HB; have HO204 := n0_; have HB := n1_; clear n0_ n1_; clear hb ho5))
   go_loopg [4] k (fun kq v4 w' => ∃ (x3_1 : List Int) (x4_1 : Int), v4 = .int .i64 x4_1 ∧ Aside0 (laws_toByteS.l0 kq l0 x3_1 x4_1 = some r) ∧ Aside0 (kq ≤ k) ∧ Aside0 (Kd.R (Kd.int .u8) 5 w' w.heap.size (fun _ => True) v203 x3_1) ∧ Aside0 (Below w.heap.size w w'))
   case atStart => exact ⟨(y202), (0), (by first | rfl | (simp; done) | (simp [*]; done)), H', ⟨Nat.le_refl _⟩, ⟨kR_ HO204.out⟩, ⟨by repeat (first | (with_reducible first | exact HB.out | apply below_alloc | apply pw_below_drewN | apply below_drew1) | exact HB.out)⟩⟩
   case round =>
    clear H'; (try clear c2); (try clear c2b0); (try clear c2b1); (try clear p2); (try clear c3); (try clear c3b0); (try clear c3b1); (try clear c5)
    obtain ⟨x3_1, x4_1, rfl, HA, HK1, HO_3, HB⟩ := hrel
    cases gk with
    | zero => exact absurd HA.out (by simp [laws_toByteS.l0])
    | succ k1 =>
     have H := HA.out; clear HA
     simp only [laws_toByteS.l0] at H
     by_cases c6 : x4_1 < (l0.length : Int)
     ·rw [if_pos c6] at H
      have c6b0 : decide (x4_1 < (l0.length : Int)) = true := decide_eq_true c6
      clear c6
      by_cases c7 : 0 ≤ x4_1
      ·rw [if_pos c7] at H
       have c7b0 : decide (0 ≤ x4_1) = true := decide_eq_true c7
       clear c7
       by_cases c8 : x4_1 < (x3_1.length : Int)
       ·rw [if_pos c8] at H
        have c8b0 : decide (x4_1 < (x3_1.length : Int)) = true := decide_eq_true c8
        clear c8
        obtain ⟨y206, hy206⟩ : ∃ y_ : List Int, y_ = (x3_1.set (x4_1 : Int).toNat (rd l0 x4_1)) := ⟨_, rfl⟩
        replace H : (laws_toByteS.l0 k1 l0 y206 (wrap64 (x4_1 + 1))) = some r := by first | (rw [hy206]; with_reducible exact H) | (have H2_ := (Option.bind_some _ _).symm.trans H; rw [hy206]; with_reducible exact H2_) | (have H2_ := (Option.bind_some _ _).symm.trans H; with_reducible exact H2_) | with_reducible exact H | (rw [hy206]; exact H) | exact H
        have Ny206 := Aside0.mk hy206; clear hy206
        have H' := Aside0.mk H
        clear H
        have p205 : 0 ≤ (x4_1 : Int) := of_decide_eq_true (by first | (with_reducible assumption) | assumption)
        have q205 : x4_1 < (l0.length : Int) := of_decide_eq_true (by first | (with_reducible assumption) | assumption)
        obtain ⟨ad205, e205, hx205_0⟩ := Kd.at_int HR0.out x4_1 p205 q205
        cases e205
        replace hx205_0 := (HB.out.cell (World.block_lt_of_cell? w _ hx205_0)).trans hx205_0
        replace p205 := eq_true p205
        replace q205 := eq_true q205
        have p9 : 0 ≤ (x4_1 : Int) := of_decide_eq_true (by first | (with_reducible assumption) | assumption)
        have q9 : (x4_1 : Int) < ((x3_1.length : Int) : Int) := of_decide_eq_true (by first | (with_reducible assumption) | assumption)
        obtain ⟨go9, co9, eo9, gb9, gl9, cl9, HG9⟩ := Kd.R_form HO_3.out (by omega)
        (first | cases eo9 | (injection eo9 with ea_ en_ ec_; (first | subst ea_ | (injection ea_ with ea_; subst ea_)); subst ec_; clear en_))
        have GB9 := Aside0.mk gb9; have GG9 := Aside0.mk HG9; clear gb9 gl9 HG9
        obtain ⟨hx9_0, hf9_0⟩ := Kd.R_celln 0 HO_3.out (x4_1 : Int) p9 q9
        replace p9 := eq_true p9
        replace q9 := eq_true q9
        have HP10 := Kd.R_putg HO_3.out (x4_1 : Int) (rd l0 x4_1)
        go_wp2_with (first | ((with_reducible refine gate_store (t := 5) (p := 20) rfl ?_); refine store_event (t := 5) (p := 20) (v := ?vo_w11) (w1 := (wr.setCell ⟨go9, (x4_1 : Int).toNat, none⟩ (.int .u8 (rd l0 x4_1)))) ?hg ?ho ?hn ?hr ?_; (case ho => rfl); (case hg => rfl); (case hn => rfl); (case hr => first | (go_simp; done) | (go_simp; rfl)); intro w11 hw; have hg : wr.grownBy w11 (some go9) := (by rw [hw]; exact HP10.2); have hp_ : Kd.R (Kd.int .u8) 5 w11 w.heap.size (fun _ => True) (.slice (some ⟨go9, 0, none⟩) x3_1.length co9) y206 := (by rw [hw, Ny206.out]; exact HP10.1); clear HP10; have n0_ := Aside0.mk (hp_); have n1_ := Aside0.mk ((by rw [hw]; exact below_set (HB.out) GB9.out : Below w.heap.size w w11)); clear HO_3; clear HB; have HO_3 := n0_; have HB := n1_; clear n0_ n1_; clear hg hw hp_))
        go_roundg k1
        case measure => have := HK1.out; omega
        case rel => exact ⟨(y206), (wrap64 (x4_1 + 1)), (by first | rfl | (simp; done) | (simp [*]; done)), H', ⟨by have := HK1.out; omega⟩, ⟨kR_ HO_3.out⟩, ⟨by repeat (first | (with_reducible first | exact HB.out | apply below_alloc | apply pw_below_drewN | apply below_drew1) | exact HB.out)⟩⟩
       ·rw [if_neg c8] at H
        exact absurd H (by simp)
      ·rw [if_neg c7] at H
       exact absurd H (by simp)
     ·rw [if_neg c6] at H
      have c6b0 : decide (x4_1 < (l0.length : Int)) = false := decide_eq_false c6
      clear c6
      obtain rfl := Option.some.inj H
      go_wp2
      go_ret
      exact ⟨_, by first | rfl | (simp [errW_none, errW_some] <;> rfl) | (simp [*, errW_none, errW_some] <;> rfl), kR_ HO_3.out, by repeat (first | (with_reducible first | exact HB.out | apply below_alloc | apply pw_below_drewN | apply below_drew1) | exact HB.out)⟩
  ·rw [if_neg c3] at H
   exact absurd H (by simp)
 ·rw [if_neg c2] at H
  exact absurd H (by simp)

/-! ### laws_toRange: function 80 -/
def laws_toRange.f (a0_0 : Int) (a0_1 : Int) : Option (Int × Int) := some (a0_0, a0_1)
set_option maxHeartbeats 8000000 in
set_option maxRecDepth 100000 in
theorem laws_toRange.calls (a0_0 : Int) (a0_1 : Int) (r1 : Int) (r2 : Int) (w : World) (h : laws_toRange.f a0_0 a0_1 = some (r1, r2)) :
  Calls Try.prog 80 #[.agg #[.int .i64 a0_0, .int .i64 a0_1]] w fun e w' => e = .returned (.agg #[.int .i64 r1, .int .i64 r2]) ∧ Below w.heap.size w w' := by
 have hu103 := Try.underlying103; have hu86 := Try.underlying86
 have HB := Aside0.mk (Below.refl w.heap.size w)
 have H : (some (a0_0, a0_1)) = some (r1, r2) := h
 clear h
 simp only [Option.some.injEq, Prod.mk.injEq] at H
 obtain ⟨rfl, rfl⟩ := H
 go_enter Try.func80, Try.ntmps80
 go_wp2_with (first | ((with_reducible refine gate_dst (N := 1) rfl ?_); refine box_event ?hg (N := 1) ?hd (cs := #[.int .i64 a0_0, .int .i64 a0_1]) (t := 103) ?hr ?_; (case hd => rfl); (case hg => rfl); (case hr => first | (go_simp; done) | (go_simp; rfl)); intro gb207 hg w2 hbox hb; have n0_ := Aside0.mk (below_step (hb0_ HB.out) hb); have n1_ := Aside0.mk (hbox); have n2_ := Aside0.mk ((by rw [hg]; exact (below_size (hb0_ HB.out)) : w.heap.size ≤ gb207)); have n3_ := Aside0.mk ((by rw [hg]; exact (below_size (hb0_ HB.out)) : w.heap.size ≤ gb207)); clear HB; have HB := n0_; have BK207 := n1_; have GW207 := n2_; have GE207 := n3_; clear n0_ n1_ n2_ n3_; clear hb hbox hg) | ((with_reducible refine gate_dst (N := 2) rfl ?_); refine box_event ?hg (N := 2) ?hd (cs := #[.int .i64 0, .int .i64 0]) (t := 86) ?hr ?_; (case hd => rfl); (case hg => rfl); (case hr => first | (go_simp; done) | (go_simp; rfl)); intro gb208 hg w3 hbox hb; have n0_ := Aside0.mk (blk_below (g := gb207) (o := .cells #[.int .i64 a0_0, .int .i64 a0_1] 103 (0, 0)) (kb_ BK207.out) hb); have n1_ := Aside0.mk (below_step (hb1_ HB.out GE207.out) hb); have n2_ := Aside0.mk (hbox); have n3_ := Aside0.mk ((by rw [hg]; exact (below_size (hb1_ HB.out GE207.out)) : w.heap.size ≤ gb208)); have n4_ := Aside0.mk ((by rw [hg]; exact (below_size (hb1_ HB.out GE207.out)) : w.heap.size ≤ gb208)); have n5_ := Aside0.mk ((by rw [hg]; exact Nat.ne_of_lt (blk_lt (g := gb207) (o := .cells #[.int .i64 a0_0, .int .i64 a0_1] 103 (0, 0)) (kb_ BK207.out)) : gb207 ≠ gb208)); have n6_ := Aside0.mk ((by rw [hg]; exact Nat.ne_of_gt (blk_lt (g := gb207) (o := .cells #[.int .i64 a0_0, .int .i64 a0_1] 103 (0, 0)) (kb_ BK207.out)) : gb208 ≠ gb207)); clear BK207; clear HB; have BK207 := n0_; have HB := n1_; have BK208 := n2_; have GW208 := n3_; have GE208 := n4_; have NB207_208 := n5_; have NB208_207 := n6_; clear n0_ n1_ n2_ n3_ n4_ n5_ n6_; clear hb hbox hg) | ((with_reducible refine gate_dst (N := 3) rfl ?_); refine box_event ?hg (N := 3) ?hd (cs := #[.int .i64 0, .int .i64 0]) (t := 86) ?hr ?_; (case hd => rfl); (case hg => rfl); (case hr => first | (go_simp; done) | (go_simp; rfl)); intro gb209 hg w4 hbox hb; have n0_ := Aside0.mk (blk_below (g := gb207) (o := .cells #[.int .i64 a0_0, .int .i64 a0_1] 103 (0, 0)) (kb_ BK207.out) hb); have n1_ := Aside0.mk (blk_below (g := gb208) (o := .cells #[.int .i64 0, .int .i64 0] 86 (0, 0)) (kb_ BK208.out) hb); have n2_ := Aside0.mk (below_step (hb2_ HB.out GE207.out GE208.out) hb); have n3_ := Aside0.mk (hbox); have n4_ := Aside0.mk ((by rw [hg]; exact (below_size (hb2_ HB.out GE207.out GE208.out)) : w.heap.size ≤ gb209)); have n5_ := Aside0.mk ((by rw [hg]; exact (below_size (hb2_ HB.out GE207.out GE208.out)) : w.heap.size ≤ gb209)); have n6_ := Aside0.mk ((by rw [hg]; exact Nat.ne_of_lt (blk_lt (g := gb207) (o := .cells #[.int .i64 a0_0, .int .i64 a0_1] 103 (0, 0)) (kb_ BK207.out)) : gb207 ≠ gb209)); have n7_ := Aside0.mk ((by rw [hg]; exact Nat.ne_of_gt (blk_lt (g := gb207) (o := .cells #[.int .i64 a0_0, .int .i64 a0_1] 103 (0, 0)) (kb_ BK207.out)) : gb209 ≠ gb207)); have n8_ := Aside0.mk ((by rw [hg]; exact Nat.ne_of_lt (blk_lt (g := gb208) (o := .cells #[.int .i64 0, .int .i64 0] 86 (0, 0)) (kb_ BK208.out)) : gb208 ≠ gb209)); have n9_ := Aside0.mk ((by rw [hg]; exact Nat.ne_of_gt (blk_lt (g := gb208) (o := .cells #[.int .i64 0, .int .i64 0] 86 (0, 0)) (kb_ BK208.out)) : gb209 ≠ gb208)); clear BK207; clear BK208; clear HB; have BK207 := n0_; have BK208 := n1_; have HB := n2_; have BK209 := n3_; have GW209 := n4_; have GE209 := n5_; have NB207_209 := n6_; have NB209_207 := n7_; have NB208_209 := n8_; have NB209_208 := n9_; clear n0_ n1_ n2_ n3_ n4_ n5_ n6_ n7_ n8_ n9_; clear hb hbox hg; have hnb5 := NB207_208.out; have hnc5 := NB208_207.out; have hnb6 := NB207_209.out; have hnc6 := NB209_207.out; have hcz7_0 : w4.cell? ⟨gb207, 0, none⟩ = some (.int .i64 a0_0) := (blk_cell BK207.out 0).trans rfl; have hcz7_1 : w4.cell? ⟨gb207, 1, none⟩ = some (.int .i64 a0_1) := (blk_cell BK207.out 1).trans rfl; have hfz7_0 := blk_frozen BK207.out 0; have hfz7_1 := blk_frozen BK207.out 1; have hnb8 := NB209_208.out; have hnc8 := NB208_209.out; have hcz9_0 : w4.cell? ⟨gb209, 0, none⟩ = some (.int .i64 0) := (blk_cell BK209.out 0).trans rfl; have hcz9_1 : w4.cell? ⟨gb209, 1, none⟩ = some (.int .i64 0) := (blk_cell BK209.out 1).trans rfl; have hfz9_0 := blk_frozen BK209.out 0; have hfz9_1 := blk_frozen BK209.out 1; have hcz10_0 : w4.cell? ⟨gb208, 0, none⟩ = some (.int .i64 0) := (blk_cell BK208.out 0).trans rfl; have hcz10_1 : w4.cell? ⟨gb208, 1, none⟩ = some (.int .i64 0) := (blk_cell BK208.out 1).trans rfl; have hfz10_0 := blk_frozen BK208.out 0; have hfz10_1 := blk_frozen BK208.out 1))
 refine bodyPost_ret (results_cell_row rfl _ _ gb208 86 #[.int .i64 a0_0, .int .i64 a0_1] (0, 0) _ rfl (by refine kb_ ?_; refine blk_put (cs := #[.int .i64 a0_0, .int .i64 0]) ?_ 1 _ rfl; refine kb_ ?_; refine blk_put (cs := #[.int .i64 0, .int .i64 0]) ?_ 0 _ rfl; refine kb_ ?_; refine blk_far ?_ NB208_209.out _; refine kb_ ?_; refine blk_far ?_ NB208_209.out _; refine kb_ ?_; exact BK208.out) Try.underlying86 rfl (by kernel_rfl)) rfl ?_
 exact ⟨by first | rfl | (simp [errW_none, errW_some] <;> rfl) | (simp [*, errW_none, errW_some] <;> rfl), by repeat (first | (with_reducible first | exact HB.out | apply below_alloc | apply pw_below_drewN | apply below_drew1 | refine below_set ?_ GE207.out | refine below_set ?_ GE208.out | refine below_set ?_ GE209.out) | exact HB.out)⟩

/-! ### laws_toRangeS: function 66 -/
def laws_toRangeS.l0 : Nat → List (S103) → List (S86) → Int → Option ((List (S86)))
 | 0, _, _, _ => none
 | k + 1, x0, x3, x4 => if x4 < (x0.length : Int) then (if 0 ≤ x4 then ((laws_toRange.f ((rd_T103 x0 x4).f0) ((rd_T103 x0 x4).f1)).bind fun bt214 => (if x4 < (x3.length : Int) then (laws_toRangeS.l0 k x0 (x3.set (x4 : Int).toNat (⟨bt214.1, bt214.2⟩ : S86)) (wrap64 (x4 + 1))) else (none))) else (none)) else (some x3)
def laws_toRangeS.f (k : Nat) (l0 : List (S103)) : Option ((List (S86))) := if 0 ≤ (l0.length : Int) then (if ((l0.length : Int) : Int).toNat ≤ 17592186044416 then (laws_toRangeS.l0 k l0 (List.replicate ((l0.length : Int) : Int).toNat z86) 0) else (none)) else (none)
theorem laws_toRangeS.mono_l : ∀ k, (∀ y0 y1 y2, LeO (laws_toRangeS.l0 k y0 y1 y2) (laws_toRangeS.l0 (k + 1) y0 y1 y2))
 | 0 => fun _ _ _ r h => by simp [laws_toRangeS.l0] at h
 | k + 1 => by
  have ih0 := laws_toRangeS.mono_l k
  ·intro y0 y1 y2
   unfold laws_toRangeS.l0
   repeat' first
   | (with_reducible exact ih0 _ _ _)
   | (with_reducible exact LeO.refl _)
   | (with_reducible exact LeO.none _)
   | (with_reducible refine LeO.ite ?_ ?_)
   | (with_reducible refine LeO.bind ?_ (fun _ => ?_))
   | exact ih0 _ _ _
   | exact LeO.none _
   | refine LeO.ite ?_ ?_
   | refine LeO.bind ?_ (fun _ => ?_)
theorem laws_toRangeS.mono : ∀ a0 k, LeO (laws_toRangeS.f k a0) (laws_toRangeS.f (k + 1) a0) := by
 intro a0 k
 have ih0 := laws_toRangeS.mono_l k
 unfold laws_toRangeS.f
 repeat' first
   | (with_reducible exact ih0 _ _ _)
   | (with_reducible exact LeO.refl _)
   | (with_reducible exact LeO.none _)
   | (with_reducible refine LeO.ite ?_ ?_)
   | (with_reducible refine LeO.bind ?_ (fun _ => ?_))
   | exact ih0 _ _ _
   | exact LeO.none _
   | refine LeO.ite ?_ ?_
   | refine LeO.bind ?_ (fun _ => ?_)
set_option maxHeartbeats 8000000 in
set_option maxRecDepth 100000 in
theorem laws_toRangeS.calls (k : Nat) (A0 : Option Addr) (c0 : Nat) (l0 : List (S103)) (r : List (S86)) (w : World) (hr0 : Kd.C k103 w A0 l0.length l0) (hc0 : l0.length ≤ c0) (h : laws_toRangeS.f k l0 = some r) :
  Calls Try.prog 66 #[.slice A0 l0.length c0] w fun e w' => ∃ v0_ : Value, e = .returned (v0_) ∧ Kd.R k86 86 w' w.heap.size (fun _ => True) v0_ r ∧ Below w.heap.size w w' := by
 have hu103 := Try.underlying103; have hu86 := Try.underlying86; have HR0 := Aside0.mk hr0; have HC0 := Aside0.mk hc0; clear hr0 hc0
 have HB := Aside0.mk (Below.refl w.heap.size w)
 have H : (if 0 ≤ (l0.length : Int) then (if ((l0.length : Int) : Int).toNat ≤ 17592186044416 then (laws_toRangeS.l0 k l0 (List.replicate ((l0.length : Int) : Int).toNat z86) 0) else (none)) else (none)) = some r := h
 clear h
 by_cases c2 : 0 ≤ (l0.length : Int)
 ·rw [if_pos c2] at H
  have c2b0 := eq_true c2
  have c2b1 : decide (0 ≤ (l0.length : Int)) = true := decide_eq_true c2
  clear c2
  by_cases c3 : ((l0.length : Int) : Int).toNat ≤ 17592186044416
  ·rw [if_pos c3] at H
   have c3b0 := eq_true c3
   have c3b1 : decide (((l0.length : Int) : Int).toNat ≤ 17592186044416) = true := decide_eq_true c3
   clear c3
   obtain ⟨y210, hy210⟩ : ∃ y_ : List (S86), y_ = (List.replicate ((l0.length : Int) : Int).toNat z86) := ⟨_, rfl⟩
   replace H : (laws_toRangeS.l0 k l0 y210 0) = some r := by first | (rw [hy210]; with_reducible exact H) | (have H2_ := (Option.bind_some _ _).symm.trans H; rw [hy210]; with_reducible exact H2_) | (have H2_ := (Option.bind_some _ _).symm.trans H; with_reducible exact H2_) | with_reducible exact H | (rw [hy210]; exact H) | exact H
   have Ny210 := Aside0.mk hy210; clear hy210
   have H' := Aside0.mk H
   clear H
   go_enter Try.func66, Try.ntmps66
   go_wp2_with (first | ((with_reducible refine gate_dst (N := 7) rfl ?_); refine Kd.R_make k86 _ 86 rfl (N := 7) rfl 45 _ _ rfl (l0.length : Int) rfl rfl Try.underlying45 (.agg #[(.int .i64 0), (.int .i64 0)]) 16 info86 rfl (by decide) (by omega) z86 (ok := fun _ => True) (okp := fun _ => True) (k86_mkM _ _ _ z86 ) (fun _ hk => hk) trivial (of_decide_eq_true (by first | (with_reducible assumption) | assumption)) (Nat.le_trans (Nat.mul_le_mul_right _ (of_decide_eq_true (by first | (with_reducible assumption) | assumption) : (l0.length : Int).toNat ≤ 17592186044416)) (by omega)) (Below.refl _ _) (Nat.le_refl _) ?_; intro v211 w4 ho5 hb hg_ hnew_; clear hg_ hnew_; (first | rw [← Ny210.out] at ho5 | (simp only [Int.reduceToNat] at ho5; rw [← Ny210.out] at ho5)); have n0_ := Aside0.mk (Kd.R_lower ho5 (below_size (hb0_ HB.out))); have n1_ := Aside0.mk (below_step (hb0_ HB.out) hb); clear HB; have HO212 := n0_; have HB := n1_; clear n0_ n1_; clear hb ho5))
   go_loopg [4] k (fun kq v4 w' => ∃ (x3_1 : List (S86)) (x4_1 : Int), v4 = .int .i64 x4_1 ∧ Aside0 (laws_toRangeS.l0 kq l0 x3_1 x4_1 = some r) ∧ Aside0 (kq ≤ k) ∧ Aside0 (Kd.R k86 86 w' w.heap.size (fun _ => True) v211 x3_1) ∧ Aside0 (Below w.heap.size w w'))
   case atStart => exact ⟨(y210), (0), (by first | rfl | (simp; done) | (simp [*]; done)), H', ⟨Nat.le_refl _⟩, ⟨kR_ HO212.out⟩, ⟨by repeat (first | (with_reducible first | exact HB.out | apply below_alloc | apply pw_below_drewN | apply below_drew1) | exact HB.out)⟩⟩
   case round =>
    clear H'; (try clear c2); (try clear c2b0); (try clear c2b1); (try clear p2); (try clear c3); (try clear c3b0); (try clear c3b1)
    obtain ⟨x3_1, x4_1, rfl, HA, HK1, HO_3, HB⟩ := hrel
    cases gk with
    | zero => exact absurd HA.out (by simp [laws_toRangeS.l0])
    | succ k1 =>
     have H := HA.out; clear HA
     simp only [laws_toRangeS.l0] at H
     by_cases c6 : x4_1 < (l0.length : Int)
     ·rw [if_pos c6] at H
      have c6b0 : decide (x4_1 < (l0.length : Int)) = true := decide_eq_true c6
      clear c6
      by_cases c7 : 0 ≤ x4_1
      ·rw [if_pos c7] at H
       have c7b0 : decide (0 ≤ x4_1) = true := decide_eq_true c7
       clear c7
       replace H := Option.bind_eq_some_iff.mp H
       obtain ⟨⟨t214, t215⟩, A80, H⟩ := H
       replace H : (if x4_1 < (x3_1.length : Int) then (laws_toRangeS.l0 k1 l0 (x3_1.set (x4_1 : Int).toNat (⟨t214, t215⟩ : S86)) (wrap64 (x4_1 + 1))) else (none)) = some r := H
       have A8 := Aside0.mk A80; clear A80
       by_cases c9 : x4_1 < (x3_1.length : Int)
       ·rw [if_pos c9] at H
        have c9b0 : decide (x4_1 < (x3_1.length : Int)) = true := decide_eq_true c9
        clear c9
        obtain ⟨y216, hy216⟩ : ∃ y_ : List (S86), y_ = (x3_1.set (x4_1 : Int).toNat (⟨t214, t215⟩ : S86)) := ⟨_, rfl⟩
        replace H : (laws_toRangeS.l0 k1 l0 y216 (wrap64 (x4_1 + 1))) = some r := by first | (rw [hy216]; with_reducible exact H) | (have H2_ := (Option.bind_some _ _).symm.trans H; rw [hy216]; with_reducible exact H2_) | (have H2_ := (Option.bind_some _ _).symm.trans H; with_reducible exact H2_) | with_reducible exact H | (rw [hy216]; exact H) | exact H
        have Ny216 := Aside0.mk hy216; clear hy216
        have H' := Aside0.mk H
        clear H
        have p213 : 0 ≤ (x4_1 : Int) := of_decide_eq_true (by first | (with_reducible assumption) | assumption)
        have q213 : x4_1 < (l0.length : Int) := of_decide_eq_true (by first | (with_reducible assumption) | assumption)
        obtain ⟨ad213, e213, hx213_0, hx213_1⟩ := at_T103 HR0.out x4_1 p213 q213
        cases e213
        replace hx213_0 := (HB.out.cell (World.block_lt_of_cell? w _ hx213_0)).trans hx213_0
        replace hx213_1 := (HB.out.cell (World.block_lt_of_cell? w _ hx213_1)).trans hx213_1
        replace p213 := eq_true p213
        replace q213 := eq_true q213
        go_wp2_with (first | ((with_reducible refine gate_callee (f := 80) rfl ?_); refine goesL_ (some 20) rfl rfl Try.func80 (by kernel_rfl) rfl #[.agg #[.int .i64 ((rd_T103 l0 x4_1).f0), .int .i64 ((rd_T103 l0 x4_1).f1)]] rfl ar_ ?_; (with_reducible refine (laws_toRange.calls ((rd_T103 l0 x4_1).f0) ((rd_T103 l0 x4_1).f1) t214 t215 _ A8.out).mono ?_); rintro e w11 ⟨rfl, hb⟩; refine ⟨_, rfl, ?_⟩; have n0_ := Aside0.mk (Kd.R_below (kR_ HO_3.out) hb); have n1_ := Aside0.mk (below_step (hb0_ HB.out) hb); clear HO_3; clear HB; have HO_3 := n0_; have HB := n1_; clear n0_ n1_; (try clear hb); (try clear hb2); (try clear hk); (try clear hi); have p10 : 0 ≤ (x4_1 : Int) := of_decide_eq_true (by first | (with_reducible assumption) | assumption); have q10 : (x4_1 : Int) < ((x3_1.length : Int) : Int) := of_decide_eq_true (by first | (with_reducible assumption) | assumption); obtain ⟨go10, co10, eo10, gb10, gl10, cl10, HG10⟩ := Kd.R_form HO_3.out (by omega); (first | cases eo10 | (injection eo10 with ea_ en_ ec_; (first | subst ea_ | (injection ea_ with ea_; subst ea_)); subst ec_; clear en_)); have GB10 := Aside0.mk gb10; have GG10 := Aside0.mk HG10; clear gb10 gl10 HG10; obtain ⟨ce10, hcl10, hM10, hcc10, hfr10⟩ := Kd.R_elem HO_3.out z86 (x4_1 : Int) p10 q10; obtain rfl := k86_openM hM10; have hx10_0 : w11.cell? ⟨go10, (x4_1 : Int).toNat * 2, none⟩ = some (.int .i64 ((rd_T86 x3_1 x4_1).f0)) := hcc10 0 _ rfl; have hx10_1 : w11.cell? ⟨go10, (x4_1 : Int).toNat * 2 + 1, none⟩ = some (.int .i64 ((rd_T86 x3_1 x4_1).f1)) := hcc10 1 _ rfl; have hf10_0 : w11.frozen? ⟨go10, (x4_1 : Int).toNat * 2, none⟩ = false := hfr10 0; have hf10_1 : w11.frozen? ⟨go10, (x4_1 : Int).toNat * 2 + 1, none⟩ = false := hfr10 1; clear hcl10 hcc10 hfr10 hM10; replace p10 := eq_true p10; replace q10 := eq_true q10; have HX12 := Aside0.mk (show Kd.R k86 86 w11 w.heap.size (fun _ => True) (.slice (some ⟨go10, 0, none⟩) x3_1.length co10) x3_1 from (kR_ HO_3.out)); obtain ⟨ce12, hcl12, hM12, hcc12, hfr12⟩ := Kd.R_elem HX12.out z86 (x4_1 : Int) (of_decide_eq_true (by first | (with_reducible assumption) | assumption)) (by have h_ : (x4_1 : Int) < ((x3_1.length : Int) : Int) := of_decide_eq_true (by first | (with_reducible assumption) | assumption); first | exact h_ | (have e_ := (Kd.R_reads' HO_3.out).1; omega) | simpa using h_); obtain rfl := k86_openM hM12; have HP12 := Kd.R_seg HX12.out (x4_1 : Int) (of_decide_eq_true (by first | (with_reducible assumption) | assumption)) (by have h_ : (x4_1 : Int) < ((x3_1.length : Int) : Int) := of_decide_eq_true (by first | (with_reducible assumption) | assumption); first | exact h_ | (have e_ := (Kd.R_reads' HO_3.out).1; omega) | simpa using h_) (seg := [.int .i64 t214, .int .i64 t215]) (j := 0) hcl12 hcc12 (show 2 ≤ 2 from by decide) (x' := (⟨t214, t215⟩ : S86)) (k86_mkM _ _ _ (⟨t214, t215⟩ : S86) ) (fun _ hk => hk); have hx12_0 := hcc12 0 _ rfl; (try simp only [show (k86).sz = 2 from rfl, Nat.mul_one, Nat.add_zero] at hx12_0); have hf12_0 := hfr12 0; (try simp only [show (k86).sz = 2 from rfl, Nat.mul_one, Nat.add_zero] at hf12_0); have hx12_1 := hcc12 1 _ rfl; (try simp only [show (k86).sz = 2 from rfl, Nat.mul_one, Nat.add_zero] at hx12_1); have hf12_1 := hfr12 1; (try simp only [show (k86).sz = 2 from rfl, Nat.mul_one, Nat.add_zero] at hf12_1); clear hcl12 hcc12 hfr12 hM12) | ((with_reducible refine gate_store (t := 86) (p := 21) rfl ?_); refine store_event (t := 86) (p := 21) (v := ?vo_w13) (w1 := ((w11.setCell ⟨go10, (x4_1 : Int).toNat * 2, none⟩ (.int .i64 t214)).setCell ⟨go10, (x4_1 : Int).toNat * 2 + 1, none⟩ (.int .i64 t215))) ?hg ?ho ?hn ?hr ?_; (case ho => rfl); (case hg => rfl); (case hn => rfl); (case hr => first | (go_simp; done) | (go_simp; rfl)); intro w13 hw; have hg : w11.grownBy w13 (some go10) := (by rw [hw]; exact HP12.2); have hp_ : Kd.R k86 86 w13 w.heap.size (fun _ => True) (.slice (some ⟨go10, 0, none⟩) x3_1.length co10) y216 := (by rw [hw, Ny216.out]; exact HP12.1); clear HP12; have n0_ := Aside0.mk (hp_); have n1_ := Aside0.mk ((by rw [hw]; exact below_set (below_set (HB.out) GB10.out) GB10.out : Below w.heap.size w w13)); clear HO_3; clear HB; have HO_3 := n0_; have HB := n1_; clear n0_ n1_; clear hg hw hp_))
        go_roundg k1
        case measure => have := HK1.out; omega
        case rel => exact ⟨(y216), (wrap64 (x4_1 + 1)), (by first | rfl | (simp; done) | (simp [*]; done)), H', ⟨by have := HK1.out; omega⟩, ⟨kR_ HO_3.out⟩, ⟨by repeat (first | (with_reducible first | exact HB.out | apply below_alloc | apply pw_below_drewN | apply below_drew1) | exact HB.out)⟩⟩
       ·rw [if_neg c9] at H
        exact absurd H (by simp)
      ·rw [if_neg c7] at H
       exact absurd H (by simp)
     ·rw [if_neg c6] at H
      have c6b0 : decide (x4_1 < (l0.length : Int)) = false := decide_eq_false c6
      clear c6
      obtain rfl := Option.some.inj H
      go_wp2
      go_ret
      exact ⟨_, by first | rfl | (simp [errW_none, errW_some] <;> rfl) | (simp [*, errW_none, errW_some] <;> rfl), kR_ HO_3.out, by repeat (first | (with_reducible first | exact HB.out | apply below_alloc | apply pw_below_drewN | apply below_drew1) | exact HB.out)⟩
  ·rw [if_neg c3] at H
   exact absurd H (by simp)
 ·rw [if_neg c2] at H
  exact absurd H (by simp)

/-! ### laws_toMouth: function 36 -/
def laws_toMouth.f (k : Nat) (a0_0 : Int) (l0_1 : List Int) (a0_2 : Int) (a0_3 : Int) (l0_4 : List (S103)) : Option (Int × List Int × Int × Int × (List (S86))) := (laws_toByteS.f k l0_1).bind fun t220 => ((laws_toRangeS.f k l0_4).bind fun t223 => (some (a0_0, t220, a0_2, a0_3, t223)))
theorem laws_toMouth.mono : ∀ a0 a1 a2 a3 a4 k, LeO (laws_toMouth.f k a0 a1 a2 a3 a4) (laws_toMouth.f (k + 1) a0 a1 a2 a3 a4) := by
 intro a0 a1 a2 a3 a4 k
 unfold laws_toMouth.f
 repeat' first
   | (with_reducible exact laws_toByteS.mono _ _)
   | (with_reducible exact laws_toRangeS.mono _ _)
   | (with_reducible exact LeO.refl _)
   | (with_reducible exact LeO.none _)
   | (with_reducible refine LeO.ite ?_ ?_)
   | (with_reducible refine LeO.bind ?_ (fun _ => ?_))
   | exact laws_toByteS.mono _ _
   | exact laws_toRangeS.mono _ _
   | exact LeO.none _
   | refine LeO.ite ?_ ?_
   | refine LeO.bind ?_ (fun _ => ?_)
set_option maxHeartbeats 8000000 in
set_option maxRecDepth 100000 in
theorem laws_toMouth.calls (k : Nat) (a0_0 : Int) (A0_1 : Option Addr) (c0_1 : Nat) (l0_1 : List Int) (a0_2 : Int) (a0_3 : Int) (A0_4 : Option Addr) (c0_4 : Nat) (l0_4 : List (S103)) (r1 : Int) (r2 : List Int) (r3 : Int) (r4 : Int) (r5 : List (S86)) (w : World) (hr0_1 : Kd.C (Kd.int .u8) w A0_1 l0_1.length l0_1) (hc0_1 : l0_1.length ≤ c0_1) (hr0_4 : Kd.C k103 w A0_4 l0_4.length l0_4) (hc0_4 : l0_4.length ≤ c0_4) (h : laws_toMouth.f k a0_0 l0_1 a0_2 a0_3 l0_4 = some (r1, r2, r3, r4, r5)) :
  Calls Try.prog 36 #[.agg #[.int .i64 a0_0, .slice A0_1 l0_1.length c0_1, .int .i64 a0_2, .int .i64 a0_3, .slice A0_4 l0_4.length c0_4]] w fun e w' => ∃ v1_ v4_ : Value, e = .returned (.agg #[.int .i64 r1, v1_, .int .i64 r3, .int .i64 r4, v4_]) ∧ Kd.R (Kd.int .u8) 5 w' w.heap.size (fun _ => True) v1_ r2 ∧ Kd.R k86 86 w' w.heap.size (fun _ => True) v4_ r5 ∧ Below w.heap.size w w' := by
 have hu59 := Try.underlying59; have hu47 := Try.underlying47; have HR0_1 := Aside0.mk hr0_1; have HC0_1 := Aside0.mk hc0_1; clear hr0_1 hc0_1; have HR0_4 := Aside0.mk hr0_4; have HC0_4 := Aside0.mk hc0_4; clear hr0_4 hc0_4
 have HB := Aside0.mk (Below.refl w.heap.size w)
 have H : ((laws_toByteS.f k l0_1).bind fun t220 => ((laws_toRangeS.f k l0_4).bind fun t223 => (some (a0_0, t220, a0_2, a0_3, t223)))) = some (r1, r2, r3, r4, r5) := h
 clear h
 replace H := Option.bind_eq_some_iff.mp H
 obtain ⟨t220, A20, H⟩ := H
 replace H : ((laws_toRangeS.f k l0_4).bind fun t223 => (some (a0_0, t220, a0_2, a0_3, t223))) = some (r1, r2, r3, r4, r5) := H
 have A2 := Aside0.mk A20; clear A20
 replace H := Option.bind_eq_some_iff.mp H
 obtain ⟨t223, A30, H⟩ := H
 replace H : (some (a0_0, t220, a0_2, a0_3, t223)) = some (r1, r2, r3, r4, r5) := H
 have A3 := Aside0.mk A30; clear A30
 simp only [Option.some.injEq, Prod.mk.injEq] at H
 obtain ⟨rfl, rfl, rfl, rfl, rfl⟩ := H
 go_enter Try.func36, Try.ntmps36
 go_wp2_with (first | ((with_reducible refine gate_dst (N := 1) rfl ?_); refine box_event ?hg (N := 1) ?hd (cs := #[.int .i64 a0_0, .slice A0_1 l0_1.length c0_1, .int .i64 a0_2, .int .i64 a0_3, .slice A0_4 l0_4.length c0_4]) (t := 59) ?hr ?_; (case hd => rfl); (case hg => rfl); (case hr => first | (go_simp; done) | (go_simp; rfl)); intro gb217 hg w4 hbox hb; have n0_ := Aside0.mk (below_step (hb0_ HB.out) hb); have n1_ := Aside0.mk (hbox); have n2_ := Aside0.mk ((by rw [hg]; exact (below_size (hb0_ HB.out)) : w.heap.size ≤ gb217)); have n3_ := Aside0.mk ((by rw [hg]; exact (below_size (hb0_ HB.out)) : w.heap.size ≤ gb217)); clear HB; have HB := n0_; have BK217 := n1_; have GW217 := n2_; have GE217 := n3_; clear n0_ n1_ n2_ n3_; clear hb hbox hg) | ((with_reducible refine gate_dst (N := 2) rfl ?_); refine box_event ?hg (N := 2) ?hd (cs := #[.int .i64 0, .slice none 0 0, .int .i64 0, .int .i64 0, .slice none 0 0]) (t := 47) ?hr ?_; (case hd => rfl); (case hg => rfl); (case hr => first | (go_simp; done) | (go_simp; rfl)); intro gb218 hg w5 hbox hb; have n0_ := Aside0.mk (blk_below (g := gb217) (o := .cells #[.int .i64 a0_0, .slice A0_1 l0_1.length c0_1, .int .i64 a0_2, .int .i64 a0_3, .slice A0_4 l0_4.length c0_4] 59 (0, 0)) (kb_ BK217.out) hb); have n1_ := Aside0.mk (below_step (hb1_ HB.out GE217.out) hb); have n2_ := Aside0.mk (hbox); have n3_ := Aside0.mk ((by rw [hg]; exact (below_size (hb1_ HB.out GE217.out)) : w.heap.size ≤ gb218)); have n4_ := Aside0.mk ((by rw [hg]; exact (below_size (hb1_ HB.out GE217.out)) : w.heap.size ≤ gb218)); have n5_ := Aside0.mk ((by rw [hg]; exact Nat.ne_of_lt (blk_lt (g := gb217) (o := .cells #[.int .i64 a0_0, .slice A0_1 l0_1.length c0_1, .int .i64 a0_2, .int .i64 a0_3, .slice A0_4 l0_4.length c0_4] 59 (0, 0)) (kb_ BK217.out)) : gb217 ≠ gb218)); have n6_ := Aside0.mk ((by rw [hg]; exact Nat.ne_of_gt (blk_lt (g := gb217) (o := .cells #[.int .i64 a0_0, .slice A0_1 l0_1.length c0_1, .int .i64 a0_2, .int .i64 a0_3, .slice A0_4 l0_4.length c0_4] 59 (0, 0)) (kb_ BK217.out)) : gb218 ≠ gb217)); clear BK217; clear HB; have BK217 := n0_; have HB := n1_; have BK218 := n2_; have GW218 := n3_; have GE218 := n4_; have NB217_218 := n5_; have NB218_217 := n6_; clear n0_ n1_ n2_ n3_ n4_ n5_ n6_; clear hb hbox hg) | ((with_reducible refine gate_dst (N := 3) rfl ?_); refine box_event ?hg (N := 3) ?hd (cs := #[.int .i64 0, .slice none 0 0, .int .i64 0, .int .i64 0, .slice none 0 0]) (t := 47) ?hr ?_; (case hd => rfl); (case hg => rfl); (case hr => first | (go_simp; done) | (go_simp; rfl)); intro gb219 hg w6 hbox hb; have n0_ := Aside0.mk (blk_below (g := gb217) (o := .cells #[.int .i64 a0_0, .slice A0_1 l0_1.length c0_1, .int .i64 a0_2, .int .i64 a0_3, .slice A0_4 l0_4.length c0_4] 59 (0, 0)) (kb_ BK217.out) hb); have n1_ := Aside0.mk (blk_below (g := gb218) (o := .cells #[.int .i64 0, .slice none 0 0, .int .i64 0, .int .i64 0, .slice none 0 0] 47 (0, 0)) (kb_ BK218.out) hb); have n2_ := Aside0.mk (below_step (hb2_ HB.out GE217.out GE218.out) hb); have n3_ := Aside0.mk (hbox); have n4_ := Aside0.mk ((by rw [hg]; exact (below_size (hb2_ HB.out GE217.out GE218.out)) : w.heap.size ≤ gb219)); have n5_ := Aside0.mk ((by rw [hg]; exact (below_size (hb2_ HB.out GE217.out GE218.out)) : w.heap.size ≤ gb219)); have n6_ := Aside0.mk ((by rw [hg]; exact Nat.ne_of_lt (blk_lt (g := gb217) (o := .cells #[.int .i64 a0_0, .slice A0_1 l0_1.length c0_1, .int .i64 a0_2, .int .i64 a0_3, .slice A0_4 l0_4.length c0_4] 59 (0, 0)) (kb_ BK217.out)) : gb217 ≠ gb219)); have n7_ := Aside0.mk ((by rw [hg]; exact Nat.ne_of_gt (blk_lt (g := gb217) (o := .cells #[.int .i64 a0_0, .slice A0_1 l0_1.length c0_1, .int .i64 a0_2, .int .i64 a0_3, .slice A0_4 l0_4.length c0_4] 59 (0, 0)) (kb_ BK217.out)) : gb219 ≠ gb217)); have n8_ := Aside0.mk ((by rw [hg]; exact Nat.ne_of_lt (blk_lt (g := gb218) (o := .cells #[.int .i64 0, .slice none 0 0, .int .i64 0, .int .i64 0, .slice none 0 0] 47 (0, 0)) (kb_ BK218.out)) : gb218 ≠ gb219)); have n9_ := Aside0.mk ((by rw [hg]; exact Nat.ne_of_gt (blk_lt (g := gb218) (o := .cells #[.int .i64 0, .slice none 0 0, .int .i64 0, .int .i64 0, .slice none 0 0] 47 (0, 0)) (kb_ BK218.out)) : gb219 ≠ gb218)); clear BK217; clear BK218; clear HB; have BK217 := n0_; have BK218 := n1_; have HB := n2_; have BK219 := n3_; have GW219 := n4_; have GE219 := n5_; have NB217_219 := n6_; have NB219_217 := n7_; have NB218_219 := n8_; have NB219_218 := n9_; clear n0_ n1_ n2_ n3_ n4_ n5_ n6_ n7_ n8_ n9_; clear hb hbox hg; have hnb7 := NB217_218.out; have hnc7 := NB218_217.out; have hnb8 := NB217_219.out; have hnc8 := NB219_217.out; have hcz9_0 : w6.cell? ⟨gb217, 0, none⟩ = some (.int .i64 a0_0) := (blk_cell BK217.out 0).trans rfl; have hcz9_1 : w6.cell? ⟨gb217, 1, none⟩ = some (.slice A0_1 l0_1.length c0_1) := (blk_cell BK217.out 1).trans rfl; have hcz9_2 : w6.cell? ⟨gb217, 2, none⟩ = some (.int .i64 a0_2) := (blk_cell BK217.out 2).trans rfl; have hcz9_3 : w6.cell? ⟨gb217, 3, none⟩ = some (.int .i64 a0_3) := (blk_cell BK217.out 3).trans rfl; have hcz9_4 : w6.cell? ⟨gb217, 4, none⟩ = some (.slice A0_4 l0_4.length c0_4) := (blk_cell BK217.out 4).trans rfl; have hfz9_0 := blk_frozen BK217.out 0; have hfz9_1 := blk_frozen BK217.out 1; have hfz9_2 := blk_frozen BK217.out 2; have hfz9_3 := blk_frozen BK217.out 3; have hfz9_4 := blk_frozen BK217.out 4; have hnb10 := NB219_218.out; have hnc10 := NB218_219.out; have hcz11_0 : w6.cell? ⟨gb219, 0, none⟩ = some (.int .i64 0) := (blk_cell BK219.out 0).trans rfl; have hcz11_1 : w6.cell? ⟨gb219, 1, none⟩ = some (.slice none 0 0) := (blk_cell BK219.out 1).trans rfl; have hcz11_2 : w6.cell? ⟨gb219, 2, none⟩ = some (.int .i64 0) := (blk_cell BK219.out 2).trans rfl; have hcz11_3 : w6.cell? ⟨gb219, 3, none⟩ = some (.int .i64 0) := (blk_cell BK219.out 3).trans rfl; have hcz11_4 : w6.cell? ⟨gb219, 4, none⟩ = some (.slice none 0 0) := (blk_cell BK219.out 4).trans rfl; have hfz11_0 := blk_frozen BK219.out 0; have hfz11_1 := blk_frozen BK219.out 1; have hfz11_2 := blk_frozen BK219.out 2; have hfz11_3 := blk_frozen BK219.out 3; have hfz11_4 := blk_frozen BK219.out 4) | ((with_reducible refine gate_callee (f := 51) rfl ?_); refine goesL_ (some 9) rfl rfl Try.func51 (by kernel_rfl) rfl #[.slice A0_1 l0_1.length c0_1] rfl ar_ ?_; (with_reducible refine (laws_toByteS.calls k _ _ l0_1 t220 _ ?side1 ?side2 A2.out).mono ?_); (case side1 => exact Kd.C_below HR0_1.out (hb3_ HB.out GE217.out GE218.out GE219.out)); (case side2 => exact HC0_1.out); rintro e w12 ⟨v221, rfl, ho0, hb⟩; refine ⟨_, rfl, ?_⟩; have n0_ := Aside0.mk (Kd.R_lower ho0 (below_size (hb3_ HB.out GE217.out GE218.out GE219.out))); have n1_ := Aside0.mk (blk_below (g := gb217) (o := .cells #[.int .i64 a0_0, .slice A0_1 l0_1.length c0_1, .int .i64 a0_2, .int .i64 a0_3, .slice A0_4 l0_4.length c0_4] 59 (0, 0)) (by refine kb_ ?_; refine blk_far ?_ NB217_219.out _; refine kb_ ?_; exact BK217.out) hb); have n2_ := Aside0.mk (blk_below (g := gb218) (o := .cells #[.int .i64 0, .slice none 0 0, .int .i64 0, .int .i64 0, .slice none 0 0] 47 (0, 0)) (by refine kb_ ?_; refine blk_far ?_ NB218_219.out _; refine kb_ ?_; exact BK218.out) hb); have n3_ := Aside0.mk (blk_below (g := gb219) (o := .cells #[.int .i64 a0_0, .slice none 0 0, .int .i64 0, .int .i64 0, .slice none 0 0] 47 (0, 0)) (by refine kb_ ?_; refine blk_put (cs := #[.int .i64 0, .slice none 0 0, .int .i64 0, .int .i64 0, .slice none 0 0]) ?_ 0 _ rfl; refine kb_ ?_; exact BK219.out) hb); have n4_ := Aside0.mk (below_step (hb3_ HB.out GE217.out GE218.out GE219.out) hb); clear BK217; clear BK218; clear BK219; clear HB; have HO222 := n0_; have BK217 := n1_; have BK218 := n2_; have BK219 := n3_; have HB := n4_; clear n0_ n1_ n2_ n3_ n4_; (try clear hb); (try clear hb2); (try clear hk); (try clear hi); (try clear ho0); obtain ⟨Ao13, co13, eo13⟩ := Kd.R_slice HO222.out; subst eo13; have hcz14_0 : w12.cell? ⟨gb219, 0, none⟩ = some (.int .i64 a0_0) := (blk_cell BK219.out 0).trans rfl; have hcz14_1 : w12.cell? ⟨gb219, 1, none⟩ = some (.slice none 0 0) := (blk_cell BK219.out 1).trans rfl; have hcz14_2 : w12.cell? ⟨gb219, 2, none⟩ = some (.int .i64 0) := (blk_cell BK219.out 2).trans rfl; have hcz14_3 : w12.cell? ⟨gb219, 3, none⟩ = some (.int .i64 0) := (blk_cell BK219.out 3).trans rfl; have hcz14_4 : w12.cell? ⟨gb219, 4, none⟩ = some (.slice none 0 0) := (blk_cell BK219.out 4).trans rfl; have hfz14_0 := blk_frozen BK219.out 0; have hfz14_1 := blk_frozen BK219.out 1; have hfz14_2 := blk_frozen BK219.out 2; have hfz14_3 := blk_frozen BK219.out 3; have hfz14_4 := blk_frozen BK219.out 4; have hcz15_0 : w12.cell? ⟨gb217, 0, none⟩ = some (.int .i64 a0_0) := (blk_cell BK217.out 0).trans rfl; have hcz15_1 : w12.cell? ⟨gb217, 1, none⟩ = some (.slice A0_1 l0_1.length c0_1) := (blk_cell BK217.out 1).trans rfl; have hcz15_2 : w12.cell? ⟨gb217, 2, none⟩ = some (.int .i64 a0_2) := (blk_cell BK217.out 2).trans rfl; have hcz15_3 : w12.cell? ⟨gb217, 3, none⟩ = some (.int .i64 a0_3) := (blk_cell BK217.out 3).trans rfl; have hcz15_4 : w12.cell? ⟨gb217, 4, none⟩ = some (.slice A0_4 l0_4.length c0_4) := (blk_cell BK217.out 4).trans rfl; have hfz15_0 := blk_frozen BK217.out 0; have hfz15_1 := blk_frozen BK217.out 1; have hfz15_2 := blk_frozen BK217.out 2; have hfz15_3 := blk_frozen BK217.out 3; have hfz15_4 := blk_frozen BK217.out 4) | ((with_reducible refine gate_callee (f := 66) rfl ?_); refine goesL_ (some 19) rfl rfl Try.func66 (by kernel_rfl) rfl #[.slice A0_4 l0_4.length c0_4] rfl ar_ ?_; (with_reducible refine (laws_toRangeS.calls k _ _ l0_4 t223 _ ?side1 ?side2 A3.out).mono ?_); (case side1 => exact Kd.C_below HR0_4.out (hb3_ HB.out GE217.out GE218.out GE219.out)); (case side2 => exact HC0_4.out); rintro e w16 ⟨v224, rfl, ho0, hb⟩; refine ⟨_, rfl, ?_⟩; have n0_ := Aside0.mk (Kd.R_below (by refine kR_ ?_; exact (Kd.R_mono (Kd.R_f gb219 3 (.int .i64 a0_3) (Kd.R_f gb219 2 (.int .i64 a0_2) (Kd.R_f gb219 1 (.slice Ao13 t220.length co13) (Kd.R_types HO222.out BK219.out (by decide))))) (fun _ h_ => op1_ h_))) hb); have n1_ := Aside0.mk (Kd.R_lower ho0 (below_size (hb3_ HB.out GE217.out GE218.out GE219.out))); have n2_ := Aside0.mk (blk_below (g := gb217) (o := .cells #[.int .i64 a0_0, .slice A0_1 l0_1.length c0_1, .int .i64 a0_2, .int .i64 a0_3, .slice A0_4 l0_4.length c0_4] 59 (0, 0)) (by refine kb_ ?_; refine blk_far ?_ NB217_219.out _; refine kb_ ?_; refine blk_far ?_ NB217_219.out _; refine kb_ ?_; refine blk_far ?_ NB217_219.out _; refine kb_ ?_; exact BK217.out) hb); have n3_ := Aside0.mk (blk_below (g := gb218) (o := .cells #[.int .i64 0, .slice none 0 0, .int .i64 0, .int .i64 0, .slice none 0 0] 47 (0, 0)) (by refine kb_ ?_; refine blk_far ?_ NB218_219.out _; refine kb_ ?_; refine blk_far ?_ NB218_219.out _; refine kb_ ?_; refine blk_far ?_ NB218_219.out _; refine kb_ ?_; exact BK218.out) hb); have n4_ := Aside0.mk (blk_below (g := gb219) (o := .cells #[.int .i64 a0_0, .slice Ao13 t220.length co13, .int .i64 a0_2, .int .i64 a0_3, .slice none 0 0] 47 (0, 0)) (by refine kb_ ?_; refine blk_put (cs := #[.int .i64 a0_0, .slice Ao13 t220.length co13, .int .i64 a0_2, .int .i64 0, .slice none 0 0]) ?_ 3 _ rfl; refine kb_ ?_; refine blk_put (cs := #[.int .i64 a0_0, .slice Ao13 t220.length co13, .int .i64 0, .int .i64 0, .slice none 0 0]) ?_ 2 _ rfl; refine kb_ ?_; refine blk_put (cs := #[.int .i64 a0_0, .slice none 0 0, .int .i64 0, .int .i64 0, .slice none 0 0]) ?_ 1 _ rfl; refine kb_ ?_; exact BK219.out) hb); have n5_ := Aside0.mk (below_step (hb3_ HB.out GE217.out GE218.out GE219.out) hb); clear HO222; clear BK217; clear BK218; clear BK219; clear HB; have HO222 := n0_; have HO225 := n1_; have BK217 := n2_; have BK218 := n3_; have BK219 := n4_; have HB := n5_; clear n0_ n1_ n2_ n3_ n4_ n5_; (try clear hb); (try clear hb2); (try clear hk); (try clear hi); (try clear ho0); obtain ⟨Ao17, co17, eo17⟩ := Kd.R_slice HO225.out; subst eo17; have hcz18_0 : w16.cell? ⟨gb219, 0, none⟩ = some (.int .i64 a0_0) := (blk_cell BK219.out 0).trans rfl; have hcz18_1 : w16.cell? ⟨gb219, 1, none⟩ = some (.slice Ao13 t220.length co13) := (blk_cell BK219.out 1).trans rfl; have hcz18_2 : w16.cell? ⟨gb219, 2, none⟩ = some (.int .i64 a0_2) := (blk_cell BK219.out 2).trans rfl; have hcz18_3 : w16.cell? ⟨gb219, 3, none⟩ = some (.int .i64 a0_3) := (blk_cell BK219.out 3).trans rfl; have hcz18_4 : w16.cell? ⟨gb219, 4, none⟩ = some (.slice none 0 0) := (blk_cell BK219.out 4).trans rfl; have hfz18_0 := blk_frozen BK219.out 0; have hfz18_1 := blk_frozen BK219.out 1; have hfz18_2 := blk_frozen BK219.out 2; have hfz18_3 := blk_frozen BK219.out 3; have hfz18_4 := blk_frozen BK219.out 4; have hcz19_0 : w16.cell? ⟨gb218, 0, none⟩ = some (.int .i64 0) := (blk_cell BK218.out 0).trans rfl; have hcz19_1 : w16.cell? ⟨gb218, 1, none⟩ = some (.slice none 0 0) := (blk_cell BK218.out 1).trans rfl; have hcz19_2 : w16.cell? ⟨gb218, 2, none⟩ = some (.int .i64 0) := (blk_cell BK218.out 2).trans rfl; have hcz19_3 : w16.cell? ⟨gb218, 3, none⟩ = some (.int .i64 0) := (blk_cell BK218.out 3).trans rfl; have hcz19_4 : w16.cell? ⟨gb218, 4, none⟩ = some (.slice none 0 0) := (blk_cell BK218.out 4).trans rfl; have hfz19_0 := blk_frozen BK218.out 0; have hfz19_1 := blk_frozen BK218.out 1; have hfz19_2 := blk_frozen BK218.out 2; have hfz19_3 := blk_frozen BK218.out 3; have hfz19_4 := blk_frozen BK218.out 4))
 refine bodyPost_ret (results_cell_row rfl _ _ gb218 47 #[.int .i64 a0_0, .slice Ao13 t220.length co13, .int .i64 a0_2, .int .i64 a0_3, .slice Ao17 t223.length co17] (0, 0) _ rfl (by refine kb_ ?_; refine blk_put (cs := #[.int .i64 a0_0, .slice Ao13 t220.length co13, .int .i64 a0_2, .int .i64 a0_3, .slice none 0 0]) ?_ 4 _ rfl; refine kb_ ?_; refine blk_put (cs := #[.int .i64 a0_0, .slice Ao13 t220.length co13, .int .i64 a0_2, .int .i64 0, .slice none 0 0]) ?_ 3 _ rfl; refine kb_ ?_; refine blk_put (cs := #[.int .i64 a0_0, .slice Ao13 t220.length co13, .int .i64 0, .int .i64 0, .slice none 0 0]) ?_ 2 _ rfl; refine kb_ ?_; refine blk_put (cs := #[.int .i64 a0_0, .slice none 0 0, .int .i64 0, .int .i64 0, .slice none 0 0]) ?_ 1 _ rfl; refine kb_ ?_; refine blk_put (cs := #[.int .i64 0, .slice none 0 0, .int .i64 0, .int .i64 0, .slice none 0 0]) ?_ 0 _ rfl; refine kb_ ?_; refine blk_far ?_ NB218_219.out _; refine kb_ ?_; exact BK218.out) Try.underlying47 rfl (by kernel_rfl)) rfl ?_
 exact ⟨_, _, by first | rfl | (simp [errW_none, errW_some] <;> rfl) | (simp [*, errW_none, errW_some] <;> rfl), by refine kR_ ?_; exact Kd.R_mono (Kd.R_f gb218 4 (.slice Ao17 t223.length co17) (Kd.R_f gb218 3 (.int .i64 a0_3) (Kd.R_f gb218 2 (.int .i64 a0_2) (Kd.R_f gb218 1 (.slice Ao13 t220.length co13) (Kd.R_f gb218 0 (.int .i64 a0_0) (Kd.R_far (p := ⟨gb219, 4, none⟩) (Kd.R_types (Kd.R_types HO222.out BK219.out (by decide)) BK218.out (by decide)) (fun _ hk => hk.1.2) (.slice Ao17 t223.length co17))))))) (fun _ hk => trivial), by refine kR_ ?_; exact Kd.R_mono (Kd.R_f gb218 4 (.slice Ao17 t223.length co17) (Kd.R_f gb218 3 (.int .i64 a0_3) (Kd.R_f gb218 2 (.int .i64 a0_2) (Kd.R_f gb218 1 (.slice Ao13 t220.length co13) (Kd.R_f gb218 0 (.int .i64 a0_0) (Kd.R_far (p := ⟨gb219, 4, none⟩) (Kd.R_types (Kd.R_types HO225.out BK219.out (by decide)) BK218.out (by decide)) (fun _ hk => hk.1.2) (.slice Ao17 t223.length co17))))))) (fun _ hk => trivial), by repeat (first | (with_reducible first | exact HB.out | apply below_alloc | apply pw_below_drewN | apply below_drew1 | refine below_set ?_ GE217.out | refine below_set ?_ GE218.out | refine below_set ?_ GE219.out) | exact HB.out)⟩

/-! ### laws_eqRange: function 81 -/
def laws_eqRange.f (a0_0 : Int) (a0_1 : Int) (a1_0 : Int) (a1_1 : Int) : Option (Bool) := if a0_0 = a1_0 then (if a0_1 = a1_1 then (some true) else (some false)) else (some false)
set_option maxHeartbeats 8000000 in
set_option maxRecDepth 100000 in
theorem laws_eqRange.calls (a0_0 : Int) (a0_1 : Int) (a1_0 : Int) (a1_1 : Int) (r : Bool) (w : World) (h : laws_eqRange.f a0_0 a0_1 a1_0 a1_1 = some r) :
  Calls Try.prog 81 #[.agg #[.int .i64 a0_0, .int .i64 a0_1], .agg #[.int .i64 a1_0, .int .i64 a1_1]] w fun e w' => e = .returned (.bool r) ∧ Below w.heap.size w w' := by
 have hu86 := Try.underlying86
 have HB := Aside0.mk (Below.refl w.heap.size w)
 have H : (if a0_0 = a1_0 then (if a0_1 = a1_1 then (some true) else (some false)) else (some false)) = some r := h
 clear h
 by_cases c3 : a0_0 = a1_0
 ·rw [if_pos c3] at H
  have c3b0 : (a0_0 == a1_0) = true := beq_iff_eq.mpr c3
  have c3b1 : (a0_0 != a1_0) = false := bne_eq_false_iff_eq.mpr c3
  clear c3
  by_cases c4 : a0_1 = a1_1
  ·rw [if_pos c4] at H
   have c4b0 : (a0_1 == a1_1) = true := beq_iff_eq.mpr c4
   have c4b1 : (a0_1 != a1_1) = false := bne_eq_false_iff_eq.mpr c4
   clear c4
   obtain rfl := Option.some.inj H
   go_enter Try.func81, Try.ntmps81
   go_wp2_with (first | ((with_reducible refine gate_dst (N := 2) rfl ?_); refine box_event ?hg (N := 2) ?hd (cs := #[.int .i64 a0_0, .int .i64 a0_1]) (t := 86) ?hr ?_; (case hd => rfl); (case hg => rfl); (case hr => first | (go_simp; done) | (go_simp; rfl)); intro gb226 hg w5 hbox hb; have n0_ := Aside0.mk (below_step (hb0_ HB.out) hb); have n1_ := Aside0.mk (hbox); have n2_ := Aside0.mk ((by rw [hg]; exact (below_size (hb0_ HB.out)) : w.heap.size ≤ gb226)); have n3_ := Aside0.mk ((by rw [hg]; exact (below_size (hb0_ HB.out)) : w.heap.size ≤ gb226)); clear HB; have HB := n0_; have BK226 := n1_; have GW226 := n2_; have GE226 := n3_; clear n0_ n1_ n2_ n3_; clear hb hbox hg) | ((with_reducible refine gate_dst (N := 3) rfl ?_); refine box_event ?hg (N := 3) ?hd (cs := #[.int .i64 a1_0, .int .i64 a1_1]) (t := 86) ?hr ?_; (case hd => rfl); (case hg => rfl); (case hr => first | (go_simp; done) | (go_simp; rfl)); intro gb227 hg w6 hbox hb; have n0_ := Aside0.mk (blk_below (g := gb226) (o := .cells #[.int .i64 a0_0, .int .i64 a0_1] 86 (0, 0)) (kb_ BK226.out) hb); have n1_ := Aside0.mk (below_step (hb1_ HB.out GE226.out) hb); have n2_ := Aside0.mk (hbox); have n3_ := Aside0.mk ((by rw [hg]; exact (below_size (hb1_ HB.out GE226.out)) : w.heap.size ≤ gb227)); have n4_ := Aside0.mk ((by rw [hg]; exact (below_size (hb1_ HB.out GE226.out)) : w.heap.size ≤ gb227)); have n5_ := Aside0.mk ((by rw [hg]; exact Nat.ne_of_lt (blk_lt (g := gb226) (o := .cells #[.int .i64 a0_0, .int .i64 a0_1] 86 (0, 0)) (kb_ BK226.out)) : gb226 ≠ gb227)); have n6_ := Aside0.mk ((by rw [hg]; exact Nat.ne_of_gt (blk_lt (g := gb226) (o := .cells #[.int .i64 a0_0, .int .i64 a0_1] 86 (0, 0)) (kb_ BK226.out)) : gb227 ≠ gb226)); clear BK226; clear HB; have BK226 := n0_; have HB := n1_; have BK227 := n2_; have GW227 := n3_; have GE227 := n4_; have NB226_227 := n5_; have NB227_226 := n6_; clear n0_ n1_ n2_ n3_ n4_ n5_ n6_; clear hb hbox hg; have hnb7 := NB226_227.out; have hnc7 := NB227_226.out; have hcz8_0 : w6.cell? ⟨gb226, 0, none⟩ = some (.int .i64 a0_0) := (blk_cell BK226.out 0).trans rfl; have hcz8_1 : w6.cell? ⟨gb226, 1, none⟩ = some (.int .i64 a0_1) := (blk_cell BK226.out 1).trans rfl; have hfz8_0 := blk_frozen BK226.out 0; have hfz8_1 := blk_frozen BK226.out 1; have hcz9_0 : w6.cell? ⟨gb227, 0, none⟩ = some (.int .i64 a1_0) := (blk_cell BK227.out 0).trans rfl; have hcz9_1 : w6.cell? ⟨gb227, 1, none⟩ = some (.int .i64 a1_1) := (blk_cell BK227.out 1).trans rfl; have hfz9_0 := blk_frozen BK227.out 0; have hfz9_1 := blk_frozen BK227.out 1))
   go_ret
   exact ⟨by first | rfl | (simp [errW_none, errW_some] <;> rfl) | (simp [*, errW_none, errW_some] <;> rfl), by repeat (first | (with_reducible first | exact HB.out | apply below_alloc | apply pw_below_drewN | apply below_drew1 | refine below_set ?_ GE226.out | refine below_set ?_ GE227.out) | exact HB.out)⟩
  ·rw [if_neg c4] at H
   have c4b0 : (a0_1 == a1_1) = false := beq_eq_false_iff_ne.mpr c4
   have c4b1 : (a0_1 != a1_1) = true := bne_iff_ne.mpr c4
   obtain rfl := Option.some.inj H
   go_enter Try.func81, Try.ntmps81
   go_wp2_with (first | ((with_reducible refine gate_dst (N := 2) rfl ?_); refine box_event ?hg (N := 2) ?hd (cs := #[.int .i64 a0_0, .int .i64 a0_1]) (t := 86) ?hr ?_; (case hd => rfl); (case hg => rfl); (case hr => first | (go_simp; done) | (go_simp; rfl)); intro gb226 hg w10 hbox hb; have n0_ := Aside0.mk (below_step (hb0_ HB.out) hb); have n1_ := Aside0.mk (hbox); have n2_ := Aside0.mk ((by rw [hg]; exact (below_size (hb0_ HB.out)) : w.heap.size ≤ gb226)); have n3_ := Aside0.mk ((by rw [hg]; exact (below_size (hb0_ HB.out)) : w.heap.size ≤ gb226)); clear HB; have HB := n0_; have BK226 := n1_; have GW226 := n2_; have GE226 := n3_; clear n0_ n1_ n2_ n3_; clear hb hbox hg) | ((with_reducible refine gate_dst (N := 3) rfl ?_); refine box_event ?hg (N := 3) ?hd (cs := #[.int .i64 a1_0, .int .i64 a1_1]) (t := 86) ?hr ?_; (case hd => rfl); (case hg => rfl); (case hr => first | (go_simp; done) | (go_simp; rfl)); intro gb227 hg w11 hbox hb; have n0_ := Aside0.mk (blk_below (g := gb226) (o := .cells #[.int .i64 a0_0, .int .i64 a0_1] 86 (0, 0)) (kb_ BK226.out) hb); have n1_ := Aside0.mk (below_step (hb1_ HB.out GE226.out) hb); have n2_ := Aside0.mk (hbox); have n3_ := Aside0.mk ((by rw [hg]; exact (below_size (hb1_ HB.out GE226.out)) : w.heap.size ≤ gb227)); have n4_ := Aside0.mk ((by rw [hg]; exact (below_size (hb1_ HB.out GE226.out)) : w.heap.size ≤ gb227)); have n5_ := Aside0.mk ((by rw [hg]; exact Nat.ne_of_lt (blk_lt (g := gb226) (o := .cells #[.int .i64 a0_0, .int .i64 a0_1] 86 (0, 0)) (kb_ BK226.out)) : gb226 ≠ gb227)); have n6_ := Aside0.mk ((by rw [hg]; exact Nat.ne_of_gt (blk_lt (g := gb226) (o := .cells #[.int .i64 a0_0, .int .i64 a0_1] 86 (0, 0)) (kb_ BK226.out)) : gb227 ≠ gb226)); clear BK226; clear HB; have BK226 := n0_; have HB := n1_; have BK227 := n2_; have GW227 := n3_; have GE227 := n4_; have NB226_227 := n5_; have NB227_226 := n6_; clear n0_ n1_ n2_ n3_ n4_ n5_ n6_; clear hb hbox hg; have hnb12 := NB226_227.out; have hnc12 := NB227_226.out; have hcz13_0 : w11.cell? ⟨gb226, 0, none⟩ = some (.int .i64 a0_0) := (blk_cell BK226.out 0).trans rfl; have hcz13_1 : w11.cell? ⟨gb226, 1, none⟩ = some (.int .i64 a0_1) := (blk_cell BK226.out 1).trans rfl; have hfz13_0 := blk_frozen BK226.out 0; have hfz13_1 := blk_frozen BK226.out 1; have hcz14_0 : w11.cell? ⟨gb227, 0, none⟩ = some (.int .i64 a1_0) := (blk_cell BK227.out 0).trans rfl; have hcz14_1 : w11.cell? ⟨gb227, 1, none⟩ = some (.int .i64 a1_1) := (blk_cell BK227.out 1).trans rfl; have hfz14_0 := blk_frozen BK227.out 0; have hfz14_1 := blk_frozen BK227.out 1))
   go_ret
   exact ⟨by first | rfl | (simp [errW_none, errW_some] <;> rfl) | (simp [*, errW_none, errW_some] <;> rfl), by repeat (first | (with_reducible first | exact HB.out | apply below_alloc | apply pw_below_drewN | apply below_drew1 | refine below_set ?_ GE226.out | refine below_set ?_ GE227.out) | exact HB.out)⟩
 ·rw [if_neg c3] at H
  have c3b0 : (a0_0 == a1_0) = false := beq_eq_false_iff_ne.mpr c3
  have c3b1 : (a0_0 != a1_0) = true := bne_iff_ne.mpr c3
  obtain rfl := Option.some.inj H
  go_enter Try.func81, Try.ntmps81
  go_wp2_with (first | ((with_reducible refine gate_dst (N := 2) rfl ?_); refine box_event ?hg (N := 2) ?hd (cs := #[.int .i64 a0_0, .int .i64 a0_1]) (t := 86) ?hr ?_; (case hd => rfl); (case hg => rfl); (case hr => first | (go_simp; done) | (go_simp; rfl)); intro gb226 hg w15 hbox hb; have n0_ := Aside0.mk (below_step (hb0_ HB.out) hb); have n1_ := Aside0.mk (hbox); have n2_ := Aside0.mk ((by rw [hg]; exact (below_size (hb0_ HB.out)) : w.heap.size ≤ gb226)); have n3_ := Aside0.mk ((by rw [hg]; exact (below_size (hb0_ HB.out)) : w.heap.size ≤ gb226)); clear HB; have HB := n0_; have BK226 := n1_; have GW226 := n2_; have GE226 := n3_; clear n0_ n1_ n2_ n3_; clear hb hbox hg) | ((with_reducible refine gate_dst (N := 3) rfl ?_); refine box_event ?hg (N := 3) ?hd (cs := #[.int .i64 a1_0, .int .i64 a1_1]) (t := 86) ?hr ?_; (case hd => rfl); (case hg => rfl); (case hr => first | (go_simp; done) | (go_simp; rfl)); intro gb227 hg w16 hbox hb; have n0_ := Aside0.mk (blk_below (g := gb226) (o := .cells #[.int .i64 a0_0, .int .i64 a0_1] 86 (0, 0)) (kb_ BK226.out) hb); have n1_ := Aside0.mk (below_step (hb1_ HB.out GE226.out) hb); have n2_ := Aside0.mk (hbox); have n3_ := Aside0.mk ((by rw [hg]; exact (below_size (hb1_ HB.out GE226.out)) : w.heap.size ≤ gb227)); have n4_ := Aside0.mk ((by rw [hg]; exact (below_size (hb1_ HB.out GE226.out)) : w.heap.size ≤ gb227)); have n5_ := Aside0.mk ((by rw [hg]; exact Nat.ne_of_lt (blk_lt (g := gb226) (o := .cells #[.int .i64 a0_0, .int .i64 a0_1] 86 (0, 0)) (kb_ BK226.out)) : gb226 ≠ gb227)); have n6_ := Aside0.mk ((by rw [hg]; exact Nat.ne_of_gt (blk_lt (g := gb226) (o := .cells #[.int .i64 a0_0, .int .i64 a0_1] 86 (0, 0)) (kb_ BK226.out)) : gb227 ≠ gb226)); clear BK226; clear HB; have BK226 := n0_; have HB := n1_; have BK227 := n2_; have GW227 := n3_; have GE227 := n4_; have NB226_227 := n5_; have NB227_226 := n6_; clear n0_ n1_ n2_ n3_ n4_ n5_ n6_; clear hb hbox hg; have hnb17 := NB226_227.out; have hnc17 := NB227_226.out; have hcz18_0 : w16.cell? ⟨gb226, 0, none⟩ = some (.int .i64 a0_0) := (blk_cell BK226.out 0).trans rfl; have hcz18_1 : w16.cell? ⟨gb226, 1, none⟩ = some (.int .i64 a0_1) := (blk_cell BK226.out 1).trans rfl; have hfz18_0 := blk_frozen BK226.out 0; have hfz18_1 := blk_frozen BK226.out 1; have hcz19_0 : w16.cell? ⟨gb227, 0, none⟩ = some (.int .i64 a1_0) := (blk_cell BK227.out 0).trans rfl; have hcz19_1 : w16.cell? ⟨gb227, 1, none⟩ = some (.int .i64 a1_1) := (blk_cell BK227.out 1).trans rfl; have hfz19_0 := blk_frozen BK227.out 0; have hfz19_1 := blk_frozen BK227.out 1))
  go_ret
  exact ⟨by first | rfl | (simp [errW_none, errW_some] <;> rfl) | (simp [*, errW_none, errW_some] <;> rfl), by repeat (first | (with_reducible first | exact HB.out | apply below_alloc | apply pw_below_drewN | apply below_drew1 | refine below_set ?_ GE226.out | refine below_set ?_ GE227.out) | exact HB.out)⟩

/-! ### laws_eqRangeS: function 67 -/
def laws_eqRangeS.l0 : Nat → List (S86) → List (S86) → Int → Option (Bool)
 | 0, _, _, _ => none
 | k + 1, x0, x1, x5 => if x5 < (x0.length : Int) then (if 0 ≤ x5 then (if x5 < (x1.length : Int) then ((laws_eqRange.f ((rd_T86 x0 x5).f0) ((rd_T86 x0 x5).f1) ((rd_T86 x1 x5).f0) ((rd_T86 x1 x5).f1)).bind fun t230 => (if t230 = true then (laws_eqRangeS.l0 k x0 x1 (wrap64 (x5 + 1))) else (some false))) else (none)) else (none)) else (some true)
def laws_eqRangeS.f (k : Nat) (l0 : List (S86)) (l1 : List (S86)) : Option (Bool) := if (l0.length : Int) = (l1.length : Int) then (laws_eqRangeS.l0 k l0 l1 0) else (some false)
theorem laws_eqRangeS.mono_l : ∀ k, (∀ y0 y1 y2, LeO (laws_eqRangeS.l0 k y0 y1 y2) (laws_eqRangeS.l0 (k + 1) y0 y1 y2))
 | 0 => fun _ _ _ r h => by simp [laws_eqRangeS.l0] at h
 | k + 1 => by
  have ih0 := laws_eqRangeS.mono_l k
  ·intro y0 y1 y2
   unfold laws_eqRangeS.l0
   repeat' first
   | (with_reducible exact ih0 _ _ _)
   | (with_reducible exact LeO.refl _)
   | (with_reducible exact LeO.none _)
   | (with_reducible refine LeO.ite ?_ ?_)
   | (with_reducible refine LeO.bind ?_ (fun _ => ?_))
   | exact ih0 _ _ _
   | exact LeO.none _
   | refine LeO.ite ?_ ?_
   | refine LeO.bind ?_ (fun _ => ?_)
theorem laws_eqRangeS.mono : ∀ a0 a1 k, LeO (laws_eqRangeS.f k a0 a1) (laws_eqRangeS.f (k + 1) a0 a1) := by
 intro a0 a1 k
 have ih0 := laws_eqRangeS.mono_l k
 unfold laws_eqRangeS.f
 repeat' first
   | (with_reducible exact ih0 _ _ _)
   | (with_reducible exact LeO.refl _)
   | (with_reducible exact LeO.none _)
   | (with_reducible refine LeO.ite ?_ ?_)
   | (with_reducible refine LeO.bind ?_ (fun _ => ?_))
   | exact ih0 _ _ _
   | exact LeO.none _
   | refine LeO.ite ?_ ?_
   | refine LeO.bind ?_ (fun _ => ?_)
def laws_eqRangeS.T6 : Bool × List (List Nat × List Nat) := (true, [([], []), ([], []), ([0, 1], [0, 1]), ([2], [2]), ([], []), ([], []), ([4, 5], [4, 5]), ([6], [6]), ([3, 7], [3, 7]), ([8], [8])])
def laws_eqRangeS.B6 : List Nat := [0, 0, 3, 7, 0, 0, 48, 112, 255, 511]
theorem laws_eqRangeS.tab6 : rtab .any (opsOf Try.f67 6) = laws_eqRangeS.T6 := by kernel_rfl
theorem laws_eqRangeS.bits6 : waitsOk laws_eqRangeS.T6.2 laws_eqRangeS.B6 = true := by kernel_rfl
set_option maxHeartbeats 8000000 in
set_option maxRecDepth 100000 in
theorem laws_eqRangeS.calls (k : Nat) (A0 : Option Addr) (c0 : Nat) (l0 : List (S86)) (A1 : Option Addr) (c1 : Nat) (l1 : List (S86)) (r : Bool) (w : World) (hr0 : Kd.C k86 w A0 l0.length l0) (hc0 : l0.length ≤ c0) (hr1 : Kd.C k86 w A1 l1.length l1) (hc1 : l1.length ≤ c1) (h : laws_eqRangeS.f k l0 l1 = some r) :
  Calls Try.prog 67 #[.slice A0 l0.length c0, .slice A1 l1.length c1] w fun e w' => e = .returned (.bool r) ∧ Below w.heap.size w w' := by
 have hu86 := Try.underlying86; have HR0 := Aside0.mk hr0; have HC0 := Aside0.mk hc0; clear hr0 hc0; have HR1 := Aside0.mk hr1; have HC1 := Aside0.mk hc1; clear hr1 hc1
 have HB := Aside0.mk (Below.refl w.heap.size w)
 have H : (if (l0.length : Int) = (l1.length : Int) then (laws_eqRangeS.l0 k l0 l1 0) else (some false)) = some r := h
 clear h
 by_cases c3 : (l0.length : Int) = (l1.length : Int)
 ·rw [if_pos c3] at H
  have c3b0 : ((l0.length : Int) == (l1.length : Int)) = true := beq_iff_eq.mpr c3
  have c3b1 : ((l0.length : Int) != (l1.length : Int)) = false := bne_eq_false_iff_eq.mpr c3
  have c3b2 : (l0.length == l1.length) = true := by first | simpa using c3 | (simp at c3 ⊢; omega)
  clear c3
  have H' := Aside0.mk H
  clear H
  go_enter Try.func67, Try.ntmps67
  go_wp2
  go_loopg [5] k (fun kq v5 w' => ∃ (x5_1 : Int), v5 = .int .i64 x5_1 ∧ Aside0 (laws_eqRangeS.l0 kq l0 l1 x5_1 = some r) ∧ Aside0 (kq ≤ k) ∧ Aside0 (Below w.heap.size w w'))
  case atStart => exact ⟨(0), (by first | rfl | (simp; done) | (simp [*]; done)), H', ⟨Nat.le_refl _⟩, ⟨by repeat (first | (with_reducible first | exact HB.out | apply below_alloc | apply pw_below_drewN | apply below_drew1) | exact HB.out)⟩⟩
  case round =>
   clear H'; (try clear c1); (try clear p2); (try clear c3); (try clear c3b0); (try clear c3b1); (try clear c3b2)
   obtain ⟨x5_1, rfl, HA, HK1, HB⟩ := hrel
   cases gk with
   | zero => exact absurd HA.out (by simp [laws_eqRangeS.l0])
   | succ k1 =>
    have H := HA.out; clear HA
    simp only [laws_eqRangeS.l0] at H
    by_cases c4 : x5_1 < (l0.length : Int)
    ·rw [if_pos c4] at H
     have c4b0 : decide (x5_1 < (l0.length : Int)) = true := decide_eq_true c4
     clear c4
     by_cases c5 : 0 ≤ x5_1
     ·rw [if_pos c5] at H
      have c5b0 : decide (0 ≤ x5_1) = true := decide_eq_true c5
      clear c5
      by_cases c6 : x5_1 < (l1.length : Int)
      ·rw [if_pos c6] at H
       have c6b0 : decide (x5_1 < (l1.length : Int)) = true := decide_eq_true c6
       clear c6
       replace H := Option.bind_eq_some_iff.mp H
       obtain ⟨t230, A70, H⟩ := H
       replace H : (if t230 = true then (laws_eqRangeS.l0 k1 l0 l1 (wrap64 (x5_1 + 1))) else (some false)) = some r := H
       have A7 := Aside0.mk A70; clear A70
       by_cases c8 : t230 = true
       ·subst c8
        have H1 : (laws_eqRangeS.l0 k1 l0 l1 (wrap64 (x5_1 + 1))) = some r := by rw [if_pos rfl] at H; exact H
        clear H; have H := H1; clear H1
        have H' := Aside0.mk H
        clear H
        try go_wp2
        have n0_ := Aside0.mk (below_drew1 HB.out); clear HB; have HB := n0_; clear n0_
        have p228 : 0 ≤ (x5_1 : Int) := of_decide_eq_true (by first | (with_reducible assumption) | assumption)
        have q228 : x5_1 < (l0.length : Int) := of_decide_eq_true (by first | (with_reducible assumption) | assumption)
        obtain ⟨ad228, e228, hx228_0, hx228_1⟩ := at_T86 HR0.out x5_1 p228 q228
        have hw228_1 := hx228_1; have hw228_0 := hx228_0
        cases e228
        replace hx228_0 := (HB.out.cell (World.block_lt_of_cell? w _ hx228_0)).trans hx228_0
        replace hx228_1 := (HB.out.cell (World.block_lt_of_cell? w _ hx228_1)).trans hx228_1
        replace p228 := eq_true p228
        replace q228 := eq_true q228
        have p229 : 0 ≤ (x5_1 : Int) := of_decide_eq_true (by first | (with_reducible assumption) | assumption)
        have q229 : x5_1 < (l1.length : Int) := of_decide_eq_true (by first | (with_reducible assumption) | assumption)
        obtain ⟨ad229, e229, hx229_0, hx229_1⟩ := at_T86 HR1.out x5_1 p229 q229
        have hw229_1 := hx229_1; have hw229_0 := hx229_0
        cases e229
        replace hx229_0 := (HB.out.cell (World.block_lt_of_cell? w _ hx229_0)).trans hx229_0
        replace hx229_1 := (HB.out.cell (World.block_lt_of_cell? w _ hx229_1)).trans hx229_1
        replace p229 := eq_true p229
        replace q229 := eq_true q229
        refine start_ (n := 10) (S := fun w' => w'.cell? (ad228.add ((x5_1).toNat * 2)) = some (.int .i64 ((rd_T86 l0 x5_1).f0)) ∧ w'.cell? ⟨(ad228.add ((x5_1).toNat * 2)).block, (ad228.add ((x5_1).toNat * 2)).off + 1, none⟩ = some (.int .i64 ((rd_T86 l0 x5_1).f1)) ∧ w'.cell? (ad229.add ((x5_1).toNat * 2)) = some (.int .i64 ((rd_T86 l1 x5_1).f0)) ∧ w'.cell? ⟨(ad229.add ((x5_1).toNat * 2)).block, (ad229.add ((x5_1).toNat * 2)).off + 1, none⟩ = some (.int .i64 ((rd_T86 l1 x5_1).f1))) (ds := []) #[false, false, false, false, false, false, false, false, false, false] (by kernel_rfl) rfl rfl ⟨((HB.out.cell (World.block_lt_of_cell? w _ hw228_0)).trans hw228_0), ((HB.out.cell (World.block_lt_of_cell? w _ hw228_1)).trans hw228_1), ((HB.out.cell (World.block_lt_of_cell? w _ hw229_0)).trans hw229_0), ((HB.out.cell (World.block_lt_of_cell? w _ hw229_1)).trans hw229_1)⟩ (fun hHeld => ?_); refine with_tabW laws_eqRangeS.tab6 laws_eqRangeS.bits6 (fun HT_ HW_ => ?_)
        generalize wr.drew = w9 at HB hx228_0 hx228_1 hx229_0 hx229_1 hHeld ⊢
        refine pu_ (i := 0) (N := some 17) HT_ ?_; refine pu_ (i := 1) (N := some 18) HT_ ?_; refine pu_ (i := 2) (N := some 19) HT_ ?_; refine pu_ (i := 4) (N := some 21) HT_ ?_; refine pu_ (i := 5) (N := some 22) HT_ ?_; refine pu_ (i := 6) (N := some 23) HT_ ?_; refine tk_ (i := 3) (N := some 20) HT_ HW_ hHeld ?_; refine tk_ (i := 7) (N := some 24) HT_ HW_ hHeld ?_
        refine on_ (i := 8) (N := some 25) HT_ (fun K hK => ?_)
        refine goes_ Try.func81 (by kernel_rfl) rfl #[.agg #[.int .i64 ((rd_T86 l0 x5_1).f0), .int .i64 ((rd_T86 l0 x5_1).f1)], .agg #[.int .i64 ((rd_T86 l1 x5_1).f0), .int .i64 ((rd_T86 l1 x5_1).f1)]] (by rfl) rfl rfl ar_ ?_
        with_reducible refine (laws_eqRange.calls ((rd_T86 l0 x5_1).f0) ((rd_T86 l0 x5_1).f1) ((rd_T86 l1 x5_1).f0) ((rd_T86 l1 x5_1).f1) true _ A7.out).mono ?_
        rintro e w10 ⟨rfl, hb⟩
        refine ⟨_, rfl, ?_⟩
        have n0_ := Aside0.mk (below_step (hb0_ HB.out) hb); clear HB; have HB := n0_; clear n0_; (try clear hb); (try clear hb2); (try clear hk); (try clear hi)
        refine hK.out _ _ ⟨((HB.out.cell (World.block_lt_of_cell? w _ hw228_0)).trans hw228_0), ((HB.out.cell (World.block_lt_of_cell? w _ hw228_1)).trans hw228_1), ((HB.out.cell (World.block_lt_of_cell? w _ hw229_0)).trans hw229_0), ((HB.out.cell (World.block_lt_of_cell? w _ hw229_1)).trans hw229_1)⟩ (fun hHeld => ?_)
        clear hK K; refine nm_ 25 ?_; refine pu_ (i := 9) (N := some 26) HT_ ?_
        refine done_ (done_of HT_.out (by kernel_rfl)) ?_
        try go_wp2
        go_roundg k1
        case measure => have := HK1.out; omega
        case rel => exact ⟨(wrap64 (x5_1 + 1)), (by first | rfl | (simp; done) | (simp [*]; done)), H', ⟨by have := HK1.out; omega⟩, ⟨by repeat (first | (with_reducible first | exact HB.out | apply below_alloc | apply pw_below_drewN | apply below_drew1) | exact HB.out)⟩⟩
       ·replace c8 := Bool.eq_false_iff.mpr c8
        subst c8
        have H1 : (some false) = some r := by rw [if_neg (show ¬ (false = true) by decide)] at H; exact H
        clear H; have H := H1; clear H1
        obtain rfl := Option.some.inj H
        try go_wp2
        have n0_ := Aside0.mk (below_drew1 HB.out); clear HB; have HB := n0_; clear n0_
        have p228 : 0 ≤ (x5_1 : Int) := of_decide_eq_true (by first | (with_reducible assumption) | assumption)
        have q228 : x5_1 < (l0.length : Int) := of_decide_eq_true (by first | (with_reducible assumption) | assumption)
        obtain ⟨ad228, e228, hx228_0, hx228_1⟩ := at_T86 HR0.out x5_1 p228 q228
        have hw228_1 := hx228_1; have hw228_0 := hx228_0
        cases e228
        replace hx228_0 := (HB.out.cell (World.block_lt_of_cell? w _ hx228_0)).trans hx228_0
        replace hx228_1 := (HB.out.cell (World.block_lt_of_cell? w _ hx228_1)).trans hx228_1
        replace p228 := eq_true p228
        replace q228 := eq_true q228
        have p229 : 0 ≤ (x5_1 : Int) := of_decide_eq_true (by first | (with_reducible assumption) | assumption)
        have q229 : x5_1 < (l1.length : Int) := of_decide_eq_true (by first | (with_reducible assumption) | assumption)
        obtain ⟨ad229, e229, hx229_0, hx229_1⟩ := at_T86 HR1.out x5_1 p229 q229
        have hw229_1 := hx229_1; have hw229_0 := hx229_0
        cases e229
        replace hx229_0 := (HB.out.cell (World.block_lt_of_cell? w _ hx229_0)).trans hx229_0
        replace hx229_1 := (HB.out.cell (World.block_lt_of_cell? w _ hx229_1)).trans hx229_1
        replace p229 := eq_true p229
        replace q229 := eq_true q229
        refine start_ (n := 10) (S := fun w' => w'.cell? (ad228.add ((x5_1).toNat * 2)) = some (.int .i64 ((rd_T86 l0 x5_1).f0)) ∧ w'.cell? ⟨(ad228.add ((x5_1).toNat * 2)).block, (ad228.add ((x5_1).toNat * 2)).off + 1, none⟩ = some (.int .i64 ((rd_T86 l0 x5_1).f1)) ∧ w'.cell? (ad229.add ((x5_1).toNat * 2)) = some (.int .i64 ((rd_T86 l1 x5_1).f0)) ∧ w'.cell? ⟨(ad229.add ((x5_1).toNat * 2)).block, (ad229.add ((x5_1).toNat * 2)).off + 1, none⟩ = some (.int .i64 ((rd_T86 l1 x5_1).f1))) (ds := []) #[false, false, false, false, false, false, false, false, false, false] (by kernel_rfl) rfl rfl ⟨((HB.out.cell (World.block_lt_of_cell? w _ hw228_0)).trans hw228_0), ((HB.out.cell (World.block_lt_of_cell? w _ hw228_1)).trans hw228_1), ((HB.out.cell (World.block_lt_of_cell? w _ hw229_0)).trans hw229_0), ((HB.out.cell (World.block_lt_of_cell? w _ hw229_1)).trans hw229_1)⟩ (fun hHeld => ?_); refine with_tabW laws_eqRangeS.tab6 laws_eqRangeS.bits6 (fun HT_ HW_ => ?_)
        generalize wr.drew = w11 at HB hx228_0 hx228_1 hx229_0 hx229_1 hHeld ⊢
        refine pu_ (i := 0) (N := some 17) HT_ ?_; refine pu_ (i := 1) (N := some 18) HT_ ?_; refine pu_ (i := 2) (N := some 19) HT_ ?_; refine pu_ (i := 4) (N := some 21) HT_ ?_; refine pu_ (i := 5) (N := some 22) HT_ ?_; refine pu_ (i := 6) (N := some 23) HT_ ?_; refine tk_ (i := 3) (N := some 20) HT_ HW_ hHeld ?_; refine tk_ (i := 7) (N := some 24) HT_ HW_ hHeld ?_
        refine on_ (i := 8) (N := some 25) HT_ (fun K hK => ?_)
        refine goes_ Try.func81 (by kernel_rfl) rfl #[.agg #[.int .i64 ((rd_T86 l0 x5_1).f0), .int .i64 ((rd_T86 l0 x5_1).f1)], .agg #[.int .i64 ((rd_T86 l1 x5_1).f0), .int .i64 ((rd_T86 l1 x5_1).f1)]] (by rfl) rfl rfl ar_ ?_
        with_reducible refine (laws_eqRange.calls ((rd_T86 l0 x5_1).f0) ((rd_T86 l0 x5_1).f1) ((rd_T86 l1 x5_1).f0) ((rd_T86 l1 x5_1).f1) false _ A7.out).mono ?_
        rintro e w12 ⟨rfl, hb⟩
        refine ⟨_, rfl, ?_⟩
        have n0_ := Aside0.mk (below_step (hb0_ HB.out) hb); clear HB; have HB := n0_; clear n0_; (try clear hb); (try clear hb2); (try clear hk); (try clear hi)
        refine hK.out _ _ ⟨((HB.out.cell (World.block_lt_of_cell? w _ hw228_0)).trans hw228_0), ((HB.out.cell (World.block_lt_of_cell? w _ hw228_1)).trans hw228_1), ((HB.out.cell (World.block_lt_of_cell? w _ hw229_0)).trans hw229_0), ((HB.out.cell (World.block_lt_of_cell? w _ hw229_1)).trans hw229_1)⟩ (fun hHeld => ?_)
        clear hK K; refine nm_ 25 ?_; refine pu_ (i := 9) (N := some 26) HT_ ?_
        refine done_ (done_of HT_.out (by kernel_rfl)) ?_
        try go_wp2
        go_ret
        exact ⟨by first | rfl | (simp [errW_none, errW_some] <;> rfl) | (simp [*, errW_none, errW_some] <;> rfl), by repeat (first | (with_reducible first | exact HB.out | apply below_alloc | apply pw_below_drewN | apply below_drew1) | exact HB.out)⟩
      ·rw [if_neg c6] at H
       exact absurd H (by simp)
     ·rw [if_neg c5] at H
      exact absurd H (by simp)
    ·rw [if_neg c4] at H
     have c4b0 : decide (x5_1 < (l0.length : Int)) = false := decide_eq_false c4
     clear c4
     obtain rfl := Option.some.inj H
     go_wp2
     go_ret
     exact ⟨by first | rfl | (simp [errW_none, errW_some] <;> rfl) | (simp [*, errW_none, errW_some] <;> rfl), by repeat (first | (with_reducible first | exact HB.out | apply below_alloc | apply pw_below_drewN | apply below_drew1) | exact HB.out)⟩
 ·rw [if_neg c3] at H
  have c3b0 : ((l0.length : Int) == (l1.length : Int)) = false := beq_eq_false_iff_ne.mpr c3
  have c3b1 : ((l0.length : Int) != (l1.length : Int)) = true := bne_iff_ne.mpr c3
  have c3b2 : (l0.length == l1.length) = false := by first | simpa using c3 | (simp at c3 ⊢; omega)
  obtain rfl := Option.some.inj H
  go_enter Try.func67, Try.ntmps67
  go_wp2
  go_ret
  exact ⟨by first | rfl | (simp [errW_none, errW_some] <;> rfl) | (simp [*, errW_none, errW_some] <;> rfl), by repeat (first | (with_reducible first | exact HB.out | apply below_alloc | apply pw_below_drewN | apply below_drew1) | exact HB.out)⟩

/-! ### laws_eqMouth: function 37 -/
def laws_eqMouth.f (k : Nat) (a0_0 : Int) (l0_1 : List Int) (a0_2 : Int) (a0_3 : Int) (l0_4 : List (S86)) (a1_0 : Int) (l1_1 : List Int) (a1_2 : Int) (a1_3 : Int) (l1_4 : List (S86)) : Option (Bool) := if a0_0 = a1_0 then ((laws_eqByteS.f k l0_1 l1_1).bind fun t233 => (if t233 = true then (if a0_2 = a1_2 then (if a0_3 = a1_3 then ((laws_eqRangeS.f k l0_4 l1_4).bind fun t234 => (if t234 = true then (some true) else (some false))) else (some false)) else (some false)) else (some false))) else (some false)
theorem laws_eqMouth.mono : ∀ a0 a1 a2 a3 a4 a5 a6 a7 a8 a9 k, LeO (laws_eqMouth.f k a0 a1 a2 a3 a4 a5 a6 a7 a8 a9) (laws_eqMouth.f (k + 1) a0 a1 a2 a3 a4 a5 a6 a7 a8 a9) := by
 intro a0 a1 a2 a3 a4 a5 a6 a7 a8 a9 k
 unfold laws_eqMouth.f
 repeat' first
   | (with_reducible exact laws_eqByteS.mono _ _ _)
   | (with_reducible exact laws_eqRangeS.mono _ _ _)
   | (with_reducible exact LeO.refl _)
   | (with_reducible exact LeO.none _)
   | (with_reducible refine LeO.ite ?_ ?_)
   | (with_reducible refine LeO.bind ?_ (fun _ => ?_))
   | exact laws_eqByteS.mono _ _ _
   | exact laws_eqRangeS.mono _ _ _
   | exact LeO.none _
   | refine LeO.ite ?_ ?_
   | refine LeO.bind ?_ (fun _ => ?_)
set_option maxHeartbeats 8000000 in
set_option maxRecDepth 100000 in
theorem laws_eqMouth.calls (k : Nat) (a0_0 : Int) (A0_1 : Option Addr) (c0_1 : Nat) (l0_1 : List Int) (a0_2 : Int) (a0_3 : Int) (A0_4 : Option Addr) (c0_4 : Nat) (l0_4 : List (S86)) (a1_0 : Int) (A1_1 : Option Addr) (c1_1 : Nat) (l1_1 : List Int) (a1_2 : Int) (a1_3 : Int) (A1_4 : Option Addr) (c1_4 : Nat) (l1_4 : List (S86)) (r : Bool) (w : World) (hr0_1 : Kd.C (Kd.int .u8) w A0_1 l0_1.length l0_1) (hc0_1 : l0_1.length ≤ c0_1) (hr0_4 : Kd.C k86 w A0_4 l0_4.length l0_4) (hc0_4 : l0_4.length ≤ c0_4) (hr1_1 : Kd.C (Kd.int .u8) w A1_1 l1_1.length l1_1) (hc1_1 : l1_1.length ≤ c1_1) (hr1_4 : Kd.C k86 w A1_4 l1_4.length l1_4) (hc1_4 : l1_4.length ≤ c1_4) (h : laws_eqMouth.f k a0_0 l0_1 a0_2 a0_3 l0_4 a1_0 l1_1 a1_2 a1_3 l1_4 = some r) :
  Calls Try.prog 37 #[.agg #[.int .i64 a0_0, .slice A0_1 l0_1.length c0_1, .int .i64 a0_2, .int .i64 a0_3, .slice A0_4 l0_4.length c0_4], .agg #[.int .i64 a1_0, .slice A1_1 l1_1.length c1_1, .int .i64 a1_2, .int .i64 a1_3, .slice A1_4 l1_4.length c1_4]] w fun e w' => e = .returned (.bool r) ∧ Below w.heap.size w w' := by
 have hu47 := Try.underlying47; have HR0_1 := Aside0.mk hr0_1; have HC0_1 := Aside0.mk hc0_1; clear hr0_1 hc0_1; have HR0_4 := Aside0.mk hr0_4; have HC0_4 := Aside0.mk hc0_4; clear hr0_4 hc0_4; have HR1_1 := Aside0.mk hr1_1; have HC1_1 := Aside0.mk hc1_1; clear hr1_1 hc1_1; have HR1_4 := Aside0.mk hr1_4; have HC1_4 := Aside0.mk hc1_4; clear hr1_4 hc1_4
 have HB := Aside0.mk (Below.refl w.heap.size w)
 have H : (if a0_0 = a1_0 then ((laws_eqByteS.f k l0_1 l1_1).bind fun t233 => (if t233 = true then (if a0_2 = a1_2 then (if a0_3 = a1_3 then ((laws_eqRangeS.f k l0_4 l1_4).bind fun t234 => (if t234 = true then (some true) else (some false))) else (some false)) else (some false)) else (some false))) else (some false)) = some r := h
 clear h
 by_cases c3 : a0_0 = a1_0
 ·rw [if_pos c3] at H
  have c3b0 : (a0_0 == a1_0) = true := beq_iff_eq.mpr c3
  have c3b1 : (a0_0 != a1_0) = false := bne_eq_false_iff_eq.mpr c3
  clear c3
  replace H := Option.bind_eq_some_iff.mp H
  obtain ⟨t233, A40, H⟩ := H
  replace H : (if t233 = true then (if a0_2 = a1_2 then (if a0_3 = a1_3 then ((laws_eqRangeS.f k l0_4 l1_4).bind fun t234 => (if t234 = true then (some true) else (some false))) else (some false)) else (some false)) else (some false)) = some r := H
  have A4 := Aside0.mk A40; clear A40
  by_cases c5 : t233 = true
  ·subst c5
   have H1 : (if a0_2 = a1_2 then (if a0_3 = a1_3 then ((laws_eqRangeS.f k l0_4 l1_4).bind fun t234 => (if t234 = true then (some true) else (some false))) else (some false)) else (some false)) = some r := by rw [if_pos rfl] at H; exact H
   clear H; have H := H1; clear H1
   by_cases c6 : a0_2 = a1_2
   ·rw [if_pos c6] at H
    have c6b0 : (a0_2 == a1_2) = true := beq_iff_eq.mpr c6
    have c6b1 : (a0_2 != a1_2) = false := bne_eq_false_iff_eq.mpr c6
    clear c6
    by_cases c7 : a0_3 = a1_3
    ·rw [if_pos c7] at H
     have c7b0 : (a0_3 == a1_3) = true := beq_iff_eq.mpr c7
     have c7b1 : (a0_3 != a1_3) = false := bne_eq_false_iff_eq.mpr c7
     clear c7
     replace H := Option.bind_eq_some_iff.mp H
     obtain ⟨t234, A80, H⟩ := H
     replace H : (if t234 = true then (some true) else (some false)) = some r := H
     have A8 := Aside0.mk A80; clear A80
     by_cases c9 : t234 = true
     ·subst c9
      have H1 : (some true) = some r := by rw [if_pos rfl] at H; exact H
      clear H; have H := H1; clear H1
      obtain rfl := Option.some.inj H
      go_enter Try.func37, Try.ntmps37
      go_wp2_with (first | ((with_reducible refine gate_dst (N := 2) rfl ?_); refine box_event ?hg (N := 2) ?hd (cs := #[.int .i64 a0_0, .slice A0_1 l0_1.length c0_1, .int .i64 a0_2, .int .i64 a0_3, .slice A0_4 l0_4.length c0_4]) (t := 47) ?hr ?_; (case hd => rfl); (case hg => rfl); (case hr => first | (go_simp; done) | (go_simp; rfl)); intro gb231 hg w10 hbox hb; have n0_ := Aside0.mk (below_step (hb0_ HB.out) hb); have n1_ := Aside0.mk (hbox); have n2_ := Aside0.mk ((by rw [hg]; exact (below_size (hb0_ HB.out)) : w.heap.size ≤ gb231)); have n3_ := Aside0.mk ((by rw [hg]; exact (below_size (hb0_ HB.out)) : w.heap.size ≤ gb231)); clear HB; have HB := n0_; have BK231 := n1_; have GW231 := n2_; have GE231 := n3_; clear n0_ n1_ n2_ n3_; clear hb hbox hg) | ((with_reducible refine gate_dst (N := 3) rfl ?_); refine box_event ?hg (N := 3) ?hd (cs := #[.int .i64 a1_0, .slice A1_1 l1_1.length c1_1, .int .i64 a1_2, .int .i64 a1_3, .slice A1_4 l1_4.length c1_4]) (t := 47) ?hr ?_; (case hd => rfl); (case hg => rfl); (case hr => first | (go_simp; done) | (go_simp; rfl)); intro gb232 hg w11 hbox hb; have n0_ := Aside0.mk (blk_below (g := gb231) (o := .cells #[.int .i64 a0_0, .slice A0_1 l0_1.length c0_1, .int .i64 a0_2, .int .i64 a0_3, .slice A0_4 l0_4.length c0_4] 47 (0, 0)) (kb_ BK231.out) hb); have n1_ := Aside0.mk (below_step (hb1_ HB.out GE231.out) hb); have n2_ := Aside0.mk (hbox); have n3_ := Aside0.mk ((by rw [hg]; exact (below_size (hb1_ HB.out GE231.out)) : w.heap.size ≤ gb232)); have n4_ := Aside0.mk ((by rw [hg]; exact (below_size (hb1_ HB.out GE231.out)) : w.heap.size ≤ gb232)); have n5_ := Aside0.mk ((by rw [hg]; exact Nat.ne_of_lt (blk_lt (g := gb231) (o := .cells #[.int .i64 a0_0, .slice A0_1 l0_1.length c0_1, .int .i64 a0_2, .int .i64 a0_3, .slice A0_4 l0_4.length c0_4] 47 (0, 0)) (kb_ BK231.out)) : gb231 ≠ gb232)); have n6_ := Aside0.mk ((by rw [hg]; exact Nat.ne_of_gt (blk_lt (g := gb231) (o := .cells #[.int .i64 a0_0, .slice A0_1 l0_1.length c0_1, .int .i64 a0_2, .int .i64 a0_3, .slice A0_4 l0_4.length c0_4] 47 (0, 0)) (kb_ BK231.out)) : gb232 ≠ gb231)); clear BK231; clear HB; have BK231 := n0_; have HB := n1_; have BK232 := n2_; have GW232 := n3_; have GE232 := n4_; have NB231_232 := n5_; have NB232_231 := n6_; clear n0_ n1_ n2_ n3_ n4_ n5_ n6_; clear hb hbox hg; have hnb12 := NB231_232.out; have hnc12 := NB232_231.out; have hcz13_0 : w11.cell? ⟨gb231, 0, none⟩ = some (.int .i64 a0_0) := (blk_cell BK231.out 0).trans rfl; have hcz13_1 : w11.cell? ⟨gb231, 1, none⟩ = some (.slice A0_1 l0_1.length c0_1) := (blk_cell BK231.out 1).trans rfl; have hcz13_2 : w11.cell? ⟨gb231, 2, none⟩ = some (.int .i64 a0_2) := (blk_cell BK231.out 2).trans rfl; have hcz13_3 : w11.cell? ⟨gb231, 3, none⟩ = some (.int .i64 a0_3) := (blk_cell BK231.out 3).trans rfl; have hcz13_4 : w11.cell? ⟨gb231, 4, none⟩ = some (.slice A0_4 l0_4.length c0_4) := (blk_cell BK231.out 4).trans rfl; have hfz13_0 := blk_frozen BK231.out 0; have hfz13_1 := blk_frozen BK231.out 1; have hfz13_2 := blk_frozen BK231.out 2; have hfz13_3 := blk_frozen BK231.out 3; have hfz13_4 := blk_frozen BK231.out 4; have hcz14_0 : w11.cell? ⟨gb232, 0, none⟩ = some (.int .i64 a1_0) := (blk_cell BK232.out 0).trans rfl; have hcz14_1 : w11.cell? ⟨gb232, 1, none⟩ = some (.slice A1_1 l1_1.length c1_1) := (blk_cell BK232.out 1).trans rfl; have hcz14_2 : w11.cell? ⟨gb232, 2, none⟩ = some (.int .i64 a1_2) := (blk_cell BK232.out 2).trans rfl; have hcz14_3 : w11.cell? ⟨gb232, 3, none⟩ = some (.int .i64 a1_3) := (blk_cell BK232.out 3).trans rfl; have hcz14_4 : w11.cell? ⟨gb232, 4, none⟩ = some (.slice A1_4 l1_4.length c1_4) := (blk_cell BK232.out 4).trans rfl; have hfz14_0 := blk_frozen BK232.out 0; have hfz14_1 := blk_frozen BK232.out 1; have hfz14_2 := blk_frozen BK232.out 2; have hfz14_3 := blk_frozen BK232.out 3; have hfz14_4 := blk_frozen BK232.out 4) | ((with_reducible refine gate_callee (f := 22) rfl ?_); refine goesL_ (some 14) rfl rfl Try.func22 (by kernel_rfl) rfl #[.slice A0_1 l0_1.length c0_1, .slice A1_1 l1_1.length c1_1] rfl ar_ ?_; (with_reducible refine (laws_eqByteS.calls k _ _ l0_1 _ _ l1_1 true _ ?side1 ?side2 ?side3 ?side4 A4.out).mono ?_); (case side1 => exact kC_ (Kd.C_below HR0_1.out HB.out)); (case side2 => exact HC0_1.out); (case side3 => exact kC_ (Kd.C_below HR1_1.out HB.out)); (case side4 => exact HC1_1.out); rintro e w' ⟨rfl, ⟨nd, rfl⟩⟩; refine ⟨_, rfl, ?_⟩) | ((with_reducible refine gate_callee (f := 67) rfl ?_); refine goesL_ (some 30) rfl rfl Try.func67 (by kernel_rfl) rfl #[.slice A0_4 l0_4.length c0_4, .slice A1_4 l1_4.length c1_4] rfl ar_ ?_; (with_reducible refine (laws_eqRangeS.calls k _ _ l0_4 _ _ l1_4 true _ ?side1 ?side2 ?side3 ?side4 A8.out).mono ?_); (case side1 => exact kC_ (Kd.C_below HR0_4.out (hb2_ HB.out GE231.out GE232.out))); (case side2 => exact HC0_4.out); (case side3 => exact kC_ (Kd.C_below HR1_4.out (hb2_ HB.out GE231.out GE232.out))); (case side4 => exact HC1_4.out); rintro e w15 ⟨rfl, hb⟩; refine ⟨_, rfl, ?_⟩; have n0_ := Aside0.mk (blk_below (g := gb231) (o := .cells #[.int .i64 a0_0, .slice A0_1 l0_1.length c0_1, .int .i64 a0_2, .int .i64 a0_3, .slice A0_4 l0_4.length c0_4] 47 (0, 0)) (kb_ BK231.out) hb); have n1_ := Aside0.mk (blk_below (g := gb232) (o := .cells #[.int .i64 a1_0, .slice A1_1 l1_1.length c1_1, .int .i64 a1_2, .int .i64 a1_3, .slice A1_4 l1_4.length c1_4] 47 (0, 0)) (kb_ BK232.out) hb); have n2_ := Aside0.mk (below_step (hb2_ HB.out GE231.out GE232.out) hb); clear BK231; clear BK232; clear HB; have BK231 := n0_; have BK232 := n1_; have HB := n2_; clear n0_ n1_ n2_; (try clear hb); (try clear hb2); (try clear hk); (try clear hi)))
      go_ret
      exact ⟨by first | rfl | (simp [errW_none, errW_some] <;> rfl) | (simp [*, errW_none, errW_some] <;> rfl), by repeat (first | (with_reducible first | exact HB.out | apply below_alloc | apply pw_below_drewN | apply below_drew1 | refine below_set ?_ GE231.out | refine below_set ?_ GE232.out) | exact HB.out)⟩
     ·replace c9 := Bool.eq_false_iff.mpr c9
      subst c9
      have H1 : (some false) = some r := by rw [if_neg (show ¬ (false = true) by decide)] at H; exact H
      clear H; have H := H1; clear H1
      obtain rfl := Option.some.inj H
      go_enter Try.func37, Try.ntmps37
      go_wp2_with (first | ((with_reducible refine gate_dst (N := 2) rfl ?_); refine box_event ?hg (N := 2) ?hd (cs := #[.int .i64 a0_0, .slice A0_1 l0_1.length c0_1, .int .i64 a0_2, .int .i64 a0_3, .slice A0_4 l0_4.length c0_4]) (t := 47) ?hr ?_; (case hd => rfl); (case hg => rfl); (case hr => first | (go_simp; done) | (go_simp; rfl)); intro gb231 hg w16 hbox hb; have n0_ := Aside0.mk (below_step (hb0_ HB.out) hb); have n1_ := Aside0.mk (hbox); have n2_ := Aside0.mk ((by rw [hg]; exact (below_size (hb0_ HB.out)) : w.heap.size ≤ gb231)); have n3_ := Aside0.mk ((by rw [hg]; exact (below_size (hb0_ HB.out)) : w.heap.size ≤ gb231)); clear HB; have HB := n0_; have BK231 := n1_; have GW231 := n2_; have GE231 := n3_; clear n0_ n1_ n2_ n3_; clear hb hbox hg) | ((with_reducible refine gate_dst (N := 3) rfl ?_); refine box_event ?hg (N := 3) ?hd (cs := #[.int .i64 a1_0, .slice A1_1 l1_1.length c1_1, .int .i64 a1_2, .int .i64 a1_3, .slice A1_4 l1_4.length c1_4]) (t := 47) ?hr ?_; (case hd => rfl); (case hg => rfl); (case hr => first | (go_simp; done) | (go_simp; rfl)); intro gb232 hg w17 hbox hb; have n0_ := Aside0.mk (blk_below (g := gb231) (o := .cells #[.int .i64 a0_0, .slice A0_1 l0_1.length c0_1, .int .i64 a0_2, .int .i64 a0_3, .slice A0_4 l0_4.length c0_4] 47 (0, 0)) (kb_ BK231.out) hb); have n1_ := Aside0.mk (below_step (hb1_ HB.out GE231.out) hb); have n2_ := Aside0.mk (hbox); have n3_ := Aside0.mk ((by rw [hg]; exact (below_size (hb1_ HB.out GE231.out)) : w.heap.size ≤ gb232)); have n4_ := Aside0.mk ((by rw [hg]; exact (below_size (hb1_ HB.out GE231.out)) : w.heap.size ≤ gb232)); have n5_ := Aside0.mk ((by rw [hg]; exact Nat.ne_of_lt (blk_lt (g := gb231) (o := .cells #[.int .i64 a0_0, .slice A0_1 l0_1.length c0_1, .int .i64 a0_2, .int .i64 a0_3, .slice A0_4 l0_4.length c0_4] 47 (0, 0)) (kb_ BK231.out)) : gb231 ≠ gb232)); have n6_ := Aside0.mk ((by rw [hg]; exact Nat.ne_of_gt (blk_lt (g := gb231) (o := .cells #[.int .i64 a0_0, .slice A0_1 l0_1.length c0_1, .int .i64 a0_2, .int .i64 a0_3, .slice A0_4 l0_4.length c0_4] 47 (0, 0)) (kb_ BK231.out)) : gb232 ≠ gb231)); clear BK231; clear HB; have BK231 := n0_; have HB := n1_; have BK232 := n2_; have GW232 := n3_; have GE232 := n4_; have NB231_232 := n5_; have NB232_231 := n6_; clear n0_ n1_ n2_ n3_ n4_ n5_ n6_; clear hb hbox hg; have hnb18 := NB231_232.out; have hnc18 := NB232_231.out; have hcz19_0 : w17.cell? ⟨gb231, 0, none⟩ = some (.int .i64 a0_0) := (blk_cell BK231.out 0).trans rfl; have hcz19_1 : w17.cell? ⟨gb231, 1, none⟩ = some (.slice A0_1 l0_1.length c0_1) := (blk_cell BK231.out 1).trans rfl; have hcz19_2 : w17.cell? ⟨gb231, 2, none⟩ = some (.int .i64 a0_2) := (blk_cell BK231.out 2).trans rfl; have hcz19_3 : w17.cell? ⟨gb231, 3, none⟩ = some (.int .i64 a0_3) := (blk_cell BK231.out 3).trans rfl; have hcz19_4 : w17.cell? ⟨gb231, 4, none⟩ = some (.slice A0_4 l0_4.length c0_4) := (blk_cell BK231.out 4).trans rfl; have hfz19_0 := blk_frozen BK231.out 0; have hfz19_1 := blk_frozen BK231.out 1; have hfz19_2 := blk_frozen BK231.out 2; have hfz19_3 := blk_frozen BK231.out 3; have hfz19_4 := blk_frozen BK231.out 4; have hcz20_0 : w17.cell? ⟨gb232, 0, none⟩ = some (.int .i64 a1_0) := (blk_cell BK232.out 0).trans rfl; have hcz20_1 : w17.cell? ⟨gb232, 1, none⟩ = some (.slice A1_1 l1_1.length c1_1) := (blk_cell BK232.out 1).trans rfl; have hcz20_2 : w17.cell? ⟨gb232, 2, none⟩ = some (.int .i64 a1_2) := (blk_cell BK232.out 2).trans rfl; have hcz20_3 : w17.cell? ⟨gb232, 3, none⟩ = some (.int .i64 a1_3) := (blk_cell BK232.out 3).trans rfl; have hcz20_4 : w17.cell? ⟨gb232, 4, none⟩ = some (.slice A1_4 l1_4.length c1_4) := (blk_cell BK232.out 4).trans rfl; have hfz20_0 := blk_frozen BK232.out 0; have hfz20_1 := blk_frozen BK232.out 1; have hfz20_2 := blk_frozen BK232.out 2; have hfz20_3 := blk_frozen BK232.out 3; have hfz20_4 := blk_frozen BK232.out 4) | ((with_reducible refine gate_callee (f := 22) rfl ?_); refine goesL_ (some 14) rfl rfl Try.func22 (by kernel_rfl) rfl #[.slice A0_1 l0_1.length c0_1, .slice A1_1 l1_1.length c1_1] rfl ar_ ?_; (with_reducible refine (laws_eqByteS.calls k _ _ l0_1 _ _ l1_1 true _ ?side1 ?side2 ?side3 ?side4 A4.out).mono ?_); (case side1 => exact kC_ (Kd.C_below HR0_1.out HB.out)); (case side2 => exact HC0_1.out); (case side3 => exact kC_ (Kd.C_below HR1_1.out HB.out)); (case side4 => exact HC1_1.out); rintro e w' ⟨rfl, ⟨nd, rfl⟩⟩; refine ⟨_, rfl, ?_⟩) | ((with_reducible refine gate_callee (f := 67) rfl ?_); refine goesL_ (some 30) rfl rfl Try.func67 (by kernel_rfl) rfl #[.slice A0_4 l0_4.length c0_4, .slice A1_4 l1_4.length c1_4] rfl ar_ ?_; (with_reducible refine (laws_eqRangeS.calls k _ _ l0_4 _ _ l1_4 false _ ?side1 ?side2 ?side3 ?side4 A8.out).mono ?_); (case side1 => exact kC_ (Kd.C_below HR0_4.out (hb2_ HB.out GE231.out GE232.out))); (case side2 => exact HC0_4.out); (case side3 => exact kC_ (Kd.C_below HR1_4.out (hb2_ HB.out GE231.out GE232.out))); (case side4 => exact HC1_4.out); rintro e w21 ⟨rfl, hb⟩; refine ⟨_, rfl, ?_⟩; have n0_ := Aside0.mk (blk_below (g := gb231) (o := .cells #[.int .i64 a0_0, .slice A0_1 l0_1.length c0_1, .int .i64 a0_2, .int .i64 a0_3, .slice A0_4 l0_4.length c0_4] 47 (0, 0)) (kb_ BK231.out) hb); have n1_ := Aside0.mk (blk_below (g := gb232) (o := .cells #[.int .i64 a1_0, .slice A1_1 l1_1.length c1_1, .int .i64 a1_2, .int .i64 a1_3, .slice A1_4 l1_4.length c1_4] 47 (0, 0)) (kb_ BK232.out) hb); have n2_ := Aside0.mk (below_step (hb2_ HB.out GE231.out GE232.out) hb); clear BK231; clear BK232; clear HB; have BK231 := n0_; have BK232 := n1_; have HB := n2_; clear n0_ n1_ n2_; (try clear hb); (try clear hb2); (try clear hk); (try clear hi)))
      go_ret
      exact ⟨by first | rfl | (simp [errW_none, errW_some] <;> rfl) | (simp [*, errW_none, errW_some] <;> rfl), by repeat (first | (with_reducible first | exact HB.out | apply below_alloc | apply pw_below_drewN | apply below_drew1 | refine below_set ?_ GE231.out | refine below_set ?_ GE232.out) | exact HB.out)⟩
    ·rw [if_neg c7] at H
     have c7b0 : (a0_3 == a1_3) = false := beq_eq_false_iff_ne.mpr c7
     have c7b1 : (a0_3 != a1_3) = true := bne_iff_ne.mpr c7
     obtain rfl := Option.some.inj H
     go_enter Try.func37, Try.ntmps37
     go_wp2_with (first | ((with_reducible refine gate_dst (N := 2) rfl ?_); refine box_event ?hg (N := 2) ?hd (cs := #[.int .i64 a0_0, .slice A0_1 l0_1.length c0_1, .int .i64 a0_2, .int .i64 a0_3, .slice A0_4 l0_4.length c0_4]) (t := 47) ?hr ?_; (case hd => rfl); (case hg => rfl); (case hr => first | (go_simp; done) | (go_simp; rfl)); intro gb231 hg w22 hbox hb; have n0_ := Aside0.mk (below_step (hb0_ HB.out) hb); have n1_ := Aside0.mk (hbox); have n2_ := Aside0.mk ((by rw [hg]; exact (below_size (hb0_ HB.out)) : w.heap.size ≤ gb231)); have n3_ := Aside0.mk ((by rw [hg]; exact (below_size (hb0_ HB.out)) : w.heap.size ≤ gb231)); clear HB; have HB := n0_; have BK231 := n1_; have GW231 := n2_; have GE231 := n3_; clear n0_ n1_ n2_ n3_; clear hb hbox hg) | ((with_reducible refine gate_dst (N := 3) rfl ?_); refine box_event ?hg (N := 3) ?hd (cs := #[.int .i64 a1_0, .slice A1_1 l1_1.length c1_1, .int .i64 a1_2, .int .i64 a1_3, .slice A1_4 l1_4.length c1_4]) (t := 47) ?hr ?_; (case hd => rfl); (case hg => rfl); (case hr => first | (go_simp; done) | (go_simp; rfl)); intro gb232 hg w23 hbox hb; have n0_ := Aside0.mk (blk_below (g := gb231) (o := .cells #[.int .i64 a0_0, .slice A0_1 l0_1.length c0_1, .int .i64 a0_2, .int .i64 a0_3, .slice A0_4 l0_4.length c0_4] 47 (0, 0)) (kb_ BK231.out) hb); have n1_ := Aside0.mk (below_step (hb1_ HB.out GE231.out) hb); have n2_ := Aside0.mk (hbox); have n3_ := Aside0.mk ((by rw [hg]; exact (below_size (hb1_ HB.out GE231.out)) : w.heap.size ≤ gb232)); have n4_ := Aside0.mk ((by rw [hg]; exact (below_size (hb1_ HB.out GE231.out)) : w.heap.size ≤ gb232)); have n5_ := Aside0.mk ((by rw [hg]; exact Nat.ne_of_lt (blk_lt (g := gb231) (o := .cells #[.int .i64 a0_0, .slice A0_1 l0_1.length c0_1, .int .i64 a0_2, .int .i64 a0_3, .slice A0_4 l0_4.length c0_4] 47 (0, 0)) (kb_ BK231.out)) : gb231 ≠ gb232)); have n6_ := Aside0.mk ((by rw [hg]; exact Nat.ne_of_gt (blk_lt (g := gb231) (o := .cells #[.int .i64 a0_0, .slice A0_1 l0_1.length c0_1, .int .i64 a0_2, .int .i64 a0_3, .slice A0_4 l0_4.length c0_4] 47 (0, 0)) (kb_ BK231.out)) : gb232 ≠ gb231)); clear BK231; clear HB; have BK231 := n0_; have HB := n1_; have BK232 := n2_; have GW232 := n3_; have GE232 := n4_; have NB231_232 := n5_; have NB232_231 := n6_; clear n0_ n1_ n2_ n3_ n4_ n5_ n6_; clear hb hbox hg; have hnb24 := NB231_232.out; have hnc24 := NB232_231.out; have hcz25_0 : w23.cell? ⟨gb231, 0, none⟩ = some (.int .i64 a0_0) := (blk_cell BK231.out 0).trans rfl; have hcz25_1 : w23.cell? ⟨gb231, 1, none⟩ = some (.slice A0_1 l0_1.length c0_1) := (blk_cell BK231.out 1).trans rfl; have hcz25_2 : w23.cell? ⟨gb231, 2, none⟩ = some (.int .i64 a0_2) := (blk_cell BK231.out 2).trans rfl; have hcz25_3 : w23.cell? ⟨gb231, 3, none⟩ = some (.int .i64 a0_3) := (blk_cell BK231.out 3).trans rfl; have hcz25_4 : w23.cell? ⟨gb231, 4, none⟩ = some (.slice A0_4 l0_4.length c0_4) := (blk_cell BK231.out 4).trans rfl; have hfz25_0 := blk_frozen BK231.out 0; have hfz25_1 := blk_frozen BK231.out 1; have hfz25_2 := blk_frozen BK231.out 2; have hfz25_3 := blk_frozen BK231.out 3; have hfz25_4 := blk_frozen BK231.out 4; have hcz26_0 : w23.cell? ⟨gb232, 0, none⟩ = some (.int .i64 a1_0) := (blk_cell BK232.out 0).trans rfl; have hcz26_1 : w23.cell? ⟨gb232, 1, none⟩ = some (.slice A1_1 l1_1.length c1_1) := (blk_cell BK232.out 1).trans rfl; have hcz26_2 : w23.cell? ⟨gb232, 2, none⟩ = some (.int .i64 a1_2) := (blk_cell BK232.out 2).trans rfl; have hcz26_3 : w23.cell? ⟨gb232, 3, none⟩ = some (.int .i64 a1_3) := (blk_cell BK232.out 3).trans rfl; have hcz26_4 : w23.cell? ⟨gb232, 4, none⟩ = some (.slice A1_4 l1_4.length c1_4) := (blk_cell BK232.out 4).trans rfl; have hfz26_0 := blk_frozen BK232.out 0; have hfz26_1 := blk_frozen BK232.out 1; have hfz26_2 := blk_frozen BK232.out 2; have hfz26_3 := blk_frozen BK232.out 3; have hfz26_4 := blk_frozen BK232.out 4) | ((with_reducible refine gate_callee (f := 22) rfl ?_); refine goesL_ (some 14) rfl rfl Try.func22 (by kernel_rfl) rfl #[.slice A0_1 l0_1.length c0_1, .slice A1_1 l1_1.length c1_1] rfl ar_ ?_; (with_reducible refine (laws_eqByteS.calls k _ _ l0_1 _ _ l1_1 true _ ?side1 ?side2 ?side3 ?side4 A4.out).mono ?_); (case side1 => exact kC_ (Kd.C_below HR0_1.out HB.out)); (case side2 => exact HC0_1.out); (case side3 => exact kC_ (Kd.C_below HR1_1.out HB.out)); (case side4 => exact HC1_1.out); rintro e w' ⟨rfl, ⟨nd, rfl⟩⟩; refine ⟨_, rfl, ?_⟩))
     go_ret
     exact ⟨by first | rfl | (simp [errW_none, errW_some] <;> rfl) | (simp [*, errW_none, errW_some] <;> rfl), by repeat (first | (with_reducible first | exact HB.out | apply below_alloc | apply pw_below_drewN | apply below_drew1 | refine below_set ?_ GE231.out | refine below_set ?_ GE232.out) | exact HB.out)⟩
   ·rw [if_neg c6] at H
    have c6b0 : (a0_2 == a1_2) = false := beq_eq_false_iff_ne.mpr c6
    have c6b1 : (a0_2 != a1_2) = true := bne_iff_ne.mpr c6
    obtain rfl := Option.some.inj H
    go_enter Try.func37, Try.ntmps37
    go_wp2_with (first | ((with_reducible refine gate_dst (N := 2) rfl ?_); refine box_event ?hg (N := 2) ?hd (cs := #[.int .i64 a0_0, .slice A0_1 l0_1.length c0_1, .int .i64 a0_2, .int .i64 a0_3, .slice A0_4 l0_4.length c0_4]) (t := 47) ?hr ?_; (case hd => rfl); (case hg => rfl); (case hr => first | (go_simp; done) | (go_simp; rfl)); intro gb231 hg w27 hbox hb; have n0_ := Aside0.mk (below_step (hb0_ HB.out) hb); have n1_ := Aside0.mk (hbox); have n2_ := Aside0.mk ((by rw [hg]; exact (below_size (hb0_ HB.out)) : w.heap.size ≤ gb231)); have n3_ := Aside0.mk ((by rw [hg]; exact (below_size (hb0_ HB.out)) : w.heap.size ≤ gb231)); clear HB; have HB := n0_; have BK231 := n1_; have GW231 := n2_; have GE231 := n3_; clear n0_ n1_ n2_ n3_; clear hb hbox hg) | ((with_reducible refine gate_dst (N := 3) rfl ?_); refine box_event ?hg (N := 3) ?hd (cs := #[.int .i64 a1_0, .slice A1_1 l1_1.length c1_1, .int .i64 a1_2, .int .i64 a1_3, .slice A1_4 l1_4.length c1_4]) (t := 47) ?hr ?_; (case hd => rfl); (case hg => rfl); (case hr => first | (go_simp; done) | (go_simp; rfl)); intro gb232 hg w28 hbox hb; have n0_ := Aside0.mk (blk_below (g := gb231) (o := .cells #[.int .i64 a0_0, .slice A0_1 l0_1.length c0_1, .int .i64 a0_2, .int .i64 a0_3, .slice A0_4 l0_4.length c0_4] 47 (0, 0)) (kb_ BK231.out) hb); have n1_ := Aside0.mk (below_step (hb1_ HB.out GE231.out) hb); have n2_ := Aside0.mk (hbox); have n3_ := Aside0.mk ((by rw [hg]; exact (below_size (hb1_ HB.out GE231.out)) : w.heap.size ≤ gb232)); have n4_ := Aside0.mk ((by rw [hg]; exact (below_size (hb1_ HB.out GE231.out)) : w.heap.size ≤ gb232)); have n5_ := Aside0.mk ((by rw [hg]; exact Nat.ne_of_lt (blk_lt (g := gb231) (o := .cells #[.int .i64 a0_0, .slice A0_1 l0_1.length c0_1, .int .i64 a0_2, .int .i64 a0_3, .slice A0_4 l0_4.length c0_4] 47 (0, 0)) (kb_ BK231.out)) : gb231 ≠ gb232)); have n6_ := Aside0.mk ((by rw [hg]; exact Nat.ne_of_gt (blk_lt (g := gb231) (o := .cells #[.int .i64 a0_0, .slice A0_1 l0_1.length c0_1, .int .i64 a0_2, .int .i64 a0_3, .slice A0_4 l0_4.length c0_4] 47 (0, 0)) (kb_ BK231.out)) : gb232 ≠ gb231)); clear BK231; clear HB; have BK231 := n0_; have HB := n1_; have BK232 := n2_; have GW232 := n3_; have GE232 := n4_; have NB231_232 := n5_; have NB232_231 := n6_; clear n0_ n1_ n2_ n3_ n4_ n5_ n6_; clear hb hbox hg; have hnb29 := NB231_232.out; have hnc29 := NB232_231.out; have hcz30_0 : w28.cell? ⟨gb231, 0, none⟩ = some (.int .i64 a0_0) := (blk_cell BK231.out 0).trans rfl; have hcz30_1 : w28.cell? ⟨gb231, 1, none⟩ = some (.slice A0_1 l0_1.length c0_1) := (blk_cell BK231.out 1).trans rfl; have hcz30_2 : w28.cell? ⟨gb231, 2, none⟩ = some (.int .i64 a0_2) := (blk_cell BK231.out 2).trans rfl; have hcz30_3 : w28.cell? ⟨gb231, 3, none⟩ = some (.int .i64 a0_3) := (blk_cell BK231.out 3).trans rfl; have hcz30_4 : w28.cell? ⟨gb231, 4, none⟩ = some (.slice A0_4 l0_4.length c0_4) := (blk_cell BK231.out 4).trans rfl; have hfz30_0 := blk_frozen BK231.out 0; have hfz30_1 := blk_frozen BK231.out 1; have hfz30_2 := blk_frozen BK231.out 2; have hfz30_3 := blk_frozen BK231.out 3; have hfz30_4 := blk_frozen BK231.out 4; have hcz31_0 : w28.cell? ⟨gb232, 0, none⟩ = some (.int .i64 a1_0) := (blk_cell BK232.out 0).trans rfl; have hcz31_1 : w28.cell? ⟨gb232, 1, none⟩ = some (.slice A1_1 l1_1.length c1_1) := (blk_cell BK232.out 1).trans rfl; have hcz31_2 : w28.cell? ⟨gb232, 2, none⟩ = some (.int .i64 a1_2) := (blk_cell BK232.out 2).trans rfl; have hcz31_3 : w28.cell? ⟨gb232, 3, none⟩ = some (.int .i64 a1_3) := (blk_cell BK232.out 3).trans rfl; have hcz31_4 : w28.cell? ⟨gb232, 4, none⟩ = some (.slice A1_4 l1_4.length c1_4) := (blk_cell BK232.out 4).trans rfl; have hfz31_0 := blk_frozen BK232.out 0; have hfz31_1 := blk_frozen BK232.out 1; have hfz31_2 := blk_frozen BK232.out 2; have hfz31_3 := blk_frozen BK232.out 3; have hfz31_4 := blk_frozen BK232.out 4) | ((with_reducible refine gate_callee (f := 22) rfl ?_); refine goesL_ (some 14) rfl rfl Try.func22 (by kernel_rfl) rfl #[.slice A0_1 l0_1.length c0_1, .slice A1_1 l1_1.length c1_1] rfl ar_ ?_; (with_reducible refine (laws_eqByteS.calls k _ _ l0_1 _ _ l1_1 true _ ?side1 ?side2 ?side3 ?side4 A4.out).mono ?_); (case side1 => exact kC_ (Kd.C_below HR0_1.out HB.out)); (case side2 => exact HC0_1.out); (case side3 => exact kC_ (Kd.C_below HR1_1.out HB.out)); (case side4 => exact HC1_1.out); rintro e w' ⟨rfl, ⟨nd, rfl⟩⟩; refine ⟨_, rfl, ?_⟩))
    go_ret
    exact ⟨by first | rfl | (simp [errW_none, errW_some] <;> rfl) | (simp [*, errW_none, errW_some] <;> rfl), by repeat (first | (with_reducible first | exact HB.out | apply below_alloc | apply pw_below_drewN | apply below_drew1 | refine below_set ?_ GE231.out | refine below_set ?_ GE232.out) | exact HB.out)⟩
  ·replace c5 := Bool.eq_false_iff.mpr c5
   subst c5
   have H1 : (some false) = some r := by rw [if_neg (show ¬ (false = true) by decide)] at H; exact H
   clear H; have H := H1; clear H1
   obtain rfl := Option.some.inj H
   go_enter Try.func37, Try.ntmps37
   go_wp2_with (first | ((with_reducible refine gate_dst (N := 2) rfl ?_); refine box_event ?hg (N := 2) ?hd (cs := #[.int .i64 a0_0, .slice A0_1 l0_1.length c0_1, .int .i64 a0_2, .int .i64 a0_3, .slice A0_4 l0_4.length c0_4]) (t := 47) ?hr ?_; (case hd => rfl); (case hg => rfl); (case hr => first | (go_simp; done) | (go_simp; rfl)); intro gb231 hg w32 hbox hb; have n0_ := Aside0.mk (below_step (hb0_ HB.out) hb); have n1_ := Aside0.mk (hbox); have n2_ := Aside0.mk ((by rw [hg]; exact (below_size (hb0_ HB.out)) : w.heap.size ≤ gb231)); have n3_ := Aside0.mk ((by rw [hg]; exact (below_size (hb0_ HB.out)) : w.heap.size ≤ gb231)); clear HB; have HB := n0_; have BK231 := n1_; have GW231 := n2_; have GE231 := n3_; clear n0_ n1_ n2_ n3_; clear hb hbox hg) | ((with_reducible refine gate_dst (N := 3) rfl ?_); refine box_event ?hg (N := 3) ?hd (cs := #[.int .i64 a1_0, .slice A1_1 l1_1.length c1_1, .int .i64 a1_2, .int .i64 a1_3, .slice A1_4 l1_4.length c1_4]) (t := 47) ?hr ?_; (case hd => rfl); (case hg => rfl); (case hr => first | (go_simp; done) | (go_simp; rfl)); intro gb232 hg w33 hbox hb; have n0_ := Aside0.mk (blk_below (g := gb231) (o := .cells #[.int .i64 a0_0, .slice A0_1 l0_1.length c0_1, .int .i64 a0_2, .int .i64 a0_3, .slice A0_4 l0_4.length c0_4] 47 (0, 0)) (kb_ BK231.out) hb); have n1_ := Aside0.mk (below_step (hb1_ HB.out GE231.out) hb); have n2_ := Aside0.mk (hbox); have n3_ := Aside0.mk ((by rw [hg]; exact (below_size (hb1_ HB.out GE231.out)) : w.heap.size ≤ gb232)); have n4_ := Aside0.mk ((by rw [hg]; exact (below_size (hb1_ HB.out GE231.out)) : w.heap.size ≤ gb232)); have n5_ := Aside0.mk ((by rw [hg]; exact Nat.ne_of_lt (blk_lt (g := gb231) (o := .cells #[.int .i64 a0_0, .slice A0_1 l0_1.length c0_1, .int .i64 a0_2, .int .i64 a0_3, .slice A0_4 l0_4.length c0_4] 47 (0, 0)) (kb_ BK231.out)) : gb231 ≠ gb232)); have n6_ := Aside0.mk ((by rw [hg]; exact Nat.ne_of_gt (blk_lt (g := gb231) (o := .cells #[.int .i64 a0_0, .slice A0_1 l0_1.length c0_1, .int .i64 a0_2, .int .i64 a0_3, .slice A0_4 l0_4.length c0_4] 47 (0, 0)) (kb_ BK231.out)) : gb232 ≠ gb231)); clear BK231; clear HB; have BK231 := n0_; have HB := n1_; have BK232 := n2_; have GW232 := n3_; have GE232 := n4_; have NB231_232 := n5_; have NB232_231 := n6_; clear n0_ n1_ n2_ n3_ n4_ n5_ n6_; clear hb hbox hg; have hnb34 := NB231_232.out; have hnc34 := NB232_231.out; have hcz35_0 : w33.cell? ⟨gb231, 0, none⟩ = some (.int .i64 a0_0) := (blk_cell BK231.out 0).trans rfl; have hcz35_1 : w33.cell? ⟨gb231, 1, none⟩ = some (.slice A0_1 l0_1.length c0_1) := (blk_cell BK231.out 1).trans rfl; have hcz35_2 : w33.cell? ⟨gb231, 2, none⟩ = some (.int .i64 a0_2) := (blk_cell BK231.out 2).trans rfl; have hcz35_3 : w33.cell? ⟨gb231, 3, none⟩ = some (.int .i64 a0_3) := (blk_cell BK231.out 3).trans rfl; have hcz35_4 : w33.cell? ⟨gb231, 4, none⟩ = some (.slice A0_4 l0_4.length c0_4) := (blk_cell BK231.out 4).trans rfl; have hfz35_0 := blk_frozen BK231.out 0; have hfz35_1 := blk_frozen BK231.out 1; have hfz35_2 := blk_frozen BK231.out 2; have hfz35_3 := blk_frozen BK231.out 3; have hfz35_4 := blk_frozen BK231.out 4; have hcz36_0 : w33.cell? ⟨gb232, 0, none⟩ = some (.int .i64 a1_0) := (blk_cell BK232.out 0).trans rfl; have hcz36_1 : w33.cell? ⟨gb232, 1, none⟩ = some (.slice A1_1 l1_1.length c1_1) := (blk_cell BK232.out 1).trans rfl; have hcz36_2 : w33.cell? ⟨gb232, 2, none⟩ = some (.int .i64 a1_2) := (blk_cell BK232.out 2).trans rfl; have hcz36_3 : w33.cell? ⟨gb232, 3, none⟩ = some (.int .i64 a1_3) := (blk_cell BK232.out 3).trans rfl; have hcz36_4 : w33.cell? ⟨gb232, 4, none⟩ = some (.slice A1_4 l1_4.length c1_4) := (blk_cell BK232.out 4).trans rfl; have hfz36_0 := blk_frozen BK232.out 0; have hfz36_1 := blk_frozen BK232.out 1; have hfz36_2 := blk_frozen BK232.out 2; have hfz36_3 := blk_frozen BK232.out 3; have hfz36_4 := blk_frozen BK232.out 4) | ((with_reducible refine gate_callee (f := 22) rfl ?_); refine goesL_ (some 14) rfl rfl Try.func22 (by kernel_rfl) rfl #[.slice A0_1 l0_1.length c0_1, .slice A1_1 l1_1.length c1_1] rfl ar_ ?_; (with_reducible refine (laws_eqByteS.calls k _ _ l0_1 _ _ l1_1 false _ ?side1 ?side2 ?side3 ?side4 A4.out).mono ?_); (case side1 => exact kC_ (Kd.C_below HR0_1.out HB.out)); (case side2 => exact HC0_1.out); (case side3 => exact kC_ (Kd.C_below HR1_1.out HB.out)); (case side4 => exact HC1_1.out); rintro e w' ⟨rfl, ⟨nd, rfl⟩⟩; refine ⟨_, rfl, ?_⟩))
   go_ret
   exact ⟨by first | rfl | (simp [errW_none, errW_some] <;> rfl) | (simp [*, errW_none, errW_some] <;> rfl), by repeat (first | (with_reducible first | exact HB.out | apply below_alloc | apply pw_below_drewN | apply below_drew1 | refine below_set ?_ GE231.out | refine below_set ?_ GE232.out) | exact HB.out)⟩
 ·rw [if_neg c3] at H
  have c3b0 : (a0_0 == a1_0) = false := beq_eq_false_iff_ne.mpr c3
  have c3b1 : (a0_0 != a1_0) = true := bne_iff_ne.mpr c3
  obtain rfl := Option.some.inj H
  go_enter Try.func37, Try.ntmps37
  go_wp2_with (first | ((with_reducible refine gate_dst (N := 2) rfl ?_); refine box_event ?hg (N := 2) ?hd (cs := #[.int .i64 a0_0, .slice A0_1 l0_1.length c0_1, .int .i64 a0_2, .int .i64 a0_3, .slice A0_4 l0_4.length c0_4]) (t := 47) ?hr ?_; (case hd => rfl); (case hg => rfl); (case hr => first | (go_simp; done) | (go_simp; rfl)); intro gb231 hg w37 hbox hb; have n0_ := Aside0.mk (below_step (hb0_ HB.out) hb); have n1_ := Aside0.mk (hbox); have n2_ := Aside0.mk ((by rw [hg]; exact (below_size (hb0_ HB.out)) : w.heap.size ≤ gb231)); have n3_ := Aside0.mk ((by rw [hg]; exact (below_size (hb0_ HB.out)) : w.heap.size ≤ gb231)); clear HB; have HB := n0_; have BK231 := n1_; have GW231 := n2_; have GE231 := n3_; clear n0_ n1_ n2_ n3_; clear hb hbox hg) | ((with_reducible refine gate_dst (N := 3) rfl ?_); refine box_event ?hg (N := 3) ?hd (cs := #[.int .i64 a1_0, .slice A1_1 l1_1.length c1_1, .int .i64 a1_2, .int .i64 a1_3, .slice A1_4 l1_4.length c1_4]) (t := 47) ?hr ?_; (case hd => rfl); (case hg => rfl); (case hr => first | (go_simp; done) | (go_simp; rfl)); intro gb232 hg w38 hbox hb; have n0_ := Aside0.mk (blk_below (g := gb231) (o := .cells #[.int .i64 a0_0, .slice A0_1 l0_1.length c0_1, .int .i64 a0_2, .int .i64 a0_3, .slice A0_4 l0_4.length c0_4] 47 (0, 0)) (kb_ BK231.out) hb); have n1_ := Aside0.mk (below_step (hb1_ HB.out GE231.out) hb); have n2_ := Aside0.mk (hbox); have n3_ := Aside0.mk ((by rw [hg]; exact (below_size (hb1_ HB.out GE231.out)) : w.heap.size ≤ gb232)); have n4_ := Aside0.mk ((by rw [hg]; exact (below_size (hb1_ HB.out GE231.out)) : w.heap.size ≤ gb232)); have n5_ := Aside0.mk ((by rw [hg]; exact Nat.ne_of_lt (blk_lt (g := gb231) (o := .cells #[.int .i64 a0_0, .slice A0_1 l0_1.length c0_1, .int .i64 a0_2, .int .i64 a0_3, .slice A0_4 l0_4.length c0_4] 47 (0, 0)) (kb_ BK231.out)) : gb231 ≠ gb232)); have n6_ := Aside0.mk ((by rw [hg]; exact Nat.ne_of_gt (blk_lt (g := gb231) (o := .cells #[.int .i64 a0_0, .slice A0_1 l0_1.length c0_1, .int .i64 a0_2, .int .i64 a0_3, .slice A0_4 l0_4.length c0_4] 47 (0, 0)) (kb_ BK231.out)) : gb232 ≠ gb231)); clear BK231; clear HB; have BK231 := n0_; have HB := n1_; have BK232 := n2_; have GW232 := n3_; have GE232 := n4_; have NB231_232 := n5_; have NB232_231 := n6_; clear n0_ n1_ n2_ n3_ n4_ n5_ n6_; clear hb hbox hg; have hnb39 := NB231_232.out; have hnc39 := NB232_231.out; have hcz40_0 : w38.cell? ⟨gb231, 0, none⟩ = some (.int .i64 a0_0) := (blk_cell BK231.out 0).trans rfl; have hcz40_1 : w38.cell? ⟨gb231, 1, none⟩ = some (.slice A0_1 l0_1.length c0_1) := (blk_cell BK231.out 1).trans rfl; have hcz40_2 : w38.cell? ⟨gb231, 2, none⟩ = some (.int .i64 a0_2) := (blk_cell BK231.out 2).trans rfl; have hcz40_3 : w38.cell? ⟨gb231, 3, none⟩ = some (.int .i64 a0_3) := (blk_cell BK231.out 3).trans rfl; have hcz40_4 : w38.cell? ⟨gb231, 4, none⟩ = some (.slice A0_4 l0_4.length c0_4) := (blk_cell BK231.out 4).trans rfl; have hfz40_0 := blk_frozen BK231.out 0; have hfz40_1 := blk_frozen BK231.out 1; have hfz40_2 := blk_frozen BK231.out 2; have hfz40_3 := blk_frozen BK231.out 3; have hfz40_4 := blk_frozen BK231.out 4; have hcz41_0 : w38.cell? ⟨gb232, 0, none⟩ = some (.int .i64 a1_0) := (blk_cell BK232.out 0).trans rfl; have hcz41_1 : w38.cell? ⟨gb232, 1, none⟩ = some (.slice A1_1 l1_1.length c1_1) := (blk_cell BK232.out 1).trans rfl; have hcz41_2 : w38.cell? ⟨gb232, 2, none⟩ = some (.int .i64 a1_2) := (blk_cell BK232.out 2).trans rfl; have hcz41_3 : w38.cell? ⟨gb232, 3, none⟩ = some (.int .i64 a1_3) := (blk_cell BK232.out 3).trans rfl; have hcz41_4 : w38.cell? ⟨gb232, 4, none⟩ = some (.slice A1_4 l1_4.length c1_4) := (blk_cell BK232.out 4).trans rfl; have hfz41_0 := blk_frozen BK232.out 0; have hfz41_1 := blk_frozen BK232.out 1; have hfz41_2 := blk_frozen BK232.out 2; have hfz41_3 := blk_frozen BK232.out 3; have hfz41_4 := blk_frozen BK232.out 4))
  go_ret
  exact ⟨by first | rfl | (simp [errW_none, errW_some] <;> rfl) | (simp [*, errW_none, errW_some] <;> rfl), by repeat (first | (with_reducible first | exact HB.out | apply below_alloc | apply pw_below_drewN | apply below_drew1 | refine below_set ?_ GE231.out | refine below_set ?_ GE232.out) | exact HB.out)⟩

/-! ### laws_markRangeS: function 68 -/
def laws_markRangeS.l0 : Nat → List (S86) → Int → Int → Option (Int × (List (S86)))
 | 0, _, _, _ => none
 | k + 1, x0, x1, x5 => if x5 < (x0.length : Int) then (if 0 ≤ x5 then ((some (x0.set (x5 : Int).toNat (⟨x1, (rd_T86 x0 x5).f1⟩ : S86) : List (S86))).bind fun y235 => (laws_markRangeS.l0 k (y235.set (x5 : Int).toNat (⟨(rd_T86 y235 x5).f0, wrap64 (x1 + 1)⟩ : S86)) (wrap64 ((wrap64 (x1 + 1)) + 1)) (wrap64 (x5 + 1)))) else (none)) else (some (x1, x0))
def laws_markRangeS.f (k : Nat) (l0 : List (S86)) (a1 : Int) : Option (Int × (List (S86))) := laws_markRangeS.l0 k l0 a1 0
theorem laws_markRangeS.mono_l : ∀ k, (∀ y0 y1 y2, LeO (laws_markRangeS.l0 k y0 y1 y2) (laws_markRangeS.l0 (k + 1) y0 y1 y2))
 | 0 => fun _ _ _ r h => by simp [laws_markRangeS.l0] at h
 | k + 1 => by
  have ih0 := laws_markRangeS.mono_l k
  ·intro y0 y1 y2
   unfold laws_markRangeS.l0
   repeat' first
   | (with_reducible exact ih0 _ _ _)
   | (with_reducible exact LeO.refl _)
   | (with_reducible exact LeO.none _)
   | (with_reducible refine LeO.ite ?_ ?_)
   | (with_reducible refine LeO.bind ?_ (fun _ => ?_))
   | exact ih0 _ _ _
   | exact LeO.none _
   | refine LeO.ite ?_ ?_
   | refine LeO.bind ?_ (fun _ => ?_)
theorem laws_markRangeS.mono : ∀ a0 a1 k, LeO (laws_markRangeS.f k a0 a1) (laws_markRangeS.f (k + 1) a0 a1) := by
 intro a0 a1 k
 have ih0 := laws_markRangeS.mono_l k
 unfold laws_markRangeS.f
 repeat' first
   | (with_reducible exact ih0 _ _ _)
   | (with_reducible exact LeO.refl _)
   | (with_reducible exact LeO.none _)
   | (with_reducible refine LeO.ite ?_ ?_)
   | (with_reducible refine LeO.bind ?_ (fun _ => ?_))
   | exact ih0 _ _ _
   | exact LeO.none _
   | refine LeO.ite ?_ ?_
   | refine LeO.bind ?_ (fun _ => ?_)
set_option maxHeartbeats 8000000 in
set_option maxRecDepth 100000 in
theorem laws_markRangeS.calls (k : Nat) (P0_ : Nat → Prop) (u9000_ : Value) (l0 : List (S86)) (a1 : Int) (r1 : Int) (r2 : List (S86)) (w0 w : World) (hB : Below w0.heap.size w0 w) (ho0 : Kd.R k86 86 w w0.heap.size P0_ u9000_ l0) (h : laws_markRangeS.f k l0 a1 = some (r1, r2)) :
  Calls Try.prog 68 #[u9000_, .int .i64 a1] w fun e w' => e = .returned (.int .i64 r1) ∧ Kd.R k86 86 w' w0.heap.size (fun k_ => (P0_ k_ ∨ w.heap.size ≤ k_)) u9000_ r2 ∧ Below w0.heap.size w0 w' ∧ Kept w w' (fun k_ => P0_ k_) := by
 have HO0 := Aside0.mk (show Kd.R k86 86 w w0.heap.size (fun k_ => (P0_ k_ ∨ w.heap.size ≤ k_)) u9000_ l0 from Kd.R_mono ho0 (fun k_ hk => (.inl hk)))
 have HK := Aside0.mk (Kept.refl w (fun k_ => P0_ k_))
 have HW0 := Aside0.mk hB.size; have HB := Aside0.mk hB; clear hB
 have H : (laws_markRangeS.l0 k l0 a1 0) = some (r1, r2) := h
 clear h
 have H' := Aside0.mk H
 clear H
 go_enter Try.func68, Try.ntmps68
 go_wp2
 go_loopg [1, 5] k (fun kq v1 v5 w' => ∃ (x0_1 : List (S86)) (x1_1 : Int) (x5_1 : Int), v1 = .int .i64 x1_1 ∧ v5 = .int .i64 x5_1 ∧ Aside0 (laws_markRangeS.l0 kq x0_1 x1_1 x5_1 = some (r1, r2)) ∧ Aside0 (kq ≤ k) ∧ Aside0 (Kd.R k86 86 w' w0.heap.size (fun k_ => (P0_ k_ ∨ w.heap.size ≤ k_)) u9000_ x0_1) ∧ Aside0 (Kept w w' (fun k_ => P0_ k_)) ∧ Aside0 (Below w0.heap.size w0 w'))
 case atStart => exact ⟨(l0), (a1), (0), (by first | rfl | (simp; done) | (simp [*]; done)), (by first | rfl | (simp; done) | (simp [*]; done)), H', ⟨Nat.le_refl _⟩, ⟨kR_ HO0.out⟩, ⟨by repeat (first | (with_reducible first | exact HK.out | apply Kept.alloc | apply Kept.drewN | apply Kept.drew) | exact HK.out)⟩, ⟨by repeat (first | (with_reducible first | exact HB.out | apply below_alloc | apply pw_below_drewN | apply below_drew1) | exact HB.out)⟩⟩
 case round =>
  clear H'; (try clear p2)
  obtain ⟨x0_1, x1_1, x5_1, rfl, rfl, HA, HK1, HO_0, HK, HB⟩ := hrel
  cases gk with
  | zero => exact absurd HA.out (by simp [laws_markRangeS.l0])
  | succ k1 =>
   have H := HA.out; clear HA
   simp only [laws_markRangeS.l0] at H
   by_cases c3 : x5_1 < (x0_1.length : Int)
   ·rw [if_pos c3] at H
    have c3b0 : decide (x5_1 < (x0_1.length : Int)) = true := decide_eq_true c3
    clear c3
    by_cases c4 : 0 ≤ x5_1
    ·rw [if_pos c4] at H
     have c4b0 : decide (0 ≤ x5_1) = true := decide_eq_true c4
     clear c4
     obtain ⟨y235, hy235⟩ : ∃ y_ : List (S86), y_ = (x0_1.set (x5_1 : Int).toNat (⟨x1_1, (rd_T86 x0_1 x5_1).f1⟩ : S86)) := ⟨_, rfl⟩
     replace H : (laws_markRangeS.l0 k1 (y235.set (x5_1 : Int).toNat (⟨(rd_T86 y235 x5_1).f0, wrap64 (x1_1 + 1)⟩ : S86)) (wrap64 ((wrap64 (x1_1 + 1)) + 1)) (wrap64 (x5_1 + 1))) = some (r1, r2) := by first | (rw [hy235]; with_reducible exact H) | (have H2_ := (Option.bind_some _ _).symm.trans H; rw [hy235]; with_reducible exact H2_) | (have H2_ := (Option.bind_some _ _).symm.trans H; with_reducible exact H2_) | with_reducible exact H | (rw [hy235]; exact H) | exact H
     have Ny235 := Aside0.mk hy235; clear hy235
     obtain ⟨y236, hy236⟩ : ∃ y_ : List (S86), y_ = (y235.set (x5_1 : Int).toNat (⟨(rd_T86 y235 x5_1).f0, wrap64 (x1_1 + 1)⟩ : S86)) := ⟨_, rfl⟩
     replace H : (laws_markRangeS.l0 k1 y236 (wrap64 ((wrap64 (x1_1 + 1)) + 1)) (wrap64 (x5_1 + 1))) = some (r1, r2) := by first | (rw [hy236]; with_reducible exact H) | (have H2_ := (Option.bind_some _ _).symm.trans H; rw [hy236]; with_reducible exact H2_) | (have H2_ := (Option.bind_some _ _).symm.trans H; with_reducible exact H2_) | with_reducible exact H | (rw [hy236]; exact H) | exact H
     have Ny236 := Aside0.mk hy236; clear hy236
     have H' := Aside0.mk H
     clear H
     obtain ⟨Ao7, co7, eo7⟩ := Kd.R_slice HO_0.out
     subst eo7
     have p5 : 0 ≤ (x5_1 : Int) := of_decide_eq_true (by first | (with_reducible assumption) | assumption)
     have q5 : (x5_1 : Int) < ((x0_1.length : Int) : Int) := of_decide_eq_true (by first | (with_reducible assumption) | assumption)
     obtain ⟨go5, co5, eo5, gb5, gl5, cl5, HG5⟩ := Kd.R_form HO_0.out (by omega)
     (first | cases eo5 | (injection eo5 with ea_ en_ ec_; (first | subst ea_ | (injection ea_ with ea_; subst ea_)); subst ec_; clear en_))
     have GB5 := Aside0.mk gb5; have GG5 := Aside0.mk HG5; clear gb5 gl5 HG5
     have HMgo5 := Aside0.mk (show (P0_ go5 ∨ w.heap.size ≤ go5) from (HO_0.out.1 _ rfl))
     obtain ⟨ce5, hcl5, hM5, hcc5, hfr5⟩ := Kd.R_elem HO_0.out z86 (x5_1 : Int) p5 q5
     obtain rfl := k86_openM hM5
     have hx5_0 : wr.cell? ⟨go5, (x5_1 : Int).toNat * 2, none⟩ = some (.int .i64 ((rd_T86 x0_1 x5_1).f0)) := hcc5 0 _ rfl
     have hx5_1 : wr.cell? ⟨go5, (x5_1 : Int).toNat * 2 + 1, none⟩ = some (.int .i64 ((rd_T86 x0_1 x5_1).f1)) := hcc5 1 _ rfl
     have hf5_0 : wr.frozen? ⟨go5, (x5_1 : Int).toNat * 2, none⟩ = false := hfr5 0
     have hf5_1 : wr.frozen? ⟨go5, (x5_1 : Int).toNat * 2 + 1, none⟩ = false := hfr5 1
     clear hcl5 hcc5 hfr5 hM5
     replace p5 := eq_true p5
     replace q5 := eq_true q5
     have HX8 := Aside0.mk (show Kd.R k86 86 wr w0.heap.size (fun k_ => (P0_ k_ ∨ w.heap.size ≤ k_)) (.slice (some ⟨go5, 0, none⟩) x0_1.length co7) x0_1 from (kR_ HO_0.out))
     obtain ⟨ce8, hcl8, hM8, hcc8, hfr8⟩ := Kd.R_elem HX8.out z86 (x5_1 : Int) (of_decide_eq_true (by first | (with_reducible assumption) | assumption)) (by have h_ : (x5_1 : Int) < ((x0_1.length : Int) : Int) := of_decide_eq_true (by first | (with_reducible assumption) | assumption); first | exact h_ | (have e_ := (Kd.R_reads' HO_0.out).1; omega) | simpa using h_)
     obtain rfl := k86_openM hM8
     have HP8 := Kd.R_seg HX8.out (x5_1 : Int) (of_decide_eq_true (by first | (with_reducible assumption) | assumption)) (by have h_ : (x5_1 : Int) < ((x0_1.length : Int) : Int) := of_decide_eq_true (by first | (with_reducible assumption) | assumption); first | exact h_ | (have e_ := (Kd.R_reads' HO_0.out).1; omega) | simpa using h_) (seg := [.int .i64 x1_1]) (j := 0) hcl8 hcc8 (show 1 ≤ 2 from by decide) (x' := (⟨x1_1, (rd_T86 x0_1 x5_1).f1⟩ : S86)) (k86_mkM _ _ _ (⟨x1_1, (rd_T86 x0_1 x5_1).f1⟩ : S86) ) (fun _ hk => hk)
     have hx8_0 := hcc8 0 _ rfl
     (try simp only [show (k86).sz = 2 from rfl, Nat.mul_one, Nat.add_zero] at hx8_0)
     have hf8_0 := hfr8 0
     (try simp only [show (k86).sz = 2 from rfl, Nat.mul_one, Nat.add_zero] at hf8_0)
     clear hcl8 hcc8 hfr8 hM8
     go_wp2_with (first | ((with_reducible refine gate_store (t := 3) (p := 16) rfl ?_); refine store_event (t := 3) (p := 16) (v := ?vo_w9) (w1 := (wr.setCell ⟨go5, (x5_1 : Int).toNat * 2, none⟩ (.int .i64 x1_1))) ?hg ?ho ?hn ?hr ?_; (case ho => rfl); (case hg => rfl); (case hn => rfl); (case hr => first | (go_simp; done) | (go_simp; rfl)); intro w9 hw; have hg : wr.grownBy w9 (some go5) := (by rw [hw]; exact HP8.2); have hp_ : Kd.R k86 86 w9 w0.heap.size (fun k_ => (P0_ k_ ∨ w.heap.size ≤ k_)) (.slice (some ⟨go5, 0, none⟩) x0_1.length co7) y235 := (by rw [hw, Ny235.out]; exact HP8.1); clear HP8; have n0_ := Aside0.mk (hp_); have n1_ := Aside0.mk ((by rw [hw]; exact below_set (HB.out) GB5.out : Below w0.heap.size w0 w9)); have n2_ := Aside0.mk (Kept.of_grown (S := (fun k_ => P0_ k_)) hg (by repeat (first | (with_reducible first | exact HK.out | apply Kept.alloc | apply Kept.drewN | apply Kept.drew) | exact HK.out)) (fun k_ e_ => (HO_0.out.1 k_ e_))); clear HO_0; clear HB; clear HK; have HO_0 := n0_; have HB := n1_; have HK := n2_; clear n0_ n1_ n2_; clear hg hw hp_; have p6 : 0 ≤ (x5_1 : Int) := of_decide_eq_true (by first | (with_reducible assumption) | assumption); have q6 : (x5_1 : Int) < ((x0_1.length : Int) : Int) := of_decide_eq_true (by first | (with_reducible assumption) | assumption); obtain ⟨ce6, hcl6, hM6, hcc6, hfr6⟩ := Kd.R_elem HO_0.out z86 (x5_1 : Int) p6 q6; obtain rfl := k86_openM hM6; have hx6_0 : w9.cell? ⟨go5, (x5_1 : Int).toNat * 2, none⟩ = some (.int .i64 ((rd_T86 y235 x5_1).f0)) := hcc6 0 _ rfl; have hx6_1 : w9.cell? ⟨go5, (x5_1 : Int).toNat * 2 + 1, none⟩ = some (.int .i64 ((rd_T86 y235 x5_1).f1)) := hcc6 1 _ rfl; have hf6_0 : w9.frozen? ⟨go5, (x5_1 : Int).toNat * 2, none⟩ = false := hfr6 0; have hf6_1 : w9.frozen? ⟨go5, (x5_1 : Int).toNat * 2 + 1, none⟩ = false := hfr6 1; clear hcl6 hcc6 hfr6 hM6; replace p6 := eq_true p6; replace q6 := eq_true q6; have HX10 := Aside0.mk (show Kd.R k86 86 w9 w0.heap.size (fun k_ => (P0_ k_ ∨ w.heap.size ≤ k_)) (.slice (some ⟨go5, 0, none⟩) x0_1.length co7) y235 from (kR_ HO_0.out)); obtain ⟨ce10, hcl10, hM10, hcc10, hfr10⟩ := Kd.R_elem HX10.out z86 (x5_1 : Int) (of_decide_eq_true (by first | (with_reducible assumption) | assumption)) (by have h_ : (x5_1 : Int) < ((x0_1.length : Int) : Int) := of_decide_eq_true (by first | (with_reducible assumption) | assumption); first | exact h_ | (have e_ := (Kd.R_reads' HO_0.out).1; omega) | simpa using h_); obtain rfl := k86_openM hM10; have HP10 := Kd.R_seg HX10.out (x5_1 : Int) (of_decide_eq_true (by first | (with_reducible assumption) | assumption)) (by have h_ : (x5_1 : Int) < ((x0_1.length : Int) : Int) := of_decide_eq_true (by first | (with_reducible assumption) | assumption); first | exact h_ | (have e_ := (Kd.R_reads' HO_0.out).1; omega) | simpa using h_) (seg := [.int .i64 (wrap64 (x1_1 + 1))]) (j := 1) hcl10 hcc10 (show 2 ≤ 2 from by decide) (x' := (⟨(rd_T86 y235 x5_1).f0, wrap64 (x1_1 + 1)⟩ : S86)) (k86_mkM _ _ _ (⟨(rd_T86 y235 x5_1).f0, wrap64 (x1_1 + 1)⟩ : S86) ) (fun _ hk => hk); have hx10_1 := hcc10 1 _ rfl; (try simp only [show (k86).sz = 2 from rfl, Nat.mul_one, Nat.add_zero] at hx10_1); have hf10_1 := hfr10 1; (try simp only [show (k86).sz = 2 from rfl, Nat.mul_one, Nat.add_zero] at hf10_1); clear hcl10 hcc10 hfr10 hM10) | ((with_reducible refine gate_store (t := 3) (p := 23) rfl ?_); refine store_event (t := 3) (p := 23) (v := ?vo_w11) (w1 := (w9.setCell ⟨go5, (x5_1 : Int).toNat * 2 + 1, none⟩ (.int .i64 (wrap64 (x1_1 + 1))))) ?hg ?ho ?hn ?hr ?_; (case ho => rfl); (case hg => rfl); (case hn => rfl); (case hr => first | (go_simp; done) | (go_simp; rfl)); intro w11 hw; have hg : w9.grownBy w11 (some go5) := (by rw [hw]; exact HP10.2); have hp_ : Kd.R k86 86 w11 w0.heap.size (fun k_ => (P0_ k_ ∨ w.heap.size ≤ k_)) (.slice (some ⟨go5, 0, none⟩) x0_1.length co7) y236 := (by rw [hw, Ny236.out]; exact HP10.1); clear HP10; have n0_ := Aside0.mk (hp_); have n1_ := Aside0.mk ((by rw [hw]; exact below_set (HB.out) GB5.out : Below w0.heap.size w0 w11)); have n2_ := Aside0.mk (Kept.of_grown (S := (fun k_ => P0_ k_)) hg (by repeat (first | (with_reducible first | exact HK.out | apply Kept.alloc | apply Kept.drewN | apply Kept.drew) | exact HK.out)) (fun k_ e_ => (HO_0.out.1 k_ e_))); clear HO_0; clear HB; clear HK; have HO_0 := n0_; have HB := n1_; have HK := n2_; clear n0_ n1_ n2_; clear hg hw hp_))
     go_roundg k1
     case measure => have := HK1.out; omega
     case rel => exact ⟨(y236), (wrap64 ((wrap64 (x1_1 + 1)) + 1)), (wrap64 (x5_1 + 1)), (by first | rfl | (simp; done) | (simp [*]; done)), (by first | rfl | (simp; done) | (simp [*]; done)), H', ⟨by have := HK1.out; omega⟩, ⟨kR_ HO_0.out⟩, ⟨by repeat (first | (with_reducible first | exact HK.out | apply Kept.alloc | apply Kept.drewN | apply Kept.drew) | exact HK.out)⟩, ⟨by repeat (first | (with_reducible first | exact HB.out | apply below_alloc | apply pw_below_drewN | apply below_drew1) | exact HB.out)⟩⟩
    ·rw [if_neg c4] at H
     exact absurd H (by simp)
   ·rw [if_neg c3] at H
    have c3b0 : decide (x5_1 < (x0_1.length : Int)) = false := decide_eq_false c3
    clear c3
    simp only [Option.some.injEq, Prod.mk.injEq] at H
    obtain ⟨rfl, rfl⟩ := H
    obtain ⟨Ao12, co12, eo12⟩ := Kd.R_slice HO_0.out
    subst eo12
    go_wp2
    go_ret
    exact ⟨by first | rfl | (simp [errW_none, errW_some] <;> rfl) | (simp [*, errW_none, errW_some] <;> rfl), kR_ HO_0.out, by repeat (first | (with_reducible first | exact HB.out | apply below_alloc | apply pw_below_drewN | apply below_drew1) | exact HB.out), by repeat (first | (with_reducible first | exact HK.out | apply Kept.alloc | apply Kept.drewN | apply Kept.drew) | exact HK.out)⟩

/-! ### laws_markMouth: function 38 -/
def laws_markMouth.f (k : Nat) (a0_0 : Int) (l0_1 : List Int) (a0_2 : Int) (a0_3 : Int) (l0_4 : List (S86)) (a1 : Int) : Option (Int × List Int × (List (S86))) := (laws_markByteS.f k l0_1 a1).bind fun bt238 => ((laws_markRangeS.f k l0_4 bt238.1).bind fun bt240 => (some (bt240.1, bt238.2, bt240.2)))
theorem laws_markMouth.mono : ∀ a0 a1 a2 a3 a4 a5 k, LeO (laws_markMouth.f k a0 a1 a2 a3 a4 a5) (laws_markMouth.f (k + 1) a0 a1 a2 a3 a4 a5) := by
 intro a0 a1 a2 a3 a4 a5 k
 unfold laws_markMouth.f
 repeat' first
   | (with_reducible exact laws_markByteS.mono _ _ _)
   | (with_reducible exact laws_markRangeS.mono _ _ _)
   | (with_reducible exact LeO.refl _)
   | (with_reducible exact LeO.none _)
   | (with_reducible refine LeO.ite ?_ ?_)
   | (with_reducible refine LeO.bind ?_ (fun _ => ?_))
   | exact laws_markByteS.mono _ _ _
   | exact laws_markRangeS.mono _ _ _
   | exact LeO.none _
   | refine LeO.ite ?_ ?_
   | refine LeO.bind ?_ (fun _ => ?_)
set_option maxHeartbeats 8000000 in
set_option maxRecDepth 100000 in
theorem laws_markMouth.calls (k : Nat) (a0_0 : Int) (P0_1_ : Nat → Prop) (u9000_ : Value) (l0_1 : List Int) (a0_2 : Int) (a0_3 : Int) (P0_4_ : Nat → Prop) (u9001_ : Value) (l0_4 : List (S86)) (a1 : Int) (r1 : Int) (r2 : List Int) (r3 : List (S86)) (w0 w : World) (hB : Below w0.heap.size w0 w) (ho0_1 : Kd.R (Kd.int .u8) 5 w w0.heap.size P0_1_ u9000_ l0_1) (ho0_4 : Kd.R k86 86 w w0.heap.size P0_4_ u9001_ l0_4) (h : laws_markMouth.f k a0_0 l0_1 a0_2 a0_3 l0_4 a1 = some (r1, r2, r3)) :
  Calls Try.prog 38 #[.agg #[.int .i64 a0_0, u9000_, .int .i64 a0_2, .int .i64 a0_3, u9001_], .int .i64 a1] w fun e w' => e = .returned (.int .i64 r1) ∧ Kd.R (Kd.int .u8) 5 w' w0.heap.size (fun k_ => ((P0_1_ k_ ∨ P0_4_ k_) ∨ w.heap.size ≤ k_)) u9000_ r2 ∧ Kd.R k86 86 w' w0.heap.size (fun k_ => ((P0_1_ k_ ∨ P0_4_ k_) ∨ w.heap.size ≤ k_)) u9001_ r3 ∧ Below w0.heap.size w0 w' ∧ Kept w w' (fun k_ => P0_1_ k_ ∨ P0_4_ k_) := by
 have hu47 := Try.underlying47
 have HO0_1 := Aside0.mk (show Kd.R (Kd.int .u8) 5 w w0.heap.size (fun k_ => ((P0_1_ k_ ∨ P0_4_ k_) ∨ w.heap.size ≤ k_)) u9000_ l0_1 from Kd.R_mono ho0_1 (fun k_ hk => (.inl (.inl hk))))
 have HO0_4 := Aside0.mk (show Kd.R k86 86 w w0.heap.size (fun k_ => ((P0_1_ k_ ∨ P0_4_ k_) ∨ w.heap.size ≤ k_)) u9001_ l0_4 from Kd.R_mono ho0_4 (fun k_ hk => (.inl (.inr hk))))
 have HK := Aside0.mk (Kept.refl w (fun k_ => P0_1_ k_ ∨ P0_4_ k_))
 have HW0 := Aside0.mk hB.size; have HB := Aside0.mk hB; clear hB
 have H : ((laws_markByteS.f k l0_1 a1).bind fun bt238 => ((laws_markRangeS.f k l0_4 bt238.1).bind fun bt240 => (some (bt240.1, bt238.2, bt240.2)))) = some (r1, r2, r3) := h
 clear h
 replace H := Option.bind_eq_some_iff.mp H
 obtain ⟨⟨t238, t239⟩, A30, H⟩ := H
 replace H : ((laws_markRangeS.f k l0_4 t238).bind fun bt240 => (some (bt240.1, t239, bt240.2))) = some (r1, r2, r3) := H
 have A3 := Aside0.mk A30; clear A30
 replace H := Option.bind_eq_some_iff.mp H
 obtain ⟨⟨t240, t241⟩, A40, H⟩ := H
 replace H : (some (t240, t239, t241)) = some (r1, r2, r3) := H
 have A4 := Aside0.mk A40; clear A40
 simp only [Option.some.injEq, Prod.mk.injEq] at H
 obtain ⟨rfl, rfl, rfl⟩ := H
 obtain ⟨Ao5, co5, eo5⟩ := Kd.R_slice HO0_1.out
 subst eo5
 obtain ⟨Ao6, co6, eo6⟩ := Kd.R_slice HO0_4.out
 subst eo6
 go_enter Try.func38, Try.ntmps38
 go_wp2_with (first | ((with_reducible refine gate_dst (N := 2) rfl ?_); refine box_event ?hg (N := 2) ?hd (cs := #[.int .i64 a0_0, .slice Ao5 l0_1.length co5, .int .i64 a0_2, .int .i64 a0_3, .slice Ao6 l0_4.length co6]) (t := 47) ?hr ?_; (case hd => rfl); (case hg => rfl); (case hr => first | (go_simp; done) | (go_simp; rfl)); intro gb237 hg w7 hbox hb; have n0_ := Aside0.mk (Kd.R_below (kR_ HO0_1.out) hb); have n1_ := Aside0.mk (Kd.R_below (kR_ HO0_4.out) hb); have n2_ := Aside0.mk (Kept.below (S := (fun k_ => P0_1_ k_ ∨ P0_4_ k_)) (by repeat (first | (with_reducible first | exact HK.out | apply Kept.alloc | apply Kept.drewN | apply Kept.drew) | exact HK.out)) hb); have n3_ := Aside0.mk (below_step (hb0_ HB.out) hb); have n4_ := Aside0.mk (hbox); have n5_ := Aside0.mk ((by rw [hg]; exact (by first | exact HK.out.1 | exact (show Kept w _ (fun k_ => P0_1_ k_ ∨ P0_4_ k_) from by repeat (first | (with_reducible first | exact HK.out | apply Kept.alloc | apply Kept.drewN | apply Kept.drew) | exact HK.out)).1) : w.heap.size ≤ gb237)); have n6_ := Aside0.mk ((by rw [hg]; exact (below_size (hb0_ HB.out)) : w0.heap.size ≤ gb237)); clear HO0_1; clear HO0_4; clear HK; clear HB; have HO0_1 := n0_; have HO0_4 := n1_; have HK := n2_; have HB := n3_; have BK237 := n4_; have GW237 := n5_; have GE237 := n6_; clear n0_ n1_ n2_ n3_ n4_ n5_ n6_; clear hb hbox hg; have hcz8_0 : w7.cell? ⟨gb237, 0, none⟩ = some (.int .i64 a0_0) := (blk_cell BK237.out 0).trans rfl; have hcz8_1 : w7.cell? ⟨gb237, 1, none⟩ = some (.slice Ao5 l0_1.length co5) := (blk_cell BK237.out 1).trans rfl; have hcz8_2 : w7.cell? ⟨gb237, 2, none⟩ = some (.int .i64 a0_2) := (blk_cell BK237.out 2).trans rfl; have hcz8_3 : w7.cell? ⟨gb237, 3, none⟩ = some (.int .i64 a0_3) := (blk_cell BK237.out 3).trans rfl; have hcz8_4 : w7.cell? ⟨gb237, 4, none⟩ = some (.slice Ao6 l0_4.length co6) := (blk_cell BK237.out 4).trans rfl; have hfz8_0 := blk_frozen BK237.out 0; have hfz8_1 := blk_frozen BK237.out 1; have hfz8_2 := blk_frozen BK237.out 2; have hfz8_3 := blk_frozen BK237.out 3; have hfz8_4 := blk_frozen BK237.out 4) | ((with_reducible refine gate_callee (f := 24) rfl ?_); refine goesL_ (some 8) rfl rfl Try.func24 (by kernel_rfl) rfl #[.slice Ao5 l0_1.length co5, .int .i64 a1] rfl ar_ ?_; (with_reducible refine (laws_markByteS.calls k (fun k_ => some k_ = (.slice Ao5 l0_1.length co5 : Value).ownBlock) (.slice Ao5 l0_1.length co5) l0_1 a1 t238 t239 w0 _ ?side1 ?side2 A3.out).mono ?_); (case side1 => repeat (first | (with_reducible first | exact HB.out | apply below_alloc | apply pw_below_drewN | apply below_drew1 | refine below_set ?_ GE237.out) | exact HB.out)); (case side2 => exact Kd.R_tight rfl HO0_1.out); rintro e w9 ⟨rfl, hy0, hb, hkp⟩; refine ⟨_, rfl, ?_⟩; have n0_ := Aside0.mk (Kd.R_reok rfl hy0 (fun k_ e_ => HO0_1.out.1 k_ e_)); have n1_ := Aside0.mk (Kd.R_mono (ok' := fun k_ => ((P0_1_ k_ ∨ P0_4_ k_) ∨ w.heap.size ≤ k_)) (Kd.R_keptB ((Kd.R_apart' HO0_4.out (Kd.R_typed HO0_1.out) (by decide))) hkp (fun k_ hk_ hs_ => (hk_.2) hs_)) (fun k_ hk_ => hk_.1.1)); have n2_ := Aside0.mk (blk_kept (g := gb237) (o := .cells #[.int .i64 a0_0, .slice Ao5 l0_1.length co5, .int .i64 a0_2, .int .i64 a0_3, .slice Ao6 l0_4.length co6] 47 (0, 0)) (kb_ BK237.out) hkp (fun hs_ => (fun e_ => (Kd.R_ne HO0_1.out BK237.out (by decide)) e_) hs_)); have n3_ := Aside0.mk (Kept.then_ (S := (fun k_ => P0_1_ k_ ∨ P0_4_ k_)) (by repeat (first | (with_reducible first | exact HK.out | apply Kept.alloc | apply Kept.drewN | apply Kept.drew | refine Kept.setCell ?_ (.inr GW237.out) _) | exact HK.out)) hkp (fun k_ hs_ => (fun e_ => (HO0_1.out.1 k_ e_.symm)) hs_)); have n4_ := Aside0.mk (hb); clear HO0_1; clear HO0_4; clear BK237; clear HK; clear HB; have HO0_1 := n0_; have HO0_4 := n1_; have BK237 := n2_; have HK := n3_; have HB := n4_; clear n0_ n1_ n2_ n3_ n4_; (try clear hb); (try clear hkp); (try clear hy0); have hcz10_0 : w9.cell? ⟨gb237, 0, none⟩ = some (.int .i64 a0_0) := (blk_cell BK237.out 0).trans rfl; have hcz10_1 : w9.cell? ⟨gb237, 1, none⟩ = some (.slice Ao5 l0_1.length co5) := (blk_cell BK237.out 1).trans rfl; have hcz10_2 : w9.cell? ⟨gb237, 2, none⟩ = some (.int .i64 a0_2) := (blk_cell BK237.out 2).trans rfl; have hcz10_3 : w9.cell? ⟨gb237, 3, none⟩ = some (.int .i64 a0_3) := (blk_cell BK237.out 3).trans rfl; have hcz10_4 : w9.cell? ⟨gb237, 4, none⟩ = some (.slice Ao6 l0_4.length co6) := (blk_cell BK237.out 4).trans rfl; have hfz10_0 := blk_frozen BK237.out 0; have hfz10_1 := blk_frozen BK237.out 1; have hfz10_2 := blk_frozen BK237.out 2; have hfz10_3 := blk_frozen BK237.out 3; have hfz10_4 := blk_frozen BK237.out 4) | ((with_reducible refine gate_callee (f := 68) rfl ?_); refine goesL_ (some 12) rfl rfl Try.func68 (by kernel_rfl) rfl #[.slice Ao6 l0_4.length co6, .int .i64 t238] rfl ar_ ?_; (with_reducible refine (laws_markRangeS.calls k (fun k_ => some k_ = (.slice Ao6 l0_4.length co6 : Value).ownBlock) (.slice Ao6 l0_4.length co6) l0_4 t238 t240 t241 w0 _ ?side1 ?side2 A4.out).mono ?_); (case side1 => repeat (first | (with_reducible first | exact HB.out | apply below_alloc | apply pw_below_drewN | apply below_drew1 | refine below_set ?_ GE237.out) | exact HB.out)); (case side2 => exact Kd.R_tight rfl HO0_4.out); rintro e w11 ⟨rfl, hy0, hb, hkp⟩; refine ⟨_, rfl, ?_⟩; have n0_ := Aside0.mk (Kd.R_mono (ok' := fun k_ => ((P0_1_ k_ ∨ P0_4_ k_) ∨ w.heap.size ≤ k_)) (Kd.R_keptB ((Kd.R_apart' HO0_1.out (Kd.R_typed HO0_4.out) (by decide))) hkp (fun k_ hk_ hs_ => (hk_.2) hs_)) (fun k_ hk_ => hk_.1.1)); have n1_ := Aside0.mk (Kd.R_reok rfl hy0 (fun k_ e_ => HO0_4.out.1 k_ e_)); have n2_ := Aside0.mk (blk_kept (g := gb237) (o := .cells #[.int .i64 a0_0, .slice Ao5 l0_1.length co5, .int .i64 a0_2, .int .i64 a0_3, .slice Ao6 l0_4.length co6] 47 (0, 0)) (kb_ BK237.out) hkp (fun hs_ => (fun e_ => (Kd.R_ne HO0_4.out BK237.out (by decide)) e_) hs_)); have n3_ := Aside0.mk (Kept.then_ (S := (fun k_ => P0_1_ k_ ∨ P0_4_ k_)) (by repeat (first | (with_reducible first | exact HK.out | apply Kept.alloc | apply Kept.drewN | apply Kept.drew | refine Kept.setCell ?_ (.inr GW237.out) _) | exact HK.out)) hkp (fun k_ hs_ => (fun e_ => (HO0_4.out.1 k_ e_.symm)) hs_)); have n4_ := Aside0.mk (hb); clear HO0_1; clear HO0_4; clear BK237; clear HK; clear HB; have HO0_1 := n0_; have HO0_4 := n1_; have BK237 := n2_; have HK := n3_; have HB := n4_; clear n0_ n1_ n2_ n3_ n4_; (try clear hb); (try clear hkp); (try clear hy0)))
 go_ret
 exact ⟨by first | rfl | (simp [errW_none, errW_some] <;> rfl) | (simp [*, errW_none, errW_some] <;> rfl), kR_ HO0_1.out, kR_ HO0_4.out, by repeat (first | (with_reducible first | exact HB.out | apply below_alloc | apply pw_below_drewN | apply below_drew1 | refine below_set ?_ GE237.out) | exact HB.out), by repeat (first | (with_reducible first | exact HK.out | apply Kept.alloc | apply Kept.drewN | apply Kept.drew | refine Kept.setCell ?_ (.inr GW237.out) _) | exact HK.out)⟩

end Go.Proofs.Ytjiodkbbmhhccaa.PFnExactMouthNext
