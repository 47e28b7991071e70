/- Printed by wip/xp/xprint.sh out of the translation, for this claim: what each function answers, as a plain function, and that the machine does just that. No condition. -/
import Derived.Test.YtgemkjclamlmbaaPFnListeningx0
import Derived.Test.YtgemkjclamlmbaaPFnListeningx4
namespace Go.Proofs.Ytgemkjclamlmbaa.PFnListening
open Go.RowKit Go.Proofs.YtgemkjclamlmbaaW.PrintWords Go.Proofs.YtgemkjclamlmbaaW.PrintLast Go.Proofs.YtgemkjclamlmbaaW.PrintMore
attribute [local go_sem] max2_int min2_int max_two min_two max_three min_three max_four min_four   -- for this text's walks alone
set_option linter.unusedVariables false
set_option linter.unusedSimpArgs false
mutual
def spec_l12Put.l0 : Nat → List (S50) → List (S50) → Bool → Int → Int → Int → Option ((List (S50)))
 | 0, _, _, _, _, _, _ => none
 | k + 1, x0, x5, x6, x7, x231000, x231001 => if x7 < (x0.length : Int) then (if x6 = true then (spec_l12Put.j1 k x0 x5 x6 x7 false x231000 x231001) else (if 0 ≤ x7 then (spec_l12Put.j1 k x0 x5 x6 x7 (decide (x231000 < ((rd_T50 x0 x7).f0))) x231000 x231001) else (none))) else (if x6 = true then (some x5) else (if x5.length < 8796093022208 then (some (x5 ++ [(⟨x231000, x231001⟩ : S50)])) else (none)))
def spec_l12Put.j1 : Nat → List (S50) → List (S50) → Bool → Int → Bool → Int → Int → Option ((List (S50)))
 | 0, _, _, _, _, _, _, _ => none
 | k + 1, x0, x5, x6, x7, x26, x231000, x231001 => if x26 = true then (if x5.length < 8796093022208 then (spec_l12Put.j2 k x0 (x5 ++ [(⟨x231000, x231001⟩ : S50)]) true x7 x231000 x231001) else (none)) else (spec_l12Put.j2 k x0 x5 x6 x7 x231000 x231001)
def spec_l12Put.j2 : Nat → List (S50) → List (S50) → Bool → Int → Int → Int → Option ((List (S50)))
 | 0, _, _, _, _, _, _ => none
 | k + 1, x0, x5, x6, x7, x231000, x231001 => if 0 ≤ x7 then (if x7 < (x0.length : Int) then (if x231000 = ((rd_T50 x0 x7).f0) then (if x5.length < 8796093022208 then (spec_l12Put.l0 k x0 (x5 ++ [(⟨(rd_T50 x0 x7).f0, (rd_T50 x0 x7).f1⟩ : S50)]) true (wrap64 (x7 + 1)) x231000 x231001) else (none)) else (if x5.length < 8796093022208 then (spec_l12Put.l0 k x0 (x5 ++ [(⟨(rd_T50 x0 x7).f0, (rd_T50 x0 x7).f1⟩ : S50)]) x6 (wrap64 (x7 + 1)) x231000 x231001) else (none))) else (none)) else (none)
end
def spec_l12Put.f (k : Nat) (l0 : List (S50)) (a1_0 : Int) (a1_1 : Int) : Option ((List (S50))) := spec_l12Put.l0 k l0 (([] : List (S50))) false 0 a1_0 a1_1
theorem spec_l12Put.mono_l : ∀ k, (∀ y0 y1 y2 y3 y4 y5, LeO (spec_l12Put.l0 k y0 y1 y2 y3 y4 y5) (spec_l12Put.l0 (k + 1) y0 y1 y2 y3 y4 y5)) ∧ (∀ y0 y1 y2 y3 y4 y5 y6, LeO (spec_l12Put.j1 k y0 y1 y2 y3 y4 y5 y6) (spec_l12Put.j1 (k + 1) y0 y1 y2 y3 y4 y5 y6)) ∧ (∀ y0 y1 y2 y3 y4 y5, LeO (spec_l12Put.j2 k y0 y1 y2 y3 y4 y5) (spec_l12Put.j2 (k + 1) y0 y1 y2 y3 y4 y5))
 | 0 => ⟨fun _ _ _ _ _ _ r h => by simp [spec_l12Put.l0] at h, fun _ _ _ _ _ _ _ r h => by simp [spec_l12Put.j1] at h, fun _ _ _ _ _ _ r h => by simp [spec_l12Put.j2] at h⟩
 | k + 1 => by
  obtain ⟨ih0, ih1, ih2⟩ := spec_l12Put.mono_l k
  refine ⟨?_, ?_, ?_⟩
  ·intro y0 y1 y2 y3 y4 y5
   unfold spec_l12Put.l0
   repeat' first | (with_reducible first | apply ih0 | apply ih1 | apply ih2 | exact LeO.refl _ | exact LeO.none _ | refine LeO.ite ?_ ?_ | refine LeO.bind ?_ fun _ => ?_) | apply ih0 | apply ih1 | apply ih2 | exact LeO.none _ | refine LeO.ite ?_ ?_ | refine LeO.bind ?_ fun _ => ?_
  ·intro y0 y1 y2 y3 y4 y5 y6
   unfold spec_l12Put.j1
   repeat' first | (with_reducible first | apply ih0 | apply ih1 | apply ih2 | exact LeO.refl _ | exact LeO.none _ | refine LeO.ite ?_ ?_ | refine LeO.bind ?_ fun _ => ?_) | apply ih0 | apply ih1 | apply ih2 | exact LeO.none _ | refine LeO.ite ?_ ?_ | refine LeO.bind ?_ fun _ => ?_
  ·intro y0 y1 y2 y3 y4 y5
   unfold spec_l12Put.j2
   repeat' first | (with_reducible first | apply ih0 | apply ih1 | apply ih2 | exact LeO.refl _ | exact LeO.none _ | refine LeO.ite ?_ ?_ | refine LeO.bind ?_ fun _ => ?_) | apply ih0 | apply ih1 | apply ih2 | exact LeO.none _ | refine LeO.ite ?_ ?_ | refine LeO.bind ?_ fun _ => ?_
theorem spec_l12Put.mono : ∀ a0 a1 a2 k, LeO (spec_l12Put.f k a0 a1 a2) (spec_l12Put.f (k + 1) a0 a1 a2) := by
 intro a0 a1 a2 k
 obtain ⟨ih0, ih1, ih2⟩ := spec_l12Put.mono_l k
 unfold spec_l12Put.f
 repeat' first | (with_reducible first | apply ih0 | apply ih1 | apply ih2 | exact LeO.refl _ | exact LeO.none _ | refine LeO.ite ?_ ?_ | refine LeO.bind ?_ fun _ => ?_) | apply ih0 | apply ih1 | apply ih2 | exact LeO.none _ | refine LeO.ite ?_ ?_ | refine LeO.bind ?_ fun _ => ?_
set_option maxHeartbeats 8000000 in
set_option maxRecDepth 100000 in
theorem spec_l12Put.calls (k : Nat) (A0 : Option Addr) (c0 : Nat) (l0 : List (S50)) (a1_0 : Int) (a1_1 : Int) (r : List (S50)) (w : World) (hr0 : Kd.C k50 w A0 l0.length l0) (hc0 : l0.length ≤ c0) (h : spec_l12Put.f k l0 a1_0 a1_1 = some r) :
  Calls Try.prog 23 #[.slice A0 l0.length c0, .agg #[.int .i64 a1_0, .int .u8 a1_1]] w fun e w' => ∃ v0_ : Value, e = .returned (v0_) ∧ Kd.R k50 50 w' w.heap.size (fun _ => True) v0_ r ∧ Below w.heap.size w w' := by
 have hu50 := Try.underlying50; have HR0 := Aside0.mk hr0; have HC0 := Aside0.mk hc0; clear hr0 hc0
 have HB := Aside0.mk (Below.refl w.heap.size w)
 have H : (spec_l12Put.l0 k l0 (([] : List (S50))) false 0 a1_0 a1_1) = some r := h
 clear h
 obtain ⟨y231, hy231⟩ : ∃ y_ : List (S50), y_ = (([] : List (S50))) := ⟨_, rfl⟩
 (first | replace H := sb_ hy231 H | rw [← hy231] at H)
 have Ny231 := Aside0.mk hy231; clear hy231
 have H' := Aside0.mk H
 clear H
 go_enter Try.func23, Try.ntmps23
 go_wp2_with (first | ((with_reducible refine gate_dst (N := 3) rfl ?_); refine box_ (N := 3) (cs := #[.int .i64 a1_0, .int .u8 a1_1]) (t := 50) (fun gb230 hg w3 hbox hb => ?_); have BK230 := Aside0.mk (hbox); have GW230 := ge_ hg HB; have GE230 := ge_ hg HB; replace HB := (bs_ HB hb); clear hb hbox hg) | ((with_reducible refine gate_dst (N := 8) rfl ?_); refine Kd.R_lit k50 _ 50 ?hg (N := 8) ?hd (xs := ([] : List (S50))) (inner := []) (ok := fun _ => True) (okp := fun _ => True) ?hr ?hp (fun _ hk => hk) trivial (Below.refl _ _) (Nat.le_refl _) (by simp) ?_; (case hd => rfl); (case hg => rfl); (case hr => first | (go_simp; done) | (go_simp; rfl)); (case hp => exact (Reps.none _ _)); intro v232 w4 ho5 hb hg_ hnew_; clear hg_ hnew_; (first | rw [← Ny231.out] at ho5 | (simp only [Int.reduceToNat] at ho5; rw [← Ny231.out] at ho5)); have HO233 := Aside0.mk (Kd.R_lower (nbR_ ho5 BK230) (below_size (hbA_ HB.out))); replace BK230 := (bbA_ BK230 hb); replace HB := (bs_ HB hb); clear hb ho5))
 repeat (go_quiet (first | ((with_reducible refine gate_dst (N := 3) rfl ?_); refine box_ (N := 3) (cs := #[.int .i64 a1_0, .int .u8 a1_1]) (t := 50) (fun gb230 hg w3 hbox hb => ?_); have BK230 := Aside0.mk (hbox); have GW230 := ge_ hg HB; have GE230 := ge_ hg HB; replace HB := (bs_ HB hb); clear hb hbox hg) | ((with_reducible refine gate_dst (N := 8) rfl ?_); refine Kd.R_lit k50 _ 50 ?hg (N := 8) ?hd (xs := ([] : List (S50))) (inner := []) (ok := fun _ => True) (okp := fun _ => True) ?hr ?hp (fun _ hk => hk) trivial (Below.refl _ _) (Nat.le_refl _) (by simp) ?_; (case hd => rfl); (case hg => rfl); (case hr => first | (go_simp; done) | (go_simp; rfl)); (case hp => exact (Reps.none _ _)); intro v232 w4 ho5 hb hg_ hnew_; clear hg_ hnew_; (first | rw [← Ny231.out] at ho5 | (simp only [Int.reduceToNat] at ho5; rw [← Ny231.out] at ho5)); have HO233 := Aside0.mk (Kd.R_lower (nbR_ ho5 BK230) (below_size (hbA_ HB.out))); replace BK230 := (bbA_ BK230 hb); replace HB := (bs_ HB hb); clear hb ho5)); try go_wp2_with (first | ((with_reducible refine gate_dst (N := 3) rfl ?_); refine box_ (N := 3) (cs := #[.int .i64 a1_0, .int .u8 a1_1]) (t := 50) (fun gb230 hg w3 hbox hb => ?_); have BK230 := Aside0.mk (hbox); have GW230 := ge_ hg HB; have GE230 := ge_ hg HB; replace HB := (bs_ HB hb); clear hb hbox hg) | ((with_reducible refine gate_dst (N := 8) rfl ?_); refine Kd.R_lit k50 _ 50 ?hg (N := 8) ?hd (xs := ([] : List (S50))) (inner := []) (ok := fun _ => True) (okp := fun _ => True) ?hr ?hp (fun _ hk => hk) trivial (Below.refl _ _) (Nat.le_refl _) (by simp) ?_; (case hd => rfl); (case hg => rfl); (case hr => first | (go_simp; done) | (go_simp; rfl)); (case hp => exact (Reps.none _ _)); intro v232 w4 ho5 hb hg_ hnew_; clear hg_ hnew_; (first | rw [← Ny231.out] at ho5 | (simp only [Int.reduceToNat] at ho5; rw [← Ny231.out] at ho5)); have HO233 := Aside0.mk (Kd.R_lower (nbR_ ho5 BK230) (below_size (hbA_ HB.out))); replace BK230 := (bbA_ BK230 hb); replace HB := (bs_ HB hb); clear hb ho5)))
 go_loopg [5, 6, 7] k (fun kq v5 v6 v7 w' => ∃ (x5_1 : List (S50)) (x6_1 : Bool) (x7_1 : Int), v6 = .bool x6_1 ∧ v7 = .int .i64 x7_1 ∧ Aside0 (spec_l12Put.l0 kq l0 x5_1 x6_1 x7_1 a1_0 a1_1 = some r) ∧ Aside0 (kq ≤ k) ∧ Aside0 (Kd.R k50 50 w' w.heap.size (fun k_ => k_ ≠ gb230) v5 x5_1) ∧ Aside0 (w'.heap[gb230]? = some (.cells #[.int .i64 a1_0, .int .u8 a1_1] 50 (0, 0))) ∧ Aside0 (Below w.heap.size w w'))
 case atStart => exact ⟨(y231), (false), (0), (by first | rfl | (simp; done) | (simp [*]; done)), (by first | rfl | (simp; done) | (simp [*]; done)), H', ⟨Nat.le_refl _⟩, ⟨by refine kR_ ?_; exact Kd.R_mono HO233.out (fun _ hk => hk.2)⟩, ⟨by refine kb_ ?_; exact BK230.out⟩, ⟨hbA_ HB.out⟩⟩
 case round =>
  clear H'; (try clear c2); (try clear p2)
  obtain ⟨x5_1, x6_1, x7_1, rfl, rfl, HA, HK1, HO_5, BK230, HB⟩ := hrel
  cases gk with
  | zero => exact absurd HA.out (by simp [spec_l12Put.l0])
  | succ k1 =>
   have H := HA.out; clear HA
   simp only [spec_l12Put.l0] at H
   by_cases c6 : x7_1 < (l0.length : Int)
   ·rw [if_pos c6] at H
    have c6b0 : decide (x7_1 < (l0.length : Int)) = true := decide_eq_true c6
    clear c6; have HC7 := Aside0.mk H; clear H
    go_upto_region 6 with (fail)
    repeat (go_quiet (fail); go_upto_region 6 with (fail))
    go_cut [26] (fun v26 wc => ∃ (kq : Nat) (x26_6 : Bool), v26 = .bool x26_6 ∧ Aside0 (spec_l12Put.j1 kq l0 x5_1 x6_1 x7_1 x26_6 a1_0 a1_1 = some r) ∧ Aside0 (kq ≤ k1) ∧ Aside0 (Kd.R k50 50 wc w.heap.size (fun k_ => k_ ≠ gb230) u5 x5_1) ∧ Aside0 (wc.heap[gb230]? = some (.cells #[.int .i64 a1_0, .int .u8 a1_1] 50 (0, 0))) ∧ Aside0 (Below w.heap.size w wc))
    case first =>
     have H := HC7.out; clear HC7
     by_cases c8 : x6_1 = true
     ·subst c8
      rw [if_pos rfl] at H
      have H' := Aside0.mk H
      clear H
      go_wp2
      repeat (go_quiet (fail); try go_wp2)
      go_meet
      case rel => exact ⟨_, (false), (by first | rfl | (simp; done) | (simp [*]; done)), H', ⟨by have := HK1.out; first | omega | exact Nat.le_refl _⟩, ⟨kR_ HO_5.out⟩, ⟨by refine kb_ ?_; exact BK230.out⟩, ⟨hbA_ HB.out⟩⟩
     ·replace c8 := Bool.eq_false_iff.mpr c8
      subst c8
      rw [if_neg (show ¬ (false = true) by decide)] at H
      by_cases c9 : 0 ≤ x7_1
      ·rw [if_pos c9] at H
       have c9b0 : decide (0 ≤ x7_1) = true := decide_eq_true c9
       clear c9
       (first | rw [c9b0] | (simp only [i64_w, i32_w]; rw [c9b0]) | skip)
       have H' := Aside0.mk H
       clear H; have Z10 := zz2 BK230
       have p234 : 0 ≤ (x7_1 : Int) := of_decide_eq_true (by first | (with_reducible assumption) | assumption)
       have q234 : x7_1 < (l0.length : Int) := of_decide_eq_true (by first | (with_reducible assumption) | assumption)
       obtain ⟨ad234, e234, hx234_0, hx234_1⟩ := at_T50 HR0.out x7_1 p234 q234
       cases e234
       replace hx234_0 := cc_ HB hx234_0
       replace hx234_1 := cc_ HB hx234_1
       replace p234 := eq_true p234
       replace q234 := eq_true q234
       go_wp2
       repeat (go_quiet (fail); try go_wp2)
       go_meet
       case rel => exact ⟨_, (decide (a1_0 < ((rd_T50 l0 x7_1).f0))), (by first | rfl | (simp; done) | (simp [*]; done)), H', ⟨by have := HK1.out; first | omega | exact Nat.le_refl _⟩, ⟨kR_ HO_5.out⟩, ⟨by refine kb_ ?_; exact BK230.out⟩, ⟨hbA_ HB.out⟩⟩
      ·rw [if_neg c9] at H
       exact absurd H (by simp)
    case rest =>
     clear HC7; (try clear c2); (try clear p2); (try clear q2); (try clear hx2); (try clear c6); (try clear c6b0); (try clear c8); (try clear c9); (try clear c9b0); (try clear Z10); (try clear hx234_0); (try clear hx234_1); (try clear p2); (try clear p234); (try clear q234)
     obtain ⟨kq, x26_6, rfl, HA, HJ6, HO_5, BK230, HB⟩ := hcut
     cases kq with
     | zero => exact absurd HA.out (by simp [spec_l12Put.j1])
     | succ kj6 =>
      have H := HA.out; clear HA
      simp only [spec_l12Put.j1] at H
      have HC11 := Aside0.mk H; clear H
      go_upto_if 26 with (fail)
      repeat (go_quiet (fail); go_upto_if 26 with (fail))
      go_cut [5, 6] (fun v5 v6 wc => ∃ (kq : Nat) (x5_10 : List (S50)) (x6_10 : Bool), v6 = .bool x6_10 ∧ Aside0 (spec_l12Put.j2 kq l0 x5_10 x6_10 x7_1 a1_0 a1_1 = some r) ∧ Aside0 (kq ≤ kj6) ∧ Aside0 (Kd.R k50 50 wc w.heap.size (fun k_ => k_ ≠ gb230) v5 x5_10) ∧ Aside0 (wc.heap[gb230]? = some (.cells #[.int .i64 a1_0, .int .u8 a1_1] 50 (0, 0))) ∧ Aside0 (Below w.heap.size w wc))
      case first =>
       have H := HC11.out; clear HC11
       by_cases c12 : x26_6 = true
       ·subst c12
        rw [if_pos rfl] at H
        by_cases c13 : x5_1.length < 8796093022208
        ·rw [if_pos c13] at H
         have LMc13 := Aside0.mk c13; clear c13
         obtain ⟨y235, hy235⟩ : ∃ y_ : List (S50), y_ = (x5_1 ++ [(⟨a1_0, a1_1⟩ : S50)]) := ⟨_, rfl⟩
         (first | replace H := sb_ hy235 H | rw [← hy235] at H)
         have Ny235 := Aside0.mk hy235; clear hy235
         have H' := Aside0.mk H
         clear H; have Z14 := zz2 BK230
         go_wp2_with (first | ((with_reducible refine gate_builtin (b := .append) (xs := #[.tmp 27, .tmp 29]) rfl ?_); at_builtin; refine Kd.R_append k50 (w0 := w) w.heap.size rfl (.tmp 27) (.tmp 29) 27 50 (.agg #[(.int .i64 0), (.int .u8 0)]) 16 rfl Try.underlying27 info50 rfl (by decide) (by omega) u5 x5_1 (⟨a1_0, a1_1⟩ : S50) [.int .i64 a1_0, .int .u8 a1_1] (fun k_ => k_ ≠ gb230) (fun _ => False) rfl rfl ?aP (fun _ hk => hk.elim) ?aF ?aO ?aB ?aS ?aL ?_; (case aP => exact k50_mkM _ _ _ (⟨a1_0, a1_1⟩ : S50)); (case aB => exact (hbA_ HB.out)); (case aF => exact (fun k_ hk => fb_ BK230 k_ hk)); (case aO => exact (kR_ HO_5.out)); (case aS => exact (below_size (hbA_ HB.out))); (case aL => have := LMc13.out; omega); intro v236 w15 ho hb hg hat; rw [← Ny235.out] at ho; replace BK230 := (bgA_ BK230 hg (Kd.R_away HO_5.out (fun _ hk => hk))); replace HB := Aside0.mk (hb); have HO237 := Aside0.mk (ho); clear HO_5; clear ho hb hg hat))
         repeat (go_quiet (first | ((with_reducible refine gate_builtin (b := .append) (xs := #[.tmp 27, .tmp 29]) rfl ?_); at_builtin; refine Kd.R_append k50 (w0 := w) w.heap.size rfl (.tmp 27) (.tmp 29) 27 50 (.agg #[(.int .i64 0), (.int .u8 0)]) 16 rfl Try.underlying27 info50 rfl (by decide) (by omega) u5 x5_1 (⟨a1_0, a1_1⟩ : S50) [.int .i64 a1_0, .int .u8 a1_1] (fun k_ => k_ ≠ gb230) (fun _ => False) rfl rfl ?aP (fun _ hk => hk.elim) ?aF ?aO ?aB ?aS ?aL ?_; (case aP => exact k50_mkM _ _ _ (⟨a1_0, a1_1⟩ : S50)); (case aB => exact (hbA_ HB.out)); (case aF => exact (fun k_ hk => fb_ BK230 k_ hk)); (case aO => exact (kR_ HO_5.out)); (case aS => exact (below_size (hbA_ HB.out))); (case aL => have := LMc13.out; omega); intro v236 w15 ho hb hg hat; rw [← Ny235.out] at ho; replace BK230 := (bgA_ BK230 hg (Kd.R_away HO_5.out (fun _ hk => hk))); replace HB := Aside0.mk (hb); have HO237 := Aside0.mk (ho); clear HO_5; clear ho hb hg hat)); try go_wp2_with (first | ((with_reducible refine gate_builtin (b := .append) (xs := #[.tmp 27, .tmp 29]) rfl ?_); at_builtin; refine Kd.R_append k50 (w0 := w) w.heap.size rfl (.tmp 27) (.tmp 29) 27 50 (.agg #[(.int .i64 0), (.int .u8 0)]) 16 rfl Try.underlying27 info50 rfl (by decide) (by omega) u5 x5_1 (⟨a1_0, a1_1⟩ : S50) [.int .i64 a1_0, .int .u8 a1_1] (fun k_ => k_ ≠ gb230) (fun _ => False) rfl rfl ?aP (fun _ hk => hk.elim) ?aF ?aO ?aB ?aS ?aL ?_; (case aP => exact k50_mkM _ _ _ (⟨a1_0, a1_1⟩ : S50)); (case aB => exact (hbA_ HB.out)); (case aF => exact (fun k_ hk => fb_ BK230 k_ hk)); (case aO => exact (kR_ HO_5.out)); (case aS => exact (below_size (hbA_ HB.out))); (case aL => have := LMc13.out; omega); intro v236 w15 ho hb hg hat; rw [← Ny235.out] at ho; replace BK230 := (bgA_ BK230 hg (Kd.R_away HO_5.out (fun _ hk => hk))); replace HB := Aside0.mk (hb); have HO237 := Aside0.mk (ho); clear HO_5; clear ho hb hg hat)))
         go_meet
         case rel => exact ⟨_, (y235), (true), (by first | rfl | (simp; done) | (simp [*]; done)), H', ⟨by have := HK1.out; have := HJ6.out; first | omega | exact Nat.le_refl _⟩, ⟨kR_ HO237.out⟩, ⟨by refine kb_ ?_; exact BK230.out⟩, ⟨hbA_ HB.out⟩⟩
        ·rw [if_neg c13] at H
         exact absurd H (by simp)
       ·replace c12 := Bool.eq_false_iff.mpr c12
        subst c12
        rw [if_neg (show ¬ (false = true) by decide)] at H
        have H' := Aside0.mk H
        clear H
        go_wp2
        repeat (go_quiet (fail); try go_wp2)
        go_meet
        case rel => exact ⟨_, (x5_1), (x6_1), (by first | rfl | (simp; done) | (simp [*]; done)), H', ⟨by have := HK1.out; have := HJ6.out; first | omega | exact Nat.le_refl _⟩, ⟨kR_ HO_5.out⟩, ⟨by refine kb_ ?_; exact BK230.out⟩, ⟨hbA_ HB.out⟩⟩
      case rest =>
       clear HC11; (try clear c1); (try clear c2); (try clear p2); (try clear q2); (try clear hx2); (try clear c6); (try clear c6b0); (try clear c8); (try clear c9); (try clear c9b0); (try clear c12); (try clear c13); (try clear Z10); (try clear Z14); (try clear hx234_0); (try clear hx234_1); (try clear p2); (try clear p234); (try clear q2); (try clear q234)
       obtain ⟨kq, x5_10, x6_10, rfl, HA, HJ10, HO_5, BK230, HB⟩ := hcut
       cases kq with
       | zero => exact absurd HA.out (by simp [spec_l12Put.j2])
       | succ kj10 =>
        have H := HA.out; clear HA
        simp only [spec_l12Put.j2] at H
        by_cases c16 : 0 ≤ x7_1
        ·rw [if_pos c16] at H
         have c16b0 : decide (0 ≤ x7_1) = true := decide_eq_true c16
         clear c16
         by_cases c17 : x7_1 < (l0.length : Int)
         ·rw [if_pos c17] at H
          have c17b0 : decide (x7_1 < (l0.length : Int)) = true := decide_eq_true c17
          clear c17
          by_cases c18 : a1_0 = ((rd_T50 l0 x7_1).f0)
          ·rw [if_pos c18] at H
           have c18b0 : (a1_0 == ((rd_T50 l0 x7_1).f0)) = true := beq_iff_eq.mpr c18
           have c18b1 : (a1_0 != ((rd_T50 l0 x7_1).f0)) = false := bne_eq_false_iff_eq.mpr c18
           clear c18
           by_cases c19 : x5_10.length < 8796093022208
           ·rw [if_pos c19] at H
            have LMc19 := Aside0.mk c19; clear c19
            obtain ⟨y240, hy240⟩ : ∃ y_ : List (S50), y_ = (x5_10 ++ [(⟨(rd_T50 l0 x7_1).f0, (rd_T50 l0 x7_1).f1⟩ : S50)]) := ⟨_, rfl⟩
            (first | replace H := sb_ hy240 H | rw [← hy240] at H)
            have Ny240 := Aside0.mk hy240; clear hy240
            have H' := Aside0.mk H
            clear H; have Z20 := zz2 BK230
            have p238 : 0 ≤ (x7_1 : Int) := of_decide_eq_true (by first | (with_reducible assumption) | assumption)
            have q238 : x7_1 < (l0.length : Int) := of_decide_eq_true (by first | (with_reducible assumption) | assumption)
            obtain ⟨ad238, e238, hx238_0, hx238_1⟩ := at_T50 HR0.out x7_1 p238 q238
            cases e238
            replace hx238_0 := cc_ HB hx238_0
            replace hx238_1 := cc_ HB hx238_1
            replace p238 := eq_true p238
            replace q238 := eq_true q238
            have p239 : 0 ≤ (x7_1 : Int) := of_decide_eq_true (by first | (with_reducible assumption) | assumption)
            have q239 : x7_1 < (l0.length : Int) := of_decide_eq_true (by first | (with_reducible assumption) | assumption)
            obtain ⟨ad239, e239, hx239_0, hx239_1⟩ := at_T50 HR0.out x7_1 p239 q239
            obtain rfl : ad238 = ad239 := (by injection e239)
            replace hx239_0 := cc_ HB hx239_0
            replace hx239_1 := cc_ HB hx239_1
            replace p239 := eq_true p239
            replace q239 := eq_true q239
            go_wp2_with (first | ((with_reducible refine gate_builtin (b := .append) (xs := #[.tmp 39, .tmp 44]) rfl ?_); at_builtin; refine Kd.R_append k50 (w0 := w) w.heap.size rfl (.tmp 39) (.tmp 44) 27 50 (.agg #[(.int .i64 0), (.int .u8 0)]) 16 rfl Try.underlying27 info50 rfl (by decide) (by omega) u5 x5_10 (⟨(rd_T50 l0 x7_1).f0, (rd_T50 l0 x7_1).f1⟩ : S50) [.int .i64 ((rd_T50 l0 x7_1).f0), .int .u8 ((rd_T50 l0 x7_1).f1)] (fun k_ => k_ ≠ gb230) (fun _ => False) rfl rfl ?aP (fun _ hk => hk.elim) ?aF ?aO ?aB ?aS ?aL ?_; (case aP => exact k50_mkM _ _ _ (⟨(rd_T50 l0 x7_1).f0, (rd_T50 l0 x7_1).f1⟩ : S50)); (case aB => exact (hbA_ HB.out)); (case aF => exact (fun k_ hk => fb_ BK230 k_ hk)); (case aO => exact (kR_ HO_5.out)); (case aS => exact (below_size (hbA_ HB.out))); (case aL => have := LMc19.out; omega); intro v241 w21 ho hb hg hat; rw [← Ny240.out] at ho; replace BK230 := (bgA_ BK230 hg (Kd.R_away HO_5.out (fun _ hk => hk))); replace HB := Aside0.mk (hb); have HO242 := Aside0.mk (ho); clear HO_5; clear ho hb hg hat))
            repeat (go_quiet (first | ((with_reducible refine gate_builtin (b := .append) (xs := #[.tmp 39, .tmp 44]) rfl ?_); at_builtin; refine Kd.R_append k50 (w0 := w) w.heap.size rfl (.tmp 39) (.tmp 44) 27 50 (.agg #[(.int .i64 0), (.int .u8 0)]) 16 rfl Try.underlying27 info50 rfl (by decide) (by omega) u5 x5_10 (⟨(rd_T50 l0 x7_1).f0, (rd_T50 l0 x7_1).f1⟩ : S50) [.int .i64 ((rd_T50 l0 x7_1).f0), .int .u8 ((rd_T50 l0 x7_1).f1)] (fun k_ => k_ ≠ gb230) (fun _ => False) rfl rfl ?aP (fun _ hk => hk.elim) ?aF ?aO ?aB ?aS ?aL ?_; (case aP => exact k50_mkM _ _ _ (⟨(rd_T50 l0 x7_1).f0, (rd_T50 l0 x7_1).f1⟩ : S50)); (case aB => exact (hbA_ HB.out)); (case aF => exact (fun k_ hk => fb_ BK230 k_ hk)); (case aO => exact (kR_ HO_5.out)); (case aS => exact (below_size (hbA_ HB.out))); (case aL => have := LMc19.out; omega); intro v241 w21 ho hb hg hat; rw [← Ny240.out] at ho; replace BK230 := (bgA_ BK230 hg (Kd.R_away HO_5.out (fun _ hk => hk))); replace HB := Aside0.mk (hb); have HO242 := Aside0.mk (ho); clear HO_5; clear ho hb hg hat)); try go_wp2_with (first | ((with_reducible refine gate_builtin (b := .append) (xs := #[.tmp 39, .tmp 44]) rfl ?_); at_builtin; refine Kd.R_append k50 (w0 := w) w.heap.size rfl (.tmp 39) (.tmp 44) 27 50 (.agg #[(.int .i64 0), (.int .u8 0)]) 16 rfl Try.underlying27 info50 rfl (by decide) (by omega) u5 x5_10 (⟨(rd_T50 l0 x7_1).f0, (rd_T50 l0 x7_1).f1⟩ : S50) [.int .i64 ((rd_T50 l0 x7_1).f0), .int .u8 ((rd_T50 l0 x7_1).f1)] (fun k_ => k_ ≠ gb230) (fun _ => False) rfl rfl ?aP (fun _ hk => hk.elim) ?aF ?aO ?aB ?aS ?aL ?_; (case aP => exact k50_mkM _ _ _ (⟨(rd_T50 l0 x7_1).f0, (rd_T50 l0 x7_1).f1⟩ : S50)); (case aB => exact (hbA_ HB.out)); (case aF => exact (fun k_ hk => fb_ BK230 k_ hk)); (case aO => exact (kR_ HO_5.out)); (case aS => exact (below_size (hbA_ HB.out))); (case aL => have := LMc19.out; omega); intro v241 w21 ho hb hg hat; rw [← Ny240.out] at ho; replace BK230 := (bgA_ BK230 hg (Kd.R_away HO_5.out (fun _ hk => hk))); replace HB := Aside0.mk (hb); have HO242 := Aside0.mk (ho); clear HO_5; clear ho hb hg hat)))
            go_roundg kj10
            case measure => have := HK1.out; have := HJ6.out; have := HJ10.out; omega
            case rel => exact ⟨(y240), (true), (wrap64 (x7_1 + 1)), (by first | rfl | (simp; done) | (simp [*]; done)), (by first | rfl | (simp; done) | (simp [*]; done)), H', ⟨by have := HK1.out; have := HJ6.out; have := HJ10.out; omega⟩, ⟨kR_ HO242.out⟩, ⟨by refine kb_ ?_; exact BK230.out⟩, ⟨hbA_ HB.out⟩⟩
           ·rw [if_neg c19] at H
            exact absurd H (by simp)
          ·rw [if_neg c18] at H
           have c18b0 : (a1_0 == ((rd_T50 l0 x7_1).f0)) = false := beq_eq_false_iff_ne.mpr c18
           have c18b1 : (a1_0 != ((rd_T50 l0 x7_1).f0)) = true := bne_iff_ne.mpr c18
           by_cases c22 : x5_10.length < 8796093022208
           ·rw [if_pos c22] at H
            have LMc22 := Aside0.mk c22; clear c22
            obtain ⟨y244, hy244⟩ : ∃ y_ : List (S50), y_ = (x5_10 ++ [(⟨(rd_T50 l0 x7_1).f0, (rd_T50 l0 x7_1).f1⟩ : S50)]) := ⟨_, rfl⟩
            (first | replace H := sb_ hy244 H | rw [← hy244] at H)
            have Ny244 := Aside0.mk hy244; clear hy244
            have H' := Aside0.mk H
            clear H; have Z23 := zz2 BK230
            have p238 : 0 ≤ (x7_1 : Int) := of_decide_eq_true (by first | (with_reducible assumption) | assumption)
            have q238 : x7_1 < (l0.length : Int) := of_decide_eq_true (by first | (with_reducible assumption) | assumption)
            obtain ⟨ad238, e238, hx238_0, hx238_1⟩ := at_T50 HR0.out x7_1 p238 q238
            cases e238
            replace hx238_0 := cc_ HB hx238_0
            replace hx238_1 := cc_ HB hx238_1
            replace p238 := eq_true p238
            replace q238 := eq_true q238
            have p243 : 0 ≤ (x7_1 : Int) := of_decide_eq_true (by first | (with_reducible assumption) | assumption)
            have q243 : x7_1 < (l0.length : Int) := of_decide_eq_true (by first | (with_reducible assumption) | assumption)
            obtain ⟨ad243, e243, hx243_0, hx243_1⟩ := at_T50 HR0.out x7_1 p243 q243
            obtain rfl : ad238 = ad243 := (by injection e243)
            replace hx243_0 := cc_ HB hx243_0
            replace hx243_1 := cc_ HB hx243_1
            replace p243 := eq_true p243
            replace q243 := eq_true q243
            go_wp2_with (first | ((with_reducible refine gate_builtin (b := .append) (xs := #[.tmp 39, .tmp 44]) rfl ?_); at_builtin; refine Kd.R_append k50 (w0 := w) w.heap.size rfl (.tmp 39) (.tmp 44) 27 50 (.agg #[(.int .i64 0), (.int .u8 0)]) 16 rfl Try.underlying27 info50 rfl (by decide) (by omega) u5 x5_10 (⟨(rd_T50 l0 x7_1).f0, (rd_T50 l0 x7_1).f1⟩ : S50) [.int .i64 ((rd_T50 l0 x7_1).f0), .int .u8 ((rd_T50 l0 x7_1).f1)] (fun k_ => k_ ≠ gb230) (fun _ => False) rfl rfl ?aP (fun _ hk => hk.elim) ?aF ?aO ?aB ?aS ?aL ?_; (case aP => exact k50_mkM _ _ _ (⟨(rd_T50 l0 x7_1).f0, (rd_T50 l0 x7_1).f1⟩ : S50)); (case aB => exact (hbA_ HB.out)); (case aF => exact (fun k_ hk => fb_ BK230 k_ hk)); (case aO => exact (kR_ HO_5.out)); (case aS => exact (below_size (hbA_ HB.out))); (case aL => have := LMc22.out; omega); intro v245 w24 ho hb hg hat; rw [← Ny244.out] at ho; replace BK230 := (bgA_ BK230 hg (Kd.R_away HO_5.out (fun _ hk => hk))); replace HB := Aside0.mk (hb); have HO246 := Aside0.mk (ho); clear HO_5; clear ho hb hg hat))
            repeat (go_quiet (first | ((with_reducible refine gate_builtin (b := .append) (xs := #[.tmp 39, .tmp 44]) rfl ?_); at_builtin; refine Kd.R_append k50 (w0 := w) w.heap.size rfl (.tmp 39) (.tmp 44) 27 50 (.agg #[(.int .i64 0), (.int .u8 0)]) 16 rfl Try.underlying27 info50 rfl (by decide) (by omega) u5 x5_10 (⟨(rd_T50 l0 x7_1).f0, (rd_T50 l0 x7_1).f1⟩ : S50) [.int .i64 ((rd_T50 l0 x7_1).f0), .int .u8 ((rd_T50 l0 x7_1).f1)] (fun k_ => k_ ≠ gb230) (fun _ => False) rfl rfl ?aP (fun _ hk => hk.elim) ?aF ?aO ?aB ?aS ?aL ?_; (case aP => exact k50_mkM _ _ _ (⟨(rd_T50 l0 x7_1).f0, (rd_T50 l0 x7_1).f1⟩ : S50)); (case aB => exact (hbA_ HB.out)); (case aF => exact (fun k_ hk => fb_ BK230 k_ hk)); (case aO => exact (kR_ HO_5.out)); (case aS => exact (below_size (hbA_ HB.out))); (case aL => have := LMc22.out; omega); intro v245 w24 ho hb hg hat; rw [← Ny244.out] at ho; replace BK230 := (bgA_ BK230 hg (Kd.R_away HO_5.out (fun _ hk => hk))); replace HB := Aside0.mk (hb); have HO246 := Aside0.mk (ho); clear HO_5; clear ho hb hg hat)); try go_wp2_with (first | ((with_reducible refine gate_builtin (b := .append) (xs := #[.tmp 39, .tmp 44]) rfl ?_); at_builtin; refine Kd.R_append k50 (w0 := w) w.heap.size rfl (.tmp 39) (.tmp 44) 27 50 (.agg #[(.int .i64 0), (.int .u8 0)]) 16 rfl Try.underlying27 info50 rfl (by decide) (by omega) u5 x5_10 (⟨(rd_T50 l0 x7_1).f0, (rd_T50 l0 x7_1).f1⟩ : S50) [.int .i64 ((rd_T50 l0 x7_1).f0), .int .u8 ((rd_T50 l0 x7_1).f1)] (fun k_ => k_ ≠ gb230) (fun _ => False) rfl rfl ?aP (fun _ hk => hk.elim) ?aF ?aO ?aB ?aS ?aL ?_; (case aP => exact k50_mkM _ _ _ (⟨(rd_T50 l0 x7_1).f0, (rd_T50 l0 x7_1).f1⟩ : S50)); (case aB => exact (hbA_ HB.out)); (case aF => exact (fun k_ hk => fb_ BK230 k_ hk)); (case aO => exact (kR_ HO_5.out)); (case aS => exact (below_size (hbA_ HB.out))); (case aL => have := LMc22.out; omega); intro v245 w24 ho hb hg hat; rw [← Ny244.out] at ho; replace BK230 := (bgA_ BK230 hg (Kd.R_away HO_5.out (fun _ hk => hk))); replace HB := Aside0.mk (hb); have HO246 := Aside0.mk (ho); clear HO_5; clear ho hb hg hat)))
            go_roundg kj10
            case measure => have := HK1.out; have := HJ6.out; have := HJ10.out; omega
            case rel => exact ⟨(y244), (x6_10), (wrap64 (x7_1 + 1)), (by first | rfl | (simp; done) | (simp [*]; done)), (by first | rfl | (simp; done) | (simp [*]; done)), H', ⟨by have := HK1.out; have := HJ6.out; have := HJ10.out; omega⟩, ⟨kR_ HO246.out⟩, ⟨by refine kb_ ?_; exact BK230.out⟩, ⟨hbA_ HB.out⟩⟩
           ·rw [if_neg c22] at H
            exact absurd H (by simp)
         ·rw [if_neg c17] at H
          exact absurd H (by simp)
        ·rw [if_neg c16] at H
         exact absurd H (by simp)
   ·rw [if_neg c6] at H
    have c6b0 : decide (x7_1 < (l0.length : Int)) = false := decide_eq_false c6
    clear c6
    by_cases c25 : x6_1 = true
    ·subst c25
     rw [if_pos rfl] at H
     obtain rfl := Option.some.inj H
     go_wp2
     repeat (go_quiet (fail); try go_wp2)
     go_ret
     exact ⟨_, by first | rfl | (simp [errW_none, errW_some] <;> rfl) | (simp [*, errW_none, errW_some] <;> rfl), by refine kR_ ?_; exact Kd.R_mono HO_5.out (fun _ hk => trivial), hbA_ HB.out⟩
    ·replace c25 := Bool.eq_false_iff.mpr c25
     subst c25
     rw [if_neg (show ¬ (false = true) by decide)] at H
     by_cases c26 : x5_1.length < 8796093022208
     ·rw [if_pos c26] at H
      have LMc26 := Aside0.mk c26; clear c26
      obtain ⟨y247, hy247⟩ : ∃ y_ : List (S50), y_ = (x5_1 ++ [(⟨a1_0, a1_1⟩ : S50)]) := ⟨_, rfl⟩
      (first | replace H := sb_ hy247 H | rw [← hy247] at H)
      have Ny247 := Aside0.mk hy247; clear hy247
      obtain rfl := Option.some.inj H
      have Z27 := zz2 BK230
      go_wp2_with (first | ((with_reducible refine gate_builtin (b := .append) (xs := #[.tmp 48, .tmp 50]) rfl ?_); at_builtin; refine Kd.R_append k50 (w0 := w) w.heap.size rfl (.tmp 48) (.tmp 50) 27 50 (.agg #[(.int .i64 0), (.int .u8 0)]) 16 rfl Try.underlying27 info50 rfl (by decide) (by omega) u5 x5_1 (⟨a1_0, a1_1⟩ : S50) [.int .i64 a1_0, .int .u8 a1_1] (fun k_ => k_ ≠ gb230) (fun _ => False) rfl rfl ?aP (fun _ hk => hk.elim) ?aF ?aO ?aB ?aS ?aL ?_; (case aP => exact k50_mkM _ _ _ (⟨a1_0, a1_1⟩ : S50)); (case aB => exact (hbA_ HB.out)); (case aF => exact (fun k_ hk => fb_ BK230 k_ hk)); (case aO => exact (kR_ HO_5.out)); (case aS => exact (below_size (hbA_ HB.out))); (case aL => have := LMc26.out; omega); intro v248 w28 ho hb hg hat; rw [← Ny247.out] at ho; replace BK230 := (bgA_ BK230 hg (Kd.R_away HO_5.out (fun _ hk => hk))); replace HB := Aside0.mk (hb); have HO249 := Aside0.mk (ho); clear HO_5; clear ho hb hg hat))
      repeat (go_quiet (first | ((with_reducible refine gate_builtin (b := .append) (xs := #[.tmp 48, .tmp 50]) rfl ?_); at_builtin; refine Kd.R_append k50 (w0 := w) w.heap.size rfl (.tmp 48) (.tmp 50) 27 50 (.agg #[(.int .i64 0), (.int .u8 0)]) 16 rfl Try.underlying27 info50 rfl (by decide) (by omega) u5 x5_1 (⟨a1_0, a1_1⟩ : S50) [.int .i64 a1_0, .int .u8 a1_1] (fun k_ => k_ ≠ gb230) (fun _ => False) rfl rfl ?aP (fun _ hk => hk.elim) ?aF ?aO ?aB ?aS ?aL ?_; (case aP => exact k50_mkM _ _ _ (⟨a1_0, a1_1⟩ : S50)); (case aB => exact (hbA_ HB.out)); (case aF => exact (fun k_ hk => fb_ BK230 k_ hk)); (case aO => exact (kR_ HO_5.out)); (case aS => exact (below_size (hbA_ HB.out))); (case aL => have := LMc26.out; omega); intro v248 w28 ho hb hg hat; rw [← Ny247.out] at ho; replace BK230 := (bgA_ BK230 hg (Kd.R_away HO_5.out (fun _ hk => hk))); replace HB := Aside0.mk (hb); have HO249 := Aside0.mk (ho); clear HO_5; clear ho hb hg hat)); try go_wp2_with (first | ((with_reducible refine gate_builtin (b := .append) (xs := #[.tmp 48, .tmp 50]) rfl ?_); at_builtin; refine Kd.R_append k50 (w0 := w) w.heap.size rfl (.tmp 48) (.tmp 50) 27 50 (.agg #[(.int .i64 0), (.int .u8 0)]) 16 rfl Try.underlying27 info50 rfl (by decide) (by omega) u5 x5_1 (⟨a1_0, a1_1⟩ : S50) [.int .i64 a1_0, .int .u8 a1_1] (fun k_ => k_ ≠ gb230) (fun _ => False) rfl rfl ?aP (fun _ hk => hk.elim) ?aF ?aO ?aB ?aS ?aL ?_; (case aP => exact k50_mkM _ _ _ (⟨a1_0, a1_1⟩ : S50)); (case aB => exact (hbA_ HB.out)); (case aF => exact (fun k_ hk => fb_ BK230 k_ hk)); (case aO => exact (kR_ HO_5.out)); (case aS => exact (below_size (hbA_ HB.out))); (case aL => have := LMc26.out; omega); intro v248 w28 ho hb hg hat; rw [← Ny247.out] at ho; replace BK230 := (bgA_ BK230 hg (Kd.R_away HO_5.out (fun _ hk => hk))); replace HB := Aside0.mk (hb); have HO249 := Aside0.mk (ho); clear HO_5; clear ho hb hg hat)))
      go_ret
      exact ⟨_, by first | rfl | (simp [errW_none, errW_some] <;> rfl) | (simp [*, errW_none, errW_some] <;> rfl), by refine kR_ ?_; exact Kd.R_mono HO249.out (fun _ hk => trivial), hbA_ HB.out⟩
     ·rw [if_neg c26] at H
      exact absurd H (by simp)
mutual
def spec_EarHear.j0 : Nat → Int → List Int → Bool → Int → Int → List Int → List (S50) → Option (Int × Int × List Int × (List (S50)))
 | 0, _, _, _, _, _, _, _ => none
 | k + 1, x1, x2, x19, x251000, x251001, x251002, x251003 => if x19 = true then (some (0, 0, ([] : List Int), ([] : List (S50)))) else ((spec_EarFree.f k x251000 x251001 x251002 x251003).bind fun t254 => ((some (([] : List (S50)) : List (S50))).bind fun y255 => (if y255.length + x251003.length < 8796093022208 then (spec_EarHear.l0 k x1 x2 t254 (y255 ++ x251003) 0 x251000 x251001 x251002 x251003) else (none))))
def spec_EarHear.l0 : Nat → Int → List Int → Int → List (S50) → Int → Int → Int → List Int → List (S50) → Option (Int × Int × List Int × (List (S50)))
 | 0, _, _, _, _, _, _, _, _, _ => none
 | k + 1, x1, x2, x7, x8, x9, x251000, x251001, x251002, x251003 => if x9 < (x2.length : Int) then (if (wrap64 (x1 + x9)) ≥ x251000 then (if (wrap64 (x1 + x9)) < (wrap64 (x251000 + x7)) then (if 0 ≤ x9 then ((spec_l12Put.f k x8 (wrap64 (x1 + x9)) (rd x2 x9)).bind fun t262 => (spec_EarHear.l0 k x1 x2 x7 t262 (wrap64 (x9 + 1)) x251000 x251001 x251002 x251003)) else (none)) else (spec_EarHear.l0 k x1 x2 x7 x8 (wrap64 (x9 + 1)) x251000 x251001 x251002 x251003)) else (spec_EarHear.l0 k x1 x2 x7 x8 (wrap64 (x9 + 1)) x251000 x251001 x251002 x251003)) else ((some (([] : List Int) : List Int)).bind fun y265 => (if y265.length + x251002.length < 140737488355328 then (spec_EarHear.l1 k x8 0 x251000 x251001 (y265 ++ x251002)) else (none)))
def spec_EarHear.j3 : Nat → List (S50) → Int → Int → Int → List Int → Option (Int × Int × List Int × (List (S50)))
 | 0, _, _, _, _, _ => none
 | k + 1, x8, x11, x272000, x272001, x272002 => if 0 ≤ x11 then (if x11 ≤ (x8.length : Int) then (if x272000 > 1000000 then (some (0, 0, ([] : List Int), ([] : List (S50)))) else (some (x272000, x272001, x272002, (x8.drop (x11 : Int).toNat)))) else (none)) else (none)
def spec_EarHear.l1 : Nat → List (S50) → Int → Int → Int → List Int → Option (Int × Int × List Int × (List (S50)))
 | 0, _, _, _, _, _ => none
 | k + 1, x8, x11, x272000, x272001, x272002 => if x11 < (x8.length : Int) then (if 0 ≤ x11 then (if ((rd_T50 x8 x11).f0) = x272000 then (if x272002.length < 140737488355328 then (spec_EarHear.l1 k x8 (wrap64 (x11 + 1)) (wrap64 (x272000 + 1)) x272001 (x272002 ++ [(rd_T50 x8 x11).f1])) else (none)) else (spec_EarHear.j3 k x8 x11 x272000 x272001 x272002)) else (none)) else (spec_EarHear.j3 k x8 x11 x272000 x272001 x272002)
end
def spec_EarHear.f (k : Nat) (a0_0 : Int) (a0_1 : Int) (l0_2 : List Int) (l0_3 : List (S50)) (a1 : Int) (l2 : List Int) : Option (Int × Int × List Int × (List (S50))) := (spec_EarOk.f k a0_0 a0_1 l0_2 l0_3).bind fun t252 => (if t252 = true then ((spec_l1In.f a1 0 1000000).bind fun t253 => (spec_EarHear.j0 k a1 l2 (!t253) a0_0 a0_1 l0_2 l0_3)) else (spec_EarHear.j0 k a1 l2 true a0_0 a0_1 l0_2 l0_3))
theorem spec_EarHear.mono_l : ∀ k, (∀ y0 y1 y2 y3 y4 y5 y6, LeO (spec_EarHear.j0 k y0 y1 y2 y3 y4 y5 y6) (spec_EarHear.j0 (k + 1) y0 y1 y2 y3 y4 y5 y6)) ∧ (∀ y0 y1 y2 y3 y4 y5 y6 y7 y8, LeO (spec_EarHear.l0 k y0 y1 y2 y3 y4 y5 y6 y7 y8) (spec_EarHear.l0 (k + 1) y0 y1 y2 y3 y4 y5 y6 y7 y8)) ∧ (∀ y0 y1 y2 y3 y4, LeO (spec_EarHear.j3 k y0 y1 y2 y3 y4) (spec_EarHear.j3 (k + 1) y0 y1 y2 y3 y4)) ∧ (∀ y0 y1 y2 y3 y4, LeO (spec_EarHear.l1 k y0 y1 y2 y3 y4) (spec_EarHear.l1 (k + 1) y0 y1 y2 y3 y4))
 | 0 => ⟨fun _ _ _ _ _ _ _ r h => by simp [spec_EarHear.j0] at h, fun _ _ _ _ _ _ _ _ _ r h => by simp [spec_EarHear.l0] at h, fun _ _ _ _ _ r h => by simp [spec_EarHear.j3] at h, fun _ _ _ _ _ r h => by simp [spec_EarHear.l1] at h⟩
 | k + 1 => by
  obtain ⟨ih0, ih1, ih2, ih3⟩ := spec_EarHear.mono_l k
  refine ⟨?_, ?_, ?_, ?_⟩
  ·intro y0 y1 y2 y3 y4 y5 y6
   unfold spec_EarHear.j0
   repeat' first | (with_reducible first | apply ih0 | apply ih1 | apply ih2 | apply ih3 | apply spec_EarFree.mono | apply spec_EarOk.mono | apply spec_l12Put.mono | exact LeO.refl _ | exact LeO.none _ | refine LeO.ite ?_ ?_ | refine LeO.bind ?_ fun _ => ?_) | apply ih0 | apply ih1 | apply ih2 | apply ih3 | apply spec_EarFree.mono | apply spec_EarOk.mono | apply spec_l12Put.mono | exact LeO.none _ | refine LeO.ite ?_ ?_ | refine LeO.bind ?_ fun _ => ?_
  ·intro y0 y1 y2 y3 y4 y5 y6 y7 y8
   unfold spec_EarHear.l0
   repeat' first | (with_reducible first | apply ih0 | apply ih1 | apply ih2 | apply ih3 | apply spec_EarFree.mono | apply spec_EarOk.mono | apply spec_l12Put.mono | exact LeO.refl _ | exact LeO.none _ | refine LeO.ite ?_ ?_ | refine LeO.bind ?_ fun _ => ?_) | apply ih0 | apply ih1 | apply ih2 | apply ih3 | apply spec_EarFree.mono | apply spec_EarOk.mono | apply spec_l12Put.mono | exact LeO.none _ | refine LeO.ite ?_ ?_ | refine LeO.bind ?_ fun _ => ?_
  ·intro y0 y1 y2 y3 y4
   unfold spec_EarHear.j3
   repeat' first | (with_reducible first | apply ih0 | apply ih1 | apply ih2 | apply ih3 | apply spec_EarFree.mono | apply spec_EarOk.mono | apply spec_l12Put.mono | exact LeO.refl _ | exact LeO.none _ | refine LeO.ite ?_ ?_ | refine LeO.bind ?_ fun _ => ?_) | apply ih0 | apply ih1 | apply ih2 | apply ih3 | apply spec_EarFree.mono | apply spec_EarOk.mono | apply spec_l12Put.mono | exact LeO.none _ | refine LeO.ite ?_ ?_ | refine LeO.bind ?_ fun _ => ?_
  ·intro y0 y1 y2 y3 y4
   unfold spec_EarHear.l1
   repeat' first | (with_reducible first | apply ih0 | apply ih1 | apply ih2 | apply ih3 | apply spec_EarFree.mono | apply spec_EarOk.mono | apply spec_l12Put.mono | exact LeO.refl _ | exact LeO.none _ | refine LeO.ite ?_ ?_ | refine LeO.bind ?_ fun _ => ?_) | apply ih0 | apply ih1 | apply ih2 | apply ih3 | apply spec_EarFree.mono | apply spec_EarOk.mono | apply spec_l12Put.mono | exact LeO.none _ | refine LeO.ite ?_ ?_ | refine LeO.bind ?_ fun _ => ?_
theorem spec_EarHear.mono : ∀ a0 a1 a2 a3 a4 a5 k, LeO (spec_EarHear.f k a0 a1 a2 a3 a4 a5) (spec_EarHear.f (k + 1) a0 a1 a2 a3 a4 a5) := by
 intro a0 a1 a2 a3 a4 a5 k
 obtain ⟨ih0, ih1, ih2, ih3⟩ := spec_EarHear.mono_l k
 unfold spec_EarHear.f
 repeat' first | (with_reducible first | apply ih0 | apply ih1 | apply ih2 | apply ih3 | apply spec_EarFree.mono | apply spec_EarOk.mono | apply spec_l12Put.mono | exact LeO.refl _ | exact LeO.none _ | refine LeO.ite ?_ ?_ | refine LeO.bind ?_ fun _ => ?_) | apply ih0 | apply ih1 | apply ih2 | apply ih3 | apply spec_EarFree.mono | apply spec_EarOk.mono | apply spec_l12Put.mono | exact LeO.none _ | refine LeO.ite ?_ ?_ | refine LeO.bind ?_ fun _ => ?_
def spec_EarHear.T10 : Bool × List (List Nat × List Nat) := (true, [([], []), ([0], [0]), ([], []), ([2], [2]), ([], []), ([], []), ([5], [5]), ([4, 6], [4, 6]), ([1, 3, 7], [1, 3, 7]), ([], []), ([9, 8, 7, 0, 1, 2, 3, 4, 5, 6, 7, 8, 9], [8, 9])])
def spec_EarHear.B10 : List Nat := [0, 1, 0, 4, 0, 0, 32, 112, 255, 0, 1023]
theorem spec_EarHear.tab10 : rtab .any (opsOf Try.f8 10) = spec_EarHear.T10 := by kernel_rfl
theorem spec_EarHear.bits10 : waitsOk spec_EarHear.T10.2 spec_EarHear.B10 = true := by kernel_rfl
def spec_EarHear.T12 : Bool × List (List Nat × List Nat) := (true, [([], []), ([], []), ([1], [1]), ([0, 2], [0, 2]), ([3], [3]), ([4], [4]), ([4], [4]), ([5, 6, 4], [4, 5, 6]), ([7, 4], [4, 7]), ([8, 4], [4, 8]), ([4], [4]), ([10, 4], [4, 10]), ([9, 11, 4], [4, 9, 11]), ([4, 12], [4, 12])])
def spec_EarHear.B12 : List Nat := [0, 0, 2, 7, 15, 31, 31, 127, 255, 511, 31, 1055, 4095, 8191]
theorem spec_EarHear.tab12 : rtab .any (opsOf Try.f8 12) = spec_EarHear.T12 := by kernel_rfl
theorem spec_EarHear.bits12 : waitsOk spec_EarHear.T12.2 spec_EarHear.B12 = true := by kernel_rfl
def spec_EarHear.T13 : Bool × List (List Nat × List Nat) := (true, [([], []), ([0], [0]), ([], []), ([], []), ([2, 3], [2, 3]), ([4], [4]), ([5], [5]), ([6], [6]), ([1, 7], [1, 7]), ([0, 1, 2, 3, 4, 5, 6, 7, 8], []), ([9, 8, 8, 0, 1, 2, 3, 4, 5, 6, 7, 8], [8, 9])])
def spec_EarHear.B13 : List Nat := [0, 1, 0, 0, 12, 28, 60, 124, 255, 511, 1023]
theorem spec_EarHear.tab13 : rtab .any (opsOf Try.f8 13) = spec_EarHear.T13 := by kernel_rfl
theorem spec_EarHear.bits13 : waitsOk spec_EarHear.T13.2 spec_EarHear.B13 = true := by kernel_rfl
set_option maxHeartbeats 8000000 in
set_option maxRecDepth 100000 in
theorem spec_EarHear.calls (k : Nat) (a0_0 : Int) (a0_1 : Int) (A0_2 : Option Addr) (c0_2 : Nat) (l0_2 : List Int) (A0_3 : Option Addr) (c0_3 : Nat) (l0_3 : List (S50)) (a1 : Int) (A2 : Option Addr) (c2 : Nat) (l2 : List Int) (r1 : Int) (r2 : Int) (r3 : List Int) (r4 : List (S50)) (w : World) (hr0_2 : Kd.C (Kd.int .u8) w A0_2 l0_2.length l0_2) (hc0_2 : l0_2.length ≤ c0_2) (hr0_3 : Kd.C k50 w A0_3 l0_3.length l0_3) (hc0_3 : l0_3.length ≤ c0_3) (hr2 : Kd.C (Kd.int .u8) w A2 l2.length l2) (hc2 : l2.length ≤ c2) (h : spec_EarHear.f k a0_0 a0_1 l0_2 l0_3 a1 l2 = some (r1, r2, r3, r4)) :
  Calls Try.prog 8 #[.agg #[.int .i64 a0_0, .int .i64 a0_1, .slice A0_2 l0_2.length c0_2, .slice A0_3 l0_3.length c0_3], .int .i64 a1, .slice A2 l2.length c2] w fun e w' => ∃ v2_ v3_ : Value, e = .returned (.agg #[.int .i64 r1, .int .i64 r2, v2_, v3_]) ∧ Kd.R (Kd.int .u8) 5 w' w.heap.size (fun _ => True) v2_ r3 ∧ Kd.Q k50 50 w' w.heap.size (fun _ => True) v3_ r4 ∧ Below w.heap.size w w' := by
 have hu29 := Try.underlying29; have hu50 := Try.underlying50; have HR0_2 := Aside0.mk hr0_2; have HC0_2 := Aside0.mk hc0_2; clear hr0_2 hc0_2; have HR0_3 := Aside0.mk hr0_3; have HC0_3 := Aside0.mk hc0_3; clear hr0_3 hc0_3; have HR2 := Aside0.mk hr2; have HC2 := Aside0.mk hc2; clear hr2 hc2
 have HB := Aside0.mk (Below.refl w.heap.size w)
 have H : ((spec_EarOk.f k a0_0 a0_1 l0_2 l0_3).bind fun t252 => (if t252 = true then ((spec_l1In.f a1 0 1000000).bind fun t253 => (spec_EarHear.j0 k a1 l2 (!t253) a0_0 a0_1 l0_2 l0_3)) else (spec_EarHear.j0 k a1 l2 true a0_0 a0_1 l0_2 l0_3))) = some (r1, r2, r3, r4) := h
 clear h; have HC4 := Aside0.mk H; clear H
 go_enter Try.func8, Try.ntmps8
 go_upto_region 1 with (first | ((with_reducible refine gate_dst (N := 3) rfl ?_); refine box_ (N := 3) (cs := #[.int .i64 a0_0, .int .i64 a0_1, .slice A0_2 l0_2.length c0_2, .slice A0_3 l0_3.length c0_3]) (t := 29) (fun gb250 hg w5 hbox hb => ?_); have BK250 := Aside0.mk (hbox); have GW250 := ge_ hg HB; have GE250 := ge_ hg HB; replace HB := (bs_ HB hb); clear hb hbox hg) | ((with_reducible refine gate_dst (N := 6) rfl ?_); refine box_ (N := 6) (cs := #[.int .i64 0, .int .i64 0, .slice none 0 0, .slice none 0 0]) (t := 29) (fun gb251 hg w6 hbox hb => ?_); have BK251 := Aside0.mk (hbox); have GW251 := ge_ hg HB; have GE251 := ge_ hg HB; replace HB := (bs_ HB hb); have NB250_251 := nl_ hg BK250; have NB251_250 := ng_ hg BK250; replace BK250 := (bbA_ BK250 hb); clear hb hbox hg))
 (try simp only [Act.put, List.setIfInBounds_toArray, List.set_cons_zero, List.set_cons_succ])
 go_cut [19] (fun v19 wc => ∃ (kq : Nat) (x19_3 : Bool), v19 = .bool x19_3 ∧ Aside0 (spec_EarHear.j0 kq a1 l2 x19_3 a0_0 a0_1 l0_2 l0_3 = some (r1, r2, r3, r4)) ∧ Aside0 (kq ≤ k) ∧ Aside0 (wc.heap[gb250]? = some (.cells #[.int .i64 a0_0, .int .i64 a0_1, (.slice A0_2 l0_2.length c0_2), (.slice A0_3 l0_3.length c0_3)] 29 (0, 0))) ∧ Aside0 (wc.heap[gb251]? = some (.cells #[.int .i64 0, .int .i64 0, (.slice none 0 0), (.slice none 0 0)] 29 (0, 0))) ∧ Aside0 (Below w.heap.size w wc))
 case first =>
  have H := HC4.out; clear HC4
  replace H := Option.bind_eq_some_iff.mp H
  obtain ⟨t252, A70, H⟩ := H
  (try dsimp only at H)
  have A7 := Aside0.mk A70; clear A70
  by_cases c8 : t252 = true
  ·subst c8
   rw [if_pos rfl] at H
   replace H := Option.bind_eq_some_iff.mp H
   obtain ⟨t253, A90, H⟩ := H
   (try dsimp only at H)
   have A9 := Aside0.mk A90; clear A90
   have H' := Aside0.mk H
   clear H; have hnb10 := NB250_251.out; have hnc10 := NB251_250.out; have Z11 := zz4 BK250
   go_wp2_with (first | ((with_reducible refine gate_callee (f := 20) rfl ?_); refine goesL_ (some 13) rfl rfl Try.func20 (by kernel_rfl) rfl #[.agg #[.int .i64 a0_0, .int .i64 a0_1, .slice A0_2 l0_2.length c0_2, .slice A0_3 l0_3.length c0_3]] rfl ar_ ?_; (with_reducible refine (spec_EarOk.calls k a0_0 a0_1 _ _ l0_2 _ _ l0_3 true _ ?side1 ?side2 ?side3 ?side4 A7.out).mono ?_); (case side1 => exact kC_ (Kd.C_below HR0_2.out HB.out)); (case side2 => exact HC0_2.out); (case side3 => exact kC_ (Kd.C_below HR0_3.out HB.out)); (case side4 => exact HC0_3.out); rintro e w12 ⟨rfl, hb⟩; refine ⟨_, rfl, ?_⟩; replace BK250 := (bbA_ BK250 hb); replace BK251 := (bbA_ BK251 hb); replace HB := (bs_ HB hb); (try clear hb); (try clear hb2); (try clear hk); (try clear hi)) | (go_at_call 21; (with_reducible refine (spec_l1In.calls a1 0 1000000 t253 _ A9.out).mono ?_); rintro e w' ⟨rfl, ⟨nd, rfl⟩⟩))
   go_meet
   case rel => exact ⟨_, (!t253), (by first | rfl | (simp; done) | (simp [*]; done)), H', ⟨by first | omega | exact Nat.le_refl _⟩, ⟨by refine kb_ ?_; exact BK250.out⟩, ⟨by refine kb_ ?_; exact BK251.out⟩, ⟨hbA_ HB.out⟩⟩
  ·replace c8 := Bool.eq_false_iff.mpr c8
   subst c8
   rw [if_neg (show ¬ (false = true) by decide)] at H
   have H' := Aside0.mk H
   clear H; have hnb13 := NB250_251.out; have hnc13 := NB251_250.out; have Z14 := zz4 BK250
   go_wp2_with (first | ((with_reducible refine gate_callee (f := 20) rfl ?_); refine goesL_ (some 13) rfl rfl Try.func20 (by kernel_rfl) rfl #[.agg #[.int .i64 a0_0, .int .i64 a0_1, .slice A0_2 l0_2.length c0_2, .slice A0_3 l0_3.length c0_3]] rfl ar_ ?_; (with_reducible refine (spec_EarOk.calls k a0_0 a0_1 _ _ l0_2 _ _ l0_3 false _ ?side1 ?side2 ?side3 ?side4 A7.out).mono ?_); (case side1 => exact kC_ (Kd.C_below HR0_2.out HB.out)); (case side2 => exact HC0_2.out); (case side3 => exact kC_ (Kd.C_below HR0_3.out HB.out)); (case side4 => exact HC0_3.out); rintro e w15 ⟨rfl, hb⟩; refine ⟨_, rfl, ?_⟩; replace BK250 := (bbA_ BK250 hb); replace BK251 := (bbA_ BK251 hb); replace HB := (bs_ HB hb); (try clear hb); (try clear hb2); (try clear hk); (try clear hi)))
   go_meet
   case rel => exact ⟨_, (true), (by first | rfl | (simp; done) | (simp [*]; done)), H', ⟨by first | omega | exact Nat.le_refl _⟩, ⟨by refine kb_ ?_; exact BK250.out⟩, ⟨by refine kb_ ?_; exact BK251.out⟩, ⟨hbA_ HB.out⟩⟩
 case rest =>
  clear HC4; (try clear c1); (try clear c2); (try clear p2); (try clear c8); (try clear c10); (try clear c13); (try clear Z11); (try clear Z14)
  obtain ⟨kq, x19_3, rfl, HA, HJ3, BK250, BK251, HB⟩ := hcut
  cases kq with
  | zero => exact absurd HA.out (by simp [spec_EarHear.j0])
  | succ kj3 =>
   have H := HA.out; clear HA
   simp only [spec_EarHear.j0] at H
   by_cases c16 : x19_3 = true
   ·subst c16
    rw [if_pos rfl] at H
    simp only [Option.some.injEq, Prod.mk.injEq] at H
    obtain ⟨rfl, rfl, rfl, rfl⟩ := H
    have hnb17 := NB251_250.out; have hnc17 := NB250_251.out; have Z18 := zz4 BK251
    go_wp2
    refine bodyPost_ret (results_cell_row rfl _ _ gb251 29 #[.int .i64 0, .int .i64 0, .slice none 0 0, .slice none 0 0] (0, 0) _ rfl (by refine kb_ ?_; refine pz4 (cs := #[.int .i64 0, .int .i64 0, .slice none 0 0, .slice none 0 0]) ?_; refine kb_ ?_; exact BK251.out) Try.underlying29 rfl (by kernel_rfl)) rfl ?_
    exact ⟨_, _, by first | rfl | (simp [errW_none, errW_some] <;> rfl) | (simp [*, errW_none, errW_some] <;> rfl), by first | exact Kd.R_nil _ _ _ _ _ | exact Kd.N_nil _ _ _ _ _ | exact Kd.V_nil _ _ _ _ _ | exact Kd.Q_nil _ _ _ _ _ | exact Kd.S_nil _ _ _ _ _, Kd.Q_of_R (by first | exact Kd.R_nil _ _ _ _ _ | exact Kd.N_nil _ _ _ _ _ | exact Kd.V_nil _ _ _ _ _ | exact Kd.Q_nil _ _ _ _ _ | exact Kd.S_nil _ _ _ _ _), hbA_ HB.out⟩
   ·replace c16 := Bool.eq_false_iff.mpr c16
    subst c16
    rw [if_neg (show ¬ (false = true) by decide)] at H
    replace H := Option.bind_eq_some_iff.mp H
    obtain ⟨t254, A190, H⟩ := H
    (try dsimp only at H)
    have A19 := Aside0.mk A190; clear A190
    obtain ⟨y255, hy255⟩ : ∃ y_ : List (S50), y_ = (([] : List (S50))) := ⟨_, rfl⟩
    (first | replace H := sb_ hy255 H | rw [← hy255] at H)
    have Ny255 := Aside0.mk hy255; clear hy255
    by_cases c20 : y255.length + l0_3.length < 8796093022208
    ·rw [if_pos c20] at H
     have LMc20 := Aside0.mk c20; clear c20
     obtain ⟨y258, hy258⟩ : ∃ y_ : List (S50), y_ = (y255 ++ l0_3) := ⟨_, rfl⟩
     (first | replace H := sb_ hy258 H | rw [← hy258] at H)
     have Ny258 := Aside0.mk hy258; clear hy258
     have H' := Aside0.mk H
     clear H; have hnb21 := NB250_251.out; have hnc21 := NB251_250.out; have Z22 := zz4 BK250
     go_wp2_with (first | ((with_reducible refine gate_callee (f := 22) rfl ?_); refine goesL_ (some 22) rfl rfl Try.func22 (by kernel_rfl) rfl #[.agg #[.int .i64 a0_0, .int .i64 a0_1, .slice A0_2 l0_2.length c0_2, .slice A0_3 l0_3.length c0_3]] rfl ar_ ?_; (with_reducible refine (spec_EarFree.calls kj3 a0_0 a0_1 _ _ l0_2 _ _ l0_3 t254 _ ?side1 ?side2 ?side3 ?side4 A19.out).mono ?_); (case side1 => exact kC_ (Kd.C_below HR0_2.out HB.out)); (case side2 => exact HC0_2.out); (case side3 => exact kC_ (Kd.C_below HR0_3.out HB.out)); (case side4 => exact HC0_3.out); rintro e w23 ⟨rfl, hb⟩; refine ⟨_, rfl, ?_⟩; replace BK250 := (bbA_ BK250 hb); replace BK251 := (bbA_ BK251 hb); replace HB := (bs_ HB hb); (try clear hb); (try clear hb2); (try clear hk); (try clear hi)) | ((with_reducible refine gate_dst (N := 23) rfl ?_); refine Kd.R_lit k50 _ 50 ?hg (N := 23) ?hd (xs := ([] : List (S50))) (inner := []) (ok := fun _ => True) (okp := fun _ => True) ?hr ?hp (fun _ hk => hk) trivial (Below.refl _ _) (Nat.le_refl _) (by simp) ?_; (case hd => rfl); (case hg => rfl); (case hr => first | (go_simp; done) | (go_simp; rfl)); (case hp => exact (Reps.none _ _)); intro v256 w24 ho25 hb hg_ hnew_; clear hg_ hnew_; (first | rw [← Ny255.out] at ho25 | (simp only [Int.reduceToNat] at ho25; rw [← Ny255.out] at ho25)); have HO257 := Aside0.mk (Kd.R_lower ho25 (below_size (hbA_ HB.out))); replace BK250 := (bbA_ BK250 hb); replace BK251 := (bbA_ BK251 hb); replace HB := (bs_ HB hb); clear hb ho25; have Z26 := zz4 BK250) | ((with_reducible refine gate_builtin (b := .append) (xs := #[.tmp 23, .tmp 25]) rfl ?_); at_builtin; refine Kd.R_append_rows k50 (w0 := w) w.heap.size rfl (.tmp 23) (.tmp 25) 27 50 (.agg #[(.int .i64 0), (.int .u8 0)]) 16 rfl Try.underlying27 info50 rfl (by decide) (by omega) v256 y255 l0_3 _ _ _ (fun _ => True) (fun _ => False) rfl rfl ?aO ?aR (fun _ _ h => h) (fun _ h => h.elim) ?aF ?aB ?aS ?aL ?_; (case aR => exact kC_ (Kd.C_below HR0_3.out HB.out)); (case aB => exact (hbA_ HB.out)); (case aF => exact (fun _ _ => trivial)); (case aO => exact (kR_ HO257.out)); (case aS => exact (below_size (hbA_ HB.out))); (case aL => have := LMc20.out; omega); intro v259 w27 ho hb hg hat; rw [← Ny258.out] at ho; replace BK250 := (bgA_ BK250 hg (Kd.R_ne HO257.out BK250.out (by decide))); replace BK251 := (bgA_ BK251 hg (Kd.R_ne HO257.out BK251.out (by decide))); replace HB := Aside0.mk (hb); have HO260 := Aside0.mk (ho); clear HO257; clear ho hb hg hat))
     go_loopg [8, 9] kj3 (fun kq v8 v9 w' => ∃ (x8_2 : List (S50)) (x9_2 : Int), v9 = .int .i64 x9_2 ∧ Aside0 (spec_EarHear.l0 kq a1 l2 t254 x8_2 x9_2 a0_0 a0_1 l0_2 l0_3 = some (r1, r2, r3, r4)) ∧ Aside0 (kq ≤ kj3) ∧ Aside0 (Kd.R k50 50 w' w.heap.size (fun _ => True) v8 x8_2) ∧ Aside0 (w'.heap[gb250]? = some (.cells #[.int .i64 a0_0, .int .i64 a0_1, (.slice A0_2 l0_2.length c0_2), (.slice A0_3 l0_3.length c0_3)] 29 (0, 0))) ∧ Aside0 (w'.heap[gb251]? = some (.cells #[.int .i64 0, .int .i64 0, (.slice none 0 0), (.slice none 0 0)] 29 (0, 0))) ∧ Aside0 (Below w.heap.size w w'))
     case atStart => exact ⟨(y258), (0), (by first | rfl | (simp; done) | (simp [*]; done)), H', ⟨Nat.le_refl _⟩, ⟨kR_ HO260.out⟩, ⟨by refine kb_ ?_; exact BK250.out⟩, ⟨by refine kb_ ?_; exact BK251.out⟩, ⟨hbA_ HB.out⟩⟩
     case round =>
      clear H'; (try clear c1); (try clear c2); (try clear p2); (try clear c8); (try clear c10); (try clear c13); (try clear c16); (try clear c17); (try clear c20); (try clear c21); (try clear c22); (try clear Z11); (try clear Z14); (try clear Z18); (try clear Z22); (try clear Z26); (try clear p2)
      obtain ⟨x8_2, x9_2, rfl, HA, HK2, HO_8, BK250, BK251, HB⟩ := hrel
      cases gk with
      | zero => exact absurd HA.out (by simp [spec_EarHear.l0])
      | succ k2 =>
       have H := HA.out; clear HA
       simp only [spec_EarHear.l0] at H
       by_cases c28 : x9_2 < (l2.length : Int)
       ·rw [if_pos c28] at H
        have c28b0 : decide (x9_2 < (l2.length : Int)) = true := decide_eq_true c28
        clear c28
        by_cases c29 : (wrap64 (a1 + x9_2)) ≥ a0_0
        ·rw [if_pos c29] at H
         have c29b0 : decide (a0_0 ≤ (wrap64 (a1 + x9_2))) = true := decide_eq_true c29
         clear c29
         by_cases c30 : (wrap64 (a1 + x9_2)) < (wrap64 (a0_0 + t254))
         ·rw [if_pos c30] at H
          have c30b0 : decide ((wrap64 (a1 + x9_2)) < (wrap64 (a0_0 + t254))) = true := decide_eq_true c30
          clear c30
          by_cases c31 : 0 ≤ x9_2
          ·rw [if_pos c31] at H
           have c31b0 : decide (0 ≤ x9_2) = true := decide_eq_true c31
           clear c31
           replace H := Option.bind_eq_some_iff.mp H
           obtain ⟨t262, A320, H⟩ := H
           (try dsimp only at H)
           have A32 := Aside0.mk A320; clear A320
           have H' := Aside0.mk H
           clear H; have hnb33 := NB250_251.out; have hnc33 := NB251_250.out; have Z34 := zz4 BK250
           have p261 : 0 ≤ (x9_2 : Int) := of_decide_eq_true (by first | (with_reducible assumption) | assumption)
           have q261 : x9_2 < (l2.length : Int) := of_decide_eq_true (by first | (with_reducible assumption) | assumption)
           obtain ⟨ad261, e261, hx261_0⟩ := Kd.at_int HR2.out x9_2 p261 q261
           cases e261
           replace hx261_0 := cc_ HB hx261_0
           replace p261 := eq_true p261
           replace q261 := eq_true q261
           obtain ⟨Ao35, co35, eo35⟩ := Kd.R_slice HO_8.out
           subst eo35
           go_wp2_with (first | ((with_reducible refine gate_callee (f := 23) rfl ?_); refine goesL_ (some 58) rfl rfl Try.func23 (by kernel_rfl) rfl #[.slice Ao35 x8_2.length co35, .agg #[.int .i64 (wrap64 (a1 + x9_2)), .int .u8 (rd l2 x9_2)]] rfl ar_ ?_; (with_reducible refine (spec_l12Put.calls k2 _ _ x8_2 (wrap64 (a1 + x9_2)) (rd l2 x9_2) t262 _ ?side1 ?side2 A32.out).mono ?_); (case side1 => exact kC_ (Kd.R_reads' HO_8.out).2.2); (case side2 => exact (Kd.R_reads' HO_8.out).2.1); rintro e w36 ⟨v263, rfl, ho0, hb⟩; refine ⟨_, rfl, ?_⟩; have HO264 := Aside0.mk (Kd.R_lower (Kd.R_new' ho0 (Kd.R_lt (kR_ HO_8.out))) (below_size (hbA_ HB.out))); replace HO_8 := Aside0.mk (Kd.R_elder' (kR_ HO_8.out) (Kd.R_base ho0) hb); replace BK250 := (bbA_ BK250 hb); replace BK251 := (bbA_ BK251 hb); replace HB := (bs_ HB hb); (try clear hb); (try clear hb2); (try clear hk); (try clear hi); (try clear ho0)))
           go_roundg k2
           case measure => have := HJ3.out; have := HK2.out; omega
           case rel => exact ⟨(t262), (wrap64 (x9_2 + 1)), (by first | rfl | (simp; done) | (simp [*]; done)), H', ⟨by have := HJ3.out; have := HK2.out; omega⟩, ⟨by refine kR_ ?_; exact Kd.R_mono HO264.out (fun _ hk => trivial)⟩, ⟨by refine kb_ ?_; exact BK250.out⟩, ⟨by refine kb_ ?_; exact BK251.out⟩, ⟨hbA_ HB.out⟩⟩
          ·rw [if_neg c31] at H
           exact absurd H (by simp)
         ·rw [if_neg c30] at H
          have c30b0 : decide ((wrap64 (a1 + x9_2)) < (wrap64 (a0_0 + t254))) = false := decide_eq_false c30
          clear c30
          have H' := Aside0.mk H
          clear H; have hnb37 := NB250_251.out; have hnc37 := NB251_250.out; have Z38 := zz4 BK250
          go_wp2
          go_roundg k2
          case measure => have := HJ3.out; have := HK2.out; omega
          case rel => exact ⟨(x8_2), (wrap64 (x9_2 + 1)), (by first | rfl | (simp; done) | (simp [*]; done)), H', ⟨by have := HJ3.out; have := HK2.out; omega⟩, ⟨kR_ HO_8.out⟩, ⟨by refine kb_ ?_; exact BK250.out⟩, ⟨by refine kb_ ?_; exact BK251.out⟩, ⟨hbA_ HB.out⟩⟩
        ·rw [if_neg c29] at H
         have c29b0 : decide (a0_0 ≤ (wrap64 (a1 + x9_2))) = false := decide_eq_false c29
         clear c29
         have H' := Aside0.mk H
         clear H; have hnb39 := NB250_251.out; have hnc39 := NB251_250.out; have Z40 := zz4 BK250
         go_wp2
         go_roundg k2
         case measure => have := HJ3.out; have := HK2.out; omega
         case rel => exact ⟨(x8_2), (wrap64 (x9_2 + 1)), (by first | rfl | (simp; done) | (simp [*]; done)), H', ⟨by have := HJ3.out; have := HK2.out; omega⟩, ⟨kR_ HO_8.out⟩, ⟨by refine kb_ ?_; exact BK250.out⟩, ⟨by refine kb_ ?_; exact BK251.out⟩, ⟨hbA_ HB.out⟩⟩
       ·rw [if_neg c28] at H
        have c28b0 : decide (x9_2 < (l2.length : Int)) = false := decide_eq_false c28
        clear c28
        obtain ⟨y265, hy265⟩ : ∃ y_ : List Int, y_ = (([] : List Int)) := ⟨_, rfl⟩
        (first | replace H := sb_ hy265 H | rw [← hy265] at H)
        have Ny265 := Aside0.mk hy265; clear hy265
        by_cases c41 : y265.length + l0_2.length < 140737488355328
        ·rw [if_pos c41] at H
         have LMc41 := Aside0.mk c41; clear c41
         obtain ⟨y268, hy268⟩ : ∃ y_ : List Int, y_ = (y265 ++ l0_2) := ⟨_, rfl⟩
         (first | replace H := sb_ hy268 H | rw [← hy268] at H)
         have Ny268 := Aside0.mk hy268; clear hy268; have HC42 := Aside0.mk H; clear H
         try go_wp2
         replace HO_8 := Aside0.mk (Kd.R_drew HO_8.out); replace BK250 := Aside0.mk (blk_drew BK250.out); replace BK251 := Aside0.mk (blk_drew BK251.out); replace HB := (bd_ HB)
         refine start_ (n := 11) (S := fun w' => w'.cell? ⟨gb250, 0, none⟩ = some (.int .i64 a0_0) ∧ w'.cell? ⟨gb250, 1, none⟩ = some (.int .i64 a0_1) ∧ w'.cell? ⟨gb250, 2, none⟩ = some (.slice A0_2 l0_2.length c0_2) ∧ w'.cell? ⟨gb250, 3, none⟩ = some (.slice A0_3 l0_3.length c0_3)) (ds := []) #[false, false, false, false, false, false, false, false, false, false, false] (by kernel_rfl) rfl rfl (cz4 BK250.out) (fun hHeld => ?_); refine with_tabW spec_EarHear.tab10 spec_EarHear.bits10 (fun HT_ HW_ => ?_)
         generalize wr.drew = w43 at HO_8 BK250 BK251 HB hHeld ⊢
         refine pu_ (i := 0) (N := some 59) HT_ ?_; refine pu_ (i := 2) (N := some 61) HT_ ?_; refine pu_ (i := 5) (N := some 64) HT_ ?_; refine tk_ (i := 1) (N := some 60) HT_ HW_ hHeld ?_; refine tk_ (i := 3) (N := some 62) HT_ HW_ hHeld ?_; refine tk_ (i := 6) (N := some 65) HT_ HW_ hHeld ?_
         refine join_ (σ := Value × Value × Nat) 1 #[true, true, true, true, true, true, true, true, true, true, false] (fun s_ => [(63, s_.1), (66, s_.2.1), (10, .pointer (some ⟨s_.2.2, 0, none⟩)), (67, .agg #[.int .i64 a0_0, .int .i64 a0_1, s_.2.1, .slice none 0 0])]) (fun s_ w' => (w'.cell? ⟨gb250, 0, none⟩ = some (.int .i64 a0_0) ∧ w'.cell? ⟨gb250, 1, none⟩ = some (.int .i64 a0_1) ∧ w'.cell? ⟨gb250, 2, none⟩ = some (.slice A0_2 l0_2.length c0_2) ∧ w'.cell? ⟨gb250, 3, none⟩ = some (.slice A0_3 l0_3.length c0_3)) ∧ (Kd.R (Kd.int .u8) 5 w' w.heap.size (fun _ => True) s_.2.1 y268) ∧ (Kd.R k50 50 w' w.heap.size (fun _ => True) u8 x8_2) ∧ (w'.heap[gb250]? = some (.cells #[.int .i64 a0_0, .int .i64 a0_1, .slice A0_2 l0_2.length c0_2, .slice A0_3 l0_3.length c0_3] 29 (0, 0))) ∧ (w'.heap[gb251]? = some (.cells #[.int .i64 0, .int .i64 0, .slice none 0 0, .slice none 0 0] 29 (0, 0))) ∧ (w'.heap[s_.2.2]? = some (.cells #[.int .i64 0, .int .i64 0, .slice none 0 0, .slice none 0 0] 29 (0, 0))) ∧ (w.heap.size ≤ s_.2.2) ∧ (w.heap.size ≤ s_.2.2) ∧ (gb250 ≠ s_.2.2) ∧ (s_.2.2 ≠ gb250) ∧ (gb251 ≠ s_.2.2) ∧ (s_.2.2 ≠ gb251) ∧ (Below w.heap.size w w')) ?_ ?_
         rotate_left
         ·intro hCont
          refine two_ (i := 4) (j := 9) (Ni := some 63) (Nj := some 10) #[true, true, true, true, true, true, true, false, false, false, false] #[true, true, true, true, false, true, true, false, false, true, false] rfl rfl rfl rfl (two_of HT_.out (by kernel_rfl)) (by decide) (by decide) (fun K hK => ?_) (fun K hK => ?_)
          ·skip
           refine Kd.R_lit_step (Kd.int .u8) _ 5 ?hg (N := 63) ?hd (xs := ([] : List Int)) (inner := []) (ok := fun _ => True) (okp := fun _ => True) ?hr ?hp (fun _ hk => hk) trivial (Below.refl _ _) (Nat.le_refl _) (by simp) ?_; (case hd => rfl); (case hg => rfl); (case hr => first | (go_simp; done) | (go_simp; rfl)); (case hp => exact (Reps.none _ _))
           intro v266 w44 ho45 hb hg_ hnew_
           clear hg_ hnew_
           (first | rw [← Ny265.out] at ho45 | (simp only [Int.reduceToNat] at ho45; rw [← Ny265.out] at ho45))
           have n0_ := Aside0.mk (Kd.R_below (kR_ HO_8.out) hb); have n1_ := Aside0.mk (Kd.R_lower ho45 (below_size (hbA_ HB.out))); have n2_ := (bbA_ BK250 hb); have n3_ := (bbA_ BK251 hb); have n4_ := (bs_ HB hb); clear HO_8 BK250 BK251 HB; have HO_8 := n0_; have HO267 := n1_; have BK250 := n2_; have BK251 := n3_; have HB := n4_; clear n0_ n1_ n2_ n3_ n4_ hb ho45
           refine hK.out _ _ (cz4 BK250.out) (fun hHeld => ?_)
           clear hK K; refine nm_ 63 ?_
           refine two_ (i := 7) (j := 9) (Ni := some 66) (Nj := some 10) #[true, true, true, true, true, true, true, true, false, false, false] #[true, true, true, true, true, true, true, false, false, true, false] rfl rfl rfl rfl (two_of HT_.out (by kernel_rfl)) (by decide) (by decide) (fun K hK => ?_) (fun K hK => ?_)
           ·skip
            refine Kd.R_append_rows_step (Kd.int .u8) (w0 := w) w.heap.size (by rfl) (.tmp 63) (.tmp 65) 22 5 (.int .u8 0) 1 rfl Try.underlying22 info5 rfl (by decide) (by omega) v266 y265 l0_2 _ _ _ (fun _ => True) (fun _ => False) rfl rfl ?aO ?aR (fun _ _ h => h) (fun _ h => h.elim) ?aF ?aB ?aS ?aL ?_
            (case aR => exact kC_ (Kd.C_below HR0_2.out HB.out))
            (case aB => exact (hbA_ HB.out))
            (case aF => exact (fun _ _ => trivial))
            (case aO => exact (kR_ HO267.out))
            (case aS => exact (below_size (hbA_ HB.out)))
            (case aL => have := LMc41.out; omega)
            intro v269 w46 ho hb hg hat
            rw [← Ny268.out] at ho
            have n0_ := Aside0.mk (Kd.R_over' (kR_ HO_8.out) (Kd.R_typed (kR_ HO267.out)) (by decide) hg); have n1_ := (bgA_ BK250 hg (Kd.R_ne HO267.out BK250.out (by decide))); have n2_ := (bgA_ BK251 hg (Kd.R_ne HO267.out BK251.out (by decide))); have n3_ := Aside0.mk (hb); have n4_ := Aside0.mk (ho); clear HO_8 BK250 BK251 HB HO267; have HO_8 := n0_; have BK250 := n1_; have BK251 := n2_; have HB := n3_; have HO270 := n4_; clear n0_ n1_ n2_ n3_ n4_ ho hb hg hat
            obtain ⟨Ao47, co47, eo47⟩ := Kd.R_slice HO270.out
            (first | subst eo47 | (injection eo47 with f1_ f2_ f3_; have f4_ := f1_.symm; have f5_ := f3_.symm; clear f1_ f2_ f3_; subst f4_; subst f5_))
            refine hK.out _ _ (cz4 BK250.out) (fun hHeld => ?_)
            clear hK K; refine nm_ 66 ?_; refine pu_ (i := 8) (N := some 67) HT_ ?_
            refine on_ (i := 9) (N := some 10) HT_ (fun K hK => ?_)
            refine box_step ?hg (N := 10) ?hd (cs := #[.int .i64 0, .int .i64 0, .slice none 0 0, .slice none 0 0]) (t := 29) ?hr ?_; (case hd => rfl); (case hg => rfl); (case hr => first | (go_simp; done) | (go_simp; rfl))
            intro gb271 hg w48 hbox hb
            have n0_ := Aside0.mk (Kd.R_below (kR_ HO_8.out) hb); have n1_ := Aside0.mk (Kd.R_below (kR_ HO270.out) hb); have n2_ := (bbA_ BK250 hb); have n3_ := (bbA_ BK251 hb); have n4_ := (bs_ HB hb); have n5_ := Aside0.mk (hbox); have n6_ := ge_ hg HB; have n7_ := ge_ hg HB; have n8_ := nl_ hg BK250; have n9_ := ng_ hg BK250; have n10_ := nl_ hg BK251; have n11_ := ng_ hg BK251; clear HO_8 HO270 BK250 BK251 HB; have HO_8 := n0_; have HO270 := n1_; have BK250 := n2_; have BK251 := n3_; have HB := n4_; have BK271 := n5_; have GW271 := n6_; have GE271 := n7_; have NB250_271 := n8_; have NB271_250 := n9_; have NB251_271 := n10_; have NB271_251 := n11_; clear n0_ n1_ n2_ n3_ n4_ n5_ n6_ n7_ n8_ n9_ n10_ n11_ hb hbox hg
            refine hK.out _ _ (cz4 BK250.out) (fun hHeld => ?_)
            clear hK K; refine nm_ 10 ?_
            exact norm_ (by simp only [putAll, Act.put, List.setIfInBounds_toArray, List.set_cons_zero, List.set_cons_succ]) (hCont (v266, .slice Ao47 y268.length co47, gb271) _ ⟨hHeld, (kR_ HO270.out), (kR_ HO_8.out), (kb_ BK250.out), (kb_ BK251.out), (kb_ BK271.out), GW271.out, GE271.out, NB250_271.out, NB271_250.out, NB251_271.out, NB271_251.out, (hbA_ HB.out)⟩)
           ·skip
            refine box_step ?hg (N := 10) ?hd (cs := #[.int .i64 0, .int .i64 0, .slice none 0 0, .slice none 0 0]) (t := 29) ?hr ?_; (case hd => rfl); (case hg => rfl); (case hr => first | (go_simp; done) | (go_simp; rfl))
            intro gb271 hg w46 hbox hb
            have n0_ := Aside0.mk (Kd.R_below (kR_ HO_8.out) hb); have n1_ := Aside0.mk (Kd.R_below (kR_ HO267.out) hb); have n2_ := (bbA_ BK250 hb); have n3_ := (bbA_ BK251 hb); have n4_ := (bs_ HB hb); have n5_ := Aside0.mk (hbox); have n6_ := ge_ hg HB; have n7_ := ge_ hg HB; have n8_ := nl_ hg BK250; have n9_ := ng_ hg BK250; have n10_ := nl_ hg BK251; have n11_ := ng_ hg BK251; clear HO_8 HO267 BK250 BK251 HB; have HO_8 := n0_; have HO267 := n1_; have BK250 := n2_; have BK251 := n3_; have HB := n4_; have BK271 := n5_; have GW271 := n6_; have GE271 := n7_; have NB250_271 := n8_; have NB271_250 := n9_; have NB251_271 := n10_; have NB271_251 := n11_; clear n0_ n1_ n2_ n3_ n4_ n5_ n6_ n7_ n8_ n9_ n10_ n11_ hb hbox hg
            refine hK.out _ _ (cz4 BK250.out) (fun hHeld => ?_)
            clear hK K; refine nm_ 10 ?_
            refine on_ (i := 7) (N := some 66) HT_ (fun K hK => ?_)
            refine Kd.R_append_rows_step (Kd.int .u8) (w0 := w) w.heap.size (by rfl) (.tmp 63) (.tmp 65) 22 5 (.int .u8 0) 1 rfl Try.underlying22 info5 rfl (by decide) (by omega) v266 y265 l0_2 _ _ _ (fun _ => True) (fun _ => False) rfl rfl ?aO ?aR (fun _ _ h => h) (fun _ h => h.elim) ?aF ?aB ?aS ?aL ?_
            (case aR => exact kC_ (Kd.C_below HR0_2.out HB.out))
            (case aB => exact (hbA_ HB.out))
            (case aF => exact (fun _ _ => trivial))
            (case aO => exact (kR_ HO267.out))
            (case aS => exact (below_size (hbA_ HB.out)))
            (case aL => have := LMc41.out; omega)
            intro v269 w47 ho hb hg hat
            rw [← Ny268.out] at ho
            have n0_ := Aside0.mk (Kd.R_over' (kR_ HO_8.out) (Kd.R_typed (kR_ HO267.out)) (by decide) hg); have n1_ := (bgA_ BK250 hg (Kd.R_ne HO267.out BK250.out (by decide))); have n2_ := (bgA_ BK251 hg (Kd.R_ne HO267.out BK251.out (by decide))); have n3_ := (bgA_ BK271 hg (Kd.R_ne HO267.out BK271.out (by decide))); have n4_ := Aside0.mk (hb); have n5_ := Aside0.mk (ho); clear HO_8 BK250 BK251 BK271 HB HO267; have HO_8 := n0_; have BK250 := n1_; have BK251 := n2_; have BK271 := n3_; have HB := n4_; have HO270 := n5_; clear n0_ n1_ n2_ n3_ n4_ n5_ ho hb hg hat
            obtain ⟨Ao48, co48, eo48⟩ := Kd.R_slice HO270.out
            (first | subst eo48 | (injection eo48 with f1_ f2_ f3_; have f4_ := f1_.symm; have f5_ := f3_.symm; clear f1_ f2_ f3_; subst f4_; subst f5_))
            refine hK.out _ _ (cz4 BK250.out) (fun hHeld => ?_)
            clear hK K; refine nm_ 66 ?_; refine pu_ (i := 8) (N := some 67) HT_ ?_
            exact norm_ (by simp only [putAll, Act.put, List.setIfInBounds_toArray, List.set_cons_zero, List.set_cons_succ]) (hCont (v266, .slice Ao48 y268.length co48, gb271) _ ⟨hHeld, (kR_ HO270.out), (kR_ HO_8.out), (kb_ BK250.out), (kb_ BK251.out), (kb_ BK271.out), GW271.out, GE271.out, NB250_271.out, NB271_250.out, NB251_271.out, NB271_251.out, (hbA_ HB.out)⟩)
          ·skip
           refine box_step ?hg (N := 10) ?hd (cs := #[.int .i64 0, .int .i64 0, .slice none 0 0, .slice none 0 0]) (t := 29) ?hr ?_; (case hd => rfl); (case hg => rfl); (case hr => first | (go_simp; done) | (go_simp; rfl))
           intro gb271 hg w44 hbox hb
           have n0_ := Aside0.mk (Kd.R_below (kR_ HO_8.out) hb); have n1_ := (bbA_ BK250 hb); have n2_ := (bbA_ BK251 hb); have n3_ := (bs_ HB hb); have n4_ := Aside0.mk (hbox); have n5_ := ge_ hg HB; have n6_ := ge_ hg HB; have n7_ := nl_ hg BK250; have n8_ := ng_ hg BK250; have n9_ := nl_ hg BK251; have n10_ := ng_ hg BK251; clear HO_8 BK250 BK251 HB; have HO_8 := n0_; have BK250 := n1_; have BK251 := n2_; have HB := n3_; have BK271 := n4_; have GW271 := n5_; have GE271 := n6_; have NB250_271 := n7_; have NB271_250 := n8_; have NB251_271 := n9_; have NB271_251 := n10_; clear n0_ n1_ n2_ n3_ n4_ n5_ n6_ n7_ n8_ n9_ n10_ hb hbox hg
           refine hK.out _ _ (cz4 BK250.out) (fun hHeld => ?_)
           clear hK K; refine nm_ 10 ?_
           refine on_ (i := 4) (N := some 63) HT_ (fun K hK => ?_)
           refine Kd.R_lit_step (Kd.int .u8) _ 5 ?hg (N := 63) ?hd (xs := ([] : List Int)) (inner := []) (ok := fun _ => True) (okp := fun _ => True) ?hr ?hp (fun _ hk => hk) trivial (Below.refl _ _) (Nat.le_refl _) (by simp) ?_; (case hd => rfl); (case hg => rfl); (case hr => first | (go_simp; done) | (go_simp; rfl)); (case hp => exact (Reps.none _ _))
           intro v266 w45 ho46 hb hg_ hnew_
           clear hg_ hnew_
           (first | rw [← Ny265.out] at ho46 | (simp only [Int.reduceToNat] at ho46; rw [← Ny265.out] at ho46))
           have n0_ := Aside0.mk (Kd.R_below (kR_ HO_8.out) hb); have n1_ := Aside0.mk (Kd.R_lower ho46 (below_size (hbA_ HB.out))); have n2_ := (bbA_ BK250 hb); have n3_ := (bbA_ BK251 hb); have n4_ := (bbA_ BK271 hb); have n5_ := (bs_ HB hb); clear HO_8 BK250 BK251 BK271 HB; have HO_8 := n0_; have HO267 := n1_; have BK250 := n2_; have BK251 := n3_; have BK271 := n4_; have HB := n5_; clear n0_ n1_ n2_ n3_ n4_ n5_ hb ho46
           refine hK.out _ _ (cz4 BK250.out) (fun hHeld => ?_)
           clear hK K; refine nm_ 63 ?_
           refine on_ (i := 7) (N := some 66) HT_ (fun K hK => ?_)
           refine Kd.R_append_rows_step (Kd.int .u8) (w0 := w) w.heap.size (by rfl) (.tmp 63) (.tmp 65) 22 5 (.int .u8 0) 1 rfl Try.underlying22 info5 rfl (by decide) (by omega) v266 y265 l0_2 _ _ _ (fun _ => True) (fun _ => False) rfl rfl ?aO ?aR (fun _ _ h => h) (fun _ h => h.elim) ?aF ?aB ?aS ?aL ?_
           (case aR => exact kC_ (Kd.C_below HR0_2.out HB.out))
           (case aB => exact (hbA_ HB.out))
           (case aF => exact (fun _ _ => trivial))
           (case aO => exact (kR_ HO267.out))
           (case aS => exact (below_size (hbA_ HB.out)))
           (case aL => have := LMc41.out; omega)
           intro v269 w47 ho hb hg hat
           rw [← Ny268.out] at ho
           have n0_ := Aside0.mk (Kd.R_over' (kR_ HO_8.out) (Kd.R_typed (kR_ HO267.out)) (by decide) hg); have n1_ := (bgA_ BK250 hg (Kd.R_ne HO267.out BK250.out (by decide))); have n2_ := (bgA_ BK251 hg (Kd.R_ne HO267.out BK251.out (by decide))); have n3_ := (bgA_ BK271 hg (Kd.R_ne HO267.out BK271.out (by decide))); have n4_ := Aside0.mk (hb); have n5_ := Aside0.mk (ho); clear HO_8 BK250 BK251 BK271 HB HO267; have HO_8 := n0_; have BK250 := n1_; have BK251 := n2_; have BK271 := n3_; have HB := n4_; have HO270 := n5_; clear n0_ n1_ n2_ n3_ n4_ n5_ ho hb hg hat
           obtain ⟨Ao48, co48, eo48⟩ := Kd.R_slice HO270.out
           (first | subst eo48 | (injection eo48 with f1_ f2_ f3_; have f4_ := f1_.symm; have f5_ := f3_.symm; clear f1_ f2_ f3_; subst f4_; subst f5_))
           refine hK.out _ _ (cz4 BK250.out) (fun hHeld => ?_)
           clear hK K; refine nm_ 66 ?_; refine pu_ (i := 8) (N := some 67) HT_ ?_
           exact norm_ (by simp only [putAll, Act.put, List.setIfInBounds_toArray, List.set_cons_zero, List.set_cons_succ]) (hCont (v266, .slice Ao48 y268.length co48, gb271) _ ⟨hHeld, (kR_ HO270.out), (kR_ HO_8.out), (kb_ BK250.out), (kb_ BK251.out), (kb_ BK271.out), GW271.out, GE271.out, NB250_271.out, NB271_250.out, NB251_271.out, NB271_251.out, (hbA_ HB.out)⟩)
         rintro ⟨v266, v269, gb271⟩ w49 ⟨hS_, h0_, h1_, h2_, h3_, h4_, h5_, h6_, h7_, h8_, h9_, h10_, h11_⟩
         have n0_ : Aside0 (Kd.R (Kd.int .u8) 5 w49 w.heap.size (fun _ => True) v269 y268) := ⟨h0_⟩
         have n1_ : Aside0 (Kd.R k50 50 w49 w.heap.size (fun _ => True) u8 x8_2) := ⟨h1_⟩
         have n2_ : Aside0 (w49.heap[gb250]? = some (.cells #[.int .i64 a0_0, .int .i64 a0_1, .slice A0_2 l0_2.length c0_2, .slice A0_3 l0_3.length c0_3] 29 (0, 0))) := ⟨h2_⟩
         have n3_ : Aside0 (w49.heap[gb251]? = some (.cells #[.int .i64 0, .int .i64 0, .slice none 0 0, .slice none 0 0] 29 (0, 0))) := ⟨h3_⟩
         have n4_ : Aside0 (w49.heap[gb271]? = some (.cells #[.int .i64 0, .int .i64 0, .slice none 0 0, .slice none 0 0] 29 (0, 0))) := ⟨h4_⟩
         have n5_ : Aside0 (w.heap.size ≤ gb271) := ⟨h5_⟩
         have n6_ : Aside0 (w.heap.size ≤ gb271) := ⟨h6_⟩
         have n7_ : Aside0 (gb250 ≠ gb271) := ⟨h7_⟩
         have n8_ : Aside0 (gb271 ≠ gb250) := ⟨h8_⟩
         have n9_ : Aside0 (gb251 ≠ gb271) := ⟨h9_⟩
         have n10_ : Aside0 (gb271 ≠ gb251) := ⟨h10_⟩
         have n11_ : Aside0 (Below w.heap.size w w49) := ⟨h11_⟩
         clear HO_8 BK250 BK251 HB h0_ h1_ h2_ h3_ h4_ h5_ h6_ h7_ h8_ h9_ h10_ h11_; have HO270 := n0_; have HO_8 := n1_; have BK250 := n2_; have BK251 := n3_; have BK271 := n4_; have GW271 := n5_; have GE271 := n6_; have NB250_271 := n7_; have NB271_250 := n8_; have NB251_271 := n9_; have NB271_251 := n10_; have HB := n11_; clear n0_ n1_ n2_ n3_ n4_ n5_ n6_ n7_ n8_ n9_ n10_ n11_
         have hHeld : w49.cell? ⟨gb250, 0, none⟩ = some (.int .i64 a0_0) ∧ w49.cell? ⟨gb250, 1, none⟩ = some (.int .i64 a0_1) ∧ w49.cell? ⟨gb250, 2, none⟩ = some (.slice A0_2 l0_2.length c0_2) ∧ w49.cell? ⟨gb250, 3, none⟩ = some (.slice A0_3 l0_3.length c0_3) := hS_
         obtain ⟨Ao50, co50, eo50⟩ := Kd.R_slice HO270.out
         (first | subst eo50 | (injection eo50 with f1_ f2_ f3_; have f4_ := f1_.symm; have f5_ := f3_.symm; clear f1_ f2_ f3_; subst f4_; subst f5_))
         refine norm_ (a' := ?_) ?_ ?_
         rotate_left
         ·simp only [putAll, Act.put, List.setIfInBounds_toArray, List.set_cons_zero, List.set_cons_succ]
          rfl
         refine on_ (i := 10) (N := none) HT_ (fun K hK => ?_)
         have hs51 : w49.cell? ⟨gb271, 0, none⟩ = some (.int .i64 0) := bc_ BK271 0
         have hfs51 := blk_frozen BK271.out 0
         have hns51_0 := NB250_271.out; have hns51_1 := NB251_271.out; have hms51_0 := NB271_250.out; have hms51_1 := NB271_251.out
         have hs52 : w49.cell? ⟨gb271, 1, none⟩ = some (.int .i64 0) := bc_ BK271 1
         have hfs52 := blk_frozen BK271.out 1
         have hns52_0 := NB250_271.out; have hns52_1 := NB251_271.out; have hms52_0 := NB271_250.out; have hms52_1 := NB271_251.out
         have hs53 : w49.cell? ⟨gb271, 2, none⟩ = some (.slice none 0 0) := bc_ BK271 2
         have hfs53 := blk_frozen BK271.out 2
         have hns53_0 := NB250_271.out; have hns53_1 := NB251_271.out; have hms53_0 := NB271_250.out; have hms53_1 := NB271_251.out
         have hs54 : w49.cell? ⟨gb271, 3, none⟩ = some (.slice none 0 0) := bc_ BK271 3
         have hfs54 := blk_frozen BK271.out 3
         have hns54_0 := NB250_271.out; have hns54_1 := NB251_271.out; have hms54_0 := NB271_250.out; have hms54_1 := NB271_251.out
         refine skip_ (w1 := ?_) (by rfl) rfl ?_ ?_
         rotate_left
         ·go_simp
          rfl
         refine hK.out _ _ ⟨((cell_far (p := ⟨gb271, _, none⟩) NB250_271.out _).trans (((cell_far (p := ⟨gb271, _, none⟩) NB250_271.out _).trans (((cell_far (p := ⟨gb271, _, none⟩) NB250_271.out _).trans (((cell_far (p := ⟨gb271, _, none⟩) NB250_271.out _).trans (hHeld.1)))))))), ((cell_far (p := ⟨gb271, _, none⟩) NB250_271.out _).trans (((cell_far (p := ⟨gb271, _, none⟩) NB250_271.out _).trans (((cell_far (p := ⟨gb271, _, none⟩) NB250_271.out _).trans (((cell_far (p := ⟨gb271, _, none⟩) NB250_271.out _).trans (hHeld.2.1)))))))), ((cell_far (p := ⟨gb271, _, none⟩) NB250_271.out _).trans (((cell_far (p := ⟨gb271, _, none⟩) NB250_271.out _).trans (((cell_far (p := ⟨gb271, _, none⟩) NB250_271.out _).trans (((cell_far (p := ⟨gb271, _, none⟩) NB250_271.out _).trans (hHeld.2.2.1)))))))), ((cell_far (p := ⟨gb271, _, none⟩) NB250_271.out _).trans (((cell_far (p := ⟨gb271, _, none⟩) NB250_271.out _).trans (((cell_far (p := ⟨gb271, _, none⟩) NB250_271.out _).trans (((cell_far (p := ⟨gb271, _, none⟩) NB250_271.out _).trans (hHeld.2.2.2))))))))⟩ (fun hHeld => ?_)
         clear hK K
         refine done_ (done_of HT_.out (by kernel_rfl)) ?_
         go_upto_block 2 with (fail)
         go_cut [11] (fun v11 wc => ∃ (kq : Nat) (x11_41 : Int) (x272000_41 : Int) (x272002_41 : List Int) (u272002 : Value), v11 = .int .i64 x11_41 ∧ Aside0 (spec_EarHear.j3 kq x8_2 x11_41 x272000_41 a0_1 x272002_41 = some (r1, r2, r3, r4)) ∧ Aside0 (kq ≤ k2) ∧ Aside0 (Kd.R k50 50 wc w.heap.size (fun _ => True) u8 x8_2) ∧ Aside0 (Kd.R (Kd.int .u8) 5 wc w.heap.size (fun _ => True) u272002 x272002_41) ∧ Aside0 (wc.heap[gb250]? = some (.cells #[.int .i64 a0_0, .int .i64 a0_1, (.slice A0_2 l0_2.length c0_2), (.slice A0_3 l0_3.length c0_3)] 29 (0, 0))) ∧ Aside0 (wc.heap[gb251]? = some (.cells #[.int .i64 0, .int .i64 0, (.slice none 0 0), (.slice none 0 0)] 29 (0, 0))) ∧ Aside0 (wc.heap[gb271]? = some (.cells #[.int .i64 x272000_41, .int .i64 a0_1, u272002, (.slice none 0 0)] 29 (0, 0))) ∧ Aside0 (Below w.heap.size w wc))
         case first =>
          have H := HC42.out; clear HC42
          have H' := Aside0.mk H
          clear H
          go_wp2
          go_loopg [11] k2 (fun kq v11 w' => ∃ (x11_3 : Int) (x272000_3 : Int) (x272002_3 : List Int) (u272002 : Value), v11 = .int .i64 x11_3 ∧ Aside0 (spec_EarHear.l1 kq x8_2 x11_3 x272000_3 a0_1 x272002_3 = some (r1, r2, r3, r4)) ∧ Aside0 (kq ≤ k2) ∧ Aside0 (Kd.R k50 50 w' w.heap.size (fun _ => True) u8 x8_2) ∧ Aside0 (Kd.R (Kd.int .u8) 5 w' w.heap.size (fun _ => True) u272002 x272002_3) ∧ Aside0 (w'.heap[gb250]? = some (.cells #[.int .i64 a0_0, .int .i64 a0_1, (.slice A0_2 l0_2.length c0_2), (.slice A0_3 l0_3.length c0_3)] 29 (0, 0))) ∧ Aside0 (w'.heap[gb251]? = some (.cells #[.int .i64 0, .int .i64 0, (.slice none 0 0), (.slice none 0 0)] 29 (0, 0))) ∧ Aside0 (w'.heap[gb271]? = some (.cells #[.int .i64 x272000_3, .int .i64 a0_1, u272002, (.slice none 0 0)] 29 (0, 0))) ∧ Aside0 (Below w.heap.size w w'))
          case atStart => exact ⟨(0), (a0_0), (y268), (.slice Ao50 y268.length co50), (by first | rfl | (simp; done) | (simp [*]; done)), H', ⟨Nat.le_refl _⟩, ⟨by refine kR_ ?_; exact rfm_ ((Kd.R_types HO_8.out BK271.out (by decide))) (fun _ hk => trivial)⟩, ⟨by refine kR_ ?_; exact rfm_ ((Kd.R_types HO270.out BK271.out (by decide))) (fun _ hk => trivial)⟩, ⟨by exact kf_ BK250.out⟩, ⟨by exact kf_ BK251.out⟩, ⟨by refine kb_ ?_; refine pz4 (cs := #[.int .i64 0, .int .i64 0, .slice none 0 0, .slice none 0 0]) ?_; refine kb_ ?_; exact BK271.out⟩, ⟨hbA_ HB.out⟩⟩
          case round =>
           clear H'; (try clear c2); (try clear p2); (try clear q2); (try clear hx2); (try clear c3); (try clear c4); (try clear p6); (try clear c23); (try clear p26); (try clear q26); (try clear hx26); (try clear c28); (try clear c28b0); (try clear c29); (try clear c29b0); (try clear c30); (try clear c30b0); (try clear c31); (try clear c31b0); (try clear c33); (try clear c37); (try clear c39); (try clear c41); (try clear Z34); (try clear Z38); (try clear Z40); (try clear hx261_0); (try clear p2); (try clear p261); (try clear q261)
           obtain ⟨x11_3, x272000_3, x272002_3, u272002, rfl, HA, HK3, HO_8, HO_272002, BK250, BK251, BK271, HB⟩ := hrel
           cases gk with
           | zero => exact absurd HA.out (by simp [spec_EarHear.l1])
           | succ k3 =>
            have H := HA.out; clear HA
            simp only [spec_EarHear.l1] at H
            by_cases c55 : x11_3 < (x8_2.length : Int)
            ·rw [if_pos c55] at H
             have c55b0 : decide (x11_3 < (x8_2.length : Int)) = true := decide_eq_true c55
             clear c55
             (first | rw [c55b0] | (simp only [i64_w, i32_w]; rw [c55b0]) | skip)
             by_cases c56 : 0 ≤ x11_3
             ·rw [if_pos c56] at H
              have c56b0 : decide (0 ≤ x11_3) = true := decide_eq_true c56
              clear c56
              by_cases c57 : ((rd_T50 x8_2 x11_3).f0) = x272000_3
              ·rw [if_pos c57] at H
               have c57b0 : (((rd_T50 x8_2 x11_3).f0) == x272000_3) = true := beq_iff_eq.mpr c57
               have c57b1 : (((rd_T50 x8_2 x11_3).f0) != x272000_3) = false := bne_eq_false_iff_eq.mpr c57
               clear c57
               by_cases c58 : x272002_3.length < 140737488355328
               ·rw [if_pos c58] at H
                have LMc58 := Aside0.mk c58; clear c58
                obtain ⟨y274, hy274⟩ : ∃ y_ : List Int, y_ = (x272002_3 ++ [(rd_T50 x8_2 x11_3).f1]) := ⟨_, rfl⟩
                (first | replace H := sb_ hy274 H | rw [← hy274] at H)
                have Ny274 := Aside0.mk hy274; clear hy274
                have H' := Aside0.mk H
                clear H
                try go_wp2
                replace HO_8 := Aside0.mk (Kd.R_drew HO_8.out); replace HO_272002 := Aside0.mk (Kd.R_drew HO_272002.out); replace BK250 := Aside0.mk (blk_drew BK250.out); replace BK251 := Aside0.mk (blk_drew BK251.out); replace BK271 := Aside0.mk (blk_drew BK271.out); replace HB := (bd_ HB)
                obtain ⟨Ao60, co60, eo60⟩ := Kd.R_slice HO_8.out
                (first | subst eo60 | (injection eo60 with f1_ f2_ f3_; have f4_ := f1_.symm; have f5_ := f3_.symm; clear f1_ f2_ f3_; subst f4_; subst f5_))
                have p272 : 0 ≤ (x11_3 : Int) := of_decide_eq_true (by first | (with_reducible assumption) | assumption)
                have q272 : x11_3 < (x8_2.length : Int) := of_decide_eq_true (by first | (with_reducible assumption) | assumption)
                obtain ⟨ad272, e272, hx272_0, hx272_1⟩ := at_T50 (Kd.R_reads' HO_8.out).2.2 x11_3 p272 q272
                cases e272
                replace p272 := eq_true p272
                replace q272 := eq_true q272
                refine start_ (n := 14) (S := fun w' => w'.cell? ⟨gb271, 0, none⟩ = some (.int .i64 x272000_3) ∧ w'.cell? ⟨gb271, 1, none⟩ = some (.int .i64 a0_1) ∧ w'.cell? ⟨gb271, 2, none⟩ = some (u272002) ∧ w'.cell? ⟨gb271, 3, none⟩ = some (.slice none 0 0) ∧ w'.cell? (ad272.add ((x11_3).toNat * 2)) = some (.int .i64 ((rd_T50 x8_2 x11_3).f0)) ∧ w'.cell? ⟨(ad272.add ((x11_3).toNat * 2)).block, (ad272.add ((x11_3).toNat * 2)).off + 1, none⟩ = some (.int .u8 ((rd_T50 x8_2 x11_3).f1))) (ds := []) #[false, false, false, false, false, false, false, false, false, false, false, false, false, false] (by kernel_rfl) rfl rfl ⟨bc_ BK271 0, bc_ BK271 1, bc_ BK271 2, bc_ BK271 3, hx272_0, hx272_1⟩ (fun hHeld => ?_); refine with_tabW spec_EarHear.tab12 spec_EarHear.bits12 (fun HT_ HW_ => ?_)
                generalize wr.drew = w59 at HO_8 HO_272002 BK250 BK251 BK271 HB hx272_0 hx272_1 hHeld ⊢
                refine pu_ (i := 0) (N := some 68) HT_ ?_; refine pu_ (i := 1) (N := some 69) HT_ ?_; refine pu_ (i := 2) (N := some 70) HT_ ?_; refine pu_ (i := 3) (N := some 71) HT_ ?_; refine pu_ (i := 4) (N := some 72) HT_ ?_; refine pu_ (i := 5) (N := some 73) HT_ ?_; refine pu_ (i := 6) (N := some 74) HT_ ?_; refine pu_ (i := 7) (N := some 75) HT_ ?_; refine pu_ (i := 8) (N := some 76) HT_ ?_; refine pu_ (i := 10) (N := some 78) HT_ ?_; refine tk_ (i := 9) (N := some 77) HT_ HW_ hHeld ?_; refine tk_ (i := 11) (N := some 79) HT_ HW_ hHeld ?_; refine pu_ (i := 12) (N := some 80) HT_ ?_; refine pu_ (i := 13) (N := some 81) HT_ ?_
                refine done_ (done_of HT_.out (by kernel_rfl)) ?_
                try go_wp2
                replace HO_8 := Aside0.mk (Kd.R_drew HO_8.out); replace HO_272002 := Aside0.mk (Kd.R_drew HO_272002.out); replace BK250 := Aside0.mk (blk_drew BK250.out); replace BK251 := Aside0.mk (blk_drew BK251.out); replace BK271 := Aside0.mk (blk_drew BK271.out); replace HB := (bd_ HB)
                have p273 : 0 ≤ (x11_3 : Int) := of_decide_eq_true (by first | (with_reducible assumption) | assumption)
                have q273 : x11_3 < (x8_2.length : Int) := of_decide_eq_true (by first | (with_reducible assumption) | assumption)
                obtain ⟨ad273, e273, hx273_0, hx273_1⟩ := at_T50 (Kd.R_reads' HO_8.out).2.2 x11_3 p273 q273
                obtain rfl : ad272 = ad273 := (by injection e273)
                replace p273 := eq_true p273
                replace q273 := eq_true q273
                refine start_ (n := 11) (S := fun w' => w'.cell? ⟨gb271, 0, none⟩ = some (.int .i64 x272000_3) ∧ w'.cell? ⟨gb271, 1, none⟩ = some (.int .i64 a0_1) ∧ w'.cell? ⟨gb271, 2, none⟩ = some (u272002) ∧ w'.cell? ⟨gb271, 3, none⟩ = some (.slice none 0 0) ∧ w'.cell? (ad272.add ((x11_3).toNat * 2)) = some (.int .i64 ((rd_T50 x8_2 x11_3).f0)) ∧ w'.cell? ⟨(ad272.add ((x11_3).toNat * 2)).block, (ad272.add ((x11_3).toNat * 2)).off + 1, none⟩ = some (.int .u8 ((rd_T50 x8_2 x11_3).f1))) (ds := [8, 10]) #[false, false, false, false, false, false, false, false, false, false, false] (by kernel_rfl) rfl rfl ⟨bc_ BK271 0, bc_ BK271 1, bc_ BK271 2, bc_ BK271 3, hx273_0, hx273_1⟩ (fun hHeld => ?_); refine with_tabW spec_EarHear.tab13 spec_EarHear.bits13 (fun HT_ HW_ => ?_)
                generalize w59.drew = w61 at HO_8 HO_272002 BK250 BK251 BK271 HB hx273_0 hx273_1 hHeld ⊢
                refine pu_ (i := 0) (N := some 82) HT_ ?_; refine pu_ (i := 2) (N := some 84) HT_ ?_; refine pu_ (i := 3) (N := some 85) HT_ ?_; refine pu_ (i := 4) (N := some 86) HT_ ?_; refine pu_ (i := 5) (N := some 87) HT_ ?_; refine tk_ (i := 1) (N := some 83) HT_ HW_ hHeld ?_; refine tk_ (i := 6) (N := some 88) HT_ HW_ hHeld ?_
                refine on_ (i := 7) (N := some 89) HT_ (fun K hK => ?_)
                refine value_ (w1 := ?_) (v := ?_) (by rfl) rfl ?_ ?_
                rotate_left 2
                ·go_simp
                 constructor
                 ·rfl
                 ·rfl
                refine hK.out _ _ ⟨(blk_cell (blk_alloc BK271.out _) 0).trans rfl, (blk_cell (blk_alloc BK271.out _) 1).trans rfl, (blk_cell (blk_alloc BK271.out _) 2).trans rfl, (blk_cell (blk_alloc BK271.out _) 3).trans rfl, (World.cell?_alloc_lt _ _ _ (World.block_lt_of_cell? _ _ (hHeld.2.2.2.2.1))).trans (hHeld.2.2.2.2.1), (World.cell?_alloc_lt _ _ _ (World.block_lt_of_cell? _ _ (hHeld.2.2.2.2.2))).trans (hHeld.2.2.2.2.2)⟩ (fun hHeld => ?_)
                clear hK K; refine nm_ 89 ?_
                refine last_ (i := 8) (N := some 90) #[true, true, true, true, true, true, true, true, true, false, false] rfl rfl (one_of HT_.out (by kernel_rfl)) (by decide) (fun K hK => ?_)
                refine Kd.R_append_step (Kd.int .u8) (w0 := w) w.heap.size (by rfl) (.tmp 83) (.tmp 89) 22 5 (.int .u8 0) 1 rfl Try.underlying22 info5 rfl (by decide) (by omega) u272002 x272002_3 ((rd_T50 x8_2 x11_3).f1) [.int .u8 ((rd_T50 x8_2 x11_3).f1)] (fun _ => True) (fun _ => False) rfl rfl ?aP (fun _ hk => hk.elim) ?aF ?aO ?aB ?aS ?aL ?_
                (case aP => exact rfl)
                (case aB => exact (hbA_ HB.out))
                (case aF => exact (fun _ _ => trivial))
                (case aO => exact (kR_ HO_272002.out))
                (case aS => exact (below_size (hbA_ HB.out)))
                (case aL => have := LMc58.out; omega)
                intro v275 w62 ho hb hg hat
                rw [← Ny274.out] at ho
                have n0_ := Aside0.mk (Kd.R_over' (kR_ HO_8.out) (Kd.R_typed (kR_ HO_272002.out)) (by decide) hg); have n1_ := (bgA_ BK250 hg (Kd.R_ne HO_272002.out BK250.out (by decide))); have n2_ := (bgA_ BK251 hg (Kd.R_ne HO_272002.out BK251.out (by decide))); have n3_ := (bgA_ BK271 hg (Kd.R_ne HO_272002.out BK271.out (by decide))); have n4_ := Aside0.mk (hb); have n5_ := Aside0.mk (ho); clear HO_8 BK250 BK251 BK271 HB HO_272002; have HO_8 := n0_; have BK250 := n1_; have BK251 := n2_; have BK271 := n3_; have HB := n4_; have HO276 := n5_; clear n0_ n1_ n2_ n3_ n4_ n5_ ho hb hg hat
                obtain ⟨Ao63, co63, eo63⟩ := Kd.R_slice HO276.out
                (first | subst eo63 | (injection eo63 with f1_ f2_ f3_; have f4_ := f1_.symm; have f5_ := f3_.symm; clear f1_ f2_ f3_; subst f4_; subst f5_))
                refine hK.out _ _ ?_
                clear hK K; refine nm_ 90 ?_; refine pu_ (i := 9) (N := some 91) HT_ ?_
                refine last_ (i := 10) (N := none) #[true, true, true, true, true, true, true, true, true, true, true] rfl rfl (one_of HT_.out (by kernel_rfl)) (by decide) (fun K hK => ?_)
                have hs64 : w62.cell? ⟨gb271, 2, none⟩ = some (u272002) := bc_ BK271 2
                have hfs64 := blk_frozen BK271.out 2
                have hns64_0 := NB250_271.out; have hns64_1 := NB251_271.out; have hms64_0 := NB271_250.out; have hms64_1 := NB271_251.out
                refine skip_ (w1 := ?_) (by rfl) rfl ?_ ?_
                rotate_left
                ·go_simp
                 rfl
                refine hK.out _ _ ?_
                clear hK K
                refine done_ (done_of HT_.out (by kernel_rfl)) ?_
                have hnb65 := NB271_250.out; have hnc65 := NB250_271.out; have hnb66 := NB271_251.out; have hnc66 := NB251_271.out; have Z67 := zz4 BK271
                try go_wp2
                go_roundg k3
                case measure => have := HJ3.out; have := HK2.out; have := HK3.out; omega
                case rel => exact ⟨(wrap64 (x11_3 + 1)), (wrap64 (x272000_3 + 1)), (y274), (.slice Ao63 y274.length co63), (by first | rfl | (simp; done) | (simp [*]; done)), H', ⟨by have := HJ3.out; have := HK2.out; have := HK3.out; omega⟩, ⟨by refine kR_ ?_; exact rfm_ ((Kd.R_types HO_8.out BK271.out (by decide))) (fun _ hk => trivial)⟩, ⟨by refine kR_ ?_; exact rfm_ ((Kd.R_types HO276.out BK271.out (by decide))) (fun _ hk => trivial)⟩, ⟨by exact kf_ BK250.out⟩, ⟨by exact kf_ BK251.out⟩, ⟨by refine kb_ ?_; refine blk_put (cs := #[.int .i64 x272000_3, .int .i64 a0_1, .slice Ao63 y274.length co63, .slice none 0 0]) ?_ 0 _ rfl; refine kb_ ?_; refine blk_put (cs := #[.int .i64 x272000_3, .int .i64 a0_1, u272002, .slice none 0 0]) ?_ 2 _ rfl; refine kb_ ?_; exact BK271.out⟩, ⟨hbA_ HB.out⟩⟩
               ·rw [if_neg c58] at H
                exact absurd H (by simp)
              ·rw [if_neg c57] at H
               have c57b0 : (((rd_T50 x8_2 x11_3).f0) == x272000_3) = false := beq_eq_false_iff_ne.mpr c57
               have c57b1 : (((rd_T50 x8_2 x11_3).f0) != x272000_3) = true := bne_iff_ne.mpr c57
               have H' := Aside0.mk H
               clear H
               try go_wp2
               replace HO_8 := Aside0.mk (Kd.R_drew HO_8.out); replace HO_272002 := Aside0.mk (Kd.R_drew HO_272002.out); replace BK250 := Aside0.mk (blk_drew BK250.out); replace BK251 := Aside0.mk (blk_drew BK251.out); replace BK271 := Aside0.mk (blk_drew BK271.out); replace HB := (bd_ HB)
               obtain ⟨Ao69, co69, eo69⟩ := Kd.R_slice HO_8.out
               (first | subst eo69 | (injection eo69 with f1_ f2_ f3_; have f4_ := f1_.symm; have f5_ := f3_.symm; clear f1_ f2_ f3_; subst f4_; subst f5_))
               have p272 : 0 ≤ (x11_3 : Int) := of_decide_eq_true (by first | (with_reducible assumption) | assumption)
               have q272 : x11_3 < (x8_2.length : Int) := of_decide_eq_true (by first | (with_reducible assumption) | assumption)
               obtain ⟨ad272, e272, hx272_0, hx272_1⟩ := at_T50 (Kd.R_reads' HO_8.out).2.2 x11_3 p272 q272
               cases e272
               replace p272 := eq_true p272
               replace q272 := eq_true q272
               refine start_ (n := 14) (S := fun w' => w'.cell? ⟨gb271, 0, none⟩ = some (.int .i64 x272000_3) ∧ w'.cell? ⟨gb271, 1, none⟩ = some (.int .i64 a0_1) ∧ w'.cell? ⟨gb271, 2, none⟩ = some (u272002) ∧ w'.cell? ⟨gb271, 3, none⟩ = some (.slice none 0 0) ∧ w'.cell? (ad272.add ((x11_3).toNat * 2)) = some (.int .i64 ((rd_T50 x8_2 x11_3).f0)) ∧ w'.cell? ⟨(ad272.add ((x11_3).toNat * 2)).block, (ad272.add ((x11_3).toNat * 2)).off + 1, none⟩ = some (.int .u8 ((rd_T50 x8_2 x11_3).f1))) (ds := []) #[false, false, false, false, false, false, false, false, false, false, false, false, false, false] (by kernel_rfl) rfl rfl ⟨bc_ BK271 0, bc_ BK271 1, bc_ BK271 2, bc_ BK271 3, hx272_0, hx272_1⟩ (fun hHeld => ?_); refine with_tabW spec_EarHear.tab12 spec_EarHear.bits12 (fun HT_ HW_ => ?_)
               generalize wr.drew = w68 at HO_8 HO_272002 BK250 BK251 BK271 HB hx272_0 hx272_1 hHeld ⊢
               refine pu_ (i := 0) (N := some 68) HT_ ?_; refine pu_ (i := 1) (N := some 69) HT_ ?_; refine pu_ (i := 2) (N := some 70) HT_ ?_; refine pu_ (i := 3) (N := some 71) HT_ ?_; refine pu_ (i := 4) (N := some 72) HT_ ?_; refine pu_ (i := 5) (N := some 73) HT_ ?_; refine pu_ (i := 6) (N := some 74) HT_ ?_; refine pu_ (i := 7) (N := some 75) HT_ ?_; refine pu_ (i := 8) (N := some 76) HT_ ?_; refine pu_ (i := 10) (N := some 78) HT_ ?_; refine tk_ (i := 9) (N := some 77) HT_ HW_ hHeld ?_; refine tk_ (i := 11) (N := some 79) HT_ HW_ hHeld ?_; refine pu_ (i := 12) (N := some 80) HT_ ?_; refine pu_ (i := 13) (N := some 81) HT_ ?_
               refine done_ (done_of HT_.out (by kernel_rfl)) ?_
               try go_wp2
               go_meet
               case rel => exact ⟨_, (x11_3), (x272000_3), (x272002_3), (u272002), (by first | rfl | (simp; done) | (simp [*]; done)), H', ⟨by have := HJ3.out; have := HK2.out; have := HK3.out; first | omega | exact Nat.le_refl _⟩, ⟨kR_ HO_8.out⟩, ⟨kR_ HO_272002.out⟩, ⟨by refine kb_ ?_; exact BK250.out⟩, ⟨by refine kb_ ?_; exact BK251.out⟩, ⟨by refine kb_ ?_; exact BK271.out⟩, ⟨hbA_ HB.out⟩⟩
             ·rw [if_neg c56] at H
              exact absurd H (by simp)
            ·rw [if_neg c55] at H
             have c55b0 : decide (x11_3 < (x8_2.length : Int)) = false := decide_eq_false c55
             clear c55
             (first | rw [c55b0] | (simp only [i64_w, i32_w]; rw [c55b0]) | skip)
             have H' := Aside0.mk H
             clear H
             try go_wp2
             replace HO_8 := Aside0.mk (Kd.R_drew HO_8.out); replace HO_272002 := Aside0.mk (Kd.R_drew HO_272002.out); replace BK250 := Aside0.mk (blk_drew BK250.out); replace BK251 := Aside0.mk (blk_drew BK251.out); replace BK271 := Aside0.mk (blk_drew BK271.out); replace HB := (bd_ HB)
             obtain ⟨Ao71, co71, eo71⟩ := Kd.R_slice HO_8.out
             (first | subst eo71 | (injection eo71 with f1_ f2_ f3_; have f4_ := f1_.symm; have f5_ := f3_.symm; clear f1_ f2_ f3_; subst f4_; subst f5_))
             refine start_ (n := 14) (S := fun w' => True) (ds := []) #[false, false, false, false, false, false, false, false, false, false, false, false, false, false] (by kernel_rfl) rfl rfl trivial (fun hHeld => ?_); refine with_tabW spec_EarHear.tab12 spec_EarHear.bits12 (fun HT_ HW_ => ?_)
             generalize wr.drew = w70 at HO_8 HO_272002 BK250 BK251 BK271 HB hHeld ⊢
             refine pu_ (i := 0) (N := some 68) HT_ ?_; refine pu_ (i := 1) (N := some 69) HT_ ?_; refine pu_ (i := 2) (N := some 70) HT_ ?_; refine pu_ (i := 3) (N := some 71) HT_ ?_; refine pu_ (i := 4) (N := some 72) HT_ ?_; refine pn_ (i := 5) (N := some 73) HT_ ?_; refine pn_ (i := 6) (N := some 74) HT_ ?_; refine pn_ (i := 7) (N := some 75) HT_ ?_; refine pn_ (i := 8) (N := some 76) HT_ ?_; refine pn_ (i := 9) (N := some 77) HT_ ?_; refine pn_ (i := 10) (N := some 78) HT_ ?_; refine pn_ (i := 11) (N := some 79) HT_ ?_; refine pn_ (i := 12) (N := some 80) HT_ ?_; refine pu_ (i := 13) (N := some 81) HT_ ?_
             refine done_ (done_of HT_.out (by kernel_rfl)) ?_
             try go_wp2
             go_meet
             case rel => exact ⟨_, (x11_3), (x272000_3), (x272002_3), (u272002), (by first | rfl | (simp; done) | (simp [*]; done)), H', ⟨by have := HJ3.out; have := HK2.out; have := HK3.out; first | omega | exact Nat.le_refl _⟩, ⟨kR_ HO_8.out⟩, ⟨kR_ HO_272002.out⟩, ⟨by refine kb_ ?_; exact BK250.out⟩, ⟨by refine kb_ ?_; exact BK251.out⟩, ⟨by refine kb_ ?_; exact BK271.out⟩, ⟨hbA_ HB.out⟩⟩
         case rest =>
          clear HC42; (try clear p2); (try clear q2); (try clear hx2); (try clear c5); (try clear c6); (try clear p6); (try clear p27); (try clear q27); (try clear hx27); (try clear c55); (try clear c55b0); (try clear c56); (try clear c57); (try clear c57b0); (try clear c57b1); (try clear c58); (try clear p64); (try clear c65); (try clear c66); (try clear Z67); (try clear hx272_0); (try clear hx272_1); (try clear hx273_0); (try clear hx273_1); (try clear p272); (try clear p273); (try clear q272); (try clear q273)
          obtain ⟨kq, x11_41, x272000_41, x272002_41, u272002, rfl, HA, HJ41, HO_8, HO_272002, BK250, BK251, BK271, HB⟩ := hcut
          cases kq with
          | zero => exact absurd HA.out (by simp [spec_EarHear.j3])
          | succ kj41 =>
           have H := HA.out; clear HA
           simp only [spec_EarHear.j3] at H
           by_cases c72 : 0 ≤ x11_41
           ·rw [if_pos c72] at H
            have c72b0 := eq_true c72
            have c72b1 : decide (0 ≤ x11_41) = true := decide_eq_true c72
            clear c72
            by_cases c73 : x11_41 ≤ (x8_2.length : Int)
            ·rw [if_pos c73] at H
             have c73b0 := eq_true c73
             have c73b1 : decide (x11_41 ≤ (x8_2.length : Int)) = true := decide_eq_true c73
             clear c73
             obtain ⟨y277, hy277⟩ : ∃ y_ : List (S50), y_ = (x8_2.drop (x11_41 : Int).toNat) := ⟨_, rfl⟩
             (first | replace H := sb_ hy277 H | rw [← hy277] at H)
             have Ny277 := Aside0.mk hy277; clear hy277
             by_cases c74 : x272000_41 > 1000000
             ·rw [if_pos c74] at H
              have c74b0 : decide (1000000 < x272000_41) = true := decide_eq_true c74
              clear c74
              simp only [Option.some.injEq, Prod.mk.injEq] at H
              obtain ⟨rfl, rfl, rfl, rfl⟩ := H
              obtain ⟨Ao75, co75, eo75⟩ := Kd.R_slice HO_8.out
              subst eo75
              have q76 : (x11_41 : Int) ≤ ((x8_2.length : Int) : Int) := of_decide_eq_true (by first | (with_reducible assumption) | assumption)
              obtain ⟨i076, hi076, _, hsz76, _⟩ := info_parts info50
              have hcut76 := cut_from (P := Try.prog) 27 50 .i64 Try.underlying27 hi076 2 hsz76 Ao75 x8_2.length co75 x11_41 (of_decide_eq_true (by first | (with_reducible assumption) | assumption)) q76
              have hr76 := Kd.Q_drop (k := (x11_41 : Int).toNat) (Kd.Q_of_R HO_8.out) (by omega)
              obtain ⟨A76, hA76⟩ : ∃ A1, A1 = (if co75 = (x11_41 : Int).toNat then Ao75 else (Ao75 : Option Addr).map (·.add ((x11_41 : Int).toNat * 2))) := ⟨_, rfl⟩
              obtain ⟨c76, hc76⟩ : ∃ c1, c1 = co75 - (x11_41 : Int).toNat := ⟨_, rfl⟩
              have hy76 : y277.length = x8_2.length - (x11_41 : Int).toNat := (by rw [Ny277.out, List.length_drop])
              rw [← Ny277.out] at hr76
              rw [← hy76, ← hA76, ← hc76] at hcut76
              replace hr76 : Kd.Q k50 50 wc w.heap.size (fun _ => True) (.slice A76 y277.length c76) y277 := (by rw [hA76, hc76, hy76]; exact hr76)
              have HE76 : Aside0 ((Value.slice A76 y277.length c76).ownBlock = (.slice Ao75 x8_2.length co75 : Value).ownBlock) := ⟨by rw [hA76]; split <;> (cases (Ao75 : Option Addr) <;> first | rfl | simp [Value.ownBlock, add_block])⟩
              clear hy76 hi076 hsz76 HO_8 hA76 hc76; have HO279 := Aside0.mk hr76; clear hr76
              replace q76 := eq_true q76
              have hnb77 := NB271_250.out; have hnc77 := NB250_271.out; have hnb78 := NB271_251.out; have hnc78 := NB251_271.out; have Z79 := zz4 BK271; have hnb80 := NB251_250.out; have hnc80 := NB250_251.out; have Z81 := zz4 BK251
              go_wp2
              refine bodyPost_ret (results_cell_row rfl _ _ gb251 29 #[.int .i64 0, .int .i64 0, .slice none 0 0, .slice none 0 0] (0, 0) _ rfl (by refine kb_ ?_; refine pz4 (cs := #[.int .i64 0, .int .i64 0, .slice none 0 0, .slice none 0 0]) ?_; exact kf_ BK251.out) Try.underlying29 rfl (by kernel_rfl)) rfl ?_
              exact ⟨_, _, by first | rfl | (simp [errW_none, errW_some] <;> rfl) | (simp [*, errW_none, errW_some] <;> rfl), by first | exact Kd.R_nil _ _ _ _ _ | exact Kd.N_nil _ _ _ _ _ | exact Kd.V_nil _ _ _ _ _ | exact Kd.Q_nil _ _ _ _ _ | exact Kd.S_nil _ _ _ _ _, Kd.Q_of_R (by first | exact Kd.R_nil _ _ _ _ _ | exact Kd.N_nil _ _ _ _ _ | exact Kd.V_nil _ _ _ _ _ | exact Kd.Q_nil _ _ _ _ _ | exact Kd.S_nil _ _ _ _ _), hbA_ HB.out⟩
             ·rw [if_neg c74] at H
              have c74b0 : decide (1000000 < x272000_41) = false := decide_eq_false c74
              clear c74
              simp only [Option.some.injEq, Prod.mk.injEq] at H
              obtain ⟨rfl, rfl, rfl, rfl⟩ := H
              obtain ⟨Ao82, co82, eo82⟩ := Kd.R_slice HO_8.out
              subst eo82
              have q83 : (x11_41 : Int) ≤ ((x8_2.length : Int) : Int) := of_decide_eq_true (by first | (with_reducible assumption) | assumption)
              obtain ⟨i083, hi083, _, hsz83, _⟩ := info_parts info50
              have hcut83 := cut_from (P := Try.prog) 27 50 .i64 Try.underlying27 hi083 2 hsz83 Ao82 x8_2.length co82 x11_41 (of_decide_eq_true (by first | (with_reducible assumption) | assumption)) q83
              have hr83 := Kd.Q_drop (k := (x11_41 : Int).toNat) (Kd.Q_of_R HO_8.out) (by omega)
              obtain ⟨A83, hA83⟩ : ∃ A1, A1 = (if co82 = (x11_41 : Int).toNat then Ao82 else (Ao82 : Option Addr).map (·.add ((x11_41 : Int).toNat * 2))) := ⟨_, rfl⟩
              obtain ⟨c83, hc83⟩ : ∃ c1, c1 = co82 - (x11_41 : Int).toNat := ⟨_, rfl⟩
              have hy83 : y277.length = x8_2.length - (x11_41 : Int).toNat := (by rw [Ny277.out, List.length_drop])
              rw [← Ny277.out] at hr83
              rw [← hy83, ← hA83, ← hc83] at hcut83
              replace hr83 : Kd.Q k50 50 wc w.heap.size (fun _ => True) (.slice A83 y277.length c83) y277 := (by rw [hA83, hc83, hy83]; exact hr83)
              have HE83 : Aside0 ((Value.slice A83 y277.length c83).ownBlock = (.slice Ao82 x8_2.length co82 : Value).ownBlock) := ⟨by rw [hA83]; split <;> (cases (Ao82 : Option Addr) <;> first | rfl | simp [Value.ownBlock, add_block])⟩
              clear hy83 hi083 hsz83 HO_8 hA83 hc83; have HO279 := Aside0.mk hr83; clear hr83
              replace q83 := eq_true q83
              have hnb84 := NB271_250.out; have hnc84 := NB250_271.out; have hnb85 := NB271_251.out; have hnc85 := NB251_271.out; have Z86 := zz4 BK271; have hnb87 := NB251_250.out; have hnc87 := NB250_251.out; have Z88 := zz4 BK251
              obtain ⟨Ao89, co89, eo89⟩ := Kd.R_slice HO_272002.out
              subst eo89
              go_wp2
              refine bodyPost_ret (results_cell_row rfl _ _ gb251 29 #[.int .i64 x272000_41, .int .i64 a0_1, .slice Ao89 x272002_41.length co89, .slice A83 y277.length c83] (0, 0) _ rfl (by refine kb_ ?_; refine pz4 (cs := #[.int .i64 0, .int .i64 0, .slice none 0 0, .slice none 0 0]) ?_; exact kf_ BK251.out) Try.underlying29 rfl (by kernel_rfl)) rfl ?_
              exact ⟨_, _, by first | rfl | (simp [errW_none, errW_some] <;> rfl) | (simp [*, errW_none, errW_some] <;> rfl), by refine kR_ ?_; exact rfm_ ((Kd.R_far (p := ⟨gb271, 3, none⟩) (Kd.R_types (Kd.R_types HO_272002.out BK271.out (by decide)) BK251.out (by decide)) (fun _ hk => hk.1.2) (.slice A83 y277.length c83))) (fun _ hk => trivial), by (with_reducible repeat (first | apply Kd.Q_alloc | apply Kd.Q_drewN | apply Kd.Q_drew)); exact Kd.Q_mono (Kd.Q_far (p := ⟨gb251, 3, none⟩) (Kd.Q_far (p := ⟨gb251, 2, none⟩) (Kd.Q_far (p := ⟨gb251, 1, none⟩) (Kd.Q_far (p := ⟨gb251, 0, none⟩) (Kd.Q_far (p := ⟨gb271, 3, none⟩) (Kd.Q_types (Kd.Q_types HO279.out BK271.out (by decide)) BK251.out (by decide)) (fun _ hk => hk.1.2) (.slice A83 y277.length c83)) (fun _ hk => hk.2) (.int .i64 x272000_41)) (fun _ hk => hk.2) (.int .i64 a0_1)) (fun _ hk => hk.2) (.slice Ao89 x272002_41.length co89)) (fun _ hk => hk.2) (.slice A83 y277.length c83)) (fun _ hk => trivial), hbA_ HB.out⟩
            ·rw [if_neg c73] at H
             exact absurd H (by simp)
           ·rw [if_neg c72] at H
            exact absurd H (by simp)
        ·rw [if_neg c41] at H
         exact absurd H (by simp)
    ·rw [if_neg c20] at H
     exact absurd H (by simp)
end Go.Proofs.Ytgemkjclamlmbaa.PFnListening
