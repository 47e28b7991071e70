/- Printed by wip/xp/xprint.sh out of the translation, for this claim: what each function answers, as a plain function, and that the machine does just that. No condition. -/
import Derived.Test.YtpbeljcgcdilnaaPFnSegmentFromx0
import Derived.Test.YtpbeljcgcdilnaaPFnSegmentFromx2
namespace Go.Proofs.Ytpbeljcgcdilnaa.PFnSegmentFrom
open Go.RowKit Go.Proofs.YtpbeljcgcdilnaaW.PrintWords Go.Proofs.YtpbeljcgcdilnaaW.PrintLast Go.Proofs.YtpbeljcgcdilnaaW.PrintMore
attribute [local go_sem] max2_int min2_int max_two min_two max_three min_three max_four min_four   -- for this text's walks alone
set_option linter.unusedVariables false
set_option linter.unusedSimpArgs false
mutual
def spec_l1Sum.l0 : Nat → List Int → Int → Int → Option (Int)
 | 0, _, _, _ => none
 | k + 1, x0, x3, x4 => if x4 < (x0.length : Int) then (if (Int.tmod x4 2) = 0 then (if 0 ≤ x4 then (spec_l1Sum.j1 k x0 (wrap64 (x3 + (wrap64 ((wrap64 (rd x0 x4)) * 256)))) x4) else (none)) else (if 0 ≤ x4 then (spec_l1Sum.j1 k x0 (wrap64 (x3 + (wrap64 (rd x0 x4)))) x4) else (none))) else (some x3)
def spec_l1Sum.j1 : Nat → List Int → Int → Int → Option (Int)
 | 0, _, _, _ => none
 | k + 1, x0, x3, x4 => if x3 > 65535 then (spec_l1Sum.l0 k x0 (wrap64 (x3 - 65535)) (wrap64 (x4 + 1))) else (spec_l1Sum.l0 k x0 x3 (wrap64 (x4 + 1)))
end
def spec_l1Sum.f (k : Nat) (l0 : List Int) : Option (Int) := spec_l1Sum.l0 k l0 0 0
theorem spec_l1Sum.mono_l : ∀ k, (∀ y0 y1 y2, LeO (spec_l1Sum.l0 k y0 y1 y2) (spec_l1Sum.l0 (k + 1) y0 y1 y2)) ∧ (∀ y0 y1 y2, LeO (spec_l1Sum.j1 k y0 y1 y2) (spec_l1Sum.j1 (k + 1) y0 y1 y2))
 | 0 => ⟨fun _ _ _ r h => by simp [spec_l1Sum.l0] at h, fun _ _ _ r h => by simp [spec_l1Sum.j1] at h⟩
 | k + 1 => by
  obtain ⟨ih0, ih1⟩ := spec_l1Sum.mono_l k
  refine ⟨?_, ?_⟩
  ·intro y0 y1 y2
   unfold spec_l1Sum.l0
   repeat' first | (with_reducible first | apply ih0 | apply ih1 | exact LeO.refl _ | exact LeO.none _ | refine LeO.ite ?_ ?_ | refine LeO.bind ?_ fun _ => ?_) | apply ih0 | apply ih1 | exact LeO.none _ | refine LeO.ite ?_ ?_ | refine LeO.bind ?_ fun _ => ?_
  ·intro y0 y1 y2
   unfold spec_l1Sum.j1
   repeat' first | (with_reducible first | apply ih0 | apply ih1 | exact LeO.refl _ | exact LeO.none _ | refine LeO.ite ?_ ?_ | refine LeO.bind ?_ fun _ => ?_) | apply ih0 | apply ih1 | exact LeO.none _ | refine LeO.ite ?_ ?_ | refine LeO.bind ?_ fun _ => ?_
theorem spec_l1Sum.mono : ∀ a0 k, LeO (spec_l1Sum.f k a0) (spec_l1Sum.f (k + 1) a0) := by
 intro a0 k
 obtain ⟨ih0, ih1⟩ := spec_l1Sum.mono_l k
 unfold spec_l1Sum.f
 repeat' first | (with_reducible first | apply ih0 | apply ih1 | exact LeO.refl _ | exact LeO.none _ | refine LeO.ite ?_ ?_ | refine LeO.bind ?_ fun _ => ?_) | apply ih0 | apply ih1 | exact LeO.none _ | refine LeO.ite ?_ ?_ | refine LeO.bind ?_ fun _ => ?_
set_option maxHeartbeats 8000000 in
set_option maxRecDepth 100000 in
theorem spec_l1Sum.calls (k : Nat) (A0 : Option Addr) (c0 : Nat) (l0 : List Int) (r : Int) (w : World) (hr0 : Kd.C (Kd.int .u8) w A0 l0.length l0) (hc0 : l0.length ≤ c0) (h : spec_l1Sum.f k l0 = some r) :
  Calls Try.prog 106 #[.slice A0 l0.length c0] w fun e w' => e = .returned (.int .i64 r) ∧ Drawn0 w w' := by
 have HR0 := Aside0.mk hr0; have HC0 := Aside0.mk hc0; clear hr0 hc0
 have H : (spec_l1Sum.l0 k l0 0 0) = some r := h
 clear h
 have H' := Aside0.mk H
 clear H
 go_enter Try.func106, Try.ntmps106
 go_wp2
 go_loopg [3, 4] k (fun kq v3 v4 w' => ∃ (x3_1 : Int) (x4_1 : Int), v3 = .int .i64 x3_1 ∧ v4 = .int .i64 x4_1 ∧ Aside0 (spec_l1Sum.l0 kq l0 x3_1 x4_1 = some r) ∧ Aside0 (kq ≤ k) ∧ Drawn0 w w')
 case atStart => exact ⟨(0), (0), (by first | rfl | (simp; done) | (simp [*]; done)), (by first | rfl | (simp; done) | (simp [*]; done)), H', ⟨Nat.le_refl _⟩, by repeat (first | exact Drawn0.refl _ | apply Drawn0.step)⟩
 case round =>
  clear H'; (try clear c1)
  obtain ⟨x3_1, x4_1, rfl, rfl, HA, HK1, ⟨m1, rfl⟩⟩ := hrel
  cases gk with
  | zero => exact absurd HA.out (by simp [spec_l1Sum.l0])
  | succ k1 =>
   have H := HA.out; clear HA
   simp only [spec_l1Sum.l0] at H
   by_cases c2 : x4_1 < (l0.length : Int)
   ·rw [if_pos c2] at H
    have c2b0 : decide (x4_1 < (l0.length : Int)) = true := decide_eq_true c2
    clear c2; have HC3 := Aside0.mk H; clear H
    go_upto_if 13 with (fail)
    go_cut [3] (fun v3 wc => ∃ (kq : Nat) (x3_2 : Int), v3 = .int .i64 x3_2 ∧ Aside0 (spec_l1Sum.j1 kq l0 x3_2 x4_1 = some r) ∧ Aside0 (kq ≤ k1) ∧ Drawn0 w wc)
    case first =>
     have H := HC3.out; clear HC3
     by_cases c4 : (Int.tmod x4_1 2) = 0
     ·rw [if_pos c4] at H
      have c4b0 : ((Int.tmod x4_1 2) == 0) = true := beq_iff_eq.mpr c4
      have c4b1 : ((Int.tmod x4_1 2) != 0) = false := bne_eq_false_iff_eq.mpr c4
      clear c4
      (first | rw [c4b0] | (simp only [i64_w, i32_w]; rw [c4b0]) | skip)
      by_cases c5 : 0 ≤ x4_1
      ·rw [if_pos c5] at H
       have c5b0 : decide (0 ≤ x4_1) = true := decide_eq_true c5
       clear c5
       have H' := Aside0.mk H
       clear H
       have p140 : 0 ≤ (x4_1 : Int) := of_decide_eq_true (by first | (with_reducible assumption) | assumption)
       have q140 : x4_1 < (l0.length : Int) := of_decide_eq_true (by first | (with_reducible assumption) | assumption)
       obtain ⟨ad140, e140, hx140_0⟩ := Kd.at_int HR0.out x4_1 p140 q140
       cases e140
       replace p140 := eq_true p140
       replace q140 := eq_true q140
       go_wp2
       go_meet
       case rel => exact ⟨_, (wrap64 (x3_1 + (wrap64 ((wrap64 (rd l0 x4_1)) * 256)))), (by first | rfl | (simp; done) | (simp [*]; done)), H', ⟨by have := HK1.out; first | omega | exact Nat.le_refl _⟩, by repeat (first | exact Drawn0.refl _ | apply Drawn0.step)⟩
      ·rw [if_neg c5] at H
       exact absurd H (by simp)
     ·rw [if_neg c4] at H
      have c4b0 : ((Int.tmod x4_1 2) == 0) = false := beq_eq_false_iff_ne.mpr c4
      have c4b1 : ((Int.tmod x4_1 2) != 0) = true := bne_iff_ne.mpr c4
      (first | rw [c4b0] | (simp only [i64_w, i32_w]; rw [c4b0]) | skip)
      by_cases c6 : 0 ≤ x4_1
      ·rw [if_pos c6] at H
       have c6b0 : decide (0 ≤ x4_1) = true := decide_eq_true c6
       clear c6
       have H' := Aside0.mk H
       clear H
       have p141 : 0 ≤ (x4_1 : Int) := of_decide_eq_true (by first | (with_reducible assumption) | assumption)
       have q141 : x4_1 < (l0.length : Int) := of_decide_eq_true (by first | (with_reducible assumption) | assumption)
       obtain ⟨ad141, e141, hx141_0⟩ := Kd.at_int HR0.out x4_1 p141 q141
       cases e141
       replace p141 := eq_true p141
       replace q141 := eq_true q141
       go_wp2
       go_meet
       case rel => exact ⟨_, (wrap64 (x3_1 + (wrap64 (rd l0 x4_1)))), (by first | rfl | (simp; done) | (simp [*]; done)), H', ⟨by have := HK1.out; first | omega | exact Nat.le_refl _⟩, by repeat (first | exact Drawn0.refl _ | apply Drawn0.step)⟩
      ·rw [if_neg c6] at H
       exact absurd H (by simp)
    case rest =>
     clear HC3; (try clear c1); (try clear p1); (try clear q1); (try clear hx1); (try clear c2); (try clear c2b0); (try clear p2); (try clear c4); (try clear c4b0); (try clear c4b1); (try clear c5); (try clear c5b0); (try clear c6); (try clear c6b0); (try clear p6); (try clear hx140_0); (try clear hx141_0); (try clear p140); (try clear p141); (try clear q140); (try clear q141)
     obtain ⟨kq, x3_2, rfl, HA, HJ2, ⟨mc2, rfl⟩⟩ := hcut
     cases kq with
     | zero => exact absurd HA.out (by simp [spec_l1Sum.j1])
     | succ kj2 =>
      have H := HA.out; clear HA
      simp only [spec_l1Sum.j1] at H
      by_cases c7 : x3_2 > 65535
      ·rw [if_pos c7] at H
       have c7b0 : decide (65535 < x3_2) = true := decide_eq_true c7
       clear c7
       have H' := Aside0.mk H
       clear H
       go_wp2
       go_roundg kj2
       case measure => have := HK1.out; have := HJ2.out; omega
       case rel => exact ⟨(wrap64 (x3_2 - 65535)), (wrap64 (x4_1 + 1)), (by first | rfl | (simp; done) | (simp [*]; done)), (by first | rfl | (simp; done) | (simp [*]; done)), H', ⟨by have := HK1.out; have := HJ2.out; omega⟩, by repeat (first | exact Drawn0.refl _ | apply Drawn0.step)⟩
      ·rw [if_neg c7] at H
       have c7b0 : decide (65535 < x3_2) = false := decide_eq_false c7
       clear c7
       have H' := Aside0.mk H
       clear H
       go_wp2
       go_roundg kj2
       case measure => have := HK1.out; have := HJ2.out; omega
       case rel => exact ⟨(x3_2), (wrap64 (x4_1 + 1)), (by first | rfl | (simp; done) | (simp [*]; done)), (by first | rfl | (simp; done) | (simp [*]; done)), H', ⟨by have := HK1.out; have := HJ2.out; omega⟩, by repeat (first | exact Drawn0.refl _ | apply Drawn0.step)⟩
   ·rw [if_neg c2] at H
    have c2b0 : decide (x4_1 < (l0.length : Int)) = false := decide_eq_false c2
    clear c2
    obtain rfl := Option.some.inj H
    go_wp2
    go_ret
    exact ⟨by first | rfl | (simp; done) | (simp [*]; done), by repeat (first | exact Drawn0.refl _ | apply Drawn0.step)⟩
def spec_SumOf.f (k : Nat) (l0 : List Int) : Option (Int) := (spec_l1Sum.f k l0).bind fun t142 => (some (wrap64 (65535 - t142)))
theorem spec_SumOf.mono : ∀ a0 k, LeO (spec_SumOf.f k a0) (spec_SumOf.f (k + 1) a0) := by
 intro a0 k
 unfold spec_SumOf.f
 repeat' first | (with_reducible first | apply spec_l1Sum.mono | exact LeO.refl _ | exact LeO.none _ | refine LeO.ite ?_ ?_ | refine LeO.bind ?_ fun _ => ?_) | apply spec_l1Sum.mono | exact LeO.none _ | refine LeO.ite ?_ ?_ | refine LeO.bind ?_ fun _ => ?_
set_option maxHeartbeats 8000000 in
set_option maxRecDepth 100000 in
theorem spec_SumOf.calls (k : Nat) (A0 : Option Addr) (c0 : Nat) (l0 : List Int) (r : Int) (w : World) (hr0 : Kd.C (Kd.int .u8) w A0 l0.length l0) (hc0 : l0.length ≤ c0) (h : spec_SumOf.f k l0 = some r) :
  Calls Try.prog 91 #[.slice A0 l0.length c0] w fun e w' => e = .returned (.int .i64 r) ∧ Drawn0 w w' := by
 have HR0 := Aside0.mk hr0; have HC0 := Aside0.mk hc0; clear hr0 hc0
 have H : ((spec_l1Sum.f k l0).bind fun t142 => (some (wrap64 (65535 - t142)))) = some r := h
 clear h
 replace H := Option.bind_eq_some_iff.mp H
 obtain ⟨t142, A20, H⟩ := H
 (try dsimp only at H)
 have A2 := Aside0.mk A20; clear A20
 obtain rfl := Option.some.inj H
 go_enter Try.func91, Try.ntmps91
 go_wp2_with (first | ((with_reducible refine gate_callee (f := 106) rfl ?_); refine goesL_ (some 4) rfl rfl Try.func106 (by kernel_rfl) rfl #[.slice A0 l0.length c0] rfl ar_ ?_; (with_reducible refine (spec_l1Sum.calls k _ _ l0 t142 _ ?side1 ?side2 A2.out).mono ?_); (case side1 => exact kC_ HR0.out); (case side2 => exact HC0.out); rintro e w' ⟨rfl, ⟨nd, rfl⟩⟩; refine ⟨_, rfl, ?_⟩))
 go_ret
 exact ⟨by first | rfl | (simp; done) | (simp [*]; done), by repeat (first | exact Drawn0.refl _ | apply Drawn0.step)⟩
def spec_l9Sum.f (k : Nat) (a0 : Int) (a1 : Int) (l2 : List Int) : Option (Int) := (spec_BytesOf.f k a0 2).bind fun t143 => ((spec_BytesOf.f k a1 2).bind fun t146 => (if t143.length + t146.length < 140737488355328 then ((some (t143 ++ t146 : List Int)).bind fun y149 => (if y149.length + l2.length < 140737488355328 then ((spec_SumOf.f k (y149 ++ l2)).bind fun t155 => (some t155)) else (none))) else (none)))
theorem spec_l9Sum.mono : ∀ a0 a1 a2 k, LeO (spec_l9Sum.f k a0 a1 a2) (spec_l9Sum.f (k + 1) a0 a1 a2) := by
 intro a0 a1 a2 k
 unfold spec_l9Sum.f
 repeat' first | (with_reducible first | apply spec_BytesOf.mono | apply spec_SumOf.mono | exact LeO.refl _ | exact LeO.none _ | refine LeO.ite ?_ ?_ | refine LeO.bind ?_ fun _ => ?_) | apply spec_BytesOf.mono | apply spec_SumOf.mono | exact LeO.none _ | refine LeO.ite ?_ ?_ | refine LeO.bind ?_ fun _ => ?_
set_option maxHeartbeats 8000000 in
set_option maxRecDepth 100000 in
theorem spec_l9Sum.calls (k : Nat) (a0 : Int) (a1 : Int) (A2 : Option Addr) (c2 : Nat) (l2 : List Int) (r : Int) (w : World) (hr2 : Kd.C (Kd.int .u8) w A2 l2.length l2) (hc2 : l2.length ≤ c2) (h : spec_l9Sum.f k a0 a1 l2 = some r) :
  Calls Try.prog 60 #[.int .i64 a0, .int .i64 a1, .slice A2 l2.length c2] w fun e w' => e = .returned (.int .i64 r) ∧ Below w.heap.size w w' := by
 have HR2 := Aside0.mk hr2; have HC2 := Aside0.mk hc2; clear hr2 hc2
 have HB := Aside0.mk (Below.refl w.heap.size w)
 have H : ((spec_BytesOf.f k a0 2).bind fun t143 => ((spec_BytesOf.f k a1 2).bind fun t146 => (if t143.length + t146.length < 140737488355328 then ((some (t143 ++ t146 : List Int)).bind fun y149 => (if y149.length + l2.length < 140737488355328 then ((spec_SumOf.f k (y149 ++ l2)).bind fun t155 => (some t155)) else (none))) else (none)))) = some r := h
 clear h
 replace H := Option.bind_eq_some_iff.mp H
 obtain ⟨t143, A40, H⟩ := H
 (try dsimp only at H)
 have A4 := Aside0.mk A40; clear A40
 replace H := Option.bind_eq_some_iff.mp H
 obtain ⟨t146, A50, H⟩ := H
 (try dsimp only at H)
 have A5 := Aside0.mk A50; clear A50
 by_cases c6 : t143.length + t146.length < 140737488355328
 ·rw [if_pos c6] at H
  have LMc6 := Aside0.mk c6; clear c6
  obtain ⟨y149, hy149⟩ : ∃ y_ : List Int, y_ = (t143 ++ t146) := ⟨_, rfl⟩
  (first | replace H := sb_ hy149 H | rw [← hy149] at H)
  have Ny149 := Aside0.mk hy149; clear hy149
  by_cases c7 : y149.length + l2.length < 140737488355328
  ·rw [if_pos c7] at H
   have LMc7 := Aside0.mk c7; clear c7
   obtain ⟨y152, hy152⟩ : ∃ y_ : List Int, y_ = (y149 ++ l2) := ⟨_, rfl⟩
   (first | replace H := sb_ hy152 H | rw [← hy152] at H)
   have Ny152 := Aside0.mk hy152; clear hy152
   replace H := Option.bind_eq_some_iff.mp H
   obtain ⟨t155, A80, H⟩ := H
   (try dsimp only at H)
   have A8 := Aside0.mk A80; clear A80
   obtain rfl := Option.some.inj H
   go_enter Try.func60, Try.ntmps60
   go_wp2_with (first | ((with_reducible refine gate_callee (f := 75) rfl ?_); refine goesL_ (some 8) rfl rfl Try.func75 (by kernel_rfl) rfl #[.int .i64 a0, .int .i64 2] rfl ar_ ?_; (with_reducible refine (spec_BytesOf.calls k a0 2 t143 _ A4.out).mono ?_); rintro e w9 ⟨v144, rfl, ho0, hb⟩; refine ⟨_, rfl, ?_⟩; have HO145 := Aside0.mk (Kd.R_lower ho0 (below_size (hbA_ HB.out))); replace HB := (bs_ HB hb); (try clear hb); (try clear hb2); (try clear hk); (try clear hi); (try clear ho0)) | ((with_reducible refine gate_callee (f := 75) rfl ?_); refine goesL_ (some 10) rfl rfl Try.func75 (by kernel_rfl) rfl #[.int .i64 a1, .int .i64 2] rfl ar_ ?_; (with_reducible refine (spec_BytesOf.calls k a1 2 t146 _ A5.out).mono ?_); rintro e w10 ⟨v147, rfl, ho0, hb⟩; refine ⟨_, rfl, ?_⟩; have HO148 := Aside0.mk (Kd.R_lower (Kd.R_new' ho0 (Kd.R_lt (kR_ HO145.out))) (below_size (hbA_ HB.out))); replace HO145 := Aside0.mk (Kd.R_elder' (kR_ HO145.out) (Kd.R_base ho0) hb); replace HB := (bs_ HB hb); (try clear hb); (try clear hb2); (try clear hk); (try clear hi); (try clear ho0); obtain ⟨Ao12, co12, eo12⟩ := Kd.R_slice HO148.out; subst eo12) | ((with_reducible refine gate_builtin (b := .append) (xs := #[.tmp 8, .tmp 10]) rfl ?_); at_builtin; refine Kd.R_append_rows (Kd.int .u8) (w0 := w) w.heap.size rfl (.tmp 8) (.tmp 10) 22 5 (.int .u8 0) 1 rfl Try.underlying22 info5 rfl (by decide) (by omega) v144 t143 t146 _ _ _ (fun k_ => some k_ ≠ (.slice Ao12 t146.length co12 : Value).ownBlock) (fun _ => False) rfl rfl ?aO ?aR (fun _ _ h => h) (fun _ h => h.elim) ?aF ?aB ?aS ?aL ?_; (case aR => exact kC_ (Kd.R_reads' HO148.out).2.2); (case aB => exact (hbA_ HB.out)); (case aF => exact (fun k_ hk => Kd.fresh' (Kd.R_lt (kR_ HO148.out)) k_ hk)); (case aO => exact (by refine kR_ ?_; first | exact Kd.R_mono HO145.out (fun _ hk => hk.2) | exact Kd.R_mono HO145.out (fun _ _ => trivial))); (case aS => exact (below_size (hbA_ HB.out))); (case aL => have := LMc6.out; omega); intro v150 w11 ho hb hg hat; rw [← Ny149.out] at ho; replace HO148 := Aside0.mk (Kd.R_after (ok := (fun _ => True)) (kR_ HO148.out) hg hat); replace HB := Aside0.mk (hb); have HO151 := Aside0.mk (ho); clear HO145; clear ho hb hg hat) | ((with_reducible refine gate_builtin (b := .append) (xs := #[.tmp 11, .tmp 12]) rfl ?_); at_builtin; refine Kd.R_append_rows (Kd.int .u8) (w0 := w) w.heap.size rfl (.tmp 11) (.tmp 12) 22 5 (.int .u8 0) 1 rfl Try.underlying22 info5 rfl (by decide) (by omega) v150 y149 l2 _ _ _ (fun k_ => some k_ ≠ (.slice Ao12 t146.length co12 : Value).ownBlock) (fun _ => False) rfl rfl ?aO ?aR (fun _ _ h => h) (fun _ h => h.elim) ?aF ?aB ?aS ?aL ?_; (case aR => exact kC_ (Kd.C_below HR2.out HB.out)); (case aB => exact (hbA_ HB.out)); (case aF => exact (fun k_ hk => Kd.fresh' (Kd.R_lt (kR_ HO148.out)) k_ hk)); (case aO => exact (kR_ HO151.out)); (case aS => exact (below_size (hbA_ HB.out))); (case aL => have := LMc7.out; omega); intro v153 w13 ho hb hg hat; rw [← Ny152.out] at ho; replace HO148 := Aside0.mk (Kd.R_after (ok := (fun _ => True)) (kR_ HO148.out) hg hat); replace HB := Aside0.mk (hb); have HO154 := Aside0.mk (ho); clear HO151; clear ho hb hg hat; obtain ⟨Ao14, co14, eo14⟩ := Kd.R_slice HO154.out; subst eo14) | ((with_reducible refine gate_callee (f := 91) rfl ?_); refine goesL_ (some 14) rfl rfl Try.func91 (by kernel_rfl) rfl #[.slice Ao14 y152.length co14] rfl ar_ ?_; (with_reducible refine (spec_SumOf.calls k _ _ y152 t155 _ ?side1 ?side2 A8.out).mono ?_); (case side1 => exact kC_ (Kd.R_reads' HO154.out).2.2); (case side2 => exact (Kd.R_reads' HO154.out).2.1); rintro e w' ⟨rfl, ⟨nd, rfl⟩⟩; refine ⟨_, rfl, ?_⟩))
   go_ret
   exact ⟨by first | rfl | (simp [errW_none, errW_some] <;> rfl) | (simp [*, errW_none, errW_some] <;> rfl), hbA_ HB.out⟩
  ·rw [if_neg c7] at H
   exact absurd H (by simp)
 ·rw [if_neg c6] at H
  exact absurd H (by simp)
end Go.Proofs.Ytpbeljcgcdilnaa.PFnSegmentFrom
