/- Printed by wip/xp/xprint.sh out of the translation, for this claim: what each function answers, as a plain function, and that the machine does just that. No condition. -/
import Derived.Test.YtbhofhdmbbipgaaPFnExactEarHearx0
namespace Go.Proofs.Ytbhofhdmbbipgaa.PFnExactEarHear
open Go.RowKit Go.Proofs.YtbhofhdmbbipgaaW.PrintWords Go.Proofs.YtbhofhdmbbipgaaW.PrintLast Go.Proofs.YtbhofhdmbbipgaaW.PrintMore
attribute [local go_sem] max2_int min2_int max_two min_two max_three min_three max_four min_four   -- for this text's walks alone
set_option linter.unusedVariables false
set_option linter.unusedSimpArgs false
def laws_eqByteS.l0 : Nat → List Int → List Int → Int → Option (Bool)
 | 0, _, _, _ => none
 | k + 1, x0, x1, x5 => if x5 < (x0.length : Int) then (if 0 ≤ x5 then (if x5 < (x1.length : Int) then (if (rd x0 x5) = (rd x1 x5) then (laws_eqByteS.l0 k x0 x1 (wrap64 (x5 + 1))) else (some false)) else (none)) else (none)) else (some true)
def laws_eqByteS.f (k : Nat) (l0 : List Int) (l1 : List Int) : Option (Bool) := if (l0.length : Int) = (l1.length : Int) then (laws_eqByteS.l0 k l0 l1 0) else (some false)
theorem laws_eqByteS.mono_l : ∀ k, (∀ y0 y1 y2, LeO (laws_eqByteS.l0 k y0 y1 y2) (laws_eqByteS.l0 (k + 1) y0 y1 y2))
 | 0 => fun _ _ _ r h => by simp [laws_eqByteS.l0] at h
 | k + 1 => by
  have ih0 := laws_eqByteS.mono_l k
  ·intro y0 y1 y2
   unfold laws_eqByteS.l0
   repeat' first | (with_reducible first | apply ih0 | exact LeO.refl _ | exact LeO.none _ | refine LeO.ite ?_ ?_ | refine LeO.bind ?_ fun _ => ?_) | apply ih0 | exact LeO.none _ | refine LeO.ite ?_ ?_ | refine LeO.bind ?_ fun _ => ?_
theorem laws_eqByteS.mono : ∀ a0 a1 k, LeO (laws_eqByteS.f k a0 a1) (laws_eqByteS.f (k + 1) a0 a1) := by
 intro a0 a1 k
 have ih0 := laws_eqByteS.mono_l k
 unfold laws_eqByteS.f
 repeat' first | (with_reducible first | apply ih0 | exact LeO.refl _ | exact LeO.none _ | refine LeO.ite ?_ ?_ | refine LeO.bind ?_ fun _ => ?_) | apply ih0 | exact LeO.none _ | refine LeO.ite ?_ ?_ | refine LeO.bind ?_ fun _ => ?_
set_option maxHeartbeats 8000000 in
set_option maxRecDepth 100000 in
theorem laws_eqByteS.calls (k : Nat) (A0 : Option Addr) (c0 : Nat) (l0 : List Int) (A1 : Option Addr) (c1 : Nat) (l1 : List Int) (r : Bool) (w : World) (hr0 : Kd.C (Kd.int .u8) w A0 l0.length l0) (hc0 : l0.length ≤ c0) (hr1 : Kd.C (Kd.int .u8) w A1 l1.length l1) (hc1 : l1.length ≤ c1) (h : laws_eqByteS.f k l0 l1 = some r) :
  Calls Try.prog 29 #[.slice A0 l0.length c0, .slice A1 l1.length c1] w fun e w' => e = .returned (.bool r) ∧ Drawn0 w w' := by
 have HR0 := Aside0.mk hr0; have HC0 := Aside0.mk hc0; clear hr0 hc0; have HR1 := Aside0.mk hr1; have HC1 := Aside0.mk hc1; clear hr1 hc1
 have H : (if (l0.length : Int) = (l1.length : Int) then (laws_eqByteS.l0 k l0 l1 0) else (some false)) = some r := h
 clear h
 by_cases c3 : (l0.length : Int) = (l1.length : Int)
 ·rw [if_pos c3] at H
  have c3b0 : ((l0.length : Int) == (l1.length : Int)) = true := beq_iff_eq.mpr c3
  have c3b1 : ((l0.length : Int) != (l1.length : Int)) = false := bne_eq_false_iff_eq.mpr c3
  have c3b2 : (l0.length == l1.length) = true := by first | simpa using c3 | (simp at c3 ⊢; omega)
  clear c3
  have H' := Aside0.mk H
  clear H
  go_enter Try.func29, Try.ntmps29
  go_wp2
  repeat (go_quiet (fail); try go_wp2)
  go_loopg [5] k (fun kq v5 w' => ∃ (x5_1 : Int), v5 = .int .i64 x5_1 ∧ Aside0 (laws_eqByteS.l0 kq l0 l1 x5_1 = some r) ∧ Aside0 (kq ≤ k) ∧ Drawn0 w w')
  case atStart => exact ⟨(0), (by first | rfl | (simp; done) | (simp [*]; done)), H', ⟨Nat.le_refl _⟩, by repeat (first | exact Drawn0.refl _ | apply Drawn0.step)⟩
  case round =>
   clear H'; (try clear c1); (try clear c2); (try clear p2); (try clear c3); (try clear c3b0); (try clear c3b1); (try clear c3b2)
   obtain ⟨x5_1, rfl, HA, HK1, ⟨m1, rfl⟩⟩ := hrel
   cases gk with
   | zero => exact absurd HA.out (by simp [laws_eqByteS.l0])
   | succ k1 =>
    have H := HA.out; clear HA
    simp only [laws_eqByteS.l0] at H
    by_cases c4 : x5_1 < (l0.length : Int)
    ·rw [if_pos c4] at H
     have c4b0 : decide (x5_1 < (l0.length : Int)) = true := decide_eq_true c4
     clear c4
     by_cases c5 : 0 ≤ x5_1
     ·rw [if_pos c5] at H
      have c5b0 : decide (0 ≤ x5_1) = true := decide_eq_true c5
      clear c5
      by_cases c6 : x5_1 < (l1.length : Int)
      ·rw [if_pos c6] at H
       have c6b0 : decide (x5_1 < (l1.length : Int)) = true := decide_eq_true c6
       clear c6
       by_cases c7 : (rd l0 x5_1) = (rd l1 x5_1)
       ·rw [if_pos c7] at H
        have c7b0 : ((rd l0 x5_1) == (rd l1 x5_1)) = true := beq_iff_eq.mpr c7
        have c7b1 : ((rd l0 x5_1) != (rd l1 x5_1)) = false := bne_eq_false_iff_eq.mpr c7
        clear c7
        have H' := Aside0.mk H
        clear H
        have p265 : 0 ≤ (x5_1 : Int) := of_decide_eq_true (by first | (with_reducible assumption) | assumption)
        have q265 : x5_1 < (l0.length : Int) := of_decide_eq_true (by first | (with_reducible assumption) | assumption)
        obtain ⟨ad265, e265, hx265_0⟩ := Kd.at_int HR0.out x5_1 p265 q265
        cases e265
        replace p265 := eq_true p265
        replace q265 := eq_true q265
        have p266 : 0 ≤ (x5_1 : Int) := of_decide_eq_true (by first | (with_reducible assumption) | assumption)
        have q266 : x5_1 < (l1.length : Int) := of_decide_eq_true (by first | (with_reducible assumption) | assumption)
        obtain ⟨ad266, e266, hx266_0⟩ := Kd.at_int HR1.out x5_1 p266 q266
        cases e266
        replace p266 := eq_true p266
        replace q266 := eq_true q266
        go_wp2
        repeat (go_quiet (fail); try go_wp2)
        go_roundg k1
        case measure => have := HK1.out; omega
        case rel => exact ⟨(wrap64 (x5_1 + 1)), (by first | rfl | (simp; done) | (simp [*]; done)), H', ⟨by have := HK1.out; omega⟩, by repeat (first | exact Drawn0.refl _ | apply Drawn0.step)⟩
       ·rw [if_neg c7] at H
        have c7b0 : ((rd l0 x5_1) == (rd l1 x5_1)) = false := beq_eq_false_iff_ne.mpr c7
        have c7b1 : ((rd l0 x5_1) != (rd l1 x5_1)) = true := bne_iff_ne.mpr c7
        obtain rfl := Option.some.inj H
        have p265 : 0 ≤ (x5_1 : Int) := of_decide_eq_true (by first | (with_reducible assumption) | assumption)
        have q265 : x5_1 < (l0.length : Int) := of_decide_eq_true (by first | (with_reducible assumption) | assumption)
        obtain ⟨ad265, e265, hx265_0⟩ := Kd.at_int HR0.out x5_1 p265 q265
        cases e265
        replace p265 := eq_true p265
        replace q265 := eq_true q265
        have p266 : 0 ≤ (x5_1 : Int) := of_decide_eq_true (by first | (with_reducible assumption) | assumption)
        have q266 : x5_1 < (l1.length : Int) := of_decide_eq_true (by first | (with_reducible assumption) | assumption)
        obtain ⟨ad266, e266, hx266_0⟩ := Kd.at_int HR1.out x5_1 p266 q266
        cases e266
        replace p266 := eq_true p266
        replace q266 := eq_true q266
        go_wp2
        repeat (go_quiet (fail); try go_wp2)
        go_ret
        exact ⟨by first | rfl | (simp; done) | (simp [*]; done), by repeat (first | exact Drawn0.refl _ | apply Drawn0.step)⟩
      ·rw [if_neg c6] at H
       exact absurd H (by simp)
     ·rw [if_neg c5] at H
      exact absurd H (by simp)
    ·rw [if_neg c4] at H
     have c4b0 : decide (x5_1 < (l0.length : Int)) = false := decide_eq_false c4
     clear c4
     obtain rfl := Option.some.inj H
     go_wp2
     repeat (go_quiet (fail); try go_wp2)
     go_ret
     exact ⟨by first | rfl | (simp; done) | (simp [*]; done), by repeat (first | exact Drawn0.refl _ | apply Drawn0.step)⟩
 ·rw [if_neg c3] at H
  have c3b0 : ((l0.length : Int) == (l1.length : Int)) = false := beq_eq_false_iff_ne.mpr c3
  have c3b1 : ((l0.length : Int) != (l1.length : Int)) = true := bne_iff_ne.mpr c3
  have c3b2 : (l0.length == l1.length) = false := by first | simpa using c3 | (simp at c3 ⊢; omega)
  obtain rfl := Option.some.inj H
  go_enter Try.func29, Try.ntmps29
  go_wp2
  repeat (go_quiet (fail); try go_wp2)
  go_ret
  exact ⟨by first | rfl | (simp; done) | (simp [*]; done), by repeat (first | exact Drawn0.refl _ | apply Drawn0.step)⟩
def laws_eqEarly.f (a0_0 : Int) (a0_1 : Int) (a1_0 : Int) (a1_1 : Int) : Option (Bool) := if a0_0 = a1_0 then (if a0_1 = a1_1 then (some true) else (some false)) else (some false)
set_option maxHeartbeats 8000000 in
set_option maxRecDepth 100000 in
theorem laws_eqEarly.calls (a0_0 : Int) (a0_1 : Int) (a1_0 : Int) (a1_1 : Int) (r : Bool) (w : World) (h : laws_eqEarly.f a0_0 a0_1 a1_0 a1_1 = some r) :
  Calls Try.prog 99 #[.agg #[.int .i64 a0_0, .int .u8 a0_1], .agg #[.int .i64 a1_0, .int .u8 a1_1]] w fun e w' => e = .returned (.bool r) ∧ Below w.heap.size w w' := by
 have hu96 := Try.underlying96
 have HB := Aside0.mk (Below.refl w.heap.size w)
 have H : (if a0_0 = a1_0 then (if a0_1 = a1_1 then (some true) else (some false)) else (some false)) = some r := h
 clear h
 by_cases c3 : a0_0 = a1_0
 ·rw [if_pos c3] at H
  have c3b0 : (a0_0 == a1_0) = true := beq_iff_eq.mpr c3
  have c3b1 : (a0_0 != a1_0) = false := bne_eq_false_iff_eq.mpr c3
  clear c3
  by_cases c4 : a0_1 = a1_1
  ·rw [if_pos c4] at H
   have c4b0 : (a0_1 == a1_1) = true := beq_iff_eq.mpr c4
   have c4b1 : (a0_1 != a1_1) = false := bne_eq_false_iff_eq.mpr c4
   clear c4
   obtain rfl := Option.some.inj H
   go_enter Try.func99, Try.ntmps99
   go_wp2_with (first | ((with_reducible refine gate_dst (N := 2) rfl ?_); refine box_ (N := 2) (cs := #[.int .i64 a0_0, .int .u8 a0_1]) (t := 96) (fun gb267 hg w5 hbox hb => ?_); have BK267 := Aside0.mk (hbox); have GW267 := ge_ hg HB; have GE267 := ge_ hg HB; replace HB := (bs_ HB hb); clear hb hbox hg) | ((with_reducible refine gate_dst (N := 3) rfl ?_); refine box_ (N := 3) (cs := #[.int .i64 a1_0, .int .u8 a1_1]) (t := 96) (fun gb268 hg w6 hbox hb => ?_); have BK268 := Aside0.mk (hbox); have GW268 := ge_ hg HB; have GE268 := ge_ hg HB; replace HB := (bs_ HB hb); have NB267_268 := nl_ hg BK267; have NB268_267 := ng_ hg BK267; replace BK267 := (bbA_ BK267 hb); clear hb hbox hg; have hnb7 := NB267_268.out; have hnc7 := NB268_267.out; have Z8 := zz2 BK267; have Z9 := zz2 BK268))
   go_ret
   exact ⟨by first | rfl | (simp [errW_none, errW_some] <;> rfl) | (simp [*, errW_none, errW_some] <;> rfl), hbA_ HB.out⟩
  ·rw [if_neg c4] at H
   have c4b0 : (a0_1 == a1_1) = false := beq_eq_false_iff_ne.mpr c4
   have c4b1 : (a0_1 != a1_1) = true := bne_iff_ne.mpr c4
   obtain rfl := Option.some.inj H
   go_enter Try.func99, Try.ntmps99
   go_wp2_with (first | ((with_reducible refine gate_dst (N := 2) rfl ?_); refine box_ (N := 2) (cs := #[.int .i64 a0_0, .int .u8 a0_1]) (t := 96) (fun gb267 hg w10 hbox hb => ?_); have BK267 := Aside0.mk (hbox); have GW267 := ge_ hg HB; have GE267 := ge_ hg HB; replace HB := (bs_ HB hb); clear hb hbox hg) | ((with_reducible refine gate_dst (N := 3) rfl ?_); refine box_ (N := 3) (cs := #[.int .i64 a1_0, .int .u8 a1_1]) (t := 96) (fun gb268 hg w11 hbox hb => ?_); have BK268 := Aside0.mk (hbox); have GW268 := ge_ hg HB; have GE268 := ge_ hg HB; replace HB := (bs_ HB hb); have NB267_268 := nl_ hg BK267; have NB268_267 := ng_ hg BK267; replace BK267 := (bbA_ BK267 hb); clear hb hbox hg; have hnb12 := NB267_268.out; have hnc12 := NB268_267.out; have Z13 := zz2 BK267; have Z14 := zz2 BK268))
   go_ret
   exact ⟨by first | rfl | (simp [errW_none, errW_some] <;> rfl) | (simp [*, errW_none, errW_some] <;> rfl), hbA_ HB.out⟩
 ·rw [if_neg c3] at H
  have c3b0 : (a0_0 == a1_0) = false := beq_eq_false_iff_ne.mpr c3
  have c3b1 : (a0_0 != a1_0) = true := bne_iff_ne.mpr c3
  obtain rfl := Option.some.inj H
  go_enter Try.func99, Try.ntmps99
  go_wp2_with (first | ((with_reducible refine gate_dst (N := 2) rfl ?_); refine box_ (N := 2) (cs := #[.int .i64 a0_0, .int .u8 a0_1]) (t := 96) (fun gb267 hg w15 hbox hb => ?_); have BK267 := Aside0.mk (hbox); have GW267 := ge_ hg HB; have GE267 := ge_ hg HB; replace HB := (bs_ HB hb); clear hb hbox hg) | ((with_reducible refine gate_dst (N := 3) rfl ?_); refine box_ (N := 3) (cs := #[.int .i64 a1_0, .int .u8 a1_1]) (t := 96) (fun gb268 hg w16 hbox hb => ?_); have BK268 := Aside0.mk (hbox); have GW268 := ge_ hg HB; have GE268 := ge_ hg HB; replace HB := (bs_ HB hb); have NB267_268 := nl_ hg BK267; have NB268_267 := ng_ hg BK267; replace BK267 := (bbA_ BK267 hb); clear hb hbox hg; have hnb17 := NB267_268.out; have hnc17 := NB268_267.out; have Z18 := zz2 BK267; have Z19 := zz2 BK268))
  go_ret
  exact ⟨by first | rfl | (simp [errW_none, errW_some] <;> rfl) | (simp [*, errW_none, errW_some] <;> rfl), hbA_ HB.out⟩
def laws_eqEarlyS.l0 : Nat → List (S96) → List (S96) → Int → Option (Bool)
 | 0, _, _, _ => none
 | k + 1, x0, x1, x5 => if x5 < (x0.length : Int) then (if 0 ≤ x5 then (if x5 < (x1.length : Int) then ((laws_eqEarly.f ((rd_T96 x0 x5).f0) ((rd_T96 x0 x5).f1) ((rd_T96 x1 x5).f0) ((rd_T96 x1 x5).f1)).bind fun t271 => (if t271 = true then (laws_eqEarlyS.l0 k x0 x1 (wrap64 (x5 + 1))) else (some false))) else (none)) else (none)) else (some true)
def laws_eqEarlyS.f (k : Nat) (l0 : List (S96)) (l1 : List (S96)) : Option (Bool) := if (l0.length : Int) = (l1.length : Int) then (laws_eqEarlyS.l0 k l0 l1 0) else (some false)
theorem laws_eqEarlyS.mono_l : ∀ k, (∀ y0 y1 y2, LeO (laws_eqEarlyS.l0 k y0 y1 y2) (laws_eqEarlyS.l0 (k + 1) y0 y1 y2))
 | 0 => fun _ _ _ r h => by simp [laws_eqEarlyS.l0] at h
 | k + 1 => by
  have ih0 := laws_eqEarlyS.mono_l k
  ·intro y0 y1 y2
   unfold laws_eqEarlyS.l0
   repeat' first | (with_reducible first | apply ih0 | exact LeO.refl _ | exact LeO.none _ | refine LeO.ite ?_ ?_ | refine LeO.bind ?_ fun _ => ?_) | apply ih0 | exact LeO.none _ | refine LeO.ite ?_ ?_ | refine LeO.bind ?_ fun _ => ?_
theorem laws_eqEarlyS.mono : ∀ a0 a1 k, LeO (laws_eqEarlyS.f k a0 a1) (laws_eqEarlyS.f (k + 1) a0 a1) := by
 intro a0 a1 k
 have ih0 := laws_eqEarlyS.mono_l k
 unfold laws_eqEarlyS.f
 repeat' first | (with_reducible first | apply ih0 | exact LeO.refl _ | exact LeO.none _ | refine LeO.ite ?_ ?_ | refine LeO.bind ?_ fun _ => ?_) | apply ih0 | exact LeO.none _ | refine LeO.ite ?_ ?_ | refine LeO.bind ?_ fun _ => ?_
def laws_eqEarlyS.T6 : Bool × List (List Nat × List Nat) := (true, [([], []), ([], []), ([0, 1], [0, 1]), ([2], [2]), ([], []), ([], []), ([4, 5], [4, 5]), ([6], [6]), ([3, 7], [3, 7]), ([8], [8])])
def laws_eqEarlyS.B6 : List Nat := [0, 0, 3, 7, 0, 0, 48, 112, 255, 511]
theorem laws_eqEarlyS.tab6 : rtab .any (opsOf Try.f71 6) = laws_eqEarlyS.T6 := by kernel_rfl
theorem laws_eqEarlyS.bits6 : waitsOk laws_eqEarlyS.T6.2 laws_eqEarlyS.B6 = true := by kernel_rfl
set_option maxHeartbeats 8000000 in
set_option maxRecDepth 100000 in
theorem laws_eqEarlyS.calls (k : Nat) (A0 : Option Addr) (c0 : Nat) (l0 : List (S96)) (A1 : Option Addr) (c1 : Nat) (l1 : List (S96)) (r : Bool) (w : World) (hr0 : Kd.C k96 w A0 l0.length l0) (hc0 : l0.length ≤ c0) (hr1 : Kd.C k96 w A1 l1.length l1) (hc1 : l1.length ≤ c1) (h : laws_eqEarlyS.f k l0 l1 = some r) :
  Calls Try.prog 71 #[.slice A0 l0.length c0, .slice A1 l1.length c1] w fun e w' => e = .returned (.bool r) ∧ Below w.heap.size w w' := by
 have hu96 := Try.underlying96; have HR0 := Aside0.mk hr0; have HC0 := Aside0.mk hc0; clear hr0 hc0; have HR1 := Aside0.mk hr1; have HC1 := Aside0.mk hc1; clear hr1 hc1
 have HB := Aside0.mk (Below.refl w.heap.size w)
 have H : (if (l0.length : Int) = (l1.length : Int) then (laws_eqEarlyS.l0 k l0 l1 0) else (some false)) = some r := h
 clear h
 by_cases c3 : (l0.length : Int) = (l1.length : Int)
 ·rw [if_pos c3] at H
  have c3b0 : ((l0.length : Int) == (l1.length : Int)) = true := beq_iff_eq.mpr c3
  have c3b1 : ((l0.length : Int) != (l1.length : Int)) = false := bne_eq_false_iff_eq.mpr c3
  have c3b2 : (l0.length == l1.length) = true := by first | simpa using c3 | (simp at c3 ⊢; omega)
  clear c3
  have H' := Aside0.mk H
  clear H
  go_enter Try.func71, Try.ntmps71
  go_wp2
  go_loopg [5] k (fun kq v5 w' => ∃ (x5_1 : Int), v5 = .int .i64 x5_1 ∧ Aside0 (laws_eqEarlyS.l0 kq l0 l1 x5_1 = some r) ∧ Aside0 (kq ≤ k) ∧ Aside0 (Below w.heap.size w w'))
  case atStart => exact ⟨(0), (by first | rfl | (simp; done) | (simp [*]; done)), H', ⟨Nat.le_refl _⟩, ⟨hbA_ HB.out⟩⟩
  case round =>
   clear H'; (try clear c1); (try clear p2); (try clear c3); (try clear c3b0); (try clear c3b1); (try clear c3b2)
   obtain ⟨x5_1, rfl, HA, HK1, HB⟩ := hrel
   cases gk with
   | zero => exact absurd HA.out (by simp [laws_eqEarlyS.l0])
   | succ k1 =>
    have H := HA.out; clear HA
    simp only [laws_eqEarlyS.l0] at H
    by_cases c4 : x5_1 < (l0.length : Int)
    ·rw [if_pos c4] at H
     have c4b0 : decide (x5_1 < (l0.length : Int)) = true := decide_eq_true c4
     clear c4
     by_cases c5 : 0 ≤ x5_1
     ·rw [if_pos c5] at H
      have c5b0 : decide (0 ≤ x5_1) = true := decide_eq_true c5
      clear c5
      by_cases c6 : x5_1 < (l1.length : Int)
      ·rw [if_pos c6] at H
       have c6b0 : decide (x5_1 < (l1.length : Int)) = true := decide_eq_true c6
       clear c6
       replace H := Option.bind_eq_some_iff.mp H
       obtain ⟨t271, A70, H⟩ := H
       (try dsimp only at H)
       have A7 := Aside0.mk A70; clear A70
       by_cases c8 : t271 = true
       ·subst c8
        rw [if_pos rfl] at H
        have H' := Aside0.mk H
        clear H
        try go_wp2
        replace HB := (bd_ HB)
        have p269 : 0 ≤ (x5_1 : Int) := of_decide_eq_true (by first | (with_reducible assumption) | assumption)
        have q269 : x5_1 < (l0.length : Int) := of_decide_eq_true (by first | (with_reducible assumption) | assumption)
        obtain ⟨ad269, e269, hx269_0, hx269_1⟩ := at_T96 HR0.out x5_1 p269 q269
        have hw269_1 := hx269_1; have hw269_0 := hx269_0
        cases e269
        replace hx269_0 := cc_ HB hx269_0
        replace hx269_1 := cc_ HB hx269_1
        replace p269 := eq_true p269
        replace q269 := eq_true q269
        have p270 : 0 ≤ (x5_1 : Int) := of_decide_eq_true (by first | (with_reducible assumption) | assumption)
        have q270 : x5_1 < (l1.length : Int) := of_decide_eq_true (by first | (with_reducible assumption) | assumption)
        obtain ⟨ad270, e270, hx270_0, hx270_1⟩ := at_T96 HR1.out x5_1 p270 q270
        have hw270_1 := hx270_1; have hw270_0 := hx270_0
        cases e270
        replace hx270_0 := cc_ HB hx270_0
        replace hx270_1 := cc_ HB hx270_1
        replace p270 := eq_true p270
        replace q270 := eq_true q270
        refine start_ (n := 10) (S := fun w' => w'.cell? (ad269.add ((x5_1).toNat * 2)) = some (.int .i64 ((rd_T96 l0 x5_1).f0)) ∧ w'.cell? ⟨(ad269.add ((x5_1).toNat * 2)).block, (ad269.add ((x5_1).toNat * 2)).off + 1, none⟩ = some (.int .u8 ((rd_T96 l0 x5_1).f1)) ∧ w'.cell? (ad270.add ((x5_1).toNat * 2)) = some (.int .i64 ((rd_T96 l1 x5_1).f0)) ∧ w'.cell? ⟨(ad270.add ((x5_1).toNat * 2)).block, (ad270.add ((x5_1).toNat * 2)).off + 1, none⟩ = some (.int .u8 ((rd_T96 l1 x5_1).f1))) (ds := []) #[false, false, false, false, false, false, false, false, false, false] (by kernel_rfl) rfl rfl ⟨(cc_ HB hw269_0), (cc_ HB hw269_1), (cc_ HB hw270_0), (cc_ HB hw270_1)⟩ (fun hHeld => ?_); refine with_tabW laws_eqEarlyS.tab6 laws_eqEarlyS.bits6 (fun HT_ HW_ => ?_)
        generalize wr.drew = w9 at HB hx269_0 hx269_1 hx270_0 hx270_1 hHeld ⊢
        refine pu_ (i := 0) (N := some 17) HT_ ?_; refine pu_ (i := 1) (N := some 18) HT_ ?_; refine pu_ (i := 2) (N := some 19) HT_ ?_; refine pu_ (i := 4) (N := some 21) HT_ ?_; refine pu_ (i := 5) (N := some 22) HT_ ?_; refine pu_ (i := 6) (N := some 23) HT_ ?_; refine tk_ (i := 3) (N := some 20) HT_ HW_ hHeld ?_; refine tk_ (i := 7) (N := some 24) HT_ HW_ hHeld ?_
        refine on_ (i := 8) (N := some 25) HT_ (fun K hK => ?_)
        refine goes_ Try.func99 (by kernel_rfl) rfl #[.agg #[.int .i64 ((rd_T96 l0 x5_1).f0), .int .u8 ((rd_T96 l0 x5_1).f1)], .agg #[.int .i64 ((rd_T96 l1 x5_1).f0), .int .u8 ((rd_T96 l1 x5_1).f1)]] (by rfl) rfl rfl ar_ ?_
        with_reducible refine (laws_eqEarly.calls ((rd_T96 l0 x5_1).f0) ((rd_T96 l0 x5_1).f1) ((rd_T96 l1 x5_1).f0) ((rd_T96 l1 x5_1).f1) true _ A7.out).mono ?_
        rintro e w10 ⟨rfl, hb⟩
        refine ⟨_, rfl, ?_⟩
        replace HB := (bs_ HB hb); (try clear hb); (try clear hb2); (try clear hk); (try clear hi)
        refine hK.out _ _ ⟨(by first | exact cc_ HB hw269_0 | exact cc_ ⟨hbA_ HB.out⟩ hw269_0), (by first | exact cc_ HB hw269_1 | exact cc_ ⟨hbA_ HB.out⟩ hw269_1), (by first | exact cc_ HB hw270_0 | exact cc_ ⟨hbA_ HB.out⟩ hw270_0), (by first | exact cc_ HB hw270_1 | exact cc_ ⟨hbA_ HB.out⟩ hw270_1)⟩ (fun hHeld => ?_)
        clear hK K; refine nm_ 25 ?_; refine pu_ (i := 9) (N := some 26) HT_ ?_
        refine done_ (done_of HT_.out (by kernel_rfl)) ?_
        try go_wp2
        go_roundg k1
        case measure => have := HK1.out; omega
        case rel => exact ⟨(wrap64 (x5_1 + 1)), (by first | rfl | (simp; done) | (simp [*]; done)), H', ⟨by have := HK1.out; omega⟩, ⟨hbA_ HB.out⟩⟩
       ·replace c8 := Bool.eq_false_iff.mpr c8
        subst c8
        rw [if_neg (show ¬ (false = true) by decide)] at H
        obtain rfl := Option.some.inj H
        try go_wp2
        replace HB := (bd_ HB)
        have p269 : 0 ≤ (x5_1 : Int) := of_decide_eq_true (by first | (with_reducible assumption) | assumption)
        have q269 : x5_1 < (l0.length : Int) := of_decide_eq_true (by first | (with_reducible assumption) | assumption)
        obtain ⟨ad269, e269, hx269_0, hx269_1⟩ := at_T96 HR0.out x5_1 p269 q269
        have hw269_1 := hx269_1; have hw269_0 := hx269_0
        cases e269
        replace hx269_0 := cc_ HB hx269_0
        replace hx269_1 := cc_ HB hx269_1
        replace p269 := eq_true p269
        replace q269 := eq_true q269
        have p270 : 0 ≤ (x5_1 : Int) := of_decide_eq_true (by first | (with_reducible assumption) | assumption)
        have q270 : x5_1 < (l1.length : Int) := of_decide_eq_true (by first | (with_reducible assumption) | assumption)
        obtain ⟨ad270, e270, hx270_0, hx270_1⟩ := at_T96 HR1.out x5_1 p270 q270
        have hw270_1 := hx270_1; have hw270_0 := hx270_0
        cases e270
        replace hx270_0 := cc_ HB hx270_0
        replace hx270_1 := cc_ HB hx270_1
        replace p270 := eq_true p270
        replace q270 := eq_true q270
        refine start_ (n := 10) (S := fun w' => w'.cell? (ad269.add ((x5_1).toNat * 2)) = some (.int .i64 ((rd_T96 l0 x5_1).f0)) ∧ w'.cell? ⟨(ad269.add ((x5_1).toNat * 2)).block, (ad269.add ((x5_1).toNat * 2)).off + 1, none⟩ = some (.int .u8 ((rd_T96 l0 x5_1).f1)) ∧ w'.cell? (ad270.add ((x5_1).toNat * 2)) = some (.int .i64 ((rd_T96 l1 x5_1).f0)) ∧ w'.cell? ⟨(ad270.add ((x5_1).toNat * 2)).block, (ad270.add ((x5_1).toNat * 2)).off + 1, none⟩ = some (.int .u8 ((rd_T96 l1 x5_1).f1))) (ds := []) #[false, false, false, false, false, false, false, false, false, false] (by kernel_rfl) rfl rfl ⟨(cc_ HB hw269_0), (cc_ HB hw269_1), (cc_ HB hw270_0), (cc_ HB hw270_1)⟩ (fun hHeld => ?_); refine with_tabW laws_eqEarlyS.tab6 laws_eqEarlyS.bits6 (fun HT_ HW_ => ?_)
        generalize wr.drew = w11 at HB hx269_0 hx269_1 hx270_0 hx270_1 hHeld ⊢
        refine pu_ (i := 0) (N := some 17) HT_ ?_; refine pu_ (i := 1) (N := some 18) HT_ ?_; refine pu_ (i := 2) (N := some 19) HT_ ?_; refine pu_ (i := 4) (N := some 21) HT_ ?_; refine pu_ (i := 5) (N := some 22) HT_ ?_; refine pu_ (i := 6) (N := some 23) HT_ ?_; refine tk_ (i := 3) (N := some 20) HT_ HW_ hHeld ?_; refine tk_ (i := 7) (N := some 24) HT_ HW_ hHeld ?_
        refine on_ (i := 8) (N := some 25) HT_ (fun K hK => ?_)
        refine goes_ Try.func99 (by kernel_rfl) rfl #[.agg #[.int .i64 ((rd_T96 l0 x5_1).f0), .int .u8 ((rd_T96 l0 x5_1).f1)], .agg #[.int .i64 ((rd_T96 l1 x5_1).f0), .int .u8 ((rd_T96 l1 x5_1).f1)]] (by rfl) rfl rfl ar_ ?_
        with_reducible refine (laws_eqEarly.calls ((rd_T96 l0 x5_1).f0) ((rd_T96 l0 x5_1).f1) ((rd_T96 l1 x5_1).f0) ((rd_T96 l1 x5_1).f1) false _ A7.out).mono ?_
        rintro e w12 ⟨rfl, hb⟩
        refine ⟨_, rfl, ?_⟩
        replace HB := (bs_ HB hb); (try clear hb); (try clear hb2); (try clear hk); (try clear hi)
        refine hK.out _ _ ⟨(by first | exact cc_ HB hw269_0 | exact cc_ ⟨hbA_ HB.out⟩ hw269_0), (by first | exact cc_ HB hw269_1 | exact cc_ ⟨hbA_ HB.out⟩ hw269_1), (by first | exact cc_ HB hw270_0 | exact cc_ ⟨hbA_ HB.out⟩ hw270_0), (by first | exact cc_ HB hw270_1 | exact cc_ ⟨hbA_ HB.out⟩ hw270_1)⟩ (fun hHeld => ?_)
        clear hK K; refine nm_ 25 ?_; refine pu_ (i := 9) (N := some 26) HT_ ?_
        refine done_ (done_of HT_.out (by kernel_rfl)) ?_
        try go_wp2
        go_ret
        exact ⟨by first | rfl | (simp [errW_none, errW_some] <;> rfl) | (simp [*, errW_none, errW_some] <;> rfl), hbA_ HB.out⟩
      ·rw [if_neg c6] at H
       exact absurd H (by simp)
     ·rw [if_neg c5] at H
      exact absurd H (by simp)
    ·rw [if_neg c4] at H
     have c4b0 : decide (x5_1 < (l0.length : Int)) = false := decide_eq_false c4
     clear c4
     obtain rfl := Option.some.inj H
     go_wp2
     go_ret
     exact ⟨by first | rfl | (simp [errW_none, errW_some] <;> rfl) | (simp [*, errW_none, errW_some] <;> rfl), hbA_ HB.out⟩
 ·rw [if_neg c3] at H
  have c3b0 : ((l0.length : Int) == (l1.length : Int)) = false := beq_eq_false_iff_ne.mpr c3
  have c3b1 : ((l0.length : Int) != (l1.length : Int)) = true := bne_iff_ne.mpr c3
  have c3b2 : (l0.length == l1.length) = false := by first | simpa using c3 | (simp at c3 ⊢; omega)
  obtain rfl := Option.some.inj H
  go_enter Try.func71, Try.ntmps71
  go_wp2
  go_ret
  exact ⟨by first | rfl | (simp [errW_none, errW_some] <;> rfl) | (simp [*, errW_none, errW_some] <;> rfl), hbA_ HB.out⟩
def laws_eqEar.f (k : Nat) (a0_0 : Int) (a0_1 : Int) (l0_2 : List Int) (l0_3 : List (S96)) (a1_0 : Int) (a1_1 : Int) (l1_2 : List Int) (l1_3 : List (S96)) : Option (Bool) := if a0_0 = a1_0 then (if a0_1 = a1_1 then ((laws_eqByteS.f k l0_2 l1_2).bind fun t274 => (if t274 = true then ((laws_eqEarlyS.f k l0_3 l1_3).bind fun t275 => (if t275 = true then (some true) else (some false))) else (some false))) else (some false)) else (some false)
theorem laws_eqEar.mono : ∀ a0 a1 a2 a3 a4 a5 a6 a7 k, LeO (laws_eqEar.f k a0 a1 a2 a3 a4 a5 a6 a7) (laws_eqEar.f (k + 1) a0 a1 a2 a3 a4 a5 a6 a7) := by
 intro a0 a1 a2 a3 a4 a5 a6 a7 k
 unfold laws_eqEar.f
 repeat' first | (with_reducible first | apply laws_eqByteS.mono | apply laws_eqEarlyS.mono | exact LeO.refl _ | exact LeO.none _ | refine LeO.ite ?_ ?_ | refine LeO.bind ?_ fun _ => ?_) | apply laws_eqByteS.mono | apply laws_eqEarlyS.mono | exact LeO.none _ | refine LeO.ite ?_ ?_ | refine LeO.bind ?_ fun _ => ?_
set_option maxHeartbeats 8000000 in
set_option maxRecDepth 100000 in
theorem laws_eqEar.calls (k : Nat) (a0_0 : Int) (a0_1 : Int) (A0_2 : Option Addr) (c0_2 : Nat) (l0_2 : List Int) (A0_3 : Option Addr) (c0_3 : Nat) (l0_3 : List (S96)) (a1_0 : Int) (a1_1 : Int) (A1_2 : Option Addr) (c1_2 : Nat) (l1_2 : List Int) (A1_3 : Option Addr) (c1_3 : Nat) (l1_3 : List (S96)) (r : Bool) (w : World) (hr0_2 : Kd.C (Kd.int .u8) w A0_2 l0_2.length l0_2) (hc0_2 : l0_2.length ≤ c0_2) (hr0_3 : Kd.C k96 w A0_3 l0_3.length l0_3) (hc0_3 : l0_3.length ≤ c0_3) (hr1_2 : Kd.C (Kd.int .u8) w A1_2 l1_2.length l1_2) (hc1_2 : l1_2.length ≤ c1_2) (hr1_3 : Kd.C k96 w A1_3 l1_3.length l1_3) (hc1_3 : l1_3.length ≤ c1_3) (h : laws_eqEar.f k a0_0 a0_1 l0_2 l0_3 a1_0 a1_1 l1_2 l1_3 = some r) :
  Calls Try.prog 28 #[.agg #[.int .i64 a0_0, .int .i64 a0_1, .slice A0_2 l0_2.length c0_2, .slice A0_3 l0_3.length c0_3], .agg #[.int .i64 a1_0, .int .i64 a1_1, .slice A1_2 l1_2.length c1_2, .slice A1_3 l1_3.length c1_3]] w fun e w' => e = .returned (.bool r) ∧ Below w.heap.size w w' := by
 have hu48 := Try.underlying48; have HR0_2 := Aside0.mk hr0_2; have HC0_2 := Aside0.mk hc0_2; clear hr0_2 hc0_2; have HR0_3 := Aside0.mk hr0_3; have HC0_3 := Aside0.mk hc0_3; clear hr0_3 hc0_3; have HR1_2 := Aside0.mk hr1_2; have HC1_2 := Aside0.mk hc1_2; clear hr1_2 hc1_2; have HR1_3 := Aside0.mk hr1_3; have HC1_3 := Aside0.mk hc1_3; clear hr1_3 hc1_3
 have HB := Aside0.mk (Below.refl w.heap.size w)
 have H : (if a0_0 = a1_0 then (if a0_1 = a1_1 then ((laws_eqByteS.f k l0_2 l1_2).bind fun t274 => (if t274 = true then ((laws_eqEarlyS.f k l0_3 l1_3).bind fun t275 => (if t275 = true then (some true) else (some false))) else (some false))) else (some false)) else (some false)) = some r := h
 clear h
 by_cases c3 : a0_0 = a1_0
 ·rw [if_pos c3] at H
  have c3b0 : (a0_0 == a1_0) = true := beq_iff_eq.mpr c3
  have c3b1 : (a0_0 != a1_0) = false := bne_eq_false_iff_eq.mpr c3
  clear c3
  by_cases c4 : a0_1 = a1_1
  ·rw [if_pos c4] at H
   have c4b0 : (a0_1 == a1_1) = true := beq_iff_eq.mpr c4
   have c4b1 : (a0_1 != a1_1) = false := bne_eq_false_iff_eq.mpr c4
   clear c4
   replace H := Option.bind_eq_some_iff.mp H
   obtain ⟨t274, A50, H⟩ := H
   (try dsimp only at H)
   have A5 := Aside0.mk A50; clear A50
   by_cases c6 : t274 = true
   ·subst c6
    rw [if_pos rfl] at H
    replace H := Option.bind_eq_some_iff.mp H
    obtain ⟨t275, A70, H⟩ := H
    (try dsimp only at H)
    have A7 := Aside0.mk A70; clear A70
    by_cases c8 : t275 = true
    ·subst c8
     rw [if_pos rfl] at H
     obtain rfl := Option.some.inj H
     go_enter Try.func28, Try.ntmps28
     go_wp2_with (first | ((with_reducible refine gate_dst (N := 2) rfl ?_); refine box_ (N := 2) (cs := #[.int .i64 a0_0, .int .i64 a0_1, .slice A0_2 l0_2.length c0_2, .slice A0_3 l0_3.length c0_3]) (t := 48) (fun gb272 hg w9 hbox hb => ?_); have BK272 := Aside0.mk (hbox); have GW272 := ge_ hg HB; have GE272 := ge_ hg HB; replace HB := (bs_ HB hb); clear hb hbox hg) | ((with_reducible refine gate_dst (N := 3) rfl ?_); refine box_ (N := 3) (cs := #[.int .i64 a1_0, .int .i64 a1_1, .slice A1_2 l1_2.length c1_2, .slice A1_3 l1_3.length c1_3]) (t := 48) (fun gb273 hg w10 hbox hb => ?_); have BK273 := Aside0.mk (hbox); have GW273 := ge_ hg HB; have GE273 := ge_ hg HB; replace HB := (bs_ HB hb); have NB272_273 := nl_ hg BK272; have NB273_272 := ng_ hg BK272; replace BK272 := (bbA_ BK272 hb); clear hb hbox hg; have hnb11 := NB272_273.out; have hnc11 := NB273_272.out; have Z12 := zz4 BK272; have Z13 := zz4 BK273) | ((with_reducible refine gate_callee (f := 29) rfl ?_); refine goesL_ (some 19) rfl rfl Try.func29 (by kernel_rfl) rfl #[.slice A0_2 l0_2.length c0_2, .slice A1_2 l1_2.length c1_2] rfl ar_ ?_; (with_reducible refine (laws_eqByteS.calls k _ _ l0_2 _ _ l1_2 true _ ?side1 ?side2 ?side3 ?side4 A5.out).mono ?_); (case side1 => exact kC_ (Kd.C_below HR0_2.out HB.out)); (case side2 => exact HC0_2.out); (case side3 => exact kC_ (Kd.C_below HR1_2.out HB.out)); (case side4 => exact HC1_2.out); rintro e w' ⟨rfl, ⟨nd, rfl⟩⟩; refine ⟨_, rfl, ?_⟩) | ((with_reducible refine gate_callee (f := 71) rfl ?_); refine goesL_ (some 25) rfl rfl Try.func71 (by kernel_rfl) rfl #[.slice A0_3 l0_3.length c0_3, .slice A1_3 l1_3.length c1_3] rfl ar_ ?_; (with_reducible refine (laws_eqEarlyS.calls k _ _ l0_3 _ _ l1_3 true _ ?side1 ?side2 ?side3 ?side4 A7.out).mono ?_); (case side1 => exact kC_ (Kd.C_below HR0_3.out (hbA_ HB.out))); (case side2 => exact HC0_3.out); (case side3 => exact kC_ (Kd.C_below HR1_3.out (hbA_ HB.out))); (case side4 => exact HC1_3.out); rintro e w14 ⟨rfl, hb⟩; refine ⟨_, rfl, ?_⟩; replace BK272 := (bbA_ BK272 hb); replace BK273 := (bbA_ BK273 hb); replace HB := (bs_ HB hb); (try clear hb); (try clear hb2); (try clear hk); (try clear hi)))
     go_ret
     exact ⟨by first | rfl | (simp [errW_none, errW_some] <;> rfl) | (simp [*, errW_none, errW_some] <;> rfl), hbA_ HB.out⟩
    ·replace c8 := Bool.eq_false_iff.mpr c8
     subst c8
     rw [if_neg (show ¬ (false = true) by decide)] at H
     obtain rfl := Option.some.inj H
     go_enter Try.func28, Try.ntmps28
     go_wp2_with (first | ((with_reducible refine gate_dst (N := 2) rfl ?_); refine box_ (N := 2) (cs := #[.int .i64 a0_0, .int .i64 a0_1, .slice A0_2 l0_2.length c0_2, .slice A0_3 l0_3.length c0_3]) (t := 48) (fun gb272 hg w15 hbox hb => ?_); have BK272 := Aside0.mk (hbox); have GW272 := ge_ hg HB; have GE272 := ge_ hg HB; replace HB := (bs_ HB hb); clear hb hbox hg) | ((with_reducible refine gate_dst (N := 3) rfl ?_); refine box_ (N := 3) (cs := #[.int .i64 a1_0, .int .i64 a1_1, .slice A1_2 l1_2.length c1_2, .slice A1_3 l1_3.length c1_3]) (t := 48) (fun gb273 hg w16 hbox hb => ?_); have BK273 := Aside0.mk (hbox); have GW273 := ge_ hg HB; have GE273 := ge_ hg HB; replace HB := (bs_ HB hb); have NB272_273 := nl_ hg BK272; have NB273_272 := ng_ hg BK272; replace BK272 := (bbA_ BK272 hb); clear hb hbox hg; have hnb17 := NB272_273.out; have hnc17 := NB273_272.out; have Z18 := zz4 BK272; have Z19 := zz4 BK273) | ((with_reducible refine gate_callee (f := 29) rfl ?_); refine goesL_ (some 19) rfl rfl Try.func29 (by kernel_rfl) rfl #[.slice A0_2 l0_2.length c0_2, .slice A1_2 l1_2.length c1_2] rfl ar_ ?_; (with_reducible refine (laws_eqByteS.calls k _ _ l0_2 _ _ l1_2 true _ ?side1 ?side2 ?side3 ?side4 A5.out).mono ?_); (case side1 => exact kC_ (Kd.C_below HR0_2.out HB.out)); (case side2 => exact HC0_2.out); (case side3 => exact kC_ (Kd.C_below HR1_2.out HB.out)); (case side4 => exact HC1_2.out); rintro e w' ⟨rfl, ⟨nd, rfl⟩⟩; refine ⟨_, rfl, ?_⟩) | ((with_reducible refine gate_callee (f := 71) rfl ?_); refine goesL_ (some 25) rfl rfl Try.func71 (by kernel_rfl) rfl #[.slice A0_3 l0_3.length c0_3, .slice A1_3 l1_3.length c1_3] rfl ar_ ?_; (with_reducible refine (laws_eqEarlyS.calls k _ _ l0_3 _ _ l1_3 false _ ?side1 ?side2 ?side3 ?side4 A7.out).mono ?_); (case side1 => exact kC_ (Kd.C_below HR0_3.out (hbA_ HB.out))); (case side2 => exact HC0_3.out); (case side3 => exact kC_ (Kd.C_below HR1_3.out (hbA_ HB.out))); (case side4 => exact HC1_3.out); rintro e w20 ⟨rfl, hb⟩; refine ⟨_, rfl, ?_⟩; replace BK272 := (bbA_ BK272 hb); replace BK273 := (bbA_ BK273 hb); replace HB := (bs_ HB hb); (try clear hb); (try clear hb2); (try clear hk); (try clear hi)))
     go_ret
     exact ⟨by first | rfl | (simp [errW_none, errW_some] <;> rfl) | (simp [*, errW_none, errW_some] <;> rfl), hbA_ HB.out⟩
   ·replace c6 := Bool.eq_false_iff.mpr c6
    subst c6
    rw [if_neg (show ¬ (false = true) by decide)] at H
    obtain rfl := Option.some.inj H
    go_enter Try.func28, Try.ntmps28
    go_wp2_with (first | ((with_reducible refine gate_dst (N := 2) rfl ?_); refine box_ (N := 2) (cs := #[.int .i64 a0_0, .int .i64 a0_1, .slice A0_2 l0_2.length c0_2, .slice A0_3 l0_3.length c0_3]) (t := 48) (fun gb272 hg w21 hbox hb => ?_); have BK272 := Aside0.mk (hbox); have GW272 := ge_ hg HB; have GE272 := ge_ hg HB; replace HB := (bs_ HB hb); clear hb hbox hg) | ((with_reducible refine gate_dst (N := 3) rfl ?_); refine box_ (N := 3) (cs := #[.int .i64 a1_0, .int .i64 a1_1, .slice A1_2 l1_2.length c1_2, .slice A1_3 l1_3.length c1_3]) (t := 48) (fun gb273 hg w22 hbox hb => ?_); have BK273 := Aside0.mk (hbox); have GW273 := ge_ hg HB; have GE273 := ge_ hg HB; replace HB := (bs_ HB hb); have NB272_273 := nl_ hg BK272; have NB273_272 := ng_ hg BK272; replace BK272 := (bbA_ BK272 hb); clear hb hbox hg; have hnb23 := NB272_273.out; have hnc23 := NB273_272.out; have Z24 := zz4 BK272; have Z25 := zz4 BK273) | ((with_reducible refine gate_callee (f := 29) rfl ?_); refine goesL_ (some 19) rfl rfl Try.func29 (by kernel_rfl) rfl #[.slice A0_2 l0_2.length c0_2, .slice A1_2 l1_2.length c1_2] rfl ar_ ?_; (with_reducible refine (laws_eqByteS.calls k _ _ l0_2 _ _ l1_2 false _ ?side1 ?side2 ?side3 ?side4 A5.out).mono ?_); (case side1 => exact kC_ (Kd.C_below HR0_2.out HB.out)); (case side2 => exact HC0_2.out); (case side3 => exact kC_ (Kd.C_below HR1_2.out HB.out)); (case side4 => exact HC1_2.out); rintro e w' ⟨rfl, ⟨nd, rfl⟩⟩; refine ⟨_, rfl, ?_⟩))
    go_ret
    exact ⟨by first | rfl | (simp [errW_none, errW_some] <;> rfl) | (simp [*, errW_none, errW_some] <;> rfl), hbA_ HB.out⟩
  ·rw [if_neg c4] at H
   have c4b0 : (a0_1 == a1_1) = false := beq_eq_false_iff_ne.mpr c4
   have c4b1 : (a0_1 != a1_1) = true := bne_iff_ne.mpr c4
   obtain rfl := Option.some.inj H
   go_enter Try.func28, Try.ntmps28
   go_wp2_with (first | ((with_reducible refine gate_dst (N := 2) rfl ?_); refine box_ (N := 2) (cs := #[.int .i64 a0_0, .int .i64 a0_1, .slice A0_2 l0_2.length c0_2, .slice A0_3 l0_3.length c0_3]) (t := 48) (fun gb272 hg w26 hbox hb => ?_); have BK272 := Aside0.mk (hbox); have GW272 := ge_ hg HB; have GE272 := ge_ hg HB; replace HB := (bs_ HB hb); clear hb hbox hg) | ((with_reducible refine gate_dst (N := 3) rfl ?_); refine box_ (N := 3) (cs := #[.int .i64 a1_0, .int .i64 a1_1, .slice A1_2 l1_2.length c1_2, .slice A1_3 l1_3.length c1_3]) (t := 48) (fun gb273 hg w27 hbox hb => ?_); have BK273 := Aside0.mk (hbox); have GW273 := ge_ hg HB; have GE273 := ge_ hg HB; replace HB := (bs_ HB hb); have NB272_273 := nl_ hg BK272; have NB273_272 := ng_ hg BK272; replace BK272 := (bbA_ BK272 hb); clear hb hbox hg; have hnb28 := NB272_273.out; have hnc28 := NB273_272.out; have Z29 := zz4 BK272; have Z30 := zz4 BK273))
   go_ret
   exact ⟨by first | rfl | (simp [errW_none, errW_some] <;> rfl) | (simp [*, errW_none, errW_some] <;> rfl), hbA_ HB.out⟩
 ·rw [if_neg c3] at H
  have c3b0 : (a0_0 == a1_0) = false := beq_eq_false_iff_ne.mpr c3
  have c3b1 : (a0_0 != a1_0) = true := bne_iff_ne.mpr c3
  obtain rfl := Option.some.inj H
  go_enter Try.func28, Try.ntmps28
  go_wp2_with (first | ((with_reducible refine gate_dst (N := 2) rfl ?_); refine box_ (N := 2) (cs := #[.int .i64 a0_0, .int .i64 a0_1, .slice A0_2 l0_2.length c0_2, .slice A0_3 l0_3.length c0_3]) (t := 48) (fun gb272 hg w31 hbox hb => ?_); have BK272 := Aside0.mk (hbox); have GW272 := ge_ hg HB; have GE272 := ge_ hg HB; replace HB := (bs_ HB hb); clear hb hbox hg) | ((with_reducible refine gate_dst (N := 3) rfl ?_); refine box_ (N := 3) (cs := #[.int .i64 a1_0, .int .i64 a1_1, .slice A1_2 l1_2.length c1_2, .slice A1_3 l1_3.length c1_3]) (t := 48) (fun gb273 hg w32 hbox hb => ?_); have BK273 := Aside0.mk (hbox); have GW273 := ge_ hg HB; have GE273 := ge_ hg HB; replace HB := (bs_ HB hb); have NB272_273 := nl_ hg BK272; have NB273_272 := ng_ hg BK272; replace BK272 := (bbA_ BK272 hb); clear hb hbox hg; have hnb33 := NB272_273.out; have hnc33 := NB273_272.out; have Z34 := zz4 BK272; have Z35 := zz4 BK273))
  go_ret
  exact ⟨by first | rfl | (simp [errW_none, errW_some] <;> rfl) | (simp [*, errW_none, errW_some] <;> rfl), hbA_ HB.out⟩
def laws_markByteS.l0 : Nat → List Int → Int → Int → Option (Int × List Int)
 | 0, _, _, _ => none
 | k + 1, x0, x1, x5 => if x5 < (x0.length : Int) then (if 0 ≤ x5 then (laws_markByteS.l0 k (x0.set (x5 : Int).toNat ((x1) % 256)) (wrap64 (x1 + 1)) (wrap64 (x5 + 1))) else (none)) else (some (x1, x0))
def laws_markByteS.f (k : Nat) (l0 : List Int) (a1 : Int) : Option (Int × List Int) := laws_markByteS.l0 k l0 a1 0
theorem laws_markByteS.mono_l : ∀ k, (∀ y0 y1 y2, LeO (laws_markByteS.l0 k y0 y1 y2) (laws_markByteS.l0 (k + 1) y0 y1 y2))
 | 0 => fun _ _ _ r h => by simp [laws_markByteS.l0] at h
 | k + 1 => by
  have ih0 := laws_markByteS.mono_l k
  ·intro y0 y1 y2
   unfold laws_markByteS.l0
   repeat' first | (with_reducible first | apply ih0 | exact LeO.refl _ | exact LeO.none _ | refine LeO.ite ?_ ?_ | refine LeO.bind ?_ fun _ => ?_) | apply ih0 | exact LeO.none _ | refine LeO.ite ?_ ?_ | refine LeO.bind ?_ fun _ => ?_
theorem laws_markByteS.mono : ∀ a0 a1 k, LeO (laws_markByteS.f k a0 a1) (laws_markByteS.f (k + 1) a0 a1) := by
 intro a0 a1 k
 have ih0 := laws_markByteS.mono_l k
 unfold laws_markByteS.f
 repeat' first | (with_reducible first | apply ih0 | exact LeO.refl _ | exact LeO.none _ | refine LeO.ite ?_ ?_ | refine LeO.bind ?_ fun _ => ?_) | apply ih0 | exact LeO.none _ | refine LeO.ite ?_ ?_ | refine LeO.bind ?_ fun _ => ?_
set_option maxHeartbeats 8000000 in
set_option maxRecDepth 100000 in
theorem laws_markByteS.calls (k : Nat) (P0_ : Nat → Prop) (u9000_ : Value) (l0 : List Int) (a1 : Int) (r1 : Int) (r2 : List Int) (w0 w : World) (hB : Below w0.heap.size w0 w) (ho0 : Kd.R (Kd.int .u8) 5 w w0.heap.size P0_ u9000_ l0) (h : laws_markByteS.f k l0 a1 = some (r1, r2)) :
  Calls Try.prog 31 #[u9000_, .int .i64 a1] w fun e w' => e = .returned (.int .i64 r1) ∧ Kd.R (Kd.int .u8) 5 w' w0.heap.size (fun k_ => (P0_ k_ ∨ w.heap.size ≤ k_)) u9000_ r2 ∧ Below w0.heap.size w0 w' ∧ Kept w w' (fun k_ => P0_ k_) := by
 have HO0 := Aside0.mk (show Kd.R (Kd.int .u8) 5 w w0.heap.size (fun k_ => (P0_ k_ ∨ w.heap.size ≤ k_)) u9000_ l0 from Kd.R_mono ho0 (fun k_ hk => (.inl hk)))
 have HK := Aside0.mk (Kept.refl w (fun k_ => P0_ k_))
 have HW0 := Aside0.mk hB.size; have HB := Aside0.mk hB; clear hB
 have H : (laws_markByteS.l0 k l0 a1 0) = some (r1, r2) := h
 clear h
 have H' := Aside0.mk H
 clear H
 go_enter Try.func31, Try.ntmps31
 go_wp2
 go_loopg [1, 5] k (fun kq v1 v5 w' => ∃ (x0_1 : List Int) (x1_1 : Int) (x5_1 : Int), v1 = .int .i64 x1_1 ∧ v5 = .int .i64 x5_1 ∧ Aside0 (laws_markByteS.l0 kq x0_1 x1_1 x5_1 = some (r1, r2)) ∧ Aside0 (kq ≤ k) ∧ Aside0 (Kd.R (Kd.int .u8) 5 w' w0.heap.size (fun k_ => (P0_ k_ ∨ w.heap.size ≤ k_)) u9000_ x0_1) ∧ Aside0 (Kept w w' (fun k_ => P0_ k_)) ∧ Aside0 (Below w0.heap.size w0 w'))
 case atStart => exact ⟨(l0), (a1), (0), (by first | rfl | (simp; done) | (simp [*]; done)), (by first | rfl | (simp; done) | (simp [*]; done)), H', ⟨Nat.le_refl _⟩, ⟨kR_ HO0.out⟩, ⟨by repeat (first | (with_reducible first | exact HK.out | apply Kept.alloc | apply Kept.drewN | apply Kept.drew) | exact HK.out)⟩, ⟨hbA_ HB.out⟩⟩
 case round =>
  clear H'; (try clear p2)
  obtain ⟨x0_1, x1_1, x5_1, rfl, rfl, HA, HK1, HO_0, HK, HB⟩ := hrel
  cases gk with
  | zero => exact absurd HA.out (by simp [laws_markByteS.l0])
  | succ k1 =>
   have H := HA.out; clear HA
   simp only [laws_markByteS.l0] at H
   by_cases c3 : x5_1 < (x0_1.length : Int)
   ·rw [if_pos c3] at H
    have c3b0 : decide (x5_1 < (x0_1.length : Int)) = true := decide_eq_true c3
    clear c3
    by_cases c4 : 0 ≤ x5_1
    ·rw [if_pos c4] at H
     have c4b0 : decide (0 ≤ x5_1) = true := decide_eq_true c4
     clear c4
     obtain ⟨y276, hy276⟩ : ∃ y_ : List Int, y_ = (x0_1.set (x5_1 : Int).toNat ((x1_1) % 256)) := ⟨_, rfl⟩
     (first | replace H := sb_ hy276 H | rw [← hy276] at H)
     have Ny276 := Aside0.mk hy276; clear hy276
     have H' := Aside0.mk H
     clear H
     obtain ⟨Ao6, co6, eo6⟩ := Kd.R_slice HO_0.out
     subst eo6
     have p5 : 0 ≤ (x5_1 : Int) := of_decide_eq_true (by first | (with_reducible assumption) | assumption)
     have q5 : (x5_1 : Int) < ((x0_1.length : Int) : Int) := of_decide_eq_true (by first | (with_reducible assumption) | assumption)
     obtain ⟨go5, co5, eo5, gb5, gl5, cl5, HG5⟩ := Kd.R_form HO_0.out (by omega)
     (first | cases eo5 | (injection eo5 with ea_ en_ ec_; (first | subst ea_ | (injection ea_ with ea_; subst ea_)); subst ec_; clear en_))
     have GB5 := Aside0.mk gb5; have GG5 := Aside0.mk HG5; clear gb5 gl5 HG5
     have HMgo5 := Aside0.mk (show (P0_ go5 ∨ w.heap.size ≤ go5) from (HO_0.out.1 _ rfl))
     obtain ⟨hx5_0, hf5_0⟩ := Kd.R_celln 0 HO_0.out (x5_1 : Int) p5 q5
     replace p5 := eq_true p5
     replace q5 := eq_true q5
     have HP7 := Kd.R_putg HO_0.out (x5_1 : Int) ((x1_1) % 256)
     go_wp2_with (first | ((with_reducible refine gate_store (t := 5) (p := 16) rfl ?_); refine store_event (t := 5) (p := 16) (v := ?vo_w8) (w1 := (wr.setCell ⟨go5, (x5_1 : Int).toNat, none⟩ (.int .u8 ((x1_1) % 256)))) ?hg ?ho ?hn ?hr ?_; (case ho => rfl); (case hg => rfl); (case hn => rfl); (case hr => first | (go_simp; done) | (go_simp; rfl)); intro w8 hw; have hg : wr.grownBy w8 (some go5) := (by rw [hw]; exact HP7.2); have hp_ : Kd.R (Kd.int .u8) 5 w8 w0.heap.size (fun k_ => (P0_ k_ ∨ w.heap.size ≤ k_)) (.slice (some ⟨go5, 0, none⟩) x0_1.length co6) y276 := (by rw [hw, Ny276.out]; exact HP7.1); clear HP7; replace HB := Aside0.mk ((by rw [hw]; exact below_set (HB.out) GB5.out : Below w0.heap.size w0 w8)); replace HK := Aside0.mk (Kept.of_grown (S := (fun k_ => P0_ k_)) hg (by repeat (first | (with_reducible first | exact HK.out | apply Kept.alloc | apply Kept.drewN | apply Kept.drew) | exact HK.out)) (fun k_ e_ => (HO_0.out.1 k_ e_))); replace HO_0 := Aside0.mk (hp_); clear hg hw hp_))
     go_roundg k1
     case measure => have := HK1.out; omega
     case rel => exact ⟨(y276), (wrap64 (x1_1 + 1)), (wrap64 (x5_1 + 1)), (by first | rfl | (simp; done) | (simp [*]; done)), (by first | rfl | (simp; done) | (simp [*]; done)), H', ⟨by have := HK1.out; omega⟩, ⟨kR_ HO_0.out⟩, ⟨by repeat (first | (with_reducible first | exact HK.out | apply Kept.alloc | apply Kept.drewN | apply Kept.drew) | exact HK.out)⟩, ⟨hbA_ HB.out⟩⟩
    ·rw [if_neg c4] at H
     exact absurd H (by simp)
   ·rw [if_neg c3] at H
    have c3b0 : decide (x5_1 < (x0_1.length : Int)) = false := decide_eq_false c3
    clear c3
    simp only [Option.some.injEq, Prod.mk.injEq] at H
    obtain ⟨rfl, rfl⟩ := H
    obtain ⟨Ao9, co9, eo9⟩ := Kd.R_slice HO_0.out
    subst eo9
    go_wp2
    go_ret
    exact ⟨by first | rfl | (simp [errW_none, errW_some] <;> rfl) | (simp [*, errW_none, errW_some] <;> rfl), kR_ HO_0.out, hbA_ HB.out, by repeat (first | (with_reducible first | exact HK.out | apply Kept.alloc | apply Kept.drewN | apply Kept.drew) | exact HK.out)⟩
def laws_markEarlyS.l0 : Nat → List (S96) → Int → Int → Option (Int × (List (S96)))
 | 0, _, _, _ => none
 | k + 1, x0, x1, x5 => if x5 < (x0.length : Int) then (if 0 ≤ x5 then ((some (x0.set (x5 : Int).toNat (⟨x1, (rd_T96 x0 x5).f1⟩ : S96) : List (S96))).bind fun y277 => (laws_markEarlyS.l0 k (y277.set (x5 : Int).toNat (⟨(rd_T96 y277 x5).f0, (wrap64 (x1 + 1)) % 256⟩ : S96)) (wrap64 ((wrap64 (x1 + 1)) + 1)) (wrap64 (x5 + 1)))) else (none)) else (some (x1, x0))
def laws_markEarlyS.f (k : Nat) (l0 : List (S96)) (a1 : Int) : Option (Int × (List (S96))) := laws_markEarlyS.l0 k l0 a1 0
theorem laws_markEarlyS.mono_l : ∀ k, (∀ y0 y1 y2, LeO (laws_markEarlyS.l0 k y0 y1 y2) (laws_markEarlyS.l0 (k + 1) y0 y1 y2))
 | 0 => fun _ _ _ r h => by simp [laws_markEarlyS.l0] at h
 | k + 1 => by
  have ih0 := laws_markEarlyS.mono_l k
  ·intro y0 y1 y2
   unfold laws_markEarlyS.l0
   repeat' first | (with_reducible first | apply ih0 | exact LeO.refl _ | exact LeO.none _ | refine LeO.ite ?_ ?_ | refine LeO.bind ?_ fun _ => ?_) | apply ih0 | exact LeO.none _ | refine LeO.ite ?_ ?_ | refine LeO.bind ?_ fun _ => ?_
theorem laws_markEarlyS.mono : ∀ a0 a1 k, LeO (laws_markEarlyS.f k a0 a1) (laws_markEarlyS.f (k + 1) a0 a1) := by
 intro a0 a1 k
 have ih0 := laws_markEarlyS.mono_l k
 unfold laws_markEarlyS.f
 repeat' first | (with_reducible first | apply ih0 | exact LeO.refl _ | exact LeO.none _ | refine LeO.ite ?_ ?_ | refine LeO.bind ?_ fun _ => ?_) | apply ih0 | exact LeO.none _ | refine LeO.ite ?_ ?_ | refine LeO.bind ?_ fun _ => ?_
set_option maxHeartbeats 8000000 in
set_option maxRecDepth 100000 in
theorem laws_markEarlyS.calls (k : Nat) (P0_ : Nat → Prop) (u9000_ : Value) (l0 : List (S96)) (a1 : Int) (r1 : Int) (r2 : List (S96)) (w0 w : World) (hB : Below w0.heap.size w0 w) (ho0 : Kd.R k96 96 w w0.heap.size P0_ u9000_ l0) (h : laws_markEarlyS.f k l0 a1 = some (r1, r2)) :
  Calls Try.prog 72 #[u9000_, .int .i64 a1] w fun e w' => e = .returned (.int .i64 r1) ∧ Kd.R k96 96 w' w0.heap.size (fun k_ => (P0_ k_ ∨ w.heap.size ≤ k_)) u9000_ r2 ∧ Below w0.heap.size w0 w' ∧ Kept w w' (fun k_ => P0_ k_) := by
 have HO0 := Aside0.mk (show Kd.R k96 96 w w0.heap.size (fun k_ => (P0_ k_ ∨ w.heap.size ≤ k_)) u9000_ l0 from Kd.R_mono ho0 (fun k_ hk => (.inl hk)))
 have HK := Aside0.mk (Kept.refl w (fun k_ => P0_ k_))
 have HW0 := Aside0.mk hB.size; have HB := Aside0.mk hB; clear hB
 have H : (laws_markEarlyS.l0 k l0 a1 0) = some (r1, r2) := h
 clear h
 have H' := Aside0.mk H
 clear H
 go_enter Try.func72, Try.ntmps72
 go_wp2
 go_loopg [1, 5] k (fun kq v1 v5 w' => ∃ (x0_1 : List (S96)) (x1_1 : Int) (x5_1 : Int), v1 = .int .i64 x1_1 ∧ v5 = .int .i64 x5_1 ∧ Aside0 (laws_markEarlyS.l0 kq x0_1 x1_1 x5_1 = some (r1, r2)) ∧ Aside0 (kq ≤ k) ∧ Aside0 (Kd.R k96 96 w' w0.heap.size (fun k_ => (P0_ k_ ∨ w.heap.size ≤ k_)) u9000_ x0_1) ∧ Aside0 (Kept w w' (fun k_ => P0_ k_)) ∧ Aside0 (Below w0.heap.size w0 w'))
 case atStart => exact ⟨(l0), (a1), (0), (by first | rfl | (simp; done) | (simp [*]; done)), (by first | rfl | (simp; done) | (simp [*]; done)), H', ⟨Nat.le_refl _⟩, ⟨kR_ HO0.out⟩, ⟨by repeat (first | (with_reducible first | exact HK.out | apply Kept.alloc | apply Kept.drewN | apply Kept.drew) | exact HK.out)⟩, ⟨hbA_ HB.out⟩⟩
 case round =>
  clear H'; (try clear p2)
  obtain ⟨x0_1, x1_1, x5_1, rfl, rfl, HA, HK1, HO_0, HK, HB⟩ := hrel
  cases gk with
  | zero => exact absurd HA.out (by simp [laws_markEarlyS.l0])
  | succ k1 =>
   have H := HA.out; clear HA
   simp only [laws_markEarlyS.l0] at H
   by_cases c3 : x5_1 < (x0_1.length : Int)
   ·rw [if_pos c3] at H
    have c3b0 : decide (x5_1 < (x0_1.length : Int)) = true := decide_eq_true c3
    clear c3
    by_cases c4 : 0 ≤ x5_1
    ·rw [if_pos c4] at H
     have c4b0 : decide (0 ≤ x5_1) = true := decide_eq_true c4
     clear c4
     obtain ⟨y277, hy277⟩ : ∃ y_ : List (S96), y_ = (x0_1.set (x5_1 : Int).toNat (⟨x1_1, (rd_T96 x0_1 x5_1).f1⟩ : S96)) := ⟨_, rfl⟩
     (first | replace H := sb_ hy277 H | rw [← hy277] at H)
     have Ny277 := Aside0.mk hy277; clear hy277
     obtain ⟨y278, hy278⟩ : ∃ y_ : List (S96), y_ = (y277.set (x5_1 : Int).toNat (⟨(rd_T96 y277 x5_1).f0, (wrap64 (x1_1 + 1)) % 256⟩ : S96)) := ⟨_, rfl⟩
     (first | replace H := sb_ hy278 H | rw [← hy278] at H)
     have Ny278 := Aside0.mk hy278; clear hy278
     have H' := Aside0.mk H
     clear H
     obtain ⟨Ao7, co7, eo7⟩ := Kd.R_slice HO_0.out
     subst eo7
     have p5 : 0 ≤ (x5_1 : Int) := of_decide_eq_true (by first | (with_reducible assumption) | assumption)
     have q5 : (x5_1 : Int) < ((x0_1.length : Int) : Int) := of_decide_eq_true (by first | (with_reducible assumption) | assumption)
     obtain ⟨go5, co5, eo5, gb5, gl5, cl5, HG5⟩ := Kd.R_form HO_0.out (by omega)
     (first | cases eo5 | (injection eo5 with ea_ en_ ec_; (first | subst ea_ | (injection ea_ with ea_; subst ea_)); subst ec_; clear en_))
     have GB5 := Aside0.mk gb5; have GG5 := Aside0.mk HG5; clear gb5 gl5 HG5
     have HMgo5 := Aside0.mk (show (P0_ go5 ∨ w.heap.size ≤ go5) from (HO_0.out.1 _ rfl))
     obtain ⟨ce5, hcl5, hM5, hcc5, hfr5⟩ := Kd.R_elem HO_0.out z96 (x5_1 : Int) p5 q5
     obtain rfl := k96_openM hM5
     have hx5_0 : wr.cell? ⟨go5, (x5_1 : Int).toNat * 2, none⟩ = some (.int .i64 ((rd_T96 x0_1 x5_1).f0)) := hcc5 0 _ rfl
     have hx5_1 : wr.cell? ⟨go5, (x5_1 : Int).toNat * 2 + 1, none⟩ = some (.int .u8 ((rd_T96 x0_1 x5_1).f1)) := hcc5 1 _ rfl
     have hf5_0 : wr.frozen? ⟨go5, (x5_1 : Int).toNat * 2, none⟩ = false := hfr5 0
     have hf5_1 : wr.frozen? ⟨go5, (x5_1 : Int).toNat * 2 + 1, none⟩ = false := hfr5 1
     clear hcl5 hcc5 hfr5 hM5
     replace p5 := eq_true p5
     replace q5 := eq_true q5
     have HX8 := Aside0.mk (show Kd.R k96 96 wr w0.heap.size (fun k_ => (P0_ k_ ∨ w.heap.size ≤ k_)) (.slice (some ⟨go5, 0, none⟩) x0_1.length co7) x0_1 from (kR_ HO_0.out))
     obtain ⟨ce8, hcl8, hM8, hcc8, hfr8⟩ := Kd.R_elem HX8.out z96 (x5_1 : Int) (of_decide_eq_true (by first | (with_reducible assumption) | assumption)) (by have h_ : (x5_1 : Int) < ((x0_1.length : Int) : Int) := of_decide_eq_true (by first | (with_reducible assumption) | assumption); first | exact h_ | (have e_ := (Kd.R_reads' HO_0.out).1; omega) | simpa using h_)
     obtain rfl := k96_openM hM8
     have HP8 := Kd.R_seg HX8.out (x5_1 : Int) (of_decide_eq_true (by first | (with_reducible assumption) | assumption)) (by have h_ : (x5_1 : Int) < ((x0_1.length : Int) : Int) := of_decide_eq_true (by first | (with_reducible assumption) | assumption); first | exact h_ | (have e_ := (Kd.R_reads' HO_0.out).1; omega) | simpa using h_) (seg := [.int .i64 x1_1]) (j := 0) hcl8 hcc8 (show 1 ≤ 2 from by decide) (x' := (⟨x1_1, (rd_T96 x0_1 x5_1).f1⟩ : S96)) (k96_mkM _ _ _ (⟨x1_1, (rd_T96 x0_1 x5_1).f1⟩ : S96) ) (fun _ hk => hk)
     have hx8_0 := hcc8 0 _ rfl
     (try simp only [show (k96).sz = 2 from rfl, Nat.mul_one, Nat.add_zero] at hx8_0)
     have hf8_0 := hfr8 0
     (try simp only [show (k96).sz = 2 from rfl, Nat.mul_one, Nat.add_zero] at hf8_0)
     clear hcl8 hcc8 hfr8 hM8
     go_wp2_with (first | ((with_reducible refine gate_store (t := 3) (p := 16) rfl ?_); refine store_event (t := 3) (p := 16) (v := ?vo_w9) (w1 := (wr.setCell ⟨go5, (x5_1 : Int).toNat * 2, none⟩ (.int .i64 x1_1))) ?hg ?ho ?hn ?hr ?_; (case ho => rfl); (case hg => rfl); (case hn => rfl); (case hr => first | (go_simp; done) | (go_simp; rfl)); intro w9 hw; have hg : wr.grownBy w9 (some go5) := (by rw [hw]; exact HP8.2); have hp_ : Kd.R k96 96 w9 w0.heap.size (fun k_ => (P0_ k_ ∨ w.heap.size ≤ k_)) (.slice (some ⟨go5, 0, none⟩) x0_1.length co7) y277 := (by rw [hw, Ny277.out]; exact HP8.1); clear HP8; replace HB := Aside0.mk ((by rw [hw]; exact below_set (HB.out) GB5.out : Below w0.heap.size w0 w9)); replace HK := Aside0.mk (Kept.of_grown (S := (fun k_ => P0_ k_)) hg (by repeat (first | (with_reducible first | exact HK.out | apply Kept.alloc | apply Kept.drewN | apply Kept.drew) | exact HK.out)) (fun k_ e_ => (HO_0.out.1 k_ e_))); replace HO_0 := Aside0.mk (hp_); clear hg hw hp_; have p6 : 0 ≤ (x5_1 : Int) := of_decide_eq_true (by first | (with_reducible assumption) | assumption); have q6 : (x5_1 : Int) < ((x0_1.length : Int) : Int) := of_decide_eq_true (by first | (with_reducible assumption) | assumption); obtain ⟨ce6, hcl6, hM6, hcc6, hfr6⟩ := Kd.R_elem HO_0.out z96 (x5_1 : Int) p6 q6; obtain rfl := k96_openM hM6; have hx6_0 : w9.cell? ⟨go5, (x5_1 : Int).toNat * 2, none⟩ = some (.int .i64 ((rd_T96 y277 x5_1).f0)) := hcc6 0 _ rfl; have hx6_1 : w9.cell? ⟨go5, (x5_1 : Int).toNat * 2 + 1, none⟩ = some (.int .u8 ((rd_T96 y277 x5_1).f1)) := hcc6 1 _ rfl; have hf6_0 : w9.frozen? ⟨go5, (x5_1 : Int).toNat * 2, none⟩ = false := hfr6 0; have hf6_1 : w9.frozen? ⟨go5, (x5_1 : Int).toNat * 2 + 1, none⟩ = false := hfr6 1; clear hcl6 hcc6 hfr6 hM6; replace p6 := eq_true p6; replace q6 := eq_true q6; have HX10 := Aside0.mk (show Kd.R k96 96 w9 w0.heap.size (fun k_ => (P0_ k_ ∨ w.heap.size ≤ k_)) (.slice (some ⟨go5, 0, none⟩) x0_1.length co7) y277 from (kR_ HO_0.out)); obtain ⟨ce10, hcl10, hM10, hcc10, hfr10⟩ := Kd.R_elem HX10.out z96 (x5_1 : Int) (of_decide_eq_true (by first | (with_reducible assumption) | assumption)) (by have h_ : (x5_1 : Int) < ((x0_1.length : Int) : Int) := of_decide_eq_true (by first | (with_reducible assumption) | assumption); first | exact h_ | (have e_ := (Kd.R_reads' HO_0.out).1; omega) | simpa using h_); obtain rfl := k96_openM hM10; have HP10 := Kd.R_seg HX10.out (x5_1 : Int) (of_decide_eq_true (by first | (with_reducible assumption) | assumption)) (by have h_ : (x5_1 : Int) < ((x0_1.length : Int) : Int) := of_decide_eq_true (by first | (with_reducible assumption) | assumption); first | exact h_ | (have e_ := (Kd.R_reads' HO_0.out).1; omega) | simpa using h_) (seg := [.int .u8 ((wrap64 (x1_1 + 1)) % 256)]) (j := 1) hcl10 hcc10 (show 2 ≤ 2 from by decide) (x' := (⟨(rd_T96 y277 x5_1).f0, (wrap64 (x1_1 + 1)) % 256⟩ : S96)) (k96_mkM _ _ _ (⟨(rd_T96 y277 x5_1).f0, (wrap64 (x1_1 + 1)) % 256⟩ : S96) ) (fun _ hk => hk); have hx10_1 := hcc10 1 _ rfl; (try simp only [show (k96).sz = 2 from rfl, Nat.mul_one, Nat.add_zero] at hx10_1); have hf10_1 := hfr10 1; (try simp only [show (k96).sz = 2 from rfl, Nat.mul_one, Nat.add_zero] at hf10_1); clear hcl10 hcc10 hfr10 hM10) | ((with_reducible refine gate_store (t := 5) (p := 24) rfl ?_); refine store_event (t := 5) (p := 24) (v := ?vo_w11) (w1 := (w9.setCell ⟨go5, (x5_1 : Int).toNat * 2 + 1, none⟩ (.int .u8 ((wrap64 (x1_1 + 1)) % 256)))) ?hg ?ho ?hn ?hr ?_; (case ho => rfl); (case hg => rfl); (case hn => rfl); (case hr => first | (go_simp; done) | (go_simp; rfl)); intro w11 hw; have hg : w9.grownBy w11 (some go5) := (by rw [hw]; exact HP10.2); have hp_ : Kd.R k96 96 w11 w0.heap.size (fun k_ => (P0_ k_ ∨ w.heap.size ≤ k_)) (.slice (some ⟨go5, 0, none⟩) x0_1.length co7) y278 := (by rw [hw, Ny278.out]; exact HP10.1); clear HP10; replace HB := Aside0.mk ((by rw [hw]; exact below_set (HB.out) GB5.out : Below w0.heap.size w0 w11)); replace HK := Aside0.mk (Kept.of_grown (S := (fun k_ => P0_ k_)) hg (by repeat (first | (with_reducible first | exact HK.out | apply Kept.alloc | apply Kept.drewN | apply Kept.drew) | exact HK.out)) (fun k_ e_ => (HO_0.out.1 k_ e_))); replace HO_0 := Aside0.mk (hp_); clear hg hw hp_))
     go_roundg k1
     case measure => have := HK1.out; omega
     case rel => exact ⟨(y278), (wrap64 ((wrap64 (x1_1 + 1)) + 1)), (wrap64 (x5_1 + 1)), (by first | rfl | (simp; done) | (simp [*]; done)), (by first | rfl | (simp; done) | (simp [*]; done)), H', ⟨by have := HK1.out; omega⟩, ⟨kR_ HO_0.out⟩, ⟨by repeat (first | (with_reducible first | exact HK.out | apply Kept.alloc | apply Kept.drewN | apply Kept.drew) | exact HK.out)⟩, ⟨hbA_ HB.out⟩⟩
    ·rw [if_neg c4] at H
     exact absurd H (by simp)
   ·rw [if_neg c3] at H
    have c3b0 : decide (x5_1 < (x0_1.length : Int)) = false := decide_eq_false c3
    clear c3
    simp only [Option.some.injEq, Prod.mk.injEq] at H
    obtain ⟨rfl, rfl⟩ := H
    obtain ⟨Ao12, co12, eo12⟩ := Kd.R_slice HO_0.out
    subst eo12
    go_wp2
    go_ret
    exact ⟨by first | rfl | (simp [errW_none, errW_some] <;> rfl) | (simp [*, errW_none, errW_some] <;> rfl), kR_ HO_0.out, hbA_ HB.out, by repeat (first | (with_reducible first | exact HK.out | apply Kept.alloc | apply Kept.drewN | apply Kept.drew) | exact HK.out)⟩
def laws_markEar.f (k : Nat) (a0_0 : Int) (a0_1 : Int) (l0_2 : List Int) (l0_3 : List (S96)) (a1 : Int) : Option (Int × List Int × (List (S96))) := (laws_markByteS.f k l0_2 a1).bind fun bt280 => ((laws_markEarlyS.f k l0_3 bt280.1).bind fun bt282 => (some (bt282.1, bt280.2, bt282.2)))
theorem laws_markEar.mono : ∀ a0 a1 a2 a3 a4 k, LeO (laws_markEar.f k a0 a1 a2 a3 a4) (laws_markEar.f (k + 1) a0 a1 a2 a3 a4) := by
 intro a0 a1 a2 a3 a4 k
 unfold laws_markEar.f
 repeat' first | (with_reducible first | apply laws_markByteS.mono | apply laws_markEarlyS.mono | exact LeO.refl _ | exact LeO.none _ | refine LeO.ite ?_ ?_ | refine LeO.bind ?_ fun _ => ?_) | apply laws_markByteS.mono | apply laws_markEarlyS.mono | exact LeO.none _ | refine LeO.ite ?_ ?_ | refine LeO.bind ?_ fun _ => ?_
set_option maxHeartbeats 8000000 in
set_option maxRecDepth 100000 in
theorem laws_markEar.calls (k : Nat) (a0_0 : Int) (a0_1 : Int) (P0_2_ : Nat → Prop) (u9000_ : Value) (l0_2 : List Int) (P0_3_ : Nat → Prop) (u9001_ : Value) (l0_3 : List (S96)) (a1 : Int) (r1 : Int) (r2 : List Int) (r3 : List (S96)) (w0 w : World) (hB : Below w0.heap.size w0 w) (ho0_2 : Kd.R (Kd.int .u8) 5 w w0.heap.size P0_2_ u9000_ l0_2) (ho0_3 : Kd.R k96 96 w w0.heap.size P0_3_ u9001_ l0_3) (h : laws_markEar.f k a0_0 a0_1 l0_2 l0_3 a1 = some (r1, r2, r3)) :
  Calls Try.prog 30 #[.agg #[.int .i64 a0_0, .int .i64 a0_1, u9000_, u9001_], .int .i64 a1] w fun e w' => e = .returned (.int .i64 r1) ∧ Kd.R (Kd.int .u8) 5 w' w0.heap.size (fun k_ => ((P0_2_ k_ ∨ P0_3_ k_) ∨ w.heap.size ≤ k_)) u9000_ r2 ∧ Kd.R k96 96 w' w0.heap.size (fun k_ => ((P0_2_ k_ ∨ P0_3_ k_) ∨ w.heap.size ≤ k_)) u9001_ r3 ∧ Below w0.heap.size w0 w' ∧ Kept w w' (fun k_ => P0_2_ k_ ∨ P0_3_ k_) := by
 have hu48 := Try.underlying48
 have HO0_2 := Aside0.mk (show Kd.R (Kd.int .u8) 5 w w0.heap.size (fun k_ => ((P0_2_ k_ ∨ P0_3_ k_) ∨ w.heap.size ≤ k_)) u9000_ l0_2 from Kd.R_mono ho0_2 (fun k_ hk => (.inl (.inl hk))))
 have HO0_3 := Aside0.mk (show Kd.R k96 96 w w0.heap.size (fun k_ => ((P0_2_ k_ ∨ P0_3_ k_) ∨ w.heap.size ≤ k_)) u9001_ l0_3 from Kd.R_mono ho0_3 (fun k_ hk => (.inl (.inr hk))))
 have HK := Aside0.mk (Kept.refl w (fun k_ => P0_2_ k_ ∨ P0_3_ k_))
 have HW0 := Aside0.mk hB.size; have HB := Aside0.mk hB; clear hB
 have H : ((laws_markByteS.f k l0_2 a1).bind fun bt280 => ((laws_markEarlyS.f k l0_3 bt280.1).bind fun bt282 => (some (bt282.1, bt280.2, bt282.2)))) = some (r1, r2, r3) := h
 clear h
 replace H := Option.bind_eq_some_iff.mp H
 obtain ⟨⟨t280, t281⟩, A30, H⟩ := H
 (try dsimp only at H)
 have A3 := Aside0.mk A30; clear A30
 replace H := Option.bind_eq_some_iff.mp H
 obtain ⟨⟨t282, t283⟩, A40, H⟩ := H
 (try dsimp only at H)
 have A4 := Aside0.mk A40; clear A40
 simp only [Option.some.injEq, Prod.mk.injEq] at H
 obtain ⟨rfl, rfl, rfl⟩ := H
 obtain ⟨Ao5, co5, eo5⟩ := Kd.R_slice HO0_2.out
 subst eo5
 obtain ⟨Ao6, co6, eo6⟩ := Kd.R_slice HO0_3.out
 subst eo6
 go_enter Try.func30, Try.ntmps30
 go_wp2_with (first | ((with_reducible refine gate_dst (N := 2) rfl ?_); refine box_ (N := 2) (cs := #[.int .i64 a0_0, .int .i64 a0_1, .slice Ao5 l0_2.length co5, .slice Ao6 l0_3.length co6]) (t := 48) (fun gb279 hg w7 hbox hb => ?_); replace HO0_2 := Aside0.mk (Kd.R_below (kR_ HO0_2.out) hb); replace HO0_3 := Aside0.mk (Kd.R_below (kR_ HO0_3.out) hb); have BK279 := Aside0.mk (hbox); have GW279 := Aside0.mk ((by rw [hg]; exact (by first | exact HK.out.1 | exact (show Kept w _ (fun k_ => P0_2_ k_ ∨ P0_3_ k_) from by repeat (first | (with_reducible first | exact HK.out | apply Kept.alloc | apply Kept.drewN | apply Kept.drew) | exact HK.out)).1) : w.heap.size ≤ gb279)); replace HK := Aside0.mk (Kept.below (S := (fun k_ => P0_2_ k_ ∨ P0_3_ k_)) (by repeat (first | (with_reducible first | exact HK.out | apply Kept.alloc | apply Kept.drewN | apply Kept.drew) | exact HK.out)) hb); have GE279 := ge_ hg HB; replace HB := (bs_ HB hb); clear hb hbox hg; have Z8 := zz4 BK279) | ((with_reducible refine gate_callee (f := 31) rfl ?_); refine goesL_ (some 8) rfl rfl Try.func31 (by kernel_rfl) rfl #[.slice Ao5 l0_2.length co5, .int .i64 a1] rfl ar_ ?_; (with_reducible refine (laws_markByteS.calls k (fun k_ => some k_ = (.slice Ao5 l0_2.length co5 : Value).ownBlock) (.slice Ao5 l0_2.length co5) l0_2 a1 t280 t281 w0 _ ?side1 ?side2 A3.out).mono ?_); (case side1 => exact hbA_ HB.out); (case side2 => exact Kd.R_tight rfl HO0_2.out); rintro e w9 ⟨rfl, hy0, hb, hkp⟩; refine ⟨_, rfl, ?_⟩; replace HO0_3 := Aside0.mk (Kd.R_mono (ok' := fun k_ => ((P0_2_ k_ ∨ P0_3_ k_) ∨ w.heap.size ≤ k_)) (Kd.R_keptB ((Kd.R_apart' HO0_3.out (Kd.R_typed HO0_2.out) (by decide))) hkp (fun k_ hk_ hs_ => (hk_.2) hs_)) (fun k_ hk_ => hk_.1.1)); replace BK279 := Aside0.mk (blk_kept (g := gb279) (o := .cells #[.int .i64 a0_0, .int .i64 a0_1, .slice Ao5 l0_2.length co5, .slice Ao6 l0_3.length co6] 48 (0, 0)) (kb_ BK279.out) hkp (fun hs_ => (fun e_ => (Kd.R_ne HO0_2.out BK279.out (by decide)) e_) hs_)); replace HK := Aside0.mk (Kept.then_ (S := (fun k_ => P0_2_ k_ ∨ P0_3_ k_)) (by repeat (first | (with_reducible first | exact HK.out | apply Kept.alloc | apply Kept.drewN | apply Kept.drew | refine Kept.setCell ?_ (.inr GW279.out) _) | exact HK.out)) hkp (fun k_ hs_ => (fun e_ => (HO0_2.out.1 k_ e_.symm)) hs_)); replace HO0_2 := Aside0.mk (Kd.R_reok rfl hy0 (fun k_ e_ => HO0_2.out.1 k_ e_)); replace HB := Aside0.mk (hb); (try clear hb); (try clear hkp); (try clear hy0); have Z10 := zz4 BK279) | ((with_reducible refine gate_callee (f := 72) rfl ?_); refine goesL_ (some 12) rfl rfl Try.func72 (by kernel_rfl) rfl #[.slice Ao6 l0_3.length co6, .int .i64 t280] rfl ar_ ?_; (with_reducible refine (laws_markEarlyS.calls k (fun k_ => some k_ = (.slice Ao6 l0_3.length co6 : Value).ownBlock) (.slice Ao6 l0_3.length co6) l0_3 t280 t282 t283 w0 _ ?side1 ?side2 A4.out).mono ?_); (case side1 => exact hbA_ HB.out); (case side2 => exact Kd.R_tight rfl HO0_3.out); rintro e w11 ⟨rfl, hy0, hb, hkp⟩; refine ⟨_, rfl, ?_⟩; replace HO0_2 := Aside0.mk (Kd.R_mono (ok' := fun k_ => ((P0_2_ k_ ∨ P0_3_ k_) ∨ w.heap.size ≤ k_)) (Kd.R_keptB ((Kd.R_apart' HO0_2.out (Kd.R_typed HO0_3.out) (by decide))) hkp (fun k_ hk_ hs_ => (hk_.2) hs_)) (fun k_ hk_ => hk_.1.1)); replace BK279 := Aside0.mk (blk_kept (g := gb279) (o := .cells #[.int .i64 a0_0, .int .i64 a0_1, .slice Ao5 l0_2.length co5, .slice Ao6 l0_3.length co6] 48 (0, 0)) (kb_ BK279.out) hkp (fun hs_ => (fun e_ => (Kd.R_ne HO0_3.out BK279.out (by decide)) e_) hs_)); replace HK := Aside0.mk (Kept.then_ (S := (fun k_ => P0_2_ k_ ∨ P0_3_ k_)) (by repeat (first | (with_reducible first | exact HK.out | apply Kept.alloc | apply Kept.drewN | apply Kept.drew | refine Kept.setCell ?_ (.inr GW279.out) _) | exact HK.out)) hkp (fun k_ hs_ => (fun e_ => (HO0_3.out.1 k_ e_.symm)) hs_)); replace HO0_3 := Aside0.mk (Kd.R_reok rfl hy0 (fun k_ e_ => HO0_3.out.1 k_ e_)); replace HB := Aside0.mk (hb); (try clear hb); (try clear hkp); (try clear hy0)))
 go_ret
 exact ⟨by first | rfl | (simp [errW_none, errW_some] <;> rfl) | (simp [*, errW_none, errW_some] <;> rfl), kR_ HO0_2.out, kR_ HO0_3.out, hbA_ HB.out, by repeat (first | (with_reducible first | exact HK.out | apply Kept.alloc | apply Kept.drewN | apply Kept.drew | refine Kept.setCell ?_ (.inr GW279.out) _) | exact HK.out)⟩
def laws_heldByteS.l0 : Nat → List Int → Int → Int → Option (Int)
 | 0, _, _, _ => none
 | k + 1, x0, x1, x5 => if x5 < (x0.length : Int) then (if 0 ≤ x5 then (if (rd x0 x5) = ((x1) % 256) then (laws_heldByteS.l0 k x0 (wrap64 (x1 + 1)) (wrap64 (x5 + 1))) else (some (-1))) else (none)) else (some x1)
def laws_heldByteS.f (k : Nat) (l0 : List Int) (a1 : Int) : Option (Int) := laws_heldByteS.l0 k l0 a1 0
theorem laws_heldByteS.mono_l : ∀ k, (∀ y0 y1 y2, LeO (laws_heldByteS.l0 k y0 y1 y2) (laws_heldByteS.l0 (k + 1) y0 y1 y2))
 | 0 => fun _ _ _ r h => by simp [laws_heldByteS.l0] at h
 | k + 1 => by
  have ih0 := laws_heldByteS.mono_l k
  ·intro y0 y1 y2
   unfold laws_heldByteS.l0
   repeat' first | (with_reducible first | apply ih0 | exact LeO.refl _ | exact LeO.none _ | refine LeO.ite ?_ ?_ | refine LeO.bind ?_ fun _ => ?_) | apply ih0 | exact LeO.none _ | refine LeO.ite ?_ ?_ | refine LeO.bind ?_ fun _ => ?_
theorem laws_heldByteS.mono : ∀ a0 a1 k, LeO (laws_heldByteS.f k a0 a1) (laws_heldByteS.f (k + 1) a0 a1) := by
 intro a0 a1 k
 have ih0 := laws_heldByteS.mono_l k
 unfold laws_heldByteS.f
 repeat' first | (with_reducible first | apply ih0 | exact LeO.refl _ | exact LeO.none _ | refine LeO.ite ?_ ?_ | refine LeO.bind ?_ fun _ => ?_) | apply ih0 | exact LeO.none _ | refine LeO.ite ?_ ?_ | refine LeO.bind ?_ fun _ => ?_
set_option maxHeartbeats 8000000 in
set_option maxRecDepth 100000 in
theorem laws_heldByteS.calls (k : Nat) (A0 : Option Addr) (c0 : Nat) (l0 : List Int) (a1 : Int) (r : Int) (w : World) (hr0 : Kd.C (Kd.int .u8) w A0 l0.length l0) (hc0 : l0.length ≤ c0) (h : laws_heldByteS.f k l0 a1 = some r) :
  Calls Try.prog 64 #[.slice A0 l0.length c0, .int .i64 a1] w fun e w' => e = .returned (.int .i64 r) ∧ Drawn0 w w' := by
 have HR0 := Aside0.mk hr0; have HC0 := Aside0.mk hc0; clear hr0 hc0
 have H : (laws_heldByteS.l0 k l0 a1 0) = some r := h
 clear h
 have H' := Aside0.mk H
 clear H
 go_enter Try.func64, Try.ntmps64
 go_wp2
 go_loopg [1, 5] k (fun kq v1 v5 w' => ∃ (x1_1 : Int) (x5_1 : Int), v1 = .int .i64 x1_1 ∧ v5 = .int .i64 x5_1 ∧ Aside0 (laws_heldByteS.l0 kq l0 x1_1 x5_1 = some r) ∧ Aside0 (kq ≤ k) ∧ Drawn0 w w')
 case atStart => exact ⟨(a1), (0), (by first | rfl | (simp; done) | (simp [*]; done)), (by first | rfl | (simp; done) | (simp [*]; done)), H', ⟨Nat.le_refl _⟩, by repeat (first | exact Drawn0.refl _ | apply Drawn0.step)⟩
 case round =>
  clear H'; (try clear p2)
  obtain ⟨x1_1, x5_1, rfl, rfl, HA, HK1, ⟨m1, rfl⟩⟩ := hrel
  cases gk with
  | zero => exact absurd HA.out (by simp [laws_heldByteS.l0])
  | succ k1 =>
   have H := HA.out; clear HA
   simp only [laws_heldByteS.l0] at H
   by_cases c3 : x5_1 < (l0.length : Int)
   ·rw [if_pos c3] at H
    have c3b0 : decide (x5_1 < (l0.length : Int)) = true := decide_eq_true c3
    clear c3
    by_cases c4 : 0 ≤ x5_1
    ·rw [if_pos c4] at H
     have c4b0 : decide (0 ≤ x5_1) = true := decide_eq_true c4
     clear c4
     by_cases c5 : (rd l0 x5_1) = ((x1_1) % 256)
     ·rw [if_pos c5] at H
      have c5b0 : ((rd l0 x5_1) == ((x1_1) % 256)) = true := beq_iff_eq.mpr c5
      have c5b1 : ((rd l0 x5_1) != ((x1_1) % 256)) = false := bne_eq_false_iff_eq.mpr c5
      clear c5
      have H' := Aside0.mk H
      clear H
      have p284 : 0 ≤ (x5_1 : Int) := of_decide_eq_true (by first | (with_reducible assumption) | assumption)
      have q284 : x5_1 < (l0.length : Int) := of_decide_eq_true (by first | (with_reducible assumption) | assumption)
      obtain ⟨ad284, e284, hx284_0⟩ := Kd.at_int HR0.out x5_1 p284 q284
      cases e284
      replace p284 := eq_true p284
      replace q284 := eq_true q284
      go_wp2
      go_roundg k1
      case measure => have := HK1.out; omega
      case rel => exact ⟨(wrap64 (x1_1 + 1)), (wrap64 (x5_1 + 1)), (by first | rfl | (simp; done) | (simp [*]; done)), (by first | rfl | (simp; done) | (simp [*]; done)), H', ⟨by have := HK1.out; omega⟩, by repeat (first | exact Drawn0.refl _ | apply Drawn0.step)⟩
     ·rw [if_neg c5] at H
      have c5b0 : ((rd l0 x5_1) == ((x1_1) % 256)) = false := beq_eq_false_iff_ne.mpr c5
      have c5b1 : ((rd l0 x5_1) != ((x1_1) % 256)) = true := bne_iff_ne.mpr c5
      obtain rfl := Option.some.inj H
      have p284 : 0 ≤ (x5_1 : Int) := of_decide_eq_true (by first | (with_reducible assumption) | assumption)
      have q284 : x5_1 < (l0.length : Int) := of_decide_eq_true (by first | (with_reducible assumption) | assumption)
      obtain ⟨ad284, e284, hx284_0⟩ := Kd.at_int HR0.out x5_1 p284 q284
      cases e284
      replace p284 := eq_true p284
      replace q284 := eq_true q284
      go_wp2
      go_ret
      exact ⟨by first | rfl | (simp; done) | (simp [*]; done), by repeat (first | exact Drawn0.refl _ | apply Drawn0.step)⟩
    ·rw [if_neg c4] at H
     exact absurd H (by simp)
   ·rw [if_neg c3] at H
    have c3b0 : decide (x5_1 < (l0.length : Int)) = false := decide_eq_false c3
    clear c3
    obtain rfl := Option.some.inj H
    go_wp2
    go_ret
    exact ⟨by first | rfl | (simp; done) | (simp [*]; done), by repeat (first | exact Drawn0.refl _ | apply Drawn0.step)⟩
def laws_heldEarlyS.l0 : Nat → List (S96) → Int → Int → Option (Int)
 | 0, _, _, _ => none
 | k + 1, x0, x1, x5 => if x5 < (x0.length : Int) then (if 0 ≤ x5 then (if ((rd_T96 x0 x5).f0) = x1 then (if ((rd_T96 x0 x5).f1) = ((wrap64 (x1 + 1)) % 256) then (laws_heldEarlyS.l0 k x0 (wrap64 ((wrap64 (x1 + 1)) + 1)) (wrap64 (x5 + 1))) else (some (-1))) else (some (-1))) else (none)) else (some x1)
def laws_heldEarlyS.f (k : Nat) (l0 : List (S96)) (a1 : Int) : Option (Int) := laws_heldEarlyS.l0 k l0 a1 0
theorem laws_heldEarlyS.mono_l : ∀ k, (∀ y0 y1 y2, LeO (laws_heldEarlyS.l0 k y0 y1 y2) (laws_heldEarlyS.l0 (k + 1) y0 y1 y2))
 | 0 => fun _ _ _ r h => by simp [laws_heldEarlyS.l0] at h
 | k + 1 => by
  have ih0 := laws_heldEarlyS.mono_l k
  ·intro y0 y1 y2
   unfold laws_heldEarlyS.l0
   repeat' first | (with_reducible first | apply ih0 | exact LeO.refl _ | exact LeO.none _ | refine LeO.ite ?_ ?_ | refine LeO.bind ?_ fun _ => ?_) | apply ih0 | exact LeO.none _ | refine LeO.ite ?_ ?_ | refine LeO.bind ?_ fun _ => ?_
theorem laws_heldEarlyS.mono : ∀ a0 a1 k, LeO (laws_heldEarlyS.f k a0 a1) (laws_heldEarlyS.f (k + 1) a0 a1) := by
 intro a0 a1 k
 have ih0 := laws_heldEarlyS.mono_l k
 unfold laws_heldEarlyS.f
 repeat' first | (with_reducible first | apply ih0 | exact LeO.refl _ | exact LeO.none _ | refine LeO.ite ?_ ?_ | refine LeO.bind ?_ fun _ => ?_) | apply ih0 | exact LeO.none _ | refine LeO.ite ?_ ?_ | refine LeO.bind ?_ fun _ => ?_
set_option maxHeartbeats 8000000 in
set_option maxRecDepth 100000 in
theorem laws_heldEarlyS.calls (k : Nat) (A0 : Option Addr) (c0 : Nat) (l0 : List (S96)) (a1 : Int) (r : Int) (w : World) (hr0 : Kd.C k96 w A0 l0.length l0) (hc0 : l0.length ≤ c0) (h : laws_heldEarlyS.f k l0 a1 = some r) :
  Calls Try.prog 73 #[.slice A0 l0.length c0, .int .i64 a1] w fun e w' => e = .returned (.int .i64 r) ∧ Drawn0 w w' := by
 have HR0 := Aside0.mk hr0; have HC0 := Aside0.mk hc0; clear hr0 hc0
 have H : (laws_heldEarlyS.l0 k l0 a1 0) = some r := h
 clear h
 have H' := Aside0.mk H
 clear H
 go_enter Try.func73, Try.ntmps73
 go_wp2
 go_loopg [1, 5] k (fun kq v1 v5 w' => ∃ (x1_1 : Int) (x5_1 : Int), v1 = .int .i64 x1_1 ∧ v5 = .int .i64 x5_1 ∧ Aside0 (laws_heldEarlyS.l0 kq l0 x1_1 x5_1 = some r) ∧ Aside0 (kq ≤ k) ∧ Drawn0 w w')
 case atStart => exact ⟨(a1), (0), (by first | rfl | (simp; done) | (simp [*]; done)), (by first | rfl | (simp; done) | (simp [*]; done)), H', ⟨Nat.le_refl _⟩, by repeat (first | exact Drawn0.refl _ | apply Drawn0.step)⟩
 case round =>
  clear H'; (try clear p2)
  obtain ⟨x1_1, x5_1, rfl, rfl, HA, HK1, ⟨m1, rfl⟩⟩ := hrel
  cases gk with
  | zero => exact absurd HA.out (by simp [laws_heldEarlyS.l0])
  | succ k1 =>
   have H := HA.out; clear HA
   simp only [laws_heldEarlyS.l0] at H
   by_cases c3 : x5_1 < (l0.length : Int)
   ·rw [if_pos c3] at H
    have c3b0 : decide (x5_1 < (l0.length : Int)) = true := decide_eq_true c3
    clear c3
    by_cases c4 : 0 ≤ x5_1
    ·rw [if_pos c4] at H
     have c4b0 : decide (0 ≤ x5_1) = true := decide_eq_true c4
     clear c4
     by_cases c5 : ((rd_T96 l0 x5_1).f0) = x1_1
     ·rw [if_pos c5] at H
      have c5b0 : (((rd_T96 l0 x5_1).f0) == x1_1) = true := beq_iff_eq.mpr c5
      have c5b1 : (((rd_T96 l0 x5_1).f0) != x1_1) = false := bne_eq_false_iff_eq.mpr c5
      clear c5
      by_cases c6 : ((rd_T96 l0 x5_1).f1) = ((wrap64 (x1_1 + 1)) % 256)
      ·rw [if_pos c6] at H
       have c6b0 : (((rd_T96 l0 x5_1).f1) == ((wrap64 (x1_1 + 1)) % 256)) = true := beq_iff_eq.mpr c6
       have c6b1 : (((rd_T96 l0 x5_1).f1) != ((wrap64 (x1_1 + 1)) % 256)) = false := bne_eq_false_iff_eq.mpr c6
       clear c6
       have H' := Aside0.mk H
       clear H
       have p285 : 0 ≤ (x5_1 : Int) := of_decide_eq_true (by first | (with_reducible assumption) | assumption)
       have q285 : x5_1 < (l0.length : Int) := of_decide_eq_true (by first | (with_reducible assumption) | assumption)
       obtain ⟨ad285, e285, hx285_0, hx285_1⟩ := at_T96 HR0.out x5_1 p285 q285
       cases e285
       replace p285 := eq_true p285
       replace q285 := eq_true q285
       have p286 : 0 ≤ (x5_1 : Int) := of_decide_eq_true (by first | (with_reducible assumption) | assumption)
       have q286 : x5_1 < (l0.length : Int) := of_decide_eq_true (by first | (with_reducible assumption) | assumption)
       obtain ⟨ad286, e286, hx286_0, hx286_1⟩ := at_T96 HR0.out x5_1 p286 q286
       obtain rfl : ad285 = ad286 := (by injection e286)
       replace p286 := eq_true p286
       replace q286 := eq_true q286
       go_wp2
       go_roundg k1
       case measure => have := HK1.out; omega
       case rel => exact ⟨(wrap64 ((wrap64 (x1_1 + 1)) + 1)), (wrap64 (x5_1 + 1)), (by first | rfl | (simp; done) | (simp [*]; done)), (by first | rfl | (simp; done) | (simp [*]; done)), H', ⟨by have := HK1.out; omega⟩, by repeat (first | exact Drawn0.refl _ | apply Drawn0.step)⟩
      ·rw [if_neg c6] at H
       have c6b0 : (((rd_T96 l0 x5_1).f1) == ((wrap64 (x1_1 + 1)) % 256)) = false := beq_eq_false_iff_ne.mpr c6
       have c6b1 : (((rd_T96 l0 x5_1).f1) != ((wrap64 (x1_1 + 1)) % 256)) = true := bne_iff_ne.mpr c6
       obtain rfl := Option.some.inj H
       have p285 : 0 ≤ (x5_1 : Int) := of_decide_eq_true (by first | (with_reducible assumption) | assumption)
       have q285 : x5_1 < (l0.length : Int) := of_decide_eq_true (by first | (with_reducible assumption) | assumption)
       obtain ⟨ad285, e285, hx285_0, hx285_1⟩ := at_T96 HR0.out x5_1 p285 q285
       cases e285
       replace p285 := eq_true p285
       replace q285 := eq_true q285
       have p286 : 0 ≤ (x5_1 : Int) := of_decide_eq_true (by first | (with_reducible assumption) | assumption)
       have q286 : x5_1 < (l0.length : Int) := of_decide_eq_true (by first | (with_reducible assumption) | assumption)
       obtain ⟨ad286, e286, hx286_0, hx286_1⟩ := at_T96 HR0.out x5_1 p286 q286
       obtain rfl : ad285 = ad286 := (by injection e286)
       replace p286 := eq_true p286
       replace q286 := eq_true q286
       go_wp2
       go_ret
       exact ⟨by first | rfl | (simp; done) | (simp [*]; done), by repeat (first | exact Drawn0.refl _ | apply Drawn0.step)⟩
     ·rw [if_neg c5] at H
      have c5b0 : (((rd_T96 l0 x5_1).f0) == x1_1) = false := beq_eq_false_iff_ne.mpr c5
      have c5b1 : (((rd_T96 l0 x5_1).f0) != x1_1) = true := bne_iff_ne.mpr c5
      obtain rfl := Option.some.inj H
      have p285 : 0 ≤ (x5_1 : Int) := of_decide_eq_true (by first | (with_reducible assumption) | assumption)
      have q285 : x5_1 < (l0.length : Int) := of_decide_eq_true (by first | (with_reducible assumption) | assumption)
      obtain ⟨ad285, e285, hx285_0, hx285_1⟩ := at_T96 HR0.out x5_1 p285 q285
      cases e285
      replace p285 := eq_true p285
      replace q285 := eq_true q285
      go_wp2
      go_ret
      exact ⟨by first | rfl | (simp; done) | (simp [*]; done), by repeat (first | exact Drawn0.refl _ | apply Drawn0.step)⟩
    ·rw [if_neg c4] at H
     exact absurd H (by simp)
   ·rw [if_neg c3] at H
    have c3b0 : decide (x5_1 < (l0.length : Int)) = false := decide_eq_false c3
    clear c3
    obtain rfl := Option.some.inj H
    go_wp2
    go_ret
    exact ⟨by first | rfl | (simp; done) | (simp [*]; done), by repeat (first | exact Drawn0.refl _ | apply Drawn0.step)⟩
def laws_heldEar.f (k : Nat) (a0_0 : Int) (a0_1 : Int) (l0_2 : List Int) (l0_3 : List (S96)) (a1 : Int) : Option (Int) := (laws_heldByteS.f k l0_2 a1).bind fun t288 => (if t288 < 0 then (some (-1)) else ((laws_heldEarlyS.f k l0_3 t288).bind fun t289 => (if t289 < 0 then (some (-1)) else (some t289))))
theorem laws_heldEar.mono : ∀ a0 a1 a2 a3 a4 k, LeO (laws_heldEar.f k a0 a1 a2 a3 a4) (laws_heldEar.f (k + 1) a0 a1 a2 a3 a4) := by
 intro a0 a1 a2 a3 a4 k
 unfold laws_heldEar.f
 repeat' first | (with_reducible first | apply laws_heldByteS.mono | apply laws_heldEarlyS.mono | exact LeO.refl _ | exact LeO.none _ | refine LeO.ite ?_ ?_ | refine LeO.bind ?_ fun _ => ?_) | apply laws_heldByteS.mono | apply laws_heldEarlyS.mono | exact LeO.none _ | refine LeO.ite ?_ ?_ | refine LeO.bind ?_ fun _ => ?_
set_option maxHeartbeats 8000000 in
set_option maxRecDepth 100000 in
theorem laws_heldEar.calls (k : Nat) (a0_0 : Int) (a0_1 : Int) (A0_2 : Option Addr) (c0_2 : Nat) (l0_2 : List Int) (A0_3 : Option Addr) (c0_3 : Nat) (l0_3 : List (S96)) (a1 : Int) (r : Int) (w : World) (hr0_2 : Kd.C (Kd.int .u8) w A0_2 l0_2.length l0_2) (hc0_2 : l0_2.length ≤ c0_2) (hr0_3 : Kd.C k96 w A0_3 l0_3.length l0_3) (hc0_3 : l0_3.length ≤ c0_3) (h : laws_heldEar.f k a0_0 a0_1 l0_2 l0_3 a1 = some r) :
  Calls Try.prog 32 #[.agg #[.int .i64 a0_0, .int .i64 a0_1, .slice A0_2 l0_2.length c0_2, .slice A0_3 l0_3.length c0_3], .int .i64 a1] w fun e w' => e = .returned (.int .i64 r) ∧ Below w.heap.size w w' := by
 have hu48 := Try.underlying48; have HR0_2 := Aside0.mk hr0_2; have HC0_2 := Aside0.mk hc0_2; clear hr0_2 hc0_2; have HR0_3 := Aside0.mk hr0_3; have HC0_3 := Aside0.mk hc0_3; clear hr0_3 hc0_3
 have HB := Aside0.mk (Below.refl w.heap.size w)
 have H : ((laws_heldByteS.f k l0_2 a1).bind fun t288 => (if t288 < 0 then (some (-1)) else ((laws_heldEarlyS.f k l0_3 t288).bind fun t289 => (if t289 < 0 then (some (-1)) else (some t289))))) = some r := h
 clear h
 replace H := Option.bind_eq_some_iff.mp H
 obtain ⟨t288, A30, H⟩ := H
 (try dsimp only at H)
 have A3 := Aside0.mk A30; clear A30
 by_cases c4 : t288 < 0
 ·rw [if_pos c4] at H
  have c4b0 : decide (t288 < 0) = true := decide_eq_true c4
  clear c4
  obtain rfl := Option.some.inj H
  go_enter Try.func32, Try.ntmps32
  go_wp2_with (first | ((with_reducible refine gate_dst (N := 2) rfl ?_); refine box_ (N := 2) (cs := #[.int .i64 a0_0, .int .i64 a0_1, .slice A0_2 l0_2.length c0_2, .slice A0_3 l0_3.length c0_3]) (t := 48) (fun gb287 hg w5 hbox hb => ?_); have BK287 := Aside0.mk (hbox); have GW287 := ge_ hg HB; have GE287 := ge_ hg HB; replace HB := (bs_ HB hb); clear hb hbox hg; have Z6 := zz4 BK287) | ((with_reducible refine gate_callee (f := 64) rfl ?_); refine goesL_ (some 8) rfl rfl Try.func64 (by kernel_rfl) rfl #[.slice A0_2 l0_2.length c0_2, .int .i64 a1] rfl ar_ ?_; (with_reducible refine (laws_heldByteS.calls k _ _ l0_2 a1 t288 _ ?side1 ?side2 A3.out).mono ?_); (case side1 => exact kC_ (Kd.C_below HR0_2.out HB.out)); (case side2 => exact HC0_2.out); rintro e w' ⟨rfl, ⟨nd, rfl⟩⟩; refine ⟨_, rfl, ?_⟩))
  go_ret
  exact ⟨by first | rfl | (simp [errW_none, errW_some] <;> rfl) | (simp [*, errW_none, errW_some] <;> rfl), hbA_ HB.out⟩
 ·rw [if_neg c4] at H
  have c4b0 : decide (t288 < 0) = false := decide_eq_false c4
  clear c4
  replace H := Option.bind_eq_some_iff.mp H
  obtain ⟨t289, A70, H⟩ := H
  (try dsimp only at H)
  have A7 := Aside0.mk A70; clear A70
  by_cases c8 : t289 < 0
  ·rw [if_pos c8] at H
   have c8b0 : decide (t289 < 0) = true := decide_eq_true c8
   clear c8
   obtain rfl := Option.some.inj H
   go_enter Try.func32, Try.ntmps32
   go_wp2_with (first | ((with_reducible refine gate_dst (N := 2) rfl ?_); refine box_ (N := 2) (cs := #[.int .i64 a0_0, .int .i64 a0_1, .slice A0_2 l0_2.length c0_2, .slice A0_3 l0_3.length c0_3]) (t := 48) (fun gb287 hg w9 hbox hb => ?_); have BK287 := Aside0.mk (hbox); have GW287 := ge_ hg HB; have GE287 := ge_ hg HB; replace HB := (bs_ HB hb); clear hb hbox hg; have Z10 := zz4 BK287) | ((with_reducible refine gate_callee (f := 64) rfl ?_); refine goesL_ (some 8) rfl rfl Try.func64 (by kernel_rfl) rfl #[.slice A0_2 l0_2.length c0_2, .int .i64 a1] rfl ar_ ?_; (with_reducible refine (laws_heldByteS.calls k _ _ l0_2 a1 t288 _ ?side1 ?side2 A3.out).mono ?_); (case side1 => exact kC_ (Kd.C_below HR0_2.out HB.out)); (case side2 => exact HC0_2.out); rintro e w' ⟨rfl, ⟨nd, rfl⟩⟩; refine ⟨_, rfl, ?_⟩) | ((with_reducible refine gate_callee (f := 73) rfl ?_); refine goesL_ (some 14) rfl rfl Try.func73 (by kernel_rfl) rfl #[.slice A0_3 l0_3.length c0_3, .int .i64 t288] rfl ar_ ?_; (with_reducible refine (laws_heldEarlyS.calls k _ _ l0_3 t288 t289 _ ?side1 ?side2 A7.out).mono ?_); (case side1 => exact kC_ (Kd.C_below HR0_3.out (hbA_ HB.out))); (case side2 => exact HC0_3.out); rintro e w' ⟨rfl, ⟨nd, rfl⟩⟩; refine ⟨_, rfl, ?_⟩))
   go_ret
   exact ⟨by first | rfl | (simp [errW_none, errW_some] <;> rfl) | (simp [*, errW_none, errW_some] <;> rfl), hbA_ HB.out⟩
  ·rw [if_neg c8] at H
   have c8b0 : decide (t289 < 0) = false := decide_eq_false c8
   clear c8
   obtain rfl := Option.some.inj H
   go_enter Try.func32, Try.ntmps32
   go_wp2_with (first | ((with_reducible refine gate_dst (N := 2) rfl ?_); refine box_ (N := 2) (cs := #[.int .i64 a0_0, .int .i64 a0_1, .slice A0_2 l0_2.length c0_2, .slice A0_3 l0_3.length c0_3]) (t := 48) (fun gb287 hg w11 hbox hb => ?_); have BK287 := Aside0.mk (hbox); have GW287 := ge_ hg HB; have GE287 := ge_ hg HB; replace HB := (bs_ HB hb); clear hb hbox hg; have Z12 := zz4 BK287) | ((with_reducible refine gate_callee (f := 64) rfl ?_); refine goesL_ (some 8) rfl rfl Try.func64 (by kernel_rfl) rfl #[.slice A0_2 l0_2.length c0_2, .int .i64 a1] rfl ar_ ?_; (with_reducible refine (laws_heldByteS.calls k _ _ l0_2 a1 t288 _ ?side1 ?side2 A3.out).mono ?_); (case side1 => exact kC_ (Kd.C_below HR0_2.out HB.out)); (case side2 => exact HC0_2.out); rintro e w' ⟨rfl, ⟨nd, rfl⟩⟩; refine ⟨_, rfl, ?_⟩) | ((with_reducible refine gate_callee (f := 73) rfl ?_); refine goesL_ (some 14) rfl rfl Try.func73 (by kernel_rfl) rfl #[.slice A0_3 l0_3.length c0_3, .int .i64 t288] rfl ar_ ?_; (with_reducible refine (laws_heldEarlyS.calls k _ _ l0_3 t288 t289 _ ?side1 ?side2 A7.out).mono ?_); (case side1 => exact kC_ (Kd.C_below HR0_3.out (hbA_ HB.out))); (case side2 => exact HC0_3.out); rintro e w' ⟨rfl, ⟨nd, rfl⟩⟩; refine ⟨_, rfl, ?_⟩))
   go_ret
   exact ⟨by first | rfl | (simp [errW_none, errW_some] <;> rfl) | (simp [*, errW_none, errW_some] <;> rfl), hbA_ HB.out⟩
end Go.Proofs.Ytbhofhdmbbipgaa.PFnExactEarHear
