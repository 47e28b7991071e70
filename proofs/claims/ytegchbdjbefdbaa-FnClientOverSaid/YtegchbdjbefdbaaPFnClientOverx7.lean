/- Printed by wip/xp/xprint.sh out of the translation, for this claim: what each function answers, as a plain function, and that the machine does just that. No condition. -/
import Derived.Test.YtegchbdjbefdbaaPFnClientOverx0
import Derived.Test.YtegchbdjbefdbaaPFnClientOverx1
import Derived.Test.YtegchbdjbefdbaaPFnClientOverx3
import Derived.Test.YtegchbdjbefdbaaPFnClientOverx5
import Derived.Test.YtegchbdjbefdbaaPFnClientOverx6
namespace Go.Proofs.Ytegchbdjbefdbaa.PFnClientOver
open Go.RowKit Go.Proofs.YtegchbdjbefdbaaW.PrintWords Go.Proofs.YtegchbdjbefdbaaW.PrintLast Go.Proofs.YtegchbdjbefdbaaW.PrintMore
attribute [local go_sem] max2_int min2_int max_two min_two max_three min_three max_four min_four   -- for this text's walks alone
set_option linter.unusedVariables false
set_option linter.unusedSimpArgs false
def impl_BytesOf.f (k : Nat) (a0 : Int) (a1 : Int) : Option (List Int) := (impl_in.f a1 1 4).bind fun t455 => (if t455 = true then (if 0 ≤ (wrap64 (8 * a1)) then ((impl_in.f a0 0 (wrap64 ((shl .i64 1 (wrap64 (8 * a1))) - 1))).bind fun t456 => (if t456 = true then ((impl_bytesOf.f k a0 a1).bind fun t457 => (some t457)) else (some ([] : List Int)))) else (none)) else (some ([] : List Int)))
theorem impl_BytesOf.mono : ∀ a0 a1 k, LeO (impl_BytesOf.f k a0 a1) (impl_BytesOf.f (k + 1) a0 a1) := by
 intro a0 a1 k
 unfold impl_BytesOf.f
 repeat' first | (with_reducible first | apply impl_bytesOf.mono | exact LeO.refl _ | exact LeO.none _ | refine LeO.ite ?_ ?_ | refine LeO.bind ?_ fun _ => ?_) | apply impl_bytesOf.mono | exact LeO.none _ | refine LeO.ite ?_ ?_ | refine LeO.bind ?_ fun _ => ?_
set_option maxHeartbeats 8000000 in
set_option maxRecDepth 100000 in
theorem impl_BytesOf.calls (k : Nat) (a0 : Int) (a1 : Int) (r : List Int) (w : World) (h : impl_BytesOf.f k a0 a1 = some r) :
  Calls Try.prog 57 #[.int .i64 a0, .int .i64 a1] w fun e w' => ∃ v0_ : Value, e = .returned (v0_) ∧ Kd.R (Kd.int .u8) 5 w' w.heap.size (fun _ => True) v0_ r ∧ Below w.heap.size w w' := by
 have HB := Aside0.mk (Below.refl w.heap.size w)
 have H : ((impl_in.f a1 1 4).bind fun t455 => (if t455 = true then (if 0 ≤ (wrap64 (8 * a1)) then ((impl_in.f a0 0 (wrap64 ((shl .i64 1 (wrap64 (8 * a1))) - 1))).bind fun t456 => (if t456 = true then ((impl_bytesOf.f k a0 a1).bind fun t457 => (some t457)) else (some ([] : List Int)))) else (none)) else (some ([] : List Int)))) = some r := h
 clear h
 replace H := Option.bind_eq_some_iff.mp H
 obtain ⟨t455, A30, H⟩ := H
 (try dsimp only at H)
 have A3 := Aside0.mk A30; clear A30
 by_cases c4 : t455 = true
 ·subst c4
  rw [if_pos rfl] at H
  obtain ⟨ji5, hji5⟩ : ∃ j_ : Int, (wrap64 (8 * a1)) = j_ := ⟨_, rfl⟩
  (first | rw [hji5] at H | simp only [hji5] at H)
  (try rw [hji5] at A3)
  have hji5w : (IntKind.i64.wrap (8 * a1)) = ji5 := (i64_w _).trans hji5
  by_cases c6 : 0 ≤ (ji5)
  ·rw [if_pos c6] at H
   have c6b0 := eq_true c6
   have c6b1 : decide (0 ≤ (ji5)) = true := decide_eq_true c6
   clear c6
   obtain ⟨ji7, hji7⟩ : ∃ j_ : Int, (shl .i64 1 (ji5)) = j_ := ⟨_, rfl⟩
   (first | rw [hji7] at H | simp only [hji7] at H)
   (try rw [hji7] at A3)
   have hji7_ : (IntKind.i64.wrap (1 * 2 ^ min (ji5).toNat 64)) = ji7 := hji7
   have hji7z : (ji5) ≤ 64 → (IntKind.i64.wrap (1 * 2 ^ (ji5).toNat)) = ji7 := shl_small hji7
   have hji7u : (IntKind.i64.wrap (2 ^ min (ji5).toNat 64)) = ji7 := by have h_ := hji7_; rw [Int.one_mul] at h_; exact h_
   have hji7v : (ji5) ≤ 64 → (IntKind.i64.wrap (2 ^ (ji5).toNat)) = ji7 := fun hle_ => by have h_ := hji7z hle_; rw [Int.one_mul] at h_; exact h_
   have hji7y : (wrap64 (1 * 2 ^ min (ji5).toNat 64)) = ji7 := (i64_w _).symm.trans hji7_
   have hji7x : (ji5) ≤ 64 → (wrap64 (1 * 2 ^ (ji5).toNat)) = ji7 := fun h_ => (i64_w _).symm.trans (hji7z h_)
   replace H := Option.bind_eq_some_iff.mp H
   obtain ⟨t456, A80, H⟩ := H
   (try dsimp only at H)
   have A8 := Aside0.mk A80; clear A80
   by_cases c9 : t456 = true
   ·subst c9
    rw [if_pos rfl] at H
    replace H := Option.bind_eq_some_iff.mp H
    obtain ⟨t457, A100, H⟩ := H
    (try dsimp only at H)
    have A10 := Aside0.mk A100; clear A100
    obtain rfl := Option.some.inj H
    go_enter Try.func57, Try.ntmps57
    go_wp2_with (first | ((with_reducible refine gate_callee (f := 49) rfl ?_); refine goesL_ (some 6) rfl rfl Try.func49 (by kernel_rfl) rfl #[.int .i64 a1, .int .i64 1, .int .i64 4] rfl ar_ ?_; (with_reducible refine (impl_in.calls a1 1 4 true _ A3.out).mono ?_); rintro e w' ⟨rfl, ⟨nd, rfl⟩⟩; refine ⟨_, rfl, ?_⟩) | (go_at_call 49; (with_reducible refine (impl_in.calls a0 0 (wrap64 ((ji7) - 1)) true _ A8.out).mono ?_); rintro e w' ⟨rfl, ⟨nd, rfl⟩⟩) | ((with_reducible refine gate_callee (f := 73) rfl ?_); refine goesL_ (some 19) rfl rfl Try.func73 (by kernel_rfl) rfl #[.int .i64 a0, .int .i64 a1] rfl ar_ ?_; (with_reducible refine (impl_bytesOf.calls k a0 a1 t457 _ A10.out).mono ?_); rintro e w11 ⟨v458, rfl, ho0, hb⟩; refine ⟨_, rfl, ?_⟩; have HO459 := Aside0.mk (Kd.R_lower ho0 (below_size (hbA_ HB.out))); replace HB := (bs_ HB hb); (try clear hb); (try clear hb2); (try clear hk); (try clear hi); (try clear ho0)))
    go_ret
    exact ⟨_, by first | rfl | (simp [errW_none, errW_some] <;> rfl) | (simp only [← hji5, ← hji7]; first | rfl | (simp [errW_none, errW_some] <;> rfl)) | (simp [*, errW_none, errW_some] <;> rfl), kR_ HO459.out, hbA_ HB.out⟩
   ·replace c9 := Bool.eq_false_iff.mpr c9
    subst c9
    rw [if_neg (show ¬ (false = true) by decide)] at H
    obtain rfl := Option.some.inj H
    go_enter Try.func57, Try.ntmps57
    go_wp2_with (first | ((with_reducible refine gate_callee (f := 49) rfl ?_); refine goesL_ (some 6) rfl rfl Try.func49 (by kernel_rfl) rfl #[.int .i64 a1, .int .i64 1, .int .i64 4] rfl ar_ ?_; (with_reducible refine (impl_in.calls a1 1 4 true _ A3.out).mono ?_); rintro e w' ⟨rfl, ⟨nd, rfl⟩⟩; refine ⟨_, rfl, ?_⟩) | (go_at_call 49; (with_reducible refine (impl_in.calls a0 0 (wrap64 ((ji7) - 1)) false _ A8.out).mono ?_); rintro e w' ⟨rfl, ⟨nd, rfl⟩⟩))
    go_ret
    exact ⟨_, by first | rfl | (simp [errW_none, errW_some] <;> rfl) | (simp only [← hji5, ← hji7]; first | rfl | (simp [errW_none, errW_some] <;> rfl)) | (simp [*, errW_none, errW_some] <;> rfl), by first | exact Kd.R_nil _ _ _ _ _ | exact Kd.N_nil _ _ _ _ _ | exact Kd.V_nil _ _ _ _ _ | exact Kd.Q_nil _ _ _ _ _ | exact Kd.S_nil _ _ _ _ _, hbA_ HB.out⟩
  ·rw [if_neg c6] at H
   exact absurd H (by simp)
 ·replace c4 := Bool.eq_false_iff.mpr c4
  subst c4
  rw [if_neg (show ¬ (false = true) by decide)] at H
  obtain rfl := Option.some.inj H
  go_enter Try.func57, Try.ntmps57
  go_wp2_with (first | ((with_reducible refine gate_callee (f := 49) rfl ?_); refine goesL_ (some 6) rfl rfl Try.func49 (by kernel_rfl) rfl #[.int .i64 a1, .int .i64 1, .int .i64 4] rfl ar_ ?_; (with_reducible refine (impl_in.calls a1 1 4 false _ A3.out).mono ?_); rintro e w' ⟨rfl, ⟨nd, rfl⟩⟩; refine ⟨_, rfl, ?_⟩))
  go_ret
  exact ⟨_, by first | rfl | (simp [errW_none, errW_some] <;> rfl) | (simp [*, errW_none, errW_some] <;> rfl), by first | exact Kd.R_nil _ _ _ _ _ | exact Kd.N_nil _ _ _ _ _ | exact Kd.V_nil _ _ _ _ _ | exact Kd.Q_nil _ _ _ _ _ | exact Kd.S_nil _ _ _ _ _, hbA_ HB.out⟩
def laws_alive.f (k : Nat)  : Option (Bool) := (impl_BytesOf.f k 5 1).bind fun t460 => (if (t460.length : Int) = 1 then ((impl_BytesOf.f k 256 1).bind fun t463 => (some ((t463.length : Int) == 0))) else (some false))
theorem laws_alive.mono : ∀ k, LeO (laws_alive.f k ) (laws_alive.f (k + 1) ) := by
 intro  k
 unfold laws_alive.f
 repeat' first | (with_reducible first | apply impl_BytesOf.mono | exact LeO.refl _ | exact LeO.none _ | refine LeO.ite ?_ ?_ | refine LeO.bind ?_ fun _ => ?_) | apply impl_BytesOf.mono | exact LeO.none _ | refine LeO.ite ?_ ?_ | refine LeO.bind ?_ fun _ => ?_
set_option maxHeartbeats 8000000 in
set_option maxRecDepth 100000 in
theorem laws_alive.calls (k : Nat)  (r : Bool) (w : World) (h : laws_alive.f k  = some r) :
  Calls Try.prog 20 #[] w fun e w' => e = .returned (.bool r) ∧ Below w.heap.size w w' := by
 have HB := Aside0.mk (Below.refl w.heap.size w)
 have H : ((impl_BytesOf.f k 5 1).bind fun t460 => (if (t460.length : Int) = 1 then ((impl_BytesOf.f k 256 1).bind fun t463 => (some ((t463.length : Int) == 0))) else (some false))) = some r := h
 clear h
 replace H := Option.bind_eq_some_iff.mp H
 obtain ⟨t460, A10, H⟩ := H
 (try dsimp only at H)
 have A1 := Aside0.mk A10; clear A10
 by_cases c2 : (t460.length : Int) = 1
 ·rw [if_pos c2] at H
  have c2b0 : ((t460.length : Int) == 1) = true := beq_iff_eq.mpr c2
  have c2b1 : ((t460.length : Int) != 1) = false := bne_eq_false_iff_eq.mpr c2
  clear c2
  replace H := Option.bind_eq_some_iff.mp H
  obtain ⟨t463, A30, H⟩ := H
  (try dsimp only at H)
  have A3 := Aside0.mk A30; clear A30
  obtain rfl := Option.some.inj H
  go_enter Try.func20, Try.ntmps20
  go_wp2_with (first | ((with_reducible refine gate_callee (f := 57) rfl ?_); refine goesL_ (some 1) rfl rfl Try.func57 (by kernel_rfl) rfl #[.int .i64 5, .int .i64 1] rfl ar_ ?_; (with_reducible refine (impl_BytesOf.calls k 5 1 t460 _ A1.out).mono ?_); rintro e w4 ⟨v461, rfl, ho0, hb⟩; refine ⟨_, rfl, ?_⟩; have HO462 := Aside0.mk (Kd.R_lower ho0 (below_size (hbA_ HB.out))); replace HB := (bs_ HB hb); (try clear hb); (try clear hb2); (try clear hk); (try clear hi); (try clear ho0); obtain ⟨Ao5, co5, eo5⟩ := Kd.R_slice HO462.out; subst eo5) | (go_at_call 57; (with_reducible refine (impl_BytesOf.calls k 256 1 t463 _ A3.out).mono ?_); rintro e w6 ⟨v464, rfl, ho0, hb⟩; have HO465 := Aside0.mk (Kd.R_lower (Kd.R_new' ho0 (Kd.R_lt (kR_ HO462.out))) (below_size (hbA_ HB.out))); replace HO462 := Aside0.mk (Kd.R_elder' (kR_ HO462.out) (Kd.R_base ho0) hb); replace HB := (bs_ HB hb); (try clear hb); (try clear hb2); (try clear hk); (try clear hi); (try clear ho0); obtain ⟨Ao7, co7, eo7⟩ := Kd.R_slice HO465.out; subst eo7))
  go_ret
  exact ⟨by first | rfl | (simp [errW_none, errW_some] <;> rfl) | (simp [*, errW_none, errW_some] <;> rfl), hbA_ HB.out⟩
 ·rw [if_neg c2] at H
  have c2b0 : ((t460.length : Int) == 1) = false := beq_eq_false_iff_ne.mpr c2
  have c2b1 : ((t460.length : Int) != 1) = true := bne_iff_ne.mpr c2
  obtain rfl := Option.some.inj H
  go_enter Try.func20, Try.ntmps20
  go_wp2_with (first | ((with_reducible refine gate_callee (f := 57) rfl ?_); refine goesL_ (some 1) rfl rfl Try.func57 (by kernel_rfl) rfl #[.int .i64 5, .int .i64 1] rfl ar_ ?_; (with_reducible refine (impl_BytesOf.calls k 5 1 t460 _ A1.out).mono ?_); rintro e w8 ⟨v461, rfl, ho0, hb⟩; refine ⟨_, rfl, ?_⟩; have HO462 := Aside0.mk (Kd.R_lower ho0 (below_size (hbA_ HB.out))); replace HB := (bs_ HB hb); (try clear hb); (try clear hb2); (try clear hk); (try clear hi); (try clear ho0); obtain ⟨Ao9, co9, eo9⟩ := Kd.R_slice HO462.out; subst eo9))
  go_ret
  exact ⟨by first | rfl | (simp [errW_none, errW_some] <;> rfl) | (simp [*, errW_none, errW_some] <;> rfl), hbA_ HB.out⟩
def laws_hasInt.l0 : Nat → List Int → Int → Int → Option (Bool)
 | 0, _, _, _ => none
 | k + 1, x0, x1, x5 => if x5 < (x0.length : Int) then (if 0 ≤ x5 then (if (rd x0 x5) = x1 then (some true) else (laws_hasInt.l0 k x0 x1 (wrap64 (x5 + 1)))) else (none)) else (some false)
def laws_hasInt.f (k : Nat) (l0 : List Int) (a1 : Int) : Option (Bool) := laws_hasInt.l0 k l0 a1 0
theorem laws_hasInt.mono_l : ∀ k, (∀ y0 y1 y2, LeO (laws_hasInt.l0 k y0 y1 y2) (laws_hasInt.l0 (k + 1) y0 y1 y2))
 | 0 => fun _ _ _ r h => by simp [laws_hasInt.l0] at h
 | k + 1 => by
  have ih0 := laws_hasInt.mono_l k
  ·intro y0 y1 y2
   unfold laws_hasInt.l0
   repeat' first | (with_reducible first | apply ih0 | exact LeO.refl _ | exact LeO.none _ | refine LeO.ite ?_ ?_ | refine LeO.bind ?_ fun _ => ?_) | apply ih0 | exact LeO.none _ | refine LeO.ite ?_ ?_ | refine LeO.bind ?_ fun _ => ?_
theorem laws_hasInt.mono : ∀ a0 a1 k, LeO (laws_hasInt.f k a0 a1) (laws_hasInt.f (k + 1) a0 a1) := by
 intro a0 a1 k
 have ih0 := laws_hasInt.mono_l k
 unfold laws_hasInt.f
 repeat' first | (with_reducible first | apply ih0 | exact LeO.refl _ | exact LeO.none _ | refine LeO.ite ?_ ?_ | refine LeO.bind ?_ fun _ => ?_) | apply ih0 | exact LeO.none _ | refine LeO.ite ?_ ?_ | refine LeO.bind ?_ fun _ => ?_
set_option maxHeartbeats 8000000 in
set_option maxRecDepth 100000 in
theorem laws_hasInt.calls (k : Nat) (A0 : Option Addr) (c0 : Nat) (l0 : List Int) (a1 : Int) (r : Bool) (w : World) (hr0 : Kd.C (Kd.int .i64) w A0 l0.length l0) (hc0 : l0.length ≤ c0) (h : laws_hasInt.f k l0 a1 = some r) :
  Calls Try.prog 21 #[.slice A0 l0.length c0, .int .i64 a1] w fun e w' => e = .returned (.bool r) ∧ Drawn0 w w' := by
 have HR0 := Aside0.mk hr0; have HC0 := Aside0.mk hc0; clear hr0 hc0
 have H : (laws_hasInt.l0 k l0 a1 0) = some r := h
 clear h
 have H' := Aside0.mk H
 clear H
 go_enter Try.func21, Try.ntmps21
 go_wp2
 go_loopg [5] k (fun kq v5 w' => ∃ (x5_1 : Int), v5 = .int .i64 x5_1 ∧ Aside0 (laws_hasInt.l0 kq l0 a1 x5_1 = some r) ∧ Aside0 (kq ≤ k) ∧ Drawn0 w w')
 case atStart => exact ⟨(0), (by first | rfl | (simp; done) | (simp [*]; done)), H', ⟨Nat.le_refl _⟩, by repeat (first | exact Drawn0.refl _ | apply Drawn0.step)⟩
 case round =>
  clear H'; (try clear c2); (try clear p2)
  obtain ⟨x5_1, rfl, HA, HK1, ⟨m1, rfl⟩⟩ := hrel
  cases gk with
  | zero => exact absurd HA.out (by simp [laws_hasInt.l0])
  | succ k1 =>
   have H := HA.out; clear HA
   simp only [laws_hasInt.l0] at H
   by_cases c3 : x5_1 < (l0.length : Int)
   ·rw [if_pos c3] at H
    have c3b0 : decide (x5_1 < (l0.length : Int)) = true := decide_eq_true c3
    clear c3
    by_cases c4 : 0 ≤ x5_1
    ·rw [if_pos c4] at H
     have c4b0 : decide (0 ≤ x5_1) = true := decide_eq_true c4
     clear c4
     by_cases c5 : (rd l0 x5_1) = a1
     ·rw [if_pos c5] at H
      have c5b0 : ((rd l0 x5_1) == a1) = true := beq_iff_eq.mpr c5
      have c5b1 : ((rd l0 x5_1) != a1) = false := bne_eq_false_iff_eq.mpr c5
      clear c5
      obtain rfl := Option.some.inj H
      have p466 : 0 ≤ (x5_1 : Int) := of_decide_eq_true (by first | (with_reducible assumption) | assumption)
      have q466 : x5_1 < (l0.length : Int) := of_decide_eq_true (by first | (with_reducible assumption) | assumption)
      obtain ⟨ad466, e466, hx466_0⟩ := Kd.at_int HR0.out x5_1 p466 q466
      cases e466
      replace p466 := eq_true p466
      replace q466 := eq_true q466
      go_wp2
      go_ret
      exact ⟨by first | rfl | (simp; done) | (simp [*]; done), by repeat (first | exact Drawn0.refl _ | apply Drawn0.step)⟩
     ·rw [if_neg c5] at H
      have c5b0 : ((rd l0 x5_1) == a1) = false := beq_eq_false_iff_ne.mpr c5
      have c5b1 : ((rd l0 x5_1) != a1) = true := bne_iff_ne.mpr c5
      have H' := Aside0.mk H
      clear H
      have p466 : 0 ≤ (x5_1 : Int) := of_decide_eq_true (by first | (with_reducible assumption) | assumption)
      have q466 : x5_1 < (l0.length : Int) := of_decide_eq_true (by first | (with_reducible assumption) | assumption)
      obtain ⟨ad466, e466, hx466_0⟩ := Kd.at_int HR0.out x5_1 p466 q466
      cases e466
      replace p466 := eq_true p466
      replace q466 := eq_true q466
      go_wp2
      go_roundg k1
      case measure => have := HK1.out; omega
      case rel => exact ⟨(wrap64 (x5_1 + 1)), (by first | rfl | (simp; done) | (simp [*]; done)), H', ⟨by have := HK1.out; omega⟩, by repeat (first | exact Drawn0.refl _ | apply Drawn0.step)⟩
    ·rw [if_neg c4] at H
     exact absurd H (by simp)
   ·rw [if_neg c3] at H
    have c3b0 : decide (x5_1 < (l0.length : Int)) = false := decide_eq_false c3
    clear c3
    obtain rfl := Option.some.inj H
    go_wp2
    go_ret
    exact ⟨by first | rfl | (simp; done) | (simp [*]; done), by repeat (first | exact Drawn0.refl _ | apply Drawn0.step)⟩
def laws_FnClientOver.l0 : Nat → Int → Int → List Int → List (S41) → List Int → Int → List Int → List (S41) → List Int → Option (Bool)
 | 0, _, _, _, _, _, _, _, _, _ => none
 | k + 1, x5, x478000, x478001, x478002, x478003, x489000, x489001, x489002, x489003 => if x5 < (x478001.length : Int) then (if 0 ≤ x5 then ((laws_hasInt.f k x489003 (rd x478001 x5)).bind fun t503 => (if t503 = true then (laws_FnClientOver.l0 k (wrap64 (x5 + 1)) x478000 x478001 x478002 x478003 x489000 x489001 x489002 x489003) else (some false))) else (none)) else ((impl_ClientOk.f k x489000 x489001 x489002 x489003).bind fun t504 => (if t504 = true then (if (x489001.length : Int) = 0 then (if (x489002.length : Int) = (x478002.length : Int) then (if (x489003.length : Int) = (wrap64 ((x478003.length : Int) + (x478001.length : Int))) then ((impl_ClientOver.f k x489000 x489001 x489002 x489003).bind fun bt505 => ((laws_sameClient.f k bt505.1 bt505.2.1 bt505.2.2.1 bt505.2.2.2 x489000 x489001 x489002 x489003).bind fun t515 => (some t515))) else (some false)) else (some false)) else (some false)) else (some false)))
def laws_FnClientOver.f (k : Nat) (l0 : List Int) : Option (Bool) := if (l0.length : Int) > 1048576 then (some true) else ((spec_DrawClientOver.f k l0).bind fun bt467 => ((impl_ClientOver.f k bt467.1 bt467.2.1 bt467.2.2.1 bt467.2.2.2).bind fun bt478 => ((spec_ClientOver.f k bt467.1 bt467.2.1 bt467.2.2.1 bt467.2.2.2).bind fun bt489 => ((laws_sameClient.f k bt478.1 bt478.2.1 bt478.2.2.1 bt478.2.2.2 bt489.1 bt489.2.1 bt489.2.2.1 bt489.2.2.2).bind fun t499 => (if t499 = true then ((impl_ClientOk.f k bt467.1 bt467.2.1 bt467.2.2.1 bt467.2.2.2).bind fun t500 => (if t500 = true then (laws_FnClientOver.l0 k 0 bt467.1 bt467.2.1 bt467.2.2.1 bt467.2.2.2 bt478.1 bt478.2.1 bt478.2.2.1 bt478.2.2.2) else (if bt478.1 = 0 then ((laws_alive.f k).bind fun t501 => (some t501)) else (some false)))) else (some false))))))
theorem laws_FnClientOver.mono_l : ∀ k, (∀ y0 y1 y2 y3 y4 y5 y6 y7 y8, LeO (laws_FnClientOver.l0 k y0 y1 y2 y3 y4 y5 y6 y7 y8) (laws_FnClientOver.l0 (k + 1) y0 y1 y2 y3 y4 y5 y6 y7 y8))
 | 0 => fun _ _ _ _ _ _ _ _ _ r h => by simp [laws_FnClientOver.l0] at h
 | k + 1 => by
  have ih0 := laws_FnClientOver.mono_l k
  ·intro y0 y1 y2 y3 y4 y5 y6 y7 y8
   unfold laws_FnClientOver.l0
   repeat' first | (with_reducible first | apply ih0 | apply impl_ClientOk.mono | apply impl_ClientOver.mono | apply laws_alive.mono | apply laws_hasInt.mono | apply laws_sameClient.mono | apply spec_ClientOver.mono | apply spec_DrawClientOver.mono | exact LeO.refl _ | exact LeO.none _ | refine LeO.ite ?_ ?_ | refine LeO.bind ?_ fun _ => ?_) | apply ih0 | apply impl_ClientOk.mono | apply impl_ClientOver.mono | apply laws_alive.mono | apply laws_hasInt.mono | apply laws_sameClient.mono | apply spec_ClientOver.mono | apply spec_DrawClientOver.mono | exact LeO.none _ | refine LeO.ite ?_ ?_ | refine LeO.bind ?_ fun _ => ?_
theorem laws_FnClientOver.mono : ∀ a0 k, LeO (laws_FnClientOver.f k a0) (laws_FnClientOver.f (k + 1) a0) := by
 intro a0 k
 have ih0 := laws_FnClientOver.mono_l k
 unfold laws_FnClientOver.f
 repeat' first | (with_reducible first | apply ih0 | apply impl_ClientOk.mono | apply impl_ClientOver.mono | apply laws_alive.mono | apply laws_hasInt.mono | apply laws_sameClient.mono | apply spec_ClientOver.mono | apply spec_DrawClientOver.mono | exact LeO.refl _ | exact LeO.none _ | refine LeO.ite ?_ ?_ | refine LeO.bind ?_ fun _ => ?_) | apply ih0 | apply impl_ClientOk.mono | apply impl_ClientOver.mono | apply laws_alive.mono | apply laws_hasInt.mono | apply laws_sameClient.mono | apply spec_ClientOver.mono | apply spec_DrawClientOver.mono | exact LeO.none _ | refine LeO.ite ?_ ?_ | refine LeO.bind ?_ fun _ => ?_
def laws_FnClientOver.T12 : Bool × List (List Nat × List Nat) := (true, [([], []), ([0], [0]), ([], []), ([2], [2]), ([], []), ([3, 4], [3, 4]), ([5], [5]), ([1, 6], [1, 6]), ([7], [7])])
def laws_FnClientOver.B12 : List Nat := [0, 1, 0, 4, 0, 28, 60, 127, 255]
theorem laws_FnClientOver.tab12 : rtab .any (opsOf Try.f4 12) = laws_FnClientOver.T12 := by kernel_rfl
theorem laws_FnClientOver.bits12 : waitsOk laws_FnClientOver.T12.2 laws_FnClientOver.B12 = true := by kernel_rfl
def laws_FnClientOver.T14 : Bool × List (List Nat × List Nat) := (true, [([], []), ([0], [0]), ([1, 1], [1]), ([2], [2]), ([3, 2], [2, 3]), ([4, 2], [2, 4]), ([5, 2], [2, 5]), ([2, 6], [2, 6]), ([7, 2], [7]), ([8], [8]), ([9, 8], [8, 9]), ([10, 8], [8, 10]), ([8], [8]), ([12, 8], [8, 12]), ([13, 8], [8, 13]), ([11, 14, 8], [8, 11, 14]), ([8, 15], [8, 15]), ([16, 8], [16]), ([17], [17]), ([18, 17], [17, 18]), ([19, 17], [17, 19]), ([17], [17]), ([21, 17], [17, 21]), ([22, 17], [17, 22]), ([17], [17]), ([24, 17], [17, 24]), ([25, 17], [17, 25]), ([23, 26, 17], [17, 23, 26]), ([20, 27, 17], [17, 20, 27]), ([17, 28], [17, 28]), ([29, 17], [29]), ([30], [30]), ([31, 30, 30], [30, 31]), ([30], [30]), ([32, 33, 32, 30], [30, 32, 33]), ([30, 34], [30, 34]), ([35, 34, 0, 1, 2, 3, 4, 5, 6, 7, 8, 9, 10, 11, 12, 13, 14, 15, 16, 17, 18, 19, 20, 21, 22, 23, 24, 25, 26, 27, 28, 29, 30, 31, 32, 33, 34, 35], [35])])
def laws_FnClientOver.B14 : List Nat := [0, 1, 3, 7, 15, 31, 63, 127, 255, 511, 1023, 2047, 511, 4607, 12799, 32767, 65535, 131071, 262143, 524287, 1048575, 262143, 2359295, 6553599, 262143, 17039359, 50593791, 132382719, 268435455, 536870911, 1073741823, 2147483647, 4294967295, 2147483647, 17179869183, 34359738367, 68719476735]
theorem laws_FnClientOver.tab14 : rtab .any (opsOf Try.f4 14) = laws_FnClientOver.T14 := by kernel_rfl
theorem laws_FnClientOver.bits14 : waitsOk laws_FnClientOver.T14.2 laws_FnClientOver.B14 = true := by kernel_rfl
set_option maxHeartbeats 8000000 in
set_option maxRecDepth 100000 in
theorem laws_FnClientOver.calls (k : Nat) (A0 : Option Addr) (c0 : Nat) (l0 : List Int) (r : Bool) (w : World) (hr0 : Kd.C (Kd.int .u8) w A0 l0.length l0) (hc0 : l0.length ≤ c0) (h : laws_FnClientOver.f k l0 = some r) (hlw : r = true) :
  Calls Try.prog 4 #[.slice A0 l0.length c0] w fun e w' => e = .returned (.bool r) ∧ Below w.heap.size w w' := by
 have hu30 := Try.underlying30; have HLW := Aside0.mk hlw; clear hlw; have HR0 := Aside0.mk hr0; have HC0 := Aside0.mk hc0; clear hr0 hc0
 have HB := Aside0.mk (Below.refl w.heap.size w)
 have H : (if (l0.length : Int) > 1048576 then (some true) else ((spec_DrawClientOver.f k l0).bind fun bt467 => ((impl_ClientOver.f k bt467.1 bt467.2.1 bt467.2.2.1 bt467.2.2.2).bind fun bt478 => ((spec_ClientOver.f k bt467.1 bt467.2.1 bt467.2.2.1 bt467.2.2.2).bind fun bt489 => ((laws_sameClient.f k bt478.1 bt478.2.1 bt478.2.2.1 bt478.2.2.2 bt489.1 bt489.2.1 bt489.2.2.1 bt489.2.2.2).bind fun t499 => (if t499 = true then ((impl_ClientOk.f k bt467.1 bt467.2.1 bt467.2.2.1 bt467.2.2.2).bind fun t500 => (if t500 = true then (laws_FnClientOver.l0 k 0 bt467.1 bt467.2.1 bt467.2.2.1 bt467.2.2.2 bt478.1 bt478.2.1 bt478.2.2.1 bt478.2.2.2) else (if bt478.1 = 0 then ((laws_alive.f k).bind fun t501 => (some t501)) else (some false)))) else (some false))))))) = some r := h
 clear h
 by_cases c2 : (l0.length : Int) > 1048576
 ·rw [if_pos c2] at H
  have c2b0 : decide (1048576 < (l0.length : Int)) = true := decide_eq_true c2
  have c2b1 : decide (1048576 < l0.length) = true := decide_eq_true (by omega)
  clear c2
  obtain rfl := Option.some.inj H
  go_enter Try.func4, Try.ntmps4
  go_wp2
  go_ret
  exact ⟨by first | rfl | (simp [errW_none, errW_some] <;> rfl) | (simp [*, errW_none, errW_some] <;> rfl), hbA_ HB.out⟩
 ·rw [if_neg c2] at H
  have c2b0 : decide (1048576 < (l0.length : Int)) = false := decide_eq_false c2
  have c2b1 : decide (1048576 < l0.length) = false := decide_eq_false (by omega)
  clear c2
  replace H := Option.bind_eq_some_iff.mp H
  obtain ⟨⟨t467, t468, t471, t474⟩, A30, H⟩ := H
  (try dsimp only at H)
  have A3 := Aside0.mk A30; clear A30
  replace H := Option.bind_eq_some_iff.mp H
  obtain ⟨⟨t478, t479, t482, t485⟩, A40, H⟩ := H
  (try dsimp only at H)
  have A4 := Aside0.mk A40; clear A40
  replace H := Option.bind_eq_some_iff.mp H
  obtain ⟨⟨t489, t490, t493, t496⟩, A50, H⟩ := H
  (try dsimp only at H)
  have A5 := Aside0.mk A50; clear A50
  replace H := Option.bind_eq_some_iff.mp H
  obtain ⟨t499, A60, H⟩ := H
  (try dsimp only at H)
  have A6 := Aside0.mk A60; clear A60
  by_cases c7 : t499 = true
  ·subst c7
   rw [if_pos rfl] at H
   replace H := Option.bind_eq_some_iff.mp H
   obtain ⟨t500, A80, H⟩ := H
   (try dsimp only at H)
   have A8 := Aside0.mk A80; clear A80
   by_cases c9 : t500 = true
   ·subst c9
    rw [if_pos rfl] at H
    have H' := Aside0.mk H
    clear H
    go_enter Try.func4, Try.ntmps4
    try go_wp2_with (first | ((with_reducible refine gate_callee (f := 16) rfl ?_); refine goesL_ (some 10) rfl rfl Try.func16 (by kernel_rfl) rfl #[.slice A0 l0.length c0] rfl ar_ ?_; (with_reducible refine (spec_DrawClientOver.calls k _ _ l0 t467 t468 t471 t474 _ ?side1 ?side2 A3.out).mono ?_); (case side1 => exact kC_ HR0.out); (case side2 => exact HC0.out); rintro e w10 ⟨v469, v472, v475, rfl, ho0, ho1, ho2, hb⟩; refine ⟨_, rfl, ?_⟩; have HO470 := Aside0.mk (Kd.R_lower ho0 (below_size (hbA_ HB.out))); have HO473 := Aside0.mk (Kd.S_lower ho1 (below_size (hbA_ HB.out))); have HO476 := Aside0.mk (Kd.R_lower ho2 (below_size (hbA_ HB.out))); replace HB := (bs_ HB hb); (try clear hb); (try clear hb2); (try clear hk); (try clear hi); (try clear ho0); (try clear ho1); (try clear ho2)) | ((with_reducible refine gate_dst (N := 3) rfl ?_); (try (refine gate_guard (by rfl) ?_; dsimp only)); refine box_ (N := 3) (cs := #[.int .i64 0, .slice none 0 0, .slice none 0 0, .slice none 0 0]) (t := 30) (fun gb477 hg w11 hbox hb => ?_); replace HO470 := Aside0.mk (Kd.R_below (kR_ HO470.out) hb); replace HO473 := Aside0.mk (Kd.S_below (kS_ HO473.out) hb); replace HO476 := Aside0.mk (Kd.R_below (kR_ HO476.out) hb); have BK477 := Aside0.mk (hbox); have GW477 := ge_ hg HB; have GE477 := ge_ hg HB; replace HB := (bs_ HB hb); clear hb hbox hg; have Z12 := zz4 BK477; obtain ⟨Ao13, co13, eo13⟩ := Kd.R_slice HO470.out; subst eo13; obtain ⟨Ao14, co14, eo14⟩ := Kd.S_slice HO473.out; subst eo14; obtain ⟨Ao15, co15, eo15⟩ := Kd.R_slice HO476.out; subst eo15) | ((with_reducible refine gate_callee (f := 17) rfl ?_); refine goesL_ (some 12) rfl rfl Try.func17 (by kernel_rfl) rfl #[.agg #[.int .i64 t467, .slice Ao13 t468.length co13, .slice Ao14 t471.length co14, .slice Ao15 t474.length co15]] rfl ar_ ?_; (with_reducible refine (impl_ClientOver.calls k t467 _ _ t468 _ _ t471 _ _ t474 t478 t479 t482 t485 _ ?side1 ?side2 ?side3 ?side4 ?side5 ?side6 A4.out).mono ?_); (case side1 => refine (Kd.R_reads' (e := 3) (base := w.heap.size) (ok := fun k_ => some k_ ≠ (.slice Ao15 t474.length co15 : Value).ownBlock) (n := t468.length) (c := co13) ?_).2.2; exact (by refine kR_ ?_; exact (rfm_ ((Kd.R_types HO470.out BK477.out (by decide))) (fun _ h_ => op1_ h_)))); (case side2 => exact (Kd.R_reads' HO470.out).2.1); (case side3 => refine (Kd.S_reads' (e := 41) (base := w.heap.size) (ok := fun k_ => True) (n := t471.length) (c := co14) ?_).2.2; exact (by refine kS_ ?_; exact (Kd.S_mono (Kd.S_far (p := ⟨gb477, 3, none⟩) (Kd.S_far (p := ⟨gb477, 2, none⟩) (Kd.S_far (p := ⟨gb477, 1, none⟩) (Kd.S_far (p := ⟨gb477, 0, none⟩) (Kd.S_types HO473.out BK477.out (by decide)) (fun _ hk => hk.2) (.int .i64 t467)) (fun _ hk => hk.2) (.slice Ao13 t468.length co13)) (fun _ hk => hk.2) (.slice Ao14 t471.length co14)) (fun _ hk => hk.2) (.slice Ao15 t474.length co15)) (fun _ h_ => op1_ h_)))); (case side4 => exact (Kd.S_reads' HO473.out).2.1); (case side5 => refine (Kd.R_reads' (e := 3) (base := w.heap.size) (ok := fun k_ => some k_ ≠ (.slice Ao13 t468.length co13 : Value).ownBlock) (n := t474.length) (c := co15) ?_).2.2; exact (by refine kR_ ?_; exact (rfm_ ((Kd.R_types HO476.out BK477.out (by decide))) (fun _ h_ => op1_ h_)))); (case side6 => exact (Kd.R_reads' HO476.out).2.1); rintro e w16 ⟨v480, v483, v486, rfl, ho0, ho1, ho2, hb⟩; refine ⟨_, rfl, ?_⟩; have HO481 := Aside0.mk (Kd.R_lower (Kd.R_new' (Kd.R_new' ho0 (Kd.R_lt (by refine kR_ ?_; exact (rfm_ ((Kd.R_types HO470.out BK477.out (by decide))) (fun _ h_ => op1_ h_))))) (Kd.R_lt (by refine kR_ ?_; exact (rfm_ ((Kd.R_types HO476.out BK477.out (by decide))) (fun _ h_ => op1_ h_))))) (below_size (hbA_ HB.out))); have HO484 := Aside0.mk (Kd.S_lower (Kd.S_new' ho1 (Kd.S_lt (by refine kS_ ?_; exact (Kd.S_mono (Kd.S_far (p := ⟨gb477, 3, none⟩) (Kd.S_far (p := ⟨gb477, 2, none⟩) (Kd.S_far (p := ⟨gb477, 1, none⟩) (Kd.S_far (p := ⟨gb477, 0, none⟩) (Kd.S_types HO473.out BK477.out (by decide)) (fun _ hk => hk.2) (.int .i64 t467)) (fun _ hk => hk.2) (.slice Ao13 t468.length co13)) (fun _ hk => hk.2) (.slice Ao14 t471.length co14)) (fun _ hk => hk.2) (.slice Ao15 t474.length co15)) (fun _ h_ => op1_ h_))))) (below_size (hbA_ HB.out))); replace HO473 := Aside0.mk (Kd.S_elder' (by refine kS_ ?_; exact (Kd.S_mono (Kd.S_far (p := ⟨gb477, 3, none⟩) (Kd.S_far (p := ⟨gb477, 2, none⟩) (Kd.S_far (p := ⟨gb477, 1, none⟩) (Kd.S_far (p := ⟨gb477, 0, none⟩) (Kd.S_types HO473.out BK477.out (by decide)) (fun _ hk => hk.2) (.int .i64 t467)) (fun _ hk => hk.2) (.slice Ao13 t468.length co13)) (fun _ hk => hk.2) (.slice Ao14 t471.length co14)) (fun _ hk => hk.2) (.slice Ao15 t474.length co15)) (fun _ h_ => op1_ h_))) (Kd.S_base ho1) hb); have HO487 := Aside0.mk (Kd.R_lower (Kd.R_new' (Kd.R_new' ho2 (Kd.R_lt (by refine kR_ ?_; exact (rfm_ ((Kd.R_types HO470.out BK477.out (by decide))) (fun _ h_ => op1_ h_))))) (Kd.R_lt (by refine kR_ ?_; exact (rfm_ ((Kd.R_types HO476.out BK477.out (by decide))) (fun _ h_ => op1_ h_))))) (below_size (hbA_ HB.out))); replace HO470 := Aside0.mk (Kd.R_mono (Kd.R_told (Kd.R_told (Kd.R_old (by refine kR_ ?_; exact (rfm_ ((Kd.R_types HO470.out BK477.out (by decide))) (fun _ h_ => op1_ h_))) hb) (Kd.R_base ho0)) (Kd.R_base ho2)) (fun _ h_ => op1_ h_)); replace HO476 := Aside0.mk (Kd.R_mono (Kd.R_told (Kd.R_told (Kd.R_old (by refine kR_ ?_; exact (rfm_ ((Kd.R_types HO476.out BK477.out (by decide))) (fun _ h_ => op1_ h_))) hb) (Kd.R_base ho0)) (Kd.R_base ho2)) (fun _ h_ => op1_ h_)); replace BK477 := Aside0.mk (blk_below (g := gb477) (o := .cells #[.int .i64 t467, .slice Ao13 t468.length co13, .slice Ao14 t471.length co14, .slice Ao15 t474.length co15] 30 (0, 0)) (by refine kb_ ?_; refine pz4 (cs := #[.int .i64 0, .slice none 0 0, .slice none 0 0, .slice none 0 0]) ?_; refine kb_ ?_; exact BK477.out) hb); replace HB := (bs_ HB hb); (try clear hb); (try clear hb2); (try clear hk); (try clear hi); (try clear ho0); (try clear ho1); (try clear ho2)) | ((with_reducible refine gate_dst (N := 4) rfl ?_); (try (refine gate_guard (by rfl) ?_; dsimp only)); refine box_ (N := 4) (cs := #[.int .i64 0, .slice none 0 0, .slice none 0 0, .slice none 0 0]) (t := 30) (fun gb488 hg w17 hbox hb => ?_); replace HO470 := Aside0.mk (Kd.R_below (kR_ HO470.out) hb); replace HO473 := Aside0.mk (Kd.S_below (kS_ HO473.out) hb); replace HO476 := Aside0.mk (Kd.R_below (kR_ HO476.out) hb); replace HO481 := Aside0.mk (Kd.R_below (kR_ HO481.out) hb); replace HO484 := Aside0.mk (Kd.S_below (kS_ HO484.out) hb); replace HO487 := Aside0.mk (Kd.R_below (kR_ HO487.out) hb); have BK488 := Aside0.mk (hbox); have GW488 := ge_ hg HB; have GE488 := ge_ hg HB; replace HB := (bs_ HB hb); have NB477_488 := nl_ hg BK477; have NB488_477 := ng_ hg BK477; replace BK477 := (bbA_ BK477 hb); clear hb hbox hg; have hnb18 := NB488_477.out; have hnc18 := NB477_488.out; have Z19 := zz4 BK488; obtain ⟨Ao20, co20, eo20⟩ := Kd.R_slice HO481.out; subst eo20; obtain ⟨Ao21, co21, eo21⟩ := Kd.S_slice HO484.out; subst eo21; obtain ⟨Ao22, co22, eo22⟩ := Kd.R_slice HO487.out; subst eo22))
    obtain ⟨w23, h_w23⟩ : ∃ w_, ((((w17.setCell ⟨gb488, 0, none⟩ (.int .i64 t478)).setCell ⟨gb488, 1, none⟩ (.slice Ao20 t479.length co20)).setCell ⟨gb488, 2, none⟩ (.slice Ao21 t482.length co21)).setCell ⟨gb488, 3, none⟩ (.slice Ao22 t485.length co22)) = w_ := ⟨_, rfl⟩
    have n0_ : Aside0 (Kd.R (Kd.int .i64) 3 w23 w.heap.size (fun k_ => some k_ ≠ (.slice Ao15 t474.length co15 : Value).ownBlock ∧ some k_ ≠ (.slice Ao20 t479.length co20 : Value).ownBlock ∧ some k_ ≠ (.slice Ao22 t485.length co22 : Value).ownBlock) (.slice Ao13 t468.length co13) t468) := ⟨by subst h_w23; refine kR_ ?_; exact rfm_ ((Kd.R_types HO470.out BK488.out (by decide))) (fun _ hk => ⟨hk.1.1.1, ⟨hk.1.1.2, hk.1.2⟩⟩)⟩
    have n1_ : Aside0 (Kd.S k41 41 w23 w.heap.size (fun k_ => some k_ ≠ (.slice Ao21 t482.length co21 : Value).ownBlock) (.slice Ao14 t471.length co14) t471) := ⟨by subst h_w23; refine kS_ ?_; exact Kd.S_mono (Kd.S_far (p := ⟨gb488, 3, none⟩) (Kd.S_far (p := ⟨gb488, 2, none⟩) (Kd.S_far (p := ⟨gb488, 1, none⟩) (Kd.S_far (p := ⟨gb488, 0, none⟩) (Kd.S_types HO473.out BK488.out (by decide)) (fun _ hk => hk.2) (.int .i64 t478)) (fun _ hk => hk.2) (.slice Ao20 t479.length co20)) (fun _ hk => hk.2) (.slice Ao21 t482.length co21)) (fun _ hk => hk.2) (.slice Ao22 t485.length co22)) (fun _ hk => hk.1.2)⟩
    have n2_ : Aside0 (Kd.R (Kd.int .i64) 3 w23 w.heap.size (fun k_ => some k_ ≠ (.slice Ao13 t468.length co13 : Value).ownBlock ∧ some k_ ≠ (.slice Ao20 t479.length co20 : Value).ownBlock ∧ some k_ ≠ (.slice Ao22 t485.length co22 : Value).ownBlock) (.slice Ao15 t474.length co15) t474) := ⟨by subst h_w23; refine kR_ ?_; exact rfm_ ((Kd.R_types HO476.out BK488.out (by decide))) (fun _ hk => ⟨hk.1.1.1, ⟨hk.1.1.2, hk.1.2⟩⟩)⟩
    have n3_ : Aside0 (Kd.R (Kd.int .i64) 3 w23 w.heap.size (fun k_ => some k_ ≠ (.slice Ao13 t468.length co13 : Value).ownBlock ∧ some k_ ≠ (.slice Ao15 t474.length co15 : Value).ownBlock ∧ some k_ ≠ (.slice Ao22 t485.length co22 : Value).ownBlock) (.slice Ao20 t479.length co20) t479) := ⟨by subst h_w23; refine kR_ ?_; exact rfm_ ((Kd.R_types HO481.out BK488.out (by decide))) (fun _ hk => ⟨hk.1.1.2, ⟨hk.1.2, hk.1.1.1⟩⟩)⟩
    have n4_ : Aside0 (Kd.S k41 41 w23 w.heap.size (fun k_ => some k_ ≠ (.slice Ao14 t471.length co14 : Value).ownBlock) (.slice Ao21 t482.length co21) t482) := ⟨by subst h_w23; refine kS_ ?_; exact Kd.S_mono (Kd.S_far (p := ⟨gb488, 3, none⟩) (Kd.S_far (p := ⟨gb488, 2, none⟩) (Kd.S_far (p := ⟨gb488, 1, none⟩) (Kd.S_far (p := ⟨gb488, 0, none⟩) (Kd.S_types HO484.out BK488.out (by decide)) (fun _ hk => hk.2) (.int .i64 t478)) (fun _ hk => hk.2) (.slice Ao20 t479.length co20)) (fun _ hk => hk.2) (.slice Ao21 t482.length co21)) (fun _ hk => hk.2) (.slice Ao22 t485.length co22)) (fun _ hk => hk.1.2)⟩
    have n5_ : Aside0 (Kd.R (Kd.int .i64) 3 w23 w.heap.size (fun k_ => some k_ ≠ (.slice Ao13 t468.length co13 : Value).ownBlock ∧ some k_ ≠ (.slice Ao15 t474.length co15 : Value).ownBlock ∧ some k_ ≠ (.slice Ao20 t479.length co20 : Value).ownBlock) (.slice Ao22 t485.length co22) t485) := ⟨by subst h_w23; refine kR_ ?_; exact rfm_ ((Kd.R_types HO487.out BK488.out (by decide))) (fun _ hk => ⟨hk.1.1.2, ⟨hk.1.2, hk.1.1.1⟩⟩)⟩
    have n6_ : Aside0 (w23.heap[gb477]? = some (.cells #[.int .i64 t467, .slice Ao13 t468.length co13, .slice Ao14 t471.length co14, .slice Ao15 t474.length co15] 30 (0, 0))) := ⟨by subst h_w23; exact kf_ BK477.out⟩
    have n7_ : Aside0 (w23.heap[gb488]? = some (.cells #[.int .i64 t478, .slice Ao20 t479.length co20, .slice Ao21 t482.length co21, .slice Ao22 t485.length co22] 30 (0, 0))) := ⟨by subst h_w23; refine kb_ ?_; refine pz4 (cs := #[.int .i64 0, .slice none 0 0, .slice none 0 0, .slice none 0 0]) ?_; refine kb_ ?_; exact BK488.out⟩
    have n8_ : Aside0 (Below w.heap.size w w23) := ⟨by subst h_w23; exact hbA_ HB.out⟩
    (try clear HO470); (try clear HO473); (try clear HO476); (try clear HO481); (try clear HO484); (try clear HO487); (try clear BK477); (try clear BK488); (try clear HB)
    (try rw [h_w23]); clear h_w23
    have HO470 := n0_; have HO473 := n1_; have HO476 := n2_; have HO481 := n3_; have HO484 := n4_; have HO487 := n5_; have BK477 := n6_; have BK488 := n7_; have HB := n8_; clear n0_ n1_ n2_ n3_ n4_ n5_ n6_ n7_ n8_; replace HO470 := Aside0.mk (Kd.R_drew HO470.out); replace HO473 := Aside0.mk (Kd.S_drew HO473.out); replace HO476 := Aside0.mk (Kd.R_drew HO476.out); replace HO481 := Aside0.mk (Kd.R_drew HO481.out); replace HO484 := Aside0.mk (Kd.S_drew HO484.out); replace HO487 := Aside0.mk (Kd.R_drew HO487.out); replace BK477 := Aside0.mk (blk_drew BK477.out); replace BK488 := Aside0.mk (blk_drew BK488.out); replace HB := (bd_ HB)
    refine start_ (n := 5) (S := fun w' => w'.cell? ⟨gb488, 0, none⟩ = some (.int .i64 t478) ∧ w'.cell? ⟨gb488, 1, none⟩ = some (.slice Ao20 t479.length co20) ∧ w'.cell? ⟨gb488, 2, none⟩ = some (.slice Ao21 t482.length co21) ∧ w'.cell? ⟨gb488, 3, none⟩ = some (.slice Ao22 t485.length co22) ∧ w'.cell? ⟨gb477, 0, none⟩ = some (.int .i64 t467) ∧ w'.cell? ⟨gb477, 1, none⟩ = some (.slice Ao13 t468.length co13) ∧ w'.cell? ⟨gb477, 2, none⟩ = some (.slice Ao14 t471.length co14) ∧ w'.cell? ⟨gb477, 3, none⟩ = some (.slice Ao15 t474.length co15)) (ds := []) #[false, false, false, false, false] (by kernel_rfl) rfl rfl ⟨bc_ BK488 0, bc_ BK488 1, bc_ BK488 2, bc_ BK488 3, bc_ BK477 0, bc_ BK477 1, bc_ BK477 2, bc_ BK477 3⟩ (fun hHeld => ?_)
    generalize w23.drew = w24 at HO470 HO473 HO476 HO481 HO484 HO487 BK477 BK488 HB hHeld ⊢
    refine take_ (i := 0) (N := some 13) (v := ?_) (a' := ?_) #[true, false, false, false, false] rfl rfl (by kernel_rfl) (fun _ _ _ h => h) (Or.inl ⟨by rfl, ?_⟩) hHeld ?_ ?_
    rotate_left
    ·rintro w' ⟨s0, s1, s2, s3, s4, s5, s6, s7⟩
     go_simp
     with_reducible rfl
    rotate_left
    ·simp only [Act.put, List.setIfInBounds_toArray, List.set_cons_zero, List.set_cons_succ, i64_w, i32_w]
     rfl
    refine take_ (i := 1) (N := some 14) (v := ?_) (a' := ?_) #[true, true, false, false, false] rfl rfl (by kernel_rfl) (fun _ _ _ h => h) (Or.inl ⟨by rfl, ?_⟩) hHeld ?_ ?_
    rotate_left
    ·rintro w' ⟨s0, s1, s2, s3, s4, s5, s6, s7⟩
     go_simp
     with_reducible rfl
    rotate_left
    ·simp only [Act.put, List.setIfInBounds_toArray, List.set_cons_zero, List.set_cons_succ, i64_w, i32_w]
     rfl
    refine one_ (i := 2) (N := some 15) #[true, true, true, false, false] rfl rfl (by kernel_rfl) (by decide) (fun K hK => ?_)
    refine goes_ Try.func19 (by kernel_rfl) rfl #[.agg #[.int .i64 t467, .slice Ao13 t468.length co13, .slice Ao14 t471.length co14, .slice Ao15 t474.length co15]] (by rfl) rfl rfl ar_ ?_
    with_reducible refine (spec_ClientOver.calls k t467 _ _ t468 _ _ t471 _ _ t474 t489 t490 t493 t496 _ ?side1 ?side2 ?side3 ?side4 ?side5 ?side6 A5.out).mono ?_
    (case side1 => exact kC_ (Kd.R_reads' HO470.out).2.2)
    (case side2 => exact (Kd.R_reads' HO470.out).2.1)
    (case side3 => exact kC_ (Kd.S_reads' HO473.out).2.2)
    (case side4 => exact (Kd.S_reads' HO473.out).2.1)
    (case side5 => exact kC_ (Kd.R_reads' HO476.out).2.2)
    (case side6 => exact (Kd.R_reads' HO476.out).2.1)
    rintro e w25 ⟨v491, v494, v497, rfl, ho0, ho1, ho2, hb⟩
    refine ⟨_, rfl, ?_⟩
    have HO492 := Aside0.mk (Kd.R_lower (Kd.R_new' (Kd.R_new' (Kd.R_new' (Kd.R_new' ho0 (Kd.R_lt (kR_ HO470.out))) (Kd.R_lt (kR_ HO476.out))) (Kd.R_lt (kR_ HO481.out))) (Kd.R_lt (kR_ HO487.out))) (below_size (hbA_ HB.out))); have HO495 := Aside0.mk (Kd.S_lower (Kd.S_new' (Kd.S_new' ho1 (Kd.S_lt (kS_ HO473.out))) (Kd.S_lt (kS_ HO484.out))) (below_size (hbA_ HB.out))); replace HO473 := Aside0.mk (Kd.S_elder' (kS_ HO473.out) (Kd.S_base ho1) hb); replace HO484 := Aside0.mk (Kd.S_elder' (kS_ HO484.out) (Kd.S_base ho1) hb); have HO498 := Aside0.mk (Kd.R_lower (Kd.R_new' (Kd.R_new' (Kd.R_new' (Kd.R_new' ho2 (Kd.R_lt (kR_ HO470.out))) (Kd.R_lt (kR_ HO476.out))) (Kd.R_lt (kR_ HO481.out))) (Kd.R_lt (kR_ HO487.out))) (below_size (hbA_ HB.out))); replace HO470 := Aside0.mk (Kd.R_mono (Kd.R_told (Kd.R_told (Kd.R_old (kR_ HO470.out) hb) (Kd.R_base ho0)) (Kd.R_base ho2)) (fun _ h_ => op1_ h_)); replace HO476 := Aside0.mk (Kd.R_mono (Kd.R_told (Kd.R_told (Kd.R_old (kR_ HO476.out) hb) (Kd.R_base ho0)) (Kd.R_base ho2)) (fun _ h_ => op1_ h_)); replace HO481 := Aside0.mk (Kd.R_mono (Kd.R_told (Kd.R_told (Kd.R_old (kR_ HO481.out) hb) (Kd.R_base ho0)) (Kd.R_base ho2)) (fun _ h_ => op1_ h_)); replace HO487 := Aside0.mk (Kd.R_mono (Kd.R_told (Kd.R_told (Kd.R_old (kR_ HO487.out) hb) (Kd.R_base ho0)) (Kd.R_base ho2)) (fun _ h_ => op1_ h_)); replace BK477 := (bbA_ BK477 hb); replace BK488 := (bbA_ BK488 hb); replace HB := (bs_ HB hb); (try clear hb); (try clear hb2); (try clear hk); (try clear hi); (try clear ho0); (try clear ho1); (try clear ho2)
    obtain ⟨Ao26, co26, eo26⟩ := Kd.R_slice HO492.out
    (first | subst eo26 | (injection eo26 with f1_ f2_ f3_; have f4_ := f1_.symm; have f5_ := f3_.symm; clear f1_ f2_ f3_; subst f4_; subst f5_))
    obtain ⟨Ao27, co27, eo27⟩ := Kd.S_slice HO495.out
    (first | subst eo27 | (injection eo27 with f1_ f2_ f3_; have f4_ := f1_.symm; have f5_ := f3_.symm; clear f1_ f2_ f3_; subst f4_; subst f5_))
    obtain ⟨Ao28, co28, eo28⟩ := Kd.R_slice HO498.out
    (first | subst eo28 | (injection eo28 with f1_ f2_ f3_; have f4_ := f1_.symm; have f5_ := f3_.symm; clear f1_ f2_ f3_; subst f4_; subst f5_))
    refine hK.out _ _ ⟨bc_ BK488 0, bc_ BK488 1, bc_ BK488 2, bc_ BK488 3, bc_ BK477 0, bc_ BK477 1, bc_ BK477 2, bc_ BK477 3⟩ (fun hHeld => ?_)
    clear hK K; refine nm_ 15 ?_
    refine one_ (i := 3) (N := some 16) #[true, true, true, true, false] rfl rfl (by kernel_rfl) (by decide) (fun K hK => ?_)
    refine goes_ Try.func18 (by kernel_rfl) rfl #[.agg #[.int .i64 t478, .slice Ao20 t479.length co20, .slice Ao21 t482.length co21, .slice Ao22 t485.length co22], .agg #[.int .i64 t489, .slice Ao26 t490.length co26, .slice Ao27 t493.length co27, .slice Ao28 t496.length co28]] (by rfl) rfl rfl ar_ ?_
    with_reducible refine (laws_sameClient.calls k t478 _ _ t479 _ _ t482 _ _ t485 t489 _ _ t490 _ _ t493 _ _ t496 true _ ?side1 ?side2 ?side3 ?side4 ?side5 ?side6 ?side7 ?side8 ?side9 ?side10 ?side11 ?side12 A6.out).mono ?_
    (case side1 => exact kC_ (Kd.R_reads' HO481.out).2.2)
    (case side2 => exact (Kd.R_reads' HO481.out).2.1)
    (case side3 => exact kC_ (Kd.S_reads' HO484.out).2.2)
    (case side4 => exact (Kd.S_reads' HO484.out).2.1)
    (case side5 => exact kC_ (Kd.R_reads' HO487.out).2.2)
    (case side6 => exact (Kd.R_reads' HO487.out).2.1)
    (case side7 => exact kC_ (Kd.R_reads' HO492.out).2.2)
    (case side8 => exact (Kd.R_reads' HO492.out).2.1)
    (case side9 => exact kC_ (Kd.S_reads' HO495.out).2.2)
    (case side10 => exact (Kd.S_reads' HO495.out).2.1)
    (case side11 => exact kC_ (Kd.R_reads' HO498.out).2.2)
    (case side12 => exact (Kd.R_reads' HO498.out).2.1)
    rintro e w29 ⟨rfl, hb⟩
    refine ⟨_, rfl, ?_⟩
    replace HO470 := Aside0.mk (Kd.R_below (kR_ HO470.out) hb); replace HO473 := Aside0.mk (Kd.S_below (kS_ HO473.out) hb); replace HO476 := Aside0.mk (Kd.R_below (kR_ HO476.out) hb); replace HO481 := Aside0.mk (Kd.R_below (kR_ HO481.out) hb); replace HO484 := Aside0.mk (Kd.S_below (kS_ HO484.out) hb); replace HO487 := Aside0.mk (Kd.R_below (kR_ HO487.out) hb); replace HO492 := Aside0.mk (Kd.R_below (kR_ HO492.out) hb); replace HO495 := Aside0.mk (Kd.S_below (kS_ HO495.out) hb); replace HO498 := Aside0.mk (Kd.R_below (kR_ HO498.out) hb); replace BK477 := (bbA_ BK477 hb); replace BK488 := (bbA_ BK488 hb); replace HB := (bs_ HB hb); (try clear hb); (try clear hb2); (try clear hk); (try clear hi)
    refine hK.out _ _ ⟨bc_ BK488 0, bc_ BK488 1, bc_ BK488 2, bc_ BK488 3, bc_ BK477 0, bc_ BK477 1, bc_ BK477 2, bc_ BK477 3⟩ (fun hHeld => ?_)
    clear hK K; refine nm_ 16 ?_
    refine pure_ (i := 4) (N := some 17) (v := ?_) (a' := ?_) #[true, true, true, true, true] rfl rfl (by kernel_rfl) (fun _ _ _ h => h) (Or.inl ⟨by rfl, ?_⟩) ?_ ?_
    rotate_left
    ·intro w'
     go_simp
     with_reducible rfl
    rotate_left
    ·simp only [Act.put, List.setIfInBounds_toArray, List.set_cons_zero, List.set_cons_succ, i64_w, i32_w]
     rfl
    refine done_ (by kernel_rfl) ?_
    have Z30 := zz4 BK477
    try go_wp2_with (first | ((with_reducible refine gate_callee (f := 14) rfl ?_); refine goesL_ (some 19) rfl rfl Try.func14 (by kernel_rfl) rfl #[.agg #[.int .i64 t467, .slice Ao13 t468.length co13, .slice Ao14 t471.length co14, .slice Ao15 t474.length co15]] rfl ar_ ?_; (with_reducible refine (impl_ClientOk.calls k t467 _ _ t468 _ _ t471 _ _ t474 true _ ?side1 ?side2 ?side3 ?side4 ?side5 ?side6 A8.out).mono ?_); (case side1 => exact kC_ (Kd.R_reads' HO470.out).2.2); (case side2 => exact (Kd.R_reads' HO470.out).2.1); (case side3 => exact kC_ (Kd.S_reads' HO473.out).2.2); (case side4 => exact (Kd.S_reads' HO473.out).2.1); (case side5 => exact kC_ (Kd.R_reads' HO476.out).2.2); (case side6 => exact (Kd.R_reads' HO476.out).2.1); rintro e w31 ⟨rfl, hb⟩; refine ⟨_, rfl, ?_⟩; replace HO470 := Aside0.mk (Kd.R_below (kR_ HO470.out) hb); replace HO473 := Aside0.mk (Kd.S_below (kS_ HO473.out) hb); replace HO476 := Aside0.mk (Kd.R_below (kR_ HO476.out) hb); replace HO481 := Aside0.mk (Kd.R_below (kR_ HO481.out) hb); replace HO484 := Aside0.mk (Kd.S_below (kS_ HO484.out) hb); replace HO487 := Aside0.mk (Kd.R_below (kR_ HO487.out) hb); replace HO492 := Aside0.mk (Kd.R_below (kR_ HO492.out) hb); replace HO495 := Aside0.mk (Kd.S_below (kS_ HO495.out) hb); replace HO498 := Aside0.mk (Kd.R_below (kR_ HO498.out) hb); replace BK477 := (bbA_ BK477 hb); replace BK488 := (bbA_ BK488 hb); replace HB := (bs_ HB hb); (try clear hb); (try clear hb2); (try clear hk); (try clear hi)))
    go_loopg [5] k (fun kq v5 w' => ∃ (x5_1 : Int), v5 = .int .i64 x5_1 ∧ Aside0 (laws_FnClientOver.l0 kq x5_1 t467 t468 t471 t474 t478 t479 t482 t485 = some r) ∧ Aside0 (kq ≤ k) ∧ Aside0 (Kd.R (Kd.int .i64) 3 w' w.heap.size (fun k_ => some k_ ≠ ((.slice Ao15 t474.length co15) : Value).ownBlock ∧ some k_ ≠ ((.slice Ao20 t479.length co20) : Value).ownBlock ∧ some k_ ≠ ((.slice Ao22 t485.length co22) : Value).ownBlock) (.slice Ao13 t468.length co13) t468) ∧ Aside0 (Kd.S k41 41 w' w.heap.size (fun k_ => some k_ ≠ ((.slice Ao21 t482.length co21) : Value).ownBlock) (.slice Ao14 t471.length co14) t471) ∧ Aside0 (Kd.R (Kd.int .i64) 3 w' w.heap.size (fun k_ => some k_ ≠ ((.slice Ao13 t468.length co13) : Value).ownBlock ∧ some k_ ≠ ((.slice Ao20 t479.length co20) : Value).ownBlock ∧ some k_ ≠ ((.slice Ao22 t485.length co22) : Value).ownBlock) (.slice Ao15 t474.length co15) t474) ∧ Aside0 (Kd.R (Kd.int .i64) 3 w' w.heap.size (fun k_ => some k_ ≠ ((.slice Ao13 t468.length co13) : Value).ownBlock ∧ some k_ ≠ ((.slice Ao15 t474.length co15) : Value).ownBlock ∧ some k_ ≠ ((.slice Ao22 t485.length co22) : Value).ownBlock) (.slice Ao20 t479.length co20) t479) ∧ Aside0 (Kd.S k41 41 w' w.heap.size (fun k_ => some k_ ≠ ((.slice Ao14 t471.length co14) : Value).ownBlock) (.slice Ao21 t482.length co21) t482) ∧ Aside0 (Kd.R (Kd.int .i64) 3 w' w.heap.size (fun k_ => some k_ ≠ ((.slice Ao13 t468.length co13) : Value).ownBlock ∧ some k_ ≠ ((.slice Ao15 t474.length co15) : Value).ownBlock ∧ some k_ ≠ ((.slice Ao20 t479.length co20) : Value).ownBlock) (.slice Ao22 t485.length co22) t485) ∧ Aside0 (w'.heap[gb477]? = some (.cells #[.int .i64 t467, (.slice Ao13 t468.length co13), (.slice Ao14 t471.length co14), (.slice Ao15 t474.length co15)] 30 (0, 0))) ∧ Aside0 (w'.heap[gb488]? = some (.cells #[.int .i64 t478, (.slice Ao20 t479.length co20), (.slice Ao21 t482.length co21), (.slice Ao22 t485.length co22)] 30 (0, 0))) ∧ Aside0 (Below w.heap.size w w'))
    case atStart => exact ⟨(0), (by first | rfl | (simp; done) | (simp [*]; done)), H', ⟨Nat.le_refl _⟩, ⟨by refine kR_ ?_; exact Kd.R_mono HO470.out (fun _ hk => op2_ hk)⟩, ⟨by refine kS_ ?_; exact Kd.S_mono HO473.out (fun _ hk => hk.1)⟩, ⟨by refine kR_ ?_; exact Kd.R_mono HO476.out (fun _ hk => op2_ hk)⟩, ⟨by refine kR_ ?_; exact Kd.R_mono HO481.out (fun _ hk => op2_ hk)⟩, ⟨by refine kS_ ?_; exact Kd.S_mono HO484.out (fun _ hk => hk.1)⟩, ⟨by refine kR_ ?_; exact Kd.R_mono HO487.out (fun _ hk => op2_ hk)⟩, ⟨by refine kb_ ?_; exact BK477.out⟩, ⟨by refine kb_ ?_; exact BK488.out⟩, ⟨hbA_ HB.out⟩⟩
    case round =>
     clear H'; (try clear c1); (try clear c2); (try clear c2b0); (try clear c2b1); (try clear p2); (try clear c4); (try clear c7); (try clear c9); (try clear c14); (try clear c16); (try clear c17); (try clear c18); (try clear c19); (try clear Z12); (try clear Z19); (try clear Z30)
     obtain ⟨x5_1, rfl, HA, HK1, HO_478001, HO_478002, HO_478003, HO_489001, HO_489002, HO_489003, BK477, BK488, HB⟩ := hrel
     cases gk with
     | zero => exact absurd HA.out (by simp [laws_FnClientOver.l0])
     | succ k1 =>
      have H := HA.out; clear HA
      simp only [laws_FnClientOver.l0] at H
      by_cases c32 : x5_1 < (t468.length : Int)
      ·rw [if_pos c32] at H
       have c32b0 : decide (x5_1 < (t468.length : Int)) = true := decide_eq_true c32
       clear c32
       by_cases c33 : 0 ≤ x5_1
       ·rw [if_pos c33] at H
        have c33b0 : decide (0 ≤ x5_1) = true := decide_eq_true c33
        clear c33
        replace H := Option.bind_eq_some_iff.mp H
        obtain ⟨t503, A340, H⟩ := H
        (try dsimp only at H)
        have A34 := Aside0.mk A340; clear A340
        by_cases c35 : t503 = true
        ·subst c35
         rw [if_pos rfl] at H
         have H' := Aside0.mk H
         clear H; have hnb36 := NB477_488.out; have hnc36 := NB488_477.out; have Z37 := zz4 BK477
         try go_wp2
         replace HO_478001 := Aside0.mk (Kd.R_drew HO_478001.out); replace HO_478002 := Aside0.mk (Kd.S_drew HO_478002.out); replace HO_478003 := Aside0.mk (Kd.R_drew HO_478003.out); replace HO_489001 := Aside0.mk (Kd.R_drew HO_489001.out); replace HO_489002 := Aside0.mk (Kd.S_drew HO_489002.out); replace HO_489003 := Aside0.mk (Kd.R_drew HO_489003.out); replace BK477 := Aside0.mk (blk_drew BK477.out); replace BK488 := Aside0.mk (blk_drew BK488.out); replace HB := (bd_ HB)
         have p502 : 0 ≤ (x5_1 : Int) := of_decide_eq_true (by first | (with_reducible assumption) | assumption)
         have q502 : x5_1 < (t468.length : Int) := of_decide_eq_true (by first | (with_reducible assumption) | assumption)
         obtain ⟨ad502, e502, hx502_0⟩ := Kd.at_int (Kd.R_reads' HO_478001.out).2.2 x5_1 p502 q502
         cases e502
         replace p502 := eq_true p502
         replace q502 := eq_true q502
         refine start_ (n := 9) (S := fun w' => w'.cell? ⟨gb488, 0, none⟩ = some (.int .i64 t478) ∧ w'.cell? ⟨gb488, 1, none⟩ = some (.slice Ao20 t479.length co20) ∧ w'.cell? ⟨gb488, 2, none⟩ = some (.slice Ao21 t482.length co21) ∧ w'.cell? ⟨gb488, 3, none⟩ = some (.slice Ao22 t485.length co22) ∧ w'.cell? ⟨gb477, 0, none⟩ = some (.int .i64 t467) ∧ w'.cell? ⟨gb477, 1, none⟩ = some (.slice (some ad502) t468.length co13) ∧ w'.cell? ⟨gb477, 2, none⟩ = some (.slice Ao14 t471.length co14) ∧ w'.cell? ⟨gb477, 3, none⟩ = some (.slice Ao15 t474.length co15) ∧ w'.cell? (ad502.add (x5_1).toNat) = some (.int .i64 (rd t468 x5_1))) (ds := []) #[false, false, false, false, false, false, false, false, false] (by kernel_rfl) rfl rfl ⟨bc_ BK488 0, bc_ BK488 1, bc_ BK488 2, bc_ BK488 3, bc_ BK477 0, bc_ BK477 1, bc_ BK477 2, bc_ BK477 3, hx502_0⟩ (fun hHeld => ?_); refine with_tabW laws_FnClientOver.tab12 laws_FnClientOver.bits12 (fun HT_ HW_ => ?_)
         generalize wr.drew = w38 at HO_478001 HO_478002 HO_478003 HO_489001 HO_489002 HO_489003 BK477 BK488 HB hx502_0 hHeld ⊢
         refine pu_ (i := 0) (N := some 34) HT_ ?_; refine pu_ (i := 2) (N := some 36) HT_ ?_; refine pu_ (i := 4) (N := some 38) HT_ ?_; refine tk_ (i := 1) (N := some 35) HT_ HW_ hHeld ?_; refine tk_ (i := 3) (N := some 37) HT_ HW_ hHeld ?_; refine pu_ (i := 5) (N := some 39) HT_ ?_; refine tk_ (i := 6) (N := some 40) HT_ HW_ hHeld ?_
         refine on_ (i := 7) (N := some 41) HT_ (fun K hK => ?_)
         refine goes_ Try.func21 (by kernel_rfl) rfl #[.slice Ao22 t485.length co22, .int .i64 (rd t468 x5_1)] (by rfl) rfl rfl ar_ ?_
         with_reducible refine (laws_hasInt.calls k1 _ _ t485 (rd t468 x5_1) true _ ?side1 ?side2 A34.out).mono ?_
         (case side1 => exact kC_ (Kd.R_reads' HO_489003.out).2.2)
         (case side2 => exact (Kd.R_reads' HO_489003.out).2.1)
         rintro e w' ⟨rfl, ⟨nd, rfl⟩⟩
         refine ⟨_, rfl, ?_⟩
         refine hK.out _ _ ⟨bc_ BK488 0, bc_ BK488 1, bc_ BK488 2, bc_ BK488 3, bc_ BK477 0, bc_ BK477 1, bc_ BK477 2, bc_ BK477 3, hHeld.2.2.2.2.2.2.2.2⟩ (fun hHeld => ?_)
         clear hK K; refine nm_ 41 ?_; refine pu_ (i := 8) (N := some 42) HT_ ?_
         refine done_ (done_of HT_.out (by kernel_rfl)) ?_
         try go_wp2
         go_roundg k1
         case measure => have := HK1.out; omega
         case rel => exact ⟨(wrap64 (x5_1 + 1)), (by first | rfl | (simp; done) | (simp [*]; done)), H', ⟨by have := HK1.out; omega⟩, ⟨kR_ HO_478001.out⟩, ⟨by refine kS_ ?_; exact HO_478002.out⟩, ⟨kR_ HO_478003.out⟩, ⟨kR_ HO_489001.out⟩, ⟨by refine kS_ ?_; exact HO_489002.out⟩, ⟨kR_ HO_489003.out⟩, ⟨by refine kb_ ?_; exact BK477.out⟩, ⟨by refine kb_ ?_; exact BK488.out⟩, ⟨hbA_ HB.out⟩⟩
        ·replace c35 := Bool.eq_false_iff.mpr c35
         subst c35
         rw [if_neg (show ¬ (false = true) by decide)] at H
         exact absurd (Option.some.inj H) (by rw [HLW.out]; exact Bool.false_ne_true)
       ·rw [if_neg c33] at H
        exact absurd H (by simp)
      ·rw [if_neg c32] at H
       have c32b0 : decide (x5_1 < (t468.length : Int)) = false := decide_eq_false c32
       clear c32
       replace H := Option.bind_eq_some_iff.mp H
       obtain ⟨t504, A390, H⟩ := H
       (try dsimp only at H)
       have A39 := Aside0.mk A390; clear A390
       by_cases c40 : t504 = true
       ·subst c40
        rw [if_pos rfl] at H
        by_cases c41 : (t479.length : Int) = 0
        ·rw [if_pos c41] at H
         have c41b0 : ((t479.length : Int) == 0) = true := beq_iff_eq.mpr c41
         have c41b1 : ((t479.length : Int) != 0) = false := bne_eq_false_iff_eq.mpr c41
         clear c41
         by_cases c42 : (t482.length : Int) = (t471.length : Int)
         ·rw [if_pos c42] at H
          have c42b0 : ((t482.length : Int) == (t471.length : Int)) = true := beq_iff_eq.mpr c42
          have c42b1 : ((t482.length : Int) != (t471.length : Int)) = false := bne_eq_false_iff_eq.mpr c42
          have c42b2 : (t482.length == t471.length) = true := by first | simpa using c42 | (simp at c42 ⊢; omega)
          clear c42
          by_cases c43 : (t485.length : Int) = (wrap64 ((t474.length : Int) + (t468.length : Int)))
          ·rw [if_pos c43] at H
           have c43b0 : ((t485.length : Int) == (wrap64 ((t474.length : Int) + (t468.length : Int)))) = true := beq_iff_eq.mpr c43
           have c43b1 : ((t485.length : Int) != (wrap64 ((t474.length : Int) + (t468.length : Int)))) = false := bne_eq_false_iff_eq.mpr c43
           clear c43
           replace H := Option.bind_eq_some_iff.mp H
           obtain ⟨⟨t505, t506, t509, t512⟩, A440, H⟩ := H
           (try dsimp only at H)
           have A44 := Aside0.mk A440; clear A440
           replace H := Option.bind_eq_some_iff.mp H
           obtain ⟨t515, A450, H⟩ := H
           (try dsimp only at H)
           have A45 := Aside0.mk A450; clear A450
           obtain rfl := Option.some.inj H
           have hnb46 := NB477_488.out; have hnc46 := NB488_477.out; have Z47 := zz4 BK477
           try go_wp2
           replace HO_478001 := Aside0.mk (Kd.R_drew HO_478001.out); replace HO_478002 := Aside0.mk (Kd.S_drew HO_478002.out); replace HO_478003 := Aside0.mk (Kd.R_drew HO_478003.out); replace HO_489001 := Aside0.mk (Kd.R_drew HO_489001.out); replace HO_489002 := Aside0.mk (Kd.S_drew HO_489002.out); replace HO_489003 := Aside0.mk (Kd.R_drew HO_489003.out); replace BK477 := Aside0.mk (blk_drew BK477.out); replace BK488 := Aside0.mk (blk_drew BK488.out); replace HB := (bd_ HB)
           refine start_ (n := 37) (S := fun w' => w'.cell? ⟨gb488, 0, none⟩ = some (.int .i64 t478) ∧ w'.cell? ⟨gb488, 1, none⟩ = some (.slice Ao20 t479.length co20) ∧ w'.cell? ⟨gb488, 2, none⟩ = some (.slice Ao21 t482.length co21) ∧ w'.cell? ⟨gb488, 3, none⟩ = some (.slice Ao22 t485.length co22) ∧ w'.cell? ⟨gb477, 0, none⟩ = some (.int .i64 t467) ∧ w'.cell? ⟨gb477, 1, none⟩ = some (.slice Ao13 t468.length co13) ∧ w'.cell? ⟨gb477, 2, none⟩ = some (.slice Ao14 t471.length co14) ∧ w'.cell? ⟨gb477, 3, none⟩ = some (.slice Ao15 t474.length co15)) (ds := []) #[false, false, false, false, false, false, false, false, false, false, false, false, false, false, false, false, false, false, false, false, false, false, false, false, false, false, false, false, false, false, false, false, false, false, false, false, false] (by kernel_rfl) rfl rfl ⟨bc_ BK488 0, bc_ BK488 1, bc_ BK488 2, bc_ BK488 3, bc_ BK477 0, bc_ BK477 1, bc_ BK477 2, bc_ BK477 3⟩ (fun hHeld => ?_); refine with_tabW laws_FnClientOver.tab14 laws_FnClientOver.bits14 (fun HT_ HW_ => ?_)
           generalize wr.drew = w48 at HO_478001 HO_478002 HO_478003 HO_489001 HO_489002 HO_489003 BK477 BK488 HB hHeld ⊢
           refine tk_ (i := 0) (N := some 43) HT_ HW_ hHeld ?_
           refine on_ (i := 1) (N := some 44) HT_ (fun K hK => ?_)
           refine goes_ Try.func14 (by kernel_rfl) rfl #[.agg #[.int .i64 t478, .slice Ao20 t479.length co20, .slice Ao21 t482.length co21, .slice Ao22 t485.length co22]] (by rfl) rfl rfl ar_ ?_
           with_reducible refine (impl_ClientOk.calls k1 t478 _ _ t479 _ _ t482 _ _ t485 true _ ?side1 ?side2 ?side3 ?side4 ?side5 ?side6 A39.out).mono ?_
           (case side1 => exact kC_ (Kd.R_reads' HO_489001.out).2.2)
           (case side2 => exact (Kd.R_reads' HO_489001.out).2.1)
           (case side3 => exact kC_ (Kd.S_reads' HO_489002.out).2.2)
           (case side4 => exact (Kd.S_reads' HO_489002.out).2.1)
           (case side5 => exact kC_ (Kd.R_reads' HO_489003.out).2.2)
           (case side6 => exact (Kd.R_reads' HO_489003.out).2.1)
           rintro e w49 ⟨rfl, hb⟩
           refine ⟨_, rfl, ?_⟩
           replace HO_478001 := Aside0.mk (Kd.R_below (kR_ HO_478001.out) hb); replace HO_478002 := Aside0.mk (Kd.S_below (kS_ HO_478002.out) hb); replace HO_478003 := Aside0.mk (Kd.R_below (kR_ HO_478003.out) hb); replace HO_489001 := Aside0.mk (Kd.R_below (kR_ HO_489001.out) hb); replace HO_489002 := Aside0.mk (Kd.S_below (kS_ HO_489002.out) hb); replace HO_489003 := Aside0.mk (Kd.R_below (kR_ HO_489003.out) hb); replace BK477 := (bbA_ BK477 hb); replace BK488 := (bbA_ BK488 hb); replace HB := (bs_ HB hb); (try clear hb); (try clear hb2); (try clear hk); (try clear hi)
           refine hK.out _ _ ⟨bc_ BK488 0, bc_ BK488 1, bc_ BK488 2, bc_ BK488 3, bc_ BK477 0, bc_ BK477 1, bc_ BK477 2, bc_ BK477 3⟩ (fun hHeld => ?_)
           clear hK K; refine nm_ 44 ?_; refine pu_ (i := 2) (N := some 45) HT_ ?_; refine pu_ (i := 3) (N := some 46) HT_ ?_; refine tk_ (i := 4) (N := some 47) HT_ HW_ hHeld ?_; refine pu_ (i := 5) (N := some 48) HT_ ?_; refine pu_ (i := 6) (N := some 49) HT_ ?_; refine pu_ (i := 7) (N := some 50) HT_ ?_; refine pu_ (i := 8) (N := some 51) HT_ ?_; refine pu_ (i := 9) (N := some 52) HT_ ?_; refine pu_ (i := 12) (N := some 55) HT_ ?_; refine tk_ (i := 10) (N := some 53) HT_ HW_ hHeld ?_; refine pu_ (i := 11) (N := some 54) HT_ ?_; refine tk_ (i := 13) (N := some 56) HT_ HW_ hHeld ?_; refine pu_ (i := 14) (N := some 57) HT_ ?_; refine pu_ (i := 15) (N := some 58) HT_ ?_; refine pu_ (i := 16) (N := some 59) HT_ ?_; refine pu_ (i := 17) (N := some 60) HT_ ?_; refine pu_ (i := 18) (N := some 61) HT_ ?_; refine pu_ (i := 21) (N := some 64) HT_ ?_; refine pu_ (i := 24) (N := some 67) HT_ ?_; refine tk_ (i := 19) (N := some 62) HT_ HW_ hHeld ?_; refine pu_ (i := 20) (N := some 63) HT_ ?_; refine tk_ (i := 22) (N := some 65) HT_ HW_ hHeld ?_; refine pu_ (i := 23) (N := some 66) HT_ ?_; refine tk_ (i := 25) (N := some 68) HT_ HW_ hHeld ?_; refine pu_ (i := 26) (N := some 69) HT_ ?_; refine pu_ (i := 27) (N := some 70) HT_ ?_; refine pu_ (i := 28) (N := some 71) HT_ ?_; refine pu_ (i := 29) (N := some 72) HT_ ?_; refine pu_ (i := 30) (N := some 73) HT_ ?_; refine tk_ (i := 31) (N := some 74) HT_ HW_ hHeld ?_; refine tk_ (i := 33) (N := some 76) HT_ HW_ hHeld ?_
           refine on_ (i := 32) (N := some 75) HT_ (fun K hK => ?_)
           refine goes_ Try.func17 (by kernel_rfl) rfl #[.agg #[.int .i64 t478, .slice Ao20 t479.length co20, .slice Ao21 t482.length co21, .slice Ao22 t485.length co22]] (by rfl) rfl rfl ar_ ?_
           with_reducible refine (impl_ClientOver.calls k1 t478 _ _ t479 _ _ t482 _ _ t485 t505 t506 t509 t512 _ ?side1 ?side2 ?side3 ?side4 ?side5 ?side6 A44.out).mono ?_
           (case side1 => exact kC_ (Kd.R_reads' HO_489001.out).2.2)
           (case side2 => exact (Kd.R_reads' HO_489001.out).2.1)
           (case side3 => exact kC_ (Kd.S_reads' HO_489002.out).2.2)
           (case side4 => exact (Kd.S_reads' HO_489002.out).2.1)
           (case side5 => exact kC_ (Kd.R_reads' HO_489003.out).2.2)
           (case side6 => exact (Kd.R_reads' HO_489003.out).2.1)
           rintro e w50 ⟨v507, v510, v513, rfl, ho0, ho1, ho2, hb⟩
           refine ⟨_, rfl, ?_⟩
           have HO508 := Aside0.mk (Kd.R_lower (Kd.R_new' (Kd.R_new' (Kd.R_new' (Kd.R_new' ho0 (Kd.R_lt (kR_ HO_478001.out))) (Kd.R_lt (kR_ HO_478003.out))) (Kd.R_lt (kR_ HO_489001.out))) (Kd.R_lt (kR_ HO_489003.out))) (below_size (hbA_ HB.out))); have HO511 := Aside0.mk (Kd.S_lower (Kd.S_new' (Kd.S_new' ho1 (Kd.S_lt (kS_ HO_478002.out))) (Kd.S_lt (kS_ HO_489002.out))) (below_size (hbA_ HB.out))); replace HO_478002 := Aside0.mk (Kd.S_elder' (kS_ HO_478002.out) (Kd.S_base ho1) hb); replace HO_489002 := Aside0.mk (Kd.S_elder' (kS_ HO_489002.out) (Kd.S_base ho1) hb); have HO514 := Aside0.mk (Kd.R_lower (Kd.R_new' (Kd.R_new' (Kd.R_new' (Kd.R_new' ho2 (Kd.R_lt (kR_ HO_478001.out))) (Kd.R_lt (kR_ HO_478003.out))) (Kd.R_lt (kR_ HO_489001.out))) (Kd.R_lt (kR_ HO_489003.out))) (below_size (hbA_ HB.out))); replace HO_478001 := Aside0.mk (Kd.R_mono (Kd.R_told (Kd.R_told (Kd.R_old (kR_ HO_478001.out) hb) (Kd.R_base ho0)) (Kd.R_base ho2)) (fun _ h_ => op1_ h_)); replace HO_478003 := Aside0.mk (Kd.R_mono (Kd.R_told (Kd.R_told (Kd.R_old (kR_ HO_478003.out) hb) (Kd.R_base ho0)) (Kd.R_base ho2)) (fun _ h_ => op1_ h_)); replace HO_489001 := Aside0.mk (Kd.R_mono (Kd.R_told (Kd.R_told (Kd.R_old (kR_ HO_489001.out) hb) (Kd.R_base ho0)) (Kd.R_base ho2)) (fun _ h_ => op1_ h_)); replace HO_489003 := Aside0.mk (Kd.R_mono (Kd.R_told (Kd.R_told (Kd.R_old (kR_ HO_489003.out) hb) (Kd.R_base ho0)) (Kd.R_base ho2)) (fun _ h_ => op1_ h_)); replace BK477 := (bbA_ BK477 hb); replace BK488 := (bbA_ BK488 hb); replace HB := (bs_ HB hb); (try clear hb); (try clear hb2); (try clear hk); (try clear hi); (try clear ho0); (try clear ho1); (try clear ho2)
           obtain ⟨Ao51, co51, eo51⟩ := Kd.R_slice HO508.out
           (first | subst eo51 | (injection eo51 with f1_ f2_ f3_; have f4_ := f1_.symm; have f5_ := f3_.symm; clear f1_ f2_ f3_; subst f4_; subst f5_))
           obtain ⟨Ao52, co52, eo52⟩ := Kd.S_slice HO511.out
           (first | subst eo52 | (injection eo52 with f1_ f2_ f3_; have f4_ := f1_.symm; have f5_ := f3_.symm; clear f1_ f2_ f3_; subst f4_; subst f5_))
           obtain ⟨Ao53, co53, eo53⟩ := Kd.R_slice HO514.out
           (first | subst eo53 | (injection eo53 with f1_ f2_ f3_; have f4_ := f1_.symm; have f5_ := f3_.symm; clear f1_ f2_ f3_; subst f4_; subst f5_))
           refine hK.out _ _ ⟨bc_ BK488 0, bc_ BK488 1, bc_ BK488 2, bc_ BK488 3, bc_ BK477 0, bc_ BK477 1, bc_ BK477 2, bc_ BK477 3⟩ (fun hHeld => ?_)
           clear hK K; refine nm_ 75 ?_
           refine on_ (i := 34) (N := some 77) HT_ (fun K hK => ?_)
           refine goes_ Try.func18 (by kernel_rfl) rfl #[.agg #[.int .i64 t505, .slice Ao51 t506.length co51, .slice Ao52 t509.length co52, .slice Ao53 t512.length co53], .agg #[.int .i64 t478, .slice Ao20 t479.length co20, .slice Ao21 t482.length co21, .slice Ao22 t485.length co22]] (by rfl) rfl rfl ar_ ?_
           with_reducible refine (laws_sameClient.calls k1 t505 _ _ t506 _ _ t509 _ _ t512 t478 _ _ t479 _ _ t482 _ _ t485 t515 _ ?side1 ?side2 ?side3 ?side4 ?side5 ?side6 ?side7 ?side8 ?side9 ?side10 ?side11 ?side12 A45.out).mono ?_
           (case side1 => exact kC_ (Kd.R_reads' HO508.out).2.2)
           (case side2 => exact (Kd.R_reads' HO508.out).2.1)
           (case side3 => exact kC_ (Kd.S_reads' HO511.out).2.2)
           (case side4 => exact (Kd.S_reads' HO511.out).2.1)
           (case side5 => exact kC_ (Kd.R_reads' HO514.out).2.2)
           (case side6 => exact (Kd.R_reads' HO514.out).2.1)
           (case side7 => exact kC_ (Kd.R_reads' HO_489001.out).2.2)
           (case side8 => exact (Kd.R_reads' HO_489001.out).2.1)
           (case side9 => exact kC_ (Kd.S_reads' HO_489002.out).2.2)
           (case side10 => exact (Kd.S_reads' HO_489002.out).2.1)
           (case side11 => exact kC_ (Kd.R_reads' HO_489003.out).2.2)
           (case side12 => exact (Kd.R_reads' HO_489003.out).2.1)
           rintro e w54 ⟨rfl, hb⟩
           refine ⟨_, rfl, ?_⟩
           replace HO_478001 := Aside0.mk (Kd.R_below (kR_ HO_478001.out) hb); replace HO_478002 := Aside0.mk (Kd.S_below (kS_ HO_478002.out) hb); replace HO_478003 := Aside0.mk (Kd.R_below (kR_ HO_478003.out) hb); replace HO_489001 := Aside0.mk (Kd.R_below (kR_ HO_489001.out) hb); replace HO_489002 := Aside0.mk (Kd.S_below (kS_ HO_489002.out) hb); replace HO_489003 := Aside0.mk (Kd.R_below (kR_ HO_489003.out) hb); replace HO508 := Aside0.mk (Kd.R_below (kR_ HO508.out) hb); replace HO511 := Aside0.mk (Kd.S_below (kS_ HO511.out) hb); replace HO514 := Aside0.mk (Kd.R_below (kR_ HO514.out) hb); replace BK477 := (bbA_ BK477 hb); replace BK488 := (bbA_ BK488 hb); replace HB := (bs_ HB hb); (try clear hb); (try clear hb2); (try clear hk); (try clear hi)
           refine hK.out _ _ ⟨bc_ BK488 0, bc_ BK488 1, bc_ BK488 2, bc_ BK488 3, bc_ BK477 0, bc_ BK477 1, bc_ BK477 2, bc_ BK477 3⟩ (fun hHeld => ?_)
           clear hK K; refine nm_ 77 ?_; refine pu_ (i := 35) (N := some 78) HT_ ?_; refine pu_ (i := 36) (N := some 2) HT_ ?_
           refine done_ (done_of HT_.out (by kernel_rfl)) ?_
           try go_wp2
           go_ret
           exact ⟨by first | rfl | (simp [errW_none, errW_some] <;> rfl) | (simp [*, errW_none, errW_some] <;> rfl), hbA_ HB.out⟩
          ·rw [if_neg c43] at H
           have c43b0 : ((t485.length : Int) == (wrap64 ((t474.length : Int) + (t468.length : Int)))) = false := beq_eq_false_iff_ne.mpr c43
           have c43b1 : ((t485.length : Int) != (wrap64 ((t474.length : Int) + (t468.length : Int)))) = true := bne_iff_ne.mpr c43
           exact absurd (Option.some.inj H) (by rw [HLW.out]; exact Bool.false_ne_true)
         ·rw [if_neg c42] at H
          have c42b0 : ((t482.length : Int) == (t471.length : Int)) = false := beq_eq_false_iff_ne.mpr c42
          have c42b1 : ((t482.length : Int) != (t471.length : Int)) = true := bne_iff_ne.mpr c42
          have c42b2 : (t482.length == t471.length) = false := by first | simpa using c42 | (simp at c42 ⊢; omega)
          exact absurd (Option.some.inj H) (by rw [HLW.out]; exact Bool.false_ne_true)
        ·rw [if_neg c41] at H
         have c41b0 : ((t479.length : Int) == 0) = false := beq_eq_false_iff_ne.mpr c41
         have c41b1 : ((t479.length : Int) != 0) = true := bne_iff_ne.mpr c41
         have c41b2 : ¬ (t479 = []) := fun h_ => c41 (by rw [h_]; rfl)
         exact absurd (Option.some.inj H) (by rw [HLW.out]; exact Bool.false_ne_true)
       ·replace c40 := Bool.eq_false_iff.mpr c40
        subst c40
        rw [if_neg (show ¬ (false = true) by decide)] at H
        exact absurd (Option.some.inj H) (by rw [HLW.out]; exact Bool.false_ne_true)
   ·replace c9 := Bool.eq_false_iff.mpr c9
    subst c9
    rw [if_neg (show ¬ (false = true) by decide)] at H
    by_cases c55 : t478 = 0
    ·rw [if_pos c55] at H
     have c55b0 : (t478 == 0) = true := beq_iff_eq.mpr c55
     have c55b1 : (t478 != 0) = false := bne_eq_false_iff_eq.mpr c55
     clear c55
     replace H := Option.bind_eq_some_iff.mp H
     obtain ⟨t501, A560, H⟩ := H
     (try dsimp only at H)
     have A56 := Aside0.mk A560; clear A560
     obtain rfl := Option.some.inj H
     go_enter Try.func4, Try.ntmps4
     try go_wp2_with (first | ((with_reducible refine gate_callee (f := 16) rfl ?_); refine goesL_ (some 10) rfl rfl Try.func16 (by kernel_rfl) rfl #[.slice A0 l0.length c0] rfl ar_ ?_; (with_reducible refine (spec_DrawClientOver.calls k _ _ l0 t467 t468 t471 t474 _ ?side1 ?side2 A3.out).mono ?_); (case side1 => exact kC_ HR0.out); (case side2 => exact HC0.out); rintro e w57 ⟨v469, v472, v475, rfl, ho0, ho1, ho2, hb⟩; refine ⟨_, rfl, ?_⟩; have HO470 := Aside0.mk (Kd.R_lower ho0 (below_size (hbA_ HB.out))); have HO473 := Aside0.mk (Kd.S_lower ho1 (below_size (hbA_ HB.out))); have HO476 := Aside0.mk (Kd.R_lower ho2 (below_size (hbA_ HB.out))); replace HB := (bs_ HB hb); (try clear hb); (try clear hb2); (try clear hk); (try clear hi); (try clear ho0); (try clear ho1); (try clear ho2)) | ((with_reducible refine gate_dst (N := 3) rfl ?_); (try (refine gate_guard (by rfl) ?_; dsimp only)); refine box_ (N := 3) (cs := #[.int .i64 0, .slice none 0 0, .slice none 0 0, .slice none 0 0]) (t := 30) (fun gb477 hg w58 hbox hb => ?_); replace HO470 := Aside0.mk (Kd.R_below (kR_ HO470.out) hb); replace HO473 := Aside0.mk (Kd.S_below (kS_ HO473.out) hb); replace HO476 := Aside0.mk (Kd.R_below (kR_ HO476.out) hb); have BK477 := Aside0.mk (hbox); have GW477 := ge_ hg HB; have GE477 := ge_ hg HB; replace HB := (bs_ HB hb); clear hb hbox hg; have Z59 := zz4 BK477; obtain ⟨Ao60, co60, eo60⟩ := Kd.R_slice HO470.out; subst eo60; obtain ⟨Ao61, co61, eo61⟩ := Kd.S_slice HO473.out; subst eo61; obtain ⟨Ao62, co62, eo62⟩ := Kd.R_slice HO476.out; subst eo62) | ((with_reducible refine gate_callee (f := 17) rfl ?_); refine goesL_ (some 12) rfl rfl Try.func17 (by kernel_rfl) rfl #[.agg #[.int .i64 t467, .slice Ao60 t468.length co60, .slice Ao61 t471.length co61, .slice Ao62 t474.length co62]] rfl ar_ ?_; (with_reducible refine (impl_ClientOver.calls k t467 _ _ t468 _ _ t471 _ _ t474 t478 t479 t482 t485 _ ?side1 ?side2 ?side3 ?side4 ?side5 ?side6 A4.out).mono ?_); (case side1 => refine (Kd.R_reads' (e := 3) (base := w.heap.size) (ok := fun k_ => some k_ ≠ (.slice Ao62 t474.length co62 : Value).ownBlock) (n := t468.length) (c := co60) ?_).2.2; exact (by refine kR_ ?_; exact (rfm_ ((Kd.R_types HO470.out BK477.out (by decide))) (fun _ h_ => op1_ h_)))); (case side2 => exact (Kd.R_reads' HO470.out).2.1); (case side3 => refine (Kd.S_reads' (e := 41) (base := w.heap.size) (ok := fun k_ => True) (n := t471.length) (c := co61) ?_).2.2; exact (by refine kS_ ?_; exact (Kd.S_mono (Kd.S_far (p := ⟨gb477, 3, none⟩) (Kd.S_far (p := ⟨gb477, 2, none⟩) (Kd.S_far (p := ⟨gb477, 1, none⟩) (Kd.S_far (p := ⟨gb477, 0, none⟩) (Kd.S_types HO473.out BK477.out (by decide)) (fun _ hk => hk.2) (.int .i64 t467)) (fun _ hk => hk.2) (.slice Ao60 t468.length co60)) (fun _ hk => hk.2) (.slice Ao61 t471.length co61)) (fun _ hk => hk.2) (.slice Ao62 t474.length co62)) (fun _ h_ => op1_ h_)))); (case side4 => exact (Kd.S_reads' HO473.out).2.1); (case side5 => refine (Kd.R_reads' (e := 3) (base := w.heap.size) (ok := fun k_ => some k_ ≠ (.slice Ao60 t468.length co60 : Value).ownBlock) (n := t474.length) (c := co62) ?_).2.2; exact (by refine kR_ ?_; exact (rfm_ ((Kd.R_types HO476.out BK477.out (by decide))) (fun _ h_ => op1_ h_)))); (case side6 => exact (Kd.R_reads' HO476.out).2.1); rintro e w63 ⟨v480, v483, v486, rfl, ho0, ho1, ho2, hb⟩; refine ⟨_, rfl, ?_⟩; have HO481 := Aside0.mk (Kd.R_lower (Kd.R_new' (Kd.R_new' ho0 (Kd.R_lt (by refine kR_ ?_; exact (rfm_ ((Kd.R_types HO470.out BK477.out (by decide))) (fun _ h_ => op1_ h_))))) (Kd.R_lt (by refine kR_ ?_; exact (rfm_ ((Kd.R_types HO476.out BK477.out (by decide))) (fun _ h_ => op1_ h_))))) (below_size (hbA_ HB.out))); have HO484 := Aside0.mk (Kd.S_lower (Kd.S_new' ho1 (Kd.S_lt (by refine kS_ ?_; exact (Kd.S_mono (Kd.S_far (p := ⟨gb477, 3, none⟩) (Kd.S_far (p := ⟨gb477, 2, none⟩) (Kd.S_far (p := ⟨gb477, 1, none⟩) (Kd.S_far (p := ⟨gb477, 0, none⟩) (Kd.S_types HO473.out BK477.out (by decide)) (fun _ hk => hk.2) (.int .i64 t467)) (fun _ hk => hk.2) (.slice Ao60 t468.length co60)) (fun _ hk => hk.2) (.slice Ao61 t471.length co61)) (fun _ hk => hk.2) (.slice Ao62 t474.length co62)) (fun _ h_ => op1_ h_))))) (below_size (hbA_ HB.out))); replace HO473 := Aside0.mk (Kd.S_elder' (by refine kS_ ?_; exact (Kd.S_mono (Kd.S_far (p := ⟨gb477, 3, none⟩) (Kd.S_far (p := ⟨gb477, 2, none⟩) (Kd.S_far (p := ⟨gb477, 1, none⟩) (Kd.S_far (p := ⟨gb477, 0, none⟩) (Kd.S_types HO473.out BK477.out (by decide)) (fun _ hk => hk.2) (.int .i64 t467)) (fun _ hk => hk.2) (.slice Ao60 t468.length co60)) (fun _ hk => hk.2) (.slice Ao61 t471.length co61)) (fun _ hk => hk.2) (.slice Ao62 t474.length co62)) (fun _ h_ => op1_ h_))) (Kd.S_base ho1) hb); have HO487 := Aside0.mk (Kd.R_lower (Kd.R_new' (Kd.R_new' ho2 (Kd.R_lt (by refine kR_ ?_; exact (rfm_ ((Kd.R_types HO470.out BK477.out (by decide))) (fun _ h_ => op1_ h_))))) (Kd.R_lt (by refine kR_ ?_; exact (rfm_ ((Kd.R_types HO476.out BK477.out (by decide))) (fun _ h_ => op1_ h_))))) (below_size (hbA_ HB.out))); replace HO470 := Aside0.mk (Kd.R_mono (Kd.R_told (Kd.R_told (Kd.R_old (by refine kR_ ?_; exact (rfm_ ((Kd.R_types HO470.out BK477.out (by decide))) (fun _ h_ => op1_ h_))) hb) (Kd.R_base ho0)) (Kd.R_base ho2)) (fun _ h_ => op1_ h_)); replace HO476 := Aside0.mk (Kd.R_mono (Kd.R_told (Kd.R_told (Kd.R_old (by refine kR_ ?_; exact (rfm_ ((Kd.R_types HO476.out BK477.out (by decide))) (fun _ h_ => op1_ h_))) hb) (Kd.R_base ho0)) (Kd.R_base ho2)) (fun _ h_ => op1_ h_)); replace BK477 := Aside0.mk (blk_below (g := gb477) (o := .cells #[.int .i64 t467, .slice Ao60 t468.length co60, .slice Ao61 t471.length co61, .slice Ao62 t474.length co62] 30 (0, 0)) (by refine kb_ ?_; refine pz4 (cs := #[.int .i64 0, .slice none 0 0, .slice none 0 0, .slice none 0 0]) ?_; refine kb_ ?_; exact BK477.out) hb); replace HB := (bs_ HB hb); (try clear hb); (try clear hb2); (try clear hk); (try clear hi); (try clear ho0); (try clear ho1); (try clear ho2)) | ((with_reducible refine gate_dst (N := 4) rfl ?_); (try (refine gate_guard (by rfl) ?_; dsimp only)); refine box_ (N := 4) (cs := #[.int .i64 0, .slice none 0 0, .slice none 0 0, .slice none 0 0]) (t := 30) (fun gb488 hg w64 hbox hb => ?_); replace HO470 := Aside0.mk (Kd.R_below (kR_ HO470.out) hb); replace HO473 := Aside0.mk (Kd.S_below (kS_ HO473.out) hb); replace HO476 := Aside0.mk (Kd.R_below (kR_ HO476.out) hb); replace HO481 := Aside0.mk (Kd.R_below (kR_ HO481.out) hb); replace HO484 := Aside0.mk (Kd.S_below (kS_ HO484.out) hb); replace HO487 := Aside0.mk (Kd.R_below (kR_ HO487.out) hb); have BK488 := Aside0.mk (hbox); have GW488 := ge_ hg HB; have GE488 := ge_ hg HB; replace HB := (bs_ HB hb); have NB477_488 := nl_ hg BK477; have NB488_477 := ng_ hg BK477; replace BK477 := (bbA_ BK477 hb); clear hb hbox hg; have hnb65 := NB488_477.out; have hnc65 := NB477_488.out; have Z66 := zz4 BK488; obtain ⟨Ao67, co67, eo67⟩ := Kd.R_slice HO481.out; subst eo67; obtain ⟨Ao68, co68, eo68⟩ := Kd.S_slice HO484.out; subst eo68; obtain ⟨Ao69, co69, eo69⟩ := Kd.R_slice HO487.out; subst eo69))
     obtain ⟨w70, h_w70⟩ : ∃ w_, ((((w64.setCell ⟨gb488, 0, none⟩ (.int .i64 t478)).setCell ⟨gb488, 1, none⟩ (.slice Ao67 t479.length co67)).setCell ⟨gb488, 2, none⟩ (.slice Ao68 t482.length co68)).setCell ⟨gb488, 3, none⟩ (.slice Ao69 t485.length co69)) = w_ := ⟨_, rfl⟩
     have n0_ : Aside0 (Kd.R (Kd.int .i64) 3 w70 w.heap.size (fun k_ => some k_ ≠ (.slice Ao62 t474.length co62 : Value).ownBlock ∧ some k_ ≠ (.slice Ao67 t479.length co67 : Value).ownBlock ∧ some k_ ≠ (.slice Ao69 t485.length co69 : Value).ownBlock) (.slice Ao60 t468.length co60) t468) := ⟨by subst h_w70; refine kR_ ?_; exact rfm_ ((Kd.R_types HO470.out BK488.out (by decide))) (fun _ hk => ⟨hk.1.1.1, ⟨hk.1.1.2, hk.1.2⟩⟩)⟩
     have n1_ : Aside0 (Kd.S k41 41 w70 w.heap.size (fun k_ => some k_ ≠ (.slice Ao68 t482.length co68 : Value).ownBlock) (.slice Ao61 t471.length co61) t471) := ⟨by subst h_w70; refine kS_ ?_; exact Kd.S_mono (Kd.S_far (p := ⟨gb488, 3, none⟩) (Kd.S_far (p := ⟨gb488, 2, none⟩) (Kd.S_far (p := ⟨gb488, 1, none⟩) (Kd.S_far (p := ⟨gb488, 0, none⟩) (Kd.S_types HO473.out BK488.out (by decide)) (fun _ hk => hk.2) (.int .i64 t478)) (fun _ hk => hk.2) (.slice Ao67 t479.length co67)) (fun _ hk => hk.2) (.slice Ao68 t482.length co68)) (fun _ hk => hk.2) (.slice Ao69 t485.length co69)) (fun _ hk => hk.1.2)⟩
     have n2_ : Aside0 (Kd.R (Kd.int .i64) 3 w70 w.heap.size (fun k_ => some k_ ≠ (.slice Ao60 t468.length co60 : Value).ownBlock ∧ some k_ ≠ (.slice Ao67 t479.length co67 : Value).ownBlock ∧ some k_ ≠ (.slice Ao69 t485.length co69 : Value).ownBlock) (.slice Ao62 t474.length co62) t474) := ⟨by subst h_w70; refine kR_ ?_; exact rfm_ ((Kd.R_types HO476.out BK488.out (by decide))) (fun _ hk => ⟨hk.1.1.1, ⟨hk.1.1.2, hk.1.2⟩⟩)⟩
     have n3_ : Aside0 (Kd.R (Kd.int .i64) 3 w70 w.heap.size (fun k_ => some k_ ≠ (.slice Ao60 t468.length co60 : Value).ownBlock ∧ some k_ ≠ (.slice Ao62 t474.length co62 : Value).ownBlock ∧ some k_ ≠ (.slice Ao69 t485.length co69 : Value).ownBlock) (.slice Ao67 t479.length co67) t479) := ⟨by subst h_w70; refine kR_ ?_; exact rfm_ ((Kd.R_types HO481.out BK488.out (by decide))) (fun _ hk => ⟨hk.1.1.2, ⟨hk.1.2, hk.1.1.1⟩⟩)⟩
     have n4_ : Aside0 (Kd.S k41 41 w70 w.heap.size (fun k_ => some k_ ≠ (.slice Ao61 t471.length co61 : Value).ownBlock) (.slice Ao68 t482.length co68) t482) := ⟨by subst h_w70; refine kS_ ?_; exact Kd.S_mono (Kd.S_far (p := ⟨gb488, 3, none⟩) (Kd.S_far (p := ⟨gb488, 2, none⟩) (Kd.S_far (p := ⟨gb488, 1, none⟩) (Kd.S_far (p := ⟨gb488, 0, none⟩) (Kd.S_types HO484.out BK488.out (by decide)) (fun _ hk => hk.2) (.int .i64 t478)) (fun _ hk => hk.2) (.slice Ao67 t479.length co67)) (fun _ hk => hk.2) (.slice Ao68 t482.length co68)) (fun _ hk => hk.2) (.slice Ao69 t485.length co69)) (fun _ hk => hk.1.2)⟩
     have n5_ : Aside0 (Kd.R (Kd.int .i64) 3 w70 w.heap.size (fun k_ => some k_ ≠ (.slice Ao60 t468.length co60 : Value).ownBlock ∧ some k_ ≠ (.slice Ao62 t474.length co62 : Value).ownBlock ∧ some k_ ≠ (.slice Ao67 t479.length co67 : Value).ownBlock) (.slice Ao69 t485.length co69) t485) := ⟨by subst h_w70; refine kR_ ?_; exact rfm_ ((Kd.R_types HO487.out BK488.out (by decide))) (fun _ hk => ⟨hk.1.1.2, ⟨hk.1.2, hk.1.1.1⟩⟩)⟩
     have n6_ : Aside0 (w70.heap[gb477]? = some (.cells #[.int .i64 t467, .slice Ao60 t468.length co60, .slice Ao61 t471.length co61, .slice Ao62 t474.length co62] 30 (0, 0))) := ⟨by subst h_w70; exact kf_ BK477.out⟩
     have n7_ : Aside0 (w70.heap[gb488]? = some (.cells #[.int .i64 t478, .slice Ao67 t479.length co67, .slice Ao68 t482.length co68, .slice Ao69 t485.length co69] 30 (0, 0))) := ⟨by subst h_w70; refine kb_ ?_; refine pz4 (cs := #[.int .i64 0, .slice none 0 0, .slice none 0 0, .slice none 0 0]) ?_; refine kb_ ?_; exact BK488.out⟩
     have n8_ : Aside0 (Below w.heap.size w w70) := ⟨by subst h_w70; exact hbA_ HB.out⟩
     (try clear HO470); (try clear HO473); (try clear HO476); (try clear HO481); (try clear HO484); (try clear HO487); (try clear BK477); (try clear BK488); (try clear HB)
     (try rw [h_w70]); clear h_w70
     have HO470 := n0_; have HO473 := n1_; have HO476 := n2_; have HO481 := n3_; have HO484 := n4_; have HO487 := n5_; have BK477 := n6_; have BK488 := n7_; have HB := n8_; clear n0_ n1_ n2_ n3_ n4_ n5_ n6_ n7_ n8_; replace HO470 := Aside0.mk (Kd.R_drew HO470.out); replace HO473 := Aside0.mk (Kd.S_drew HO473.out); replace HO476 := Aside0.mk (Kd.R_drew HO476.out); replace HO481 := Aside0.mk (Kd.R_drew HO481.out); replace HO484 := Aside0.mk (Kd.S_drew HO484.out); replace HO487 := Aside0.mk (Kd.R_drew HO487.out); replace BK477 := Aside0.mk (blk_drew BK477.out); replace BK488 := Aside0.mk (blk_drew BK488.out); replace HB := (bd_ HB)
     refine start_ (n := 5) (S := fun w' => w'.cell? ⟨gb488, 0, none⟩ = some (.int .i64 t478) ∧ w'.cell? ⟨gb488, 1, none⟩ = some (.slice Ao67 t479.length co67) ∧ w'.cell? ⟨gb488, 2, none⟩ = some (.slice Ao68 t482.length co68) ∧ w'.cell? ⟨gb488, 3, none⟩ = some (.slice Ao69 t485.length co69) ∧ w'.cell? ⟨gb477, 0, none⟩ = some (.int .i64 t467) ∧ w'.cell? ⟨gb477, 1, none⟩ = some (.slice Ao60 t468.length co60) ∧ w'.cell? ⟨gb477, 2, none⟩ = some (.slice Ao61 t471.length co61) ∧ w'.cell? ⟨gb477, 3, none⟩ = some (.slice Ao62 t474.length co62)) (ds := []) #[false, false, false, false, false] (by kernel_rfl) rfl rfl ⟨bc_ BK488 0, bc_ BK488 1, bc_ BK488 2, bc_ BK488 3, bc_ BK477 0, bc_ BK477 1, bc_ BK477 2, bc_ BK477 3⟩ (fun hHeld => ?_)
     generalize w70.drew = w71 at HO470 HO473 HO476 HO481 HO484 HO487 BK477 BK488 HB hHeld ⊢
     refine take_ (i := 0) (N := some 13) (v := ?_) (a' := ?_) #[true, false, false, false, false] rfl rfl (by kernel_rfl) (fun _ _ _ h => h) (Or.inl ⟨by rfl, ?_⟩) hHeld ?_ ?_
     rotate_left
     ·rintro w' ⟨s0, s1, s2, s3, s4, s5, s6, s7⟩
      go_simp
      with_reducible rfl
     rotate_left
     ·simp only [Act.put, List.setIfInBounds_toArray, List.set_cons_zero, List.set_cons_succ, i64_w, i32_w]
      rfl
     refine take_ (i := 1) (N := some 14) (v := ?_) (a' := ?_) #[true, true, false, false, false] rfl rfl (by kernel_rfl) (fun _ _ _ h => h) (Or.inl ⟨by rfl, ?_⟩) hHeld ?_ ?_
     rotate_left
     ·rintro w' ⟨s0, s1, s2, s3, s4, s5, s6, s7⟩
      go_simp
      with_reducible rfl
     rotate_left
     ·simp only [Act.put, List.setIfInBounds_toArray, List.set_cons_zero, List.set_cons_succ, i64_w, i32_w]
      rfl
     refine one_ (i := 2) (N := some 15) #[true, true, true, false, false] rfl rfl (by kernel_rfl) (by decide) (fun K hK => ?_)
     refine goes_ Try.func19 (by kernel_rfl) rfl #[.agg #[.int .i64 t467, .slice Ao60 t468.length co60, .slice Ao61 t471.length co61, .slice Ao62 t474.length co62]] (by rfl) rfl rfl ar_ ?_
     with_reducible refine (spec_ClientOver.calls k t467 _ _ t468 _ _ t471 _ _ t474 t489 t490 t493 t496 _ ?side1 ?side2 ?side3 ?side4 ?side5 ?side6 A5.out).mono ?_
     (case side1 => exact kC_ (Kd.R_reads' HO470.out).2.2)
     (case side2 => exact (Kd.R_reads' HO470.out).2.1)
     (case side3 => exact kC_ (Kd.S_reads' HO473.out).2.2)
     (case side4 => exact (Kd.S_reads' HO473.out).2.1)
     (case side5 => exact kC_ (Kd.R_reads' HO476.out).2.2)
     (case side6 => exact (Kd.R_reads' HO476.out).2.1)
     rintro e w72 ⟨v491, v494, v497, rfl, ho0, ho1, ho2, hb⟩
     refine ⟨_, rfl, ?_⟩
     have HO492 := Aside0.mk (Kd.R_lower (Kd.R_new' (Kd.R_new' (Kd.R_new' (Kd.R_new' ho0 (Kd.R_lt (kR_ HO470.out))) (Kd.R_lt (kR_ HO476.out))) (Kd.R_lt (kR_ HO481.out))) (Kd.R_lt (kR_ HO487.out))) (below_size (hbA_ HB.out))); have HO495 := Aside0.mk (Kd.S_lower (Kd.S_new' (Kd.S_new' ho1 (Kd.S_lt (kS_ HO473.out))) (Kd.S_lt (kS_ HO484.out))) (below_size (hbA_ HB.out))); replace HO473 := Aside0.mk (Kd.S_elder' (kS_ HO473.out) (Kd.S_base ho1) hb); replace HO484 := Aside0.mk (Kd.S_elder' (kS_ HO484.out) (Kd.S_base ho1) hb); have HO498 := Aside0.mk (Kd.R_lower (Kd.R_new' (Kd.R_new' (Kd.R_new' (Kd.R_new' ho2 (Kd.R_lt (kR_ HO470.out))) (Kd.R_lt (kR_ HO476.out))) (Kd.R_lt (kR_ HO481.out))) (Kd.R_lt (kR_ HO487.out))) (below_size (hbA_ HB.out))); replace HO470 := Aside0.mk (Kd.R_mono (Kd.R_told (Kd.R_told (Kd.R_old (kR_ HO470.out) hb) (Kd.R_base ho0)) (Kd.R_base ho2)) (fun _ h_ => op1_ h_)); replace HO476 := Aside0.mk (Kd.R_mono (Kd.R_told (Kd.R_told (Kd.R_old (kR_ HO476.out) hb) (Kd.R_base ho0)) (Kd.R_base ho2)) (fun _ h_ => op1_ h_)); replace HO481 := Aside0.mk (Kd.R_mono (Kd.R_told (Kd.R_told (Kd.R_old (kR_ HO481.out) hb) (Kd.R_base ho0)) (Kd.R_base ho2)) (fun _ h_ => op1_ h_)); replace HO487 := Aside0.mk (Kd.R_mono (Kd.R_told (Kd.R_told (Kd.R_old (kR_ HO487.out) hb) (Kd.R_base ho0)) (Kd.R_base ho2)) (fun _ h_ => op1_ h_)); replace BK477 := (bbA_ BK477 hb); replace BK488 := (bbA_ BK488 hb); replace HB := (bs_ HB hb); (try clear hb); (try clear hb2); (try clear hk); (try clear hi); (try clear ho0); (try clear ho1); (try clear ho2)
     obtain ⟨Ao73, co73, eo73⟩ := Kd.R_slice HO492.out
     (first | subst eo73 | (injection eo73 with f1_ f2_ f3_; have f4_ := f1_.symm; have f5_ := f3_.symm; clear f1_ f2_ f3_; subst f4_; subst f5_))
     obtain ⟨Ao74, co74, eo74⟩ := Kd.S_slice HO495.out
     (first | subst eo74 | (injection eo74 with f1_ f2_ f3_; have f4_ := f1_.symm; have f5_ := f3_.symm; clear f1_ f2_ f3_; subst f4_; subst f5_))
     obtain ⟨Ao75, co75, eo75⟩ := Kd.R_slice HO498.out
     (first | subst eo75 | (injection eo75 with f1_ f2_ f3_; have f4_ := f1_.symm; have f5_ := f3_.symm; clear f1_ f2_ f3_; subst f4_; subst f5_))
     refine hK.out _ _ ⟨bc_ BK488 0, bc_ BK488 1, bc_ BK488 2, bc_ BK488 3, bc_ BK477 0, bc_ BK477 1, bc_ BK477 2, bc_ BK477 3⟩ (fun hHeld => ?_)
     clear hK K; refine nm_ 15 ?_
     refine one_ (i := 3) (N := some 16) #[true, true, true, true, false] rfl rfl (by kernel_rfl) (by decide) (fun K hK => ?_)
     refine goes_ Try.func18 (by kernel_rfl) rfl #[.agg #[.int .i64 t478, .slice Ao67 t479.length co67, .slice Ao68 t482.length co68, .slice Ao69 t485.length co69], .agg #[.int .i64 t489, .slice Ao73 t490.length co73, .slice Ao74 t493.length co74, .slice Ao75 t496.length co75]] (by rfl) rfl rfl ar_ ?_
     with_reducible refine (laws_sameClient.calls k t478 _ _ t479 _ _ t482 _ _ t485 t489 _ _ t490 _ _ t493 _ _ t496 true _ ?side1 ?side2 ?side3 ?side4 ?side5 ?side6 ?side7 ?side8 ?side9 ?side10 ?side11 ?side12 A6.out).mono ?_
     (case side1 => exact kC_ (Kd.R_reads' HO481.out).2.2)
     (case side2 => exact (Kd.R_reads' HO481.out).2.1)
     (case side3 => exact kC_ (Kd.S_reads' HO484.out).2.2)
     (case side4 => exact (Kd.S_reads' HO484.out).2.1)
     (case side5 => exact kC_ (Kd.R_reads' HO487.out).2.2)
     (case side6 => exact (Kd.R_reads' HO487.out).2.1)
     (case side7 => exact kC_ (Kd.R_reads' HO492.out).2.2)
     (case side8 => exact (Kd.R_reads' HO492.out).2.1)
     (case side9 => exact kC_ (Kd.S_reads' HO495.out).2.2)
     (case side10 => exact (Kd.S_reads' HO495.out).2.1)
     (case side11 => exact kC_ (Kd.R_reads' HO498.out).2.2)
     (case side12 => exact (Kd.R_reads' HO498.out).2.1)
     rintro e w76 ⟨rfl, hb⟩
     refine ⟨_, rfl, ?_⟩
     replace HO470 := Aside0.mk (Kd.R_below (kR_ HO470.out) hb); replace HO473 := Aside0.mk (Kd.S_below (kS_ HO473.out) hb); replace HO476 := Aside0.mk (Kd.R_below (kR_ HO476.out) hb); replace HO481 := Aside0.mk (Kd.R_below (kR_ HO481.out) hb); replace HO484 := Aside0.mk (Kd.S_below (kS_ HO484.out) hb); replace HO487 := Aside0.mk (Kd.R_below (kR_ HO487.out) hb); replace HO492 := Aside0.mk (Kd.R_below (kR_ HO492.out) hb); replace HO495 := Aside0.mk (Kd.S_below (kS_ HO495.out) hb); replace HO498 := Aside0.mk (Kd.R_below (kR_ HO498.out) hb); replace BK477 := (bbA_ BK477 hb); replace BK488 := (bbA_ BK488 hb); replace HB := (bs_ HB hb); (try clear hb); (try clear hb2); (try clear hk); (try clear hi)
     refine hK.out _ _ ⟨bc_ BK488 0, bc_ BK488 1, bc_ BK488 2, bc_ BK488 3, bc_ BK477 0, bc_ BK477 1, bc_ BK477 2, bc_ BK477 3⟩ (fun hHeld => ?_)
     clear hK K; refine nm_ 16 ?_
     refine pure_ (i := 4) (N := some 17) (v := ?_) (a' := ?_) #[true, true, true, true, true] rfl rfl (by kernel_rfl) (fun _ _ _ h => h) (Or.inl ⟨by rfl, ?_⟩) ?_ ?_
     rotate_left
     ·intro w'
      go_simp
      with_reducible rfl
     rotate_left
     ·simp only [Act.put, List.setIfInBounds_toArray, List.set_cons_zero, List.set_cons_succ, i64_w, i32_w]
      rfl
     refine done_ (by kernel_rfl) ?_
     have Z77 := zz4 BK477
     try go_wp2_with (first | ((with_reducible refine gate_callee (f := 14) rfl ?_); refine goesL_ (some 19) rfl rfl Try.func14 (by kernel_rfl) rfl #[.agg #[.int .i64 t467, .slice Ao60 t468.length co60, .slice Ao61 t471.length co61, .slice Ao62 t474.length co62]] rfl ar_ ?_; (with_reducible refine (impl_ClientOk.calls k t467 _ _ t468 _ _ t471 _ _ t474 false _ ?side1 ?side2 ?side3 ?side4 ?side5 ?side6 A8.out).mono ?_); (case side1 => exact kC_ (Kd.R_reads' HO470.out).2.2); (case side2 => exact (Kd.R_reads' HO470.out).2.1); (case side3 => exact kC_ (Kd.S_reads' HO473.out).2.2); (case side4 => exact (Kd.S_reads' HO473.out).2.1); (case side5 => exact kC_ (Kd.R_reads' HO476.out).2.2); (case side6 => exact (Kd.R_reads' HO476.out).2.1); rintro e w78 ⟨rfl, hb⟩; refine ⟨_, rfl, ?_⟩; replace HO470 := Aside0.mk (Kd.R_below (kR_ HO470.out) hb); replace HO473 := Aside0.mk (Kd.S_below (kS_ HO473.out) hb); replace HO476 := Aside0.mk (Kd.R_below (kR_ HO476.out) hb); replace HO481 := Aside0.mk (Kd.R_below (kR_ HO481.out) hb); replace HO484 := Aside0.mk (Kd.S_below (kS_ HO484.out) hb); replace HO487 := Aside0.mk (Kd.R_below (kR_ HO487.out) hb); replace HO492 := Aside0.mk (Kd.R_below (kR_ HO492.out) hb); replace HO495 := Aside0.mk (Kd.S_below (kS_ HO495.out) hb); replace HO498 := Aside0.mk (Kd.R_below (kR_ HO498.out) hb); replace BK477 := (bbA_ BK477 hb); replace BK488 := (bbA_ BK488 hb); replace HB := (bs_ HB hb); (try clear hb); (try clear hb2); (try clear hk); (try clear hi); have Z79 := zz4 BK488) | (go_at_call 20; (with_reducible refine (laws_alive.calls k  t501 _ A56.out).mono ?_); rintro e w80 ⟨rfl, hb⟩; replace HO470 := Aside0.mk (Kd.R_below (kR_ HO470.out) hb); replace HO473 := Aside0.mk (Kd.S_below (kS_ HO473.out) hb); replace HO476 := Aside0.mk (Kd.R_below (kR_ HO476.out) hb); replace HO481 := Aside0.mk (Kd.R_below (kR_ HO481.out) hb); replace HO484 := Aside0.mk (Kd.S_below (kS_ HO484.out) hb); replace HO487 := Aside0.mk (Kd.R_below (kR_ HO487.out) hb); replace HO492 := Aside0.mk (Kd.R_below (kR_ HO492.out) hb); replace HO495 := Aside0.mk (Kd.S_below (kS_ HO495.out) hb); replace HO498 := Aside0.mk (Kd.R_below (kR_ HO498.out) hb); replace BK477 := (bbA_ BK477 hb); replace BK488 := (bbA_ BK488 hb); replace HB := (bs_ HB hb); (try clear hb); (try clear hb2); (try clear hk); (try clear hi)))
     go_ret
     exact ⟨by first | rfl | (simp [errW_none, errW_some] <;> rfl) | (simp [*, errW_none, errW_some] <;> rfl), hbA_ HB.out⟩
    ·rw [if_neg c55] at H
     have c55b0 : (t478 == 0) = false := beq_eq_false_iff_ne.mpr c55
     have c55b1 : (t478 != 0) = true := bne_iff_ne.mpr c55
     exact absurd (Option.some.inj H) (by rw [HLW.out]; exact Bool.false_ne_true)
  ·replace c7 := Bool.eq_false_iff.mpr c7
   subst c7
   rw [if_neg (show ¬ (false = true) by decide)] at H
   exact absurd (Option.some.inj H) (by rw [HLW.out]; exact Bool.false_ne_true)
def laws_FnClientOver.Pure : Prop := ∀ (l0 : List Int), l0.length ≤ maxLen → l0.length * 1 ≤ 140737488351232 → (∀ x ∈ l0, (Lit.int .u8 x).wf = true) → ∃ k, laws_FnClientOver.f k l0 = some true
theorem laws_FnClientOver.walk (P : laws_FnClientOver.Pure) (a0 : Option Addr) (len0 cap0 : Nat) (z0 : List Int) (w : World) (w0 : (a0 = none ∧ len0 = 0 ∧ cap0 = 0 ∧ z0 = []) ∨ ∃ x, a0 = some x ∧ len0 ≤ cap0 ∧ cap0 ≤ maxLen ∧ z0.length = cap0 ∧ (∀ i, i < z0.length → w.cell? (x.add i) = some (.int .u8 (z0.getD i 0))) ∧ ∀ n ∈ z0, (Lit.int .u8 n).wf = true) (y0 : len0 * 1 ≤ 140737488351232) :
  Calls Try.prog 4 #[.slice a0 len0 cap0] w fun e w' => e = .returned (.bool true) ∧ Below w.heap.size w w' := by
 obtain ⟨l0, rfl, hr0, hm0, hw0, hc0⟩ := ReadsInt.ofRowC w0
 obtain ⟨k, h⟩ := P l0 hm0 y0 hw0
 refine (laws_FnClientOver.calls k _ _ l0 true w (Kd.C_of_reads (d := (0 : Int)) (h1 := fun _ => rfl) hr0) hc0 h rfl).mono ?_
 rintro e w' ⟨rfl, hd⟩
 exact ⟨rfl, hd⟩
end Go.Proofs.Ytegchbdjbefdbaa.PFnClientOver
