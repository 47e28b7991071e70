/- Printed by wip/xp/xprint.sh out of the translation, for this claim: what each function answers, as a plain function, and that the machine does just that. No condition. -/
import Derived.Test.YtpbeljcgcdilnaaPFnSegmentFromx0
namespace Go.Proofs.Ytpbeljcgcdilnaa.PFnSegmentFrom
open Go.RowKit Go.Proofs.YtpbeljcgcdilnaaW.PrintWords Go.Proofs.YtpbeljcgcdilnaaW.PrintLast Go.Proofs.YtpbeljcgcdilnaaW.PrintMore
attribute [local go_sem] max2_int min2_int max_two min_two max_three min_three max_four min_four   -- for this text's walks alone
set_option linter.unusedVariables false
set_option linter.unusedSimpArgs false
def impl_in.f (a0 : Int) (a1 : Int) (a2 : Int) : Option (Bool) := if a0 ≥ a1 then (some (decide (a0 ≤ a2))) else (some false)
set_option maxHeartbeats 8000000 in
set_option maxRecDepth 100000 in
theorem impl_in.calls (a0 : Int) (a1 : Int) (a2 : Int) (r : Bool) (w : World) (h : impl_in.f a0 a1 a2 = some r) :
  Calls Try.prog 49 #[.int .i64 a0, .int .i64 a1, .int .i64 a2] w fun e w' => e = .returned (.bool r) ∧ Drawn0 w w' := by
 have H : (if a0 ≥ a1 then (some (decide (a0 ≤ a2))) else (some false)) = some r := h
 clear h
 by_cases c4 : a0 ≥ a1
 ·rw [if_pos c4] at H
  have c4b0 : decide (a1 ≤ a0) = true := decide_eq_true c4
  clear c4
  obtain rfl := Option.some.inj H
  go_enter Try.func49, Try.ntmps49
  go_wp2
  go_ret
  exact ⟨by first | rfl | (simp; done) | (simp [*]; done), by repeat (first | exact Drawn0.refl _ | apply Drawn0.step)⟩
 ·rw [if_neg c4] at H
  have c4b0 : decide (a1 ≤ a0) = false := decide_eq_false c4
  clear c4
  obtain rfl := Option.some.inj H
  go_enter Try.func49, Try.ntmps49
  go_wp2
  go_ret
  exact ⟨by first | rfl | (simp; done) | (simp [*]; done), by repeat (first | exact Drawn0.refl _ | apply Drawn0.step)⟩
def impl_bytesOf.l0 : Nat → Int → List Int → Int → Option (List Int)
 | 0, _, _, _ => none
 | k + 1, x0, x5, x6 => if x6 ≥ 0 then (if 0 ≤ x6 then (if x6 < (x5.length : Int) then (impl_bytesOf.l0 k (x0 / 256) (x5.set (x6 : Int).toNat ((x0) % 256)) (wrap64 (x6 - 1))) else (none)) else (none)) else (some x5)
def impl_bytesOf.f (k : Nat) (a0 : Int) (a1 : Int) : Option (List Int) := if 0 ≤ a1 then (if (a1 : Int).toNat ≤ 281474976710656 then (impl_bytesOf.l0 k a0 (List.replicate (a1 : Int).toNat 0) (wrap64 (a1 - 1))) else (none)) else (none)
theorem impl_bytesOf.mono_l : ∀ k, (∀ y0 y1 y2, LeO (impl_bytesOf.l0 k y0 y1 y2) (impl_bytesOf.l0 (k + 1) y0 y1 y2))
 | 0 => fun _ _ _ r h => by simp [impl_bytesOf.l0] at h
 | k + 1 => by
  have ih0 := impl_bytesOf.mono_l k
  ·intro y0 y1 y2
   unfold impl_bytesOf.l0
   repeat' first | (with_reducible first | apply ih0 | exact LeO.refl _ | exact LeO.none _ | refine LeO.ite ?_ ?_ | refine LeO.bind ?_ fun _ => ?_) | apply ih0 | exact LeO.none _ | refine LeO.ite ?_ ?_ | refine LeO.bind ?_ fun _ => ?_
theorem impl_bytesOf.mono : ∀ a0 a1 k, LeO (impl_bytesOf.f k a0 a1) (impl_bytesOf.f (k + 1) a0 a1) := by
 intro a0 a1 k
 have ih0 := impl_bytesOf.mono_l k
 unfold impl_bytesOf.f
 repeat' first | (with_reducible first | apply ih0 | exact LeO.refl _ | exact LeO.none _ | refine LeO.ite ?_ ?_ | refine LeO.bind ?_ fun _ => ?_) | apply ih0 | exact LeO.none _ | refine LeO.ite ?_ ?_ | refine LeO.bind ?_ fun _ => ?_
set_option maxHeartbeats 8000000 in
set_option maxRecDepth 100000 in
theorem impl_bytesOf.calls (k : Nat) (a0 : Int) (a1 : Int) (r : List Int) (w : World) (h : impl_bytesOf.f k a0 a1 = some r) :
  Calls Try.prog 72 #[.int .i64 a0, .int .i64 a1] w fun e w' => ∃ v0_ : Value, e = .returned (v0_) ∧ Kd.R (Kd.int .u8) 5 w' w.heap.size (fun _ => True) v0_ r ∧ Below w.heap.size w w' := by
 have HB := Aside0.mk (Below.refl w.heap.size w)
 have H : (if 0 ≤ a1 then (if (a1 : Int).toNat ≤ 281474976710656 then (impl_bytesOf.l0 k a0 (List.replicate (a1 : Int).toNat 0) (wrap64 (a1 - 1))) else (none)) else (none)) = some r := h
 clear h
 by_cases c3 : 0 ≤ a1
 ·rw [if_pos c3] at H
  have c3b0 := eq_true c3
  have c3b1 : decide (0 ≤ a1) = true := decide_eq_true c3
  clear c3
  by_cases c4 : (a1 : Int).toNat ≤ 281474976710656
  ·rw [if_pos c4] at H
   have c4b0 := eq_true c4
   have c4b1 : decide ((a1 : Int).toNat ≤ 281474976710656) = true := decide_eq_true c4
   clear c4
   obtain ⟨y101, hy101⟩ : ∃ y_ : List Int, y_ = (List.replicate (a1 : Int).toNat 0) := ⟨_, rfl⟩
   (first | replace H := sb_ hy101 H | rw [← hy101] at H)
   have Ny101 := Aside0.mk hy101; clear hy101
   have H' := Aside0.mk H
   clear H
   go_enter Try.func72, Try.ntmps72
   go_wp2_with (first | ((with_reducible refine gate_dst (N := 8) rfl ?_); refine Kd.R_make (Kd.int .u8) _ 5 rfl (N := 8) rfl 22 _ _ rfl a1 rfl rfl Try.underlying22 (.int .u8 0) 1 info5 rfl (by decide) (by omega) 0 (ok := fun _ => True) (okp := fun _ => True) rfl (fun _ hk => hk) trivial (of_decide_eq_true (by first | (with_reducible assumption) | assumption)) (Nat.le_trans (Nat.mul_le_mul_right _ (of_decide_eq_true (by first | (with_reducible assumption) | assumption) : a1.toNat ≤ 281474976710656)) (by omega)) (Below.refl _ _) (Nat.le_refl _) ?_; intro v102 w5 ho6 hb hg_ hnew_; clear hg_ hnew_; (first | rw [← Ny101.out] at ho6 | (simp only [Int.reduceToNat] at ho6; rw [← Ny101.out] at ho6)); have HO103 := Aside0.mk (Kd.R_lower ho6 (below_size (hbA_ HB.out))); replace HB := (bs_ HB hb); clear hb ho6))
   go_loopg [0, 6] k (fun kq v0 v6 w' => ∃ (x0_1 : Int) (x5_1 : List Int) (x6_1 : Int), v0 = .int .i64 x0_1 ∧ v6 = .int .i64 x6_1 ∧ Aside0 (impl_bytesOf.l0 kq x0_1 x5_1 x6_1 = some r) ∧ Aside0 (kq ≤ k) ∧ Aside0 (Kd.R (Kd.int .u8) 5 w' w.heap.size (fun _ => True) v102 x5_1) ∧ Aside0 (Below w.heap.size w w'))
   case atStart => exact ⟨(a0), (y101), (wrap64 (a1 - 1)), (by first | rfl | (simp; done) | (simp [*]; done)), (by first | rfl | (simp; done) | (simp [*]; done)), H', ⟨Nat.le_refl _⟩, ⟨kR_ HO103.out⟩, ⟨hbA_ HB.out⟩⟩
   case round =>
    clear H'; (try clear p2); (try clear c3); (try clear c3b0); (try clear c3b1); (try clear c4); (try clear c4b0); (try clear c4b1); (try clear p6)
    obtain ⟨x0_1, x5_1, x6_1, rfl, rfl, HA, HK1, HO_5, HB⟩ := hrel
    cases gk with
    | zero => exact absurd HA.out (by simp [impl_bytesOf.l0])
    | succ k1 =>
     have H := HA.out; clear HA
     simp only [impl_bytesOf.l0] at H
     by_cases c7 : x6_1 ≥ 0
     ·rw [if_pos c7] at H
      have c7b0 : decide (0 ≤ x6_1) = true := decide_eq_true c7
      clear c7
      by_cases c8 : 0 ≤ x6_1
      ·rw [if_pos c8] at H
       have c8b0 : decide (0 ≤ x6_1) = true := decide_eq_true c8
       clear c8
       by_cases c9 : x6_1 < (x5_1.length : Int)
       ·rw [if_pos c9] at H
        have c9b0 : decide (x6_1 < (x5_1.length : Int)) = true := decide_eq_true c9
        clear c9
        obtain ⟨y104, hy104⟩ : ∃ y_ : List Int, y_ = (x5_1.set (x6_1 : Int).toNat ((x0_1) % 256)) := ⟨_, rfl⟩
        (first | replace H := sb_ hy104 H | rw [← hy104] at H)
        have Ny104 := Aside0.mk hy104; clear hy104
        have H' := Aside0.mk H
        clear H
        have p10 : 0 ≤ (x6_1 : Int) := of_decide_eq_true (by first | (with_reducible assumption) | assumption)
        have q10 : (x6_1 : Int) < ((x5_1.length : Int) : Int) := of_decide_eq_true (by first | (with_reducible assumption) | assumption)
        obtain ⟨go10, co10, eo10, gb10, gl10, cl10, HG10⟩ := Kd.R_form HO_5.out (by omega)
        (first | cases eo10 | (injection eo10 with ea_ en_ ec_; (first | subst ea_ | (injection ea_ with ea_; subst ea_)); subst ec_; clear en_))
        have GB10 := Aside0.mk gb10; have GG10 := Aside0.mk HG10; clear gb10 gl10 HG10
        obtain ⟨hx10_0, hf10_0⟩ := Kd.R_celln 0 HO_5.out (x6_1 : Int) p10 q10
        replace p10 := eq_true p10
        replace q10 := eq_true q10
        have HP11 := Kd.R_putg HO_5.out (x6_1 : Int) ((x0_1) % 256)
        go_wp2_with (first | ((with_reducible refine gate_store (t := 5) (p := 19) rfl ?_); refine store_event (t := 5) (p := 19) (v := ?vo_w12) (w1 := (wr.setCell ⟨go10, (x6_1 : Int).toNat, none⟩ (.int .u8 ((x0_1) % 256)))) ?hg ?ho ?hn ?hr ?_; (case ho => rfl); (case hg => rfl); (case hn => rfl); (case hr => first | (go_simp; done) | (go_simp; rfl)); intro w12 hw; have hg : wr.grownBy w12 (some go10) := (by rw [hw]; exact HP11.2); have hp_ : Kd.R (Kd.int .u8) 5 w12 w.heap.size (fun _ => True) (.slice (some ⟨go10, 0, none⟩) x5_1.length co10) y104 := (by rw [hw, Ny104.out]; exact HP11.1); clear HP11; replace HO_5 := Aside0.mk (hp_); replace HB := Aside0.mk ((by rw [hw]; exact below_set (HB.out) GB10.out : Below w.heap.size w w12)); clear hg hw hp_))
        go_roundg k1
        case measure => have := HK1.out; omega
        case rel => exact ⟨(x0_1 / 256), (y104), (wrap64 (x6_1 - 1)), (by first | rfl | (simp; done) | (simp [*]; done)), (by first | rfl | (simp; done) | (simp [*]; done)), H', ⟨by have := HK1.out; omega⟩, ⟨kR_ HO_5.out⟩, ⟨hbA_ HB.out⟩⟩
       ·rw [if_neg c9] at H
        exact absurd H (by simp)
      ·rw [if_neg c8] at H
       exact absurd H (by simp)
     ·rw [if_neg c7] at H
      have c7b0 : decide (0 ≤ x6_1) = false := decide_eq_false c7
      clear c7
      obtain rfl := Option.some.inj H
      go_wp2
      go_ret
      exact ⟨_, by first | rfl | (simp [errW_none, errW_some] <;> rfl) | (simp [*, errW_none, errW_some] <;> rfl), kR_ HO_5.out, hbA_ HB.out⟩
  ·rw [if_neg c4] at H
   exact absurd H (by simp)
 ·rw [if_neg c3] at H
  exact absurd H (by simp)
def impl_BytesOf.f (k : Nat) (a0 : Int) (a1 : Int) : Option (List Int) := (impl_in.f a1 1 4).bind fun t105 => (if t105 = true then (if 0 ≤ (wrap64 (8 * a1)) then ((impl_in.f a0 0 (wrap64 ((shl .i64 1 (wrap64 (8 * a1))) - 1))).bind fun t106 => (if t106 = true then ((impl_bytesOf.f k a0 a1).bind fun t107 => (some t107)) else (some ([] : List Int)))) else (none)) else (some ([] : List Int)))
theorem impl_BytesOf.mono : ∀ a0 a1 k, LeO (impl_BytesOf.f k a0 a1) (impl_BytesOf.f (k + 1) a0 a1) := by
 intro a0 a1 k
 unfold impl_BytesOf.f
 repeat' first | (with_reducible first | apply impl_bytesOf.mono | exact LeO.refl _ | exact LeO.none _ | refine LeO.ite ?_ ?_ | refine LeO.bind ?_ fun _ => ?_) | apply impl_bytesOf.mono | exact LeO.none _ | refine LeO.ite ?_ ?_ | refine LeO.bind ?_ fun _ => ?_
set_option maxHeartbeats 8000000 in
set_option maxRecDepth 100000 in
theorem impl_BytesOf.calls (k : Nat) (a0 : Int) (a1 : Int) (r : List Int) (w : World) (h : impl_BytesOf.f k a0 a1 = some r) :
  Calls Try.prog 47 #[.int .i64 a0, .int .i64 a1] w fun e w' => ∃ v0_ : Value, e = .returned (v0_) ∧ Kd.R (Kd.int .u8) 5 w' w.heap.size (fun _ => True) v0_ r ∧ Below w.heap.size w w' := by
 have HB := Aside0.mk (Below.refl w.heap.size w)
 have H : ((impl_in.f a1 1 4).bind fun t105 => (if t105 = true then (if 0 ≤ (wrap64 (8 * a1)) then ((impl_in.f a0 0 (wrap64 ((shl .i64 1 (wrap64 (8 * a1))) - 1))).bind fun t106 => (if t106 = true then ((impl_bytesOf.f k a0 a1).bind fun t107 => (some t107)) else (some ([] : List Int)))) else (none)) else (some ([] : List Int)))) = some r := h
 clear h
 replace H := Option.bind_eq_some_iff.mp H
 obtain ⟨t105, A30, H⟩ := H
 (try dsimp only at H)
 have A3 := Aside0.mk A30; clear A30
 by_cases c4 : t105 = true
 ·subst c4
  rw [if_pos rfl] at H
  obtain ⟨ji5, hji5⟩ : ∃ j_ : Int, (wrap64 (8 * a1)) = j_ := ⟨_, rfl⟩
  (first | rw [hji5] at H | simp only [hji5] at H)
  (try rw [hji5] at A3)
  have hji5w : (IntKind.i64.wrap (8 * a1)) = ji5 := (i64_w _).trans hji5
  by_cases c6 : 0 ≤ (ji5)
  ·rw [if_pos c6] at H
   have c6b0 := eq_true c6
   have c6b1 : decide (0 ≤ (ji5)) = true := decide_eq_true c6
   clear c6
   obtain ⟨ji7, hji7⟩ : ∃ j_ : Int, (shl .i64 1 (ji5)) = j_ := ⟨_, rfl⟩
   (first | rw [hji7] at H | simp only [hji7] at H)
   (try rw [hji7] at A3)
   have hji7_ : (IntKind.i64.wrap (1 * 2 ^ min (ji5).toNat 64)) = ji7 := hji7
   have hji7z : (ji5) ≤ 64 → (IntKind.i64.wrap (1 * 2 ^ (ji5).toNat)) = ji7 := shl_small hji7
   have hji7u : (IntKind.i64.wrap (2 ^ min (ji5).toNat 64)) = ji7 := by have h_ := hji7_; rw [Int.one_mul] at h_; exact h_
   have hji7v : (ji5) ≤ 64 → (IntKind.i64.wrap (2 ^ (ji5).toNat)) = ji7 := fun hle_ => by have h_ := hji7z hle_; rw [Int.one_mul] at h_; exact h_
   have hji7y : (wrap64 (1 * 2 ^ min (ji5).toNat 64)) = ji7 := (i64_w _).symm.trans hji7_
   have hji7x : (ji5) ≤ 64 → (wrap64 (1 * 2 ^ (ji5).toNat)) = ji7 := fun h_ => (i64_w _).symm.trans (hji7z h_)
   replace H := Option.bind_eq_some_iff.mp H
   obtain ⟨t106, A80, H⟩ := H
   (try dsimp only at H)
   have A8 := Aside0.mk A80; clear A80
   by_cases c9 : t106 = true
   ·subst c9
    rw [if_pos rfl] at H
    replace H := Option.bind_eq_some_iff.mp H
    obtain ⟨t107, A100, H⟩ := H
    (try dsimp only at H)
    have A10 := Aside0.mk A100; clear A100
    obtain rfl := Option.some.inj H
    go_enter Try.func47, Try.ntmps47
    go_wp2_with (first | ((with_reducible refine gate_callee (f := 49) rfl ?_); refine goesL_ (some 6) rfl rfl Try.func49 (by kernel_rfl) rfl #[.int .i64 a1, .int .i64 1, .int .i64 4] rfl ar_ ?_; (with_reducible refine (impl_in.calls a1 1 4 true _ A3.out).mono ?_); rintro e w' ⟨rfl, ⟨nd, rfl⟩⟩; refine ⟨_, rfl, ?_⟩) | (go_at_call 49; (with_reducible refine (impl_in.calls a0 0 (wrap64 ((ji7) - 1)) true _ A8.out).mono ?_); rintro e w' ⟨rfl, ⟨nd, rfl⟩⟩) | ((with_reducible refine gate_callee (f := 72) rfl ?_); refine goesL_ (some 19) rfl rfl Try.func72 (by kernel_rfl) rfl #[.int .i64 a0, .int .i64 a1] rfl ar_ ?_; (with_reducible refine (impl_bytesOf.calls k a0 a1 t107 _ A10.out).mono ?_); rintro e w11 ⟨v108, rfl, ho0, hb⟩; refine ⟨_, rfl, ?_⟩; have HO109 := Aside0.mk (Kd.R_lower ho0 (below_size (hbA_ HB.out))); replace HB := (bs_ HB hb); (try clear hb); (try clear hb2); (try clear hk); (try clear hi); (try clear ho0)))
    go_ret
    exact ⟨_, by first | rfl | (simp [errW_none, errW_some] <;> rfl) | (simp only [← hji5, ← hji7]; first | rfl | (simp [errW_none, errW_some] <;> rfl)) | (simp [*, errW_none, errW_some] <;> rfl), kR_ HO109.out, hbA_ HB.out⟩
   ·replace c9 := Bool.eq_false_iff.mpr c9
    subst c9
    rw [if_neg (show ¬ (false = true) by decide)] at H
    obtain rfl := Option.some.inj H
    go_enter Try.func47, Try.ntmps47
    go_wp2_with (first | ((with_reducible refine gate_callee (f := 49) rfl ?_); refine goesL_ (some 6) rfl rfl Try.func49 (by kernel_rfl) rfl #[.int .i64 a1, .int .i64 1, .int .i64 4] rfl ar_ ?_; (with_reducible refine (impl_in.calls a1 1 4 true _ A3.out).mono ?_); rintro e w' ⟨rfl, ⟨nd, rfl⟩⟩; refine ⟨_, rfl, ?_⟩) | (go_at_call 49; (with_reducible refine (impl_in.calls a0 0 (wrap64 ((ji7) - 1)) false _ A8.out).mono ?_); rintro e w' ⟨rfl, ⟨nd, rfl⟩⟩))
    go_ret
    exact ⟨_, by first | rfl | (simp [errW_none, errW_some] <;> rfl) | (simp only [← hji5, ← hji7]; first | rfl | (simp [errW_none, errW_some] <;> rfl)) | (simp [*, errW_none, errW_some] <;> rfl), by first | exact Kd.R_nil _ _ _ _ _ | exact Kd.N_nil _ _ _ _ _ | exact Kd.V_nil _ _ _ _ _ | exact Kd.Q_nil _ _ _ _ _ | exact Kd.S_nil _ _ _ _ _, hbA_ HB.out⟩
  ·rw [if_neg c6] at H
   exact absurd H (by simp)
 ·replace c4 := Bool.eq_false_iff.mpr c4
  subst c4
  rw [if_neg (show ¬ (false = true) by decide)] at H
  obtain rfl := Option.some.inj H
  go_enter Try.func47, Try.ntmps47
  go_wp2_with (first | ((with_reducible refine gate_callee (f := 49) rfl ?_); refine goesL_ (some 6) rfl rfl Try.func49 (by kernel_rfl) rfl #[.int .i64 a1, .int .i64 1, .int .i64 4] rfl ar_ ?_; (with_reducible refine (impl_in.calls a1 1 4 false _ A3.out).mono ?_); rintro e w' ⟨rfl, ⟨nd, rfl⟩⟩; refine ⟨_, rfl, ?_⟩))
  go_ret
  exact ⟨_, by first | rfl | (simp [errW_none, errW_some] <;> rfl) | (simp [*, errW_none, errW_some] <;> rfl), by first | exact Kd.R_nil _ _ _ _ _ | exact Kd.N_nil _ _ _ _ _ | exact Kd.V_nil _ _ _ _ _ | exact Kd.Q_nil _ _ _ _ _ | exact Kd.S_nil _ _ _ _ _, hbA_ HB.out⟩
def laws_alive.f (k : Nat)  : Option (Bool) := (impl_BytesOf.f k 5 1).bind fun t110 => (if (t110.length : Int) = 1 then ((impl_BytesOf.f k 256 1).bind fun t113 => (some ((t113.length : Int) == 0))) else (some false))
theorem laws_alive.mono : ∀ k, LeO (laws_alive.f k ) (laws_alive.f (k + 1) ) := by
 intro  k
 unfold laws_alive.f
 repeat' first | (with_reducible first | apply impl_BytesOf.mono | exact LeO.refl _ | exact LeO.none _ | refine LeO.ite ?_ ?_ | refine LeO.bind ?_ fun _ => ?_) | apply impl_BytesOf.mono | exact LeO.none _ | refine LeO.ite ?_ ?_ | refine LeO.bind ?_ fun _ => ?_
set_option maxHeartbeats 8000000 in
set_option maxRecDepth 100000 in
theorem laws_alive.calls (k : Nat)  (r : Bool) (w : World) (h : laws_alive.f k  = some r) :
  Calls Try.prog 13 #[] w fun e w' => e = .returned (.bool r) ∧ Below w.heap.size w w' := by
 have HB := Aside0.mk (Below.refl w.heap.size w)
 have H : ((impl_BytesOf.f k 5 1).bind fun t110 => (if (t110.length : Int) = 1 then ((impl_BytesOf.f k 256 1).bind fun t113 => (some ((t113.length : Int) == 0))) else (some false))) = some r := h
 clear h
 replace H := Option.bind_eq_some_iff.mp H
 obtain ⟨t110, A10, H⟩ := H
 (try dsimp only at H)
 have A1 := Aside0.mk A10; clear A10
 by_cases c2 : (t110.length : Int) = 1
 ·rw [if_pos c2] at H
  have c2b0 : ((t110.length : Int) == 1) = true := beq_iff_eq.mpr c2
  have c2b1 : ((t110.length : Int) != 1) = false := bne_eq_false_iff_eq.mpr c2
  clear c2
  replace H := Option.bind_eq_some_iff.mp H
  obtain ⟨t113, A30, H⟩ := H
  (try dsimp only at H)
  have A3 := Aside0.mk A30; clear A30
  obtain rfl := Option.some.inj H
  go_enter Try.func13, Try.ntmps13
  go_wp2_with (first | ((with_reducible refine gate_callee (f := 47) rfl ?_); refine goesL_ (some 1) rfl rfl Try.func47 (by kernel_rfl) rfl #[.int .i64 5, .int .i64 1] rfl ar_ ?_; (with_reducible refine (impl_BytesOf.calls k 5 1 t110 _ A1.out).mono ?_); rintro e w4 ⟨v111, rfl, ho0, hb⟩; refine ⟨_, rfl, ?_⟩; have HO112 := Aside0.mk (Kd.R_lower ho0 (below_size (hbA_ HB.out))); replace HB := (bs_ HB hb); (try clear hb); (try clear hb2); (try clear hk); (try clear hi); (try clear ho0); obtain ⟨Ao5, co5, eo5⟩ := Kd.R_slice HO112.out; subst eo5) | (go_at_call 47; (with_reducible refine (impl_BytesOf.calls k 256 1 t113 _ A3.out).mono ?_); rintro e w6 ⟨v114, rfl, ho0, hb⟩; have HO115 := Aside0.mk (Kd.R_lower (Kd.R_new' ho0 (Kd.R_lt (kR_ HO112.out))) (below_size (hbA_ HB.out))); replace HO112 := Aside0.mk (Kd.R_elder' (kR_ HO112.out) (Kd.R_base ho0) hb); replace HB := (bs_ HB hb); (try clear hb); (try clear hb2); (try clear hk); (try clear hi); (try clear ho0); obtain ⟨Ao7, co7, eo7⟩ := Kd.R_slice HO115.out; subst eo7))
  go_ret
  exact ⟨by first | rfl | (simp [errW_none, errW_some] <;> rfl) | (simp [*, errW_none, errW_some] <;> rfl), hbA_ HB.out⟩
 ·rw [if_neg c2] at H
  have c2b0 : ((t110.length : Int) == 1) = false := beq_eq_false_iff_ne.mpr c2
  have c2b1 : ((t110.length : Int) != 1) = true := bne_iff_ne.mpr c2
  obtain rfl := Option.some.inj H
  go_enter Try.func13, Try.ntmps13
  go_wp2_with (first | ((with_reducible refine gate_callee (f := 47) rfl ?_); refine goesL_ (some 1) rfl rfl Try.func47 (by kernel_rfl) rfl #[.int .i64 5, .int .i64 1] rfl ar_ ?_; (with_reducible refine (impl_BytesOf.calls k 5 1 t110 _ A1.out).mono ?_); rintro e w8 ⟨v111, rfl, ho0, hb⟩; refine ⟨_, rfl, ?_⟩; have HO112 := Aside0.mk (Kd.R_lower ho0 (below_size (hbA_ HB.out))); replace HB := (bs_ HB hb); (try clear hb); (try clear hb2); (try clear hk); (try clear hi); (try clear ho0); obtain ⟨Ao9, co9, eo9⟩ := Kd.R_slice HO112.out; subst eo9))
  go_ret
  exact ⟨by first | rfl | (simp [errW_none, errW_some] <;> rfl) | (simp [*, errW_none, errW_some] <;> rfl), hbA_ HB.out⟩
def spec_l1In.f (a0 : Int) (a1 : Int) (a2 : Int) : Option (Bool) := if a0 ≥ a1 then (some (decide (a0 ≤ a2))) else (some false)
set_option maxHeartbeats 8000000 in
set_option maxRecDepth 100000 in
theorem spec_l1In.calls (a0 : Int) (a1 : Int) (a2 : Int) (r : Bool) (w : World) (h : spec_l1In.f a0 a1 a2 = some r) :
  Calls Try.prog 52 #[.int .i64 a0, .int .i64 a1, .int .i64 a2] w fun e w' => e = .returned (.bool r) ∧ Drawn0 w w' := by
 have H : (if a0 ≥ a1 then (some (decide (a0 ≤ a2))) else (some false)) = some r := h
 clear h
 by_cases c4 : a0 ≥ a1
 ·rw [if_pos c4] at H
  have c4b0 : decide (a1 ≤ a0) = true := decide_eq_true c4
  clear c4
  obtain rfl := Option.some.inj H
  go_enter Try.func52, Try.ntmps52
  go_wp2
  go_ret
  exact ⟨by first | rfl | (simp; done) | (simp [*]; done), by repeat (first | exact Drawn0.refl _ | apply Drawn0.step)⟩
 ·rw [if_neg c4] at H
  have c4b0 : decide (a1 ≤ a0) = false := decide_eq_false c4
  clear c4
  obtain rfl := Option.some.inj H
  go_enter Try.func52, Try.ntmps52
  go_wp2
  go_ret
  exact ⟨by first | rfl | (simp; done) | (simp [*]; done), by repeat (first | exact Drawn0.refl _ | apply Drawn0.step)⟩
mutual
def spec_NumberAt.j0 : Nat → List Int → Int → Int → Bool → Option (Int)
 | 0, _, _, _, _ => none
 | k + 1, x0, x1, x2, x20 => if x20 = true then (some (-1)) else (spec_NumberAt.l0 k x0 x1 x2 0 0)
def spec_NumberAt.l0 : Nat → List Int → Int → Int → Int → Int → Option (Int)
 | 0, _, _, _, _, _ => none
 | k + 1, x0, x1, x2, x7, x8 => if x8 < x2 then (if 0 ≤ (wrap64 (x1 + x8)) then (if (wrap64 (x1 + x8)) < (x0.length : Int) then (spec_NumberAt.l0 k x0 x1 x2 (wrap64 ((wrap64 (x7 * 256)) + (wrap64 (rd x0 (wrap64 (x1 + x8)))))) (wrap64 (x8 + 1))) else (none)) else (none)) else (some x7)
end
def spec_NumberAt.f (k : Nat) (l0 : List Int) (a1 : Int) (a2 : Int) : Option (Int) := (spec_l1In.f a2 1 4).bind fun t116 => (if t116 = true then ((spec_l1In.f a1 0 (wrap64 ((l0.length : Int) - a2))).bind fun t117 => (spec_NumberAt.j0 k l0 a1 a2 (!t117))) else (spec_NumberAt.j0 k l0 a1 a2 true))
theorem spec_NumberAt.mono_l : ∀ k, (∀ y0 y1 y2 y3, LeO (spec_NumberAt.j0 k y0 y1 y2 y3) (spec_NumberAt.j0 (k + 1) y0 y1 y2 y3)) ∧ (∀ y0 y1 y2 y3 y4, LeO (spec_NumberAt.l0 k y0 y1 y2 y3 y4) (spec_NumberAt.l0 (k + 1) y0 y1 y2 y3 y4))
 | 0 => ⟨fun _ _ _ _ r h => by simp [spec_NumberAt.j0] at h, fun _ _ _ _ _ r h => by simp [spec_NumberAt.l0] at h⟩
 | k + 1 => by
  obtain ⟨ih0, ih1⟩ := spec_NumberAt.mono_l k
  refine ⟨?_, ?_⟩
  ·intro y0 y1 y2 y3
   unfold spec_NumberAt.j0
   repeat' first | (with_reducible first | apply ih0 | apply ih1 | exact LeO.refl _ | exact LeO.none _ | refine LeO.ite ?_ ?_ | refine LeO.bind ?_ fun _ => ?_) | apply ih0 | apply ih1 | exact LeO.none _ | refine LeO.ite ?_ ?_ | refine LeO.bind ?_ fun _ => ?_
  ·intro y0 y1 y2 y3 y4
   unfold spec_NumberAt.l0
   repeat' first | (with_reducible first | apply ih0 | apply ih1 | exact LeO.refl _ | exact LeO.none _ | refine LeO.ite ?_ ?_ | refine LeO.bind ?_ fun _ => ?_) | apply ih0 | apply ih1 | exact LeO.none _ | refine LeO.ite ?_ ?_ | refine LeO.bind ?_ fun _ => ?_
theorem spec_NumberAt.mono : ∀ a0 a1 a2 k, LeO (spec_NumberAt.f k a0 a1 a2) (spec_NumberAt.f (k + 1) a0 a1 a2) := by
 intro a0 a1 a2 k
 obtain ⟨ih0, ih1⟩ := spec_NumberAt.mono_l k
 unfold spec_NumberAt.f
 repeat' first | (with_reducible first | apply ih0 | apply ih1 | exact LeO.refl _ | exact LeO.none _ | refine LeO.ite ?_ ?_ | refine LeO.bind ?_ fun _ => ?_) | apply ih0 | apply ih1 | exact LeO.none _ | refine LeO.ite ?_ ?_ | refine LeO.bind ?_ fun _ => ?_
set_option maxHeartbeats 8000000 in
set_option maxRecDepth 100000 in
theorem spec_NumberAt.calls (k : Nat) (A0 : Option Addr) (c0 : Nat) (l0 : List Int) (a1 : Int) (a2 : Int) (r : Int) (w : World) (hr0 : Kd.C (Kd.int .u8) w A0 l0.length l0) (hc0 : l0.length ≤ c0) (h : spec_NumberAt.f k l0 a1 a2 = some r) :
  Calls Try.prog 58 #[.slice A0 l0.length c0, .int .i64 a1, .int .i64 a2] w fun e w' => e = .returned (.int .i64 r) ∧ Drawn0 w w' := by
 have HR0 := Aside0.mk hr0; have HC0 := Aside0.mk hc0; clear hr0 hc0
 have H : ((spec_l1In.f a2 1 4).bind fun t116 => (if t116 = true then ((spec_l1In.f a1 0 (wrap64 ((l0.length : Int) - a2))).bind fun t117 => (spec_NumberAt.j0 k l0 a1 a2 (!t117))) else (spec_NumberAt.j0 k l0 a1 a2 true))) = some r := h
 clear h; have HC4 := Aside0.mk H; clear H
 go_enter Try.func58, Try.ntmps58
 go_upto_region 1 with (fail)
 go_cut [20] (fun v20 wc => ∃ (kq : Nat) (x20_3 : Bool), v20 = .bool x20_3 ∧ Aside0 (spec_NumberAt.j0 kq l0 a1 a2 x20_3 = some r) ∧ Aside0 (kq ≤ k) ∧ Drawn0 w wc)
 case first =>
  have H := HC4.out; clear HC4
  replace H := Option.bind_eq_some_iff.mp H
  obtain ⟨t116, A50, H⟩ := H
  (try dsimp only at H)
  have A5 := Aside0.mk A50; clear A50
  by_cases c6 : t116 = true
  ·subst c6
   rw [if_pos rfl] at H
   replace H := Option.bind_eq_some_iff.mp H
   obtain ⟨t117, A70, H⟩ := H
   (try dsimp only at H)
   have A7 := Aside0.mk A70; clear A70
   have H' := Aside0.mk H
   clear H
   go_wp2_with (first | ((with_reducible refine gate_callee (f := 52) rfl ?_); refine goesL_ (some 10) rfl rfl Try.func52 (by kernel_rfl) rfl #[.int .i64 a2, .int .i64 1, .int .i64 4] rfl ar_ ?_; (with_reducible refine (spec_l1In.calls a2 1 4 true _ A5.out).mono ?_); rintro e w' ⟨rfl, ⟨nd, rfl⟩⟩; refine ⟨_, rfl, ?_⟩) | (go_at_call 52; (with_reducible refine (spec_l1In.calls a1 0 (wrap64 ((l0.length : Int) - a2)) t117 _ A7.out).mono ?_); rintro e w' ⟨rfl, ⟨nd, rfl⟩⟩))
   go_meet
   case rel => exact ⟨_, (!t117), (by first | rfl | (simp; done) | (simp [*]; done)), H', ⟨by first | omega | exact Nat.le_refl _⟩, by repeat (first | exact Drawn0.refl _ | apply Drawn0.step)⟩
  ·replace c6 := Bool.eq_false_iff.mpr c6
   subst c6
   rw [if_neg (show ¬ (false = true) by decide)] at H
   have H' := Aside0.mk H
   clear H
   go_wp2_with (first | ((with_reducible refine gate_callee (f := 52) rfl ?_); refine goesL_ (some 10) rfl rfl Try.func52 (by kernel_rfl) rfl #[.int .i64 a2, .int .i64 1, .int .i64 4] rfl ar_ ?_; (with_reducible refine (spec_l1In.calls a2 1 4 false _ A5.out).mono ?_); rintro e w' ⟨rfl, ⟨nd, rfl⟩⟩; refine ⟨_, rfl, ?_⟩))
   go_meet
   case rel => exact ⟨_, (true), (by first | rfl | (simp; done) | (simp [*]; done)), H', ⟨by first | omega | exact Nat.le_refl _⟩, by repeat (first | exact Drawn0.refl _ | apply Drawn0.step)⟩
 case rest =>
  clear HC4; (try clear p2); (try clear c5); (try clear c6); (try clear p6)
  obtain ⟨kq, x20_3, rfl, HA, HJ3, ⟨mc3, rfl⟩⟩ := hcut
  cases kq with
  | zero => exact absurd HA.out (by simp [spec_NumberAt.j0])
  | succ kj3 =>
   have H := HA.out; clear HA
   simp only [spec_NumberAt.j0] at H
   by_cases c8 : x20_3 = true
   ·subst c8
    rw [if_pos rfl] at H
    obtain rfl := Option.some.inj H
    go_wp2
    go_ret
    exact ⟨by first | rfl | (simp; done) | (simp [*]; done), by repeat (first | exact Drawn0.refl _ | apply Drawn0.step)⟩
   ·replace c8 := Bool.eq_false_iff.mpr c8
    subst c8
    rw [if_neg (show ¬ (false = true) by decide)] at H
    have H' := Aside0.mk H
    clear H
    go_wp2
    go_loopg [7, 8] kj3 (fun kq v7 v8 w' => ∃ (x7_2 : Int) (x8_2 : Int), v7 = .int .i64 x7_2 ∧ v8 = .int .i64 x8_2 ∧ Aside0 (spec_NumberAt.l0 kq l0 a1 a2 x7_2 x8_2 = some r) ∧ Aside0 (kq ≤ kj3) ∧ Drawn0 w w')
    case atStart => exact ⟨(0), (0), (by first | rfl | (simp; done) | (simp [*]; done)), (by first | rfl | (simp; done) | (simp [*]; done)), H', ⟨Nat.le_refl _⟩, by repeat (first | exact Drawn0.refl _ | apply Drawn0.step)⟩
    case round =>
     clear H'; (try clear p2); (try clear c3); (try clear c5); (try clear c6); (try clear p6); (try clear c8); (try clear p2); (try clear p6)
     obtain ⟨x7_2, x8_2, rfl, rfl, HA, HK2, ⟨m2, rfl⟩⟩ := hrel
     cases gk with
     | zero => exact absurd HA.out (by simp [spec_NumberAt.l0])
     | succ k2 =>
      have H := HA.out; clear HA
      simp only [spec_NumberAt.l0] at H
      by_cases c9 : x8_2 < a2
      ·rw [if_pos c9] at H
       have c9b0 : decide (x8_2 < a2) = true := decide_eq_true c9
       clear c9
       obtain ⟨ji10, hji10⟩ : ∃ j_ : Int, (wrap64 (a1 + x8_2)) = j_ := ⟨_, rfl⟩
       (first | rw [hji10] at H | simp only [hji10] at H)
       have hji10w : (IntKind.i64.wrap (a1 + x8_2)) = ji10 := (i64_w _).trans hji10
       by_cases c11 : 0 ≤ (ji10)
       ·rw [if_pos c11] at H
        have c11b0 : decide (0 ≤ (ji10)) = true := decide_eq_true c11
        clear c11
        by_cases c12 : (ji10) < (l0.length : Int)
        ·rw [if_pos c12] at H
         have c12b0 : decide ((ji10) < (l0.length : Int)) = true := decide_eq_true c12
         clear c12
         have H' := Aside0.mk H
         clear H
         have p118 : 0 ≤ ((ji10) : Int) := of_decide_eq_true (by first | (with_reducible assumption) | assumption)
         have q118 : (ji10) < (l0.length : Int) := of_decide_eq_true (by first | (with_reducible assumption) | assumption)
         obtain ⟨ad118, e118, hx118_0⟩ := Kd.at_int HR0.out (ji10) p118 q118
         cases e118
         replace p118 := eq_true p118
         replace q118 := eq_true q118
         go_wp2
         go_roundg k2
         case measure => have := HJ3.out; have := HK2.out; omega
         case rel => exact ⟨(wrap64 ((wrap64 (x7_2 * 256)) + (wrap64 (rd l0 (ji10))))), (wrap64 (x8_2 + 1)), (by first | rfl | (simp; done) | (simp only [← hji10] <;> (first | rfl | simp)) | (simp [*]; done)), (by first | rfl | (simp; done) | (simp [*]; done)), H', ⟨by have := HJ3.out; have := HK2.out; omega⟩, by repeat (first | exact Drawn0.refl _ | apply Drawn0.step)⟩
        ·rw [if_neg c12] at H
         exact absurd H (by simp)
       ·rw [if_neg c11] at H
        exact absurd H (by simp)
      ·rw [if_neg c9] at H
       have c9b0 : decide (x8_2 < a2) = false := decide_eq_false c9
       clear c9
       obtain rfl := Option.some.inj H
       go_wp2
       go_ret
       exact ⟨by first | rfl | (simp; done) | (simp [*]; done), by repeat (first | exact Drawn0.refl _ | apply Drawn0.step)⟩
mutual
def spec_SegmentOk.j0 : Nat → Bool → Int → Int → Int → Int → Int → Bool → Bool → Bool → Bool → List (S90) → List Int → Option (Bool)
 | 0, _, _, _, _, _, _, _, _, _, _, _, _ => none
 | k + 1, x43, x120000, x120001, x120002, x120003, x120004, x120005, x120006, x120007, x120008, x120009, x120010 => if x43 = true then (some false) else (spec_SegmentOk.l0 k 0 x120000 x120001 x120002 x120003 x120004 x120005 x120006 x120007 x120008 x120009 x120010)
def spec_SegmentOk.l0 : Nat → Int → Int → Int → Int → Int → Int → Bool → Bool → Bool → Bool → List (S90) → List Int → Option (Bool)
 | 0, _, _, _, _, _, _, _, _, _, _, _, _ => none
 | k + 1, x3, x120000, x120001, x120002, x120003, x120004, x120005, x120006, x120007, x120008, x120009, x120010 => if x3 < (x120009.length : Int) then (if 0 ≤ x3 then ((spec_l1In.f ((rd_T90 x120009 x3).f0) 0 65535).bind fun t126 => (if t126 = true then ((spec_l1In.f ((rd_T90 x120009 x3).f1) 0 65535).bind fun t128 => (if t128 = true then (spec_SegmentOk.l0 k (wrap64 (x3 + 1)) x120000 x120001 x120002 x120003 x120004 x120005 x120006 x120007 x120008 x120009 x120010) else (some false))) else (some false))) else (none)) else (if x120006 = true then (spec_SegmentOk.j2 k false x120000 x120001 x120002 x120003 x120004 x120005 x120006 x120007 x120008 x120009 x120010) else (if x120003 = 0 then (if x120004 = 0 then (spec_SegmentOk.j2 k (decide ((x120009.length : Int) > 0)) x120000 x120001 x120002 x120003 x120004 x120005 x120006 x120007 x120008 x120009 x120010) else (spec_SegmentOk.j2 k true x120000 x120001 x120002 x120003 x120004 x120005 x120006 x120007 x120008 x120009 x120010)) else (spec_SegmentOk.j2 k true x120000 x120001 x120002 x120003 x120004 x120005 x120006 x120007 x120008 x120009 x120010)))
def spec_SegmentOk.j2 : Nat → Bool → Int → Int → Int → Int → Int → Bool → Bool → Bool → Bool → List (S90) → List Int → Option (Bool)
 | 0, _, _, _, _, _, _, _, _, _, _, _, _ => none
 | k + 1, x87, x120000, x120001, x120002, x120003, x120004, x120005, x120006, x120007, x120008, x120009, x120010 => if x87 = true then (some false) else (if x120008 = true then (if x120005 = true then (some false) else (if x120007 = true then (some false) else (some ((x120010.length : Int) == 0)))) else (some true))
end
def spec_SegmentOk.f (k : Nat) (a0_0 : Int) (a0_1 : Int) (a0_2 : Int) (a0_3 : Int) (a0_4 : Int) (a0_5 : Bool) (a0_6 : Bool) (a0_7 : Bool) (a0_8 : Bool) (l0_9 : List (S90)) (l0_10 : List Int) : Option (Bool) := (spec_l1In.f a0_0 1 255).bind fun t120 => (if t120 = true then ((spec_l1In.f a0_1 1 255).bind fun t121 => (if t121 = true then ((spec_l1In.f a0_2 0 65535).bind fun t122 => (if t122 = true then ((spec_l1In.f a0_3 0 65535).bind fun t123 => (if t123 = true then ((spec_l1In.f a0_4 0 255).bind fun t124 => (if t124 = true then (if (l0_9.length : Int) > 2 then (spec_SegmentOk.j0 k true a0_0 a0_1 a0_2 a0_3 a0_4 a0_5 a0_6 a0_7 a0_8 l0_9 l0_10) else (spec_SegmentOk.j0 k (decide ((l0_10.length : Int) > 12)) a0_0 a0_1 a0_2 a0_3 a0_4 a0_5 a0_6 a0_7 a0_8 l0_9 l0_10)) else (spec_SegmentOk.j0 k true a0_0 a0_1 a0_2 a0_3 a0_4 a0_5 a0_6 a0_7 a0_8 l0_9 l0_10))) else (spec_SegmentOk.j0 k true a0_0 a0_1 a0_2 a0_3 a0_4 a0_5 a0_6 a0_7 a0_8 l0_9 l0_10))) else (spec_SegmentOk.j0 k true a0_0 a0_1 a0_2 a0_3 a0_4 a0_5 a0_6 a0_7 a0_8 l0_9 l0_10))) else (spec_SegmentOk.j0 k true a0_0 a0_1 a0_2 a0_3 a0_4 a0_5 a0_6 a0_7 a0_8 l0_9 l0_10))) else (spec_SegmentOk.j0 k true a0_0 a0_1 a0_2 a0_3 a0_4 a0_5 a0_6 a0_7 a0_8 l0_9 l0_10))
theorem spec_SegmentOk.mono_l : ∀ k, (∀ y0 y1 y2 y3 y4 y5 y6 y7 y8 y9 y10 y11, LeO (spec_SegmentOk.j0 k y0 y1 y2 y3 y4 y5 y6 y7 y8 y9 y10 y11) (spec_SegmentOk.j0 (k + 1) y0 y1 y2 y3 y4 y5 y6 y7 y8 y9 y10 y11)) ∧ (∀ y0 y1 y2 y3 y4 y5 y6 y7 y8 y9 y10 y11, LeO (spec_SegmentOk.l0 k y0 y1 y2 y3 y4 y5 y6 y7 y8 y9 y10 y11) (spec_SegmentOk.l0 (k + 1) y0 y1 y2 y3 y4 y5 y6 y7 y8 y9 y10 y11)) ∧ (∀ y0 y1 y2 y3 y4 y5 y6 y7 y8 y9 y10 y11, LeO (spec_SegmentOk.j2 k y0 y1 y2 y3 y4 y5 y6 y7 y8 y9 y10 y11) (spec_SegmentOk.j2 (k + 1) y0 y1 y2 y3 y4 y5 y6 y7 y8 y9 y10 y11))
 | 0 => ⟨fun _ _ _ _ _ _ _ _ _ _ _ _ r h => by simp [spec_SegmentOk.j0] at h, fun _ _ _ _ _ _ _ _ _ _ _ _ r h => by simp [spec_SegmentOk.l0] at h, fun _ _ _ _ _ _ _ _ _ _ _ _ r h => by simp [spec_SegmentOk.j2] at h⟩
 | k + 1 => by
  obtain ⟨ih0, ih1, ih2⟩ := spec_SegmentOk.mono_l k
  refine ⟨?_, ?_, ?_⟩
  ·intro y0 y1 y2 y3 y4 y5 y6 y7 y8 y9 y10 y11
   unfold spec_SegmentOk.j0
   repeat' first | (with_reducible first | apply ih0 | apply ih1 | apply ih2 | exact LeO.refl _ | exact LeO.none _ | refine LeO.ite ?_ ?_ | refine LeO.bind ?_ fun _ => ?_) | apply ih0 | apply ih1 | apply ih2 | exact LeO.none _ | refine LeO.ite ?_ ?_ | refine LeO.bind ?_ fun _ => ?_
  ·intro y0 y1 y2 y3 y4 y5 y6 y7 y8 y9 y10 y11
   unfold spec_SegmentOk.l0
   repeat' first | (with_reducible first | apply ih0 | apply ih1 | apply ih2 | exact LeO.refl _ | exact LeO.none _ | refine LeO.ite ?_ ?_ | refine LeO.bind ?_ fun _ => ?_) | apply ih0 | apply ih1 | apply ih2 | exact LeO.none _ | refine LeO.ite ?_ ?_ | refine LeO.bind ?_ fun _ => ?_
  ·intro y0 y1 y2 y3 y4 y5 y6 y7 y8 y9 y10 y11
   unfold spec_SegmentOk.j2
   repeat' first | (with_reducible first | apply ih0 | apply ih1 | apply ih2 | exact LeO.refl _ | exact LeO.none _ | refine LeO.ite ?_ ?_ | refine LeO.bind ?_ fun _ => ?_) | apply ih0 | apply ih1 | apply ih2 | exact LeO.none _ | refine LeO.ite ?_ ?_ | refine LeO.bind ?_ fun _ => ?_
theorem spec_SegmentOk.mono : ∀ a0 a1 a2 a3 a4 a5 a6 a7 a8 a9 a10 k, LeO (spec_SegmentOk.f k a0 a1 a2 a3 a4 a5 a6 a7 a8 a9 a10) (spec_SegmentOk.f (k + 1) a0 a1 a2 a3 a4 a5 a6 a7 a8 a9 a10) := by
 intro a0 a1 a2 a3 a4 a5 a6 a7 a8 a9 a10 k
 obtain ⟨ih0, ih1, ih2⟩ := spec_SegmentOk.mono_l k
 unfold spec_SegmentOk.f
 repeat' first | (with_reducible first | apply ih0 | apply ih1 | apply ih2 | exact LeO.refl _ | exact LeO.none _ | refine LeO.ite ?_ ?_ | refine LeO.bind ?_ fun _ => ?_) | apply ih0 | apply ih1 | apply ih2 | exact LeO.none _ | refine LeO.ite ?_ ?_ | refine LeO.bind ?_ fun _ => ?_
set_option maxHeartbeats 8000000 in
set_option maxRecDepth 100000 in
theorem spec_SegmentOk.calls (k : Nat) (a0_0 : Int) (a0_1 : Int) (a0_2 : Int) (a0_3 : Int) (a0_4 : Int) (a0_5 : Bool) (a0_6 : Bool) (a0_7 : Bool) (a0_8 : Bool) (A0_9 : Option Addr) (c0_9 : Nat) (l0_9 : List (S90)) (A0_10 : Option Addr) (c0_10 : Nat) (l0_10 : List Int) (r : Bool) (w : World) (hr0_9 : Kd.C k90 w A0_9 l0_9.length l0_9) (hc0_9 : l0_9.length ≤ c0_9) (hr0_10 : Kd.C (Kd.int .u8) w A0_10 l0_10.length l0_10) (hc0_10 : l0_10.length ≤ c0_10) (h : spec_SegmentOk.f k a0_0 a0_1 a0_2 a0_3 a0_4 a0_5 a0_6 a0_7 a0_8 l0_9 l0_10 = some r) :
  Calls Try.prog 59 #[.agg #[.int .i64 a0_0, .int .i64 a0_1, .int .i64 a0_2, .int .i64 a0_3, .int .i64 a0_4, .bool a0_5, .bool a0_6, .bool a0_7, .bool a0_8, .slice A0_9 l0_9.length c0_9, .slice A0_10 l0_10.length c0_10]] w fun e w' => e = .returned (.bool r) ∧ Below w.heap.size w w' := by
 have hu52 := Try.underlying52; have HR0_9 := Aside0.mk hr0_9; have HC0_9 := Aside0.mk hc0_9; clear hr0_9 hc0_9; have HR0_10 := Aside0.mk hr0_10; have HC0_10 := Aside0.mk hc0_10; clear hr0_10 hc0_10
 have HB := Aside0.mk (Below.refl w.heap.size w)
 have H : ((spec_l1In.f a0_0 1 255).bind fun t120 => (if t120 = true then ((spec_l1In.f a0_1 1 255).bind fun t121 => (if t121 = true then ((spec_l1In.f a0_2 0 65535).bind fun t122 => (if t122 = true then ((spec_l1In.f a0_3 0 65535).bind fun t123 => (if t123 = true then ((spec_l1In.f a0_4 0 255).bind fun t124 => (if t124 = true then (if (l0_9.length : Int) > 2 then (spec_SegmentOk.j0 k true a0_0 a0_1 a0_2 a0_3 a0_4 a0_5 a0_6 a0_7 a0_8 l0_9 l0_10) else (spec_SegmentOk.j0 k (decide ((l0_10.length : Int) > 12)) a0_0 a0_1 a0_2 a0_3 a0_4 a0_5 a0_6 a0_7 a0_8 l0_9 l0_10)) else (spec_SegmentOk.j0 k true a0_0 a0_1 a0_2 a0_3 a0_4 a0_5 a0_6 a0_7 a0_8 l0_9 l0_10))) else (spec_SegmentOk.j0 k true a0_0 a0_1 a0_2 a0_3 a0_4 a0_5 a0_6 a0_7 a0_8 l0_9 l0_10))) else (spec_SegmentOk.j0 k true a0_0 a0_1 a0_2 a0_3 a0_4 a0_5 a0_6 a0_7 a0_8 l0_9 l0_10))) else (spec_SegmentOk.j0 k true a0_0 a0_1 a0_2 a0_3 a0_4 a0_5 a0_6 a0_7 a0_8 l0_9 l0_10))) else (spec_SegmentOk.j0 k true a0_0 a0_1 a0_2 a0_3 a0_4 a0_5 a0_6 a0_7 a0_8 l0_9 l0_10))) = some r := h
 clear h; have HC2 := Aside0.mk H; clear H
 go_enter Try.func59, Try.ntmps59
 go_upto_region 1 with (first | ((with_reducible refine gate_dst (N := 1) rfl ?_); (try (refine gate_guard (by rfl) ?_; dsimp only)); refine box_ (N := 1) (cs := #[.int .i64 a0_0, .int .i64 a0_1, .int .i64 a0_2, .int .i64 a0_3, .int .i64 a0_4, .bool a0_5, .bool a0_6, .bool a0_7, .bool a0_8, .slice A0_9 l0_9.length c0_9, .slice A0_10 l0_10.length c0_10]) (t := 52) (fun gb119 hg w3 hbox hb => ?_); have BK119 := Aside0.mk (hbox); have GW119 := ge_ hg HB; have GE119 := ge_ hg HB; replace HB := (bs_ HB hb); clear hb hbox hg))
 (try simp only [Act.put, List.setIfInBounds_toArray, List.set_cons_zero, List.set_cons_succ])
 go_cut [43] (fun v43 wc => ∃ (kq : Nat) (x43_1 : Bool), v43 = .bool x43_1 ∧ Aside0 (spec_SegmentOk.j0 kq x43_1 a0_0 a0_1 a0_2 a0_3 a0_4 a0_5 a0_6 a0_7 a0_8 l0_9 l0_10 = some r) ∧ Aside0 (kq ≤ k) ∧ Aside0 (wc.heap[gb119]? = some (.cells #[.int .i64 a0_0, .int .i64 a0_1, .int .i64 a0_2, .int .i64 a0_3, .int .i64 a0_4, .bool a0_5, .bool a0_6, .bool a0_7, .bool a0_8, (.slice A0_9 l0_9.length c0_9), (.slice A0_10 l0_10.length c0_10)] 52 (0, 0))) ∧ Aside0 (Below w.heap.size w wc))
 case first =>
  have H := HC2.out; clear HC2
  replace H := Option.bind_eq_some_iff.mp H
  obtain ⟨t120, A40, H⟩ := H
  (try dsimp only at H)
  have A4 := Aside0.mk A40; clear A40
  by_cases c5 : t120 = true
  ·subst c5
   rw [if_pos rfl] at H
   replace H := Option.bind_eq_some_iff.mp H
   obtain ⟨t121, A60, H⟩ := H
   (try dsimp only at H)
   have A6 := Aside0.mk A60; clear A60
   by_cases c7 : t121 = true
   ·subst c7
    rw [if_pos rfl] at H
    replace H := Option.bind_eq_some_iff.mp H
    obtain ⟨t122, A80, H⟩ := H
    (try dsimp only at H)
    have A8 := Aside0.mk A80; clear A80
    by_cases c9 : t122 = true
    ·subst c9
     rw [if_pos rfl] at H
     replace H := Option.bind_eq_some_iff.mp H
     obtain ⟨t123, A100, H⟩ := H
     (try dsimp only at H)
     have A10 := Aside0.mk A100; clear A100
     by_cases c11 : t123 = true
     ·subst c11
      rw [if_pos rfl] at H
      replace H := Option.bind_eq_some_iff.mp H
      obtain ⟨t124, A120, H⟩ := H
      (try dsimp only at H)
      have A12 := Aside0.mk A120; clear A120
      by_cases c13 : t124 = true
      ·subst c13
       rw [if_pos rfl] at H
       by_cases c14 : (l0_9.length : Int) > 2
       ·rw [if_pos c14] at H
        have c14b0 : decide (2 < (l0_9.length : Int)) = true := decide_eq_true c14
        have c14b1 : decide (2 < l0_9.length) = true := decide_eq_true (by omega)
        clear c14
        (first | rw [c14b0] | (simp only [i64_w, i32_w]; rw [c14b0]) | skip)
        have H' := Aside0.mk H
        clear H; have Z15 := zz11 BK119
        go_wp2_with (first | ((with_reducible refine gate_callee (f := 52) rfl ?_); refine goesL_ (some 6) rfl rfl Try.func52 (by kernel_rfl) rfl #[.int .i64 a0_0, .int .i64 1, .int .i64 255] rfl ar_ ?_; (with_reducible refine (spec_l1In.calls a0_0 1 255 true _ A4.out).mono ?_); rintro e w' ⟨rfl, ⟨nd, rfl⟩⟩; refine ⟨_, rfl, ?_⟩) | (go_at_call 52; (with_reducible refine (spec_l1In.calls a0_1 1 255 true _ A6.out).mono ?_); rintro e w' ⟨rfl, ⟨nd, rfl⟩⟩) | (go_at_call 52; (with_reducible refine (spec_l1In.calls a0_2 0 65535 true _ A8.out).mono ?_); rintro e w' ⟨rfl, ⟨nd, rfl⟩⟩) | (go_at_call 52; (with_reducible refine (spec_l1In.calls a0_3 0 65535 true _ A10.out).mono ?_); rintro e w' ⟨rfl, ⟨nd, rfl⟩⟩) | (go_at_call 52; (with_reducible refine (spec_l1In.calls a0_4 0 255 true _ A12.out).mono ?_); rintro e w' ⟨rfl, ⟨nd, rfl⟩⟩))
        go_meet
        case rel => exact ⟨_, (true), (by first | rfl | (simp; done) | (simp [*]; done)), H', ⟨by first | omega | exact Nat.le_refl _⟩, ⟨by refine kb_ ?_; exact BK119.out⟩, ⟨hbA_ HB.out⟩⟩
       ·rw [if_neg c14] at H
        have c14b0 : decide (2 < (l0_9.length : Int)) = false := decide_eq_false c14
        have c14b1 : decide (2 < l0_9.length) = false := decide_eq_false (by omega)
        clear c14
        (first | rw [c14b0] | (simp only [i64_w, i32_w]; rw [c14b0]) | skip)
        have H' := Aside0.mk H
        clear H; have Z16 := zz11 BK119
        go_wp2_with (first | ((with_reducible refine gate_callee (f := 52) rfl ?_); refine goesL_ (some 6) rfl rfl Try.func52 (by kernel_rfl) rfl #[.int .i64 a0_0, .int .i64 1, .int .i64 255] rfl ar_ ?_; (with_reducible refine (spec_l1In.calls a0_0 1 255 true _ A4.out).mono ?_); rintro e w' ⟨rfl, ⟨nd, rfl⟩⟩; refine ⟨_, rfl, ?_⟩) | (go_at_call 52; (with_reducible refine (spec_l1In.calls a0_1 1 255 true _ A6.out).mono ?_); rintro e w' ⟨rfl, ⟨nd, rfl⟩⟩) | (go_at_call 52; (with_reducible refine (spec_l1In.calls a0_2 0 65535 true _ A8.out).mono ?_); rintro e w' ⟨rfl, ⟨nd, rfl⟩⟩) | (go_at_call 52; (with_reducible refine (spec_l1In.calls a0_3 0 65535 true _ A10.out).mono ?_); rintro e w' ⟨rfl, ⟨nd, rfl⟩⟩) | (go_at_call 52; (with_reducible refine (spec_l1In.calls a0_4 0 255 true _ A12.out).mono ?_); rintro e w' ⟨rfl, ⟨nd, rfl⟩⟩))
        go_meet
        case rel => exact ⟨_, (decide ((l0_10.length : Int) > 12)), (by first | rfl | (simp; done) | (simp [*]; done)), H', ⟨by first | omega | exact Nat.le_refl _⟩, ⟨by refine kb_ ?_; exact BK119.out⟩, ⟨hbA_ HB.out⟩⟩
      ·replace c13 := Bool.eq_false_iff.mpr c13
       subst c13
       rw [if_neg (show ¬ (false = true) by decide)] at H
       have H' := Aside0.mk H
       clear H; have Z17 := zz11 BK119
       go_wp2_with (first | ((with_reducible refine gate_callee (f := 52) rfl ?_); refine goesL_ (some 6) rfl rfl Try.func52 (by kernel_rfl) rfl #[.int .i64 a0_0, .int .i64 1, .int .i64 255] rfl ar_ ?_; (with_reducible refine (spec_l1In.calls a0_0 1 255 true _ A4.out).mono ?_); rintro e w' ⟨rfl, ⟨nd, rfl⟩⟩; refine ⟨_, rfl, ?_⟩) | (go_at_call 52; (with_reducible refine (spec_l1In.calls a0_1 1 255 true _ A6.out).mono ?_); rintro e w' ⟨rfl, ⟨nd, rfl⟩⟩) | (go_at_call 52; (with_reducible refine (spec_l1In.calls a0_2 0 65535 true _ A8.out).mono ?_); rintro e w' ⟨rfl, ⟨nd, rfl⟩⟩) | (go_at_call 52; (with_reducible refine (spec_l1In.calls a0_3 0 65535 true _ A10.out).mono ?_); rintro e w' ⟨rfl, ⟨nd, rfl⟩⟩) | (go_at_call 52; (with_reducible refine (spec_l1In.calls a0_4 0 255 false _ A12.out).mono ?_); rintro e w' ⟨rfl, ⟨nd, rfl⟩⟩))
       go_meet
       case rel => exact ⟨_, (true), (by first | rfl | (simp; done) | (simp [*]; done)), H', ⟨by first | omega | exact Nat.le_refl _⟩, ⟨by refine kb_ ?_; exact BK119.out⟩, ⟨hbA_ HB.out⟩⟩
     ·replace c11 := Bool.eq_false_iff.mpr c11
      subst c11
      rw [if_neg (show ¬ (false = true) by decide)] at H
      have H' := Aside0.mk H
      clear H; have Z18 := zz11 BK119
      go_wp2_with (first | ((with_reducible refine gate_callee (f := 52) rfl ?_); refine goesL_ (some 6) rfl rfl Try.func52 (by kernel_rfl) rfl #[.int .i64 a0_0, .int .i64 1, .int .i64 255] rfl ar_ ?_; (with_reducible refine (spec_l1In.calls a0_0 1 255 true _ A4.out).mono ?_); rintro e w' ⟨rfl, ⟨nd, rfl⟩⟩; refine ⟨_, rfl, ?_⟩) | (go_at_call 52; (with_reducible refine (spec_l1In.calls a0_1 1 255 true _ A6.out).mono ?_); rintro e w' ⟨rfl, ⟨nd, rfl⟩⟩) | (go_at_call 52; (with_reducible refine (spec_l1In.calls a0_2 0 65535 true _ A8.out).mono ?_); rintro e w' ⟨rfl, ⟨nd, rfl⟩⟩) | (go_at_call 52; (with_reducible refine (spec_l1In.calls a0_3 0 65535 false _ A10.out).mono ?_); rintro e w' ⟨rfl, ⟨nd, rfl⟩⟩))
      go_meet
      case rel => exact ⟨_, (true), (by first | rfl | (simp; done) | (simp [*]; done)), H', ⟨by first | omega | exact Nat.le_refl _⟩, ⟨by refine kb_ ?_; exact BK119.out⟩, ⟨hbA_ HB.out⟩⟩
    ·replace c9 := Bool.eq_false_iff.mpr c9
     subst c9
     rw [if_neg (show ¬ (false = true) by decide)] at H
     have H' := Aside0.mk H
     clear H; have Z19 := zz11 BK119
     go_wp2_with (first | ((with_reducible refine gate_callee (f := 52) rfl ?_); refine goesL_ (some 6) rfl rfl Try.func52 (by kernel_rfl) rfl #[.int .i64 a0_0, .int .i64 1, .int .i64 255] rfl ar_ ?_; (with_reducible refine (spec_l1In.calls a0_0 1 255 true _ A4.out).mono ?_); rintro e w' ⟨rfl, ⟨nd, rfl⟩⟩; refine ⟨_, rfl, ?_⟩) | (go_at_call 52; (with_reducible refine (spec_l1In.calls a0_1 1 255 true _ A6.out).mono ?_); rintro e w' ⟨rfl, ⟨nd, rfl⟩⟩) | (go_at_call 52; (with_reducible refine (spec_l1In.calls a0_2 0 65535 false _ A8.out).mono ?_); rintro e w' ⟨rfl, ⟨nd, rfl⟩⟩))
     go_meet
     case rel => exact ⟨_, (true), (by first | rfl | (simp; done) | (simp [*]; done)), H', ⟨by first | omega | exact Nat.le_refl _⟩, ⟨by refine kb_ ?_; exact BK119.out⟩, ⟨hbA_ HB.out⟩⟩
   ·replace c7 := Bool.eq_false_iff.mpr c7
    subst c7
    rw [if_neg (show ¬ (false = true) by decide)] at H
    have H' := Aside0.mk H
    clear H; have Z20 := zz11 BK119
    go_wp2_with (first | ((with_reducible refine gate_callee (f := 52) rfl ?_); refine goesL_ (some 6) rfl rfl Try.func52 (by kernel_rfl) rfl #[.int .i64 a0_0, .int .i64 1, .int .i64 255] rfl ar_ ?_; (with_reducible refine (spec_l1In.calls a0_0 1 255 true _ A4.out).mono ?_); rintro e w' ⟨rfl, ⟨nd, rfl⟩⟩; refine ⟨_, rfl, ?_⟩) | (go_at_call 52; (with_reducible refine (spec_l1In.calls a0_1 1 255 false _ A6.out).mono ?_); rintro e w' ⟨rfl, ⟨nd, rfl⟩⟩))
    go_meet
    case rel => exact ⟨_, (true), (by first | rfl | (simp; done) | (simp [*]; done)), H', ⟨by first | omega | exact Nat.le_refl _⟩, ⟨by refine kb_ ?_; exact BK119.out⟩, ⟨hbA_ HB.out⟩⟩
  ·replace c5 := Bool.eq_false_iff.mpr c5
   subst c5
   rw [if_neg (show ¬ (false = true) by decide)] at H
   have H' := Aside0.mk H
   clear H; have Z21 := zz11 BK119
   go_wp2_with (first | ((with_reducible refine gate_callee (f := 52) rfl ?_); refine goesL_ (some 6) rfl rfl Try.func52 (by kernel_rfl) rfl #[.int .i64 a0_0, .int .i64 1, .int .i64 255] rfl ar_ ?_; (with_reducible refine (spec_l1In.calls a0_0 1 255 false _ A4.out).mono ?_); rintro e w' ⟨rfl, ⟨nd, rfl⟩⟩; refine ⟨_, rfl, ?_⟩))
   go_meet
   case rel => exact ⟨_, (true), (by first | rfl | (simp; done) | (simp [*]; done)), H', ⟨by first | omega | exact Nat.le_refl _⟩, ⟨by refine kb_ ?_; exact BK119.out⟩, ⟨hbA_ HB.out⟩⟩
 case rest =>
  clear HC2; (try clear c1); (try clear p2); (try clear c5); (try clear c7); (try clear c9); (try clear c11); (try clear c13); (try clear c14); (try clear c14b0); (try clear c14b1); (try clear Z15); (try clear Z16); (try clear Z17); (try clear Z18); (try clear Z19); (try clear Z20); (try clear Z21)
  
  obtain ⟨kq, x43_1, rfl, HA, HJ1, BK119, HB⟩ := hcut
  cases kq with
  | zero => exact absurd HA.out (by simp [spec_SegmentOk.j0])
  | succ kj1 =>
   have H := HA.out; clear HA
   simp only [spec_SegmentOk.j0] at H
   by_cases c22 : x43_1 = true
   ·subst c22
    rw [if_pos rfl] at H
    obtain rfl := Option.some.inj H
    go_wp2
    go_ret
    exact ⟨by first | rfl | (simp [errW_none, errW_some] <;> rfl) | (simp [*, errW_none, errW_some] <;> rfl), hbA_ HB.out⟩
   ·replace c22 := Bool.eq_false_iff.mpr c22
    subst c22
    rw [if_neg (show ¬ (false = true) by decide)] at H
    have H' := Aside0.mk H
    clear H
    go_wp2
    go_loopg [3] kj1 (fun kq v3 w' => ∃ (x3_2 : Int), v3 = .int .i64 x3_2 ∧ Aside0 (spec_SegmentOk.l0 kq x3_2 a0_0 a0_1 a0_2 a0_3 a0_4 a0_5 a0_6 a0_7 a0_8 l0_9 l0_10 = some r) ∧ Aside0 (kq ≤ kj1) ∧ Aside0 (w'.heap[gb119]? = some (.cells #[.int .i64 a0_0, .int .i64 a0_1, .int .i64 a0_2, .int .i64 a0_3, .int .i64 a0_4, .bool a0_5, .bool a0_6, .bool a0_7, .bool a0_8, (.slice A0_9 l0_9.length c0_9), (.slice A0_10 l0_10.length c0_10)] 52 (0, 0))) ∧ Aside0 (Below w.heap.size w w'))
    case atStart => exact ⟨(0), (by first | rfl | (simp; done) | (simp [*]; done)), H', ⟨Nat.le_refl _⟩, ⟨by refine kb_ ?_; exact BK119.out⟩, ⟨hbA_ HB.out⟩⟩
    case round =>
     clear H'; (try clear c1); (try clear c2); (try clear p2); (try clear c5); (try clear c7); (try clear c9); (try clear c11); (try clear c13); (try clear c14); (try clear c14b0); (try clear c14b1); (try clear c22); (try clear Z15); (try clear Z16); (try clear Z17); (try clear Z18); (try clear Z19); (try clear Z20); (try clear Z21)
     (try clear p2)
     obtain ⟨x3_2, rfl, HA, HK2, BK119, HB⟩ := hrel
     cases gk with
     | zero => exact absurd HA.out (by simp [spec_SegmentOk.l0])
     | succ k2 =>
      have H := HA.out; clear HA
      simp only [spec_SegmentOk.l0] at H
      by_cases c23 : x3_2 < (l0_9.length : Int)
      ·rw [if_pos c23] at H
       have c23b0 : decide (x3_2 < (l0_9.length : Int)) = true := decide_eq_true c23
       clear c23
       by_cases c24 : 0 ≤ x3_2
       ·rw [if_pos c24] at H
        have c24b0 : decide (0 ≤ x3_2) = true := decide_eq_true c24
        clear c24
        replace H := Option.bind_eq_some_iff.mp H
        obtain ⟨t126, A250, H⟩ := H
        (try dsimp only at H)
        have A25 := Aside0.mk A250; clear A250
        by_cases c26 : t126 = true
        ·subst c26
         rw [if_pos rfl] at H
         replace H := Option.bind_eq_some_iff.mp H
         obtain ⟨t128, A270, H⟩ := H
         (try dsimp only at H)
         have A27 := Aside0.mk A270; clear A270
         by_cases c28 : t128 = true
         ·subst c28
          rw [if_pos rfl] at H
          have H' := Aside0.mk H
          clear H; have Z29 := zz11 BK119
          have p125 : 0 ≤ (x3_2 : Int) := of_decide_eq_true (by first | (with_reducible assumption) | assumption)
          have q125 : x3_2 < (l0_9.length : Int) := of_decide_eq_true (by first | (with_reducible assumption) | assumption)
          obtain ⟨ad125, e125, hx125_0, hx125_1⟩ := at_T90 HR0_9.out x3_2 p125 q125
          cases e125
          replace hx125_0 := cc_ HB hx125_0
          replace hx125_1 := cc_ HB hx125_1
          replace p125 := eq_true p125
          replace q125 := eq_true q125
          go_wp2_with (first | ((with_reducible refine gate_callee (f := 52) rfl ?_); refine goesL_ (some 57) rfl rfl Try.func52 (by kernel_rfl) rfl #[.int .i64 ((rd_T90 l0_9 x3_2).f0), .int .i64 0, .int .i64 65535] rfl ar_ ?_; (with_reducible refine (spec_l1In.calls ((rd_T90 l0_9 x3_2).f0) 0 65535 true _ A25.out).mono ?_); rintro e w' ⟨rfl, ⟨nd, rfl⟩⟩; refine ⟨_, rfl, ?_⟩; have p127 : 0 ≤ (x3_2 : Int) := of_decide_eq_true (by first | (with_reducible assumption) | assumption); have q127 : x3_2 < (l0_9.length : Int) := of_decide_eq_true (by first | (with_reducible assumption) | assumption); obtain ⟨ad127, e127, hx127_0, hx127_1⟩ := at_T90 HR0_9.out x3_2 p127 q127; obtain rfl : ad125 = ad127 := (by injection e127); replace hx127_0 := cc_ HB hx127_0; replace hx127_1 := cc_ HB hx127_1; replace p127 := eq_true p127; replace q127 := eq_true q127) | (go_at_call 52; (with_reducible refine (spec_l1In.calls ((rd_T90 l0_9 x3_2).f1) 0 65535 true _ A27.out).mono ?_); rintro e w' ⟨rfl, ⟨nd, rfl⟩⟩))
          go_roundg k2
          case measure => have := HJ1.out; have := HK2.out; omega
          case rel => exact ⟨(wrap64 (x3_2 + 1)), (by first | rfl | (simp; done) | (simp [*]; done)), H', ⟨by have := HJ1.out; have := HK2.out; omega⟩, ⟨by refine kb_ ?_; exact BK119.out⟩, ⟨hbA_ HB.out⟩⟩
         ·replace c28 := Bool.eq_false_iff.mpr c28
          subst c28
          rw [if_neg (show ¬ (false = true) by decide)] at H
          obtain rfl := Option.some.inj H
          have Z30 := zz11 BK119
          have p125 : 0 ≤ (x3_2 : Int) := of_decide_eq_true (by first | (with_reducible assumption) | assumption)
          have q125 : x3_2 < (l0_9.length : Int) := of_decide_eq_true (by first | (with_reducible assumption) | assumption)
          obtain ⟨ad125, e125, hx125_0, hx125_1⟩ := at_T90 HR0_9.out x3_2 p125 q125
          cases e125
          replace hx125_0 := cc_ HB hx125_0
          replace hx125_1 := cc_ HB hx125_1
          replace p125 := eq_true p125
          replace q125 := eq_true q125
          go_wp2_with (first | ((with_reducible refine gate_callee (f := 52) rfl ?_); refine goesL_ (some 57) rfl rfl Try.func52 (by kernel_rfl) rfl #[.int .i64 ((rd_T90 l0_9 x3_2).f0), .int .i64 0, .int .i64 65535] rfl ar_ ?_; (with_reducible refine (spec_l1In.calls ((rd_T90 l0_9 x3_2).f0) 0 65535 true _ A25.out).mono ?_); rintro e w' ⟨rfl, ⟨nd, rfl⟩⟩; refine ⟨_, rfl, ?_⟩; have p127 : 0 ≤ (x3_2 : Int) := of_decide_eq_true (by first | (with_reducible assumption) | assumption); have q127 : x3_2 < (l0_9.length : Int) := of_decide_eq_true (by first | (with_reducible assumption) | assumption); obtain ⟨ad127, e127, hx127_0, hx127_1⟩ := at_T90 HR0_9.out x3_2 p127 q127; obtain rfl : ad125 = ad127 := (by injection e127); replace hx127_0 := cc_ HB hx127_0; replace hx127_1 := cc_ HB hx127_1; replace p127 := eq_true p127; replace q127 := eq_true q127) | (go_at_call 52; (with_reducible refine (spec_l1In.calls ((rd_T90 l0_9 x3_2).f1) 0 65535 false _ A27.out).mono ?_); rintro e w' ⟨rfl, ⟨nd, rfl⟩⟩))
          go_ret
          exact ⟨by first | rfl | (simp [errW_none, errW_some] <;> rfl) | (simp [*, errW_none, errW_some] <;> rfl), hbA_ HB.out⟩
        ·replace c26 := Bool.eq_false_iff.mpr c26
         subst c26
         rw [if_neg (show ¬ (false = true) by decide)] at H
         obtain rfl := Option.some.inj H
         have Z31 := zz11 BK119
         have p125 : 0 ≤ (x3_2 : Int) := of_decide_eq_true (by first | (with_reducible assumption) | assumption)
         have q125 : x3_2 < (l0_9.length : Int) := of_decide_eq_true (by first | (with_reducible assumption) | assumption)
         obtain ⟨ad125, e125, hx125_0, hx125_1⟩ := at_T90 HR0_9.out x3_2 p125 q125
         cases e125
         replace hx125_0 := cc_ HB hx125_0
         replace hx125_1 := cc_ HB hx125_1
         replace p125 := eq_true p125
         replace q125 := eq_true q125
         go_wp2_with (first | ((with_reducible refine gate_callee (f := 52) rfl ?_); refine goesL_ (some 57) rfl rfl Try.func52 (by kernel_rfl) rfl #[.int .i64 ((rd_T90 l0_9 x3_2).f0), .int .i64 0, .int .i64 65535] rfl ar_ ?_; (with_reducible refine (spec_l1In.calls ((rd_T90 l0_9 x3_2).f0) 0 65535 false _ A25.out).mono ?_); rintro e w' ⟨rfl, ⟨nd, rfl⟩⟩; refine ⟨_, rfl, ?_⟩))
         go_ret
         exact ⟨by first | rfl | (simp [errW_none, errW_some] <;> rfl) | (simp [*, errW_none, errW_some] <;> rfl), hbA_ HB.out⟩
       ·rw [if_neg c24] at H
        exact absurd H (by simp)
      ·rw [if_neg c23] at H
       have c23b0 : decide (x3_2 < (l0_9.length : Int)) = false := decide_eq_false c23
       clear c23; have HC32 := Aside0.mk H; clear H; have Z33 := zz11 BK119
       go_upto_region 8 with (fail)
       go_cut [87] (fun v87 wc => ∃ (kq : Nat) (x87_31 : Bool), v87 = .bool x87_31 ∧ Aside0 (spec_SegmentOk.j2 kq x87_31 a0_0 a0_1 a0_2 a0_3 a0_4 a0_5 a0_6 a0_7 a0_8 l0_9 l0_10 = some r) ∧ Aside0 (kq ≤ k2) ∧ Aside0 (wc.heap[gb119]? = some (.cells #[.int .i64 a0_0, .int .i64 a0_1, .int .i64 a0_2, .int .i64 a0_3, .int .i64 a0_4, .bool a0_5, .bool a0_6, .bool a0_7, .bool a0_8, (.slice A0_9 l0_9.length c0_9), (.slice A0_10 l0_10.length c0_10)] 52 (0, 0))) ∧ Aside0 (Below w.heap.size w wc))
       case first =>
        have H := HC32.out; clear HC32
        by_cases c34 : a0_6 = true
        ·subst c34
         rw [if_pos rfl] at H
         have H' := Aside0.mk H
         clear H; have Z35 := zz11 BK119
         go_wp2
         go_meet
         case rel => exact ⟨_, (false), (by first | rfl | (simp; done) | (simp [*]; done)), H', ⟨by have := HJ1.out; have := HK2.out; first | omega | exact Nat.le_refl _⟩, ⟨by refine kb_ ?_; exact BK119.out⟩, ⟨hbA_ HB.out⟩⟩
        ·replace c34 := Bool.eq_false_iff.mpr c34
         subst c34
         rw [if_neg (show ¬ (false = true) by decide)] at H
         by_cases c36 : a0_3 = 0
         ·rw [if_pos c36] at H
          have c36b0 : (a0_3 == 0) = true := beq_iff_eq.mpr c36
          have c36b1 : (a0_3 != 0) = false := bne_eq_false_iff_eq.mpr c36
          clear c36
          (first | rw [c36b0] | (simp only [i64_w, i32_w]; rw [c36b0]) | skip)
          by_cases c37 : a0_4 = 0
          ·rw [if_pos c37] at H
           have c37b0 : (a0_4 == 0) = true := beq_iff_eq.mpr c37
           have c37b1 : (a0_4 != 0) = false := bne_eq_false_iff_eq.mpr c37
           clear c37
           have H' := Aside0.mk H
           clear H; have Z38 := zz11 BK119
           go_wp2
           go_meet
           case rel => exact ⟨_, (decide ((l0_9.length : Int) > 0)), (by first | rfl | (simp; done) | (simp [*]; done)), H', ⟨by have := HJ1.out; have := HK2.out; first | omega | exact Nat.le_refl _⟩, ⟨by refine kb_ ?_; exact BK119.out⟩, ⟨hbA_ HB.out⟩⟩
          ·rw [if_neg c37] at H
           have c37b0 : (a0_4 == 0) = false := beq_eq_false_iff_ne.mpr c37
           have c37b1 : (a0_4 != 0) = true := bne_iff_ne.mpr c37
           have H' := Aside0.mk H
           clear H; have Z39 := zz11 BK119
           go_wp2
           go_meet
           case rel => exact ⟨_, (true), (by first | rfl | (simp; done) | (simp [*]; done)), H', ⟨by have := HJ1.out; have := HK2.out; first | omega | exact Nat.le_refl _⟩, ⟨by refine kb_ ?_; exact BK119.out⟩, ⟨hbA_ HB.out⟩⟩
         ·rw [if_neg c36] at H
          have c36b0 : (a0_3 == 0) = false := beq_eq_false_iff_ne.mpr c36
          have c36b1 : (a0_3 != 0) = true := bne_iff_ne.mpr c36
          (first | rw [c36b0] | (simp only [i64_w, i32_w]; rw [c36b0]) | skip)
          have H' := Aside0.mk H
          clear H; have Z40 := zz11 BK119
          go_wp2
          go_meet
          case rel => exact ⟨_, (true), (by first | rfl | (simp; done) | (simp [*]; done)), H', ⟨by have := HJ1.out; have := HK2.out; first | omega | exact Nat.le_refl _⟩, ⟨by refine kb_ ?_; exact BK119.out⟩, ⟨hbA_ HB.out⟩⟩
       case rest =>
        clear HC32; (try clear c1); (try clear p1); (try clear q1); (try clear hx1); (try clear c2); (try clear p2); (try clear c3); (try clear c5); (try clear p6); (try clear c7); (try clear c9); (try clear c11); (try clear p12); (try clear q12); (try clear hx12); (try clear c13); (try clear c14); (try clear c14b0); (try clear c14b1); (try clear c22); (try clear c23); (try clear c23b0); (try clear c24); (try clear c24b0); (try clear c26); (try clear c28); (try clear c34); (try clear c36); (try clear c36b0); (try clear c36b1); (try clear c37); (try clear c37b0); (try clear c37b1); (try clear Z15); (try clear Z16); (try clear Z17); (try clear Z18); (try clear Z19); (try clear Z20); (try clear Z21); (try clear Z29); (try clear Z30); (try clear Z31); (try clear Z33)
        (try clear Z35); (try clear Z38); (try clear Z39); (try clear Z40)
        (try clear hx125_0); (try clear hx125_1); (try clear hx127_0); (try clear hx127_1); (try clear p125); (try clear p127); (try clear p2); (try clear q125); (try clear q127)
        obtain ⟨kq, x87_31, rfl, HA, HJ31, BK119, HB⟩ := hcut
        cases kq with
        | zero => exact absurd HA.out (by simp [spec_SegmentOk.j2])
        | succ kj31 =>
         have H := HA.out; clear HA
         simp only [spec_SegmentOk.j2] at H
         by_cases c41 : x87_31 = true
         ·subst c41
          rw [if_pos rfl] at H
          obtain rfl := Option.some.inj H
          go_wp2
          go_ret
          exact ⟨by first | rfl | (simp [errW_none, errW_some] <;> rfl) | (simp [*, errW_none, errW_some] <;> rfl), hbA_ HB.out⟩
         ·replace c41 := Bool.eq_false_iff.mpr c41
          subst c41
          rw [if_neg (show ¬ (false = true) by decide)] at H
          by_cases c42 : a0_8 = true
          ·subst c42
           rw [if_pos rfl] at H
           by_cases c43 : a0_5 = true
           ·subst c43
            rw [if_pos rfl] at H
            obtain rfl := Option.some.inj H
            have Z44 := zz11 BK119
            go_wp2
            go_ret
            exact ⟨by first | rfl | (simp [errW_none, errW_some] <;> rfl) | (simp [*, errW_none, errW_some] <;> rfl), hbA_ HB.out⟩
           ·replace c43 := Bool.eq_false_iff.mpr c43
            subst c43
            rw [if_neg (show ¬ (false = true) by decide)] at H
            by_cases c45 : a0_7 = true
            ·subst c45
             rw [if_pos rfl] at H
             obtain rfl := Option.some.inj H
             have Z46 := zz11 BK119
             go_wp2
             go_ret
             exact ⟨by first | rfl | (simp [errW_none, errW_some] <;> rfl) | (simp [*, errW_none, errW_some] <;> rfl), hbA_ HB.out⟩
            ·replace c45 := Bool.eq_false_iff.mpr c45
             subst c45
             rw [if_neg (show ¬ (false = true) by decide)] at H
             obtain rfl := Option.some.inj H
             have Z47 := zz11 BK119
             go_wp2
             go_ret
             exact ⟨by first | rfl | (simp [errW_none, errW_some] <;> rfl) | (simp [*, errW_none, errW_some] <;> rfl), hbA_ HB.out⟩
          ·replace c42 := Bool.eq_false_iff.mpr c42
           subst c42
           rw [if_neg (show ¬ (false = true) by decide)] at H
           obtain rfl := Option.some.inj H
           have Z48 := zz11 BK119
           go_wp2
           go_ret
           exact ⟨by first | rfl | (simp [errW_none, errW_some] <;> rfl) | (simp [*, errW_none, errW_some] <;> rfl), hbA_ HB.out⟩
mutual
def spec_BytesOf.j0 : Nat → Int → Int → Bool → Option (List Int)
 | 0, _, _, _ => none
 | k + 1, x0, x1, x18 => if x18 = true then (some (([] : List Int))) else (spec_BytesOf.l0 k x0 (([] : List Int)) (wrap64 (x1 - 1)))
def spec_BytesOf.l0 : Nat → Int → List Int → Int → Option (List Int)
 | 0, _, _, _ => none
 | k + 1, x0, x5, x6 => if x6 ≥ 0 then (if 0 ≤ (wrap64 (8 * x6)) then (if x5.length < 140737488355328 then (spec_BytesOf.l0 k x0 (x5 ++ [(Int.tmod (shr .i64 x0 (wrap64 (8 * x6))) 256) % 256]) (wrap64 (x6 - 1))) else (none)) else (none)) else (some x5)
end
def spec_BytesOf.f (k : Nat) (a0 : Int) (a1 : Int) : Option (List Int) := (spec_l1In.f a1 1 4).bind fun t129 => (if t129 = true then (if 0 ≤ (wrap64 (8 * a1)) then ((spec_l1In.f a0 0 (wrap64 ((shl .i64 1 (wrap64 (8 * a1))) - 1))).bind fun t130 => (spec_BytesOf.j0 k a0 a1 (!t130))) else (none)) else (spec_BytesOf.j0 k a0 a1 true))
theorem spec_BytesOf.mono_l : ∀ k, (∀ y0 y1 y2, LeO (spec_BytesOf.j0 k y0 y1 y2) (spec_BytesOf.j0 (k + 1) y0 y1 y2)) ∧ (∀ y0 y1 y2, LeO (spec_BytesOf.l0 k y0 y1 y2) (spec_BytesOf.l0 (k + 1) y0 y1 y2))
 | 0 => ⟨fun _ _ _ r h => by simp [spec_BytesOf.j0] at h, fun _ _ _ r h => by simp [spec_BytesOf.l0] at h⟩
 | k + 1 => by
  obtain ⟨ih0, ih1⟩ := spec_BytesOf.mono_l k
  refine ⟨?_, ?_⟩
  ·intro y0 y1 y2
   unfold spec_BytesOf.j0
   repeat' first | (with_reducible first | apply ih0 | apply ih1 | exact LeO.refl _ | exact LeO.none _ | refine LeO.ite ?_ ?_ | refine LeO.bind ?_ fun _ => ?_) | apply ih0 | apply ih1 | exact LeO.none _ | refine LeO.ite ?_ ?_ | refine LeO.bind ?_ fun _ => ?_
  ·intro y0 y1 y2
   unfold spec_BytesOf.l0
   repeat' first | (with_reducible first | apply ih0 | apply ih1 | exact LeO.refl _ | exact LeO.none _ | refine LeO.ite ?_ ?_ | refine LeO.bind ?_ fun _ => ?_) | apply ih0 | apply ih1 | exact LeO.none _ | refine LeO.ite ?_ ?_ | refine LeO.bind ?_ fun _ => ?_
theorem spec_BytesOf.mono : ∀ a0 a1 k, LeO (spec_BytesOf.f k a0 a1) (spec_BytesOf.f (k + 1) a0 a1) := by
 intro a0 a1 k
 obtain ⟨ih0, ih1⟩ := spec_BytesOf.mono_l k
 unfold spec_BytesOf.f
 repeat' first | (with_reducible first | apply ih0 | apply ih1 | exact LeO.refl _ | exact LeO.none _ | refine LeO.ite ?_ ?_ | refine LeO.bind ?_ fun _ => ?_) | apply ih0 | apply ih1 | exact LeO.none _ | refine LeO.ite ?_ ?_ | refine LeO.bind ?_ fun _ => ?_
set_option maxHeartbeats 8000000 in
set_option maxRecDepth 100000 in
theorem spec_BytesOf.calls (k : Nat) (a0 : Int) (a1 : Int) (r : List Int) (w : World) (h : spec_BytesOf.f k a0 a1 = some r) :
  Calls Try.prog 75 #[.int .i64 a0, .int .i64 a1] w fun e w' => ∃ v0_ : Value, e = .returned (v0_) ∧ Kd.R (Kd.int .u8) 5 w' w.heap.size (fun _ => True) v0_ r ∧ Below w.heap.size w w' := by
 have HB := Aside0.mk (Below.refl w.heap.size w)
 have H : ((spec_l1In.f a1 1 4).bind fun t129 => (if t129 = true then (if 0 ≤ (wrap64 (8 * a1)) then ((spec_l1In.f a0 0 (wrap64 ((shl .i64 1 (wrap64 (8 * a1))) - 1))).bind fun t130 => (spec_BytesOf.j0 k a0 a1 (!t130))) else (none)) else (spec_BytesOf.j0 k a0 a1 true))) = some r := h
 clear h; have HC3 := Aside0.mk H; clear H
 go_enter Try.func75, Try.ntmps75
 go_upto_region 1 with (fail)
 go_cut [18] (fun v18 wc => ∃ (kq : Nat) (x18_2 : Bool), v18 = .bool x18_2 ∧ Aside0 (spec_BytesOf.j0 kq a0 a1 x18_2 = some r) ∧ Aside0 (kq ≤ k) ∧ Aside0 (Below w.heap.size w wc))
 case first =>
  have H := HC3.out; clear HC3
  replace H := Option.bind_eq_some_iff.mp H
  obtain ⟨t129, A40, H⟩ := H
  (try dsimp only at H)
  have A4 := Aside0.mk A40; clear A40
  by_cases c5 : t129 = true
  ·subst c5
   rw [if_pos rfl] at H
   obtain ⟨ji6, hji6⟩ : ∃ j_ : Int, (wrap64 (8 * a1)) = j_ := ⟨_, rfl⟩
   (first | rw [hji6] at H | simp only [hji6] at H)
   (try rw [hji6] at A4)
   have hji6w : (IntKind.i64.wrap (8 * a1)) = ji6 := (i64_w _).trans hji6
   by_cases c7 : 0 ≤ (ji6)
   ·rw [if_pos c7] at H
    have c7b0 := eq_true c7
    have c7b1 : decide (0 ≤ (ji6)) = true := decide_eq_true c7
    clear c7
    obtain ⟨ji8, hji8⟩ : ∃ j_ : Int, (shl .i64 1 (ji6)) = j_ := ⟨_, rfl⟩
    (first | rw [hji8] at H | simp only [hji8] at H)
    (try rw [hji8] at A4)
    have hji8_ : (IntKind.i64.wrap (1 * 2 ^ min (ji6).toNat 64)) = ji8 := hji8
    have hji8z : (ji6) ≤ 64 → (IntKind.i64.wrap (1 * 2 ^ (ji6).toNat)) = ji8 := shl_small hji8
    have hji8u : (IntKind.i64.wrap (2 ^ min (ji6).toNat 64)) = ji8 := by have h_ := hji8_; rw [Int.one_mul] at h_; exact h_
    have hji8v : (ji6) ≤ 64 → (IntKind.i64.wrap (2 ^ (ji6).toNat)) = ji8 := fun hle_ => by have h_ := hji8z hle_; rw [Int.one_mul] at h_; exact h_
    have hji8y : (wrap64 (1 * 2 ^ min (ji6).toNat 64)) = ji8 := (i64_w _).symm.trans hji8_
    have hji8x : (ji6) ≤ 64 → (wrap64 (1 * 2 ^ (ji6).toNat)) = ji8 := fun h_ => (i64_w _).symm.trans (hji8z h_)
    replace H := Option.bind_eq_some_iff.mp H
    obtain ⟨t130, A90, H⟩ := H
    (try dsimp only at H)
    have A9 := Aside0.mk A90; clear A90
    have H' := Aside0.mk H
    clear H
    go_wp2_with (first | ((with_reducible refine gate_callee (f := 52) rfl ?_); refine goesL_ (some 8) rfl rfl Try.func52 (by kernel_rfl) rfl #[.int .i64 a1, .int .i64 1, .int .i64 4] rfl ar_ ?_; (with_reducible refine (spec_l1In.calls a1 1 4 true _ A4.out).mono ?_); rintro e w' ⟨rfl, ⟨nd, rfl⟩⟩; refine ⟨_, rfl, ?_⟩) | (go_at_call 52; (with_reducible refine (spec_l1In.calls a0 0 (wrap64 ((ji8) - 1)) t130 _ A9.out).mono ?_); rintro e w' ⟨rfl, ⟨nd, rfl⟩⟩))
    first | go_meet | ((try simp only [← hji6, ← hji8]); go_meet)
    case rel => exact ⟨_, (!t130), (by first | rfl | (simp; done) | (simp [*]; done)), H', ⟨by first | omega | exact Nat.le_refl _⟩, ⟨hbA_ HB.out⟩⟩
   ·rw [if_neg c7] at H
    exact absurd H (by simp)
  ·replace c5 := Bool.eq_false_iff.mpr c5
   subst c5
   rw [if_neg (show ¬ (false = true) by decide)] at H
   have H' := Aside0.mk H
   clear H
   go_wp2_with (first | ((with_reducible refine gate_callee (f := 52) rfl ?_); refine goesL_ (some 8) rfl rfl Try.func52 (by kernel_rfl) rfl #[.int .i64 a1, .int .i64 1, .int .i64 4] rfl ar_ ?_; (with_reducible refine (spec_l1In.calls a1 1 4 false _ A4.out).mono ?_); rintro e w' ⟨rfl, ⟨nd, rfl⟩⟩; refine ⟨_, rfl, ?_⟩))
   go_meet
   case rel => exact ⟨_, (true), (by first | rfl | (simp; done) | (simp [*]; done)), H', ⟨by first | omega | exact Nat.le_refl _⟩, ⟨hbA_ HB.out⟩⟩
 case rest =>
  clear HC3; (try clear p2); (try clear c5); (try clear p6); (try clear c7); (try clear c7b0); (try clear c7b1)
  obtain ⟨kq, x18_2, rfl, HA, HJ2, HB⟩ := hcut
  cases kq with
  | zero => exact absurd HA.out (by simp [spec_BytesOf.j0])
  | succ kj2 =>
   have H := HA.out; clear HA
   simp only [spec_BytesOf.j0] at H
   by_cases c10 : x18_2 = true
   ·subst c10
    rw [if_pos rfl] at H
    obtain ⟨y131, hy131⟩ : ∃ y_ : List Int, y_ = (([] : List Int)) := ⟨_, rfl⟩
    (first | replace H := sb_ hy131 H | rw [← hy131] at H)
    have Ny131 := Aside0.mk hy131; clear hy131
    obtain rfl := Option.some.inj H
    go_wp2_with (first | ((with_reducible refine gate_dst (N := 19) rfl ?_); refine Kd.R_lit (Kd.int .u8) _ 5 ?hg (N := 19) ?hd (xs := ([] : List Int)) (inner := []) (ok := fun _ => True) (okp := fun _ => True) ?hr ?hp (fun _ hk => hk) trivial (Below.refl _ _) (Nat.le_refl _) (by simp) ?_; (case hd => rfl); (case hg => rfl); (case hr => first | (go_simp; done) | (go_simp; rfl)); (case hp => exact (Reps.none _ _)); intro v132 w11 ho12 hb hg_ hnew_; clear hg_ hnew_; (first | rw [← Ny131.out] at ho12 | (simp only [Int.reduceToNat] at ho12; rw [← Ny131.out] at ho12)); have HO133 := Aside0.mk (Kd.R_lower ho12 (below_size (hbA_ HB.out))); replace HB := (bs_ HB hb); clear hb ho12))
    go_ret
    exact ⟨_, by first | rfl | (simp [errW_none, errW_some] <;> rfl) | (simp [*, errW_none, errW_some] <;> rfl), kR_ HO133.out, hbA_ HB.out⟩
   ·replace c10 := Bool.eq_false_iff.mpr c10
    subst c10
    rw [if_neg (show ¬ (false = true) by decide)] at H
    obtain ⟨y134, hy134⟩ : ∃ y_ : List Int, y_ = (([] : List Int)) := ⟨_, rfl⟩
    (first | replace H := sb_ hy134 H | rw [← hy134] at H)
    have Ny134 := Aside0.mk hy134; clear hy134
    have H' := Aside0.mk H
    clear H
    go_wp2_with (first | ((with_reducible refine gate_dst (N := 20) rfl ?_); refine Kd.R_lit (Kd.int .u8) _ 5 ?hg (N := 20) ?hd (xs := ([] : List Int)) (inner := []) (ok := fun _ => True) (okp := fun _ => True) ?hr ?hp (fun _ hk => hk) trivial (Below.refl _ _) (Nat.le_refl _) (by simp) ?_; (case hd => rfl); (case hg => rfl); (case hr => first | (go_simp; done) | (go_simp; rfl)); (case hp => exact (Reps.none _ _)); intro v135 w13 ho14 hb hg_ hnew_; clear hg_ hnew_; (first | rw [← Ny134.out] at ho14 | (simp only [Int.reduceToNat] at ho14; rw [← Ny134.out] at ho14)); have HO136 := Aside0.mk (Kd.R_lower ho14 (below_size (hbA_ HB.out))); replace HB := (bs_ HB hb); clear hb ho14))
    go_loopg [5, 6] kj2 (fun kq v5 v6 w' => ∃ (x5_2 : List Int) (x6_2 : Int), v6 = .int .i64 x6_2 ∧ Aside0 (spec_BytesOf.l0 kq a0 x5_2 x6_2 = some r) ∧ Aside0 (kq ≤ kj2) ∧ Aside0 (Kd.R (Kd.int .u8) 5 w' w.heap.size (fun _ => True) v5 x5_2) ∧ Aside0 (Below w.heap.size w w'))
    case atStart => exact ⟨(y134), (wrap64 (a1 - 1)), (by first | rfl | (simp; done) | (simp [*]; done)), H', ⟨Nat.le_refl _⟩, ⟨kR_ HO136.out⟩, ⟨hbA_ HB.out⟩⟩
    case round =>
     clear H'; (try clear c1); (try clear p2); (try clear c5); (try clear p6); (try clear c7); (try clear c7b0); (try clear c7b1); (try clear c10); (try clear p2); (try clear p6)
     obtain ⟨x5_2, x6_2, rfl, HA, HK2, HO_5, HB⟩ := hrel
     cases gk with
     | zero => exact absurd HA.out (by simp [spec_BytesOf.l0])
     | succ k2 =>
      have H := HA.out; clear HA
      simp only [spec_BytesOf.l0] at H
      by_cases c15 : x6_2 ≥ 0
      ·rw [if_pos c15] at H
       have c15b0 : decide (0 ≤ x6_2) = true := decide_eq_true c15
       clear c15
       obtain ⟨ji16, hji16⟩ : ∃ j_ : Int, (wrap64 (8 * x6_2)) = j_ := ⟨_, rfl⟩
       (first | rw [hji16] at H | simp only [hji16] at H)
       have hji16w : (IntKind.i64.wrap (8 * x6_2)) = ji16 := (i64_w _).trans hji16
       by_cases c17 : 0 ≤ (ji16)
       ·rw [if_pos c17] at H
        have c17b0 := eq_true c17
        have c17b1 : decide (0 ≤ (ji16)) = true := decide_eq_true c17
        clear c17
        obtain ⟨ji18, hji18⟩ : ∃ j_ : Int, (shr .i64 a0 (ji16)) = j_ := ⟨_, rfl⟩
        (first | rw [hji18] at H | simp only [hji18] at H)
        have hji18_ : (a0 / 2 ^ min (ji16).toNat 64) = ji18 := hji18
        have hji18z : (ji16) ≤ 64 → (a0 / 2 ^ (ji16).toNat) = ji18 := shr_small hji18
        by_cases c19 : x5_2.length < 140737488355328
        ·rw [if_pos c19] at H
         have LMc19 := Aside0.mk c19; clear c19
         obtain ⟨y137, hy137⟩ : ∃ y_ : List Int, y_ = (x5_2 ++ [(Int.tmod (ji18) 256) % 256]) := ⟨_, rfl⟩
         (first | replace H := sb_ hy137 H | rw [← hy137] at H)
         have Ny137 := Aside0.mk hy137; clear hy137
         have H' := Aside0.mk H
         clear H
         go_wp2_with (first | ((with_reducible refine gate_builtin (b := .append) (xs := #[.tmp 27, .tmp 34]) rfl ?_); at_builtin; refine Kd.R_append (Kd.int .u8) (w0 := w) w.heap.size rfl (.tmp 27) (.tmp 34) 22 5 (.int .u8 0) 1 rfl Try.underlying22 info5 rfl (by decide) (by omega) u5 x5_2 ((Int.tmod (ji18) 256) % 256) [.int .u8 ((Int.tmod (ji18) 256) % 256)] (fun _ => True) (fun _ => False) rfl rfl ?aP (fun _ hk => hk.elim) ?aF ?aO ?aB ?aS ?aL ?_; (case aP => exact rfl); (case aB => exact (hbA_ HB.out)); (case aF => exact (fun _ _ => trivial)); (case aO => exact (kR_ HO_5.out)); (case aS => exact (below_size (hbA_ HB.out))); (case aL => have := LMc19.out; omega); intro v138 w20 ho hb hg hat; rw [← Ny137.out] at ho; replace HB := Aside0.mk (hb); have HO139 := Aside0.mk (ho); clear HO_5; clear ho hb hg hat))
         go_roundg k2
         case measure => have := HJ2.out; have := HK2.out; omega
         case rel => exact ⟨(y137), (wrap64 (x6_2 - 1)), (by first | rfl | (simp; done) | (simp [*]; done)), H', ⟨by have := HJ2.out; have := HK2.out; omega⟩, ⟨kR_ HO139.out⟩, ⟨hbA_ HB.out⟩⟩
        ·rw [if_neg c19] at H
         exact absurd H (by simp)
       ·rw [if_neg c17] at H
        exact absurd H (by simp)
      ·rw [if_neg c15] at H
       have c15b0 : decide (0 ≤ x6_2) = false := decide_eq_false c15
       clear c15
       obtain rfl := Option.some.inj H
       go_wp2
       go_ret
       exact ⟨_, by first | rfl | (simp [errW_none, errW_some] <;> rfl) | (simp [*, errW_none, errW_some] <;> rfl), kR_ HO_5.out, hbA_ HB.out⟩
end Go.Proofs.Ytpbeljcgcdilnaa.PFnSegmentFrom
