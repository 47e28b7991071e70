/- Printed by wip/xp/xprint.sh out of the translation, for this claim: what each function answers, as a plain function, and that the machine does just that. No condition. -/
import Derived.Test.YtbhofhdmbbipgaaPFnEarHearx0
namespace Go.Proofs.Ytbhofhdmbbipgaa.PFnEarHear
open Go.RowKit Go.Proofs.YtbhofhdmbbipgaaW.PrintWords Go.Proofs.YtbhofhdmbbipgaaW.PrintLast Go.Proofs.YtbhofhdmbbipgaaW.PrintMore
attribute [local go_sem] max2_int min2_int max_two min_two max_three min_three max_four min_four   -- for this text's walks alone
set_option linter.unusedVariables false
set_option linter.unusedSimpArgs false
def impl_in.f (a0 : Int) (a1 : Int) (a2 : Int) : Option (Bool) := if a0 ≥ a1 then (some (decide (a0 ≤ a2))) else (some false)
set_option maxHeartbeats 8000000 in
set_option maxRecDepth 100000 in
theorem impl_in.calls (a0 : Int) (a1 : Int) (a2 : Int) (r : Bool) (w : World) (h : impl_in.f a0 a1 a2 = some r) :
  Calls Try.prog 56 #[.int .i64 a0, .int .i64 a1, .int .i64 a2] w fun e w' => e = .returned (.bool r) ∧ Drawn0 w w' := by
 have H : (if a0 ≥ a1 then (some (decide (a0 ≤ a2))) else (some false)) = some r := h
 clear h
 by_cases c4 : a0 ≥ a1
 ·rw [if_pos c4] at H
  have c4b0 : decide (a1 ≤ a0) = true := decide_eq_true c4
  clear c4
  obtain rfl := Option.some.inj H
  go_enter Try.func56, Try.ntmps56
  go_wp2
  go_ret
  exact ⟨by first | rfl | (simp; done) | (simp [*]; done), by repeat (first | exact Drawn0.refl _ | apply Drawn0.step)⟩
 ·rw [if_neg c4] at H
  have c4b0 : decide (a1 ≤ a0) = false := decide_eq_false c4
  clear c4
  obtain rfl := Option.some.inj H
  go_enter Try.func56, Try.ntmps56
  go_wp2
  go_ret
  exact ⟨by first | rfl | (simp; done) | (simp [*]; done), by repeat (first | exact Drawn0.refl _ | apply Drawn0.step)⟩
def impl_bytesOf.l0 : Nat → Int → List Int → Int → Option (List Int)
 | 0, _, _, _ => none
 | k + 1, x0, x5, x6 => if x6 ≥ 0 then (if 0 ≤ x6 then (if x6 < (x5.length : Int) then (impl_bytesOf.l0 k (x0 / 256) (x5.set (x6 : Int).toNat ((x0) % 256)) (wrap64 (x6 - 1))) else (none)) else (none)) else (some x5)
def impl_bytesOf.f (k : Nat) (a0 : Int) (a1 : Int) : Option (List Int) := if 0 ≤ a1 then (if (a1 : Int).toNat ≤ 281474976710656 then (impl_bytesOf.l0 k a0 (List.replicate (a1 : Int).toNat 0) (wrap64 (a1 - 1))) else (none)) else (none)
theorem impl_bytesOf.mono_l : ∀ k, (∀ y0 y1 y2, LeO (impl_bytesOf.l0 k y0 y1 y2) (impl_bytesOf.l0 (k + 1) y0 y1 y2))
 | 0 => fun _ _ _ r h => by simp [impl_bytesOf.l0] at h
 | k + 1 => by
  have ih0 := impl_bytesOf.mono_l k
  ·intro y0 y1 y2
   unfold impl_bytesOf.l0
   repeat' first | (with_reducible first | apply ih0 | exact LeO.refl _ | exact LeO.none _ | refine LeO.ite ?_ ?_ | refine LeO.bind ?_ fun _ => ?_) | apply ih0 | exact LeO.none _ | refine LeO.ite ?_ ?_ | refine LeO.bind ?_ fun _ => ?_
theorem impl_bytesOf.mono : ∀ a0 a1 k, LeO (impl_bytesOf.f k a0 a1) (impl_bytesOf.f (k + 1) a0 a1) := by
 intro a0 a1 k
 have ih0 := impl_bytesOf.mono_l k
 unfold impl_bytesOf.f
 repeat' first | (with_reducible first | apply ih0 | exact LeO.refl _ | exact LeO.none _ | refine LeO.ite ?_ ?_ | refine LeO.bind ?_ fun _ => ?_) | apply ih0 | exact LeO.none _ | refine LeO.ite ?_ ?_ | refine LeO.bind ?_ fun _ => ?_
set_option maxHeartbeats 8000000 in
set_option maxRecDepth 100000 in
theorem impl_bytesOf.calls (k : Nat) (a0 : Int) (a1 : Int) (r : List Int) (w : World) (h : impl_bytesOf.f k a0 a1 = some r) :
  Calls Try.prog 94 #[.int .i64 a0, .int .i64 a1] w fun e w' => ∃ v0_ : Value, e = .returned (v0_) ∧ Kd.R (Kd.int .u8) 5 w' w.heap.size (fun _ => True) v0_ r ∧ Below w.heap.size w w' := by
 have HB := Aside0.mk (Below.refl w.heap.size w)
 have H : (if 0 ≤ a1 then (if (a1 : Int).toNat ≤ 281474976710656 then (impl_bytesOf.l0 k a0 (List.replicate (a1 : Int).toNat 0) (wrap64 (a1 - 1))) else (none)) else (none)) = some r := h
 clear h
 by_cases c3 : 0 ≤ a1
 ·rw [if_pos c3] at H
  have c3b0 := eq_true c3
  have c3b1 : decide (0 ≤ a1) = true := decide_eq_true c3
  clear c3
  by_cases c4 : (a1 : Int).toNat ≤ 281474976710656
  ·rw [if_pos c4] at H
   have c4b0 := eq_true c4
   have c4b1 : decide ((a1 : Int).toNat ≤ 281474976710656) = true := decide_eq_true c4
   clear c4
   obtain ⟨y101, hy101⟩ : ∃ y_ : List Int, y_ = (List.replicate (a1 : Int).toNat 0) := ⟨_, rfl⟩
   (first | replace H := sb_ hy101 H | rw [← hy101] at H)
   have Ny101 := Aside0.mk hy101; clear hy101
   have H' := Aside0.mk H
   clear H
   go_enter Try.func94, Try.ntmps94
   go_wp2_with (first | ((with_reducible refine gate_dst (N := 8) rfl ?_); refine Kd.R_make (Kd.int .u8) _ 5 rfl (N := 8) rfl 22 _ _ rfl a1 rfl rfl Try.underlying22 (.int .u8 0) 1 info5 rfl (by decide) (by omega) 0 (ok := fun _ => True) (okp := fun _ => True) rfl (fun _ hk => hk) trivial (of_decide_eq_true (by first | (with_reducible assumption) | assumption)) (Nat.le_trans (Nat.mul_le_mul_right _ (of_decide_eq_true (by first | (with_reducible assumption) | assumption) : a1.toNat ≤ 281474976710656)) (by omega)) (Below.refl _ _) (Nat.le_refl _) ?_; intro v102 w5 ho6 hb hg_ hnew_; clear hg_ hnew_; (first | rw [← Ny101.out] at ho6 | (simp only [Int.reduceToNat] at ho6; rw [← Ny101.out] at ho6)); have HO103 := Aside0.mk (Kd.R_lower ho6 (below_size (hbA_ HB.out))); replace HB := (bs_ HB hb); clear hb ho6))
   go_loopg [0, 6] k (fun kq v0 v6 w' => ∃ (x0_1 : Int) (x5_1 : List Int) (x6_1 : Int), v0 = .int .i64 x0_1 ∧ v6 = .int .i64 x6_1 ∧ Aside0 (impl_bytesOf.l0 kq x0_1 x5_1 x6_1 = some r) ∧ Aside0 (kq ≤ k) ∧ Aside0 (Kd.R (Kd.int .u8) 5 w' w.heap.size (fun _ => True) v102 x5_1) ∧ Aside0 (Below w.heap.size w w'))
   case atStart => exact ⟨(a0), (y101), (wrap64 (a1 - 1)), (by first | rfl | (simp; done) | (simp [*]; done)), (by first | rfl | (simp; done) | (simp [*]; done)), H', ⟨Nat.le_refl _⟩, ⟨kR_ HO103.out⟩, ⟨hbA_ HB.out⟩⟩
   case round =>
    clear H'; (try clear p2); (try clear c3); (try clear c3b0); (try clear c3b1); (try clear c4); (try clear c4b0); (try clear c4b1); (try clear p6)
    obtain ⟨x0_1, x5_1, x6_1, rfl, rfl, HA, HK1, HO_5, HB⟩ := hrel
    cases gk with
    | zero => exact absurd HA.out (by simp [impl_bytesOf.l0])
    | succ k1 =>
     have H := HA.out; clear HA
     simp only [impl_bytesOf.l0] at H
     by_cases c7 : x6_1 ≥ 0
     ·rw [if_pos c7] at H
      have c7b0 : decide (0 ≤ x6_1) = true := decide_eq_true c7
      clear c7
      by_cases c8 : 0 ≤ x6_1
      ·rw [if_pos c8] at H
       have c8b0 : decide (0 ≤ x6_1) = true := decide_eq_true c8
       clear c8
       by_cases c9 : x6_1 < (x5_1.length : Int)
       ·rw [if_pos c9] at H
        have c9b0 : decide (x6_1 < (x5_1.length : Int)) = true := decide_eq_true c9
        clear c9
        obtain ⟨y104, hy104⟩ : ∃ y_ : List Int, y_ = (x5_1.set (x6_1 : Int).toNat ((x0_1) % 256)) := ⟨_, rfl⟩
        (first | replace H := sb_ hy104 H | rw [← hy104] at H)
        have Ny104 := Aside0.mk hy104; clear hy104
        have H' := Aside0.mk H
        clear H
        have p10 : 0 ≤ (x6_1 : Int) := of_decide_eq_true (by first | (with_reducible assumption) | assumption)
        have q10 : (x6_1 : Int) < ((x5_1.length : Int) : Int) := of_decide_eq_true (by first | (with_reducible assumption) | assumption)
        obtain ⟨go10, co10, eo10, gb10, gl10, cl10, HG10⟩ := Kd.R_form HO_5.out (by omega)
        (first | cases eo10 | (injection eo10 with ea_ en_ ec_; (first | subst ea_ | (injection ea_ with ea_; subst ea_)); subst ec_; clear en_))
        have GB10 := Aside0.mk gb10; have GG10 := Aside0.mk HG10; clear gb10 gl10 HG10
        obtain ⟨hx10_0, hf10_0⟩ := Kd.R_celln 0 HO_5.out (x6_1 : Int) p10 q10
        replace p10 := eq_true p10
        replace q10 := eq_true q10
        have HP11 := Kd.R_putg HO_5.out (x6_1 : Int) ((x0_1) % 256)
        go_wp2_with (first | ((with_reducible refine gate_store (t := 5) (p := 19) rfl ?_); refine store_event (t := 5) (p := 19) (v := ?vo_w12) (w1 := (wr.setCell ⟨go10, (x6_1 : Int).toNat, none⟩ (.int .u8 ((x0_1) % 256)))) ?hg ?ho ?hn ?hr ?_; (case ho => rfl); (case hg => rfl); (case hn => rfl); (case hr => first | (go_simp; done) | (go_simp; rfl)); intro w12 hw; have hg : wr.grownBy w12 (some go10) := (by rw [hw]; exact HP11.2); have hp_ : Kd.R (Kd.int .u8) 5 w12 w.heap.size (fun _ => True) (.slice (some ⟨go10, 0, none⟩) x5_1.length co10) y104 := (by rw [hw, Ny104.out]; exact HP11.1); clear HP11; replace HO_5 := Aside0.mk (hp_); replace HB := Aside0.mk ((by rw [hw]; exact below_set (HB.out) GB10.out : Below w.heap.size w w12)); clear hg hw hp_))
        go_roundg k1
        case measure => have := HK1.out; omega
        case rel => exact ⟨(x0_1 / 256), (y104), (wrap64 (x6_1 - 1)), (by first | rfl | (simp; done) | (simp [*]; done)), (by first | rfl | (simp; done) | (simp [*]; done)), H', ⟨by have := HK1.out; omega⟩, ⟨kR_ HO_5.out⟩, ⟨hbA_ HB.out⟩⟩
       ·rw [if_neg c9] at H
        exact absurd H (by simp)
      ·rw [if_neg c8] at H
       exact absurd H (by simp)
     ·rw [if_neg c7] at H
      have c7b0 : decide (0 ≤ x6_1) = false := decide_eq_false c7
      clear c7
      obtain rfl := Option.some.inj H
      go_wp2
      go_ret
      exact ⟨_, by first | rfl | (simp [errW_none, errW_some] <;> rfl) | (simp [*, errW_none, errW_some] <;> rfl), kR_ HO_5.out, hbA_ HB.out⟩
  ·rw [if_neg c4] at H
   exact absurd H (by simp)
 ·rw [if_neg c3] at H
  exact absurd H (by simp)
def impl_BytesOf.f (k : Nat) (a0 : Int) (a1 : Int) : Option (List Int) := (impl_in.f a1 1 4).bind fun t105 => (if t105 = true then (if 0 ≤ (wrap64 (8 * a1)) then ((impl_in.f a0 0 (wrap64 ((shl .i64 1 (wrap64 (8 * a1))) - 1))).bind fun t106 => (if t106 = true then ((impl_bytesOf.f k a0 a1).bind fun t107 => (some t107)) else (some ([] : List Int)))) else (none)) else (some ([] : List Int)))
theorem impl_BytesOf.mono : ∀ a0 a1 k, LeO (impl_BytesOf.f k a0 a1) (impl_BytesOf.f (k + 1) a0 a1) := by
 intro a0 a1 k
 unfold impl_BytesOf.f
 repeat' first | (with_reducible first | apply impl_bytesOf.mono | exact LeO.refl _ | exact LeO.none _ | refine LeO.ite ?_ ?_ | refine LeO.bind ?_ fun _ => ?_) | apply impl_bytesOf.mono | exact LeO.none _ | refine LeO.ite ?_ ?_ | refine LeO.bind ?_ fun _ => ?_
set_option maxHeartbeats 8000000 in
set_option maxRecDepth 100000 in
theorem impl_BytesOf.calls (k : Nat) (a0 : Int) (a1 : Int) (r : List Int) (w : World) (h : impl_BytesOf.f k a0 a1 = some r) :
  Calls Try.prog 61 #[.int .i64 a0, .int .i64 a1] w fun e w' => ∃ v0_ : Value, e = .returned (v0_) ∧ Kd.R (Kd.int .u8) 5 w' w.heap.size (fun _ => True) v0_ r ∧ Below w.heap.size w w' := by
 have HB := Aside0.mk (Below.refl w.heap.size w)
 have H : ((impl_in.f a1 1 4).bind fun t105 => (if t105 = true then (if 0 ≤ (wrap64 (8 * a1)) then ((impl_in.f a0 0 (wrap64 ((shl .i64 1 (wrap64 (8 * a1))) - 1))).bind fun t106 => (if t106 = true then ((impl_bytesOf.f k a0 a1).bind fun t107 => (some t107)) else (some ([] : List Int)))) else (none)) else (some ([] : List Int)))) = some r := h
 clear h
 replace H := Option.bind_eq_some_iff.mp H
 obtain ⟨t105, A30, H⟩ := H
 (try dsimp only at H)
 have A3 := Aside0.mk A30; clear A30
 by_cases c4 : t105 = true
 ·subst c4
  rw [if_pos rfl] at H
  obtain ⟨ji5, hji5⟩ : ∃ j_ : Int, (wrap64 (8 * a1)) = j_ := ⟨_, rfl⟩
  (first | rw [hji5] at H | simp only [hji5] at H)
  (try rw [hji5] at A3)
  have hji5w : (IntKind.i64.wrap (8 * a1)) = ji5 := (i64_w _).trans hji5
  by_cases c6 : 0 ≤ (ji5)
  ·rw [if_pos c6] at H
   have c6b0 := eq_true c6
   have c6b1 : decide (0 ≤ (ji5)) = true := decide_eq_true c6
   clear c6
   obtain ⟨ji7, hji7⟩ : ∃ j_ : Int, (shl .i64 1 (ji5)) = j_ := ⟨_, rfl⟩
   (first | rw [hji7] at H | simp only [hji7] at H)
   (try rw [hji7] at A3)
   have hji7_ : (IntKind.i64.wrap (1 * 2 ^ min (ji5).toNat 64)) = ji7 := hji7
   have hji7z : (ji5) ≤ 64 → (IntKind.i64.wrap (1 * 2 ^ (ji5).toNat)) = ji7 := shl_small hji7
   have hji7u : (IntKind.i64.wrap (2 ^ min (ji5).toNat 64)) = ji7 := by have h_ := hji7_; rw [Int.one_mul] at h_; exact h_
   have hji7v : (ji5) ≤ 64 → (IntKind.i64.wrap (2 ^ (ji5).toNat)) = ji7 := fun hle_ => by have h_ := hji7z hle_; rw [Int.one_mul] at h_; exact h_
   have hji7y : (wrap64 (1 * 2 ^ min (ji5).toNat 64)) = ji7 := (i64_w _).symm.trans hji7_
   have hji7x : (ji5) ≤ 64 → (wrap64 (1 * 2 ^ (ji5).toNat)) = ji7 := fun h_ => (i64_w _).symm.trans (hji7z h_)
   replace H := Option.bind_eq_some_iff.mp H
   obtain ⟨t106, A80, H⟩ := H
   (try dsimp only at H)
   have A8 := Aside0.mk A80; clear A80
   by_cases c9 : t106 = true
   ·subst c9
    rw [if_pos rfl] at H
    replace H := Option.bind_eq_some_iff.mp H
    obtain ⟨t107, A100, H⟩ := H
    (try dsimp only at H)
    have A10 := Aside0.mk A100; clear A100
    obtain rfl := Option.some.inj H
    go_enter Try.func61, Try.ntmps61
    go_wp2_with (first | ((with_reducible refine gate_callee (f := 56) rfl ?_); refine goesL_ (some 6) rfl rfl Try.func56 (by kernel_rfl) rfl #[.int .i64 a1, .int .i64 1, .int .i64 4] rfl ar_ ?_; (with_reducible refine (impl_in.calls a1 1 4 true _ A3.out).mono ?_); rintro e w' ⟨rfl, ⟨nd, rfl⟩⟩; refine ⟨_, rfl, ?_⟩) | (go_at_call 56; (with_reducible refine (impl_in.calls a0 0 (wrap64 ((ji7) - 1)) true _ A8.out).mono ?_); rintro e w' ⟨rfl, ⟨nd, rfl⟩⟩) | ((with_reducible refine gate_callee (f := 94) rfl ?_); refine goesL_ (some 19) rfl rfl Try.func94 (by kernel_rfl) rfl #[.int .i64 a0, .int .i64 a1] rfl ar_ ?_; (with_reducible refine (impl_bytesOf.calls k a0 a1 t107 _ A10.out).mono ?_); rintro e w11 ⟨v108, rfl, ho0, hb⟩; refine ⟨_, rfl, ?_⟩; have HO109 := Aside0.mk (Kd.R_lower ho0 (below_size (hbA_ HB.out))); replace HB := (bs_ HB hb); (try clear hb); (try clear hb2); (try clear hk); (try clear hi); (try clear ho0)))
    go_ret
    exact ⟨_, by first | rfl | (simp [errW_none, errW_some] <;> rfl) | (simp only [← hji5, ← hji7]; first | rfl | (simp [errW_none, errW_some] <;> rfl)) | (simp [*, errW_none, errW_some] <;> rfl), kR_ HO109.out, hbA_ HB.out⟩
   ·replace c9 := Bool.eq_false_iff.mpr c9
    subst c9
    rw [if_neg (show ¬ (false = true) by decide)] at H
    obtain rfl := Option.some.inj H
    go_enter Try.func61, Try.ntmps61
    go_wp2_with (first | ((with_reducible refine gate_callee (f := 56) rfl ?_); refine goesL_ (some 6) rfl rfl Try.func56 (by kernel_rfl) rfl #[.int .i64 a1, .int .i64 1, .int .i64 4] rfl ar_ ?_; (with_reducible refine (impl_in.calls a1 1 4 true _ A3.out).mono ?_); rintro e w' ⟨rfl, ⟨nd, rfl⟩⟩; refine ⟨_, rfl, ?_⟩) | (go_at_call 56; (with_reducible refine (impl_in.calls a0 0 (wrap64 ((ji7) - 1)) false _ A8.out).mono ?_); rintro e w' ⟨rfl, ⟨nd, rfl⟩⟩))
    go_ret
    exact ⟨_, by first | rfl | (simp [errW_none, errW_some] <;> rfl) | (simp only [← hji5, ← hji7]; first | rfl | (simp [errW_none, errW_some] <;> rfl)) | (simp [*, errW_none, errW_some] <;> rfl), by first | exact Kd.R_nil _ _ _ _ _ | exact Kd.N_nil _ _ _ _ _ | exact Kd.V_nil _ _ _ _ _ | exact Kd.Q_nil _ _ _ _ _ | exact Kd.S_nil _ _ _ _ _, hbA_ HB.out⟩
  ·rw [if_neg c6] at H
   exact absurd H (by simp)
 ·replace c4 := Bool.eq_false_iff.mpr c4
  subst c4
  rw [if_neg (show ¬ (false = true) by decide)] at H
  obtain rfl := Option.some.inj H
  go_enter Try.func61, Try.ntmps61
  go_wp2_with (first | ((with_reducible refine gate_callee (f := 56) rfl ?_); refine goesL_ (some 6) rfl rfl Try.func56 (by kernel_rfl) rfl #[.int .i64 a1, .int .i64 1, .int .i64 4] rfl ar_ ?_; (with_reducible refine (impl_in.calls a1 1 4 false _ A3.out).mono ?_); rintro e w' ⟨rfl, ⟨nd, rfl⟩⟩; refine ⟨_, rfl, ?_⟩))
  go_ret
  exact ⟨_, by first | rfl | (simp [errW_none, errW_some] <;> rfl) | (simp [*, errW_none, errW_some] <;> rfl), by first | exact Kd.R_nil _ _ _ _ _ | exact Kd.N_nil _ _ _ _ _ | exact Kd.V_nil _ _ _ _ _ | exact Kd.Q_nil _ _ _ _ _ | exact Kd.S_nil _ _ _ _ _, hbA_ HB.out⟩
def laws_alive.f (k : Nat)  : Option (Bool) := (impl_BytesOf.f k 5 1).bind fun t110 => (if (t110.length : Int) = 1 then ((impl_BytesOf.f k 256 1).bind fun t113 => (some ((t113.length : Int) == 0))) else (some false))
theorem laws_alive.mono : ∀ k, LeO (laws_alive.f k ) (laws_alive.f (k + 1) ) := by
 intro  k
 unfold laws_alive.f
 repeat' first | (with_reducible first | apply impl_BytesOf.mono | exact LeO.refl _ | exact LeO.none _ | refine LeO.ite ?_ ?_ | refine LeO.bind ?_ fun _ => ?_) | apply impl_BytesOf.mono | exact LeO.none _ | refine LeO.ite ?_ ?_ | refine LeO.bind ?_ fun _ => ?_
set_option maxHeartbeats 8000000 in
set_option maxRecDepth 100000 in
theorem laws_alive.calls (k : Nat)  (r : Bool) (w : World) (h : laws_alive.f k  = some r) :
  Calls Try.prog 13 #[] w fun e w' => e = .returned (.bool r) ∧ Below w.heap.size w w' := by
 have HB := Aside0.mk (Below.refl w.heap.size w)
 have H : ((impl_BytesOf.f k 5 1).bind fun t110 => (if (t110.length : Int) = 1 then ((impl_BytesOf.f k 256 1).bind fun t113 => (some ((t113.length : Int) == 0))) else (some false))) = some r := h
 clear h
 replace H := Option.bind_eq_some_iff.mp H
 obtain ⟨t110, A10, H⟩ := H
 (try dsimp only at H)
 have A1 := Aside0.mk A10; clear A10
 by_cases c2 : (t110.length : Int) = 1
 ·rw [if_pos c2] at H
  have c2b0 : ((t110.length : Int) == 1) = true := beq_iff_eq.mpr c2
  have c2b1 : ((t110.length : Int) != 1) = false := bne_eq_false_iff_eq.mpr c2
  clear c2
  replace H := Option.bind_eq_some_iff.mp H
  obtain ⟨t113, A30, H⟩ := H
  (try dsimp only at H)
  have A3 := Aside0.mk A30; clear A30
  obtain rfl := Option.some.inj H
  go_enter Try.func13, Try.ntmps13
  go_wp2_with (first | ((with_reducible refine gate_callee (f := 61) rfl ?_); refine goesL_ (some 1) rfl rfl Try.func61 (by kernel_rfl) rfl #[.int .i64 5, .int .i64 1] rfl ar_ ?_; (with_reducible refine (impl_BytesOf.calls k 5 1 t110 _ A1.out).mono ?_); rintro e w4 ⟨v111, rfl, ho0, hb⟩; refine ⟨_, rfl, ?_⟩; have HO112 := Aside0.mk (Kd.R_lower ho0 (below_size (hbA_ HB.out))); replace HB := (bs_ HB hb); (try clear hb); (try clear hb2); (try clear hk); (try clear hi); (try clear ho0); obtain ⟨Ao5, co5, eo5⟩ := Kd.R_slice HO112.out; subst eo5) | (go_at_call 61; (with_reducible refine (impl_BytesOf.calls k 256 1 t113 _ A3.out).mono ?_); rintro e w6 ⟨v114, rfl, ho0, hb⟩; have HO115 := Aside0.mk (Kd.R_lower (Kd.R_new' ho0 (Kd.R_lt (kR_ HO112.out))) (below_size (hbA_ HB.out))); replace HO112 := Aside0.mk (Kd.R_elder' (kR_ HO112.out) (Kd.R_base ho0) hb); replace HB := (bs_ HB hb); (try clear hb); (try clear hb2); (try clear hk); (try clear hi); (try clear ho0); obtain ⟨Ao7, co7, eo7⟩ := Kd.R_slice HO115.out; subst eo7))
  go_ret
  exact ⟨by first | rfl | (simp [errW_none, errW_some] <;> rfl) | (simp [*, errW_none, errW_some] <;> rfl), hbA_ HB.out⟩
 ·rw [if_neg c2] at H
  have c2b0 : ((t110.length : Int) == 1) = false := beq_eq_false_iff_ne.mpr c2
  have c2b1 : ((t110.length : Int) != 1) = true := bne_iff_ne.mpr c2
  obtain rfl := Option.some.inj H
  go_enter Try.func13, Try.ntmps13
  go_wp2_with (first | ((with_reducible refine gate_callee (f := 61) rfl ?_); refine goesL_ (some 1) rfl rfl Try.func61 (by kernel_rfl) rfl #[.int .i64 5, .int .i64 1] rfl ar_ ?_; (with_reducible refine (impl_BytesOf.calls k 5 1 t110 _ A1.out).mono ?_); rintro e w8 ⟨v111, rfl, ho0, hb⟩; refine ⟨_, rfl, ?_⟩; have HO112 := Aside0.mk (Kd.R_lower ho0 (below_size (hbA_ HB.out))); replace HB := (bs_ HB hb); (try clear hb); (try clear hb2); (try clear hk); (try clear hi); (try clear ho0); obtain ⟨Ao9, co9, eo9⟩ := Kd.R_slice HO112.out; subst eo9))
  go_ret
  exact ⟨by first | rfl | (simp [errW_none, errW_some] <;> rfl) | (simp [*, errW_none, errW_some] <;> rfl), hbA_ HB.out⟩
def laws_sameBytes.f (l0 : List Int) (l1 : List Int) : Option (Bool) := some ((strOfNums l0).toList == (strOfNums l1).toList)
set_option maxHeartbeats 8000000 in
set_option maxRecDepth 100000 in
theorem laws_sameBytes.calls (A0 : Option Addr) (c0 : Nat) (l0 : List Int) (A1 : Option Addr) (c1 : Nat) (l1 : List Int) (r : Bool) (w : World) (hr0 : Kd.C (Kd.int .u8) w A0 l0.length l0) (hc0 : l0.length ≤ c0) (hr1 : Kd.C (Kd.int .u8) w A1 l1.length l1) (hc1 : l1.length ≤ c1) (h : laws_sameBytes.f l0 l1 = some r) :
  Calls Try.prog 15 #[.slice A0 l0.length c0, .slice A1 l1.length c1] w fun e w' => e = .returned (.bool r) ∧ Drawn0 w w' := by
 have HR0 := Aside0.mk hr0; have HC0 := Aside0.mk hc0; clear hr0 hc0; have HR1 := Aside0.mk hr1; have HC1 := Aside0.mk hc1; clear hr1 hc1
 have H : (some ((strOfNums l0).toList == (strOfNums l1).toList)) = some r := h
 clear h
 obtain rfl := Option.some.inj H
 have hcv3 := Kd.C_string (P := Try.prog) (A := A0) (c := c0) Try.underlying22 Try.underlying5 Try.underlying9 HR0.out
 have hcv4 := Kd.C_string (P := Try.prog) (A := A1) (c := c1) Try.underlying22 Try.underlying5 Try.underlying9 HR1.out
 go_enter Try.func15, Try.ntmps15
 go_wp2
 go_ret
 exact ⟨by first | rfl | (simp; done) | (simp [*]; done), by repeat (first | exact Drawn0.refl _ | apply Drawn0.step)⟩
def spec_l1In.f (a0 : Int) (a1 : Int) (a2 : Int) : Option (Bool) := if a0 ≥ a1 then (some (decide (a0 ≤ a2))) else (some false)
set_option maxHeartbeats 8000000 in
set_option maxRecDepth 100000 in
theorem spec_l1In.calls (a0 : Int) (a1 : Int) (a2 : Int) (r : Bool) (w : World) (h : spec_l1In.f a0 a1 a2 = some r) :
  Calls Try.prog 59 #[.int .i64 a0, .int .i64 a1, .int .i64 a2] w fun e w' => e = .returned (.bool r) ∧ Drawn0 w w' := by
 have H : (if a0 ≥ a1 then (some (decide (a0 ≤ a2))) else (some false)) = some r := h
 clear h
 by_cases c4 : a0 ≥ a1
 ·rw [if_pos c4] at H
  have c4b0 : decide (a1 ≤ a0) = true := decide_eq_true c4
  clear c4
  obtain rfl := Option.some.inj H
  go_enter Try.func59, Try.ntmps59
  go_wp2
  go_ret
  exact ⟨by first | rfl | (simp; done) | (simp [*]; done), by repeat (first | exact Drawn0.refl _ | apply Drawn0.step)⟩
 ·rw [if_neg c4] at H
  have c4b0 : decide (a1 ≤ a0) = false := decide_eq_false c4
  clear c4
  obtain rfl := Option.some.inj H
  go_enter Try.func59, Try.ntmps59
  go_wp2
  go_ret
  exact ⟨by first | rfl | (simp; done) | (simp [*]; done), by repeat (first | exact Drawn0.refl _ | apply Drawn0.step)⟩
mutual
def spec_EarOk.j0 : Nat → Bool → Int → Int → List Int → List (S96) → Option (Bool)
 | 0, _, _, _, _, _ => none
 | k + 1, x21, x117000, x117001, x117002, x117003 => if x21 = true then (some false) else (spec_EarOk.l0 k 0 x117000 x117001 x117002 x117003)
def spec_EarOk.l0 : Nat → Int → Int → Int → List Int → List (S96) → Option (Bool)
 | 0, _, _, _, _, _ => none
 | k + 1, x3, x117000, x117001, x117002, x117003 => if x3 < (x117003.length : Int) then (if 0 ≤ x3 then (if ((rd_T96 x117003 x3).f0) ≤ x117000 then (spec_EarOk.j2 k x3 true x117000 x117001 x117002 x117003) else (if ((rd_T96 x117003 x3).f0) ≥ (wrap64 ((wrap64 (x117000 + x117001)) - (x117002.length : Int))) then (spec_EarOk.j2 k x3 true x117000 x117001 x117002 x117003) else (if x3 > 0 then (if 0 ≤ (wrap64 (x3 - 1)) then (if (wrap64 (x3 - 1)) < (x117003.length : Int) then (spec_EarOk.j2 k x3 (decide (((rd_T96 x117003 (wrap64 (x3 - 1))).f0) ≥ ((rd_T96 x117003 x3).f0))) x117000 x117001 x117002 x117003) else (none)) else (none)) else (spec_EarOk.j2 k x3 false x117000 x117001 x117002 x117003)))) else (none)) else (some true)
def spec_EarOk.j2 : Nat → Int → Bool → Int → Int → List Int → List (S96) → Option (Bool)
 | 0, _, _, _, _, _, _ => none
 | k + 1, x3, x75, x117000, x117001, x117002, x117003 => if x75 = true then (some false) else (spec_EarOk.l0 k (wrap64 (x3 + 1)) x117000 x117001 x117002 x117003)
end
def spec_EarOk.f (k : Nat) (a0_0 : Int) (a0_1 : Int) (l0_2 : List Int) (l0_3 : List (S96)) : Option (Bool) := (spec_l1In.f a0_0 0 1000000).bind fun t117 => (if t117 = true then ((spec_l1In.f a0_1 1 32).bind fun t118 => (if t118 = true then (spec_EarOk.j0 k (decide ((l0_2.length : Int) > a0_1)) a0_0 a0_1 l0_2 l0_3) else (spec_EarOk.j0 k true a0_0 a0_1 l0_2 l0_3))) else (spec_EarOk.j0 k true a0_0 a0_1 l0_2 l0_3))
theorem spec_EarOk.mono_l : ∀ k, (∀ y0 y1 y2 y3 y4, LeO (spec_EarOk.j0 k y0 y1 y2 y3 y4) (spec_EarOk.j0 (k + 1) y0 y1 y2 y3 y4)) ∧ (∀ y0 y1 y2 y3 y4, LeO (spec_EarOk.l0 k y0 y1 y2 y3 y4) (spec_EarOk.l0 (k + 1) y0 y1 y2 y3 y4)) ∧ (∀ y0 y1 y2 y3 y4 y5, LeO (spec_EarOk.j2 k y0 y1 y2 y3 y4 y5) (spec_EarOk.j2 (k + 1) y0 y1 y2 y3 y4 y5))
 | 0 => ⟨fun _ _ _ _ _ r h => by simp [spec_EarOk.j0] at h, fun _ _ _ _ _ r h => by simp [spec_EarOk.l0] at h, fun _ _ _ _ _ _ r h => by simp [spec_EarOk.j2] at h⟩
 | k + 1 => by
  obtain ⟨ih0, ih1, ih2⟩ := spec_EarOk.mono_l k
  refine ⟨?_, ?_, ?_⟩
  ·intro y0 y1 y2 y3 y4
   unfold spec_EarOk.j0
   repeat' first | (with_reducible first | apply ih0 | apply ih1 | apply ih2 | exact LeO.refl _ | exact LeO.none _ | refine LeO.ite ?_ ?_ | refine LeO.bind ?_ fun _ => ?_) | apply ih0 | apply ih1 | apply ih2 | exact LeO.none _ | refine LeO.ite ?_ ?_ | refine LeO.bind ?_ fun _ => ?_
  ·intro y0 y1 y2 y3 y4
   unfold spec_EarOk.l0
   repeat' first | (with_reducible first | apply ih0 | apply ih1 | apply ih2 | exact LeO.refl _ | exact LeO.none _ | refine LeO.ite ?_ ?_ | refine LeO.bind ?_ fun _ => ?_) | apply ih0 | apply ih1 | apply ih2 | exact LeO.none _ | refine LeO.ite ?_ ?_ | refine LeO.bind ?_ fun _ => ?_
  ·intro y0 y1 y2 y3 y4 y5
   unfold spec_EarOk.j2
   repeat' first | (with_reducible first | apply ih0 | apply ih1 | apply ih2 | exact LeO.refl _ | exact LeO.none _ | refine LeO.ite ?_ ?_ | refine LeO.bind ?_ fun _ => ?_) | apply ih0 | apply ih1 | apply ih2 | exact LeO.none _ | refine LeO.ite ?_ ?_ | refine LeO.bind ?_ fun _ => ?_
theorem spec_EarOk.mono : ∀ a0 a1 a2 a3 k, LeO (spec_EarOk.f k a0 a1 a2 a3) (spec_EarOk.f (k + 1) a0 a1 a2 a3) := by
 intro a0 a1 a2 a3 k
 obtain ⟨ih0, ih1, ih2⟩ := spec_EarOk.mono_l k
 unfold spec_EarOk.f
 repeat' first | (with_reducible first | apply ih0 | apply ih1 | apply ih2 | exact LeO.refl _ | exact LeO.none _ | refine LeO.ite ?_ ?_ | refine LeO.bind ?_ fun _ => ?_) | apply ih0 | apply ih1 | apply ih2 | exact LeO.none _ | refine LeO.ite ?_ ?_ | refine LeO.bind ?_ fun _ => ?_
set_option maxHeartbeats 8000000 in
set_option maxRecDepth 100000 in
theorem spec_EarOk.calls (k : Nat) (a0_0 : Int) (a0_1 : Int) (A0_2 : Option Addr) (c0_2 : Nat) (l0_2 : List Int) (A0_3 : Option Addr) (c0_3 : Nat) (l0_3 : List (S96)) (r : Bool) (w : World) (hr0_2 : Kd.C (Kd.int .u8) w A0_2 l0_2.length l0_2) (hc0_2 : l0_2.length ≤ c0_2) (hr0_3 : Kd.C k96 w A0_3 l0_3.length l0_3) (hc0_3 : l0_3.length ≤ c0_3) (h : spec_EarOk.f k a0_0 a0_1 l0_2 l0_3 = some r) :
  Calls Try.prog 66 #[.agg #[.int .i64 a0_0, .int .i64 a0_1, .slice A0_2 l0_2.length c0_2, .slice A0_3 l0_3.length c0_3]] w fun e w' => e = .returned (.bool r) ∧ Below w.heap.size w w' := by
 have hu48 := Try.underlying48; have HR0_2 := Aside0.mk hr0_2; have HC0_2 := Aside0.mk hc0_2; clear hr0_2 hc0_2; have HR0_3 := Aside0.mk hr0_3; have HC0_3 := Aside0.mk hc0_3; clear hr0_3 hc0_3
 have HB := Aside0.mk (Below.refl w.heap.size w)
 have H : ((spec_l1In.f a0_0 0 1000000).bind fun t117 => (if t117 = true then ((spec_l1In.f a0_1 1 32).bind fun t118 => (if t118 = true then (spec_EarOk.j0 k (decide ((l0_2.length : Int) > a0_1)) a0_0 a0_1 l0_2 l0_3) else (spec_EarOk.j0 k true a0_0 a0_1 l0_2 l0_3))) else (spec_EarOk.j0 k true a0_0 a0_1 l0_2 l0_3))) = some r := h
 clear h; have HC2 := Aside0.mk H; clear H
 go_enter Try.func66, Try.ntmps66
 go_upto_region 1 with (first | ((with_reducible refine gate_dst (N := 1) rfl ?_); (try (refine gate_guard (by rfl) ?_; dsimp only)); refine box_ (N := 1) (cs := #[.int .i64 a0_0, .int .i64 a0_1, .slice A0_2 l0_2.length c0_2, .slice A0_3 l0_3.length c0_3]) (t := 48) (fun gb116 hg w3 hbox hb => ?_); have BK116 := Aside0.mk (hbox); have GW116 := ge_ hg HB; have GE116 := ge_ hg HB; replace HB := (bs_ HB hb); clear hb hbox hg))
 repeat (go_quiet (first | ((with_reducible refine gate_dst (N := 1) rfl ?_); (try (refine gate_guard (by rfl) ?_; dsimp only)); refine box_ (N := 1) (cs := #[.int .i64 a0_0, .int .i64 a0_1, .slice A0_2 l0_2.length c0_2, .slice A0_3 l0_3.length c0_3]) (t := 48) (fun gb116 hg w3 hbox hb => ?_); have BK116 := Aside0.mk (hbox); have GW116 := ge_ hg HB; have GE116 := ge_ hg HB; replace HB := (bs_ HB hb); clear hb hbox hg)); go_upto_region 1 with (first | ((with_reducible refine gate_dst (N := 1) rfl ?_); (try (refine gate_guard (by rfl) ?_; dsimp only)); refine box_ (N := 1) (cs := #[.int .i64 a0_0, .int .i64 a0_1, .slice A0_2 l0_2.length c0_2, .slice A0_3 l0_3.length c0_3]) (t := 48) (fun gb116 hg w3 hbox hb => ?_); have BK116 := Aside0.mk (hbox); have GW116 := ge_ hg HB; have GE116 := ge_ hg HB; replace HB := (bs_ HB hb); clear hb hbox hg)))
 (try simp only [Act.put, List.setIfInBounds_toArray, List.set_cons_zero, List.set_cons_succ])
 go_cut [21] (fun v21 wc => ∃ (kq : Nat) (x21_1 : Bool), v21 = .bool x21_1 ∧ Aside0 (spec_EarOk.j0 kq x21_1 a0_0 a0_1 l0_2 l0_3 = some r) ∧ Aside0 (kq ≤ k) ∧ Aside0 (wc.heap[gb116]? = some (.cells #[.int .i64 a0_0, .int .i64 a0_1, (.slice A0_2 l0_2.length c0_2), (.slice A0_3 l0_3.length c0_3)] 48 (0, 0))) ∧ Aside0 (Below w.heap.size w wc))
 case first =>
  have H := HC2.out; clear HC2
  replace H := Option.bind_eq_some_iff.mp H
  obtain ⟨t117, A40, H⟩ := H
  (try dsimp only at H)
  have A4 := Aside0.mk A40; clear A40
  by_cases c5 : t117 = true
  ·subst c5
   rw [if_pos rfl] at H
   replace H := Option.bind_eq_some_iff.mp H
   obtain ⟨t118, A60, H⟩ := H
   (try dsimp only at H)
   have A6 := Aside0.mk A60; clear A60
   by_cases c7 : t118 = true
   ·subst c7
    rw [if_pos rfl] at H
    have H' := Aside0.mk H
    clear H; have Z8 := zz4 BK116
    go_wp2_with (first | (go_at_call 59; (with_reducible refine (spec_l1In.calls a0_0 0 1000000 true _ A4.out).mono ?_); rintro e w' ⟨rfl, ⟨nd, rfl⟩⟩; (try first | exact ⟨rfl, _, World.drewN_drewN _ _ _⟩ | exact ⟨rfl, _, Eq.trans (World.drewN_drewN _ _ _) (congrArg (World.drewN _) (Nat.add_assoc _ _ _))⟩)) | (go_at_call 59; (with_reducible refine (spec_l1In.calls a0_1 1 32 true _ A6.out).mono ?_); rintro e w' ⟨rfl, ⟨nd, rfl⟩⟩; (try first | exact ⟨rfl, _, World.drewN_drewN _ _ _⟩ | exact ⟨rfl, _, Eq.trans (World.drewN_drewN _ _ _) (congrArg (World.drewN _) (Nat.add_assoc _ _ _))⟩)))
    repeat (go_quiet (first | (go_at_call 59; (with_reducible refine (spec_l1In.calls a0_0 0 1000000 true _ A4.out).mono ?_); rintro e w' ⟨rfl, ⟨nd, rfl⟩⟩; (try first | exact ⟨rfl, _, World.drewN_drewN _ _ _⟩ | exact ⟨rfl, _, Eq.trans (World.drewN_drewN _ _ _) (congrArg (World.drewN _) (Nat.add_assoc _ _ _))⟩)) | (go_at_call 59; (with_reducible refine (spec_l1In.calls a0_1 1 32 true _ A6.out).mono ?_); rintro e w' ⟨rfl, ⟨nd, rfl⟩⟩; (try first | exact ⟨rfl, _, World.drewN_drewN _ _ _⟩ | exact ⟨rfl, _, Eq.trans (World.drewN_drewN _ _ _) (congrArg (World.drewN _) (Nat.add_assoc _ _ _))⟩))); try go_wp2_with (first | (go_at_call 59; (with_reducible refine (spec_l1In.calls a0_0 0 1000000 true _ A4.out).mono ?_); rintro e w' ⟨rfl, ⟨nd, rfl⟩⟩; (try first | exact ⟨rfl, _, World.drewN_drewN _ _ _⟩ | exact ⟨rfl, _, Eq.trans (World.drewN_drewN _ _ _) (congrArg (World.drewN _) (Nat.add_assoc _ _ _))⟩)) | (go_at_call 59; (with_reducible refine (spec_l1In.calls a0_1 1 32 true _ A6.out).mono ?_); rintro e w' ⟨rfl, ⟨nd, rfl⟩⟩; (try first | exact ⟨rfl, _, World.drewN_drewN _ _ _⟩ | exact ⟨rfl, _, Eq.trans (World.drewN_drewN _ _ _) (congrArg (World.drewN _) (Nat.add_assoc _ _ _))⟩))))
    go_meet
    case rel => exact ⟨_, (decide ((l0_2.length : Int) > a0_1)), (by first | rfl | (simp; done) | (simp [*]; done)), H', ⟨by first | omega | exact Nat.le_refl _⟩, ⟨by refine kb_ ?_; exact BK116.out⟩, ⟨hbA_ HB.out⟩⟩
   ·replace c7 := Bool.eq_false_iff.mpr c7
    subst c7
    rw [if_neg (show ¬ (false = true) by decide)] at H
    have H' := Aside0.mk H
    clear H; have Z9 := zz4 BK116
    go_wp2_with (first | (go_at_call 59; (with_reducible refine (spec_l1In.calls a0_0 0 1000000 true _ A4.out).mono ?_); rintro e w' ⟨rfl, ⟨nd, rfl⟩⟩; (try first | exact ⟨rfl, _, World.drewN_drewN _ _ _⟩ | exact ⟨rfl, _, Eq.trans (World.drewN_drewN _ _ _) (congrArg (World.drewN _) (Nat.add_assoc _ _ _))⟩)) | (go_at_call 59; (with_reducible refine (spec_l1In.calls a0_1 1 32 false _ A6.out).mono ?_); rintro e w' ⟨rfl, ⟨nd, rfl⟩⟩; (try first | exact ⟨rfl, _, World.drewN_drewN _ _ _⟩ | exact ⟨rfl, _, Eq.trans (World.drewN_drewN _ _ _) (congrArg (World.drewN _) (Nat.add_assoc _ _ _))⟩)))
    repeat (go_quiet (first | (go_at_call 59; (with_reducible refine (spec_l1In.calls a0_0 0 1000000 true _ A4.out).mono ?_); rintro e w' ⟨rfl, ⟨nd, rfl⟩⟩; (try first | exact ⟨rfl, _, World.drewN_drewN _ _ _⟩ | exact ⟨rfl, _, Eq.trans (World.drewN_drewN _ _ _) (congrArg (World.drewN _) (Nat.add_assoc _ _ _))⟩)) | (go_at_call 59; (with_reducible refine (spec_l1In.calls a0_1 1 32 false _ A6.out).mono ?_); rintro e w' ⟨rfl, ⟨nd, rfl⟩⟩; (try first | exact ⟨rfl, _, World.drewN_drewN _ _ _⟩ | exact ⟨rfl, _, Eq.trans (World.drewN_drewN _ _ _) (congrArg (World.drewN _) (Nat.add_assoc _ _ _))⟩))); try go_wp2_with (first | (go_at_call 59; (with_reducible refine (spec_l1In.calls a0_0 0 1000000 true _ A4.out).mono ?_); rintro e w' ⟨rfl, ⟨nd, rfl⟩⟩; (try first | exact ⟨rfl, _, World.drewN_drewN _ _ _⟩ | exact ⟨rfl, _, Eq.trans (World.drewN_drewN _ _ _) (congrArg (World.drewN _) (Nat.add_assoc _ _ _))⟩)) | (go_at_call 59; (with_reducible refine (spec_l1In.calls a0_1 1 32 false _ A6.out).mono ?_); rintro e w' ⟨rfl, ⟨nd, rfl⟩⟩; (try first | exact ⟨rfl, _, World.drewN_drewN _ _ _⟩ | exact ⟨rfl, _, Eq.trans (World.drewN_drewN _ _ _) (congrArg (World.drewN _) (Nat.add_assoc _ _ _))⟩))))
    go_meet
    case rel => exact ⟨_, (true), (by first | rfl | (simp; done) | (simp [*]; done)), H', ⟨by first | omega | exact Nat.le_refl _⟩, ⟨by refine kb_ ?_; exact BK116.out⟩, ⟨hbA_ HB.out⟩⟩
  ·replace c5 := Bool.eq_false_iff.mpr c5
   subst c5
   rw [if_neg (show ¬ (false = true) by decide)] at H
   have H' := Aside0.mk H
   clear H; have Z10 := zz4 BK116
   go_wp2_with (first | (go_at_call 59; (with_reducible refine (spec_l1In.calls a0_0 0 1000000 false _ A4.out).mono ?_); rintro e w' ⟨rfl, ⟨nd, rfl⟩⟩; (try first | exact ⟨rfl, _, World.drewN_drewN _ _ _⟩ | exact ⟨rfl, _, Eq.trans (World.drewN_drewN _ _ _) (congrArg (World.drewN _) (Nat.add_assoc _ _ _))⟩)))
   repeat (go_quiet (first | (go_at_call 59; (with_reducible refine (spec_l1In.calls a0_0 0 1000000 false _ A4.out).mono ?_); rintro e w' ⟨rfl, ⟨nd, rfl⟩⟩; (try first | exact ⟨rfl, _, World.drewN_drewN _ _ _⟩ | exact ⟨rfl, _, Eq.trans (World.drewN_drewN _ _ _) (congrArg (World.drewN _) (Nat.add_assoc _ _ _))⟩))); try go_wp2_with (first | (go_at_call 59; (with_reducible refine (spec_l1In.calls a0_0 0 1000000 false _ A4.out).mono ?_); rintro e w' ⟨rfl, ⟨nd, rfl⟩⟩; (try first | exact ⟨rfl, _, World.drewN_drewN _ _ _⟩ | exact ⟨rfl, _, Eq.trans (World.drewN_drewN _ _ _) (congrArg (World.drewN _) (Nat.add_assoc _ _ _))⟩))))
   go_meet
   case rel => exact ⟨_, (true), (by first | rfl | (simp; done) | (simp [*]; done)), H', ⟨by first | omega | exact Nat.le_refl _⟩, ⟨by refine kb_ ?_; exact BK116.out⟩, ⟨hbA_ HB.out⟩⟩
 case rest =>
  clear HC2; (try clear p2); (try clear c5); (try clear c6); (try clear c7); (try clear Z10); (try clear Z8); (try clear Z9)
  obtain ⟨kq, x21_1, rfl, HA, HJ1, BK116, HB⟩ := hcut
  cases kq with
  | zero => exact absurd HA.out (by simp [spec_EarOk.j0])
  | succ kj1 =>
   have H := HA.out; clear HA
   simp only [spec_EarOk.j0] at H
   by_cases c11 : x21_1 = true
   ·subst c11
    rw [if_pos rfl] at H
    obtain rfl := Option.some.inj H
    go_wp2
    repeat (go_quiet (fail); try go_wp2)
    go_ret
    exact ⟨by first | rfl | (simp [errW_none, errW_some] <;> rfl) | (simp [*, errW_none, errW_some] <;> rfl), hbA_ HB.out⟩
   ·replace c11 := Bool.eq_false_iff.mpr c11
    subst c11
    rw [if_neg (show ¬ (false = true) by decide)] at H
    have H' := Aside0.mk H
    clear H
    go_wp2
    repeat (go_quiet (fail); try go_wp2)
    go_loopg [3] kj1 (fun kq v3 w' => ∃ (x3_2 : Int), v3 = .int .i64 x3_2 ∧ Aside0 (spec_EarOk.l0 kq x3_2 a0_0 a0_1 l0_2 l0_3 = some r) ∧ Aside0 (kq ≤ kj1) ∧ Aside0 (w'.heap[gb116]? = some (.cells #[.int .i64 a0_0, .int .i64 a0_1, (.slice A0_2 l0_2.length c0_2), (.slice A0_3 l0_3.length c0_3)] 48 (0, 0))) ∧ Aside0 (Below w.heap.size w w'))
    case atStart => exact ⟨(0), (by first | rfl | (simp; done) | (simp [*]; done)), H', ⟨Nat.le_refl _⟩, ⟨by refine kb_ ?_; exact BK116.out⟩, ⟨hbA_ HB.out⟩⟩
    case round =>
     clear H'; (try clear c1); (try clear p2); (try clear c5); (try clear c6); (try clear c7); (try clear c11); (try clear Z10); (try clear Z8); (try clear Z9); (try clear p2)
     obtain ⟨x3_2, rfl, HA, HK2, BK116, HB⟩ := hrel
     cases gk with
     | zero => exact absurd HA.out (by simp [spec_EarOk.l0])
     | succ k2 =>
      have H := HA.out; clear HA
      simp only [spec_EarOk.l0] at H
      by_cases c12 : x3_2 < (l0_3.length : Int)
      ·rw [if_pos c12] at H
       have c12b0 : decide (x3_2 < (l0_3.length : Int)) = true := decide_eq_true c12
       clear c12; have HC13 := Aside0.mk H; clear H; have Z14 := zz4 BK116
       go_upto_region 6 with (fail)
       repeat (go_quiet (fail); go_upto_region 6 with (fail))
       go_cut [75] (fun v75 wc => ∃ (kq : Nat) (x75_12 : Bool), v75 = .bool x75_12 ∧ Aside0 (spec_EarOk.j2 kq x3_2 x75_12 a0_0 a0_1 l0_2 l0_3 = some r) ∧ Aside0 (kq ≤ k2) ∧ Aside0 (wc.heap[gb116]? = some (.cells #[.int .i64 a0_0, .int .i64 a0_1, (.slice A0_2 l0_2.length c0_2), (.slice A0_3 l0_3.length c0_3)] 48 (0, 0))) ∧ Aside0 (Below w.heap.size w wc))
       case first =>
        have H := HC13.out; clear HC13
        by_cases c15 : 0 ≤ x3_2
        ·rw [if_pos c15] at H
         have c15b0 : decide (0 ≤ x3_2) = true := decide_eq_true c15
         clear c15
         (first | rw [c15b0] | (simp only [i64_w, i32_w]; rw [c15b0]) | skip)
         by_cases c16 : ((rd_T96 l0_3 x3_2).f0) ≤ a0_0
         ·rw [if_pos c16] at H
          have c16b0 : decide (((rd_T96 l0_3 x3_2).f0) ≤ a0_0) = true := decide_eq_true c16
          clear c16
          have H' := Aside0.mk H
          clear H; have Z17 := zz4 BK116
          have p119 : 0 ≤ (x3_2 : Int) := of_decide_eq_true (by first | (with_reducible assumption) | assumption)
          have q119 : x3_2 < (l0_3.length : Int) := of_decide_eq_true (by first | (with_reducible assumption) | assumption)
          obtain ⟨ad119, e119, hx119_0, hx119_1⟩ := at_T96 HR0_3.out x3_2 p119 q119
          cases e119
          replace hx119_0 := cc_ HB hx119_0
          replace hx119_1 := cc_ HB hx119_1
          replace p119 := eq_true p119
          replace q119 := eq_true q119
          go_wp2
          repeat (go_quiet (fail); try go_wp2)
          go_meet
          case rel => exact ⟨_, (true), (by first | rfl | (simp; done) | (simp [*]; done)), H', ⟨by have := HJ1.out; have := HK2.out; first | omega | exact Nat.le_refl _⟩, ⟨by refine kb_ ?_; exact BK116.out⟩, ⟨hbA_ HB.out⟩⟩
         ·rw [if_neg c16] at H
          have c16b0 : decide (((rd_T96 l0_3 x3_2).f0) ≤ a0_0) = false := decide_eq_false c16
          clear c16
          by_cases c18 : ((rd_T96 l0_3 x3_2).f0) ≥ (wrap64 ((wrap64 (a0_0 + a0_1)) - (l0_2.length : Int)))
          ·rw [if_pos c18] at H
           have c18b0 : decide ((wrap64 ((wrap64 (a0_0 + a0_1)) - (l0_2.length : Int))) ≤ ((rd_T96 l0_3 x3_2).f0)) = true := decide_eq_true c18
           clear c18
           have H' := Aside0.mk H
           clear H; have Z19 := zz4 BK116
           have p119 : 0 ≤ (x3_2 : Int) := of_decide_eq_true (by first | (with_reducible assumption) | assumption)
           have q119 : x3_2 < (l0_3.length : Int) := of_decide_eq_true (by first | (with_reducible assumption) | assumption)
           obtain ⟨ad119, e119, hx119_0, hx119_1⟩ := at_T96 HR0_3.out x3_2 p119 q119
           cases e119
           replace hx119_0 := cc_ HB hx119_0
           replace hx119_1 := cc_ HB hx119_1
           replace p119 := eq_true p119
           replace q119 := eq_true q119
           have p120 : 0 ≤ (x3_2 : Int) := of_decide_eq_true (by first | (with_reducible assumption) | assumption)
           have q120 : x3_2 < (l0_3.length : Int) := of_decide_eq_true (by first | (with_reducible assumption) | assumption)
           obtain ⟨ad120, e120, hx120_0, hx120_1⟩ := at_T96 HR0_3.out x3_2 p120 q120
           obtain rfl : ad119 = ad120 := (by injection e120)
           replace hx120_0 := cc_ HB hx120_0
           replace hx120_1 := cc_ HB hx120_1
           replace p120 := eq_true p120
           replace q120 := eq_true q120
           go_wp2
           repeat (go_quiet (fail); try go_wp2)
           go_meet
           case rel => exact ⟨_, (true), (by first | rfl | (simp; done) | (simp [*]; done)), H', ⟨by have := HJ1.out; have := HK2.out; first | omega | exact Nat.le_refl _⟩, ⟨by refine kb_ ?_; exact BK116.out⟩, ⟨hbA_ HB.out⟩⟩
          ·rw [if_neg c18] at H
           have c18b0 : decide ((wrap64 ((wrap64 (a0_0 + a0_1)) - (l0_2.length : Int))) ≤ ((rd_T96 l0_3 x3_2).f0)) = false := decide_eq_false c18
           clear c18
           by_cases c20 : x3_2 > 0
           ·rw [if_pos c20] at H
            have c20b0 : decide (0 < x3_2) = true := decide_eq_true c20
            clear c20
            obtain ⟨ji21, hji21⟩ : ∃ j_ : Int, (wrap64 (x3_2 - 1)) = j_ := ⟨_, rfl⟩
            (first | rw [hji21] at H | simp only [hji21] at H)
            have hji21w : (IntKind.i64.wrap (x3_2 - 1)) = ji21 := (i64_w _).trans hji21
            by_cases c22 : 0 ≤ (ji21)
            ·rw [if_pos c22] at H
             have c22b0 : decide (0 ≤ (ji21)) = true := decide_eq_true c22
             clear c22
             by_cases c23 : (ji21) < (l0_3.length : Int)
             ·rw [if_pos c23] at H
              have c23b0 : decide ((ji21) < (l0_3.length : Int)) = true := decide_eq_true c23
              clear c23
              have H' := Aside0.mk H
              clear H; have Z24 := zz4 BK116
              have p119 : 0 ≤ (x3_2 : Int) := of_decide_eq_true (by first | (with_reducible assumption) | assumption)
              have q119 : x3_2 < (l0_3.length : Int) := of_decide_eq_true (by first | (with_reducible assumption) | assumption)
              obtain ⟨ad119, e119, hx119_0, hx119_1⟩ := at_T96 HR0_3.out x3_2 p119 q119
              cases e119
              replace hx119_0 := cc_ HB hx119_0
              replace hx119_1 := cc_ HB hx119_1
              replace p119 := eq_true p119
              replace q119 := eq_true q119
              have p120 : 0 ≤ (x3_2 : Int) := of_decide_eq_true (by first | (with_reducible assumption) | assumption)
              have q120 : x3_2 < (l0_3.length : Int) := of_decide_eq_true (by first | (with_reducible assumption) | assumption)
              obtain ⟨ad120, e120, hx120_0, hx120_1⟩ := at_T96 HR0_3.out x3_2 p120 q120
              obtain rfl : ad119 = ad120 := (by injection e120)
              replace hx120_0 := cc_ HB hx120_0
              replace hx120_1 := cc_ HB hx120_1
              replace p120 := eq_true p120
              replace q120 := eq_true q120
              have p121 : 0 ≤ ((ji21) : Int) := of_decide_eq_true (by first | (with_reducible assumption) | assumption)
              have q121 : (ji21) < (l0_3.length : Int) := of_decide_eq_true (by first | (with_reducible assumption) | assumption)
              obtain ⟨ad121, e121, hx121_0, hx121_1⟩ := at_T96 HR0_3.out (ji21) p121 q121
              obtain rfl : ad119 = ad121 := (by injection e121)
              replace hx121_0 := cc_ HB hx121_0
              replace hx121_1 := cc_ HB hx121_1
              replace p121 := eq_true p121
              replace q121 := eq_true q121
              have p122 : 0 ≤ (x3_2 : Int) := of_decide_eq_true (by first | (with_reducible assumption) | assumption)
              have q122 : x3_2 < (l0_3.length : Int) := of_decide_eq_true (by first | (with_reducible assumption) | assumption)
              obtain ⟨ad122, e122, hx122_0, hx122_1⟩ := at_T96 HR0_3.out x3_2 p122 q122
              obtain rfl : ad119 = ad122 := (by injection e122)
              replace hx122_0 := cc_ HB hx122_0
              replace hx122_1 := cc_ HB hx122_1
              replace p122 := eq_true p122
              replace q122 := eq_true q122
              go_wp2
              repeat (go_quiet (fail); try go_wp2)
              first | go_meet | ((try simp only [← hji21]); go_meet)
              case rel => exact ⟨_, (decide (((rd_T96 l0_3 (ji21)).f0) ≥ ((rd_T96 l0_3 x3_2).f0))), (by first | rfl | (simp; done) | (simp only [← hji21] <;> (first | rfl | simp)) | (simp [*]; done)), H', ⟨by have := HJ1.out; have := HK2.out; first | omega | exact Nat.le_refl _⟩, ⟨by refine kb_ ?_; exact BK116.out⟩, ⟨hbA_ HB.out⟩⟩
             ·rw [if_neg c23] at H
              exact absurd H (by simp)
            ·rw [if_neg c22] at H
             exact absurd H (by simp)
           ·rw [if_neg c20] at H
            have c20b0 : decide (0 < x3_2) = false := decide_eq_false c20
            clear c20
            have H' := Aside0.mk H
            clear H; have Z25 := zz4 BK116
            have p119 : 0 ≤ (x3_2 : Int) := of_decide_eq_true (by first | (with_reducible assumption) | assumption)
            have q119 : x3_2 < (l0_3.length : Int) := of_decide_eq_true (by first | (with_reducible assumption) | assumption)
            obtain ⟨ad119, e119, hx119_0, hx119_1⟩ := at_T96 HR0_3.out x3_2 p119 q119
            cases e119
            replace hx119_0 := cc_ HB hx119_0
            replace hx119_1 := cc_ HB hx119_1
            replace p119 := eq_true p119
            replace q119 := eq_true q119
            have p120 : 0 ≤ (x3_2 : Int) := of_decide_eq_true (by first | (with_reducible assumption) | assumption)
            have q120 : x3_2 < (l0_3.length : Int) := of_decide_eq_true (by first | (with_reducible assumption) | assumption)
            obtain ⟨ad120, e120, hx120_0, hx120_1⟩ := at_T96 HR0_3.out x3_2 p120 q120
            obtain rfl : ad119 = ad120 := (by injection e120)
            replace hx120_0 := cc_ HB hx120_0
            replace hx120_1 := cc_ HB hx120_1
            replace p120 := eq_true p120
            replace q120 := eq_true q120
            go_wp2
            repeat (go_quiet (fail); try go_wp2)
            go_meet
            case rel => exact ⟨_, (false), (by first | rfl | (simp; done) | (simp [*]; done)), H', ⟨by have := HJ1.out; have := HK2.out; first | omega | exact Nat.le_refl _⟩, ⟨by refine kb_ ?_; exact BK116.out⟩, ⟨hbA_ HB.out⟩⟩
        ·rw [if_neg c15] at H
         exact absurd H (by simp)
       case rest =>
        clear HC13; (try clear c1); (try clear p1); (try clear q1); (try clear hx1); (try clear c2); (try clear p2); (try clear c5); (try clear c6); (try clear p6); (try clear c7); (try clear c11); (try clear p11); (try clear q11); (try clear hx11); (try clear c12); (try clear c12b0); (try clear p12); (try clear q12); (try clear hx12); (try clear c15); (try clear c15b0); (try clear c16); (try clear c16b0); (try clear c18); (try clear c18b0); (try clear c20); (try clear c20b0); (try clear c22); (try clear c22b0); (try clear c23); (try clear c23b0); (try clear Z10); (try clear Z14); (try clear Z17); (try clear Z19); (try clear Z24); (try clear Z25); (try clear Z8); (try clear Z9); (try clear hx119_0); (try clear hx119_1); (try clear hx120_0); (try clear hx120_1); (try clear hx121_0); (try clear hx121_1); (try clear hx122_0); (try clear hx122_1); (try clear p119); (try clear p120); (try clear p121); (try clear p122); (try clear p2); (try clear q119); (try clear q120); (try clear q121); (try clear q122)
        obtain ⟨kq, x75_12, rfl, HA, HJ12, BK116, HB⟩ := hcut
        cases kq with
        | zero => exact absurd HA.out (by simp [spec_EarOk.j2])
        | succ kj12 =>
         have H := HA.out; clear HA
         simp only [spec_EarOk.j2] at H
         by_cases c26 : x75_12 = true
         ·subst c26
          rw [if_pos rfl] at H
          obtain rfl := Option.some.inj H
          go_wp2
          repeat (go_quiet (fail); try go_wp2)
          go_ret
          exact ⟨by first | rfl | (simp [errW_none, errW_some] <;> rfl) | (simp [*, errW_none, errW_some] <;> rfl), hbA_ HB.out⟩
         ·replace c26 := Bool.eq_false_iff.mpr c26
          subst c26
          rw [if_neg (show ¬ (false = true) by decide)] at H
          have H' := Aside0.mk H
          clear H
          go_wp2
          repeat (go_quiet (fail); try go_wp2)
          go_roundg kj12
          case measure => have := HJ1.out; have := HK2.out; have := HJ12.out; omega
          case rel => exact ⟨(wrap64 (x3_2 + 1)), (by first | rfl | (simp; done) | (simp [*]; done)), H', ⟨by have := HJ1.out; have := HK2.out; have := HJ12.out; omega⟩, ⟨by refine kb_ ?_; exact BK116.out⟩, ⟨hbA_ HB.out⟩⟩
      ·rw [if_neg c12] at H
       have c12b0 : decide (x3_2 < (l0_3.length : Int)) = false := decide_eq_false c12
       clear c12
       obtain rfl := Option.some.inj H
       have Z27 := zz4 BK116
       go_wp2
       repeat (go_quiet (fail); try go_wp2)
       go_ret
       exact ⟨by first | rfl | (simp [errW_none, errW_some] <;> rfl) | (simp [*, errW_none, errW_some] <;> rfl), hbA_ HB.out⟩
def spec_EarFree.f (k : Nat) (a0_0 : Int) (a0_1 : Int) (l0_2 : List Int) (l0_3 : List (S96)) : Option (Int) := (spec_EarOk.f k a0_0 a0_1 l0_2 l0_3).bind fun t124 => (if t124 = true then (some (wrap64 (a0_1 - (l0_2.length : Int)))) else (some 0))
theorem spec_EarFree.mono : ∀ a0 a1 a2 a3 k, LeO (spec_EarFree.f k a0 a1 a2 a3) (spec_EarFree.f (k + 1) a0 a1 a2 a3) := by
 intro a0 a1 a2 a3 k
 unfold spec_EarFree.f
 repeat' first | (with_reducible first | apply spec_EarOk.mono | exact LeO.refl _ | exact LeO.none _ | refine LeO.ite ?_ ?_ | refine LeO.bind ?_ fun _ => ?_) | apply spec_EarOk.mono | exact LeO.none _ | refine LeO.ite ?_ ?_ | refine LeO.bind ?_ fun _ => ?_
set_option maxHeartbeats 8000000 in
set_option maxRecDepth 100000 in
theorem spec_EarFree.calls (k : Nat) (a0_0 : Int) (a0_1 : Int) (A0_2 : Option Addr) (c0_2 : Nat) (l0_2 : List Int) (A0_3 : Option Addr) (c0_3 : Nat) (l0_3 : List (S96)) (r : Int) (w : World) (hr0_2 : Kd.C (Kd.int .u8) w A0_2 l0_2.length l0_2) (hc0_2 : l0_2.length ≤ c0_2) (hr0_3 : Kd.C k96 w A0_3 l0_3.length l0_3) (hc0_3 : l0_3.length ≤ c0_3) (h : spec_EarFree.f k a0_0 a0_1 l0_2 l0_3 = some r) :
  Calls Try.prog 67 #[.agg #[.int .i64 a0_0, .int .i64 a0_1, .slice A0_2 l0_2.length c0_2, .slice A0_3 l0_3.length c0_3]] w fun e w' => e = .returned (.int .i64 r) ∧ Below w.heap.size w w' := by
 have hu48 := Try.underlying48; have HR0_2 := Aside0.mk hr0_2; have HC0_2 := Aside0.mk hc0_2; clear hr0_2 hc0_2; have HR0_3 := Aside0.mk hr0_3; have HC0_3 := Aside0.mk hc0_3; clear hr0_3 hc0_3
 have HB := Aside0.mk (Below.refl w.heap.size w)
 have H : ((spec_EarOk.f k a0_0 a0_1 l0_2 l0_3).bind fun t124 => (if t124 = true then (some (wrap64 (a0_1 - (l0_2.length : Int)))) else (some 0))) = some r := h
 clear h
 replace H := Option.bind_eq_some_iff.mp H
 obtain ⟨t124, A20, H⟩ := H
 (try dsimp only at H)
 have A2 := Aside0.mk A20; clear A20
 by_cases c3 : t124 = true
 ·subst c3
  rw [if_pos rfl] at H
  obtain rfl := Option.some.inj H
  go_enter Try.func67, Try.ntmps67
  go_wp2_with (first | ((with_reducible refine gate_dst (N := 1) rfl ?_); refine box_ (N := 1) (cs := #[.int .i64 a0_0, .int .i64 a0_1, .slice A0_2 l0_2.length c0_2, .slice A0_3 l0_3.length c0_3]) (t := 48) (fun gb123 hg w4 hbox hb => ?_); have BK123 := Aside0.mk (hbox); have GW123 := ge_ hg HB; have GE123 := ge_ hg HB; replace HB := (bs_ HB hb); clear hb hbox hg; have Z5 := zz4 BK123) | ((with_reducible refine gate_callee (f := 66) rfl ?_); refine goesL_ (some 4) rfl rfl Try.func66 (by kernel_rfl) rfl #[.agg #[.int .i64 a0_0, .int .i64 a0_1, .slice A0_2 l0_2.length c0_2, .slice A0_3 l0_3.length c0_3]] rfl ar_ ?_; (with_reducible refine (spec_EarOk.calls k a0_0 a0_1 _ _ l0_2 _ _ l0_3 true _ ?side1 ?side2 ?side3 ?side4 A2.out).mono ?_); (case side1 => exact kC_ (Kd.C_below HR0_2.out HB.out)); (case side2 => exact HC0_2.out); (case side3 => exact kC_ (Kd.C_below HR0_3.out HB.out)); (case side4 => exact HC0_3.out); rintro e w6 ⟨rfl, hb⟩; refine ⟨_, rfl, ?_⟩; replace BK123 := (bbA_ BK123 hb); replace HB := (bs_ HB hb); (try clear hb); (try clear hb2); (try clear hk); (try clear hi); have Z7 := zz4 BK123))
  go_ret
  exact ⟨by first | rfl | (simp [errW_none, errW_some] <;> rfl) | (simp [*, errW_none, errW_some] <;> rfl), hbA_ HB.out⟩
 ·replace c3 := Bool.eq_false_iff.mpr c3
  subst c3
  rw [if_neg (show ¬ (false = true) by decide)] at H
  obtain rfl := Option.some.inj H
  go_enter Try.func67, Try.ntmps67
  go_wp2_with (first | ((with_reducible refine gate_dst (N := 1) rfl ?_); refine box_ (N := 1) (cs := #[.int .i64 a0_0, .int .i64 a0_1, .slice A0_2 l0_2.length c0_2, .slice A0_3 l0_3.length c0_3]) (t := 48) (fun gb123 hg w8 hbox hb => ?_); have BK123 := Aside0.mk (hbox); have GW123 := ge_ hg HB; have GE123 := ge_ hg HB; replace HB := (bs_ HB hb); clear hb hbox hg; have Z9 := zz4 BK123) | ((with_reducible refine gate_callee (f := 66) rfl ?_); refine goesL_ (some 4) rfl rfl Try.func66 (by kernel_rfl) rfl #[.agg #[.int .i64 a0_0, .int .i64 a0_1, .slice A0_2 l0_2.length c0_2, .slice A0_3 l0_3.length c0_3]] rfl ar_ ?_; (with_reducible refine (spec_EarOk.calls k a0_0 a0_1 _ _ l0_2 _ _ l0_3 false _ ?side1 ?side2 ?side3 ?side4 A2.out).mono ?_); (case side1 => exact kC_ (Kd.C_below HR0_2.out HB.out)); (case side2 => exact HC0_2.out); (case side3 => exact kC_ (Kd.C_below HR0_3.out HB.out)); (case side4 => exact HC0_3.out); rintro e w10 ⟨rfl, hb⟩; refine ⟨_, rfl, ?_⟩; replace BK123 := (bbA_ BK123 hb); replace HB := (bs_ HB hb); (try clear hb); (try clear hb2); (try clear hk); (try clear hi)))
  go_ret
  exact ⟨by first | rfl | (simp [errW_none, errW_some] <;> rfl) | (simp [*, errW_none, errW_some] <;> rfl), hbA_ HB.out⟩
mutual
def spec_l12Put.l0 : Nat → List (S96) → List (S96) → Bool → Int → Int → Int → Option ((List (S96)))
 | 0, _, _, _, _, _, _ => none
 | k + 1, x0, x5, x6, x7, x126000, x126001 => if x7 < (x0.length : Int) then (if x6 = true then (spec_l12Put.j1 k x0 x5 x6 x7 false x126000 x126001) else (if 0 ≤ x7 then (spec_l12Put.j1 k x0 x5 x6 x7 (decide (x126000 < ((rd_T96 x0 x7).f0))) x126000 x126001) else (none))) else (if x6 = true then (some x5) else (if x5.length < 8796093022208 then (some (x5 ++ [(⟨x126000, x126001⟩ : S96)])) else (none)))
def spec_l12Put.j1 : Nat → List (S96) → List (S96) → Bool → Int → Bool → Int → Int → Option ((List (S96)))
 | 0, _, _, _, _, _, _, _ => none
 | k + 1, x0, x5, x6, x7, x26, x126000, x126001 => if x26 = true then (if x5.length < 8796093022208 then (spec_l12Put.j2 k x0 (x5 ++ [(⟨x126000, x126001⟩ : S96)]) true x7 x126000 x126001) else (none)) else (spec_l12Put.j2 k x0 x5 x6 x7 x126000 x126001)
def spec_l12Put.j2 : Nat → List (S96) → List (S96) → Bool → Int → Int → Int → Option ((List (S96)))
 | 0, _, _, _, _, _, _ => none
 | k + 1, x0, x5, x6, x7, x126000, x126001 => if 0 ≤ x7 then (if x7 < (x0.length : Int) then (if x126000 = ((rd_T96 x0 x7).f0) then (if x5.length < 8796093022208 then (spec_l12Put.l0 k x0 (x5 ++ [(⟨(rd_T96 x0 x7).f0, (rd_T96 x0 x7).f1⟩ : S96)]) true (wrap64 (x7 + 1)) x126000 x126001) else (none)) else (if x5.length < 8796093022208 then (spec_l12Put.l0 k x0 (x5 ++ [(⟨(rd_T96 x0 x7).f0, (rd_T96 x0 x7).f1⟩ : S96)]) x6 (wrap64 (x7 + 1)) x126000 x126001) else (none))) else (none)) else (none)
end
def spec_l12Put.f (k : Nat) (l0 : List (S96)) (a1_0 : Int) (a1_1 : Int) : Option ((List (S96))) := spec_l12Put.l0 k l0 (([] : List (S96))) false 0 a1_0 a1_1
theorem spec_l12Put.mono_l : ∀ k, (∀ y0 y1 y2 y3 y4 y5, LeO (spec_l12Put.l0 k y0 y1 y2 y3 y4 y5) (spec_l12Put.l0 (k + 1) y0 y1 y2 y3 y4 y5)) ∧ (∀ y0 y1 y2 y3 y4 y5 y6, LeO (spec_l12Put.j1 k y0 y1 y2 y3 y4 y5 y6) (spec_l12Put.j1 (k + 1) y0 y1 y2 y3 y4 y5 y6)) ∧ (∀ y0 y1 y2 y3 y4 y5, LeO (spec_l12Put.j2 k y0 y1 y2 y3 y4 y5) (spec_l12Put.j2 (k + 1) y0 y1 y2 y3 y4 y5))
 | 0 => ⟨fun _ _ _ _ _ _ r h => by simp [spec_l12Put.l0] at h, fun _ _ _ _ _ _ _ r h => by simp [spec_l12Put.j1] at h, fun _ _ _ _ _ _ r h => by simp [spec_l12Put.j2] at h⟩
 | k + 1 => by
  obtain ⟨ih0, ih1, ih2⟩ := spec_l12Put.mono_l k
  refine ⟨?_, ?_, ?_⟩
  ·intro y0 y1 y2 y3 y4 y5
   unfold spec_l12Put.l0
   repeat' first | (with_reducible first | apply ih0 | apply ih1 | apply ih2 | exact LeO.refl _ | exact LeO.none _ | refine LeO.ite ?_ ?_ | refine LeO.bind ?_ fun _ => ?_) | apply ih0 | apply ih1 | apply ih2 | exact LeO.none _ | refine LeO.ite ?_ ?_ | refine LeO.bind ?_ fun _ => ?_
  ·intro y0 y1 y2 y3 y4 y5 y6
   unfold spec_l12Put.j1
   repeat' first | (with_reducible first | apply ih0 | apply ih1 | apply ih2 | exact LeO.refl _ | exact LeO.none _ | refine LeO.ite ?_ ?_ | refine LeO.bind ?_ fun _ => ?_) | apply ih0 | apply ih1 | apply ih2 | exact LeO.none _ | refine LeO.ite ?_ ?_ | refine LeO.bind ?_ fun _ => ?_
  ·intro y0 y1 y2 y3 y4 y5
   unfold spec_l12Put.j2
   repeat' first | (with_reducible first | apply ih0 | apply ih1 | apply ih2 | exact LeO.refl _ | exact LeO.none _ | refine LeO.ite ?_ ?_ | refine LeO.bind ?_ fun _ => ?_) | apply ih0 | apply ih1 | apply ih2 | exact LeO.none _ | refine LeO.ite ?_ ?_ | refine LeO.bind ?_ fun _ => ?_
theorem spec_l12Put.mono : ∀ a0 a1 a2 k, LeO (spec_l12Put.f k a0 a1 a2) (spec_l12Put.f (k + 1) a0 a1 a2) := by
 intro a0 a1 a2 k
 obtain ⟨ih0, ih1, ih2⟩ := spec_l12Put.mono_l k
 unfold spec_l12Put.f
 repeat' first | (with_reducible first | apply ih0 | apply ih1 | apply ih2 | exact LeO.refl _ | exact LeO.none _ | refine LeO.ite ?_ ?_ | refine LeO.bind ?_ fun _ => ?_) | apply ih0 | apply ih1 | apply ih2 | exact LeO.none _ | refine LeO.ite ?_ ?_ | refine LeO.bind ?_ fun _ => ?_
set_option maxHeartbeats 8000000 in
set_option maxRecDepth 100000 in
theorem spec_l12Put.calls (k : Nat) (A0 : Option Addr) (c0 : Nat) (l0 : List (S96)) (a1_0 : Int) (a1_1 : Int) (r : List (S96)) (w : World) (hr0 : Kd.C k96 w A0 l0.length l0) (hc0 : l0.length ≤ c0) (h : spec_l12Put.f k l0 a1_0 a1_1 = some r) :
  Calls Try.prog 68 #[.slice A0 l0.length c0, .agg #[.int .i64 a1_0, .int .u8 a1_1]] w fun e w' => ∃ v0_ : Value, e = .returned (v0_) ∧ Kd.R k96 96 w' w.heap.size (fun _ => True) v0_ r ∧ Below w.heap.size w w' := by
 have hu96 := Try.underlying96; have HR0 := Aside0.mk hr0; have HC0 := Aside0.mk hc0; clear hr0 hc0
 have HB := Aside0.mk (Below.refl w.heap.size w)
 have H : (spec_l12Put.l0 k l0 (([] : List (S96))) false 0 a1_0 a1_1) = some r := h
 clear h
 obtain ⟨y126, hy126⟩ : ∃ y_ : List (S96), y_ = (([] : List (S96))) := ⟨_, rfl⟩
 (first | replace H := sb_ hy126 H | rw [← hy126] at H)
 have Ny126 := Aside0.mk hy126; clear hy126
 have H' := Aside0.mk H
 clear H
 go_enter Try.func68, Try.ntmps68
 go_wp2_with (first | ((with_reducible refine gate_dst (N := 3) rfl ?_); refine box_ (N := 3) (cs := #[.int .i64 a1_0, .int .u8 a1_1]) (t := 96) (fun gb125 hg w3 hbox hb => ?_); have BK125 := Aside0.mk (hbox); have GW125 := ge_ hg HB; have GE125 := ge_ hg HB; replace HB := (bs_ HB hb); clear hb hbox hg) | ((with_reducible refine gate_dst (N := 8) rfl ?_); refine Kd.R_lit k96 _ 96 ?hg (N := 8) ?hd (xs := ([] : List (S96))) (inner := []) (ok := fun _ => True) (okp := fun _ => True) ?hr ?hp (fun _ hk => hk) trivial (Below.refl _ _) (Nat.le_refl _) (by simp) ?_; (case hd => rfl); (case hg => rfl); (case hr => first | (go_simp; done) | (go_simp; rfl)); (case hp => exact (Reps.none _ _)); intro v127 w4 ho5 hb hg_ hnew_; clear hg_ hnew_; (first | rw [← Ny126.out] at ho5 | (simp only [Int.reduceToNat] at ho5; rw [← Ny126.out] at ho5)); have HO128 := Aside0.mk (Kd.R_lower (nbR_ ho5 BK125) (below_size (hbA_ HB.out))); replace BK125 := (bbA_ BK125 hb); replace HB := (bs_ HB hb); clear hb ho5))
 repeat (go_quiet (first | ((with_reducible refine gate_dst (N := 3) rfl ?_); refine box_ (N := 3) (cs := #[.int .i64 a1_0, .int .u8 a1_1]) (t := 96) (fun gb125 hg w3 hbox hb => ?_); have BK125 := Aside0.mk (hbox); have GW125 := ge_ hg HB; have GE125 := ge_ hg HB; replace HB := (bs_ HB hb); clear hb hbox hg) | ((with_reducible refine gate_dst (N := 8) rfl ?_); refine Kd.R_lit k96 _ 96 ?hg (N := 8) ?hd (xs := ([] : List (S96))) (inner := []) (ok := fun _ => True) (okp := fun _ => True) ?hr ?hp (fun _ hk => hk) trivial (Below.refl _ _) (Nat.le_refl _) (by simp) ?_; (case hd => rfl); (case hg => rfl); (case hr => first | (go_simp; done) | (go_simp; rfl)); (case hp => exact (Reps.none _ _)); intro v127 w4 ho5 hb hg_ hnew_; clear hg_ hnew_; (first | rw [← Ny126.out] at ho5 | (simp only [Int.reduceToNat] at ho5; rw [← Ny126.out] at ho5)); have HO128 := Aside0.mk (Kd.R_lower (nbR_ ho5 BK125) (below_size (hbA_ HB.out))); replace BK125 := (bbA_ BK125 hb); replace HB := (bs_ HB hb); clear hb ho5)); try go_wp2_with (first | ((with_reducible refine gate_dst (N := 3) rfl ?_); refine box_ (N := 3) (cs := #[.int .i64 a1_0, .int .u8 a1_1]) (t := 96) (fun gb125 hg w3 hbox hb => ?_); have BK125 := Aside0.mk (hbox); have GW125 := ge_ hg HB; have GE125 := ge_ hg HB; replace HB := (bs_ HB hb); clear hb hbox hg) | ((with_reducible refine gate_dst (N := 8) rfl ?_); refine Kd.R_lit k96 _ 96 ?hg (N := 8) ?hd (xs := ([] : List (S96))) (inner := []) (ok := fun _ => True) (okp := fun _ => True) ?hr ?hp (fun _ hk => hk) trivial (Below.refl _ _) (Nat.le_refl _) (by simp) ?_; (case hd => rfl); (case hg => rfl); (case hr => first | (go_simp; done) | (go_simp; rfl)); (case hp => exact (Reps.none _ _)); intro v127 w4 ho5 hb hg_ hnew_; clear hg_ hnew_; (first | rw [← Ny126.out] at ho5 | (simp only [Int.reduceToNat] at ho5; rw [← Ny126.out] at ho5)); have HO128 := Aside0.mk (Kd.R_lower (nbR_ ho5 BK125) (below_size (hbA_ HB.out))); replace BK125 := (bbA_ BK125 hb); replace HB := (bs_ HB hb); clear hb ho5)))
 go_loopg [5, 6, 7] k (fun kq v5 v6 v7 w' => ∃ (x5_1 : List (S96)) (x6_1 : Bool) (x7_1 : Int), v6 = .bool x6_1 ∧ v7 = .int .i64 x7_1 ∧ Aside0 (spec_l12Put.l0 kq l0 x5_1 x6_1 x7_1 a1_0 a1_1 = some r) ∧ Aside0 (kq ≤ k) ∧ Aside0 (Kd.R k96 96 w' w.heap.size (fun k_ => k_ ≠ gb125) v5 x5_1) ∧ Aside0 (w'.heap[gb125]? = some (.cells #[.int .i64 a1_0, .int .u8 a1_1] 96 (0, 0))) ∧ Aside0 (Below w.heap.size w w'))
 case atStart => exact ⟨(y126), (false), (0), (by first | rfl | (simp; done) | (simp [*]; done)), (by first | rfl | (simp; done) | (simp [*]; done)), H', ⟨Nat.le_refl _⟩, ⟨by refine kR_ ?_; exact Kd.R_mono HO128.out (fun _ hk => hk.2)⟩, ⟨by refine kb_ ?_; exact BK125.out⟩, ⟨hbA_ HB.out⟩⟩
 case round =>
  clear H'; (try clear p2)
  obtain ⟨x5_1, x6_1, x7_1, rfl, rfl, HA, HK1, HO_5, BK125, HB⟩ := hrel
  cases gk with
  | zero => exact absurd HA.out (by simp [spec_l12Put.l0])
  | succ k1 =>
   have H := HA.out; clear HA
   simp only [spec_l12Put.l0] at H
   by_cases c6 : x7_1 < (l0.length : Int)
   ·rw [if_pos c6] at H
    have c6b0 : decide (x7_1 < (l0.length : Int)) = true := decide_eq_true c6
    clear c6; have HC7 := Aside0.mk H; clear H
    go_upto_region 6 with (fail)
    repeat (go_quiet (fail); go_upto_region 6 with (fail))
    go_cut [26] (fun v26 wc => ∃ (kq : Nat) (x26_6 : Bool), v26 = .bool x26_6 ∧ Aside0 (spec_l12Put.j1 kq l0 x5_1 x6_1 x7_1 x26_6 a1_0 a1_1 = some r) ∧ Aside0 (kq ≤ k1) ∧ Aside0 (Kd.R k96 96 wc w.heap.size (fun k_ => k_ ≠ gb125) u5 x5_1) ∧ Aside0 (wc.heap[gb125]? = some (.cells #[.int .i64 a1_0, .int .u8 a1_1] 96 (0, 0))) ∧ Aside0 (Below w.heap.size w wc))
    case first =>
     have H := HC7.out; clear HC7
     by_cases c8 : x6_1 = true
     ·subst c8
      rw [if_pos rfl] at H
      have H' := Aside0.mk H
      clear H
      go_wp2
      repeat (go_quiet (fail); try go_wp2)
      go_meet
      case rel => exact ⟨_, (false), (by first | rfl | (simp; done) | (simp [*]; done)), H', ⟨by have := HK1.out; first | omega | exact Nat.le_refl _⟩, ⟨kR_ HO_5.out⟩, ⟨by refine kb_ ?_; exact BK125.out⟩, ⟨hbA_ HB.out⟩⟩
     ·replace c8 := Bool.eq_false_iff.mpr c8
      subst c8
      rw [if_neg (show ¬ (false = true) by decide)] at H
      by_cases c9 : 0 ≤ x7_1
      ·rw [if_pos c9] at H
       have c9b0 : decide (0 ≤ x7_1) = true := decide_eq_true c9
       clear c9
       (first | rw [c9b0] | (simp only [i64_w, i32_w]; rw [c9b0]) | skip)
       have H' := Aside0.mk H
       clear H; have Z10 := zz2 BK125
       have p129 : 0 ≤ (x7_1 : Int) := of_decide_eq_true (by first | (with_reducible assumption) | assumption)
       have q129 : x7_1 < (l0.length : Int) := of_decide_eq_true (by first | (with_reducible assumption) | assumption)
       obtain ⟨ad129, e129, hx129_0, hx129_1⟩ := at_T96 HR0.out x7_1 p129 q129
       cases e129
       replace hx129_0 := cc_ HB hx129_0
       replace hx129_1 := cc_ HB hx129_1
       replace p129 := eq_true p129
       replace q129 := eq_true q129
       go_wp2
       repeat (go_quiet (fail); try go_wp2)
       go_meet
       case rel => exact ⟨_, (decide (a1_0 < ((rd_T96 l0 x7_1).f0))), (by first | rfl | (simp; done) | (simp [*]; done)), H', ⟨by have := HK1.out; first | omega | exact Nat.le_refl _⟩, ⟨kR_ HO_5.out⟩, ⟨by refine kb_ ?_; exact BK125.out⟩, ⟨hbA_ HB.out⟩⟩
      ·rw [if_neg c9] at H
       exact absurd H (by simp)
    case rest =>
     clear HC7; (try clear p1); (try clear q1); (try clear hx1); (try clear p2); (try clear c6); (try clear c6b0); (try clear c8); (try clear c9); (try clear c9b0); (try clear Z10); (try clear hx129_0); (try clear hx129_1); (try clear p129); (try clear p2); (try clear q129)
     obtain ⟨kq, x26_6, rfl, HA, HJ6, HO_5, BK125, HB⟩ := hcut
     cases kq with
     | zero => exact absurd HA.out (by simp [spec_l12Put.j1])
     | succ kj6 =>
      have H := HA.out; clear HA
      simp only [spec_l12Put.j1] at H
      have HC11 := Aside0.mk H; clear H
      go_upto_if 26 with (fail)
      repeat (go_quiet (fail); go_upto_if 26 with (fail))
      go_cut [5, 6] (fun v5 v6 wc => ∃ (kq : Nat) (x5_10 : List (S96)) (x6_10 : Bool), v6 = .bool x6_10 ∧ Aside0 (spec_l12Put.j2 kq l0 x5_10 x6_10 x7_1 a1_0 a1_1 = some r) ∧ Aside0 (kq ≤ kj6) ∧ Aside0 (Kd.R k96 96 wc w.heap.size (fun k_ => k_ ≠ gb125) v5 x5_10) ∧ Aside0 (wc.heap[gb125]? = some (.cells #[.int .i64 a1_0, .int .u8 a1_1] 96 (0, 0))) ∧ Aside0 (Below w.heap.size w wc))
      case first =>
       have H := HC11.out; clear HC11
       by_cases c12 : x26_6 = true
       ·subst c12
        rw [if_pos rfl] at H
        by_cases c13 : x5_1.length < 8796093022208
        ·rw [if_pos c13] at H
         have LMc13 := Aside0.mk c13; clear c13
         obtain ⟨y130, hy130⟩ : ∃ y_ : List (S96), y_ = (x5_1 ++ [(⟨a1_0, a1_1⟩ : S96)]) := ⟨_, rfl⟩
         (first | replace H := sb_ hy130 H | rw [← hy130] at H)
         have Ny130 := Aside0.mk hy130; clear hy130
         have H' := Aside0.mk H
         clear H; have Z14 := zz2 BK125
         go_wp2_with (first | ((with_reducible refine gate_builtin (b := .append) (xs := #[.tmp 27, .tmp 29]) rfl ?_); at_builtin; refine Kd.R_append k96 (w0 := w) w.heap.size rfl (.tmp 27) (.tmp 29) 46 96 (.agg #[(.int .i64 0), (.int .u8 0)]) 16 rfl Try.underlying46 info96 rfl (by decide) (by omega) u5 x5_1 (⟨a1_0, a1_1⟩ : S96) [.int .i64 a1_0, .int .u8 a1_1] (fun k_ => k_ ≠ gb125) (fun _ => False) rfl rfl ?aP (fun _ hk => hk.elim) ?aF ?aO ?aB ?aS ?aL ?_; (case aP => exact k96_mkM _ _ _ (⟨a1_0, a1_1⟩ : S96)); (case aB => exact (hbA_ HB.out)); (case aF => exact (fun k_ hk => fb_ BK125 k_ hk)); (case aO => exact (kR_ HO_5.out)); (case aS => exact (below_size (hbA_ HB.out))); (case aL => have := LMc13.out; omega); intro v131 w15 ho hb hg hat; rw [← Ny130.out] at ho; replace BK125 := (bgA_ BK125 hg (Kd.R_away HO_5.out (fun _ hk => hk))); replace HB := Aside0.mk (hb); have HO132 := Aside0.mk (ho); clear HO_5; clear ho hb hg hat))
         repeat (go_quiet (first | ((with_reducible refine gate_builtin (b := .append) (xs := #[.tmp 27, .tmp 29]) rfl ?_); at_builtin; refine Kd.R_append k96 (w0 := w) w.heap.size rfl (.tmp 27) (.tmp 29) 46 96 (.agg #[(.int .i64 0), (.int .u8 0)]) 16 rfl Try.underlying46 info96 rfl (by decide) (by omega) u5 x5_1 (⟨a1_0, a1_1⟩ : S96) [.int .i64 a1_0, .int .u8 a1_1] (fun k_ => k_ ≠ gb125) (fun _ => False) rfl rfl ?aP (fun _ hk => hk.elim) ?aF ?aO ?aB ?aS ?aL ?_; (case aP => exact k96_mkM _ _ _ (⟨a1_0, a1_1⟩ : S96)); (case aB => exact (hbA_ HB.out)); (case aF => exact (fun k_ hk => fb_ BK125 k_ hk)); (case aO => exact (kR_ HO_5.out)); (case aS => exact (below_size (hbA_ HB.out))); (case aL => have := LMc13.out; omega); intro v131 w15 ho hb hg hat; rw [← Ny130.out] at ho; replace BK125 := (bgA_ BK125 hg (Kd.R_away HO_5.out (fun _ hk => hk))); replace HB := Aside0.mk (hb); have HO132 := Aside0.mk (ho); clear HO_5; clear ho hb hg hat)); try go_wp2_with (first | ((with_reducible refine gate_builtin (b := .append) (xs := #[.tmp 27, .tmp 29]) rfl ?_); at_builtin; refine Kd.R_append k96 (w0 := w) w.heap.size rfl (.tmp 27) (.tmp 29) 46 96 (.agg #[(.int .i64 0), (.int .u8 0)]) 16 rfl Try.underlying46 info96 rfl (by decide) (by omega) u5 x5_1 (⟨a1_0, a1_1⟩ : S96) [.int .i64 a1_0, .int .u8 a1_1] (fun k_ => k_ ≠ gb125) (fun _ => False) rfl rfl ?aP (fun _ hk => hk.elim) ?aF ?aO ?aB ?aS ?aL ?_; (case aP => exact k96_mkM _ _ _ (⟨a1_0, a1_1⟩ : S96)); (case aB => exact (hbA_ HB.out)); (case aF => exact (fun k_ hk => fb_ BK125 k_ hk)); (case aO => exact (kR_ HO_5.out)); (case aS => exact (below_size (hbA_ HB.out))); (case aL => have := LMc13.out; omega); intro v131 w15 ho hb hg hat; rw [← Ny130.out] at ho; replace BK125 := (bgA_ BK125 hg (Kd.R_away HO_5.out (fun _ hk => hk))); replace HB := Aside0.mk (hb); have HO132 := Aside0.mk (ho); clear HO_5; clear ho hb hg hat)))
         go_meet
         case rel => exact ⟨_, (y130), (true), (by first | rfl | (simp; done) | (simp [*]; done)), H', ⟨by have := HK1.out; have := HJ6.out; first | omega | exact Nat.le_refl _⟩, ⟨kR_ HO132.out⟩, ⟨by refine kb_ ?_; exact BK125.out⟩, ⟨hbA_ HB.out⟩⟩
        ·rw [if_neg c13] at H
         exact absurd H (by simp)
       ·replace c12 := Bool.eq_false_iff.mpr c12
        subst c12
        rw [if_neg (show ¬ (false = true) by decide)] at H
        have H' := Aside0.mk H
        clear H
        go_wp2
        repeat (go_quiet (fail); try go_wp2)
        go_meet
        case rel => exact ⟨_, (x5_1), (x6_1), (by first | rfl | (simp; done) | (simp [*]; done)), H', ⟨by have := HK1.out; have := HJ6.out; first | omega | exact Nat.le_refl _⟩, ⟨kR_ HO_5.out⟩, ⟨by refine kb_ ?_; exact BK125.out⟩, ⟨hbA_ HB.out⟩⟩
      case rest =>
       clear HC11; (try clear c1); (try clear p1); (try clear q1); (try clear hx1); (try clear p2); (try clear c6); (try clear c6b0); (try clear c8); (try clear c9); (try clear c9b0); (try clear c12); (try clear p12); (try clear q12); (try clear hx12); (try clear c13); (try clear Z10); (try clear Z14); (try clear hx129_0); (try clear hx129_1); (try clear p1); (try clear p129); (try clear p2); (try clear q1); (try clear q129)
       obtain ⟨kq, x5_10, x6_10, rfl, HA, HJ10, HO_5, BK125, HB⟩ := hcut
       cases kq with
       | zero => exact absurd HA.out (by simp [spec_l12Put.j2])
       | succ kj10 =>
        have H := HA.out; clear HA
        simp only [spec_l12Put.j2] at H
        by_cases c16 : 0 ≤ x7_1
        ·rw [if_pos c16] at H
         have c16b0 : decide (0 ≤ x7_1) = true := decide_eq_true c16
         clear c16
         by_cases c17 : x7_1 < (l0.length : Int)
         ·rw [if_pos c17] at H
          have c17b0 : decide (x7_1 < (l0.length : Int)) = true := decide_eq_true c17
          clear c17
          by_cases c18 : a1_0 = ((rd_T96 l0 x7_1).f0)
          ·rw [if_pos c18] at H
           have c18b0 : (a1_0 == ((rd_T96 l0 x7_1).f0)) = true := beq_iff_eq.mpr c18
           have c18b1 : (a1_0 != ((rd_T96 l0 x7_1).f0)) = false := bne_eq_false_iff_eq.mpr c18
           clear c18
           by_cases c19 : x5_10.length < 8796093022208
           ·rw [if_pos c19] at H
            have LMc19 := Aside0.mk c19; clear c19
            obtain ⟨y135, hy135⟩ : ∃ y_ : List (S96), y_ = (x5_10 ++ [(⟨(rd_T96 l0 x7_1).f0, (rd_T96 l0 x7_1).f1⟩ : S96)]) := ⟨_, rfl⟩
            (first | replace H := sb_ hy135 H | rw [← hy135] at H)
            have Ny135 := Aside0.mk hy135; clear hy135
            have H' := Aside0.mk H
            clear H; have Z20 := zz2 BK125
            have p133 : 0 ≤ (x7_1 : Int) := of_decide_eq_true (by first | (with_reducible assumption) | assumption)
            have q133 : x7_1 < (l0.length : Int) := of_decide_eq_true (by first | (with_reducible assumption) | assumption)
            obtain ⟨ad133, e133, hx133_0, hx133_1⟩ := at_T96 HR0.out x7_1 p133 q133
            cases e133
            replace hx133_0 := cc_ HB hx133_0
            replace hx133_1 := cc_ HB hx133_1
            replace p133 := eq_true p133
            replace q133 := eq_true q133
            have p134 : 0 ≤ (x7_1 : Int) := of_decide_eq_true (by first | (with_reducible assumption) | assumption)
            have q134 : x7_1 < (l0.length : Int) := of_decide_eq_true (by first | (with_reducible assumption) | assumption)
            obtain ⟨ad134, e134, hx134_0, hx134_1⟩ := at_T96 HR0.out x7_1 p134 q134
            obtain rfl : ad133 = ad134 := (by injection e134)
            replace hx134_0 := cc_ HB hx134_0
            replace hx134_1 := cc_ HB hx134_1
            replace p134 := eq_true p134
            replace q134 := eq_true q134
            go_wp2_with (first | ((with_reducible refine gate_builtin (b := .append) (xs := #[.tmp 39, .tmp 44]) rfl ?_); at_builtin; refine Kd.R_append k96 (w0 := w) w.heap.size rfl (.tmp 39) (.tmp 44) 46 96 (.agg #[(.int .i64 0), (.int .u8 0)]) 16 rfl Try.underlying46 info96 rfl (by decide) (by omega) u5 x5_10 (⟨(rd_T96 l0 x7_1).f0, (rd_T96 l0 x7_1).f1⟩ : S96) [.int .i64 ((rd_T96 l0 x7_1).f0), .int .u8 ((rd_T96 l0 x7_1).f1)] (fun k_ => k_ ≠ gb125) (fun _ => False) rfl rfl ?aP (fun _ hk => hk.elim) ?aF ?aO ?aB ?aS ?aL ?_; (case aP => exact k96_mkM _ _ _ (⟨(rd_T96 l0 x7_1).f0, (rd_T96 l0 x7_1).f1⟩ : S96)); (case aB => exact (hbA_ HB.out)); (case aF => exact (fun k_ hk => fb_ BK125 k_ hk)); (case aO => exact (kR_ HO_5.out)); (case aS => exact (below_size (hbA_ HB.out))); (case aL => have := LMc19.out; omega); intro v136 w21 ho hb hg hat; rw [← Ny135.out] at ho; replace BK125 := (bgA_ BK125 hg (Kd.R_away HO_5.out (fun _ hk => hk))); replace HB := Aside0.mk (hb); have HO137 := Aside0.mk (ho); clear HO_5; clear ho hb hg hat))
            repeat (go_quiet (first | ((with_reducible refine gate_builtin (b := .append) (xs := #[.tmp 39, .tmp 44]) rfl ?_); at_builtin; refine Kd.R_append k96 (w0 := w) w.heap.size rfl (.tmp 39) (.tmp 44) 46 96 (.agg #[(.int .i64 0), (.int .u8 0)]) 16 rfl Try.underlying46 info96 rfl (by decide) (by omega) u5 x5_10 (⟨(rd_T96 l0 x7_1).f0, (rd_T96 l0 x7_1).f1⟩ : S96) [.int .i64 ((rd_T96 l0 x7_1).f0), .int .u8 ((rd_T96 l0 x7_1).f1)] (fun k_ => k_ ≠ gb125) (fun _ => False) rfl rfl ?aP (fun _ hk => hk.elim) ?aF ?aO ?aB ?aS ?aL ?_; (case aP => exact k96_mkM _ _ _ (⟨(rd_T96 l0 x7_1).f0, (rd_T96 l0 x7_1).f1⟩ : S96)); (case aB => exact (hbA_ HB.out)); (case aF => exact (fun k_ hk => fb_ BK125 k_ hk)); (case aO => exact (kR_ HO_5.out)); (case aS => exact (below_size (hbA_ HB.out))); (case aL => have := LMc19.out; omega); intro v136 w21 ho hb hg hat; rw [← Ny135.out] at ho; replace BK125 := (bgA_ BK125 hg (Kd.R_away HO_5.out (fun _ hk => hk))); replace HB := Aside0.mk (hb); have HO137 := Aside0.mk (ho); clear HO_5; clear ho hb hg hat)); try go_wp2_with (first | ((with_reducible refine gate_builtin (b := .append) (xs := #[.tmp 39, .tmp 44]) rfl ?_); at_builtin; refine Kd.R_append k96 (w0 := w) w.heap.size rfl (.tmp 39) (.tmp 44) 46 96 (.agg #[(.int .i64 0), (.int .u8 0)]) 16 rfl Try.underlying46 info96 rfl (by decide) (by omega) u5 x5_10 (⟨(rd_T96 l0 x7_1).f0, (rd_T96 l0 x7_1).f1⟩ : S96) [.int .i64 ((rd_T96 l0 x7_1).f0), .int .u8 ((rd_T96 l0 x7_1).f1)] (fun k_ => k_ ≠ gb125) (fun _ => False) rfl rfl ?aP (fun _ hk => hk.elim) ?aF ?aO ?aB ?aS ?aL ?_; (case aP => exact k96_mkM _ _ _ (⟨(rd_T96 l0 x7_1).f0, (rd_T96 l0 x7_1).f1⟩ : S96)); (case aB => exact (hbA_ HB.out)); (case aF => exact (fun k_ hk => fb_ BK125 k_ hk)); (case aO => exact (kR_ HO_5.out)); (case aS => exact (below_size (hbA_ HB.out))); (case aL => have := LMc19.out; omega); intro v136 w21 ho hb hg hat; rw [← Ny135.out] at ho; replace BK125 := (bgA_ BK125 hg (Kd.R_away HO_5.out (fun _ hk => hk))); replace HB := Aside0.mk (hb); have HO137 := Aside0.mk (ho); clear HO_5; clear ho hb hg hat)))
            go_roundg kj10
            case measure => have := HK1.out; have := HJ6.out; have := HJ10.out; omega
            case rel => exact ⟨(y135), (true), (wrap64 (x7_1 + 1)), (by first | rfl | (simp; done) | (simp [*]; done)), (by first | rfl | (simp; done) | (simp [*]; done)), H', ⟨by have := HK1.out; have := HJ6.out; have := HJ10.out; omega⟩, ⟨kR_ HO137.out⟩, ⟨by refine kb_ ?_; exact BK125.out⟩, ⟨hbA_ HB.out⟩⟩
           ·rw [if_neg c19] at H
            exact absurd H (by simp)
          ·rw [if_neg c18] at H
           have c18b0 : (a1_0 == ((rd_T96 l0 x7_1).f0)) = false := beq_eq_false_iff_ne.mpr c18
           have c18b1 : (a1_0 != ((rd_T96 l0 x7_1).f0)) = true := bne_iff_ne.mpr c18
           by_cases c22 : x5_10.length < 8796093022208
           ·rw [if_pos c22] at H
            have LMc22 := Aside0.mk c22; clear c22
            obtain ⟨y139, hy139⟩ : ∃ y_ : List (S96), y_ = (x5_10 ++ [(⟨(rd_T96 l0 x7_1).f0, (rd_T96 l0 x7_1).f1⟩ : S96)]) := ⟨_, rfl⟩
            (first | replace H := sb_ hy139 H | rw [← hy139] at H)
            have Ny139 := Aside0.mk hy139; clear hy139
            have H' := Aside0.mk H
            clear H; have Z23 := zz2 BK125
            have p133 : 0 ≤ (x7_1 : Int) := of_decide_eq_true (by first | (with_reducible assumption) | assumption)
            have q133 : x7_1 < (l0.length : Int) := of_decide_eq_true (by first | (with_reducible assumption) | assumption)
            obtain ⟨ad133, e133, hx133_0, hx133_1⟩ := at_T96 HR0.out x7_1 p133 q133
            cases e133
            replace hx133_0 := cc_ HB hx133_0
            replace hx133_1 := cc_ HB hx133_1
            replace p133 := eq_true p133
            replace q133 := eq_true q133
            have p138 : 0 ≤ (x7_1 : Int) := of_decide_eq_true (by first | (with_reducible assumption) | assumption)
            have q138 : x7_1 < (l0.length : Int) := of_decide_eq_true (by first | (with_reducible assumption) | assumption)
            obtain ⟨ad138, e138, hx138_0, hx138_1⟩ := at_T96 HR0.out x7_1 p138 q138
            obtain rfl : ad133 = ad138 := (by injection e138)
            replace hx138_0 := cc_ HB hx138_0
            replace hx138_1 := cc_ HB hx138_1
            replace p138 := eq_true p138
            replace q138 := eq_true q138
            go_wp2_with (first | ((with_reducible refine gate_builtin (b := .append) (xs := #[.tmp 39, .tmp 44]) rfl ?_); at_builtin; refine Kd.R_append k96 (w0 := w) w.heap.size rfl (.tmp 39) (.tmp 44) 46 96 (.agg #[(.int .i64 0), (.int .u8 0)]) 16 rfl Try.underlying46 info96 rfl (by decide) (by omega) u5 x5_10 (⟨(rd_T96 l0 x7_1).f0, (rd_T96 l0 x7_1).f1⟩ : S96) [.int .i64 ((rd_T96 l0 x7_1).f0), .int .u8 ((rd_T96 l0 x7_1).f1)] (fun k_ => k_ ≠ gb125) (fun _ => False) rfl rfl ?aP (fun _ hk => hk.elim) ?aF ?aO ?aB ?aS ?aL ?_; (case aP => exact k96_mkM _ _ _ (⟨(rd_T96 l0 x7_1).f0, (rd_T96 l0 x7_1).f1⟩ : S96)); (case aB => exact (hbA_ HB.out)); (case aF => exact (fun k_ hk => fb_ BK125 k_ hk)); (case aO => exact (kR_ HO_5.out)); (case aS => exact (below_size (hbA_ HB.out))); (case aL => have := LMc22.out; omega); intro v140 w24 ho hb hg hat; rw [← Ny139.out] at ho; replace BK125 := (bgA_ BK125 hg (Kd.R_away HO_5.out (fun _ hk => hk))); replace HB := Aside0.mk (hb); have HO141 := Aside0.mk (ho); clear HO_5; clear ho hb hg hat))
            repeat (go_quiet (first | ((with_reducible refine gate_builtin (b := .append) (xs := #[.tmp 39, .tmp 44]) rfl ?_); at_builtin; refine Kd.R_append k96 (w0 := w) w.heap.size rfl (.tmp 39) (.tmp 44) 46 96 (.agg #[(.int .i64 0), (.int .u8 0)]) 16 rfl Try.underlying46 info96 rfl (by decide) (by omega) u5 x5_10 (⟨(rd_T96 l0 x7_1).f0, (rd_T96 l0 x7_1).f1⟩ : S96) [.int .i64 ((rd_T96 l0 x7_1).f0), .int .u8 ((rd_T96 l0 x7_1).f1)] (fun k_ => k_ ≠ gb125) (fun _ => False) rfl rfl ?aP (fun _ hk => hk.elim) ?aF ?aO ?aB ?aS ?aL ?_; (case aP => exact k96_mkM _ _ _ (⟨(rd_T96 l0 x7_1).f0, (rd_T96 l0 x7_1).f1⟩ : S96)); (case aB => exact (hbA_ HB.out)); (case aF => exact (fun k_ hk => fb_ BK125 k_ hk)); (case aO => exact (kR_ HO_5.out)); (case aS => exact (below_size (hbA_ HB.out))); (case aL => have := LMc22.out; omega); intro v140 w24 ho hb hg hat; rw [← Ny139.out] at ho; replace BK125 := (bgA_ BK125 hg (Kd.R_away HO_5.out (fun _ hk => hk))); replace HB := Aside0.mk (hb); have HO141 := Aside0.mk (ho); clear HO_5; clear ho hb hg hat)); try go_wp2_with (first | ((with_reducible refine gate_builtin (b := .append) (xs := #[.tmp 39, .tmp 44]) rfl ?_); at_builtin; refine Kd.R_append k96 (w0 := w) w.heap.size rfl (.tmp 39) (.tmp 44) 46 96 (.agg #[(.int .i64 0), (.int .u8 0)]) 16 rfl Try.underlying46 info96 rfl (by decide) (by omega) u5 x5_10 (⟨(rd_T96 l0 x7_1).f0, (rd_T96 l0 x7_1).f1⟩ : S96) [.int .i64 ((rd_T96 l0 x7_1).f0), .int .u8 ((rd_T96 l0 x7_1).f1)] (fun k_ => k_ ≠ gb125) (fun _ => False) rfl rfl ?aP (fun _ hk => hk.elim) ?aF ?aO ?aB ?aS ?aL ?_; (case aP => exact k96_mkM _ _ _ (⟨(rd_T96 l0 x7_1).f0, (rd_T96 l0 x7_1).f1⟩ : S96)); (case aB => exact (hbA_ HB.out)); (case aF => exact (fun k_ hk => fb_ BK125 k_ hk)); (case aO => exact (kR_ HO_5.out)); (case aS => exact (below_size (hbA_ HB.out))); (case aL => have := LMc22.out; omega); intro v140 w24 ho hb hg hat; rw [← Ny139.out] at ho; replace BK125 := (bgA_ BK125 hg (Kd.R_away HO_5.out (fun _ hk => hk))); replace HB := Aside0.mk (hb); have HO141 := Aside0.mk (ho); clear HO_5; clear ho hb hg hat)))
            go_roundg kj10
            case measure => have := HK1.out; have := HJ6.out; have := HJ10.out; omega
            case rel => exact ⟨(y139), (x6_10), (wrap64 (x7_1 + 1)), (by first | rfl | (simp; done) | (simp [*]; done)), (by first | rfl | (simp; done) | (simp [*]; done)), H', ⟨by have := HK1.out; have := HJ6.out; have := HJ10.out; omega⟩, ⟨kR_ HO141.out⟩, ⟨by refine kb_ ?_; exact BK125.out⟩, ⟨hbA_ HB.out⟩⟩
           ·rw [if_neg c22] at H
            exact absurd H (by simp)
         ·rw [if_neg c17] at H
          exact absurd H (by simp)
        ·rw [if_neg c16] at H
         exact absurd H (by simp)
   ·rw [if_neg c6] at H
    have c6b0 : decide (x7_1 < (l0.length : Int)) = false := decide_eq_false c6
    clear c6
    by_cases c25 : x6_1 = true
    ·subst c25
     rw [if_pos rfl] at H
     obtain rfl := Option.some.inj H
     go_wp2
     repeat (go_quiet (fail); try go_wp2)
     go_ret
     exact ⟨_, by first | rfl | (simp [errW_none, errW_some] <;> rfl) | (simp [*, errW_none, errW_some] <;> rfl), by refine kR_ ?_; exact Kd.R_mono HO_5.out (fun _ hk => trivial), hbA_ HB.out⟩
    ·replace c25 := Bool.eq_false_iff.mpr c25
     subst c25
     rw [if_neg (show ¬ (false = true) by decide)] at H
     by_cases c26 : x5_1.length < 8796093022208
     ·rw [if_pos c26] at H
      have LMc26 := Aside0.mk c26; clear c26
      obtain ⟨y142, hy142⟩ : ∃ y_ : List (S96), y_ = (x5_1 ++ [(⟨a1_0, a1_1⟩ : S96)]) := ⟨_, rfl⟩
      (first | replace H := sb_ hy142 H | rw [← hy142] at H)
      have Ny142 := Aside0.mk hy142; clear hy142
      obtain rfl := Option.some.inj H
      have Z27 := zz2 BK125
      go_wp2_with (first | ((with_reducible refine gate_builtin (b := .append) (xs := #[.tmp 48, .tmp 50]) rfl ?_); at_builtin; refine Kd.R_append k96 (w0 := w) w.heap.size rfl (.tmp 48) (.tmp 50) 46 96 (.agg #[(.int .i64 0), (.int .u8 0)]) 16 rfl Try.underlying46 info96 rfl (by decide) (by omega) u5 x5_1 (⟨a1_0, a1_1⟩ : S96) [.int .i64 a1_0, .int .u8 a1_1] (fun k_ => k_ ≠ gb125) (fun _ => False) rfl rfl ?aP (fun _ hk => hk.elim) ?aF ?aO ?aB ?aS ?aL ?_; (case aP => exact k96_mkM _ _ _ (⟨a1_0, a1_1⟩ : S96)); (case aB => exact (hbA_ HB.out)); (case aF => exact (fun k_ hk => fb_ BK125 k_ hk)); (case aO => exact (kR_ HO_5.out)); (case aS => exact (below_size (hbA_ HB.out))); (case aL => have := LMc26.out; omega); intro v143 w28 ho hb hg hat; rw [← Ny142.out] at ho; replace BK125 := (bgA_ BK125 hg (Kd.R_away HO_5.out (fun _ hk => hk))); replace HB := Aside0.mk (hb); have HO144 := Aside0.mk (ho); clear HO_5; clear ho hb hg hat))
      repeat (go_quiet (first | ((with_reducible refine gate_builtin (b := .append) (xs := #[.tmp 48, .tmp 50]) rfl ?_); at_builtin; refine Kd.R_append k96 (w0 := w) w.heap.size rfl (.tmp 48) (.tmp 50) 46 96 (.agg #[(.int .i64 0), (.int .u8 0)]) 16 rfl Try.underlying46 info96 rfl (by decide) (by omega) u5 x5_1 (⟨a1_0, a1_1⟩ : S96) [.int .i64 a1_0, .int .u8 a1_1] (fun k_ => k_ ≠ gb125) (fun _ => False) rfl rfl ?aP (fun _ hk => hk.elim) ?aF ?aO ?aB ?aS ?aL ?_; (case aP => exact k96_mkM _ _ _ (⟨a1_0, a1_1⟩ : S96)); (case aB => exact (hbA_ HB.out)); (case aF => exact (fun k_ hk => fb_ BK125 k_ hk)); (case aO => exact (kR_ HO_5.out)); (case aS => exact (below_size (hbA_ HB.out))); (case aL => have := LMc26.out; omega); intro v143 w28 ho hb hg hat; rw [← Ny142.out] at ho; replace BK125 := (bgA_ BK125 hg (Kd.R_away HO_5.out (fun _ hk => hk))); replace HB := Aside0.mk (hb); have HO144 := Aside0.mk (ho); clear HO_5; clear ho hb hg hat)); try go_wp2_with (first | ((with_reducible refine gate_builtin (b := .append) (xs := #[.tmp 48, .tmp 50]) rfl ?_); at_builtin; refine Kd.R_append k96 (w0 := w) w.heap.size rfl (.tmp 48) (.tmp 50) 46 96 (.agg #[(.int .i64 0), (.int .u8 0)]) 16 rfl Try.underlying46 info96 rfl (by decide) (by omega) u5 x5_1 (⟨a1_0, a1_1⟩ : S96) [.int .i64 a1_0, .int .u8 a1_1] (fun k_ => k_ ≠ gb125) (fun _ => False) rfl rfl ?aP (fun _ hk => hk.elim) ?aF ?aO ?aB ?aS ?aL ?_; (case aP => exact k96_mkM _ _ _ (⟨a1_0, a1_1⟩ : S96)); (case aB => exact (hbA_ HB.out)); (case aF => exact (fun k_ hk => fb_ BK125 k_ hk)); (case aO => exact (kR_ HO_5.out)); (case aS => exact (below_size (hbA_ HB.out))); (case aL => have := LMc26.out; omega); intro v143 w28 ho hb hg hat; rw [← Ny142.out] at ho; replace BK125 := (bgA_ BK125 hg (Kd.R_away HO_5.out (fun _ hk => hk))); replace HB := Aside0.mk (hb); have HO144 := Aside0.mk (ho); clear HO_5; clear ho hb hg hat)))
      go_ret
      exact ⟨_, by first | rfl | (simp [errW_none, errW_some] <;> rfl) | (simp [*, errW_none, errW_some] <;> rfl), by refine kR_ ?_; exact Kd.R_mono HO144.out (fun _ hk => trivial), hbA_ HB.out⟩
     ·rw [if_neg c26] at H
      exact absurd H (by simp)
end Go.Proofs.Ytbhofhdmbbipgaa.PFnEarHear
