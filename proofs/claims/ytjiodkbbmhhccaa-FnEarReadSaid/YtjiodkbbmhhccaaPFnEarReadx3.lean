/- Printed by wip/xp/xprint.sh out of the translation, for this claim: what each function answers, as a plain function, and that the machine does just that. No condition. -/
import Derived.Test.YtjiodkbbmhhccaaPFnEarReadx0
import Derived.Test.YtjiodkbbmhhccaaPFnEarReadx2
namespace Go.Proofs.Ytjiodkbbmhhccaa.PFnEarRead
open Go.RowKit Go.Proofs.YtjiodkbbmhhccaaW.PrintWords Go.Proofs.YtjiodkbbmhhccaaW.PrintLast Go.Proofs.YtjiodkbbmhhccaaW.PrintMore
attribute [local go_sem] max2_int min2_int max_two min_two max_three min_three max_four min_four   -- for this text's walks alone
set_option linter.unusedVariables false
set_option linter.unusedSimpArgs false

/-! ### impl_BytesOf: function 45 -/
def impl_BytesOf.f (k : Nat) (a0 : Int) (a1 : Int) : Option (List Int) := (impl_in.f a1 1 4).bind fun t115 => (if t115 = true then (if 0 ≤ (wrap64 (8 * a1)) then ((impl_in.f a0 0 (wrap64 ((shl .i64 1 (wrap64 (8 * a1))) - 1))).bind fun t116 => (if t116 = true then ((impl_bytesOf.f k a0 a1).bind fun t117 => (some t117)) else (some ([] : List Int)))) else (none)) else (some ([] : List Int)))
theorem impl_BytesOf.mono : ∀ a0 a1 k, LeO (impl_BytesOf.f k a0 a1) (impl_BytesOf.f (k + 1) a0 a1) := by
  intro a0 a1 k
  unfold impl_BytesOf.f
  repeat' first
      | (with_reducible exact impl_bytesOf.mono _ _ _)
      | (with_reducible exact LeO.refl _)
      | (with_reducible exact LeO.none _)
      | (with_reducible refine LeO.ite ?_ ?_)
      | (with_reducible refine LeO.bind ?_ (fun _ => ?_))
      | exact impl_bytesOf.mono _ _ _
      | exact LeO.none _
      | refine LeO.ite ?_ ?_
      | refine LeO.bind ?_ (fun _ => ?_)
set_option maxHeartbeats 8000000 in
set_option maxRecDepth 100000 in
theorem impl_BytesOf.calls (k : Nat) (a0 : Int) (a1 : Int) (r : List Int) (w : World) (h : impl_BytesOf.f k a0 a1 = some r) :
    Calls Try.prog 45 #[.int .i64 a0, .int .i64 a1] w fun e w' => ∃ v0_ : Value, e = .returned (v0_) ∧ Kd.R (Kd.int .u8) 5 w' w.heap.size (fun _ => True) v0_ r ∧ Below w.heap.size w w' := by
  have HB := Aside0.mk (Below.refl w.heap.size w)
  have H : ((impl_in.f a1 1 4).bind fun t115 => (if t115 = true then (if 0 ≤ (wrap64 (8 * a1)) then ((impl_in.f a0 0 (wrap64 ((shl .i64 1 (wrap64 (8 * a1))) - 1))).bind fun t116 => (if t116 = true then ((impl_bytesOf.f k a0 a1).bind fun t117 => (some t117)) else (some ([] : List Int)))) else (none)) else (some ([] : List Int)))) = some r := h
  clear h
  replace H := Option.bind_eq_some_iff.mp H
  obtain ⟨t115, A30, H⟩ := H
  replace H : (if t115 = true then (if 0 ≤ (wrap64 (8 * a1)) then ((impl_in.f a0 0 (wrap64 ((shl .i64 1 (wrap64 (8 * a1))) - 1))).bind fun t116 => (if t116 = true then ((impl_bytesOf.f k a0 a1).bind fun t117 => (some t117)) else (some ([] : List Int)))) else (none)) else (some ([] : List Int))) = some r := H
  have A3 := Aside0.mk A30
  clear A30
  by_cases c4 : t115 = true
  · subst c4
    have H1 : (if 0 ≤ (wrap64 (8 * a1)) then ((impl_in.f a0 0 (wrap64 ((shl .i64 1 (wrap64 (8 * a1))) - 1))).bind fun t116 => (if t116 = true then ((impl_bytesOf.f k a0 a1).bind fun t117 => (some t117)) else (some ([] : List Int)))) else (none)) = some r := by rw [if_pos rfl] at H; exact H
    clear H
    have H := H1
    clear H1
    obtain ⟨ji5, hji5⟩ : ∃ j_ : Int, (wrap64 (8 * a1)) = j_ := ⟨_, rfl⟩
    replace H : (if 0 ≤ (ji5) then ((impl_in.f a0 0 (wrap64 ((shl .i64 1 (ji5)) - 1))).bind fun t116 => (if t116 = true then ((impl_bytesOf.f k a0 a1).bind fun t117 => (some t117)) else (some ([] : List Int)))) else (none)) = some r := by first | (rw [hji5] at H; exact H) | (simp only [hji5] at H ⊢; exact H)
    (try rw [hji5] at A3)
    have hji5w : (IntKind.i64.wrap (8 * a1)) = ji5 := (i64_w _).trans hji5
    by_cases c6 : 0 ≤ (ji5)
    · rw [if_pos c6] at H
      have c6b0 := eq_true c6
      have c6b1 : decide (0 ≤ (ji5)) = true := decide_eq_true c6
      clear c6
      obtain ⟨ji7, hji7⟩ : ∃ j_ : Int, (shl .i64 1 (ji5)) = j_ := ⟨_, rfl⟩
      replace H : ((impl_in.f a0 0 (wrap64 ((ji7) - 1))).bind fun t116 => (if t116 = true then ((impl_bytesOf.f k a0 a1).bind fun t117 => (some t117)) else (some ([] : List Int)))) = some r := by first | (rw [hji7] at H; exact H) | (simp only [hji7] at H ⊢; exact H)
      (try rw [hji7] at A3)
      have hji7_ : (IntKind.i64.wrap (1 * 2 ^ min (ji5).toNat 64)) = ji7 := hji7
      have hji7z : (ji5) ≤ 64 → (IntKind.i64.wrap (1 * 2 ^ (ji5).toNat)) = ji7 := shl_small hji7
      have hji7u : (IntKind.i64.wrap (2 ^ min (ji5).toNat 64)) = ji7 := by have h_ := hji7_; rw [Int.one_mul] at h_; exact h_
      have hji7v : (ji5) ≤ 64 → (IntKind.i64.wrap (2 ^ (ji5).toNat)) = ji7 := fun hle_ => by have h_ := hji7z hle_; rw [Int.one_mul] at h_; exact h_
      have hji7y : (wrap64 (1 * 2 ^ min (ji5).toNat 64)) = ji7 := (i64_w _).symm.trans hji7_
      have hji7x : (ji5) ≤ 64 → (wrap64 (1 * 2 ^ (ji5).toNat)) = ji7 := fun h_ => (i64_w _).symm.trans (hji7z h_)
      replace H := Option.bind_eq_some_iff.mp H
      obtain ⟨t116, A80, H⟩ := H
      replace H : (if t116 = true then ((impl_bytesOf.f k a0 a1).bind fun t117 => (some t117)) else (some ([] : List Int))) = some r := H
      have A8 := Aside0.mk A80
      clear A80
      by_cases c9 : t116 = true
      · subst c9
        have H1 : ((impl_bytesOf.f k a0 a1).bind fun t117 => (some t117)) = some r := by rw [if_pos rfl] at H; exact H
        clear H
        have H := H1
        clear H1
        replace H := Option.bind_eq_some_iff.mp H
        obtain ⟨t117, A100, H⟩ := H
        replace H : (some t117) = some r := H
        have A10 := Aside0.mk A100
        clear A100
        obtain rfl := Option.some.inj H
        go_enter Try.func45, Try.ntmps45
        go_wp2_with (first | ((with_reducible refine gate_callee (f := 44) rfl ?_); refine goesL_ (some 6) rfl rfl Try.func44 (by kernel_rfl) rfl #[.int .i64 a1, .int .i64 1, .int .i64 4] rfl ar_ ?_; (with_reducible refine (impl_in.calls a1 1 4 true _ A3.out).mono ?_); rintro e w' ⟨rfl, ⟨nd, rfl⟩⟩; refine ⟨_, rfl, ?_⟩) | (go_at_call 44; (with_reducible refine (impl_in.calls a0 0 (wrap64 ((ji7) - 1)) true _ A8.out).mono ?_); rintro e w' ⟨rfl, ⟨nd, rfl⟩⟩) | ((with_reducible refine gate_callee (f := 73) rfl ?_); refine goesL_ (some 19) rfl rfl Try.func73 (by kernel_rfl) rfl #[.int .i64 a0, .int .i64 a1] rfl ar_ ?_; (with_reducible refine (impl_bytesOf.calls k a0 a1 t117 _ A10.out).mono ?_); rintro e w11 ⟨v118, rfl, ho0, hb⟩; refine ⟨_, rfl, ?_⟩; have n0_ := Aside0.mk (Kd.R_lower ho0 (below_size (hb0_ HB.out))); have n1_ := Aside0.mk (below_step (hb0_ HB.out) hb); clear HB; have HO119 := n0_; have HB := n1_; clear n0_ n1_; (try clear hb); (try clear hb2); (try clear hk); (try clear hi); (try clear ho0)))
        go_ret
        exact ⟨_, by first | rfl | (simp [errW_none, errW_some] <;> rfl) | (simp only [← hji5, ← hji7]; first | rfl | (simp [errW_none, errW_some] <;> rfl)) | (simp [*, errW_none, errW_some] <;> rfl), kR_ HO119.out, by repeat (first | (with_reducible first | exact HB.out | apply below_alloc | apply pw_below_drewN | apply below_drew1) | exact HB.out)⟩
      · replace c9 := Bool.eq_false_iff.mpr c9
        subst c9
        have H1 : (some ([] : List Int)) = some r := by rw [if_neg (show ¬ (false = true) by decide)] at H; exact H
        clear H
        have H := H1
        clear H1
        obtain rfl := Option.some.inj H
        go_enter Try.func45, Try.ntmps45
        go_wp2_with (first | ((with_reducible refine gate_callee (f := 44) rfl ?_); refine goesL_ (some 6) rfl rfl Try.func44 (by kernel_rfl) rfl #[.int .i64 a1, .int .i64 1, .int .i64 4] rfl ar_ ?_; (with_reducible refine (impl_in.calls a1 1 4 true _ A3.out).mono ?_); rintro e w' ⟨rfl, ⟨nd, rfl⟩⟩; refine ⟨_, rfl, ?_⟩) | (go_at_call 44; (with_reducible refine (impl_in.calls a0 0 (wrap64 ((ji7) - 1)) false _ A8.out).mono ?_); rintro e w' ⟨rfl, ⟨nd, rfl⟩⟩))
        go_ret
        exact ⟨_, by first | rfl | (simp [errW_none, errW_some] <;> rfl) | (simp only [← hji5, ← hji7]; first | rfl | (simp [errW_none, errW_some] <;> rfl)) | (simp [*, errW_none, errW_some] <;> rfl), by first | exact Kd.R_nil _ _ _ _ _ | exact Kd.N_nil _ _ _ _ _ | exact Kd.V_nil _ _ _ _ _ | exact Kd.Q_nil _ _ _ _ _ | exact Kd.S_nil _ _ _ _ _, by repeat (first | (with_reducible first | exact HB.out | apply below_alloc | apply pw_below_drewN | apply below_drew1) | exact HB.out)⟩
    · rw [if_neg c6] at H
      exact absurd H (by simp)
  · replace c4 := Bool.eq_false_iff.mpr c4
    subst c4
    have H1 : (some ([] : List Int)) = some r := by rw [if_neg (show ¬ (false = true) by decide)] at H; exact H
    clear H
    have H := H1
    clear H1
    obtain rfl := Option.some.inj H
    go_enter Try.func45, Try.ntmps45
    go_wp2_with (first | ((with_reducible refine gate_callee (f := 44) rfl ?_); refine goesL_ (some 6) rfl rfl Try.func44 (by kernel_rfl) rfl #[.int .i64 a1, .int .i64 1, .int .i64 4] rfl ar_ ?_; (with_reducible refine (impl_in.calls a1 1 4 false _ A3.out).mono ?_); rintro e w' ⟨rfl, ⟨nd, rfl⟩⟩; refine ⟨_, rfl, ?_⟩))
    go_ret
    exact ⟨_, by first | rfl | (simp [errW_none, errW_some] <;> rfl) | (simp [*, errW_none, errW_some] <;> rfl), by first | exact Kd.R_nil _ _ _ _ _ | exact Kd.N_nil _ _ _ _ _ | exact Kd.V_nil _ _ _ _ _ | exact Kd.Q_nil _ _ _ _ _ | exact Kd.S_nil _ _ _ _ _, by repeat (first | (with_reducible first | exact HB.out | apply below_alloc | apply pw_below_drewN | apply below_drew1) | exact HB.out)⟩

/-! ### laws_alive: function 13 -/
def laws_alive.f (k : Nat)  : Option (Bool) := (impl_BytesOf.f k 5 1).bind fun t120 => (if (t120.length : Int) = 1 then ((impl_BytesOf.f k 256 1).bind fun t123 => (some ((t123.length : Int) == 0))) else (some false))
theorem laws_alive.mono : ∀ k, LeO (laws_alive.f k ) (laws_alive.f (k + 1) ) := by
  intro  k
  unfold laws_alive.f
  repeat' first
      | (with_reducible exact impl_BytesOf.mono _ _ _)
      | (with_reducible exact LeO.refl _)
      | (with_reducible exact LeO.none _)
      | (with_reducible refine LeO.ite ?_ ?_)
      | (with_reducible refine LeO.bind ?_ (fun _ => ?_))
      | exact impl_BytesOf.mono _ _ _
      | exact LeO.none _
      | refine LeO.ite ?_ ?_
      | refine LeO.bind ?_ (fun _ => ?_)
set_option maxHeartbeats 8000000 in
set_option maxRecDepth 100000 in
theorem laws_alive.calls (k : Nat)  (r : Bool) (w : World) (h : laws_alive.f k  = some r) :
    Calls Try.prog 13 #[] w fun e w' => e = .returned (.bool r) ∧ Below w.heap.size w w' := by
  have HB := Aside0.mk (Below.refl w.heap.size w)
  have H : ((impl_BytesOf.f k 5 1).bind fun t120 => (if (t120.length : Int) = 1 then ((impl_BytesOf.f k 256 1).bind fun t123 => (some ((t123.length : Int) == 0))) else (some false))) = some r := h
  clear h
  replace H := Option.bind_eq_some_iff.mp H
  obtain ⟨t120, A10, H⟩ := H
  replace H : (if (t120.length : Int) = 1 then ((impl_BytesOf.f k 256 1).bind fun t123 => (some ((t123.length : Int) == 0))) else (some false)) = some r := H
  have A1 := Aside0.mk A10
  clear A10
  by_cases c2 : (t120.length : Int) = 1
  · rw [if_pos c2] at H
    have c2b0 : ((t120.length : Int) == 1) = true := beq_iff_eq.mpr c2
    have c2b1 : ((t120.length : Int) != 1) = false := bne_eq_false_iff_eq.mpr c2
    clear c2
    replace H := Option.bind_eq_some_iff.mp H
    obtain ⟨t123, A30, H⟩ := H
    replace H : (some ((t123.length : Int) == 0)) = some r := H
    have A3 := Aside0.mk A30
    clear A30
    obtain rfl := Option.some.inj H
    go_enter Try.func13, Try.ntmps13
    go_wp2_with (first | ((with_reducible refine gate_callee (f := 45) rfl ?_); refine goesL_ (some 1) rfl rfl Try.func45 (by kernel_rfl) rfl #[.int .i64 5, .int .i64 1] rfl ar_ ?_; (with_reducible refine (impl_BytesOf.calls k 5 1 t120 _ A1.out).mono ?_); rintro e w4 ⟨v121, rfl, ho0, hb⟩; refine ⟨_, rfl, ?_⟩; have n0_ := Aside0.mk (Kd.R_lower ho0 (below_size (hb0_ HB.out))); have n1_ := Aside0.mk (below_step (hb0_ HB.out) hb); clear HB; have HO122 := n0_; have HB := n1_; clear n0_ n1_; (try clear hb); (try clear hb2); (try clear hk); (try clear hi); (try clear ho0); obtain ⟨Ao5, co5, eo5⟩ := Kd.R_slice HO122.out; subst eo5) | (go_at_call 45; (with_reducible refine (impl_BytesOf.calls k 256 1 t123 _ A3.out).mono ?_); rintro e w6 ⟨v124, rfl, ho0, hb⟩; have n0_ := Aside0.mk (Kd.R_elder' (kR_ HO122.out) (Kd.R_base ho0) hb); have n1_ := Aside0.mk (Kd.R_lower (Kd.R_new' ho0 (Kd.R_lt (kR_ HO122.out))) (below_size (hb0_ HB.out))); have n2_ := Aside0.mk (below_step (hb0_ HB.out) hb); clear HO122; clear HB; have HO122 := n0_; have HO125 := n1_; have HB := n2_; clear n0_ n1_ n2_; (try clear hb); (try clear hb2); (try clear hk); (try clear hi); (try clear ho0); obtain ⟨Ao7, co7, eo7⟩ := Kd.R_slice HO125.out; subst eo7))
    go_ret
    exact ⟨by first | rfl | (simp [errW_none, errW_some] <;> rfl) | (simp [*, errW_none, errW_some] <;> rfl), by repeat (first | (with_reducible first | exact HB.out | apply below_alloc | apply pw_below_drewN | apply below_drew1) | exact HB.out)⟩
  · rw [if_neg c2] at H
    have c2b0 : ((t120.length : Int) == 1) = false := beq_eq_false_iff_ne.mpr c2
    have c2b1 : ((t120.length : Int) != 1) = true := bne_iff_ne.mpr c2
    obtain rfl := Option.some.inj H
    go_enter Try.func13, Try.ntmps13
    go_wp2_with (first | ((with_reducible refine gate_callee (f := 45) rfl ?_); refine goesL_ (some 1) rfl rfl Try.func45 (by kernel_rfl) rfl #[.int .i64 5, .int .i64 1] rfl ar_ ?_; (with_reducible refine (impl_BytesOf.calls k 5 1 t120 _ A1.out).mono ?_); rintro e w8 ⟨v121, rfl, ho0, hb⟩; refine ⟨_, rfl, ?_⟩; have n0_ := Aside0.mk (Kd.R_lower ho0 (below_size (hb0_ HB.out))); have n1_ := Aside0.mk (below_step (hb0_ HB.out) hb); clear HB; have HO122 := n0_; have HB := n1_; clear n0_ n1_; (try clear hb); (try clear hb2); (try clear hk); (try clear hi); (try clear ho0); obtain ⟨Ao9, co9, eo9⟩ := Kd.R_slice HO122.out; subst eo9))
    go_ret
    exact ⟨by first | rfl | (simp [errW_none, errW_some] <;> rfl) | (simp [*, errW_none, errW_some] <;> rfl), by repeat (first | (with_reducible first | exact HB.out | apply below_alloc | apply pw_below_drewN | apply below_drew1) | exact HB.out)⟩

/-! ### slices_Clip_byte_byte: function 75, by hand -/
theorem slices_Clip_byte_byte.calls (A0 : Option Addr) (c0 n0 : Nat) (w : World) (hc : n0 ≤ c0) : Calls Try.prog 75 #[.slice A0 n0 c0] w fun e w' => e = .returned (.slice A0 n0 n0) ∧ w' = w := by
  go_enter Try.func75, Try.ntmps75
  go_wp2
  go_ret
  exact ⟨rfl, rfl⟩

/-! ### impl_clone_byte: function 47, by hand -/
def impl_clone_byte.f (l0 : List Int) : Option (List Int) := if l0.length * 1 ≤ 140737488355328 then some l0 else none
theorem impl_clone_byte.calls (A0 : Option Addr) (c0 : Nat) (l0 : List Int) (r : List Int) (w : World) (hr0 : Kd.C (Kd.int .u8) w A0 l0.length l0) (hc0 : l0.length ≤ c0) (h : impl_clone_byte.f l0 = some r) :
    Calls Try.prog 47 #[.slice A0 l0.length c0] w fun e w' => ∃ v0_ : Value, e = .returned (v0_) ∧ Kd.R (Kd.int .u8) 5 w' w.heap.size (fun _ => True) v0_ r ∧ Below w.heap.size w w' := by
  obtain ⟨hle, rfl⟩ : l0.length * 1 ≤ 140737488355328 ∧ l0 = r := by
    unfold impl_clone_byte.f at h; split at h
    · exact ⟨by assumption, Option.some.inj h⟩
    · cases h
  have hm := hr0.2.1
  have HR := Aside0.mk hr0; clear hr0 h
  by_cases h0 : l0.length = 0
  · have hb : ((l0.length : Int) == 0) = true := by simp [h0]
    have HL : Aside0 (l0 = []) := ⟨List.eq_nil_of_length_eq_zero h0⟩
    clear h0
    go_enter Try.func47, Try.ntmps47
    go_wp2
    go_ret
    refine ⟨_, rfl, ?_, Below.refl _ _⟩
    rw [HL.out]; exact Kd.R_nil _ _ _ _ _
  · have hb : ((l0.length : Int) == 0) = false := by simp; intro hh; exact h0 (by simp [hh])
    clear h0
    go_enter Try.func47, Try.ntmps47
    go_wp2_with (first
      | ((with_reducible refine gate_dst (N := 7) rfl ?_); refine Kd.R_append_rows (Kd.int .u8) (Rr := (Kd.int .u8).K w) w.heap.size rfl _ _ 22 5 (.int .u8 0) 1 rfl Try.underlying22 info5 rfl (by decide) (by decide) (.slice none 0 0) [] l0 A0 l0.length c0 (fun _ => True) (fun _ => True) rfl rfl (Kd.R_nil _ _ _ _ _) HR.out (fun x cs h => h) (fun k _ => ⟨trivial, by simp [Value.ownBlock]⟩) (fun _ _ => trivial) (Below.refl _ _) (Nat.le_refl _) (by simpa using hle) ?_; intro v1 w1 ho hb1 hg hat; rw [List.nil_append] at ho; obtain ⟨A1, c1, hv1, hc1, _⟩ := Kd.R_reads ho; have HO := Aside0.mk ho; clear ho hat hg; have HB := Aside0.mk hb1; clear hb1; subst hv1)
      | (go_at_call 75; (with_reducible refine (slices_Clip_byte_byte.calls _ _ _ _ hc1).mono ?_); rintro e w' ⟨rfl, rfl⟩))
    go_ret
    exact ⟨_, rfl, Kd.R_clip HO.out (Nat.le_refl _) hc1, HB.out⟩

/-! ### impl_Early_84: function 84, by hand -/
theorem impl_Early_84.calls (A0 : Option Addr) (c0 n0 : Nat) (w : World) (hc : n0 ≤ c0) : Calls Try.prog 84 #[.slice A0 n0 c0] w fun e w' => e = .returned (.slice A0 n0 n0) ∧ w' = w := by
  go_enter Try.func84, Try.ntmps84
  go_wp2
  go_ret
  exact ⟨rfl, rfl⟩

/-! ### impl_Early_74: function 74, by hand -/
def impl_Early_74.f (l0 : List (S70)) : Option ((List (S70))) := if l0.length * 16 ≤ 140737488355328 then some l0 else none
theorem impl_Early_74.calls (A0 : Option Addr) (c0 : Nat) (l0 : List (S70)) (r : List (S70)) (w : World) (hr0 : Kd.C k70 w A0 l0.length l0) (hc0 : l0.length ≤ c0) (h : impl_Early_74.f l0 = some r) :
    Calls Try.prog 74 #[.slice A0 l0.length c0] w fun e w' => ∃ v0_ : Value, e = .returned (v0_) ∧ Kd.R k70 70 w' w.heap.size (fun _ => True) v0_ r ∧ Below w.heap.size w w' := by
  obtain ⟨hle, rfl⟩ : l0.length * 16 ≤ 140737488355328 ∧ l0 = r := by
    unfold impl_Early_74.f at h; split at h
    · exact ⟨by assumption, Option.some.inj h⟩
    · cases h
  have hm := hr0.2.1
  have HR := Aside0.mk hr0; clear hr0 h
  by_cases h0 : l0.length = 0
  · have hb : ((l0.length : Int) == 0) = true := by simp [h0]
    have HL : Aside0 (l0 = []) := ⟨List.eq_nil_of_length_eq_zero h0⟩
    clear h0
    go_enter Try.func74, Try.ntmps74
    go_wp2
    go_ret
    refine ⟨_, rfl, ?_, Below.refl _ _⟩
    rw [HL.out]; exact Kd.R_nil _ _ _ _ _
  · have hb : ((l0.length : Int) == 0) = false := by simp; intro hh; exact h0 (by simp [hh])
    clear h0
    go_enter Try.func74, Try.ntmps74
    go_wp2_with (first
      | ((with_reducible refine gate_dst (N := 7) rfl ?_); refine Kd.R_append_rows k70 (Rr := k70.K w) w.heap.size rfl _ _ 23 70 (.agg #[(.int .i64 0), (.int .u8 0)]) 16 rfl Try.underlying23 info70 rfl (by decide) (by decide) (.slice none 0 0) [] l0 A0 l0.length c0 (fun _ => True) (fun _ => True) rfl rfl (Kd.R_nil _ _ _ _ _) HR.out (fun x cs h => by rw [k70_open h]; exact k70_mkM _ _ _ _) (fun k _ => ⟨trivial, by simp [Value.ownBlock]⟩) (fun _ _ => trivial) (Below.refl _ _) (Nat.le_refl _) (by simpa using hle) ?_; intro v1 w1 ho hb1 hg hat; rw [List.nil_append] at ho; obtain ⟨A1, c1, hv1, hc1, _⟩ := Kd.R_reads ho; have HO := Aside0.mk ho; clear ho hat hg; have HB := Aside0.mk hb1; clear hb1; subst hv1)
      | (go_at_call 84; (with_reducible refine (impl_Early_84.calls _ _ _ _ hc1).mono ?_); rintro e w' ⟨rfl, rfl⟩))
    go_ret
    exact ⟨_, rfl, Kd.R_clip HO.out (Nat.le_refl _) hc1, HB.out⟩

/-! ### impl_Ear_copy: function 46 -/
def impl_Ear_copy.f (a0_0 : Int) (a0_1 : Int) (l0_2 : List Int) (l0_3 : List (S70)) : Option (Int × Int × List Int × (List (S70))) := (impl_clone_byte.f l0_2).bind fun t128 => ((impl_Early_74.f l0_3).bind fun t131 => (some (a0_0, a0_1, t128, t131)))
def impl_Ear_copy.T1 : Bool × List (List Nat × List Nat) := (true, [([], []), ([0], [0]), ([1], [1]), ([], []), ([3], [3]), ([4, 2], [4]), ([0, 1, 2, 3, 4], []), ([6, 2, 5, 0, 1, 2, 3, 4], [2, 6]), ([0, 1, 2, 3, 4, 5, 6, 7], []), ([8, 5, 7, 0, 1, 2, 3, 4, 5, 6, 7], [5, 8])])
def impl_Ear_copy.B1 : List Nat := [0, 1, 3, 0, 8, 31, 31, 127, 255, 511]
theorem impl_Ear_copy.tab1 : rtab .any (opsOf Try.f46 1) = impl_Ear_copy.T1 := by kernel_rfl
theorem impl_Ear_copy.bits1 : waitsOk impl_Ear_copy.T1.2 impl_Ear_copy.B1 = true := by kernel_rfl
set_option maxHeartbeats 8000000 in
set_option maxRecDepth 100000 in
theorem impl_Ear_copy.calls (a0_0 : Int) (a0_1 : Int) (A0_2 : Option Addr) (c0_2 : Nat) (l0_2 : List Int) (A0_3 : Option Addr) (c0_3 : Nat) (l0_3 : List (S70)) (r1 : Int) (r2 : Int) (r3 : List Int) (r4 : List (S70)) (w : World) (hr0_2 : Kd.C (Kd.int .u8) w A0_2 l0_2.length l0_2) (hc0_2 : l0_2.length ≤ c0_2) (hr0_3 : Kd.C k70 w A0_3 l0_3.length l0_3) (hc0_3 : l0_3.length ≤ c0_3) (h : impl_Ear_copy.f a0_0 a0_1 l0_2 l0_3 = some (r1, r2, r3, r4)) :
    Calls Try.prog 46 #[.agg #[.int .i64 a0_0, .int .i64 a0_1, .slice A0_2 l0_2.length c0_2, .slice A0_3 l0_3.length c0_3]] w fun e w' => ∃ v2_ v3_ : Value, e = .returned (.agg #[.int .i64 r1, .int .i64 r2, v2_, v3_]) ∧ Kd.R (Kd.int .u8) 5 w' w.heap.size (fun _ => True) v2_ r3 ∧ Kd.R k70 70 w' w.heap.size (fun _ => True) v3_ r4 ∧ Below w.heap.size w w' := by
  have hu25 := Try.underlying25
  have HR0_2 := Aside0.mk hr0_2
  have HC0_2 := Aside0.mk hc0_2
  clear hr0_2 hc0_2
  have HR0_3 := Aside0.mk hr0_3
  have HC0_3 := Aside0.mk hc0_3
  clear hr0_3 hc0_3
  have HB := Aside0.mk (Below.refl w.heap.size w)
  have H : ((impl_clone_byte.f l0_2).bind fun t128 => ((impl_Early_74.f l0_3).bind fun t131 => (some (a0_0, a0_1, t128, t131)))) = some (r1, r2, r3, r4) := h
  clear h
  replace H := Option.bind_eq_some_iff.mp H
  obtain ⟨t128, A20, H⟩ := H
  replace H : ((impl_Early_74.f l0_3).bind fun t131 => (some (a0_0, a0_1, t128, t131))) = some (r1, r2, r3, r4) := H
  have A2 := Aside0.mk A20
  clear A20
  replace H := Option.bind_eq_some_iff.mp H
  obtain ⟨t131, A30, H⟩ := H
  replace H : (some (a0_0, a0_1, t128, t131)) = some (r1, r2, r3, r4) := H
  have A3 := Aside0.mk A30
  clear A30
  simp only [Option.some.injEq, Prod.mk.injEq] at H
  obtain ⟨rfl, rfl, rfl, rfl⟩ := H
  go_enter Try.func46, Try.ntmps46
  try go_wp2_with (first | ((with_reducible refine gate_dst (N := 1) rfl ?_); refine box_event ?hg (N := 1) ?hd (cs := #[.int .i64 a0_0, .int .i64 a0_1, .slice A0_2 l0_2.length c0_2, .slice A0_3 l0_3.length c0_3]) (t := 25) ?hr ?_; (case hd => rfl); (case hg => rfl); (case hr => first | (go_simp; done) | (go_simp; rfl)); intro gb126 hg w4 hbox hb; have n0_ := Aside0.mk (below_step (hb0_ HB.out) hb); have n1_ := Aside0.mk (hbox); have n2_ := Aside0.mk ((by rw [hg]; exact (below_size (hb0_ HB.out)) : w.heap.size ≤ gb126)); have n3_ := Aside0.mk ((by rw [hg]; exact (below_size (hb0_ HB.out)) : w.heap.size ≤ gb126)); clear HB; have HB := n0_; have BK126 := n1_; have GW126 := n2_; have GE126 := n3_; clear n0_ n1_ n2_ n3_; clear hb hbox hg) | ((with_reducible refine gate_dst (N := 2) rfl ?_); refine box_event ?hg (N := 2) ?hd (cs := #[.int .i64 0, .int .i64 0, .slice none 0 0, .slice none 0 0]) (t := 25) ?hr ?_; (case hd => rfl); (case hg => rfl); (case hr => first | (go_simp; done) | (go_simp; rfl)); intro gb127 hg w5 hbox hb; have n0_ := Aside0.mk (blk_below (g := gb126) (o := .cells #[.int .i64 a0_0, .int .i64 a0_1, .slice A0_2 l0_2.length c0_2, .slice A0_3 l0_3.length c0_3] 25 (0, 0)) (kb_ BK126.out) hb); have n1_ := Aside0.mk (below_step (hb1_ HB.out GE126.out) hb); have n2_ := Aside0.mk (hbox); have n3_ := Aside0.mk ((by rw [hg]; exact (below_size (hb1_ HB.out GE126.out)) : w.heap.size ≤ gb127)); have n4_ := Aside0.mk ((by rw [hg]; exact (below_size (hb1_ HB.out GE126.out)) : w.heap.size ≤ gb127)); have n5_ := Aside0.mk ((by rw [hg]; exact Nat.ne_of_lt (blk_lt (g := gb126) (o := .cells #[.int .i64 a0_0, .int .i64 a0_1, .slice A0_2 l0_2.length c0_2, .slice A0_3 l0_3.length c0_3] 25 (0, 0)) (kb_ BK126.out)) : gb126 ≠ gb127)); have n6_ := Aside0.mk ((by rw [hg]; exact Nat.ne_of_gt (blk_lt (g := gb126) (o := .cells #[.int .i64 a0_0, .int .i64 a0_1, .slice A0_2 l0_2.length c0_2, .slice A0_3 l0_3.length c0_3] 25 (0, 0)) (kb_ BK126.out)) : gb127 ≠ gb126)); clear BK126; clear HB; have BK126 := n0_; have HB := n1_; have BK127 := n2_; have GW127 := n3_; have GE127 := n4_; have NB126_127 := n5_; have NB127_126 := n6_; clear n0_ n1_ n2_ n3_ n4_ n5_ n6_; clear hb hbox hg))
  have n0_ := Aside0.mk (blk_drew BK126.out)
  have n1_ := Aside0.mk (blk_drew BK127.out)
  have n2_ := Aside0.mk (below_drew1 HB.out)
  clear BK126
  clear BK127
  clear HB
  have BK126 := n0_
  have BK127 := n1_
  have HB := n2_
  clear n0_ n1_ n2_
  refine start_ (n := 10) (S := fun w' => w'.cell? ⟨gb126, 0, none⟩ = some (.int .i64 a0_0) ∧ w'.cell? ⟨gb126, 1, none⟩ = some (.int .i64 a0_1) ∧ w'.cell? ⟨gb126, 2, none⟩ = some (.slice A0_2 l0_2.length c0_2) ∧ w'.cell? ⟨gb126, 3, none⟩ = some (.slice A0_3 l0_3.length c0_3)) (ds := [7, 9]) #[false, false, false, false, false, false, false, false, false, false] (by kernel_rfl) rfl rfl ⟨(blk_cell BK126.out 0).trans rfl, (blk_cell BK126.out 1).trans rfl, (blk_cell BK126.out 2).trans rfl, (blk_cell BK126.out 3).trans rfl⟩ (fun hHeld => ?_); refine with_tabW impl_Ear_copy.tab1 impl_Ear_copy.bits1 (fun HT_ HW_ => ?_)
  generalize w5.drew = w6 at BK126 BK127 HB hHeld ⊢
  refine pu_ (i := 0) (N := some 3) HT_ ?_
  refine pu_ (i := 3) (N := some 6) HT_ ?_
  refine tk_ (i := 1) (N := some 4) HT_ HW_ hHeld ?_
  refine tk_ (i := 4) (N := some 7) HT_ HW_ hHeld ?_
  refine on_ (i := 2) (N := some 5) HT_ (fun K hK => ?_)
  refine goes_ Try.func47 (by kernel_rfl) rfl #[.slice A0_2 l0_2.length c0_2] (by rfl) rfl rfl ar_ ?_
  with_reducible refine (impl_clone_byte.calls _ _ l0_2 t128 _ ?side1 ?side2 A2.out).mono ?_
  (case side1 => exact kC_ (Kd.C_below HR0_2.out HB.out))
  (case side2 => exact HC0_2.out)
  rintro e w7 ⟨v129, rfl, ho0, hb⟩
  refine ⟨_, rfl, ?_⟩
  have n0_ := Aside0.mk (Kd.R_lower ho0 (below_size (hb2_ HB.out GE126.out GE127.out)))
  have n1_ := Aside0.mk (blk_below (g := gb126) (o := .cells #[.int .i64 a0_0, .int .i64 a0_1, .slice A0_2 l0_2.length c0_2, .slice A0_3 l0_3.length c0_3] 25 (0, 0)) (kb_ BK126.out) hb)
  have n2_ := Aside0.mk (blk_below (g := gb127) (o := .cells #[.int .i64 0, .int .i64 0, .slice none 0 0, .slice none 0 0] 25 (0, 0)) (kb_ BK127.out) hb)
  have n3_ := Aside0.mk (below_step (hb2_ HB.out GE126.out GE127.out) hb)
  clear BK126
  clear BK127
  clear HB
  have HO130 := n0_
  have BK126 := n1_
  have BK127 := n2_
  have HB := n3_
  clear n0_ n1_ n2_ n3_
  (try clear hb)
  (try clear hb2)
  (try clear hk)
  (try clear hi)
  (try clear ho0)
  refine hK.out _ _ ⟨(blk_cell BK126.out 0).trans rfl, (blk_cell BK126.out 1).trans rfl, (blk_cell BK126.out 2).trans rfl, (blk_cell BK126.out 3).trans rfl⟩ (fun hHeld => ?_)
  clear hK K
  refine nm_ 5 ?_
  refine pu_ (i := 6) (N := some 9) HT_ ?_
  refine on_ (i := 5) (N := some 8) HT_ (fun K hK => ?_)
  refine goes_ Try.func74 (by kernel_rfl) rfl #[.slice A0_3 l0_3.length c0_3] (by rfl) rfl rfl ar_ ?_
  with_reducible refine (impl_Early_74.calls _ _ l0_3 t131 _ ?side1 ?side2 A3.out).mono ?_
  (case side1 => exact kC_ (Kd.C_below HR0_3.out HB.out))
  (case side2 => exact HC0_3.out)
  rintro e w8 ⟨v132, rfl, ho0, hb⟩
  refine ⟨_, rfl, ?_⟩
  have n0_ := Aside0.mk (Kd.R_below (kR_ HO130.out) hb)
  have n1_ := Aside0.mk (Kd.R_lower ho0 (below_size (hb2_ HB.out GE126.out GE127.out)))
  have n2_ := Aside0.mk (blk_below (g := gb126) (o := .cells #[.int .i64 a0_0, .int .i64 a0_1, .slice A0_2 l0_2.length c0_2, .slice A0_3 l0_3.length c0_3] 25 (0, 0)) (kb_ BK126.out) hb)
  have n3_ := Aside0.mk (blk_below (g := gb127) (o := .cells #[.int .i64 0, .int .i64 0, .slice none 0 0, .slice none 0 0] 25 (0, 0)) (kb_ BK127.out) hb)
  have n4_ := Aside0.mk (below_step (hb2_ HB.out GE126.out GE127.out) hb)
  clear HO130
  clear BK126
  clear BK127
  clear HB
  have HO130 := n0_
  have HO133 := n1_
  have BK126 := n2_
  have BK127 := n3_
  have HB := n4_
  clear n0_ n1_ n2_ n3_ n4_
  (try clear hb)
  (try clear hb2)
  (try clear hk)
  (try clear hi)
  (try clear ho0)
  obtain ⟨Ao9, co9, eo9⟩ := Kd.R_slice HO130.out
  (first | subst eo9 | (injection eo9 with f1_ f2_ f3_; have f4_ := f1_.symm; have f5_ := f3_.symm; clear f1_ f2_ f3_; subst f4_; subst f5_))
  obtain ⟨Ao11, co11, eo11⟩ := Kd.R_slice HO133.out
  (first | subst eo11 | (injection eo11 with f1_ f2_ f3_; have f4_ := f1_.symm; have f5_ := f3_.symm; clear f1_ f2_ f3_; subst f4_; subst f5_))
  refine hK.out _ _ ⟨(blk_cell BK126.out 0).trans rfl, (blk_cell BK126.out 1).trans rfl, (blk_cell BK126.out 2).trans rfl, (blk_cell BK126.out 3).trans rfl⟩ (fun hHeld => ?_)
  clear hK K
  refine nm_ 8 ?_
  refine last_ (i := 7) (N := none) #[true, true, true, true, true, true, true, true, false, false] rfl rfl (one_of HT_.out (by kernel_rfl)) (by decide) (fun K hK => ?_)
  have hs10 : w8.cell? ⟨gb126, 2, none⟩ = some (.slice A0_2 l0_2.length c0_2) := (blk_cell BK126.out 2).trans rfl
  have hfs10 := blk_frozen BK126.out 2
  have hns10_1 := NB127_126.out
  have hms10_1 := NB126_127.out
  refine skip_ (w1 := ?_) (by rfl) rfl ?_ ?_
  rotate_left
  · go_simp
    rfl
  refine hK.out _ _ ?_
  clear hK K
  refine pu_ (i := 8) (N := some 10) HT_ ?_
  refine last_ (i := 9) (N := none) #[true, true, true, true, true, true, true, true, true, true] rfl rfl (one_of HT_.out (by kernel_rfl)) (by decide) (fun K hK => ?_)
  have hs12 : w8.cell? ⟨gb126, 3, none⟩ = some (.slice A0_3 l0_3.length c0_3) := (blk_cell BK126.out 3).trans rfl
  have hfs12 := blk_frozen BK126.out 3
  have hns12_1 := NB127_126.out
  have hms12_1 := NB126_127.out
  refine skip_ (w1 := ?_) (by rfl) rfl ?_ ?_
  rotate_left
  · go_simp
    rfl
  refine hK.out _ _ ?_
  clear hK K
  refine done_ (done_of HT_.out (by kernel_rfl)) ?_
  have hnb13 := NB126_127.out
  have hnc13 := NB127_126.out
  have hcz14_0 : w8.cell? ⟨gb126, 0, none⟩ = some (.int .i64 a0_0) := (blk_cell BK126.out 0).trans rfl
  have hcz14_1 : w8.cell? ⟨gb126, 1, none⟩ = some (.int .i64 a0_1) := (blk_cell BK126.out 1).trans rfl
  have hcz14_2 : w8.cell? ⟨gb126, 2, none⟩ = some (.slice A0_2 l0_2.length c0_2) := (blk_cell BK126.out 2).trans rfl
  have hcz14_3 : w8.cell? ⟨gb126, 3, none⟩ = some (.slice A0_3 l0_3.length c0_3) := (blk_cell BK126.out 3).trans rfl
  have hfz14_0 := blk_frozen BK126.out 0
  have hfz14_1 := blk_frozen BK126.out 1
  have hfz14_2 := blk_frozen BK126.out 2
  have hfz14_3 := blk_frozen BK126.out 3
  have hcz15_0 : w8.cell? ⟨gb127, 0, none⟩ = some (.int .i64 0) := (blk_cell BK127.out 0).trans rfl
  have hcz15_1 : w8.cell? ⟨gb127, 1, none⟩ = some (.int .i64 0) := (blk_cell BK127.out 1).trans rfl
  have hcz15_2 : w8.cell? ⟨gb127, 2, none⟩ = some (.slice none 0 0) := (blk_cell BK127.out 2).trans rfl
  have hcz15_3 : w8.cell? ⟨gb127, 3, none⟩ = some (.slice none 0 0) := (blk_cell BK127.out 3).trans rfl
  have hfz15_0 := blk_frozen BK127.out 0
  have hfz15_1 := blk_frozen BK127.out 1
  have hfz15_2 := blk_frozen BK127.out 2
  have hfz15_3 := blk_frozen BK127.out 3
  try go_wp2
  refine bodyPost_ret (results_cell_row rfl _ _ gb127 25 #[.int .i64 a0_0, .int .i64 a0_1, .slice Ao9 t128.length co9, .slice Ao11 t131.length co11] (0, 0) _ rfl (by refine kb_ ?_; refine blk_put (cs := #[.int .i64 a0_0, .int .i64 a0_1, .slice Ao9 t128.length co9, .slice none 0 0]) ?_ 3 _ rfl; refine kb_ ?_; refine blk_put (cs := #[.int .i64 a0_0, .int .i64 a0_1, .slice none 0 0, .slice none 0 0]) ?_ 2 _ rfl; refine kb_ ?_; refine blk_put (cs := #[.int .i64 a0_0, .int .i64 0, .slice none 0 0, .slice none 0 0]) ?_ 1 _ rfl; refine kb_ ?_; refine blk_put (cs := #[.int .i64 0, .int .i64 0, .slice none 0 0, .slice none 0 0]) ?_ 0 _ rfl; refine kb_ ?_; refine blk_far ?_ NB127_126.out _; refine kb_ ?_; refine blk_far ?_ NB127_126.out _; refine kb_ ?_; exact BK127.out) Try.underlying25 rfl (by kernel_rfl)) rfl ?_
  exact ⟨_, _, by first | rfl | (simp [errW_none, errW_some] <;> rfl) | (simp [*, errW_none, errW_some] <;> rfl), by refine kR_ ?_; exact Kd.R_mono (Kd.R_f gb127 3 (.slice Ao11 t131.length co11) (Kd.R_f gb127 2 (.slice Ao9 t128.length co9) (Kd.R_f gb127 1 (.int .i64 a0_1) (Kd.R_f gb127 0 (.int .i64 a0_0) (Kd.R_far (p := ⟨gb126, 3, none⟩) (Kd.R_far (p := ⟨gb126, 2, none⟩) (Kd.R_types (Kd.R_types HO130.out BK126.out (by decide)) BK127.out (by decide)) (fun _ hk => hk.1.2) (.slice Ao9 t128.length co9)) (fun _ hk => hk.1.2) (.slice Ao11 t131.length co11)))))) (fun _ hk => trivial), by refine kR_ ?_; exact Kd.R_mono (Kd.R_f gb127 3 (.slice Ao11 t131.length co11) (Kd.R_f gb127 2 (.slice Ao9 t128.length co9) (Kd.R_f gb127 1 (.int .i64 a0_1) (Kd.R_f gb127 0 (.int .i64 a0_0) (Kd.R_far (p := ⟨gb126, 3, none⟩) (Kd.R_far (p := ⟨gb126, 2, none⟩) (Kd.R_types (Kd.R_types HO133.out BK126.out (by decide)) BK127.out (by decide)) (fun _ hk => hk.1.2) (.slice Ao9 t128.length co9)) (fun _ hk => hk.1.2) (.slice Ao11 t131.length co11)))))) (fun _ hk => trivial), by repeat (first | (with_reducible first | exact HB.out | apply below_alloc | apply pw_below_drewN | apply below_drew1 | refine below_set ?_ GE126.out | refine below_set ?_ GE127.out) | exact HB.out)⟩

/-! ### impl_EarRead: function 14 -/
def impl_EarRead.j0 : Nat → Int → Bool → Int → Int → List Int → List (S70) → Option (Int × Int × List Int × (List (S70)) × List Int)
  | 0, _, _, _, _, _, _ => none
  | k + 1, x1, x14, x135000, x135001, x135002, x135003 => if x14 = true then (some (0, 0, ([] : List Int), ([] : List (S70)), ([] : List Int))) else (if 0 ≤ (mn x1 (x135002.length : Int)) then (if (mn x1 (x135002.length : Int)) ≤ (x135002.length : Int) then ((impl_Ear_copy.f x135000 x135001 (x135002.drop ((mn x1 (x135002.length : Int)) : Int).toNat) x135003).bind fun bt139 => ((impl_clone_byte.f (x135002.take ((mn x1 (x135002.length : Int)) : Int).toNat)).bind fun t148 => (some (bt139.1, bt139.2.1, bt139.2.2.1, bt139.2.2.2, t148)))) else (none)) else (none))
def impl_EarRead.f (k : Nat) (a0_0 : Int) (a0_1 : Int) (l0_2 : List Int) (l0_3 : List (S70)) (a1 : Int) : Option (Int × Int × List Int × (List (S70)) × List Int) := (impl_EarOk.f k a0_0 a0_1 l0_2 l0_3).bind fun t136 => (if t136 = true then (impl_EarRead.j0 k a1 (decide (a1 < 0)) a0_0 a0_1 l0_2 l0_3) else (impl_EarRead.j0 k a1 true a0_0 a0_1 l0_2 l0_3))
theorem impl_EarRead.mono_l : ∀ k, (∀ y0 y1 y2 y3 y4 y5, LeO (impl_EarRead.j0 k y0 y1 y2 y3 y4 y5) (impl_EarRead.j0 (k + 1) y0 y1 y2 y3 y4 y5))
  | 0 => fun _ _ _ _ _ _ r h => by simp [impl_EarRead.j0] at h
  | k + 1 => by
    have ih0 := impl_EarRead.mono_l k
    · intro y0 y1 y2 y3 y4 y5
      unfold impl_EarRead.j0
      repeat' first
      | (with_reducible exact ih0 _ _ _ _ _ _)
      | (with_reducible exact impl_EarOk.mono _ _ _ _ _)
      | (with_reducible exact LeO.refl _)
      | (with_reducible exact LeO.none _)
      | (with_reducible refine LeO.ite ?_ ?_)
      | (with_reducible refine LeO.bind ?_ (fun _ => ?_))
      | exact ih0 _ _ _ _ _ _
      | exact impl_EarOk.mono _ _ _ _ _
      | exact LeO.none _
      | refine LeO.ite ?_ ?_
      | refine LeO.bind ?_ (fun _ => ?_)
theorem impl_EarRead.mono : ∀ a0 a1 a2 a3 a4 k, LeO (impl_EarRead.f k a0 a1 a2 a3 a4) (impl_EarRead.f (k + 1) a0 a1 a2 a3 a4) := by
  intro a0 a1 a2 a3 a4 k
  have ih0 := impl_EarRead.mono_l k
  unfold impl_EarRead.f
  repeat' first
      | (with_reducible exact ih0 _ _ _ _ _ _)
      | (with_reducible exact impl_EarOk.mono _ _ _ _ _)
      | (with_reducible exact LeO.refl _)
      | (with_reducible exact LeO.none _)
      | (with_reducible refine LeO.ite ?_ ?_)
      | (with_reducible refine LeO.bind ?_ (fun _ => ?_))
      | exact ih0 _ _ _ _ _ _
      | exact impl_EarOk.mono _ _ _ _ _
      | exact LeO.none _
      | refine LeO.ite ?_ ?_
      | refine LeO.bind ?_ (fun _ => ?_)
def impl_EarRead.T6 : Bool × List (List Nat × List Nat) := (true, [([], []), ([0], [0]), ([], []), ([2], [2]), ([], []), ([3, 4], [3, 4]), ([5, 1], [5]), ([1, 6, 0, 1], [1]), ([6, 7, 0, 1, 2, 3, 4, 5, 6, 7], [6])])
def impl_EarRead.B6 : List Nat := [0, 1, 0, 4, 0, 28, 63, 127, 255]
theorem impl_EarRead.tab6 : rtab .any (opsOf Try.f14 6) = impl_EarRead.T6 := by kernel_rfl
theorem impl_EarRead.bits6 : waitsOk impl_EarRead.T6.2 impl_EarRead.B6 = true := by kernel_rfl
set_option maxHeartbeats 8000000 in
set_option maxRecDepth 100000 in
theorem impl_EarRead.calls (k : Nat) (a0_0 : Int) (a0_1 : Int) (A0_2 : Option Addr) (c0_2 : Nat) (l0_2 : List Int) (A0_3 : Option Addr) (c0_3 : Nat) (l0_3 : List (S70)) (a1 : Int) (r1 : Int) (r2 : Int) (r3 : List Int) (r4 : List (S70)) (r5 : List Int) (w : World) (hr0_2 : Kd.C (Kd.int .u8) w A0_2 l0_2.length l0_2) (hc0_2 : l0_2.length ≤ c0_2) (hr0_3 : Kd.C k70 w A0_3 l0_3.length l0_3) (hc0_3 : l0_3.length ≤ c0_3) (h : impl_EarRead.f k a0_0 a0_1 l0_2 l0_3 a1 = some (r1, r2, r3, r4, r5)) :
    Calls Try.prog 14 #[.agg #[.int .i64 a0_0, .int .i64 a0_1, .slice A0_2 l0_2.length c0_2, .slice A0_3 l0_3.length c0_3], .int .i64 a1] w fun e w' => ∃ v2_ v3_ v4_ : Value, e = .returned (.tuple #[.agg #[.int .i64 r1, .int .i64 r2, v2_, v3_], v4_]) ∧ Kd.R (Kd.int .u8) 5 w' w.heap.size (fun k_ => some k_ ≠ (v4_ : Value).ownBlock) v2_ r3 ∧ Kd.R k70 70 w' w.heap.size (fun _ => True) v3_ r4 ∧ Kd.R (Kd.int .u8) 5 w' w.heap.size (fun k_ => some k_ ≠ (v2_ : Value).ownBlock) v4_ r5 ∧ Below w.heap.size w w' := by
  have hu25 := Try.underlying25
  have HR0_2 := Aside0.mk hr0_2
  have HC0_2 := Aside0.mk hc0_2
  clear hr0_2 hc0_2
  have HR0_3 := Aside0.mk hr0_3
  have HC0_3 := Aside0.mk hc0_3
  clear hr0_3 hc0_3
  have HB := Aside0.mk (Below.refl w.heap.size w)
  have H : ((impl_EarOk.f k a0_0 a0_1 l0_2 l0_3).bind fun t136 => (if t136 = true then (impl_EarRead.j0 k a1 (decide (a1 < 0)) a0_0 a0_1 l0_2 l0_3) else (impl_EarRead.j0 k a1 true a0_0 a0_1 l0_2 l0_3))) = some (r1, r2, r3, r4, r5) := h
  clear h
  have HC3 := Aside0.mk H
  clear H
  go_enter Try.func14, Try.ntmps14
  go_upto_region 1 with (first | ((with_reducible refine gate_dst (N := 2) rfl ?_); refine box_event ?hg (N := 2) ?hd (cs := #[.int .i64 a0_0, .int .i64 a0_1, .slice A0_2 l0_2.length c0_2, .slice A0_3 l0_3.length c0_3]) (t := 25) ?hr ?_; (case hd => rfl); (case hg => rfl); (case hr => first | (go_simp; done) | (go_simp; rfl)); intro gb134 hg w4 hbox hb; have n0_ := Aside0.mk (below_step (hb0_ HB.out) hb); have n1_ := Aside0.mk (hbox); have n2_ := Aside0.mk ((by rw [hg]; exact (below_size (hb0_ HB.out)) : w.heap.size ≤ gb134)); have n3_ := Aside0.mk ((by rw [hg]; exact (below_size (hb0_ HB.out)) : w.heap.size ≤ gb134)); clear HB; have HB := n0_; have BK134 := n1_; have GW134 := n2_; have GE134 := n3_; clear n0_ n1_ n2_ n3_; clear hb hbox hg) | ((with_reducible refine gate_dst (N := 4) rfl ?_); refine box_event ?hg (N := 4) ?hd (cs := #[.int .i64 0, .int .i64 0, .slice none 0 0, .slice none 0 0]) (t := 25) ?hr ?_; (case hd => rfl); (case hg => rfl); (case hr => first | (go_simp; done) | (go_simp; rfl)); intro gb135 hg w5 hbox hb; have n0_ := Aside0.mk (blk_below (g := gb134) (o := .cells #[.int .i64 a0_0, .int .i64 a0_1, .slice A0_2 l0_2.length c0_2, .slice A0_3 l0_3.length c0_3] 25 (0, 0)) (kb_ BK134.out) hb); have n1_ := Aside0.mk (below_step (hb1_ HB.out GE134.out) hb); have n2_ := Aside0.mk (hbox); have n3_ := Aside0.mk ((by rw [hg]; exact (below_size (hb1_ HB.out GE134.out)) : w.heap.size ≤ gb135)); have n4_ := Aside0.mk ((by rw [hg]; exact (below_size (hb1_ HB.out GE134.out)) : w.heap.size ≤ gb135)); have n5_ := Aside0.mk ((by rw [hg]; exact Nat.ne_of_lt (blk_lt (g := gb134) (o := .cells #[.int .i64 a0_0, .int .i64 a0_1, .slice A0_2 l0_2.length c0_2, .slice A0_3 l0_3.length c0_3] 25 (0, 0)) (kb_ BK134.out)) : gb134 ≠ gb135)); have n6_ := Aside0.mk ((by rw [hg]; exact Nat.ne_of_gt (blk_lt (g := gb134) (o := .cells #[.int .i64 a0_0, .int .i64 a0_1, .slice A0_2 l0_2.length c0_2, .slice A0_3 l0_3.length c0_3] 25 (0, 0)) (kb_ BK134.out)) : gb135 ≠ gb134)); clear BK134; clear HB; have BK134 := n0_; have HB := n1_; have BK135 := n2_; have GW135 := n3_; have GE135 := n4_; have NB134_135 := n5_; have NB135_134 := n6_; clear n0_ n1_ n2_ n3_ n4_ n5_ n6_; clear hb hbox hg))
  (try simp only [Act.put, List.setIfInBounds_toArray, List.set_cons_zero, List.set_cons_succ])
  go_cut [14] (fun v14 wc => ∃ (kq : Nat) (x14_2 : Bool), v14 = .bool x14_2 ∧ Aside0 (impl_EarRead.j0 kq a1 x14_2 a0_0 a0_1 l0_2 l0_3 = some (r1, r2, r3, r4, r5)) ∧ Aside0 (kq ≤ k) ∧ Aside0 (wc.heap[gb134]? = some (.cells #[.int .i64 a0_0, .int .i64 a0_1, (.slice A0_2 l0_2.length c0_2), (.slice A0_3 l0_3.length c0_3)] 25 (0, 0))) ∧ Aside0 (wc.heap[gb135]? = some (.cells #[.int .i64 0, .int .i64 0, (.slice none 0 0), (.slice none 0 0)] 25 (0, 0))) ∧ Aside0 (Below w.heap.size w wc))
  case first =>
    have H := HC3.out
    clear HC3
    replace H := Option.bind_eq_some_iff.mp H
    obtain ⟨t136, A60, H⟩ := H
    replace H : (if t136 = true then (impl_EarRead.j0 k a1 (decide (a1 < 0)) a0_0 a0_1 l0_2 l0_3) else (impl_EarRead.j0 k a1 true a0_0 a0_1 l0_2 l0_3)) = some (r1, r2, r3, r4, r5) := H
    have A6 := Aside0.mk A60
    clear A60
    by_cases c7 : t136 = true
    · subst c7
      have H1 : (impl_EarRead.j0 k a1 (decide (a1 < 0)) a0_0 a0_1 l0_2 l0_3) = some (r1, r2, r3, r4, r5) := by rw [if_pos rfl] at H; exact H
      clear H
      have H := H1
      clear H1
      have H' := Aside0.mk H
      clear H
      have hnb8 := NB134_135.out
      have hnc8 := NB135_134.out
      have hcz9_0 : w5.cell? ⟨gb134, 0, none⟩ = some (.int .i64 a0_0) := (blk_cell BK134.out 0).trans rfl
      have hcz9_1 : w5.cell? ⟨gb134, 1, none⟩ = some (.int .i64 a0_1) := (blk_cell BK134.out 1).trans rfl
      have hcz9_2 : w5.cell? ⟨gb134, 2, none⟩ = some (.slice A0_2 l0_2.length c0_2) := (blk_cell BK134.out 2).trans rfl
      have hcz9_3 : w5.cell? ⟨gb134, 3, none⟩ = some (.slice A0_3 l0_3.length c0_3) := (blk_cell BK134.out 3).trans rfl
      have hfz9_0 := blk_frozen BK134.out 0
      have hfz9_1 := blk_frozen BK134.out 1
      have hfz9_2 := blk_frozen BK134.out 2
      have hfz9_3 := blk_frozen BK134.out 3
      go_wp2_with (first | ((with_reducible refine gate_callee (f := 12) rfl ?_); refine goesL_ (some 9) rfl rfl Try.func12 (by kernel_rfl) rfl #[.agg #[.int .i64 a0_0, .int .i64 a0_1, .slice A0_2 l0_2.length c0_2, .slice A0_3 l0_3.length c0_3]] rfl ar_ ?_; (with_reducible refine (impl_EarOk.calls k a0_0 a0_1 _ _ l0_2 _ _ l0_3 true _ ?side1 ?side2 ?side3 ?side4 A6.out).mono ?_); (case side1 => exact kC_ (Kd.C_below HR0_2.out HB.out)); (case side2 => exact HC0_2.out); (case side3 => exact kC_ (Kd.C_below HR0_3.out HB.out)); (case side4 => exact HC0_3.out); rintro e w10 ⟨rfl, hb⟩; refine ⟨_, rfl, ?_⟩; have n0_ := Aside0.mk (blk_below (g := gb134) (o := .cells #[.int .i64 a0_0, .int .i64 a0_1, .slice A0_2 l0_2.length c0_2, .slice A0_3 l0_3.length c0_3] 25 (0, 0)) (kb_ BK134.out) hb); have n1_ := Aside0.mk (blk_below (g := gb135) (o := .cells #[.int .i64 0, .int .i64 0, .slice none 0 0, .slice none 0 0] 25 (0, 0)) (kb_ BK135.out) hb); have n2_ := Aside0.mk (below_step (hb2_ HB.out GE134.out GE135.out) hb); clear BK134; clear BK135; clear HB; have BK134 := n0_; have BK135 := n1_; have HB := n2_; clear n0_ n1_ n2_; (try clear hb); (try clear hb2); (try clear hk); (try clear hi)))
      go_meet
      case rel => exact ⟨_, (decide (a1 < 0)), (by first | rfl | (simp; done) | (simp [*]; done)), H', ⟨by first | omega | exact Nat.le_refl _⟩, ⟨by refine kb_ ?_; exact BK134.out⟩, ⟨by refine kb_ ?_; exact BK135.out⟩, ⟨by repeat (first | (with_reducible first | exact HB.out | apply below_alloc | apply pw_below_drewN | apply below_drew1 | refine below_set ?_ GE134.out | refine below_set ?_ GE135.out) | exact HB.out)⟩⟩
    · replace c7 := Bool.eq_false_iff.mpr c7
      subst c7
      have H1 : (impl_EarRead.j0 k a1 true a0_0 a0_1 l0_2 l0_3) = some (r1, r2, r3, r4, r5) := by rw [if_neg (show ¬ (false = true) by decide)] at H; exact H
      clear H
      have H := H1
      clear H1
      have H' := Aside0.mk H
      clear H
      have hnb11 := NB134_135.out
      have hnc11 := NB135_134.out
      have hcz12_0 : w5.cell? ⟨gb134, 0, none⟩ = some (.int .i64 a0_0) := (blk_cell BK134.out 0).trans rfl
      have hcz12_1 : w5.cell? ⟨gb134, 1, none⟩ = some (.int .i64 a0_1) := (blk_cell BK134.out 1).trans rfl
      have hcz12_2 : w5.cell? ⟨gb134, 2, none⟩ = some (.slice A0_2 l0_2.length c0_2) := (blk_cell BK134.out 2).trans rfl
      have hcz12_3 : w5.cell? ⟨gb134, 3, none⟩ = some (.slice A0_3 l0_3.length c0_3) := (blk_cell BK134.out 3).trans rfl
      have hfz12_0 := blk_frozen BK134.out 0
      have hfz12_1 := blk_frozen BK134.out 1
      have hfz12_2 := blk_frozen BK134.out 2
      have hfz12_3 := blk_frozen BK134.out 3
      go_wp2_with (first | ((with_reducible refine gate_callee (f := 12) rfl ?_); refine goesL_ (some 9) rfl rfl Try.func12 (by kernel_rfl) rfl #[.agg #[.int .i64 a0_0, .int .i64 a0_1, .slice A0_2 l0_2.length c0_2, .slice A0_3 l0_3.length c0_3]] rfl ar_ ?_; (with_reducible refine (impl_EarOk.calls k a0_0 a0_1 _ _ l0_2 _ _ l0_3 false _ ?side1 ?side2 ?side3 ?side4 A6.out).mono ?_); (case side1 => exact kC_ (Kd.C_below HR0_2.out HB.out)); (case side2 => exact HC0_2.out); (case side3 => exact kC_ (Kd.C_below HR0_3.out HB.out)); (case side4 => exact HC0_3.out); rintro e w13 ⟨rfl, hb⟩; refine ⟨_, rfl, ?_⟩; have n0_ := Aside0.mk (blk_below (g := gb134) (o := .cells #[.int .i64 a0_0, .int .i64 a0_1, .slice A0_2 l0_2.length c0_2, .slice A0_3 l0_3.length c0_3] 25 (0, 0)) (kb_ BK134.out) hb); have n1_ := Aside0.mk (blk_below (g := gb135) (o := .cells #[.int .i64 0, .int .i64 0, .slice none 0 0, .slice none 0 0] 25 (0, 0)) (kb_ BK135.out) hb); have n2_ := Aside0.mk (below_step (hb2_ HB.out GE134.out GE135.out) hb); clear BK134; clear BK135; clear HB; have BK134 := n0_; have BK135 := n1_; have HB := n2_; clear n0_ n1_ n2_; (try clear hb); (try clear hb2); (try clear hk); (try clear hi)))
      go_meet
      case rel => exact ⟨_, (true), (by first | rfl | (simp; done) | (simp [*]; done)), H', ⟨by first | omega | exact Nat.le_refl _⟩, ⟨by refine kb_ ?_; exact BK134.out⟩, ⟨by refine kb_ ?_; exact BK135.out⟩, ⟨by repeat (first | (with_reducible first | exact HB.out | apply below_alloc | apply pw_below_drewN | apply below_drew1 | refine below_set ?_ GE134.out | refine below_set ?_ GE135.out) | exact HB.out)⟩⟩
  case rest =>
    clear HC3
    try clear c1
    try clear p2
    try clear c7
    try clear c8
    try clear c11
    try clear c12
    try clear hcz12_0
    try clear hcz12_1
    try clear hcz12_2
    try clear hcz12_3
    try clear hcz9_0
    try clear hcz9_1
    try clear hcz9_2
    try clear hcz9_3
    try clear hfz12_0
    try clear hfz12_1
    try clear hfz12_2
    try clear hfz12_3
    try clear hfz9_0
    try clear hfz9_1
    try clear hfz9_2
    try clear hfz9_3
    obtain ⟨kq, x14_2, rfl, HA, HJ2, BK134, BK135, HB⟩ := hcut
    cases kq with
    | zero => exact absurd HA.out (by simp [impl_EarRead.j0])
    | succ kj2 =>
      have H := HA.out
      clear HA
      simp only [impl_EarRead.j0] at H
      by_cases c14 : x14_2 = true
      · subst c14
        have H1 : (some (0, 0, ([] : List Int), ([] : List (S70)), ([] : List Int))) = some (r1, r2, r3, r4, r5) := by rw [if_pos rfl] at H; exact H
        clear H
        have H := H1
        clear H1
        simp only [Option.some.injEq, Prod.mk.injEq] at H
        obtain ⟨rfl, rfl, rfl, rfl, rfl⟩ := H
        have hnb15 := NB135_134.out
        have hnc15 := NB134_135.out
        have hcz16_0 : wc.cell? ⟨gb135, 0, none⟩ = some (.int .i64 0) := (blk_cell BK135.out 0).trans rfl
        have hcz16_1 : wc.cell? ⟨gb135, 1, none⟩ = some (.int .i64 0) := (blk_cell BK135.out 1).trans rfl
        have hcz16_2 : wc.cell? ⟨gb135, 2, none⟩ = some (.slice none 0 0) := (blk_cell BK135.out 2).trans rfl
        have hcz16_3 : wc.cell? ⟨gb135, 3, none⟩ = some (.slice none 0 0) := (blk_cell BK135.out 3).trans rfl
        have hfz16_0 := blk_frozen BK135.out 0
        have hfz16_1 := blk_frozen BK135.out 1
        have hfz16_2 := blk_frozen BK135.out 2
        have hfz16_3 := blk_frozen BK135.out 3
        go_wp2
        refine bodyPost_ret (results_ct rfl _ _ gb135 25 #[.int .i64 0, .int .i64 0, .slice none 0 0, .slice none 0 0] (0, 0) _ rfl (by refine kb_ ?_; refine blk_put (cs := #[.int .i64 0, .int .i64 0, .slice none 0 0, .slice none 0 0]) ?_ 3 _ rfl; refine kb_ ?_; refine blk_put (cs := #[.int .i64 0, .int .i64 0, .slice none 0 0, .slice none 0 0]) ?_ 2 _ rfl; refine kb_ ?_; refine blk_put (cs := #[.int .i64 0, .int .i64 0, .slice none 0 0, .slice none 0 0]) ?_ 1 _ rfl; refine kb_ ?_; refine blk_put (cs := #[.int .i64 0, .int .i64 0, .slice none 0 0, .slice none 0 0]) ?_ 0 _ rfl; refine kb_ ?_; exact BK135.out) Try.underlying25 rfl (by kernel_rfl)) rfl ?_
        exact ⟨_, _, _, by first | rfl | (simp [errW_none, errW_some] <;> rfl) | (simp [*, errW_none, errW_some] <;> rfl), by first | exact Kd.R_nil _ _ _ _ _ | exact Kd.N_nil _ _ _ _ _ | exact Kd.V_nil _ _ _ _ _ | exact Kd.Q_nil _ _ _ _ _ | exact Kd.S_nil _ _ _ _ _, by first | exact Kd.R_nil _ _ _ _ _ | exact Kd.N_nil _ _ _ _ _ | exact Kd.V_nil _ _ _ _ _ | exact Kd.Q_nil _ _ _ _ _ | exact Kd.S_nil _ _ _ _ _, by first | exact Kd.R_nil _ _ _ _ _ | exact Kd.N_nil _ _ _ _ _ | exact Kd.V_nil _ _ _ _ _ | exact Kd.Q_nil _ _ _ _ _ | exact Kd.S_nil _ _ _ _ _, by repeat (first | (with_reducible first | exact HB.out | apply below_alloc | apply pw_below_drewN | apply below_drew1 | refine below_set ?_ GE134.out | refine below_set ?_ GE135.out) | exact HB.out)⟩
      · replace c14 := Bool.eq_false_iff.mpr c14
        subst c14
        have H1 : (if 0 ≤ (mn a1 (l0_2.length : Int)) then (if (mn a1 (l0_2.length : Int)) ≤ (l0_2.length : Int) then ((impl_Ear_copy.f a0_0 a0_1 (l0_2.drop ((mn a1 (l0_2.length : Int)) : Int).toNat) l0_3).bind fun bt139 => ((impl_clone_byte.f (l0_2.take ((mn a1 (l0_2.length : Int)) : Int).toNat)).bind fun t148 => (some (bt139.1, bt139.2.1, bt139.2.2.1, bt139.2.2.2, t148)))) else (none)) else (none)) = some (r1, r2, r3, r4, r5) := by rw [if_neg (show ¬ (false = true) by decide)] at H; exact H
        clear H
        have H := H1
        clear H1
        obtain ⟨ji17, hji17⟩ : ∃ j_ : Int, (mn a1 (l0_2.length : Int)) = j_ := ⟨_, rfl⟩
        replace H : (if 0 ≤ (ji17) then (if (ji17) ≤ (l0_2.length : Int) then ((impl_Ear_copy.f a0_0 a0_1 (l0_2.drop ((ji17) : Int).toNat) l0_3).bind fun bt139 => ((impl_clone_byte.f (l0_2.take ((ji17) : Int).toNat)).bind fun t148 => (some (bt139.1, bt139.2.1, bt139.2.2.1, bt139.2.2.2, t148)))) else (none)) else (none)) = some (r1, r2, r3, r4, r5) := by first | (rw [hji17] at H; exact H) | (simp only [hji17] at H ⊢; exact H)
        have hji17_ : (if (l0_2.length : Int) < a1 then (l0_2.length : Int) else a1) = ji17 := hji17
        by_cases c18 : 0 ≤ (ji17)
        · rw [if_pos c18] at H
          have c18b0 := eq_true c18
          have c18b1 : decide (0 ≤ (ji17)) = true := decide_eq_true c18
          clear c18
          by_cases c19 : (ji17) ≤ (l0_2.length : Int)
          · rw [if_pos c19] at H
            have c19b0 := eq_true c19
            have c19b1 : decide ((ji17) ≤ (l0_2.length : Int)) = true := decide_eq_true c19
            clear c19
            replace H := Option.bind_eq_some_iff.mp H
            obtain ⟨⟨t139, t140, t141, t144⟩, A200, H⟩ := H
            replace H : ((impl_clone_byte.f (l0_2.take ((ji17) : Int).toNat)).bind fun t148 => (some (t139, t140, t141, t144, t148))) = some (r1, r2, r3, r4, r5) := H
            have A20 := Aside0.mk A200
            clear A200
            have c21b0 := eq_true (of_decide_eq_true (by first | (with_reducible assumption) | assumption) : 0 ≤ (ji17))
            have c22b0 := eq_true (of_decide_eq_true (by first | (with_reducible assumption) | assumption) : (ji17) ≤ (l0_2.length : Int))
            replace H := Option.bind_eq_some_iff.mp H
            obtain ⟨t148, A230, H⟩ := H
            replace H : (some (t139, t140, t141, t144, t148)) = some (r1, r2, r3, r4, r5) := H
            have A23 := Aside0.mk A230
            clear A230
            simp only [Option.some.injEq, Prod.mk.injEq] at H
            obtain ⟨rfl, rfl, rfl, rfl, rfl⟩ := H
            have hnb24 := NB134_135.out
            have hnc24 := NB135_134.out
            have hcz25_0 : wc.cell? ⟨gb134, 0, none⟩ = some (.int .i64 a0_0) := (blk_cell BK134.out 0).trans rfl
            have hcz25_1 : wc.cell? ⟨gb134, 1, none⟩ = some (.int .i64 a0_1) := (blk_cell BK134.out 1).trans rfl
            have hcz25_2 : wc.cell? ⟨gb134, 2, none⟩ = some (.slice A0_2 l0_2.length c0_2) := (blk_cell BK134.out 2).trans rfl
            have hcz25_3 : wc.cell? ⟨gb134, 3, none⟩ = some (.slice A0_3 l0_3.length c0_3) := (blk_cell BK134.out 3).trans rfl
            have hfz25_0 := blk_frozen BK134.out 0
            have hfz25_1 := blk_frozen BK134.out 1
            have hfz25_2 := blk_frozen BK134.out 2
            have hfz25_3 := blk_frozen BK134.out 3
            try go_wp2_with (first | ((with_reducible refine gate_dst (N := 7) rfl ?_); refine box_event ?hg (N := 7) ?hd (cs := #[.int .i64 0, .int .i64 0, .slice none 0 0, .slice none 0 0]) (t := 25) ?hr ?_; (case hd => rfl); (case hg => rfl); (case hr => first | (go_simp; done) | (go_simp; rfl)); intro gb137 hg w26 hbox hb; have n0_ := Aside0.mk (blk_below (g := gb134) (o := .cells #[.int .i64 a0_0, .int .i64 a0_1, .slice A0_2 l0_2.length c0_2, .slice A0_3 l0_3.length c0_3] 25 (0, 0)) (kb_ BK134.out) hb); have n1_ := Aside0.mk (blk_below (g := gb135) (o := .cells #[.int .i64 0, .int .i64 0, .slice none 0 0, .slice none 0 0] 25 (0, 0)) (kb_ BK135.out) hb); have n2_ := Aside0.mk (below_step (hb2_ HB.out GE134.out GE135.out) hb); have n3_ := Aside0.mk (hbox); have n4_ := Aside0.mk ((by rw [hg]; exact (below_size (hb2_ HB.out GE134.out GE135.out)) : w.heap.size ≤ gb137)); have n5_ := Aside0.mk ((by rw [hg]; exact (below_size (hb2_ HB.out GE134.out GE135.out)) : w.heap.size ≤ gb137)); have n6_ := Aside0.mk ((by rw [hg]; exact Nat.ne_of_lt (blk_lt (g := gb134) (o := .cells #[.int .i64 a0_0, .int .i64 a0_1, .slice A0_2 l0_2.length c0_2, .slice A0_3 l0_3.length c0_3] 25 (0, 0)) (kb_ BK134.out)) : gb134 ≠ gb137)); have n7_ := Aside0.mk ((by rw [hg]; exact Nat.ne_of_gt (blk_lt (g := gb134) (o := .cells #[.int .i64 a0_0, .int .i64 a0_1, .slice A0_2 l0_2.length c0_2, .slice A0_3 l0_3.length c0_3] 25 (0, 0)) (kb_ BK134.out)) : gb137 ≠ gb134)); have n8_ := Aside0.mk ((by rw [hg]; exact Nat.ne_of_lt (blk_lt (g := gb135) (o := .cells #[.int .i64 0, .int .i64 0, .slice none 0 0, .slice none 0 0] 25 (0, 0)) (kb_ BK135.out)) : gb135 ≠ gb137)); have n9_ := Aside0.mk ((by rw [hg]; exact Nat.ne_of_gt (blk_lt (g := gb135) (o := .cells #[.int .i64 0, .int .i64 0, .slice none 0 0, .slice none 0 0] 25 (0, 0)) (kb_ BK135.out)) : gb137 ≠ gb135)); clear BK134; clear BK135; clear HB; have BK134 := n0_; have BK135 := n1_; have HB := n2_; have BK137 := n3_; have GW137 := n4_; have GE137 := n5_; have NB134_137 := n6_; have NB137_134 := n7_; have NB135_137 := n8_; have NB137_135 := n9_; clear n0_ n1_ n2_ n3_ n4_ n5_ n6_ n7_ n8_ n9_; clear hb hbox hg; have hnb27 := NB137_134.out; have hnc27 := NB134_137.out; have hnb28 := NB137_135.out; have hnc28 := NB135_137.out; have hcz29_0 : w26.cell? ⟨gb137, 0, none⟩ = some (.int .i64 0) := (blk_cell BK137.out 0).trans rfl; have hcz29_1 : w26.cell? ⟨gb137, 1, none⟩ = some (.int .i64 0) := (blk_cell BK137.out 1).trans rfl; have hcz29_2 : w26.cell? ⟨gb137, 2, none⟩ = some (.slice none 0 0) := (blk_cell BK137.out 2).trans rfl; have hcz29_3 : w26.cell? ⟨gb137, 3, none⟩ = some (.slice none 0 0) := (blk_cell BK137.out 3).trans rfl; have hfz29_0 := blk_frozen BK137.out 0; have hfz29_1 := blk_frozen BK137.out 1; have hfz29_2 := blk_frozen BK137.out 2; have hfz29_3 := blk_frozen BK137.out 3; have hcz30_0 : w26.cell? ⟨gb134, 0, none⟩ = some (.int .i64 a0_0) := (blk_cell BK134.out 0).trans rfl; have hcz30_1 : w26.cell? ⟨gb134, 1, none⟩ = some (.int .i64 a0_1) := (blk_cell BK134.out 1).trans rfl; have hcz30_2 : w26.cell? ⟨gb134, 2, none⟩ = some (.slice A0_2 l0_2.length c0_2) := (blk_cell BK134.out 2).trans rfl; have hcz30_3 : w26.cell? ⟨gb134, 3, none⟩ = some (.slice A0_3 l0_3.length c0_3) := (blk_cell BK134.out 3).trans rfl; have hfz30_0 := blk_frozen BK134.out 0; have hfz30_1 := blk_frozen BK134.out 1; have hfz30_2 := blk_frozen BK134.out 2; have hfz30_3 := blk_frozen BK134.out 3; obtain ⟨i031, hi031, _, hsz31, _⟩ := info_parts info5; obtain ⟨A31, hcut31, hA31, hC31⟩ := print_drop_of (P := Try.prog) (Value.int .u8) 0 22 5 .i64 Try.underlying22 hi031 hsz31 A0_2 c0_2 l0_2 (ji17) (of_decide_eq_true (by first | (with_reducible assumption) | assumption)) (of_decide_eq_true (by first | (with_reducible assumption) | assumption)) HC0_2.out; have HR138 := Aside0.mk (Kd.C_of_reads (h1 := fun _ => rfl) (hA31 _ (Kd.reads_of_C HR0_2.out))); have HC138 := Aside0.mk hC31; clear hA31 hC31 hi031 hsz31))
            (try simp only [← List.length_drop])
            have n0_ : Aside0 ((((((w26.setCell ⟨gb137, 0, none⟩ (.int .i64 a0_0)).setCell ⟨gb137, 1, none⟩ (.int .i64 a0_1)).setCell ⟨gb137, 2, none⟩ (.slice A0_2 l0_2.length c0_2)).setCell ⟨gb137, 3, none⟩ (.slice A0_3 l0_3.length c0_3)).setCell ⟨gb137, 2, none⟩ (.slice A31 (l0_2.drop ((ji17) : Int).toNat).length (c0_2 - (ji17).toNat))).heap[gb134]? = some (.cells #[.int .i64 a0_0, .int .i64 a0_1, .slice A0_2 l0_2.length c0_2, .slice A0_3 l0_3.length c0_3] 25 (0, 0))) := ⟨by refine kb_ ?_; refine blk_far ?_ NB134_137.out _; refine kb_ ?_; refine blk_far ?_ NB134_137.out _; refine kb_ ?_; refine blk_far ?_ NB134_137.out _; refine kb_ ?_; refine blk_far ?_ NB134_137.out _; refine kb_ ?_; refine blk_far ?_ NB134_137.out _; refine kb_ ?_; exact BK134.out⟩
            have n1_ : Aside0 ((((((w26.setCell ⟨gb137, 0, none⟩ (.int .i64 a0_0)).setCell ⟨gb137, 1, none⟩ (.int .i64 a0_1)).setCell ⟨gb137, 2, none⟩ (.slice A0_2 l0_2.length c0_2)).setCell ⟨gb137, 3, none⟩ (.slice A0_3 l0_3.length c0_3)).setCell ⟨gb137, 2, none⟩ (.slice A31 (l0_2.drop ((ji17) : Int).toNat).length (c0_2 - (ji17).toNat))).heap[gb135]? = some (.cells #[.int .i64 0, .int .i64 0, .slice none 0 0, .slice none 0 0] 25 (0, 0))) := ⟨by refine kb_ ?_; refine blk_far ?_ NB135_137.out _; refine kb_ ?_; refine blk_far ?_ NB135_137.out _; refine kb_ ?_; refine blk_far ?_ NB135_137.out _; refine kb_ ?_; refine blk_far ?_ NB135_137.out _; refine kb_ ?_; refine blk_far ?_ NB135_137.out _; refine kb_ ?_; exact BK135.out⟩
            have n2_ : Aside0 ((((((w26.setCell ⟨gb137, 0, none⟩ (.int .i64 a0_0)).setCell ⟨gb137, 1, none⟩ (.int .i64 a0_1)).setCell ⟨gb137, 2, none⟩ (.slice A0_2 l0_2.length c0_2)).setCell ⟨gb137, 3, none⟩ (.slice A0_3 l0_3.length c0_3)).setCell ⟨gb137, 2, none⟩ (.slice A31 (l0_2.drop ((ji17) : Int).toNat).length (c0_2 - (ji17).toNat))).heap[gb137]? = some (.cells #[.int .i64 a0_0, .int .i64 a0_1, .slice A31 (l0_2.drop ((ji17) : Int).toNat).length (c0_2 - (ji17).toNat), .slice A0_3 l0_3.length c0_3] 25 (0, 0))) := ⟨by refine kb_ ?_; refine blk_put (cs := #[.int .i64 a0_0, .int .i64 a0_1, .slice A0_2 l0_2.length c0_2, .slice A0_3 l0_3.length c0_3]) ?_ 2 _ rfl; refine kb_ ?_; refine blk_put (cs := #[.int .i64 a0_0, .int .i64 a0_1, .slice A0_2 l0_2.length c0_2, .slice none 0 0]) ?_ 3 _ rfl; refine kb_ ?_; refine blk_put (cs := #[.int .i64 a0_0, .int .i64 a0_1, .slice none 0 0, .slice none 0 0]) ?_ 2 _ rfl; refine kb_ ?_; refine blk_put (cs := #[.int .i64 a0_0, .int .i64 0, .slice none 0 0, .slice none 0 0]) ?_ 1 _ rfl; refine kb_ ?_; refine blk_put (cs := #[.int .i64 0, .int .i64 0, .slice none 0 0, .slice none 0 0]) ?_ 0 _ rfl; refine kb_ ?_; exact BK137.out⟩
            have n3_ : Aside0 (Below w.heap.size w (((((w26.setCell ⟨gb137, 0, none⟩ (.int .i64 a0_0)).setCell ⟨gb137, 1, none⟩ (.int .i64 a0_1)).setCell ⟨gb137, 2, none⟩ (.slice A0_2 l0_2.length c0_2)).setCell ⟨gb137, 3, none⟩ (.slice A0_3 l0_3.length c0_3)).setCell ⟨gb137, 2, none⟩ (.slice A31 (l0_2.drop ((ji17) : Int).toNat).length (c0_2 - (ji17).toNat)))) := ⟨by repeat (first | (with_reducible first | exact HB.out | apply below_alloc | apply pw_below_drewN | apply below_drew1 | refine below_set ?_ GE134.out | refine below_set ?_ GE135.out | refine below_set ?_ GE137.out) | exact HB.out)⟩
            (try clear BK134)
            (try clear BK135)
            (try clear BK137)
            (try clear HB)
            generalize (((((w26.setCell ⟨gb137, 0, none⟩ (.int .i64 a0_0)).setCell ⟨gb137, 1, none⟩ (.int .i64 a0_1)).setCell ⟨gb137, 2, none⟩ (.slice A0_2 l0_2.length c0_2)).setCell ⟨gb137, 3, none⟩ (.slice A0_3 l0_3.length c0_3)).setCell ⟨gb137, 2, none⟩ (.slice A31 (l0_2.drop ((ji17) : Int).toNat).length (c0_2 - (ji17).toNat))) = w32 at n0_ n1_ n2_ n3_ ⊢
            have BK134 := n0_
            have BK135 := n1_
            have BK137 := n2_
            have HB := n3_
            clear n0_ n1_ n2_ n3_
            have n0_ := Aside0.mk (blk_drew BK134.out)
            have n1_ := Aside0.mk (blk_drew BK135.out)
            have n2_ := Aside0.mk (blk_drew BK137.out)
            have n3_ := Aside0.mk (below_drew1 HB.out)
            clear BK134
            clear BK135
            clear BK137
            clear HB
            have BK134 := n0_
            have BK135 := n1_
            have BK137 := n2_
            have HB := n3_
            clear n0_ n1_ n2_ n3_
            obtain ⟨i034, hi034, _, hsz34, _⟩ := info_parts info5
            obtain ⟨hcut34, hA34, hC34⟩ := print_take_of (P := Try.prog) (Value.int .u8) 0 22 5 .i64 Try.underlying22 hi034 hsz34 A0_2 c0_2 l0_2 (ji17) (of_decide_eq_true (by first | (with_reducible assumption) | assumption)) (of_decide_eq_true (by first | (with_reducible assumption) | assumption)) HC0_2.out
            have HR147 := Aside0.mk (Kd.C_of_reads (h1 := fun _ => rfl) (hA34 _ (Kd.reads_of_C HR0_2.out)))
            have HC147 := Aside0.mk hC34
            clear hA34 hC34 hi034 hsz34
            refine start_ (n := 9) (S := fun w' => w'.cell? ⟨gb137, 0, none⟩ = some (.int .i64 a0_0) ∧ w'.cell? ⟨gb137, 1, none⟩ = some (.int .i64 a0_1) ∧ w'.cell? ⟨gb137, 2, none⟩ = some (.slice A31 (l0_2.drop ((ji17) : Int).toNat).length (c0_2 - (ji17).toNat)) ∧ w'.cell? ⟨gb137, 3, none⟩ = some (.slice A0_3 l0_3.length c0_3) ∧ w'.cell? ⟨gb134, 0, none⟩ = some (.int .i64 a0_0) ∧ w'.cell? ⟨gb134, 1, none⟩ = some (.int .i64 a0_1) ∧ w'.cell? ⟨gb134, 2, none⟩ = some (.slice A0_2 l0_2.length c0_2) ∧ w'.cell? ⟨gb134, 3, none⟩ = some (.slice A0_3 l0_3.length c0_3)) (ds := []) #[false, false, false, false, false, false, false, false, false] (by kernel_rfl) rfl rfl ⟨(blk_cell BK137.out 0).trans rfl, (blk_cell BK137.out 1).trans rfl, (blk_cell BK137.out 2).trans rfl, (blk_cell BK137.out 3).trans rfl, (blk_cell BK134.out 0).trans rfl, (blk_cell BK134.out 1).trans rfl, (blk_cell BK134.out 2).trans rfl, (blk_cell BK134.out 3).trans rfl⟩ (fun hHeld => ?_); refine with_tabW impl_EarRead.tab6 impl_EarRead.bits6 (fun HT_ HW_ => ?_)
            generalize w32.drew = w33 at BK134 BK135 BK137 HB HR147 hHeld ⊢
            refine pu_ (i := 2) (N := some 29) HT_ ?_
            refine pu_ (i := 4) (N := some 31) HT_ ?_
            refine tk_ (i := 0) (N := some 27) HT_ HW_ hHeld ?_
            refine tk_ (i := 3) (N := some 30) HT_ HW_ hHeld ?_
            refine pu_ (i := 5) (N := some 32) HT_ ?_
            refine on_ (i := 1) (N := some 28) HT_ (fun K hK => ?_)
            refine goes_ Try.func46 (by kernel_rfl) rfl #[.agg #[.int .i64 a0_0, .int .i64 a0_1, .slice A31 (l0_2.drop ((ji17) : Int).toNat).length (c0_2 - (ji17).toNat), .slice A0_3 l0_3.length c0_3]] (by rfl) rfl rfl (by (try simp only [List.map_toArray, List.map_cons, List.map_nil]); first | done | (rw [show (l0_2.drop ((ji17) : Int).toNat).length = (l0_2.length - (ji17).toNat) from List.length_drop] <;> rfl) | (simp only [hji17]; rfl) | rfl | (simp only [List.length_drop, List.length_take]; rfl)) ?_
            with_reducible refine (impl_Ear_copy.calls a0_0 a0_1 _ _ (l0_2.drop ((ji17) : Int).toNat) _ _ l0_3 t139 t140 t141 t144 _ ?side1 ?side2 ?side3 ?side4 A20.out).mono ?_
            (case side1 => exact kC_ (Kd.C_below HR138.out HB.out))
            (case side2 => exact HC138.out)
            (case side3 => exact kC_ (Kd.C_below HR0_3.out HB.out))
            (case side4 => exact HC0_3.out)
            rintro e w35 ⟨v142, v145, rfl, ho0, ho1, hb⟩
            refine ⟨_, rfl, ?_⟩
            have n0_ := Aside0.mk (Kd.R_lower ho0 (below_size (hb3_ HB.out GE134.out GE135.out GE137.out)))
            have n1_ := Aside0.mk (Kd.R_lower ho1 (below_size (hb3_ HB.out GE134.out GE135.out GE137.out)))
            have n2_ := Aside0.mk (blk_below (g := gb134) (o := .cells #[.int .i64 a0_0, .int .i64 a0_1, .slice A0_2 l0_2.length c0_2, .slice A0_3 l0_3.length c0_3] 25 (0, 0)) (kb_ BK134.out) hb)
            have n3_ := Aside0.mk (blk_below (g := gb135) (o := .cells #[.int .i64 0, .int .i64 0, .slice none 0 0, .slice none 0 0] 25 (0, 0)) (kb_ BK135.out) hb)
            have n4_ := Aside0.mk (blk_below (g := gb137) (o := .cells #[.int .i64 a0_0, .int .i64 a0_1, .slice A31 (l0_2.drop ((ji17) : Int).toNat).length (c0_2 - (ji17).toNat), .slice A0_3 l0_3.length c0_3] 25 (0, 0)) (kb_ BK137.out) hb)
            have n5_ := Aside0.mk (below_step (hb3_ HB.out GE134.out GE135.out GE137.out) hb)
            clear BK134
            clear BK135
            clear BK137
            clear HB
            have HO143 := n0_
            have HO146 := n1_
            have BK134 := n2_
            have BK135 := n3_
            have BK137 := n4_
            have HB := n5_
            clear n0_ n1_ n2_ n3_ n4_ n5_
            (try clear hb)
            (try clear hb2)
            (try clear hk)
            (try clear hi)
            (try clear ho0)
            (try clear ho1)
            refine hK.out _ _ ⟨(blk_cell BK137.out 0).trans rfl, (blk_cell BK137.out 1).trans rfl, (blk_cell BK137.out 2).trans rfl, (blk_cell BK137.out 3).trans rfl, (blk_cell BK134.out 0).trans rfl, (blk_cell BK134.out 1).trans rfl, (blk_cell BK134.out 2).trans rfl, (blk_cell BK134.out 3).trans rfl⟩ (fun hHeld => ?_)
            clear hK K
            refine nm_ 28 ?_
            refine on_ (i := 6) (N := some 33) HT_ (fun K hK => ?_)
            refine goes_ Try.func47 (by kernel_rfl) rfl #[.slice A0_2 (l0_2.take ((ji17) : Int).toNat).length c0_2] (by rfl) rfl rfl (by (try simp only [List.map_toArray, List.map_cons, List.map_nil]); first | done | (rw [show (l0_2.take ((ji17) : Int).toNat).length = (ji17).toNat from (by rw [List.length_take]; have h_ : ((ji17) : Int) ≤ (l0_2.length : Int) := of_decide_eq_true (by first | (with_reducible assumption) | assumption); omega)] <;> rfl) | (simp only [hji17]; rfl) | rfl | (simp only [List.length_drop, List.length_take]; rfl)) ?_
            with_reducible refine (impl_clone_byte.calls _ _ (l0_2.take ((ji17) : Int).toNat) t148 _ ?side1 ?side2 A23.out).mono ?_
            (case side1 => exact kC_ (Kd.C_below HR147.out HB.out))
            (case side2 => exact HC147.out)
            rintro e w36 ⟨v149, rfl, ho0, hb⟩
            refine ⟨_, rfl, ?_⟩
            have n0_ := Aside0.mk (Kd.R_elder' (kR_ HO143.out) (Kd.R_base ho0) hb)
            have n1_ := Aside0.mk (Kd.R_below (kR_ HO146.out) hb)
            have n2_ := Aside0.mk (Kd.R_lower (Kd.R_new' ho0 (Kd.R_lt (kR_ HO143.out))) (below_size (hb3_ HB.out GE134.out GE135.out GE137.out)))
            have n3_ := Aside0.mk (blk_below (g := gb134) (o := .cells #[.int .i64 a0_0, .int .i64 a0_1, .slice A0_2 l0_2.length c0_2, .slice A0_3 l0_3.length c0_3] 25 (0, 0)) (kb_ BK134.out) hb)
            have n4_ := Aside0.mk (blk_below (g := gb135) (o := .cells #[.int .i64 0, .int .i64 0, .slice none 0 0, .slice none 0 0] 25 (0, 0)) (kb_ BK135.out) hb)
            have n5_ := Aside0.mk (blk_below (g := gb137) (o := .cells #[.int .i64 a0_0, .int .i64 a0_1, .slice A31 (l0_2.drop ((ji17) : Int).toNat).length (c0_2 - (ji17).toNat), .slice A0_3 l0_3.length c0_3] 25 (0, 0)) (kb_ BK137.out) hb)
            have n6_ := Aside0.mk (below_step (hb3_ HB.out GE134.out GE135.out GE137.out) hb)
            clear HO143
            clear HO146
            clear BK134
            clear BK135
            clear BK137
            clear HB
            have HO143 := n0_
            have HO146 := n1_
            have HO150 := n2_
            have BK134 := n3_
            have BK135 := n4_
            have BK137 := n5_
            have HB := n6_
            clear n0_ n1_ n2_ n3_ n4_ n5_ n6_
            (try clear hb)
            (try clear hb2)
            (try clear hk)
            (try clear hi)
            (try clear ho0)
            obtain ⟨Ao39, co39, eo39⟩ := Kd.R_slice HO143.out
            (first | subst eo39 | (injection eo39 with f1_ f2_ f3_; have f4_ := f1_.symm; have f5_ := f3_.symm; clear f1_ f2_ f3_; subst f4_; subst f5_))
            obtain ⟨Ao41, co41, eo41⟩ := Kd.R_slice HO146.out
            (first | subst eo41 | (injection eo41 with f1_ f2_ f3_; have f4_ := f1_.symm; have f5_ := f3_.symm; clear f1_ f2_ f3_; subst f4_; subst f5_))
            refine hK.out _ _ ⟨(blk_cell BK137.out 0).trans rfl, (blk_cell BK137.out 1).trans rfl, (blk_cell BK137.out 2).trans rfl, (blk_cell BK137.out 3).trans rfl, (blk_cell BK134.out 0).trans rfl, (blk_cell BK134.out 1).trans rfl, (blk_cell BK134.out 2).trans rfl, (blk_cell BK134.out 3).trans rfl⟩ (fun hHeld => ?_)
            clear hK K
            refine nm_ 33 ?_
            refine on_ (i := 7) (N := none) HT_ (fun K hK => ?_)
            have hs37 : w36.cell? ⟨gb135, 0, none⟩ = some (.int .i64 0) := (blk_cell BK135.out 0).trans rfl
            have hfs37 := blk_frozen BK135.out 0
            have hns37_0 := NB134_135.out
            have hns37_2 := NB137_135.out
            have hms37_0 := NB135_134.out
            have hms37_2 := NB135_137.out
            have hs38 : w36.cell? ⟨gb135, 1, none⟩ = some (.int .i64 0) := (blk_cell BK135.out 1).trans rfl
            have hfs38 := blk_frozen BK135.out 1
            have hns38_0 := NB134_135.out
            have hns38_2 := NB137_135.out
            have hms38_0 := NB135_134.out
            have hms38_2 := NB135_137.out
            have hs40 : w36.cell? ⟨gb135, 2, none⟩ = some (.slice none 0 0) := (blk_cell BK135.out 2).trans rfl
            have hfs40 := blk_frozen BK135.out 2
            have hns40_0 := NB134_135.out
            have hns40_2 := NB137_135.out
            have hms40_0 := NB135_134.out
            have hms40_2 := NB135_137.out
            have hs42 : w36.cell? ⟨gb135, 3, none⟩ = some (.slice none 0 0) := (blk_cell BK135.out 3).trans rfl
            have hfs42 := blk_frozen BK135.out 3
            have hns42_0 := NB134_135.out
            have hns42_2 := NB137_135.out
            have hms42_0 := NB135_134.out
            have hms42_2 := NB135_137.out
            refine skip_ (w1 := ?_) (by rfl) rfl ?_ ?_
            rotate_left
            · go_simp
              rfl
            refine hK.out _ _ ⟨((cell_far (p := ⟨gb135, _, none⟩) NB137_135.out _).trans (((cell_far (p := ⟨gb135, _, none⟩) NB137_135.out _).trans (((cell_far (p := ⟨gb135, _, none⟩) NB137_135.out _).trans (((cell_far (p := ⟨gb135, _, none⟩) NB137_135.out _).trans (hHeld.1)))))))), ((cell_far (p := ⟨gb135, _, none⟩) NB137_135.out _).trans (((cell_far (p := ⟨gb135, _, none⟩) NB137_135.out _).trans (((cell_far (p := ⟨gb135, _, none⟩) NB137_135.out _).trans (((cell_far (p := ⟨gb135, _, none⟩) NB137_135.out _).trans (hHeld.2.1)))))))), ((cell_far (p := ⟨gb135, _, none⟩) NB137_135.out _).trans (((cell_far (p := ⟨gb135, _, none⟩) NB137_135.out _).trans (((cell_far (p := ⟨gb135, _, none⟩) NB137_135.out _).trans (((cell_far (p := ⟨gb135, _, none⟩) NB137_135.out _).trans (hHeld.2.2.1)))))))), ((cell_far (p := ⟨gb135, _, none⟩) NB137_135.out _).trans (((cell_far (p := ⟨gb135, _, none⟩) NB137_135.out _).trans (((cell_far (p := ⟨gb135, _, none⟩) NB137_135.out _).trans (((cell_far (p := ⟨gb135, _, none⟩) NB137_135.out _).trans (hHeld.2.2.2.1)))))))), ((cell_far (p := ⟨gb135, _, none⟩) NB134_135.out _).trans (((cell_far (p := ⟨gb135, _, none⟩) NB134_135.out _).trans (((cell_far (p := ⟨gb135, _, none⟩) NB134_135.out _).trans (((cell_far (p := ⟨gb135, _, none⟩) NB134_135.out _).trans (hHeld.2.2.2.2.1)))))))), ((cell_far (p := ⟨gb135, _, none⟩) NB134_135.out _).trans (((cell_far (p := ⟨gb135, _, none⟩) NB134_135.out _).trans (((cell_far (p := ⟨gb135, _, none⟩) NB134_135.out _).trans (((cell_far (p := ⟨gb135, _, none⟩) NB134_135.out _).trans (hHeld.2.2.2.2.2.1)))))))), ((cell_far (p := ⟨gb135, _, none⟩) NB134_135.out _).trans (((cell_far (p := ⟨gb135, _, none⟩) NB134_135.out _).trans (((cell_far (p := ⟨gb135, _, none⟩) NB134_135.out _).trans (((cell_far (p := ⟨gb135, _, none⟩) NB134_135.out _).trans (hHeld.2.2.2.2.2.2.1)))))))), ((cell_far (p := ⟨gb135, _, none⟩) NB134_135.out _).trans (((cell_far (p := ⟨gb135, _, none⟩) NB134_135.out _).trans (((cell_far (p := ⟨gb135, _, none⟩) NB134_135.out _).trans (((cell_far (p := ⟨gb135, _, none⟩) NB134_135.out _).trans (hHeld.2.2.2.2.2.2.2))))))))⟩ (fun hHeld => ?_)
            clear hK K
            refine pu_ (i := 8) (N := some 5) HT_ ?_
            refine done_ (done_of HT_.out (by kernel_rfl)) ?_
            try go_wp2
            refine bodyPost_ret (results_ct rfl _ _ gb135 25 #[.int .i64 t139, .int .i64 t140, .slice Ao39 t141.length co39, .slice Ao41 t144.length co41] (0, 0) _ rfl (by refine kb_ ?_; refine blk_put (cs := #[.int .i64 t139, .int .i64 t140, .slice Ao39 t141.length co39, .slice none 0 0]) ?_ 3 _ rfl; refine kb_ ?_; refine blk_put (cs := #[.int .i64 t139, .int .i64 t140, .slice none 0 0, .slice none 0 0]) ?_ 2 _ rfl; refine kb_ ?_; refine blk_put (cs := #[.int .i64 t139, .int .i64 0, .slice none 0 0, .slice none 0 0]) ?_ 1 _ rfl; refine kb_ ?_; refine blk_put (cs := #[.int .i64 0, .int .i64 0, .slice none 0 0, .slice none 0 0]) ?_ 0 _ rfl; refine kb_ ?_; exact BK135.out) Try.underlying25 rfl (by kernel_rfl)) rfl ?_
            exact ⟨_, _, _, by first | rfl | (simp [errW_none, errW_some] <;> rfl) | (simp only [← hji17]; first | rfl | (simp [errW_none, errW_some] <;> rfl)) | (simp [*, errW_none, errW_some] <;> rfl), by refine kR_ ?_; exact Kd.R_mono (Kd.R_f gb135 3 (.slice Ao41 t144.length co41) (Kd.R_f gb135 2 (.slice Ao39 t141.length co39) (Kd.R_f gb135 1 (.int .i64 t140) (Kd.R_f gb135 0 (.int .i64 t139) (Kd.R_types HO143.out BK135.out (by decide)))))) (fun _ hk => hk.1.2), by refine kR_ ?_; exact Kd.R_mono (Kd.R_f gb135 3 (.slice Ao41 t144.length co41) (Kd.R_f gb135 2 (.slice Ao39 t141.length co39) (Kd.R_f gb135 1 (.int .i64 t140) (Kd.R_f gb135 0 (.int .i64 t139) (Kd.R_types HO146.out BK135.out (by decide)))))) (fun _ hk => trivial), by refine kR_ ?_; exact Kd.R_mono (Kd.R_f gb135 3 (.slice Ao41 t144.length co41) (Kd.R_f gb135 2 (.slice Ao39 t141.length co39) (Kd.R_f gb135 1 (.int .i64 t140) (Kd.R_f gb135 0 (.int .i64 t139) (Kd.R_types HO150.out BK135.out (by decide)))))) (fun _ hk => hk.1.2), by repeat (first | (with_reducible first | exact HB.out | apply below_alloc | apply pw_below_drewN | apply below_drew1 | refine below_set ?_ GE134.out | refine below_set ?_ GE135.out | refine below_set ?_ GE137.out) | exact HB.out)⟩
          · rw [if_neg c19] at H
            exact absurd H (by simp)
        · rw [if_neg c18] at H
          exact absurd H (by simp)

/-! ### spec_l1In: function 60 -/
def spec_l1In.f (a0 : Int) (a1 : Int) (a2 : Int) : Option (Bool) := if a0 ≥ a1 then (some (decide (a0 ≤ a2))) else (some false)
set_option maxHeartbeats 8000000 in
set_option maxRecDepth 100000 in
theorem spec_l1In.calls (a0 : Int) (a1 : Int) (a2 : Int) (r : Bool) (w : World) (h : spec_l1In.f a0 a1 a2 = some r) :
    Calls Try.prog 60 #[.int .i64 a0, .int .i64 a1, .int .i64 a2] w fun e w' => e = .returned (.bool r) ∧ Drawn0 w w' := by
  have H : (if a0 ≥ a1 then (some (decide (a0 ≤ a2))) else (some false)) = some r := h
  clear h
  by_cases c4 : a0 ≥ a1
  · rw [if_pos c4] at H
    have c4b0 : decide (a1 ≤ a0) = true := decide_eq_true c4
    clear c4
    obtain rfl := Option.some.inj H
    go_enter Try.func60, Try.ntmps60
    go_wp2
    go_ret
    exact ⟨by first | rfl | (simp; done) | (simp [*]; done), by repeat (first | exact Drawn0.refl _ | apply Drawn0.step)⟩
  · rw [if_neg c4] at H
    have c4b0 : decide (a1 ≤ a0) = false := decide_eq_false c4
    clear c4
    obtain rfl := Option.some.inj H
    go_enter Try.func60, Try.ntmps60
    go_wp2
    go_ret
    exact ⟨by first | rfl | (simp; done) | (simp [*]; done), by repeat (first | exact Drawn0.refl _ | apply Drawn0.step)⟩

end Go.Proofs.Ytjiodkbbmhhccaa.PFnEarRead
