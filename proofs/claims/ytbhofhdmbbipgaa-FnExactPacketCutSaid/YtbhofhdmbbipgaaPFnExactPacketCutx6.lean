/- Printed by wip/xp/xprint.sh out of the translation, for this claim: what each function answers, as a plain function, and that the machine does just that. No condition. -/
import Derived.Test.YtbhofhdmbbipgaaPFnExactPacketCutx0
import Derived.Test.YtbhofhdmbbipgaaPFnExactPacketCutx2
import Derived.Test.YtbhofhdmbbipgaaPFnExactPacketCutx3
import Derived.Test.YtbhofhdmbbipgaaPFnExactPacketCutx4
import Derived.Test.YtbhofhdmbbipgaaPFnExactPacketCutx5
namespace Go.Proofs.Ytbhofhdmbbipgaa.PFnExactPacketCut
open Go.RowKit Go.Proofs.YtbhofhdmbbipgaaW.PrintWords Go.Proofs.YtbhofhdmbbipgaaW.PrintLast Go.Proofs.YtbhofhdmbbipgaaW.PrintMore
attribute [local go_sem] max2_int min2_int max_two min_two max_three min_three max_four min_four   -- for this text's walks alone
set_option linter.unusedVariables false
set_option linter.unusedSimpArgs false
def laws_FnExactPacketCut.f (k : Nat) (a0_0 : Int) (a0_1 : Int) (a0_2 : Int) (a0_3 : Int) (a0_4 : Int) (a0_5 : Int) (a0_6 : Bool) (a0_7 : Bool) (l0_8 : List Int) (a1 : Int) : Option (Bool) := (laws_szPacket.f a0_0 a0_1 a0_2 a0_3 a0_4 a0_5 a0_6 a0_7 l0_8 1048576).bind fun t198 => (if t198 < 0 then (some true) else ((laws_toPacket.f k a0_0 a0_1 a0_2 a0_3 a0_4 a0_5 a0_6 a0_7 l0_8).bind fun bt199 => ((spec_PacketCut.f k bt199.1 bt199.2.1 bt199.2.2.1 bt199.2.2.2.1 bt199.2.2.2.2.1 bt199.2.2.2.2.2.1 bt199.2.2.2.2.2.2.1 bt199.2.2.2.2.2.2.2.1 bt199.2.2.2.2.2.2.2.2 a1).bind fun bt210 => ((laws_toPacket.f k a0_0 a0_1 a0_2 a0_3 a0_4 a0_5 a0_6 a0_7 l0_8).bind fun bt214 => ((impl_PacketCut.f bt214.1 bt214.2.1 bt214.2.2.1 bt214.2.2.2.1 bt214.2.2.2.2.1 bt214.2.2.2.2.2.1 bt214.2.2.2.2.2.2.1 bt214.2.2.2.2.2.2.2.1 bt214.2.2.2.2.2.2.2.2 a1).bind fun bt226 => ((laws_eqPacketS.f k bt226.1 bt210.1).bind fun t230 => (if t230 = true then (if (bt226.2 != bt210.2) = true then (some false) else ((laws_toPacket.f k a0_0 a0_1 a0_2 a0_3 a0_4 a0_5 a0_6 a0_7 l0_8).bind fun bt231 => ((laws_eqPacket.f k bt214.1 bt214.2.1 bt214.2.2.1 bt214.2.2.2.1 bt214.2.2.2.2.1 bt214.2.2.2.2.2.1 bt214.2.2.2.2.2.2.1 bt214.2.2.2.2.2.2.2.1 bt214.2.2.2.2.2.2.2.2 bt231.1 bt231.2.1 bt231.2.2.1 bt231.2.2.2.1 bt231.2.2.2.2.1 bt231.2.2.2.2.2.1 bt231.2.2.2.2.2.2.1 bt231.2.2.2.2.2.2.2.1 bt231.2.2.2.2.2.2.2.2).bind fun t242 => (if t242 = true then ((laws_markPacket.f k bt214.1 bt214.2.1 bt214.2.2.1 bt214.2.2.2.1 bt214.2.2.2.2.1 bt214.2.2.2.2.2.1 bt214.2.2.2.2.2.2.1 bt214.2.2.2.2.2.2.2.1 bt214.2.2.2.2.2.2.2.2 1).bind fun bt243 => (if bt243.1 < 0 then (some false) else ((laws_eqPacketS.f k bt226.1 bt210.1).bind fun t245 => (if t245 = true then ((laws_markPacketS.f k bt226.1 1).bind fun bt246 => ((laws_heldPacketS.f k bt246.2 1).bind fun t248 => (if t248 < 0 then (some false) else (if t248 = bt246.1 then ((laws_toPacket.f k a0_0 a0_1 a0_2 a0_3 a0_4 a0_5 a0_6 a0_7 l0_8).bind fun bt249 => ((impl_PacketCut.f bt249.1 bt249.2.1 bt249.2.2.1 bt249.2.2.2.1 bt249.2.2.2.2.1 bt249.2.2.2.2.2.1 bt249.2.2.2.2.2.2.1 bt249.2.2.2.2.2.2.2.1 bt249.2.2.2.2.2.2.2.2 a1).bind fun bt260 => ((laws_eqPacketS.f k bt260.1 bt210.1).bind fun t264 => (if t264 = true then (if (bt260.2 != bt210.2) = true then (some false) else ((laws_heldPacketS.f k bt246.2 1).bind fun t265 => (if t265 < 0 then (some false) else (if t265 = bt246.1 then (some true) else (some false))))) else (some false))))) else (some false))))) else (some false))))) else (some false))))) else (some false))))))))
theorem laws_FnExactPacketCut.mono : ∀ a0 a1 a2 a3 a4 a5 a6 a7 a8 a9 k, LeO (laws_FnExactPacketCut.f k a0 a1 a2 a3 a4 a5 a6 a7 a8 a9) (laws_FnExactPacketCut.f (k + 1) a0 a1 a2 a3 a4 a5 a6 a7 a8 a9) := by
 intro a0 a1 a2 a3 a4 a5 a6 a7 a8 a9 k
 unfold laws_FnExactPacketCut.f
 repeat' first | (with_reducible first | apply laws_eqPacket.mono | apply laws_eqPacketS.mono | apply laws_heldPacketS.mono | apply laws_markPacket.mono | apply laws_markPacketS.mono | apply laws_toPacket.mono | apply spec_PacketCut.mono | exact LeO.refl _ | exact LeO.none _ | refine LeO.ite ?_ ?_ | refine LeO.bind ?_ fun _ => ?_) | apply laws_eqPacket.mono | apply laws_eqPacketS.mono | apply laws_heldPacketS.mono | apply laws_markPacket.mono | apply laws_markPacketS.mono | apply laws_toPacket.mono | apply spec_PacketCut.mono | exact LeO.none _ | refine LeO.ite ?_ ?_ | refine LeO.bind ?_ fun _ => ?_
set_option maxHeartbeats 8000000 in
set_option maxRecDepth 100000 in
theorem laws_FnExactPacketCut.calls (k : Nat) (a0_0 : Int) (a0_1 : Int) (a0_2 : Int) (a0_3 : Int) (a0_4 : Int) (a0_5 : Int) (a0_6 : Bool) (a0_7 : Bool) (A0_8 : Option Addr) (c0_8 : Nat) (l0_8 : List Int) (a1 : Int) (r : Bool) (w : World) (hr0_8 : Kd.C (Kd.int .u8) w A0_8 l0_8.length l0_8) (hc0_8 : l0_8.length ≤ c0_8) (h : laws_FnExactPacketCut.f k a0_0 a0_1 a0_2 a0_3 a0_4 a0_5 a0_6 a0_7 l0_8 a1 = some r) (hlw : r = true) :
  Calls Try.prog 4 #[.agg #[.int .i64 a0_0, .int .i64 a0_1, .int .i64 a0_2, .int .i64 a0_3, .int .i64 a0_4, .int .i64 a0_5, .bool a0_6, .bool a0_7, .slice A0_8 l0_8.length c0_8], .int .i64 a1] w fun e w' => e = .returned (.bool r) ∧ Below w.heap.size w w' := by
 have hu35 := Try.underlying35; have hu24 := Try.underlying24; have HLW := Aside0.mk hlw; clear hlw
 have HZ := Aside0.mk (Nat.le_refl w.heap.size)
 have HR0_8 := Aside0.mk hr0_8; have HC0_8 := Aside0.mk hc0_8; clear hr0_8 hc0_8
 have HB := Aside0.mk (Below.refl w.heap.size w)
 have H : ((laws_szPacket.f a0_0 a0_1 a0_2 a0_3 a0_4 a0_5 a0_6 a0_7 l0_8 1048576).bind fun t198 => (if t198 < 0 then (some true) else ((laws_toPacket.f k a0_0 a0_1 a0_2 a0_3 a0_4 a0_5 a0_6 a0_7 l0_8).bind fun bt199 => ((spec_PacketCut.f k bt199.1 bt199.2.1 bt199.2.2.1 bt199.2.2.2.1 bt199.2.2.2.2.1 bt199.2.2.2.2.2.1 bt199.2.2.2.2.2.2.1 bt199.2.2.2.2.2.2.2.1 bt199.2.2.2.2.2.2.2.2 a1).bind fun bt210 => ((laws_toPacket.f k a0_0 a0_1 a0_2 a0_3 a0_4 a0_5 a0_6 a0_7 l0_8).bind fun bt214 => ((impl_PacketCut.f bt214.1 bt214.2.1 bt214.2.2.1 bt214.2.2.2.1 bt214.2.2.2.2.1 bt214.2.2.2.2.2.1 bt214.2.2.2.2.2.2.1 bt214.2.2.2.2.2.2.2.1 bt214.2.2.2.2.2.2.2.2 a1).bind fun bt226 => ((laws_eqPacketS.f k bt226.1 bt210.1).bind fun t230 => (if t230 = true then (if (bt226.2 != bt210.2) = true then (some false) else ((laws_toPacket.f k a0_0 a0_1 a0_2 a0_3 a0_4 a0_5 a0_6 a0_7 l0_8).bind fun bt231 => ((laws_eqPacket.f k bt214.1 bt214.2.1 bt214.2.2.1 bt214.2.2.2.1 bt214.2.2.2.2.1 bt214.2.2.2.2.2.1 bt214.2.2.2.2.2.2.1 bt214.2.2.2.2.2.2.2.1 bt214.2.2.2.2.2.2.2.2 bt231.1 bt231.2.1 bt231.2.2.1 bt231.2.2.2.1 bt231.2.2.2.2.1 bt231.2.2.2.2.2.1 bt231.2.2.2.2.2.2.1 bt231.2.2.2.2.2.2.2.1 bt231.2.2.2.2.2.2.2.2).bind fun t242 => (if t242 = true then ((laws_markPacket.f k bt214.1 bt214.2.1 bt214.2.2.1 bt214.2.2.2.1 bt214.2.2.2.2.1 bt214.2.2.2.2.2.1 bt214.2.2.2.2.2.2.1 bt214.2.2.2.2.2.2.2.1 bt214.2.2.2.2.2.2.2.2 1).bind fun bt243 => (if bt243.1 < 0 then (some false) else ((laws_eqPacketS.f k bt226.1 bt210.1).bind fun t245 => (if t245 = true then ((laws_markPacketS.f k bt226.1 1).bind fun bt246 => ((laws_heldPacketS.f k bt246.2 1).bind fun t248 => (if t248 < 0 then (some false) else (if t248 = bt246.1 then ((laws_toPacket.f k a0_0 a0_1 a0_2 a0_3 a0_4 a0_5 a0_6 a0_7 l0_8).bind fun bt249 => ((impl_PacketCut.f bt249.1 bt249.2.1 bt249.2.2.1 bt249.2.2.2.1 bt249.2.2.2.2.1 bt249.2.2.2.2.2.1 bt249.2.2.2.2.2.2.1 bt249.2.2.2.2.2.2.2.1 bt249.2.2.2.2.2.2.2.2 a1).bind fun bt260 => ((laws_eqPacketS.f k bt260.1 bt210.1).bind fun t264 => (if t264 = true then (if (bt260.2 != bt210.2) = true then (some false) else ((laws_heldPacketS.f k bt246.2 1).bind fun t265 => (if t265 < 0 then (some false) else (if t265 = bt246.1 then (some true) else (some false))))) else (some false))))) else (some false))))) else (some false))))) else (some false))))) else (some false))))))))) = some r := h
 clear h
 replace H := Option.bind_eq_some_iff.mp H
 obtain ⟨t198, A30, H⟩ := H
 (try dsimp only at H)
 have A3 := Aside0.mk A30; clear A30
 by_cases c4 : t198 < 0
 ·rw [if_pos c4] at H
  have c4b0 : decide (t198 < 0) = true := decide_eq_true c4
  clear c4
  obtain rfl := Option.some.inj H
  go_enter Try.func4, Try.ntmps4
  go_wp2_with (first | ((with_reducible refine gate_dst (N := 2) rfl ?_); refine box_ (N := 2) (cs := #[.int .i64 a0_0, .int .i64 a0_1, .int .i64 a0_2, .int .i64 a0_3, .int .i64 a0_4, .int .i64 a0_5, .bool a0_6, .bool a0_7, .slice A0_8 l0_8.length c0_8]) (t := 35) (fun gb197 hg w5 hbox hb => ?_); have BK197 := Aside0.mk (hbox); have GW197 := ge_ hg HB; have GE197 := ge_ hg HB; replace HB := (bs_ HB hb); have LTb197 := Aside0.mk (zl_ HZ ⟨hg⟩); replace HZ := Aside0.mk ((show gb197 + 1 ≤ w5.heap.size from blk_lt hbox)); clear hb hbox hg; have Z6 := zz9 BK197) | ((with_reducible refine gate_callee (f := 16) rfl ?_); refine goesL_ (some 18) rfl rfl Try.func16 (by kernel_rfl) rfl #[.agg #[.int .i64 a0_0, .int .i64 a0_1, .int .i64 a0_2, .int .i64 a0_3, .int .i64 a0_4, .int .i64 a0_5, .bool a0_6, .bool a0_7, .slice A0_8 l0_8.length c0_8], .int .i64 1048576] rfl ar_ ?_; (with_reducible refine (laws_szPacket.calls a0_0 a0_1 a0_2 a0_3 a0_4 a0_5 a0_6 a0_7 _ _ l0_8 1048576 t198 _ ?side1 ?side2 A3.out).mono ?_); (case side1 => exact kC_ (Kd.C_below HR0_8.out HB.out)); (case side2 => exact HC0_8.out); rintro e w7 ⟨rfl, hb⟩; refine ⟨_, rfl, ?_⟩; replace BK197 := (bbA_ BK197 hb); replace HB := (bs_ HB hb); replace HZ := Aside0.mk (zs_ HZ hb); (try clear hb); (try clear hb2); (try clear hk); (try clear hi)))
  go_ret
  exact ⟨by first | rfl | (simp [errW_none, errW_some] <;> rfl) | (simp [*, errW_none, errW_some] <;> rfl), hbA_ HB.out⟩
 ·rw [if_neg c4] at H
  have c4b0 : decide (t198 < 0) = false := decide_eq_false c4
  clear c4
  replace H := Option.bind_eq_some_iff.mp H
  obtain ⟨⟨t199, t200, t201, t202, t203, t204, t205, t206, t207⟩, A80, H⟩ := H
  (try dsimp only at H)
  have A8 := Aside0.mk A80; clear A80
  replace H := Option.bind_eq_some_iff.mp H
  obtain ⟨⟨t210, t213⟩, A90, H⟩ := H
  (try dsimp only at H)
  have A9 := Aside0.mk A90; clear A90
  replace H := Option.bind_eq_some_iff.mp H
  obtain ⟨⟨t214, t215, t216, t217, t218, t219, t220, t221, t222⟩, A100, H⟩ := H
  (try dsimp only at H)
  have A10 := Aside0.mk A100; clear A100
  replace H := Option.bind_eq_some_iff.mp H
  obtain ⟨⟨t226, t229⟩, A110, H⟩ := H
  (try dsimp only at H)
  have A11 := Aside0.mk A110; clear A110
  replace H := Option.bind_eq_some_iff.mp H
  obtain ⟨t230, A120, H⟩ := H
  (try dsimp only at H)
  have A12 := Aside0.mk A120; clear A120
  by_cases c13 : t230 = true
  ·subst c13
   rw [if_pos rfl] at H
   by_cases c14 : (t229 != t213) = true
   ·rw [if_pos c14] at H
    have c14b0 : (t229 != t213) = true := c14
    (try (have c14b1 : decide (t229 = t213) = false := by simpa using c14))
    (try (have c14b2 : (t229 == t213) = false := by simpa using c14))
    (try (have c14b3 : ¬ (t229 = t213) := by simpa using c14))
    clear c14
    exact absurd (Option.some.inj H) (by rw [HLW.out]; exact Bool.false_ne_true)
   ·rw [if_neg c14] at H
    have c14b0 : (t229 != t213) = false := by simpa using c14
    (try (have c14b1 : decide (t229 = t213) = true := by simpa using c14))
    (try (have c14b2 : (t229 == t213) = true := by simpa using c14))
    clear c14
    replace H := Option.bind_eq_some_iff.mp H
    obtain ⟨⟨t231, t232, t233, t234, t235, t236, t237, t238, t239⟩, A150, H⟩ := H
    (try dsimp only at H)
    have A15 := Aside0.mk A150; clear A150
    replace H := Option.bind_eq_some_iff.mp H
    obtain ⟨t242, A160, H⟩ := H
    (try dsimp only at H)
    have A16 := Aside0.mk A160; clear A160
    by_cases c17 : t242 = true
    ·subst c17
     rw [if_pos rfl] at H
     replace H := Option.bind_eq_some_iff.mp H
     obtain ⟨⟨t243, t244⟩, A180, H⟩ := H
     (try dsimp only at H)
     have A18 := Aside0.mk A180; clear A180
     by_cases c19 : t243 < 0
     ·rw [if_pos c19] at H
      have c19b0 : decide (t243 < 0) = true := decide_eq_true c19
      clear c19
      exact absurd (Option.some.inj H) (by rw [HLW.out]; exact Bool.false_ne_true)
     ·rw [if_neg c19] at H
      have c19b0 : decide (t243 < 0) = false := decide_eq_false c19
      clear c19
      replace H := Option.bind_eq_some_iff.mp H
      obtain ⟨t245, A200, H⟩ := H
      (try dsimp only at H)
      have A20 := Aside0.mk A200; clear A200
      by_cases c21 : t245 = true
      ·subst c21
       rw [if_pos rfl] at H
       replace H := Option.bind_eq_some_iff.mp H
       obtain ⟨⟨t246, t247⟩, A220, H⟩ := H
       (try dsimp only at H)
       have A22 := Aside0.mk A220; clear A220
       replace H := Option.bind_eq_some_iff.mp H
       obtain ⟨t248, A230, H⟩ := H
       (try dsimp only at H)
       have A23 := Aside0.mk A230; clear A230
       by_cases c24 : t248 < 0
       ·rw [if_pos c24] at H
        have c24b0 : decide (t248 < 0) = true := decide_eq_true c24
        clear c24
        exact absurd (Option.some.inj H) (by rw [HLW.out]; exact Bool.false_ne_true)
       ·rw [if_neg c24] at H
        have c24b0 : decide (t248 < 0) = false := decide_eq_false c24
        clear c24
        by_cases c25 : t248 = t246
        ·rw [if_pos c25] at H
         have c25b0 : (t248 == t246) = true := beq_iff_eq.mpr c25
         have c25b1 : (t248 != t246) = false := bne_eq_false_iff_eq.mpr c25
         clear c25
         replace H := Option.bind_eq_some_iff.mp H
         obtain ⟨⟨t249, t250, t251, t252, t253, t254, t255, t256, t257⟩, A260, H⟩ := H
         (try dsimp only at H)
         have A26 := Aside0.mk A260; clear A260
         replace H := Option.bind_eq_some_iff.mp H
         obtain ⟨⟨t260, t263⟩, A270, H⟩ := H
         (try dsimp only at H)
         have A27 := Aside0.mk A270; clear A270
         replace H := Option.bind_eq_some_iff.mp H
         obtain ⟨t264, A280, H⟩ := H
         (try dsimp only at H)
         have A28 := Aside0.mk A280; clear A280
         by_cases c29 : t264 = true
         ·subst c29
          rw [if_pos rfl] at H
          by_cases c30 : (t263 != t213) = true
          ·rw [if_pos c30] at H
           have c30b0 : (t263 != t213) = true := c30
           (try (have c30b1 : decide (t263 = t213) = false := by simpa using c30))
           (try (have c30b2 : (t263 == t213) = false := by simpa using c30))
           (try (have c30b3 : ¬ (t263 = t213) := by simpa using c30))
           clear c30
           exact absurd (Option.some.inj H) (by rw [HLW.out]; exact Bool.false_ne_true)
          ·rw [if_neg c30] at H
           have c30b0 : (t263 != t213) = false := by simpa using c30
           (try (have c30b1 : decide (t263 = t213) = true := by simpa using c30))
           (try (have c30b2 : (t263 == t213) = true := by simpa using c30))
           clear c30
           replace H := Option.bind_eq_some_iff.mp H
           obtain ⟨t265, A310, H⟩ := H
           (try dsimp only at H)
           have A31 := Aside0.mk A310; clear A310
           by_cases c32 : t265 < 0
           ·rw [if_pos c32] at H
            have c32b0 : decide (t265 < 0) = true := decide_eq_true c32
            clear c32
            exact absurd (Option.some.inj H) (by rw [HLW.out]; exact Bool.false_ne_true)
           ·rw [if_neg c32] at H
            have c32b0 : decide (t265 < 0) = false := decide_eq_false c32
            clear c32
            by_cases c33 : t265 = t246
            ·rw [if_pos c33] at H
             have c33b0 : (t265 == t246) = true := beq_iff_eq.mpr c33
             have c33b1 : (t265 != t246) = false := bne_eq_false_iff_eq.mpr c33
             clear c33
             obtain rfl := Option.some.inj H
             go_enter Try.func4, Try.ntmps4
             try go_wp2_with (first | ((with_reducible refine gate_dst (N := 2) rfl ?_); refine box_ (N := 2) (cs := #[.int .i64 a0_0, .int .i64 a0_1, .int .i64 a0_2, .int .i64 a0_3, .int .i64 a0_4, .int .i64 a0_5, .bool a0_6, .bool a0_7, .slice A0_8 l0_8.length c0_8]) (t := 35) (fun gb197 hg w34 hbox hb => ?_); have BK197 := Aside0.mk (hbox); have GW197 := ge_ hg HB; have GE197 := ge_ hg HB; replace HB := (bs_ HB hb); have LTb197 := Aside0.mk (zl_ HZ ⟨hg⟩); replace HZ := Aside0.mk ((show gb197 + 1 ≤ w34.heap.size from blk_lt hbox)); clear hb hbox hg; have Z35 := zz9 BK197) | ((with_reducible refine gate_callee (f := 16) rfl ?_); refine goesL_ (some 18) rfl rfl Try.func16 (by kernel_rfl) rfl #[.agg #[.int .i64 a0_0, .int .i64 a0_1, .int .i64 a0_2, .int .i64 a0_3, .int .i64 a0_4, .int .i64 a0_5, .bool a0_6, .bool a0_7, .slice A0_8 l0_8.length c0_8], .int .i64 1048576] rfl ar_ ?_; (with_reducible refine (laws_szPacket.calls a0_0 a0_1 a0_2 a0_3 a0_4 a0_5 a0_6 a0_7 _ _ l0_8 1048576 t198 _ ?side1 ?side2 A3.out).mono ?_); (case side1 => exact kC_ (Kd.C_below HR0_8.out HB.out)); (case side2 => exact HC0_8.out); rintro e w36 ⟨rfl, hb⟩; refine ⟨_, rfl, ?_⟩; replace BK197 := (bbA_ BK197 hb); replace HB := (bs_ HB hb); replace HZ := Aside0.mk (zs_ HZ hb); (try clear hb); (try clear hb2); (try clear hk); (try clear hi); have Z37 := zz9 BK197) | ((with_reducible refine gate_callee (f := 17) rfl ?_); refine goesL_ (some 23) rfl rfl Try.func17 (by kernel_rfl) rfl #[.agg #[.int .i64 a0_0, .int .i64 a0_1, .int .i64 a0_2, .int .i64 a0_3, .int .i64 a0_4, .int .i64 a0_5, .bool a0_6, .bool a0_7, .slice A0_8 l0_8.length c0_8]] rfl ar_ ?_; (with_reducible refine (laws_toPacket.calls k a0_0 a0_1 a0_2 a0_3 a0_4 a0_5 a0_6 a0_7 _ _ l0_8 t199 t200 t201 t202 t203 t204 t205 t206 t207 _ ?side1 ?side2 A8.out).mono ?_); (case side1 => exact kC_ (Kd.C_below HR0_8.out HB.out)); (case side2 => exact HC0_8.out); rintro e w38 ⟨v208, rfl, ho0, hb⟩; refine ⟨_, rfl, ?_⟩; obtain ⟨lo266, hi266, elo266, ehi266⟩ := gr_open hb; have HO209 := Aside0.mk (Kd.R_lower (gr_R elo266 ehi266 ho0) (below_size (hbA_ HB.out))); have LT266 := Aside0.mk (zl_ HZ elo266); have LE266 := Aside0.mk (zle_ elo266 ehi266 hb); replace HZ := Aside0.mk (Nat.le_of_eq ehi266.out); replace BK197 := (bbA_ BK197 hb); replace HB := (bs_ HB hb); (try clear hb); (try clear hb2); (try clear hk); (try clear hi); (try clear ho0); obtain ⟨Ao39, co39, eo39⟩ := Kd.R_slice HO209.out; subst eo39) | ((with_reducible refine gate_callee (f := 11) rfl ?_); refine goesL_ (some 25) rfl rfl Try.func11 (by kernel_rfl) rfl #[.agg #[.int .i64 t199, .int .i64 t200, .int .i64 t201, .int .i64 t202, .int .i64 t203, .int .i64 t204, .bool t205, .bool t206, .slice Ao39 t207.length co39], .int .i64 a1] rfl ar_ ?_; (with_reducible refine (spec_PacketCut.calls k t199 t200 t201 t202 t203 t204 t205 t206 _ _ t207 a1 t210 t213 _ ?side1 ?side2 A9.out).mono ?_); (case side1 => exact kC_ (Kd.R_reads' HO209.out).2.2); (case side2 => exact (Kd.R_reads' HO209.out).2.1); rintro e w40 ⟨v211, rfl, ho0, hb⟩; refine ⟨_, rfl, ?_⟩; obtain ⟨lo267, hi267, elo267, ehi267⟩ := gr_open hb; replace HO209 := Aside0.mk (Kd.R_below (kR_ HO209.out) hb); have HO212 := Aside0.mk (Kd.S_lower (gr_S elo267 ehi267 ho0) (below_size (hbA_ HB.out))); have LT267 := Aside0.mk (zl_ HZ elo267); have LE267 := Aside0.mk (zle_ elo267 ehi267 hb); replace HZ := Aside0.mk (Nat.le_of_eq ehi267.out); replace BK197 := (bbA_ BK197 hb); replace HB := (bs_ HB hb); (try clear hb); (try clear hb2); (try clear hk); (try clear hi); (try clear ho0); have Z41 := zz9 BK197) | ((with_reducible refine gate_callee (f := 17) rfl ?_); refine goesL_ (some 29) rfl rfl Try.func17 (by kernel_rfl) rfl #[.agg #[.int .i64 a0_0, .int .i64 a0_1, .int .i64 a0_2, .int .i64 a0_3, .int .i64 a0_4, .int .i64 a0_5, .bool a0_6, .bool a0_7, .slice A0_8 l0_8.length c0_8]] rfl ar_ ?_; (with_reducible refine (laws_toPacket.calls k a0_0 a0_1 a0_2 a0_3 a0_4 a0_5 a0_6 a0_7 _ _ l0_8 t214 t215 t216 t217 t218 t219 t220 t221 t222 _ ?side1 ?side2 A10.out).mono ?_); (case side1 => exact kC_ (Kd.C_below HR0_8.out HB.out)); (case side2 => exact HC0_8.out); rintro e w42 ⟨v223, rfl, ho0, hb⟩; refine ⟨_, rfl, ?_⟩; obtain ⟨lo268, hi268, elo268, ehi268⟩ := gr_open hb; replace HO209 := Aside0.mk (Kd.R_below (kR_ HO209.out) hb); replace HO212 := Aside0.mk (Kd.S_below (kS_ HO212.out) hb); have HO224 := Aside0.mk (Kd.R_lower (gr_R elo268 ehi268 ho0) (below_size (hbA_ HB.out))); have LT268 := Aside0.mk (zl_ HZ elo268); have LE268 := Aside0.mk (zle_ elo268 ehi268 hb); replace HZ := Aside0.mk (Nat.le_of_eq ehi268.out); replace BK197 := (bbA_ BK197 hb); replace HB := (bs_ HB hb); (try clear hb); (try clear hb2); (try clear hk); (try clear hi); (try clear ho0)) | ((with_reducible refine gate_dst (N := 8) rfl ?_); refine box_ (N := 8) (cs := #[.int .i64 0, .int .i64 0, .int .i64 0, .int .i64 0, .int .i64 0, .int .i64 0, .bool false, .bool false, .slice none 0 0]) (t := 24) (fun gb225 hg w43 hbox hb => ?_); replace HO209 := Aside0.mk (Kd.R_below (kR_ HO209.out) hb); replace HO212 := Aside0.mk (Kd.S_below (kS_ HO212.out) hb); replace HO224 := Aside0.mk (Kd.R_below (kR_ HO224.out) hb); have BK225 := Aside0.mk (hbox); have GW225 := ge_ hg HB; have GE225 := ge_ hg HB; replace HB := (bs_ HB hb); have NB197_225 := nl_ hg BK197; have NB225_197 := ng_ hg BK197; replace BK197 := (bbA_ BK197 hb); have LTb225 := Aside0.mk (zl_ HZ ⟨hg⟩); replace HZ := Aside0.mk ((show gb225 + 1 ≤ w43.heap.size from blk_lt hbox)); clear hb hbox hg; have hnb44 := NB225_197.out; have hnc44 := NB197_225.out; have Z45 := zz9 BK225; obtain ⟨Ao46, co46, eo46⟩ := Kd.R_slice HO224.out; subst eo46) | ((with_reducible refine gate_callee (f := 10) rfl ?_); refine goesL_ (some 33) rfl rfl Try.func10 (by kernel_rfl) rfl #[.agg #[.int .i64 t214, .int .i64 t215, .int .i64 t216, .int .i64 t217, .int .i64 t218, .int .i64 t219, .bool t220, .bool t221, .slice Ao46 t222.length co46], .int .i64 a1] rfl ar_ ?_; (with_reducible refine (impl_PacketCut.calls t214 t215 t216 t217 t218 t219 t220 t221 _ _ t222 a1 t226 t229 _ ?side1 ?side2 A11.out).mono ?_); (case side1 => refine (Kd.R_reads' (e := 5) (base := w.heap.size) (ok := fun k_ => (True ∧ (lo268 ≤ k_ ∧ k_ < hi268))) (n := t222.length) (c := co46) ?_).2.2; exact (by refine kR_ ?_; exact (rfm_ ((Kd.R_types HO224.out BK225.out (by decide))) (fun _ h_ => op1_ h_)))); (case side2 => exact (Kd.R_reads' HO224.out).2.1); rintro e w47 ⟨v227, rfl, ho0, hb⟩; refine ⟨_, rfl, ?_⟩; obtain ⟨lo269, hi269, elo269, ehi269⟩ := gr_open hb; replace HO209 := Aside0.mk (Kd.R_below (by refine kR_ ?_; exact (rfm_ ((Kd.R_types HO209.out BK225.out (by decide))) (fun _ h_ => op1_ h_))) hb); replace HO212 := Aside0.mk (Kd.S_below (by refine kS_ ?_; exact (Kd.S_mono (Kd.S_far (p := ⟨gb225, 8, none⟩) (Kd.S_far (p := ⟨gb225, 7, none⟩) (Kd.S_far (p := ⟨gb225, 6, none⟩) (Kd.S_far (p := ⟨gb225, 5, none⟩) (Kd.S_far (p := ⟨gb225, 4, none⟩) (Kd.S_far (p := ⟨gb225, 3, none⟩) (Kd.S_far (p := ⟨gb225, 2, none⟩) (Kd.S_far (p := ⟨gb225, 1, none⟩) (Kd.S_far (p := ⟨gb225, 0, none⟩) (Kd.S_mono HO212.out (fun k_ hk => (⟨hk, rng_box hk.2 (Or.inl (Nat.le_trans LT268.out (Nat.le_trans LE268.out LTb225.out)))⟩ : _ ∧ k_ ≠ gb225))) (fun _ hk => hk.2) (.int .i64 t214)) (fun _ hk => hk.2) (.int .i64 t215)) (fun _ hk => hk.2) (.int .i64 t216)) (fun _ hk => hk.2) (.int .i64 t217)) (fun _ hk => hk.2) (.int .i64 t218)) (fun _ hk => hk.2) (.int .i64 t219)) (fun _ hk => hk.2) (.bool t220)) (fun _ hk => hk.2) (.bool t221)) (fun _ hk => hk.2) (.slice Ao46 t222.length co46)) (fun _ h_ => op1_ h_))) hb); replace HO224 := Aside0.mk (Kd.R_below (by refine kR_ ?_; exact (rfm_ ((Kd.R_types HO224.out BK225.out (by decide))) (fun _ h_ => op1_ h_))) hb); have HO228 := Aside0.mk (Kd.S_lower (gr_S elo269 ehi269 ho0) (below_size (hbA_ HB.out))); have LT269 := Aside0.mk (zl_ HZ elo269); have LE269 := Aside0.mk (zle_ elo269 ehi269 hb); replace HZ := Aside0.mk (Nat.le_of_eq ehi269.out); replace BK197 := Aside0.mk (blk_below (g := gb197) (o := .cells #[.int .i64 a0_0, .int .i64 a0_1, .int .i64 a0_2, .int .i64 a0_3, .int .i64 a0_4, .int .i64 a0_5, .bool a0_6, .bool a0_7, .slice A0_8 l0_8.length c0_8] 35 (0, 0)) (by exact kf_ BK197.out) hb); replace BK225 := Aside0.mk (blk_below (g := gb225) (o := .cells #[.int .i64 t214, .int .i64 t215, .int .i64 t216, .int .i64 t217, .int .i64 t218, .int .i64 t219, .bool t220, .bool t221, .slice Ao46 t222.length co46] 24 (0, 0)) (by refine kb_ ?_; refine pz9 (cs := #[.int .i64 0, .int .i64 0, .int .i64 0, .int .i64 0, .int .i64 0, .int .i64 0, .bool false, .bool false, .slice none 0 0]) ?_; refine kb_ ?_; exact BK225.out) hb); replace HB := (bs_ HB hb); (try clear hb); (try clear hb2); (try clear hk); (try clear hi); (try clear ho0); obtain ⟨Ao48, co48, eo48⟩ := Kd.S_slice HO228.out; subst eo48; obtain ⟨Ao49, co49, eo49⟩ := Kd.S_slice HO212.out; subst eo49) | ((with_reducible refine gate_callee (f := 18) rfl ?_); refine goesL_ (some 38) rfl rfl Try.func18 (by kernel_rfl) rfl #[.slice Ao48 t226.length co48, .slice Ao49 t210.length co49] rfl ar_ ?_; (with_reducible refine (laws_eqPacketS.calls k _ _ t226 _ _ t210 true _ ?side1 ?side2 ?side3 ?side4 A12.out).mono ?_); (case side1 => exact kC_ (Kd.S_reads' HO228.out).2.2); (case side2 => exact (Kd.S_reads' HO228.out).2.1); (case side3 => exact kC_ (Kd.S_reads' HO212.out).2.2); (case side4 => exact (Kd.S_reads' HO212.out).2.1); rintro e w50 ⟨rfl, hb⟩; refine ⟨_, rfl, ?_⟩; replace HO209 := Aside0.mk (Kd.R_below (kR_ HO209.out) hb); replace HO212 := Aside0.mk (Kd.S_below (kS_ HO212.out) hb); replace HO224 := Aside0.mk (Kd.R_below (kR_ HO224.out) hb); replace HO228 := Aside0.mk (Kd.S_below (kS_ HO228.out) hb); replace BK197 := (bbA_ BK197 hb); replace BK225 := (bbA_ BK225 hb); replace HB := (bs_ HB hb); replace HZ := Aside0.mk (zs_ HZ hb); (try clear hb); (try clear hb2); (try clear hk); (try clear hi)))
             replace HO209 := Aside0.mk (Kd.R_drew HO209.out); replace HO212 := Aside0.mk (Kd.S_drew HO212.out); replace HO224 := Aside0.mk (Kd.R_drew HO224.out); replace HO228 := Aside0.mk (Kd.S_drew HO228.out); replace BK197 := Aside0.mk (blk_drew BK197.out); replace BK225 := Aside0.mk (blk_drew BK225.out); replace HB := (bd_ HB); replace HZ := Aside0.mk (zd_ HZ)
             refine start_ (n := 5) (S := fun w' => w'.cell? ⟨gb225, 0, none⟩ = some (.int .i64 t214) ∧ w'.cell? ⟨gb225, 1, none⟩ = some (.int .i64 t215) ∧ w'.cell? ⟨gb225, 2, none⟩ = some (.int .i64 t216) ∧ w'.cell? ⟨gb225, 3, none⟩ = some (.int .i64 t217) ∧ w'.cell? ⟨gb225, 4, none⟩ = some (.int .i64 t218) ∧ w'.cell? ⟨gb225, 5, none⟩ = some (.int .i64 t219) ∧ w'.cell? ⟨gb225, 6, none⟩ = some (.bool t220) ∧ w'.cell? ⟨gb225, 7, none⟩ = some (.bool t221) ∧ w'.cell? ⟨gb225, 8, none⟩ = some (.slice Ao46 t222.length co46) ∧ w'.cell? ⟨gb197, 0, none⟩ = some (.int .i64 a0_0) ∧ w'.cell? ⟨gb197, 1, none⟩ = some (.int .i64 a0_1) ∧ w'.cell? ⟨gb197, 2, none⟩ = some (.int .i64 a0_2) ∧ w'.cell? ⟨gb197, 3, none⟩ = some (.int .i64 a0_3) ∧ w'.cell? ⟨gb197, 4, none⟩ = some (.int .i64 a0_4) ∧ w'.cell? ⟨gb197, 5, none⟩ = some (.int .i64 a0_5) ∧ w'.cell? ⟨gb197, 6, none⟩ = some (.bool a0_6) ∧ w'.cell? ⟨gb197, 7, none⟩ = some (.bool a0_7) ∧ w'.cell? ⟨gb197, 8, none⟩ = some (.slice A0_8 l0_8.length c0_8)) (ds := []) #[false, false, false, false, false] (by kernel_rfl) rfl rfl ⟨bc_ BK225 0, bc_ BK225 1, bc_ BK225 2, bc_ BK225 3, bc_ BK225 4, bc_ BK225 5, bc_ BK225 6, bc_ BK225 7, bc_ BK225 8, bc_ BK197 0, bc_ BK197 1, bc_ BK197 2, bc_ BK197 3, bc_ BK197 4, bc_ BK197 5, bc_ BK197 6, bc_ BK197 7, bc_ BK197 8⟩ (fun hHeld => ?_)
             generalize w50.drew = w51 at HO209 HO212 HO224 HO228 BK197 BK225 HB HZ hHeld ⊢
             refine take_ (i := 0) (N := some 45) (v := ?_) (a' := ?_) #[true, false, false, false, false] rfl rfl (by kernel_rfl) (fun _ _ _ h => h) (Or.inl ⟨by rfl, ?_⟩) hHeld ?_ ?_
             rotate_left
             ·rintro w' ⟨s0, s1, s2, s3, s4, s5, s6, s7, s8, s9, s10, s11, s12, s13, s14, s15, s16, s17⟩
              go_simp
              with_reducible rfl
             rotate_left
             ·simp only [Act.put, List.setIfInBounds_toArray, List.set_cons_zero, List.set_cons_succ, i64_w, i32_w]
              rfl
             refine take_ (i := 1) (N := some 46) (v := ?_) (a' := ?_) #[true, true, false, false, false] rfl rfl (by kernel_rfl) (fun _ _ _ h => h) (Or.inl ⟨by rfl, ?_⟩) hHeld ?_ ?_
             rotate_left
             ·rintro w' ⟨s0, s1, s2, s3, s4, s5, s6, s7, s8, s9, s10, s11, s12, s13, s14, s15, s16, s17⟩
              go_simp
              with_reducible rfl
             rotate_left
             ·simp only [Act.put, List.setIfInBounds_toArray, List.set_cons_zero, List.set_cons_succ, i64_w, i32_w]
              rfl
             refine one_ (i := 2) (N := some 47) #[true, true, true, false, false] rfl rfl (by kernel_rfl) (by decide) (fun K hK => ?_)
             refine goes_ Try.func17 (by kernel_rfl) rfl #[.agg #[.int .i64 a0_0, .int .i64 a0_1, .int .i64 a0_2, .int .i64 a0_3, .int .i64 a0_4, .int .i64 a0_5, .bool a0_6, .bool a0_7, .slice A0_8 l0_8.length c0_8]] (by rfl) rfl rfl ar_ ?_
             with_reducible refine (laws_toPacket.calls k a0_0 a0_1 a0_2 a0_3 a0_4 a0_5 a0_6 a0_7 _ _ l0_8 t231 t232 t233 t234 t235 t236 t237 t238 t239 _ ?side1 ?side2 A15.out).mono ?_
             (case side1 => exact kC_ (Kd.C_below HR0_8.out HB.out))
             (case side2 => exact HC0_8.out)
             rintro e w52 ⟨v240, rfl, ho0, hb⟩
             refine ⟨_, rfl, ?_⟩
             obtain ⟨lo270, hi270, elo270, ehi270⟩ := gr_open hb
             replace HO209 := Aside0.mk (Kd.R_below (kR_ HO209.out) hb); replace HO212 := Aside0.mk (Kd.S_below (kS_ HO212.out) hb); replace HO224 := Aside0.mk (Kd.R_below (kR_ HO224.out) hb); replace HO228 := Aside0.mk (Kd.S_below (kS_ HO228.out) hb); have HO241 := Aside0.mk (Kd.R_lower (gr_R elo270 ehi270 ho0) (below_size (hbA_ HB.out))); have LT270 := Aside0.mk (zl_ HZ elo270); have LE270 := Aside0.mk (zle_ elo270 ehi270 hb); replace HZ := Aside0.mk (Nat.le_of_eq ehi270.out); replace BK197 := (bbA_ BK197 hb); replace BK225 := (bbA_ BK225 hb); replace HB := (bs_ HB hb); (try clear hb); (try clear hb2); (try clear hk); (try clear hi); (try clear ho0)
             obtain ⟨Ao53, co53, eo53⟩ := Kd.R_slice HO241.out
             (first | subst eo53 | (injection eo53 with f1_ f2_ f3_; have f4_ := f1_.symm; have f5_ := f3_.symm; clear f1_ f2_ f3_; subst f4_; subst f5_))
             refine hK.out _ _ ⟨bc_ BK225 0, bc_ BK225 1, bc_ BK225 2, bc_ BK225 3, bc_ BK225 4, bc_ BK225 5, bc_ BK225 6, bc_ BK225 7, bc_ BK225 8, bc_ BK197 0, bc_ BK197 1, bc_ BK197 2, bc_ BK197 3, bc_ BK197 4, bc_ BK197 5, bc_ BK197 6, bc_ BK197 7, bc_ BK197 8⟩ (fun hHeld => ?_)
             clear hK K; refine nm_ 47 ?_
             refine one_ (i := 3) (N := some 48) #[true, true, true, true, false] rfl rfl (by kernel_rfl) (by decide) (fun K hK => ?_)
             refine goes_ Try.func19 (by kernel_rfl) rfl #[.agg #[.int .i64 t214, .int .i64 t215, .int .i64 t216, .int .i64 t217, .int .i64 t218, .int .i64 t219, .bool t220, .bool t221, .slice Ao46 t222.length co46], .agg #[.int .i64 t231, .int .i64 t232, .int .i64 t233, .int .i64 t234, .int .i64 t235, .int .i64 t236, .bool t237, .bool t238, .slice Ao53 t239.length co53]] (by rfl) rfl rfl ar_ ?_
             with_reducible refine (laws_eqPacket.calls k t214 t215 t216 t217 t218 t219 t220 t221 _ _ t222 t231 t232 t233 t234 t235 t236 t237 t238 _ _ t239 true _ ?side1 ?side2 ?side3 ?side4 A16.out).mono ?_
             (case side1 => exact kC_ (Kd.R_reads' HO224.out).2.2)
             (case side2 => exact (Kd.R_reads' HO224.out).2.1)
             (case side3 => exact kC_ (Kd.R_reads' HO241.out).2.2)
             (case side4 => exact (Kd.R_reads' HO241.out).2.1)
             rintro e w54 ⟨rfl, hb⟩
             refine ⟨_, rfl, ?_⟩
             replace HO209 := Aside0.mk (Kd.R_below (kR_ HO209.out) hb); replace HO212 := Aside0.mk (Kd.S_below (kS_ HO212.out) hb); replace HO224 := Aside0.mk (Kd.R_below (kR_ HO224.out) hb); replace HO228 := Aside0.mk (Kd.S_below (kS_ HO228.out) hb); replace HO241 := Aside0.mk (Kd.R_below (kR_ HO241.out) hb); replace BK197 := (bbA_ BK197 hb); replace BK225 := (bbA_ BK225 hb); replace HB := (bs_ HB hb); replace HZ := Aside0.mk (zs_ HZ hb); (try clear hb); (try clear hb2); (try clear hk); (try clear hi)
             refine hK.out _ _ ⟨bc_ BK225 0, bc_ BK225 1, bc_ BK225 2, bc_ BK225 3, bc_ BK225 4, bc_ BK225 5, bc_ BK225 6, bc_ BK225 7, bc_ BK225 8, bc_ BK197 0, bc_ BK197 1, bc_ BK197 2, bc_ BK197 3, bc_ BK197 4, bc_ BK197 5, bc_ BK197 6, bc_ BK197 7, bc_ BK197 8⟩ (fun hHeld => ?_)
             clear hK K; refine nm_ 48 ?_
             refine pure_ (i := 4) (N := some 49) (v := ?_) (a' := ?_) #[true, true, true, true, true] rfl rfl (by kernel_rfl) (fun _ _ _ h => h) (Or.inl ⟨by rfl, ?_⟩) ?_ ?_
             rotate_left
             ·intro w'
              go_simp
              with_reducible rfl
             rotate_left
             ·simp only [Act.put, List.setIfInBounds_toArray, List.set_cons_zero, List.set_cons_succ, i64_w, i32_w]
              rfl
             refine done_ (by kernel_rfl) ?_
             have Z55 := zz9 BK225
             try go_wp2_with (first | ((with_reducible refine gate_callee (f := 20) rfl ?_); refine goesL_ (some 52) rfl rfl Try.func20 (by kernel_rfl) rfl #[.agg #[.int .i64 t214, .int .i64 t215, .int .i64 t216, .int .i64 t217, .int .i64 t218, .int .i64 t219, .bool t220, .bool t221, .slice Ao46 t222.length co46], .int .i64 1] rfl ar_ ?_; (with_reducible refine (laws_markPacket.calls k t214 t215 t216 t217 t218 t219 t220 t221 (fun k_ => some k_ = (.slice Ao46 t222.length co46 : Value).ownBlock) (.slice Ao46 t222.length co46) t222 1 t243 t244 w _ ?side1 ?side2 A18.out).mono ?_); (case side1 => exact hbA_ HB.out); (case side2 => exact Kd.R_tight rfl (kR_ HO224.out)); rintro e w56 ⟨rfl, hy0, hb, hkp⟩; refine ⟨_, rfl, ?_⟩; have hkr := gk_mono (lo := lo268) (hi := hi268) hkp (fun k_ hs_ => (HO224.out.1 _ hs_.symm).2); replace BK197 := Aside0.mk (blk_kept (kb_ BK197.out) hkr (rng_ne (k := gb197) ⟨Nat.le_refl _, Nat.lt_succ_self _⟩ (Or.inl (Nat.le_trans (Nat.le_trans LT266.out (Nat.le_trans LE266.out LT267.out)) (Nat.le_trans LE267.out LT268.out))))); replace HO209 := Aside0.mk (gkR_ HO209 hkr (fun k_ hk_ => rng_ne hk_.2 (Or.inl (Nat.le_trans LT267.out (Nat.le_trans LE267.out LT268.out))))); replace HO212 := Aside0.mk (gkS_ HO212 hkr (fun k_ hk_ => rng_ne hk_.2 (Or.inl LT268.out))); replace HO224 := Aside0.mk (Kd.R_reok rfl hy0 (fun k_ e_ => HO224.out.1 k_ e_)); replace BK225 := Aside0.mk (blk_kept (kb_ BK225.out) hkr (rng_ne (k := gb225) ⟨Nat.le_refl _, Nat.lt_succ_self _⟩ (Or.inr LTb225.out))); replace HO228 := Aside0.mk (gkS_ HO228 hkr (fun k_ hk_ => rng_ne hk_.2 (Or.inr (Nat.le_trans LTb225.out (Nat.le_trans (Nat.le_succ _) LT269.out))))); replace HO241 := Aside0.mk (gkR_ HO241 hkr (fun k_ hk_ => rng_ne hk_.2 (Or.inr (Nat.le_trans (Nat.le_trans LTb225.out (Nat.le_trans (Nat.le_succ _) LT269.out)) (Nat.le_trans LE269.out LT270.out))))); replace HB := Aside0.mk (hb); replace HZ := Aside0.mk (zk_ HZ hkr); (try clear hb); (try clear hkp); (try clear hkr); (try clear hy0)) | (go_at_call 18; (with_reducible refine (laws_eqPacketS.calls k _ _ t226 _ _ t210 true _ ?side1 ?side2 ?side3 ?side4 A20.out).mono ?_); (case side1 => exact kC_ (Kd.S_reads' HO228.out).2.2); (case side2 => exact (Kd.S_reads' HO228.out).2.1); (case side3 => exact kC_ (Kd.S_reads' HO212.out).2.2); (case side4 => exact (Kd.S_reads' HO212.out).2.1); rintro e w57 ⟨rfl, hb⟩; replace HO209 := Aside0.mk (Kd.R_below (kR_ HO209.out) hb); replace HO212 := Aside0.mk (Kd.S_below (kS_ HO212.out) hb); replace HO224 := Aside0.mk (Kd.R_below (kR_ HO224.out) hb); replace HO228 := Aside0.mk (Kd.S_below (kS_ HO228.out) hb); replace HO241 := Aside0.mk (Kd.R_below (kR_ HO241.out) hb); replace BK197 := (bbA_ BK197 hb); replace BK225 := (bbA_ BK225 hb); replace HB := (bs_ HB hb); replace HZ := Aside0.mk (zs_ HZ hb); (try clear hb); (try clear hb2); (try clear hk); (try clear hi)) | ((with_reducible refine gate_callee (f := 21) rfl ?_); refine goesL_ (some 68) rfl rfl Try.func21 (by kernel_rfl) rfl #[.slice Ao48 t226.length co48, .int .i64 1] rfl ar_ ?_; (with_reducible refine (laws_markPacketS.calls k (fun k_ => (True) ∧ lo269 ≤ k_ ∧ k_ < hi269) (.slice Ao48 t226.length co48) t226 1 t246 t247 w _ ?side1 ?side2 A22.out).mono ?_); (case side1 => exact hbA_ HB.out); (case side2 => exact (kS_ HO228.out)); rintro e w58 ⟨rfl, hy0, hb, hkp⟩; refine ⟨_, rfl, ?_⟩; have hkr := gk_mono (lo := lo269) (hi := hi269) hkp (fun k_ hs_ => hs_.2); replace BK197 := Aside0.mk (blk_kept (kb_ BK197.out) hkr (rng_ne (k := gb197) ⟨Nat.le_refl _, Nat.lt_succ_self _⟩ (Or.inl (Nat.le_trans (Nat.le_trans (Nat.le_trans (Nat.le_trans LT266.out (Nat.le_trans LE266.out LT267.out)) (Nat.le_trans LE267.out LT268.out)) (Nat.le_trans LE268.out LTb225.out)) (Nat.le_trans (Nat.le_succ _) LT269.out))))); replace HO209 := Aside0.mk (gkR_ HO209 hkr (fun k_ hk_ => rng_ne hk_.2 (Or.inl (Nat.le_trans (Nat.le_trans (Nat.le_trans LT267.out (Nat.le_trans LE267.out LT268.out)) (Nat.le_trans LE268.out LTb225.out)) (Nat.le_trans (Nat.le_succ _) LT269.out))))); replace HO212 := Aside0.mk (gkS_ HO212 hkr (fun k_ hk_ => rng_ne hk_.2 (Or.inl (Nat.le_trans (Nat.le_trans LT268.out (Nat.le_trans LE268.out LTb225.out)) (Nat.le_trans (Nat.le_succ _) LT269.out))))); replace HO224 := Aside0.mk (gkR_ HO224 hkr (fun k_ hk_ => rng_ne hk_.2 (Or.inl (Nat.le_trans LTb225.out (Nat.le_trans (Nat.le_succ _) LT269.out))))); replace BK225 := Aside0.mk (blk_kept (kb_ BK225.out) hkr (rng_ne (k := gb225) ⟨Nat.le_refl _, Nat.lt_succ_self _⟩ (Or.inl LT269.out))); replace HO228 := Aside0.mk (hy0); replace HO241 := Aside0.mk (gkR_ HO241 hkr (fun k_ hk_ => rng_ne hk_.2 (Or.inr LT270.out))); replace HB := Aside0.mk (hb); replace HZ := Aside0.mk (zk_ HZ hkr); (try clear hb); (try clear hkp); (try clear hkr); (try clear hy0)) | ((with_reducible refine gate_callee (f := 22) rfl ?_); refine goesL_ (some 71) rfl rfl Try.func22 (by kernel_rfl) rfl #[.slice Ao48 t247.length co48, .int .i64 1] rfl (by (try simp only [List.map_toArray, List.map_cons, List.map_nil]); first | done | (rw [show t247.length = t226.length from (Kd.S_reads' HO228.out).1.symm] <;> rfl) | rfl | (simp only [List.length_drop, List.length_take]; rfl)) ?_; (with_reducible refine (laws_heldPacketS.calls k _ _ t247 1 t248 _ ?side1 ?side2 A23.out).mono ?_); (case side1 => exact kC_ (Kd.S_reads' HO228.out).2.2); (case side2 => rw [show t247.length = t226.length from (Kd.S_reads' HO228.out).1.symm]; exact (Kd.S_reads' HO228.out).2.1); rintro e w' ⟨rfl, ⟨nd, rfl⟩⟩; refine ⟨_, rfl, ?_⟩; have Z59 := zz9 BK197) | ((with_reducible refine gate_callee (f := 17) rfl ?_); refine goesL_ (some 79) rfl rfl Try.func17 (by kernel_rfl) rfl #[.agg #[.int .i64 a0_0, .int .i64 a0_1, .int .i64 a0_2, .int .i64 a0_3, .int .i64 a0_4, .int .i64 a0_5, .bool a0_6, .bool a0_7, .slice A0_8 l0_8.length c0_8]] rfl ar_ ?_; (with_reducible refine (laws_toPacket.calls k a0_0 a0_1 a0_2 a0_3 a0_4 a0_5 a0_6 a0_7 _ _ l0_8 t249 t250 t251 t252 t253 t254 t255 t256 t257 _ ?side1 ?side2 A26.out).mono ?_); (case side1 => exact kC_ (Kd.C_below HR0_8.out (hbA_ HB.out))); (case side2 => exact HC0_8.out); rintro e w60 ⟨v258, rfl, ho0, hb⟩; refine ⟨_, rfl, ?_⟩; obtain ⟨lo271, hi271, elo271, ehi271⟩ := gr_open hb; replace HO209 := Aside0.mk (Kd.R_below (kR_ HO209.out) hb); replace HO212 := Aside0.mk (Kd.S_below (kS_ HO212.out) hb); replace HO224 := Aside0.mk (Kd.R_below (kR_ HO224.out) hb); replace HO228 := Aside0.mk (Kd.S_below (kS_ HO228.out) hb); replace HO241 := Aside0.mk (Kd.R_below (kR_ HO241.out) hb); have HO259 := Aside0.mk (Kd.R_lower (gr_R elo271 ehi271 ho0) (below_size (hbA_ HB.out))); have LT271 := Aside0.mk (zl_ HZ elo271); have LE271 := Aside0.mk (zle_ elo271 ehi271 hb); replace HZ := Aside0.mk (Nat.le_of_eq ehi271.out); replace BK197 := (bbA_ BK197 hb); replace BK225 := (bbA_ BK225 hb); replace HB := (bs_ HB hb); (try clear hb); (try clear hb2); (try clear hk); (try clear hi); (try clear ho0); obtain ⟨Ao61, co61, eo61⟩ := Kd.R_slice HO259.out; subst eo61) | ((with_reducible refine gate_callee (f := 10) rfl ?_); refine goesL_ (some 81) rfl rfl Try.func10 (by kernel_rfl) rfl #[.agg #[.int .i64 t249, .int .i64 t250, .int .i64 t251, .int .i64 t252, .int .i64 t253, .int .i64 t254, .bool t255, .bool t256, .slice Ao61 t257.length co61], .int .i64 a1] rfl ar_ ?_; (with_reducible refine (impl_PacketCut.calls t249 t250 t251 t252 t253 t254 t255 t256 _ _ t257 a1 t260 t263 _ ?side1 ?side2 A27.out).mono ?_); (case side1 => exact kC_ (Kd.R_reads' HO259.out).2.2); (case side2 => exact (Kd.R_reads' HO259.out).2.1); rintro e w62 ⟨v261, rfl, ho0, hb⟩; refine ⟨_, rfl, ?_⟩; obtain ⟨lo272, hi272, elo272, ehi272⟩ := gr_open hb; replace HO209 := Aside0.mk (Kd.R_below (kR_ HO209.out) hb); replace HO212 := Aside0.mk (Kd.S_below (kS_ HO212.out) hb); replace HO224 := Aside0.mk (Kd.R_below (kR_ HO224.out) hb); replace HO228 := Aside0.mk (Kd.S_below (kS_ HO228.out) hb); replace HO241 := Aside0.mk (Kd.R_below (kR_ HO241.out) hb); replace HO259 := Aside0.mk (Kd.R_below (kR_ HO259.out) hb); have HO262 := Aside0.mk (Kd.S_lower (gr_S elo272 ehi272 ho0) (below_size (hbA_ HB.out))); have LT272 := Aside0.mk (zl_ HZ elo272); have LE272 := Aside0.mk (zle_ elo272 ehi272 hb); replace HZ := Aside0.mk (Nat.le_of_eq ehi272.out); replace BK197 := (bbA_ BK197 hb); replace BK225 := (bbA_ BK225 hb); replace HB := (bs_ HB hb); (try clear hb); (try clear hb2); (try clear hk); (try clear hi); (try clear ho0); obtain ⟨Ao63, co63, eo63⟩ := Kd.S_slice HO262.out; subst eo63) | ((with_reducible refine gate_callee (f := 18) rfl ?_); refine goesL_ (some 86) rfl rfl Try.func18 (by kernel_rfl) rfl #[.slice Ao63 t260.length co63, .slice Ao49 t210.length co49] rfl ar_ ?_; (with_reducible refine (laws_eqPacketS.calls k _ _ t260 _ _ t210 true _ ?side1 ?side2 ?side3 ?side4 A28.out).mono ?_); (case side1 => exact kC_ (Kd.S_reads' HO262.out).2.2); (case side2 => exact (Kd.S_reads' HO262.out).2.1); (case side3 => exact kC_ (Kd.S_reads' HO212.out).2.2); (case side4 => exact (Kd.S_reads' HO212.out).2.1); rintro e w64 ⟨rfl, hb⟩; refine ⟨_, rfl, ?_⟩; replace HO209 := Aside0.mk (Kd.R_below (kR_ HO209.out) hb); replace HO212 := Aside0.mk (Kd.S_below (kS_ HO212.out) hb); replace HO224 := Aside0.mk (Kd.R_below (kR_ HO224.out) hb); replace HO228 := Aside0.mk (Kd.S_below (kS_ HO228.out) hb); replace HO241 := Aside0.mk (Kd.R_below (kR_ HO241.out) hb); replace HO259 := Aside0.mk (Kd.R_below (kR_ HO259.out) hb); replace HO262 := Aside0.mk (Kd.S_below (kS_ HO262.out) hb); replace BK197 := (bbA_ BK197 hb); replace BK225 := (bbA_ BK225 hb); replace HB := (bs_ HB hb); replace HZ := Aside0.mk (zs_ HZ hb); (try clear hb); (try clear hb2); (try clear hk); (try clear hi)) | ((with_reducible refine gate_callee (f := 22) rfl ?_); refine goesL_ (some 95) rfl rfl Try.func22 (by kernel_rfl) rfl #[.slice Ao48 t247.length co48, .int .i64 1] rfl (by (try simp only [List.map_toArray, List.map_cons, List.map_nil]); first | done | (rw [show t247.length = t226.length from (Kd.S_reads' HO228.out).1.symm] <;> rfl) | rfl | (simp only [List.length_drop, List.length_take]; rfl)) ?_; (with_reducible refine (laws_heldPacketS.calls k _ _ t247 1 t265 _ ?side1 ?side2 A31.out).mono ?_); (case side1 => exact kC_ (Kd.S_reads' HO228.out).2.2); (case side2 => rw [show t247.length = t226.length from (Kd.S_reads' HO228.out).1.symm]; exact (Kd.S_reads' HO228.out).2.1); rintro e w' ⟨rfl, ⟨nd, rfl⟩⟩; refine ⟨_, rfl, ?_⟩))
             go_ret
             exact ⟨by first | rfl | (simp [errW_none, errW_some] <;> rfl) | (simp [*, errW_none, errW_some] <;> rfl), hbA_ HB.out⟩
            ·rw [if_neg c33] at H
             have c33b0 : (t265 == t246) = false := beq_eq_false_iff_ne.mpr c33
             have c33b1 : (t265 != t246) = true := bne_iff_ne.mpr c33
             exact absurd (Option.some.inj H) (by rw [HLW.out]; exact Bool.false_ne_true)
         ·replace c29 := Bool.eq_false_iff.mpr c29
          subst c29
          rw [if_neg (show ¬ (false = true) by decide)] at H
          exact absurd (Option.some.inj H) (by rw [HLW.out]; exact Bool.false_ne_true)
        ·rw [if_neg c25] at H
         have c25b0 : (t248 == t246) = false := beq_eq_false_iff_ne.mpr c25
         have c25b1 : (t248 != t246) = true := bne_iff_ne.mpr c25
         exact absurd (Option.some.inj H) (by rw [HLW.out]; exact Bool.false_ne_true)
      ·replace c21 := Bool.eq_false_iff.mpr c21
       subst c21
       rw [if_neg (show ¬ (false = true) by decide)] at H
       exact absurd (Option.some.inj H) (by rw [HLW.out]; exact Bool.false_ne_true)
    ·replace c17 := Bool.eq_false_iff.mpr c17
     subst c17
     rw [if_neg (show ¬ (false = true) by decide)] at H
     exact absurd (Option.some.inj H) (by rw [HLW.out]; exact Bool.false_ne_true)
  ·replace c13 := Bool.eq_false_iff.mpr c13
   subst c13
   rw [if_neg (show ¬ (false = true) by decide)] at H
   exact absurd (Option.some.inj H) (by rw [HLW.out]; exact Bool.false_ne_true)
def laws_FnExactPacketCut.Pure : Prop := ∀ (a0_0 : Int) (a0_1 : Int) (a0_2 : Int) (a0_3 : Int) (a0_4 : Int) (a0_5 : Int) (a0_6 : Bool) (a0_7 : Bool) (l0_8 : List Int) (a1 : Int), ((Lit.int .i64 a0_0).wf = true) → ((Lit.int .i64 a0_1).wf = true) → ((Lit.int .i64 a0_2).wf = true) → ((Lit.int .i64 a0_3).wf = true) → ((Lit.int .i64 a0_4).wf = true) → ((Lit.int .i64 a0_5).wf = true) → (l0_8.length ≤ maxLen ∧ ∀ y0_ ∈ l0_8, (Lit.int .u8 y0_).wf = true) → ((Lit.int .i64 a1).wf = true) → ∃ k, laws_FnExactPacketCut.f k a0_0 a0_1 a0_2 a0_3 a0_4 a0_5 a0_6 a0_7 l0_8 a1 = some true
end Go.Proofs.Ytbhofhdmbbipgaa.PFnExactPacketCut
