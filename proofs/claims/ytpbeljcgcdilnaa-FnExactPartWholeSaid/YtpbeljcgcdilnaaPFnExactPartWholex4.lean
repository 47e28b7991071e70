/- Printed by wip/xp/xprint.sh out of the translation, for this claim: what each function answers, as a plain function, and that the machine does just that. No condition. -/
import Derived.Test.YtpbeljcgcdilnaaPFnExactPartWholex0
import Derived.Test.YtpbeljcgcdilnaaPFnExactPartWholex3
namespace Go.Proofs.Ytpbeljcgcdilnaa.PFnExactPartWhole
open Go.RowKit Go.Proofs.YtpbeljcgcdilnaaW.PrintWords Go.Proofs.YtpbeljcgcdilnaaW.PrintLast Go.Proofs.YtpbeljcgcdilnaaW.PrintMore
attribute [local go_sem] max2_int min2_int max_two min_two max_three min_three max_four min_four   -- for this text's walks alone
set_option linter.unusedVariables false
set_option linter.unusedSimpArgs false
def laws_szPacket.f (a0_0 : Int) (a0_1 : Int) (a0_2 : Int) (a0_3 : Int) (a0_4 : Int) (a0_5 : Int) (a0_6 : Bool) (a0_7 : Bool) (l0_8 : List Int) (a1 : Int) : Option (Int) := (laws_szByteS.f l0_8 a1).bind fun t206 => (if t206 < 0 then (some (-1)) else (some t206))
set_option maxHeartbeats 8000000 in
set_option maxRecDepth 100000 in
theorem laws_szPacket.calls (a0_0 : Int) (a0_1 : Int) (a0_2 : Int) (a0_3 : Int) (a0_4 : Int) (a0_5 : Int) (a0_6 : Bool) (a0_7 : Bool) (A0_8 : Option Addr) (c0_8 : Nat) (l0_8 : List Int) (a1 : Int) (r : Int) (w : World) (hr0_8 : Kd.C (Kd.int .u8) w A0_8 l0_8.length l0_8) (hc0_8 : l0_8.length ≤ c0_8) (h : laws_szPacket.f a0_0 a0_1 a0_2 a0_3 a0_4 a0_5 a0_6 a0_7 l0_8 a1 = some r) :
  Calls Try.prog 89 #[.agg #[.int .i64 a0_0, .int .i64 a0_1, .int .i64 a0_2, .int .i64 a0_3, .int .i64 a0_4, .int .i64 a0_5, .bool a0_6, .bool a0_7, .slice A0_8 l0_8.length c0_8], .int .i64 a1] w fun e w' => e = .returned (.int .i64 r) ∧ Below w.heap.size w w' := by
 have hu115 := Try.underlying115; have HR0_8 := Aside0.mk hr0_8; have HC0_8 := Aside0.mk hc0_8; clear hr0_8 hc0_8
 have HB := Aside0.mk (Below.refl w.heap.size w)
 have H : ((laws_szByteS.f l0_8 a1).bind fun t206 => (if t206 < 0 then (some (-1)) else (some t206))) = some r := h
 clear h
 replace H := Option.bind_eq_some_iff.mp H
 obtain ⟨t206, A30, H⟩ := H
 (try dsimp only at H)
 have A3 := Aside0.mk A30; clear A30
 by_cases c4 : t206 < 0
 ·rw [if_pos c4] at H
  have c4b0 : decide (t206 < 0) = true := decide_eq_true c4
  clear c4
  obtain rfl := Option.some.inj H
  go_enter Try.func89, Try.ntmps89
  go_wp2_with (first | ((with_reducible refine gate_dst (N := 2) rfl ?_); refine box_ (N := 2) (cs := #[.int .i64 a0_0, .int .i64 a0_1, .int .i64 a0_2, .int .i64 a0_3, .int .i64 a0_4, .int .i64 a0_5, .bool a0_6, .bool a0_7, .slice A0_8 l0_8.length c0_8]) (t := 115) (fun gb205 hg w5 hbox hb => ?_); have BK205 := Aside0.mk (hbox); have GW205 := ge_ hg HB; have GE205 := ge_ hg HB; replace HB := (bs_ HB hb); clear hb hbox hg; have Z6 := zz9 BK205) | ((with_reducible refine gate_callee (f := 105) rfl ?_); refine goesL_ (some 8) rfl rfl Try.func105 (by kernel_rfl) rfl #[.slice A0_8 l0_8.length c0_8, .int .i64 a1] rfl ar_ ?_; (with_reducible refine (laws_szByteS.calls _ _ l0_8 a1 t206 _ ?side1 ?side2 A3.out).mono ?_); (case side1 => exact kC_ (Kd.C_below HR0_8.out HB.out)); (case side2 => exact HC0_8.out); rintro e w' ⟨rfl, ⟨nd, rfl⟩⟩; refine ⟨_, rfl, ?_⟩))
  go_ret
  exact ⟨by first | rfl | (simp [errW_none, errW_some] <;> rfl) | (simp [*, errW_none, errW_some] <;> rfl), hbA_ HB.out⟩
 ·rw [if_neg c4] at H
  have c4b0 : decide (t206 < 0) = false := decide_eq_false c4
  clear c4
  obtain rfl := Option.some.inj H
  go_enter Try.func89, Try.ntmps89
  go_wp2_with (first | ((with_reducible refine gate_dst (N := 2) rfl ?_); refine box_ (N := 2) (cs := #[.int .i64 a0_0, .int .i64 a0_1, .int .i64 a0_2, .int .i64 a0_3, .int .i64 a0_4, .int .i64 a0_5, .bool a0_6, .bool a0_7, .slice A0_8 l0_8.length c0_8]) (t := 115) (fun gb205 hg w7 hbox hb => ?_); have BK205 := Aside0.mk (hbox); have GW205 := ge_ hg HB; have GE205 := ge_ hg HB; replace HB := (bs_ HB hb); clear hb hbox hg; have Z8 := zz9 BK205) | ((with_reducible refine gate_callee (f := 105) rfl ?_); refine goesL_ (some 8) rfl rfl Try.func105 (by kernel_rfl) rfl #[.slice A0_8 l0_8.length c0_8, .int .i64 a1] rfl ar_ ?_; (with_reducible refine (laws_szByteS.calls _ _ l0_8 a1 t206 _ ?side1 ?side2 A3.out).mono ?_); (case side1 => exact kC_ (Kd.C_below HR0_8.out HB.out)); (case side2 => exact HC0_8.out); rintro e w' ⟨rfl, ⟨nd, rfl⟩⟩; refine ⟨_, rfl, ?_⟩))
  go_ret
  exact ⟨by first | rfl | (simp [errW_none, errW_some] <;> rfl) | (simp [*, errW_none, errW_some] <;> rfl), hbA_ HB.out⟩
def laws_szPacketS.l0 : Nat → List (S115) → Int → Int → Option (Int)
 | 0, _, _, _ => none
 | k + 1, x0, x1, x5 => if x5 < (x0.length : Int) then (if 0 ≤ x5 then ((laws_szPacket.f ((rd_T115 x0 x5).f0) ((rd_T115 x0 x5).f1) ((rd_T115 x0 x5).f2) ((rd_T115 x0 x5).f3) ((rd_T115 x0 x5).f4) ((rd_T115 x0 x5).f5) ((rd_T115 x0 x5).f6) ((rd_T115 x0 x5).f7) ((rd_T115 x0 x5).f8) x1).bind fun t208 => (if t208 < 0 then (some (-1)) else (laws_szPacketS.l0 k x0 t208 (wrap64 (x5 + 1))))) else (none)) else (some x1)
def laws_szPacketS.f (k : Nat) (l0 : List (S115)) (a1 : Int) : Option (Int) := if (wrap64 (a1 - (l0.length : Int))) < 0 then (some (-1)) else (laws_szPacketS.l0 k l0 (wrap64 (a1 - (l0.length : Int))) 0)
theorem laws_szPacketS.mono_l : ∀ k, (∀ y0 y1 y2, LeO (laws_szPacketS.l0 k y0 y1 y2) (laws_szPacketS.l0 (k + 1) y0 y1 y2))
 | 0 => fun _ _ _ r h => by simp [laws_szPacketS.l0] at h
 | k + 1 => by
  have ih0 := laws_szPacketS.mono_l k
  ·intro y0 y1 y2
   unfold laws_szPacketS.l0
   repeat' first | (with_reducible first | apply ih0 | exact LeO.refl _ | exact LeO.none _ | refine LeO.ite ?_ ?_ | refine LeO.bind ?_ fun _ => ?_) | apply ih0 | exact LeO.none _ | refine LeO.ite ?_ ?_ | refine LeO.bind ?_ fun _ => ?_
theorem laws_szPacketS.mono : ∀ a0 a1 k, LeO (laws_szPacketS.f k a0 a1) (laws_szPacketS.f (k + 1) a0 a1) := by
 intro a0 a1 k
 have ih0 := laws_szPacketS.mono_l k
 unfold laws_szPacketS.f
 repeat' first | (with_reducible first | apply ih0 | exact LeO.refl _ | exact LeO.none _ | refine LeO.ite ?_ ?_ | refine LeO.bind ?_ fun _ => ?_) | apply ih0 | exact LeO.none _ | refine LeO.ite ?_ ?_ | refine LeO.bind ?_ fun _ => ?_
set_option maxHeartbeats 8000000 in
set_option maxRecDepth 100000 in
theorem laws_szPacketS.calls (k : Nat) (A0 : Option Addr) (c0 : Nat) (l0 : List (S115)) (a1 : Int) (r : Int) (w : World) (hr0 : Kd.C k115 w A0 l0.length l0) (hc0 : l0.length ≤ c0) (h : laws_szPacketS.f k l0 a1 = some r) :
  Calls Try.prog 53 #[.slice A0 l0.length c0, .int .i64 a1] w fun e w' => e = .returned (.int .i64 r) ∧ Below w.heap.size w w' := by
 have hu115 := Try.underlying115; have HR0 := Aside0.mk hr0; have HC0 := Aside0.mk hc0; clear hr0 hc0
 have HB := Aside0.mk (Below.refl w.heap.size w)
 have H : (if (wrap64 (a1 - (l0.length : Int))) < 0 then (some (-1)) else (laws_szPacketS.l0 k l0 (wrap64 (a1 - (l0.length : Int))) 0)) = some r := h
 clear h
 by_cases c3 : (wrap64 (a1 - (l0.length : Int))) < 0
 ·rw [if_pos c3] at H
  have c3b0 : decide ((wrap64 (a1 - (l0.length : Int))) < 0) = true := decide_eq_true c3
  clear c3
  obtain rfl := Option.some.inj H
  go_enter Try.func53, Try.ntmps53
  go_wp2
  go_ret
  exact ⟨by first | rfl | (simp [errW_none, errW_some] <;> rfl) | (simp [*, errW_none, errW_some] <;> rfl), hbA_ HB.out⟩
 ·rw [if_neg c3] at H
  have c3b0 : decide ((wrap64 (a1 - (l0.length : Int))) < 0) = false := decide_eq_false c3
  clear c3
  have H' := Aside0.mk H
  clear H
  go_enter Try.func53, Try.ntmps53
  go_wp2
  go_loopg [1, 5] k (fun kq v1 v5 w' => ∃ (x1_1 : Int) (x5_1 : Int), v1 = .int .i64 x1_1 ∧ v5 = .int .i64 x5_1 ∧ Aside0 (laws_szPacketS.l0 kq l0 x1_1 x5_1 = some r) ∧ Aside0 (kq ≤ k) ∧ Aside0 (Below w.heap.size w w'))
  case atStart => exact ⟨(wrap64 (a1 - (l0.length : Int))), (0), (by first | rfl | (simp; done) | (simp [*]; done)), (by first | rfl | (simp; done) | (simp [*]; done)), H', ⟨Nat.le_refl _⟩, ⟨hbA_ HB.out⟩⟩
  case round =>
   clear H'; (try clear p2); (try clear c3); (try clear c3b0)
   obtain ⟨x1_1, x5_1, rfl, rfl, HA, HK1, HB⟩ := hrel
   cases gk with
   | zero => exact absurd HA.out (by simp [laws_szPacketS.l0])
   | succ k1 =>
    have H := HA.out; clear HA
    simp only [laws_szPacketS.l0] at H
    by_cases c4 : x5_1 < (l0.length : Int)
    ·rw [if_pos c4] at H
     have c4b0 : decide (x5_1 < (l0.length : Int)) = true := decide_eq_true c4
     clear c4
     by_cases c5 : 0 ≤ x5_1
     ·rw [if_pos c5] at H
      have c5b0 : decide (0 ≤ x5_1) = true := decide_eq_true c5
      clear c5
      replace H := Option.bind_eq_some_iff.mp H
      obtain ⟨t208, A60, H⟩ := H
      (try dsimp only at H)
      have A6 := Aside0.mk A60; clear A60
      by_cases c7 : t208 < 0
      ·rw [if_pos c7] at H
       have c7b0 : decide (t208 < 0) = true := decide_eq_true c7
       clear c7
       obtain rfl := Option.some.inj H
       have p207 : 0 ≤ (x5_1 : Int) := of_decide_eq_true (by first | (with_reducible assumption) | assumption)
       have q207 : x5_1 < (l0.length : Int) := of_decide_eq_true (by first | (with_reducible assumption) | assumption)
       obtain ⟨ad207, A207_8, c207_8, e207, hx207_0, hx207_1, hx207_2, hx207_3, hx207_4, hx207_5, hx207_6, hx207_7, hx207_8, hl207_8, hi207_8⟩ := at_T115 HR0.out x5_1 p207 q207
       cases e207
       replace hx207_0 := cc_ HB hx207_0
       replace hx207_1 := cc_ HB hx207_1
       replace hx207_2 := cc_ HB hx207_2
       replace hx207_3 := cc_ HB hx207_3
       replace hx207_4 := cc_ HB hx207_4
       replace hx207_5 := cc_ HB hx207_5
       replace hx207_6 := cc_ HB hx207_6
       replace hx207_7 := cc_ HB hx207_7
       replace hx207_8 := cc_ HB hx207_8
       have HR207_8 := Aside0.mk hi207_8; have HC207_8 := Aside0.mk hl207_8; clear hi207_8 hl207_8
       replace p207 := eq_true p207
       replace q207 := eq_true q207
       go_wp2_with (first | ((with_reducible refine gate_callee (f := 89) rfl ?_); refine goesL_ (some 23) rfl rfl Try.func89 (by kernel_rfl) rfl #[.agg #[.int .i64 ((rd_T115 l0 x5_1).f0), .int .i64 ((rd_T115 l0 x5_1).f1), .int .i64 ((rd_T115 l0 x5_1).f2), .int .i64 ((rd_T115 l0 x5_1).f3), .int .i64 ((rd_T115 l0 x5_1).f4), .int .i64 ((rd_T115 l0 x5_1).f5), .bool ((rd_T115 l0 x5_1).f6), .bool ((rd_T115 l0 x5_1).f7), .slice A207_8 ((rd_T115 l0 x5_1).f8).length c207_8], .int .i64 x1_1] rfl ar_ ?_; (with_reducible refine (laws_szPacket.calls ((rd_T115 l0 x5_1).f0) ((rd_T115 l0 x5_1).f1) ((rd_T115 l0 x5_1).f2) ((rd_T115 l0 x5_1).f3) ((rd_T115 l0 x5_1).f4) ((rd_T115 l0 x5_1).f5) ((rd_T115 l0 x5_1).f6) ((rd_T115 l0 x5_1).f7) _ _ ((rd_T115 l0 x5_1).f8) x1_1 t208 _ ?side1 ?side2 A6.out).mono ?_); (case side1 => exact kC_ (Kd.C_below HR207_8.out HB.out)); (case side2 => exact HC207_8.out); rintro e w8 ⟨rfl, hb⟩; refine ⟨_, rfl, ?_⟩; replace HB := (bs_ HB hb); (try clear hb); (try clear hb2); (try clear hk); (try clear hi)))
       go_ret
       exact ⟨by first | rfl | (simp [errW_none, errW_some] <;> rfl) | (simp [*, errW_none, errW_some] <;> rfl), hbA_ HB.out⟩
      ·rw [if_neg c7] at H
       have c7b0 : decide (t208 < 0) = false := decide_eq_false c7
       clear c7
       have H' := Aside0.mk H
       clear H
       have p207 : 0 ≤ (x5_1 : Int) := of_decide_eq_true (by first | (with_reducible assumption) | assumption)
       have q207 : x5_1 < (l0.length : Int) := of_decide_eq_true (by first | (with_reducible assumption) | assumption)
       obtain ⟨ad207, A207_8, c207_8, e207, hx207_0, hx207_1, hx207_2, hx207_3, hx207_4, hx207_5, hx207_6, hx207_7, hx207_8, hl207_8, hi207_8⟩ := at_T115 HR0.out x5_1 p207 q207
       cases e207
       replace hx207_0 := cc_ HB hx207_0
       replace hx207_1 := cc_ HB hx207_1
       replace hx207_2 := cc_ HB hx207_2
       replace hx207_3 := cc_ HB hx207_3
       replace hx207_4 := cc_ HB hx207_4
       replace hx207_5 := cc_ HB hx207_5
       replace hx207_6 := cc_ HB hx207_6
       replace hx207_7 := cc_ HB hx207_7
       replace hx207_8 := cc_ HB hx207_8
       have HR207_8 := Aside0.mk hi207_8; have HC207_8 := Aside0.mk hl207_8; clear hi207_8 hl207_8
       replace p207 := eq_true p207
       replace q207 := eq_true q207
       go_wp2_with (first | ((with_reducible refine gate_callee (f := 89) rfl ?_); refine goesL_ (some 23) rfl rfl Try.func89 (by kernel_rfl) rfl #[.agg #[.int .i64 ((rd_T115 l0 x5_1).f0), .int .i64 ((rd_T115 l0 x5_1).f1), .int .i64 ((rd_T115 l0 x5_1).f2), .int .i64 ((rd_T115 l0 x5_1).f3), .int .i64 ((rd_T115 l0 x5_1).f4), .int .i64 ((rd_T115 l0 x5_1).f5), .bool ((rd_T115 l0 x5_1).f6), .bool ((rd_T115 l0 x5_1).f7), .slice A207_8 ((rd_T115 l0 x5_1).f8).length c207_8], .int .i64 x1_1] rfl ar_ ?_; (with_reducible refine (laws_szPacket.calls ((rd_T115 l0 x5_1).f0) ((rd_T115 l0 x5_1).f1) ((rd_T115 l0 x5_1).f2) ((rd_T115 l0 x5_1).f3) ((rd_T115 l0 x5_1).f4) ((rd_T115 l0 x5_1).f5) ((rd_T115 l0 x5_1).f6) ((rd_T115 l0 x5_1).f7) _ _ ((rd_T115 l0 x5_1).f8) x1_1 t208 _ ?side1 ?side2 A6.out).mono ?_); (case side1 => exact kC_ (Kd.C_below HR207_8.out HB.out)); (case side2 => exact HC207_8.out); rintro e w9 ⟨rfl, hb⟩; refine ⟨_, rfl, ?_⟩; replace HB := (bs_ HB hb); (try clear hb); (try clear hb2); (try clear hk); (try clear hi)))
       go_roundg k1
       case measure => have := HK1.out; omega
       case rel => exact ⟨(t208), (wrap64 (x5_1 + 1)), (by first | rfl | (simp; done) | (simp [*]; done)), (by first | rfl | (simp; done) | (simp [*]; done)), H', ⟨by have := HK1.out; omega⟩, ⟨hbA_ HB.out⟩⟩
     ·rw [if_neg c5] at H
      exact absurd H (by simp)
    ·rw [if_neg c4] at H
     have c4b0 : decide (x5_1 < (l0.length : Int)) = false := decide_eq_false c4
     clear c4
     obtain rfl := Option.some.inj H
     go_wp2
     go_ret
     exact ⟨by first | rfl | (simp [errW_none, errW_some] <;> rfl) | (simp [*, errW_none, errW_some] <;> rfl), hbA_ HB.out⟩
def laws_szPart.f (k : Nat) (l0_0 : List (S115)) (a0_1 : Int) (a1 : Int) : Option (Int) := (laws_szPacketS.f k l0_0 a1).bind fun t210 => (if t210 < 0 then (some (-1)) else (some t210))
theorem laws_szPart.mono : ∀ a0 a1 a2 k, LeO (laws_szPart.f k a0 a1 a2) (laws_szPart.f (k + 1) a0 a1 a2) := by
 intro a0 a1 a2 k
 unfold laws_szPart.f
 repeat' first | (with_reducible first | apply laws_szPacketS.mono | exact LeO.refl _ | exact LeO.none _ | refine LeO.ite ?_ ?_ | refine LeO.bind ?_ fun _ => ?_) | apply laws_szPacketS.mono | exact LeO.none _ | refine LeO.ite ?_ ?_ | refine LeO.bind ?_ fun _ => ?_
set_option maxHeartbeats 8000000 in
set_option maxRecDepth 100000 in
theorem laws_szPart.calls (k : Nat) (A0_0 : Option Addr) (c0_0 : Nat) (l0_0 : List (S115)) (a0_1 : Int) (a1 : Int) (r : Int) (w : World) (hr0_0 : Kd.C k115 w A0_0 l0_0.length l0_0) (hc0_0 : l0_0.length ≤ c0_0) (h : laws_szPart.f k l0_0 a0_1 a1 = some r) :
  Calls Try.prog 18 #[.agg #[.slice A0_0 l0_0.length c0_0, .int .i64 a0_1], .int .i64 a1] w fun e w' => e = .returned (.int .i64 r) ∧ Below w.heap.size w w' := by
 have hu43 := Try.underlying43; have HR0_0 := Aside0.mk hr0_0; have HC0_0 := Aside0.mk hc0_0; clear hr0_0 hc0_0
 have HB := Aside0.mk (Below.refl w.heap.size w)
 have H : ((laws_szPacketS.f k l0_0 a1).bind fun t210 => (if t210 < 0 then (some (-1)) else (some t210))) = some r := h
 clear h
 replace H := Option.bind_eq_some_iff.mp H
 obtain ⟨t210, A30, H⟩ := H
 (try dsimp only at H)
 have A3 := Aside0.mk A30; clear A30
 by_cases c4 : t210 < 0
 ·rw [if_pos c4] at H
  have c4b0 : decide (t210 < 0) = true := decide_eq_true c4
  clear c4
  obtain rfl := Option.some.inj H
  go_enter Try.func18, Try.ntmps18
  go_wp2_with (first | ((with_reducible refine gate_dst (N := 2) rfl ?_); refine box_ (N := 2) (cs := #[.slice A0_0 l0_0.length c0_0, .int .i64 a0_1]) (t := 43) (fun gb209 hg w5 hbox hb => ?_); have BK209 := Aside0.mk (hbox); have GW209 := ge_ hg HB; have GE209 := ge_ hg HB; replace HB := (bs_ HB hb); clear hb hbox hg; have Z6 := zz2 BK209) | ((with_reducible refine gate_callee (f := 53) rfl ?_); refine goesL_ (some 8) rfl rfl Try.func53 (by kernel_rfl) rfl #[.slice A0_0 l0_0.length c0_0, .int .i64 a1] rfl ar_ ?_; (with_reducible refine (laws_szPacketS.calls k _ _ l0_0 a1 t210 _ ?side1 ?side2 A3.out).mono ?_); (case side1 => exact kC_ (Kd.C_below HR0_0.out HB.out)); (case side2 => exact HC0_0.out); rintro e w7 ⟨rfl, hb⟩; refine ⟨_, rfl, ?_⟩; replace BK209 := (bbA_ BK209 hb); replace HB := (bs_ HB hb); (try clear hb); (try clear hb2); (try clear hk); (try clear hi)))
  go_ret
  exact ⟨by first | rfl | (simp [errW_none, errW_some] <;> rfl) | (simp [*, errW_none, errW_some] <;> rfl), hbA_ HB.out⟩
 ·rw [if_neg c4] at H
  have c4b0 : decide (t210 < 0) = false := decide_eq_false c4
  clear c4
  obtain rfl := Option.some.inj H
  go_enter Try.func18, Try.ntmps18
  go_wp2_with (first | ((with_reducible refine gate_dst (N := 2) rfl ?_); refine box_ (N := 2) (cs := #[.slice A0_0 l0_0.length c0_0, .int .i64 a0_1]) (t := 43) (fun gb209 hg w8 hbox hb => ?_); have BK209 := Aside0.mk (hbox); have GW209 := ge_ hg HB; have GE209 := ge_ hg HB; replace HB := (bs_ HB hb); clear hb hbox hg; have Z9 := zz2 BK209) | ((with_reducible refine gate_callee (f := 53) rfl ?_); refine goesL_ (some 8) rfl rfl Try.func53 (by kernel_rfl) rfl #[.slice A0_0 l0_0.length c0_0, .int .i64 a1] rfl ar_ ?_; (with_reducible refine (laws_szPacketS.calls k _ _ l0_0 a1 t210 _ ?side1 ?side2 A3.out).mono ?_); (case side1 => exact kC_ (Kd.C_below HR0_0.out HB.out)); (case side2 => exact HC0_0.out); rintro e w10 ⟨rfl, hb⟩; refine ⟨_, rfl, ?_⟩; replace BK209 := (bbA_ BK209 hb); replace HB := (bs_ HB hb); (try clear hb); (try clear hb2); (try clear hk); (try clear hi)))
  go_ret
  exact ⟨by first | rfl | (simp [errW_none, errW_some] <;> rfl) | (simp [*, errW_none, errW_some] <;> rfl), hbA_ HB.out⟩
def laws_toByteS.l0 : Nat → List Int → List Int → Int → Option (List Int)
 | 0, _, _, _ => none
 | k + 1, x0, x3, x4 => if x4 < (x0.length : Int) then (if 0 ≤ x4 then (if x4 < (x3.length : Int) then (laws_toByteS.l0 k x0 (x3.set (x4 : Int).toNat (rd x0 x4)) (wrap64 (x4 + 1))) else (none)) else (none)) else (some x3)
def laws_toByteS.f (k : Nat) (l0 : List Int) : Option (List Int) := if 0 ≤ (l0.length : Int) then (if ((l0.length : Int) : Int).toNat ≤ 281474976710656 then (laws_toByteS.l0 k l0 (List.replicate ((l0.length : Int) : Int).toNat 0) 0) else (none)) else (none)
theorem laws_toByteS.mono_l : ∀ k, (∀ y0 y1 y2, LeO (laws_toByteS.l0 k y0 y1 y2) (laws_toByteS.l0 (k + 1) y0 y1 y2))
 | 0 => fun _ _ _ r h => by simp [laws_toByteS.l0] at h
 | k + 1 => by
  have ih0 := laws_toByteS.mono_l k
  ·intro y0 y1 y2
   unfold laws_toByteS.l0
   repeat' first | (with_reducible first | apply ih0 | exact LeO.refl _ | exact LeO.none _ | refine LeO.ite ?_ ?_ | refine LeO.bind ?_ fun _ => ?_) | apply ih0 | exact LeO.none _ | refine LeO.ite ?_ ?_ | refine LeO.bind ?_ fun _ => ?_
theorem laws_toByteS.mono : ∀ a0 k, LeO (laws_toByteS.f k a0) (laws_toByteS.f (k + 1) a0) := by
 intro a0 k
 have ih0 := laws_toByteS.mono_l k
 unfold laws_toByteS.f
 repeat' first | (with_reducible first | apply ih0 | exact LeO.refl _ | exact LeO.none _ | refine LeO.ite ?_ ?_ | refine LeO.bind ?_ fun _ => ?_) | apply ih0 | exact LeO.none _ | refine LeO.ite ?_ ?_ | refine LeO.bind ?_ fun _ => ?_
set_option maxHeartbeats 8000000 in
set_option maxRecDepth 100000 in
theorem laws_toByteS.calls (k : Nat) (A0 : Option Addr) (c0 : Nat) (l0 : List Int) (r : List Int) (w : World) (hr0 : Kd.C (Kd.int .u8) w A0 l0.length l0) (hc0 : l0.length ≤ c0) (h : laws_toByteS.f k l0 = some r) :
  Calls Try.prog 26 #[.slice A0 l0.length c0] w fun e w' => ∃ v0_ : Value, e = .returned (v0_) ∧ Kd.R (Kd.int .u8) 5 w' w.heap.size (fun _ => True) v0_ r ∧ Below w.heap.size w w' := by
 have HR0 := Aside0.mk hr0; have HC0 := Aside0.mk hc0; clear hr0 hc0
 have HB := Aside0.mk (Below.refl w.heap.size w)
 have H : (if 0 ≤ (l0.length : Int) then (if ((l0.length : Int) : Int).toNat ≤ 281474976710656 then (laws_toByteS.l0 k l0 (List.replicate ((l0.length : Int) : Int).toNat 0) 0) else (none)) else (none)) = some r := h
 clear h
 by_cases c2 : 0 ≤ (l0.length : Int)
 ·rw [if_pos c2] at H
  have c2b0 := eq_true c2
  have c2b1 : decide (0 ≤ (l0.length : Int)) = true := decide_eq_true c2
  clear c2
  by_cases c3 : ((l0.length : Int) : Int).toNat ≤ 281474976710656
  ·rw [if_pos c3] at H
   have c3b0 := eq_true c3
   have c3b1 : decide (((l0.length : Int) : Int).toNat ≤ 281474976710656) = true := decide_eq_true c3
   clear c3
   obtain ⟨y211, hy211⟩ : ∃ y_ : List Int, y_ = (List.replicate ((l0.length : Int) : Int).toNat 0) := ⟨_, rfl⟩
   (first | replace H := sb_ hy211 H | rw [← hy211] at H)
   have Ny211 := Aside0.mk hy211; clear hy211
   have H' := Aside0.mk H
   clear H
   go_enter Try.func26, Try.ntmps26
   go_wp2_with (first | ((with_reducible refine gate_dst (N := 7) rfl ?_); refine Kd.R_make (Kd.int .u8) _ 5 rfl (N := 7) rfl 22 _ _ rfl (l0.length : Int) rfl rfl Try.underlying22 (.int .u8 0) 1 info5 rfl (by decide) (by omega) 0 (ok := fun _ => True) (okp := fun _ => True) rfl (fun _ hk => hk) trivial (of_decide_eq_true (by first | (with_reducible assumption) | assumption)) (Nat.le_trans (Nat.mul_le_mul_right _ (of_decide_eq_true (by first | (with_reducible assumption) | assumption) : (l0.length : Int).toNat ≤ 281474976710656)) (by omega)) (Below.refl _ _) (Nat.le_refl _) ?_; intro v212 w4 ho5 hb hg_ hnew_; clear hg_ hnew_; (first | rw [← Ny211.out] at ho5 | (simp only [Int.reduceToNat] at ho5; rw [← Ny211.out] at ho5)); have HO213 := Aside0.mk (Kd.R_lower ho5 (below_size (hbA_ HB.out))); replace HB := (bs_ HB hb); clear hb ho5))
   go_loopg [4] k (fun kq v4 w' => ∃ (x3_1 : List Int) (x4_1 : Int), v4 = .int .i64 x4_1 ∧ Aside0 (laws_toByteS.l0 kq l0 x3_1 x4_1 = some r) ∧ Aside0 (kq ≤ k) ∧ Aside0 (Kd.R (Kd.int .u8) 5 w' w.heap.size (fun _ => True) v212 x3_1) ∧ Aside0 (Below w.heap.size w w'))
   case atStart => exact ⟨(y211), (0), (by first | rfl | (simp; done) | (simp [*]; done)), H', ⟨Nat.le_refl _⟩, ⟨kR_ HO213.out⟩, ⟨hbA_ HB.out⟩⟩
   case round =>
    clear H'; (try clear c2); (try clear c2b0); (try clear c2b1); (try clear p2); (try clear c3); (try clear c3b0); (try clear c3b1)
    obtain ⟨x3_1, x4_1, rfl, HA, HK1, HO_3, HB⟩ := hrel
    cases gk with
    | zero => exact absurd HA.out (by simp [laws_toByteS.l0])
    | succ k1 =>
     have H := HA.out; clear HA
     simp only [laws_toByteS.l0] at H
     by_cases c6 : x4_1 < (l0.length : Int)
     ·rw [if_pos c6] at H
      have c6b0 : decide (x4_1 < (l0.length : Int)) = true := decide_eq_true c6
      clear c6
      by_cases c7 : 0 ≤ x4_1
      ·rw [if_pos c7] at H
       have c7b0 : decide (0 ≤ x4_1) = true := decide_eq_true c7
       clear c7
       by_cases c8 : x4_1 < (x3_1.length : Int)
       ·rw [if_pos c8] at H
        have c8b0 : decide (x4_1 < (x3_1.length : Int)) = true := decide_eq_true c8
        clear c8
        obtain ⟨y215, hy215⟩ : ∃ y_ : List Int, y_ = (x3_1.set (x4_1 : Int).toNat (rd l0 x4_1)) := ⟨_, rfl⟩
        (first | replace H := sb_ hy215 H | rw [← hy215] at H)
        have Ny215 := Aside0.mk hy215; clear hy215
        have H' := Aside0.mk H
        clear H
        have p214 : 0 ≤ (x4_1 : Int) := of_decide_eq_true (by first | (with_reducible assumption) | assumption)
        have q214 : x4_1 < (l0.length : Int) := of_decide_eq_true (by first | (with_reducible assumption) | assumption)
        obtain ⟨ad214, e214, hx214_0⟩ := Kd.at_int HR0.out x4_1 p214 q214
        cases e214
        replace hx214_0 := cc_ HB hx214_0
        replace p214 := eq_true p214
        replace q214 := eq_true q214
        have p9 : 0 ≤ (x4_1 : Int) := of_decide_eq_true (by first | (with_reducible assumption) | assumption)
        have q9 : (x4_1 : Int) < ((x3_1.length : Int) : Int) := of_decide_eq_true (by first | (with_reducible assumption) | assumption)
        obtain ⟨go9, co9, eo9, gb9, gl9, cl9, HG9⟩ := Kd.R_form HO_3.out (by omega)
        (first | cases eo9 | (injection eo9 with ea_ en_ ec_; (first | subst ea_ | (injection ea_ with ea_; subst ea_)); subst ec_; clear en_))
        have GB9 := Aside0.mk gb9; have GG9 := Aside0.mk HG9; clear gb9 gl9 HG9
        obtain ⟨hx9_0, hf9_0⟩ := Kd.R_celln 0 HO_3.out (x4_1 : Int) p9 q9
        replace p9 := eq_true p9
        replace q9 := eq_true q9
        have HP10 := Kd.R_putg HO_3.out (x4_1 : Int) (rd l0 x4_1)
        go_wp2_with (first | ((with_reducible refine gate_store (t := 5) (p := 20) rfl ?_); refine store_event (t := 5) (p := 20) (v := ?vo_w11) (w1 := (wr.setCell ⟨go9, (x4_1 : Int).toNat, none⟩ (.int .u8 (rd l0 x4_1)))) ?hg ?ho ?hn ?hr ?_; (case ho => rfl); (case hg => rfl); (case hn => rfl); (case hr => first | (go_simp; done) | (go_simp; rfl)); intro w11 hw; have hg : wr.grownBy w11 (some go9) := (by rw [hw]; exact HP10.2); have hp_ : Kd.R (Kd.int .u8) 5 w11 w.heap.size (fun _ => True) (.slice (some ⟨go9, 0, none⟩) x3_1.length co9) y215 := (by rw [hw, Ny215.out]; exact HP10.1); clear HP10; replace HO_3 := Aside0.mk (hp_); replace HB := Aside0.mk ((by rw [hw]; exact below_set (HB.out) GB9.out : Below w.heap.size w w11)); clear hg hw hp_))
        go_roundg k1
        case measure => have := HK1.out; omega
        case rel => exact ⟨(y215), (wrap64 (x4_1 + 1)), (by first | rfl | (simp; done) | (simp [*]; done)), H', ⟨by have := HK1.out; omega⟩, ⟨kR_ HO_3.out⟩, ⟨hbA_ HB.out⟩⟩
       ·rw [if_neg c8] at H
        exact absurd H (by simp)
      ·rw [if_neg c7] at H
       exact absurd H (by simp)
     ·rw [if_neg c6] at H
      have c6b0 : decide (x4_1 < (l0.length : Int)) = false := decide_eq_false c6
      clear c6
      obtain rfl := Option.some.inj H
      go_wp2
      go_ret
      exact ⟨_, by first | rfl | (simp [errW_none, errW_some] <;> rfl) | (simp [*, errW_none, errW_some] <;> rfl), kR_ HO_3.out, hbA_ HB.out⟩
  ·rw [if_neg c3] at H
   exact absurd H (by simp)
 ·rw [if_neg c2] at H
  exact absurd H (by simp)
def laws_toPacket.f (k : Nat) (a0_0 : Int) (a0_1 : Int) (a0_2 : Int) (a0_3 : Int) (a0_4 : Int) (a0_5 : Int) (a0_6 : Bool) (a0_7 : Bool) (l0_8 : List Int) : Option (Int × Int × Int × Int × Int × Int × Bool × Bool × List Int) := (laws_toByteS.f k l0_8).bind fun t219 => (some (a0_0, a0_1, a0_2, a0_3, a0_4, a0_5, a0_6, a0_7, t219))
theorem laws_toPacket.mono : ∀ a0 a1 a2 a3 a4 a5 a6 a7 a8 k, LeO (laws_toPacket.f k a0 a1 a2 a3 a4 a5 a6 a7 a8) (laws_toPacket.f (k + 1) a0 a1 a2 a3 a4 a5 a6 a7 a8) := by
 intro a0 a1 a2 a3 a4 a5 a6 a7 a8 k
 unfold laws_toPacket.f
 repeat' first | (with_reducible first | apply laws_toByteS.mono | exact LeO.refl _ | exact LeO.none _ | refine LeO.ite ?_ ?_ | refine LeO.bind ?_ fun _ => ?_) | apply laws_toByteS.mono | exact LeO.none _ | refine LeO.ite ?_ ?_ | refine LeO.bind ?_ fun _ => ?_
set_option maxHeartbeats 8000000 in
set_option maxRecDepth 100000 in
theorem laws_toPacket.calls (k : Nat) (a0_0 : Int) (a0_1 : Int) (a0_2 : Int) (a0_3 : Int) (a0_4 : Int) (a0_5 : Int) (a0_6 : Bool) (a0_7 : Bool) (A0_8 : Option Addr) (c0_8 : Nat) (l0_8 : List Int) (r1 : Int) (r2 : Int) (r3 : Int) (r4 : Int) (r5 : Int) (r6 : Int) (r7 : Bool) (r8 : Bool) (r9 : List Int) (w : World) (hr0_8 : Kd.C (Kd.int .u8) w A0_8 l0_8.length l0_8) (hc0_8 : l0_8.length ≤ c0_8) (h : laws_toPacket.f k a0_0 a0_1 a0_2 a0_3 a0_4 a0_5 a0_6 a0_7 l0_8 = some (r1, r2, r3, r4, r5, r6, r7, r8, r9)) :
  Calls Try.prog 90 #[.agg #[.int .i64 a0_0, .int .i64 a0_1, .int .i64 a0_2, .int .i64 a0_3, .int .i64 a0_4, .int .i64 a0_5, .bool a0_6, .bool a0_7, .slice A0_8 l0_8.length c0_8]] w fun e w' => ∃ v8_ : Value, e = .returned (.agg #[.int .i64 r1, .int .i64 r2, .int .i64 r3, .int .i64 r4, .int .i64 r5, .int .i64 r6, .bool r7, .bool r8, v8_]) ∧ Kd.R (Kd.int .u8) 5 w' w.heap.size (fun _ => True) v8_ r9 ∧ Below w.heap.size w w' := by
 have hu115 := Try.underlying115; have hu28 := Try.underlying28; have HR0_8 := Aside0.mk hr0_8; have HC0_8 := Aside0.mk hc0_8; clear hr0_8 hc0_8
 have HB := Aside0.mk (Below.refl w.heap.size w)
 have H : ((laws_toByteS.f k l0_8).bind fun t219 => (some (a0_0, a0_1, a0_2, a0_3, a0_4, a0_5, a0_6, a0_7, t219))) = some (r1, r2, r3, r4, r5, r6, r7, r8, r9) := h
 clear h
 replace H := Option.bind_eq_some_iff.mp H
 obtain ⟨t219, A20, H⟩ := H
 (try dsimp only at H)
 have A2 := Aside0.mk A20; clear A20
 simp only [Option.some.injEq, Prod.mk.injEq] at H
 obtain ⟨rfl, rfl, rfl, rfl, rfl, rfl, rfl, rfl, rfl⟩ := H
 go_enter Try.func90, Try.ntmps90
 go_wp2_with (first | ((with_reducible refine gate_dst (N := 1) rfl ?_); refine box_ (N := 1) (cs := #[.int .i64 a0_0, .int .i64 a0_1, .int .i64 a0_2, .int .i64 a0_3, .int .i64 a0_4, .int .i64 a0_5, .bool a0_6, .bool a0_7, .slice A0_8 l0_8.length c0_8]) (t := 115) (fun gb216 hg w3 hbox hb => ?_); have BK216 := Aside0.mk (hbox); have GW216 := ge_ hg HB; have GE216 := ge_ hg HB; replace HB := (bs_ HB hb); clear hb hbox hg) | ((with_reducible refine gate_dst (N := 2) rfl ?_); refine box_ (N := 2) (cs := #[.int .i64 0, .int .i64 0, .int .i64 0, .int .i64 0, .int .i64 0, .int .i64 0, .bool false, .bool false, .slice none 0 0]) (t := 28) (fun gb217 hg w4 hbox hb => ?_); have BK217 := Aside0.mk (hbox); have GW217 := ge_ hg HB; have GE217 := ge_ hg HB; replace HB := (bs_ HB hb); have NB216_217 := nl_ hg BK216; have NB217_216 := ng_ hg BK216; replace BK216 := (bbA_ BK216 hb); clear hb hbox hg) | ((with_reducible refine gate_dst (N := 3) rfl ?_); refine box_ (N := 3) (cs := #[.int .i64 0, .int .i64 0, .int .i64 0, .int .i64 0, .int .i64 0, .int .i64 0, .bool false, .bool false, .slice none 0 0]) (t := 28) (fun gb218 hg w5 hbox hb => ?_); have BK218 := Aside0.mk (hbox); have GW218 := ge_ hg HB; have GE218 := ge_ hg HB; replace HB := (bs_ HB hb); have NB216_218 := nl_ hg BK216; have NB218_216 := ng_ hg BK216; replace BK216 := (bbA_ BK216 hb); have NB217_218 := nl_ hg BK217; have NB218_217 := ng_ hg BK217; replace BK217 := (bbA_ BK217 hb); clear hb hbox hg; have hnb6 := NB216_217.out; have hnc6 := NB217_216.out; have hnb7 := NB216_218.out; have hnc7 := NB218_216.out; have Z8 := zz9 BK216; have hnb9 := NB218_217.out; have hnc9 := NB217_218.out; have Z10 := zz9 BK218) | ((with_reducible refine gate_callee (f := 26) rfl ?_); refine goesL_ (some 30) rfl rfl Try.func26 (by kernel_rfl) rfl #[.slice A0_8 l0_8.length c0_8] rfl ar_ ?_; (with_reducible refine (laws_toByteS.calls k _ _ l0_8 t219 _ ?side1 ?side2 A2.out).mono ?_); (case side1 => exact Kd.C_below HR0_8.out (hbA_ HB.out)); (case side2 => exact HC0_8.out); rintro e w11 ⟨v220, rfl, ho0, hb⟩; refine ⟨_, rfl, ?_⟩; have HO221 := Aside0.mk (Kd.R_lower ho0 (below_size (hbA_ HB.out))); replace BK216 := Aside0.mk (blk_below (g := gb216) (o := .cells #[.int .i64 a0_0, .int .i64 a0_1, .int .i64 a0_2, .int .i64 a0_3, .int .i64 a0_4, .int .i64 a0_5, .bool a0_6, .bool a0_7, .slice A0_8 l0_8.length c0_8] 115 (0, 0)) (by exact kf_ BK216.out) hb); replace BK217 := Aside0.mk (blk_below (g := gb217) (o := .cells #[.int .i64 0, .int .i64 0, .int .i64 0, .int .i64 0, .int .i64 0, .int .i64 0, .bool false, .bool false, .slice none 0 0] 28 (0, 0)) (by exact kf_ BK217.out) hb); replace BK218 := Aside0.mk (blk_below (g := gb218) (o := .cells #[.int .i64 a0_0, .int .i64 a0_1, .int .i64 a0_2, .int .i64 a0_3, .int .i64 a0_4, .int .i64 a0_5, .bool a0_6, .bool a0_7, .slice none 0 0] 28 (0, 0)) (by refine kb_ ?_; refine blk_put (cs := #[.int .i64 a0_0, .int .i64 a0_1, .int .i64 a0_2, .int .i64 a0_3, .int .i64 a0_4, .int .i64 a0_5, .bool a0_6, .bool false, .slice none 0 0]) ?_ 7 _ rfl; refine kb_ ?_; refine blk_put (cs := #[.int .i64 a0_0, .int .i64 a0_1, .int .i64 a0_2, .int .i64 a0_3, .int .i64 a0_4, .int .i64 a0_5, .bool false, .bool false, .slice none 0 0]) ?_ 6 _ rfl; refine kb_ ?_; refine blk_put (cs := #[.int .i64 a0_0, .int .i64 a0_1, .int .i64 a0_2, .int .i64 a0_3, .int .i64 a0_4, .int .i64 0, .bool false, .bool false, .slice none 0 0]) ?_ 5 _ rfl; refine kb_ ?_; refine blk_put (cs := #[.int .i64 a0_0, .int .i64 a0_1, .int .i64 a0_2, .int .i64 a0_3, .int .i64 0, .int .i64 0, .bool false, .bool false, .slice none 0 0]) ?_ 4 _ rfl; refine kb_ ?_; refine blk_put (cs := #[.int .i64 a0_0, .int .i64 a0_1, .int .i64 a0_2, .int .i64 0, .int .i64 0, .int .i64 0, .bool false, .bool false, .slice none 0 0]) ?_ 3 _ rfl; refine kb_ ?_; refine blk_put (cs := #[.int .i64 a0_0, .int .i64 a0_1, .int .i64 0, .int .i64 0, .int .i64 0, .int .i64 0, .bool false, .bool false, .slice none 0 0]) ?_ 2 _ rfl; refine kb_ ?_; refine blk_put (cs := #[.int .i64 a0_0, .int .i64 0, .int .i64 0, .int .i64 0, .int .i64 0, .int .i64 0, .bool false, .bool false, .slice none 0 0]) ?_ 1 _ rfl; refine kb_ ?_; refine blk_put (cs := #[.int .i64 0, .int .i64 0, .int .i64 0, .int .i64 0, .int .i64 0, .int .i64 0, .bool false, .bool false, .slice none 0 0]) ?_ 0 _ rfl; refine kb_ ?_; exact BK218.out) hb); replace HB := (bs_ HB hb); (try clear hb); (try clear hb2); (try clear hk); (try clear hi); (try clear ho0); obtain ⟨Ao12, co12, eo12⟩ := Kd.R_slice HO221.out; subst eo12; have Z13 := zz9 BK218; have Z14 := zz9 BK217))
 refine bodyPost_ret (results_cell_row rfl _ _ gb217 28 #[.int .i64 a0_0, .int .i64 a0_1, .int .i64 a0_2, .int .i64 a0_3, .int .i64 a0_4, .int .i64 a0_5, .bool a0_6, .bool a0_7, .slice Ao12 t219.length co12] (0, 0) _ rfl (by refine kb_ ?_; refine pz9 (cs := #[.int .i64 0, .int .i64 0, .int .i64 0, .int .i64 0, .int .i64 0, .int .i64 0, .bool false, .bool false, .slice none 0 0]) ?_; exact kf_ BK217.out) Try.underlying28 rfl (by kernel_rfl)) rfl ?_
 exact ⟨_, by first | rfl | (simp [errW_none, errW_some] <;> rfl) | (simp [*, errW_none, errW_some] <;> rfl), by refine kR_ ?_; exact rfm_ ((Kd.R_far (p := ⟨gb218, 8, none⟩) (Kd.R_types (Kd.R_types HO221.out BK218.out (by decide)) BK217.out (by decide)) (fun _ hk => hk.1.2) (.slice Ao12 t219.length co12))) (fun _ hk => trivial), hbA_ HB.out⟩
def laws_toPacketS.l0 : Nat → List (S115) → List (S28) → Int → Option ((List (S28)))
 | 0, _, _, _ => none
 | k + 1, x0, x3, x4 => if x4 < (x0.length : Int) then (if 0 ≤ x4 then ((laws_toPacket.f k ((rd_T115 x0 x4).f0) ((rd_T115 x0 x4).f1) ((rd_T115 x0 x4).f2) ((rd_T115 x0 x4).f3) ((rd_T115 x0 x4).f4) ((rd_T115 x0 x4).f5) ((rd_T115 x0 x4).f6) ((rd_T115 x0 x4).f7) ((rd_T115 x0 x4).f8)).bind fun bt226 => (if x4 < (x3.length : Int) then (laws_toPacketS.l0 k x0 (x3.set (x4 : Int).toNat (⟨bt226.1, bt226.2.1, bt226.2.2.1, bt226.2.2.2.1, bt226.2.2.2.2.1, bt226.2.2.2.2.2.1, bt226.2.2.2.2.2.2.1, bt226.2.2.2.2.2.2.2.1, bt226.2.2.2.2.2.2.2.2⟩ : S28)) (wrap64 (x4 + 1))) else (none))) else (none)) else (some x3)
def laws_toPacketS.f (k : Nat) (l0 : List (S115)) : Option ((List (S28))) := if 0 ≤ (l0.length : Int) then (if ((l0.length : Int) : Int).toNat ≤ 3518437208883 then (laws_toPacketS.l0 k l0 (List.replicate ((l0.length : Int) : Int).toNat z28) 0) else (none)) else (none)
theorem laws_toPacketS.mono_l : ∀ k, (∀ y0 y1 y2, LeO (laws_toPacketS.l0 k y0 y1 y2) (laws_toPacketS.l0 (k + 1) y0 y1 y2))
 | 0 => fun _ _ _ r h => by simp [laws_toPacketS.l0] at h
 | k + 1 => by
  have ih0 := laws_toPacketS.mono_l k
  ·intro y0 y1 y2
   unfold laws_toPacketS.l0
   repeat' first | (with_reducible first | apply ih0 | apply laws_toPacket.mono | exact LeO.refl _ | exact LeO.none _ | refine LeO.ite ?_ ?_ | refine LeO.bind ?_ fun _ => ?_) | apply ih0 | apply laws_toPacket.mono | exact LeO.none _ | refine LeO.ite ?_ ?_ | refine LeO.bind ?_ fun _ => ?_
theorem laws_toPacketS.mono : ∀ a0 k, LeO (laws_toPacketS.f k a0) (laws_toPacketS.f (k + 1) a0) := by
 intro a0 k
 have ih0 := laws_toPacketS.mono_l k
 unfold laws_toPacketS.f
 repeat' first | (with_reducible first | apply ih0 | apply laws_toPacket.mono | exact LeO.refl _ | exact LeO.none _ | refine LeO.ite ?_ ?_ | refine LeO.bind ?_ fun _ => ?_) | apply ih0 | apply laws_toPacket.mono | exact LeO.none _ | refine LeO.ite ?_ ?_ | refine LeO.bind ?_ fun _ => ?_
set_option maxHeartbeats 8000000 in
set_option maxRecDepth 100000 in
theorem laws_toPacketS.calls (k : Nat) (A0 : Option Addr) (c0 : Nat) (l0 : List (S115)) (r : List (S28)) (w : World) (hr0 : Kd.C k115 w A0 l0.length l0) (hc0 : l0.length ≤ c0) (h : laws_toPacketS.f k l0 = some r) :
  Calls Try.prog 54 #[.slice A0 l0.length c0] w fun e w' => ∃ v0_ : Value, e = .returned (v0_) ∧ Kd.S k28 28 w' w.heap.size (fun _ => True) v0_ r ∧ Below w.heap.size w w' := by
 have hu115 := Try.underlying115; have hu28 := Try.underlying28; have HR0 := Aside0.mk hr0; have HC0 := Aside0.mk hc0; clear hr0 hc0
 have HB := Aside0.mk (Below.refl w.heap.size w)
 have H : (if 0 ≤ (l0.length : Int) then (if ((l0.length : Int) : Int).toNat ≤ 3518437208883 then (laws_toPacketS.l0 k l0 (List.replicate ((l0.length : Int) : Int).toNat z28) 0) else (none)) else (none)) = some r := h
 clear h
 by_cases c2 : 0 ≤ (l0.length : Int)
 ·rw [if_pos c2] at H
  have c2b0 := eq_true c2
  have c2b1 : decide (0 ≤ (l0.length : Int)) = true := decide_eq_true c2
  clear c2
  by_cases c3 : ((l0.length : Int) : Int).toNat ≤ 3518437208883
  ·rw [if_pos c3] at H
   have c3b0 := eq_true c3
   have c3b1 : decide (((l0.length : Int) : Int).toNat ≤ 3518437208883) = true := decide_eq_true c3
   clear c3
   obtain ⟨y222, hy222⟩ : ∃ y_ : List (S28), y_ = (List.replicate ((l0.length : Int) : Int).toNat z28) := ⟨_, rfl⟩
   (first | replace H := sb_ hy222 H | rw [← hy222] at H)
   have Ny222 := Aside0.mk hy222; clear hy222
   have H' := Aside0.mk H
   clear H
   go_enter Try.func54, Try.ntmps54
   go_wp2_with (first | ((with_reducible refine gate_dst (N := 7) rfl ?_); refine Kd.S_make k28 _ 28 rfl (N := 7) rfl 23 _ _ rfl (l0.length : Int) rfl rfl Try.underlying23 (.agg #[(.int .i64 0), (.int .i64 0), (.int .i64 0), (.int .i64 0), (.int .i64 0), (.int .i64 0), (.bool false), (.bool false), (.slice none 0 0)]) 80 info28 rfl (by decide) (by omega) z28 (ok := fun _ => True) (okp := fun _ => True) (k28_mkM _ _ _ z28 (Kd.R_nil _ _ _ _ _)) (fun _ hk => hk) trivial (of_decide_eq_true (by first | (with_reducible assumption) | assumption)) (Nat.le_trans (Nat.mul_le_mul_right _ (of_decide_eq_true (by first | (with_reducible assumption) | assumption) : (l0.length : Int).toNat ≤ 3518437208883)) (by omega)) (Below.refl _ _) (Nat.le_refl _) ?_; intro v223 w4 ho5 hb hg_ hnew_; clear hg_ hnew_; (first | rw [← Ny222.out] at ho5 | (simp only [Int.reduceToNat] at ho5; rw [← Ny222.out] at ho5)); have HO224 := Aside0.mk (Kd.S_lower ho5 (below_size (hbA_ HB.out))); replace HB := (bs_ HB hb); clear hb ho5))
   go_loopg [4] k (fun kq v4 w' => ∃ (x3_1 : List (S28)) (x4_1 : Int), v4 = .int .i64 x4_1 ∧ Aside0 (laws_toPacketS.l0 kq l0 x3_1 x4_1 = some r) ∧ Aside0 (kq ≤ k) ∧ Aside0 (Kd.S k28 28 w' w.heap.size (fun _ => True) v223 x3_1) ∧ Aside0 (Below w.heap.size w w'))
   case atStart => exact ⟨(y222), (0), (by first | rfl | (simp; done) | (simp [*]; done)), H', ⟨Nat.le_refl _⟩, ⟨by refine kS_ ?_; exact HO224.out⟩, ⟨hbA_ HB.out⟩⟩
   case round =>
    clear H'; (try clear c2); (try clear c2b0); (try clear c2b1); (try clear p2); (try clear c3); (try clear c3b0); (try clear c3b1); (try clear c5)
    obtain ⟨x3_1, x4_1, rfl, HA, HK1, HO_3, HB⟩ := hrel
    cases gk with
    | zero => exact absurd HA.out (by simp [laws_toPacketS.l0])
    | succ k1 =>
     have H := HA.out; clear HA
     simp only [laws_toPacketS.l0] at H
     by_cases c6 : x4_1 < (l0.length : Int)
     ·rw [if_pos c6] at H
      have c6b0 : decide (x4_1 < (l0.length : Int)) = true := decide_eq_true c6
      clear c6
      by_cases c7 : 0 ≤ x4_1
      ·rw [if_pos c7] at H
       have c7b0 : decide (0 ≤ x4_1) = true := decide_eq_true c7
       clear c7
       replace H := Option.bind_eq_some_iff.mp H
       obtain ⟨⟨t226, t227, t228, t229, t230, t231, t232, t233, t234⟩, A80, H⟩ := H
       (try dsimp only at H)
       have A8 := Aside0.mk A80; clear A80
       by_cases c9 : x4_1 < (x3_1.length : Int)
       ·rw [if_pos c9] at H
        have c9b0 : decide (x4_1 < (x3_1.length : Int)) = true := decide_eq_true c9
        clear c9
        obtain ⟨y237, hy237⟩ : ∃ y_ : List (S28), y_ = (x3_1.set (x4_1 : Int).toNat (⟨t226, t227, t228, t229, t230, t231, t232, t233, t234⟩ : S28)) := ⟨_, rfl⟩
        (first | replace H := sb_ hy237 H | rw [← hy237] at H)
        have Ny237 := Aside0.mk hy237; clear hy237
        have H' := Aside0.mk H
        clear H
        have p225 : 0 ≤ (x4_1 : Int) := of_decide_eq_true (by first | (with_reducible assumption) | assumption)
        have q225 : x4_1 < (l0.length : Int) := of_decide_eq_true (by first | (with_reducible assumption) | assumption)
        obtain ⟨ad225, A225_8, c225_8, e225, hx225_0, hx225_1, hx225_2, hx225_3, hx225_4, hx225_5, hx225_6, hx225_7, hx225_8, hl225_8, hi225_8⟩ := at_T115 HR0.out x4_1 p225 q225
        cases e225
        replace hx225_0 := cc_ HB hx225_0
        replace hx225_1 := cc_ HB hx225_1
        replace hx225_2 := cc_ HB hx225_2
        replace hx225_3 := cc_ HB hx225_3
        replace hx225_4 := cc_ HB hx225_4
        replace hx225_5 := cc_ HB hx225_5
        replace hx225_6 := cc_ HB hx225_6
        replace hx225_7 := cc_ HB hx225_7
        replace hx225_8 := cc_ HB hx225_8
        have HR225_8 := Aside0.mk hi225_8; have HC225_8 := Aside0.mk hl225_8; clear hi225_8 hl225_8
        replace p225 := eq_true p225
        replace q225 := eq_true q225
        go_wp2_with (first | ((with_reducible refine gate_callee (f := 90) rfl ?_); refine goesL_ (some 20) rfl rfl Try.func90 (by kernel_rfl) rfl #[.agg #[.int .i64 ((rd_T115 l0 x4_1).f0), .int .i64 ((rd_T115 l0 x4_1).f1), .int .i64 ((rd_T115 l0 x4_1).f2), .int .i64 ((rd_T115 l0 x4_1).f3), .int .i64 ((rd_T115 l0 x4_1).f4), .int .i64 ((rd_T115 l0 x4_1).f5), .bool ((rd_T115 l0 x4_1).f6), .bool ((rd_T115 l0 x4_1).f7), .slice A225_8 ((rd_T115 l0 x4_1).f8).length c225_8]] rfl ar_ ?_; (with_reducible refine (laws_toPacket.calls k1 ((rd_T115 l0 x4_1).f0) ((rd_T115 l0 x4_1).f1) ((rd_T115 l0 x4_1).f2) ((rd_T115 l0 x4_1).f3) ((rd_T115 l0 x4_1).f4) ((rd_T115 l0 x4_1).f5) ((rd_T115 l0 x4_1).f6) ((rd_T115 l0 x4_1).f7) _ _ ((rd_T115 l0 x4_1).f8) t226 t227 t228 t229 t230 t231 t232 t233 t234 _ ?side1 ?side2 A8.out).mono ?_); (case side1 => exact kC_ (Kd.C_below HR225_8.out HB.out)); (case side2 => exact HC225_8.out); rintro e w11 ⟨v235, rfl, ho0, hb⟩; refine ⟨_, rfl, ?_⟩; replace HO_3 := Aside0.mk (Kd.S_elder' (kS_ HO_3.out) (Kd.R_base ho0) hb); have HO236 := Aside0.mk (Kd.R_lower ho0 (below_size (hbA_ HB.out))); replace HB := (bs_ HB hb); (try clear hb); (try clear hb2); (try clear hk); (try clear hi); (try clear ho0); have p10 : 0 ≤ (x4_1 : Int) := of_decide_eq_true (by first | (with_reducible assumption) | assumption); have q10 : (x4_1 : Int) < ((x3_1.length : Int) : Int) := of_decide_eq_true (by first | (with_reducible assumption) | assumption); obtain ⟨go10, co10, eo10, gb10, gl10, cl10, HG10⟩ := Kd.S_form HO_3.out (by omega); (first | cases eo10 | (injection eo10 with ea_ en_ ec_; (first | subst ea_ | (injection ea_ with ea_; subst ea_)); subst ec_; clear en_)); have GB10 := Aside0.mk gb10; have GG10 := Aside0.mk HG10; clear gb10 gl10 HG10; obtain ⟨_, ce10, hcl10, hM10, hcc10, hfr10, _, _⟩ := Kd.S_elem HO_3.out z28 (x4_1 : Int) p10 q10; obtain ⟨ve10_8, rfl, ge10_8⟩ := k28_openM hM10; have hx10_0 : w11.cell? ⟨go10, (x4_1 : Int).toNat * 9, none⟩ = some (.int .i64 ((rd_T28 x3_1 x4_1).f0)) := hcc10 0 _ rfl; have hx10_1 : w11.cell? ⟨go10, (x4_1 : Int).toNat * 9 + 1, none⟩ = some (.int .i64 ((rd_T28 x3_1 x4_1).f1)) := hcc10 1 _ rfl; have hx10_2 : w11.cell? ⟨go10, (x4_1 : Int).toNat * 9 + 2, none⟩ = some (.int .i64 ((rd_T28 x3_1 x4_1).f2)) := hcc10 2 _ rfl; have hx10_3 : w11.cell? ⟨go10, (x4_1 : Int).toNat * 9 + 3, none⟩ = some (.int .i64 ((rd_T28 x3_1 x4_1).f3)) := hcc10 3 _ rfl; have hx10_4 : w11.cell? ⟨go10, (x4_1 : Int).toNat * 9 + 4, none⟩ = some (.int .i64 ((rd_T28 x3_1 x4_1).f4)) := hcc10 4 _ rfl; have hx10_5 : w11.cell? ⟨go10, (x4_1 : Int).toNat * 9 + 5, none⟩ = some (.int .i64 ((rd_T28 x3_1 x4_1).f5)) := hcc10 5 _ rfl; have hx10_6 : w11.cell? ⟨go10, (x4_1 : Int).toNat * 9 + 6, none⟩ = some (.bool ((rd_T28 x3_1 x4_1).f6)) := hcc10 6 _ rfl; have hx10_7 : w11.cell? ⟨go10, (x4_1 : Int).toNat * 9 + 7, none⟩ = some (.bool ((rd_T28 x3_1 x4_1).f7)) := hcc10 7 _ rfl; have hx10_8 : w11.cell? ⟨go10, (x4_1 : Int).toNat * 9 + 8, none⟩ = some (ve10_8) := hcc10 8 _ rfl; have hf10_0 : w11.frozen? ⟨go10, (x4_1 : Int).toNat * 9, none⟩ = false := hfr10 0; have hf10_1 : w11.frozen? ⟨go10, (x4_1 : Int).toNat * 9 + 1, none⟩ = false := hfr10 1; have hf10_2 : w11.frozen? ⟨go10, (x4_1 : Int).toNat * 9 + 2, none⟩ = false := hfr10 2; have hf10_3 : w11.frozen? ⟨go10, (x4_1 : Int).toNat * 9 + 3, none⟩ = false := hfr10 3; have hf10_4 : w11.frozen? ⟨go10, (x4_1 : Int).toNat * 9 + 4, none⟩ = false := hfr10 4; have hf10_5 : w11.frozen? ⟨go10, (x4_1 : Int).toNat * 9 + 5, none⟩ = false := hfr10 5; have hf10_6 : w11.frozen? ⟨go10, (x4_1 : Int).toNat * 9 + 6, none⟩ = false := hfr10 6; have hf10_7 : w11.frozen? ⟨go10, (x4_1 : Int).toNat * 9 + 7, none⟩ = false := hfr10 7; have hf10_8 : w11.frozen? ⟨go10, (x4_1 : Int).toNat * 9 + 8, none⟩ = false := hfr10 8; clear hcl10 hcc10 hfr10 hM10; replace p10 := eq_true p10; replace q10 := eq_true q10; have n_ := Aside0.mk (Kd.S_mono (ok' := (fun k_ => some k_ ≠ (v235 : Value).ownBlock)) HO_3.out (fun k_ hk => hk.2)); clear HO_3; have HO_3 := n_; clear n_; have HX12 := Aside0.mk (show Kd.S k28 28 w11 w.heap.size (fun k_ => ((fun _ => True)) k_ ∧ ¬ ((fun k_ => some k_ = (v235 : Value).ownBlock)) k_) (.slice (some ⟨go10, 0, none⟩) x3_1.length co10) x3_1 from (by refine kS_ ?_; exact Kd.S_mono HO_3.out (fun k_ hk => ⟨trivial, fun e_ => hk e_⟩))); obtain ⟨oki12, ce12, hcl12, hM12, hcc12, hfr12, hoki12, hH12⟩ := Kd.S_elem HX12.out z28 (x4_1 : Int) (of_decide_eq_true (by first | (with_reducible assumption) | assumption)) (by have h_ : (x4_1 : Int) < ((x3_1.length : Int) : Int) := of_decide_eq_true (by first | (with_reducible assumption) | assumption); first | exact h_ | (have e_ := (Kd.S_reads' HO_3.out).1; omega) | simpa using h_); obtain ⟨ve12_8, rfl, ge12_8⟩ := k28_openM hM12; have HP12 := Kd.S_seg hH12 (of_decide_eq_true (by first | (with_reducible assumption) | assumption)) (by have h_ : (x4_1 : Int) < ((x3_1.length : Int) : Int) := of_decide_eq_true (by first | (with_reducible assumption) | assumption); first | exact h_ | (have e_ := (Kd.S_reads' HO_3.out).1; omega) | simpa using h_) (seg := [.int .i64 t226, .int .i64 t227, .int .i64 t228, .int .i64 t229, .int .i64 t230, .int .i64 t231, .bool t232, .bool t233, v235]) (j := 0) (show 9 ≤ 9 from by decide) (x' := (⟨t226, t227, t228, t229, t230, t231, t232, t233, t234⟩ : S28)) (k28_mkM _ _ _ (⟨t226, t227, t228, t229, t230, t231, t232, t233, t234⟩ : S28) (Kd.R_mono (Kd.R_tight rfl (Kd.R_mono (ok' := fun k_ => ((fun _ => True)) k_ ∧ k_ ≠ go10) (Kd.R_apart' (HO236.out) (Kd.S_typed HO_3.out) (by decide)) (fun k_ hk => ⟨trivial, fun e_ => (hk.2) (by rw [e_]; rfl)⟩))) (fun _ h_ => Or.inr (h_)))) (fun _ hk => hk) (fun k_ hk_ => ((Kd.R_mono (ok' := fun k_ => ((fun _ => True)) k_ ∧ k_ ≠ go10) (Kd.R_apart' (HO236.out) (Kd.S_typed HO_3.out) (by decide)) (fun k_ hk => ⟨trivial, fun e_ => (hk.2) (by rw [e_]; rfl)⟩))).1 k_ hk_.symm); have hx12_0 := hcc12 0 _ rfl; (try simp only [show (k28).sz = 9 from rfl, Nat.mul_one, Nat.add_zero] at hx12_0); have hf12_0 := hfr12 0; (try simp only [show (k28).sz = 9 from rfl, Nat.mul_one, Nat.add_zero] at hf12_0); have hx12_1 := hcc12 1 _ rfl; (try simp only [show (k28).sz = 9 from rfl, Nat.mul_one, Nat.add_zero] at hx12_1); have hf12_1 := hfr12 1; (try simp only [show (k28).sz = 9 from rfl, Nat.mul_one, Nat.add_zero] at hf12_1); have hx12_2 := hcc12 2 _ rfl; (try simp only [show (k28).sz = 9 from rfl, Nat.mul_one, Nat.add_zero] at hx12_2); have hf12_2 := hfr12 2; (try simp only [show (k28).sz = 9 from rfl, Nat.mul_one, Nat.add_zero] at hf12_2); have hx12_3 := hcc12 3 _ rfl; (try simp only [show (k28).sz = 9 from rfl, Nat.mul_one, Nat.add_zero] at hx12_3); have hf12_3 := hfr12 3; (try simp only [show (k28).sz = 9 from rfl, Nat.mul_one, Nat.add_zero] at hf12_3); have hx12_4 := hcc12 4 _ rfl; (try simp only [show (k28).sz = 9 from rfl, Nat.mul_one, Nat.add_zero] at hx12_4); have hf12_4 := hfr12 4; (try simp only [show (k28).sz = 9 from rfl, Nat.mul_one, Nat.add_zero] at hf12_4); have hx12_5 := hcc12 5 _ rfl; (try simp only [show (k28).sz = 9 from rfl, Nat.mul_one, Nat.add_zero] at hx12_5); have hf12_5 := hfr12 5; (try simp only [show (k28).sz = 9 from rfl, Nat.mul_one, Nat.add_zero] at hf12_5); have hx12_6 := hcc12 6 _ rfl; (try simp only [show (k28).sz = 9 from rfl, Nat.mul_one, Nat.add_zero] at hx12_6); have hf12_6 := hfr12 6; (try simp only [show (k28).sz = 9 from rfl, Nat.mul_one, Nat.add_zero] at hf12_6); have hx12_7 := hcc12 7 _ rfl; (try simp only [show (k28).sz = 9 from rfl, Nat.mul_one, Nat.add_zero] at hx12_7); have hf12_7 := hfr12 7; (try simp only [show (k28).sz = 9 from rfl, Nat.mul_one, Nat.add_zero] at hf12_7); have hx12_8 := hcc12 8 _ rfl; (try simp only [show (k28).sz = 9 from rfl, Nat.mul_one, Nat.add_zero] at hx12_8); have hf12_8 := hfr12 8; (try simp only [show (k28).sz = 9 from rfl, Nat.mul_one, Nat.add_zero] at hf12_8); clear hcl12 hcc12 hfr12 hM12 hoki12 hH12) | ((with_reducible refine gate_store (t := 28) (p := 21) rfl ?_); refine store_event (t := 28) (p := 21) (v := ?vo_w13) (w1 := (((((((((w11.setCell ⟨go10, (x4_1 : Int).toNat * 9, none⟩ (.int .i64 t226)).setCell ⟨go10, (x4_1 : Int).toNat * 9 + 1, none⟩ (.int .i64 t227)).setCell ⟨go10, (x4_1 : Int).toNat * 9 + 2, none⟩ (.int .i64 t228)).setCell ⟨go10, (x4_1 : Int).toNat * 9 + 3, none⟩ (.int .i64 t229)).setCell ⟨go10, (x4_1 : Int).toNat * 9 + 4, none⟩ (.int .i64 t230)).setCell ⟨go10, (x4_1 : Int).toNat * 9 + 5, none⟩ (.int .i64 t231)).setCell ⟨go10, (x4_1 : Int).toNat * 9 + 6, none⟩ (.bool t232)).setCell ⟨go10, (x4_1 : Int).toNat * 9 + 7, none⟩ (.bool t233)).setCell ⟨go10, (x4_1 : Int).toNat * 9 + 8, none⟩ (v235))) ?hg ?ho ?hn ?hr ?_; (case ho => rfl); (case hg => rfl); (case hn => rfl); (case hr => (try (obtain ⟨Az_, cz_, ez_⟩ := Kd.R_slice HO236.out; subst ez_)); first | (go_simp; done) | (go_simp; rfl)); intro w13 hw; have hg : w11.grownBy w13 (some go10) := (by rw [hw]; exact HP12.2); have hp_ : Kd.S k28 28 w13 w.heap.size (fun _ => True) (.slice (some ⟨go10, 0, none⟩) x3_1.length co10) y237 := (by rw [hw, Ny237.out]; exact HP12.1); clear HP12; replace HO_3 := Aside0.mk (hp_); replace HB := Aside0.mk ((by rw [hw]; exact below_set (below_set (below_set (below_set (below_set (below_set (below_set (below_set (below_set (HB.out) GB10.out) GB10.out) GB10.out) GB10.out) GB10.out) GB10.out) GB10.out) GB10.out) GB10.out : Below w.heap.size w w13)); clear HO236; clear hg hw hp_))
        go_roundg k1
        case measure => have := HK1.out; omega
        case rel => exact ⟨(y237), (wrap64 (x4_1 + 1)), (by first | rfl | (simp; done) | (simp [*]; done)), H', ⟨by have := HK1.out; omega⟩, ⟨by refine kS_ ?_; exact HO_3.out⟩, ⟨hbA_ HB.out⟩⟩
       ·rw [if_neg c9] at H
        exact absurd H (by simp)
      ·rw [if_neg c7] at H
       exact absurd H (by simp)
     ·rw [if_neg c6] at H
      have c6b0 : decide (x4_1 < (l0.length : Int)) = false := decide_eq_false c6
      clear c6
      obtain rfl := Option.some.inj H
      go_wp2
      go_ret
      exact ⟨_, by first | rfl | (simp [errW_none, errW_some] <;> rfl) | (simp [*, errW_none, errW_some] <;> rfl), by refine kS_ ?_; exact HO_3.out, hbA_ HB.out⟩
  ·rw [if_neg c3] at H
   exact absurd H (by simp)
 ·rw [if_neg c2] at H
  exact absurd H (by simp)
def laws_toPart.f (k : Nat) (l0_0 : List (S115)) (a0_1 : Int) : Option ((List (S28)) × Int) := (laws_toPacketS.f k l0_0).bind fun t241 => (some (t241, a0_1))
theorem laws_toPart.mono : ∀ a0 a1 k, LeO (laws_toPart.f k a0 a1) (laws_toPart.f (k + 1) a0 a1) := by
 intro a0 a1 k
 unfold laws_toPart.f
 repeat' first | (with_reducible first | apply laws_toPacketS.mono | exact LeO.refl _ | exact LeO.none _ | refine LeO.ite ?_ ?_ | refine LeO.bind ?_ fun _ => ?_) | apply laws_toPacketS.mono | exact LeO.none _ | refine LeO.ite ?_ ?_ | refine LeO.bind ?_ fun _ => ?_
set_option maxHeartbeats 8000000 in
set_option maxRecDepth 100000 in
theorem laws_toPart.calls (k : Nat) (A0_0 : Option Addr) (c0_0 : Nat) (l0_0 : List (S115)) (a0_1 : Int) (r1 : List (S28)) (r2 : Int) (w : World) (hr0_0 : Kd.C k115 w A0_0 l0_0.length l0_0) (hc0_0 : l0_0.length ≤ c0_0) (h : laws_toPart.f k l0_0 a0_1 = some (r1, r2)) :
  Calls Try.prog 19 #[.agg #[.slice A0_0 l0_0.length c0_0, .int .i64 a0_1]] w fun e w' => ∃ v0_ : Value, e = .returned (.agg #[v0_, .int .i64 r2]) ∧ Kd.S k28 28 w' w.heap.size (fun _ => True) v0_ r1 ∧ Below w.heap.size w w' := by
 have hu43 := Try.underlying43; have hu25 := Try.underlying25; have HR0_0 := Aside0.mk hr0_0; have HC0_0 := Aside0.mk hc0_0; clear hr0_0 hc0_0
 have HB := Aside0.mk (Below.refl w.heap.size w)
 have H : ((laws_toPacketS.f k l0_0).bind fun t241 => (some (t241, a0_1))) = some (r1, r2) := h
 clear h
 replace H := Option.bind_eq_some_iff.mp H
 obtain ⟨t241, A20, H⟩ := H
 (try dsimp only at H)
 have A2 := Aside0.mk A20; clear A20
 simp only [Option.some.injEq, Prod.mk.injEq] at H
 obtain ⟨rfl, rfl⟩ := H
 go_enter Try.func19, Try.ntmps19
 go_wp2_with (first | ((with_reducible refine gate_dst (N := 1) rfl ?_); refine box_ (N := 1) (cs := #[.slice A0_0 l0_0.length c0_0, .int .i64 a0_1]) (t := 43) (fun gb238 hg w3 hbox hb => ?_); have BK238 := Aside0.mk (hbox); have GW238 := ge_ hg HB; have GE238 := ge_ hg HB; replace HB := (bs_ HB hb); clear hb hbox hg) | ((with_reducible refine gate_dst (N := 2) rfl ?_); refine box_ (N := 2) (cs := #[.slice none 0 0, .int .i64 0]) (t := 25) (fun gb239 hg w4 hbox hb => ?_); have BK239 := Aside0.mk (hbox); have GW239 := ge_ hg HB; have GE239 := ge_ hg HB; replace HB := (bs_ HB hb); have NB238_239 := nl_ hg BK238; have NB239_238 := ng_ hg BK238; replace BK238 := (bbA_ BK238 hb); clear hb hbox hg) | ((with_reducible refine gate_dst (N := 3) rfl ?_); refine box_ (N := 3) (cs := #[.slice none 0 0, .int .i64 0]) (t := 25) (fun gb240 hg w5 hbox hb => ?_); have BK240 := Aside0.mk (hbox); have GW240 := ge_ hg HB; have GE240 := ge_ hg HB; replace HB := (bs_ HB hb); have NB238_240 := nl_ hg BK238; have NB240_238 := ng_ hg BK238; replace BK238 := (bbA_ BK238 hb); have NB239_240 := nl_ hg BK239; have NB240_239 := ng_ hg BK239; replace BK239 := (bbA_ BK239 hb); clear hb hbox hg; have hnb6 := NB238_239.out; have hnc6 := NB239_238.out; have hnb7 := NB238_240.out; have hnc7 := NB240_238.out; have Z8 := zz2 BK238) | ((with_reducible refine gate_callee (f := 54) rfl ?_); refine goesL_ (some 6) rfl rfl Try.func54 (by kernel_rfl) rfl #[.slice A0_0 l0_0.length c0_0] rfl ar_ ?_; (with_reducible refine (laws_toPacketS.calls k _ _ l0_0 t241 _ ?side1 ?side2 A2.out).mono ?_); (case side1 => exact kC_ (Kd.C_below HR0_0.out HB.out)); (case side2 => exact HC0_0.out); rintro e w9 ⟨v242, rfl, ho0, hb⟩; refine ⟨_, rfl, ?_⟩; have HO243 := Aside0.mk (Kd.S_lower ho0 (below_size (hbA_ HB.out))); replace BK238 := (bbA_ BK238 hb); replace BK239 := (bbA_ BK239 hb); replace BK240 := (bbA_ BK240 hb); replace HB := (bs_ HB hb); (try clear hb); (try clear hb2); (try clear hk); (try clear hi); (try clear ho0); obtain ⟨Ao10, co10, eo10⟩ := Kd.S_slice HO243.out; subst eo10; have hnb11 := NB240_239.out; have hnc11 := NB239_240.out; have Z12 := zz2 BK240; have Z13 := zz2 BK238; have Z14 := zz2 BK239))
 refine bodyPost_ret (results_cell_row rfl _ _ gb239 25 #[.slice Ao10 t241.length co10, .int .i64 a0_1] (0, 0) _ rfl (by refine kb_ ?_; refine pz2 (cs := #[.slice none 0 0, .int .i64 0]) ?_; exact kf_ BK239.out) Try.underlying25 rfl (by kernel_rfl)) rfl ?_
 exact ⟨_, by first | rfl | (simp [errW_none, errW_some] <;> rfl) | (simp [*, errW_none, errW_some] <;> rfl), by refine kS_ ?_; exact Kd.S_mono (Kd.S_far (p := ⟨gb239, 1, none⟩) (Kd.S_far (p := ⟨gb239, 0, none⟩) (Kd.S_far (p := ⟨gb240, 1, none⟩) (Kd.S_far (p := ⟨gb240, 0, none⟩) (Kd.S_types (Kd.S_types HO243.out BK240.out (by decide)) BK239.out (by decide)) (fun _ hk => hk.1.2) (.slice Ao10 t241.length co10)) (fun _ hk => hk.1.2) (.int .i64 a0_1)) (fun _ hk => hk.2) (.slice Ao10 t241.length co10)) (fun _ hk => hk.2) (.int .i64 a0_1)) (fun _ hk => trivial), hbA_ HB.out⟩
def laws_eqByteS.l0 : Nat → List Int → List Int → Int → Option (Bool)
 | 0, _, _, _ => none
 | k + 1, x0, x1, x5 => if x5 < (x0.length : Int) then (if 0 ≤ x5 then (if x5 < (x1.length : Int) then (if (rd x0 x5) = (rd x1 x5) then (laws_eqByteS.l0 k x0 x1 (wrap64 (x5 + 1))) else (some false)) else (none)) else (none)) else (some true)
def laws_eqByteS.f (k : Nat) (l0 : List Int) (l1 : List Int) : Option (Bool) := if (l0.length : Int) = (l1.length : Int) then (laws_eqByteS.l0 k l0 l1 0) else (some false)
theorem laws_eqByteS.mono_l : ∀ k, (∀ y0 y1 y2, LeO (laws_eqByteS.l0 k y0 y1 y2) (laws_eqByteS.l0 (k + 1) y0 y1 y2))
 | 0 => fun _ _ _ r h => by simp [laws_eqByteS.l0] at h
 | k + 1 => by
  have ih0 := laws_eqByteS.mono_l k
  ·intro y0 y1 y2
   unfold laws_eqByteS.l0
   repeat' first | (with_reducible first | apply ih0 | exact LeO.refl _ | exact LeO.none _ | refine LeO.ite ?_ ?_ | refine LeO.bind ?_ fun _ => ?_) | apply ih0 | exact LeO.none _ | refine LeO.ite ?_ ?_ | refine LeO.bind ?_ fun _ => ?_
theorem laws_eqByteS.mono : ∀ a0 a1 k, LeO (laws_eqByteS.f k a0 a1) (laws_eqByteS.f (k + 1) a0 a1) := by
 intro a0 a1 k
 have ih0 := laws_eqByteS.mono_l k
 unfold laws_eqByteS.f
 repeat' first | (with_reducible first | apply ih0 | exact LeO.refl _ | exact LeO.none _ | refine LeO.ite ?_ ?_ | refine LeO.bind ?_ fun _ => ?_) | apply ih0 | exact LeO.none _ | refine LeO.ite ?_ ?_ | refine LeO.bind ?_ fun _ => ?_
set_option maxHeartbeats 8000000 in
set_option maxRecDepth 100000 in
theorem laws_eqByteS.calls (k : Nat) (A0 : Option Addr) (c0 : Nat) (l0 : List Int) (A1 : Option Addr) (c1 : Nat) (l1 : List Int) (r : Bool) (w : World) (hr0 : Kd.C (Kd.int .u8) w A0 l0.length l0) (hc0 : l0.length ≤ c0) (hr1 : Kd.C (Kd.int .u8) w A1 l1.length l1) (hc1 : l1.length ≤ c1) (h : laws_eqByteS.f k l0 l1 = some r) :
  Calls Try.prog 29 #[.slice A0 l0.length c0, .slice A1 l1.length c1] w fun e w' => e = .returned (.bool r) ∧ Drawn0 w w' := by
 have HR0 := Aside0.mk hr0; have HC0 := Aside0.mk hc0; clear hr0 hc0; have HR1 := Aside0.mk hr1; have HC1 := Aside0.mk hc1; clear hr1 hc1
 have H : (if (l0.length : Int) = (l1.length : Int) then (laws_eqByteS.l0 k l0 l1 0) else (some false)) = some r := h
 clear h
 by_cases c3 : (l0.length : Int) = (l1.length : Int)
 ·rw [if_pos c3] at H
  have c3b0 : ((l0.length : Int) == (l1.length : Int)) = true := beq_iff_eq.mpr c3
  have c3b1 : ((l0.length : Int) != (l1.length : Int)) = false := bne_eq_false_iff_eq.mpr c3
  have c3b2 : (l0.length == l1.length) = true := by first | simpa using c3 | (simp at c3 ⊢; omega)
  clear c3
  have H' := Aside0.mk H
  clear H
  go_enter Try.func29, Try.ntmps29
  go_wp2
  repeat (go_quiet (fail); try go_wp2)
  go_loopg [5] k (fun kq v5 w' => ∃ (x5_1 : Int), v5 = .int .i64 x5_1 ∧ Aside0 (laws_eqByteS.l0 kq l0 l1 x5_1 = some r) ∧ Aside0 (kq ≤ k) ∧ Drawn0 w w')
  case atStart => exact ⟨(0), (by first | rfl | (simp; done) | (simp [*]; done)), H', ⟨Nat.le_refl _⟩, by repeat (first | exact Drawn0.refl _ | apply Drawn0.step)⟩
  case round =>
   clear H'; (try clear c1); (try clear c2); (try clear p2); (try clear c3); (try clear c3b0); (try clear c3b1); (try clear c3b2)
   obtain ⟨x5_1, rfl, HA, HK1, ⟨m1, rfl⟩⟩ := hrel
   cases gk with
   | zero => exact absurd HA.out (by simp [laws_eqByteS.l0])
   | succ k1 =>
    have H := HA.out; clear HA
    simp only [laws_eqByteS.l0] at H
    by_cases c4 : x5_1 < (l0.length : Int)
    ·rw [if_pos c4] at H
     have c4b0 : decide (x5_1 < (l0.length : Int)) = true := decide_eq_true c4
     clear c4
     by_cases c5 : 0 ≤ x5_1
     ·rw [if_pos c5] at H
      have c5b0 : decide (0 ≤ x5_1) = true := decide_eq_true c5
      clear c5
      by_cases c6 : x5_1 < (l1.length : Int)
      ·rw [if_pos c6] at H
       have c6b0 : decide (x5_1 < (l1.length : Int)) = true := decide_eq_true c6
       clear c6
       by_cases c7 : (rd l0 x5_1) = (rd l1 x5_1)
       ·rw [if_pos c7] at H
        have c7b0 : ((rd l0 x5_1) == (rd l1 x5_1)) = true := beq_iff_eq.mpr c7
        have c7b1 : ((rd l0 x5_1) != (rd l1 x5_1)) = false := bne_eq_false_iff_eq.mpr c7
        clear c7
        have H' := Aside0.mk H
        clear H
        have p244 : 0 ≤ (x5_1 : Int) := of_decide_eq_true (by first | (with_reducible assumption) | assumption)
        have q244 : x5_1 < (l0.length : Int) := of_decide_eq_true (by first | (with_reducible assumption) | assumption)
        obtain ⟨ad244, e244, hx244_0⟩ := Kd.at_int HR0.out x5_1 p244 q244
        cases e244
        replace p244 := eq_true p244
        replace q244 := eq_true q244
        have p245 : 0 ≤ (x5_1 : Int) := of_decide_eq_true (by first | (with_reducible assumption) | assumption)
        have q245 : x5_1 < (l1.length : Int) := of_decide_eq_true (by first | (with_reducible assumption) | assumption)
        obtain ⟨ad245, e245, hx245_0⟩ := Kd.at_int HR1.out x5_1 p245 q245
        cases e245
        replace p245 := eq_true p245
        replace q245 := eq_true q245
        go_wp2
        repeat (go_quiet (fail); try go_wp2)
        go_roundg k1
        case measure => have := HK1.out; omega
        case rel => exact ⟨(wrap64 (x5_1 + 1)), (by first | rfl | (simp; done) | (simp [*]; done)), H', ⟨by have := HK1.out; omega⟩, by repeat (first | exact Drawn0.refl _ | apply Drawn0.step)⟩
       ·rw [if_neg c7] at H
        have c7b0 : ((rd l0 x5_1) == (rd l1 x5_1)) = false := beq_eq_false_iff_ne.mpr c7
        have c7b1 : ((rd l0 x5_1) != (rd l1 x5_1)) = true := bne_iff_ne.mpr c7
        obtain rfl := Option.some.inj H
        have p244 : 0 ≤ (x5_1 : Int) := of_decide_eq_true (by first | (with_reducible assumption) | assumption)
        have q244 : x5_1 < (l0.length : Int) := of_decide_eq_true (by first | (with_reducible assumption) | assumption)
        obtain ⟨ad244, e244, hx244_0⟩ := Kd.at_int HR0.out x5_1 p244 q244
        cases e244
        replace p244 := eq_true p244
        replace q244 := eq_true q244
        have p245 : 0 ≤ (x5_1 : Int) := of_decide_eq_true (by first | (with_reducible assumption) | assumption)
        have q245 : x5_1 < (l1.length : Int) := of_decide_eq_true (by first | (with_reducible assumption) | assumption)
        obtain ⟨ad245, e245, hx245_0⟩ := Kd.at_int HR1.out x5_1 p245 q245
        cases e245
        replace p245 := eq_true p245
        replace q245 := eq_true q245
        go_wp2
        repeat (go_quiet (fail); try go_wp2)
        go_ret
        exact ⟨by first | rfl | (simp; done) | (simp [*]; done), by repeat (first | exact Drawn0.refl _ | apply Drawn0.step)⟩
      ·rw [if_neg c6] at H
       exact absurd H (by simp)
     ·rw [if_neg c5] at H
      exact absurd H (by simp)
    ·rw [if_neg c4] at H
     have c4b0 : decide (x5_1 < (l0.length : Int)) = false := decide_eq_false c4
     clear c4
     obtain rfl := Option.some.inj H
     go_wp2
     repeat (go_quiet (fail); try go_wp2)
     go_ret
     exact ⟨by first | rfl | (simp; done) | (simp [*]; done), by repeat (first | exact Drawn0.refl _ | apply Drawn0.step)⟩
 ·rw [if_neg c3] at H
  have c3b0 : ((l0.length : Int) == (l1.length : Int)) = false := beq_eq_false_iff_ne.mpr c3
  have c3b1 : ((l0.length : Int) != (l1.length : Int)) = true := bne_iff_ne.mpr c3
  have c3b2 : (l0.length == l1.length) = false := by first | simpa using c3 | (simp at c3 ⊢; omega)
  obtain rfl := Option.some.inj H
  go_enter Try.func29, Try.ntmps29
  go_wp2
  repeat (go_quiet (fail); try go_wp2)
  go_ret
  exact ⟨by first | rfl | (simp; done) | (simp [*]; done), by repeat (first | exact Drawn0.refl _ | apply Drawn0.step)⟩
def laws_eqPacket.f (k : Nat) (a0_0 : Int) (a0_1 : Int) (a0_2 : Int) (a0_3 : Int) (a0_4 : Int) (a0_5 : Int) (a0_6 : Bool) (a0_7 : Bool) (l0_8 : List Int) (a1_0 : Int) (a1_1 : Int) (a1_2 : Int) (a1_3 : Int) (a1_4 : Int) (a1_5 : Int) (a1_6 : Bool) (a1_7 : Bool) (l1_8 : List Int) : Option (Bool) := if a0_0 = a1_0 then (if a0_1 = a1_1 then (if a0_2 = a1_2 then (if a0_3 = a1_3 then (if a0_4 = a1_4 then (if a0_5 = a1_5 then (if (a0_6 != a1_6) = true then (some false) else (if (a0_7 != a1_7) = true then (some false) else ((laws_eqByteS.f k l0_8 l1_8).bind fun t248 => (if t248 = true then (some true) else (some false))))) else (some false)) else (some false)) else (some false)) else (some false)) else (some false)) else (some false)
theorem laws_eqPacket.mono : ∀ a0 a1 a2 a3 a4 a5 a6 a7 a8 a9 a10 a11 a12 a13 a14 a15 a16 a17 k, LeO (laws_eqPacket.f k a0 a1 a2 a3 a4 a5 a6 a7 a8 a9 a10 a11 a12 a13 a14 a15 a16 a17) (laws_eqPacket.f (k + 1) a0 a1 a2 a3 a4 a5 a6 a7 a8 a9 a10 a11 a12 a13 a14 a15 a16 a17) := by
 intro a0 a1 a2 a3 a4 a5 a6 a7 a8 a9 a10 a11 a12 a13 a14 a15 a16 a17 k
 unfold laws_eqPacket.f
 repeat' first | (with_reducible first | apply laws_eqByteS.mono | exact LeO.refl _ | exact LeO.none _ | refine LeO.ite ?_ ?_ | refine LeO.bind ?_ fun _ => ?_) | apply laws_eqByteS.mono | exact LeO.none _ | refine LeO.ite ?_ ?_ | refine LeO.bind ?_ fun _ => ?_
set_option maxHeartbeats 8000000 in
set_option maxRecDepth 100000 in
theorem laws_eqPacket.calls (k : Nat) (a0_0 : Int) (a0_1 : Int) (a0_2 : Int) (a0_3 : Int) (a0_4 : Int) (a0_5 : Int) (a0_6 : Bool) (a0_7 : Bool) (A0_8 : Option Addr) (c0_8 : Nat) (l0_8 : List Int) (a1_0 : Int) (a1_1 : Int) (a1_2 : Int) (a1_3 : Int) (a1_4 : Int) (a1_5 : Int) (a1_6 : Bool) (a1_7 : Bool) (A1_8 : Option Addr) (c1_8 : Nat) (l1_8 : List Int) (r : Bool) (w : World) (hr0_8 : Kd.C (Kd.int .u8) w A0_8 l0_8.length l0_8) (hc0_8 : l0_8.length ≤ c0_8) (hr1_8 : Kd.C (Kd.int .u8) w A1_8 l1_8.length l1_8) (hc1_8 : l1_8.length ≤ c1_8) (h : laws_eqPacket.f k a0_0 a0_1 a0_2 a0_3 a0_4 a0_5 a0_6 a0_7 l0_8 a1_0 a1_1 a1_2 a1_3 a1_4 a1_5 a1_6 a1_7 l1_8 = some r) :
  Calls Try.prog 20 #[.agg #[.int .i64 a0_0, .int .i64 a0_1, .int .i64 a0_2, .int .i64 a0_3, .int .i64 a0_4, .int .i64 a0_5, .bool a0_6, .bool a0_7, .slice A0_8 l0_8.length c0_8], .agg #[.int .i64 a1_0, .int .i64 a1_1, .int .i64 a1_2, .int .i64 a1_3, .int .i64 a1_4, .int .i64 a1_5, .bool a1_6, .bool a1_7, .slice A1_8 l1_8.length c1_8]] w fun e w' => e = .returned (.bool r) ∧ Below w.heap.size w w' := by
 have hu28 := Try.underlying28; have HR0_8 := Aside0.mk hr0_8; have HC0_8 := Aside0.mk hc0_8; clear hr0_8 hc0_8; have HR1_8 := Aside0.mk hr1_8; have HC1_8 := Aside0.mk hc1_8; clear hr1_8 hc1_8
 have HB := Aside0.mk (Below.refl w.heap.size w)
 have H : (if a0_0 = a1_0 then (if a0_1 = a1_1 then (if a0_2 = a1_2 then (if a0_3 = a1_3 then (if a0_4 = a1_4 then (if a0_5 = a1_5 then (if (a0_6 != a1_6) = true then (some false) else (if (a0_7 != a1_7) = true then (some false) else ((laws_eqByteS.f k l0_8 l1_8).bind fun t248 => (if t248 = true then (some true) else (some false))))) else (some false)) else (some false)) else (some false)) else (some false)) else (some false)) else (some false)) = some r := h
 clear h
 by_cases c3 : a0_0 = a1_0
 ·rw [if_pos c3] at H
  have c3b0 : (a0_0 == a1_0) = true := beq_iff_eq.mpr c3
  have c3b1 : (a0_0 != a1_0) = false := bne_eq_false_iff_eq.mpr c3
  clear c3
  by_cases c4 : a0_1 = a1_1
  ·rw [if_pos c4] at H
   have c4b0 : (a0_1 == a1_1) = true := beq_iff_eq.mpr c4
   have c4b1 : (a0_1 != a1_1) = false := bne_eq_false_iff_eq.mpr c4
   clear c4
   by_cases c5 : a0_2 = a1_2
   ·rw [if_pos c5] at H
    have c5b0 : (a0_2 == a1_2) = true := beq_iff_eq.mpr c5
    have c5b1 : (a0_2 != a1_2) = false := bne_eq_false_iff_eq.mpr c5
    clear c5
    by_cases c6 : a0_3 = a1_3
    ·rw [if_pos c6] at H
     have c6b0 : (a0_3 == a1_3) = true := beq_iff_eq.mpr c6
     have c6b1 : (a0_3 != a1_3) = false := bne_eq_false_iff_eq.mpr c6
     clear c6
     by_cases c7 : a0_4 = a1_4
     ·rw [if_pos c7] at H
      have c7b0 : (a0_4 == a1_4) = true := beq_iff_eq.mpr c7
      have c7b1 : (a0_4 != a1_4) = false := bne_eq_false_iff_eq.mpr c7
      clear c7
      by_cases c8 : a0_5 = a1_5
      ·rw [if_pos c8] at H
       have c8b0 : (a0_5 == a1_5) = true := beq_iff_eq.mpr c8
       have c8b1 : (a0_5 != a1_5) = false := bne_eq_false_iff_eq.mpr c8
       clear c8
       by_cases c9 : (a0_6 != a1_6) = true
       ·rw [if_pos c9] at H
        have c9b0 : (a0_6 != a1_6) = true := c9
        (try (have c9b1 : decide (a0_6 = a1_6) = false := by simpa using c9))
        (try (have c9b2 : (a0_6 == a1_6) = false := by simpa using c9))
        (try (have c9b3 : ¬ (a0_6 = a1_6) := by simpa using c9))
        clear c9
        obtain rfl := Option.some.inj H
        go_enter Try.func20, Try.ntmps20
        go_wp2_with (first | ((with_reducible refine gate_dst (N := 2) rfl ?_); refine box_ (N := 2) (cs := #[.int .i64 a0_0, .int .i64 a0_1, .int .i64 a0_2, .int .i64 a0_3, .int .i64 a0_4, .int .i64 a0_5, .bool a0_6, .bool a0_7, .slice A0_8 l0_8.length c0_8]) (t := 28) (fun gb246 hg w10 hbox hb => ?_); have BK246 := Aside0.mk (hbox); have GW246 := ge_ hg HB; have GE246 := ge_ hg HB; replace HB := (bs_ HB hb); clear hb hbox hg) | ((with_reducible refine gate_dst (N := 3) rfl ?_); refine box_ (N := 3) (cs := #[.int .i64 a1_0, .int .i64 a1_1, .int .i64 a1_2, .int .i64 a1_3, .int .i64 a1_4, .int .i64 a1_5, .bool a1_6, .bool a1_7, .slice A1_8 l1_8.length c1_8]) (t := 28) (fun gb247 hg w11 hbox hb => ?_); have BK247 := Aside0.mk (hbox); have GW247 := ge_ hg HB; have GE247 := ge_ hg HB; replace HB := (bs_ HB hb); have NB246_247 := nl_ hg BK246; have NB247_246 := ng_ hg BK246; replace BK246 := (bbA_ BK246 hb); clear hb hbox hg; have hnb12 := NB246_247.out; have hnc12 := NB247_246.out; have Z13 := zz9 BK246; have Z14 := zz9 BK247))
        go_ret
        exact ⟨by first | rfl | (simp [errW_none, errW_some] <;> rfl) | (simp [*, errW_none, errW_some] <;> rfl), hbA_ HB.out⟩
       ·rw [if_neg c9] at H
        have c9b0 : (a0_6 != a1_6) = false := by simpa using c9
        (try (have c9b1 : decide (a0_6 = a1_6) = true := by simpa using c9))
        (try (have c9b2 : (a0_6 == a1_6) = true := by simpa using c9))
        clear c9
        by_cases c15 : (a0_7 != a1_7) = true
        ·rw [if_pos c15] at H
         have c15b0 : (a0_7 != a1_7) = true := c15
         (try (have c15b1 : decide (a0_7 = a1_7) = false := by simpa using c15))
         (try (have c15b2 : (a0_7 == a1_7) = false := by simpa using c15))
         (try (have c15b3 : ¬ (a0_7 = a1_7) := by simpa using c15))
         clear c15
         obtain rfl := Option.some.inj H
         go_enter Try.func20, Try.ntmps20
         go_wp2_with (first | ((with_reducible refine gate_dst (N := 2) rfl ?_); refine box_ (N := 2) (cs := #[.int .i64 a0_0, .int .i64 a0_1, .int .i64 a0_2, .int .i64 a0_3, .int .i64 a0_4, .int .i64 a0_5, .bool a0_6, .bool a0_7, .slice A0_8 l0_8.length c0_8]) (t := 28) (fun gb246 hg w16 hbox hb => ?_); have BK246 := Aside0.mk (hbox); have GW246 := ge_ hg HB; have GE246 := ge_ hg HB; replace HB := (bs_ HB hb); clear hb hbox hg) | ((with_reducible refine gate_dst (N := 3) rfl ?_); refine box_ (N := 3) (cs := #[.int .i64 a1_0, .int .i64 a1_1, .int .i64 a1_2, .int .i64 a1_3, .int .i64 a1_4, .int .i64 a1_5, .bool a1_6, .bool a1_7, .slice A1_8 l1_8.length c1_8]) (t := 28) (fun gb247 hg w17 hbox hb => ?_); have BK247 := Aside0.mk (hbox); have GW247 := ge_ hg HB; have GE247 := ge_ hg HB; replace HB := (bs_ HB hb); have NB246_247 := nl_ hg BK246; have NB247_246 := ng_ hg BK246; replace BK246 := (bbA_ BK246 hb); clear hb hbox hg; have hnb18 := NB246_247.out; have hnc18 := NB247_246.out; have Z19 := zz9 BK246; have Z20 := zz9 BK247))
         go_ret
         exact ⟨by first | rfl | (simp [errW_none, errW_some] <;> rfl) | (simp [*, errW_none, errW_some] <;> rfl), hbA_ HB.out⟩
        ·rw [if_neg c15] at H
         have c15b0 : (a0_7 != a1_7) = false := by simpa using c15
         (try (have c15b1 : decide (a0_7 = a1_7) = true := by simpa using c15))
         (try (have c15b2 : (a0_7 == a1_7) = true := by simpa using c15))
         clear c15
         replace H := Option.bind_eq_some_iff.mp H
         obtain ⟨t248, A210, H⟩ := H
         (try dsimp only at H)
         have A21 := Aside0.mk A210; clear A210
         by_cases c22 : t248 = true
         ·subst c22
          rw [if_pos rfl] at H
          obtain rfl := Option.some.inj H
          go_enter Try.func20, Try.ntmps20
          go_wp2_with (first | ((with_reducible refine gate_dst (N := 2) rfl ?_); refine box_ (N := 2) (cs := #[.int .i64 a0_0, .int .i64 a0_1, .int .i64 a0_2, .int .i64 a0_3, .int .i64 a0_4, .int .i64 a0_5, .bool a0_6, .bool a0_7, .slice A0_8 l0_8.length c0_8]) (t := 28) (fun gb246 hg w23 hbox hb => ?_); have BK246 := Aside0.mk (hbox); have GW246 := ge_ hg HB; have GE246 := ge_ hg HB; replace HB := (bs_ HB hb); clear hb hbox hg) | ((with_reducible refine gate_dst (N := 3) rfl ?_); refine box_ (N := 3) (cs := #[.int .i64 a1_0, .int .i64 a1_1, .int .i64 a1_2, .int .i64 a1_3, .int .i64 a1_4, .int .i64 a1_5, .bool a1_6, .bool a1_7, .slice A1_8 l1_8.length c1_8]) (t := 28) (fun gb247 hg w24 hbox hb => ?_); have BK247 := Aside0.mk (hbox); have GW247 := ge_ hg HB; have GE247 := ge_ hg HB; replace HB := (bs_ HB hb); have NB246_247 := nl_ hg BK246; have NB247_246 := ng_ hg BK246; replace BK246 := (bbA_ BK246 hb); clear hb hbox hg; have hnb25 := NB246_247.out; have hnc25 := NB247_246.out; have Z26 := zz9 BK246; have Z27 := zz9 BK247) | ((with_reducible refine gate_callee (f := 29) rfl ?_); refine goesL_ (some 49) rfl rfl Try.func29 (by kernel_rfl) rfl #[.slice A0_8 l0_8.length c0_8, .slice A1_8 l1_8.length c1_8] rfl ar_ ?_; (with_reducible refine (laws_eqByteS.calls k _ _ l0_8 _ _ l1_8 true _ ?side1 ?side2 ?side3 ?side4 A21.out).mono ?_); (case side1 => exact kC_ (Kd.C_below HR0_8.out HB.out)); (case side2 => exact HC0_8.out); (case side3 => exact kC_ (Kd.C_below HR1_8.out HB.out)); (case side4 => exact HC1_8.out); rintro e w' ⟨rfl, ⟨nd, rfl⟩⟩; refine ⟨_, rfl, ?_⟩))
          go_ret
          exact ⟨by first | rfl | (simp [errW_none, errW_some] <;> rfl) | (simp [*, errW_none, errW_some] <;> rfl), hbA_ HB.out⟩
         ·replace c22 := Bool.eq_false_iff.mpr c22
          subst c22
          rw [if_neg (show ¬ (false = true) by decide)] at H
          obtain rfl := Option.some.inj H
          go_enter Try.func20, Try.ntmps20
          go_wp2_with (first | ((with_reducible refine gate_dst (N := 2) rfl ?_); refine box_ (N := 2) (cs := #[.int .i64 a0_0, .int .i64 a0_1, .int .i64 a0_2, .int .i64 a0_3, .int .i64 a0_4, .int .i64 a0_5, .bool a0_6, .bool a0_7, .slice A0_8 l0_8.length c0_8]) (t := 28) (fun gb246 hg w28 hbox hb => ?_); have BK246 := Aside0.mk (hbox); have GW246 := ge_ hg HB; have GE246 := ge_ hg HB; replace HB := (bs_ HB hb); clear hb hbox hg) | ((with_reducible refine gate_dst (N := 3) rfl ?_); refine box_ (N := 3) (cs := #[.int .i64 a1_0, .int .i64 a1_1, .int .i64 a1_2, .int .i64 a1_3, .int .i64 a1_4, .int .i64 a1_5, .bool a1_6, .bool a1_7, .slice A1_8 l1_8.length c1_8]) (t := 28) (fun gb247 hg w29 hbox hb => ?_); have BK247 := Aside0.mk (hbox); have GW247 := ge_ hg HB; have GE247 := ge_ hg HB; replace HB := (bs_ HB hb); have NB246_247 := nl_ hg BK246; have NB247_246 := ng_ hg BK246; replace BK246 := (bbA_ BK246 hb); clear hb hbox hg; have hnb30 := NB246_247.out; have hnc30 := NB247_246.out; have Z31 := zz9 BK246; have Z32 := zz9 BK247) | ((with_reducible refine gate_callee (f := 29) rfl ?_); refine goesL_ (some 49) rfl rfl Try.func29 (by kernel_rfl) rfl #[.slice A0_8 l0_8.length c0_8, .slice A1_8 l1_8.length c1_8] rfl ar_ ?_; (with_reducible refine (laws_eqByteS.calls k _ _ l0_8 _ _ l1_8 false _ ?side1 ?side2 ?side3 ?side4 A21.out).mono ?_); (case side1 => exact kC_ (Kd.C_below HR0_8.out HB.out)); (case side2 => exact HC0_8.out); (case side3 => exact kC_ (Kd.C_below HR1_8.out HB.out)); (case side4 => exact HC1_8.out); rintro e w' ⟨rfl, ⟨nd, rfl⟩⟩; refine ⟨_, rfl, ?_⟩))
          go_ret
          exact ⟨by first | rfl | (simp [errW_none, errW_some] <;> rfl) | (simp [*, errW_none, errW_some] <;> rfl), hbA_ HB.out⟩
      ·rw [if_neg c8] at H
       have c8b0 : (a0_5 == a1_5) = false := beq_eq_false_iff_ne.mpr c8
       have c8b1 : (a0_5 != a1_5) = true := bne_iff_ne.mpr c8
       obtain rfl := Option.some.inj H
       go_enter Try.func20, Try.ntmps20
       go_wp2_with (first | ((with_reducible refine gate_dst (N := 2) rfl ?_); refine box_ (N := 2) (cs := #[.int .i64 a0_0, .int .i64 a0_1, .int .i64 a0_2, .int .i64 a0_3, .int .i64 a0_4, .int .i64 a0_5, .bool a0_6, .bool a0_7, .slice A0_8 l0_8.length c0_8]) (t := 28) (fun gb246 hg w33 hbox hb => ?_); have BK246 := Aside0.mk (hbox); have GW246 := ge_ hg HB; have GE246 := ge_ hg HB; replace HB := (bs_ HB hb); clear hb hbox hg) | ((with_reducible refine gate_dst (N := 3) rfl ?_); refine box_ (N := 3) (cs := #[.int .i64 a1_0, .int .i64 a1_1, .int .i64 a1_2, .int .i64 a1_3, .int .i64 a1_4, .int .i64 a1_5, .bool a1_6, .bool a1_7, .slice A1_8 l1_8.length c1_8]) (t := 28) (fun gb247 hg w34 hbox hb => ?_); have BK247 := Aside0.mk (hbox); have GW247 := ge_ hg HB; have GE247 := ge_ hg HB; replace HB := (bs_ HB hb); have NB246_247 := nl_ hg BK246; have NB247_246 := ng_ hg BK246; replace BK246 := (bbA_ BK246 hb); clear hb hbox hg; have hnb35 := NB246_247.out; have hnc35 := NB247_246.out; have Z36 := zz9 BK246; have Z37 := zz9 BK247))
       go_ret
       exact ⟨by first | rfl | (simp [errW_none, errW_some] <;> rfl) | (simp [*, errW_none, errW_some] <;> rfl), hbA_ HB.out⟩
     ·rw [if_neg c7] at H
      have c7b0 : (a0_4 == a1_4) = false := beq_eq_false_iff_ne.mpr c7
      have c7b1 : (a0_4 != a1_4) = true := bne_iff_ne.mpr c7
      obtain rfl := Option.some.inj H
      go_enter Try.func20, Try.ntmps20
      go_wp2_with (first | ((with_reducible refine gate_dst (N := 2) rfl ?_); refine box_ (N := 2) (cs := #[.int .i64 a0_0, .int .i64 a0_1, .int .i64 a0_2, .int .i64 a0_3, .int .i64 a0_4, .int .i64 a0_5, .bool a0_6, .bool a0_7, .slice A0_8 l0_8.length c0_8]) (t := 28) (fun gb246 hg w38 hbox hb => ?_); have BK246 := Aside0.mk (hbox); have GW246 := ge_ hg HB; have GE246 := ge_ hg HB; replace HB := (bs_ HB hb); clear hb hbox hg) | ((with_reducible refine gate_dst (N := 3) rfl ?_); refine box_ (N := 3) (cs := #[.int .i64 a1_0, .int .i64 a1_1, .int .i64 a1_2, .int .i64 a1_3, .int .i64 a1_4, .int .i64 a1_5, .bool a1_6, .bool a1_7, .slice A1_8 l1_8.length c1_8]) (t := 28) (fun gb247 hg w39 hbox hb => ?_); have BK247 := Aside0.mk (hbox); have GW247 := ge_ hg HB; have GE247 := ge_ hg HB; replace HB := (bs_ HB hb); have NB246_247 := nl_ hg BK246; have NB247_246 := ng_ hg BK246; replace BK246 := (bbA_ BK246 hb); clear hb hbox hg; have hnb40 := NB246_247.out; have hnc40 := NB247_246.out; have Z41 := zz9 BK246; have Z42 := zz9 BK247))
      go_ret
      exact ⟨by first | rfl | (simp [errW_none, errW_some] <;> rfl) | (simp [*, errW_none, errW_some] <;> rfl), hbA_ HB.out⟩
    ·rw [if_neg c6] at H
     have c6b0 : (a0_3 == a1_3) = false := beq_eq_false_iff_ne.mpr c6
     have c6b1 : (a0_3 != a1_3) = true := bne_iff_ne.mpr c6
     obtain rfl := Option.some.inj H
     go_enter Try.func20, Try.ntmps20
     go_wp2_with (first | ((with_reducible refine gate_dst (N := 2) rfl ?_); refine box_ (N := 2) (cs := #[.int .i64 a0_0, .int .i64 a0_1, .int .i64 a0_2, .int .i64 a0_3, .int .i64 a0_4, .int .i64 a0_5, .bool a0_6, .bool a0_7, .slice A0_8 l0_8.length c0_8]) (t := 28) (fun gb246 hg w43 hbox hb => ?_); have BK246 := Aside0.mk (hbox); have GW246 := ge_ hg HB; have GE246 := ge_ hg HB; replace HB := (bs_ HB hb); clear hb hbox hg) | ((with_reducible refine gate_dst (N := 3) rfl ?_); refine box_ (N := 3) (cs := #[.int .i64 a1_0, .int .i64 a1_1, .int .i64 a1_2, .int .i64 a1_3, .int .i64 a1_4, .int .i64 a1_5, .bool a1_6, .bool a1_7, .slice A1_8 l1_8.length c1_8]) (t := 28) (fun gb247 hg w44 hbox hb => ?_); have BK247 := Aside0.mk (hbox); have GW247 := ge_ hg HB; have GE247 := ge_ hg HB; replace HB := (bs_ HB hb); have NB246_247 := nl_ hg BK246; have NB247_246 := ng_ hg BK246; replace BK246 := (bbA_ BK246 hb); clear hb hbox hg; have hnb45 := NB246_247.out; have hnc45 := NB247_246.out; have Z46 := zz9 BK246; have Z47 := zz9 BK247))
     go_ret
     exact ⟨by first | rfl | (simp [errW_none, errW_some] <;> rfl) | (simp [*, errW_none, errW_some] <;> rfl), hbA_ HB.out⟩
   ·rw [if_neg c5] at H
    have c5b0 : (a0_2 == a1_2) = false := beq_eq_false_iff_ne.mpr c5
    have c5b1 : (a0_2 != a1_2) = true := bne_iff_ne.mpr c5
    obtain rfl := Option.some.inj H
    go_enter Try.func20, Try.ntmps20
    go_wp2_with (first | ((with_reducible refine gate_dst (N := 2) rfl ?_); refine box_ (N := 2) (cs := #[.int .i64 a0_0, .int .i64 a0_1, .int .i64 a0_2, .int .i64 a0_3, .int .i64 a0_4, .int .i64 a0_5, .bool a0_6, .bool a0_7, .slice A0_8 l0_8.length c0_8]) (t := 28) (fun gb246 hg w48 hbox hb => ?_); have BK246 := Aside0.mk (hbox); have GW246 := ge_ hg HB; have GE246 := ge_ hg HB; replace HB := (bs_ HB hb); clear hb hbox hg) | ((with_reducible refine gate_dst (N := 3) rfl ?_); refine box_ (N := 3) (cs := #[.int .i64 a1_0, .int .i64 a1_1, .int .i64 a1_2, .int .i64 a1_3, .int .i64 a1_4, .int .i64 a1_5, .bool a1_6, .bool a1_7, .slice A1_8 l1_8.length c1_8]) (t := 28) (fun gb247 hg w49 hbox hb => ?_); have BK247 := Aside0.mk (hbox); have GW247 := ge_ hg HB; have GE247 := ge_ hg HB; replace HB := (bs_ HB hb); have NB246_247 := nl_ hg BK246; have NB247_246 := ng_ hg BK246; replace BK246 := (bbA_ BK246 hb); clear hb hbox hg; have hnb50 := NB246_247.out; have hnc50 := NB247_246.out; have Z51 := zz9 BK246; have Z52 := zz9 BK247))
    go_ret
    exact ⟨by first | rfl | (simp [errW_none, errW_some] <;> rfl) | (simp [*, errW_none, errW_some] <;> rfl), hbA_ HB.out⟩
  ·rw [if_neg c4] at H
   have c4b0 : (a0_1 == a1_1) = false := beq_eq_false_iff_ne.mpr c4
   have c4b1 : (a0_1 != a1_1) = true := bne_iff_ne.mpr c4
   obtain rfl := Option.some.inj H
   go_enter Try.func20, Try.ntmps20
   go_wp2_with (first | ((with_reducible refine gate_dst (N := 2) rfl ?_); refine box_ (N := 2) (cs := #[.int .i64 a0_0, .int .i64 a0_1, .int .i64 a0_2, .int .i64 a0_3, .int .i64 a0_4, .int .i64 a0_5, .bool a0_6, .bool a0_7, .slice A0_8 l0_8.length c0_8]) (t := 28) (fun gb246 hg w53 hbox hb => ?_); have BK246 := Aside0.mk (hbox); have GW246 := ge_ hg HB; have GE246 := ge_ hg HB; replace HB := (bs_ HB hb); clear hb hbox hg) | ((with_reducible refine gate_dst (N := 3) rfl ?_); refine box_ (N := 3) (cs := #[.int .i64 a1_0, .int .i64 a1_1, .int .i64 a1_2, .int .i64 a1_3, .int .i64 a1_4, .int .i64 a1_5, .bool a1_6, .bool a1_7, .slice A1_8 l1_8.length c1_8]) (t := 28) (fun gb247 hg w54 hbox hb => ?_); have BK247 := Aside0.mk (hbox); have GW247 := ge_ hg HB; have GE247 := ge_ hg HB; replace HB := (bs_ HB hb); have NB246_247 := nl_ hg BK246; have NB247_246 := ng_ hg BK246; replace BK246 := (bbA_ BK246 hb); clear hb hbox hg; have hnb55 := NB246_247.out; have hnc55 := NB247_246.out; have Z56 := zz9 BK246; have Z57 := zz9 BK247))
   go_ret
   exact ⟨by first | rfl | (simp [errW_none, errW_some] <;> rfl) | (simp [*, errW_none, errW_some] <;> rfl), hbA_ HB.out⟩
 ·rw [if_neg c3] at H
  have c3b0 : (a0_0 == a1_0) = false := beq_eq_false_iff_ne.mpr c3
  have c3b1 : (a0_0 != a1_0) = true := bne_iff_ne.mpr c3
  obtain rfl := Option.some.inj H
  go_enter Try.func20, Try.ntmps20
  go_wp2_with (first | ((with_reducible refine gate_dst (N := 2) rfl ?_); refine box_ (N := 2) (cs := #[.int .i64 a0_0, .int .i64 a0_1, .int .i64 a0_2, .int .i64 a0_3, .int .i64 a0_4, .int .i64 a0_5, .bool a0_6, .bool a0_7, .slice A0_8 l0_8.length c0_8]) (t := 28) (fun gb246 hg w58 hbox hb => ?_); have BK246 := Aside0.mk (hbox); have GW246 := ge_ hg HB; have GE246 := ge_ hg HB; replace HB := (bs_ HB hb); clear hb hbox hg) | ((with_reducible refine gate_dst (N := 3) rfl ?_); refine box_ (N := 3) (cs := #[.int .i64 a1_0, .int .i64 a1_1, .int .i64 a1_2, .int .i64 a1_3, .int .i64 a1_4, .int .i64 a1_5, .bool a1_6, .bool a1_7, .slice A1_8 l1_8.length c1_8]) (t := 28) (fun gb247 hg w59 hbox hb => ?_); have BK247 := Aside0.mk (hbox); have GW247 := ge_ hg HB; have GE247 := ge_ hg HB; replace HB := (bs_ HB hb); have NB246_247 := nl_ hg BK246; have NB247_246 := ng_ hg BK246; replace BK246 := (bbA_ BK246 hb); clear hb hbox hg; have hnb60 := NB246_247.out; have hnc60 := NB247_246.out; have Z61 := zz9 BK246; have Z62 := zz9 BK247))
  go_ret
  exact ⟨by first | rfl | (simp [errW_none, errW_some] <;> rfl) | (simp [*, errW_none, errW_some] <;> rfl), hbA_ HB.out⟩
end Go.Proofs.Ytpbeljcgcdilnaa.PFnExactPartWhole
