/- Printed by wip/xp/xprint.sh out of the translation, for this claim: what each function answers, as a plain function, and that the machine does just that. No condition. -/
import Derived.Test.YtpbeljcgcdilnaaPFnPartWholex0
import Derived.Test.YtpbeljcgcdilnaaPFnPartWholex3
namespace Go.Proofs.Ytpbeljcgcdilnaa.PFnPartWhole
open Go.RowKit Go.Proofs.YtpbeljcgcdilnaaW.PrintWords Go.Proofs.YtpbeljcgcdilnaaW.PrintLast Go.Proofs.YtpbeljcgcdilnaaW.PrintMore
attribute [local go_sem] max2_int min2_int max_two min_two max_three min_three max_four min_four   -- for this text's walks alone
set_option linter.unusedVariables false
set_option linter.unusedSimpArgs false
def impl_Packet_same.f (a0_0 : Int) (a0_1 : Int) (a0_2 : Int) (a0_3 : Int) (a0_4 : Int) (a0_5 : Int) (a0_6 : Bool) (a0_7 : Bool) (l0_8 : List Int) (a1_0 : Int) (a1_1 : Int) (a1_2 : Int) (a1_3 : Int) (a1_4 : Int) (a1_5 : Int) (a1_6 : Bool) (a1_7 : Bool) (l1_8 : List Int) : Option (Bool) := if a0_0 = a1_0 then (if a0_1 = a1_1 then (if a0_2 = a1_2 then (some (a0_4 == a1_4)) else (some false)) else (some false)) else (some false)
set_option maxHeartbeats 8000000 in
set_option maxRecDepth 100000 in
theorem impl_Packet_same.calls (a0_0 : Int) (a0_1 : Int) (a0_2 : Int) (a0_3 : Int) (a0_4 : Int) (a0_5 : Int) (a0_6 : Bool) (a0_7 : Bool) (A0_8 : Option Addr) (c0_8 : Nat) (l0_8 : List Int) (a1_0 : Int) (a1_1 : Int) (a1_2 : Int) (a1_3 : Int) (a1_4 : Int) (a1_5 : Int) (a1_6 : Bool) (a1_7 : Bool) (A1_8 : Option Addr) (c1_8 : Nat) (l1_8 : List Int) (r : Bool) (w : World) (hr0_8 : Kd.C (Kd.int .u8) w A0_8 l0_8.length l0_8) (hc0_8 : l0_8.length ≤ c0_8) (hr1_8 : Kd.C (Kd.int .u8) w A1_8 l1_8.length l1_8) (hc1_8 : l1_8.length ≤ c1_8) (h : impl_Packet_same.f a0_0 a0_1 a0_2 a0_3 a0_4 a0_5 a0_6 a0_7 l0_8 a1_0 a1_1 a1_2 a1_3 a1_4 a1_5 a1_6 a1_7 l1_8 = some r) :
  Calls Try.prog 81 #[.agg #[.int .i64 a0_0, .int .i64 a0_1, .int .i64 a0_2, .int .i64 a0_3, .int .i64 a0_4, .int .i64 a0_5, .bool a0_6, .bool a0_7, .slice A0_8 l0_8.length c0_8], .agg #[.int .i64 a1_0, .int .i64 a1_1, .int .i64 a1_2, .int .i64 a1_3, .int .i64 a1_4, .int .i64 a1_5, .bool a1_6, .bool a1_7, .slice A1_8 l1_8.length c1_8]] w fun e w' => e = .returned (.bool r) ∧ Below w.heap.size w w' := by
 have hu28 := Try.underlying28; have HR0_8 := Aside0.mk hr0_8; have HC0_8 := Aside0.mk hc0_8; clear hr0_8 hc0_8; have HR1_8 := Aside0.mk hr1_8; have HC1_8 := Aside0.mk hc1_8; clear hr1_8 hc1_8
 have HB := Aside0.mk (Below.refl w.heap.size w)
 have H : (if a0_0 = a1_0 then (if a0_1 = a1_1 then (if a0_2 = a1_2 then (some (a0_4 == a1_4)) else (some false)) else (some false)) else (some false)) = some r := h
 clear h
 by_cases c3 : a0_0 = a1_0
 ·rw [if_pos c3] at H
  have c3b0 : (a0_0 == a1_0) = true := beq_iff_eq.mpr c3
  have c3b1 : (a0_0 != a1_0) = false := bne_eq_false_iff_eq.mpr c3
  clear c3
  by_cases c4 : a0_1 = a1_1
  ·rw [if_pos c4] at H
   have c4b0 : (a0_1 == a1_1) = true := beq_iff_eq.mpr c4
   have c4b1 : (a0_1 != a1_1) = false := bne_eq_false_iff_eq.mpr c4
   clear c4
   by_cases c5 : a0_2 = a1_2
   ·rw [if_pos c5] at H
    have c5b0 : (a0_2 == a1_2) = true := beq_iff_eq.mpr c5
    have c5b1 : (a0_2 != a1_2) = false := bne_eq_false_iff_eq.mpr c5
    clear c5
    obtain rfl := Option.some.inj H
    go_enter Try.func81, Try.ntmps81
    go_wp2_with (first | ((with_reducible refine gate_dst (N := 2) rfl ?_); refine box_ (N := 2) (cs := #[.int .i64 a0_0, .int .i64 a0_1, .int .i64 a0_2, .int .i64 a0_3, .int .i64 a0_4, .int .i64 a0_5, .bool a0_6, .bool a0_7, .slice A0_8 l0_8.length c0_8]) (t := 28) (fun gb299 hg w6 hbox hb => ?_); have BK299 := Aside0.mk (hbox); have GW299 := ge_ hg HB; have GE299 := ge_ hg HB; replace HB := (bs_ HB hb); clear hb hbox hg) | ((with_reducible refine gate_dst (N := 3) rfl ?_); refine box_ (N := 3) (cs := #[.int .i64 a1_0, .int .i64 a1_1, .int .i64 a1_2, .int .i64 a1_3, .int .i64 a1_4, .int .i64 a1_5, .bool a1_6, .bool a1_7, .slice A1_8 l1_8.length c1_8]) (t := 28) (fun gb300 hg w7 hbox hb => ?_); have BK300 := Aside0.mk (hbox); have GW300 := ge_ hg HB; have GE300 := ge_ hg HB; replace HB := (bs_ HB hb); have NB299_300 := nl_ hg BK299; have NB300_299 := ng_ hg BK299; replace BK299 := (bbA_ BK299 hb); clear hb hbox hg; have hnb8 := NB299_300.out; have hnc8 := NB300_299.out; have Z9 := zz9 BK299; have Z10 := zz9 BK300))
    go_ret
    exact ⟨by first | rfl | (simp [errW_none, errW_some] <;> rfl) | (simp [*, errW_none, errW_some] <;> rfl), hbA_ HB.out⟩
   ·rw [if_neg c5] at H
    have c5b0 : (a0_2 == a1_2) = false := beq_eq_false_iff_ne.mpr c5
    have c5b1 : (a0_2 != a1_2) = true := bne_iff_ne.mpr c5
    obtain rfl := Option.some.inj H
    go_enter Try.func81, Try.ntmps81
    go_wp2_with (first | ((with_reducible refine gate_dst (N := 2) rfl ?_); refine box_ (N := 2) (cs := #[.int .i64 a0_0, .int .i64 a0_1, .int .i64 a0_2, .int .i64 a0_3, .int .i64 a0_4, .int .i64 a0_5, .bool a0_6, .bool a0_7, .slice A0_8 l0_8.length c0_8]) (t := 28) (fun gb299 hg w11 hbox hb => ?_); have BK299 := Aside0.mk (hbox); have GW299 := ge_ hg HB; have GE299 := ge_ hg HB; replace HB := (bs_ HB hb); clear hb hbox hg) | ((with_reducible refine gate_dst (N := 3) rfl ?_); refine box_ (N := 3) (cs := #[.int .i64 a1_0, .int .i64 a1_1, .int .i64 a1_2, .int .i64 a1_3, .int .i64 a1_4, .int .i64 a1_5, .bool a1_6, .bool a1_7, .slice A1_8 l1_8.length c1_8]) (t := 28) (fun gb300 hg w12 hbox hb => ?_); have BK300 := Aside0.mk (hbox); have GW300 := ge_ hg HB; have GE300 := ge_ hg HB; replace HB := (bs_ HB hb); have NB299_300 := nl_ hg BK299; have NB300_299 := ng_ hg BK299; replace BK299 := (bbA_ BK299 hb); clear hb hbox hg; have hnb13 := NB299_300.out; have hnc13 := NB300_299.out; have Z14 := zz9 BK299; have Z15 := zz9 BK300))
    go_ret
    exact ⟨by first | rfl | (simp [errW_none, errW_some] <;> rfl) | (simp [*, errW_none, errW_some] <;> rfl), hbA_ HB.out⟩
  ·rw [if_neg c4] at H
   have c4b0 : (a0_1 == a1_1) = false := beq_eq_false_iff_ne.mpr c4
   have c4b1 : (a0_1 != a1_1) = true := bne_iff_ne.mpr c4
   obtain rfl := Option.some.inj H
   go_enter Try.func81, Try.ntmps81
   go_wp2_with (first | ((with_reducible refine gate_dst (N := 2) rfl ?_); refine box_ (N := 2) (cs := #[.int .i64 a0_0, .int .i64 a0_1, .int .i64 a0_2, .int .i64 a0_3, .int .i64 a0_4, .int .i64 a0_5, .bool a0_6, .bool a0_7, .slice A0_8 l0_8.length c0_8]) (t := 28) (fun gb299 hg w16 hbox hb => ?_); have BK299 := Aside0.mk (hbox); have GW299 := ge_ hg HB; have GE299 := ge_ hg HB; replace HB := (bs_ HB hb); clear hb hbox hg) | ((with_reducible refine gate_dst (N := 3) rfl ?_); refine box_ (N := 3) (cs := #[.int .i64 a1_0, .int .i64 a1_1, .int .i64 a1_2, .int .i64 a1_3, .int .i64 a1_4, .int .i64 a1_5, .bool a1_6, .bool a1_7, .slice A1_8 l1_8.length c1_8]) (t := 28) (fun gb300 hg w17 hbox hb => ?_); have BK300 := Aside0.mk (hbox); have GW300 := ge_ hg HB; have GE300 := ge_ hg HB; replace HB := (bs_ HB hb); have NB299_300 := nl_ hg BK299; have NB300_299 := ng_ hg BK299; replace BK299 := (bbA_ BK299 hb); clear hb hbox hg; have hnb18 := NB299_300.out; have hnc18 := NB300_299.out; have Z19 := zz9 BK299; have Z20 := zz9 BK300))
   go_ret
   exact ⟨by first | rfl | (simp [errW_none, errW_some] <;> rfl) | (simp [*, errW_none, errW_some] <;> rfl), hbA_ HB.out⟩
 ·rw [if_neg c3] at H
  have c3b0 : (a0_0 == a1_0) = false := beq_eq_false_iff_ne.mpr c3
  have c3b1 : (a0_0 != a1_0) = true := bne_iff_ne.mpr c3
  obtain rfl := Option.some.inj H
  go_enter Try.func81, Try.ntmps81
  go_wp2_with (first | ((with_reducible refine gate_dst (N := 2) rfl ?_); refine box_ (N := 2) (cs := #[.int .i64 a0_0, .int .i64 a0_1, .int .i64 a0_2, .int .i64 a0_3, .int .i64 a0_4, .int .i64 a0_5, .bool a0_6, .bool a0_7, .slice A0_8 l0_8.length c0_8]) (t := 28) (fun gb299 hg w21 hbox hb => ?_); have BK299 := Aside0.mk (hbox); have GW299 := ge_ hg HB; have GE299 := ge_ hg HB; replace HB := (bs_ HB hb); clear hb hbox hg) | ((with_reducible refine gate_dst (N := 3) rfl ?_); refine box_ (N := 3) (cs := #[.int .i64 a1_0, .int .i64 a1_1, .int .i64 a1_2, .int .i64 a1_3, .int .i64 a1_4, .int .i64 a1_5, .bool a1_6, .bool a1_7, .slice A1_8 l1_8.length c1_8]) (t := 28) (fun gb300 hg w22 hbox hb => ?_); have BK300 := Aside0.mk (hbox); have GW300 := ge_ hg HB; have GE300 := ge_ hg HB; replace HB := (bs_ HB hb); have NB299_300 := nl_ hg BK299; have NB300_299 := ng_ hg BK299; replace BK299 := (bbA_ BK299 hb); clear hb hbox hg; have hnb23 := NB299_300.out; have hnc23 := NB300_299.out; have Z24 := zz9 BK299; have Z25 := zz9 BK300))
  go_ret
  exact ⟨by first | rfl | (simp [errW_none, errW_some] <;> rfl) | (simp [*, errW_none, errW_some] <;> rfl), hbA_ HB.out⟩
mutual
def impl_PartOk.l0 : Nat → Int → List (S28) → Int → Int → List (S28) → Int → Option (Bool)
 | 0, _, _, _, _, _, _ => none
 | k + 1, x3, x8, x9, x10, x302000, x302001 => if x10 < x9 then (if 0 ≤ x10 then (if x10 < (x8.length : Int) then ((impl_PacketOk.f ((rd_T28 x8 x10).f0) ((rd_T28 x8 x10).f1) ((rd_T28 x8 x10).f2) ((rd_T28 x8 x10).f3) ((rd_T28 x8 x10).f4) ((rd_T28 x8 x10).f5) ((rd_T28 x8 x10).f6) ((rd_T28 x8 x10).f7) ((rd_T28 x8 x10).f8)).bind fun t305 => (if t305 = true then (if 0 < (x302000.length : Int) then ((impl_Packet_same.f ((rd_T28 x8 x10).f0) ((rd_T28 x8 x10).f1) ((rd_T28 x8 x10).f2) ((rd_T28 x8 x10).f3) ((rd_T28 x8 x10).f4) ((rd_T28 x8 x10).f5) ((rd_T28 x8 x10).f6) ((rd_T28 x8 x10).f7) ((rd_T28 x8 x10).f8) ((rd_T28 x302000 0).f0) ((rd_T28 x302000 0).f1) ((rd_T28 x302000 0).f2) ((rd_T28 x302000 0).f3) ((rd_T28 x302000 0).f4) ((rd_T28 x302000 0).f5) ((rd_T28 x302000 0).f6) ((rd_T28 x302000 0).f7) ((rd_T28 x302000 0).f8)).bind fun t307 => (impl_PartOk.j1 k x3 x10 x8 x9 x10 (!t307) x302000 x302001 ((rd_T28 x8 x10).f0) ((rd_T28 x8 x10).f1) ((rd_T28 x8 x10).f2) ((rd_T28 x8 x10).f3) ((rd_T28 x8 x10).f4) ((rd_T28 x8 x10).f5) ((rd_T28 x8 x10).f6) ((rd_T28 x8 x10).f7) ((rd_T28 x8 x10).f8))) else (none)) else (impl_PartOk.j1 k x3 x10 x8 x9 x10 true x302000 x302001 ((rd_T28 x8 x10).f0) ((rd_T28 x8 x10).f1) ((rd_T28 x8 x10).f2) ((rd_T28 x8 x10).f3) ((rd_T28 x8 x10).f4) ((rd_T28 x8 x10).f5) ((rd_T28 x8 x10).f6) ((rd_T28 x8 x10).f7) ((rd_T28 x8 x10).f8)))) else (none)) else (none)) else (if (x302000.length : Int) > 0 then (if x3 ≤ 48 then ((impl_in.f x302001 0 1000000).bind fun t302 => (some t302)) else (some false)) else (some false))
def impl_PartOk.j1 : Nat → Int → Int → List (S28) → Int → Int → Bool → List (S28) → Int → Int → Int → Int → Int → Int → Int → Bool → Bool → List Int → Option (Bool)
 | 0, _, _, _, _, _, _, _, _, _, _, _, _, _, _, _, _, _ => none
 | k + 1, x3, x4, x8, x9, x10, x26, x302000, x302001, x305000, x305001, x305002, x305003, x305004, x305005, x305006, x305007, x305008 => if x26 = true then (some false) else (if x4 > 0 then (if 0 ≤ (wrap64 (x4 - 1)) then (if (wrap64 (x4 - 1)) < (x302000.length : Int) then (if x305005 < (wrap64 (((rd_T28 x302000 (wrap64 (x4 - 1))).f5) + (((rd_T28 x302000 (wrap64 (x4 - 1))).f8).length : Int))) then (some false) else (if ((rd_T28 x302000 (wrap64 (x4 - 1))).f6 = true) then (impl_PartOk.l0 k (wrap64 (x3 + (x305008.length : Int))) x8 x9 (wrap64 (x10 + 1)) x302000 x302001) else (some false))) else (none)) else (none)) else (impl_PartOk.l0 k (wrap64 (x3 + (x305008.length : Int))) x8 x9 (wrap64 (x10 + 1)) x302000 x302001))
end
def impl_PartOk.f (k : Nat) (l0_0 : List (S28)) (a0_1 : Int) : Option (Bool) := impl_PartOk.l0 k 0 l0_0 (l0_0.length : Int) 0 l0_0 a0_1
theorem impl_PartOk.mono_l : ∀ k, (∀ y0 y1 y2 y3 y4 y5, LeO (impl_PartOk.l0 k y0 y1 y2 y3 y4 y5) (impl_PartOk.l0 (k + 1) y0 y1 y2 y3 y4 y5)) ∧ (∀ y0 y1 y2 y3 y4 y5 y6 y7 y8 y9 y10 y11 y12 y13 y14 y15 y16, LeO (impl_PartOk.j1 k y0 y1 y2 y3 y4 y5 y6 y7 y8 y9 y10 y11 y12 y13 y14 y15 y16) (impl_PartOk.j1 (k + 1) y0 y1 y2 y3 y4 y5 y6 y7 y8 y9 y10 y11 y12 y13 y14 y15 y16))
 | 0 => ⟨fun _ _ _ _ _ _ r h => by simp [impl_PartOk.l0] at h, fun _ _ _ _ _ _ _ _ _ _ _ _ _ _ _ _ _ r h => by simp [impl_PartOk.j1] at h⟩
 | k + 1 => by
  obtain ⟨ih0, ih1⟩ := impl_PartOk.mono_l k
  refine ⟨?_, ?_⟩
  ·intro y0 y1 y2 y3 y4 y5
   unfold impl_PartOk.l0
   repeat' first | (with_reducible first | apply ih0 | apply ih1 | exact LeO.refl _ | exact LeO.none _ | refine LeO.ite ?_ ?_ | refine LeO.bind ?_ fun _ => ?_) | apply ih0 | apply ih1 | exact LeO.none _ | refine LeO.ite ?_ ?_ | refine LeO.bind ?_ fun _ => ?_
  ·intro y0 y1 y2 y3 y4 y5 y6 y7 y8 y9 y10 y11 y12 y13 y14 y15 y16
   unfold impl_PartOk.j1
   repeat' first | (with_reducible first | apply ih0 | apply ih1 | exact LeO.refl _ | exact LeO.none _ | refine LeO.ite ?_ ?_ | refine LeO.bind ?_ fun _ => ?_) | apply ih0 | apply ih1 | exact LeO.none _ | refine LeO.ite ?_ ?_ | refine LeO.bind ?_ fun _ => ?_
theorem impl_PartOk.mono : ∀ a0 a1 k, LeO (impl_PartOk.f k a0 a1) (impl_PartOk.f (k + 1) a0 a1) := by
 intro a0 a1 k
 obtain ⟨ih0, ih1⟩ := impl_PartOk.mono_l k
 unfold impl_PartOk.f
 repeat' first | (with_reducible first | apply ih0 | apply ih1 | exact LeO.refl _ | exact LeO.none _ | refine LeO.ite ?_ ?_ | refine LeO.bind ?_ fun _ => ?_) | apply ih0 | apply ih1 | exact LeO.none _ | refine LeO.ite ?_ ?_ | refine LeO.bind ?_ fun _ => ?_
def impl_PartOk.T5 : Bool × List (List Nat × List Nat) := (true, [([], []), ([0], [0]), ([1], [1]), ([2, 1], [2]), ([3], [3]), ([3], [3]), ([5, 3], [3, 5]), ([6, 3], [3, 6]), ([7, 3], [3, 7]), ([4, 8, 3, 3], [3, 4, 8]), ([9, 3], [3, 9]), ([3, 10], [3, 10])])
def impl_PartOk.B5 : List Nat := [0, 1, 3, 7, 15, 15, 47, 111, 239, 511, 1023, 2047]
theorem impl_PartOk.tab5 : rtab .any (opsOf Try.f44 5) = impl_PartOk.T5 := by kernel_rfl
theorem impl_PartOk.bits5 : waitsOk impl_PartOk.T5.2 impl_PartOk.B5 = true := by kernel_rfl
set_option maxHeartbeats 8000000 in
set_option maxRecDepth 100000 in
theorem impl_PartOk.calls (k : Nat) (A0_0 : Option Addr) (c0_0 : Nat) (l0_0 : List (S28)) (a0_1 : Int) (r : Bool) (w : World) (hr0_0 : Kd.C k28 w A0_0 l0_0.length l0_0) (hc0_0 : l0_0.length ≤ c0_0) (h : impl_PartOk.f k l0_0 a0_1 = some r) :
  Calls Try.prog 44 #[.agg #[.slice A0_0 l0_0.length c0_0, .int .i64 a0_1]] w fun e w' => e = .returned (.bool r) ∧ Below w.heap.size w w' := by
 have hu25 := Try.underlying25; have hu28 := Try.underlying28; have HR0_0 := Aside0.mk hr0_0; have HC0_0 := Aside0.mk hc0_0; clear hr0_0 hc0_0
 have HB := Aside0.mk (Below.refl w.heap.size w)
 have H : (impl_PartOk.l0 k 0 l0_0 (l0_0.length : Int) 0 l0_0 a0_1) = some r := h
 clear h
 have H' := Aside0.mk H
 clear H
 go_enter Try.func44, Try.ntmps44
 go_wp2_with (first | ((with_reducible refine gate_dst (N := 1) rfl ?_); refine box_ (N := 1) (cs := #[.slice A0_0 l0_0.length c0_0, .int .i64 a0_1]) (t := 25) (fun gb301 hg w2 hbox hb => ?_); have BK301 := Aside0.mk (hbox); have GW301 := ge_ hg HB; have GE301 := ge_ hg HB; replace HB := (bs_ HB hb); clear hb hbox hg; have Z3 := zz2 BK301))
 go_loopg [3, 10] k (fun kq v3 v10 w' => ∃ (x3_1 : Int) (x10_1 : Int), v3 = .int .i64 x3_1 ∧ v10 = .int .i64 x10_1 ∧ Aside0 (impl_PartOk.l0 kq x3_1 l0_0 (l0_0.length : Int) x10_1 l0_0 a0_1 = some r) ∧ Aside0 (kq ≤ k) ∧ Aside0 (w'.heap[gb301]? = some (.cells #[(.slice A0_0 l0_0.length c0_0), .int .i64 a0_1] 25 (0, 0))) ∧ Aside0 (Below w.heap.size w w'))
 case atStart => exact ⟨(0), (0), (by first | rfl | (simp; done) | (simp [*]; done)), (by first | rfl | (simp; done) | (simp [*]; done)), H', ⟨Nat.le_refl _⟩, ⟨by refine kb_ ?_; exact BK301.out⟩, ⟨hbA_ HB.out⟩⟩
 case round =>
  clear H'; (try clear p2); (try clear Z3)
  obtain ⟨x3_1, x10_1, rfl, rfl, HA, HK1, BK301, HB⟩ := hrel
  cases gk with
  | zero => exact absurd HA.out (by simp [impl_PartOk.l0])
  | succ k1 =>
   have H := HA.out; clear HA
   simp only [impl_PartOk.l0] at H
   by_cases c4 : x10_1 < (l0_0.length : Int)
   ·rw [if_pos c4] at H
    have c4b0 : decide (x10_1 < (l0_0.length : Int)) = true := decide_eq_true c4
    clear c4
    by_cases c5 : 0 ≤ x10_1
    ·rw [if_pos c5] at H
     have c5b0 : decide (0 ≤ x10_1) = true := decide_eq_true c5
     clear c5
     by_cases c6 : x10_1 < (l0_0.length : Int)
     ·rw [if_pos c6] at H
      have c6b0 : decide (x10_1 < (l0_0.length : Int)) = true := decide_eq_true c6
      clear c6; have HC7 := Aside0.mk H; clear H
      have p303 : 0 ≤ (x10_1 : Int) := of_decide_eq_true (by first | (with_reducible assumption) | assumption)
      have q303 : x10_1 < (l0_0.length : Int) := of_decide_eq_true (by first | (with_reducible assumption) | assumption)
      obtain ⟨ad303, A303_8, c303_8, e303, hx303_0, hx303_1, hx303_2, hx303_3, hx303_4, hx303_5, hx303_6, hx303_7, hx303_8, hl303_8, hi303_8⟩ := at_T28 HR0_0.out x10_1 p303 q303
      cases e303
      replace hx303_0 := cc_ HB hx303_0
      replace hx303_1 := cc_ HB hx303_1
      replace hx303_2 := cc_ HB hx303_2
      replace hx303_3 := cc_ HB hx303_3
      replace hx303_4 := cc_ HB hx303_4
      replace hx303_5 := cc_ HB hx303_5
      replace hx303_6 := cc_ HB hx303_6
      replace hx303_7 := cc_ HB hx303_7
      replace hx303_8 := cc_ HB hx303_8
      have HR303_8 := Aside0.mk hi303_8; have HC303_8 := Aside0.mk hl303_8; clear hi303_8 hl303_8
      replace p303 := eq_true p303
      replace q303 := eq_true q303
      go_upto_region 5 with (first | ((with_reducible refine gate_dst (N := 5) rfl ?_); refine box_ (N := 5) (cs := #[.int .i64 0, .int .i64 0, .int .i64 0, .int .i64 0, .int .i64 0, .int .i64 0, .bool false, .bool false, .slice none 0 0]) (t := 28) (fun gb304 hg w8 hbox hb => ?_); have BK304 := Aside0.mk (hbox); have GW304 := ge_ hg HB; have GE304 := ge_ hg HB; replace HB := (bs_ HB hb); have NB301_304 := nl_ hg BK301; have NB304_301 := ng_ hg BK301; replace BK301 := (bbA_ BK301 hb); clear hb hbox hg; have hnb9 := NB304_301.out; have hnc9 := NB301_304.out; have Z10 := zz9 BK304))
      (try simp only [Act.put, List.setIfInBounds_toArray, List.set_cons_zero, List.set_cons_succ])
      go_cut [26] (fun v26 wc => ∃ (kq : Nat) (x26_6 : Bool), v26 = .bool x26_6 ∧ Aside0 (impl_PartOk.j1 kq x3_1 x10_1 l0_0 (l0_0.length : Int) x10_1 x26_6 l0_0 a0_1 ((rd_T28 l0_0 x10_1).f0) ((rd_T28 l0_0 x10_1).f1) ((rd_T28 l0_0 x10_1).f2) ((rd_T28 l0_0 x10_1).f3) ((rd_T28 l0_0 x10_1).f4) ((rd_T28 l0_0 x10_1).f5) ((rd_T28 l0_0 x10_1).f6) ((rd_T28 l0_0 x10_1).f7) ((rd_T28 l0_0 x10_1).f8) = some r) ∧ Aside0 (kq ≤ k1) ∧ Aside0 (wc.heap[gb301]? = some (.cells #[(.slice (some ad303) l0_0.length c0_0), .int .i64 a0_1] 25 (0, 0))) ∧ Aside0 (wc.heap[gb304]? = some (.cells #[.int .i64 ((rd_T28 l0_0 x10_1).f0), .int .i64 ((rd_T28 l0_0 x10_1).f1), .int .i64 ((rd_T28 l0_0 x10_1).f2), .int .i64 ((rd_T28 l0_0 x10_1).f3), .int .i64 ((rd_T28 l0_0 x10_1).f4), .int .i64 ((rd_T28 l0_0 x10_1).f5), .bool ((rd_T28 l0_0 x10_1).f6), .bool ((rd_T28 l0_0 x10_1).f7), (.slice A303_8 ((rd_T28 l0_0 x10_1).f8).length c303_8)] 28 (0, 0))) ∧ Aside0 (Below w.heap.size w wc))
      case first =>
       have H := HC7.out; clear HC7
       replace H := Option.bind_eq_some_iff.mp H
       obtain ⟨t305, A110, H⟩ := H
       (try dsimp only at H)
       have A11 := Aside0.mk A110; clear A110
       by_cases c12 : t305 = true
       ·subst c12
        rw [if_pos rfl] at H
        by_cases c13 : 0 < (l0_0.length : Int)
        ·rw [if_pos c13] at H
         have c13b0 : decide (0 < (l0_0.length : Int)) = true := decide_eq_true c13
         have c13b1 : decide (0 < l0_0.length) = true := decide_eq_true (by omega)
         clear c13
         (first | rw [c13b0] | (simp only [i64_w, i32_w]; rw [c13b0]) | skip)
         replace H := Option.bind_eq_some_iff.mp H
         obtain ⟨t307, A140, H⟩ := H
         (try dsimp only at H)
         have A14 := Aside0.mk A140; clear A140
         have H' := Aside0.mk H
         clear H
         try go_wp2
         obtain ⟨w15, h_w15⟩ : ∃ w_, (((((((((w8.setCell ⟨gb304, 0, none⟩ (.int .i64 ((rd_T28 l0_0 x10_1).f0))).setCell ⟨gb304, 1, none⟩ (.int .i64 ((rd_T28 l0_0 x10_1).f1))).setCell ⟨gb304, 2, none⟩ (.int .i64 ((rd_T28 l0_0 x10_1).f2))).setCell ⟨gb304, 3, none⟩ (.int .i64 ((rd_T28 l0_0 x10_1).f3))).setCell ⟨gb304, 4, none⟩ (.int .i64 ((rd_T28 l0_0 x10_1).f4))).setCell ⟨gb304, 5, none⟩ (.int .i64 ((rd_T28 l0_0 x10_1).f5))).setCell ⟨gb304, 6, none⟩ (.bool ((rd_T28 l0_0 x10_1).f6))).setCell ⟨gb304, 7, none⟩ (.bool ((rd_T28 l0_0 x10_1).f7))).setCell ⟨gb304, 8, none⟩ (.slice A303_8 ((rd_T28 l0_0 x10_1).f8).length c303_8)) = w_ := ⟨_, rfl⟩
         have n0_ : Aside0 (w15.heap[gb301]? = some (.cells #[.slice (some ad303) l0_0.length c0_0, .int .i64 a0_1] 25 (0, 0))) := ⟨by subst h_w15; exact kf_ BK301.out⟩
         have n1_ : Aside0 (w15.heap[gb304]? = some (.cells #[.int .i64 ((rd_T28 l0_0 x10_1).f0), .int .i64 ((rd_T28 l0_0 x10_1).f1), .int .i64 ((rd_T28 l0_0 x10_1).f2), .int .i64 ((rd_T28 l0_0 x10_1).f3), .int .i64 ((rd_T28 l0_0 x10_1).f4), .int .i64 ((rd_T28 l0_0 x10_1).f5), .bool ((rd_T28 l0_0 x10_1).f6), .bool ((rd_T28 l0_0 x10_1).f7), .slice A303_8 ((rd_T28 l0_0 x10_1).f8).length c303_8] 28 (0, 0))) := ⟨by subst h_w15; refine kb_ ?_; refine pz9 (cs := #[.int .i64 0, .int .i64 0, .int .i64 0, .int .i64 0, .int .i64 0, .int .i64 0, .bool false, .bool false, .slice none 0 0]) ?_; refine kb_ ?_; exact BK304.out⟩
         have n2_ : Aside0 (Below w.heap.size w w15) := ⟨by subst h_w15; exact hbA_ HB.out⟩
         (try clear BK301); (try clear BK304); (try clear HB)
         (try rw [h_w15]); clear h_w15
         have BK301 := n0_; have BK304 := n1_; have HB := n2_; clear n0_ n1_ n2_; replace BK301 := Aside0.mk (blk_drew BK301.out); replace BK304 := Aside0.mk (blk_drew BK304.out); replace HB := (bd_ HB)
         have p306 : 0 ≤ (0 : Int) := (by omega)
         have q306 : 0 < (l0_0.length : Int) := of_decide_eq_true (by first | (with_reducible assumption) | assumption)
         obtain ⟨ad306, A306_8, c306_8, e306, hx306_0, hx306_1, hx306_2, hx306_3, hx306_4, hx306_5, hx306_6, hx306_7, hx306_8, hl306_8, hi306_8⟩ := at_T28 HR0_0.out 0 p306 q306
         (try simp only [show ((0 : Int)).toNat = 0 from rfl, show 0 * 9 = 0 from rfl, Addr.add_zero'] at hx306_0 hx306_1 hx306_2 hx306_3 hx306_4 hx306_5 hx306_6 hx306_7 hx306_8); have hw306_8 := hx306_8; have hw306_7 := hx306_7; have hw306_6 := hx306_6; have hw306_5 := hx306_5; have hw306_4 := hx306_4; have hw306_3 := hx306_3; have hw306_2 := hx306_2; have hw306_1 := hx306_1; have hw306_0 := hx306_0
         obtain rfl : ad303 = ad306 := (by injection e306)
         have qi306 : (0 < l0_0.length) = True := eq_true (by omega)
         replace hx306_0 := cc_ HB hx306_0
         replace hx306_1 := cc_ HB hx306_1
         replace hx306_2 := cc_ HB hx306_2
         replace hx306_3 := cc_ HB hx306_3
         replace hx306_4 := cc_ HB hx306_4
         replace hx306_5 := cc_ HB hx306_5
         replace hx306_6 := cc_ HB hx306_6
         replace hx306_7 := cc_ HB hx306_7
         replace hx306_8 := cc_ HB hx306_8
         have HR306_8 := Aside0.mk hi306_8; have HC306_8 := Aside0.mk hl306_8; clear hi306_8 hl306_8
         replace p306 := eq_true p306
         replace q306 := eq_true q306
         refine start_ (n := 12) (S := fun w' => w'.cell? ⟨gb304, 0, none⟩ = some (.int .i64 ((rd_T28 l0_0 x10_1).f0)) ∧ w'.cell? ⟨gb304, 1, none⟩ = some (.int .i64 ((rd_T28 l0_0 x10_1).f1)) ∧ w'.cell? ⟨gb304, 2, none⟩ = some (.int .i64 ((rd_T28 l0_0 x10_1).f2)) ∧ w'.cell? ⟨gb304, 3, none⟩ = some (.int .i64 ((rd_T28 l0_0 x10_1).f3)) ∧ w'.cell? ⟨gb304, 4, none⟩ = some (.int .i64 ((rd_T28 l0_0 x10_1).f4)) ∧ w'.cell? ⟨gb304, 5, none⟩ = some (.int .i64 ((rd_T28 l0_0 x10_1).f5)) ∧ w'.cell? ⟨gb304, 6, none⟩ = some (.bool ((rd_T28 l0_0 x10_1).f6)) ∧ w'.cell? ⟨gb304, 7, none⟩ = some (.bool ((rd_T28 l0_0 x10_1).f7)) ∧ w'.cell? ⟨gb304, 8, none⟩ = some (.slice A303_8 ((rd_T28 l0_0 x10_1).f8).length c303_8) ∧ w'.cell? ⟨gb301, 0, none⟩ = some (.slice (some ad303) l0_0.length c0_0) ∧ w'.cell? ⟨gb301, 1, none⟩ = some (.int .i64 a0_1) ∧ w'.cell? ad303 = some (.int .i64 ((rd_T28 l0_0 0).f0)) ∧ w'.cell? ⟨ad303.block, ad303.off + 1, none⟩ = some (.int .i64 ((rd_T28 l0_0 0).f1)) ∧ w'.cell? ⟨ad303.block, ad303.off + 2, none⟩ = some (.int .i64 ((rd_T28 l0_0 0).f2)) ∧ w'.cell? ⟨ad303.block, ad303.off + 3, none⟩ = some (.int .i64 ((rd_T28 l0_0 0).f3)) ∧ w'.cell? ⟨ad303.block, ad303.off + 4, none⟩ = some (.int .i64 ((rd_T28 l0_0 0).f4)) ∧ w'.cell? ⟨ad303.block, ad303.off + 5, none⟩ = some (.int .i64 ((rd_T28 l0_0 0).f5)) ∧ w'.cell? ⟨ad303.block, ad303.off + 6, none⟩ = some (.bool ((rd_T28 l0_0 0).f6)) ∧ w'.cell? ⟨ad303.block, ad303.off + 7, none⟩ = some (.bool ((rd_T28 l0_0 0).f7)) ∧ w'.cell? ⟨ad303.block, ad303.off + 8, none⟩ = some (.slice A306_8 ((rd_T28 l0_0 0).f8).length c306_8)) (ds := []) #[false, false, false, false, false, false, false, false, false, false, false, false] (by kernel_rfl) rfl rfl ⟨bc_ BK304 0, bc_ BK304 1, bc_ BK304 2, bc_ BK304 3, bc_ BK304 4, bc_ BK304 5, bc_ BK304 6, bc_ BK304 7, bc_ BK304 8, bc_ BK301 0, bc_ BK301 1, (cc_ HB hw306_0), (cc_ HB hw306_1), (cc_ HB hw306_2), (cc_ HB hw306_3), (cc_ HB hw306_4), (cc_ HB hw306_5), (cc_ HB hw306_6), (cc_ HB hw306_7), (cc_ HB hw306_8)⟩ (fun hHeld => ?_); refine with_tabW impl_PartOk.tab5 impl_PartOk.bits5 (fun HT_ HW_ => ?_)
         generalize w15.drew = w16 at BK301 BK304 HB HR306_8 hx306_0 hx306_1 hx306_2 hx306_3 hx306_4 hx306_5 hx306_6 hx306_7 hx306_8 hHeld ⊢
         refine tk_ (i := 0) (N := some 15) HT_ HW_ hHeld ?_
         refine on_ (i := 1) (N := some 16) HT_ (fun K hK => ?_)
         refine goes_ Try.func14 (by kernel_rfl) rfl #[.agg #[.int .i64 ((rd_T28 l0_0 x10_1).f0), .int .i64 ((rd_T28 l0_0 x10_1).f1), .int .i64 ((rd_T28 l0_0 x10_1).f2), .int .i64 ((rd_T28 l0_0 x10_1).f3), .int .i64 ((rd_T28 l0_0 x10_1).f4), .int .i64 ((rd_T28 l0_0 x10_1).f5), .bool ((rd_T28 l0_0 x10_1).f6), .bool ((rd_T28 l0_0 x10_1).f7), .slice A303_8 ((rd_T28 l0_0 x10_1).f8).length c303_8]] (by rfl) rfl rfl ar_ ?_
         with_reducible refine (impl_PacketOk.calls ((rd_T28 l0_0 x10_1).f0) ((rd_T28 l0_0 x10_1).f1) ((rd_T28 l0_0 x10_1).f2) ((rd_T28 l0_0 x10_1).f3) ((rd_T28 l0_0 x10_1).f4) ((rd_T28 l0_0 x10_1).f5) ((rd_T28 l0_0 x10_1).f6) ((rd_T28 l0_0 x10_1).f7) _ _ ((rd_T28 l0_0 x10_1).f8) true _ ?side1 ?side2 A11.out).mono ?_
         (case side1 => exact kC_ (Kd.C_below HR303_8.out HB.out))
         (case side2 => exact HC303_8.out)
         rintro e w17 ⟨rfl, hb⟩
         refine ⟨_, rfl, ?_⟩
         replace BK301 := (bbA_ BK301 hb); replace BK304 := (bbA_ BK304 hb); replace HB := (bs_ HB hb); (try clear hb); (try clear hb2); (try clear hk); (try clear hi)
         refine hK.out _ _ ⟨bc_ BK304 0, bc_ BK304 1, bc_ BK304 2, bc_ BK304 3, bc_ BK304 4, bc_ BK304 5, bc_ BK304 6, bc_ BK304 7, bc_ BK304 8, bc_ BK301 0, bc_ BK301 1, (cc_ HB hw306_0), (cc_ HB hw306_1), (cc_ HB hw306_2), (cc_ HB hw306_3), (cc_ HB hw306_4), (cc_ HB hw306_5), (cc_ HB hw306_6), (cc_ HB hw306_7), (cc_ HB hw306_8)⟩ (fun hHeld => ?_)
         clear hK K; refine nm_ 16 ?_; refine pu_ (i := 2) (N := some 17) HT_ ?_; refine pu_ (i := 3) (N := some 18) HT_ ?_; refine pu_ (i := 5) (N := some 20) HT_ ?_; refine tk_ (i := 4) (N := some 19) HT_ HW_ hHeld ?_; refine tk_ (i := 6) (N := some 21) HT_ HW_ hHeld ?_; refine pu_ (i := 7) (N := some 22) HT_ ?_; refine tk_ (i := 8) (N := some 23) HT_ HW_ hHeld ?_
         refine on_ (i := 9) (N := some 24) HT_ (fun K hK => ?_)
         refine goes_ Try.func81 (by kernel_rfl) rfl #[.agg #[.int .i64 ((rd_T28 l0_0 x10_1).f0), .int .i64 ((rd_T28 l0_0 x10_1).f1), .int .i64 ((rd_T28 l0_0 x10_1).f2), .int .i64 ((rd_T28 l0_0 x10_1).f3), .int .i64 ((rd_T28 l0_0 x10_1).f4), .int .i64 ((rd_T28 l0_0 x10_1).f5), .bool ((rd_T28 l0_0 x10_1).f6), .bool ((rd_T28 l0_0 x10_1).f7), .slice A303_8 ((rd_T28 l0_0 x10_1).f8).length c303_8], .agg #[.int .i64 ((rd_T28 l0_0 0).f0), .int .i64 ((rd_T28 l0_0 0).f1), .int .i64 ((rd_T28 l0_0 0).f2), .int .i64 ((rd_T28 l0_0 0).f3), .int .i64 ((rd_T28 l0_0 0).f4), .int .i64 ((rd_T28 l0_0 0).f5), .bool ((rd_T28 l0_0 0).f6), .bool ((rd_T28 l0_0 0).f7), .slice A306_8 ((rd_T28 l0_0 0).f8).length c306_8]] (by rfl) rfl rfl ar_ ?_
         with_reducible refine (impl_Packet_same.calls ((rd_T28 l0_0 x10_1).f0) ((rd_T28 l0_0 x10_1).f1) ((rd_T28 l0_0 x10_1).f2) ((rd_T28 l0_0 x10_1).f3) ((rd_T28 l0_0 x10_1).f4) ((rd_T28 l0_0 x10_1).f5) ((rd_T28 l0_0 x10_1).f6) ((rd_T28 l0_0 x10_1).f7) _ _ ((rd_T28 l0_0 x10_1).f8) ((rd_T28 l0_0 0).f0) ((rd_T28 l0_0 0).f1) ((rd_T28 l0_0 0).f2) ((rd_T28 l0_0 0).f3) ((rd_T28 l0_0 0).f4) ((rd_T28 l0_0 0).f5) ((rd_T28 l0_0 0).f6) ((rd_T28 l0_0 0).f7) _ _ ((rd_T28 l0_0 0).f8) t307 _ ?side1 ?side2 ?side3 ?side4 A14.out).mono ?_
         (case side1 => exact kC_ (Kd.C_below HR303_8.out HB.out))
         (case side2 => exact HC303_8.out)
         (case side3 => exact kC_ (Kd.C_below HR306_8.out HB.out))
         (case side4 => exact HC306_8.out)
         rintro e w18 ⟨rfl, hb⟩
         refine ⟨_, rfl, ?_⟩
         replace BK301 := (bbA_ BK301 hb); replace BK304 := (bbA_ BK304 hb); replace HB := (bs_ HB hb); (try clear hb); (try clear hb2); (try clear hk); (try clear hi)
         refine hK.out _ _ ⟨bc_ BK304 0, bc_ BK304 1, bc_ BK304 2, bc_ BK304 3, bc_ BK304 4, bc_ BK304 5, bc_ BK304 6, bc_ BK304 7, bc_ BK304 8, bc_ BK301 0, bc_ BK301 1, (cc_ HB hw306_0), (cc_ HB hw306_1), (cc_ HB hw306_2), (cc_ HB hw306_3), (cc_ HB hw306_4), (cc_ HB hw306_5), (cc_ HB hw306_6), (cc_ HB hw306_7), (cc_ HB hw306_8)⟩ (fun hHeld => ?_)
         clear hK K; refine nm_ 24 ?_; refine pu_ (i := 10) (N := some 25) HT_ ?_; refine pu_ (i := 11) (N := some 26) HT_ ?_
         refine done_ (done_of HT_.out (by kernel_rfl)) ?_
         try go_wp2
         go_meet
         case rel => exact ⟨_, (!t307), (by first | rfl | (simp; done) | (simp [*]; done)), H', ⟨by have := HK1.out; first | omega | exact Nat.le_refl _⟩, ⟨by refine kb_ ?_; exact BK301.out⟩, ⟨by refine kb_ ?_; exact BK304.out⟩, ⟨hbA_ HB.out⟩⟩
        ·rw [if_neg c13] at H
         exact absurd H (by simp)
       ·replace c12 := Bool.eq_false_iff.mpr c12
        subst c12
        rw [if_neg (show ¬ (false = true) by decide)] at H
        have H' := Aside0.mk H
        clear H
        try go_wp2
        obtain ⟨w19, h_w19⟩ : ∃ w_, (((((((((w8.setCell ⟨gb304, 0, none⟩ (.int .i64 ((rd_T28 l0_0 x10_1).f0))).setCell ⟨gb304, 1, none⟩ (.int .i64 ((rd_T28 l0_0 x10_1).f1))).setCell ⟨gb304, 2, none⟩ (.int .i64 ((rd_T28 l0_0 x10_1).f2))).setCell ⟨gb304, 3, none⟩ (.int .i64 ((rd_T28 l0_0 x10_1).f3))).setCell ⟨gb304, 4, none⟩ (.int .i64 ((rd_T28 l0_0 x10_1).f4))).setCell ⟨gb304, 5, none⟩ (.int .i64 ((rd_T28 l0_0 x10_1).f5))).setCell ⟨gb304, 6, none⟩ (.bool ((rd_T28 l0_0 x10_1).f6))).setCell ⟨gb304, 7, none⟩ (.bool ((rd_T28 l0_0 x10_1).f7))).setCell ⟨gb304, 8, none⟩ (.slice A303_8 ((rd_T28 l0_0 x10_1).f8).length c303_8)) = w_ := ⟨_, rfl⟩
        have n0_ : Aside0 (w19.heap[gb301]? = some (.cells #[.slice (some ad303) l0_0.length c0_0, .int .i64 a0_1] 25 (0, 0))) := ⟨by subst h_w19; exact kf_ BK301.out⟩
        have n1_ : Aside0 (w19.heap[gb304]? = some (.cells #[.int .i64 ((rd_T28 l0_0 x10_1).f0), .int .i64 ((rd_T28 l0_0 x10_1).f1), .int .i64 ((rd_T28 l0_0 x10_1).f2), .int .i64 ((rd_T28 l0_0 x10_1).f3), .int .i64 ((rd_T28 l0_0 x10_1).f4), .int .i64 ((rd_T28 l0_0 x10_1).f5), .bool ((rd_T28 l0_0 x10_1).f6), .bool ((rd_T28 l0_0 x10_1).f7), .slice A303_8 ((rd_T28 l0_0 x10_1).f8).length c303_8] 28 (0, 0))) := ⟨by subst h_w19; refine kb_ ?_; refine pz9 (cs := #[.int .i64 0, .int .i64 0, .int .i64 0, .int .i64 0, .int .i64 0, .int .i64 0, .bool false, .bool false, .slice none 0 0]) ?_; refine kb_ ?_; exact BK304.out⟩
        have n2_ : Aside0 (Below w.heap.size w w19) := ⟨by subst h_w19; exact hbA_ HB.out⟩
        (try clear BK301); (try clear BK304); (try clear HB)
        (try rw [h_w19]); clear h_w19
        have BK301 := n0_; have BK304 := n1_; have HB := n2_; clear n0_ n1_ n2_; replace BK301 := Aside0.mk (blk_drew BK301.out); replace BK304 := Aside0.mk (blk_drew BK304.out); replace HB := (bd_ HB)
        refine start_ (n := 12) (S := fun w' => w'.cell? ⟨gb304, 0, none⟩ = some (.int .i64 ((rd_T28 l0_0 x10_1).f0)) ∧ w'.cell? ⟨gb304, 1, none⟩ = some (.int .i64 ((rd_T28 l0_0 x10_1).f1)) ∧ w'.cell? ⟨gb304, 2, none⟩ = some (.int .i64 ((rd_T28 l0_0 x10_1).f2)) ∧ w'.cell? ⟨gb304, 3, none⟩ = some (.int .i64 ((rd_T28 l0_0 x10_1).f3)) ∧ w'.cell? ⟨gb304, 4, none⟩ = some (.int .i64 ((rd_T28 l0_0 x10_1).f4)) ∧ w'.cell? ⟨gb304, 5, none⟩ = some (.int .i64 ((rd_T28 l0_0 x10_1).f5)) ∧ w'.cell? ⟨gb304, 6, none⟩ = some (.bool ((rd_T28 l0_0 x10_1).f6)) ∧ w'.cell? ⟨gb304, 7, none⟩ = some (.bool ((rd_T28 l0_0 x10_1).f7)) ∧ w'.cell? ⟨gb304, 8, none⟩ = some (.slice A303_8 ((rd_T28 l0_0 x10_1).f8).length c303_8)) (ds := []) #[false, false, false, false, false, false, false, false, false, false, false, false] (by kernel_rfl) rfl rfl (cz9 BK304.out) (fun hHeld => ?_); refine with_tabW impl_PartOk.tab5 impl_PartOk.bits5 (fun HT_ HW_ => ?_)
        generalize w19.drew = w20 at BK301 BK304 HB hHeld ⊢
        refine tk_ (i := 0) (N := some 15) HT_ HW_ hHeld ?_
        refine on_ (i := 1) (N := some 16) HT_ (fun K hK => ?_)
        refine goes_ Try.func14 (by kernel_rfl) rfl #[.agg #[.int .i64 ((rd_T28 l0_0 x10_1).f0), .int .i64 ((rd_T28 l0_0 x10_1).f1), .int .i64 ((rd_T28 l0_0 x10_1).f2), .int .i64 ((rd_T28 l0_0 x10_1).f3), .int .i64 ((rd_T28 l0_0 x10_1).f4), .int .i64 ((rd_T28 l0_0 x10_1).f5), .bool ((rd_T28 l0_0 x10_1).f6), .bool ((rd_T28 l0_0 x10_1).f7), .slice A303_8 ((rd_T28 l0_0 x10_1).f8).length c303_8]] (by rfl) rfl rfl ar_ ?_
        with_reducible refine (impl_PacketOk.calls ((rd_T28 l0_0 x10_1).f0) ((rd_T28 l0_0 x10_1).f1) ((rd_T28 l0_0 x10_1).f2) ((rd_T28 l0_0 x10_1).f3) ((rd_T28 l0_0 x10_1).f4) ((rd_T28 l0_0 x10_1).f5) ((rd_T28 l0_0 x10_1).f6) ((rd_T28 l0_0 x10_1).f7) _ _ ((rd_T28 l0_0 x10_1).f8) false _ ?side1 ?side2 A11.out).mono ?_
        (case side1 => exact kC_ (Kd.C_below HR303_8.out HB.out))
        (case side2 => exact HC303_8.out)
        rintro e w21 ⟨rfl, hb⟩
        refine ⟨_, rfl, ?_⟩
        replace BK301 := (bbA_ BK301 hb); replace BK304 := (bbA_ BK304 hb); replace HB := (bs_ HB hb); (try clear hb); (try clear hb2); (try clear hk); (try clear hi)
        refine hK.out _ _ (cz9 BK304.out) (fun hHeld => ?_)
        clear hK K; refine nm_ 16 ?_; refine pu_ (i := 2) (N := some 17) HT_ ?_; refine pu_ (i := 3) (N := some 18) HT_ ?_; refine pn_ (i := 4) (N := some 19) HT_ ?_; refine pn_ (i := 5) (N := some 20) HT_ ?_; refine pn_ (i := 6) (N := some 21) HT_ ?_; refine pn_ (i := 7) (N := some 22) HT_ ?_; refine pn_ (i := 8) (N := some 23) HT_ ?_; refine pn_ (i := 9) (N := some 24) HT_ ?_; refine pn_ (i := 10) (N := some 25) HT_ ?_; refine pu_ (i := 11) (N := some 26) HT_ ?_
        refine done_ (done_of HT_.out (by kernel_rfl)) ?_
        try go_wp2
        go_meet
        case rel => exact ⟨_, (true), (by first | rfl | (simp; done) | (simp [*]; done)), H', ⟨by have := HK1.out; first | omega | exact Nat.le_refl _⟩, ⟨by refine kb_ ?_; exact BK301.out⟩, ⟨by refine kb_ ?_; exact BK304.out⟩, ⟨hbA_ HB.out⟩⟩
      case rest =>
       clear HC7; (try clear c1); (try clear p2); (try clear c3); (try clear p3); (try clear q3); (try clear hx3); (try clear qi3); (try clear c4); (try clear c4b0); (try clear c5); (try clear c5b0); (try clear c6); (try clear c6b0); (try clear c8); (try clear c9); (try clear c12); (try clear c13); (try clear c13b0); (try clear c13b1); (try clear c14); (try clear Z10); (try clear Z3); (try clear hx303_0); (try clear hx303_1); (try clear hx303_2); (try clear hx303_3); (try clear hx303_4); (try clear hx303_5); (try clear hx303_6); (try clear hx303_7); (try clear hx303_8); (try clear hx306_0); (try clear hx306_1); (try clear hx306_2); (try clear hx306_3); (try clear hx306_4); (try clear hx306_5); (try clear hx306_6); (try clear hx306_7); (try clear hx306_8); (try clear p2); (try clear p303); (try clear p306); (try clear q303); (try clear q306)
       obtain ⟨kq, x26_6, rfl, HA, HJ6, BK301, BK304, HB⟩ := hcut
       cases kq with
       | zero => exact absurd HA.out (by simp [impl_PartOk.j1])
       | succ kj6 =>
        have H := HA.out; clear HA
        simp only [impl_PartOk.j1] at H
        by_cases c22 : x26_6 = true
        ·subst c22
         rw [if_pos rfl] at H
         obtain rfl := Option.some.inj H
         go_wp2
         go_ret
         exact ⟨by first | rfl | (simp [errW_none, errW_some] <;> rfl) | (simp [*, errW_none, errW_some] <;> rfl), hbA_ HB.out⟩
        ·replace c22 := Bool.eq_false_iff.mpr c22
         subst c22
         rw [if_neg (show ¬ (false = true) by decide)] at H
         by_cases c23 : x10_1 > 0
         ·rw [if_pos c23] at H
          have c23b0 : decide (0 < x10_1) = true := decide_eq_true c23
          clear c23
          obtain ⟨ji24, hji24⟩ : ∃ j_ : Int, (wrap64 (x10_1 - 1)) = j_ := ⟨_, rfl⟩
          (first | rw [hji24] at H | simp only [hji24] at H)
          have hji24w : (IntKind.i64.wrap (x10_1 - 1)) = ji24 := (i64_w _).trans hji24
          by_cases c25 : 0 ≤ (ji24)
          ·rw [if_pos c25] at H
           have c25b0 : decide (0 ≤ (ji24)) = true := decide_eq_true c25
           clear c25
           by_cases c26 : (ji24) < (l0_0.length : Int)
           ·rw [if_pos c26] at H
            have c26b0 : decide ((ji24) < (l0_0.length : Int)) = true := decide_eq_true c26
            clear c26
            by_cases c27 : ((rd_T28 l0_0 x10_1).f5) < (wrap64 (((rd_T28 l0_0 (ji24)).f5) + (((rd_T28 l0_0 (ji24)).f8).length : Int)))
            ·rw [if_pos c27] at H
             have c27b0 : decide (((rd_T28 l0_0 x10_1).f5) < (wrap64 (((rd_T28 l0_0 (ji24)).f5) + (((rd_T28 l0_0 (ji24)).f8).length : Int)))) = true := decide_eq_true c27
             clear c27
             obtain rfl := Option.some.inj H
             have hnb28 := NB301_304.out; have hnc28 := NB304_301.out; have Z29 := zz2 BK301
             have p308 : 0 ≤ ((ji24) : Int) := of_decide_eq_true (by first | (with_reducible assumption) | assumption)
             have q308 : (ji24) < (l0_0.length : Int) := of_decide_eq_true (by first | (with_reducible assumption) | assumption)
             obtain ⟨ad308, A308_8, c308_8, e308, hx308_0, hx308_1, hx308_2, hx308_3, hx308_4, hx308_5, hx308_6, hx308_7, hx308_8, hl308_8, hi308_8⟩ := at_T28 HR0_0.out (ji24) p308 q308
             obtain rfl : ad303 = ad308 := (by injection e308)
             replace hx308_0 := cc_ HB hx308_0
             replace hx308_1 := cc_ HB hx308_1
             replace hx308_2 := cc_ HB hx308_2
             replace hx308_3 := cc_ HB hx308_3
             replace hx308_4 := cc_ HB hx308_4
             replace hx308_5 := cc_ HB hx308_5
             replace hx308_6 := cc_ HB hx308_6
             replace hx308_7 := cc_ HB hx308_7
             replace hx308_8 := cc_ HB hx308_8
             have HR308_8 := Aside0.mk hi308_8; have HC308_8 := Aside0.mk hl308_8; clear hi308_8 hl308_8
             replace p308 := eq_true p308
             replace q308 := eq_true q308
             go_wp2_with (first | ((with_reducible refine gate_dst (N := 6) rfl ?_); refine box_ (N := 6) (cs := #[.int .i64 0, .int .i64 0, .int .i64 0, .int .i64 0, .int .i64 0, .int .i64 0, .bool false, .bool false, .slice none 0 0]) (t := 28) (fun gb309 hg w30 hbox hb => ?_); have BK309 := Aside0.mk (hbox); have GW309 := ge_ hg HB; have GE309 := ge_ hg HB; replace HB := (bs_ HB hb); have NB301_309 := nl_ hg BK301; have NB309_301 := ng_ hg BK301; replace BK301 := (bbA_ BK301 hb); have NB304_309 := nl_ hg BK304; have NB309_304 := ng_ hg BK304; replace BK304 := (bbA_ BK304 hb); clear hb hbox hg; have hnb31 := NB309_301.out; have hnc31 := NB301_309.out; have hnb32 := NB309_304.out; have hnc32 := NB304_309.out; have Z33 := zz9 BK309; have Z34 := zz9 BK304))
             go_ret
             exact ⟨by first | rfl | (simp [errW_none, errW_some] <;> rfl) | (simp only [← hji24]; first | rfl | (simp [errW_none, errW_some] <;> rfl)) | (simp [*, errW_none, errW_some] <;> rfl), hbA_ HB.out⟩
            ·rw [if_neg c27] at H
             have c27b0 : decide (((rd_T28 l0_0 x10_1).f5) < (wrap64 (((rd_T28 l0_0 (ji24)).f5) + (((rd_T28 l0_0 (ji24)).f8).length : Int)))) = false := decide_eq_false c27
             clear c27
             obtain ⟨bq35, hbq35⟩ : ∃ b_ : Bool, b_ = ((rd_T28 l0_0 (ji24)).f6) := ⟨_, rfl⟩
             replace H : (if (bq35 = true) then (impl_PartOk.l0 kj6 (wrap64 (x3_1 + (((rd_T28 l0_0 x10_1).f8).length : Int))) l0_0 (l0_0.length : Int) (wrap64 (x10_1 + 1)) l0_0 a0_1) else (some false)) = some r := by rw [← hbq35] at H; exact H
             have Nbq35 := Aside0.mk hbq35; clear hbq35
             by_cases c36 : (bq35 = true)
             ·subst c36
              rw [if_pos rfl] at H
              have H' := Aside0.mk H
              clear H; have hnb37 := NB301_304.out; have hnc37 := NB304_301.out; have Z38 := zz2 BK301
              have p308 : 0 ≤ ((ji24) : Int) := of_decide_eq_true (by first | (with_reducible assumption) | assumption)
              have q308 : (ji24) < (l0_0.length : Int) := of_decide_eq_true (by first | (with_reducible assumption) | assumption)
              obtain ⟨ad308, A308_8, c308_8, e308, hx308_0, hx308_1, hx308_2, hx308_3, hx308_4, hx308_5, hx308_6, hx308_7, hx308_8, hl308_8, hi308_8⟩ := at_T28 HR0_0.out (ji24) p308 q308
              (try rw [← Nbq35.out] at hx308_6)
              (try rw [← Nbq35.out] at hx308_7)
              obtain rfl : ad303 = ad308 := (by injection e308)
              replace hx308_0 := cc_ HB hx308_0
              replace hx308_1 := cc_ HB hx308_1
              replace hx308_2 := cc_ HB hx308_2
              replace hx308_3 := cc_ HB hx308_3
              replace hx308_4 := cc_ HB hx308_4
              replace hx308_5 := cc_ HB hx308_5
              replace hx308_6 := cc_ HB hx308_6
              replace hx308_7 := cc_ HB hx308_7
              replace hx308_8 := cc_ HB hx308_8
              have HR308_8 := Aside0.mk hi308_8; have HC308_8 := Aside0.mk hl308_8; clear hi308_8 hl308_8
              replace p308 := eq_true p308
              replace q308 := eq_true q308
              go_wp2_with (first | ((with_reducible refine gate_dst (N := 6) rfl ?_); refine box_ (N := 6) (cs := #[.int .i64 0, .int .i64 0, .int .i64 0, .int .i64 0, .int .i64 0, .int .i64 0, .bool false, .bool false, .slice none 0 0]) (t := 28) (fun gb309 hg w39 hbox hb => ?_); have BK309 := Aside0.mk (hbox); have GW309 := ge_ hg HB; have GE309 := ge_ hg HB; replace HB := (bs_ HB hb); have NB301_309 := nl_ hg BK301; have NB309_301 := ng_ hg BK301; replace BK301 := (bbA_ BK301 hb); have NB304_309 := nl_ hg BK304; have NB309_304 := ng_ hg BK304; replace BK304 := (bbA_ BK304 hb); clear hb hbox hg; have hnb40 := NB309_301.out; have hnc40 := NB301_309.out; have hnb41 := NB309_304.out; have hnc41 := NB304_309.out; have Z42 := zz9 BK309; have Z43 := zz9 BK304))
              go_roundg kj6
              case measure => have := HK1.out; have := HJ6.out; omega
              case rel => exact ⟨(wrap64 (x3_1 + (((rd_T28 l0_0 x10_1).f8).length : Int))), (wrap64 (x10_1 + 1)), (by first | rfl | (simp; done) | (simp [*]; done)), (by first | rfl | (simp; done) | (simp [*]; done)), H', ⟨by have := HK1.out; have := HJ6.out; omega⟩, ⟨by exact kf_ BK301.out⟩, ⟨hbA_ HB.out⟩⟩
             ·replace c36 := Bool.eq_false_iff.mpr c36
              subst c36
              rw [if_neg (show ¬ (false = true) by decide)] at H
              obtain rfl := Option.some.inj H
              have hnb44 := NB301_304.out; have hnc44 := NB304_301.out; have Z45 := zz2 BK301
              have p308 : 0 ≤ ((ji24) : Int) := of_decide_eq_true (by first | (with_reducible assumption) | assumption)
              have q308 : (ji24) < (l0_0.length : Int) := of_decide_eq_true (by first | (with_reducible assumption) | assumption)
              obtain ⟨ad308, A308_8, c308_8, e308, hx308_0, hx308_1, hx308_2, hx308_3, hx308_4, hx308_5, hx308_6, hx308_7, hx308_8, hl308_8, hi308_8⟩ := at_T28 HR0_0.out (ji24) p308 q308
              (try rw [← Nbq35.out] at hx308_6)
              (try rw [← Nbq35.out] at hx308_7)
              obtain rfl : ad303 = ad308 := (by injection e308)
              replace hx308_0 := cc_ HB hx308_0
              replace hx308_1 := cc_ HB hx308_1
              replace hx308_2 := cc_ HB hx308_2
              replace hx308_3 := cc_ HB hx308_3
              replace hx308_4 := cc_ HB hx308_4
              replace hx308_5 := cc_ HB hx308_5
              replace hx308_6 := cc_ HB hx308_6
              replace hx308_7 := cc_ HB hx308_7
              replace hx308_8 := cc_ HB hx308_8
              have HR308_8 := Aside0.mk hi308_8; have HC308_8 := Aside0.mk hl308_8; clear hi308_8 hl308_8
              replace p308 := eq_true p308
              replace q308 := eq_true q308
              go_wp2_with (first | ((with_reducible refine gate_dst (N := 6) rfl ?_); refine box_ (N := 6) (cs := #[.int .i64 0, .int .i64 0, .int .i64 0, .int .i64 0, .int .i64 0, .int .i64 0, .bool false, .bool false, .slice none 0 0]) (t := 28) (fun gb309 hg w46 hbox hb => ?_); have BK309 := Aside0.mk (hbox); have GW309 := ge_ hg HB; have GE309 := ge_ hg HB; replace HB := (bs_ HB hb); have NB301_309 := nl_ hg BK301; have NB309_301 := ng_ hg BK301; replace BK301 := (bbA_ BK301 hb); have NB304_309 := nl_ hg BK304; have NB309_304 := ng_ hg BK304; replace BK304 := (bbA_ BK304 hb); clear hb hbox hg; have hnb47 := NB309_301.out; have hnc47 := NB301_309.out; have hnb48 := NB309_304.out; have hnc48 := NB304_309.out; have Z49 := zz9 BK309; have Z50 := zz9 BK304))
              go_ret
              exact ⟨by first | rfl | (simp [errW_none, errW_some] <;> rfl) | (simp only [← hji24]; first | rfl | (simp [errW_none, errW_some] <;> rfl)) | (simp [*, errW_none, errW_some] <;> rfl), hbA_ HB.out⟩
           ·rw [if_neg c26] at H
            exact absurd H (by simp)
          ·rw [if_neg c25] at H
           exact absurd H (by simp)
         ·rw [if_neg c23] at H
          have c23b0 : decide (0 < x10_1) = false := decide_eq_false c23
          clear c23
          have H' := Aside0.mk H
          clear H; have hnb51 := NB304_301.out; have hnc51 := NB301_304.out; have Z52 := zz9 BK304
          go_wp2
          go_roundg kj6
          case measure => have := HK1.out; have := HJ6.out; omega
          case rel => exact ⟨(wrap64 (x3_1 + (((rd_T28 l0_0 x10_1).f8).length : Int))), (wrap64 (x10_1 + 1)), (by first | rfl | (simp; done) | (simp [*]; done)), (by first | rfl | (simp; done) | (simp [*]; done)), H', ⟨by have := HK1.out; have := HJ6.out; omega⟩, ⟨by refine kb_ ?_; exact BK301.out⟩, ⟨hbA_ HB.out⟩⟩
     ·rw [if_neg c6] at H
      exact absurd H (by simp)
    ·rw [if_neg c5] at H
     exact absurd H (by simp)
   ·rw [if_neg c4] at H
    have c4b0 : decide (x10_1 < (l0_0.length : Int)) = false := decide_eq_false c4
    clear c4
    by_cases c53 : (l0_0.length : Int) > 0
    ·rw [if_pos c53] at H
     have c53b0 : decide (0 < (l0_0.length : Int)) = true := decide_eq_true c53
     have c53b1 : decide (0 < l0_0.length) = true := decide_eq_true (by omega)
     clear c53
     by_cases c54 : x3_1 ≤ 48
     ·rw [if_pos c54] at H
      have c54b0 : decide (x3_1 ≤ 48) = true := decide_eq_true c54
      clear c54
      replace H := Option.bind_eq_some_iff.mp H
      obtain ⟨t302, A550, H⟩ := H
      (try dsimp only at H)
      have A55 := Aside0.mk A550; clear A550
      obtain rfl := Option.some.inj H
      have Z56 := zz2 BK301
      go_wp2_with (first | (go_at_call 49; (with_reducible refine (impl_in.calls a0_1 0 1000000 t302 _ A55.out).mono ?_); rintro e w' ⟨rfl, ⟨nd, rfl⟩⟩))
      go_ret
      exact ⟨by first | rfl | (simp [errW_none, errW_some] <;> rfl) | (simp [*, errW_none, errW_some] <;> rfl), hbA_ HB.out⟩
     ·rw [if_neg c54] at H
      have c54b0 : decide (x3_1 ≤ 48) = false := decide_eq_false c54
      clear c54
      obtain rfl := Option.some.inj H
      have Z57 := zz2 BK301
      go_wp2
      go_ret
      exact ⟨by first | rfl | (simp [errW_none, errW_some] <;> rfl) | (simp [*, errW_none, errW_some] <;> rfl), hbA_ HB.out⟩
    ·rw [if_neg c53] at H
     have c53b0 : decide (0 < (l0_0.length : Int)) = false := decide_eq_false c53
     have c53b1 : decide (0 < l0_0.length) = false := decide_eq_false (by omega)
     clear c53
     obtain rfl := Option.some.inj H
     have Z58 := zz2 BK301
     go_wp2
     go_ret
     exact ⟨by first | rfl | (simp [errW_none, errW_some] <;> rfl) | (simp [*, errW_none, errW_some] <;> rfl), hbA_ HB.out⟩
theorem slices_Clip_byte_byte.calls (A0 : Option Addr) (c0 n0 : Nat) (w : World) (hc : n0 ≤ c0) : Calls Try.prog 108 #[.slice A0 n0 c0] w fun e w' => e = .returned (.slice A0 n0 n0) ∧ w' = w := by
  go_enter Try.func108, Try.ntmps108
  go_wp2
  go_ret
  exact ⟨rfl, rfl⟩
def impl_clone_byte.f (l0 : List Int) : Option (List Int) := if l0.length * 1 ≤ 140737488355328 then some l0 else none
theorem impl_clone_byte.calls (A0 : Option Addr) (c0 : Nat) (l0 : List Int) (r : List Int) (w : World) (hr0 : Kd.C (Kd.int .u8) w A0 l0.length l0) (hc0 : l0.length ≤ c0) (h : impl_clone_byte.f l0 = some r) :
    Calls Try.prog 93 #[.slice A0 l0.length c0] w fun e w' => ∃ v0_ : Value, e = .returned (v0_) ∧ Kd.R (Kd.int .u8) 5 w' w.heap.size (fun _ => True) v0_ r ∧ Below w.heap.size w w' := by
  obtain ⟨hle, rfl⟩ : l0.length * 1 ≤ 140737488355328 ∧ l0 = r := by
    unfold impl_clone_byte.f at h; split at h
    · exact ⟨by assumption, Option.some.inj h⟩
    · cases h
  have hm := hr0.2.1
  have HR := Aside0.mk hr0; clear hr0 h
  by_cases h0 : l0.length = 0
  · have hb : ((l0.length : Int) == 0) = true := by simp [h0]
    have HL : Aside0 (l0 = []) := ⟨List.eq_nil_of_length_eq_zero h0⟩
    clear h0
    go_enter Try.func93, Try.ntmps93
    go_wp2
    go_ret
    refine ⟨_, rfl, ?_, Below.refl _ _⟩
    rw [HL.out]; exact Kd.R_nil _ _ _ _ _
  · have hb : ((l0.length : Int) == 0) = false := by simp; intro hh; exact h0 (by simp [hh])
    clear h0
    go_enter Try.func93, Try.ntmps93
    go_wp2_with (first
      | ((with_reducible refine gate_dst (N := 7) rfl ?_); refine Kd.R_append_rows (Kd.int .u8) (Rr := (Kd.int .u8).K w) w.heap.size rfl _ _ 22 5 (.int .u8 0) 1 rfl Try.underlying22 info5 rfl (by decide) (by decide) (.slice none 0 0) [] l0 A0 l0.length c0 (fun _ => True) (fun _ => True) rfl rfl (Kd.R_nil _ _ _ _ _) HR.out (fun x cs h => h) (fun k _ => ⟨trivial, by simp [Value.ownBlock]⟩) (fun _ _ => trivial) (Below.refl _ _) (Nat.le_refl _) (by simpa using hle) ?_; intro v1 w1 ho hb1 hg hat; rw [List.nil_append] at ho; obtain ⟨A1, c1, hv1, hc1, _⟩ := Kd.R_reads ho; have HO := Aside0.mk ho; clear ho hat hg; have HB := Aside0.mk hb1; clear hb1; subst hv1)
      | (go_at_call 108; (with_reducible refine (slices_Clip_byte_byte.calls _ _ _ _ hc1).mono ?_); rintro e w' ⟨rfl, rfl⟩))
    go_ret
    exact ⟨_, rfl, Kd.R_clip HO.out (Nat.le_refl _) hc1, HB.out⟩
def impl_Packet_copy.f (a0_0 : Int) (a0_1 : Int) (a0_2 : Int) (a0_3 : Int) (a0_4 : Int) (a0_5 : Int) (a0_6 : Bool) (a0_7 : Bool) (l0_8 : List Int) : Option (Int × Int × Int × Int × Int × Int × Bool × Bool × List Int) := (impl_clone_byte.f l0_8).bind fun t312 => (some (a0_0, a0_1, a0_2, a0_3, a0_4, a0_5, a0_6, a0_7, t312))
set_option maxHeartbeats 8000000 in
set_option maxRecDepth 100000 in
theorem impl_Packet_copy.calls (a0_0 : Int) (a0_1 : Int) (a0_2 : Int) (a0_3 : Int) (a0_4 : Int) (a0_5 : Int) (a0_6 : Bool) (a0_7 : Bool) (A0_8 : Option Addr) (c0_8 : Nat) (l0_8 : List Int) (r1 : Int) (r2 : Int) (r3 : Int) (r4 : Int) (r5 : Int) (r6 : Int) (r7 : Bool) (r8 : Bool) (r9 : List Int) (w : World) (hr0_8 : Kd.C (Kd.int .u8) w A0_8 l0_8.length l0_8) (hc0_8 : l0_8.length ≤ c0_8) (h : impl_Packet_copy.f a0_0 a0_1 a0_2 a0_3 a0_4 a0_5 a0_6 a0_7 l0_8 = some (r1, r2, r3, r4, r5, r6, r7, r8, r9)) :
  Calls Try.prog 82 #[.agg #[.int .i64 a0_0, .int .i64 a0_1, .int .i64 a0_2, .int .i64 a0_3, .int .i64 a0_4, .int .i64 a0_5, .bool a0_6, .bool a0_7, .slice A0_8 l0_8.length c0_8]] w fun e w' => ∃ v8_ : Value, e = .returned (.agg #[.int .i64 r1, .int .i64 r2, .int .i64 r3, .int .i64 r4, .int .i64 r5, .int .i64 r6, .bool r7, .bool r8, v8_]) ∧ Kd.R (Kd.int .u8) 5 w' w.heap.size (fun _ => True) v8_ r9 ∧ Below w.heap.size w w' := by
 have hu28 := Try.underlying28; have HR0_8 := Aside0.mk hr0_8; have HC0_8 := Aside0.mk hc0_8; clear hr0_8 hc0_8
 have HB := Aside0.mk (Below.refl w.heap.size w)
 have H : ((impl_clone_byte.f l0_8).bind fun t312 => (some (a0_0, a0_1, a0_2, a0_3, a0_4, a0_5, a0_6, a0_7, t312))) = some (r1, r2, r3, r4, r5, r6, r7, r8, r9) := h
 clear h
 replace H := Option.bind_eq_some_iff.mp H
 obtain ⟨t312, A20, H⟩ := H
 (try dsimp only at H)
 have A2 := Aside0.mk A20; clear A20
 simp only [Option.some.injEq, Prod.mk.injEq] at H
 obtain ⟨rfl, rfl, rfl, rfl, rfl, rfl, rfl, rfl, rfl⟩ := H
 go_enter Try.func82, Try.ntmps82
 go_wp2_with (first | ((with_reducible refine gate_dst (N := 1) rfl ?_); refine box_ (N := 1) (cs := #[.int .i64 a0_0, .int .i64 a0_1, .int .i64 a0_2, .int .i64 a0_3, .int .i64 a0_4, .int .i64 a0_5, .bool a0_6, .bool a0_7, .slice A0_8 l0_8.length c0_8]) (t := 28) (fun gb310 hg w3 hbox hb => ?_); have BK310 := Aside0.mk (hbox); have GW310 := ge_ hg HB; have GE310 := ge_ hg HB; replace HB := (bs_ HB hb); clear hb hbox hg) | ((with_reducible refine gate_dst (N := 2) rfl ?_); refine box_ (N := 2) (cs := #[.int .i64 0, .int .i64 0, .int .i64 0, .int .i64 0, .int .i64 0, .int .i64 0, .bool false, .bool false, .slice none 0 0]) (t := 28) (fun gb311 hg w4 hbox hb => ?_); have BK311 := Aside0.mk (hbox); have GW311 := ge_ hg HB; have GE311 := ge_ hg HB; replace HB := (bs_ HB hb); have NB310_311 := nl_ hg BK310; have NB311_310 := ng_ hg BK310; replace BK310 := (bbA_ BK310 hb); clear hb hbox hg; have hnb5 := NB310_311.out; have hnc5 := NB311_310.out; have Z6 := zz9 BK310) | ((with_reducible refine gate_callee (f := 93) rfl ?_); refine goesL_ (some 5) rfl rfl Try.func93 (by kernel_rfl) rfl #[.slice A0_8 l0_8.length c0_8] rfl ar_ ?_; (with_reducible refine (impl_clone_byte.calls _ _ l0_8 t312 _ ?side1 ?side2 A2.out).mono ?_); (case side1 => exact kC_ (Kd.C_below HR0_8.out HB.out)); (case side2 => exact HC0_8.out); rintro e w7 ⟨v313, rfl, ho0, hb⟩; refine ⟨_, rfl, ?_⟩; have HO314 := Aside0.mk (Kd.R_lower ho0 (below_size (hbA_ HB.out))); replace BK310 := (bbA_ BK310 hb); replace BK311 := (bbA_ BK311 hb); replace HB := (bs_ HB hb); (try clear hb); (try clear hb2); (try clear hk); (try clear hi); (try clear ho0); obtain ⟨Ao8, co8, eo8⟩ := Kd.R_slice HO314.out; subst eo8; have Z9 := zz9 BK310; have Z10 := zz9 BK311))
 refine bodyPost_ret (results_cell_row rfl _ _ gb311 28 #[.int .i64 a0_0, .int .i64 a0_1, .int .i64 a0_2, .int .i64 a0_3, .int .i64 a0_4, .int .i64 a0_5, .bool a0_6, .bool a0_7, .slice Ao8 t312.length co8] (0, 0) _ rfl (by refine kb_ ?_; refine pz9 (cs := #[.int .i64 0, .int .i64 0, .int .i64 0, .int .i64 0, .int .i64 0, .int .i64 0, .bool false, .bool false, .slice none 0 0]) ?_; exact kf_ BK311.out) Try.underlying28 rfl (by kernel_rfl)) rfl ?_
 exact ⟨_, by first | rfl | (simp [errW_none, errW_some] <;> rfl) | (simp [*, errW_none, errW_some] <;> rfl), by refine kR_ ?_; exact rfm_ ((Kd.R_far (p := ⟨gb310, 8, none⟩) (Kd.R_types (Kd.R_types HO314.out BK310.out (by decide)) BK311.out (by decide)) (fun _ hk => hk.1.2) (.slice Ao8 t312.length co8))) (fun _ hk => trivial), hbA_ HB.out⟩
def impl_Part_whole.l0 : Nat → Int → List (S28) → Int → Int → List (S28) → Int → Int → Int → Int → Int → Int → Int → Bool → Bool → List Int → Option (Int × Int × Int × Int × Int × Int × Bool × Bool × List Int × Bool)
 | 0, _, _, _, _, _, _, _, _, _, _, _, _, _, _, _ => none
 | k + 1, x5, x15, x16, x17, x316000, x316001, x330000, x330001, x330002, x330003, x330004, x330005, x330006, x330007, x330008 => if x17 < x16 then (if 0 ≤ x17 then (if x17 < (x15.length : Int) then (if ((rd_T28 x15 x17).f5) = x5 then (if x330008.length + ((rd_T28 x15 x17).f8).length < 140737488355328 then (impl_Part_whole.l0 k (wrap64 (x5 + (((rd_T28 x15 x17).f8).length : Int))) x15 x16 (wrap64 (x17 + 1)) x316000 x316001 x330000 x330001 x330002 x330003 x330004 x330005 x330006 x330007 (x330008 ++ ((rd_T28 x15 x17).f8))) else (none)) else (some (0, 0, 0, 0, 0, 0, false, false, ([] : List Int), false))) else (none)) else (none)) else (if 0 ≤ (wrap64 ((x316000.length : Int) - 1)) then (if (wrap64 ((x316000.length : Int) - 1)) < (x316000.length : Int) then (if (rd_T28 x316000 (wrap64 ((x316000.length : Int) - 1))).f6 = true then (some (0, 0, 0, 0, 0, 0, false, false, ([] : List Int), false)) else ((impl_Packet_copy.f x330000 x330001 x330002 x330003 x330004 x330005 false x330007 x330008).bind fun bt336 => (some (bt336.1, bt336.2.1, bt336.2.2.1, bt336.2.2.2.1, bt336.2.2.2.2.1, bt336.2.2.2.2.2.1, bt336.2.2.2.2.2.2.1, bt336.2.2.2.2.2.2.2.1, bt336.2.2.2.2.2.2.2.2, true)))) else (none)) else (none))
def impl_Part_whole.f (k : Nat) (l0_0 : List (S28)) (a0_1 : Int) : Option (Int × Int × Int × Int × Int × Int × Bool × Bool × List Int × Bool) := if 0 < (l0_0.length : Int) then ((impl_Packet_copy.f ((rd_T28 l0_0 0).f0) ((rd_T28 l0_0 0).f1) ((rd_T28 l0_0 0).f2) ((rd_T28 l0_0 0).f3) ((rd_T28 l0_0 0).f4) ((rd_T28 l0_0 0).f5) ((rd_T28 l0_0 0).f6) ((rd_T28 l0_0 0).f7) ((rd_T28 l0_0 0).f8)).bind fun bt318 => (impl_Part_whole.l0 k 0 l0_0 (l0_0.length : Int) 0 l0_0 a0_1 bt318.1 bt318.2.1 bt318.2.2.1 bt318.2.2.2.1 bt318.2.2.2.2.1 bt318.2.2.2.2.2.1 bt318.2.2.2.2.2.2.1 bt318.2.2.2.2.2.2.2.1 ([] : List Int))) else (none)
theorem impl_Part_whole.mono_l : ∀ k, (∀ y0 y1 y2 y3 y4 y5 y6 y7 y8 y9 y10 y11 y12 y13 y14, LeO (impl_Part_whole.l0 k y0 y1 y2 y3 y4 y5 y6 y7 y8 y9 y10 y11 y12 y13 y14) (impl_Part_whole.l0 (k + 1) y0 y1 y2 y3 y4 y5 y6 y7 y8 y9 y10 y11 y12 y13 y14))
 | 0 => fun _ _ _ _ _ _ _ _ _ _ _ _ _ _ _ r h => by simp [impl_Part_whole.l0] at h
 | k + 1 => by
  have ih0 := impl_Part_whole.mono_l k
  ·intro y0 y1 y2 y3 y4 y5 y6 y7 y8 y9 y10 y11 y12 y13 y14
   unfold impl_Part_whole.l0
   repeat' first | (with_reducible first | apply ih0 | exact LeO.refl _ | exact LeO.none _ | refine LeO.ite ?_ ?_ | refine LeO.bind ?_ fun _ => ?_) | apply ih0 | exact LeO.none _ | refine LeO.ite ?_ ?_ | refine LeO.bind ?_ fun _ => ?_
theorem impl_Part_whole.mono : ∀ a0 a1 k, LeO (impl_Part_whole.f k a0 a1) (impl_Part_whole.f (k + 1) a0 a1) := by
 intro a0 a1 k
 have ih0 := impl_Part_whole.mono_l k
 unfold impl_Part_whole.f
 repeat' first | (with_reducible first | apply ih0 | exact LeO.refl _ | exact LeO.none _ | refine LeO.ite ?_ ?_ | refine LeO.bind ?_ fun _ => ?_) | apply ih0 | exact LeO.none _ | refine LeO.ite ?_ ?_ | refine LeO.bind ?_ fun _ => ?_
set_option maxHeartbeats 8000000 in
set_option maxRecDepth 100000 in
theorem impl_Part_whole.calls (k : Nat) (A0_0 : Option Addr) (c0_0 : Nat) (l0_0 : List (S28)) (a0_1 : Int) (r1 : Int) (r2 : Int) (r3 : Int) (r4 : Int) (r5 : Int) (r6 : Int) (r7 : Bool) (r8 : Bool) (r9 : List Int) (r10 : Bool) (w : World) (hr0_0 : Kd.C k28 w A0_0 l0_0.length l0_0) (hc0_0 : l0_0.length ≤ c0_0) (h : impl_Part_whole.f k l0_0 a0_1 = some (r1, r2, r3, r4, r5, r6, r7, r8, r9, r10)) :
  Calls Try.prog 45 #[.agg #[.slice A0_0 l0_0.length c0_0, .int .i64 a0_1]] w fun e w' => ∃ v8_ : Value, e = .returned (.tuple #[.agg #[.int .i64 r1, .int .i64 r2, .int .i64 r3, .int .i64 r4, .int .i64 r5, .int .i64 r6, .bool r7, .bool r8, v8_], .bool r10]) ∧ Kd.R (Kd.int .u8) 5 w' w.heap.size (fun _ => True) v8_ r9 ∧ Below w.heap.size w w' := by
 have hu25 := Try.underlying25; have hu28 := Try.underlying28; have HR0_0 := Aside0.mk hr0_0; have HC0_0 := Aside0.mk hc0_0; clear hr0_0 hc0_0
 have HB := Aside0.mk (Below.refl w.heap.size w)
 have H : (if 0 < (l0_0.length : Int) then ((impl_Packet_copy.f ((rd_T28 l0_0 0).f0) ((rd_T28 l0_0 0).f1) ((rd_T28 l0_0 0).f2) ((rd_T28 l0_0 0).f3) ((rd_T28 l0_0 0).f4) ((rd_T28 l0_0 0).f5) ((rd_T28 l0_0 0).f6) ((rd_T28 l0_0 0).f7) ((rd_T28 l0_0 0).f8)).bind fun bt318 => (impl_Part_whole.l0 k 0 l0_0 (l0_0.length : Int) 0 l0_0 a0_1 bt318.1 bt318.2.1 bt318.2.2.1 bt318.2.2.2.1 bt318.2.2.2.2.1 bt318.2.2.2.2.2.1 bt318.2.2.2.2.2.2.1 bt318.2.2.2.2.2.2.2.1 ([] : List Int))) else (none)) = some (r1, r2, r3, r4, r5, r6, r7, r8, r9, r10) := h
 clear h
 by_cases c2 : 0 < (l0_0.length : Int)
 ·rw [if_pos c2] at H
  have c2b0 : decide (0 < (l0_0.length : Int)) = true := decide_eq_true c2
  have c2b1 : decide (0 < l0_0.length) = true := decide_eq_true (by omega)
  clear c2
  replace H := Option.bind_eq_some_iff.mp H
  obtain ⟨⟨t318, t319, t320, t321, t322, t323, t324, t325, t326⟩, A30, H⟩ := H
  (try dsimp only at H)
  have A3 := Aside0.mk A30; clear A30
  have H' := Aside0.mk H
  clear H
  go_enter Try.func45, Try.ntmps45
  go_wp2_with (first | ((with_reducible refine gate_dst (N := 1) rfl ?_); refine box_ (N := 1) (cs := #[.slice A0_0 l0_0.length c0_0, .int .i64 a0_1]) (t := 25) (fun gb315 hg w4 hbox hb => ?_); have BK315 := Aside0.mk (hbox); have GW315 := ge_ hg HB; have GE315 := ge_ hg HB; replace HB := (bs_ HB hb); clear hb hbox hg) | ((with_reducible refine gate_dst (N := 2) rfl ?_); refine box_ (N := 2) (cs := #[.int .i64 0, .int .i64 0, .int .i64 0, .int .i64 0, .int .i64 0, .int .i64 0, .bool false, .bool false, .slice none 0 0]) (t := 28) (fun gb316 hg w5 hbox hb => ?_); have BK316 := Aside0.mk (hbox); have GW316 := ge_ hg HB; have GE316 := ge_ hg HB; replace HB := (bs_ HB hb); have NB315_316 := nl_ hg BK315; have NB316_315 := ng_ hg BK315; replace BK315 := (bbA_ BK315 hb); clear hb hbox hg; have hnb6 := NB315_316.out; have hnc6 := NB316_315.out; have Z7 := zz2 BK315; have p317 : 0 ≤ (0 : Int) := (by omega); have q317 : 0 < (l0_0.length : Int) := of_decide_eq_true (by first | (with_reducible assumption) | assumption); obtain ⟨ad317, A317_8, c317_8, e317, hx317_0, hx317_1, hx317_2, hx317_3, hx317_4, hx317_5, hx317_6, hx317_7, hx317_8, hl317_8, hi317_8⟩ := at_T28 HR0_0.out 0 p317 q317; cases e317; have qi317 : (0 < l0_0.length) = True := eq_true (by omega); (try rw [show ((0 : Int)).toNat = 0 from rfl] at hx317_0); (try rw [show 0 * 9 = 0 from rfl] at hx317_0); (try rw [Addr.add_zero'] at hx317_0); (try rw [show ((0 : Int)).toNat = 0 from rfl] at hx317_1); (try rw [show 0 * 9 = 0 from rfl] at hx317_1); (try rw [Addr.add_zero'] at hx317_1); (try rw [show ((0 : Int)).toNat = 0 from rfl] at hx317_2); (try rw [show 0 * 9 = 0 from rfl] at hx317_2); (try rw [Addr.add_zero'] at hx317_2); (try rw [show ((0 : Int)).toNat = 0 from rfl] at hx317_3); (try rw [show 0 * 9 = 0 from rfl] at hx317_3); (try rw [Addr.add_zero'] at hx317_3); (try rw [show ((0 : Int)).toNat = 0 from rfl] at hx317_4); (try rw [show 0 * 9 = 0 from rfl] at hx317_4); (try rw [Addr.add_zero'] at hx317_4); (try rw [show ((0 : Int)).toNat = 0 from rfl] at hx317_5); (try rw [show 0 * 9 = 0 from rfl] at hx317_5); (try rw [Addr.add_zero'] at hx317_5); (try rw [show ((0 : Int)).toNat = 0 from rfl] at hx317_6); (try rw [show 0 * 9 = 0 from rfl] at hx317_6); (try rw [Addr.add_zero'] at hx317_6); (try rw [show ((0 : Int)).toNat = 0 from rfl] at hx317_7); (try rw [show 0 * 9 = 0 from rfl] at hx317_7); (try rw [Addr.add_zero'] at hx317_7); (try rw [show ((0 : Int)).toNat = 0 from rfl] at hx317_8); (try rw [show 0 * 9 = 0 from rfl] at hx317_8); (try rw [Addr.add_zero'] at hx317_8); replace hx317_0 := cc_ HB hx317_0; replace hx317_1 := cc_ HB hx317_1; replace hx317_2 := cc_ HB hx317_2; replace hx317_3 := cc_ HB hx317_3; replace hx317_4 := cc_ HB hx317_4; replace hx317_5 := cc_ HB hx317_5; replace hx317_6 := cc_ HB hx317_6; replace hx317_7 := cc_ HB hx317_7; replace hx317_8 := cc_ HB hx317_8; have HR317_8 := Aside0.mk hi317_8; have HC317_8 := Aside0.mk hl317_8; clear hi317_8 hl317_8; replace p317 := eq_true p317; replace q317 := eq_true q317) | ((with_reducible refine gate_callee (f := 82) rfl ?_); refine goesL_ (some 12) rfl rfl Try.func82 (by kernel_rfl) rfl #[.agg #[.int .i64 ((rd_T28 l0_0 0).f0), .int .i64 ((rd_T28 l0_0 0).f1), .int .i64 ((rd_T28 l0_0 0).f2), .int .i64 ((rd_T28 l0_0 0).f3), .int .i64 ((rd_T28 l0_0 0).f4), .int .i64 ((rd_T28 l0_0 0).f5), .bool ((rd_T28 l0_0 0).f6), .bool ((rd_T28 l0_0 0).f7), .slice A317_8 ((rd_T28 l0_0 0).f8).length c317_8]] rfl ar_ ?_; (with_reducible refine (impl_Packet_copy.calls ((rd_T28 l0_0 0).f0) ((rd_T28 l0_0 0).f1) ((rd_T28 l0_0 0).f2) ((rd_T28 l0_0 0).f3) ((rd_T28 l0_0 0).f4) ((rd_T28 l0_0 0).f5) ((rd_T28 l0_0 0).f6) ((rd_T28 l0_0 0).f7) _ _ ((rd_T28 l0_0 0).f8) t318 t319 t320 t321 t322 t323 t324 t325 t326 _ ?side1 ?side2 A3.out).mono ?_); (case side1 => exact kC_ (Kd.C_below HR317_8.out HB.out)); (case side2 => exact HC317_8.out); rintro e w8 ⟨v327, rfl, ho0, hb⟩; refine ⟨_, rfl, ?_⟩; have HO328 := Aside0.mk (Kd.R_lower ho0 (below_size (hbA_ HB.out))); replace BK315 := (bbA_ BK315 hb); replace BK316 := (bbA_ BK316 hb); replace HB := (bs_ HB hb); (try clear hb); (try clear hb2); (try clear hk); (try clear hi); (try clear ho0)) | ((with_reducible refine gate_dst (N := 4) rfl ?_); refine box_ (N := 4) (cs := #[.int .i64 0, .int .i64 0, .int .i64 0, .int .i64 0, .int .i64 0, .int .i64 0, .bool false, .bool false, .slice none 0 0]) (t := 28) (fun gb329 hg w9 hbox hb => ?_); replace HO328 := Aside0.mk (Kd.R_below (kR_ HO328.out) hb); have BK329 := Aside0.mk (hbox); have GW329 := ge_ hg HB; have GE329 := ge_ hg HB; replace HB := (bs_ HB hb); have NB315_329 := nl_ hg BK315; have NB329_315 := ng_ hg BK315; replace BK315 := (bbA_ BK315 hb); have NB316_329 := nl_ hg BK316; have NB329_316 := ng_ hg BK316; replace BK316 := (bbA_ BK316 hb); clear hb hbox hg; have hnb10 := NB329_315.out; have hnc10 := NB315_329.out; have hnb11 := NB329_316.out; have hnc11 := NB316_329.out; have Z12 := zz9 BK329; obtain ⟨Ao13, co13, eo13⟩ := Kd.R_slice HO328.out; subst eo13; have Z14 := zz2 BK315))
  go_loopg [5, 17] k (fun kq v5 v17 w' => ∃ (x5_1 : Int) (x17_1 : Int) (x317000_1 : Int) (x317001_1 : Int) (x317002_1 : Int) (x317003_1 : Int) (x317004_1 : Int) (x317005_1 : Int) (x317006_1 : Bool) (x317007_1 : Bool) (x330008_1 : List Int) (u330008 : Value), v5 = .int .i64 x5_1 ∧ v17 = .int .i64 x17_1 ∧ Aside0 (impl_Part_whole.l0 kq x5_1 l0_0 (l0_0.length : Int) x17_1 l0_0 a0_1 t318 t319 t320 t321 t322 t323 t324 t325 x330008_1 = some (r1, r2, r3, r4, r5, r6, r7, r8, r9, r10)) ∧ Aside0 (kq ≤ k) ∧ Aside0 (Kd.R (Kd.int .u8) 5 w' w.heap.size (fun _ => True) u330008 x330008_1) ∧ Aside0 (w'.heap[gb315]? = some (.cells #[(.slice (some ad317) l0_0.length c0_0), .int .i64 a0_1] 25 (0, 0))) ∧ Aside0 (w'.heap[gb316]? = some (.cells #[.int .i64 x317000_1, .int .i64 x317001_1, .int .i64 x317002_1, .int .i64 x317003_1, .int .i64 x317004_1, .int .i64 x317005_1, .bool x317006_1, .bool x317007_1, (.slice none 0 0)] 28 (0, 0))) ∧ Aside0 (w'.heap[gb329]? = some (.cells #[.int .i64 t318, .int .i64 t319, .int .i64 t320, .int .i64 t321, .int .i64 t322, .int .i64 t323, .bool t324, .bool t325, u330008] 28 (0, 0))) ∧ Aside0 (Below w.heap.size w w'))
  case atStart => exact ⟨(0), (0), (0), (0), (0), (0), (0), (0), (false), (false), (([] : List Int)), (.slice none 0 0), (by first | rfl | (simp; done) | (simp [*]; done)), (by first | rfl | (simp; done) | (simp [*]; done)), H', ⟨Nat.le_refl _⟩, ⟨by first | exact Kd.R_nil _ _ _ _ _ | exact Kd.N_nil _ _ _ _ _ | exact Kd.V_nil _ _ _ _ _ | exact Kd.Q_nil _ _ _ _ _ | exact Kd.S_nil _ _ _ _ _⟩, ⟨by exact kf_ BK315.out⟩, ⟨by exact kf_ BK316.out⟩, ⟨by refine kb_ ?_; refine blk_put (cs := #[.int .i64 t318, .int .i64 t319, .int .i64 t320, .int .i64 t321, .int .i64 t322, .int .i64 t323, .bool t324, .bool t325, .slice Ao13 t326.length co13]) ?_ 8 _ rfl; refine kb_ ?_; refine pz9 (cs := #[.int .i64 0, .int .i64 0, .int .i64 0, .int .i64 0, .int .i64 0, .int .i64 0, .bool false, .bool false, .slice none 0 0]) ?_; refine kb_ ?_; exact BK329.out⟩, ⟨hbA_ HB.out⟩⟩
  case round =>
   clear H'; (try clear c1); (try clear c2); (try clear c2b0); (try clear c2b1); (try clear p2); (try clear c3); (try clear p3); (try clear q3); (try clear hx3); (try clear qi3); (try clear c4); (try clear c6); (try clear c8); (try clear c10); (try clear c11); (try clear Z12); (try clear Z14); (try clear Z7); (try clear hx317_0); (try clear hx317_1); (try clear hx317_2); (try clear hx317_3); (try clear hx317_4); (try clear hx317_5); (try clear hx317_6); (try clear hx317_7); (try clear hx317_8); (try clear p317); (try clear q317)
   obtain ⟨x5_1, x17_1, x317000_1, x317001_1, x317002_1, x317003_1, x317004_1, x317005_1, x317006_1, x317007_1, x330008_1, u330008, rfl, rfl, HA, HK1, HO_330008, BK315, BK316, BK329, HB⟩ := hrel
   cases gk with
   | zero => exact absurd HA.out (by simp [impl_Part_whole.l0])
   | succ k1 =>
    have H := HA.out; clear HA
    simp only [impl_Part_whole.l0] at H
    by_cases c15 : x17_1 < (l0_0.length : Int)
    ·rw [if_pos c15] at H
     have c15b0 : decide (x17_1 < (l0_0.length : Int)) = true := decide_eq_true c15
     clear c15
     by_cases c16 : 0 ≤ x17_1
     ·rw [if_pos c16] at H
      have c16b0 : decide (0 ≤ x17_1) = true := decide_eq_true c16
      clear c16
      by_cases c17 : x17_1 < (l0_0.length : Int)
      ·rw [if_pos c17] at H
       have c17b0 : decide (x17_1 < (l0_0.length : Int)) = true := decide_eq_true c17
       clear c17
       by_cases c18 : ((rd_T28 l0_0 x17_1).f5) = x5_1
       ·rw [if_pos c18] at H
        have c18b0 : (((rd_T28 l0_0 x17_1).f5) == x5_1) = true := beq_iff_eq.mpr c18
        have c18b1 : (((rd_T28 l0_0 x17_1).f5) != x5_1) = false := bne_eq_false_iff_eq.mpr c18
        clear c18
        by_cases c19 : x330008_1.length + ((rd_T28 l0_0 x17_1).f8).length < 140737488355328
        ·rw [if_pos c19] at H
         have LMc19 := Aside0.mk c19; clear c19
         obtain ⟨y332, hy332⟩ : ∃ y_ : List Int, y_ = (x330008_1 ++ ((rd_T28 l0_0 x17_1).f8)) := ⟨_, rfl⟩
         (first | replace H := sb_ hy332 H | rw [← hy332] at H)
         have Ny332 := Aside0.mk hy332; clear hy332
         have H' := Aside0.mk H
         clear H
         have p330 : 0 ≤ (x17_1 : Int) := of_decide_eq_true (by first | (with_reducible assumption) | assumption)
         have q330 : x17_1 < (l0_0.length : Int) := of_decide_eq_true (by first | (with_reducible assumption) | assumption)
         obtain ⟨ad330, A330_8, c330_8, e330, hx330_0, hx330_1, hx330_2, hx330_3, hx330_4, hx330_5, hx330_6, hx330_7, hx330_8, hl330_8, hi330_8⟩ := at_T28 HR0_0.out x17_1 p330 q330
         obtain rfl : ad317 = ad330 := (by injection e330)
         replace hx330_0 := cc_ HB hx330_0
         replace hx330_1 := cc_ HB hx330_1
         replace hx330_2 := cc_ HB hx330_2
         replace hx330_3 := cc_ HB hx330_3
         replace hx330_4 := cc_ HB hx330_4
         replace hx330_5 := cc_ HB hx330_5
         replace hx330_6 := cc_ HB hx330_6
         replace hx330_7 := cc_ HB hx330_7
         replace hx330_8 := cc_ HB hx330_8
         have HR330_8 := Aside0.mk hi330_8; have HC330_8 := Aside0.mk hl330_8; clear hi330_8 hl330_8
         replace p330 := eq_true p330
         replace q330 := eq_true q330
         go_wp2_with (first | ((with_reducible refine gate_dst (N := 7) rfl ?_); refine box_ (N := 7) (cs := #[.int .i64 0, .int .i64 0, .int .i64 0, .int .i64 0, .int .i64 0, .int .i64 0, .bool false, .bool false, .slice none 0 0]) (t := 28) (fun gb331 hg w20 hbox hb => ?_); replace HO_330008 := Aside0.mk (Kd.R_below (kR_ HO_330008.out) hb); have BK331 := Aside0.mk (hbox); have GW331 := ge_ hg HB; have GE331 := ge_ hg HB; replace HB := (bs_ HB hb); have NB315_331 := nl_ hg BK315; have NB331_315 := ng_ hg BK315; replace BK315 := (bbA_ BK315 hb); have NB316_331 := nl_ hg BK316; have NB331_316 := ng_ hg BK316; replace BK316 := (bbA_ BK316 hb); have NB329_331 := nl_ hg BK329; have NB331_329 := ng_ hg BK329; replace BK329 := (bbA_ BK329 hb); clear hb hbox hg; have hnb21 := NB331_315.out; have hnc21 := NB315_331.out; have hnb22 := NB331_316.out; have hnc22 := NB316_331.out; have hnb23 := NB331_329.out; have hnc23 := NB329_331.out; have Z24 := zz9 BK331; have hnb25 := NB329_315.out; have hnc25 := NB315_329.out; have hnb26 := NB329_316.out; have hnc26 := NB316_329.out; have Z27 := zz9 BK329) | ((with_reducible refine gate_builtin (b := .append) (xs := #[.tmp 27, .tmp 29]) rfl ?_); at_builtin; refine Kd.R_append_rows (Kd.int .u8) (w0 := w) w.heap.size rfl (.tmp 27) (.tmp 29) 22 5 (.int .u8 0) 1 rfl Try.underlying22 info5 rfl (by decide) (by omega) u330008 x330008_1 ((rd_T28 l0_0 x17_1).f8) _ _ _ (fun _ => True) (fun _ => False) rfl rfl ?aO ?aR (fun _ _ h => h) (fun _ h => h.elim) ?aF ?aB ?aS ?aL ?_; (case aR => exact Kd.C_below HR330_8.out (hbA_ HB.out)); (case aB => exact (hbA_ HB.out)); (case aF => exact (fun _ _ => trivial)); (case aO => exact (by refine kR_ ?_; exact rfm_ ((Kd.R_types HO_330008.out BK331.out (by decide))) (fun _ hk => trivial))); (case aS => exact (below_size (hbA_ HB.out))); (case aL => have := LMc19.out; omega); intro v333 w28 ho hb hg hat; rw [← Ny332.out] at ho; replace BK315 := Aside0.mk (blk_grown (g := gb315) (o := .cells #[.slice (some ad317) l0_0.length c0_0, .int .i64 a0_1] 25 (0, 0)) (by exact kf_ BK315.out) hg (Kd.R_ne HO_330008.out BK315.out (by decide))); replace BK316 := Aside0.mk (blk_grown (g := gb316) (o := .cells #[.int .i64 x317000_1, .int .i64 x317001_1, .int .i64 x317002_1, .int .i64 x317003_1, .int .i64 x317004_1, .int .i64 x317005_1, .bool x317006_1, .bool x317007_1, .slice none 0 0] 28 (0, 0)) (by exact kf_ BK316.out) hg (Kd.R_ne HO_330008.out BK316.out (by decide))); replace BK329 := Aside0.mk (blk_grown (g := gb329) (o := .cells #[.int .i64 t318, .int .i64 t319, .int .i64 t320, .int .i64 t321, .int .i64 t322, .int .i64 t323, .bool t324, .bool t325, u330008] 28 (0, 0)) (by exact kf_ BK329.out) hg (Kd.R_ne HO_330008.out BK329.out (by decide))); replace BK331 := Aside0.mk (blk_grown (g := gb331) (o := .cells #[.int .i64 ((rd_T28 l0_0 x17_1).f0), .int .i64 ((rd_T28 l0_0 x17_1).f1), .int .i64 ((rd_T28 l0_0 x17_1).f2), .int .i64 ((rd_T28 l0_0 x17_1).f3), .int .i64 ((rd_T28 l0_0 x17_1).f4), .int .i64 ((rd_T28 l0_0 x17_1).f5), .bool ((rd_T28 l0_0 x17_1).f6), .bool ((rd_T28 l0_0 x17_1).f7), .slice A330_8 ((rd_T28 l0_0 x17_1).f8).length c330_8] 28 (0, 0)) (by refine kb_ ?_; refine pz9 (cs := #[.int .i64 0, .int .i64 0, .int .i64 0, .int .i64 0, .int .i64 0, .int .i64 0, .bool false, .bool false, .slice none 0 0]) ?_; refine kb_ ?_; exact BK331.out) hg (Kd.R_ne HO_330008.out BK331.out (by decide))); replace HB := Aside0.mk (hb); have HO334 := Aside0.mk (ho); clear HO_330008; clear ho hb hg hat; obtain ⟨Ao29, co29, eo29⟩ := Kd.R_slice HO334.out; subst eo29; have Z30 := zz9 BK329; have Z31 := zz9 BK331))
         go_roundg k1
         case measure => have := HK1.out; omega
         case rel => exact ⟨(wrap64 (x5_1 + (((rd_T28 l0_0 x17_1).f8).length : Int))), (wrap64 (x17_1 + 1)), (x317000_1), (x317001_1), (x317002_1), (x317003_1), (x317004_1), (x317005_1), (x317006_1), (x317007_1), (y332), (.slice Ao29 y332.length co29), (by first | rfl | (simp; done) | (simp [*]; done)), (by first | rfl | (simp; done) | (simp [*]; done)), H', ⟨by have := HK1.out; omega⟩, ⟨by refine kR_ ?_; exact Kd.R_mono (Kd.R_f gb329 8 (.slice Ao29 y332.length co29) (Kd.R_types HO334.out BK329.out (by decide))) (fun _ hk => trivial)⟩, ⟨by exact kf_ BK315.out⟩, ⟨by exact kf_ BK316.out⟩, ⟨by refine kb_ ?_; refine blk_put (cs := #[.int .i64 t318, .int .i64 t319, .int .i64 t320, .int .i64 t321, .int .i64 t322, .int .i64 t323, .bool t324, .bool t325, u330008]) ?_ 8 _ rfl; refine kb_ ?_; exact BK329.out⟩, ⟨hbA_ HB.out⟩⟩
        ·rw [if_neg c19] at H
         exact absurd H (by simp)
       ·rw [if_neg c18] at H
        have c18b0 : (((rd_T28 l0_0 x17_1).f5) == x5_1) = false := beq_eq_false_iff_ne.mpr c18
        have c18b1 : (((rd_T28 l0_0 x17_1).f5) != x5_1) = true := bne_iff_ne.mpr c18
        simp only [Option.some.injEq, Prod.mk.injEq] at H
        obtain ⟨rfl, rfl, rfl, rfl, rfl, rfl, rfl, rfl, rfl, rfl⟩ := H
        have p330 : 0 ≤ (x17_1 : Int) := of_decide_eq_true (by first | (with_reducible assumption) | assumption)
        have q330 : x17_1 < (l0_0.length : Int) := of_decide_eq_true (by first | (with_reducible assumption) | assumption)
        obtain ⟨ad330, A330_8, c330_8, e330, hx330_0, hx330_1, hx330_2, hx330_3, hx330_4, hx330_5, hx330_6, hx330_7, hx330_8, hl330_8, hi330_8⟩ := at_T28 HR0_0.out x17_1 p330 q330
        obtain rfl : ad317 = ad330 := (by injection e330)
        replace hx330_0 := cc_ HB hx330_0
        replace hx330_1 := cc_ HB hx330_1
        replace hx330_2 := cc_ HB hx330_2
        replace hx330_3 := cc_ HB hx330_3
        replace hx330_4 := cc_ HB hx330_4
        replace hx330_5 := cc_ HB hx330_5
        replace hx330_6 := cc_ HB hx330_6
        replace hx330_7 := cc_ HB hx330_7
        replace hx330_8 := cc_ HB hx330_8
        have HR330_8 := Aside0.mk hi330_8; have HC330_8 := Aside0.mk hl330_8; clear hi330_8 hl330_8
        replace p330 := eq_true p330
        replace q330 := eq_true q330
        go_wp2_with (first | ((with_reducible refine gate_dst (N := 7) rfl ?_); refine box_ (N := 7) (cs := #[.int .i64 0, .int .i64 0, .int .i64 0, .int .i64 0, .int .i64 0, .int .i64 0, .bool false, .bool false, .slice none 0 0]) (t := 28) (fun gb331 hg w32 hbox hb => ?_); replace HO_330008 := Aside0.mk (Kd.R_below (kR_ HO_330008.out) hb); have BK331 := Aside0.mk (hbox); have GW331 := ge_ hg HB; have GE331 := ge_ hg HB; replace HB := (bs_ HB hb); have NB315_331 := nl_ hg BK315; have NB331_315 := ng_ hg BK315; replace BK315 := (bbA_ BK315 hb); have NB316_331 := nl_ hg BK316; have NB331_316 := ng_ hg BK316; replace BK316 := (bbA_ BK316 hb); have NB329_331 := nl_ hg BK329; have NB331_329 := ng_ hg BK329; replace BK329 := (bbA_ BK329 hb); clear hb hbox hg; have hnb33 := NB331_315.out; have hnc33 := NB315_331.out; have hnb34 := NB331_316.out; have hnc34 := NB316_331.out; have hnb35 := NB331_329.out; have hnc35 := NB329_331.out; have Z36 := zz9 BK331; have hnb37 := NB316_315.out; have hnc37 := NB315_316.out; have hnb38 := NB316_329.out; have hnc38 := NB329_316.out; have Z39 := zz9 BK316))
        refine bodyPost_ret (results_ct rfl _ _ gb316 28 #[.int .i64 0, .int .i64 0, .int .i64 0, .int .i64 0, .int .i64 0, .int .i64 0, .bool false, .bool false, .slice none 0 0] (0, 0) _ rfl (by refine kb_ ?_; refine pz9 (cs := #[.int .i64 x317000_1, .int .i64 x317001_1, .int .i64 x317002_1, .int .i64 x317003_1, .int .i64 x317004_1, .int .i64 x317005_1, .bool x317006_1, .bool x317007_1, .slice none 0 0]) ?_; exact kf_ BK316.out) Try.underlying28 rfl (by kernel_rfl)) rfl ?_
        exact ⟨_, by first | rfl | (simp [errW_none, errW_some] <;> rfl) | (simp [*, errW_none, errW_some] <;> rfl), by first | exact Kd.R_nil _ _ _ _ _ | exact Kd.N_nil _ _ _ _ _ | exact Kd.V_nil _ _ _ _ _ | exact Kd.Q_nil _ _ _ _ _ | exact Kd.S_nil _ _ _ _ _, hbA_ HB.out⟩
      ·rw [if_neg c17] at H
       exact absurd H (by simp)
     ·rw [if_neg c16] at H
      exact absurd H (by simp)
    ·rw [if_neg c15] at H
     have c15b0 : decide (x17_1 < (l0_0.length : Int)) = false := decide_eq_false c15
     clear c15
     obtain ⟨ji40, hji40⟩ : ∃ j_ : Int, (wrap64 ((l0_0.length : Int) - 1)) = j_ := ⟨_, rfl⟩
     (first | rw [hji40] at H | simp only [hji40] at H)
     have hji40w : (IntKind.i64.wrap ((l0_0.length : Int) - 1)) = ji40 := (i64_w _).trans hji40
     by_cases c41 : 0 ≤ (ji40)
     ·rw [if_pos c41] at H
      have c41b0 : decide (0 ≤ (ji40)) = true := decide_eq_true c41
      clear c41
      by_cases c42 : (ji40) < (l0_0.length : Int)
      ·rw [if_pos c42] at H
       have c42b0 : decide ((ji40) < (l0_0.length : Int)) = true := decide_eq_true c42
       clear c42
       obtain ⟨bq43, hbq43⟩ : ∃ b_ : Bool, b_ = ((rd_T28 l0_0 (ji40)).f6) := ⟨_, rfl⟩
       replace H : (if bq43 = true then (some (0, 0, 0, 0, 0, 0, false, false, ([] : List Int), false)) else ((impl_Packet_copy.f t318 t319 t320 t321 t322 t323 false t325 x330008_1).bind fun bt336 => (some (bt336.1, bt336.2.1, bt336.2.2.1, bt336.2.2.2.1, bt336.2.2.2.2.1, bt336.2.2.2.2.2.1, bt336.2.2.2.2.2.2.1, bt336.2.2.2.2.2.2.2.1, bt336.2.2.2.2.2.2.2.2, true)))) = some (r1, r2, r3, r4, r5, r6, r7, r8, r9, r10) := by rw [← hbq43] at H; exact H
       have Nbq43 := Aside0.mk hbq43; clear hbq43
       by_cases c44 : bq43 = true
       ·subst c44
        rw [if_pos rfl] at H
        simp only [Option.some.injEq, Prod.mk.injEq] at H
        obtain ⟨rfl, rfl, rfl, rfl, rfl, rfl, rfl, rfl, rfl, rfl⟩ := H
        have hnb45 := NB315_316.out; have hnc45 := NB316_315.out; have hnb46 := NB315_329.out; have hnc46 := NB329_315.out; have Z47 := zz2 BK315
        have p335 : 0 ≤ ((ji40) : Int) := of_decide_eq_true (by first | (with_reducible assumption) | assumption)
        have q335 : (ji40) < (l0_0.length : Int) := of_decide_eq_true (by first | (with_reducible assumption) | assumption)
        obtain ⟨ad335, A335_8, c335_8, e335, hx335_0, hx335_1, hx335_2, hx335_3, hx335_4, hx335_5, hx335_6, hx335_7, hx335_8, hl335_8, hi335_8⟩ := at_T28 HR0_0.out (ji40) p335 q335
        (try rw [← Nbq43.out] at hx335_6)
        (try rw [← Nbq43.out] at hx335_7)
        obtain rfl : ad317 = ad335 := (by injection e335)
        replace hx335_0 := cc_ HB hx335_0
        replace hx335_1 := cc_ HB hx335_1
        replace hx335_2 := cc_ HB hx335_2
        replace hx335_3 := cc_ HB hx335_3
        replace hx335_4 := cc_ HB hx335_4
        replace hx335_5 := cc_ HB hx335_5
        replace hx335_6 := cc_ HB hx335_6
        replace hx335_7 := cc_ HB hx335_7
        replace hx335_8 := cc_ HB hx335_8
        have HR335_8 := Aside0.mk hi335_8; have HC335_8 := Aside0.mk hl335_8; clear hi335_8 hl335_8
        replace p335 := eq_true p335
        replace q335 := eq_true q335
        have hnb48 := NB316_329.out; have hnc48 := NB329_316.out; have Z49 := zz9 BK316
        go_wp2
        refine bodyPost_ret (results_ct rfl _ _ gb316 28 #[.int .i64 0, .int .i64 0, .int .i64 0, .int .i64 0, .int .i64 0, .int .i64 0, .bool false, .bool false, .slice none 0 0] (0, 0) _ rfl (by refine kb_ ?_; refine pz9 (cs := #[.int .i64 x317000_1, .int .i64 x317001_1, .int .i64 x317002_1, .int .i64 x317003_1, .int .i64 x317004_1, .int .i64 x317005_1, .bool x317006_1, .bool x317007_1, .slice none 0 0]) ?_; refine kb_ ?_; exact BK316.out) Try.underlying28 rfl (by kernel_rfl)) rfl ?_
        exact ⟨_, by first | rfl | (simp [errW_none, errW_some] <;> rfl) | (simp only [← hji40]; first | rfl | (simp [errW_none, errW_some] <;> rfl)) | (simp [*, errW_none, errW_some] <;> rfl), by first | exact Kd.R_nil _ _ _ _ _ | exact Kd.N_nil _ _ _ _ _ | exact Kd.V_nil _ _ _ _ _ | exact Kd.Q_nil _ _ _ _ _ | exact Kd.S_nil _ _ _ _ _, hbA_ HB.out⟩
       ·replace c44 := Bool.eq_false_iff.mpr c44
        subst c44
        rw [if_neg (show ¬ (false = true) by decide)] at H
        replace H := Option.bind_eq_some_iff.mp H
        obtain ⟨⟨t336, t337, t338, t339, t340, t341, t342, t343, t344⟩, A500, H⟩ := H
        (try dsimp only at H)
        have A50 := Aside0.mk A500; clear A500
        simp only [Option.some.injEq, Prod.mk.injEq] at H
        obtain ⟨rfl, rfl, rfl, rfl, rfl, rfl, rfl, rfl, rfl, rfl⟩ := H
        have hnb51 := NB315_316.out; have hnc51 := NB316_315.out; have hnb52 := NB315_329.out; have hnc52 := NB329_315.out; have Z53 := zz2 BK315
        have p335 : 0 ≤ ((ji40) : Int) := of_decide_eq_true (by first | (with_reducible assumption) | assumption)
        have q335 : (ji40) < (l0_0.length : Int) := of_decide_eq_true (by first | (with_reducible assumption) | assumption)
        obtain ⟨ad335, A335_8, c335_8, e335, hx335_0, hx335_1, hx335_2, hx335_3, hx335_4, hx335_5, hx335_6, hx335_7, hx335_8, hl335_8, hi335_8⟩ := at_T28 HR0_0.out (ji40) p335 q335
        (try rw [← Nbq43.out] at hx335_6)
        (try rw [← Nbq43.out] at hx335_7)
        obtain rfl : ad317 = ad335 := (by injection e335)
        replace hx335_0 := cc_ HB hx335_0
        replace hx335_1 := cc_ HB hx335_1
        replace hx335_2 := cc_ HB hx335_2
        replace hx335_3 := cc_ HB hx335_3
        replace hx335_4 := cc_ HB hx335_4
        replace hx335_5 := cc_ HB hx335_5
        replace hx335_6 := cc_ HB hx335_6
        replace hx335_7 := cc_ HB hx335_7
        replace hx335_8 := cc_ HB hx335_8
        have HR335_8 := Aside0.mk hi335_8; have HC335_8 := Aside0.mk hl335_8; clear hi335_8 hl335_8
        replace p335 := eq_true p335
        replace q335 := eq_true q335
        have hnb54 := NB329_316.out; have hnc54 := NB316_329.out; have Z55 := zz9 BK329
        obtain ⟨Ao56, co56, eo56⟩ := Kd.R_slice HO_330008.out
        subst eo56
        go_wp2_with (first | ((with_reducible refine gate_callee (f := 82) rfl ?_); refine goesL_ (some 50) rfl rfl Try.func82 (by kernel_rfl) rfl #[.agg #[.int .i64 t318, .int .i64 t319, .int .i64 t320, .int .i64 t321, .int .i64 t322, .int .i64 t323, .bool false, .bool t325, .slice Ao56 x330008_1.length co56]] rfl ar_ ?_; (with_reducible refine (impl_Packet_copy.calls t318 t319 t320 t321 t322 t323 false t325 _ _ x330008_1 t336 t337 t338 t339 t340 t341 t342 t343 t344 _ ?side1 ?side2 A50.out).mono ?_); (case side1 => refine (Kd.R_reads' (e := 5) (base := w.heap.size) (ok := fun k_ => True) (n := x330008_1.length) (c := co56) ?_).2.2; exact (by refine kR_ ?_; exact (Kd.R_mono (Kd.R_f gb329 6 (.bool false) (Kd.R_types HO_330008.out BK329.out (by decide))) (fun _ h_ => op1_ h_)))); (case side2 => exact (Kd.R_reads' HO_330008.out).2.1); rintro e w57 ⟨v345, rfl, ho0, hb⟩; refine ⟨_, rfl, ?_⟩; have HO346 := Aside0.mk (Kd.R_lower (Kd.R_new' ho0 (Kd.R_lt (by refine kR_ ?_; exact (Kd.R_mono (Kd.R_f gb329 6 (.bool false) (Kd.R_types HO_330008.out BK329.out (by decide))) (fun _ h_ => op1_ h_))))) (below_size (hbA_ HB.out))); replace HO_330008 := Aside0.mk (Kd.R_elder' (by refine kR_ ?_; exact (Kd.R_mono (Kd.R_f gb329 6 (.bool false) (Kd.R_types HO_330008.out BK329.out (by decide))) (fun _ h_ => op1_ h_))) (Kd.R_base ho0) hb); replace BK315 := Aside0.mk (blk_below (g := gb315) (o := .cells #[.slice (some ad317) l0_0.length c0_0, .int .i64 a0_1] 25 (0, 0)) (by exact kf_ BK315.out) hb); replace BK316 := Aside0.mk (blk_below (g := gb316) (o := .cells #[.int .i64 x317000_1, .int .i64 x317001_1, .int .i64 x317002_1, .int .i64 x317003_1, .int .i64 x317004_1, .int .i64 x317005_1, .bool x317006_1, .bool x317007_1, .slice none 0 0] 28 (0, 0)) (by exact kf_ BK316.out) hb); replace BK329 := Aside0.mk (blk_below (g := gb329) (o := .cells #[.int .i64 t318, .int .i64 t319, .int .i64 t320, .int .i64 t321, .int .i64 t322, .int .i64 t323, .bool false, .bool t325, .slice Ao56 x330008_1.length co56] 28 (0, 0)) (by refine kb_ ?_; refine blk_put (cs := #[.int .i64 t318, .int .i64 t319, .int .i64 t320, .int .i64 t321, .int .i64 t322, .int .i64 t323, .bool t324, .bool t325, .slice Ao56 x330008_1.length co56]) ?_ 6 _ rfl; refine kb_ ?_; exact BK329.out) hb); replace HB := (bs_ HB hb); (try clear hb); (try clear hb2); (try clear hk); (try clear hi); (try clear ho0); have Z58 := zz9 BK316; obtain ⟨Ao59, co59, eo59⟩ := Kd.R_slice HO346.out; subst eo59))
        refine bodyPost_ret (results_ct rfl _ _ gb316 28 #[.int .i64 t336, .int .i64 t337, .int .i64 t338, .int .i64 t339, .int .i64 t340, .int .i64 t341, .bool t342, .bool t343, .slice Ao59 t344.length co59] (0, 0) _ rfl (by refine kb_ ?_; refine pz9 (cs := #[.int .i64 x317000_1, .int .i64 x317001_1, .int .i64 x317002_1, .int .i64 x317003_1, .int .i64 x317004_1, .int .i64 x317005_1, .bool x317006_1, .bool x317007_1, .slice none 0 0]) ?_; refine kb_ ?_; exact BK316.out) Try.underlying28 rfl (by kernel_rfl)) rfl ?_
        exact ⟨_, by first | rfl | (simp [errW_none, errW_some] <;> rfl) | (simp only [← hji40]; first | rfl | (simp [errW_none, errW_some] <;> rfl)) | (simp [*, errW_none, errW_some] <;> rfl), by refine kR_ ?_; exact rfm_ ((Kd.R_types HO346.out BK316.out (by decide))) (fun _ hk => trivial), hbA_ HB.out⟩
      ·rw [if_neg c42] at H
       exact absurd H (by simp)
     ·rw [if_neg c41] at H
      exact absurd H (by simp)
 ·rw [if_neg c2] at H
  exact absurd H (by simp)
def impl_PartWhole.f (k : Nat) (l0_0 : List (S28)) (a0_1 : Int) : Option (Int × Int × Int × Int × Int × Int × Bool × Bool × List Int × Bool) := (impl_PartOk.f k l0_0 a0_1).bind fun t349 => (if t349 = true then ((impl_Part_whole.f k l0_0 a0_1).bind fun bt350 => (some (bt350.1, bt350.2.1, bt350.2.2.1, bt350.2.2.2.1, bt350.2.2.2.2.1, bt350.2.2.2.2.2.1, bt350.2.2.2.2.2.2.1, bt350.2.2.2.2.2.2.2.1, bt350.2.2.2.2.2.2.2.2.1, bt350.2.2.2.2.2.2.2.2.2))) else (some (0, 0, 0, 0, 0, 0, false, false, ([] : List Int), false)))
theorem impl_PartWhole.mono : ∀ a0 a1 k, LeO (impl_PartWhole.f k a0 a1) (impl_PartWhole.f (k + 1) a0 a1) := by
 intro a0 a1 k
 unfold impl_PartWhole.f
 repeat' first | (with_reducible first | apply impl_PartOk.mono | apply impl_Part_whole.mono | exact LeO.refl _ | exact LeO.none _ | refine LeO.ite ?_ ?_ | refine LeO.bind ?_ fun _ => ?_) | apply impl_PartOk.mono | apply impl_Part_whole.mono | exact LeO.none _ | refine LeO.ite ?_ ?_ | refine LeO.bind ?_ fun _ => ?_
set_option maxHeartbeats 8000000 in
set_option maxRecDepth 100000 in
theorem impl_PartWhole.calls (k : Nat) (A0_0 : Option Addr) (c0_0 : Nat) (l0_0 : List (S28)) (a0_1 : Int) (r1 : Int) (r2 : Int) (r3 : Int) (r4 : Int) (r5 : Int) (r6 : Int) (r7 : Bool) (r8 : Bool) (r9 : List Int) (r10 : Bool) (w : World) (hr0_0 : Kd.C k28 w A0_0 l0_0.length l0_0) (hc0_0 : l0_0.length ≤ c0_0) (h : impl_PartWhole.f k l0_0 a0_1 = some (r1, r2, r3, r4, r5, r6, r7, r8, r9, r10)) :
  Calls Try.prog 10 #[.agg #[.slice A0_0 l0_0.length c0_0, .int .i64 a0_1]] w fun e w' => ∃ v8_ : Value, e = .returned (.tuple #[.agg #[.int .i64 r1, .int .i64 r2, .int .i64 r3, .int .i64 r4, .int .i64 r5, .int .i64 r6, .bool r7, .bool r8, v8_], .bool r10]) ∧ Kd.R (Kd.int .u8) 5 w' w.heap.size (fun _ => True) v8_ r9 ∧ Below w.heap.size w w' := by
 have hu25 := Try.underlying25; have hu28 := Try.underlying28; have HR0_0 := Aside0.mk hr0_0; have HC0_0 := Aside0.mk hc0_0; clear hr0_0 hc0_0
 have HB := Aside0.mk (Below.refl w.heap.size w)
 have H : ((impl_PartOk.f k l0_0 a0_1).bind fun t349 => (if t349 = true then ((impl_Part_whole.f k l0_0 a0_1).bind fun bt350 => (some (bt350.1, bt350.2.1, bt350.2.2.1, bt350.2.2.2.1, bt350.2.2.2.2.1, bt350.2.2.2.2.2.1, bt350.2.2.2.2.2.2.1, bt350.2.2.2.2.2.2.2.1, bt350.2.2.2.2.2.2.2.2.1, bt350.2.2.2.2.2.2.2.2.2))) else (some (0, 0, 0, 0, 0, 0, false, false, ([] : List Int), false)))) = some (r1, r2, r3, r4, r5, r6, r7, r8, r9, r10) := h
 clear h
 replace H := Option.bind_eq_some_iff.mp H
 obtain ⟨t349, A20, H⟩ := H
 (try dsimp only at H)
 have A2 := Aside0.mk A20; clear A20
 by_cases c3 : t349 = true
 ·subst c3
  rw [if_pos rfl] at H
  replace H := Option.bind_eq_some_iff.mp H
  obtain ⟨⟨t350, t351, t352, t353, t354, t355, t356, t357, t358, t361⟩, A40, H⟩ := H
  (try dsimp only at H)
  have A4 := Aside0.mk A40; clear A40
  simp only [Option.some.injEq, Prod.mk.injEq] at H
  obtain ⟨rfl, rfl, rfl, rfl, rfl, rfl, rfl, rfl, rfl, rfl⟩ := H
  go_enter Try.func10, Try.ntmps10
  go_wp2_with (first | ((with_reducible refine gate_dst (N := 1) rfl ?_); refine box_ (N := 1) (cs := #[.slice A0_0 l0_0.length c0_0, .int .i64 a0_1]) (t := 25) (fun gb347 hg w5 hbox hb => ?_); have BK347 := Aside0.mk (hbox); have GW347 := ge_ hg HB; have GE347 := ge_ hg HB; replace HB := (bs_ HB hb); clear hb hbox hg) | ((with_reducible refine gate_dst (N := 2) rfl ?_); refine box_ (N := 2) (cs := #[.int .i64 0, .int .i64 0, .int .i64 0, .int .i64 0, .int .i64 0, .int .i64 0, .bool false, .bool false, .slice none 0 0]) (t := 28) (fun gb348 hg w6 hbox hb => ?_); have BK348 := Aside0.mk (hbox); have GW348 := ge_ hg HB; have GE348 := ge_ hg HB; replace HB := (bs_ HB hb); have NB347_348 := nl_ hg BK347; have NB348_347 := ng_ hg BK347; replace BK347 := (bbA_ BK347 hb); clear hb hbox hg; have hnb7 := NB347_348.out; have hnc7 := NB348_347.out; have Z8 := zz2 BK347) | ((with_reducible refine gate_callee (f := 44) rfl ?_); refine goesL_ (some 5) rfl rfl Try.func44 (by kernel_rfl) rfl #[.agg #[.slice A0_0 l0_0.length c0_0, .int .i64 a0_1]] rfl ar_ ?_; (with_reducible refine (impl_PartOk.calls k _ _ l0_0 a0_1 true _ ?side1 ?side2 A2.out).mono ?_); (case side1 => exact kC_ (Kd.C_below HR0_0.out HB.out)); (case side2 => exact HC0_0.out); rintro e w9 ⟨rfl, hb⟩; refine ⟨_, rfl, ?_⟩; replace BK347 := (bbA_ BK347 hb); replace BK348 := (bbA_ BK348 hb); replace HB := (bs_ HB hb); (try clear hb); (try clear hb2); (try clear hk); (try clear hi); have Z10 := zz2 BK347) | ((with_reducible refine gate_callee (f := 45) rfl ?_); refine goesL_ (some 9) rfl rfl Try.func45 (by kernel_rfl) rfl #[.agg #[.slice A0_0 l0_0.length c0_0, .int .i64 a0_1]] rfl ar_ ?_; (with_reducible refine (impl_Part_whole.calls k _ _ l0_0 a0_1 t350 t351 t352 t353 t354 t355 t356 t357 t358 t361 _ ?side1 ?side2 A4.out).mono ?_); (case side1 => exact kC_ (Kd.C_below HR0_0.out HB.out)); (case side2 => exact HC0_0.out); rintro e w11 ⟨v359, rfl, ho0, hb⟩; refine ⟨_, rfl, ?_⟩; have HO360 := Aside0.mk (Kd.R_lower ho0 (below_size (hbA_ HB.out))); replace BK347 := (bbA_ BK347 hb); replace BK348 := (bbA_ BK348 hb); replace HB := (bs_ HB hb); (try clear hb); (try clear hb2); (try clear hk); (try clear hi); (try clear ho0); have Z12 := zz9 BK348; obtain ⟨Ao13, co13, eo13⟩ := Kd.R_slice HO360.out; subst eo13))
  refine bodyPost_ret (results_ct rfl _ _ gb348 28 #[.int .i64 t350, .int .i64 t351, .int .i64 t352, .int .i64 t353, .int .i64 t354, .int .i64 t355, .bool t356, .bool t357, .slice Ao13 t358.length co13] (0, 0) _ rfl (by refine kb_ ?_; refine pz9 (cs := #[.int .i64 0, .int .i64 0, .int .i64 0, .int .i64 0, .int .i64 0, .int .i64 0, .bool false, .bool false, .slice none 0 0]) ?_; refine kb_ ?_; exact BK348.out) Try.underlying28 rfl (by kernel_rfl)) rfl ?_
  exact ⟨_, by first | rfl | (simp [errW_none, errW_some] <;> rfl) | (simp [*, errW_none, errW_some] <;> rfl), by refine kR_ ?_; exact rfm_ ((Kd.R_types HO360.out BK348.out (by decide))) (fun _ hk => trivial), hbA_ HB.out⟩
 ·replace c3 := Bool.eq_false_iff.mpr c3
  subst c3
  rw [if_neg (show ¬ (false = true) by decide)] at H
  simp only [Option.some.injEq, Prod.mk.injEq] at H
  obtain ⟨rfl, rfl, rfl, rfl, rfl, rfl, rfl, rfl, rfl, rfl⟩ := H
  go_enter Try.func10, Try.ntmps10
  go_wp2_with (first | ((with_reducible refine gate_dst (N := 1) rfl ?_); refine box_ (N := 1) (cs := #[.slice A0_0 l0_0.length c0_0, .int .i64 a0_1]) (t := 25) (fun gb347 hg w14 hbox hb => ?_); have BK347 := Aside0.mk (hbox); have GW347 := ge_ hg HB; have GE347 := ge_ hg HB; replace HB := (bs_ HB hb); clear hb hbox hg) | ((with_reducible refine gate_dst (N := 2) rfl ?_); refine box_ (N := 2) (cs := #[.int .i64 0, .int .i64 0, .int .i64 0, .int .i64 0, .int .i64 0, .int .i64 0, .bool false, .bool false, .slice none 0 0]) (t := 28) (fun gb348 hg w15 hbox hb => ?_); have BK348 := Aside0.mk (hbox); have GW348 := ge_ hg HB; have GE348 := ge_ hg HB; replace HB := (bs_ HB hb); have NB347_348 := nl_ hg BK347; have NB348_347 := ng_ hg BK347; replace BK347 := (bbA_ BK347 hb); clear hb hbox hg; have hnb16 := NB347_348.out; have hnc16 := NB348_347.out; have Z17 := zz2 BK347) | ((with_reducible refine gate_callee (f := 44) rfl ?_); refine goesL_ (some 5) rfl rfl Try.func44 (by kernel_rfl) rfl #[.agg #[.slice A0_0 l0_0.length c0_0, .int .i64 a0_1]] rfl ar_ ?_; (with_reducible refine (impl_PartOk.calls k _ _ l0_0 a0_1 false _ ?side1 ?side2 A2.out).mono ?_); (case side1 => exact kC_ (Kd.C_below HR0_0.out HB.out)); (case side2 => exact HC0_0.out); rintro e w18 ⟨rfl, hb⟩; refine ⟨_, rfl, ?_⟩; replace BK347 := (bbA_ BK347 hb); replace BK348 := (bbA_ BK348 hb); replace HB := (bs_ HB hb); (try clear hb); (try clear hb2); (try clear hk); (try clear hi); have Z19 := zz9 BK348))
  refine bodyPost_ret (results_ct rfl _ _ gb348 28 #[.int .i64 0, .int .i64 0, .int .i64 0, .int .i64 0, .int .i64 0, .int .i64 0, .bool false, .bool false, .slice none 0 0] (0, 0) _ rfl (by refine kb_ ?_; refine pz9 (cs := #[.int .i64 0, .int .i64 0, .int .i64 0, .int .i64 0, .int .i64 0, .int .i64 0, .bool false, .bool false, .slice none 0 0]) ?_; refine kb_ ?_; exact BK348.out) Try.underlying28 rfl (by kernel_rfl)) rfl ?_
  exact ⟨_, by first | rfl | (simp [errW_none, errW_some] <;> rfl) | (simp [*, errW_none, errW_some] <;> rfl), by first | exact Kd.R_nil _ _ _ _ _ | exact Kd.N_nil _ _ _ _ _ | exact Kd.V_nil _ _ _ _ _ | exact Kd.Q_nil _ _ _ _ _ | exact Kd.S_nil _ _ _ _ _, hbA_ HB.out⟩
def spec_l5Same.f (a0_0 : Int) (a0_1 : Int) (a0_2 : Int) (a0_3 : Int) (a0_4 : Int) (a0_5 : Int) (a0_6 : Bool) (a0_7 : Bool) (l0_8 : List Int) (a1_0 : Int) (a1_1 : Int) (a1_2 : Int) (a1_3 : Int) (a1_4 : Int) (a1_5 : Int) (a1_6 : Bool) (a1_7 : Bool) (l1_8 : List Int) : Option (Bool) := if a0_0 = a1_0 then (if a0_1 = a1_1 then (if a0_2 = a1_2 then (some (a0_4 == a1_4)) else (some false)) else (some false)) else (some false)
set_option maxHeartbeats 8000000 in
set_option maxRecDepth 100000 in
theorem spec_l5Same.calls (a0_0 : Int) (a0_1 : Int) (a0_2 : Int) (a0_3 : Int) (a0_4 : Int) (a0_5 : Int) (a0_6 : Bool) (a0_7 : Bool) (A0_8 : Option Addr) (c0_8 : Nat) (l0_8 : List Int) (a1_0 : Int) (a1_1 : Int) (a1_2 : Int) (a1_3 : Int) (a1_4 : Int) (a1_5 : Int) (a1_6 : Bool) (a1_7 : Bool) (A1_8 : Option Addr) (c1_8 : Nat) (l1_8 : List Int) (r : Bool) (w : World) (hr0_8 : Kd.C (Kd.int .u8) w A0_8 l0_8.length l0_8) (hc0_8 : l0_8.length ≤ c0_8) (hr1_8 : Kd.C (Kd.int .u8) w A1_8 l1_8.length l1_8) (hc1_8 : l1_8.length ≤ c1_8) (h : spec_l5Same.f a0_0 a0_1 a0_2 a0_3 a0_4 a0_5 a0_6 a0_7 l0_8 a1_0 a1_1 a1_2 a1_3 a1_4 a1_5 a1_6 a1_7 l1_8 = some r) :
  Calls Try.prog 83 #[.agg #[.int .i64 a0_0, .int .i64 a0_1, .int .i64 a0_2, .int .i64 a0_3, .int .i64 a0_4, .int .i64 a0_5, .bool a0_6, .bool a0_7, .slice A0_8 l0_8.length c0_8], .agg #[.int .i64 a1_0, .int .i64 a1_1, .int .i64 a1_2, .int .i64 a1_3, .int .i64 a1_4, .int .i64 a1_5, .bool a1_6, .bool a1_7, .slice A1_8 l1_8.length c1_8]] w fun e w' => e = .returned (.bool r) ∧ Below w.heap.size w w' := by
 have hu28 := Try.underlying28; have HR0_8 := Aside0.mk hr0_8; have HC0_8 := Aside0.mk hc0_8; clear hr0_8 hc0_8; have HR1_8 := Aside0.mk hr1_8; have HC1_8 := Aside0.mk hc1_8; clear hr1_8 hc1_8
 have HB := Aside0.mk (Below.refl w.heap.size w)
 have H : (if a0_0 = a1_0 then (if a0_1 = a1_1 then (if a0_2 = a1_2 then (some (a0_4 == a1_4)) else (some false)) else (some false)) else (some false)) = some r := h
 clear h
 by_cases c3 : a0_0 = a1_0
 ·rw [if_pos c3] at H
  have c3b0 : (a0_0 == a1_0) = true := beq_iff_eq.mpr c3
  have c3b1 : (a0_0 != a1_0) = false := bne_eq_false_iff_eq.mpr c3
  clear c3
  by_cases c4 : a0_1 = a1_1
  ·rw [if_pos c4] at H
   have c4b0 : (a0_1 == a1_1) = true := beq_iff_eq.mpr c4
   have c4b1 : (a0_1 != a1_1) = false := bne_eq_false_iff_eq.mpr c4
   clear c4
   by_cases c5 : a0_2 = a1_2
   ·rw [if_pos c5] at H
    have c5b0 : (a0_2 == a1_2) = true := beq_iff_eq.mpr c5
    have c5b1 : (a0_2 != a1_2) = false := bne_eq_false_iff_eq.mpr c5
    clear c5
    obtain rfl := Option.some.inj H
    go_enter Try.func83, Try.ntmps83
    go_wp2_with (first | ((with_reducible refine gate_dst (N := 2) rfl ?_); refine box_ (N := 2) (cs := #[.int .i64 a0_0, .int .i64 a0_1, .int .i64 a0_2, .int .i64 a0_3, .int .i64 a0_4, .int .i64 a0_5, .bool a0_6, .bool a0_7, .slice A0_8 l0_8.length c0_8]) (t := 28) (fun gb362 hg w6 hbox hb => ?_); have BK362 := Aside0.mk (hbox); have GW362 := ge_ hg HB; have GE362 := ge_ hg HB; replace HB := (bs_ HB hb); clear hb hbox hg) | ((with_reducible refine gate_dst (N := 3) rfl ?_); refine box_ (N := 3) (cs := #[.int .i64 a1_0, .int .i64 a1_1, .int .i64 a1_2, .int .i64 a1_3, .int .i64 a1_4, .int .i64 a1_5, .bool a1_6, .bool a1_7, .slice A1_8 l1_8.length c1_8]) (t := 28) (fun gb363 hg w7 hbox hb => ?_); have BK363 := Aside0.mk (hbox); have GW363 := ge_ hg HB; have GE363 := ge_ hg HB; replace HB := (bs_ HB hb); have NB362_363 := nl_ hg BK362; have NB363_362 := ng_ hg BK362; replace BK362 := (bbA_ BK362 hb); clear hb hbox hg; have hnb8 := NB362_363.out; have hnc8 := NB363_362.out; have Z9 := zz9 BK362; have Z10 := zz9 BK363))
    go_ret
    exact ⟨by first | rfl | (simp [errW_none, errW_some] <;> rfl) | (simp [*, errW_none, errW_some] <;> rfl), hbA_ HB.out⟩
   ·rw [if_neg c5] at H
    have c5b0 : (a0_2 == a1_2) = false := beq_eq_false_iff_ne.mpr c5
    have c5b1 : (a0_2 != a1_2) = true := bne_iff_ne.mpr c5
    obtain rfl := Option.some.inj H
    go_enter Try.func83, Try.ntmps83
    go_wp2_with (first | ((with_reducible refine gate_dst (N := 2) rfl ?_); refine box_ (N := 2) (cs := #[.int .i64 a0_0, .int .i64 a0_1, .int .i64 a0_2, .int .i64 a0_3, .int .i64 a0_4, .int .i64 a0_5, .bool a0_6, .bool a0_7, .slice A0_8 l0_8.length c0_8]) (t := 28) (fun gb362 hg w11 hbox hb => ?_); have BK362 := Aside0.mk (hbox); have GW362 := ge_ hg HB; have GE362 := ge_ hg HB; replace HB := (bs_ HB hb); clear hb hbox hg) | ((with_reducible refine gate_dst (N := 3) rfl ?_); refine box_ (N := 3) (cs := #[.int .i64 a1_0, .int .i64 a1_1, .int .i64 a1_2, .int .i64 a1_3, .int .i64 a1_4, .int .i64 a1_5, .bool a1_6, .bool a1_7, .slice A1_8 l1_8.length c1_8]) (t := 28) (fun gb363 hg w12 hbox hb => ?_); have BK363 := Aside0.mk (hbox); have GW363 := ge_ hg HB; have GE363 := ge_ hg HB; replace HB := (bs_ HB hb); have NB362_363 := nl_ hg BK362; have NB363_362 := ng_ hg BK362; replace BK362 := (bbA_ BK362 hb); clear hb hbox hg; have hnb13 := NB362_363.out; have hnc13 := NB363_362.out; have Z14 := zz9 BK362; have Z15 := zz9 BK363))
    go_ret
    exact ⟨by first | rfl | (simp [errW_none, errW_some] <;> rfl) | (simp [*, errW_none, errW_some] <;> rfl), hbA_ HB.out⟩
  ·rw [if_neg c4] at H
   have c4b0 : (a0_1 == a1_1) = false := beq_eq_false_iff_ne.mpr c4
   have c4b1 : (a0_1 != a1_1) = true := bne_iff_ne.mpr c4
   obtain rfl := Option.some.inj H
   go_enter Try.func83, Try.ntmps83
   go_wp2_with (first | ((with_reducible refine gate_dst (N := 2) rfl ?_); refine box_ (N := 2) (cs := #[.int .i64 a0_0, .int .i64 a0_1, .int .i64 a0_2, .int .i64 a0_3, .int .i64 a0_4, .int .i64 a0_5, .bool a0_6, .bool a0_7, .slice A0_8 l0_8.length c0_8]) (t := 28) (fun gb362 hg w16 hbox hb => ?_); have BK362 := Aside0.mk (hbox); have GW362 := ge_ hg HB; have GE362 := ge_ hg HB; replace HB := (bs_ HB hb); clear hb hbox hg) | ((with_reducible refine gate_dst (N := 3) rfl ?_); refine box_ (N := 3) (cs := #[.int .i64 a1_0, .int .i64 a1_1, .int .i64 a1_2, .int .i64 a1_3, .int .i64 a1_4, .int .i64 a1_5, .bool a1_6, .bool a1_7, .slice A1_8 l1_8.length c1_8]) (t := 28) (fun gb363 hg w17 hbox hb => ?_); have BK363 := Aside0.mk (hbox); have GW363 := ge_ hg HB; have GE363 := ge_ hg HB; replace HB := (bs_ HB hb); have NB362_363 := nl_ hg BK362; have NB363_362 := ng_ hg BK362; replace BK362 := (bbA_ BK362 hb); clear hb hbox hg; have hnb18 := NB362_363.out; have hnc18 := NB363_362.out; have Z19 := zz9 BK362; have Z20 := zz9 BK363))
   go_ret
   exact ⟨by first | rfl | (simp [errW_none, errW_some] <;> rfl) | (simp [*, errW_none, errW_some] <;> rfl), hbA_ HB.out⟩
 ·rw [if_neg c3] at H
  have c3b0 : (a0_0 == a1_0) = false := beq_eq_false_iff_ne.mpr c3
  have c3b1 : (a0_0 != a1_0) = true := bne_iff_ne.mpr c3
  obtain rfl := Option.some.inj H
  go_enter Try.func83, Try.ntmps83
  go_wp2_with (first | ((with_reducible refine gate_dst (N := 2) rfl ?_); refine box_ (N := 2) (cs := #[.int .i64 a0_0, .int .i64 a0_1, .int .i64 a0_2, .int .i64 a0_3, .int .i64 a0_4, .int .i64 a0_5, .bool a0_6, .bool a0_7, .slice A0_8 l0_8.length c0_8]) (t := 28) (fun gb362 hg w21 hbox hb => ?_); have BK362 := Aside0.mk (hbox); have GW362 := ge_ hg HB; have GE362 := ge_ hg HB; replace HB := (bs_ HB hb); clear hb hbox hg) | ((with_reducible refine gate_dst (N := 3) rfl ?_); refine box_ (N := 3) (cs := #[.int .i64 a1_0, .int .i64 a1_1, .int .i64 a1_2, .int .i64 a1_3, .int .i64 a1_4, .int .i64 a1_5, .bool a1_6, .bool a1_7, .slice A1_8 l1_8.length c1_8]) (t := 28) (fun gb363 hg w22 hbox hb => ?_); have BK363 := Aside0.mk (hbox); have GW363 := ge_ hg HB; have GE363 := ge_ hg HB; replace HB := (bs_ HB hb); have NB362_363 := nl_ hg BK362; have NB363_362 := ng_ hg BK362; replace BK362 := (bbA_ BK362 hb); clear hb hbox hg; have hnb23 := NB362_363.out; have hnc23 := NB363_362.out; have Z24 := zz9 BK362; have Z25 := zz9 BK363))
  go_ret
  exact ⟨by first | rfl | (simp [errW_none, errW_some] <;> rfl) | (simp [*, errW_none, errW_some] <;> rfl), hbA_ HB.out⟩
end Go.Proofs.Ytpbeljcgcdilnaa.PFnPartWhole
