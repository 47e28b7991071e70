/- Printed by wip/xp/xprint.sh out of the translation, for this claim: what each function answers, as a plain function, and that the machine does just that. No condition. -/
import Derived.Test.YtpdbnlmdohcgkaaPFnExactPartPutx0
import Derived.Test.YtpdbnlmdohcgkaaPFnExactPartPutx1
namespace Go.Proofs.Ytpdbnlmdohcgkaa.PFnExactPartPut
open Go.RowKit Go.Proofs.YtpdbnlmdohcgkaaW.PrintWords Go.Proofs.YtpdbnlmdohcgkaaW.PrintLast Go.Proofs.YtpdbnlmdohcgkaaW.PrintMore
attribute [local go_sem] max2_int min2_int max_two min_two max_three min_three max_four min_four   -- for this text's walks alone
set_option linter.unusedVariables false
set_option linter.unusedSimpArgs false
mutual
def spec_PartOk.l0 : Nat → Int → Int → List (S36) → Int → Option (Bool)
 | 0, _, _, _, _ => none
 | k + 1, x3, x4, x117000, x117001 => if x4 < (x117000.length : Int) then (if 0 ≤ x4 then ((spec_PacketOk.f k ((rd_T36 x117000 x4).f0) ((rd_T36 x117000 x4).f1) ((rd_T36 x117000 x4).f2) ((rd_T36 x117000 x4).f3) ((rd_T36 x117000 x4).f4) ((rd_T36 x117000 x4).f5) ((rd_T36 x117000 x4).f6) ((rd_T36 x117000 x4).f7) ((rd_T36 x117000 x4).f8)).bind fun t120 => (if t120 = true then (if 0 < (x117000.length : Int) then ((spec_l5Same.f ((rd_T36 x117000 x4).f0) ((rd_T36 x117000 x4).f1) ((rd_T36 x117000 x4).f2) ((rd_T36 x117000 x4).f3) ((rd_T36 x117000 x4).f4) ((rd_T36 x117000 x4).f5) ((rd_T36 x117000 x4).f6) ((rd_T36 x117000 x4).f7) ((rd_T36 x117000 x4).f8) ((rd_T36 x117000 0).f0) ((rd_T36 x117000 0).f1) ((rd_T36 x117000 0).f2) ((rd_T36 x117000 0).f3) ((rd_T36 x117000 0).f4) ((rd_T36 x117000 0).f5) ((rd_T36 x117000 0).f6) ((rd_T36 x117000 0).f7) ((rd_T36 x117000 0).f8)).bind fun t122 => (if t122 = true then (if x4 > 0 then (if 0 ≤ (wrap64 (x4 - 1)) then (if (wrap64 (x4 - 1)) < (x117000.length : Int) then (if ((rd_T36 x117000 x4).f5) < (wrap64 (((rd_T36 x117000 (wrap64 (x4 - 1))).f5) + (((rd_T36 x117000 (wrap64 (x4 - 1))).f8).length : Int))) then (spec_PartOk.j1 k x3 x4 true x117000 x117001 ((rd_T36 x117000 x4).f0) ((rd_T36 x117000 x4).f1) ((rd_T36 x117000 x4).f2) ((rd_T36 x117000 x4).f3) ((rd_T36 x117000 x4).f4) ((rd_T36 x117000 x4).f5) ((rd_T36 x117000 x4).f6) ((rd_T36 x117000 x4).f7) ((rd_T36 x117000 x4).f8)) else (spec_PartOk.j1 k x3 x4 (!((rd_T36 x117000 (wrap64 (x4 - 1))).f6)) x117000 x117001 ((rd_T36 x117000 x4).f0) ((rd_T36 x117000 x4).f1) ((rd_T36 x117000 x4).f2) ((rd_T36 x117000 x4).f3) ((rd_T36 x117000 x4).f4) ((rd_T36 x117000 x4).f5) ((rd_T36 x117000 x4).f6) ((rd_T36 x117000 x4).f7) ((rd_T36 x117000 x4).f8))) else (none)) else (none)) else (spec_PartOk.j1 k x3 x4 false x117000 x117001 ((rd_T36 x117000 x4).f0) ((rd_T36 x117000 x4).f1) ((rd_T36 x117000 x4).f2) ((rd_T36 x117000 x4).f3) ((rd_T36 x117000 x4).f4) ((rd_T36 x117000 x4).f5) ((rd_T36 x117000 x4).f6) ((rd_T36 x117000 x4).f7) ((rd_T36 x117000 x4).f8))) else (spec_PartOk.j1 k x3 x4 true x117000 x117001 ((rd_T36 x117000 x4).f0) ((rd_T36 x117000 x4).f1) ((rd_T36 x117000 x4).f2) ((rd_T36 x117000 x4).f3) ((rd_T36 x117000 x4).f4) ((rd_T36 x117000 x4).f5) ((rd_T36 x117000 x4).f6) ((rd_T36 x117000 x4).f7) ((rd_T36 x117000 x4).f8)))) else (none)) else (spec_PartOk.j1 k x3 x4 true x117000 x117001 ((rd_T36 x117000 x4).f0) ((rd_T36 x117000 x4).f1) ((rd_T36 x117000 x4).f2) ((rd_T36 x117000 x4).f3) ((rd_T36 x117000 x4).f4) ((rd_T36 x117000 x4).f5) ((rd_T36 x117000 x4).f6) ((rd_T36 x117000 x4).f7) ((rd_T36 x117000 x4).f8)))) else (none)) else (if (x117000.length : Int) > 0 then (if x3 ≤ 48 then ((spec_l1In.f x117001 0 1000000).bind fun t117 => (some t117)) else (some false)) else (some false))
def spec_PartOk.j1 : Nat → Int → Int → Bool → List (S36) → Int → Int → Int → Int → Int → Int → Int → Bool → Bool → List Int → Option (Bool)
 | 0, _, _, _, _, _, _, _, _, _, _, _, _, _, _ => none
 | k + 1, x3, x4, x64, x117000, x117001, x120000, x120001, x120002, x120003, x120004, x120005, x120006, x120007, x120008 => if x64 = true then (some false) else (spec_PartOk.l0 k (wrap64 (x3 + (x120008.length : Int))) (wrap64 (x4 + 1)) x117000 x117001)
end
def spec_PartOk.f (k : Nat) (l0_0 : List (S36)) (a0_1 : Int) : Option (Bool) := spec_PartOk.l0 k 0 0 l0_0 a0_1
theorem spec_PartOk.mono_l : ∀ k, (∀ y0 y1 y2 y3, LeO (spec_PartOk.l0 k y0 y1 y2 y3) (spec_PartOk.l0 (k + 1) y0 y1 y2 y3)) ∧ (∀ y0 y1 y2 y3 y4 y5 y6 y7 y8 y9 y10 y11 y12 y13, LeO (spec_PartOk.j1 k y0 y1 y2 y3 y4 y5 y6 y7 y8 y9 y10 y11 y12 y13) (spec_PartOk.j1 (k + 1) y0 y1 y2 y3 y4 y5 y6 y7 y8 y9 y10 y11 y12 y13))
 | 0 => ⟨fun _ _ _ _ r h => by simp [spec_PartOk.l0] at h, fun _ _ _ _ _ _ _ _ _ _ _ _ _ _ r h => by simp [spec_PartOk.j1] at h⟩
 | k + 1 => by
  obtain ⟨ih0, ih1⟩ := spec_PartOk.mono_l k
  refine ⟨?_, ?_⟩
  ·intro y0 y1 y2 y3
   unfold spec_PartOk.l0
   repeat' first | (with_reducible first | apply ih0 | apply ih1 | apply spec_PacketOk.mono | exact LeO.refl _ | exact LeO.none _ | refine LeO.ite ?_ ?_ | refine LeO.bind ?_ fun _ => ?_) | apply ih0 | apply ih1 | apply spec_PacketOk.mono | exact LeO.none _ | refine LeO.ite ?_ ?_ | refine LeO.bind ?_ fun _ => ?_
  ·intro y0 y1 y2 y3 y4 y5 y6 y7 y8 y9 y10 y11 y12 y13
   unfold spec_PartOk.j1
   repeat' first | (with_reducible first | apply ih0 | apply ih1 | apply spec_PacketOk.mono | exact LeO.refl _ | exact LeO.none _ | refine LeO.ite ?_ ?_ | refine LeO.bind ?_ fun _ => ?_) | apply ih0 | apply ih1 | apply spec_PacketOk.mono | exact LeO.none _ | refine LeO.ite ?_ ?_ | refine LeO.bind ?_ fun _ => ?_
theorem spec_PartOk.mono : ∀ a0 a1 k, LeO (spec_PartOk.f k a0 a1) (spec_PartOk.f (k + 1) a0 a1) := by
 intro a0 a1 k
 obtain ⟨ih0, ih1⟩ := spec_PartOk.mono_l k
 unfold spec_PartOk.f
 repeat' first | (with_reducible first | apply ih0 | apply ih1 | apply spec_PacketOk.mono | exact LeO.refl _ | exact LeO.none _ | refine LeO.ite ?_ ?_ | refine LeO.bind ?_ fun _ => ?_) | apply ih0 | apply ih1 | apply spec_PacketOk.mono | exact LeO.none _ | refine LeO.ite ?_ ?_ | refine LeO.bind ?_ fun _ => ?_
def spec_PartOk.T6 : Bool × List (List Nat × List Nat) := (true, [([], []), ([0], [0]), ([1], [1]), ([2, 1], [2]), ([3], [3]), ([3], [3]), ([5, 3], [3, 5]), ([6, 3], [3, 6]), ([7, 3], [3, 7]), ([4, 8, 3, 3], [3, 4, 8]), ([9, 3], [3, 9]), ([3, 10], [3, 10]), ([11, 9], [11]), ([12], [12]), ([13, 12], [12, 13]), ([14, 12, 12], [12, 14]), ([15], [15]), ([16, 15], [15, 16]), ([15], [15]), ([18, 15], [15, 18]), ([15], [15]), ([20, 15], [15, 20]), ([19, 21, 15], [15, 19, 21]), ([22, 15], [15, 22]), ([23, 15], [15, 23]), ([15], [15]), ([25, 15], [15, 25]), ([15], [15]), ([27, 15], [15, 27]), ([26, 28, 15], [15, 26, 28]), ([29, 15], [15, 29]), ([30, 15], [15, 30]), ([31, 15], [15, 31]), ([24, 32, 15], [15, 24, 32]), ([17, 33, 15], [15, 17, 33]), ([34, 15, 15], [15, 34]), ([35], [35]), ([36, 35], [35, 36]), ([35], [35]), ([38, 35], [35, 38]), ([37, 39, 35], [35, 37, 39]), ([40, 35], [35, 40]), ([41, 35], [35, 41]), ([42, 35], [35, 42]), ([35, 43, 15], [15, 35, 43]), ([15, 44, 12], [12, 15, 44]), ([12, 45], [12, 45])])
def spec_PartOk.B6 : List Nat := [0, 1, 3, 7, 15, 15, 47, 111, 239, 511, 1023, 2047, 4095, 8191, 16383, 32767, 65535, 131071, 65535, 327679, 65535, 1114111, 3997695, 8191999, 16580607, 65535, 33619967, 65535, 134283263, 503382015, 1040252927, 2113994751, 4261478399, 8589737983, 17179869183, 34359738367, 68719476735, 137438953471, 68719476735, 343597383679, 1099511627775, 2199023255551, 4398046511103, 8796093022207, 17592186044415, 35184372088831, 70368744177663]
theorem spec_PartOk.tab6 : rtab .any (opsOf Try.f45 6) = spec_PartOk.T6 := by kernel_rfl
theorem spec_PartOk.bits6 : waitsOk spec_PartOk.T6.2 spec_PartOk.B6 = true := by kernel_rfl
set_option maxHeartbeats 8000000 in
set_option maxRecDepth 100000 in
theorem spec_PartOk.calls (k : Nat) (A0_0 : Option Addr) (c0_0 : Nat) (l0_0 : List (S36)) (a0_1 : Int) (r : Bool) (w : World) (hr0_0 : Kd.C k36 w A0_0 l0_0.length l0_0) (hc0_0 : l0_0.length ≤ c0_0) (h : spec_PartOk.f k l0_0 a0_1 = some r) :
  Calls Try.prog 45 #[.agg #[.slice A0_0 l0_0.length c0_0, .int .i64 a0_1]] w fun e w' => e = .returned (.bool r) ∧ Below w.heap.size w w' := by
 have hu32 := Try.underlying32; have hu36 := Try.underlying36; have HR0_0 := Aside0.mk hr0_0; have HC0_0 := Aside0.mk hc0_0; clear hr0_0 hc0_0
 have HB := Aside0.mk (Below.refl w.heap.size w)
 have H : (spec_PartOk.l0 k 0 0 l0_0 a0_1) = some r := h
 clear h
 have H' := Aside0.mk H
 clear H
 go_enter Try.func45, Try.ntmps45
 go_wp2_with (first | ((with_reducible refine gate_dst (N := 1) rfl ?_); (try (refine gate_guard (by rfl) ?_; dsimp only)); refine box_ (N := 1) (cs := #[.slice A0_0 l0_0.length c0_0, .int .i64 a0_1]) (t := 32) (fun gb116 hg w2 hbox hb => ?_); have BK116 := Aside0.mk (hbox); have GW116 := ge_ hg HB; have GE116 := ge_ hg HB; replace HB := (bs_ HB hb); clear hb hbox hg))
 go_loopg [3, 4] k (fun kq v3 v4 w' => ∃ (x3_1 : Int) (x4_1 : Int), v3 = .int .i64 x3_1 ∧ v4 = .int .i64 x4_1 ∧ Aside0 (spec_PartOk.l0 kq x3_1 x4_1 l0_0 a0_1 = some r) ∧ Aside0 (kq ≤ k) ∧ Aside0 (w'.heap[gb116]? = some (.cells #[(.slice A0_0 l0_0.length c0_0), .int .i64 a0_1] 32 (0, 0))) ∧ Aside0 (Below w.heap.size w w'))
 case atStart => exact ⟨(0), (0), (by first | rfl | (simp; done) | (simp [*]; done)), (by first | rfl | (simp; done) | (simp [*]; done)), H', ⟨Nat.le_refl _⟩, ⟨by refine kb_ ?_; exact BK116.out⟩, ⟨hbA_ HB.out⟩⟩
 case round =>
  clear H'; (try clear p2)
  obtain ⟨x3_1, x4_1, rfl, rfl, HA, HK1, BK116, HB⟩ := hrel
  cases gk with
  | zero => exact absurd HA.out (by simp [spec_PartOk.l0])
  | succ k1 =>
   have H := HA.out; clear HA
   simp only [spec_PartOk.l0] at H
   by_cases c3 : x4_1 < (l0_0.length : Int)
   ·rw [if_pos c3] at H
    have c3b0 : decide (x4_1 < (l0_0.length : Int)) = true := decide_eq_true c3
    clear c3
    by_cases c4 : 0 ≤ x4_1
    ·rw [if_pos c4] at H
     have c4b0 : decide (0 ≤ x4_1) = true := decide_eq_true c4
     clear c4; have HC5 := Aside0.mk H; clear H; have Z6 := zz2 BK116
     have p118 : 0 ≤ (x4_1 : Int) := of_decide_eq_true (by first | (with_reducible assumption) | assumption)
     have q118 : x4_1 < (l0_0.length : Int) := of_decide_eq_true (by first | (with_reducible assumption) | assumption)
     obtain ⟨ad118, A118_8, c118_8, e118, hx118_0, hx118_1, hx118_2, hx118_3, hx118_4, hx118_5, hx118_6, hx118_7, hx118_8, hl118_8, hi118_8⟩ := at_T36 HR0_0.out x4_1 p118 q118
     cases e118
     replace hx118_0 := cc_ HB hx118_0
     replace hx118_1 := cc_ HB hx118_1
     replace hx118_2 := cc_ HB hx118_2
     replace hx118_3 := cc_ HB hx118_3
     replace hx118_4 := cc_ HB hx118_4
     replace hx118_5 := cc_ HB hx118_5
     replace hx118_6 := cc_ HB hx118_6
     replace hx118_7 := cc_ HB hx118_7
     replace hx118_8 := cc_ HB hx118_8
     have HR118_8 := Aside0.mk hi118_8; have HC118_8 := Aside0.mk hl118_8; clear hi118_8 hl118_8
     replace p118 := eq_true p118
     replace q118 := eq_true q118
     go_upto_region 6 with (first | ((with_reducible refine gate_dst (N := 5) rfl ?_); (try (refine gate_guard (by rfl) ?_; dsimp only)); refine box_ (N := 5) (cs := #[.int .i64 0, .int .i64 0, .int .i64 0, .int .i64 0, .int .i64 0, .int .i64 0, .bool false, .bool false, .slice none 0 0]) (t := 36) (fun gb119 hg w7 hbox hb => ?_); have BK119 := Aside0.mk (hbox); have GW119 := ge_ hg HB; have GE119 := ge_ hg HB; replace HB := (bs_ HB hb); have NB116_119 := nl_ hg BK116; have NB119_116 := ng_ hg BK116; replace BK116 := (bbA_ BK116 hb); clear hb hbox hg; have hnb8 := NB119_116.out; have hnc8 := NB116_119.out; have Z9 := zz9 BK119))
     (try simp only [Act.put, List.setIfInBounds_toArray, List.set_cons_zero, List.set_cons_succ])
     go_cut [64] (fun v64 wc => ∃ (kq : Nat) (x64_4 : Bool), v64 = .bool x64_4 ∧ Aside0 (spec_PartOk.j1 kq x3_1 x4_1 x64_4 l0_0 a0_1 ((rd_T36 l0_0 x4_1).f0) ((rd_T36 l0_0 x4_1).f1) ((rd_T36 l0_0 x4_1).f2) ((rd_T36 l0_0 x4_1).f3) ((rd_T36 l0_0 x4_1).f4) ((rd_T36 l0_0 x4_1).f5) ((rd_T36 l0_0 x4_1).f6) ((rd_T36 l0_0 x4_1).f7) ((rd_T36 l0_0 x4_1).f8) = some r) ∧ Aside0 (kq ≤ k1) ∧ Aside0 (wc.heap[gb116]? = some (.cells #[(.slice (some ad118) l0_0.length c0_0), .int .i64 a0_1] 32 (0, 0))) ∧ Aside0 (wc.heap[gb119]? = some (.cells #[.int .i64 ((rd_T36 l0_0 x4_1).f0), .int .i64 ((rd_T36 l0_0 x4_1).f1), .int .i64 ((rd_T36 l0_0 x4_1).f2), .int .i64 ((rd_T36 l0_0 x4_1).f3), .int .i64 ((rd_T36 l0_0 x4_1).f4), .int .i64 ((rd_T36 l0_0 x4_1).f5), .bool ((rd_T36 l0_0 x4_1).f6), .bool ((rd_T36 l0_0 x4_1).f7), (.slice A118_8 ((rd_T36 l0_0 x4_1).f8).length c118_8)] 36 (0, 0))) ∧ Aside0 (Below w.heap.size w wc))
     case first =>
      have H := HC5.out; clear HC5
      replace H := Option.bind_eq_some_iff.mp H
      obtain ⟨t120, A100, H⟩ := H
      (try dsimp only at H)
      have A10 := Aside0.mk A100; clear A100
      by_cases c11 : t120 = true
      ·subst c11
       rw [if_pos rfl] at H
       by_cases c12 : 0 < (l0_0.length : Int)
       ·rw [if_pos c12] at H
        have c12b0 : decide (0 < (l0_0.length : Int)) = true := decide_eq_true c12
        have c12b1 : decide (0 < l0_0.length) = true := decide_eq_true (by omega)
        clear c12
        (first | rw [c12b0] | (simp only [i64_w, i32_w]; rw [c12b0]) | skip)
        replace H := Option.bind_eq_some_iff.mp H
        obtain ⟨t122, A130, H⟩ := H
        (try dsimp only at H)
        have A13 := Aside0.mk A130; clear A130
        by_cases c14 : t122 = true
        ·subst c14
         rw [if_pos rfl] at H
         by_cases c15 : x4_1 > 0
         ·rw [if_pos c15] at H
          have c15b0 : decide (0 < x4_1) = true := decide_eq_true c15
          clear c15
          obtain ⟨ji16, hji16⟩ : ∃ j_ : Int, (wrap64 (x4_1 - 1)) = j_ := ⟨_, rfl⟩
          (first | rw [hji16] at H | simp only [hji16] at H)
          (try rw [hji16] at A10)
          (try rw [hji16] at A13)
          have hji16w : (IntKind.i64.wrap (x4_1 - 1)) = ji16 := (i64_w _).trans hji16
          by_cases c17 : 0 ≤ (ji16)
          ·rw [if_pos c17] at H
           have c17b0 : decide (0 ≤ (ji16)) = true := decide_eq_true c17
           clear c17
           by_cases c18 : (ji16) < (l0_0.length : Int)
           ·rw [if_pos c18] at H
            have c18b0 : decide ((ji16) < (l0_0.length : Int)) = true := decide_eq_true c18
            clear c18
            by_cases c19 : ((rd_T36 l0_0 x4_1).f5) < (wrap64 (((rd_T36 l0_0 (ji16)).f5) + (((rd_T36 l0_0 (ji16)).f8).length : Int)))
            ·rw [if_pos c19] at H
             have c19b0 : decide (((rd_T36 l0_0 x4_1).f5) < (wrap64 (((rd_T36 l0_0 (ji16)).f5) + (((rd_T36 l0_0 (ji16)).f8).length : Int)))) = true := decide_eq_true c19
             clear c19
             have H' := Aside0.mk H
             clear H
             try go_wp2
             obtain ⟨w20, h_w20⟩ : ∃ w_, (((((((((w7.setCell ⟨gb119, 0, none⟩ (.int .i64 ((rd_T36 l0_0 x4_1).f0))).setCell ⟨gb119, 1, none⟩ (.int .i64 ((rd_T36 l0_0 x4_1).f1))).setCell ⟨gb119, 2, none⟩ (.int .i64 ((rd_T36 l0_0 x4_1).f2))).setCell ⟨gb119, 3, none⟩ (.int .i64 ((rd_T36 l0_0 x4_1).f3))).setCell ⟨gb119, 4, none⟩ (.int .i64 ((rd_T36 l0_0 x4_1).f4))).setCell ⟨gb119, 5, none⟩ (.int .i64 ((rd_T36 l0_0 x4_1).f5))).setCell ⟨gb119, 6, none⟩ (.bool ((rd_T36 l0_0 x4_1).f6))).setCell ⟨gb119, 7, none⟩ (.bool ((rd_T36 l0_0 x4_1).f7))).setCell ⟨gb119, 8, none⟩ (.slice A118_8 ((rd_T36 l0_0 x4_1).f8).length c118_8)) = w_ := ⟨_, rfl⟩
             have n0_ : Aside0 (w20.heap[gb116]? = some (.cells #[.slice (some ad118) l0_0.length c0_0, .int .i64 a0_1] 32 (0, 0))) := ⟨by subst h_w20; exact kf_ BK116.out⟩
             have n1_ : Aside0 (w20.heap[gb119]? = some (.cells #[.int .i64 ((rd_T36 l0_0 x4_1).f0), .int .i64 ((rd_T36 l0_0 x4_1).f1), .int .i64 ((rd_T36 l0_0 x4_1).f2), .int .i64 ((rd_T36 l0_0 x4_1).f3), .int .i64 ((rd_T36 l0_0 x4_1).f4), .int .i64 ((rd_T36 l0_0 x4_1).f5), .bool ((rd_T36 l0_0 x4_1).f6), .bool ((rd_T36 l0_0 x4_1).f7), .slice A118_8 ((rd_T36 l0_0 x4_1).f8).length c118_8] 36 (0, 0))) := ⟨by subst h_w20; refine kb_ ?_; refine pz9 (cs := #[.int .i64 0, .int .i64 0, .int .i64 0, .int .i64 0, .int .i64 0, .int .i64 0, .bool false, .bool false, .slice none 0 0]) ?_; refine kb_ ?_; exact BK119.out⟩
             have n2_ : Aside0 (Below w.heap.size w w20) := ⟨by subst h_w20; exact hbA_ HB.out⟩
             (try clear BK116); (try clear BK119); (try clear HB)
             (try rw [h_w20]); clear h_w20
             have BK116 := n0_; have BK119 := n1_; have HB := n2_; clear n0_ n1_ n2_; replace BK116 := Aside0.mk (blk_drew BK116.out); replace BK119 := Aside0.mk (blk_drew BK119.out); replace HB := (bd_ HB)
             have p121 : 0 ≤ (0 : Int) := (by omega)
             have q121 : 0 < (l0_0.length : Int) := of_decide_eq_true (by first | (with_reducible assumption) | assumption)
             obtain ⟨ad121, A121_8, c121_8, e121, hx121_0, hx121_1, hx121_2, hx121_3, hx121_4, hx121_5, hx121_6, hx121_7, hx121_8, hl121_8, hi121_8⟩ := at_T36 HR0_0.out 0 p121 q121
             (try simp only [show ((0 : Int)).toNat = 0 from rfl, show 0 * 9 = 0 from rfl, Addr.add_zero'] at hx121_0 hx121_1 hx121_2 hx121_3 hx121_4 hx121_5 hx121_6 hx121_7 hx121_8); have hw121_8 := hx121_8; have hw121_7 := hx121_7; have hw121_6 := hx121_6; have hw121_5 := hx121_5; have hw121_4 := hx121_4; have hw121_3 := hx121_3; have hw121_2 := hx121_2; have hw121_1 := hx121_1; have hw121_0 := hx121_0
             obtain rfl : ad118 = ad121 := (by injection e121)
             have qi121 : (0 < l0_0.length) = True := eq_true (by omega)
             replace hx121_0 := cc_ HB hx121_0
             replace hx121_1 := cc_ HB hx121_1
             replace hx121_2 := cc_ HB hx121_2
             replace hx121_3 := cc_ HB hx121_3
             replace hx121_4 := cc_ HB hx121_4
             replace hx121_5 := cc_ HB hx121_5
             replace hx121_6 := cc_ HB hx121_6
             replace hx121_7 := cc_ HB hx121_7
             replace hx121_8 := cc_ HB hx121_8
             have HR121_8 := Aside0.mk hi121_8; have HC121_8 := Aside0.mk hl121_8; clear hi121_8 hl121_8
             replace p121 := eq_true p121
             replace q121 := eq_true q121
             have p123 : 0 ≤ ((ji16) : Int) := of_decide_eq_true (by first | (with_reducible assumption) | assumption)
             have q123 : (ji16) < (l0_0.length : Int) := of_decide_eq_true (by first | (with_reducible assumption) | assumption)
             obtain ⟨ad123, A123_8, c123_8, e123, hx123_0, hx123_1, hx123_2, hx123_3, hx123_4, hx123_5, hx123_6, hx123_7, hx123_8, hl123_8, hi123_8⟩ := at_T36 HR0_0.out (ji16) p123 q123
             have hw123_8 := hx123_8; have hw123_7 := hx123_7; have hw123_6 := hx123_6; have hw123_5 := hx123_5; have hw123_4 := hx123_4; have hw123_3 := hx123_3; have hw123_2 := hx123_2; have hw123_1 := hx123_1; have hw123_0 := hx123_0
             obtain rfl : ad118 = ad123 := (by injection e123)
             replace hx123_0 := cc_ HB hx123_0
             replace hx123_1 := cc_ HB hx123_1
             replace hx123_2 := cc_ HB hx123_2
             replace hx123_3 := cc_ HB hx123_3
             replace hx123_4 := cc_ HB hx123_4
             replace hx123_5 := cc_ HB hx123_5
             replace hx123_6 := cc_ HB hx123_6
             replace hx123_7 := cc_ HB hx123_7
             replace hx123_8 := cc_ HB hx123_8
             have HR123_8 := Aside0.mk hi123_8; have HC123_8 := Aside0.mk hl123_8; clear hi123_8 hl123_8
             replace p123 := eq_true p123
             replace q123 := eq_true q123
             have p124 : 0 ≤ ((ji16) : Int) := of_decide_eq_true (by first | (with_reducible assumption) | assumption)
             have q124 : (ji16) < (l0_0.length : Int) := of_decide_eq_true (by first | (with_reducible assumption) | assumption)
             obtain ⟨ad124, A124_8, c124_8, e124, hx124_0, hx124_1, hx124_2, hx124_3, hx124_4, hx124_5, hx124_6, hx124_7, hx124_8, hl124_8, hi124_8⟩ := at_T36 HR0_0.out (ji16) p124 q124
             have hw124_8 := hx124_8; have hw124_7 := hx124_7; have hw124_6 := hx124_6; have hw124_5 := hx124_5; have hw124_4 := hx124_4; have hw124_3 := hx124_3; have hw124_2 := hx124_2; have hw124_1 := hx124_1; have hw124_0 := hx124_0
             obtain rfl : ad118 = ad124 := (by injection e124)
             replace hx124_0 := cc_ HB hx124_0
             replace hx124_1 := cc_ HB hx124_1
             replace hx124_2 := cc_ HB hx124_2
             replace hx124_3 := cc_ HB hx124_3
             replace hx124_4 := cc_ HB hx124_4
             replace hx124_5 := cc_ HB hx124_5
             replace hx124_6 := cc_ HB hx124_6
             replace hx124_7 := cc_ HB hx124_7
             replace hx124_8 := cc_ HB hx124_8
             have HR124_8 := Aside0.mk hi124_8; have HC124_8 := Aside0.mk hl124_8; clear hi124_8 hl124_8
             replace p124 := eq_true p124
             replace q124 := eq_true q124
             have ea_ := Option.some.inj (hx123_8.symm.trans hx124_8)
             injection ea_ with ea_ en_ ec_
             subst ea_; subst ec_; clear en_
             refine start_ (n := 47) (S := fun w' => w'.cell? ⟨gb119, 0, none⟩ = some (.int .i64 ((rd_T36 l0_0 x4_1).f0)) ∧ w'.cell? ⟨gb119, 1, none⟩ = some (.int .i64 ((rd_T36 l0_0 x4_1).f1)) ∧ w'.cell? ⟨gb119, 2, none⟩ = some (.int .i64 ((rd_T36 l0_0 x4_1).f2)) ∧ w'.cell? ⟨gb119, 3, none⟩ = some (.int .i64 ((rd_T36 l0_0 x4_1).f3)) ∧ w'.cell? ⟨gb119, 4, none⟩ = some (.int .i64 ((rd_T36 l0_0 x4_1).f4)) ∧ w'.cell? ⟨gb119, 5, none⟩ = some (.int .i64 ((rd_T36 l0_0 x4_1).f5)) ∧ w'.cell? ⟨gb119, 6, none⟩ = some (.bool ((rd_T36 l0_0 x4_1).f6)) ∧ w'.cell? ⟨gb119, 7, none⟩ = some (.bool ((rd_T36 l0_0 x4_1).f7)) ∧ w'.cell? ⟨gb119, 8, none⟩ = some (.slice A118_8 ((rd_T36 l0_0 x4_1).f8).length c118_8) ∧ w'.cell? ⟨gb116, 0, none⟩ = some (.slice (some ad118) l0_0.length c0_0) ∧ w'.cell? ⟨gb116, 1, none⟩ = some (.int .i64 a0_1) ∧ w'.cell? ad118 = some (.int .i64 ((rd_T36 l0_0 0).f0)) ∧ w'.cell? ⟨ad118.block, ad118.off + 1, none⟩ = some (.int .i64 ((rd_T36 l0_0 0).f1)) ∧ w'.cell? ⟨ad118.block, ad118.off + 2, none⟩ = some (.int .i64 ((rd_T36 l0_0 0).f2)) ∧ w'.cell? ⟨ad118.block, ad118.off + 3, none⟩ = some (.int .i64 ((rd_T36 l0_0 0).f3)) ∧ w'.cell? ⟨ad118.block, ad118.off + 4, none⟩ = some (.int .i64 ((rd_T36 l0_0 0).f4)) ∧ w'.cell? ⟨ad118.block, ad118.off + 5, none⟩ = some (.int .i64 ((rd_T36 l0_0 0).f5)) ∧ w'.cell? ⟨ad118.block, ad118.off + 6, none⟩ = some (.bool ((rd_T36 l0_0 0).f6)) ∧ w'.cell? ⟨ad118.block, ad118.off + 7, none⟩ = some (.bool ((rd_T36 l0_0 0).f7)) ∧ w'.cell? ⟨ad118.block, ad118.off + 8, none⟩ = some (.slice A121_8 ((rd_T36 l0_0 0).f8).length c121_8) ∧ w'.cell? (ad118.add (((ji16)).toNat * 9)) = some (.int .i64 ((rd_T36 l0_0 (ji16)).f0)) ∧ w'.cell? ⟨(ad118.add (((ji16)).toNat * 9)).block, (ad118.add (((ji16)).toNat * 9)).off + 1, none⟩ = some (.int .i64 ((rd_T36 l0_0 (ji16)).f1)) ∧ w'.cell? ⟨(ad118.add (((ji16)).toNat * 9)).block, (ad118.add (((ji16)).toNat * 9)).off + 2, none⟩ = some (.int .i64 ((rd_T36 l0_0 (ji16)).f2)) ∧ w'.cell? ⟨(ad118.add (((ji16)).toNat * 9)).block, (ad118.add (((ji16)).toNat * 9)).off + 3, none⟩ = some (.int .i64 ((rd_T36 l0_0 (ji16)).f3)) ∧ w'.cell? ⟨(ad118.add (((ji16)).toNat * 9)).block, (ad118.add (((ji16)).toNat * 9)).off + 4, none⟩ = some (.int .i64 ((rd_T36 l0_0 (ji16)).f4)) ∧ w'.cell? ⟨(ad118.add (((ji16)).toNat * 9)).block, (ad118.add (((ji16)).toNat * 9)).off + 5, none⟩ = some (.int .i64 ((rd_T36 l0_0 (ji16)).f5)) ∧ w'.cell? ⟨(ad118.add (((ji16)).toNat * 9)).block, (ad118.add (((ji16)).toNat * 9)).off + 6, none⟩ = some (.bool ((rd_T36 l0_0 (ji16)).f6)) ∧ w'.cell? ⟨(ad118.add (((ji16)).toNat * 9)).block, (ad118.add (((ji16)).toNat * 9)).off + 7, none⟩ = some (.bool ((rd_T36 l0_0 (ji16)).f7)) ∧ w'.cell? ⟨(ad118.add (((ji16)).toNat * 9)).block, (ad118.add (((ji16)).toNat * 9)).off + 8, none⟩ = some (.slice A123_8 ((rd_T36 l0_0 (ji16)).f8).length c123_8) ∧ w'.cell? (ad118.add (((ji16)).toNat * 9)) = some (.int .i64 ((rd_T36 l0_0 (ji16)).f0)) ∧ w'.cell? ⟨(ad118.add (((ji16)).toNat * 9)).block, (ad118.add (((ji16)).toNat * 9)).off + 1, none⟩ = some (.int .i64 ((rd_T36 l0_0 (ji16)).f1)) ∧ w'.cell? ⟨(ad118.add (((ji16)).toNat * 9)).block, (ad118.add (((ji16)).toNat * 9)).off + 2, none⟩ = some (.int .i64 ((rd_T36 l0_0 (ji16)).f2)) ∧ w'.cell? ⟨(ad118.add (((ji16)).toNat * 9)).block, (ad118.add (((ji16)).toNat * 9)).off + 3, none⟩ = some (.int .i64 ((rd_T36 l0_0 (ji16)).f3)) ∧ w'.cell? ⟨(ad118.add (((ji16)).toNat * 9)).block, (ad118.add (((ji16)).toNat * 9)).off + 4, none⟩ = some (.int .i64 ((rd_T36 l0_0 (ji16)).f4)) ∧ w'.cell? ⟨(ad118.add (((ji16)).toNat * 9)).block, (ad118.add (((ji16)).toNat * 9)).off + 5, none⟩ = some (.int .i64 ((rd_T36 l0_0 (ji16)).f5)) ∧ w'.cell? ⟨(ad118.add (((ji16)).toNat * 9)).block, (ad118.add (((ji16)).toNat * 9)).off + 6, none⟩ = some (.bool ((rd_T36 l0_0 (ji16)).f6)) ∧ w'.cell? ⟨(ad118.add (((ji16)).toNat * 9)).block, (ad118.add (((ji16)).toNat * 9)).off + 7, none⟩ = some (.bool ((rd_T36 l0_0 (ji16)).f7)) ∧ w'.cell? ⟨(ad118.add (((ji16)).toNat * 9)).block, (ad118.add (((ji16)).toNat * 9)).off + 8, none⟩ = some (.slice A123_8 ((rd_T36 l0_0 (ji16)).f8).length c123_8)) (ds := []) #[false, false, false, false, false, false, false, false, false, false, false, false, false, false, false, false, false, false, false, false, false, false, false, false, false, false, false, false, false, false, false, false, false, false, false, false, false, false, false, false, false, false, false, false, false, false, false] (by kernel_rfl) rfl rfl ⟨bc_ BK119 0, bc_ BK119 1, bc_ BK119 2, bc_ BK119 3, bc_ BK119 4, bc_ BK119 5, bc_ BK119 6, bc_ BK119 7, bc_ BK119 8, bc_ BK116 0, bc_ BK116 1, (cc_ HB hw121_0), (cc_ HB hw121_1), (cc_ HB hw121_2), (cc_ HB hw121_3), (cc_ HB hw121_4), (cc_ HB hw121_5), (cc_ HB hw121_6), (cc_ HB hw121_7), (cc_ HB hw121_8), (cc_ HB hw123_0), (cc_ HB hw123_1), (cc_ HB hw123_2), (cc_ HB hw123_3), (cc_ HB hw123_4), (cc_ HB hw123_5), (cc_ HB hw123_6), (cc_ HB hw123_7), (cc_ HB hw123_8), (cc_ HB hw124_0), (cc_ HB hw124_1), (cc_ HB hw124_2), (cc_ HB hw124_3), (cc_ HB hw124_4), (cc_ HB hw124_5), (cc_ HB hw124_6), (cc_ HB hw124_7), (cc_ HB hw124_8)⟩ (fun hHeld => ?_); refine with_tabW spec_PartOk.tab6 spec_PartOk.bits6 (fun HT_ HW_ => ?_)
             generalize w20.drew = w21 at BK116 BK119 HB HR121_8 HR123_8 HR124_8 hx121_0 hx121_1 hx121_2 hx121_3 hx121_4 hx121_5 hx121_6 hx121_7 hx121_8 hx123_0 hx123_1 hx123_2 hx123_3 hx123_4 hx123_5 hx123_6 hx123_7 hx123_8 hx124_0 hx124_1 hx124_2 hx124_3 hx124_4 hx124_5 hx124_6 hx124_7 hx124_8 hHeld ⊢
             refine tk_ (i := 0) (N := some 18) HT_ HW_ hHeld ?_
             refine on_ (i := 1) (N := some 19) HT_ (fun K hK => ?_)
             refine goes_ Try.func46 (by kernel_rfl) rfl #[.agg #[.int .i64 ((rd_T36 l0_0 x4_1).f0), .int .i64 ((rd_T36 l0_0 x4_1).f1), .int .i64 ((rd_T36 l0_0 x4_1).f2), .int .i64 ((rd_T36 l0_0 x4_1).f3), .int .i64 ((rd_T36 l0_0 x4_1).f4), .int .i64 ((rd_T36 l0_0 x4_1).f5), .bool ((rd_T36 l0_0 x4_1).f6), .bool ((rd_T36 l0_0 x4_1).f7), .slice A118_8 ((rd_T36 l0_0 x4_1).f8).length c118_8]] (by rfl) rfl rfl ar_ ?_
             with_reducible refine (spec_PacketOk.calls k1 ((rd_T36 l0_0 x4_1).f0) ((rd_T36 l0_0 x4_1).f1) ((rd_T36 l0_0 x4_1).f2) ((rd_T36 l0_0 x4_1).f3) ((rd_T36 l0_0 x4_1).f4) ((rd_T36 l0_0 x4_1).f5) ((rd_T36 l0_0 x4_1).f6) ((rd_T36 l0_0 x4_1).f7) _ _ ((rd_T36 l0_0 x4_1).f8) true _ ?side1 ?side2 A10.out).mono ?_
             (case side1 => exact kC_ (Kd.C_below HR118_8.out HB.out))
             (case side2 => exact HC118_8.out)
             rintro e w22 ⟨rfl, hb⟩
             refine ⟨_, rfl, ?_⟩
             replace BK116 := (bbA_ BK116 hb); replace BK119 := (bbA_ BK119 hb); replace HB := (bs_ HB hb); (try clear hb); (try clear hb2); (try clear hk); (try clear hi)
             refine hK.out _ _ ⟨bc_ BK119 0, bc_ BK119 1, bc_ BK119 2, bc_ BK119 3, bc_ BK119 4, bc_ BK119 5, bc_ BK119 6, bc_ BK119 7, bc_ BK119 8, bc_ BK116 0, bc_ BK116 1, (by first | exact cc_ HB hw121_0 | exact cc_ ⟨hbA_ HB.out⟩ hw121_0), (by first | exact cc_ HB hw121_1 | exact cc_ ⟨hbA_ HB.out⟩ hw121_1), (by first | exact cc_ HB hw121_2 | exact cc_ ⟨hbA_ HB.out⟩ hw121_2), (by first | exact cc_ HB hw121_3 | exact cc_ ⟨hbA_ HB.out⟩ hw121_3), (by first | exact cc_ HB hw121_4 | exact cc_ ⟨hbA_ HB.out⟩ hw121_4), (by first | exact cc_ HB hw121_5 | exact cc_ ⟨hbA_ HB.out⟩ hw121_5), (by first | exact cc_ HB hw121_6 | exact cc_ ⟨hbA_ HB.out⟩ hw121_6), (by first | exact cc_ HB hw121_7 | exact cc_ ⟨hbA_ HB.out⟩ hw121_7), (by first | exact cc_ HB hw121_8 | exact cc_ ⟨hbA_ HB.out⟩ hw121_8), (by first | exact cc_ HB hw123_0 | exact cc_ ⟨hbA_ HB.out⟩ hw123_0), (by first | exact cc_ HB hw123_1 | exact cc_ ⟨hbA_ HB.out⟩ hw123_1), (by first | exact cc_ HB hw123_2 | exact cc_ ⟨hbA_ HB.out⟩ hw123_2), (by first | exact cc_ HB hw123_3 | exact cc_ ⟨hbA_ HB.out⟩ hw123_3), (by first | exact cc_ HB hw123_4 | exact cc_ ⟨hbA_ HB.out⟩ hw123_4), (by first | exact cc_ HB hw123_5 | exact cc_ ⟨hbA_ HB.out⟩ hw123_5), (by first | exact cc_ HB hw123_6 | exact cc_ ⟨hbA_ HB.out⟩ hw123_6), (by first | exact cc_ HB hw123_7 | exact cc_ ⟨hbA_ HB.out⟩ hw123_7), (by first | exact cc_ HB hw123_8 | exact cc_ ⟨hbA_ HB.out⟩ hw123_8), (by first | exact cc_ HB hw124_0 | exact cc_ ⟨hbA_ HB.out⟩ hw124_0), (by first | exact cc_ HB hw124_1 | exact cc_ ⟨hbA_ HB.out⟩ hw124_1), (by first | exact cc_ HB hw124_2 | exact cc_ ⟨hbA_ HB.out⟩ hw124_2), (by first | exact cc_ HB hw124_3 | exact cc_ ⟨hbA_ HB.out⟩ hw124_3), (by first | exact cc_ HB hw124_4 | exact cc_ ⟨hbA_ HB.out⟩ hw124_4), (by first | exact cc_ HB hw124_5 | exact cc_ ⟨hbA_ HB.out⟩ hw124_5), (by first | exact cc_ HB hw124_6 | exact cc_ ⟨hbA_ HB.out⟩ hw124_6), (by first | exact cc_ HB hw124_7 | exact cc_ ⟨hbA_ HB.out⟩ hw124_7), (by first | exact cc_ HB hw124_8 | exact cc_ ⟨hbA_ HB.out⟩ hw124_8)⟩ (fun hHeld => ?_)
             clear hK K; refine nm_ 19 ?_; refine pu_ (i := 2) (N := some 20) HT_ ?_; refine pu_ (i := 3) (N := some 21) HT_ ?_; refine pu_ (i := 5) (N := some 23) HT_ ?_; refine tk_ (i := 4) (N := some 22) HT_ HW_ hHeld ?_; refine tk_ (i := 6) (N := some 24) HT_ HW_ hHeld ?_; refine pu_ (i := 7) (N := some 25) HT_ ?_; refine tk_ (i := 8) (N := some 26) HT_ HW_ hHeld ?_
             refine on_ (i := 9) (N := some 27) HT_ (fun K hK => ?_)
             refine goes_ Try.func47 (by kernel_rfl) rfl #[.agg #[.int .i64 ((rd_T36 l0_0 x4_1).f0), .int .i64 ((rd_T36 l0_0 x4_1).f1), .int .i64 ((rd_T36 l0_0 x4_1).f2), .int .i64 ((rd_T36 l0_0 x4_1).f3), .int .i64 ((rd_T36 l0_0 x4_1).f4), .int .i64 ((rd_T36 l0_0 x4_1).f5), .bool ((rd_T36 l0_0 x4_1).f6), .bool ((rd_T36 l0_0 x4_1).f7), .slice A118_8 ((rd_T36 l0_0 x4_1).f8).length c118_8], .agg #[.int .i64 ((rd_T36 l0_0 0).f0), .int .i64 ((rd_T36 l0_0 0).f1), .int .i64 ((rd_T36 l0_0 0).f2), .int .i64 ((rd_T36 l0_0 0).f3), .int .i64 ((rd_T36 l0_0 0).f4), .int .i64 ((rd_T36 l0_0 0).f5), .bool ((rd_T36 l0_0 0).f6), .bool ((rd_T36 l0_0 0).f7), .slice A121_8 ((rd_T36 l0_0 0).f8).length c121_8]] (by rfl) rfl rfl ar_ ?_
             with_reducible refine (spec_l5Same.calls ((rd_T36 l0_0 x4_1).f0) ((rd_T36 l0_0 x4_1).f1) ((rd_T36 l0_0 x4_1).f2) ((rd_T36 l0_0 x4_1).f3) ((rd_T36 l0_0 x4_1).f4) ((rd_T36 l0_0 x4_1).f5) ((rd_T36 l0_0 x4_1).f6) ((rd_T36 l0_0 x4_1).f7) _ _ ((rd_T36 l0_0 x4_1).f8) ((rd_T36 l0_0 0).f0) ((rd_T36 l0_0 0).f1) ((rd_T36 l0_0 0).f2) ((rd_T36 l0_0 0).f3) ((rd_T36 l0_0 0).f4) ((rd_T36 l0_0 0).f5) ((rd_T36 l0_0 0).f6) ((rd_T36 l0_0 0).f7) _ _ ((rd_T36 l0_0 0).f8) true _ ?side1 ?side2 ?side3 ?side4 A13.out).mono ?_
             (case side1 => exact kC_ (Kd.C_below HR118_8.out HB.out))
             (case side2 => exact HC118_8.out)
             (case side3 => exact kC_ (Kd.C_below HR121_8.out HB.out))
             (case side4 => exact HC121_8.out)
             rintro e w23 ⟨rfl, hb⟩
             refine ⟨_, rfl, ?_⟩
             replace BK116 := (bbA_ BK116 hb); replace BK119 := (bbA_ BK119 hb); replace HB := (bs_ HB hb); (try clear hb); (try clear hb2); (try clear hk); (try clear hi)
             refine hK.out _ _ ⟨bc_ BK119 0, bc_ BK119 1, bc_ BK119 2, bc_ BK119 3, bc_ BK119 4, bc_ BK119 5, bc_ BK119 6, bc_ BK119 7, bc_ BK119 8, bc_ BK116 0, bc_ BK116 1, (by first | exact cc_ HB hw121_0 | exact cc_ ⟨hbA_ HB.out⟩ hw121_0), (by first | exact cc_ HB hw121_1 | exact cc_ ⟨hbA_ HB.out⟩ hw121_1), (by first | exact cc_ HB hw121_2 | exact cc_ ⟨hbA_ HB.out⟩ hw121_2), (by first | exact cc_ HB hw121_3 | exact cc_ ⟨hbA_ HB.out⟩ hw121_3), (by first | exact cc_ HB hw121_4 | exact cc_ ⟨hbA_ HB.out⟩ hw121_4), (by first | exact cc_ HB hw121_5 | exact cc_ ⟨hbA_ HB.out⟩ hw121_5), (by first | exact cc_ HB hw121_6 | exact cc_ ⟨hbA_ HB.out⟩ hw121_6), (by first | exact cc_ HB hw121_7 | exact cc_ ⟨hbA_ HB.out⟩ hw121_7), (by first | exact cc_ HB hw121_8 | exact cc_ ⟨hbA_ HB.out⟩ hw121_8), (by first | exact cc_ HB hw123_0 | exact cc_ ⟨hbA_ HB.out⟩ hw123_0), (by first | exact cc_ HB hw123_1 | exact cc_ ⟨hbA_ HB.out⟩ hw123_1), (by first | exact cc_ HB hw123_2 | exact cc_ ⟨hbA_ HB.out⟩ hw123_2), (by first | exact cc_ HB hw123_3 | exact cc_ ⟨hbA_ HB.out⟩ hw123_3), (by first | exact cc_ HB hw123_4 | exact cc_ ⟨hbA_ HB.out⟩ hw123_4), (by first | exact cc_ HB hw123_5 | exact cc_ ⟨hbA_ HB.out⟩ hw123_5), (by first | exact cc_ HB hw123_6 | exact cc_ ⟨hbA_ HB.out⟩ hw123_6), (by first | exact cc_ HB hw123_7 | exact cc_ ⟨hbA_ HB.out⟩ hw123_7), (by first | exact cc_ HB hw123_8 | exact cc_ ⟨hbA_ HB.out⟩ hw123_8), (by first | exact cc_ HB hw124_0 | exact cc_ ⟨hbA_ HB.out⟩ hw124_0), (by first | exact cc_ HB hw124_1 | exact cc_ ⟨hbA_ HB.out⟩ hw124_1), (by first | exact cc_ HB hw124_2 | exact cc_ ⟨hbA_ HB.out⟩ hw124_2), (by first | exact cc_ HB hw124_3 | exact cc_ ⟨hbA_ HB.out⟩ hw124_3), (by first | exact cc_ HB hw124_4 | exact cc_ ⟨hbA_ HB.out⟩ hw124_4), (by first | exact cc_ HB hw124_5 | exact cc_ ⟨hbA_ HB.out⟩ hw124_5), (by first | exact cc_ HB hw124_6 | exact cc_ ⟨hbA_ HB.out⟩ hw124_6), (by first | exact cc_ HB hw124_7 | exact cc_ ⟨hbA_ HB.out⟩ hw124_7), (by first | exact cc_ HB hw124_8 | exact cc_ ⟨hbA_ HB.out⟩ hw124_8)⟩ (fun hHeld => ?_)
             clear hK K; refine nm_ 27 ?_; refine pu_ (i := 10) (N := some 28) HT_ ?_; refine pu_ (i := 11) (N := some 29) HT_ ?_; refine pu_ (i := 12) (N := some 30) HT_ ?_; refine pu_ (i := 13) (N := some 31) HT_ ?_; refine pu_ (i := 14) (N := some 32) HT_ ?_; refine pu_ (i := 15) (N := some 33) HT_ ?_; refine pu_ (i := 16) (N := some 34) HT_ ?_; refine pu_ (i := 18) (N := some 36) HT_ ?_; refine pu_ (i := 20) (N := some 38) HT_ ?_; refine pu_ (i := 21) (N := some 39) HT_ ?_; refine pu_ (i := 25) (N := some 43) HT_ ?_; refine pu_ (i := 27) (N := some 45) HT_ ?_; refine pu_ (i := 28) (N := some 46) HT_ ?_; refine tk_ (i := 17) (N := some 35) HT_ HW_ hHeld ?_; refine tk_ (i := 19) (N := some 37) HT_ HW_ hHeld ?_; refine pu_ (i := 22) (N := some 40) HT_ ?_; refine pu_ (i := 23) (N := some 41) HT_ ?_; refine tk_ (i := 24) (N := some 42) HT_ HW_ hHeld ?_; refine tk_ (i := 26) (N := some 44) HT_ HW_ hHeld ?_; refine pu_ (i := 29) (N := some 47) HT_ ?_; refine pu_ (i := 30) (N := some 48) HT_ ?_; refine tk_ (i := 31) (N := some 49) HT_ HW_ hHeld ?_; refine pu_ (i := 32) (N := some 50) HT_ ?_; refine pu_ (i := 33) (N := some 51) HT_ ?_; refine pu_ (i := 34) (N := some 52) HT_ ?_; refine pu_ (i := 35) (N := some 53) HT_ ?_; refine pn_ (i := 36) (N := some 54) HT_ ?_; refine pn_ (i := 37) (N := some 55) HT_ ?_; refine pn_ (i := 38) (N := some 56) HT_ ?_; refine pn_ (i := 39) (N := some 57) HT_ ?_; refine pn_ (i := 40) (N := some 58) HT_ ?_; refine pn_ (i := 41) (N := some 59) HT_ ?_; refine pn_ (i := 42) (N := some 60) HT_ ?_; refine pn_ (i := 43) (N := some 61) HT_ ?_; refine pu_ (i := 44) (N := some 62) HT_ ?_; refine pu_ (i := 45) (N := some 63) HT_ ?_; refine pu_ (i := 46) (N := some 64) HT_ ?_
             refine done_ (done_of HT_.out (by kernel_rfl)) ?_
             try go_wp2
             first | go_meet | ((try simp only [← hji16]); go_meet)
             case rel => exact ⟨_, (true), (by first | rfl | (simp; done) | (simp [*]; done)), H', ⟨by have := HK1.out; first | omega | exact Nat.le_refl _⟩, ⟨by refine kb_ ?_; exact BK116.out⟩, ⟨by refine kb_ ?_; exact BK119.out⟩, ⟨hbA_ HB.out⟩⟩
            ·rw [if_neg c19] at H
             have c19b0 : decide (((rd_T36 l0_0 x4_1).f5) < (wrap64 (((rd_T36 l0_0 (ji16)).f5) + (((rd_T36 l0_0 (ji16)).f8).length : Int)))) = false := decide_eq_false c19
             clear c19
             have H' := Aside0.mk H
             clear H
             try go_wp2
             obtain ⟨w24, h_w24⟩ : ∃ w_, (((((((((w7.setCell ⟨gb119, 0, none⟩ (.int .i64 ((rd_T36 l0_0 x4_1).f0))).setCell ⟨gb119, 1, none⟩ (.int .i64 ((rd_T36 l0_0 x4_1).f1))).setCell ⟨gb119, 2, none⟩ (.int .i64 ((rd_T36 l0_0 x4_1).f2))).setCell ⟨gb119, 3, none⟩ (.int .i64 ((rd_T36 l0_0 x4_1).f3))).setCell ⟨gb119, 4, none⟩ (.int .i64 ((rd_T36 l0_0 x4_1).f4))).setCell ⟨gb119, 5, none⟩ (.int .i64 ((rd_T36 l0_0 x4_1).f5))).setCell ⟨gb119, 6, none⟩ (.bool ((rd_T36 l0_0 x4_1).f6))).setCell ⟨gb119, 7, none⟩ (.bool ((rd_T36 l0_0 x4_1).f7))).setCell ⟨gb119, 8, none⟩ (.slice A118_8 ((rd_T36 l0_0 x4_1).f8).length c118_8)) = w_ := ⟨_, rfl⟩
             have n0_ : Aside0 (w24.heap[gb116]? = some (.cells #[.slice (some ad118) l0_0.length c0_0, .int .i64 a0_1] 32 (0, 0))) := ⟨by subst h_w24; exact kf_ BK116.out⟩
             have n1_ : Aside0 (w24.heap[gb119]? = some (.cells #[.int .i64 ((rd_T36 l0_0 x4_1).f0), .int .i64 ((rd_T36 l0_0 x4_1).f1), .int .i64 ((rd_T36 l0_0 x4_1).f2), .int .i64 ((rd_T36 l0_0 x4_1).f3), .int .i64 ((rd_T36 l0_0 x4_1).f4), .int .i64 ((rd_T36 l0_0 x4_1).f5), .bool ((rd_T36 l0_0 x4_1).f6), .bool ((rd_T36 l0_0 x4_1).f7), .slice A118_8 ((rd_T36 l0_0 x4_1).f8).length c118_8] 36 (0, 0))) := ⟨by subst h_w24; refine kb_ ?_; refine pz9 (cs := #[.int .i64 0, .int .i64 0, .int .i64 0, .int .i64 0, .int .i64 0, .int .i64 0, .bool false, .bool false, .slice none 0 0]) ?_; refine kb_ ?_; exact BK119.out⟩
             have n2_ : Aside0 (Below w.heap.size w w24) := ⟨by subst h_w24; exact hbA_ HB.out⟩
             (try clear BK116); (try clear BK119); (try clear HB)
             (try rw [h_w24]); clear h_w24
             have BK116 := n0_; have BK119 := n1_; have HB := n2_; clear n0_ n1_ n2_; replace BK116 := Aside0.mk (blk_drew BK116.out); replace BK119 := Aside0.mk (blk_drew BK119.out); replace HB := (bd_ HB)
             have p121 : 0 ≤ (0 : Int) := (by omega)
             have q121 : 0 < (l0_0.length : Int) := of_decide_eq_true (by first | (with_reducible assumption) | assumption)
             obtain ⟨ad121, A121_8, c121_8, e121, hx121_0, hx121_1, hx121_2, hx121_3, hx121_4, hx121_5, hx121_6, hx121_7, hx121_8, hl121_8, hi121_8⟩ := at_T36 HR0_0.out 0 p121 q121
             (try simp only [show ((0 : Int)).toNat = 0 from rfl, show 0 * 9 = 0 from rfl, Addr.add_zero'] at hx121_0 hx121_1 hx121_2 hx121_3 hx121_4 hx121_5 hx121_6 hx121_7 hx121_8); have hw121_8 := hx121_8; have hw121_7 := hx121_7; have hw121_6 := hx121_6; have hw121_5 := hx121_5; have hw121_4 := hx121_4; have hw121_3 := hx121_3; have hw121_2 := hx121_2; have hw121_1 := hx121_1; have hw121_0 := hx121_0
             obtain rfl : ad118 = ad121 := (by injection e121)
             have qi121 : (0 < l0_0.length) = True := eq_true (by omega)
             replace hx121_0 := cc_ HB hx121_0
             replace hx121_1 := cc_ HB hx121_1
             replace hx121_2 := cc_ HB hx121_2
             replace hx121_3 := cc_ HB hx121_3
             replace hx121_4 := cc_ HB hx121_4
             replace hx121_5 := cc_ HB hx121_5
             replace hx121_6 := cc_ HB hx121_6
             replace hx121_7 := cc_ HB hx121_7
             replace hx121_8 := cc_ HB hx121_8
             have HR121_8 := Aside0.mk hi121_8; have HC121_8 := Aside0.mk hl121_8; clear hi121_8 hl121_8
             replace p121 := eq_true p121
             replace q121 := eq_true q121
             have p123 : 0 ≤ ((ji16) : Int) := of_decide_eq_true (by first | (with_reducible assumption) | assumption)
             have q123 : (ji16) < (l0_0.length : Int) := of_decide_eq_true (by first | (with_reducible assumption) | assumption)
             obtain ⟨ad123, A123_8, c123_8, e123, hx123_0, hx123_1, hx123_2, hx123_3, hx123_4, hx123_5, hx123_6, hx123_7, hx123_8, hl123_8, hi123_8⟩ := at_T36 HR0_0.out (ji16) p123 q123
             have hw123_8 := hx123_8; have hw123_7 := hx123_7; have hw123_6 := hx123_6; have hw123_5 := hx123_5; have hw123_4 := hx123_4; have hw123_3 := hx123_3; have hw123_2 := hx123_2; have hw123_1 := hx123_1; have hw123_0 := hx123_0
             obtain rfl : ad118 = ad123 := (by injection e123)
             replace hx123_0 := cc_ HB hx123_0
             replace hx123_1 := cc_ HB hx123_1
             replace hx123_2 := cc_ HB hx123_2
             replace hx123_3 := cc_ HB hx123_3
             replace hx123_4 := cc_ HB hx123_4
             replace hx123_5 := cc_ HB hx123_5
             replace hx123_6 := cc_ HB hx123_6
             replace hx123_7 := cc_ HB hx123_7
             replace hx123_8 := cc_ HB hx123_8
             have HR123_8 := Aside0.mk hi123_8; have HC123_8 := Aside0.mk hl123_8; clear hi123_8 hl123_8
             replace p123 := eq_true p123
             replace q123 := eq_true q123
             have p124 : 0 ≤ ((ji16) : Int) := of_decide_eq_true (by first | (with_reducible assumption) | assumption)
             have q124 : (ji16) < (l0_0.length : Int) := of_decide_eq_true (by first | (with_reducible assumption) | assumption)
             obtain ⟨ad124, A124_8, c124_8, e124, hx124_0, hx124_1, hx124_2, hx124_3, hx124_4, hx124_5, hx124_6, hx124_7, hx124_8, hl124_8, hi124_8⟩ := at_T36 HR0_0.out (ji16) p124 q124
             have hw124_8 := hx124_8; have hw124_7 := hx124_7; have hw124_6 := hx124_6; have hw124_5 := hx124_5; have hw124_4 := hx124_4; have hw124_3 := hx124_3; have hw124_2 := hx124_2; have hw124_1 := hx124_1; have hw124_0 := hx124_0
             obtain rfl : ad118 = ad124 := (by injection e124)
             replace hx124_0 := cc_ HB hx124_0
             replace hx124_1 := cc_ HB hx124_1
             replace hx124_2 := cc_ HB hx124_2
             replace hx124_3 := cc_ HB hx124_3
             replace hx124_4 := cc_ HB hx124_4
             replace hx124_5 := cc_ HB hx124_5
             replace hx124_6 := cc_ HB hx124_6
             replace hx124_7 := cc_ HB hx124_7
             replace hx124_8 := cc_ HB hx124_8
             have HR124_8 := Aside0.mk hi124_8; have HC124_8 := Aside0.mk hl124_8; clear hi124_8 hl124_8
             replace p124 := eq_true p124
             replace q124 := eq_true q124
             have ea_ := Option.some.inj (hx123_8.symm.trans hx124_8)
             injection ea_ with ea_ en_ ec_
             subst ea_; subst ec_; clear en_
             have p125 : 0 ≤ ((ji16) : Int) := of_decide_eq_true (by first | (with_reducible assumption) | assumption)
             have q125 : (ji16) < (l0_0.length : Int) := of_decide_eq_true (by first | (with_reducible assumption) | assumption)
             obtain ⟨ad125, A125_8, c125_8, e125, hx125_0, hx125_1, hx125_2, hx125_3, hx125_4, hx125_5, hx125_6, hx125_7, hx125_8, hl125_8, hi125_8⟩ := at_T36 HR0_0.out (ji16) p125 q125
             have hw125_8 := hx125_8; have hw125_7 := hx125_7; have hw125_6 := hx125_6; have hw125_5 := hx125_5; have hw125_4 := hx125_4; have hw125_3 := hx125_3; have hw125_2 := hx125_2; have hw125_1 := hx125_1; have hw125_0 := hx125_0
             obtain rfl : ad118 = ad125 := (by injection e125)
             replace hx125_0 := cc_ HB hx125_0
             replace hx125_1 := cc_ HB hx125_1
             replace hx125_2 := cc_ HB hx125_2
             replace hx125_3 := cc_ HB hx125_3
             replace hx125_4 := cc_ HB hx125_4
             replace hx125_5 := cc_ HB hx125_5
             replace hx125_6 := cc_ HB hx125_6
             replace hx125_7 := cc_ HB hx125_7
             replace hx125_8 := cc_ HB hx125_8
             have HR125_8 := Aside0.mk hi125_8; have HC125_8 := Aside0.mk hl125_8; clear hi125_8 hl125_8
             replace p125 := eq_true p125
             replace q125 := eq_true q125
             have ea_ := Option.some.inj (hx123_8.symm.trans hx125_8)
             injection ea_ with ea_ en_ ec_
             subst ea_; subst ec_; clear en_
             refine start_ (n := 47) (S := fun w' => w'.cell? ⟨gb119, 0, none⟩ = some (.int .i64 ((rd_T36 l0_0 x4_1).f0)) ∧ w'.cell? ⟨gb119, 1, none⟩ = some (.int .i64 ((rd_T36 l0_0 x4_1).f1)) ∧ w'.cell? ⟨gb119, 2, none⟩ = some (.int .i64 ((rd_T36 l0_0 x4_1).f2)) ∧ w'.cell? ⟨gb119, 3, none⟩ = some (.int .i64 ((rd_T36 l0_0 x4_1).f3)) ∧ w'.cell? ⟨gb119, 4, none⟩ = some (.int .i64 ((rd_T36 l0_0 x4_1).f4)) ∧ w'.cell? ⟨gb119, 5, none⟩ = some (.int .i64 ((rd_T36 l0_0 x4_1).f5)) ∧ w'.cell? ⟨gb119, 6, none⟩ = some (.bool ((rd_T36 l0_0 x4_1).f6)) ∧ w'.cell? ⟨gb119, 7, none⟩ = some (.bool ((rd_T36 l0_0 x4_1).f7)) ∧ w'.cell? ⟨gb119, 8, none⟩ = some (.slice A118_8 ((rd_T36 l0_0 x4_1).f8).length c118_8) ∧ w'.cell? ⟨gb116, 0, none⟩ = some (.slice (some ad118) l0_0.length c0_0) ∧ w'.cell? ⟨gb116, 1, none⟩ = some (.int .i64 a0_1) ∧ w'.cell? ad118 = some (.int .i64 ((rd_T36 l0_0 0).f0)) ∧ w'.cell? ⟨ad118.block, ad118.off + 1, none⟩ = some (.int .i64 ((rd_T36 l0_0 0).f1)) ∧ w'.cell? ⟨ad118.block, ad118.off + 2, none⟩ = some (.int .i64 ((rd_T36 l0_0 0).f2)) ∧ w'.cell? ⟨ad118.block, ad118.off + 3, none⟩ = some (.int .i64 ((rd_T36 l0_0 0).f3)) ∧ w'.cell? ⟨ad118.block, ad118.off + 4, none⟩ = some (.int .i64 ((rd_T36 l0_0 0).f4)) ∧ w'.cell? ⟨ad118.block, ad118.off + 5, none⟩ = some (.int .i64 ((rd_T36 l0_0 0).f5)) ∧ w'.cell? ⟨ad118.block, ad118.off + 6, none⟩ = some (.bool ((rd_T36 l0_0 0).f6)) ∧ w'.cell? ⟨ad118.block, ad118.off + 7, none⟩ = some (.bool ((rd_T36 l0_0 0).f7)) ∧ w'.cell? ⟨ad118.block, ad118.off + 8, none⟩ = some (.slice A121_8 ((rd_T36 l0_0 0).f8).length c121_8) ∧ w'.cell? (ad118.add (((ji16)).toNat * 9)) = some (.int .i64 ((rd_T36 l0_0 (ji16)).f0)) ∧ w'.cell? ⟨(ad118.add (((ji16)).toNat * 9)).block, (ad118.add (((ji16)).toNat * 9)).off + 1, none⟩ = some (.int .i64 ((rd_T36 l0_0 (ji16)).f1)) ∧ w'.cell? ⟨(ad118.add (((ji16)).toNat * 9)).block, (ad118.add (((ji16)).toNat * 9)).off + 2, none⟩ = some (.int .i64 ((rd_T36 l0_0 (ji16)).f2)) ∧ w'.cell? ⟨(ad118.add (((ji16)).toNat * 9)).block, (ad118.add (((ji16)).toNat * 9)).off + 3, none⟩ = some (.int .i64 ((rd_T36 l0_0 (ji16)).f3)) ∧ w'.cell? ⟨(ad118.add (((ji16)).toNat * 9)).block, (ad118.add (((ji16)).toNat * 9)).off + 4, none⟩ = some (.int .i64 ((rd_T36 l0_0 (ji16)).f4)) ∧ w'.cell? ⟨(ad118.add (((ji16)).toNat * 9)).block, (ad118.add (((ji16)).toNat * 9)).off + 5, none⟩ = some (.int .i64 ((rd_T36 l0_0 (ji16)).f5)) ∧ w'.cell? ⟨(ad118.add (((ji16)).toNat * 9)).block, (ad118.add (((ji16)).toNat * 9)).off + 6, none⟩ = some (.bool ((rd_T36 l0_0 (ji16)).f6)) ∧ w'.cell? ⟨(ad118.add (((ji16)).toNat * 9)).block, (ad118.add (((ji16)).toNat * 9)).off + 7, none⟩ = some (.bool ((rd_T36 l0_0 (ji16)).f7)) ∧ w'.cell? ⟨(ad118.add (((ji16)).toNat * 9)).block, (ad118.add (((ji16)).toNat * 9)).off + 8, none⟩ = some (.slice A123_8 ((rd_T36 l0_0 (ji16)).f8).length c123_8) ∧ w'.cell? (ad118.add (((ji16)).toNat * 9)) = some (.int .i64 ((rd_T36 l0_0 (ji16)).f0)) ∧ w'.cell? ⟨(ad118.add (((ji16)).toNat * 9)).block, (ad118.add (((ji16)).toNat * 9)).off + 1, none⟩ = some (.int .i64 ((rd_T36 l0_0 (ji16)).f1)) ∧ w'.cell? ⟨(ad118.add (((ji16)).toNat * 9)).block, (ad118.add (((ji16)).toNat * 9)).off + 2, none⟩ = some (.int .i64 ((rd_T36 l0_0 (ji16)).f2)) ∧ w'.cell? ⟨(ad118.add (((ji16)).toNat * 9)).block, (ad118.add (((ji16)).toNat * 9)).off + 3, none⟩ = some (.int .i64 ((rd_T36 l0_0 (ji16)).f3)) ∧ w'.cell? ⟨(ad118.add (((ji16)).toNat * 9)).block, (ad118.add (((ji16)).toNat * 9)).off + 4, none⟩ = some (.int .i64 ((rd_T36 l0_0 (ji16)).f4)) ∧ w'.cell? ⟨(ad118.add (((ji16)).toNat * 9)).block, (ad118.add (((ji16)).toNat * 9)).off + 5, none⟩ = some (.int .i64 ((rd_T36 l0_0 (ji16)).f5)) ∧ w'.cell? ⟨(ad118.add (((ji16)).toNat * 9)).block, (ad118.add (((ji16)).toNat * 9)).off + 6, none⟩ = some (.bool ((rd_T36 l0_0 (ji16)).f6)) ∧ w'.cell? ⟨(ad118.add (((ji16)).toNat * 9)).block, (ad118.add (((ji16)).toNat * 9)).off + 7, none⟩ = some (.bool ((rd_T36 l0_0 (ji16)).f7)) ∧ w'.cell? ⟨(ad118.add (((ji16)).toNat * 9)).block, (ad118.add (((ji16)).toNat * 9)).off + 8, none⟩ = some (.slice A123_8 ((rd_T36 l0_0 (ji16)).f8).length c123_8) ∧ w'.cell? (ad118.add (((ji16)).toNat * 9)) = some (.int .i64 ((rd_T36 l0_0 (ji16)).f0)) ∧ w'.cell? ⟨(ad118.add (((ji16)).toNat * 9)).block, (ad118.add (((ji16)).toNat * 9)).off + 1, none⟩ = some (.int .i64 ((rd_T36 l0_0 (ji16)).f1)) ∧ w'.cell? ⟨(ad118.add (((ji16)).toNat * 9)).block, (ad118.add (((ji16)).toNat * 9)).off + 2, none⟩ = some (.int .i64 ((rd_T36 l0_0 (ji16)).f2)) ∧ w'.cell? ⟨(ad118.add (((ji16)).toNat * 9)).block, (ad118.add (((ji16)).toNat * 9)).off + 3, none⟩ = some (.int .i64 ((rd_T36 l0_0 (ji16)).f3)) ∧ w'.cell? ⟨(ad118.add (((ji16)).toNat * 9)).block, (ad118.add (((ji16)).toNat * 9)).off + 4, none⟩ = some (.int .i64 ((rd_T36 l0_0 (ji16)).f4)) ∧ w'.cell? ⟨(ad118.add (((ji16)).toNat * 9)).block, (ad118.add (((ji16)).toNat * 9)).off + 5, none⟩ = some (.int .i64 ((rd_T36 l0_0 (ji16)).f5)) ∧ w'.cell? ⟨(ad118.add (((ji16)).toNat * 9)).block, (ad118.add (((ji16)).toNat * 9)).off + 6, none⟩ = some (.bool ((rd_T36 l0_0 (ji16)).f6)) ∧ w'.cell? ⟨(ad118.add (((ji16)).toNat * 9)).block, (ad118.add (((ji16)).toNat * 9)).off + 7, none⟩ = some (.bool ((rd_T36 l0_0 (ji16)).f7)) ∧ w'.cell? ⟨(ad118.add (((ji16)).toNat * 9)).block, (ad118.add (((ji16)).toNat * 9)).off + 8, none⟩ = some (.slice A123_8 ((rd_T36 l0_0 (ji16)).f8).length c123_8)) (ds := []) #[false, false, false, false, false, false, false, false, false, false, false, false, false, false, false, false, false, false, false, false, false, false, false, false, false, false, false, false, false, false, false, false, false, false, false, false, false, false, false, false, false, false, false, false, false, false, false] (by kernel_rfl) rfl rfl ⟨bc_ BK119 0, bc_ BK119 1, bc_ BK119 2, bc_ BK119 3, bc_ BK119 4, bc_ BK119 5, bc_ BK119 6, bc_ BK119 7, bc_ BK119 8, bc_ BK116 0, bc_ BK116 1, (cc_ HB hw121_0), (cc_ HB hw121_1), (cc_ HB hw121_2), (cc_ HB hw121_3), (cc_ HB hw121_4), (cc_ HB hw121_5), (cc_ HB hw121_6), (cc_ HB hw121_7), (cc_ HB hw121_8), (cc_ HB hw123_0), (cc_ HB hw123_1), (cc_ HB hw123_2), (cc_ HB hw123_3), (cc_ HB hw123_4), (cc_ HB hw123_5), (cc_ HB hw123_6), (cc_ HB hw123_7), (cc_ HB hw123_8), (cc_ HB hw124_0), (cc_ HB hw124_1), (cc_ HB hw124_2), (cc_ HB hw124_3), (cc_ HB hw124_4), (cc_ HB hw124_5), (cc_ HB hw124_6), (cc_ HB hw124_7), (cc_ HB hw124_8), (cc_ HB hw125_0), (cc_ HB hw125_1), (cc_ HB hw125_2), (cc_ HB hw125_3), (cc_ HB hw125_4), (cc_ HB hw125_5), (cc_ HB hw125_6), (cc_ HB hw125_7), (cc_ HB hw125_8)⟩ (fun hHeld => ?_); refine with_tabW spec_PartOk.tab6 spec_PartOk.bits6 (fun HT_ HW_ => ?_)
             generalize w24.drew = w25 at BK116 BK119 HB HR121_8 HR123_8 HR124_8 HR125_8 hx121_0 hx121_1 hx121_2 hx121_3 hx121_4 hx121_5 hx121_6 hx121_7 hx121_8 hx123_0 hx123_1 hx123_2 hx123_3 hx123_4 hx123_5 hx123_6 hx123_7 hx123_8 hx124_0 hx124_1 hx124_2 hx124_3 hx124_4 hx124_5 hx124_6 hx124_7 hx124_8 hx125_0 hx125_1 hx125_2 hx125_3 hx125_4 hx125_5 hx125_6 hx125_7 hx125_8 hHeld ⊢
             refine tk_ (i := 0) (N := some 18) HT_ HW_ hHeld ?_
             refine on_ (i := 1) (N := some 19) HT_ (fun K hK => ?_)
             refine goes_ Try.func46 (by kernel_rfl) rfl #[.agg #[.int .i64 ((rd_T36 l0_0 x4_1).f0), .int .i64 ((rd_T36 l0_0 x4_1).f1), .int .i64 ((rd_T36 l0_0 x4_1).f2), .int .i64 ((rd_T36 l0_0 x4_1).f3), .int .i64 ((rd_T36 l0_0 x4_1).f4), .int .i64 ((rd_T36 l0_0 x4_1).f5), .bool ((rd_T36 l0_0 x4_1).f6), .bool ((rd_T36 l0_0 x4_1).f7), .slice A118_8 ((rd_T36 l0_0 x4_1).f8).length c118_8]] (by rfl) rfl rfl ar_ ?_
             with_reducible refine (spec_PacketOk.calls k1 ((rd_T36 l0_0 x4_1).f0) ((rd_T36 l0_0 x4_1).f1) ((rd_T36 l0_0 x4_1).f2) ((rd_T36 l0_0 x4_1).f3) ((rd_T36 l0_0 x4_1).f4) ((rd_T36 l0_0 x4_1).f5) ((rd_T36 l0_0 x4_1).f6) ((rd_T36 l0_0 x4_1).f7) _ _ ((rd_T36 l0_0 x4_1).f8) true _ ?side1 ?side2 A10.out).mono ?_
             (case side1 => exact kC_ (Kd.C_below HR118_8.out HB.out))
             (case side2 => exact HC118_8.out)
             rintro e w26 ⟨rfl, hb⟩
             refine ⟨_, rfl, ?_⟩
             replace BK116 := (bbA_ BK116 hb); replace BK119 := (bbA_ BK119 hb); replace HB := (bs_ HB hb); (try clear hb); (try clear hb2); (try clear hk); (try clear hi)
             refine hK.out _ _ ⟨bc_ BK119 0, bc_ BK119 1, bc_ BK119 2, bc_ BK119 3, bc_ BK119 4, bc_ BK119 5, bc_ BK119 6, bc_ BK119 7, bc_ BK119 8, bc_ BK116 0, bc_ BK116 1, (by first | exact cc_ HB hw121_0 | exact cc_ ⟨hbA_ HB.out⟩ hw121_0), (by first | exact cc_ HB hw121_1 | exact cc_ ⟨hbA_ HB.out⟩ hw121_1), (by first | exact cc_ HB hw121_2 | exact cc_ ⟨hbA_ HB.out⟩ hw121_2), (by first | exact cc_ HB hw121_3 | exact cc_ ⟨hbA_ HB.out⟩ hw121_3), (by first | exact cc_ HB hw121_4 | exact cc_ ⟨hbA_ HB.out⟩ hw121_4), (by first | exact cc_ HB hw121_5 | exact cc_ ⟨hbA_ HB.out⟩ hw121_5), (by first | exact cc_ HB hw121_6 | exact cc_ ⟨hbA_ HB.out⟩ hw121_6), (by first | exact cc_ HB hw121_7 | exact cc_ ⟨hbA_ HB.out⟩ hw121_7), (by first | exact cc_ HB hw121_8 | exact cc_ ⟨hbA_ HB.out⟩ hw121_8), (by first | exact cc_ HB hw123_0 | exact cc_ ⟨hbA_ HB.out⟩ hw123_0), (by first | exact cc_ HB hw123_1 | exact cc_ ⟨hbA_ HB.out⟩ hw123_1), (by first | exact cc_ HB hw123_2 | exact cc_ ⟨hbA_ HB.out⟩ hw123_2), (by first | exact cc_ HB hw123_3 | exact cc_ ⟨hbA_ HB.out⟩ hw123_3), (by first | exact cc_ HB hw123_4 | exact cc_ ⟨hbA_ HB.out⟩ hw123_4), (by first | exact cc_ HB hw123_5 | exact cc_ ⟨hbA_ HB.out⟩ hw123_5), (by first | exact cc_ HB hw123_6 | exact cc_ ⟨hbA_ HB.out⟩ hw123_6), (by first | exact cc_ HB hw123_7 | exact cc_ ⟨hbA_ HB.out⟩ hw123_7), (by first | exact cc_ HB hw123_8 | exact cc_ ⟨hbA_ HB.out⟩ hw123_8), (by first | exact cc_ HB hw124_0 | exact cc_ ⟨hbA_ HB.out⟩ hw124_0), (by first | exact cc_ HB hw124_1 | exact cc_ ⟨hbA_ HB.out⟩ hw124_1), (by first | exact cc_ HB hw124_2 | exact cc_ ⟨hbA_ HB.out⟩ hw124_2), (by first | exact cc_ HB hw124_3 | exact cc_ ⟨hbA_ HB.out⟩ hw124_3), (by first | exact cc_ HB hw124_4 | exact cc_ ⟨hbA_ HB.out⟩ hw124_4), (by first | exact cc_ HB hw124_5 | exact cc_ ⟨hbA_ HB.out⟩ hw124_5), (by first | exact cc_ HB hw124_6 | exact cc_ ⟨hbA_ HB.out⟩ hw124_6), (by first | exact cc_ HB hw124_7 | exact cc_ ⟨hbA_ HB.out⟩ hw124_7), (by first | exact cc_ HB hw124_8 | exact cc_ ⟨hbA_ HB.out⟩ hw124_8), (by first | exact cc_ HB hw125_0 | exact cc_ ⟨hbA_ HB.out⟩ hw125_0), (by first | exact cc_ HB hw125_1 | exact cc_ ⟨hbA_ HB.out⟩ hw125_1), (by first | exact cc_ HB hw125_2 | exact cc_ ⟨hbA_ HB.out⟩ hw125_2), (by first | exact cc_ HB hw125_3 | exact cc_ ⟨hbA_ HB.out⟩ hw125_3), (by first | exact cc_ HB hw125_4 | exact cc_ ⟨hbA_ HB.out⟩ hw125_4), (by first | exact cc_ HB hw125_5 | exact cc_ ⟨hbA_ HB.out⟩ hw125_5), (by first | exact cc_ HB hw125_6 | exact cc_ ⟨hbA_ HB.out⟩ hw125_6), (by first | exact cc_ HB hw125_7 | exact cc_ ⟨hbA_ HB.out⟩ hw125_7), (by first | exact cc_ HB hw125_8 | exact cc_ ⟨hbA_ HB.out⟩ hw125_8)⟩ (fun hHeld => ?_)
             clear hK K; refine nm_ 19 ?_; refine pu_ (i := 2) (N := some 20) HT_ ?_; refine pu_ (i := 3) (N := some 21) HT_ ?_; refine pu_ (i := 5) (N := some 23) HT_ ?_; refine tk_ (i := 4) (N := some 22) HT_ HW_ hHeld ?_; refine tk_ (i := 6) (N := some 24) HT_ HW_ hHeld ?_; refine pu_ (i := 7) (N := some 25) HT_ ?_; refine tk_ (i := 8) (N := some 26) HT_ HW_ hHeld ?_
             refine on_ (i := 9) (N := some 27) HT_ (fun K hK => ?_)
             refine goes_ Try.func47 (by kernel_rfl) rfl #[.agg #[.int .i64 ((rd_T36 l0_0 x4_1).f0), .int .i64 ((rd_T36 l0_0 x4_1).f1), .int .i64 ((rd_T36 l0_0 x4_1).f2), .int .i64 ((rd_T36 l0_0 x4_1).f3), .int .i64 ((rd_T36 l0_0 x4_1).f4), .int .i64 ((rd_T36 l0_0 x4_1).f5), .bool ((rd_T36 l0_0 x4_1).f6), .bool ((rd_T36 l0_0 x4_1).f7), .slice A118_8 ((rd_T36 l0_0 x4_1).f8).length c118_8], .agg #[.int .i64 ((rd_T36 l0_0 0).f0), .int .i64 ((rd_T36 l0_0 0).f1), .int .i64 ((rd_T36 l0_0 0).f2), .int .i64 ((rd_T36 l0_0 0).f3), .int .i64 ((rd_T36 l0_0 0).f4), .int .i64 ((rd_T36 l0_0 0).f5), .bool ((rd_T36 l0_0 0).f6), .bool ((rd_T36 l0_0 0).f7), .slice A121_8 ((rd_T36 l0_0 0).f8).length c121_8]] (by rfl) rfl rfl ar_ ?_
             with_reducible refine (spec_l5Same.calls ((rd_T36 l0_0 x4_1).f0) ((rd_T36 l0_0 x4_1).f1) ((rd_T36 l0_0 x4_1).f2) ((rd_T36 l0_0 x4_1).f3) ((rd_T36 l0_0 x4_1).f4) ((rd_T36 l0_0 x4_1).f5) ((rd_T36 l0_0 x4_1).f6) ((rd_T36 l0_0 x4_1).f7) _ _ ((rd_T36 l0_0 x4_1).f8) ((rd_T36 l0_0 0).f0) ((rd_T36 l0_0 0).f1) ((rd_T36 l0_0 0).f2) ((rd_T36 l0_0 0).f3) ((rd_T36 l0_0 0).f4) ((rd_T36 l0_0 0).f5) ((rd_T36 l0_0 0).f6) ((rd_T36 l0_0 0).f7) _ _ ((rd_T36 l0_0 0).f8) true _ ?side1 ?side2 ?side3 ?side4 A13.out).mono ?_
             (case side1 => exact kC_ (Kd.C_below HR118_8.out HB.out))
             (case side2 => exact HC118_8.out)
             (case side3 => exact kC_ (Kd.C_below HR121_8.out HB.out))
             (case side4 => exact HC121_8.out)
             rintro e w27 ⟨rfl, hb⟩
             refine ⟨_, rfl, ?_⟩
             replace BK116 := (bbA_ BK116 hb); replace BK119 := (bbA_ BK119 hb); replace HB := (bs_ HB hb); (try clear hb); (try clear hb2); (try clear hk); (try clear hi)
             refine hK.out _ _ ⟨bc_ BK119 0, bc_ BK119 1, bc_ BK119 2, bc_ BK119 3, bc_ BK119 4, bc_ BK119 5, bc_ BK119 6, bc_ BK119 7, bc_ BK119 8, bc_ BK116 0, bc_ BK116 1, (by first | exact cc_ HB hw121_0 | exact cc_ ⟨hbA_ HB.out⟩ hw121_0), (by first | exact cc_ HB hw121_1 | exact cc_ ⟨hbA_ HB.out⟩ hw121_1), (by first | exact cc_ HB hw121_2 | exact cc_ ⟨hbA_ HB.out⟩ hw121_2), (by first | exact cc_ HB hw121_3 | exact cc_ ⟨hbA_ HB.out⟩ hw121_3), (by first | exact cc_ HB hw121_4 | exact cc_ ⟨hbA_ HB.out⟩ hw121_4), (by first | exact cc_ HB hw121_5 | exact cc_ ⟨hbA_ HB.out⟩ hw121_5), (by first | exact cc_ HB hw121_6 | exact cc_ ⟨hbA_ HB.out⟩ hw121_6), (by first | exact cc_ HB hw121_7 | exact cc_ ⟨hbA_ HB.out⟩ hw121_7), (by first | exact cc_ HB hw121_8 | exact cc_ ⟨hbA_ HB.out⟩ hw121_8), (by first | exact cc_ HB hw123_0 | exact cc_ ⟨hbA_ HB.out⟩ hw123_0), (by first | exact cc_ HB hw123_1 | exact cc_ ⟨hbA_ HB.out⟩ hw123_1), (by first | exact cc_ HB hw123_2 | exact cc_ ⟨hbA_ HB.out⟩ hw123_2), (by first | exact cc_ HB hw123_3 | exact cc_ ⟨hbA_ HB.out⟩ hw123_3), (by first | exact cc_ HB hw123_4 | exact cc_ ⟨hbA_ HB.out⟩ hw123_4), (by first | exact cc_ HB hw123_5 | exact cc_ ⟨hbA_ HB.out⟩ hw123_5), (by first | exact cc_ HB hw123_6 | exact cc_ ⟨hbA_ HB.out⟩ hw123_6), (by first | exact cc_ HB hw123_7 | exact cc_ ⟨hbA_ HB.out⟩ hw123_7), (by first | exact cc_ HB hw123_8 | exact cc_ ⟨hbA_ HB.out⟩ hw123_8), (by first | exact cc_ HB hw124_0 | exact cc_ ⟨hbA_ HB.out⟩ hw124_0), (by first | exact cc_ HB hw124_1 | exact cc_ ⟨hbA_ HB.out⟩ hw124_1), (by first | exact cc_ HB hw124_2 | exact cc_ ⟨hbA_ HB.out⟩ hw124_2), (by first | exact cc_ HB hw124_3 | exact cc_ ⟨hbA_ HB.out⟩ hw124_3), (by first | exact cc_ HB hw124_4 | exact cc_ ⟨hbA_ HB.out⟩ hw124_4), (by first | exact cc_ HB hw124_5 | exact cc_ ⟨hbA_ HB.out⟩ hw124_5), (by first | exact cc_ HB hw124_6 | exact cc_ ⟨hbA_ HB.out⟩ hw124_6), (by first | exact cc_ HB hw124_7 | exact cc_ ⟨hbA_ HB.out⟩ hw124_7), (by first | exact cc_ HB hw124_8 | exact cc_ ⟨hbA_ HB.out⟩ hw124_8), (by first | exact cc_ HB hw125_0 | exact cc_ ⟨hbA_ HB.out⟩ hw125_0), (by first | exact cc_ HB hw125_1 | exact cc_ ⟨hbA_ HB.out⟩ hw125_1), (by first | exact cc_ HB hw125_2 | exact cc_ ⟨hbA_ HB.out⟩ hw125_2), (by first | exact cc_ HB hw125_3 | exact cc_ ⟨hbA_ HB.out⟩ hw125_3), (by first | exact cc_ HB hw125_4 | exact cc_ ⟨hbA_ HB.out⟩ hw125_4), (by first | exact cc_ HB hw125_5 | exact cc_ ⟨hbA_ HB.out⟩ hw125_5), (by first | exact cc_ HB hw125_6 | exact cc_ ⟨hbA_ HB.out⟩ hw125_6), (by first | exact cc_ HB hw125_7 | exact cc_ ⟨hbA_ HB.out⟩ hw125_7), (by first | exact cc_ HB hw125_8 | exact cc_ ⟨hbA_ HB.out⟩ hw125_8)⟩ (fun hHeld => ?_)
             clear hK K; refine nm_ 27 ?_; refine pu_ (i := 10) (N := some 28) HT_ ?_; refine pu_ (i := 11) (N := some 29) HT_ ?_; refine pu_ (i := 12) (N := some 30) HT_ ?_; refine pu_ (i := 13) (N := some 31) HT_ ?_; refine pu_ (i := 14) (N := some 32) HT_ ?_; refine pu_ (i := 15) (N := some 33) HT_ ?_; refine pu_ (i := 16) (N := some 34) HT_ ?_; refine pu_ (i := 18) (N := some 36) HT_ ?_; refine pu_ (i := 20) (N := some 38) HT_ ?_; refine pu_ (i := 21) (N := some 39) HT_ ?_; refine pu_ (i := 25) (N := some 43) HT_ ?_; refine pu_ (i := 27) (N := some 45) HT_ ?_; refine pu_ (i := 28) (N := some 46) HT_ ?_; refine tk_ (i := 17) (N := some 35) HT_ HW_ hHeld ?_; refine tk_ (i := 19) (N := some 37) HT_ HW_ hHeld ?_; refine pu_ (i := 22) (N := some 40) HT_ ?_; refine pu_ (i := 23) (N := some 41) HT_ ?_; refine tk_ (i := 24) (N := some 42) HT_ HW_ hHeld ?_; refine tk_ (i := 26) (N := some 44) HT_ HW_ hHeld ?_; refine pu_ (i := 29) (N := some 47) HT_ ?_; refine pu_ (i := 30) (N := some 48) HT_ ?_; refine tk_ (i := 31) (N := some 49) HT_ HW_ hHeld ?_; refine pu_ (i := 32) (N := some 50) HT_ ?_; refine pu_ (i := 33) (N := some 51) HT_ ?_; refine pu_ (i := 34) (N := some 52) HT_ ?_; refine pu_ (i := 35) (N := some 53) HT_ ?_; refine pu_ (i := 36) (N := some 54) HT_ ?_; refine pu_ (i := 38) (N := some 56) HT_ ?_; refine pu_ (i := 39) (N := some 57) HT_ ?_; refine tk_ (i := 37) (N := some 55) HT_ HW_ hHeld ?_; refine pu_ (i := 40) (N := some 58) HT_ ?_; refine pu_ (i := 41) (N := some 59) HT_ ?_; refine tk_ (i := 42) (N := some 60) HT_ HW_ hHeld ?_; refine pu_ (i := 43) (N := some 61) HT_ ?_; refine pu_ (i := 44) (N := some 62) HT_ ?_; refine pu_ (i := 45) (N := some 63) HT_ ?_; refine pu_ (i := 46) (N := some 64) HT_ ?_
             refine done_ (done_of HT_.out (by kernel_rfl)) ?_
             try go_wp2
             first | go_meet | ((try simp only [← hji16]); go_meet)
             case rel => exact ⟨_, (!((rd_T36 l0_0 (ji16)).f6)), (by first | rfl | (simp; done) | (simp only [← hji16] <;> (first | rfl | simp)) | (simp [*]; done)), H', ⟨by have := HK1.out; first | omega | exact Nat.le_refl _⟩, ⟨by refine kb_ ?_; exact BK116.out⟩, ⟨by refine kb_ ?_; exact BK119.out⟩, ⟨hbA_ HB.out⟩⟩
           ·rw [if_neg c18] at H
            exact absurd H (by simp)
          ·rw [if_neg c17] at H
           exact absurd H (by simp)
         ·rw [if_neg c15] at H
          have c15b0 : decide (0 < x4_1) = false := decide_eq_false c15
          clear c15
          have H' := Aside0.mk H
          clear H
          try go_wp2
          obtain ⟨w28, h_w28⟩ : ∃ w_, (((((((((w7.setCell ⟨gb119, 0, none⟩ (.int .i64 ((rd_T36 l0_0 x4_1).f0))).setCell ⟨gb119, 1, none⟩ (.int .i64 ((rd_T36 l0_0 x4_1).f1))).setCell ⟨gb119, 2, none⟩ (.int .i64 ((rd_T36 l0_0 x4_1).f2))).setCell ⟨gb119, 3, none⟩ (.int .i64 ((rd_T36 l0_0 x4_1).f3))).setCell ⟨gb119, 4, none⟩ (.int .i64 ((rd_T36 l0_0 x4_1).f4))).setCell ⟨gb119, 5, none⟩ (.int .i64 ((rd_T36 l0_0 x4_1).f5))).setCell ⟨gb119, 6, none⟩ (.bool ((rd_T36 l0_0 x4_1).f6))).setCell ⟨gb119, 7, none⟩ (.bool ((rd_T36 l0_0 x4_1).f7))).setCell ⟨gb119, 8, none⟩ (.slice A118_8 ((rd_T36 l0_0 x4_1).f8).length c118_8)) = w_ := ⟨_, rfl⟩
          have n0_ : Aside0 (w28.heap[gb116]? = some (.cells #[.slice (some ad118) l0_0.length c0_0, .int .i64 a0_1] 32 (0, 0))) := ⟨by subst h_w28; exact kf_ BK116.out⟩
          have n1_ : Aside0 (w28.heap[gb119]? = some (.cells #[.int .i64 ((rd_T36 l0_0 x4_1).f0), .int .i64 ((rd_T36 l0_0 x4_1).f1), .int .i64 ((rd_T36 l0_0 x4_1).f2), .int .i64 ((rd_T36 l0_0 x4_1).f3), .int .i64 ((rd_T36 l0_0 x4_1).f4), .int .i64 ((rd_T36 l0_0 x4_1).f5), .bool ((rd_T36 l0_0 x4_1).f6), .bool ((rd_T36 l0_0 x4_1).f7), .slice A118_8 ((rd_T36 l0_0 x4_1).f8).length c118_8] 36 (0, 0))) := ⟨by subst h_w28; refine kb_ ?_; refine pz9 (cs := #[.int .i64 0, .int .i64 0, .int .i64 0, .int .i64 0, .int .i64 0, .int .i64 0, .bool false, .bool false, .slice none 0 0]) ?_; refine kb_ ?_; exact BK119.out⟩
          have n2_ : Aside0 (Below w.heap.size w w28) := ⟨by subst h_w28; exact hbA_ HB.out⟩
          (try clear BK116); (try clear BK119); (try clear HB)
          (try rw [h_w28]); clear h_w28
          have BK116 := n0_; have BK119 := n1_; have HB := n2_; clear n0_ n1_ n2_; replace BK116 := Aside0.mk (blk_drew BK116.out); replace BK119 := Aside0.mk (blk_drew BK119.out); replace HB := (bd_ HB)
          have p121 : 0 ≤ (0 : Int) := (by omega)
          have q121 : 0 < (l0_0.length : Int) := of_decide_eq_true (by first | (with_reducible assumption) | assumption)
          obtain ⟨ad121, A121_8, c121_8, e121, hx121_0, hx121_1, hx121_2, hx121_3, hx121_4, hx121_5, hx121_6, hx121_7, hx121_8, hl121_8, hi121_8⟩ := at_T36 HR0_0.out 0 p121 q121
          (try simp only [show ((0 : Int)).toNat = 0 from rfl, show 0 * 9 = 0 from rfl, Addr.add_zero'] at hx121_0 hx121_1 hx121_2 hx121_3 hx121_4 hx121_5 hx121_6 hx121_7 hx121_8); have hw121_8 := hx121_8; have hw121_7 := hx121_7; have hw121_6 := hx121_6; have hw121_5 := hx121_5; have hw121_4 := hx121_4; have hw121_3 := hx121_3; have hw121_2 := hx121_2; have hw121_1 := hx121_1; have hw121_0 := hx121_0
          obtain rfl : ad118 = ad121 := (by injection e121)
          have qi121 : (0 < l0_0.length) = True := eq_true (by omega)
          replace hx121_0 := cc_ HB hx121_0
          replace hx121_1 := cc_ HB hx121_1
          replace hx121_2 := cc_ HB hx121_2
          replace hx121_3 := cc_ HB hx121_3
          replace hx121_4 := cc_ HB hx121_4
          replace hx121_5 := cc_ HB hx121_5
          replace hx121_6 := cc_ HB hx121_6
          replace hx121_7 := cc_ HB hx121_7
          replace hx121_8 := cc_ HB hx121_8
          have HR121_8 := Aside0.mk hi121_8; have HC121_8 := Aside0.mk hl121_8; clear hi121_8 hl121_8
          replace p121 := eq_true p121
          replace q121 := eq_true q121
          refine start_ (n := 47) (S := fun w' => w'.cell? ⟨gb119, 0, none⟩ = some (.int .i64 ((rd_T36 l0_0 x4_1).f0)) ∧ w'.cell? ⟨gb119, 1, none⟩ = some (.int .i64 ((rd_T36 l0_0 x4_1).f1)) ∧ w'.cell? ⟨gb119, 2, none⟩ = some (.int .i64 ((rd_T36 l0_0 x4_1).f2)) ∧ w'.cell? ⟨gb119, 3, none⟩ = some (.int .i64 ((rd_T36 l0_0 x4_1).f3)) ∧ w'.cell? ⟨gb119, 4, none⟩ = some (.int .i64 ((rd_T36 l0_0 x4_1).f4)) ∧ w'.cell? ⟨gb119, 5, none⟩ = some (.int .i64 ((rd_T36 l0_0 x4_1).f5)) ∧ w'.cell? ⟨gb119, 6, none⟩ = some (.bool ((rd_T36 l0_0 x4_1).f6)) ∧ w'.cell? ⟨gb119, 7, none⟩ = some (.bool ((rd_T36 l0_0 x4_1).f7)) ∧ w'.cell? ⟨gb119, 8, none⟩ = some (.slice A118_8 ((rd_T36 l0_0 x4_1).f8).length c118_8) ∧ w'.cell? ⟨gb116, 0, none⟩ = some (.slice (some ad118) l0_0.length c0_0) ∧ w'.cell? ⟨gb116, 1, none⟩ = some (.int .i64 a0_1) ∧ w'.cell? ad118 = some (.int .i64 ((rd_T36 l0_0 0).f0)) ∧ w'.cell? ⟨ad118.block, ad118.off + 1, none⟩ = some (.int .i64 ((rd_T36 l0_0 0).f1)) ∧ w'.cell? ⟨ad118.block, ad118.off + 2, none⟩ = some (.int .i64 ((rd_T36 l0_0 0).f2)) ∧ w'.cell? ⟨ad118.block, ad118.off + 3, none⟩ = some (.int .i64 ((rd_T36 l0_0 0).f3)) ∧ w'.cell? ⟨ad118.block, ad118.off + 4, none⟩ = some (.int .i64 ((rd_T36 l0_0 0).f4)) ∧ w'.cell? ⟨ad118.block, ad118.off + 5, none⟩ = some (.int .i64 ((rd_T36 l0_0 0).f5)) ∧ w'.cell? ⟨ad118.block, ad118.off + 6, none⟩ = some (.bool ((rd_T36 l0_0 0).f6)) ∧ w'.cell? ⟨ad118.block, ad118.off + 7, none⟩ = some (.bool ((rd_T36 l0_0 0).f7)) ∧ w'.cell? ⟨ad118.block, ad118.off + 8, none⟩ = some (.slice A121_8 ((rd_T36 l0_0 0).f8).length c121_8)) (ds := []) #[false, false, false, false, false, false, false, false, false, false, false, false, false, false, false, false, false, false, false, false, false, false, false, false, false, false, false, false, false, false, false, false, false, false, false, false, false, false, false, false, false, false, false, false, false, false, false] (by kernel_rfl) rfl rfl ⟨bc_ BK119 0, bc_ BK119 1, bc_ BK119 2, bc_ BK119 3, bc_ BK119 4, bc_ BK119 5, bc_ BK119 6, bc_ BK119 7, bc_ BK119 8, bc_ BK116 0, bc_ BK116 1, (cc_ HB hw121_0), (cc_ HB hw121_1), (cc_ HB hw121_2), (cc_ HB hw121_3), (cc_ HB hw121_4), (cc_ HB hw121_5), (cc_ HB hw121_6), (cc_ HB hw121_7), (cc_ HB hw121_8)⟩ (fun hHeld => ?_); refine with_tabW spec_PartOk.tab6 spec_PartOk.bits6 (fun HT_ HW_ => ?_)
          generalize w28.drew = w29 at BK116 BK119 HB HR121_8 hx121_0 hx121_1 hx121_2 hx121_3 hx121_4 hx121_5 hx121_6 hx121_7 hx121_8 hHeld ⊢
          refine tk_ (i := 0) (N := some 18) HT_ HW_ hHeld ?_
          refine on_ (i := 1) (N := some 19) HT_ (fun K hK => ?_)
          refine goes_ Try.func46 (by kernel_rfl) rfl #[.agg #[.int .i64 ((rd_T36 l0_0 x4_1).f0), .int .i64 ((rd_T36 l0_0 x4_1).f1), .int .i64 ((rd_T36 l0_0 x4_1).f2), .int .i64 ((rd_T36 l0_0 x4_1).f3), .int .i64 ((rd_T36 l0_0 x4_1).f4), .int .i64 ((rd_T36 l0_0 x4_1).f5), .bool ((rd_T36 l0_0 x4_1).f6), .bool ((rd_T36 l0_0 x4_1).f7), .slice A118_8 ((rd_T36 l0_0 x4_1).f8).length c118_8]] (by rfl) rfl rfl ar_ ?_
          with_reducible refine (spec_PacketOk.calls k1 ((rd_T36 l0_0 x4_1).f0) ((rd_T36 l0_0 x4_1).f1) ((rd_T36 l0_0 x4_1).f2) ((rd_T36 l0_0 x4_1).f3) ((rd_T36 l0_0 x4_1).f4) ((rd_T36 l0_0 x4_1).f5) ((rd_T36 l0_0 x4_1).f6) ((rd_T36 l0_0 x4_1).f7) _ _ ((rd_T36 l0_0 x4_1).f8) true _ ?side1 ?side2 A10.out).mono ?_
          (case side1 => exact kC_ (Kd.C_below HR118_8.out HB.out))
          (case side2 => exact HC118_8.out)
          rintro e w30 ⟨rfl, hb⟩
          refine ⟨_, rfl, ?_⟩
          replace BK116 := (bbA_ BK116 hb); replace BK119 := (bbA_ BK119 hb); replace HB := (bs_ HB hb); (try clear hb); (try clear hb2); (try clear hk); (try clear hi)
          refine hK.out _ _ ⟨bc_ BK119 0, bc_ BK119 1, bc_ BK119 2, bc_ BK119 3, bc_ BK119 4, bc_ BK119 5, bc_ BK119 6, bc_ BK119 7, bc_ BK119 8, bc_ BK116 0, bc_ BK116 1, (by first | exact cc_ HB hw121_0 | exact cc_ ⟨hbA_ HB.out⟩ hw121_0), (by first | exact cc_ HB hw121_1 | exact cc_ ⟨hbA_ HB.out⟩ hw121_1), (by first | exact cc_ HB hw121_2 | exact cc_ ⟨hbA_ HB.out⟩ hw121_2), (by first | exact cc_ HB hw121_3 | exact cc_ ⟨hbA_ HB.out⟩ hw121_3), (by first | exact cc_ HB hw121_4 | exact cc_ ⟨hbA_ HB.out⟩ hw121_4), (by first | exact cc_ HB hw121_5 | exact cc_ ⟨hbA_ HB.out⟩ hw121_5), (by first | exact cc_ HB hw121_6 | exact cc_ ⟨hbA_ HB.out⟩ hw121_6), (by first | exact cc_ HB hw121_7 | exact cc_ ⟨hbA_ HB.out⟩ hw121_7), (by first | exact cc_ HB hw121_8 | exact cc_ ⟨hbA_ HB.out⟩ hw121_8)⟩ (fun hHeld => ?_)
          clear hK K; refine nm_ 19 ?_; refine pu_ (i := 2) (N := some 20) HT_ ?_; refine pu_ (i := 3) (N := some 21) HT_ ?_; refine pu_ (i := 5) (N := some 23) HT_ ?_; refine tk_ (i := 4) (N := some 22) HT_ HW_ hHeld ?_; refine tk_ (i := 6) (N := some 24) HT_ HW_ hHeld ?_; refine pu_ (i := 7) (N := some 25) HT_ ?_; refine tk_ (i := 8) (N := some 26) HT_ HW_ hHeld ?_
          refine on_ (i := 9) (N := some 27) HT_ (fun K hK => ?_)
          refine goes_ Try.func47 (by kernel_rfl) rfl #[.agg #[.int .i64 ((rd_T36 l0_0 x4_1).f0), .int .i64 ((rd_T36 l0_0 x4_1).f1), .int .i64 ((rd_T36 l0_0 x4_1).f2), .int .i64 ((rd_T36 l0_0 x4_1).f3), .int .i64 ((rd_T36 l0_0 x4_1).f4), .int .i64 ((rd_T36 l0_0 x4_1).f5), .bool ((rd_T36 l0_0 x4_1).f6), .bool ((rd_T36 l0_0 x4_1).f7), .slice A118_8 ((rd_T36 l0_0 x4_1).f8).length c118_8], .agg #[.int .i64 ((rd_T36 l0_0 0).f0), .int .i64 ((rd_T36 l0_0 0).f1), .int .i64 ((rd_T36 l0_0 0).f2), .int .i64 ((rd_T36 l0_0 0).f3), .int .i64 ((rd_T36 l0_0 0).f4), .int .i64 ((rd_T36 l0_0 0).f5), .bool ((rd_T36 l0_0 0).f6), .bool ((rd_T36 l0_0 0).f7), .slice A121_8 ((rd_T36 l0_0 0).f8).length c121_8]] (by rfl) rfl rfl ar_ ?_
          with_reducible refine (spec_l5Same.calls ((rd_T36 l0_0 x4_1).f0) ((rd_T36 l0_0 x4_1).f1) ((rd_T36 l0_0 x4_1).f2) ((rd_T36 l0_0 x4_1).f3) ((rd_T36 l0_0 x4_1).f4) ((rd_T36 l0_0 x4_1).f5) ((rd_T36 l0_0 x4_1).f6) ((rd_T36 l0_0 x4_1).f7) _ _ ((rd_T36 l0_0 x4_1).f8) ((rd_T36 l0_0 0).f0) ((rd_T36 l0_0 0).f1) ((rd_T36 l0_0 0).f2) ((rd_T36 l0_0 0).f3) ((rd_T36 l0_0 0).f4) ((rd_T36 l0_0 0).f5) ((rd_T36 l0_0 0).f6) ((rd_T36 l0_0 0).f7) _ _ ((rd_T36 l0_0 0).f8) true _ ?side1 ?side2 ?side3 ?side4 A13.out).mono ?_
          (case side1 => exact kC_ (Kd.C_below HR118_8.out HB.out))
          (case side2 => exact HC118_8.out)
          (case side3 => exact kC_ (Kd.C_below HR121_8.out HB.out))
          (case side4 => exact HC121_8.out)
          rintro e w31 ⟨rfl, hb⟩
          refine ⟨_, rfl, ?_⟩
          replace BK116 := (bbA_ BK116 hb); replace BK119 := (bbA_ BK119 hb); replace HB := (bs_ HB hb); (try clear hb); (try clear hb2); (try clear hk); (try clear hi)
          refine hK.out _ _ ⟨bc_ BK119 0, bc_ BK119 1, bc_ BK119 2, bc_ BK119 3, bc_ BK119 4, bc_ BK119 5, bc_ BK119 6, bc_ BK119 7, bc_ BK119 8, bc_ BK116 0, bc_ BK116 1, (by first | exact cc_ HB hw121_0 | exact cc_ ⟨hbA_ HB.out⟩ hw121_0), (by first | exact cc_ HB hw121_1 | exact cc_ ⟨hbA_ HB.out⟩ hw121_1), (by first | exact cc_ HB hw121_2 | exact cc_ ⟨hbA_ HB.out⟩ hw121_2), (by first | exact cc_ HB hw121_3 | exact cc_ ⟨hbA_ HB.out⟩ hw121_3), (by first | exact cc_ HB hw121_4 | exact cc_ ⟨hbA_ HB.out⟩ hw121_4), (by first | exact cc_ HB hw121_5 | exact cc_ ⟨hbA_ HB.out⟩ hw121_5), (by first | exact cc_ HB hw121_6 | exact cc_ ⟨hbA_ HB.out⟩ hw121_6), (by first | exact cc_ HB hw121_7 | exact cc_ ⟨hbA_ HB.out⟩ hw121_7), (by first | exact cc_ HB hw121_8 | exact cc_ ⟨hbA_ HB.out⟩ hw121_8)⟩ (fun hHeld => ?_)
          clear hK K; refine nm_ 27 ?_; refine pu_ (i := 10) (N := some 28) HT_ ?_; refine pu_ (i := 11) (N := some 29) HT_ ?_; refine pu_ (i := 12) (N := some 30) HT_ ?_; refine pu_ (i := 13) (N := some 31) HT_ ?_; refine pu_ (i := 14) (N := some 32) HT_ ?_; refine pu_ (i := 15) (N := some 33) HT_ ?_; refine pn_ (i := 16) (N := some 34) HT_ ?_; refine pn_ (i := 17) (N := some 35) HT_ ?_; refine pn_ (i := 18) (N := some 36) HT_ ?_; refine pn_ (i := 19) (N := some 37) HT_ ?_; refine pn_ (i := 20) (N := some 38) HT_ ?_; refine pn_ (i := 21) (N := some 39) HT_ ?_; refine pn_ (i := 22) (N := some 40) HT_ ?_; refine pn_ (i := 23) (N := some 41) HT_ ?_; refine pn_ (i := 24) (N := some 42) HT_ ?_; refine pn_ (i := 25) (N := some 43) HT_ ?_; refine pn_ (i := 26) (N := some 44) HT_ ?_; refine pn_ (i := 27) (N := some 45) HT_ ?_; refine pn_ (i := 28) (N := some 46) HT_ ?_; refine pn_ (i := 29) (N := some 47) HT_ ?_; refine pn_ (i := 30) (N := some 48) HT_ ?_; refine pn_ (i := 31) (N := some 49) HT_ ?_; refine pn_ (i := 32) (N := some 50) HT_ ?_; refine pn_ (i := 33) (N := some 51) HT_ ?_; refine pn_ (i := 34) (N := some 52) HT_ ?_; refine pn_ (i := 35) (N := some 53) HT_ ?_; refine pn_ (i := 36) (N := some 54) HT_ ?_; refine pn_ (i := 37) (N := some 55) HT_ ?_; refine pn_ (i := 38) (N := some 56) HT_ ?_; refine pn_ (i := 39) (N := some 57) HT_ ?_; refine pn_ (i := 40) (N := some 58) HT_ ?_; refine pn_ (i := 41) (N := some 59) HT_ ?_; refine pn_ (i := 42) (N := some 60) HT_ ?_; refine pn_ (i := 43) (N := some 61) HT_ ?_; refine pn_ (i := 44) (N := some 62) HT_ ?_; refine pu_ (i := 45) (N := some 63) HT_ ?_; refine pu_ (i := 46) (N := some 64) HT_ ?_
          refine done_ (done_of HT_.out (by kernel_rfl)) ?_
          try go_wp2
          go_meet
          case rel => exact ⟨_, (false), (by first | rfl | (simp; done) | (simp [*]; done)), H', ⟨by have := HK1.out; first | omega | exact Nat.le_refl _⟩, ⟨by refine kb_ ?_; exact BK116.out⟩, ⟨by refine kb_ ?_; exact BK119.out⟩, ⟨hbA_ HB.out⟩⟩
        ·replace c14 := Bool.eq_false_iff.mpr c14
         subst c14
         rw [if_neg (show ¬ (false = true) by decide)] at H
         have H' := Aside0.mk H
         clear H
         try go_wp2
         obtain ⟨w32, h_w32⟩ : ∃ w_, (((((((((w7.setCell ⟨gb119, 0, none⟩ (.int .i64 ((rd_T36 l0_0 x4_1).f0))).setCell ⟨gb119, 1, none⟩ (.int .i64 ((rd_T36 l0_0 x4_1).f1))).setCell ⟨gb119, 2, none⟩ (.int .i64 ((rd_T36 l0_0 x4_1).f2))).setCell ⟨gb119, 3, none⟩ (.int .i64 ((rd_T36 l0_0 x4_1).f3))).setCell ⟨gb119, 4, none⟩ (.int .i64 ((rd_T36 l0_0 x4_1).f4))).setCell ⟨gb119, 5, none⟩ (.int .i64 ((rd_T36 l0_0 x4_1).f5))).setCell ⟨gb119, 6, none⟩ (.bool ((rd_T36 l0_0 x4_1).f6))).setCell ⟨gb119, 7, none⟩ (.bool ((rd_T36 l0_0 x4_1).f7))).setCell ⟨gb119, 8, none⟩ (.slice A118_8 ((rd_T36 l0_0 x4_1).f8).length c118_8)) = w_ := ⟨_, rfl⟩
         have n0_ : Aside0 (w32.heap[gb116]? = some (.cells #[.slice (some ad118) l0_0.length c0_0, .int .i64 a0_1] 32 (0, 0))) := ⟨by subst h_w32; exact kf_ BK116.out⟩
         have n1_ : Aside0 (w32.heap[gb119]? = some (.cells #[.int .i64 ((rd_T36 l0_0 x4_1).f0), .int .i64 ((rd_T36 l0_0 x4_1).f1), .int .i64 ((rd_T36 l0_0 x4_1).f2), .int .i64 ((rd_T36 l0_0 x4_1).f3), .int .i64 ((rd_T36 l0_0 x4_1).f4), .int .i64 ((rd_T36 l0_0 x4_1).f5), .bool ((rd_T36 l0_0 x4_1).f6), .bool ((rd_T36 l0_0 x4_1).f7), .slice A118_8 ((rd_T36 l0_0 x4_1).f8).length c118_8] 36 (0, 0))) := ⟨by subst h_w32; refine kb_ ?_; refine pz9 (cs := #[.int .i64 0, .int .i64 0, .int .i64 0, .int .i64 0, .int .i64 0, .int .i64 0, .bool false, .bool false, .slice none 0 0]) ?_; refine kb_ ?_; exact BK119.out⟩
         have n2_ : Aside0 (Below w.heap.size w w32) := ⟨by subst h_w32; exact hbA_ HB.out⟩
         (try clear BK116); (try clear BK119); (try clear HB)
         (try rw [h_w32]); clear h_w32
         have BK116 := n0_; have BK119 := n1_; have HB := n2_; clear n0_ n1_ n2_; replace BK116 := Aside0.mk (blk_drew BK116.out); replace BK119 := Aside0.mk (blk_drew BK119.out); replace HB := (bd_ HB)
         have p121 : 0 ≤ (0 : Int) := (by omega)
         have q121 : 0 < (l0_0.length : Int) := of_decide_eq_true (by first | (with_reducible assumption) | assumption)
         obtain ⟨ad121, A121_8, c121_8, e121, hx121_0, hx121_1, hx121_2, hx121_3, hx121_4, hx121_5, hx121_6, hx121_7, hx121_8, hl121_8, hi121_8⟩ := at_T36 HR0_0.out 0 p121 q121
         (try simp only [show ((0 : Int)).toNat = 0 from rfl, show 0 * 9 = 0 from rfl, Addr.add_zero'] at hx121_0 hx121_1 hx121_2 hx121_3 hx121_4 hx121_5 hx121_6 hx121_7 hx121_8); have hw121_8 := hx121_8; have hw121_7 := hx121_7; have hw121_6 := hx121_6; have hw121_5 := hx121_5; have hw121_4 := hx121_4; have hw121_3 := hx121_3; have hw121_2 := hx121_2; have hw121_1 := hx121_1; have hw121_0 := hx121_0
         obtain rfl : ad118 = ad121 := (by injection e121)
         have qi121 : (0 < l0_0.length) = True := eq_true (by omega)
         replace hx121_0 := cc_ HB hx121_0
         replace hx121_1 := cc_ HB hx121_1
         replace hx121_2 := cc_ HB hx121_2
         replace hx121_3 := cc_ HB hx121_3
         replace hx121_4 := cc_ HB hx121_4
         replace hx121_5 := cc_ HB hx121_5
         replace hx121_6 := cc_ HB hx121_6
         replace hx121_7 := cc_ HB hx121_7
         replace hx121_8 := cc_ HB hx121_8
         have HR121_8 := Aside0.mk hi121_8; have HC121_8 := Aside0.mk hl121_8; clear hi121_8 hl121_8
         replace p121 := eq_true p121
         replace q121 := eq_true q121
         refine start_ (n := 47) (S := fun w' => w'.cell? ⟨gb119, 0, none⟩ = some (.int .i64 ((rd_T36 l0_0 x4_1).f0)) ∧ w'.cell? ⟨gb119, 1, none⟩ = some (.int .i64 ((rd_T36 l0_0 x4_1).f1)) ∧ w'.cell? ⟨gb119, 2, none⟩ = some (.int .i64 ((rd_T36 l0_0 x4_1).f2)) ∧ w'.cell? ⟨gb119, 3, none⟩ = some (.int .i64 ((rd_T36 l0_0 x4_1).f3)) ∧ w'.cell? ⟨gb119, 4, none⟩ = some (.int .i64 ((rd_T36 l0_0 x4_1).f4)) ∧ w'.cell? ⟨gb119, 5, none⟩ = some (.int .i64 ((rd_T36 l0_0 x4_1).f5)) ∧ w'.cell? ⟨gb119, 6, none⟩ = some (.bool ((rd_T36 l0_0 x4_1).f6)) ∧ w'.cell? ⟨gb119, 7, none⟩ = some (.bool ((rd_T36 l0_0 x4_1).f7)) ∧ w'.cell? ⟨gb119, 8, none⟩ = some (.slice A118_8 ((rd_T36 l0_0 x4_1).f8).length c118_8) ∧ w'.cell? ⟨gb116, 0, none⟩ = some (.slice (some ad118) l0_0.length c0_0) ∧ w'.cell? ⟨gb116, 1, none⟩ = some (.int .i64 a0_1) ∧ w'.cell? ad118 = some (.int .i64 ((rd_T36 l0_0 0).f0)) ∧ w'.cell? ⟨ad118.block, ad118.off + 1, none⟩ = some (.int .i64 ((rd_T36 l0_0 0).f1)) ∧ w'.cell? ⟨ad118.block, ad118.off + 2, none⟩ = some (.int .i64 ((rd_T36 l0_0 0).f2)) ∧ w'.cell? ⟨ad118.block, ad118.off + 3, none⟩ = some (.int .i64 ((rd_T36 l0_0 0).f3)) ∧ w'.cell? ⟨ad118.block, ad118.off + 4, none⟩ = some (.int .i64 ((rd_T36 l0_0 0).f4)) ∧ w'.cell? ⟨ad118.block, ad118.off + 5, none⟩ = some (.int .i64 ((rd_T36 l0_0 0).f5)) ∧ w'.cell? ⟨ad118.block, ad118.off + 6, none⟩ = some (.bool ((rd_T36 l0_0 0).f6)) ∧ w'.cell? ⟨ad118.block, ad118.off + 7, none⟩ = some (.bool ((rd_T36 l0_0 0).f7)) ∧ w'.cell? ⟨ad118.block, ad118.off + 8, none⟩ = some (.slice A121_8 ((rd_T36 l0_0 0).f8).length c121_8)) (ds := []) #[false, false, false, false, false, false, false, false, false, false, false, false, false, false, false, false, false, false, false, false, false, false, false, false, false, false, false, false, false, false, false, false, false, false, false, false, false, false, false, false, false, false, false, false, false, false, false] (by kernel_rfl) rfl rfl ⟨bc_ BK119 0, bc_ BK119 1, bc_ BK119 2, bc_ BK119 3, bc_ BK119 4, bc_ BK119 5, bc_ BK119 6, bc_ BK119 7, bc_ BK119 8, bc_ BK116 0, bc_ BK116 1, (cc_ HB hw121_0), (cc_ HB hw121_1), (cc_ HB hw121_2), (cc_ HB hw121_3), (cc_ HB hw121_4), (cc_ HB hw121_5), (cc_ HB hw121_6), (cc_ HB hw121_7), (cc_ HB hw121_8)⟩ (fun hHeld => ?_); refine with_tabW spec_PartOk.tab6 spec_PartOk.bits6 (fun HT_ HW_ => ?_)
         generalize w32.drew = w33 at BK116 BK119 HB HR121_8 hx121_0 hx121_1 hx121_2 hx121_3 hx121_4 hx121_5 hx121_6 hx121_7 hx121_8 hHeld ⊢
         refine tk_ (i := 0) (N := some 18) HT_ HW_ hHeld ?_
         refine on_ (i := 1) (N := some 19) HT_ (fun K hK => ?_)
         refine goes_ Try.func46 (by kernel_rfl) rfl #[.agg #[.int .i64 ((rd_T36 l0_0 x4_1).f0), .int .i64 ((rd_T36 l0_0 x4_1).f1), .int .i64 ((rd_T36 l0_0 x4_1).f2), .int .i64 ((rd_T36 l0_0 x4_1).f3), .int .i64 ((rd_T36 l0_0 x4_1).f4), .int .i64 ((rd_T36 l0_0 x4_1).f5), .bool ((rd_T36 l0_0 x4_1).f6), .bool ((rd_T36 l0_0 x4_1).f7), .slice A118_8 ((rd_T36 l0_0 x4_1).f8).length c118_8]] (by rfl) rfl rfl ar_ ?_
         with_reducible refine (spec_PacketOk.calls k1 ((rd_T36 l0_0 x4_1).f0) ((rd_T36 l0_0 x4_1).f1) ((rd_T36 l0_0 x4_1).f2) ((rd_T36 l0_0 x4_1).f3) ((rd_T36 l0_0 x4_1).f4) ((rd_T36 l0_0 x4_1).f5) ((rd_T36 l0_0 x4_1).f6) ((rd_T36 l0_0 x4_1).f7) _ _ ((rd_T36 l0_0 x4_1).f8) true _ ?side1 ?side2 A10.out).mono ?_
         (case side1 => exact kC_ (Kd.C_below HR118_8.out HB.out))
         (case side2 => exact HC118_8.out)
         rintro e w34 ⟨rfl, hb⟩
         refine ⟨_, rfl, ?_⟩
         replace BK116 := (bbA_ BK116 hb); replace BK119 := (bbA_ BK119 hb); replace HB := (bs_ HB hb); (try clear hb); (try clear hb2); (try clear hk); (try clear hi)
         refine hK.out _ _ ⟨bc_ BK119 0, bc_ BK119 1, bc_ BK119 2, bc_ BK119 3, bc_ BK119 4, bc_ BK119 5, bc_ BK119 6, bc_ BK119 7, bc_ BK119 8, bc_ BK116 0, bc_ BK116 1, (by first | exact cc_ HB hw121_0 | exact cc_ ⟨hbA_ HB.out⟩ hw121_0), (by first | exact cc_ HB hw121_1 | exact cc_ ⟨hbA_ HB.out⟩ hw121_1), (by first | exact cc_ HB hw121_2 | exact cc_ ⟨hbA_ HB.out⟩ hw121_2), (by first | exact cc_ HB hw121_3 | exact cc_ ⟨hbA_ HB.out⟩ hw121_3), (by first | exact cc_ HB hw121_4 | exact cc_ ⟨hbA_ HB.out⟩ hw121_4), (by first | exact cc_ HB hw121_5 | exact cc_ ⟨hbA_ HB.out⟩ hw121_5), (by first | exact cc_ HB hw121_6 | exact cc_ ⟨hbA_ HB.out⟩ hw121_6), (by first | exact cc_ HB hw121_7 | exact cc_ ⟨hbA_ HB.out⟩ hw121_7), (by first | exact cc_ HB hw121_8 | exact cc_ ⟨hbA_ HB.out⟩ hw121_8)⟩ (fun hHeld => ?_)
         clear hK K; refine nm_ 19 ?_; refine pu_ (i := 2) (N := some 20) HT_ ?_; refine pu_ (i := 3) (N := some 21) HT_ ?_; refine pu_ (i := 5) (N := some 23) HT_ ?_; refine tk_ (i := 4) (N := some 22) HT_ HW_ hHeld ?_; refine tk_ (i := 6) (N := some 24) HT_ HW_ hHeld ?_; refine pu_ (i := 7) (N := some 25) HT_ ?_; refine tk_ (i := 8) (N := some 26) HT_ HW_ hHeld ?_
         refine on_ (i := 9) (N := some 27) HT_ (fun K hK => ?_)
         refine goes_ Try.func47 (by kernel_rfl) rfl #[.agg #[.int .i64 ((rd_T36 l0_0 x4_1).f0), .int .i64 ((rd_T36 l0_0 x4_1).f1), .int .i64 ((rd_T36 l0_0 x4_1).f2), .int .i64 ((rd_T36 l0_0 x4_1).f3), .int .i64 ((rd_T36 l0_0 x4_1).f4), .int .i64 ((rd_T36 l0_0 x4_1).f5), .bool ((rd_T36 l0_0 x4_1).f6), .bool ((rd_T36 l0_0 x4_1).f7), .slice A118_8 ((rd_T36 l0_0 x4_1).f8).length c118_8], .agg #[.int .i64 ((rd_T36 l0_0 0).f0), .int .i64 ((rd_T36 l0_0 0).f1), .int .i64 ((rd_T36 l0_0 0).f2), .int .i64 ((rd_T36 l0_0 0).f3), .int .i64 ((rd_T36 l0_0 0).f4), .int .i64 ((rd_T36 l0_0 0).f5), .bool ((rd_T36 l0_0 0).f6), .bool ((rd_T36 l0_0 0).f7), .slice A121_8 ((rd_T36 l0_0 0).f8).length c121_8]] (by rfl) rfl rfl ar_ ?_
         with_reducible refine (spec_l5Same.calls ((rd_T36 l0_0 x4_1).f0) ((rd_T36 l0_0 x4_1).f1) ((rd_T36 l0_0 x4_1).f2) ((rd_T36 l0_0 x4_1).f3) ((rd_T36 l0_0 x4_1).f4) ((rd_T36 l0_0 x4_1).f5) ((rd_T36 l0_0 x4_1).f6) ((rd_T36 l0_0 x4_1).f7) _ _ ((rd_T36 l0_0 x4_1).f8) ((rd_T36 l0_0 0).f0) ((rd_T36 l0_0 0).f1) ((rd_T36 l0_0 0).f2) ((rd_T36 l0_0 0).f3) ((rd_T36 l0_0 0).f4) ((rd_T36 l0_0 0).f5) ((rd_T36 l0_0 0).f6) ((rd_T36 l0_0 0).f7) _ _ ((rd_T36 l0_0 0).f8) false _ ?side1 ?side2 ?side3 ?side4 A13.out).mono ?_
         (case side1 => exact kC_ (Kd.C_below HR118_8.out HB.out))
         (case side2 => exact HC118_8.out)
         (case side3 => exact kC_ (Kd.C_below HR121_8.out HB.out))
         (case side4 => exact HC121_8.out)
         rintro e w35 ⟨rfl, hb⟩
         refine ⟨_, rfl, ?_⟩
         replace BK116 := (bbA_ BK116 hb); replace BK119 := (bbA_ BK119 hb); replace HB := (bs_ HB hb); (try clear hb); (try clear hb2); (try clear hk); (try clear hi)
         refine hK.out _ _ ⟨bc_ BK119 0, bc_ BK119 1, bc_ BK119 2, bc_ BK119 3, bc_ BK119 4, bc_ BK119 5, bc_ BK119 6, bc_ BK119 7, bc_ BK119 8, bc_ BK116 0, bc_ BK116 1, (by first | exact cc_ HB hw121_0 | exact cc_ ⟨hbA_ HB.out⟩ hw121_0), (by first | exact cc_ HB hw121_1 | exact cc_ ⟨hbA_ HB.out⟩ hw121_1), (by first | exact cc_ HB hw121_2 | exact cc_ ⟨hbA_ HB.out⟩ hw121_2), (by first | exact cc_ HB hw121_3 | exact cc_ ⟨hbA_ HB.out⟩ hw121_3), (by first | exact cc_ HB hw121_4 | exact cc_ ⟨hbA_ HB.out⟩ hw121_4), (by first | exact cc_ HB hw121_5 | exact cc_ ⟨hbA_ HB.out⟩ hw121_5), (by first | exact cc_ HB hw121_6 | exact cc_ ⟨hbA_ HB.out⟩ hw121_6), (by first | exact cc_ HB hw121_7 | exact cc_ ⟨hbA_ HB.out⟩ hw121_7), (by first | exact cc_ HB hw121_8 | exact cc_ ⟨hbA_ HB.out⟩ hw121_8)⟩ (fun hHeld => ?_)
         clear hK K; refine nm_ 27 ?_; refine pu_ (i := 10) (N := some 28) HT_ ?_; refine pu_ (i := 11) (N := some 29) HT_ ?_; refine pu_ (i := 12) (N := some 30) HT_ ?_; refine pn_ (i := 13) (N := some 31) HT_ ?_; refine pn_ (i := 14) (N := some 32) HT_ ?_; refine pn_ (i := 15) (N := some 33) HT_ ?_; refine pn_ (i := 16) (N := some 34) HT_ ?_; refine pn_ (i := 17) (N := some 35) HT_ ?_; refine pn_ (i := 18) (N := some 36) HT_ ?_; refine pn_ (i := 19) (N := some 37) HT_ ?_; refine pn_ (i := 20) (N := some 38) HT_ ?_; refine pn_ (i := 21) (N := some 39) HT_ ?_; refine pn_ (i := 22) (N := some 40) HT_ ?_; refine pn_ (i := 23) (N := some 41) HT_ ?_; refine pn_ (i := 24) (N := some 42) HT_ ?_; refine pn_ (i := 25) (N := some 43) HT_ ?_; refine pn_ (i := 26) (N := some 44) HT_ ?_; refine pn_ (i := 27) (N := some 45) HT_ ?_; refine pn_ (i := 28) (N := some 46) HT_ ?_; refine pn_ (i := 29) (N := some 47) HT_ ?_; refine pn_ (i := 30) (N := some 48) HT_ ?_; refine pn_ (i := 31) (N := some 49) HT_ ?_; refine pn_ (i := 32) (N := some 50) HT_ ?_; refine pn_ (i := 33) (N := some 51) HT_ ?_; refine pn_ (i := 34) (N := some 52) HT_ ?_; refine pn_ (i := 35) (N := some 53) HT_ ?_; refine pn_ (i := 36) (N := some 54) HT_ ?_; refine pn_ (i := 37) (N := some 55) HT_ ?_; refine pn_ (i := 38) (N := some 56) HT_ ?_; refine pn_ (i := 39) (N := some 57) HT_ ?_; refine pn_ (i := 40) (N := some 58) HT_ ?_; refine pn_ (i := 41) (N := some 59) HT_ ?_; refine pn_ (i := 42) (N := some 60) HT_ ?_; refine pn_ (i := 43) (N := some 61) HT_ ?_; refine pn_ (i := 44) (N := some 62) HT_ ?_; refine pn_ (i := 45) (N := some 63) HT_ ?_; refine pu_ (i := 46) (N := some 64) HT_ ?_
         refine done_ (done_of HT_.out (by kernel_rfl)) ?_
         try go_wp2
         go_meet
         case rel => exact ⟨_, (true), (by first | rfl | (simp; done) | (simp [*]; done)), H', ⟨by have := HK1.out; first | omega | exact Nat.le_refl _⟩, ⟨by refine kb_ ?_; exact BK116.out⟩, ⟨by refine kb_ ?_; exact BK119.out⟩, ⟨hbA_ HB.out⟩⟩
       ·rw [if_neg c12] at H
        exact absurd H (by simp)
      ·replace c11 := Bool.eq_false_iff.mpr c11
       subst c11
       rw [if_neg (show ¬ (false = true) by decide)] at H
       have H' := Aside0.mk H
       clear H
       try go_wp2
       obtain ⟨w36, h_w36⟩ : ∃ w_, (((((((((w7.setCell ⟨gb119, 0, none⟩ (.int .i64 ((rd_T36 l0_0 x4_1).f0))).setCell ⟨gb119, 1, none⟩ (.int .i64 ((rd_T36 l0_0 x4_1).f1))).setCell ⟨gb119, 2, none⟩ (.int .i64 ((rd_T36 l0_0 x4_1).f2))).setCell ⟨gb119, 3, none⟩ (.int .i64 ((rd_T36 l0_0 x4_1).f3))).setCell ⟨gb119, 4, none⟩ (.int .i64 ((rd_T36 l0_0 x4_1).f4))).setCell ⟨gb119, 5, none⟩ (.int .i64 ((rd_T36 l0_0 x4_1).f5))).setCell ⟨gb119, 6, none⟩ (.bool ((rd_T36 l0_0 x4_1).f6))).setCell ⟨gb119, 7, none⟩ (.bool ((rd_T36 l0_0 x4_1).f7))).setCell ⟨gb119, 8, none⟩ (.slice A118_8 ((rd_T36 l0_0 x4_1).f8).length c118_8)) = w_ := ⟨_, rfl⟩
       have n0_ : Aside0 (w36.heap[gb116]? = some (.cells #[.slice (some ad118) l0_0.length c0_0, .int .i64 a0_1] 32 (0, 0))) := ⟨by subst h_w36; exact kf_ BK116.out⟩
       have n1_ : Aside0 (w36.heap[gb119]? = some (.cells #[.int .i64 ((rd_T36 l0_0 x4_1).f0), .int .i64 ((rd_T36 l0_0 x4_1).f1), .int .i64 ((rd_T36 l0_0 x4_1).f2), .int .i64 ((rd_T36 l0_0 x4_1).f3), .int .i64 ((rd_T36 l0_0 x4_1).f4), .int .i64 ((rd_T36 l0_0 x4_1).f5), .bool ((rd_T36 l0_0 x4_1).f6), .bool ((rd_T36 l0_0 x4_1).f7), .slice A118_8 ((rd_T36 l0_0 x4_1).f8).length c118_8] 36 (0, 0))) := ⟨by subst h_w36; refine kb_ ?_; refine pz9 (cs := #[.int .i64 0, .int .i64 0, .int .i64 0, .int .i64 0, .int .i64 0, .int .i64 0, .bool false, .bool false, .slice none 0 0]) ?_; refine kb_ ?_; exact BK119.out⟩
       have n2_ : Aside0 (Below w.heap.size w w36) := ⟨by subst h_w36; exact hbA_ HB.out⟩
       (try clear BK116); (try clear BK119); (try clear HB)
       (try rw [h_w36]); clear h_w36
       have BK116 := n0_; have BK119 := n1_; have HB := n2_; clear n0_ n1_ n2_; replace BK116 := Aside0.mk (blk_drew BK116.out); replace BK119 := Aside0.mk (blk_drew BK119.out); replace HB := (bd_ HB)
       refine start_ (n := 47) (S := fun w' => w'.cell? ⟨gb119, 0, none⟩ = some (.int .i64 ((rd_T36 l0_0 x4_1).f0)) ∧ w'.cell? ⟨gb119, 1, none⟩ = some (.int .i64 ((rd_T36 l0_0 x4_1).f1)) ∧ w'.cell? ⟨gb119, 2, none⟩ = some (.int .i64 ((rd_T36 l0_0 x4_1).f2)) ∧ w'.cell? ⟨gb119, 3, none⟩ = some (.int .i64 ((rd_T36 l0_0 x4_1).f3)) ∧ w'.cell? ⟨gb119, 4, none⟩ = some (.int .i64 ((rd_T36 l0_0 x4_1).f4)) ∧ w'.cell? ⟨gb119, 5, none⟩ = some (.int .i64 ((rd_T36 l0_0 x4_1).f5)) ∧ w'.cell? ⟨gb119, 6, none⟩ = some (.bool ((rd_T36 l0_0 x4_1).f6)) ∧ w'.cell? ⟨gb119, 7, none⟩ = some (.bool ((rd_T36 l0_0 x4_1).f7)) ∧ w'.cell? ⟨gb119, 8, none⟩ = some (.slice A118_8 ((rd_T36 l0_0 x4_1).f8).length c118_8)) (ds := []) #[false, false, false, false, false, false, false, false, false, false, false, false, false, false, false, false, false, false, false, false, false, false, false, false, false, false, false, false, false, false, false, false, false, false, false, false, false, false, false, false, false, false, false, false, false, false, false] (by kernel_rfl) rfl rfl (cz9 BK119.out) (fun hHeld => ?_); refine with_tabW spec_PartOk.tab6 spec_PartOk.bits6 (fun HT_ HW_ => ?_)
       generalize w36.drew = w37 at BK116 BK119 HB hHeld ⊢
       refine tk_ (i := 0) (N := some 18) HT_ HW_ hHeld ?_
       refine on_ (i := 1) (N := some 19) HT_ (fun K hK => ?_)
       refine goes_ Try.func46 (by kernel_rfl) rfl #[.agg #[.int .i64 ((rd_T36 l0_0 x4_1).f0), .int .i64 ((rd_T36 l0_0 x4_1).f1), .int .i64 ((rd_T36 l0_0 x4_1).f2), .int .i64 ((rd_T36 l0_0 x4_1).f3), .int .i64 ((rd_T36 l0_0 x4_1).f4), .int .i64 ((rd_T36 l0_0 x4_1).f5), .bool ((rd_T36 l0_0 x4_1).f6), .bool ((rd_T36 l0_0 x4_1).f7), .slice A118_8 ((rd_T36 l0_0 x4_1).f8).length c118_8]] (by rfl) rfl rfl ar_ ?_
       with_reducible refine (spec_PacketOk.calls k1 ((rd_T36 l0_0 x4_1).f0) ((rd_T36 l0_0 x4_1).f1) ((rd_T36 l0_0 x4_1).f2) ((rd_T36 l0_0 x4_1).f3) ((rd_T36 l0_0 x4_1).f4) ((rd_T36 l0_0 x4_1).f5) ((rd_T36 l0_0 x4_1).f6) ((rd_T36 l0_0 x4_1).f7) _ _ ((rd_T36 l0_0 x4_1).f8) false _ ?side1 ?side2 A10.out).mono ?_
       (case side1 => exact kC_ (Kd.C_below HR118_8.out HB.out))
       (case side2 => exact HC118_8.out)
       rintro e w38 ⟨rfl, hb⟩
       refine ⟨_, rfl, ?_⟩
       replace BK116 := (bbA_ BK116 hb); replace BK119 := (bbA_ BK119 hb); replace HB := (bs_ HB hb); (try clear hb); (try clear hb2); (try clear hk); (try clear hi)
       refine hK.out _ _ (cz9 BK119.out) (fun hHeld => ?_)
       clear hK K; refine nm_ 19 ?_; refine pu_ (i := 2) (N := some 20) HT_ ?_; refine pu_ (i := 3) (N := some 21) HT_ ?_; refine pn_ (i := 4) (N := some 22) HT_ ?_; refine pn_ (i := 5) (N := some 23) HT_ ?_; refine pn_ (i := 6) (N := some 24) HT_ ?_; refine pn_ (i := 7) (N := some 25) HT_ ?_; refine pn_ (i := 8) (N := some 26) HT_ ?_; refine pn_ (i := 9) (N := some 27) HT_ ?_; refine pn_ (i := 10) (N := some 28) HT_ ?_; refine pu_ (i := 11) (N := some 29) HT_ ?_; refine pu_ (i := 12) (N := some 30) HT_ ?_; refine pn_ (i := 13) (N := some 31) HT_ ?_; refine pn_ (i := 14) (N := some 32) HT_ ?_; refine pn_ (i := 15) (N := some 33) HT_ ?_; refine pn_ (i := 16) (N := some 34) HT_ ?_; refine pn_ (i := 17) (N := some 35) HT_ ?_; refine pn_ (i := 18) (N := some 36) HT_ ?_; refine pn_ (i := 19) (N := some 37) HT_ ?_; refine pn_ (i := 20) (N := some 38) HT_ ?_; refine pn_ (i := 21) (N := some 39) HT_ ?_; refine pn_ (i := 22) (N := some 40) HT_ ?_; refine pn_ (i := 23) (N := some 41) HT_ ?_; refine pn_ (i := 24) (N := some 42) HT_ ?_; refine pn_ (i := 25) (N := some 43) HT_ ?_; refine pn_ (i := 26) (N := some 44) HT_ ?_; refine pn_ (i := 27) (N := some 45) HT_ ?_; refine pn_ (i := 28) (N := some 46) HT_ ?_; refine pn_ (i := 29) (N := some 47) HT_ ?_; refine pn_ (i := 30) (N := some 48) HT_ ?_; refine pn_ (i := 31) (N := some 49) HT_ ?_; refine pn_ (i := 32) (N := some 50) HT_ ?_; refine pn_ (i := 33) (N := some 51) HT_ ?_; refine pn_ (i := 34) (N := some 52) HT_ ?_; refine pn_ (i := 35) (N := some 53) HT_ ?_; refine pn_ (i := 36) (N := some 54) HT_ ?_; refine pn_ (i := 37) (N := some 55) HT_ ?_; refine pn_ (i := 38) (N := some 56) HT_ ?_; refine pn_ (i := 39) (N := some 57) HT_ ?_; refine pn_ (i := 40) (N := some 58) HT_ ?_; refine pn_ (i := 41) (N := some 59) HT_ ?_; refine pn_ (i := 42) (N := some 60) HT_ ?_; refine pn_ (i := 43) (N := some 61) HT_ ?_; refine pn_ (i := 44) (N := some 62) HT_ ?_; refine pn_ (i := 45) (N := some 63) HT_ ?_; refine pu_ (i := 46) (N := some 64) HT_ ?_
       refine done_ (done_of HT_.out (by kernel_rfl)) ?_
       try go_wp2
       go_meet
       case rel => exact ⟨_, (true), (by first | rfl | (simp; done) | (simp [*]; done)), H', ⟨by have := HK1.out; first | omega | exact Nat.le_refl _⟩, ⟨by refine kb_ ?_; exact BK116.out⟩, ⟨by refine kb_ ?_; exact BK119.out⟩, ⟨hbA_ HB.out⟩⟩
     case rest =>
      clear HC5; (try clear c1); (try clear p1); (try clear q1); (try clear hx1); (try clear p2); (try clear c4); (try clear c11); (try clear c12); (try clear p12); (try clear q12); (try clear hx12); (try clear hx121_0); (try clear hx121_1); (try clear hx121_2); (try clear hx121_3); (try clear hx121_4); (try clear hx121_5); (try clear hx121_6); (try clear hx121_7); (try clear hx121_8); (try clear p121); (try clear q121)
      obtain ⟨kq, x64_4, rfl, HA, HJ4, BK116, BK119, HB⟩ := hcut
      cases kq with
      | zero => exact absurd HA.out (by simp [spec_PartOk.j1])
      | succ kj4 =>
       have H := HA.out; clear HA
       simp only [spec_PartOk.j1] at H
       by_cases c39 : x64_4 = true
       ·subst c39
        rw [if_pos rfl] at H
        obtain rfl := Option.some.inj H
        go_wp2
        go_ret
        exact ⟨by first | rfl | (simp [errW_none, errW_some] <;> rfl) | (simp [*, errW_none, errW_some] <;> rfl), hbA_ HB.out⟩
       ·replace c39 := Bool.eq_false_iff.mpr c39
        subst c39
        rw [if_neg (show ¬ (false = true) by decide)] at H
        have H' := Aside0.mk H
        clear H; have hnb40 := NB119_116.out; have hnc40 := NB116_119.out; have Z41 := zz9 BK119
        go_wp2
        go_roundg kj4
        case measure => have := HK1.out; have := HJ4.out; omega
        case rel => exact ⟨(wrap64 (x3_1 + (((rd_T36 l0_0 x4_1).f8).length : Int))), (wrap64 (x4_1 + 1)), (by first | rfl | (simp; done) | (simp [*]; done)), (by first | rfl | (simp; done) | (simp [*]; done)), H', ⟨by have := HK1.out; have := HJ4.out; omega⟩, ⟨by refine kb_ ?_; exact BK116.out⟩, ⟨hbA_ HB.out⟩⟩
    ·rw [if_neg c4] at H
     exact absurd H (by simp)
   ·rw [if_neg c3] at H
    have c3b0 : decide (x4_1 < (l0_0.length : Int)) = false := decide_eq_false c3
    clear c3
    by_cases c42 : (l0_0.length : Int) > 0
    ·rw [if_pos c42] at H
     have c42b0 : decide (0 < (l0_0.length : Int)) = true := decide_eq_true c42
     have c42b1 : decide (0 < l0_0.length) = true := decide_eq_true (by omega)
     clear c42
     by_cases c43 : x3_1 ≤ 48
     ·rw [if_pos c43] at H
      have c43b0 : decide (x3_1 ≤ 48) = true := decide_eq_true c43
      clear c43
      replace H := Option.bind_eq_some_iff.mp H
      obtain ⟨t117, A440, H⟩ := H
      (try dsimp only at H)
      have A44 := Aside0.mk A440; clear A440
      obtain rfl := Option.some.inj H
      have Z45 := zz2 BK116
      go_wp2_with (first | (go_at_call 66; (with_reducible refine (spec_l1In.calls a0_1 0 1000000 t117 _ A44.out).mono ?_); rintro e w' ⟨rfl, ⟨nd, rfl⟩⟩))
      go_ret
      exact ⟨by first | rfl | (simp [errW_none, errW_some] <;> rfl) | (simp [*, errW_none, errW_some] <;> rfl), hbA_ HB.out⟩
     ·rw [if_neg c43] at H
      have c43b0 : decide (x3_1 ≤ 48) = false := decide_eq_false c43
      clear c43
      obtain rfl := Option.some.inj H
      have Z46 := zz2 BK116
      go_wp2
      go_ret
      exact ⟨by first | rfl | (simp [errW_none, errW_some] <;> rfl) | (simp [*, errW_none, errW_some] <;> rfl), hbA_ HB.out⟩
    ·rw [if_neg c42] at H
     have c42b0 : decide (0 < (l0_0.length : Int)) = false := decide_eq_false c42
     have c42b1 : decide (0 < l0_0.length) = false := decide_eq_false (by omega)
     clear c42
     obtain rfl := Option.some.inj H
     have Z47 := zz2 BK116
     go_wp2
     go_ret
     exact ⟨by first | rfl | (simp [errW_none, errW_some] <;> rfl) | (simp [*, errW_none, errW_some] <;> rfl), hbA_ HB.out⟩
def spec_l5Copy.f (a0_0 : Int) (a0_1 : Int) (a0_2 : Int) (a0_3 : Int) (a0_4 : Int) (a0_5 : Int) (a0_6 : Bool) (a0_7 : Bool) (l0_8 : List Int) : Option (Int × Int × Int × Int × Int × Int × Bool × Bool × List Int) := (some (([] : List Int) : List Int)).bind fun y128 => (if y128.length + l0_8.length < 140737488355328 then (some (a0_0, a0_1, a0_2, a0_3, a0_4, a0_5, a0_6, a0_7, (y128 ++ l0_8))) else (none))
set_option maxHeartbeats 8000000 in
set_option maxRecDepth 100000 in
theorem spec_l5Copy.calls (a0_0 : Int) (a0_1 : Int) (a0_2 : Int) (a0_3 : Int) (a0_4 : Int) (a0_5 : Int) (a0_6 : Bool) (a0_7 : Bool) (A0_8 : Option Addr) (c0_8 : Nat) (l0_8 : List Int) (r1 : Int) (r2 : Int) (r3 : Int) (r4 : Int) (r5 : Int) (r6 : Int) (r7 : Bool) (r8 : Bool) (r9 : List Int) (w : World) (hr0_8 : Kd.C (Kd.int .u8) w A0_8 l0_8.length l0_8) (hc0_8 : l0_8.length ≤ c0_8) (h : spec_l5Copy.f a0_0 a0_1 a0_2 a0_3 a0_4 a0_5 a0_6 a0_7 l0_8 = some (r1, r2, r3, r4, r5, r6, r7, r8, r9)) :
  Calls Try.prog 48 #[.agg #[.int .i64 a0_0, .int .i64 a0_1, .int .i64 a0_2, .int .i64 a0_3, .int .i64 a0_4, .int .i64 a0_5, .bool a0_6, .bool a0_7, .slice A0_8 l0_8.length c0_8]] w fun e w' => ∃ v8_ : Value, e = .returned (.agg #[.int .i64 r1, .int .i64 r2, .int .i64 r3, .int .i64 r4, .int .i64 r5, .int .i64 r6, .bool r7, .bool r8, v8_]) ∧ Kd.R (Kd.int .u8) 5 w' w.heap.size (fun _ => True) v8_ r9 ∧ Below w.heap.size w w' := by
 have hu36 := Try.underlying36; have HR0_8 := Aside0.mk hr0_8; have HC0_8 := Aside0.mk hc0_8; clear hr0_8 hc0_8
 have HB := Aside0.mk (Below.refl w.heap.size w)
 have H : ((some (([] : List Int) : List Int)).bind fun y128 => (if y128.length + l0_8.length < 140737488355328 then (some (a0_0, a0_1, a0_2, a0_3, a0_4, a0_5, a0_6, a0_7, (y128 ++ l0_8))) else (none))) = some (r1, r2, r3, r4, r5, r6, r7, r8, r9) := h
 clear h
 obtain ⟨y128, hy128⟩ : ∃ y_ : List Int, y_ = (([] : List Int)) := ⟨_, rfl⟩
 (first | replace H := sb_ hy128 H | rw [← hy128] at H)
 have Ny128 := Aside0.mk hy128; clear hy128
 by_cases c2 : y128.length + l0_8.length < 140737488355328
 ·rw [if_pos c2] at H
  have LMc2 := Aside0.mk c2; clear c2
  obtain ⟨y131, hy131⟩ : ∃ y_ : List Int, y_ = (y128 ++ l0_8) := ⟨_, rfl⟩
  (first | replace H := sb_ hy131 H | rw [← hy131] at H)
  have Ny131 := Aside0.mk hy131; clear hy131
  simp only [Option.some.injEq, Prod.mk.injEq] at H
  obtain ⟨rfl, rfl, rfl, rfl, rfl, rfl, rfl, rfl, rfl⟩ := H
  go_enter Try.func48, Try.ntmps48
  go_wp2_with (first | ((with_reducible refine gate_dst (N := 1) rfl ?_); refine box_ (N := 1) (cs := #[.int .i64 a0_0, .int .i64 a0_1, .int .i64 a0_2, .int .i64 a0_3, .int .i64 a0_4, .int .i64 a0_5, .bool a0_6, .bool a0_7, .slice A0_8 l0_8.length c0_8]) (t := 36) (fun gb126 hg w3 hbox hb => ?_); have BK126 := Aside0.mk (hbox); have GW126 := ge_ hg HB; have GE126 := ge_ hg HB; replace HB := (bs_ HB hb); clear hb hbox hg) | ((with_reducible refine gate_dst (N := 2) rfl ?_); refine box_ (N := 2) (cs := #[.int .i64 0, .int .i64 0, .int .i64 0, .int .i64 0, .int .i64 0, .int .i64 0, .bool false, .bool false, .slice none 0 0]) (t := 36) (fun gb127 hg w4 hbox hb => ?_); have BK127 := Aside0.mk (hbox); have GW127 := ge_ hg HB; have GE127 := ge_ hg HB; replace HB := (bs_ HB hb); have NB126_127 := nl_ hg BK126; have NB127_126 := ng_ hg BK126; replace BK126 := (bbA_ BK126 hb); clear hb hbox hg) | ((with_reducible refine gate_dst (N := 3) rfl ?_); refine Kd.R_lit (Kd.int .u8) _ 5 ?hg (N := 3) ?hd (xs := ([] : List Int)) (inner := []) (ok := fun _ => True) (okp := fun _ => True) ?hr ?hp (fun _ hk => hk) trivial (Below.refl _ _) (Nat.le_refl _) (by simp) ?_; (case hd => rfl); (case hg => rfl); (case hr => first | (go_simp; done) | (go_simp; rfl)); (case hp => exact (Reps.none _ _)); intro v129 w5 ho6 hb hg_ hnew_; clear hg_ hnew_; (first | rw [← Ny128.out] at ho6 | (simp only [Int.reduceToNat] at ho6; rw [← Ny128.out] at ho6)); have HO130 := Aside0.mk (Kd.R_lower ho6 (below_size (hbA_ HB.out))); replace BK126 := (bbA_ BK126 hb); replace BK127 := (bbA_ BK127 hb); replace HB := (bs_ HB hb); clear hb ho6; have hnb7 := NB126_127.out; have hnc7 := NB127_126.out; have Z8 := zz9 BK126) | ((with_reducible refine gate_builtin (b := .append) (xs := #[.tmp 3, .tmp 5]) rfl ?_); at_builtin; refine Kd.R_append_rows (Kd.int .u8) (w0 := w) w.heap.size rfl (.tmp 3) (.tmp 5) 25 5 (.int .u8 0) 1 rfl Try.underlying25 info5 rfl (by decide) (by omega) v129 y128 l0_8 _ _ _ (fun _ => True) (fun _ => False) rfl rfl ?aO ?aR (fun _ _ h => h) (fun _ h => h.elim) ?aF ?aB ?aS ?aL ?_; (case aR => exact kC_ (Kd.C_below HR0_8.out HB.out)); (case aB => exact (hbA_ HB.out)); (case aF => exact (fun _ _ => trivial)); (case aO => exact (kR_ HO130.out)); (case aS => exact (below_size (hbA_ HB.out))); (case aL => have := LMc2.out; omega); intro v132 w9 ho hb hg hat; rw [← Ny131.out] at ho; replace BK126 := (bgA_ BK126 hg (Kd.R_ne HO130.out BK126.out (by decide))); replace BK127 := (bgA_ BK127 hg (Kd.R_ne HO130.out BK127.out (by decide))); replace HB := Aside0.mk (hb); have HO133 := Aside0.mk (ho); clear HO130; clear ho hb hg hat; obtain ⟨Ao10, co10, eo10⟩ := Kd.R_slice HO133.out; subst eo10; have Z11 := zz9 BK126; have Z12 := zz9 BK127))
  refine bodyPost_ret (results_cell_row rfl _ _ gb127 36 #[.int .i64 a0_0, .int .i64 a0_1, .int .i64 a0_2, .int .i64 a0_3, .int .i64 a0_4, .int .i64 a0_5, .bool a0_6, .bool a0_7, .slice Ao10 y131.length co10] (0, 0) _ rfl (by refine kb_ ?_; refine pz9 (cs := #[.int .i64 0, .int .i64 0, .int .i64 0, .int .i64 0, .int .i64 0, .int .i64 0, .bool false, .bool false, .slice none 0 0]) ?_; exact kf_ BK127.out) Try.underlying36 rfl (by kernel_rfl)) rfl ?_
  exact ⟨_, by first | rfl | (simp [errW_none, errW_some] <;> rfl) | (simp [*, errW_none, errW_some] <;> rfl), by refine kR_ ?_; exact rfm_ ((Kd.R_far (p := ⟨gb126, 8, none⟩) (Kd.R_types (Kd.R_types HO133.out BK126.out (by decide)) BK127.out (by decide)) (fun _ hk => hk.1.2) (.slice Ao10 y131.length co10))) (fun _ hk => trivial), hbA_ HB.out⟩
 ·rw [if_neg c2] at H
  exact absurd H (by simp)
end Go.Proofs.Ytpdbnlmdohcgkaa.PFnExactPartPut
