/- Printed by wip/xp/xprint.sh out of the translation, for this claim: what each function answers, as a plain function, and that the machine does just that. No condition. -/
import Derived.Test.YtpbeljcgcdilnaaPFnExactPartWholex0
import Derived.Test.YtpbeljcgcdilnaaPFnExactPartWholex2
namespace Go.Proofs.Ytpbeljcgcdilnaa.PFnExactPartWhole
open Go.RowKit Go.Proofs.YtpbeljcgcdilnaaW.PrintWords Go.Proofs.YtpbeljcgcdilnaaW.PrintLast Go.Proofs.YtpbeljcgcdilnaaW.PrintMore
attribute [local go_sem] max2_int min2_int max_two min_two max_three min_three max_four min_four   -- for this text's walks alone
set_option linter.unusedVariables false
set_option linter.unusedSimpArgs false
mutual
def spec_PartOk.l0 : Nat → Int → Int → List (S28) → Int → Option (Bool)
 | 0, _, _, _, _ => none
 | k + 1, x3, x4, x182000, x182001 => if x4 < (x182000.length : Int) then (if 0 ≤ x4 then ((spec_PacketOk.f k ((rd_T28 x182000 x4).f0) ((rd_T28 x182000 x4).f1) ((rd_T28 x182000 x4).f2) ((rd_T28 x182000 x4).f3) ((rd_T28 x182000 x4).f4) ((rd_T28 x182000 x4).f5) ((rd_T28 x182000 x4).f6) ((rd_T28 x182000 x4).f7) ((rd_T28 x182000 x4).f8)).bind fun t185 => (if t185 = true then (if 0 < (x182000.length : Int) then ((spec_l5Same.f ((rd_T28 x182000 x4).f0) ((rd_T28 x182000 x4).f1) ((rd_T28 x182000 x4).f2) ((rd_T28 x182000 x4).f3) ((rd_T28 x182000 x4).f4) ((rd_T28 x182000 x4).f5) ((rd_T28 x182000 x4).f6) ((rd_T28 x182000 x4).f7) ((rd_T28 x182000 x4).f8) ((rd_T28 x182000 0).f0) ((rd_T28 x182000 0).f1) ((rd_T28 x182000 0).f2) ((rd_T28 x182000 0).f3) ((rd_T28 x182000 0).f4) ((rd_T28 x182000 0).f5) ((rd_T28 x182000 0).f6) ((rd_T28 x182000 0).f7) ((rd_T28 x182000 0).f8)).bind fun t187 => (if t187 = true then (if x4 > 0 then (if 0 ≤ (wrap64 (x4 - 1)) then (if (wrap64 (x4 - 1)) < (x182000.length : Int) then (if ((rd_T28 x182000 x4).f5) < (wrap64 (((rd_T28 x182000 (wrap64 (x4 - 1))).f5) + (((rd_T28 x182000 (wrap64 (x4 - 1))).f8).length : Int))) then (spec_PartOk.j1 k x3 x4 true x182000 x182001 ((rd_T28 x182000 x4).f0) ((rd_T28 x182000 x4).f1) ((rd_T28 x182000 x4).f2) ((rd_T28 x182000 x4).f3) ((rd_T28 x182000 x4).f4) ((rd_T28 x182000 x4).f5) ((rd_T28 x182000 x4).f6) ((rd_T28 x182000 x4).f7) ((rd_T28 x182000 x4).f8)) else (spec_PartOk.j1 k x3 x4 (!((rd_T28 x182000 (wrap64 (x4 - 1))).f6)) x182000 x182001 ((rd_T28 x182000 x4).f0) ((rd_T28 x182000 x4).f1) ((rd_T28 x182000 x4).f2) ((rd_T28 x182000 x4).f3) ((rd_T28 x182000 x4).f4) ((rd_T28 x182000 x4).f5) ((rd_T28 x182000 x4).f6) ((rd_T28 x182000 x4).f7) ((rd_T28 x182000 x4).f8))) else (none)) else (none)) else (spec_PartOk.j1 k x3 x4 false x182000 x182001 ((rd_T28 x182000 x4).f0) ((rd_T28 x182000 x4).f1) ((rd_T28 x182000 x4).f2) ((rd_T28 x182000 x4).f3) ((rd_T28 x182000 x4).f4) ((rd_T28 x182000 x4).f5) ((rd_T28 x182000 x4).f6) ((rd_T28 x182000 x4).f7) ((rd_T28 x182000 x4).f8))) else (spec_PartOk.j1 k x3 x4 true x182000 x182001 ((rd_T28 x182000 x4).f0) ((rd_T28 x182000 x4).f1) ((rd_T28 x182000 x4).f2) ((rd_T28 x182000 x4).f3) ((rd_T28 x182000 x4).f4) ((rd_T28 x182000 x4).f5) ((rd_T28 x182000 x4).f6) ((rd_T28 x182000 x4).f7) ((rd_T28 x182000 x4).f8)))) else (none)) else (spec_PartOk.j1 k x3 x4 true x182000 x182001 ((rd_T28 x182000 x4).f0) ((rd_T28 x182000 x4).f1) ((rd_T28 x182000 x4).f2) ((rd_T28 x182000 x4).f3) ((rd_T28 x182000 x4).f4) ((rd_T28 x182000 x4).f5) ((rd_T28 x182000 x4).f6) ((rd_T28 x182000 x4).f7) ((rd_T28 x182000 x4).f8)))) else (none)) else (if (x182000.length : Int) > 0 then (if x3 ≤ 48 then ((spec_l1In.f x182001 0 1000000).bind fun t182 => (some t182)) else (some false)) else (some false))
def spec_PartOk.j1 : Nat → Int → Int → Bool → List (S28) → Int → Int → Int → Int → Int → Int → Int → Bool → Bool → List Int → Option (Bool)
 | 0, _, _, _, _, _, _, _, _, _, _, _, _, _, _ => none
 | k + 1, x3, x4, x64, x182000, x182001, x185000, x185001, x185002, x185003, x185004, x185005, x185006, x185007, x185008 => if x64 = true then (some false) else (spec_PartOk.l0 k (wrap64 (x3 + (x185008.length : Int))) (wrap64 (x4 + 1)) x182000 x182001)
end
def spec_PartOk.f (k : Nat) (l0_0 : List (S28)) (a0_1 : Int) : Option (Bool) := spec_PartOk.l0 k 0 0 l0_0 a0_1
theorem spec_PartOk.mono_l : ∀ k, (∀ y0 y1 y2 y3, LeO (spec_PartOk.l0 k y0 y1 y2 y3) (spec_PartOk.l0 (k + 1) y0 y1 y2 y3)) ∧ (∀ y0 y1 y2 y3 y4 y5 y6 y7 y8 y9 y10 y11 y12 y13, LeO (spec_PartOk.j1 k y0 y1 y2 y3 y4 y5 y6 y7 y8 y9 y10 y11 y12 y13) (spec_PartOk.j1 (k + 1) y0 y1 y2 y3 y4 y5 y6 y7 y8 y9 y10 y11 y12 y13))
 | 0 => ⟨fun _ _ _ _ r h => by simp [spec_PartOk.l0] at h, fun _ _ _ _ _ _ _ _ _ _ _ _ _ _ r h => by simp [spec_PartOk.j1] at h⟩
 | k + 1 => by
  obtain ⟨ih0, ih1⟩ := spec_PartOk.mono_l k
  refine ⟨?_, ?_⟩
  ·intro y0 y1 y2 y3
   unfold spec_PartOk.l0
   repeat' first | (with_reducible first | apply ih0 | apply ih1 | apply spec_PacketOk.mono | exact LeO.refl _ | exact LeO.none _ | refine LeO.ite ?_ ?_ | refine LeO.bind ?_ fun _ => ?_) | apply ih0 | apply ih1 | apply spec_PacketOk.mono | exact LeO.none _ | refine LeO.ite ?_ ?_ | refine LeO.bind ?_ fun _ => ?_
  ·intro y0 y1 y2 y3 y4 y5 y6 y7 y8 y9 y10 y11 y12 y13
   unfold spec_PartOk.j1
   repeat' first | (with_reducible first | apply ih0 | apply ih1 | apply spec_PacketOk.mono | exact LeO.refl _ | exact LeO.none _ | refine LeO.ite ?_ ?_ | refine LeO.bind ?_ fun _ => ?_) | apply ih0 | apply ih1 | apply spec_PacketOk.mono | exact LeO.none _ | refine LeO.ite ?_ ?_ | refine LeO.bind ?_ fun _ => ?_
theorem spec_PartOk.mono : ∀ a0 a1 k, LeO (spec_PartOk.f k a0 a1) (spec_PartOk.f (k + 1) a0 a1) := by
 intro a0 a1 k
 obtain ⟨ih0, ih1⟩ := spec_PartOk.mono_l k
 unfold spec_PartOk.f
 repeat' first | (with_reducible first | apply ih0 | apply ih1 | apply spec_PacketOk.mono | exact LeO.refl _ | exact LeO.none _ | refine LeO.ite ?_ ?_ | refine LeO.bind ?_ fun _ => ?_) | apply ih0 | apply ih1 | apply spec_PacketOk.mono | exact LeO.none _ | refine LeO.ite ?_ ?_ | refine LeO.bind ?_ fun _ => ?_
def spec_PartOk.T6 : Bool × List (List Nat × List Nat) := (true, [([], []), ([0], [0]), ([1], [1]), ([2, 1], [2]), ([3], [3]), ([3], [3]), ([5, 3], [3, 5]), ([6, 3], [3, 6]), ([7, 3], [3, 7]), ([4, 8, 3, 3], [3, 4, 8]), ([9, 3], [3, 9]), ([3, 10], [3, 10]), ([11, 9], [11]), ([12], [12]), ([13, 12], [12, 13]), ([14, 12, 12], [12, 14]), ([15], [15]), ([16, 15], [15, 16]), ([15], [15]), ([18, 15], [15, 18]), ([15], [15]), ([20, 15], [15, 20]), ([19, 21, 15], [15, 19, 21]), ([22, 15], [15, 22]), ([23, 15], [15, 23]), ([15], [15]), ([25, 15], [15, 25]), ([15], [15]), ([27, 15], [15, 27]), ([26, 28, 15], [15, 26, 28]), ([29, 15], [15, 29]), ([30, 15], [15, 30]), ([31, 15], [15, 31]), ([24, 32, 15], [15, 24, 32]), ([17, 33, 15], [15, 17, 33]), ([34, 15, 15], [15, 34]), ([35], [35]), ([36, 35], [35, 36]), ([35], [35]), ([38, 35], [35, 38]), ([37, 39, 35], [35, 37, 39]), ([40, 35], [35, 40]), ([41, 35], [35, 41]), ([42, 35], [35, 42]), ([35, 43, 15], [15, 35, 43]), ([15, 44, 12], [12, 15, 44]), ([12, 45], [12, 45])])
def spec_PartOk.B6 : List Nat := [0, 1, 3, 7, 15, 15, 47, 111, 239, 511, 1023, 2047, 4095, 8191, 16383, 32767, 65535, 131071, 65535, 327679, 65535, 1114111, 3997695, 8191999, 16580607, 65535, 33619967, 65535, 134283263, 503382015, 1040252927, 2113994751, 4261478399, 8589737983, 17179869183, 34359738367, 68719476735, 137438953471, 68719476735, 343597383679, 1099511627775, 2199023255551, 4398046511103, 8796093022207, 17592186044415, 35184372088831, 70368744177663]
theorem spec_PartOk.tab6 : rtab .any (opsOf Try.f46 6) = spec_PartOk.T6 := by kernel_rfl
theorem spec_PartOk.bits6 : waitsOk spec_PartOk.T6.2 spec_PartOk.B6 = true := by kernel_rfl
set_option maxHeartbeats 8000000 in
set_option maxRecDepth 100000 in
theorem spec_PartOk.calls (k : Nat) (A0_0 : Option Addr) (c0_0 : Nat) (l0_0 : List (S28)) (a0_1 : Int) (r : Bool) (w : World) (hr0_0 : Kd.C k28 w A0_0 l0_0.length l0_0) (hc0_0 : l0_0.length ≤ c0_0) (h : spec_PartOk.f k l0_0 a0_1 = some r) :
  Calls Try.prog 46 #[.agg #[.slice A0_0 l0_0.length c0_0, .int .i64 a0_1]] w fun e w' => e = .returned (.bool r) ∧ Below w.heap.size w w' := by
 have hu25 := Try.underlying25; have hu28 := Try.underlying28; have HR0_0 := Aside0.mk hr0_0; have HC0_0 := Aside0.mk hc0_0; clear hr0_0 hc0_0
 have HB := Aside0.mk (Below.refl w.heap.size w)
 have H : (spec_PartOk.l0 k 0 0 l0_0 a0_1) = some r := h
 clear h
 have H' := Aside0.mk H
 clear H
 go_enter Try.func46, Try.ntmps46
 go_wp2_with (first | ((with_reducible refine gate_dst (N := 1) rfl ?_); (try (refine gate_guard (by rfl) ?_; dsimp only)); refine box_ (N := 1) (cs := #[.slice A0_0 l0_0.length c0_0, .int .i64 a0_1]) (t := 25) (fun gb181 hg w2 hbox hb => ?_); have BK181 := Aside0.mk (hbox); have GW181 := ge_ hg HB; have GE181 := ge_ hg HB; replace HB := (bs_ HB hb); clear hb hbox hg))
 go_loopg [3, 4] k (fun kq v3 v4 w' => ∃ (x3_1 : Int) (x4_1 : Int), v3 = .int .i64 x3_1 ∧ v4 = .int .i64 x4_1 ∧ Aside0 (spec_PartOk.l0 kq x3_1 x4_1 l0_0 a0_1 = some r) ∧ Aside0 (kq ≤ k) ∧ Aside0 (w'.heap[gb181]? = some (.cells #[(.slice A0_0 l0_0.length c0_0), .int .i64 a0_1] 25 (0, 0))) ∧ Aside0 (Below w.heap.size w w'))
 case atStart => exact ⟨(0), (0), (by first | rfl | (simp; done) | (simp [*]; done)), (by first | rfl | (simp; done) | (simp [*]; done)), H', ⟨Nat.le_refl _⟩, ⟨by refine kb_ ?_; exact BK181.out⟩, ⟨hbA_ HB.out⟩⟩
 case round =>
  clear H'; (try clear p2)
  obtain ⟨x3_1, x4_1, rfl, rfl, HA, HK1, BK181, HB⟩ := hrel
  cases gk with
  | zero => exact absurd HA.out (by simp [spec_PartOk.l0])
  | succ k1 =>
   have H := HA.out; clear HA
   simp only [spec_PartOk.l0] at H
   by_cases c3 : x4_1 < (l0_0.length : Int)
   ·rw [if_pos c3] at H
    have c3b0 : decide (x4_1 < (l0_0.length : Int)) = true := decide_eq_true c3
    clear c3
    by_cases c4 : 0 ≤ x4_1
    ·rw [if_pos c4] at H
     have c4b0 : decide (0 ≤ x4_1) = true := decide_eq_true c4
     clear c4; have HC5 := Aside0.mk H; clear H; have Z6 := zz2 BK181
     have p183 : 0 ≤ (x4_1 : Int) := of_decide_eq_true (by first | (with_reducible assumption) | assumption)
     have q183 : x4_1 < (l0_0.length : Int) := of_decide_eq_true (by first | (with_reducible assumption) | assumption)
     obtain ⟨ad183, A183_8, c183_8, e183, hx183_0, hx183_1, hx183_2, hx183_3, hx183_4, hx183_5, hx183_6, hx183_7, hx183_8, hl183_8, hi183_8⟩ := at_T28 HR0_0.out x4_1 p183 q183
     cases e183
     replace hx183_0 := cc_ HB hx183_0
     replace hx183_1 := cc_ HB hx183_1
     replace hx183_2 := cc_ HB hx183_2
     replace hx183_3 := cc_ HB hx183_3
     replace hx183_4 := cc_ HB hx183_4
     replace hx183_5 := cc_ HB hx183_5
     replace hx183_6 := cc_ HB hx183_6
     replace hx183_7 := cc_ HB hx183_7
     replace hx183_8 := cc_ HB hx183_8
     have HR183_8 := Aside0.mk hi183_8; have HC183_8 := Aside0.mk hl183_8; clear hi183_8 hl183_8
     replace p183 := eq_true p183
     replace q183 := eq_true q183
     go_upto_region 6 with (first | ((with_reducible refine gate_dst (N := 5) rfl ?_); (try (refine gate_guard (by rfl) ?_; dsimp only)); refine box_ (N := 5) (cs := #[.int .i64 0, .int .i64 0, .int .i64 0, .int .i64 0, .int .i64 0, .int .i64 0, .bool false, .bool false, .slice none 0 0]) (t := 28) (fun gb184 hg w7 hbox hb => ?_); have BK184 := Aside0.mk (hbox); have GW184 := ge_ hg HB; have GE184 := ge_ hg HB; replace HB := (bs_ HB hb); have NB181_184 := nl_ hg BK181; have NB184_181 := ng_ hg BK181; replace BK181 := (bbA_ BK181 hb); clear hb hbox hg; have hnb8 := NB184_181.out; have hnc8 := NB181_184.out; have Z9 := zz9 BK184))
     (try simp only [Act.put, List.setIfInBounds_toArray, List.set_cons_zero, List.set_cons_succ])
     go_cut [64] (fun v64 wc => ∃ (kq : Nat) (x64_4 : Bool), v64 = .bool x64_4 ∧ Aside0 (spec_PartOk.j1 kq x3_1 x4_1 x64_4 l0_0 a0_1 ((rd_T28 l0_0 x4_1).f0) ((rd_T28 l0_0 x4_1).f1) ((rd_T28 l0_0 x4_1).f2) ((rd_T28 l0_0 x4_1).f3) ((rd_T28 l0_0 x4_1).f4) ((rd_T28 l0_0 x4_1).f5) ((rd_T28 l0_0 x4_1).f6) ((rd_T28 l0_0 x4_1).f7) ((rd_T28 l0_0 x4_1).f8) = some r) ∧ Aside0 (kq ≤ k1) ∧ Aside0 (wc.heap[gb181]? = some (.cells #[(.slice (some ad183) l0_0.length c0_0), .int .i64 a0_1] 25 (0, 0))) ∧ Aside0 (wc.heap[gb184]? = some (.cells #[.int .i64 ((rd_T28 l0_0 x4_1).f0), .int .i64 ((rd_T28 l0_0 x4_1).f1), .int .i64 ((rd_T28 l0_0 x4_1).f2), .int .i64 ((rd_T28 l0_0 x4_1).f3), .int .i64 ((rd_T28 l0_0 x4_1).f4), .int .i64 ((rd_T28 l0_0 x4_1).f5), .bool ((rd_T28 l0_0 x4_1).f6), .bool ((rd_T28 l0_0 x4_1).f7), (.slice A183_8 ((rd_T28 l0_0 x4_1).f8).length c183_8)] 28 (0, 0))) ∧ Aside0 (Below w.heap.size w wc))
     case first =>
      have H := HC5.out; clear HC5
      replace H := Option.bind_eq_some_iff.mp H
      obtain ⟨t185, A100, H⟩ := H
      (try dsimp only at H)
      have A10 := Aside0.mk A100; clear A100
      by_cases c11 : t185 = true
      ·subst c11
       rw [if_pos rfl] at H
       by_cases c12 : 0 < (l0_0.length : Int)
       ·rw [if_pos c12] at H
        have c12b0 : decide (0 < (l0_0.length : Int)) = true := decide_eq_true c12
        have c12b1 : decide (0 < l0_0.length) = true := decide_eq_true (by omega)
        clear c12
        (first | rw [c12b0] | (simp only [i64_w, i32_w]; rw [c12b0]) | skip)
        replace H := Option.bind_eq_some_iff.mp H
        obtain ⟨t187, A130, H⟩ := H
        (try dsimp only at H)
        have A13 := Aside0.mk A130; clear A130
        by_cases c14 : t187 = true
        ·subst c14
         rw [if_pos rfl] at H
         by_cases c15 : x4_1 > 0
         ·rw [if_pos c15] at H
          have c15b0 : decide (0 < x4_1) = true := decide_eq_true c15
          clear c15
          obtain ⟨ji16, hji16⟩ : ∃ j_ : Int, (wrap64 (x4_1 - 1)) = j_ := ⟨_, rfl⟩
          (first | rw [hji16] at H | simp only [hji16] at H)
          (try rw [hji16] at A10)
          (try rw [hji16] at A13)
          have hji16w : (IntKind.i64.wrap (x4_1 - 1)) = ji16 := (i64_w _).trans hji16
          by_cases c17 : 0 ≤ (ji16)
          ·rw [if_pos c17] at H
           have c17b0 : decide (0 ≤ (ji16)) = true := decide_eq_true c17
           clear c17
           by_cases c18 : (ji16) < (l0_0.length : Int)
           ·rw [if_pos c18] at H
            have c18b0 : decide ((ji16) < (l0_0.length : Int)) = true := decide_eq_true c18
            clear c18
            by_cases c19 : ((rd_T28 l0_0 x4_1).f5) < (wrap64 (((rd_T28 l0_0 (ji16)).f5) + (((rd_T28 l0_0 (ji16)).f8).length : Int)))
            ·rw [if_pos c19] at H
             have c19b0 : decide (((rd_T28 l0_0 x4_1).f5) < (wrap64 (((rd_T28 l0_0 (ji16)).f5) + (((rd_T28 l0_0 (ji16)).f8).length : Int)))) = true := decide_eq_true c19
             clear c19
             have H' := Aside0.mk H
             clear H
             try go_wp2
             obtain ⟨w20, h_w20⟩ : ∃ w_, (((((((((w7.setCell ⟨gb184, 0, none⟩ (.int .i64 ((rd_T28 l0_0 x4_1).f0))).setCell ⟨gb184, 1, none⟩ (.int .i64 ((rd_T28 l0_0 x4_1).f1))).setCell ⟨gb184, 2, none⟩ (.int .i64 ((rd_T28 l0_0 x4_1).f2))).setCell ⟨gb184, 3, none⟩ (.int .i64 ((rd_T28 l0_0 x4_1).f3))).setCell ⟨gb184, 4, none⟩ (.int .i64 ((rd_T28 l0_0 x4_1).f4))).setCell ⟨gb184, 5, none⟩ (.int .i64 ((rd_T28 l0_0 x4_1).f5))).setCell ⟨gb184, 6, none⟩ (.bool ((rd_T28 l0_0 x4_1).f6))).setCell ⟨gb184, 7, none⟩ (.bool ((rd_T28 l0_0 x4_1).f7))).setCell ⟨gb184, 8, none⟩ (.slice A183_8 ((rd_T28 l0_0 x4_1).f8).length c183_8)) = w_ := ⟨_, rfl⟩
             have n0_ : Aside0 (w20.heap[gb181]? = some (.cells #[.slice (some ad183) l0_0.length c0_0, .int .i64 a0_1] 25 (0, 0))) := ⟨by subst h_w20; exact kf_ BK181.out⟩
             have n1_ : Aside0 (w20.heap[gb184]? = some (.cells #[.int .i64 ((rd_T28 l0_0 x4_1).f0), .int .i64 ((rd_T28 l0_0 x4_1).f1), .int .i64 ((rd_T28 l0_0 x4_1).f2), .int .i64 ((rd_T28 l0_0 x4_1).f3), .int .i64 ((rd_T28 l0_0 x4_1).f4), .int .i64 ((rd_T28 l0_0 x4_1).f5), .bool ((rd_T28 l0_0 x4_1).f6), .bool ((rd_T28 l0_0 x4_1).f7), .slice A183_8 ((rd_T28 l0_0 x4_1).f8).length c183_8] 28 (0, 0))) := ⟨by subst h_w20; refine kb_ ?_; refine pz9 (cs := #[.int .i64 0, .int .i64 0, .int .i64 0, .int .i64 0, .int .i64 0, .int .i64 0, .bool false, .bool false, .slice none 0 0]) ?_; refine kb_ ?_; exact BK184.out⟩
             have n2_ : Aside0 (Below w.heap.size w w20) := ⟨by subst h_w20; exact hbA_ HB.out⟩
             (try clear BK181); (try clear BK184); (try clear HB)
             (try rw [h_w20]); clear h_w20
             have BK181 := n0_; have BK184 := n1_; have HB := n2_; clear n0_ n1_ n2_; replace BK181 := Aside0.mk (blk_drew BK181.out); replace BK184 := Aside0.mk (blk_drew BK184.out); replace HB := (bd_ HB)
             have p186 : 0 ≤ (0 : Int) := (by omega)
             have q186 : 0 < (l0_0.length : Int) := of_decide_eq_true (by first | (with_reducible assumption) | assumption)
             obtain ⟨ad186, A186_8, c186_8, e186, hx186_0, hx186_1, hx186_2, hx186_3, hx186_4, hx186_5, hx186_6, hx186_7, hx186_8, hl186_8, hi186_8⟩ := at_T28 HR0_0.out 0 p186 q186
             (try simp only [show ((0 : Int)).toNat = 0 from rfl, show 0 * 9 = 0 from rfl, Addr.add_zero'] at hx186_0 hx186_1 hx186_2 hx186_3 hx186_4 hx186_5 hx186_6 hx186_7 hx186_8); have hw186_8 := hx186_8; have hw186_7 := hx186_7; have hw186_6 := hx186_6; have hw186_5 := hx186_5; have hw186_4 := hx186_4; have hw186_3 := hx186_3; have hw186_2 := hx186_2; have hw186_1 := hx186_1; have hw186_0 := hx186_0
             obtain rfl : ad183 = ad186 := (by injection e186)
             have qi186 : (0 < l0_0.length) = True := eq_true (by omega)
             replace hx186_0 := cc_ HB hx186_0
             replace hx186_1 := cc_ HB hx186_1
             replace hx186_2 := cc_ HB hx186_2
             replace hx186_3 := cc_ HB hx186_3
             replace hx186_4 := cc_ HB hx186_4
             replace hx186_5 := cc_ HB hx186_5
             replace hx186_6 := cc_ HB hx186_6
             replace hx186_7 := cc_ HB hx186_7
             replace hx186_8 := cc_ HB hx186_8
             have HR186_8 := Aside0.mk hi186_8; have HC186_8 := Aside0.mk hl186_8; clear hi186_8 hl186_8
             replace p186 := eq_true p186
             replace q186 := eq_true q186
             have p188 : 0 ≤ ((ji16) : Int) := of_decide_eq_true (by first | (with_reducible assumption) | assumption)
             have q188 : (ji16) < (l0_0.length : Int) := of_decide_eq_true (by first | (with_reducible assumption) | assumption)
             obtain ⟨ad188, A188_8, c188_8, e188, hx188_0, hx188_1, hx188_2, hx188_3, hx188_4, hx188_5, hx188_6, hx188_7, hx188_8, hl188_8, hi188_8⟩ := at_T28 HR0_0.out (ji16) p188 q188
             have hw188_8 := hx188_8; have hw188_7 := hx188_7; have hw188_6 := hx188_6; have hw188_5 := hx188_5; have hw188_4 := hx188_4; have hw188_3 := hx188_3; have hw188_2 := hx188_2; have hw188_1 := hx188_1; have hw188_0 := hx188_0
             obtain rfl : ad183 = ad188 := (by injection e188)
             replace hx188_0 := cc_ HB hx188_0
             replace hx188_1 := cc_ HB hx188_1
             replace hx188_2 := cc_ HB hx188_2
             replace hx188_3 := cc_ HB hx188_3
             replace hx188_4 := cc_ HB hx188_4
             replace hx188_5 := cc_ HB hx188_5
             replace hx188_6 := cc_ HB hx188_6
             replace hx188_7 := cc_ HB hx188_7
             replace hx188_8 := cc_ HB hx188_8
             have HR188_8 := Aside0.mk hi188_8; have HC188_8 := Aside0.mk hl188_8; clear hi188_8 hl188_8
             replace p188 := eq_true p188
             replace q188 := eq_true q188
             have p189 : 0 ≤ ((ji16) : Int) := of_decide_eq_true (by first | (with_reducible assumption) | assumption)
             have q189 : (ji16) < (l0_0.length : Int) := of_decide_eq_true (by first | (with_reducible assumption) | assumption)
             obtain ⟨ad189, A189_8, c189_8, e189, hx189_0, hx189_1, hx189_2, hx189_3, hx189_4, hx189_5, hx189_6, hx189_7, hx189_8, hl189_8, hi189_8⟩ := at_T28 HR0_0.out (ji16) p189 q189
             have hw189_8 := hx189_8; have hw189_7 := hx189_7; have hw189_6 := hx189_6; have hw189_5 := hx189_5; have hw189_4 := hx189_4; have hw189_3 := hx189_3; have hw189_2 := hx189_2; have hw189_1 := hx189_1; have hw189_0 := hx189_0
             obtain rfl : ad183 = ad189 := (by injection e189)
             replace hx189_0 := cc_ HB hx189_0
             replace hx189_1 := cc_ HB hx189_1
             replace hx189_2 := cc_ HB hx189_2
             replace hx189_3 := cc_ HB hx189_3
             replace hx189_4 := cc_ HB hx189_4
             replace hx189_5 := cc_ HB hx189_5
             replace hx189_6 := cc_ HB hx189_6
             replace hx189_7 := cc_ HB hx189_7
             replace hx189_8 := cc_ HB hx189_8
             have HR189_8 := Aside0.mk hi189_8; have HC189_8 := Aside0.mk hl189_8; clear hi189_8 hl189_8
             replace p189 := eq_true p189
             replace q189 := eq_true q189
             have ea_ := Option.some.inj (hx188_8.symm.trans hx189_8)
             injection ea_ with ea_ en_ ec_
             subst ea_; subst ec_; clear en_
             refine start_ (n := 47) (S := fun w' => w'.cell? ⟨gb184, 0, none⟩ = some (.int .i64 ((rd_T28 l0_0 x4_1).f0)) ∧ w'.cell? ⟨gb184, 1, none⟩ = some (.int .i64 ((rd_T28 l0_0 x4_1).f1)) ∧ w'.cell? ⟨gb184, 2, none⟩ = some (.int .i64 ((rd_T28 l0_0 x4_1).f2)) ∧ w'.cell? ⟨gb184, 3, none⟩ = some (.int .i64 ((rd_T28 l0_0 x4_1).f3)) ∧ w'.cell? ⟨gb184, 4, none⟩ = some (.int .i64 ((rd_T28 l0_0 x4_1).f4)) ∧ w'.cell? ⟨gb184, 5, none⟩ = some (.int .i64 ((rd_T28 l0_0 x4_1).f5)) ∧ w'.cell? ⟨gb184, 6, none⟩ = some (.bool ((rd_T28 l0_0 x4_1).f6)) ∧ w'.cell? ⟨gb184, 7, none⟩ = some (.bool ((rd_T28 l0_0 x4_1).f7)) ∧ w'.cell? ⟨gb184, 8, none⟩ = some (.slice A183_8 ((rd_T28 l0_0 x4_1).f8).length c183_8) ∧ w'.cell? ⟨gb181, 0, none⟩ = some (.slice (some ad183) l0_0.length c0_0) ∧ w'.cell? ⟨gb181, 1, none⟩ = some (.int .i64 a0_1) ∧ w'.cell? ad183 = some (.int .i64 ((rd_T28 l0_0 0).f0)) ∧ w'.cell? ⟨ad183.block, ad183.off + 1, none⟩ = some (.int .i64 ((rd_T28 l0_0 0).f1)) ∧ w'.cell? ⟨ad183.block, ad183.off + 2, none⟩ = some (.int .i64 ((rd_T28 l0_0 0).f2)) ∧ w'.cell? ⟨ad183.block, ad183.off + 3, none⟩ = some (.int .i64 ((rd_T28 l0_0 0).f3)) ∧ w'.cell? ⟨ad183.block, ad183.off + 4, none⟩ = some (.int .i64 ((rd_T28 l0_0 0).f4)) ∧ w'.cell? ⟨ad183.block, ad183.off + 5, none⟩ = some (.int .i64 ((rd_T28 l0_0 0).f5)) ∧ w'.cell? ⟨ad183.block, ad183.off + 6, none⟩ = some (.bool ((rd_T28 l0_0 0).f6)) ∧ w'.cell? ⟨ad183.block, ad183.off + 7, none⟩ = some (.bool ((rd_T28 l0_0 0).f7)) ∧ w'.cell? ⟨ad183.block, ad183.off + 8, none⟩ = some (.slice A186_8 ((rd_T28 l0_0 0).f8).length c186_8) ∧ w'.cell? (ad183.add (((ji16)).toNat * 9)) = some (.int .i64 ((rd_T28 l0_0 (ji16)).f0)) ∧ w'.cell? ⟨(ad183.add (((ji16)).toNat * 9)).block, (ad183.add (((ji16)).toNat * 9)).off + 1, none⟩ = some (.int .i64 ((rd_T28 l0_0 (ji16)).f1)) ∧ w'.cell? ⟨(ad183.add (((ji16)).toNat * 9)).block, (ad183.add (((ji16)).toNat * 9)).off + 2, none⟩ = some (.int .i64 ((rd_T28 l0_0 (ji16)).f2)) ∧ w'.cell? ⟨(ad183.add (((ji16)).toNat * 9)).block, (ad183.add (((ji16)).toNat * 9)).off + 3, none⟩ = some (.int .i64 ((rd_T28 l0_0 (ji16)).f3)) ∧ w'.cell? ⟨(ad183.add (((ji16)).toNat * 9)).block, (ad183.add (((ji16)).toNat * 9)).off + 4, none⟩ = some (.int .i64 ((rd_T28 l0_0 (ji16)).f4)) ∧ w'.cell? ⟨(ad183.add (((ji16)).toNat * 9)).block, (ad183.add (((ji16)).toNat * 9)).off + 5, none⟩ = some (.int .i64 ((rd_T28 l0_0 (ji16)).f5)) ∧ w'.cell? ⟨(ad183.add (((ji16)).toNat * 9)).block, (ad183.add (((ji16)).toNat * 9)).off + 6, none⟩ = some (.bool ((rd_T28 l0_0 (ji16)).f6)) ∧ w'.cell? ⟨(ad183.add (((ji16)).toNat * 9)).block, (ad183.add (((ji16)).toNat * 9)).off + 7, none⟩ = some (.bool ((rd_T28 l0_0 (ji16)).f7)) ∧ w'.cell? ⟨(ad183.add (((ji16)).toNat * 9)).block, (ad183.add (((ji16)).toNat * 9)).off + 8, none⟩ = some (.slice A188_8 ((rd_T28 l0_0 (ji16)).f8).length c188_8) ∧ w'.cell? (ad183.add (((ji16)).toNat * 9)) = some (.int .i64 ((rd_T28 l0_0 (ji16)).f0)) ∧ w'.cell? ⟨(ad183.add (((ji16)).toNat * 9)).block, (ad183.add (((ji16)).toNat * 9)).off + 1, none⟩ = some (.int .i64 ((rd_T28 l0_0 (ji16)).f1)) ∧ w'.cell? ⟨(ad183.add (((ji16)).toNat * 9)).block, (ad183.add (((ji16)).toNat * 9)).off + 2, none⟩ = some (.int .i64 ((rd_T28 l0_0 (ji16)).f2)) ∧ w'.cell? ⟨(ad183.add (((ji16)).toNat * 9)).block, (ad183.add (((ji16)).toNat * 9)).off + 3, none⟩ = some (.int .i64 ((rd_T28 l0_0 (ji16)).f3)) ∧ w'.cell? ⟨(ad183.add (((ji16)).toNat * 9)).block, (ad183.add (((ji16)).toNat * 9)).off + 4, none⟩ = some (.int .i64 ((rd_T28 l0_0 (ji16)).f4)) ∧ w'.cell? ⟨(ad183.add (((ji16)).toNat * 9)).block, (ad183.add (((ji16)).toNat * 9)).off + 5, none⟩ = some (.int .i64 ((rd_T28 l0_0 (ji16)).f5)) ∧ w'.cell? ⟨(ad183.add (((ji16)).toNat * 9)).block, (ad183.add (((ji16)).toNat * 9)).off + 6, none⟩ = some (.bool ((rd_T28 l0_0 (ji16)).f6)) ∧ w'.cell? ⟨(ad183.add (((ji16)).toNat * 9)).block, (ad183.add (((ji16)).toNat * 9)).off + 7, none⟩ = some (.bool ((rd_T28 l0_0 (ji16)).f7)) ∧ w'.cell? ⟨(ad183.add (((ji16)).toNat * 9)).block, (ad183.add (((ji16)).toNat * 9)).off + 8, none⟩ = some (.slice A188_8 ((rd_T28 l0_0 (ji16)).f8).length c188_8)) (ds := []) #[false, false, false, false, false, false, false, false, false, false, false, false, false, false, false, false, false, false, false, false, false, false, false, false, false, false, false, false, false, false, false, false, false, false, false, false, false, false, false, false, false, false, false, false, false, false, false] (by kernel_rfl) rfl rfl ⟨bc_ BK184 0, bc_ BK184 1, bc_ BK184 2, bc_ BK184 3, bc_ BK184 4, bc_ BK184 5, bc_ BK184 6, bc_ BK184 7, bc_ BK184 8, bc_ BK181 0, bc_ BK181 1, (cc_ HB hw186_0), (cc_ HB hw186_1), (cc_ HB hw186_2), (cc_ HB hw186_3), (cc_ HB hw186_4), (cc_ HB hw186_5), (cc_ HB hw186_6), (cc_ HB hw186_7), (cc_ HB hw186_8), (cc_ HB hw188_0), (cc_ HB hw188_1), (cc_ HB hw188_2), (cc_ HB hw188_3), (cc_ HB hw188_4), (cc_ HB hw188_5), (cc_ HB hw188_6), (cc_ HB hw188_7), (cc_ HB hw188_8), (cc_ HB hw189_0), (cc_ HB hw189_1), (cc_ HB hw189_2), (cc_ HB hw189_3), (cc_ HB hw189_4), (cc_ HB hw189_5), (cc_ HB hw189_6), (cc_ HB hw189_7), (cc_ HB hw189_8)⟩ (fun hHeld => ?_); refine with_tabW spec_PartOk.tab6 spec_PartOk.bits6 (fun HT_ HW_ => ?_)
             generalize w20.drew = w21 at BK181 BK184 HB HR186_8 HR188_8 HR189_8 hx186_0 hx186_1 hx186_2 hx186_3 hx186_4 hx186_5 hx186_6 hx186_7 hx186_8 hx188_0 hx188_1 hx188_2 hx188_3 hx188_4 hx188_5 hx188_6 hx188_7 hx188_8 hx189_0 hx189_1 hx189_2 hx189_3 hx189_4 hx189_5 hx189_6 hx189_7 hx189_8 hHeld ⊢
             refine tk_ (i := 0) (N := some 18) HT_ HW_ hHeld ?_
             refine on_ (i := 1) (N := some 19) HT_ (fun K hK => ?_)
             refine goes_ Try.func77 (by kernel_rfl) rfl #[.agg #[.int .i64 ((rd_T28 l0_0 x4_1).f0), .int .i64 ((rd_T28 l0_0 x4_1).f1), .int .i64 ((rd_T28 l0_0 x4_1).f2), .int .i64 ((rd_T28 l0_0 x4_1).f3), .int .i64 ((rd_T28 l0_0 x4_1).f4), .int .i64 ((rd_T28 l0_0 x4_1).f5), .bool ((rd_T28 l0_0 x4_1).f6), .bool ((rd_T28 l0_0 x4_1).f7), .slice A183_8 ((rd_T28 l0_0 x4_1).f8).length c183_8]] (by rfl) rfl rfl ar_ ?_
             with_reducible refine (spec_PacketOk.calls k1 ((rd_T28 l0_0 x4_1).f0) ((rd_T28 l0_0 x4_1).f1) ((rd_T28 l0_0 x4_1).f2) ((rd_T28 l0_0 x4_1).f3) ((rd_T28 l0_0 x4_1).f4) ((rd_T28 l0_0 x4_1).f5) ((rd_T28 l0_0 x4_1).f6) ((rd_T28 l0_0 x4_1).f7) _ _ ((rd_T28 l0_0 x4_1).f8) true _ ?side1 ?side2 A10.out).mono ?_
             (case side1 => exact kC_ (Kd.C_below HR183_8.out HB.out))
             (case side2 => exact HC183_8.out)
             rintro e w22 ⟨rfl, hb⟩
             refine ⟨_, rfl, ?_⟩
             replace BK181 := (bbA_ BK181 hb); replace BK184 := (bbA_ BK184 hb); replace HB := (bs_ HB hb); (try clear hb); (try clear hb2); (try clear hk); (try clear hi)
             refine hK.out _ _ ⟨bc_ BK184 0, bc_ BK184 1, bc_ BK184 2, bc_ BK184 3, bc_ BK184 4, bc_ BK184 5, bc_ BK184 6, bc_ BK184 7, bc_ BK184 8, bc_ BK181 0, bc_ BK181 1, (cc_ HB hw186_0), (cc_ HB hw186_1), (cc_ HB hw186_2), (cc_ HB hw186_3), (cc_ HB hw186_4), (cc_ HB hw186_5), (cc_ HB hw186_6), (cc_ HB hw186_7), (cc_ HB hw186_8), (cc_ HB hw188_0), (cc_ HB hw188_1), (cc_ HB hw188_2), (cc_ HB hw188_3), (cc_ HB hw188_4), (cc_ HB hw188_5), (cc_ HB hw188_6), (cc_ HB hw188_7), (cc_ HB hw188_8), (cc_ HB hw189_0), (cc_ HB hw189_1), (cc_ HB hw189_2), (cc_ HB hw189_3), (cc_ HB hw189_4), (cc_ HB hw189_5), (cc_ HB hw189_6), (cc_ HB hw189_7), (cc_ HB hw189_8)⟩ (fun hHeld => ?_)
             clear hK K; refine nm_ 19 ?_; refine pu_ (i := 2) (N := some 20) HT_ ?_; refine pu_ (i := 3) (N := some 21) HT_ ?_; refine pu_ (i := 5) (N := some 23) HT_ ?_; refine tk_ (i := 4) (N := some 22) HT_ HW_ hHeld ?_; refine tk_ (i := 6) (N := some 24) HT_ HW_ hHeld ?_; refine pu_ (i := 7) (N := some 25) HT_ ?_; refine tk_ (i := 8) (N := some 26) HT_ HW_ hHeld ?_
             refine on_ (i := 9) (N := some 27) HT_ (fun K hK => ?_)
             refine goes_ Try.func83 (by kernel_rfl) rfl #[.agg #[.int .i64 ((rd_T28 l0_0 x4_1).f0), .int .i64 ((rd_T28 l0_0 x4_1).f1), .int .i64 ((rd_T28 l0_0 x4_1).f2), .int .i64 ((rd_T28 l0_0 x4_1).f3), .int .i64 ((rd_T28 l0_0 x4_1).f4), .int .i64 ((rd_T28 l0_0 x4_1).f5), .bool ((rd_T28 l0_0 x4_1).f6), .bool ((rd_T28 l0_0 x4_1).f7), .slice A183_8 ((rd_T28 l0_0 x4_1).f8).length c183_8], .agg #[.int .i64 ((rd_T28 l0_0 0).f0), .int .i64 ((rd_T28 l0_0 0).f1), .int .i64 ((rd_T28 l0_0 0).f2), .int .i64 ((rd_T28 l0_0 0).f3), .int .i64 ((rd_T28 l0_0 0).f4), .int .i64 ((rd_T28 l0_0 0).f5), .bool ((rd_T28 l0_0 0).f6), .bool ((rd_T28 l0_0 0).f7), .slice A186_8 ((rd_T28 l0_0 0).f8).length c186_8]] (by rfl) rfl rfl ar_ ?_
             with_reducible refine (spec_l5Same.calls ((rd_T28 l0_0 x4_1).f0) ((rd_T28 l0_0 x4_1).f1) ((rd_T28 l0_0 x4_1).f2) ((rd_T28 l0_0 x4_1).f3) ((rd_T28 l0_0 x4_1).f4) ((rd_T28 l0_0 x4_1).f5) ((rd_T28 l0_0 x4_1).f6) ((rd_T28 l0_0 x4_1).f7) _ _ ((rd_T28 l0_0 x4_1).f8) ((rd_T28 l0_0 0).f0) ((rd_T28 l0_0 0).f1) ((rd_T28 l0_0 0).f2) ((rd_T28 l0_0 0).f3) ((rd_T28 l0_0 0).f4) ((rd_T28 l0_0 0).f5) ((rd_T28 l0_0 0).f6) ((rd_T28 l0_0 0).f7) _ _ ((rd_T28 l0_0 0).f8) true _ ?side1 ?side2 ?side3 ?side4 A13.out).mono ?_
             (case side1 => exact kC_ (Kd.C_below HR183_8.out HB.out))
             (case side2 => exact HC183_8.out)
             (case side3 => exact kC_ (Kd.C_below HR186_8.out HB.out))
             (case side4 => exact HC186_8.out)
             rintro e w23 ⟨rfl, hb⟩
             refine ⟨_, rfl, ?_⟩
             replace BK181 := (bbA_ BK181 hb); replace BK184 := (bbA_ BK184 hb); replace HB := (bs_ HB hb); (try clear hb); (try clear hb2); (try clear hk); (try clear hi)
             refine hK.out _ _ ⟨bc_ BK184 0, bc_ BK184 1, bc_ BK184 2, bc_ BK184 3, bc_ BK184 4, bc_ BK184 5, bc_ BK184 6, bc_ BK184 7, bc_ BK184 8, bc_ BK181 0, bc_ BK181 1, (cc_ HB hw186_0), (cc_ HB hw186_1), (cc_ HB hw186_2), (cc_ HB hw186_3), (cc_ HB hw186_4), (cc_ HB hw186_5), (cc_ HB hw186_6), (cc_ HB hw186_7), (cc_ HB hw186_8), (cc_ HB hw188_0), (cc_ HB hw188_1), (cc_ HB hw188_2), (cc_ HB hw188_3), (cc_ HB hw188_4), (cc_ HB hw188_5), (cc_ HB hw188_6), (cc_ HB hw188_7), (cc_ HB hw188_8), (cc_ HB hw189_0), (cc_ HB hw189_1), (cc_ HB hw189_2), (cc_ HB hw189_3), (cc_ HB hw189_4), (cc_ HB hw189_5), (cc_ HB hw189_6), (cc_ HB hw189_7), (cc_ HB hw189_8)⟩ (fun hHeld => ?_)
             clear hK K; refine nm_ 27 ?_; refine pu_ (i := 10) (N := some 28) HT_ ?_; refine pu_ (i := 11) (N := some 29) HT_ ?_; refine pu_ (i := 12) (N := some 30) HT_ ?_; refine pu_ (i := 13) (N := some 31) HT_ ?_; refine pu_ (i := 14) (N := some 32) HT_ ?_; refine pu_ (i := 15) (N := some 33) HT_ ?_; refine pu_ (i := 16) (N := some 34) HT_ ?_; refine pu_ (i := 18) (N := some 36) HT_ ?_; refine pu_ (i := 20) (N := some 38) HT_ ?_; refine pu_ (i := 21) (N := some 39) HT_ ?_; refine pu_ (i := 25) (N := some 43) HT_ ?_; refine pu_ (i := 27) (N := some 45) HT_ ?_; refine pu_ (i := 28) (N := some 46) HT_ ?_; refine tk_ (i := 17) (N := some 35) HT_ HW_ hHeld ?_; refine tk_ (i := 19) (N := some 37) HT_ HW_ hHeld ?_; refine pu_ (i := 22) (N := some 40) HT_ ?_; refine pu_ (i := 23) (N := some 41) HT_ ?_; refine tk_ (i := 24) (N := some 42) HT_ HW_ hHeld ?_; refine tk_ (i := 26) (N := some 44) HT_ HW_ hHeld ?_; refine pu_ (i := 29) (N := some 47) HT_ ?_; refine pu_ (i := 30) (N := some 48) HT_ ?_; refine tk_ (i := 31) (N := some 49) HT_ HW_ hHeld ?_; refine pu_ (i := 32) (N := some 50) HT_ ?_; refine pu_ (i := 33) (N := some 51) HT_ ?_; refine pu_ (i := 34) (N := some 52) HT_ ?_; refine pu_ (i := 35) (N := some 53) HT_ ?_; refine pn_ (i := 36) (N := some 54) HT_ ?_; refine pn_ (i := 37) (N := some 55) HT_ ?_; refine pn_ (i := 38) (N := some 56) HT_ ?_; refine pn_ (i := 39) (N := some 57) HT_ ?_; refine pn_ (i := 40) (N := some 58) HT_ ?_; refine pn_ (i := 41) (N := some 59) HT_ ?_; refine pn_ (i := 42) (N := some 60) HT_ ?_; refine pn_ (i := 43) (N := some 61) HT_ ?_; refine pu_ (i := 44) (N := some 62) HT_ ?_; refine pu_ (i := 45) (N := some 63) HT_ ?_; refine pu_ (i := 46) (N := some 64) HT_ ?_
             refine done_ (done_of HT_.out (by kernel_rfl)) ?_
             try go_wp2
             first | go_meet | ((try simp only [← hji16]); go_meet)
             case rel => exact ⟨_, (true), (by first | rfl | (simp; done) | (simp [*]; done)), H', ⟨by have := HK1.out; first | omega | exact Nat.le_refl _⟩, ⟨by refine kb_ ?_; exact BK181.out⟩, ⟨by refine kb_ ?_; exact BK184.out⟩, ⟨hbA_ HB.out⟩⟩
            ·rw [if_neg c19] at H
             have c19b0 : decide (((rd_T28 l0_0 x4_1).f5) < (wrap64 (((rd_T28 l0_0 (ji16)).f5) + (((rd_T28 l0_0 (ji16)).f8).length : Int)))) = false := decide_eq_false c19
             clear c19
             have H' := Aside0.mk H
             clear H
             try go_wp2
             obtain ⟨w24, h_w24⟩ : ∃ w_, (((((((((w7.setCell ⟨gb184, 0, none⟩ (.int .i64 ((rd_T28 l0_0 x4_1).f0))).setCell ⟨gb184, 1, none⟩ (.int .i64 ((rd_T28 l0_0 x4_1).f1))).setCell ⟨gb184, 2, none⟩ (.int .i64 ((rd_T28 l0_0 x4_1).f2))).setCell ⟨gb184, 3, none⟩ (.int .i64 ((rd_T28 l0_0 x4_1).f3))).setCell ⟨gb184, 4, none⟩ (.int .i64 ((rd_T28 l0_0 x4_1).f4))).setCell ⟨gb184, 5, none⟩ (.int .i64 ((rd_T28 l0_0 x4_1).f5))).setCell ⟨gb184, 6, none⟩ (.bool ((rd_T28 l0_0 x4_1).f6))).setCell ⟨gb184, 7, none⟩ (.bool ((rd_T28 l0_0 x4_1).f7))).setCell ⟨gb184, 8, none⟩ (.slice A183_8 ((rd_T28 l0_0 x4_1).f8).length c183_8)) = w_ := ⟨_, rfl⟩
             have n0_ : Aside0 (w24.heap[gb181]? = some (.cells #[.slice (some ad183) l0_0.length c0_0, .int .i64 a0_1] 25 (0, 0))) := ⟨by subst h_w24; exact kf_ BK181.out⟩
             have n1_ : Aside0 (w24.heap[gb184]? = some (.cells #[.int .i64 ((rd_T28 l0_0 x4_1).f0), .int .i64 ((rd_T28 l0_0 x4_1).f1), .int .i64 ((rd_T28 l0_0 x4_1).f2), .int .i64 ((rd_T28 l0_0 x4_1).f3), .int .i64 ((rd_T28 l0_0 x4_1).f4), .int .i64 ((rd_T28 l0_0 x4_1).f5), .bool ((rd_T28 l0_0 x4_1).f6), .bool ((rd_T28 l0_0 x4_1).f7), .slice A183_8 ((rd_T28 l0_0 x4_1).f8).length c183_8] 28 (0, 0))) := ⟨by subst h_w24; refine kb_ ?_; refine pz9 (cs := #[.int .i64 0, .int .i64 0, .int .i64 0, .int .i64 0, .int .i64 0, .int .i64 0, .bool false, .bool false, .slice none 0 0]) ?_; refine kb_ ?_; exact BK184.out⟩
             have n2_ : Aside0 (Below w.heap.size w w24) := ⟨by subst h_w24; exact hbA_ HB.out⟩
             (try clear BK181); (try clear BK184); (try clear HB)
             (try rw [h_w24]); clear h_w24
             have BK181 := n0_; have BK184 := n1_; have HB := n2_; clear n0_ n1_ n2_; replace BK181 := Aside0.mk (blk_drew BK181.out); replace BK184 := Aside0.mk (blk_drew BK184.out); replace HB := (bd_ HB)
             have p186 : 0 ≤ (0 : Int) := (by omega)
             have q186 : 0 < (l0_0.length : Int) := of_decide_eq_true (by first | (with_reducible assumption) | assumption)
             obtain ⟨ad186, A186_8, c186_8, e186, hx186_0, hx186_1, hx186_2, hx186_3, hx186_4, hx186_5, hx186_6, hx186_7, hx186_8, hl186_8, hi186_8⟩ := at_T28 HR0_0.out 0 p186 q186
             (try simp only [show ((0 : Int)).toNat = 0 from rfl, show 0 * 9 = 0 from rfl, Addr.add_zero'] at hx186_0 hx186_1 hx186_2 hx186_3 hx186_4 hx186_5 hx186_6 hx186_7 hx186_8); have hw186_8 := hx186_8; have hw186_7 := hx186_7; have hw186_6 := hx186_6; have hw186_5 := hx186_5; have hw186_4 := hx186_4; have hw186_3 := hx186_3; have hw186_2 := hx186_2; have hw186_1 := hx186_1; have hw186_0 := hx186_0
             obtain rfl : ad183 = ad186 := (by injection e186)
             have qi186 : (0 < l0_0.length) = True := eq_true (by omega)
             replace hx186_0 := cc_ HB hx186_0
             replace hx186_1 := cc_ HB hx186_1
             replace hx186_2 := cc_ HB hx186_2
             replace hx186_3 := cc_ HB hx186_3
             replace hx186_4 := cc_ HB hx186_4
             replace hx186_5 := cc_ HB hx186_5
             replace hx186_6 := cc_ HB hx186_6
             replace hx186_7 := cc_ HB hx186_7
             replace hx186_8 := cc_ HB hx186_8
             have HR186_8 := Aside0.mk hi186_8; have HC186_8 := Aside0.mk hl186_8; clear hi186_8 hl186_8
             replace p186 := eq_true p186
             replace q186 := eq_true q186
             have p188 : 0 ≤ ((ji16) : Int) := of_decide_eq_true (by first | (with_reducible assumption) | assumption)
             have q188 : (ji16) < (l0_0.length : Int) := of_decide_eq_true (by first | (with_reducible assumption) | assumption)
             obtain ⟨ad188, A188_8, c188_8, e188, hx188_0, hx188_1, hx188_2, hx188_3, hx188_4, hx188_5, hx188_6, hx188_7, hx188_8, hl188_8, hi188_8⟩ := at_T28 HR0_0.out (ji16) p188 q188
             have hw188_8 := hx188_8; have hw188_7 := hx188_7; have hw188_6 := hx188_6; have hw188_5 := hx188_5; have hw188_4 := hx188_4; have hw188_3 := hx188_3; have hw188_2 := hx188_2; have hw188_1 := hx188_1; have hw188_0 := hx188_0
             obtain rfl : ad183 = ad188 := (by injection e188)
             replace hx188_0 := cc_ HB hx188_0
             replace hx188_1 := cc_ HB hx188_1
             replace hx188_2 := cc_ HB hx188_2
             replace hx188_3 := cc_ HB hx188_3
             replace hx188_4 := cc_ HB hx188_4
             replace hx188_5 := cc_ HB hx188_5
             replace hx188_6 := cc_ HB hx188_6
             replace hx188_7 := cc_ HB hx188_7
             replace hx188_8 := cc_ HB hx188_8
             have HR188_8 := Aside0.mk hi188_8; have HC188_8 := Aside0.mk hl188_8; clear hi188_8 hl188_8
             replace p188 := eq_true p188
             replace q188 := eq_true q188
             have p189 : 0 ≤ ((ji16) : Int) := of_decide_eq_true (by first | (with_reducible assumption) | assumption)
             have q189 : (ji16) < (l0_0.length : Int) := of_decide_eq_true (by first | (with_reducible assumption) | assumption)
             obtain ⟨ad189, A189_8, c189_8, e189, hx189_0, hx189_1, hx189_2, hx189_3, hx189_4, hx189_5, hx189_6, hx189_7, hx189_8, hl189_8, hi189_8⟩ := at_T28 HR0_0.out (ji16) p189 q189
             have hw189_8 := hx189_8; have hw189_7 := hx189_7; have hw189_6 := hx189_6; have hw189_5 := hx189_5; have hw189_4 := hx189_4; have hw189_3 := hx189_3; have hw189_2 := hx189_2; have hw189_1 := hx189_1; have hw189_0 := hx189_0
             obtain rfl : ad183 = ad189 := (by injection e189)
             replace hx189_0 := cc_ HB hx189_0
             replace hx189_1 := cc_ HB hx189_1
             replace hx189_2 := cc_ HB hx189_2
             replace hx189_3 := cc_ HB hx189_3
             replace hx189_4 := cc_ HB hx189_4
             replace hx189_5 := cc_ HB hx189_5
             replace hx189_6 := cc_ HB hx189_6
             replace hx189_7 := cc_ HB hx189_7
             replace hx189_8 := cc_ HB hx189_8
             have HR189_8 := Aside0.mk hi189_8; have HC189_8 := Aside0.mk hl189_8; clear hi189_8 hl189_8
             replace p189 := eq_true p189
             replace q189 := eq_true q189
             have ea_ := Option.some.inj (hx188_8.symm.trans hx189_8)
             injection ea_ with ea_ en_ ec_
             subst ea_; subst ec_; clear en_
             have p190 : 0 ≤ ((ji16) : Int) := of_decide_eq_true (by first | (with_reducible assumption) | assumption)
             have q190 : (ji16) < (l0_0.length : Int) := of_decide_eq_true (by first | (with_reducible assumption) | assumption)
             obtain ⟨ad190, A190_8, c190_8, e190, hx190_0, hx190_1, hx190_2, hx190_3, hx190_4, hx190_5, hx190_6, hx190_7, hx190_8, hl190_8, hi190_8⟩ := at_T28 HR0_0.out (ji16) p190 q190
             have hw190_8 := hx190_8; have hw190_7 := hx190_7; have hw190_6 := hx190_6; have hw190_5 := hx190_5; have hw190_4 := hx190_4; have hw190_3 := hx190_3; have hw190_2 := hx190_2; have hw190_1 := hx190_1; have hw190_0 := hx190_0
             obtain rfl : ad183 = ad190 := (by injection e190)
             replace hx190_0 := cc_ HB hx190_0
             replace hx190_1 := cc_ HB hx190_1
             replace hx190_2 := cc_ HB hx190_2
             replace hx190_3 := cc_ HB hx190_3
             replace hx190_4 := cc_ HB hx190_4
             replace hx190_5 := cc_ HB hx190_5
             replace hx190_6 := cc_ HB hx190_6
             replace hx190_7 := cc_ HB hx190_7
             replace hx190_8 := cc_ HB hx190_8
             have HR190_8 := Aside0.mk hi190_8; have HC190_8 := Aside0.mk hl190_8; clear hi190_8 hl190_8
             replace p190 := eq_true p190
             replace q190 := eq_true q190
             have ea_ := Option.some.inj (hx188_8.symm.trans hx190_8)
             injection ea_ with ea_ en_ ec_
             subst ea_; subst ec_; clear en_
             refine start_ (n := 47) (S := fun w' => w'.cell? ⟨gb184, 0, none⟩ = some (.int .i64 ((rd_T28 l0_0 x4_1).f0)) ∧ w'.cell? ⟨gb184, 1, none⟩ = some (.int .i64 ((rd_T28 l0_0 x4_1).f1)) ∧ w'.cell? ⟨gb184, 2, none⟩ = some (.int .i64 ((rd_T28 l0_0 x4_1).f2)) ∧ w'.cell? ⟨gb184, 3, none⟩ = some (.int .i64 ((rd_T28 l0_0 x4_1).f3)) ∧ w'.cell? ⟨gb184, 4, none⟩ = some (.int .i64 ((rd_T28 l0_0 x4_1).f4)) ∧ w'.cell? ⟨gb184, 5, none⟩ = some (.int .i64 ((rd_T28 l0_0 x4_1).f5)) ∧ w'.cell? ⟨gb184, 6, none⟩ = some (.bool ((rd_T28 l0_0 x4_1).f6)) ∧ w'.cell? ⟨gb184, 7, none⟩ = some (.bool ((rd_T28 l0_0 x4_1).f7)) ∧ w'.cell? ⟨gb184, 8, none⟩ = some (.slice A183_8 ((rd_T28 l0_0 x4_1).f8).length c183_8) ∧ w'.cell? ⟨gb181, 0, none⟩ = some (.slice (some ad183) l0_0.length c0_0) ∧ w'.cell? ⟨gb181, 1, none⟩ = some (.int .i64 a0_1) ∧ w'.cell? ad183 = some (.int .i64 ((rd_T28 l0_0 0).f0)) ∧ w'.cell? ⟨ad183.block, ad183.off + 1, none⟩ = some (.int .i64 ((rd_T28 l0_0 0).f1)) ∧ w'.cell? ⟨ad183.block, ad183.off + 2, none⟩ = some (.int .i64 ((rd_T28 l0_0 0).f2)) ∧ w'.cell? ⟨ad183.block, ad183.off + 3, none⟩ = some (.int .i64 ((rd_T28 l0_0 0).f3)) ∧ w'.cell? ⟨ad183.block, ad183.off + 4, none⟩ = some (.int .i64 ((rd_T28 l0_0 0).f4)) ∧ w'.cell? ⟨ad183.block, ad183.off + 5, none⟩ = some (.int .i64 ((rd_T28 l0_0 0).f5)) ∧ w'.cell? ⟨ad183.block, ad183.off + 6, none⟩ = some (.bool ((rd_T28 l0_0 0).f6)) ∧ w'.cell? ⟨ad183.block, ad183.off + 7, none⟩ = some (.bool ((rd_T28 l0_0 0).f7)) ∧ w'.cell? ⟨ad183.block, ad183.off + 8, none⟩ = some (.slice A186_8 ((rd_T28 l0_0 0).f8).length c186_8) ∧ w'.cell? (ad183.add (((ji16)).toNat * 9)) = some (.int .i64 ((rd_T28 l0_0 (ji16)).f0)) ∧ w'.cell? ⟨(ad183.add (((ji16)).toNat * 9)).block, (ad183.add (((ji16)).toNat * 9)).off + 1, none⟩ = some (.int .i64 ((rd_T28 l0_0 (ji16)).f1)) ∧ w'.cell? ⟨(ad183.add (((ji16)).toNat * 9)).block, (ad183.add (((ji16)).toNat * 9)).off + 2, none⟩ = some (.int .i64 ((rd_T28 l0_0 (ji16)).f2)) ∧ w'.cell? ⟨(ad183.add (((ji16)).toNat * 9)).block, (ad183.add (((ji16)).toNat * 9)).off + 3, none⟩ = some (.int .i64 ((rd_T28 l0_0 (ji16)).f3)) ∧ w'.cell? ⟨(ad183.add (((ji16)).toNat * 9)).block, (ad183.add (((ji16)).toNat * 9)).off + 4, none⟩ = some (.int .i64 ((rd_T28 l0_0 (ji16)).f4)) ∧ w'.cell? ⟨(ad183.add (((ji16)).toNat * 9)).block, (ad183.add (((ji16)).toNat * 9)).off + 5, none⟩ = some (.int .i64 ((rd_T28 l0_0 (ji16)).f5)) ∧ w'.cell? ⟨(ad183.add (((ji16)).toNat * 9)).block, (ad183.add (((ji16)).toNat * 9)).off + 6, none⟩ = some (.bool ((rd_T28 l0_0 (ji16)).f6)) ∧ w'.cell? ⟨(ad183.add (((ji16)).toNat * 9)).block, (ad183.add (((ji16)).toNat * 9)).off + 7, none⟩ = some (.bool ((rd_T28 l0_0 (ji16)).f7)) ∧ w'.cell? ⟨(ad183.add (((ji16)).toNat * 9)).block, (ad183.add (((ji16)).toNat * 9)).off + 8, none⟩ = some (.slice A188_8 ((rd_T28 l0_0 (ji16)).f8).length c188_8) ∧ w'.cell? (ad183.add (((ji16)).toNat * 9)) = some (.int .i64 ((rd_T28 l0_0 (ji16)).f0)) ∧ w'.cell? ⟨(ad183.add (((ji16)).toNat * 9)).block, (ad183.add (((ji16)).toNat * 9)).off + 1, none⟩ = some (.int .i64 ((rd_T28 l0_0 (ji16)).f1)) ∧ w'.cell? ⟨(ad183.add (((ji16)).toNat * 9)).block, (ad183.add (((ji16)).toNat * 9)).off + 2, none⟩ = some (.int .i64 ((rd_T28 l0_0 (ji16)).f2)) ∧ w'.cell? ⟨(ad183.add (((ji16)).toNat * 9)).block, (ad183.add (((ji16)).toNat * 9)).off + 3, none⟩ = some (.int .i64 ((rd_T28 l0_0 (ji16)).f3)) ∧ w'.cell? ⟨(ad183.add (((ji16)).toNat * 9)).block, (ad183.add (((ji16)).toNat * 9)).off + 4, none⟩ = some (.int .i64 ((rd_T28 l0_0 (ji16)).f4)) ∧ w'.cell? ⟨(ad183.add (((ji16)).toNat * 9)).block, (ad183.add (((ji16)).toNat * 9)).off + 5, none⟩ = some (.int .i64 ((rd_T28 l0_0 (ji16)).f5)) ∧ w'.cell? ⟨(ad183.add (((ji16)).toNat * 9)).block, (ad183.add (((ji16)).toNat * 9)).off + 6, none⟩ = some (.bool ((rd_T28 l0_0 (ji16)).f6)) ∧ w'.cell? ⟨(ad183.add (((ji16)).toNat * 9)).block, (ad183.add (((ji16)).toNat * 9)).off + 7, none⟩ = some (.bool ((rd_T28 l0_0 (ji16)).f7)) ∧ w'.cell? ⟨(ad183.add (((ji16)).toNat * 9)).block, (ad183.add (((ji16)).toNat * 9)).off + 8, none⟩ = some (.slice A188_8 ((rd_T28 l0_0 (ji16)).f8).length c188_8) ∧ w'.cell? (ad183.add (((ji16)).toNat * 9)) = some (.int .i64 ((rd_T28 l0_0 (ji16)).f0)) ∧ w'.cell? ⟨(ad183.add (((ji16)).toNat * 9)).block, (ad183.add (((ji16)).toNat * 9)).off + 1, none⟩ = some (.int .i64 ((rd_T28 l0_0 (ji16)).f1)) ∧ w'.cell? ⟨(ad183.add (((ji16)).toNat * 9)).block, (ad183.add (((ji16)).toNat * 9)).off + 2, none⟩ = some (.int .i64 ((rd_T28 l0_0 (ji16)).f2)) ∧ w'.cell? ⟨(ad183.add (((ji16)).toNat * 9)).block, (ad183.add (((ji16)).toNat * 9)).off + 3, none⟩ = some (.int .i64 ((rd_T28 l0_0 (ji16)).f3)) ∧ w'.cell? ⟨(ad183.add (((ji16)).toNat * 9)).block, (ad183.add (((ji16)).toNat * 9)).off + 4, none⟩ = some (.int .i64 ((rd_T28 l0_0 (ji16)).f4)) ∧ w'.cell? ⟨(ad183.add (((ji16)).toNat * 9)).block, (ad183.add (((ji16)).toNat * 9)).off + 5, none⟩ = some (.int .i64 ((rd_T28 l0_0 (ji16)).f5)) ∧ w'.cell? ⟨(ad183.add (((ji16)).toNat * 9)).block, (ad183.add (((ji16)).toNat * 9)).off + 6, none⟩ = some (.bool ((rd_T28 l0_0 (ji16)).f6)) ∧ w'.cell? ⟨(ad183.add (((ji16)).toNat * 9)).block, (ad183.add (((ji16)).toNat * 9)).off + 7, none⟩ = some (.bool ((rd_T28 l0_0 (ji16)).f7)) ∧ w'.cell? ⟨(ad183.add (((ji16)).toNat * 9)).block, (ad183.add (((ji16)).toNat * 9)).off + 8, none⟩ = some (.slice A188_8 ((rd_T28 l0_0 (ji16)).f8).length c188_8)) (ds := []) #[false, false, false, false, false, false, false, false, false, false, false, false, false, false, false, false, false, false, false, false, false, false, false, false, false, false, false, false, false, false, false, false, false, false, false, false, false, false, false, false, false, false, false, false, false, false, false] (by kernel_rfl) rfl rfl ⟨bc_ BK184 0, bc_ BK184 1, bc_ BK184 2, bc_ BK184 3, bc_ BK184 4, bc_ BK184 5, bc_ BK184 6, bc_ BK184 7, bc_ BK184 8, bc_ BK181 0, bc_ BK181 1, (cc_ HB hw186_0), (cc_ HB hw186_1), (cc_ HB hw186_2), (cc_ HB hw186_3), (cc_ HB hw186_4), (cc_ HB hw186_5), (cc_ HB hw186_6), (cc_ HB hw186_7), (cc_ HB hw186_8), (cc_ HB hw188_0), (cc_ HB hw188_1), (cc_ HB hw188_2), (cc_ HB hw188_3), (cc_ HB hw188_4), (cc_ HB hw188_5), (cc_ HB hw188_6), (cc_ HB hw188_7), (cc_ HB hw188_8), (cc_ HB hw189_0), (cc_ HB hw189_1), (cc_ HB hw189_2), (cc_ HB hw189_3), (cc_ HB hw189_4), (cc_ HB hw189_5), (cc_ HB hw189_6), (cc_ HB hw189_7), (cc_ HB hw189_8), (cc_ HB hw190_0), (cc_ HB hw190_1), (cc_ HB hw190_2), (cc_ HB hw190_3), (cc_ HB hw190_4), (cc_ HB hw190_5), (cc_ HB hw190_6), (cc_ HB hw190_7), (cc_ HB hw190_8)⟩ (fun hHeld => ?_); refine with_tabW spec_PartOk.tab6 spec_PartOk.bits6 (fun HT_ HW_ => ?_)
             generalize w24.drew = w25 at BK181 BK184 HB HR186_8 HR188_8 HR189_8 HR190_8 hx186_0 hx186_1 hx186_2 hx186_3 hx186_4 hx186_5 hx186_6 hx186_7 hx186_8 hx188_0 hx188_1 hx188_2 hx188_3 hx188_4 hx188_5 hx188_6 hx188_7 hx188_8 hx189_0 hx189_1 hx189_2 hx189_3 hx189_4 hx189_5 hx189_6 hx189_7 hx189_8 hx190_0 hx190_1 hx190_2 hx190_3 hx190_4 hx190_5 hx190_6 hx190_7 hx190_8 hHeld ⊢
             refine tk_ (i := 0) (N := some 18) HT_ HW_ hHeld ?_
             refine on_ (i := 1) (N := some 19) HT_ (fun K hK => ?_)
             refine goes_ Try.func77 (by kernel_rfl) rfl #[.agg #[.int .i64 ((rd_T28 l0_0 x4_1).f0), .int .i64 ((rd_T28 l0_0 x4_1).f1), .int .i64 ((rd_T28 l0_0 x4_1).f2), .int .i64 ((rd_T28 l0_0 x4_1).f3), .int .i64 ((rd_T28 l0_0 x4_1).f4), .int .i64 ((rd_T28 l0_0 x4_1).f5), .bool ((rd_T28 l0_0 x4_1).f6), .bool ((rd_T28 l0_0 x4_1).f7), .slice A183_8 ((rd_T28 l0_0 x4_1).f8).length c183_8]] (by rfl) rfl rfl ar_ ?_
             with_reducible refine (spec_PacketOk.calls k1 ((rd_T28 l0_0 x4_1).f0) ((rd_T28 l0_0 x4_1).f1) ((rd_T28 l0_0 x4_1).f2) ((rd_T28 l0_0 x4_1).f3) ((rd_T28 l0_0 x4_1).f4) ((rd_T28 l0_0 x4_1).f5) ((rd_T28 l0_0 x4_1).f6) ((rd_T28 l0_0 x4_1).f7) _ _ ((rd_T28 l0_0 x4_1).f8) true _ ?side1 ?side2 A10.out).mono ?_
             (case side1 => exact kC_ (Kd.C_below HR183_8.out HB.out))
             (case side2 => exact HC183_8.out)
             rintro e w26 ⟨rfl, hb⟩
             refine ⟨_, rfl, ?_⟩
             replace BK181 := (bbA_ BK181 hb); replace BK184 := (bbA_ BK184 hb); replace HB := (bs_ HB hb); (try clear hb); (try clear hb2); (try clear hk); (try clear hi)
             refine hK.out _ _ ⟨bc_ BK184 0, bc_ BK184 1, bc_ BK184 2, bc_ BK184 3, bc_ BK184 4, bc_ BK184 5, bc_ BK184 6, bc_ BK184 7, bc_ BK184 8, bc_ BK181 0, bc_ BK181 1, (cc_ HB hw186_0), (cc_ HB hw186_1), (cc_ HB hw186_2), (cc_ HB hw186_3), (cc_ HB hw186_4), (cc_ HB hw186_5), (cc_ HB hw186_6), (cc_ HB hw186_7), (cc_ HB hw186_8), (cc_ HB hw188_0), (cc_ HB hw188_1), (cc_ HB hw188_2), (cc_ HB hw188_3), (cc_ HB hw188_4), (cc_ HB hw188_5), (cc_ HB hw188_6), (cc_ HB hw188_7), (cc_ HB hw188_8), (cc_ HB hw189_0), (cc_ HB hw189_1), (cc_ HB hw189_2), (cc_ HB hw189_3), (cc_ HB hw189_4), (cc_ HB hw189_5), (cc_ HB hw189_6), (cc_ HB hw189_7), (cc_ HB hw189_8), (cc_ HB hw190_0), (cc_ HB hw190_1), (cc_ HB hw190_2), (cc_ HB hw190_3), (cc_ HB hw190_4), (cc_ HB hw190_5), (cc_ HB hw190_6), (cc_ HB hw190_7), (cc_ HB hw190_8)⟩ (fun hHeld => ?_)
             clear hK K; refine nm_ 19 ?_; refine pu_ (i := 2) (N := some 20) HT_ ?_; refine pu_ (i := 3) (N := some 21) HT_ ?_; refine pu_ (i := 5) (N := some 23) HT_ ?_; refine tk_ (i := 4) (N := some 22) HT_ HW_ hHeld ?_; refine tk_ (i := 6) (N := some 24) HT_ HW_ hHeld ?_; refine pu_ (i := 7) (N := some 25) HT_ ?_; refine tk_ (i := 8) (N := some 26) HT_ HW_ hHeld ?_
             refine on_ (i := 9) (N := some 27) HT_ (fun K hK => ?_)
             refine goes_ Try.func83 (by kernel_rfl) rfl #[.agg #[.int .i64 ((rd_T28 l0_0 x4_1).f0), .int .i64 ((rd_T28 l0_0 x4_1).f1), .int .i64 ((rd_T28 l0_0 x4_1).f2), .int .i64 ((rd_T28 l0_0 x4_1).f3), .int .i64 ((rd_T28 l0_0 x4_1).f4), .int .i64 ((rd_T28 l0_0 x4_1).f5), .bool ((rd_T28 l0_0 x4_1).f6), .bool ((rd_T28 l0_0 x4_1).f7), .slice A183_8 ((rd_T28 l0_0 x4_1).f8).length c183_8], .agg #[.int .i64 ((rd_T28 l0_0 0).f0), .int .i64 ((rd_T28 l0_0 0).f1), .int .i64 ((rd_T28 l0_0 0).f2), .int .i64 ((rd_T28 l0_0 0).f3), .int .i64 ((rd_T28 l0_0 0).f4), .int .i64 ((rd_T28 l0_0 0).f5), .bool ((rd_T28 l0_0 0).f6), .bool ((rd_T28 l0_0 0).f7), .slice A186_8 ((rd_T28 l0_0 0).f8).length c186_8]] (by rfl) rfl rfl ar_ ?_
             with_reducible refine (spec_l5Same.calls ((rd_T28 l0_0 x4_1).f0) ((rd_T28 l0_0 x4_1).f1) ((rd_T28 l0_0 x4_1).f2) ((rd_T28 l0_0 x4_1).f3) ((rd_T28 l0_0 x4_1).f4) ((rd_T28 l0_0 x4_1).f5) ((rd_T28 l0_0 x4_1).f6) ((rd_T28 l0_0 x4_1).f7) _ _ ((rd_T28 l0_0 x4_1).f8) ((rd_T28 l0_0 0).f0) ((rd_T28 l0_0 0).f1) ((rd_T28 l0_0 0).f2) ((rd_T28 l0_0 0).f3) ((rd_T28 l0_0 0).f4) ((rd_T28 l0_0 0).f5) ((rd_T28 l0_0 0).f6) ((rd_T28 l0_0 0).f7) _ _ ((rd_T28 l0_0 0).f8) true _ ?side1 ?side2 ?side3 ?side4 A13.out).mono ?_
             (case side1 => exact kC_ (Kd.C_below HR183_8.out HB.out))
             (case side2 => exact HC183_8.out)
             (case side3 => exact kC_ (Kd.C_below HR186_8.out HB.out))
             (case side4 => exact HC186_8.out)
             rintro e w27 ⟨rfl, hb⟩
             refine ⟨_, rfl, ?_⟩
             replace BK181 := (bbA_ BK181 hb); replace BK184 := (bbA_ BK184 hb); replace HB := (bs_ HB hb); (try clear hb); (try clear hb2); (try clear hk); (try clear hi)
             refine hK.out _ _ ⟨bc_ BK184 0, bc_ BK184 1, bc_ BK184 2, bc_ BK184 3, bc_ BK184 4, bc_ BK184 5, bc_ BK184 6, bc_ BK184 7, bc_ BK184 8, bc_ BK181 0, bc_ BK181 1, (cc_ HB hw186_0), (cc_ HB hw186_1), (cc_ HB hw186_2), (cc_ HB hw186_3), (cc_ HB hw186_4), (cc_ HB hw186_5), (cc_ HB hw186_6), (cc_ HB hw186_7), (cc_ HB hw186_8), (cc_ HB hw188_0), (cc_ HB hw188_1), (cc_ HB hw188_2), (cc_ HB hw188_3), (cc_ HB hw188_4), (cc_ HB hw188_5), (cc_ HB hw188_6), (cc_ HB hw188_7), (cc_ HB hw188_8), (cc_ HB hw189_0), (cc_ HB hw189_1), (cc_ HB hw189_2), (cc_ HB hw189_3), (cc_ HB hw189_4), (cc_ HB hw189_5), (cc_ HB hw189_6), (cc_ HB hw189_7), (cc_ HB hw189_8), (cc_ HB hw190_0), (cc_ HB hw190_1), (cc_ HB hw190_2), (cc_ HB hw190_3), (cc_ HB hw190_4), (cc_ HB hw190_5), (cc_ HB hw190_6), (cc_ HB hw190_7), (cc_ HB hw190_8)⟩ (fun hHeld => ?_)
             clear hK K; refine nm_ 27 ?_; refine pu_ (i := 10) (N := some 28) HT_ ?_; refine pu_ (i := 11) (N := some 29) HT_ ?_; refine pu_ (i := 12) (N := some 30) HT_ ?_; refine pu_ (i := 13) (N := some 31) HT_ ?_; refine pu_ (i := 14) (N := some 32) HT_ ?_; refine pu_ (i := 15) (N := some 33) HT_ ?_; refine pu_ (i := 16) (N := some 34) HT_ ?_; refine pu_ (i := 18) (N := some 36) HT_ ?_; refine pu_ (i := 20) (N := some 38) HT_ ?_; refine pu_ (i := 21) (N := some 39) HT_ ?_; refine pu_ (i := 25) (N := some 43) HT_ ?_; refine pu_ (i := 27) (N := some 45) HT_ ?_; refine pu_ (i := 28) (N := some 46) HT_ ?_; refine tk_ (i := 17) (N := some 35) HT_ HW_ hHeld ?_; refine tk_ (i := 19) (N := some 37) HT_ HW_ hHeld ?_; refine pu_ (i := 22) (N := some 40) HT_ ?_; refine pu_ (i := 23) (N := some 41) HT_ ?_; refine tk_ (i := 24) (N := some 42) HT_ HW_ hHeld ?_; refine tk_ (i := 26) (N := some 44) HT_ HW_ hHeld ?_; refine pu_ (i := 29) (N := some 47) HT_ ?_; refine pu_ (i := 30) (N := some 48) HT_ ?_; refine tk_ (i := 31) (N := some 49) HT_ HW_ hHeld ?_; refine pu_ (i := 32) (N := some 50) HT_ ?_; refine pu_ (i := 33) (N := some 51) HT_ ?_; refine pu_ (i := 34) (N := some 52) HT_ ?_; refine pu_ (i := 35) (N := some 53) HT_ ?_; refine pu_ (i := 36) (N := some 54) HT_ ?_; refine pu_ (i := 38) (N := some 56) HT_ ?_; refine pu_ (i := 39) (N := some 57) HT_ ?_; refine tk_ (i := 37) (N := some 55) HT_ HW_ hHeld ?_; refine pu_ (i := 40) (N := some 58) HT_ ?_; refine pu_ (i := 41) (N := some 59) HT_ ?_; refine tk_ (i := 42) (N := some 60) HT_ HW_ hHeld ?_; refine pu_ (i := 43) (N := some 61) HT_ ?_; refine pu_ (i := 44) (N := some 62) HT_ ?_; refine pu_ (i := 45) (N := some 63) HT_ ?_; refine pu_ (i := 46) (N := some 64) HT_ ?_
             refine done_ (done_of HT_.out (by kernel_rfl)) ?_
             try go_wp2
             first | go_meet | ((try simp only [← hji16]); go_meet)
             case rel => exact ⟨_, (!((rd_T28 l0_0 (ji16)).f6)), (by first | rfl | (simp; done) | (simp only [← hji16] <;> (first | rfl | simp)) | (simp [*]; done)), H', ⟨by have := HK1.out; first | omega | exact Nat.le_refl _⟩, ⟨by refine kb_ ?_; exact BK181.out⟩, ⟨by refine kb_ ?_; exact BK184.out⟩, ⟨hbA_ HB.out⟩⟩
           ·rw [if_neg c18] at H
            exact absurd H (by simp)
          ·rw [if_neg c17] at H
           exact absurd H (by simp)
         ·rw [if_neg c15] at H
          have c15b0 : decide (0 < x4_1) = false := decide_eq_false c15
          clear c15
          have H' := Aside0.mk H
          clear H
          try go_wp2
          obtain ⟨w28, h_w28⟩ : ∃ w_, (((((((((w7.setCell ⟨gb184, 0, none⟩ (.int .i64 ((rd_T28 l0_0 x4_1).f0))).setCell ⟨gb184, 1, none⟩ (.int .i64 ((rd_T28 l0_0 x4_1).f1))).setCell ⟨gb184, 2, none⟩ (.int .i64 ((rd_T28 l0_0 x4_1).f2))).setCell ⟨gb184, 3, none⟩ (.int .i64 ((rd_T28 l0_0 x4_1).f3))).setCell ⟨gb184, 4, none⟩ (.int .i64 ((rd_T28 l0_0 x4_1).f4))).setCell ⟨gb184, 5, none⟩ (.int .i64 ((rd_T28 l0_0 x4_1).f5))).setCell ⟨gb184, 6, none⟩ (.bool ((rd_T28 l0_0 x4_1).f6))).setCell ⟨gb184, 7, none⟩ (.bool ((rd_T28 l0_0 x4_1).f7))).setCell ⟨gb184, 8, none⟩ (.slice A183_8 ((rd_T28 l0_0 x4_1).f8).length c183_8)) = w_ := ⟨_, rfl⟩
          have n0_ : Aside0 (w28.heap[gb181]? = some (.cells #[.slice (some ad183) l0_0.length c0_0, .int .i64 a0_1] 25 (0, 0))) := ⟨by subst h_w28; exact kf_ BK181.out⟩
          have n1_ : Aside0 (w28.heap[gb184]? = some (.cells #[.int .i64 ((rd_T28 l0_0 x4_1).f0), .int .i64 ((rd_T28 l0_0 x4_1).f1), .int .i64 ((rd_T28 l0_0 x4_1).f2), .int .i64 ((rd_T28 l0_0 x4_1).f3), .int .i64 ((rd_T28 l0_0 x4_1).f4), .int .i64 ((rd_T28 l0_0 x4_1).f5), .bool ((rd_T28 l0_0 x4_1).f6), .bool ((rd_T28 l0_0 x4_1).f7), .slice A183_8 ((rd_T28 l0_0 x4_1).f8).length c183_8] 28 (0, 0))) := ⟨by subst h_w28; refine kb_ ?_; refine pz9 (cs := #[.int .i64 0, .int .i64 0, .int .i64 0, .int .i64 0, .int .i64 0, .int .i64 0, .bool false, .bool false, .slice none 0 0]) ?_; refine kb_ ?_; exact BK184.out⟩
          have n2_ : Aside0 (Below w.heap.size w w28) := ⟨by subst h_w28; exact hbA_ HB.out⟩
          (try clear BK181); (try clear BK184); (try clear HB)
          (try rw [h_w28]); clear h_w28
          have BK181 := n0_; have BK184 := n1_; have HB := n2_; clear n0_ n1_ n2_; replace BK181 := Aside0.mk (blk_drew BK181.out); replace BK184 := Aside0.mk (blk_drew BK184.out); replace HB := (bd_ HB)
          have p186 : 0 ≤ (0 : Int) := (by omega)
          have q186 : 0 < (l0_0.length : Int) := of_decide_eq_true (by first | (with_reducible assumption) | assumption)
          obtain ⟨ad186, A186_8, c186_8, e186, hx186_0, hx186_1, hx186_2, hx186_3, hx186_4, hx186_5, hx186_6, hx186_7, hx186_8, hl186_8, hi186_8⟩ := at_T28 HR0_0.out 0 p186 q186
          (try simp only [show ((0 : Int)).toNat = 0 from rfl, show 0 * 9 = 0 from rfl, Addr.add_zero'] at hx186_0 hx186_1 hx186_2 hx186_3 hx186_4 hx186_5 hx186_6 hx186_7 hx186_8); have hw186_8 := hx186_8; have hw186_7 := hx186_7; have hw186_6 := hx186_6; have hw186_5 := hx186_5; have hw186_4 := hx186_4; have hw186_3 := hx186_3; have hw186_2 := hx186_2; have hw186_1 := hx186_1; have hw186_0 := hx186_0
          obtain rfl : ad183 = ad186 := (by injection e186)
          have qi186 : (0 < l0_0.length) = True := eq_true (by omega)
          replace hx186_0 := cc_ HB hx186_0
          replace hx186_1 := cc_ HB hx186_1
          replace hx186_2 := cc_ HB hx186_2
          replace hx186_3 := cc_ HB hx186_3
          replace hx186_4 := cc_ HB hx186_4
          replace hx186_5 := cc_ HB hx186_5
          replace hx186_6 := cc_ HB hx186_6
          replace hx186_7 := cc_ HB hx186_7
          replace hx186_8 := cc_ HB hx186_8
          have HR186_8 := Aside0.mk hi186_8; have HC186_8 := Aside0.mk hl186_8; clear hi186_8 hl186_8
          replace p186 := eq_true p186
          replace q186 := eq_true q186
          refine start_ (n := 47) (S := fun w' => w'.cell? ⟨gb184, 0, none⟩ = some (.int .i64 ((rd_T28 l0_0 x4_1).f0)) ∧ w'.cell? ⟨gb184, 1, none⟩ = some (.int .i64 ((rd_T28 l0_0 x4_1).f1)) ∧ w'.cell? ⟨gb184, 2, none⟩ = some (.int .i64 ((rd_T28 l0_0 x4_1).f2)) ∧ w'.cell? ⟨gb184, 3, none⟩ = some (.int .i64 ((rd_T28 l0_0 x4_1).f3)) ∧ w'.cell? ⟨gb184, 4, none⟩ = some (.int .i64 ((rd_T28 l0_0 x4_1).f4)) ∧ w'.cell? ⟨gb184, 5, none⟩ = some (.int .i64 ((rd_T28 l0_0 x4_1).f5)) ∧ w'.cell? ⟨gb184, 6, none⟩ = some (.bool ((rd_T28 l0_0 x4_1).f6)) ∧ w'.cell? ⟨gb184, 7, none⟩ = some (.bool ((rd_T28 l0_0 x4_1).f7)) ∧ w'.cell? ⟨gb184, 8, none⟩ = some (.slice A183_8 ((rd_T28 l0_0 x4_1).f8).length c183_8) ∧ w'.cell? ⟨gb181, 0, none⟩ = some (.slice (some ad183) l0_0.length c0_0) ∧ w'.cell? ⟨gb181, 1, none⟩ = some (.int .i64 a0_1) ∧ w'.cell? ad183 = some (.int .i64 ((rd_T28 l0_0 0).f0)) ∧ w'.cell? ⟨ad183.block, ad183.off + 1, none⟩ = some (.int .i64 ((rd_T28 l0_0 0).f1)) ∧ w'.cell? ⟨ad183.block, ad183.off + 2, none⟩ = some (.int .i64 ((rd_T28 l0_0 0).f2)) ∧ w'.cell? ⟨ad183.block, ad183.off + 3, none⟩ = some (.int .i64 ((rd_T28 l0_0 0).f3)) ∧ w'.cell? ⟨ad183.block, ad183.off + 4, none⟩ = some (.int .i64 ((rd_T28 l0_0 0).f4)) ∧ w'.cell? ⟨ad183.block, ad183.off + 5, none⟩ = some (.int .i64 ((rd_T28 l0_0 0).f5)) ∧ w'.cell? ⟨ad183.block, ad183.off + 6, none⟩ = some (.bool ((rd_T28 l0_0 0).f6)) ∧ w'.cell? ⟨ad183.block, ad183.off + 7, none⟩ = some (.bool ((rd_T28 l0_0 0).f7)) ∧ w'.cell? ⟨ad183.block, ad183.off + 8, none⟩ = some (.slice A186_8 ((rd_T28 l0_0 0).f8).length c186_8)) (ds := []) #[false, false, false, false, false, false, false, false, false, false, false, false, false, false, false, false, false, false, false, false, false, false, false, false, false, false, false, false, false, false, false, false, false, false, false, false, false, false, false, false, false, false, false, false, false, false, false] (by kernel_rfl) rfl rfl ⟨bc_ BK184 0, bc_ BK184 1, bc_ BK184 2, bc_ BK184 3, bc_ BK184 4, bc_ BK184 5, bc_ BK184 6, bc_ BK184 7, bc_ BK184 8, bc_ BK181 0, bc_ BK181 1, (cc_ HB hw186_0), (cc_ HB hw186_1), (cc_ HB hw186_2), (cc_ HB hw186_3), (cc_ HB hw186_4), (cc_ HB hw186_5), (cc_ HB hw186_6), (cc_ HB hw186_7), (cc_ HB hw186_8)⟩ (fun hHeld => ?_); refine with_tabW spec_PartOk.tab6 spec_PartOk.bits6 (fun HT_ HW_ => ?_)
          generalize w28.drew = w29 at BK181 BK184 HB HR186_8 hx186_0 hx186_1 hx186_2 hx186_3 hx186_4 hx186_5 hx186_6 hx186_7 hx186_8 hHeld ⊢
          refine tk_ (i := 0) (N := some 18) HT_ HW_ hHeld ?_
          refine on_ (i := 1) (N := some 19) HT_ (fun K hK => ?_)
          refine goes_ Try.func77 (by kernel_rfl) rfl #[.agg #[.int .i64 ((rd_T28 l0_0 x4_1).f0), .int .i64 ((rd_T28 l0_0 x4_1).f1), .int .i64 ((rd_T28 l0_0 x4_1).f2), .int .i64 ((rd_T28 l0_0 x4_1).f3), .int .i64 ((rd_T28 l0_0 x4_1).f4), .int .i64 ((rd_T28 l0_0 x4_1).f5), .bool ((rd_T28 l0_0 x4_1).f6), .bool ((rd_T28 l0_0 x4_1).f7), .slice A183_8 ((rd_T28 l0_0 x4_1).f8).length c183_8]] (by rfl) rfl rfl ar_ ?_
          with_reducible refine (spec_PacketOk.calls k1 ((rd_T28 l0_0 x4_1).f0) ((rd_T28 l0_0 x4_1).f1) ((rd_T28 l0_0 x4_1).f2) ((rd_T28 l0_0 x4_1).f3) ((rd_T28 l0_0 x4_1).f4) ((rd_T28 l0_0 x4_1).f5) ((rd_T28 l0_0 x4_1).f6) ((rd_T28 l0_0 x4_1).f7) _ _ ((rd_T28 l0_0 x4_1).f8) true _ ?side1 ?side2 A10.out).mono ?_
          (case side1 => exact kC_ (Kd.C_below HR183_8.out HB.out))
          (case side2 => exact HC183_8.out)
          rintro e w30 ⟨rfl, hb⟩
          refine ⟨_, rfl, ?_⟩
          replace BK181 := (bbA_ BK181 hb); replace BK184 := (bbA_ BK184 hb); replace HB := (bs_ HB hb); (try clear hb); (try clear hb2); (try clear hk); (try clear hi)
          refine hK.out _ _ ⟨bc_ BK184 0, bc_ BK184 1, bc_ BK184 2, bc_ BK184 3, bc_ BK184 4, bc_ BK184 5, bc_ BK184 6, bc_ BK184 7, bc_ BK184 8, bc_ BK181 0, bc_ BK181 1, (cc_ HB hw186_0), (cc_ HB hw186_1), (cc_ HB hw186_2), (cc_ HB hw186_3), (cc_ HB hw186_4), (cc_ HB hw186_5), (cc_ HB hw186_6), (cc_ HB hw186_7), (cc_ HB hw186_8)⟩ (fun hHeld => ?_)
          clear hK K; refine nm_ 19 ?_; refine pu_ (i := 2) (N := some 20) HT_ ?_; refine pu_ (i := 3) (N := some 21) HT_ ?_; refine pu_ (i := 5) (N := some 23) HT_ ?_; refine tk_ (i := 4) (N := some 22) HT_ HW_ hHeld ?_; refine tk_ (i := 6) (N := some 24) HT_ HW_ hHeld ?_; refine pu_ (i := 7) (N := some 25) HT_ ?_; refine tk_ (i := 8) (N := some 26) HT_ HW_ hHeld ?_
          refine on_ (i := 9) (N := some 27) HT_ (fun K hK => ?_)
          refine goes_ Try.func83 (by kernel_rfl) rfl #[.agg #[.int .i64 ((rd_T28 l0_0 x4_1).f0), .int .i64 ((rd_T28 l0_0 x4_1).f1), .int .i64 ((rd_T28 l0_0 x4_1).f2), .int .i64 ((rd_T28 l0_0 x4_1).f3), .int .i64 ((rd_T28 l0_0 x4_1).f4), .int .i64 ((rd_T28 l0_0 x4_1).f5), .bool ((rd_T28 l0_0 x4_1).f6), .bool ((rd_T28 l0_0 x4_1).f7), .slice A183_8 ((rd_T28 l0_0 x4_1).f8).length c183_8], .agg #[.int .i64 ((rd_T28 l0_0 0).f0), .int .i64 ((rd_T28 l0_0 0).f1), .int .i64 ((rd_T28 l0_0 0).f2), .int .i64 ((rd_T28 l0_0 0).f3), .int .i64 ((rd_T28 l0_0 0).f4), .int .i64 ((rd_T28 l0_0 0).f5), .bool ((rd_T28 l0_0 0).f6), .bool ((rd_T28 l0_0 0).f7), .slice A186_8 ((rd_T28 l0_0 0).f8).length c186_8]] (by rfl) rfl rfl ar_ ?_
          with_reducible refine (spec_l5Same.calls ((rd_T28 l0_0 x4_1).f0) ((rd_T28 l0_0 x4_1).f1) ((rd_T28 l0_0 x4_1).f2) ((rd_T28 l0_0 x4_1).f3) ((rd_T28 l0_0 x4_1).f4) ((rd_T28 l0_0 x4_1).f5) ((rd_T28 l0_0 x4_1).f6) ((rd_T28 l0_0 x4_1).f7) _ _ ((rd_T28 l0_0 x4_1).f8) ((rd_T28 l0_0 0).f0) ((rd_T28 l0_0 0).f1) ((rd_T28 l0_0 0).f2) ((rd_T28 l0_0 0).f3) ((rd_T28 l0_0 0).f4) ((rd_T28 l0_0 0).f5) ((rd_T28 l0_0 0).f6) ((rd_T28 l0_0 0).f7) _ _ ((rd_T28 l0_0 0).f8) true _ ?side1 ?side2 ?side3 ?side4 A13.out).mono ?_
          (case side1 => exact kC_ (Kd.C_below HR183_8.out HB.out))
          (case side2 => exact HC183_8.out)
          (case side3 => exact kC_ (Kd.C_below HR186_8.out HB.out))
          (case side4 => exact HC186_8.out)
          rintro e w31 ⟨rfl, hb⟩
          refine ⟨_, rfl, ?_⟩
          replace BK181 := (bbA_ BK181 hb); replace BK184 := (bbA_ BK184 hb); replace HB := (bs_ HB hb); (try clear hb); (try clear hb2); (try clear hk); (try clear hi)
          refine hK.out _ _ ⟨bc_ BK184 0, bc_ BK184 1, bc_ BK184 2, bc_ BK184 3, bc_ BK184 4, bc_ BK184 5, bc_ BK184 6, bc_ BK184 7, bc_ BK184 8, bc_ BK181 0, bc_ BK181 1, (cc_ HB hw186_0), (cc_ HB hw186_1), (cc_ HB hw186_2), (cc_ HB hw186_3), (cc_ HB hw186_4), (cc_ HB hw186_5), (cc_ HB hw186_6), (cc_ HB hw186_7), (cc_ HB hw186_8)⟩ (fun hHeld => ?_)
          clear hK K; refine nm_ 27 ?_; refine pu_ (i := 10) (N := some 28) HT_ ?_; refine pu_ (i := 11) (N := some 29) HT_ ?_; refine pu_ (i := 12) (N := some 30) HT_ ?_; refine pu_ (i := 13) (N := some 31) HT_ ?_; refine pu_ (i := 14) (N := some 32) HT_ ?_; refine pu_ (i := 15) (N := some 33) HT_ ?_; refine pn_ (i := 16) (N := some 34) HT_ ?_; refine pn_ (i := 17) (N := some 35) HT_ ?_; refine pn_ (i := 18) (N := some 36) HT_ ?_; refine pn_ (i := 19) (N := some 37) HT_ ?_; refine pn_ (i := 20) (N := some 38) HT_ ?_; refine pn_ (i := 21) (N := some 39) HT_ ?_; refine pn_ (i := 22) (N := some 40) HT_ ?_; refine pn_ (i := 23) (N := some 41) HT_ ?_; refine pn_ (i := 24) (N := some 42) HT_ ?_; refine pn_ (i := 25) (N := some 43) HT_ ?_; refine pn_ (i := 26) (N := some 44) HT_ ?_; refine pn_ (i := 27) (N := some 45) HT_ ?_; refine pn_ (i := 28) (N := some 46) HT_ ?_; refine pn_ (i := 29) (N := some 47) HT_ ?_; refine pn_ (i := 30) (N := some 48) HT_ ?_; refine pn_ (i := 31) (N := some 49) HT_ ?_; refine pn_ (i := 32) (N := some 50) HT_ ?_; refine pn_ (i := 33) (N := some 51) HT_ ?_; refine pn_ (i := 34) (N := some 52) HT_ ?_; refine pn_ (i := 35) (N := some 53) HT_ ?_; refine pn_ (i := 36) (N := some 54) HT_ ?_; refine pn_ (i := 37) (N := some 55) HT_ ?_; refine pn_ (i := 38) (N := some 56) HT_ ?_; refine pn_ (i := 39) (N := some 57) HT_ ?_; refine pn_ (i := 40) (N := some 58) HT_ ?_; refine pn_ (i := 41) (N := some 59) HT_ ?_; refine pn_ (i := 42) (N := some 60) HT_ ?_; refine pn_ (i := 43) (N := some 61) HT_ ?_; refine pn_ (i := 44) (N := some 62) HT_ ?_; refine pu_ (i := 45) (N := some 63) HT_ ?_; refine pu_ (i := 46) (N := some 64) HT_ ?_
          refine done_ (done_of HT_.out (by kernel_rfl)) ?_
          try go_wp2
          go_meet
          case rel => exact ⟨_, (false), (by first | rfl | (simp; done) | (simp [*]; done)), H', ⟨by have := HK1.out; first | omega | exact Nat.le_refl _⟩, ⟨by refine kb_ ?_; exact BK181.out⟩, ⟨by refine kb_ ?_; exact BK184.out⟩, ⟨hbA_ HB.out⟩⟩
        ·replace c14 := Bool.eq_false_iff.mpr c14
         subst c14
         rw [if_neg (show ¬ (false = true) by decide)] at H
         have H' := Aside0.mk H
         clear H
         try go_wp2
         obtain ⟨w32, h_w32⟩ : ∃ w_, (((((((((w7.setCell ⟨gb184, 0, none⟩ (.int .i64 ((rd_T28 l0_0 x4_1).f0))).setCell ⟨gb184, 1, none⟩ (.int .i64 ((rd_T28 l0_0 x4_1).f1))).setCell ⟨gb184, 2, none⟩ (.int .i64 ((rd_T28 l0_0 x4_1).f2))).setCell ⟨gb184, 3, none⟩ (.int .i64 ((rd_T28 l0_0 x4_1).f3))).setCell ⟨gb184, 4, none⟩ (.int .i64 ((rd_T28 l0_0 x4_1).f4))).setCell ⟨gb184, 5, none⟩ (.int .i64 ((rd_T28 l0_0 x4_1).f5))).setCell ⟨gb184, 6, none⟩ (.bool ((rd_T28 l0_0 x4_1).f6))).setCell ⟨gb184, 7, none⟩ (.bool ((rd_T28 l0_0 x4_1).f7))).setCell ⟨gb184, 8, none⟩ (.slice A183_8 ((rd_T28 l0_0 x4_1).f8).length c183_8)) = w_ := ⟨_, rfl⟩
         have n0_ : Aside0 (w32.heap[gb181]? = some (.cells #[.slice (some ad183) l0_0.length c0_0, .int .i64 a0_1] 25 (0, 0))) := ⟨by subst h_w32; exact kf_ BK181.out⟩
         have n1_ : Aside0 (w32.heap[gb184]? = some (.cells #[.int .i64 ((rd_T28 l0_0 x4_1).f0), .int .i64 ((rd_T28 l0_0 x4_1).f1), .int .i64 ((rd_T28 l0_0 x4_1).f2), .int .i64 ((rd_T28 l0_0 x4_1).f3), .int .i64 ((rd_T28 l0_0 x4_1).f4), .int .i64 ((rd_T28 l0_0 x4_1).f5), .bool ((rd_T28 l0_0 x4_1).f6), .bool ((rd_T28 l0_0 x4_1).f7), .slice A183_8 ((rd_T28 l0_0 x4_1).f8).length c183_8] 28 (0, 0))) := ⟨by subst h_w32; refine kb_ ?_; refine pz9 (cs := #[.int .i64 0, .int .i64 0, .int .i64 0, .int .i64 0, .int .i64 0, .int .i64 0, .bool false, .bool false, .slice none 0 0]) ?_; refine kb_ ?_; exact BK184.out⟩
         have n2_ : Aside0 (Below w.heap.size w w32) := ⟨by subst h_w32; exact hbA_ HB.out⟩
         (try clear BK181); (try clear BK184); (try clear HB)
         (try rw [h_w32]); clear h_w32
         have BK181 := n0_; have BK184 := n1_; have HB := n2_; clear n0_ n1_ n2_; replace BK181 := Aside0.mk (blk_drew BK181.out); replace BK184 := Aside0.mk (blk_drew BK184.out); replace HB := (bd_ HB)
         have p186 : 0 ≤ (0 : Int) := (by omega)
         have q186 : 0 < (l0_0.length : Int) := of_decide_eq_true (by first | (with_reducible assumption) | assumption)
         obtain ⟨ad186, A186_8, c186_8, e186, hx186_0, hx186_1, hx186_2, hx186_3, hx186_4, hx186_5, hx186_6, hx186_7, hx186_8, hl186_8, hi186_8⟩ := at_T28 HR0_0.out 0 p186 q186
         (try simp only [show ((0 : Int)).toNat = 0 from rfl, show 0 * 9 = 0 from rfl, Addr.add_zero'] at hx186_0 hx186_1 hx186_2 hx186_3 hx186_4 hx186_5 hx186_6 hx186_7 hx186_8); have hw186_8 := hx186_8; have hw186_7 := hx186_7; have hw186_6 := hx186_6; have hw186_5 := hx186_5; have hw186_4 := hx186_4; have hw186_3 := hx186_3; have hw186_2 := hx186_2; have hw186_1 := hx186_1; have hw186_0 := hx186_0
         obtain rfl : ad183 = ad186 := (by injection e186)
         have qi186 : (0 < l0_0.length) = True := eq_true (by omega)
         replace hx186_0 := cc_ HB hx186_0
         replace hx186_1 := cc_ HB hx186_1
         replace hx186_2 := cc_ HB hx186_2
         replace hx186_3 := cc_ HB hx186_3
         replace hx186_4 := cc_ HB hx186_4
         replace hx186_5 := cc_ HB hx186_5
         replace hx186_6 := cc_ HB hx186_6
         replace hx186_7 := cc_ HB hx186_7
         replace hx186_8 := cc_ HB hx186_8
         have HR186_8 := Aside0.mk hi186_8; have HC186_8 := Aside0.mk hl186_8; clear hi186_8 hl186_8
         replace p186 := eq_true p186
         replace q186 := eq_true q186
         refine start_ (n := 47) (S := fun w' => w'.cell? ⟨gb184, 0, none⟩ = some (.int .i64 ((rd_T28 l0_0 x4_1).f0)) ∧ w'.cell? ⟨gb184, 1, none⟩ = some (.int .i64 ((rd_T28 l0_0 x4_1).f1)) ∧ w'.cell? ⟨gb184, 2, none⟩ = some (.int .i64 ((rd_T28 l0_0 x4_1).f2)) ∧ w'.cell? ⟨gb184, 3, none⟩ = some (.int .i64 ((rd_T28 l0_0 x4_1).f3)) ∧ w'.cell? ⟨gb184, 4, none⟩ = some (.int .i64 ((rd_T28 l0_0 x4_1).f4)) ∧ w'.cell? ⟨gb184, 5, none⟩ = some (.int .i64 ((rd_T28 l0_0 x4_1).f5)) ∧ w'.cell? ⟨gb184, 6, none⟩ = some (.bool ((rd_T28 l0_0 x4_1).f6)) ∧ w'.cell? ⟨gb184, 7, none⟩ = some (.bool ((rd_T28 l0_0 x4_1).f7)) ∧ w'.cell? ⟨gb184, 8, none⟩ = some (.slice A183_8 ((rd_T28 l0_0 x4_1).f8).length c183_8) ∧ w'.cell? ⟨gb181, 0, none⟩ = some (.slice (some ad183) l0_0.length c0_0) ∧ w'.cell? ⟨gb181, 1, none⟩ = some (.int .i64 a0_1) ∧ w'.cell? ad183 = some (.int .i64 ((rd_T28 l0_0 0).f0)) ∧ w'.cell? ⟨ad183.block, ad183.off + 1, none⟩ = some (.int .i64 ((rd_T28 l0_0 0).f1)) ∧ w'.cell? ⟨ad183.block, ad183.off + 2, none⟩ = some (.int .i64 ((rd_T28 l0_0 0).f2)) ∧ w'.cell? ⟨ad183.block, ad183.off + 3, none⟩ = some (.int .i64 ((rd_T28 l0_0 0).f3)) ∧ w'.cell? ⟨ad183.block, ad183.off + 4, none⟩ = some (.int .i64 ((rd_T28 l0_0 0).f4)) ∧ w'.cell? ⟨ad183.block, ad183.off + 5, none⟩ = some (.int .i64 ((rd_T28 l0_0 0).f5)) ∧ w'.cell? ⟨ad183.block, ad183.off + 6, none⟩ = some (.bool ((rd_T28 l0_0 0).f6)) ∧ w'.cell? ⟨ad183.block, ad183.off + 7, none⟩ = some (.bool ((rd_T28 l0_0 0).f7)) ∧ w'.cell? ⟨ad183.block, ad183.off + 8, none⟩ = some (.slice A186_8 ((rd_T28 l0_0 0).f8).length c186_8)) (ds := []) #[false, false, false, false, false, false, false, false, false, false, false, false, false, false, false, false, false, false, false, false, false, false, false, false, false, false, false, false, false, false, false, false, false, false, false, false, false, false, false, false, false, false, false, false, false, false, false] (by kernel_rfl) rfl rfl ⟨bc_ BK184 0, bc_ BK184 1, bc_ BK184 2, bc_ BK184 3, bc_ BK184 4, bc_ BK184 5, bc_ BK184 6, bc_ BK184 7, bc_ BK184 8, bc_ BK181 0, bc_ BK181 1, (cc_ HB hw186_0), (cc_ HB hw186_1), (cc_ HB hw186_2), (cc_ HB hw186_3), (cc_ HB hw186_4), (cc_ HB hw186_5), (cc_ HB hw186_6), (cc_ HB hw186_7), (cc_ HB hw186_8)⟩ (fun hHeld => ?_); refine with_tabW spec_PartOk.tab6 spec_PartOk.bits6 (fun HT_ HW_ => ?_)
         generalize w32.drew = w33 at BK181 BK184 HB HR186_8 hx186_0 hx186_1 hx186_2 hx186_3 hx186_4 hx186_5 hx186_6 hx186_7 hx186_8 hHeld ⊢
         refine tk_ (i := 0) (N := some 18) HT_ HW_ hHeld ?_
         refine on_ (i := 1) (N := some 19) HT_ (fun K hK => ?_)
         refine goes_ Try.func77 (by kernel_rfl) rfl #[.agg #[.int .i64 ((rd_T28 l0_0 x4_1).f0), .int .i64 ((rd_T28 l0_0 x4_1).f1), .int .i64 ((rd_T28 l0_0 x4_1).f2), .int .i64 ((rd_T28 l0_0 x4_1).f3), .int .i64 ((rd_T28 l0_0 x4_1).f4), .int .i64 ((rd_T28 l0_0 x4_1).f5), .bool ((rd_T28 l0_0 x4_1).f6), .bool ((rd_T28 l0_0 x4_1).f7), .slice A183_8 ((rd_T28 l0_0 x4_1).f8).length c183_8]] (by rfl) rfl rfl ar_ ?_
         with_reducible refine (spec_PacketOk.calls k1 ((rd_T28 l0_0 x4_1).f0) ((rd_T28 l0_0 x4_1).f1) ((rd_T28 l0_0 x4_1).f2) ((rd_T28 l0_0 x4_1).f3) ((rd_T28 l0_0 x4_1).f4) ((rd_T28 l0_0 x4_1).f5) ((rd_T28 l0_0 x4_1).f6) ((rd_T28 l0_0 x4_1).f7) _ _ ((rd_T28 l0_0 x4_1).f8) true _ ?side1 ?side2 A10.out).mono ?_
         (case side1 => exact kC_ (Kd.C_below HR183_8.out HB.out))
         (case side2 => exact HC183_8.out)
         rintro e w34 ⟨rfl, hb⟩
         refine ⟨_, rfl, ?_⟩
         replace BK181 := (bbA_ BK181 hb); replace BK184 := (bbA_ BK184 hb); replace HB := (bs_ HB hb); (try clear hb); (try clear hb2); (try clear hk); (try clear hi)
         refine hK.out _ _ ⟨bc_ BK184 0, bc_ BK184 1, bc_ BK184 2, bc_ BK184 3, bc_ BK184 4, bc_ BK184 5, bc_ BK184 6, bc_ BK184 7, bc_ BK184 8, bc_ BK181 0, bc_ BK181 1, (cc_ HB hw186_0), (cc_ HB hw186_1), (cc_ HB hw186_2), (cc_ HB hw186_3), (cc_ HB hw186_4), (cc_ HB hw186_5), (cc_ HB hw186_6), (cc_ HB hw186_7), (cc_ HB hw186_8)⟩ (fun hHeld => ?_)
         clear hK K; refine nm_ 19 ?_; refine pu_ (i := 2) (N := some 20) HT_ ?_; refine pu_ (i := 3) (N := some 21) HT_ ?_; refine pu_ (i := 5) (N := some 23) HT_ ?_; refine tk_ (i := 4) (N := some 22) HT_ HW_ hHeld ?_; refine tk_ (i := 6) (N := some 24) HT_ HW_ hHeld ?_; refine pu_ (i := 7) (N := some 25) HT_ ?_; refine tk_ (i := 8) (N := some 26) HT_ HW_ hHeld ?_
         refine on_ (i := 9) (N := some 27) HT_ (fun K hK => ?_)
         refine goes_ Try.func83 (by kernel_rfl) rfl #[.agg #[.int .i64 ((rd_T28 l0_0 x4_1).f0), .int .i64 ((rd_T28 l0_0 x4_1).f1), .int .i64 ((rd_T28 l0_0 x4_1).f2), .int .i64 ((rd_T28 l0_0 x4_1).f3), .int .i64 ((rd_T28 l0_0 x4_1).f4), .int .i64 ((rd_T28 l0_0 x4_1).f5), .bool ((rd_T28 l0_0 x4_1).f6), .bool ((rd_T28 l0_0 x4_1).f7), .slice A183_8 ((rd_T28 l0_0 x4_1).f8).length c183_8], .agg #[.int .i64 ((rd_T28 l0_0 0).f0), .int .i64 ((rd_T28 l0_0 0).f1), .int .i64 ((rd_T28 l0_0 0).f2), .int .i64 ((rd_T28 l0_0 0).f3), .int .i64 ((rd_T28 l0_0 0).f4), .int .i64 ((rd_T28 l0_0 0).f5), .bool ((rd_T28 l0_0 0).f6), .bool ((rd_T28 l0_0 0).f7), .slice A186_8 ((rd_T28 l0_0 0).f8).length c186_8]] (by rfl) rfl rfl ar_ ?_
         with_reducible refine (spec_l5Same.calls ((rd_T28 l0_0 x4_1).f0) ((rd_T28 l0_0 x4_1).f1) ((rd_T28 l0_0 x4_1).f2) ((rd_T28 l0_0 x4_1).f3) ((rd_T28 l0_0 x4_1).f4) ((rd_T28 l0_0 x4_1).f5) ((rd_T28 l0_0 x4_1).f6) ((rd_T28 l0_0 x4_1).f7) _ _ ((rd_T28 l0_0 x4_1).f8) ((rd_T28 l0_0 0).f0) ((rd_T28 l0_0 0).f1) ((rd_T28 l0_0 0).f2) ((rd_T28 l0_0 0).f3) ((rd_T28 l0_0 0).f4) ((rd_T28 l0_0 0).f5) ((rd_T28 l0_0 0).f6) ((rd_T28 l0_0 0).f7) _ _ ((rd_T28 l0_0 0).f8) false _ ?side1 ?side2 ?side3 ?side4 A13.out).mono ?_
         (case side1 => exact kC_ (Kd.C_below HR183_8.out HB.out))
         (case side2 => exact HC183_8.out)
         (case side3 => exact kC_ (Kd.C_below HR186_8.out HB.out))
         (case side4 => exact HC186_8.out)
         rintro e w35 ⟨rfl, hb⟩
         refine ⟨_, rfl, ?_⟩
         replace BK181 := (bbA_ BK181 hb); replace BK184 := (bbA_ BK184 hb); replace HB := (bs_ HB hb); (try clear hb); (try clear hb2); (try clear hk); (try clear hi)
         refine hK.out _ _ ⟨bc_ BK184 0, bc_ BK184 1, bc_ BK184 2, bc_ BK184 3, bc_ BK184 4, bc_ BK184 5, bc_ BK184 6, bc_ BK184 7, bc_ BK184 8, bc_ BK181 0, bc_ BK181 1, (cc_ HB hw186_0), (cc_ HB hw186_1), (cc_ HB hw186_2), (cc_ HB hw186_3), (cc_ HB hw186_4), (cc_ HB hw186_5), (cc_ HB hw186_6), (cc_ HB hw186_7), (cc_ HB hw186_8)⟩ (fun hHeld => ?_)
         clear hK K; refine nm_ 27 ?_; refine pu_ (i := 10) (N := some 28) HT_ ?_; refine pu_ (i := 11) (N := some 29) HT_ ?_; refine pu_ (i := 12) (N := some 30) HT_ ?_; refine pn_ (i := 13) (N := some 31) HT_ ?_; refine pn_ (i := 14) (N := some 32) HT_ ?_; refine pn_ (i := 15) (N := some 33) HT_ ?_; refine pn_ (i := 16) (N := some 34) HT_ ?_; refine pn_ (i := 17) (N := some 35) HT_ ?_; refine pn_ (i := 18) (N := some 36) HT_ ?_; refine pn_ (i := 19) (N := some 37) HT_ ?_; refine pn_ (i := 20) (N := some 38) HT_ ?_; refine pn_ (i := 21) (N := some 39) HT_ ?_; refine pn_ (i := 22) (N := some 40) HT_ ?_; refine pn_ (i := 23) (N := some 41) HT_ ?_; refine pn_ (i := 24) (N := some 42) HT_ ?_; refine pn_ (i := 25) (N := some 43) HT_ ?_; refine pn_ (i := 26) (N := some 44) HT_ ?_; refine pn_ (i := 27) (N := some 45) HT_ ?_; refine pn_ (i := 28) (N := some 46) HT_ ?_; refine pn_ (i := 29) (N := some 47) HT_ ?_; refine pn_ (i := 30) (N := some 48) HT_ ?_; refine pn_ (i := 31) (N := some 49) HT_ ?_; refine pn_ (i := 32) (N := some 50) HT_ ?_; refine pn_ (i := 33) (N := some 51) HT_ ?_; refine pn_ (i := 34) (N := some 52) HT_ ?_; refine pn_ (i := 35) (N := some 53) HT_ ?_; refine pn_ (i := 36) (N := some 54) HT_ ?_; refine pn_ (i := 37) (N := some 55) HT_ ?_; refine pn_ (i := 38) (N := some 56) HT_ ?_; refine pn_ (i := 39) (N := some 57) HT_ ?_; refine pn_ (i := 40) (N := some 58) HT_ ?_; refine pn_ (i := 41) (N := some 59) HT_ ?_; refine pn_ (i := 42) (N := some 60) HT_ ?_; refine pn_ (i := 43) (N := some 61) HT_ ?_; refine pn_ (i := 44) (N := some 62) HT_ ?_; refine pn_ (i := 45) (N := some 63) HT_ ?_; refine pu_ (i := 46) (N := some 64) HT_ ?_
         refine done_ (done_of HT_.out (by kernel_rfl)) ?_
         try go_wp2
         go_meet
         case rel => exact ⟨_, (true), (by first | rfl | (simp; done) | (simp [*]; done)), H', ⟨by have := HK1.out; first | omega | exact Nat.le_refl _⟩, ⟨by refine kb_ ?_; exact BK181.out⟩, ⟨by refine kb_ ?_; exact BK184.out⟩, ⟨hbA_ HB.out⟩⟩
       ·rw [if_neg c12] at H
        exact absurd H (by simp)
      ·replace c11 := Bool.eq_false_iff.mpr c11
       subst c11
       rw [if_neg (show ¬ (false = true) by decide)] at H
       have H' := Aside0.mk H
       clear H
       try go_wp2
       obtain ⟨w36, h_w36⟩ : ∃ w_, (((((((((w7.setCell ⟨gb184, 0, none⟩ (.int .i64 ((rd_T28 l0_0 x4_1).f0))).setCell ⟨gb184, 1, none⟩ (.int .i64 ((rd_T28 l0_0 x4_1).f1))).setCell ⟨gb184, 2, none⟩ (.int .i64 ((rd_T28 l0_0 x4_1).f2))).setCell ⟨gb184, 3, none⟩ (.int .i64 ((rd_T28 l0_0 x4_1).f3))).setCell ⟨gb184, 4, none⟩ (.int .i64 ((rd_T28 l0_0 x4_1).f4))).setCell ⟨gb184, 5, none⟩ (.int .i64 ((rd_T28 l0_0 x4_1).f5))).setCell ⟨gb184, 6, none⟩ (.bool ((rd_T28 l0_0 x4_1).f6))).setCell ⟨gb184, 7, none⟩ (.bool ((rd_T28 l0_0 x4_1).f7))).setCell ⟨gb184, 8, none⟩ (.slice A183_8 ((rd_T28 l0_0 x4_1).f8).length c183_8)) = w_ := ⟨_, rfl⟩
       have n0_ : Aside0 (w36.heap[gb181]? = some (.cells #[.slice (some ad183) l0_0.length c0_0, .int .i64 a0_1] 25 (0, 0))) := ⟨by subst h_w36; exact kf_ BK181.out⟩
       have n1_ : Aside0 (w36.heap[gb184]? = some (.cells #[.int .i64 ((rd_T28 l0_0 x4_1).f0), .int .i64 ((rd_T28 l0_0 x4_1).f1), .int .i64 ((rd_T28 l0_0 x4_1).f2), .int .i64 ((rd_T28 l0_0 x4_1).f3), .int .i64 ((rd_T28 l0_0 x4_1).f4), .int .i64 ((rd_T28 l0_0 x4_1).f5), .bool ((rd_T28 l0_0 x4_1).f6), .bool ((rd_T28 l0_0 x4_1).f7), .slice A183_8 ((rd_T28 l0_0 x4_1).f8).length c183_8] 28 (0, 0))) := ⟨by subst h_w36; refine kb_ ?_; refine pz9 (cs := #[.int .i64 0, .int .i64 0, .int .i64 0, .int .i64 0, .int .i64 0, .int .i64 0, .bool false, .bool false, .slice none 0 0]) ?_; refine kb_ ?_; exact BK184.out⟩
       have n2_ : Aside0 (Below w.heap.size w w36) := ⟨by subst h_w36; exact hbA_ HB.out⟩
       (try clear BK181); (try clear BK184); (try clear HB)
       (try rw [h_w36]); clear h_w36
       have BK181 := n0_; have BK184 := n1_; have HB := n2_; clear n0_ n1_ n2_; replace BK181 := Aside0.mk (blk_drew BK181.out); replace BK184 := Aside0.mk (blk_drew BK184.out); replace HB := (bd_ HB)
       refine start_ (n := 47) (S := fun w' => w'.cell? ⟨gb184, 0, none⟩ = some (.int .i64 ((rd_T28 l0_0 x4_1).f0)) ∧ w'.cell? ⟨gb184, 1, none⟩ = some (.int .i64 ((rd_T28 l0_0 x4_1).f1)) ∧ w'.cell? ⟨gb184, 2, none⟩ = some (.int .i64 ((rd_T28 l0_0 x4_1).f2)) ∧ w'.cell? ⟨gb184, 3, none⟩ = some (.int .i64 ((rd_T28 l0_0 x4_1).f3)) ∧ w'.cell? ⟨gb184, 4, none⟩ = some (.int .i64 ((rd_T28 l0_0 x4_1).f4)) ∧ w'.cell? ⟨gb184, 5, none⟩ = some (.int .i64 ((rd_T28 l0_0 x4_1).f5)) ∧ w'.cell? ⟨gb184, 6, none⟩ = some (.bool ((rd_T28 l0_0 x4_1).f6)) ∧ w'.cell? ⟨gb184, 7, none⟩ = some (.bool ((rd_T28 l0_0 x4_1).f7)) ∧ w'.cell? ⟨gb184, 8, none⟩ = some (.slice A183_8 ((rd_T28 l0_0 x4_1).f8).length c183_8)) (ds := []) #[false, false, false, false, false, false, false, false, false, false, false, false, false, false, false, false, false, false, false, false, false, false, false, false, false, false, false, false, false, false, false, false, false, false, false, false, false, false, false, false, false, false, false, false, false, false, false] (by kernel_rfl) rfl rfl (cz9 BK184.out) (fun hHeld => ?_); refine with_tabW spec_PartOk.tab6 spec_PartOk.bits6 (fun HT_ HW_ => ?_)
       generalize w36.drew = w37 at BK181 BK184 HB hHeld ⊢
       refine tk_ (i := 0) (N := some 18) HT_ HW_ hHeld ?_
       refine on_ (i := 1) (N := some 19) HT_ (fun K hK => ?_)
       refine goes_ Try.func77 (by kernel_rfl) rfl #[.agg #[.int .i64 ((rd_T28 l0_0 x4_1).f0), .int .i64 ((rd_T28 l0_0 x4_1).f1), .int .i64 ((rd_T28 l0_0 x4_1).f2), .int .i64 ((rd_T28 l0_0 x4_1).f3), .int .i64 ((rd_T28 l0_0 x4_1).f4), .int .i64 ((rd_T28 l0_0 x4_1).f5), .bool ((rd_T28 l0_0 x4_1).f6), .bool ((rd_T28 l0_0 x4_1).f7), .slice A183_8 ((rd_T28 l0_0 x4_1).f8).length c183_8]] (by rfl) rfl rfl ar_ ?_
       with_reducible refine (spec_PacketOk.calls k1 ((rd_T28 l0_0 x4_1).f0) ((rd_T28 l0_0 x4_1).f1) ((rd_T28 l0_0 x4_1).f2) ((rd_T28 l0_0 x4_1).f3) ((rd_T28 l0_0 x4_1).f4) ((rd_T28 l0_0 x4_1).f5) ((rd_T28 l0_0 x4_1).f6) ((rd_T28 l0_0 x4_1).f7) _ _ ((rd_T28 l0_0 x4_1).f8) false _ ?side1 ?side2 A10.out).mono ?_
       (case side1 => exact kC_ (Kd.C_below HR183_8.out HB.out))
       (case side2 => exact HC183_8.out)
       rintro e w38 ⟨rfl, hb⟩
       refine ⟨_, rfl, ?_⟩
       replace BK181 := (bbA_ BK181 hb); replace BK184 := (bbA_ BK184 hb); replace HB := (bs_ HB hb); (try clear hb); (try clear hb2); (try clear hk); (try clear hi)
       refine hK.out _ _ (cz9 BK184.out) (fun hHeld => ?_)
       clear hK K; refine nm_ 19 ?_; refine pu_ (i := 2) (N := some 20) HT_ ?_; refine pu_ (i := 3) (N := some 21) HT_ ?_; refine pn_ (i := 4) (N := some 22) HT_ ?_; refine pn_ (i := 5) (N := some 23) HT_ ?_; refine pn_ (i := 6) (N := some 24) HT_ ?_; refine pn_ (i := 7) (N := some 25) HT_ ?_; refine pn_ (i := 8) (N := some 26) HT_ ?_; refine pn_ (i := 9) (N := some 27) HT_ ?_; refine pn_ (i := 10) (N := some 28) HT_ ?_; refine pu_ (i := 11) (N := some 29) HT_ ?_; refine pu_ (i := 12) (N := some 30) HT_ ?_; refine pn_ (i := 13) (N := some 31) HT_ ?_; refine pn_ (i := 14) (N := some 32) HT_ ?_; refine pn_ (i := 15) (N := some 33) HT_ ?_; refine pn_ (i := 16) (N := some 34) HT_ ?_; refine pn_ (i := 17) (N := some 35) HT_ ?_; refine pn_ (i := 18) (N := some 36) HT_ ?_; refine pn_ (i := 19) (N := some 37) HT_ ?_; refine pn_ (i := 20) (N := some 38) HT_ ?_; refine pn_ (i := 21) (N := some 39) HT_ ?_; refine pn_ (i := 22) (N := some 40) HT_ ?_; refine pn_ (i := 23) (N := some 41) HT_ ?_; refine pn_ (i := 24) (N := some 42) HT_ ?_; refine pn_ (i := 25) (N := some 43) HT_ ?_; refine pn_ (i := 26) (N := some 44) HT_ ?_; refine pn_ (i := 27) (N := some 45) HT_ ?_; refine pn_ (i := 28) (N := some 46) HT_ ?_; refine pn_ (i := 29) (N := some 47) HT_ ?_; refine pn_ (i := 30) (N := some 48) HT_ ?_; refine pn_ (i := 31) (N := some 49) HT_ ?_; refine pn_ (i := 32) (N := some 50) HT_ ?_; refine pn_ (i := 33) (N := some 51) HT_ ?_; refine pn_ (i := 34) (N := some 52) HT_ ?_; refine pn_ (i := 35) (N := some 53) HT_ ?_; refine pn_ (i := 36) (N := some 54) HT_ ?_; refine pn_ (i := 37) (N := some 55) HT_ ?_; refine pn_ (i := 38) (N := some 56) HT_ ?_; refine pn_ (i := 39) (N := some 57) HT_ ?_; refine pn_ (i := 40) (N := some 58) HT_ ?_; refine pn_ (i := 41) (N := some 59) HT_ ?_; refine pn_ (i := 42) (N := some 60) HT_ ?_; refine pn_ (i := 43) (N := some 61) HT_ ?_; refine pn_ (i := 44) (N := some 62) HT_ ?_; refine pn_ (i := 45) (N := some 63) HT_ ?_; refine pu_ (i := 46) (N := some 64) HT_ ?_
       refine done_ (done_of HT_.out (by kernel_rfl)) ?_
       try go_wp2
       go_meet
       case rel => exact ⟨_, (true), (by first | rfl | (simp; done) | (simp [*]; done)), H', ⟨by have := HK1.out; first | omega | exact Nat.le_refl _⟩, ⟨by refine kb_ ?_; exact BK181.out⟩, ⟨by refine kb_ ?_; exact BK184.out⟩, ⟨hbA_ HB.out⟩⟩
     case rest =>
      clear HC5; (try clear c1); (try clear p1); (try clear q1); (try clear hx1); (try clear p2); (try clear c7); (try clear c8); (try clear c11); (try clear c12); (try clear c18); (try clear p18); (try clear q18); (try clear hx18); (try clear hx186_0); (try clear hx186_1); (try clear hx186_2); (try clear hx186_3); (try clear hx186_4); (try clear hx186_5); (try clear hx186_6); (try clear hx186_7); (try clear hx186_8); (try clear p186); (try clear q186)
      obtain ⟨kq, x64_4, rfl, HA, HJ4, BK181, BK184, HB⟩ := hcut
      cases kq with
      | zero => exact absurd HA.out (by simp [spec_PartOk.j1])
      | succ kj4 =>
       have H := HA.out; clear HA
       simp only [spec_PartOk.j1] at H
       by_cases c39 : x64_4 = true
       ·subst c39
        rw [if_pos rfl] at H
        obtain rfl := Option.some.inj H
        go_wp2
        go_ret
        exact ⟨by first | rfl | (simp [errW_none, errW_some] <;> rfl) | (simp [*, errW_none, errW_some] <;> rfl), hbA_ HB.out⟩
       ·replace c39 := Bool.eq_false_iff.mpr c39
        subst c39
        rw [if_neg (show ¬ (false = true) by decide)] at H
        have H' := Aside0.mk H
        clear H; have hnb40 := NB184_181.out; have hnc40 := NB181_184.out; have Z41 := zz9 BK184
        go_wp2
        go_roundg kj4
        case measure => have := HK1.out; have := HJ4.out; omega
        case rel => exact ⟨(wrap64 (x3_1 + (((rd_T28 l0_0 x4_1).f8).length : Int))), (wrap64 (x4_1 + 1)), (by first | rfl | (simp; done) | (simp [*]; done)), (by first | rfl | (simp; done) | (simp [*]; done)), H', ⟨by have := HK1.out; have := HJ4.out; omega⟩, ⟨by refine kb_ ?_; exact BK181.out⟩, ⟨hbA_ HB.out⟩⟩
    ·rw [if_neg c4] at H
     exact absurd H (by simp)
   ·rw [if_neg c3] at H
    have c3b0 : decide (x4_1 < (l0_0.length : Int)) = false := decide_eq_false c3
    clear c3
    by_cases c42 : (l0_0.length : Int) > 0
    ·rw [if_pos c42] at H
     have c42b0 : decide (0 < (l0_0.length : Int)) = true := decide_eq_true c42
     have c42b1 : decide (0 < l0_0.length) = true := decide_eq_true (by omega)
     clear c42
     by_cases c43 : x3_1 ≤ 48
     ·rw [if_pos c43] at H
      have c43b0 : decide (x3_1 ≤ 48) = true := decide_eq_true c43
      clear c43
      replace H := Option.bind_eq_some_iff.mp H
      obtain ⟨t182, A440, H⟩ := H
      (try dsimp only at H)
      have A44 := Aside0.mk A440; clear A440
      obtain rfl := Option.some.inj H
      have Z45 := zz2 BK181
      go_wp2_with (first | (go_at_call 52; (with_reducible refine (spec_l1In.calls a0_1 0 1000000 t182 _ A44.out).mono ?_); rintro e w' ⟨rfl, ⟨nd, rfl⟩⟩))
      go_ret
      exact ⟨by first | rfl | (simp [errW_none, errW_some] <;> rfl) | (simp [*, errW_none, errW_some] <;> rfl), hbA_ HB.out⟩
     ·rw [if_neg c43] at H
      have c43b0 : decide (x3_1 ≤ 48) = false := decide_eq_false c43
      clear c43
      obtain rfl := Option.some.inj H
      have Z46 := zz2 BK181
      go_wp2
      go_ret
      exact ⟨by first | rfl | (simp [errW_none, errW_some] <;> rfl) | (simp [*, errW_none, errW_some] <;> rfl), hbA_ HB.out⟩
    ·rw [if_neg c42] at H
     have c42b0 : decide (0 < (l0_0.length : Int)) = false := decide_eq_false c42
     have c42b1 : decide (0 < l0_0.length) = false := decide_eq_false (by omega)
     clear c42
     obtain rfl := Option.some.inj H
     have Z47 := zz2 BK181
     go_wp2
     go_ret
     exact ⟨by first | rfl | (simp [errW_none, errW_some] <;> rfl) | (simp [*, errW_none, errW_some] <;> rfl), hbA_ HB.out⟩
mutual
def spec_PartWhole.j0 : Nat → Bool → List (S28) → Int → Option (Int × Int × Int × Int × Int × Int × Bool × Bool × List Int × Bool)
 | 0, _, _, _ => none
 | k + 1, x19, x192000, x192001 => if x19 = true then (some (0, 0, 0, 0, 0, 0, false, false, ([] : List Int), false)) else (if 0 < (x192000.length : Int) then (spec_PartWhole.l0 k 0 x192000 x192001 ((rd_T28 x192000 0).f0) ((rd_T28 x192000 0).f1) ((rd_T28 x192000 0).f2) ((rd_T28 x192000 0).f3) ((rd_T28 x192000 0).f4) ((rd_T28 x192000 0).f5) false ((rd_T28 x192000 0).f7) (([] : List Int))) else (none))
def spec_PartWhole.l0 : Nat → Int → List (S28) → Int → Int → Int → Int → Int → Int → Int → Bool → Bool → List Int → Option (Int × Int × Int × Int × Int × Int × Bool × Bool × List Int × Bool)
 | 0, _, _, _, _, _, _, _, _, _, _, _, _ => none
 | k + 1, x5, x192000, x192001, x197000, x197001, x197002, x197003, x197004, x197005, x197006, x197007, x197008 => if x5 < (x192000.length : Int) then (if 0 ≤ x5 then (if ((rd_T28 x192000 x5).f5) = (x197008.length : Int) then (if x197008.length + ((rd_T28 x192000 x5).f8).length < 140737488355328 then (spec_PartWhole.l0 k (wrap64 (x5 + 1)) x192000 x192001 x197000 x197001 x197002 x197003 x197004 x197005 x197006 x197007 (x197008 ++ ((rd_T28 x192000 x5).f8))) else (none)) else (some (0, 0, 0, 0, 0, 0, false, false, ([] : List Int), false))) else (none)) else (some (x197000, x197001, x197002, x197003, x197004, x197005, x197006, x197007, x197008, true))
end
def spec_PartWhole.f (k : Nat) (l0_0 : List (S28)) (a0_1 : Int) : Option (Int × Int × Int × Int × Int × Int × Bool × Bool × List Int × Bool) := (spec_PartOk.f k l0_0 a0_1).bind fun t193 => (if t193 = true then (if 0 ≤ (wrap64 ((l0_0.length : Int) - 1)) then (if (wrap64 ((l0_0.length : Int) - 1)) < (l0_0.length : Int) then (spec_PartWhole.j0 k ((rd_T28 l0_0 (wrap64 ((l0_0.length : Int) - 1))).f6) l0_0 a0_1) else (none)) else (none)) else (spec_PartWhole.j0 k true l0_0 a0_1))
theorem spec_PartWhole.mono_l : ∀ k, (∀ y0 y1 y2, LeO (spec_PartWhole.j0 k y0 y1 y2) (spec_PartWhole.j0 (k + 1) y0 y1 y2)) ∧ (∀ y0 y1 y2 y3 y4 y5 y6 y7 y8 y9 y10 y11, LeO (spec_PartWhole.l0 k y0 y1 y2 y3 y4 y5 y6 y7 y8 y9 y10 y11) (spec_PartWhole.l0 (k + 1) y0 y1 y2 y3 y4 y5 y6 y7 y8 y9 y10 y11))
 | 0 => ⟨fun _ _ _ r h => by simp [spec_PartWhole.j0] at h, fun _ _ _ _ _ _ _ _ _ _ _ _ r h => by simp [spec_PartWhole.l0] at h⟩
 | k + 1 => by
  obtain ⟨ih0, ih1⟩ := spec_PartWhole.mono_l k
  refine ⟨?_, ?_⟩
  ·intro y0 y1 y2
   unfold spec_PartWhole.j0
   repeat' first | (with_reducible first | apply ih0 | apply ih1 | apply spec_PartOk.mono | exact LeO.refl _ | exact LeO.none _ | refine LeO.ite ?_ ?_ | refine LeO.bind ?_ fun _ => ?_) | apply ih0 | apply ih1 | apply spec_PartOk.mono | exact LeO.none _ | refine LeO.ite ?_ ?_ | refine LeO.bind ?_ fun _ => ?_
  ·intro y0 y1 y2 y3 y4 y5 y6 y7 y8 y9 y10 y11
   unfold spec_PartWhole.l0
   repeat' first | (with_reducible first | apply ih0 | apply ih1 | apply spec_PartOk.mono | exact LeO.refl _ | exact LeO.none _ | refine LeO.ite ?_ ?_ | refine LeO.bind ?_ fun _ => ?_) | apply ih0 | apply ih1 | apply spec_PartOk.mono | exact LeO.none _ | refine LeO.ite ?_ ?_ | refine LeO.bind ?_ fun _ => ?_
theorem spec_PartWhole.mono : ∀ a0 a1 k, LeO (spec_PartWhole.f k a0 a1) (spec_PartWhole.f (k + 1) a0 a1) := by
 intro a0 a1 k
 obtain ⟨ih0, ih1⟩ := spec_PartWhole.mono_l k
 unfold spec_PartWhole.f
 repeat' first | (with_reducible first | apply ih0 | apply ih1 | apply spec_PartOk.mono | exact LeO.refl _ | exact LeO.none _ | refine LeO.ite ?_ ?_ | refine LeO.bind ?_ fun _ => ?_) | apply ih0 | apply ih1 | apply spec_PartOk.mono | exact LeO.none _ | refine LeO.ite ?_ ?_ | refine LeO.bind ?_ fun _ => ?_
def spec_PartWhole.T9 : Bool × List (List Nat × List Nat) := (true, [([], []), ([0], [0]), ([], []), ([1, 2], [1, 2]), ([3], [3]), ([4], [4]), ([], []), ([6], [6]), ([7], [7]), ([5, 8], [5, 8])])
def spec_PartWhole.B9 : List Nat := [0, 1, 0, 7, 15, 31, 0, 64, 192, 511]
theorem spec_PartWhole.tab9 : rtab .any (opsOf Try.f11 9) = spec_PartWhole.T9 := by kernel_rfl
theorem spec_PartWhole.bits9 : waitsOk spec_PartWhole.T9.2 spec_PartWhole.B9 = true := by kernel_rfl
def spec_PartWhole.T11 : Bool × List (List Nat × List Nat) := (true, [([], []), ([0], [0]), ([], []), ([2], [2]), ([], []), ([3, 4], [3, 4]), ([5], [5]), ([6], [6]), ([1, 7], [1, 7]), ([0, 1, 2, 3, 4, 5, 6, 7, 8], []), ([9, 8, 8, 0, 1, 2, 3, 4, 5, 6, 7, 8], [8, 9])])
def spec_PartWhole.B11 : List Nat := [0, 1, 0, 4, 0, 28, 60, 124, 255, 511, 1023]
theorem spec_PartWhole.tab11 : rtab .any (opsOf Try.f11 11) = spec_PartWhole.T11 := by kernel_rfl
theorem spec_PartWhole.bits11 : waitsOk spec_PartWhole.T11.2 spec_PartWhole.B11 = true := by kernel_rfl
set_option maxHeartbeats 8000000 in
set_option maxRecDepth 100000 in
theorem spec_PartWhole.calls (k : Nat) (A0_0 : Option Addr) (c0_0 : Nat) (l0_0 : List (S28)) (a0_1 : Int) (r1 : Int) (r2 : Int) (r3 : Int) (r4 : Int) (r5 : Int) (r6 : Int) (r7 : Bool) (r8 : Bool) (r9 : List Int) (r10 : Bool) (w : World) (hr0_0 : Kd.C k28 w A0_0 l0_0.length l0_0) (hc0_0 : l0_0.length ≤ c0_0) (h : spec_PartWhole.f k l0_0 a0_1 = some (r1, r2, r3, r4, r5, r6, r7, r8, r9, r10)) :
  Calls Try.prog 11 #[.agg #[.slice A0_0 l0_0.length c0_0, .int .i64 a0_1]] w fun e w' => ∃ v8_ : Value, e = .returned (.tuple #[.agg #[.int .i64 r1, .int .i64 r2, .int .i64 r3, .int .i64 r4, .int .i64 r5, .int .i64 r6, .bool r7, .bool r8, v8_], .bool r10]) ∧ Kd.R (Kd.int .u8) 5 w' w.heap.size (fun _ => True) v8_ r9 ∧ Below w.heap.size w w' := by
 have hu25 := Try.underlying25; have hu28 := Try.underlying28; have HR0_0 := Aside0.mk hr0_0; have HC0_0 := Aside0.mk hc0_0; clear hr0_0 hc0_0
 have HB := Aside0.mk (Below.refl w.heap.size w)
 have H : ((spec_PartOk.f k l0_0 a0_1).bind fun t193 => (if t193 = true then (if 0 ≤ (wrap64 ((l0_0.length : Int) - 1)) then (if (wrap64 ((l0_0.length : Int) - 1)) < (l0_0.length : Int) then (spec_PartWhole.j0 k ((rd_T28 l0_0 (wrap64 ((l0_0.length : Int) - 1))).f6) l0_0 a0_1) else (none)) else (none)) else (spec_PartWhole.j0 k true l0_0 a0_1))) = some (r1, r2, r3, r4, r5, r6, r7, r8, r9, r10) := h
 clear h; have HC2 := Aside0.mk H; clear H
 go_enter Try.func11, Try.ntmps11
 go_upto_region 1 with (first | ((with_reducible refine gate_dst (N := 1) rfl ?_); (try (refine gate_guard (by rfl) ?_; dsimp only)); refine box_ (N := 1) (cs := #[.slice A0_0 l0_0.length c0_0, .int .i64 a0_1]) (t := 25) (fun gb191 hg w3 hbox hb => ?_); have BK191 := Aside0.mk (hbox); have GW191 := ge_ hg HB; have GE191 := ge_ hg HB; replace HB := (bs_ HB hb); clear hb hbox hg) | ((with_reducible refine gate_dst (N := 2) rfl ?_); (try (refine gate_guard (by rfl) ?_; dsimp only)); refine box_ (N := 2) (cs := #[.int .i64 0, .int .i64 0, .int .i64 0, .int .i64 0, .int .i64 0, .int .i64 0, .bool false, .bool false, .slice none 0 0]) (t := 28) (fun gb192 hg w4 hbox hb => ?_); have BK192 := Aside0.mk (hbox); have GW192 := ge_ hg HB; have GE192 := ge_ hg HB; replace HB := (bs_ HB hb); have NB191_192 := nl_ hg BK191; have NB192_191 := ng_ hg BK191; replace BK191 := (bbA_ BK191 hb); clear hb hbox hg))
 (try simp only [Act.put, List.setIfInBounds_toArray, List.set_cons_zero, List.set_cons_succ])
 go_cut [19] (fun v19 wc => ∃ (kq : Nat) (x19_1 : Bool), v19 = .bool x19_1 ∧ Aside0 (spec_PartWhole.j0 kq x19_1 l0_0 a0_1 = some (r1, r2, r3, r4, r5, r6, r7, r8, r9, r10)) ∧ Aside0 (kq ≤ k) ∧ Aside0 (wc.heap[gb191]? = some (.cells #[(.slice A0_0 l0_0.length c0_0), .int .i64 a0_1] 25 (0, 0))) ∧ Aside0 (wc.heap[gb192]? = some (.cells #[.int .i64 0, .int .i64 0, .int .i64 0, .int .i64 0, .int .i64 0, .int .i64 0, .bool false, .bool false, (.slice none 0 0)] 28 (0, 0))) ∧ Aside0 (Below w.heap.size w wc))
 case first =>
  have H := HC2.out; clear HC2
  replace H := Option.bind_eq_some_iff.mp H
  obtain ⟨t193, A50, H⟩ := H
  (try dsimp only at H)
  have A5 := Aside0.mk A50; clear A50
  by_cases c6 : t193 = true
  ·subst c6
   rw [if_pos rfl] at H
   obtain ⟨ji7, hji7⟩ : ∃ j_ : Int, (wrap64 ((l0_0.length : Int) - 1)) = j_ := ⟨_, rfl⟩
   (first | rw [hji7] at H | simp only [hji7] at H)
   (try rw [hji7] at A5)
   have hji7w : (IntKind.i64.wrap ((l0_0.length : Int) - 1)) = ji7 := (i64_w _).trans hji7
   by_cases c8 : 0 ≤ (ji7)
   ·rw [if_pos c8] at H
    have c8b0 : decide (0 ≤ (ji7)) = true := decide_eq_true c8
    clear c8
    (first | rw [c8b0] | (simp only [i64_w, i32_w]; rw [c8b0]) | skip)
    by_cases c9 : (ji7) < (l0_0.length : Int)
    ·rw [if_pos c9] at H
     have c9b0 : decide ((ji7) < (l0_0.length : Int)) = true := decide_eq_true c9
     clear c9
     have H' := Aside0.mk H
     clear H; have hnb10 := NB191_192.out; have hnc10 := NB192_191.out; have Z11 := zz2 BK191
     go_wp2_with (first | ((with_reducible refine gate_callee (f := 46) rfl ?_); refine goesL_ (some 7) rfl rfl Try.func46 (by kernel_rfl) rfl #[.agg #[.slice A0_0 l0_0.length c0_0, .int .i64 a0_1]] rfl ar_ ?_; (with_reducible refine (spec_PartOk.calls k _ _ l0_0 a0_1 true _ ?side1 ?side2 A5.out).mono ?_); (case side1 => exact kC_ (Kd.C_below HR0_0.out HB.out)); (case side2 => exact HC0_0.out); rintro e w12 ⟨rfl, hb⟩; refine ⟨_, rfl, ?_⟩; replace BK191 := (bbA_ BK191 hb); replace BK192 := (bbA_ BK192 hb); replace HB := (bs_ HB hb); (try clear hb); (try clear hb2); (try clear hk); (try clear hi); have Z13 := zz2 BK191; have p194 : 0 ≤ ((ji7) : Int) := of_decide_eq_true (by first | (with_reducible assumption) | assumption); have q194 : (ji7) < (l0_0.length : Int) := of_decide_eq_true (by first | (with_reducible assumption) | assumption); obtain ⟨ad194, A194_8, c194_8, e194, hx194_0, hx194_1, hx194_2, hx194_3, hx194_4, hx194_5, hx194_6, hx194_7, hx194_8, hl194_8, hi194_8⟩ := at_T28 HR0_0.out (ji7) p194 q194; cases e194; replace hx194_0 := cc_ HB hx194_0; replace hx194_1 := cc_ HB hx194_1; replace hx194_2 := cc_ HB hx194_2; replace hx194_3 := cc_ HB hx194_3; replace hx194_4 := cc_ HB hx194_4; replace hx194_5 := cc_ HB hx194_5; replace hx194_6 := cc_ HB hx194_6; replace hx194_7 := cc_ HB hx194_7; replace hx194_8 := cc_ HB hx194_8; have HR194_8 := Aside0.mk hi194_8; have HC194_8 := Aside0.mk hl194_8; clear hi194_8 hl194_8; replace p194 := eq_true p194; replace q194 := eq_true q194))
     first | go_meet | ((try simp only [← hji7]); go_meet)
     case rel => exact ⟨_, ((rd_T28 l0_0 (ji7)).f6), (by first | rfl | (simp; done) | (simp only [← hji7] <;> (first | rfl | simp)) | (simp [*]; done)), H', ⟨by first | omega | exact Nat.le_refl _⟩, ⟨by refine kb_ ?_; exact BK191.out⟩, ⟨by refine kb_ ?_; exact BK192.out⟩, ⟨hbA_ HB.out⟩⟩
    ·rw [if_neg c9] at H
     exact absurd H (by simp)
   ·rw [if_neg c8] at H
    exact absurd H (by simp)
  ·replace c6 := Bool.eq_false_iff.mpr c6
   subst c6
   rw [if_neg (show ¬ (false = true) by decide)] at H
   have H' := Aside0.mk H
   clear H; have hnb14 := NB191_192.out; have hnc14 := NB192_191.out; have Z15 := zz2 BK191
   go_wp2_with (first | ((with_reducible refine gate_callee (f := 46) rfl ?_); refine goesL_ (some 7) rfl rfl Try.func46 (by kernel_rfl) rfl #[.agg #[.slice A0_0 l0_0.length c0_0, .int .i64 a0_1]] rfl ar_ ?_; (with_reducible refine (spec_PartOk.calls k _ _ l0_0 a0_1 false _ ?side1 ?side2 A5.out).mono ?_); (case side1 => exact kC_ (Kd.C_below HR0_0.out HB.out)); (case side2 => exact HC0_0.out); rintro e w16 ⟨rfl, hb⟩; refine ⟨_, rfl, ?_⟩; replace BK191 := (bbA_ BK191 hb); replace BK192 := (bbA_ BK192 hb); replace HB := (bs_ HB hb); (try clear hb); (try clear hb2); (try clear hk); (try clear hi)))
   go_meet
   case rel => exact ⟨_, (true), (by first | rfl | (simp; done) | (simp [*]; done)), H', ⟨by first | omega | exact Nat.le_refl _⟩, ⟨by refine kb_ ?_; exact BK191.out⟩, ⟨by refine kb_ ?_; exact BK192.out⟩, ⟨hbA_ HB.out⟩⟩
 case rest =>
  clear HC2; (try clear c1); (try clear p1); (try clear q1); (try clear hx1); (try clear p2); (try clear c4); (try clear c6); (try clear p6); (try clear c8); (try clear c8b0); (try clear c9); (try clear c9b0); (try clear c10); (try clear c11); (try clear c14); (try clear Z11); (try clear Z13); (try clear Z15); (try clear hx194_0); (try clear hx194_1); (try clear hx194_2); (try clear hx194_3); (try clear hx194_4); (try clear hx194_5); (try clear hx194_6); (try clear hx194_7); (try clear hx194_8); (try clear p194); (try clear q194)
  obtain ⟨kq, x19_1, rfl, HA, HJ1, BK191, BK192, HB⟩ := hcut
  cases kq with
  | zero => exact absurd HA.out (by simp [spec_PartWhole.j0])
  | succ kj1 =>
   have H := HA.out; clear HA
   simp only [spec_PartWhole.j0] at H
   by_cases c17 : x19_1 = true
   ·subst c17
    rw [if_pos rfl] at H
    simp only [Option.some.injEq, Prod.mk.injEq] at H
    obtain ⟨rfl, rfl, rfl, rfl, rfl, rfl, rfl, rfl, rfl, rfl⟩ := H
    have hnb18 := NB192_191.out; have hnc18 := NB191_192.out; have Z19 := zz9 BK192
    go_wp2
    refine bodyPost_ret (results_ct rfl _ _ gb192 28 #[.int .i64 0, .int .i64 0, .int .i64 0, .int .i64 0, .int .i64 0, .int .i64 0, .bool false, .bool false, .slice none 0 0] (0, 0) _ rfl (by refine kb_ ?_; refine pz9 (cs := #[.int .i64 0, .int .i64 0, .int .i64 0, .int .i64 0, .int .i64 0, .int .i64 0, .bool false, .bool false, .slice none 0 0]) ?_; refine kb_ ?_; exact BK192.out) Try.underlying28 rfl (by kernel_rfl)) rfl ?_
    exact ⟨_, by first | rfl | (simp [errW_none, errW_some] <;> rfl) | (simp [*, errW_none, errW_some] <;> rfl), by first | exact Kd.R_nil _ _ _ _ _ | exact Kd.N_nil _ _ _ _ _ | exact Kd.V_nil _ _ _ _ _ | exact Kd.Q_nil _ _ _ _ _ | exact Kd.S_nil _ _ _ _ _, hbA_ HB.out⟩
   ·replace c17 := Bool.eq_false_iff.mpr c17
    subst c17
    rw [if_neg (show ¬ (false = true) by decide)] at H
    by_cases c20 : 0 < (l0_0.length : Int)
    ·rw [if_pos c20] at H
     have c20b0 : decide (0 < (l0_0.length : Int)) = true := decide_eq_true c20
     have c20b1 : decide (0 < l0_0.length) = true := decide_eq_true (by omega)
     clear c20
     obtain ⟨y197, hy197⟩ : ∃ y_ : List Int, y_ = (([] : List Int)) := ⟨_, rfl⟩
     (first | replace H := sb_ hy197 H | rw [← hy197] at H)
     have Ny197 := Aside0.mk hy197; clear hy197
     have H' := Aside0.mk H
     clear H; have hnb21 := NB191_192.out; have hnc21 := NB192_191.out; have Z22 := zz2 BK191
     have p195 : 0 ≤ (0 : Int) := (by omega)
     have q195 : 0 < (l0_0.length : Int) := of_decide_eq_true (by first | (with_reducible assumption) | assumption)
     obtain ⟨ad195, A195_8, c195_8, e195, hx195_0, hx195_1, hx195_2, hx195_3, hx195_4, hx195_5, hx195_6, hx195_7, hx195_8, hl195_8, hi195_8⟩ := at_T28 HR0_0.out 0 p195 q195
     cases e195
     have qi195 : (0 < l0_0.length) = True := eq_true (by omega)
     (try rw [show ((0 : Int)).toNat = 0 from rfl] at hx195_0)
     (try rw [show 0 * 9 = 0 from rfl] at hx195_0)
     (try rw [Addr.add_zero'] at hx195_0)
     (try rw [show ((0 : Int)).toNat = 0 from rfl] at hx195_1)
     (try rw [show 0 * 9 = 0 from rfl] at hx195_1)
     (try rw [Addr.add_zero'] at hx195_1)
     (try rw [show ((0 : Int)).toNat = 0 from rfl] at hx195_2)
     (try rw [show 0 * 9 = 0 from rfl] at hx195_2)
     (try rw [Addr.add_zero'] at hx195_2)
     (try rw [show ((0 : Int)).toNat = 0 from rfl] at hx195_3)
     (try rw [show 0 * 9 = 0 from rfl] at hx195_3)
     (try rw [Addr.add_zero'] at hx195_3)
     (try rw [show ((0 : Int)).toNat = 0 from rfl] at hx195_4)
     (try rw [show 0 * 9 = 0 from rfl] at hx195_4)
     (try rw [Addr.add_zero'] at hx195_4)
     (try rw [show ((0 : Int)).toNat = 0 from rfl] at hx195_5)
     (try rw [show 0 * 9 = 0 from rfl] at hx195_5)
     (try rw [Addr.add_zero'] at hx195_5)
     (try rw [show ((0 : Int)).toNat = 0 from rfl] at hx195_6)
     (try rw [show 0 * 9 = 0 from rfl] at hx195_6)
     (try rw [Addr.add_zero'] at hx195_6)
     (try rw [show ((0 : Int)).toNat = 0 from rfl] at hx195_7)
     (try rw [show 0 * 9 = 0 from rfl] at hx195_7)
     (try rw [Addr.add_zero'] at hx195_7)
     (try rw [show ((0 : Int)).toNat = 0 from rfl] at hx195_8)
     (try rw [show 0 * 9 = 0 from rfl] at hx195_8)
     (try rw [Addr.add_zero'] at hx195_8)
     replace hx195_0 := cc_ HB hx195_0
     replace hx195_1 := cc_ HB hx195_1
     replace hx195_2 := cc_ HB hx195_2
     replace hx195_3 := cc_ HB hx195_3
     replace hx195_4 := cc_ HB hx195_4
     replace hx195_5 := cc_ HB hx195_5
     replace hx195_6 := cc_ HB hx195_6
     replace hx195_7 := cc_ HB hx195_7
     replace hx195_8 := cc_ HB hx195_8
     have HR195_8 := Aside0.mk hi195_8; have HC195_8 := Aside0.mk hl195_8; clear hi195_8 hl195_8
     replace p195 := eq_true p195
     replace q195 := eq_true q195
     go_wp2_with (first | ((with_reducible refine gate_dst (N := 4) rfl ?_); (try (refine gate_guard (by rfl) ?_; dsimp only)); refine box_ (N := 4) (cs := #[.int .i64 0, .int .i64 0, .int .i64 0, .int .i64 0, .int .i64 0, .int .i64 0, .bool false, .bool false, .slice none 0 0]) (t := 28) (fun gb196 hg w23 hbox hb => ?_); have BK196 := Aside0.mk (hbox); have GW196 := ge_ hg HB; have GE196 := ge_ hg HB; replace HB := (bs_ HB hb); have NB191_196 := nl_ hg BK191; have NB196_191 := ng_ hg BK191; replace BK191 := (bbA_ BK191 hb); have NB192_196 := nl_ hg BK192; have NB196_192 := ng_ hg BK192; replace BK192 := (bbA_ BK192 hb); clear hb hbox hg; have hnb24 := NB196_191.out; have hnc24 := NB191_196.out; have hnb25 := NB196_192.out; have hnc25 := NB192_196.out; have Z26 := zz9 BK196) | ((with_reducible refine gate_dst (N := 26) rfl ?_); (try (refine gate_guard (by rfl) ?_; dsimp only)); refine Kd.R_lit (Kd.int .u8) _ 5 ?hg (N := 26) ?hd (xs := ([] : List Int)) (inner := []) (ok := fun _ => True) (okp := fun _ => True) ?hr ?hp (fun _ hk => hk) trivial (Below.refl _ _) (Nat.le_refl _) (by simp) ?_; (case hd => rfl); (case hg => rfl); (case hr => first | (go_simp; done) | (go_simp; rfl)); (case hp => exact (Reps.none _ _)); intro v198 w27 ho28 hb hg_ hnew_; clear hg_ hnew_; (first | rw [← Ny197.out] at ho28 | (simp only [Int.reduceToNat] at ho28; rw [← Ny197.out] at ho28)); have HO199 := Aside0.mk (Kd.R_lower ho28 (below_size (hbA_ HB.out))); replace BK191 := Aside0.mk (blk_below (g := gb191) (o := .cells #[.slice (some ad195) l0_0.length c0_0, .int .i64 a0_1] 25 (0, 0)) (by exact kf_ BK191.out) hb); replace BK192 := Aside0.mk (blk_below (g := gb192) (o := .cells #[.int .i64 0, .int .i64 0, .int .i64 0, .int .i64 0, .int .i64 0, .int .i64 0, .bool false, .bool false, .slice none 0 0] 28 (0, 0)) (by exact kf_ BK192.out) hb); replace BK196 := Aside0.mk (blk_below (g := gb196) (o := .cells #[.int .i64 ((rd_T28 l0_0 0).f0), .int .i64 ((rd_T28 l0_0 0).f1), .int .i64 ((rd_T28 l0_0 0).f2), .int .i64 ((rd_T28 l0_0 0).f3), .int .i64 ((rd_T28 l0_0 0).f4), .int .i64 ((rd_T28 l0_0 0).f5), .bool false, .bool ((rd_T28 l0_0 0).f7), .slice A195_8 ((rd_T28 l0_0 0).f8).length c195_8] 28 (0, 0)) (by refine kb_ ?_; refine blk_put (cs := #[.int .i64 ((rd_T28 l0_0 0).f0), .int .i64 ((rd_T28 l0_0 0).f1), .int .i64 ((rd_T28 l0_0 0).f2), .int .i64 ((rd_T28 l0_0 0).f3), .int .i64 ((rd_T28 l0_0 0).f4), .int .i64 ((rd_T28 l0_0 0).f5), .bool ((rd_T28 l0_0 0).f6), .bool ((rd_T28 l0_0 0).f7), .slice A195_8 ((rd_T28 l0_0 0).f8).length c195_8]) ?_ 6 _ rfl; refine kb_ ?_; refine pz9 (cs := #[.int .i64 0, .int .i64 0, .int .i64 0, .int .i64 0, .int .i64 0, .int .i64 0, .bool false, .bool false, .slice none 0 0]) ?_; refine kb_ ?_; exact BK196.out) hb); replace HB := (bs_ HB hb); clear hb ho28; obtain ⟨Ao29, co29, eo29⟩ := Kd.R_slice HO199.out; subst eo29; have Z30 := zz9 BK196))
     go_loopg [5] kj1 (fun kq v5 w' => ∃ (x5_2 : Int) (x193000_2 : Int) (x193001_2 : Int) (x193002_2 : Int) (x193003_2 : Int) (x193004_2 : Int) (x193005_2 : Int) (x193006_2 : Bool) (x193007_2 : Bool) (x197008_2 : List Int) (u197008 : Value), v5 = .int .i64 x5_2 ∧ Aside0 (spec_PartWhole.l0 kq x5_2 l0_0 a0_1 ((rd_T28 l0_0 0).f0) ((rd_T28 l0_0 0).f1) ((rd_T28 l0_0 0).f2) ((rd_T28 l0_0 0).f3) ((rd_T28 l0_0 0).f4) ((rd_T28 l0_0 0).f5) false ((rd_T28 l0_0 0).f7) x197008_2 = some (r1, r2, r3, r4, r5, r6, r7, r8, r9, r10)) ∧ Aside0 (kq ≤ kj1) ∧ Aside0 (Kd.R (Kd.int .u8) 5 w' w.heap.size (fun _ => True) u197008 x197008_2) ∧ Aside0 (w'.heap[gb191]? = some (.cells #[(.slice (some ad195) l0_0.length c0_0), .int .i64 a0_1] 25 (0, 0))) ∧ Aside0 (w'.heap[gb192]? = some (.cells #[.int .i64 x193000_2, .int .i64 x193001_2, .int .i64 x193002_2, .int .i64 x193003_2, .int .i64 x193004_2, .int .i64 x193005_2, .bool x193006_2, .bool x193007_2, (.slice none 0 0)] 28 (0, 0))) ∧ Aside0 (w'.heap[gb196]? = some (.cells #[.int .i64 ((rd_T28 l0_0 0).f0), .int .i64 ((rd_T28 l0_0 0).f1), .int .i64 ((rd_T28 l0_0 0).f2), .int .i64 ((rd_T28 l0_0 0).f3), .int .i64 ((rd_T28 l0_0 0).f4), .int .i64 ((rd_T28 l0_0 0).f5), .bool false, .bool ((rd_T28 l0_0 0).f7), u197008] 28 (0, 0))) ∧ Aside0 (Below w.heap.size w w'))
     case atStart => exact ⟨(0), (0), (0), (0), (0), (0), (0), (false), (false), (y197), (.slice Ao29 y197.length co29), (by first | rfl | (simp; done) | (simp [*]; done)), H', ⟨Nat.le_refl _⟩, ⟨by refine kR_ ?_; exact Kd.R_mono (Kd.R_f gb196 8 (.slice Ao29 y197.length co29) (Kd.R_types HO199.out BK196.out (by decide))) (fun _ hk => trivial)⟩, ⟨by exact kf_ BK191.out⟩, ⟨by exact kf_ BK192.out⟩, ⟨by refine kb_ ?_; refine blk_put (cs := #[.int .i64 ((rd_T28 l0_0 0).f0), .int .i64 ((rd_T28 l0_0 0).f1), .int .i64 ((rd_T28 l0_0 0).f2), .int .i64 ((rd_T28 l0_0 0).f3), .int .i64 ((rd_T28 l0_0 0).f4), .int .i64 ((rd_T28 l0_0 0).f5), .bool false, .bool ((rd_T28 l0_0 0).f7), .slice A195_8 ((rd_T28 l0_0 0).f8).length c195_8]) ?_ 8 _ rfl; refine kb_ ?_; exact BK196.out⟩, ⟨hbA_ HB.out⟩⟩
     case round =>
      clear H'; (try clear c1); (try clear p1); (try clear q1); (try clear hx1); (try clear qi1); (try clear c2); (try clear p2); (try clear c4); (try clear c6); (try clear p6); (try clear c8); (try clear c8b0); (try clear c9); (try clear c9b0); (try clear c10); (try clear c11); (try clear c14); (try clear c17); (try clear c18); (try clear c19); (try clear p19); (try clear q19); (try clear hx19); (try clear qi19); (try clear c20); (try clear c20b0); (try clear c20b1); (try clear c21); (try clear c24); (try clear c25); (try clear Z11); (try clear Z13); (try clear Z15); (try clear Z19); (try clear Z22); (try clear Z26); (try clear Z30); (try clear hx194_0); (try clear hx194_1); (try clear hx194_2); (try clear hx194_3); (try clear hx194_4); (try clear hx194_5); (try clear hx194_6); (try clear hx194_7); (try clear hx194_8); (try clear hx195_0); (try clear hx195_1); (try clear hx195_2); (try clear hx195_3); (try clear hx195_4); (try clear hx195_5); (try clear hx195_6); (try clear hx195_7); (try clear hx195_8); (try clear p1); (try clear p194); (try clear p195); (try clear p2); (try clear p6); (try clear q1); (try clear q194); (try clear q195)
      obtain ⟨x5_2, x193000_2, x193001_2, x193002_2, x193003_2, x193004_2, x193005_2, x193006_2, x193007_2, x197008_2, u197008, rfl, HA, HK2, HO_197008, BK191, BK192, BK196, HB⟩ := hrel
      cases gk with
      | zero => exact absurd HA.out (by simp [spec_PartWhole.l0])
      | succ k2 =>
       have H := HA.out; clear HA
       simp only [spec_PartWhole.l0] at H
       by_cases c31 : x5_2 < (l0_0.length : Int)
       ·rw [if_pos c31] at H
        have c31b0 : decide (x5_2 < (l0_0.length : Int)) = true := decide_eq_true c31
        clear c31
        by_cases c32 : 0 ≤ x5_2
        ·rw [if_pos c32] at H
         have c32b0 : decide (0 ≤ x5_2) = true := decide_eq_true c32
         clear c32
         by_cases c33 : ((rd_T28 l0_0 x5_2).f5) = (x197008_2.length : Int)
         ·rw [if_pos c33] at H
          have c33b0 : (((rd_T28 l0_0 x5_2).f5) == (x197008_2.length : Int)) = true := beq_iff_eq.mpr c33
          have c33b1 : (((rd_T28 l0_0 x5_2).f5) != (x197008_2.length : Int)) = false := bne_eq_false_iff_eq.mpr c33
          clear c33
          by_cases c34 : x197008_2.length + ((rd_T28 l0_0 x5_2).f8).length < 140737488355328
          ·rw [if_pos c34] at H
           have LMc34 := Aside0.mk c34; clear c34
           obtain ⟨y202, hy202⟩ : ∃ y_ : List Int, y_ = (x197008_2 ++ ((rd_T28 l0_0 x5_2).f8)) := ⟨_, rfl⟩
           (first | replace H := sb_ hy202 H | rw [← hy202] at H)
           have Ny202 := Aside0.mk hy202; clear hy202
           have H' := Aside0.mk H
           clear H; have hnb35 := NB191_192.out; have hnc35 := NB192_191.out; have hnb36 := NB191_196.out; have hnc36 := NB196_191.out; have Z37 := zz2 BK191
           try go_wp2
           replace HO_197008 := Aside0.mk (Kd.R_drew HO_197008.out); replace BK191 := Aside0.mk (blk_drew BK191.out); replace BK192 := Aside0.mk (blk_drew BK192.out); replace BK196 := Aside0.mk (blk_drew BK196.out); replace HB := (bd_ HB)
           have p200 : 0 ≤ (x5_2 : Int) := of_decide_eq_true (by first | (with_reducible assumption) | assumption)
           have q200 : x5_2 < (l0_0.length : Int) := of_decide_eq_true (by first | (with_reducible assumption) | assumption)
           obtain ⟨ad200, A200_8, c200_8, e200, hx200_0, hx200_1, hx200_2, hx200_3, hx200_4, hx200_5, hx200_6, hx200_7, hx200_8, hl200_8, hi200_8⟩ := at_T28 HR0_0.out x5_2 p200 q200
           have hw200_8 := hx200_8; have hw200_7 := hx200_7; have hw200_6 := hx200_6; have hw200_5 := hx200_5; have hw200_4 := hx200_4; have hw200_3 := hx200_3; have hw200_2 := hx200_2; have hw200_1 := hx200_1; have hw200_0 := hx200_0
           obtain rfl : ad195 = ad200 := (by injection e200)
           replace hx200_0 := cc_ HB hx200_0
           replace hx200_1 := cc_ HB hx200_1
           replace hx200_2 := cc_ HB hx200_2
           replace hx200_3 := cc_ HB hx200_3
           replace hx200_4 := cc_ HB hx200_4
           replace hx200_5 := cc_ HB hx200_5
           replace hx200_6 := cc_ HB hx200_6
           replace hx200_7 := cc_ HB hx200_7
           replace hx200_8 := cc_ HB hx200_8
           have HR200_8 := Aside0.mk hi200_8; have HC200_8 := Aside0.mk hl200_8; clear hi200_8 hl200_8
           replace p200 := eq_true p200
           replace q200 := eq_true q200
           obtain ⟨Ao39, co39, eo39⟩ := Kd.R_slice HO_197008.out
           (first | subst eo39 | (injection eo39 with f1_ f2_ f3_; have f4_ := f1_.symm; have f5_ := f3_.symm; clear f1_ f2_ f3_; subst f4_; subst f5_))
           refine start_ (n := 10) (S := fun w' => w'.cell? ⟨gb191, 0, none⟩ = some (.slice (some ad195) l0_0.length c0_0) ∧ w'.cell? ⟨gb191, 1, none⟩ = some (.int .i64 a0_1) ∧ w'.cell? ⟨gb196, 0, none⟩ = some (.int .i64 ((rd_T28 l0_0 0).f0)) ∧ w'.cell? ⟨gb196, 1, none⟩ = some (.int .i64 ((rd_T28 l0_0 0).f1)) ∧ w'.cell? ⟨gb196, 2, none⟩ = some (.int .i64 ((rd_T28 l0_0 0).f2)) ∧ w'.cell? ⟨gb196, 3, none⟩ = some (.int .i64 ((rd_T28 l0_0 0).f3)) ∧ w'.cell? ⟨gb196, 4, none⟩ = some (.int .i64 ((rd_T28 l0_0 0).f4)) ∧ w'.cell? ⟨gb196, 5, none⟩ = some (.int .i64 ((rd_T28 l0_0 0).f5)) ∧ w'.cell? ⟨gb196, 6, none⟩ = some (.bool false) ∧ w'.cell? ⟨gb196, 7, none⟩ = some (.bool ((rd_T28 l0_0 0).f7)) ∧ w'.cell? ⟨gb196, 8, none⟩ = some (.slice Ao39 x197008_2.length co39) ∧ w'.cell? (ad195.add ((x5_2).toNat * 9)) = some (.int .i64 ((rd_T28 l0_0 x5_2).f0)) ∧ w'.cell? ⟨(ad195.add ((x5_2).toNat * 9)).block, (ad195.add ((x5_2).toNat * 9)).off + 1, none⟩ = some (.int .i64 ((rd_T28 l0_0 x5_2).f1)) ∧ w'.cell? ⟨(ad195.add ((x5_2).toNat * 9)).block, (ad195.add ((x5_2).toNat * 9)).off + 2, none⟩ = some (.int .i64 ((rd_T28 l0_0 x5_2).f2)) ∧ w'.cell? ⟨(ad195.add ((x5_2).toNat * 9)).block, (ad195.add ((x5_2).toNat * 9)).off + 3, none⟩ = some (.int .i64 ((rd_T28 l0_0 x5_2).f3)) ∧ w'.cell? ⟨(ad195.add ((x5_2).toNat * 9)).block, (ad195.add ((x5_2).toNat * 9)).off + 4, none⟩ = some (.int .i64 ((rd_T28 l0_0 x5_2).f4)) ∧ w'.cell? ⟨(ad195.add ((x5_2).toNat * 9)).block, (ad195.add ((x5_2).toNat * 9)).off + 5, none⟩ = some (.int .i64 ((rd_T28 l0_0 x5_2).f5)) ∧ w'.cell? ⟨(ad195.add ((x5_2).toNat * 9)).block, (ad195.add ((x5_2).toNat * 9)).off + 6, none⟩ = some (.bool ((rd_T28 l0_0 x5_2).f6)) ∧ w'.cell? ⟨(ad195.add ((x5_2).toNat * 9)).block, (ad195.add ((x5_2).toNat * 9)).off + 7, none⟩ = some (.bool ((rd_T28 l0_0 x5_2).f7)) ∧ w'.cell? ⟨(ad195.add ((x5_2).toNat * 9)).block, (ad195.add ((x5_2).toNat * 9)).off + 8, none⟩ = some (.slice A200_8 ((rd_T28 l0_0 x5_2).f8).length c200_8)) (ds := []) #[false, false, false, false, false, false, false, false, false, false] (by kernel_rfl) rfl rfl ⟨bc_ BK191 0, bc_ BK191 1, bc_ BK196 0, bc_ BK196 1, bc_ BK196 2, bc_ BK196 3, bc_ BK196 4, bc_ BK196 5, bc_ BK196 6, bc_ BK196 7, bc_ BK196 8, (cc_ HB hw200_0), (cc_ HB hw200_1), (cc_ HB hw200_2), (cc_ HB hw200_3), (cc_ HB hw200_4), (cc_ HB hw200_5), (cc_ HB hw200_6), (cc_ HB hw200_7), (cc_ HB hw200_8)⟩ (fun hHeld => ?_); refine with_tabW spec_PartWhole.tab9 spec_PartWhole.bits9 (fun HT_ HW_ => ?_)
           generalize wr.drew = w38 at HO_197008 BK191 BK192 BK196 HB HR200_8 hx200_0 hx200_1 hx200_2 hx200_3 hx200_4 hx200_5 hx200_6 hx200_7 hx200_8 hHeld ⊢
           refine pu_ (i := 0) (N := some 35) HT_ ?_; refine pu_ (i := 2) (N := some 37) HT_ ?_; refine pu_ (i := 6) (N := some 41) HT_ ?_; refine tk_ (i := 1) (N := some 36) HT_ HW_ hHeld ?_; refine pu_ (i := 3) (N := some 38) HT_ ?_; refine pu_ (i := 4) (N := some 39) HT_ ?_; refine tk_ (i := 5) (N := some 40) HT_ HW_ hHeld ?_; refine tk_ (i := 7) (N := some 42) HT_ HW_ hHeld ?_; refine pu_ (i := 8) (N := some 43) HT_ ?_; refine pu_ (i := 9) (N := some 44) HT_ ?_
           refine done_ (done_of HT_.out (by kernel_rfl)) ?_
           try go_wp2
           replace HO_197008 := Aside0.mk (Kd.R_drew HO_197008.out); replace BK191 := Aside0.mk (blk_drew BK191.out); replace BK192 := Aside0.mk (blk_drew BK192.out); replace BK196 := Aside0.mk (blk_drew BK196.out); replace HB := (bd_ HB)
           have p201 : 0 ≤ (x5_2 : Int) := of_decide_eq_true (by first | (with_reducible assumption) | assumption)
           have q201 : x5_2 < (l0_0.length : Int) := of_decide_eq_true (by first | (with_reducible assumption) | assumption)
           obtain ⟨ad201, A201_8, c201_8, e201, hx201_0, hx201_1, hx201_2, hx201_3, hx201_4, hx201_5, hx201_6, hx201_7, hx201_8, hl201_8, hi201_8⟩ := at_T28 HR0_0.out x5_2 p201 q201
           have hw201_8 := hx201_8; have hw201_7 := hx201_7; have hw201_6 := hx201_6; have hw201_5 := hx201_5; have hw201_4 := hx201_4; have hw201_3 := hx201_3; have hw201_2 := hx201_2; have hw201_1 := hx201_1; have hw201_0 := hx201_0
           obtain rfl : ad195 = ad201 := (by injection e201)
           replace hx201_0 := cc_ HB hx201_0
           replace hx201_1 := cc_ HB hx201_1
           replace hx201_2 := cc_ HB hx201_2
           replace hx201_3 := cc_ HB hx201_3
           replace hx201_4 := cc_ HB hx201_4
           replace hx201_5 := cc_ HB hx201_5
           replace hx201_6 := cc_ HB hx201_6
           replace hx201_7 := cc_ HB hx201_7
           replace hx201_8 := cc_ HB hx201_8
           have HR201_8 := Aside0.mk hi201_8; have HC201_8 := Aside0.mk hl201_8; clear hi201_8 hl201_8
           replace p201 := eq_true p201
           replace q201 := eq_true q201
           refine start_ (n := 11) (S := fun w' => w'.cell? ⟨gb196, 0, none⟩ = some (.int .i64 ((rd_T28 l0_0 0).f0)) ∧ w'.cell? ⟨gb196, 1, none⟩ = some (.int .i64 ((rd_T28 l0_0 0).f1)) ∧ w'.cell? ⟨gb196, 2, none⟩ = some (.int .i64 ((rd_T28 l0_0 0).f2)) ∧ w'.cell? ⟨gb196, 3, none⟩ = some (.int .i64 ((rd_T28 l0_0 0).f3)) ∧ w'.cell? ⟨gb196, 4, none⟩ = some (.int .i64 ((rd_T28 l0_0 0).f4)) ∧ w'.cell? ⟨gb196, 5, none⟩ = some (.int .i64 ((rd_T28 l0_0 0).f5)) ∧ w'.cell? ⟨gb196, 6, none⟩ = some (.bool false) ∧ w'.cell? ⟨gb196, 7, none⟩ = some (.bool ((rd_T28 l0_0 0).f7)) ∧ w'.cell? ⟨gb196, 8, none⟩ = some (.slice Ao39 x197008_2.length co39) ∧ w'.cell? ⟨gb191, 0, none⟩ = some (.slice (some ad195) l0_0.length c0_0) ∧ w'.cell? ⟨gb191, 1, none⟩ = some (.int .i64 a0_1) ∧ w'.cell? (ad195.add ((x5_2).toNat * 9)) = some (.int .i64 ((rd_T28 l0_0 x5_2).f0)) ∧ w'.cell? ⟨(ad195.add ((x5_2).toNat * 9)).block, (ad195.add ((x5_2).toNat * 9)).off + 1, none⟩ = some (.int .i64 ((rd_T28 l0_0 x5_2).f1)) ∧ w'.cell? ⟨(ad195.add ((x5_2).toNat * 9)).block, (ad195.add ((x5_2).toNat * 9)).off + 2, none⟩ = some (.int .i64 ((rd_T28 l0_0 x5_2).f2)) ∧ w'.cell? ⟨(ad195.add ((x5_2).toNat * 9)).block, (ad195.add ((x5_2).toNat * 9)).off + 3, none⟩ = some (.int .i64 ((rd_T28 l0_0 x5_2).f3)) ∧ w'.cell? ⟨(ad195.add ((x5_2).toNat * 9)).block, (ad195.add ((x5_2).toNat * 9)).off + 4, none⟩ = some (.int .i64 ((rd_T28 l0_0 x5_2).f4)) ∧ w'.cell? ⟨(ad195.add ((x5_2).toNat * 9)).block, (ad195.add ((x5_2).toNat * 9)).off + 5, none⟩ = some (.int .i64 ((rd_T28 l0_0 x5_2).f5)) ∧ w'.cell? ⟨(ad195.add ((x5_2).toNat * 9)).block, (ad195.add ((x5_2).toNat * 9)).off + 6, none⟩ = some (.bool ((rd_T28 l0_0 x5_2).f6)) ∧ w'.cell? ⟨(ad195.add ((x5_2).toNat * 9)).block, (ad195.add ((x5_2).toNat * 9)).off + 7, none⟩ = some (.bool ((rd_T28 l0_0 x5_2).f7)) ∧ w'.cell? ⟨(ad195.add ((x5_2).toNat * 9)).block, (ad195.add ((x5_2).toNat * 9)).off + 8, none⟩ = some (.slice A201_8 ((rd_T28 l0_0 x5_2).f8).length c201_8)) (ds := [10]) #[false, false, false, false, false, false, false, false, false, false, false] (by kernel_rfl) rfl rfl ⟨bc_ BK196 0, bc_ BK196 1, bc_ BK196 2, bc_ BK196 3, bc_ BK196 4, bc_ BK196 5, bc_ BK196 6, bc_ BK196 7, bc_ BK196 8, bc_ BK191 0, bc_ BK191 1, (cc_ HB hw201_0), (cc_ HB hw201_1), (cc_ HB hw201_2), (cc_ HB hw201_3), (cc_ HB hw201_4), (cc_ HB hw201_5), (cc_ HB hw201_6), (cc_ HB hw201_7), (cc_ HB hw201_8)⟩ (fun hHeld => ?_); refine with_tabW spec_PartWhole.tab11 spec_PartWhole.bits11 (fun HT_ HW_ => ?_)
           generalize w38.drew = w40 at HO_197008 BK191 BK192 BK196 HB HR201_8 hx201_0 hx201_1 hx201_2 hx201_3 hx201_4 hx201_5 hx201_6 hx201_7 hx201_8 hHeld ⊢
           refine pu_ (i := 0) (N := some 46) HT_ ?_; refine pu_ (i := 2) (N := some 48) HT_ ?_; refine pu_ (i := 4) (N := some 50) HT_ ?_; refine tk_ (i := 1) (N := some 47) HT_ HW_ hHeld ?_; refine tk_ (i := 3) (N := some 49) HT_ HW_ hHeld ?_; refine pu_ (i := 5) (N := some 51) HT_ ?_; refine pu_ (i := 6) (N := some 52) HT_ ?_; refine tk_ (i := 7) (N := some 53) HT_ HW_ hHeld ?_
           refine on_ (i := 8) (N := some 54) HT_ (fun K hK => ?_)
           refine Kd.R_append_rows_step (Kd.int .u8) (w0 := w) w.heap.size (by rfl) (.tmp 47) (.tmp 53) 22 5 (.int .u8 0) 1 rfl Try.underlying22 info5 rfl (by decide) (by omega) (.slice Ao39 x197008_2.length co39) x197008_2 ((rd_T28 l0_0 x5_2).f8) _ _ _ (fun _ => True) (fun _ => False) rfl rfl ?aO ?aR (fun _ _ h => h) (fun _ h => h.elim) ?aF ?aB ?aS ?aL ?_
           (case aR => exact kC_ (Kd.C_below HR201_8.out HB.out))
           (case aB => exact (hbA_ HB.out))
           (case aF => exact (fun _ _ => trivial))
           (case aO => exact (kR_ HO_197008.out))
           (case aS => exact (below_size (hbA_ HB.out)))
           (case aL => have := LMc34.out; omega)
           intro v203 w41 ho hb hg hat
           rw [← Ny202.out] at ho
           have n0_ := (bgA_ BK191 hg (Kd.R_ne HO_197008.out BK191.out (by decide))); have n1_ := (bgA_ BK192 hg (Kd.R_ne HO_197008.out BK192.out (by decide))); have n2_ := (bgA_ BK196 hg (Kd.R_ne HO_197008.out BK196.out (by decide))); have n3_ := Aside0.mk (hb); have n4_ := Aside0.mk (ho); clear BK191 BK192 BK196 HB HO_197008; have BK191 := n0_; have BK192 := n1_; have BK196 := n2_; have HB := n3_; have HO204 := n4_; clear n0_ n1_ n2_ n3_ n4_ ho hb hg hat
           obtain ⟨Ao42, co42, eo42⟩ := Kd.R_slice HO204.out
           (first | subst eo42 | (injection eo42 with f1_ f2_ f3_; have f4_ := f1_.symm; have f5_ := f3_.symm; clear f1_ f2_ f3_; subst f4_; subst f5_))
           refine hK.out _ _ ⟨bc_ BK196 0, bc_ BK196 1, bc_ BK196 2, bc_ BK196 3, bc_ BK196 4, bc_ BK196 5, bc_ BK196 6, bc_ BK196 7, bc_ BK196 8, bc_ BK191 0, bc_ BK191 1, (cc_ HB hw201_0), (cc_ HB hw201_1), (cc_ HB hw201_2), (cc_ HB hw201_3), (cc_ HB hw201_4), (cc_ HB hw201_5), (cc_ HB hw201_6), (cc_ HB hw201_7), (cc_ HB hw201_8)⟩ (fun hHeld => ?_)
           clear hK K; refine nm_ 54 ?_; refine pu_ (i := 9) (N := some 55) HT_ ?_
           refine last_ (i := 10) (N := none) #[true, true, true, true, true, true, true, true, true, true, true] rfl rfl (one_of HT_.out (by kernel_rfl)) (by decide) (fun K hK => ?_)
           have hs43 : w41.cell? ⟨gb196, 8, none⟩ = some (.slice Ao39 x197008_2.length co39) := bc_ BK196 8
           have hfs43 := blk_frozen BK196.out 8
           have hns43_0 := NB191_196.out; have hns43_1 := NB192_196.out; have hms43_0 := NB196_191.out; have hms43_1 := NB196_192.out
           refine skip_ (w1 := ?_) (by rfl) rfl ?_ ?_
           rotate_left
           ·go_simp
            rfl
           refine hK.out _ _ ?_
           clear hK K
           refine done_ (done_of HT_.out (by kernel_rfl)) ?_
           try go_wp2
           go_roundg k2
           case measure => have := HJ1.out; have := HK2.out; omega
           case rel => exact ⟨(wrap64 (x5_2 + 1)), (x193000_2), (x193001_2), (x193002_2), (x193003_2), (x193004_2), (x193005_2), (x193006_2), (x193007_2), (y202), (.slice Ao42 y202.length co42), (by first | rfl | (simp; done) | (simp [*]; done)), H', ⟨by have := HJ1.out; have := HK2.out; omega⟩, ⟨by refine kR_ ?_; exact Kd.R_mono (Kd.R_f gb196 8 (.slice Ao42 y202.length co42) (Kd.R_types HO204.out BK196.out (by decide))) (fun _ hk => trivial)⟩, ⟨by exact kf_ BK191.out⟩, ⟨by exact kf_ BK192.out⟩, ⟨by refine kb_ ?_; refine blk_put (cs := #[.int .i64 ((rd_T28 l0_0 0).f0), .int .i64 ((rd_T28 l0_0 0).f1), .int .i64 ((rd_T28 l0_0 0).f2), .int .i64 ((rd_T28 l0_0 0).f3), .int .i64 ((rd_T28 l0_0 0).f4), .int .i64 ((rd_T28 l0_0 0).f5), .bool false, .bool ((rd_T28 l0_0 0).f7), .slice Ao39 x197008_2.length co39]) ?_ 8 _ rfl; refine kb_ ?_; exact BK196.out⟩, ⟨hbA_ HB.out⟩⟩
          ·rw [if_neg c34] at H
           exact absurd H (by simp)
         ·rw [if_neg c33] at H
          have c33b0 : (((rd_T28 l0_0 x5_2).f5) == (x197008_2.length : Int)) = false := beq_eq_false_iff_ne.mpr c33
          have c33b1 : (((rd_T28 l0_0 x5_2).f5) != (x197008_2.length : Int)) = true := bne_iff_ne.mpr c33
          simp only [Option.some.injEq, Prod.mk.injEq] at H
          obtain ⟨rfl, rfl, rfl, rfl, rfl, rfl, rfl, rfl, rfl, rfl⟩ := H
          have hnb44 := NB191_192.out; have hnc44 := NB192_191.out; have hnb45 := NB191_196.out; have hnc45 := NB196_191.out; have Z46 := zz2 BK191
          try go_wp2
          replace HO_197008 := Aside0.mk (Kd.R_drew HO_197008.out); replace BK191 := Aside0.mk (blk_drew BK191.out); replace BK192 := Aside0.mk (blk_drew BK192.out); replace BK196 := Aside0.mk (blk_drew BK196.out); replace HB := (bd_ HB)
          have p200 : 0 ≤ (x5_2 : Int) := of_decide_eq_true (by first | (with_reducible assumption) | assumption)
          have q200 : x5_2 < (l0_0.length : Int) := of_decide_eq_true (by first | (with_reducible assumption) | assumption)
          obtain ⟨ad200, A200_8, c200_8, e200, hx200_0, hx200_1, hx200_2, hx200_3, hx200_4, hx200_5, hx200_6, hx200_7, hx200_8, hl200_8, hi200_8⟩ := at_T28 HR0_0.out x5_2 p200 q200
          have hw200_8 := hx200_8; have hw200_7 := hx200_7; have hw200_6 := hx200_6; have hw200_5 := hx200_5; have hw200_4 := hx200_4; have hw200_3 := hx200_3; have hw200_2 := hx200_2; have hw200_1 := hx200_1; have hw200_0 := hx200_0
          obtain rfl : ad195 = ad200 := (by injection e200)
          replace hx200_0 := cc_ HB hx200_0
          replace hx200_1 := cc_ HB hx200_1
          replace hx200_2 := cc_ HB hx200_2
          replace hx200_3 := cc_ HB hx200_3
          replace hx200_4 := cc_ HB hx200_4
          replace hx200_5 := cc_ HB hx200_5
          replace hx200_6 := cc_ HB hx200_6
          replace hx200_7 := cc_ HB hx200_7
          replace hx200_8 := cc_ HB hx200_8
          have HR200_8 := Aside0.mk hi200_8; have HC200_8 := Aside0.mk hl200_8; clear hi200_8 hl200_8
          replace p200 := eq_true p200
          replace q200 := eq_true q200
          obtain ⟨Ao48, co48, eo48⟩ := Kd.R_slice HO_197008.out
          (first | subst eo48 | (injection eo48 with f1_ f2_ f3_; have f4_ := f1_.symm; have f5_ := f3_.symm; clear f1_ f2_ f3_; subst f4_; subst f5_))
          refine start_ (n := 10) (S := fun w' => w'.cell? ⟨gb191, 0, none⟩ = some (.slice (some ad195) l0_0.length c0_0) ∧ w'.cell? ⟨gb191, 1, none⟩ = some (.int .i64 a0_1) ∧ w'.cell? ⟨gb196, 0, none⟩ = some (.int .i64 ((rd_T28 l0_0 0).f0)) ∧ w'.cell? ⟨gb196, 1, none⟩ = some (.int .i64 ((rd_T28 l0_0 0).f1)) ∧ w'.cell? ⟨gb196, 2, none⟩ = some (.int .i64 ((rd_T28 l0_0 0).f2)) ∧ w'.cell? ⟨gb196, 3, none⟩ = some (.int .i64 ((rd_T28 l0_0 0).f3)) ∧ w'.cell? ⟨gb196, 4, none⟩ = some (.int .i64 ((rd_T28 l0_0 0).f4)) ∧ w'.cell? ⟨gb196, 5, none⟩ = some (.int .i64 ((rd_T28 l0_0 0).f5)) ∧ w'.cell? ⟨gb196, 6, none⟩ = some (.bool false) ∧ w'.cell? ⟨gb196, 7, none⟩ = some (.bool ((rd_T28 l0_0 0).f7)) ∧ w'.cell? ⟨gb196, 8, none⟩ = some (.slice Ao48 x197008_2.length co48) ∧ w'.cell? (ad195.add ((x5_2).toNat * 9)) = some (.int .i64 ((rd_T28 l0_0 x5_2).f0)) ∧ w'.cell? ⟨(ad195.add ((x5_2).toNat * 9)).block, (ad195.add ((x5_2).toNat * 9)).off + 1, none⟩ = some (.int .i64 ((rd_T28 l0_0 x5_2).f1)) ∧ w'.cell? ⟨(ad195.add ((x5_2).toNat * 9)).block, (ad195.add ((x5_2).toNat * 9)).off + 2, none⟩ = some (.int .i64 ((rd_T28 l0_0 x5_2).f2)) ∧ w'.cell? ⟨(ad195.add ((x5_2).toNat * 9)).block, (ad195.add ((x5_2).toNat * 9)).off + 3, none⟩ = some (.int .i64 ((rd_T28 l0_0 x5_2).f3)) ∧ w'.cell? ⟨(ad195.add ((x5_2).toNat * 9)).block, (ad195.add ((x5_2).toNat * 9)).off + 4, none⟩ = some (.int .i64 ((rd_T28 l0_0 x5_2).f4)) ∧ w'.cell? ⟨(ad195.add ((x5_2).toNat * 9)).block, (ad195.add ((x5_2).toNat * 9)).off + 5, none⟩ = some (.int .i64 ((rd_T28 l0_0 x5_2).f5)) ∧ w'.cell? ⟨(ad195.add ((x5_2).toNat * 9)).block, (ad195.add ((x5_2).toNat * 9)).off + 6, none⟩ = some (.bool ((rd_T28 l0_0 x5_2).f6)) ∧ w'.cell? ⟨(ad195.add ((x5_2).toNat * 9)).block, (ad195.add ((x5_2).toNat * 9)).off + 7, none⟩ = some (.bool ((rd_T28 l0_0 x5_2).f7)) ∧ w'.cell? ⟨(ad195.add ((x5_2).toNat * 9)).block, (ad195.add ((x5_2).toNat * 9)).off + 8, none⟩ = some (.slice A200_8 ((rd_T28 l0_0 x5_2).f8).length c200_8)) (ds := []) #[false, false, false, false, false, false, false, false, false, false] (by kernel_rfl) rfl rfl ⟨bc_ BK191 0, bc_ BK191 1, bc_ BK196 0, bc_ BK196 1, bc_ BK196 2, bc_ BK196 3, bc_ BK196 4, bc_ BK196 5, bc_ BK196 6, bc_ BK196 7, bc_ BK196 8, (cc_ HB hw200_0), (cc_ HB hw200_1), (cc_ HB hw200_2), (cc_ HB hw200_3), (cc_ HB hw200_4), (cc_ HB hw200_5), (cc_ HB hw200_6), (cc_ HB hw200_7), (cc_ HB hw200_8)⟩ (fun hHeld => ?_); refine with_tabW spec_PartWhole.tab9 spec_PartWhole.bits9 (fun HT_ HW_ => ?_)
          generalize wr.drew = w47 at HO_197008 BK191 BK192 BK196 HB HR200_8 hx200_0 hx200_1 hx200_2 hx200_3 hx200_4 hx200_5 hx200_6 hx200_7 hx200_8 hHeld ⊢
          refine pu_ (i := 0) (N := some 35) HT_ ?_; refine pu_ (i := 2) (N := some 37) HT_ ?_; refine pu_ (i := 6) (N := some 41) HT_ ?_; refine tk_ (i := 1) (N := some 36) HT_ HW_ hHeld ?_; refine pu_ (i := 3) (N := some 38) HT_ ?_; refine pu_ (i := 4) (N := some 39) HT_ ?_; refine tk_ (i := 5) (N := some 40) HT_ HW_ hHeld ?_; refine tk_ (i := 7) (N := some 42) HT_ HW_ hHeld ?_; refine pu_ (i := 8) (N := some 43) HT_ ?_; refine pu_ (i := 9) (N := some 44) HT_ ?_
          refine done_ (done_of HT_.out (by kernel_rfl)) ?_
          have hnb49 := NB192_196.out; have hnc49 := NB196_192.out; have Z50 := zz9 BK192
          try go_wp2
          refine bodyPost_ret (results_ct rfl _ _ gb192 28 #[.int .i64 0, .int .i64 0, .int .i64 0, .int .i64 0, .int .i64 0, .int .i64 0, .bool false, .bool false, .slice none 0 0] (0, 0) _ rfl (by refine kb_ ?_; refine pz9 (cs := #[.int .i64 x193000_2, .int .i64 x193001_2, .int .i64 x193002_2, .int .i64 x193003_2, .int .i64 x193004_2, .int .i64 x193005_2, .bool x193006_2, .bool x193007_2, .slice none 0 0]) ?_; refine kb_ ?_; exact BK192.out) Try.underlying28 rfl (by kernel_rfl)) rfl ?_
          exact ⟨_, by first | rfl | (simp [errW_none, errW_some] <;> rfl) | (simp [*, errW_none, errW_some] <;> rfl), by first | exact Kd.R_nil _ _ _ _ _ | exact Kd.N_nil _ _ _ _ _ | exact Kd.V_nil _ _ _ _ _ | exact Kd.Q_nil _ _ _ _ _ | exact Kd.S_nil _ _ _ _ _, hbA_ HB.out⟩
        ·rw [if_neg c32] at H
         exact absurd H (by simp)
       ·rw [if_neg c31] at H
        have c31b0 : decide (x5_2 < (l0_0.length : Int)) = false := decide_eq_false c31
        clear c31
        simp only [Option.some.injEq, Prod.mk.injEq] at H
        obtain ⟨rfl, rfl, rfl, rfl, rfl, rfl, rfl, rfl, rfl, rfl⟩ := H
        have hnb51 := NB191_192.out; have hnc51 := NB192_191.out; have hnb52 := NB191_196.out; have hnc52 := NB196_191.out; have Z53 := zz2 BK191; have hnb54 := NB196_192.out; have hnc54 := NB192_196.out; have Z55 := zz9 BK196; have Z56 := zz9 BK192
        obtain ⟨Ao57, co57, eo57⟩ := Kd.R_slice HO_197008.out
        subst eo57
        go_wp2
        refine bodyPost_ret (results_ct rfl _ _ gb192 28 #[.int .i64 ((rd_T28 l0_0 0).f0), .int .i64 ((rd_T28 l0_0 0).f1), .int .i64 ((rd_T28 l0_0 0).f2), .int .i64 ((rd_T28 l0_0 0).f3), .int .i64 ((rd_T28 l0_0 0).f4), .int .i64 ((rd_T28 l0_0 0).f5), .bool false, .bool ((rd_T28 l0_0 0).f7), .slice Ao57 x197008_2.length co57] (0, 0) _ rfl (by refine kb_ ?_; refine pz9 (cs := #[.int .i64 x193000_2, .int .i64 x193001_2, .int .i64 x193002_2, .int .i64 x193003_2, .int .i64 x193004_2, .int .i64 x193005_2, .bool x193006_2, .bool x193007_2, .slice none 0 0]) ?_; refine kb_ ?_; exact BK192.out) Try.underlying28 rfl (by kernel_rfl)) rfl ?_
        exact ⟨_, by first | rfl | (simp [errW_none, errW_some] <;> rfl) | (simp [*, errW_none, errW_some] <;> rfl), by refine kR_ ?_; exact rfm_ ((Kd.R_types HO_197008.out BK192.out (by decide))) (fun _ hk => trivial), hbA_ HB.out⟩
    ·rw [if_neg c20] at H
     exact absurd H (by simp)
def laws_szByteS.f (l0 : List Int) (a1 : Int) : Option (Int) := if (wrap64 (a1 - (l0.length : Int))) < 0 then (some (-1)) else (some (wrap64 (a1 - (l0.length : Int))))
set_option maxHeartbeats 8000000 in
set_option maxRecDepth 100000 in
theorem laws_szByteS.calls (A0 : Option Addr) (c0 : Nat) (l0 : List Int) (a1 : Int) (r : Int) (w : World) (hr0 : Kd.C (Kd.int .u8) w A0 l0.length l0) (hc0 : l0.length ≤ c0) (h : laws_szByteS.f l0 a1 = some r) :
  Calls Try.prog 105 #[.slice A0 l0.length c0, .int .i64 a1] w fun e w' => e = .returned (.int .i64 r) ∧ Drawn0 w w' := by
 have HR0 := Aside0.mk hr0; have HC0 := Aside0.mk hc0; clear hr0 hc0
 have H : (if (wrap64 (a1 - (l0.length : Int))) < 0 then (some (-1)) else (some (wrap64 (a1 - (l0.length : Int))))) = some r := h
 clear h
 by_cases c3 : (wrap64 (a1 - (l0.length : Int))) < 0
 ·rw [if_pos c3] at H
  have c3b0 : decide ((wrap64 (a1 - (l0.length : Int))) < 0) = true := decide_eq_true c3
  clear c3
  obtain rfl := Option.some.inj H
  go_enter Try.func105, Try.ntmps105
  go_wp2
  go_ret
  exact ⟨by first | rfl | (simp; done) | (simp [*]; done), by repeat (first | exact Drawn0.refl _ | apply Drawn0.step)⟩
 ·rw [if_neg c3] at H
  have c3b0 : decide ((wrap64 (a1 - (l0.length : Int))) < 0) = false := decide_eq_false c3
  clear c3
  obtain rfl := Option.some.inj H
  go_enter Try.func105, Try.ntmps105
  go_wp2
  go_ret
  exact ⟨by first | rfl | (simp; done) | (simp [*]; done), by repeat (first | exact Drawn0.refl _ | apply Drawn0.step)⟩
end Go.Proofs.Ytpbeljcgcdilnaa.PFnExactPartWhole
