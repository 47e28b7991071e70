/- Printed by wip/xp/xprint.sh out of the translation, for this claim: what each function answers, as a plain function, and that the machine does just that. No condition. -/
import Derived.Test.YtpbeljcgcdilnaaPFnPartWholex0
import Derived.Test.YtpbeljcgcdilnaaPFnPartWholex1
import Derived.Test.YtpbeljcgcdilnaaPFnPartWholex4
namespace Go.Proofs.Ytpbeljcgcdilnaa.PFnPartWhole
open Go.RowKit Go.Proofs.YtpbeljcgcdilnaaW.PrintWords Go.Proofs.YtpbeljcgcdilnaaW.PrintLast Go.Proofs.YtpbeljcgcdilnaaW.PrintMore
attribute [local go_sem] max2_int min2_int max_two min_two max_three min_three max_four min_four   -- for this text's walks alone
set_option linter.unusedVariables false
set_option linter.unusedSimpArgs false
mutual
def spec_PartOk.l0 : Nat → Int → Int → List (S28) → Int → Option (Bool)
 | 0, _, _, _, _ => none
 | k + 1, x3, x4, x365000, x365001 => if x4 < (x365000.length : Int) then (if 0 ≤ x4 then ((spec_PacketOk.f k ((rd_T28 x365000 x4).f0) ((rd_T28 x365000 x4).f1) ((rd_T28 x365000 x4).f2) ((rd_T28 x365000 x4).f3) ((rd_T28 x365000 x4).f4) ((rd_T28 x365000 x4).f5) ((rd_T28 x365000 x4).f6) ((rd_T28 x365000 x4).f7) ((rd_T28 x365000 x4).f8)).bind fun t368 => (if t368 = true then (if 0 < (x365000.length : Int) then ((spec_l5Same.f ((rd_T28 x365000 x4).f0) ((rd_T28 x365000 x4).f1) ((rd_T28 x365000 x4).f2) ((rd_T28 x365000 x4).f3) ((rd_T28 x365000 x4).f4) ((rd_T28 x365000 x4).f5) ((rd_T28 x365000 x4).f6) ((rd_T28 x365000 x4).f7) ((rd_T28 x365000 x4).f8) ((rd_T28 x365000 0).f0) ((rd_T28 x365000 0).f1) ((rd_T28 x365000 0).f2) ((rd_T28 x365000 0).f3) ((rd_T28 x365000 0).f4) ((rd_T28 x365000 0).f5) ((rd_T28 x365000 0).f6) ((rd_T28 x365000 0).f7) ((rd_T28 x365000 0).f8)).bind fun t370 => (if t370 = true then (if x4 > 0 then (if 0 ≤ (wrap64 (x4 - 1)) then (if (wrap64 (x4 - 1)) < (x365000.length : Int) then (if ((rd_T28 x365000 x4).f5) < (wrap64 (((rd_T28 x365000 (wrap64 (x4 - 1))).f5) + (((rd_T28 x365000 (wrap64 (x4 - 1))).f8).length : Int))) then (spec_PartOk.j1 k x3 x4 true x365000 x365001 ((rd_T28 x365000 x4).f0) ((rd_T28 x365000 x4).f1) ((rd_T28 x365000 x4).f2) ((rd_T28 x365000 x4).f3) ((rd_T28 x365000 x4).f4) ((rd_T28 x365000 x4).f5) ((rd_T28 x365000 x4).f6) ((rd_T28 x365000 x4).f7) ((rd_T28 x365000 x4).f8)) else (spec_PartOk.j1 k x3 x4 (!((rd_T28 x365000 (wrap64 (x4 - 1))).f6)) x365000 x365001 ((rd_T28 x365000 x4).f0) ((rd_T28 x365000 x4).f1) ((rd_T28 x365000 x4).f2) ((rd_T28 x365000 x4).f3) ((rd_T28 x365000 x4).f4) ((rd_T28 x365000 x4).f5) ((rd_T28 x365000 x4).f6) ((rd_T28 x365000 x4).f7) ((rd_T28 x365000 x4).f8))) else (none)) else (none)) else (spec_PartOk.j1 k x3 x4 false x365000 x365001 ((rd_T28 x365000 x4).f0) ((rd_T28 x365000 x4).f1) ((rd_T28 x365000 x4).f2) ((rd_T28 x365000 x4).f3) ((rd_T28 x365000 x4).f4) ((rd_T28 x365000 x4).f5) ((rd_T28 x365000 x4).f6) ((rd_T28 x365000 x4).f7) ((rd_T28 x365000 x4).f8))) else (spec_PartOk.j1 k x3 x4 true x365000 x365001 ((rd_T28 x365000 x4).f0) ((rd_T28 x365000 x4).f1) ((rd_T28 x365000 x4).f2) ((rd_T28 x365000 x4).f3) ((rd_T28 x365000 x4).f4) ((rd_T28 x365000 x4).f5) ((rd_T28 x365000 x4).f6) ((rd_T28 x365000 x4).f7) ((rd_T28 x365000 x4).f8)))) else (none)) else (spec_PartOk.j1 k x3 x4 true x365000 x365001 ((rd_T28 x365000 x4).f0) ((rd_T28 x365000 x4).f1) ((rd_T28 x365000 x4).f2) ((rd_T28 x365000 x4).f3) ((rd_T28 x365000 x4).f4) ((rd_T28 x365000 x4).f5) ((rd_T28 x365000 x4).f6) ((rd_T28 x365000 x4).f7) ((rd_T28 x365000 x4).f8)))) else (none)) else (if (x365000.length : Int) > 0 then (if x3 ≤ 48 then ((spec_l1In.f x365001 0 1000000).bind fun t365 => (some t365)) else (some false)) else (some false))
def spec_PartOk.j1 : Nat → Int → Int → Bool → List (S28) → Int → Int → Int → Int → Int → Int → Int → Bool → Bool → List Int → Option (Bool)
 | 0, _, _, _, _, _, _, _, _, _, _, _, _, _, _ => none
 | k + 1, x3, x4, x64, x365000, x365001, x368000, x368001, x368002, x368003, x368004, x368005, x368006, x368007, x368008 => if x64 = true then (some false) else (spec_PartOk.l0 k (wrap64 (x3 + (x368008.length : Int))) (wrap64 (x4 + 1)) x365000 x365001)
end
def spec_PartOk.f (k : Nat) (l0_0 : List (S28)) (a0_1 : Int) : Option (Bool) := spec_PartOk.l0 k 0 0 l0_0 a0_1
theorem spec_PartOk.mono_l : ∀ k, (∀ y0 y1 y2 y3, LeO (spec_PartOk.l0 k y0 y1 y2 y3) (spec_PartOk.l0 (k + 1) y0 y1 y2 y3)) ∧ (∀ y0 y1 y2 y3 y4 y5 y6 y7 y8 y9 y10 y11 y12 y13, LeO (spec_PartOk.j1 k y0 y1 y2 y3 y4 y5 y6 y7 y8 y9 y10 y11 y12 y13) (spec_PartOk.j1 (k + 1) y0 y1 y2 y3 y4 y5 y6 y7 y8 y9 y10 y11 y12 y13))
 | 0 => ⟨fun _ _ _ _ r h => by simp [spec_PartOk.l0] at h, fun _ _ _ _ _ _ _ _ _ _ _ _ _ _ r h => by simp [spec_PartOk.j1] at h⟩
 | k + 1 => by
  obtain ⟨ih0, ih1⟩ := spec_PartOk.mono_l k
  refine ⟨?_, ?_⟩
  ·intro y0 y1 y2 y3
   unfold spec_PartOk.l0
   repeat' first | (with_reducible first | apply ih0 | apply ih1 | apply spec_PacketOk.mono | exact LeO.refl _ | exact LeO.none _ | refine LeO.ite ?_ ?_ | refine LeO.bind ?_ fun _ => ?_) | apply ih0 | apply ih1 | apply spec_PacketOk.mono | exact LeO.none _ | refine LeO.ite ?_ ?_ | refine LeO.bind ?_ fun _ => ?_
  ·intro y0 y1 y2 y3 y4 y5 y6 y7 y8 y9 y10 y11 y12 y13
   unfold spec_PartOk.j1
   repeat' first | (with_reducible first | apply ih0 | apply ih1 | apply spec_PacketOk.mono | exact LeO.refl _ | exact LeO.none _ | refine LeO.ite ?_ ?_ | refine LeO.bind ?_ fun _ => ?_) | apply ih0 | apply ih1 | apply spec_PacketOk.mono | exact LeO.none _ | refine LeO.ite ?_ ?_ | refine LeO.bind ?_ fun _ => ?_
theorem spec_PartOk.mono : ∀ a0 a1 k, LeO (spec_PartOk.f k a0 a1) (spec_PartOk.f (k + 1) a0 a1) := by
 intro a0 a1 k
 obtain ⟨ih0, ih1⟩ := spec_PartOk.mono_l k
 unfold spec_PartOk.f
 repeat' first | (with_reducible first | apply ih0 | apply ih1 | apply spec_PacketOk.mono | exact LeO.refl _ | exact LeO.none _ | refine LeO.ite ?_ ?_ | refine LeO.bind ?_ fun _ => ?_) | apply ih0 | apply ih1 | apply spec_PacketOk.mono | exact LeO.none _ | refine LeO.ite ?_ ?_ | refine LeO.bind ?_ fun _ => ?_
def spec_PartOk.T6 : Bool × List (List Nat × List Nat) := (true, [([], []), ([0], [0]), ([1], [1]), ([2, 1], [2]), ([3], [3]), ([3], [3]), ([5, 3], [3, 5]), ([6, 3], [3, 6]), ([7, 3], [3, 7]), ([4, 8, 3, 3], [3, 4, 8]), ([9, 3], [3, 9]), ([3, 10], [3, 10]), ([11, 9], [11]), ([12], [12]), ([13, 12], [12, 13]), ([14, 12, 12], [12, 14]), ([15], [15]), ([16, 15], [15, 16]), ([15], [15]), ([18, 15], [15, 18]), ([15], [15]), ([20, 15], [15, 20]), ([19, 21, 15], [15, 19, 21]), ([22, 15], [15, 22]), ([23, 15], [15, 23]), ([15], [15]), ([25, 15], [15, 25]), ([15], [15]), ([27, 15], [15, 27]), ([26, 28, 15], [15, 26, 28]), ([29, 15], [15, 29]), ([30, 15], [15, 30]), ([31, 15], [15, 31]), ([24, 32, 15], [15, 24, 32]), ([17, 33, 15], [15, 17, 33]), ([34, 15, 15], [15, 34]), ([35], [35]), ([36, 35], [35, 36]), ([35], [35]), ([38, 35], [35, 38]), ([37, 39, 35], [35, 37, 39]), ([40, 35], [35, 40]), ([41, 35], [35, 41]), ([42, 35], [35, 42]), ([35, 43, 15], [15, 35, 43]), ([15, 44, 12], [12, 15, 44]), ([12, 45], [12, 45])])
def spec_PartOk.B6 : List Nat := [0, 1, 3, 7, 15, 15, 47, 111, 239, 511, 1023, 2047, 4095, 8191, 16383, 32767, 65535, 131071, 65535, 327679, 65535, 1114111, 3997695, 8191999, 16580607, 65535, 33619967, 65535, 134283263, 503382015, 1040252927, 2113994751, 4261478399, 8589737983, 17179869183, 34359738367, 68719476735, 137438953471, 68719476735, 343597383679, 1099511627775, 2199023255551, 4398046511103, 8796093022207, 17592186044415, 35184372088831, 70368744177663]
theorem spec_PartOk.tab6 : rtab .any (opsOf Try.f46 6) = spec_PartOk.T6 := by kernel_rfl
theorem spec_PartOk.bits6 : waitsOk spec_PartOk.T6.2 spec_PartOk.B6 = true := by kernel_rfl
set_option maxHeartbeats 8000000 in
set_option maxRecDepth 100000 in
theorem spec_PartOk.calls (k : Nat) (A0_0 : Option Addr) (c0_0 : Nat) (l0_0 : List (S28)) (a0_1 : Int) (r : Bool) (w : World) (hr0_0 : Kd.C k28 w A0_0 l0_0.length l0_0) (hc0_0 : l0_0.length ≤ c0_0) (h : spec_PartOk.f k l0_0 a0_1 = some r) :
  Calls Try.prog 46 #[.agg #[.slice A0_0 l0_0.length c0_0, .int .i64 a0_1]] w fun e w' => e = .returned (.bool r) ∧ Below w.heap.size w w' := by
 have hu25 := Try.underlying25; have hu28 := Try.underlying28; have HR0_0 := Aside0.mk hr0_0; have HC0_0 := Aside0.mk hc0_0; clear hr0_0 hc0_0
 have HB := Aside0.mk (Below.refl w.heap.size w)
 have H : (spec_PartOk.l0 k 0 0 l0_0 a0_1) = some r := h
 clear h
 have H' := Aside0.mk H
 clear H
 go_enter Try.func46, Try.ntmps46
 go_wp2_with (first | ((with_reducible refine gate_dst (N := 1) rfl ?_); (try (refine gate_guard (by rfl) ?_; dsimp only)); refine box_ (N := 1) (cs := #[.slice A0_0 l0_0.length c0_0, .int .i64 a0_1]) (t := 25) (fun gb364 hg w2 hbox hb => ?_); have BK364 := Aside0.mk (hbox); have GW364 := ge_ hg HB; have GE364 := ge_ hg HB; replace HB := (bs_ HB hb); clear hb hbox hg))
 go_loopg [3, 4] k (fun kq v3 v4 w' => ∃ (x3_1 : Int) (x4_1 : Int), v3 = .int .i64 x3_1 ∧ v4 = .int .i64 x4_1 ∧ Aside0 (spec_PartOk.l0 kq x3_1 x4_1 l0_0 a0_1 = some r) ∧ Aside0 (kq ≤ k) ∧ Aside0 (w'.heap[gb364]? = some (.cells #[(.slice A0_0 l0_0.length c0_0), .int .i64 a0_1] 25 (0, 0))) ∧ Aside0 (Below w.heap.size w w'))
 case atStart => exact ⟨(0), (0), (by first | rfl | (simp; done) | (simp [*]; done)), (by first | rfl | (simp; done) | (simp [*]; done)), H', ⟨Nat.le_refl _⟩, ⟨by refine kb_ ?_; exact BK364.out⟩, ⟨hbA_ HB.out⟩⟩
 case round =>
  clear H'; (try clear p2)
  obtain ⟨x3_1, x4_1, rfl, rfl, HA, HK1, BK364, HB⟩ := hrel
  cases gk with
  | zero => exact absurd HA.out (by simp [spec_PartOk.l0])
  | succ k1 =>
   have H := HA.out; clear HA
   simp only [spec_PartOk.l0] at H
   by_cases c3 : x4_1 < (l0_0.length : Int)
   ·rw [if_pos c3] at H
    have c3b0 : decide (x4_1 < (l0_0.length : Int)) = true := decide_eq_true c3
    clear c3
    by_cases c4 : 0 ≤ x4_1
    ·rw [if_pos c4] at H
     have c4b0 : decide (0 ≤ x4_1) = true := decide_eq_true c4
     clear c4; have HC5 := Aside0.mk H; clear H; have Z6 := zz2 BK364
     have p366 : 0 ≤ (x4_1 : Int) := of_decide_eq_true (by first | (with_reducible assumption) | assumption)
     have q366 : x4_1 < (l0_0.length : Int) := of_decide_eq_true (by first | (with_reducible assumption) | assumption)
     obtain ⟨ad366, A366_8, c366_8, e366, hx366_0, hx366_1, hx366_2, hx366_3, hx366_4, hx366_5, hx366_6, hx366_7, hx366_8, hl366_8, hi366_8⟩ := at_T28 HR0_0.out x4_1 p366 q366
     cases e366
     replace hx366_0 := cc_ HB hx366_0
     replace hx366_1 := cc_ HB hx366_1
     replace hx366_2 := cc_ HB hx366_2
     replace hx366_3 := cc_ HB hx366_3
     replace hx366_4 := cc_ HB hx366_4
     replace hx366_5 := cc_ HB hx366_5
     replace hx366_6 := cc_ HB hx366_6
     replace hx366_7 := cc_ HB hx366_7
     replace hx366_8 := cc_ HB hx366_8
     have HR366_8 := Aside0.mk hi366_8; have HC366_8 := Aside0.mk hl366_8; clear hi366_8 hl366_8
     replace p366 := eq_true p366
     replace q366 := eq_true q366
     go_upto_region 6 with (first | ((with_reducible refine gate_dst (N := 5) rfl ?_); (try (refine gate_guard (by rfl) ?_; dsimp only)); refine box_ (N := 5) (cs := #[.int .i64 0, .int .i64 0, .int .i64 0, .int .i64 0, .int .i64 0, .int .i64 0, .bool false, .bool false, .slice none 0 0]) (t := 28) (fun gb367 hg w7 hbox hb => ?_); have BK367 := Aside0.mk (hbox); have GW367 := ge_ hg HB; have GE367 := ge_ hg HB; replace HB := (bs_ HB hb); have NB364_367 := nl_ hg BK364; have NB367_364 := ng_ hg BK364; replace BK364 := (bbA_ BK364 hb); clear hb hbox hg; have hnb8 := NB367_364.out; have hnc8 := NB364_367.out; have Z9 := zz9 BK367))
     (try simp only [Act.put, List.setIfInBounds_toArray, List.set_cons_zero, List.set_cons_succ])
     go_cut [64] (fun v64 wc => ∃ (kq : Nat) (x64_4 : Bool), v64 = .bool x64_4 ∧ Aside0 (spec_PartOk.j1 kq x3_1 x4_1 x64_4 l0_0 a0_1 ((rd_T28 l0_0 x4_1).f0) ((rd_T28 l0_0 x4_1).f1) ((rd_T28 l0_0 x4_1).f2) ((rd_T28 l0_0 x4_1).f3) ((rd_T28 l0_0 x4_1).f4) ((rd_T28 l0_0 x4_1).f5) ((rd_T28 l0_0 x4_1).f6) ((rd_T28 l0_0 x4_1).f7) ((rd_T28 l0_0 x4_1).f8) = some r) ∧ Aside0 (kq ≤ k1) ∧ Aside0 (wc.heap[gb364]? = some (.cells #[(.slice (some ad366) l0_0.length c0_0), .int .i64 a0_1] 25 (0, 0))) ∧ Aside0 (wc.heap[gb367]? = some (.cells #[.int .i64 ((rd_T28 l0_0 x4_1).f0), .int .i64 ((rd_T28 l0_0 x4_1).f1), .int .i64 ((rd_T28 l0_0 x4_1).f2), .int .i64 ((rd_T28 l0_0 x4_1).f3), .int .i64 ((rd_T28 l0_0 x4_1).f4), .int .i64 ((rd_T28 l0_0 x4_1).f5), .bool ((rd_T28 l0_0 x4_1).f6), .bool ((rd_T28 l0_0 x4_1).f7), (.slice A366_8 ((rd_T28 l0_0 x4_1).f8).length c366_8)] 28 (0, 0))) ∧ Aside0 (Below w.heap.size w wc))
     case first =>
      have H := HC5.out; clear HC5
      replace H := Option.bind_eq_some_iff.mp H
      obtain ⟨t368, A100, H⟩ := H
      (try dsimp only at H)
      have A10 := Aside0.mk A100; clear A100
      by_cases c11 : t368 = true
      ·subst c11
       rw [if_pos rfl] at H
       by_cases c12 : 0 < (l0_0.length : Int)
       ·rw [if_pos c12] at H
        have c12b0 : decide (0 < (l0_0.length : Int)) = true := decide_eq_true c12
        have c12b1 : decide (0 < l0_0.length) = true := decide_eq_true (by omega)
        clear c12
        (first | rw [c12b0] | (simp only [i64_w, i32_w]; rw [c12b0]) | skip)
        replace H := Option.bind_eq_some_iff.mp H
        obtain ⟨t370, A130, H⟩ := H
        (try dsimp only at H)
        have A13 := Aside0.mk A130; clear A130
        by_cases c14 : t370 = true
        ·subst c14
         rw [if_pos rfl] at H
         by_cases c15 : x4_1 > 0
         ·rw [if_pos c15] at H
          have c15b0 : decide (0 < x4_1) = true := decide_eq_true c15
          clear c15
          obtain ⟨ji16, hji16⟩ : ∃ j_ : Int, (wrap64 (x4_1 - 1)) = j_ := ⟨_, rfl⟩
          (first | rw [hji16] at H | simp only [hji16] at H)
          (try rw [hji16] at A10)
          (try rw [hji16] at A13)
          have hji16w : (IntKind.i64.wrap (x4_1 - 1)) = ji16 := (i64_w _).trans hji16
          by_cases c17 : 0 ≤ (ji16)
          ·rw [if_pos c17] at H
           have c17b0 : decide (0 ≤ (ji16)) = true := decide_eq_true c17
           clear c17
           by_cases c18 : (ji16) < (l0_0.length : Int)
           ·rw [if_pos c18] at H
            have c18b0 : decide ((ji16) < (l0_0.length : Int)) = true := decide_eq_true c18
            clear c18
            by_cases c19 : ((rd_T28 l0_0 x4_1).f5) < (wrap64 (((rd_T28 l0_0 (ji16)).f5) + (((rd_T28 l0_0 (ji16)).f8).length : Int)))
            ·rw [if_pos c19] at H
             have c19b0 : decide (((rd_T28 l0_0 x4_1).f5) < (wrap64 (((rd_T28 l0_0 (ji16)).f5) + (((rd_T28 l0_0 (ji16)).f8).length : Int)))) = true := decide_eq_true c19
             clear c19
             have H' := Aside0.mk H
             clear H
             try go_wp2
             obtain ⟨w20, h_w20⟩ : ∃ w_, (((((((((w7.setCell ⟨gb367, 0, none⟩ (.int .i64 ((rd_T28 l0_0 x4_1).f0))).setCell ⟨gb367, 1, none⟩ (.int .i64 ((rd_T28 l0_0 x4_1).f1))).setCell ⟨gb367, 2, none⟩ (.int .i64 ((rd_T28 l0_0 x4_1).f2))).setCell ⟨gb367, 3, none⟩ (.int .i64 ((rd_T28 l0_0 x4_1).f3))).setCell ⟨gb367, 4, none⟩ (.int .i64 ((rd_T28 l0_0 x4_1).f4))).setCell ⟨gb367, 5, none⟩ (.int .i64 ((rd_T28 l0_0 x4_1).f5))).setCell ⟨gb367, 6, none⟩ (.bool ((rd_T28 l0_0 x4_1).f6))).setCell ⟨gb367, 7, none⟩ (.bool ((rd_T28 l0_0 x4_1).f7))).setCell ⟨gb367, 8, none⟩ (.slice A366_8 ((rd_T28 l0_0 x4_1).f8).length c366_8)) = w_ := ⟨_, rfl⟩
             have n0_ : Aside0 (w20.heap[gb364]? = some (.cells #[.slice (some ad366) l0_0.length c0_0, .int .i64 a0_1] 25 (0, 0))) := ⟨by subst h_w20; exact kf_ BK364.out⟩
             have n1_ : Aside0 (w20.heap[gb367]? = some (.cells #[.int .i64 ((rd_T28 l0_0 x4_1).f0), .int .i64 ((rd_T28 l0_0 x4_1).f1), .int .i64 ((rd_T28 l0_0 x4_1).f2), .int .i64 ((rd_T28 l0_0 x4_1).f3), .int .i64 ((rd_T28 l0_0 x4_1).f4), .int .i64 ((rd_T28 l0_0 x4_1).f5), .bool ((rd_T28 l0_0 x4_1).f6), .bool ((rd_T28 l0_0 x4_1).f7), .slice A366_8 ((rd_T28 l0_0 x4_1).f8).length c366_8] 28 (0, 0))) := ⟨by subst h_w20; refine kb_ ?_; refine pz9 (cs := #[.int .i64 0, .int .i64 0, .int .i64 0, .int .i64 0, .int .i64 0, .int .i64 0, .bool false, .bool false, .slice none 0 0]) ?_; refine kb_ ?_; exact BK367.out⟩
             have n2_ : Aside0 (Below w.heap.size w w20) := ⟨by subst h_w20; exact hbA_ HB.out⟩
             (try clear BK364); (try clear BK367); (try clear HB)
             (try rw [h_w20]); clear h_w20
             have BK364 := n0_; have BK367 := n1_; have HB := n2_; clear n0_ n1_ n2_; replace BK364 := Aside0.mk (blk_drew BK364.out); replace BK367 := Aside0.mk (blk_drew BK367.out); replace HB := (bd_ HB)
             have p369 : 0 ≤ (0 : Int) := (by omega)
             have q369 : 0 < (l0_0.length : Int) := of_decide_eq_true (by first | (with_reducible assumption) | assumption)
             obtain ⟨ad369, A369_8, c369_8, e369, hx369_0, hx369_1, hx369_2, hx369_3, hx369_4, hx369_5, hx369_6, hx369_7, hx369_8, hl369_8, hi369_8⟩ := at_T28 HR0_0.out 0 p369 q369
             (try simp only [show ((0 : Int)).toNat = 0 from rfl, show 0 * 9 = 0 from rfl, Addr.add_zero'] at hx369_0 hx369_1 hx369_2 hx369_3 hx369_4 hx369_5 hx369_6 hx369_7 hx369_8); have hw369_8 := hx369_8; have hw369_7 := hx369_7; have hw369_6 := hx369_6; have hw369_5 := hx369_5; have hw369_4 := hx369_4; have hw369_3 := hx369_3; have hw369_2 := hx369_2; have hw369_1 := hx369_1; have hw369_0 := hx369_0
             obtain rfl : ad366 = ad369 := (by injection e369)
             have qi369 : (0 < l0_0.length) = True := eq_true (by omega)
             replace hx369_0 := cc_ HB hx369_0
             replace hx369_1 := cc_ HB hx369_1
             replace hx369_2 := cc_ HB hx369_2
             replace hx369_3 := cc_ HB hx369_3
             replace hx369_4 := cc_ HB hx369_4
             replace hx369_5 := cc_ HB hx369_5
             replace hx369_6 := cc_ HB hx369_6
             replace hx369_7 := cc_ HB hx369_7
             replace hx369_8 := cc_ HB hx369_8
             have HR369_8 := Aside0.mk hi369_8; have HC369_8 := Aside0.mk hl369_8; clear hi369_8 hl369_8
             replace p369 := eq_true p369
             replace q369 := eq_true q369
             have p371 : 0 ≤ ((ji16) : Int) := of_decide_eq_true (by first | (with_reducible assumption) | assumption)
             have q371 : (ji16) < (l0_0.length : Int) := of_decide_eq_true (by first | (with_reducible assumption) | assumption)
             obtain ⟨ad371, A371_8, c371_8, e371, hx371_0, hx371_1, hx371_2, hx371_3, hx371_4, hx371_5, hx371_6, hx371_7, hx371_8, hl371_8, hi371_8⟩ := at_T28 HR0_0.out (ji16) p371 q371
             have hw371_8 := hx371_8; have hw371_7 := hx371_7; have hw371_6 := hx371_6; have hw371_5 := hx371_5; have hw371_4 := hx371_4; have hw371_3 := hx371_3; have hw371_2 := hx371_2; have hw371_1 := hx371_1; have hw371_0 := hx371_0
             obtain rfl : ad366 = ad371 := (by injection e371)
             replace hx371_0 := cc_ HB hx371_0
             replace hx371_1 := cc_ HB hx371_1
             replace hx371_2 := cc_ HB hx371_2
             replace hx371_3 := cc_ HB hx371_3
             replace hx371_4 := cc_ HB hx371_4
             replace hx371_5 := cc_ HB hx371_5
             replace hx371_6 := cc_ HB hx371_6
             replace hx371_7 := cc_ HB hx371_7
             replace hx371_8 := cc_ HB hx371_8
             have HR371_8 := Aside0.mk hi371_8; have HC371_8 := Aside0.mk hl371_8; clear hi371_8 hl371_8
             replace p371 := eq_true p371
             replace q371 := eq_true q371
             have p372 : 0 ≤ ((ji16) : Int) := of_decide_eq_true (by first | (with_reducible assumption) | assumption)
             have q372 : (ji16) < (l0_0.length : Int) := of_decide_eq_true (by first | (with_reducible assumption) | assumption)
             obtain ⟨ad372, A372_8, c372_8, e372, hx372_0, hx372_1, hx372_2, hx372_3, hx372_4, hx372_5, hx372_6, hx372_7, hx372_8, hl372_8, hi372_8⟩ := at_T28 HR0_0.out (ji16) p372 q372
             have hw372_8 := hx372_8; have hw372_7 := hx372_7; have hw372_6 := hx372_6; have hw372_5 := hx372_5; have hw372_4 := hx372_4; have hw372_3 := hx372_3; have hw372_2 := hx372_2; have hw372_1 := hx372_1; have hw372_0 := hx372_0
             obtain rfl : ad366 = ad372 := (by injection e372)
             replace hx372_0 := cc_ HB hx372_0
             replace hx372_1 := cc_ HB hx372_1
             replace hx372_2 := cc_ HB hx372_2
             replace hx372_3 := cc_ HB hx372_3
             replace hx372_4 := cc_ HB hx372_4
             replace hx372_5 := cc_ HB hx372_5
             replace hx372_6 := cc_ HB hx372_6
             replace hx372_7 := cc_ HB hx372_7
             replace hx372_8 := cc_ HB hx372_8
             have HR372_8 := Aside0.mk hi372_8; have HC372_8 := Aside0.mk hl372_8; clear hi372_8 hl372_8
             replace p372 := eq_true p372
             replace q372 := eq_true q372
             have ea_ := Option.some.inj (hx371_8.symm.trans hx372_8)
             injection ea_ with ea_ en_ ec_
             subst ea_; subst ec_; clear en_
             refine start_ (n := 47) (S := fun w' => w'.cell? ⟨gb367, 0, none⟩ = some (.int .i64 ((rd_T28 l0_0 x4_1).f0)) ∧ w'.cell? ⟨gb367, 1, none⟩ = some (.int .i64 ((rd_T28 l0_0 x4_1).f1)) ∧ w'.cell? ⟨gb367, 2, none⟩ = some (.int .i64 ((rd_T28 l0_0 x4_1).f2)) ∧ w'.cell? ⟨gb367, 3, none⟩ = some (.int .i64 ((rd_T28 l0_0 x4_1).f3)) ∧ w'.cell? ⟨gb367, 4, none⟩ = some (.int .i64 ((rd_T28 l0_0 x4_1).f4)) ∧ w'.cell? ⟨gb367, 5, none⟩ = some (.int .i64 ((rd_T28 l0_0 x4_1).f5)) ∧ w'.cell? ⟨gb367, 6, none⟩ = some (.bool ((rd_T28 l0_0 x4_1).f6)) ∧ w'.cell? ⟨gb367, 7, none⟩ = some (.bool ((rd_T28 l0_0 x4_1).f7)) ∧ w'.cell? ⟨gb367, 8, none⟩ = some (.slice A366_8 ((rd_T28 l0_0 x4_1).f8).length c366_8) ∧ w'.cell? ⟨gb364, 0, none⟩ = some (.slice (some ad366) l0_0.length c0_0) ∧ w'.cell? ⟨gb364, 1, none⟩ = some (.int .i64 a0_1) ∧ w'.cell? ad366 = some (.int .i64 ((rd_T28 l0_0 0).f0)) ∧ w'.cell? ⟨ad366.block, ad366.off + 1, none⟩ = some (.int .i64 ((rd_T28 l0_0 0).f1)) ∧ w'.cell? ⟨ad366.block, ad366.off + 2, none⟩ = some (.int .i64 ((rd_T28 l0_0 0).f2)) ∧ w'.cell? ⟨ad366.block, ad366.off + 3, none⟩ = some (.int .i64 ((rd_T28 l0_0 0).f3)) ∧ w'.cell? ⟨ad366.block, ad366.off + 4, none⟩ = some (.int .i64 ((rd_T28 l0_0 0).f4)) ∧ w'.cell? ⟨ad366.block, ad366.off + 5, none⟩ = some (.int .i64 ((rd_T28 l0_0 0).f5)) ∧ w'.cell? ⟨ad366.block, ad366.off + 6, none⟩ = some (.bool ((rd_T28 l0_0 0).f6)) ∧ w'.cell? ⟨ad366.block, ad366.off + 7, none⟩ = some (.bool ((rd_T28 l0_0 0).f7)) ∧ w'.cell? ⟨ad366.block, ad366.off + 8, none⟩ = some (.slice A369_8 ((rd_T28 l0_0 0).f8).length c369_8) ∧ w'.cell? (ad366.add (((ji16)).toNat * 9)) = some (.int .i64 ((rd_T28 l0_0 (ji16)).f0)) ∧ w'.cell? ⟨(ad366.add (((ji16)).toNat * 9)).block, (ad366.add (((ji16)).toNat * 9)).off + 1, none⟩ = some (.int .i64 ((rd_T28 l0_0 (ji16)).f1)) ∧ w'.cell? ⟨(ad366.add (((ji16)).toNat * 9)).block, (ad366.add (((ji16)).toNat * 9)).off + 2, none⟩ = some (.int .i64 ((rd_T28 l0_0 (ji16)).f2)) ∧ w'.cell? ⟨(ad366.add (((ji16)).toNat * 9)).block, (ad366.add (((ji16)).toNat * 9)).off + 3, none⟩ = some (.int .i64 ((rd_T28 l0_0 (ji16)).f3)) ∧ w'.cell? ⟨(ad366.add (((ji16)).toNat * 9)).block, (ad366.add (((ji16)).toNat * 9)).off + 4, none⟩ = some (.int .i64 ((rd_T28 l0_0 (ji16)).f4)) ∧ w'.cell? ⟨(ad366.add (((ji16)).toNat * 9)).block, (ad366.add (((ji16)).toNat * 9)).off + 5, none⟩ = some (.int .i64 ((rd_T28 l0_0 (ji16)).f5)) ∧ w'.cell? ⟨(ad366.add (((ji16)).toNat * 9)).block, (ad366.add (((ji16)).toNat * 9)).off + 6, none⟩ = some (.bool ((rd_T28 l0_0 (ji16)).f6)) ∧ w'.cell? ⟨(ad366.add (((ji16)).toNat * 9)).block, (ad366.add (((ji16)).toNat * 9)).off + 7, none⟩ = some (.bool ((rd_T28 l0_0 (ji16)).f7)) ∧ w'.cell? ⟨(ad366.add (((ji16)).toNat * 9)).block, (ad366.add (((ji16)).toNat * 9)).off + 8, none⟩ = some (.slice A371_8 ((rd_T28 l0_0 (ji16)).f8).length c371_8) ∧ w'.cell? (ad366.add (((ji16)).toNat * 9)) = some (.int .i64 ((rd_T28 l0_0 (ji16)).f0)) ∧ w'.cell? ⟨(ad366.add (((ji16)).toNat * 9)).block, (ad366.add (((ji16)).toNat * 9)).off + 1, none⟩ = some (.int .i64 ((rd_T28 l0_0 (ji16)).f1)) ∧ w'.cell? ⟨(ad366.add (((ji16)).toNat * 9)).block, (ad366.add (((ji16)).toNat * 9)).off + 2, none⟩ = some (.int .i64 ((rd_T28 l0_0 (ji16)).f2)) ∧ w'.cell? ⟨(ad366.add (((ji16)).toNat * 9)).block, (ad366.add (((ji16)).toNat * 9)).off + 3, none⟩ = some (.int .i64 ((rd_T28 l0_0 (ji16)).f3)) ∧ w'.cell? ⟨(ad366.add (((ji16)).toNat * 9)).block, (ad366.add (((ji16)).toNat * 9)).off + 4, none⟩ = some (.int .i64 ((rd_T28 l0_0 (ji16)).f4)) ∧ w'.cell? ⟨(ad366.add (((ji16)).toNat * 9)).block, (ad366.add (((ji16)).toNat * 9)).off + 5, none⟩ = some (.int .i64 ((rd_T28 l0_0 (ji16)).f5)) ∧ w'.cell? ⟨(ad366.add (((ji16)).toNat * 9)).block, (ad366.add (((ji16)).toNat * 9)).off + 6, none⟩ = some (.bool ((rd_T28 l0_0 (ji16)).f6)) ∧ w'.cell? ⟨(ad366.add (((ji16)).toNat * 9)).block, (ad366.add (((ji16)).toNat * 9)).off + 7, none⟩ = some (.bool ((rd_T28 l0_0 (ji16)).f7)) ∧ w'.cell? ⟨(ad366.add (((ji16)).toNat * 9)).block, (ad366.add (((ji16)).toNat * 9)).off + 8, none⟩ = some (.slice A371_8 ((rd_T28 l0_0 (ji16)).f8).length c371_8)) (ds := []) #[false, false, false, false, false, false, false, false, false, false, false, false, false, false, false, false, false, false, false, false, false, false, false, false, false, false, false, false, false, false, false, false, false, false, false, false, false, false, false, false, false, false, false, false, false, false, false] (by kernel_rfl) rfl rfl ⟨bc_ BK367 0, bc_ BK367 1, bc_ BK367 2, bc_ BK367 3, bc_ BK367 4, bc_ BK367 5, bc_ BK367 6, bc_ BK367 7, bc_ BK367 8, bc_ BK364 0, bc_ BK364 1, (cc_ HB hw369_0), (cc_ HB hw369_1), (cc_ HB hw369_2), (cc_ HB hw369_3), (cc_ HB hw369_4), (cc_ HB hw369_5), (cc_ HB hw369_6), (cc_ HB hw369_7), (cc_ HB hw369_8), (cc_ HB hw371_0), (cc_ HB hw371_1), (cc_ HB hw371_2), (cc_ HB hw371_3), (cc_ HB hw371_4), (cc_ HB hw371_5), (cc_ HB hw371_6), (cc_ HB hw371_7), (cc_ HB hw371_8), (cc_ HB hw372_0), (cc_ HB hw372_1), (cc_ HB hw372_2), (cc_ HB hw372_3), (cc_ HB hw372_4), (cc_ HB hw372_5), (cc_ HB hw372_6), (cc_ HB hw372_7), (cc_ HB hw372_8)⟩ (fun hHeld => ?_); refine with_tabW spec_PartOk.tab6 spec_PartOk.bits6 (fun HT_ HW_ => ?_)
             generalize w20.drew = w21 at BK364 BK367 HB HR369_8 HR371_8 HR372_8 hx369_0 hx369_1 hx369_2 hx369_3 hx369_4 hx369_5 hx369_6 hx369_7 hx369_8 hx371_0 hx371_1 hx371_2 hx371_3 hx371_4 hx371_5 hx371_6 hx371_7 hx371_8 hx372_0 hx372_1 hx372_2 hx372_3 hx372_4 hx372_5 hx372_6 hx372_7 hx372_8 hHeld ⊢
             refine tk_ (i := 0) (N := some 18) HT_ HW_ hHeld ?_
             refine on_ (i := 1) (N := some 19) HT_ (fun K hK => ?_)
             refine goes_ Try.func77 (by kernel_rfl) rfl #[.agg #[.int .i64 ((rd_T28 l0_0 x4_1).f0), .int .i64 ((rd_T28 l0_0 x4_1).f1), .int .i64 ((rd_T28 l0_0 x4_1).f2), .int .i64 ((rd_T28 l0_0 x4_1).f3), .int .i64 ((rd_T28 l0_0 x4_1).f4), .int .i64 ((rd_T28 l0_0 x4_1).f5), .bool ((rd_T28 l0_0 x4_1).f6), .bool ((rd_T28 l0_0 x4_1).f7), .slice A366_8 ((rd_T28 l0_0 x4_1).f8).length c366_8]] (by rfl) rfl rfl ar_ ?_
             with_reducible refine (spec_PacketOk.calls k1 ((rd_T28 l0_0 x4_1).f0) ((rd_T28 l0_0 x4_1).f1) ((rd_T28 l0_0 x4_1).f2) ((rd_T28 l0_0 x4_1).f3) ((rd_T28 l0_0 x4_1).f4) ((rd_T28 l0_0 x4_1).f5) ((rd_T28 l0_0 x4_1).f6) ((rd_T28 l0_0 x4_1).f7) _ _ ((rd_T28 l0_0 x4_1).f8) true _ ?side1 ?side2 A10.out).mono ?_
             (case side1 => exact kC_ (Kd.C_below HR366_8.out HB.out))
             (case side2 => exact HC366_8.out)
             rintro e w22 ⟨rfl, hb⟩
             refine ⟨_, rfl, ?_⟩
             replace BK364 := (bbA_ BK364 hb); replace BK367 := (bbA_ BK367 hb); replace HB := (bs_ HB hb); (try clear hb); (try clear hb2); (try clear hk); (try clear hi)
             refine hK.out _ _ ⟨bc_ BK367 0, bc_ BK367 1, bc_ BK367 2, bc_ BK367 3, bc_ BK367 4, bc_ BK367 5, bc_ BK367 6, bc_ BK367 7, bc_ BK367 8, bc_ BK364 0, bc_ BK364 1, (cc_ HB hw369_0), (cc_ HB hw369_1), (cc_ HB hw369_2), (cc_ HB hw369_3), (cc_ HB hw369_4), (cc_ HB hw369_5), (cc_ HB hw369_6), (cc_ HB hw369_7), (cc_ HB hw369_8), (cc_ HB hw371_0), (cc_ HB hw371_1), (cc_ HB hw371_2), (cc_ HB hw371_3), (cc_ HB hw371_4), (cc_ HB hw371_5), (cc_ HB hw371_6), (cc_ HB hw371_7), (cc_ HB hw371_8), (cc_ HB hw372_0), (cc_ HB hw372_1), (cc_ HB hw372_2), (cc_ HB hw372_3), (cc_ HB hw372_4), (cc_ HB hw372_5), (cc_ HB hw372_6), (cc_ HB hw372_7), (cc_ HB hw372_8)⟩ (fun hHeld => ?_)
             clear hK K; refine nm_ 19 ?_; refine pu_ (i := 2) (N := some 20) HT_ ?_; refine pu_ (i := 3) (N := some 21) HT_ ?_; refine pu_ (i := 5) (N := some 23) HT_ ?_; refine tk_ (i := 4) (N := some 22) HT_ HW_ hHeld ?_; refine tk_ (i := 6) (N := some 24) HT_ HW_ hHeld ?_; refine pu_ (i := 7) (N := some 25) HT_ ?_; refine tk_ (i := 8) (N := some 26) HT_ HW_ hHeld ?_
             refine on_ (i := 9) (N := some 27) HT_ (fun K hK => ?_)
             refine goes_ Try.func83 (by kernel_rfl) rfl #[.agg #[.int .i64 ((rd_T28 l0_0 x4_1).f0), .int .i64 ((rd_T28 l0_0 x4_1).f1), .int .i64 ((rd_T28 l0_0 x4_1).f2), .int .i64 ((rd_T28 l0_0 x4_1).f3), .int .i64 ((rd_T28 l0_0 x4_1).f4), .int .i64 ((rd_T28 l0_0 x4_1).f5), .bool ((rd_T28 l0_0 x4_1).f6), .bool ((rd_T28 l0_0 x4_1).f7), .slice A366_8 ((rd_T28 l0_0 x4_1).f8).length c366_8], .agg #[.int .i64 ((rd_T28 l0_0 0).f0), .int .i64 ((rd_T28 l0_0 0).f1), .int .i64 ((rd_T28 l0_0 0).f2), .int .i64 ((rd_T28 l0_0 0).f3), .int .i64 ((rd_T28 l0_0 0).f4), .int .i64 ((rd_T28 l0_0 0).f5), .bool ((rd_T28 l0_0 0).f6), .bool ((rd_T28 l0_0 0).f7), .slice A369_8 ((rd_T28 l0_0 0).f8).length c369_8]] (by rfl) rfl rfl ar_ ?_
             with_reducible refine (spec_l5Same.calls ((rd_T28 l0_0 x4_1).f0) ((rd_T28 l0_0 x4_1).f1) ((rd_T28 l0_0 x4_1).f2) ((rd_T28 l0_0 x4_1).f3) ((rd_T28 l0_0 x4_1).f4) ((rd_T28 l0_0 x4_1).f5) ((rd_T28 l0_0 x4_1).f6) ((rd_T28 l0_0 x4_1).f7) _ _ ((rd_T28 l0_0 x4_1).f8) ((rd_T28 l0_0 0).f0) ((rd_T28 l0_0 0).f1) ((rd_T28 l0_0 0).f2) ((rd_T28 l0_0 0).f3) ((rd_T28 l0_0 0).f4) ((rd_T28 l0_0 0).f5) ((rd_T28 l0_0 0).f6) ((rd_T28 l0_0 0).f7) _ _ ((rd_T28 l0_0 0).f8) true _ ?side1 ?side2 ?side3 ?side4 A13.out).mono ?_
             (case side1 => exact kC_ (Kd.C_below HR366_8.out HB.out))
             (case side2 => exact HC366_8.out)
             (case side3 => exact kC_ (Kd.C_below HR369_8.out HB.out))
             (case side4 => exact HC369_8.out)
             rintro e w23 ⟨rfl, hb⟩
             refine ⟨_, rfl, ?_⟩
             replace BK364 := (bbA_ BK364 hb); replace BK367 := (bbA_ BK367 hb); replace HB := (bs_ HB hb); (try clear hb); (try clear hb2); (try clear hk); (try clear hi)
             refine hK.out _ _ ⟨bc_ BK367 0, bc_ BK367 1, bc_ BK367 2, bc_ BK367 3, bc_ BK367 4, bc_ BK367 5, bc_ BK367 6, bc_ BK367 7, bc_ BK367 8, bc_ BK364 0, bc_ BK364 1, (cc_ HB hw369_0), (cc_ HB hw369_1), (cc_ HB hw369_2), (cc_ HB hw369_3), (cc_ HB hw369_4), (cc_ HB hw369_5), (cc_ HB hw369_6), (cc_ HB hw369_7), (cc_ HB hw369_8), (cc_ HB hw371_0), (cc_ HB hw371_1), (cc_ HB hw371_2), (cc_ HB hw371_3), (cc_ HB hw371_4), (cc_ HB hw371_5), (cc_ HB hw371_6), (cc_ HB hw371_7), (cc_ HB hw371_8), (cc_ HB hw372_0), (cc_ HB hw372_1), (cc_ HB hw372_2), (cc_ HB hw372_3), (cc_ HB hw372_4), (cc_ HB hw372_5), (cc_ HB hw372_6), (cc_ HB hw372_7), (cc_ HB hw372_8)⟩ (fun hHeld => ?_)
             clear hK K; refine nm_ 27 ?_; refine pu_ (i := 10) (N := some 28) HT_ ?_; refine pu_ (i := 11) (N := some 29) HT_ ?_; refine pu_ (i := 12) (N := some 30) HT_ ?_; refine pu_ (i := 13) (N := some 31) HT_ ?_; refine pu_ (i := 14) (N := some 32) HT_ ?_; refine pu_ (i := 15) (N := some 33) HT_ ?_; refine pu_ (i := 16) (N := some 34) HT_ ?_; refine pu_ (i := 18) (N := some 36) HT_ ?_; refine pu_ (i := 20) (N := some 38) HT_ ?_; refine pu_ (i := 21) (N := some 39) HT_ ?_; refine pu_ (i := 25) (N := some 43) HT_ ?_; refine pu_ (i := 27) (N := some 45) HT_ ?_; refine pu_ (i := 28) (N := some 46) HT_ ?_; refine tk_ (i := 17) (N := some 35) HT_ HW_ hHeld ?_; refine tk_ (i := 19) (N := some 37) HT_ HW_ hHeld ?_; refine pu_ (i := 22) (N := some 40) HT_ ?_; refine pu_ (i := 23) (N := some 41) HT_ ?_; refine tk_ (i := 24) (N := some 42) HT_ HW_ hHeld ?_; refine tk_ (i := 26) (N := some 44) HT_ HW_ hHeld ?_; refine pu_ (i := 29) (N := some 47) HT_ ?_; refine pu_ (i := 30) (N := some 48) HT_ ?_; refine tk_ (i := 31) (N := some 49) HT_ HW_ hHeld ?_; refine pu_ (i := 32) (N := some 50) HT_ ?_; refine pu_ (i := 33) (N := some 51) HT_ ?_; refine pu_ (i := 34) (N := some 52) HT_ ?_; refine pu_ (i := 35) (N := some 53) HT_ ?_; refine pn_ (i := 36) (N := some 54) HT_ ?_; refine pn_ (i := 37) (N := some 55) HT_ ?_; refine pn_ (i := 38) (N := some 56) HT_ ?_; refine pn_ (i := 39) (N := some 57) HT_ ?_; refine pn_ (i := 40) (N := some 58) HT_ ?_; refine pn_ (i := 41) (N := some 59) HT_ ?_; refine pn_ (i := 42) (N := some 60) HT_ ?_; refine pn_ (i := 43) (N := some 61) HT_ ?_; refine pu_ (i := 44) (N := some 62) HT_ ?_; refine pu_ (i := 45) (N := some 63) HT_ ?_; refine pu_ (i := 46) (N := some 64) HT_ ?_
             refine done_ (done_of HT_.out (by kernel_rfl)) ?_
             try go_wp2
             first | go_meet | ((try simp only [← hji16]); go_meet)
             case rel => exact ⟨_, (true), (by first | rfl | (simp; done) | (simp [*]; done)), H', ⟨by have := HK1.out; first | omega | exact Nat.le_refl _⟩, ⟨by refine kb_ ?_; exact BK364.out⟩, ⟨by refine kb_ ?_; exact BK367.out⟩, ⟨hbA_ HB.out⟩⟩
            ·rw [if_neg c19] at H
             have c19b0 : decide (((rd_T28 l0_0 x4_1).f5) < (wrap64 (((rd_T28 l0_0 (ji16)).f5) + (((rd_T28 l0_0 (ji16)).f8).length : Int)))) = false := decide_eq_false c19
             clear c19
             have H' := Aside0.mk H
             clear H
             try go_wp2
             obtain ⟨w24, h_w24⟩ : ∃ w_, (((((((((w7.setCell ⟨gb367, 0, none⟩ (.int .i64 ((rd_T28 l0_0 x4_1).f0))).setCell ⟨gb367, 1, none⟩ (.int .i64 ((rd_T28 l0_0 x4_1).f1))).setCell ⟨gb367, 2, none⟩ (.int .i64 ((rd_T28 l0_0 x4_1).f2))).setCell ⟨gb367, 3, none⟩ (.int .i64 ((rd_T28 l0_0 x4_1).f3))).setCell ⟨gb367, 4, none⟩ (.int .i64 ((rd_T28 l0_0 x4_1).f4))).setCell ⟨gb367, 5, none⟩ (.int .i64 ((rd_T28 l0_0 x4_1).f5))).setCell ⟨gb367, 6, none⟩ (.bool ((rd_T28 l0_0 x4_1).f6))).setCell ⟨gb367, 7, none⟩ (.bool ((rd_T28 l0_0 x4_1).f7))).setCell ⟨gb367, 8, none⟩ (.slice A366_8 ((rd_T28 l0_0 x4_1).f8).length c366_8)) = w_ := ⟨_, rfl⟩
             have n0_ : Aside0 (w24.heap[gb364]? = some (.cells #[.slice (some ad366) l0_0.length c0_0, .int .i64 a0_1] 25 (0, 0))) := ⟨by subst h_w24; exact kf_ BK364.out⟩
             have n1_ : Aside0 (w24.heap[gb367]? = some (.cells #[.int .i64 ((rd_T28 l0_0 x4_1).f0), .int .i64 ((rd_T28 l0_0 x4_1).f1), .int .i64 ((rd_T28 l0_0 x4_1).f2), .int .i64 ((rd_T28 l0_0 x4_1).f3), .int .i64 ((rd_T28 l0_0 x4_1).f4), .int .i64 ((rd_T28 l0_0 x4_1).f5), .bool ((rd_T28 l0_0 x4_1).f6), .bool ((rd_T28 l0_0 x4_1).f7), .slice A366_8 ((rd_T28 l0_0 x4_1).f8).length c366_8] 28 (0, 0))) := ⟨by subst h_w24; refine kb_ ?_; refine pz9 (cs := #[.int .i64 0, .int .i64 0, .int .i64 0, .int .i64 0, .int .i64 0, .int .i64 0, .bool false, .bool false, .slice none 0 0]) ?_; refine kb_ ?_; exact BK367.out⟩
             have n2_ : Aside0 (Below w.heap.size w w24) := ⟨by subst h_w24; exact hbA_ HB.out⟩
             (try clear BK364); (try clear BK367); (try clear HB)
             (try rw [h_w24]); clear h_w24
             have BK364 := n0_; have BK367 := n1_; have HB := n2_; clear n0_ n1_ n2_; replace BK364 := Aside0.mk (blk_drew BK364.out); replace BK367 := Aside0.mk (blk_drew BK367.out); replace HB := (bd_ HB)
             have p369 : 0 ≤ (0 : Int) := (by omega)
             have q369 : 0 < (l0_0.length : Int) := of_decide_eq_true (by first | (with_reducible assumption) | assumption)
             obtain ⟨ad369, A369_8, c369_8, e369, hx369_0, hx369_1, hx369_2, hx369_3, hx369_4, hx369_5, hx369_6, hx369_7, hx369_8, hl369_8, hi369_8⟩ := at_T28 HR0_0.out 0 p369 q369
             (try simp only [show ((0 : Int)).toNat = 0 from rfl, show 0 * 9 = 0 from rfl, Addr.add_zero'] at hx369_0 hx369_1 hx369_2 hx369_3 hx369_4 hx369_5 hx369_6 hx369_7 hx369_8); have hw369_8 := hx369_8; have hw369_7 := hx369_7; have hw369_6 := hx369_6; have hw369_5 := hx369_5; have hw369_4 := hx369_4; have hw369_3 := hx369_3; have hw369_2 := hx369_2; have hw369_1 := hx369_1; have hw369_0 := hx369_0
             obtain rfl : ad366 = ad369 := (by injection e369)
             have qi369 : (0 < l0_0.length) = True := eq_true (by omega)
             replace hx369_0 := cc_ HB hx369_0
             replace hx369_1 := cc_ HB hx369_1
             replace hx369_2 := cc_ HB hx369_2
             replace hx369_3 := cc_ HB hx369_3
             replace hx369_4 := cc_ HB hx369_4
             replace hx369_5 := cc_ HB hx369_5
             replace hx369_6 := cc_ HB hx369_6
             replace hx369_7 := cc_ HB hx369_7
             replace hx369_8 := cc_ HB hx369_8
             have HR369_8 := Aside0.mk hi369_8; have HC369_8 := Aside0.mk hl369_8; clear hi369_8 hl369_8
             replace p369 := eq_true p369
             replace q369 := eq_true q369
             have p371 : 0 ≤ ((ji16) : Int) := of_decide_eq_true (by first | (with_reducible assumption) | assumption)
             have q371 : (ji16) < (l0_0.length : Int) := of_decide_eq_true (by first | (with_reducible assumption) | assumption)
             obtain ⟨ad371, A371_8, c371_8, e371, hx371_0, hx371_1, hx371_2, hx371_3, hx371_4, hx371_5, hx371_6, hx371_7, hx371_8, hl371_8, hi371_8⟩ := at_T28 HR0_0.out (ji16) p371 q371
             have hw371_8 := hx371_8; have hw371_7 := hx371_7; have hw371_6 := hx371_6; have hw371_5 := hx371_5; have hw371_4 := hx371_4; have hw371_3 := hx371_3; have hw371_2 := hx371_2; have hw371_1 := hx371_1; have hw371_0 := hx371_0
             obtain rfl : ad366 = ad371 := (by injection e371)
             replace hx371_0 := cc_ HB hx371_0
             replace hx371_1 := cc_ HB hx371_1
             replace hx371_2 := cc_ HB hx371_2
             replace hx371_3 := cc_ HB hx371_3
             replace hx371_4 := cc_ HB hx371_4
             replace hx371_5 := cc_ HB hx371_5
             replace hx371_6 := cc_ HB hx371_6
             replace hx371_7 := cc_ HB hx371_7
             replace hx371_8 := cc_ HB hx371_8
             have HR371_8 := Aside0.mk hi371_8; have HC371_8 := Aside0.mk hl371_8; clear hi371_8 hl371_8
             replace p371 := eq_true p371
             replace q371 := eq_true q371
             have p372 : 0 ≤ ((ji16) : Int) := of_decide_eq_true (by first | (with_reducible assumption) | assumption)
             have q372 : (ji16) < (l0_0.length : Int) := of_decide_eq_true (by first | (with_reducible assumption) | assumption)
             obtain ⟨ad372, A372_8, c372_8, e372, hx372_0, hx372_1, hx372_2, hx372_3, hx372_4, hx372_5, hx372_6, hx372_7, hx372_8, hl372_8, hi372_8⟩ := at_T28 HR0_0.out (ji16) p372 q372
             have hw372_8 := hx372_8; have hw372_7 := hx372_7; have hw372_6 := hx372_6; have hw372_5 := hx372_5; have hw372_4 := hx372_4; have hw372_3 := hx372_3; have hw372_2 := hx372_2; have hw372_1 := hx372_1; have hw372_0 := hx372_0
             obtain rfl : ad366 = ad372 := (by injection e372)
             replace hx372_0 := cc_ HB hx372_0
             replace hx372_1 := cc_ HB hx372_1
             replace hx372_2 := cc_ HB hx372_2
             replace hx372_3 := cc_ HB hx372_3
             replace hx372_4 := cc_ HB hx372_4
             replace hx372_5 := cc_ HB hx372_5
             replace hx372_6 := cc_ HB hx372_6
             replace hx372_7 := cc_ HB hx372_7
             replace hx372_8 := cc_ HB hx372_8
             have HR372_8 := Aside0.mk hi372_8; have HC372_8 := Aside0.mk hl372_8; clear hi372_8 hl372_8
             replace p372 := eq_true p372
             replace q372 := eq_true q372
             have ea_ := Option.some.inj (hx371_8.symm.trans hx372_8)
             injection ea_ with ea_ en_ ec_
             subst ea_; subst ec_; clear en_
             have p373 : 0 ≤ ((ji16) : Int) := of_decide_eq_true (by first | (with_reducible assumption) | assumption)
             have q373 : (ji16) < (l0_0.length : Int) := of_decide_eq_true (by first | (with_reducible assumption) | assumption)
             obtain ⟨ad373, A373_8, c373_8, e373, hx373_0, hx373_1, hx373_2, hx373_3, hx373_4, hx373_5, hx373_6, hx373_7, hx373_8, hl373_8, hi373_8⟩ := at_T28 HR0_0.out (ji16) p373 q373
             have hw373_8 := hx373_8; have hw373_7 := hx373_7; have hw373_6 := hx373_6; have hw373_5 := hx373_5; have hw373_4 := hx373_4; have hw373_3 := hx373_3; have hw373_2 := hx373_2; have hw373_1 := hx373_1; have hw373_0 := hx373_0
             obtain rfl : ad366 = ad373 := (by injection e373)
             replace hx373_0 := cc_ HB hx373_0
             replace hx373_1 := cc_ HB hx373_1
             replace hx373_2 := cc_ HB hx373_2
             replace hx373_3 := cc_ HB hx373_3
             replace hx373_4 := cc_ HB hx373_4
             replace hx373_5 := cc_ HB hx373_5
             replace hx373_6 := cc_ HB hx373_6
             replace hx373_7 := cc_ HB hx373_7
             replace hx373_8 := cc_ HB hx373_8
             have HR373_8 := Aside0.mk hi373_8; have HC373_8 := Aside0.mk hl373_8; clear hi373_8 hl373_8
             replace p373 := eq_true p373
             replace q373 := eq_true q373
             have ea_ := Option.some.inj (hx371_8.symm.trans hx373_8)
             injection ea_ with ea_ en_ ec_
             subst ea_; subst ec_; clear en_
             refine start_ (n := 47) (S := fun w' => w'.cell? ⟨gb367, 0, none⟩ = some (.int .i64 ((rd_T28 l0_0 x4_1).f0)) ∧ w'.cell? ⟨gb367, 1, none⟩ = some (.int .i64 ((rd_T28 l0_0 x4_1).f1)) ∧ w'.cell? ⟨gb367, 2, none⟩ = some (.int .i64 ((rd_T28 l0_0 x4_1).f2)) ∧ w'.cell? ⟨gb367, 3, none⟩ = some (.int .i64 ((rd_T28 l0_0 x4_1).f3)) ∧ w'.cell? ⟨gb367, 4, none⟩ = some (.int .i64 ((rd_T28 l0_0 x4_1).f4)) ∧ w'.cell? ⟨gb367, 5, none⟩ = some (.int .i64 ((rd_T28 l0_0 x4_1).f5)) ∧ w'.cell? ⟨gb367, 6, none⟩ = some (.bool ((rd_T28 l0_0 x4_1).f6)) ∧ w'.cell? ⟨gb367, 7, none⟩ = some (.bool ((rd_T28 l0_0 x4_1).f7)) ∧ w'.cell? ⟨gb367, 8, none⟩ = some (.slice A366_8 ((rd_T28 l0_0 x4_1).f8).length c366_8) ∧ w'.cell? ⟨gb364, 0, none⟩ = some (.slice (some ad366) l0_0.length c0_0) ∧ w'.cell? ⟨gb364, 1, none⟩ = some (.int .i64 a0_1) ∧ w'.cell? ad366 = some (.int .i64 ((rd_T28 l0_0 0).f0)) ∧ w'.cell? ⟨ad366.block, ad366.off + 1, none⟩ = some (.int .i64 ((rd_T28 l0_0 0).f1)) ∧ w'.cell? ⟨ad366.block, ad366.off + 2, none⟩ = some (.int .i64 ((rd_T28 l0_0 0).f2)) ∧ w'.cell? ⟨ad366.block, ad366.off + 3, none⟩ = some (.int .i64 ((rd_T28 l0_0 0).f3)) ∧ w'.cell? ⟨ad366.block, ad366.off + 4, none⟩ = some (.int .i64 ((rd_T28 l0_0 0).f4)) ∧ w'.cell? ⟨ad366.block, ad366.off + 5, none⟩ = some (.int .i64 ((rd_T28 l0_0 0).f5)) ∧ w'.cell? ⟨ad366.block, ad366.off + 6, none⟩ = some (.bool ((rd_T28 l0_0 0).f6)) ∧ w'.cell? ⟨ad366.block, ad366.off + 7, none⟩ = some (.bool ((rd_T28 l0_0 0).f7)) ∧ w'.cell? ⟨ad366.block, ad366.off + 8, none⟩ = some (.slice A369_8 ((rd_T28 l0_0 0).f8).length c369_8) ∧ w'.cell? (ad366.add (((ji16)).toNat * 9)) = some (.int .i64 ((rd_T28 l0_0 (ji16)).f0)) ∧ w'.cell? ⟨(ad366.add (((ji16)).toNat * 9)).block, (ad366.add (((ji16)).toNat * 9)).off + 1, none⟩ = some (.int .i64 ((rd_T28 l0_0 (ji16)).f1)) ∧ w'.cell? ⟨(ad366.add (((ji16)).toNat * 9)).block, (ad366.add (((ji16)).toNat * 9)).off + 2, none⟩ = some (.int .i64 ((rd_T28 l0_0 (ji16)).f2)) ∧ w'.cell? ⟨(ad366.add (((ji16)).toNat * 9)).block, (ad366.add (((ji16)).toNat * 9)).off + 3, none⟩ = some (.int .i64 ((rd_T28 l0_0 (ji16)).f3)) ∧ w'.cell? ⟨(ad366.add (((ji16)).toNat * 9)).block, (ad366.add (((ji16)).toNat * 9)).off + 4, none⟩ = some (.int .i64 ((rd_T28 l0_0 (ji16)).f4)) ∧ w'.cell? ⟨(ad366.add (((ji16)).toNat * 9)).block, (ad366.add (((ji16)).toNat * 9)).off + 5, none⟩ = some (.int .i64 ((rd_T28 l0_0 (ji16)).f5)) ∧ w'.cell? ⟨(ad366.add (((ji16)).toNat * 9)).block, (ad366.add (((ji16)).toNat * 9)).off + 6, none⟩ = some (.bool ((rd_T28 l0_0 (ji16)).f6)) ∧ w'.cell? ⟨(ad366.add (((ji16)).toNat * 9)).block, (ad366.add (((ji16)).toNat * 9)).off + 7, none⟩ = some (.bool ((rd_T28 l0_0 (ji16)).f7)) ∧ w'.cell? ⟨(ad366.add (((ji16)).toNat * 9)).block, (ad366.add (((ji16)).toNat * 9)).off + 8, none⟩ = some (.slice A371_8 ((rd_T28 l0_0 (ji16)).f8).length c371_8) ∧ w'.cell? (ad366.add (((ji16)).toNat * 9)) = some (.int .i64 ((rd_T28 l0_0 (ji16)).f0)) ∧ w'.cell? ⟨(ad366.add (((ji16)).toNat * 9)).block, (ad366.add (((ji16)).toNat * 9)).off + 1, none⟩ = some (.int .i64 ((rd_T28 l0_0 (ji16)).f1)) ∧ w'.cell? ⟨(ad366.add (((ji16)).toNat * 9)).block, (ad366.add (((ji16)).toNat * 9)).off + 2, none⟩ = some (.int .i64 ((rd_T28 l0_0 (ji16)).f2)) ∧ w'.cell? ⟨(ad366.add (((ji16)).toNat * 9)).block, (ad366.add (((ji16)).toNat * 9)).off + 3, none⟩ = some (.int .i64 ((rd_T28 l0_0 (ji16)).f3)) ∧ w'.cell? ⟨(ad366.add (((ji16)).toNat * 9)).block, (ad366.add (((ji16)).toNat * 9)).off + 4, none⟩ = some (.int .i64 ((rd_T28 l0_0 (ji16)).f4)) ∧ w'.cell? ⟨(ad366.add (((ji16)).toNat * 9)).block, (ad366.add (((ji16)).toNat * 9)).off + 5, none⟩ = some (.int .i64 ((rd_T28 l0_0 (ji16)).f5)) ∧ w'.cell? ⟨(ad366.add (((ji16)).toNat * 9)).block, (ad366.add (((ji16)).toNat * 9)).off + 6, none⟩ = some (.bool ((rd_T28 l0_0 (ji16)).f6)) ∧ w'.cell? ⟨(ad366.add (((ji16)).toNat * 9)).block, (ad366.add (((ji16)).toNat * 9)).off + 7, none⟩ = some (.bool ((rd_T28 l0_0 (ji16)).f7)) ∧ w'.cell? ⟨(ad366.add (((ji16)).toNat * 9)).block, (ad366.add (((ji16)).toNat * 9)).off + 8, none⟩ = some (.slice A371_8 ((rd_T28 l0_0 (ji16)).f8).length c371_8) ∧ w'.cell? (ad366.add (((ji16)).toNat * 9)) = some (.int .i64 ((rd_T28 l0_0 (ji16)).f0)) ∧ w'.cell? ⟨(ad366.add (((ji16)).toNat * 9)).block, (ad366.add (((ji16)).toNat * 9)).off + 1, none⟩ = some (.int .i64 ((rd_T28 l0_0 (ji16)).f1)) ∧ w'.cell? ⟨(ad366.add (((ji16)).toNat * 9)).block, (ad366.add (((ji16)).toNat * 9)).off + 2, none⟩ = some (.int .i64 ((rd_T28 l0_0 (ji16)).f2)) ∧ w'.cell? ⟨(ad366.add (((ji16)).toNat * 9)).block, (ad366.add (((ji16)).toNat * 9)).off + 3, none⟩ = some (.int .i64 ((rd_T28 l0_0 (ji16)).f3)) ∧ w'.cell? ⟨(ad366.add (((ji16)).toNat * 9)).block, (ad366.add (((ji16)).toNat * 9)).off + 4, none⟩ = some (.int .i64 ((rd_T28 l0_0 (ji16)).f4)) ∧ w'.cell? ⟨(ad366.add (((ji16)).toNat * 9)).block, (ad366.add (((ji16)).toNat * 9)).off + 5, none⟩ = some (.int .i64 ((rd_T28 l0_0 (ji16)).f5)) ∧ w'.cell? ⟨(ad366.add (((ji16)).toNat * 9)).block, (ad366.add (((ji16)).toNat * 9)).off + 6, none⟩ = some (.bool ((rd_T28 l0_0 (ji16)).f6)) ∧ w'.cell? ⟨(ad366.add (((ji16)).toNat * 9)).block, (ad366.add (((ji16)).toNat * 9)).off + 7, none⟩ = some (.bool ((rd_T28 l0_0 (ji16)).f7)) ∧ w'.cell? ⟨(ad366.add (((ji16)).toNat * 9)).block, (ad366.add (((ji16)).toNat * 9)).off + 8, none⟩ = some (.slice A371_8 ((rd_T28 l0_0 (ji16)).f8).length c371_8)) (ds := []) #[false, false, false, false, false, false, false, false, false, false, false, false, false, false, false, false, false, false, false, false, false, false, false, false, false, false, false, false, false, false, false, false, false, false, false, false, false, false, false, false, false, false, false, false, false, false, false] (by kernel_rfl) rfl rfl ⟨bc_ BK367 0, bc_ BK367 1, bc_ BK367 2, bc_ BK367 3, bc_ BK367 4, bc_ BK367 5, bc_ BK367 6, bc_ BK367 7, bc_ BK367 8, bc_ BK364 0, bc_ BK364 1, (cc_ HB hw369_0), (cc_ HB hw369_1), (cc_ HB hw369_2), (cc_ HB hw369_3), (cc_ HB hw369_4), (cc_ HB hw369_5), (cc_ HB hw369_6), (cc_ HB hw369_7), (cc_ HB hw369_8), (cc_ HB hw371_0), (cc_ HB hw371_1), (cc_ HB hw371_2), (cc_ HB hw371_3), (cc_ HB hw371_4), (cc_ HB hw371_5), (cc_ HB hw371_6), (cc_ HB hw371_7), (cc_ HB hw371_8), (cc_ HB hw372_0), (cc_ HB hw372_1), (cc_ HB hw372_2), (cc_ HB hw372_3), (cc_ HB hw372_4), (cc_ HB hw372_5), (cc_ HB hw372_6), (cc_ HB hw372_7), (cc_ HB hw372_8), (cc_ HB hw373_0), (cc_ HB hw373_1), (cc_ HB hw373_2), (cc_ HB hw373_3), (cc_ HB hw373_4), (cc_ HB hw373_5), (cc_ HB hw373_6), (cc_ HB hw373_7), (cc_ HB hw373_8)⟩ (fun hHeld => ?_); refine with_tabW spec_PartOk.tab6 spec_PartOk.bits6 (fun HT_ HW_ => ?_)
             generalize w24.drew = w25 at BK364 BK367 HB HR369_8 HR371_8 HR372_8 HR373_8 hx369_0 hx369_1 hx369_2 hx369_3 hx369_4 hx369_5 hx369_6 hx369_7 hx369_8 hx371_0 hx371_1 hx371_2 hx371_3 hx371_4 hx371_5 hx371_6 hx371_7 hx371_8 hx372_0 hx372_1 hx372_2 hx372_3 hx372_4 hx372_5 hx372_6 hx372_7 hx372_8 hx373_0 hx373_1 hx373_2 hx373_3 hx373_4 hx373_5 hx373_6 hx373_7 hx373_8 hHeld ⊢
             refine tk_ (i := 0) (N := some 18) HT_ HW_ hHeld ?_
             refine on_ (i := 1) (N := some 19) HT_ (fun K hK => ?_)
             refine goes_ Try.func77 (by kernel_rfl) rfl #[.agg #[.int .i64 ((rd_T28 l0_0 x4_1).f0), .int .i64 ((rd_T28 l0_0 x4_1).f1), .int .i64 ((rd_T28 l0_0 x4_1).f2), .int .i64 ((rd_T28 l0_0 x4_1).f3), .int .i64 ((rd_T28 l0_0 x4_1).f4), .int .i64 ((rd_T28 l0_0 x4_1).f5), .bool ((rd_T28 l0_0 x4_1).f6), .bool ((rd_T28 l0_0 x4_1).f7), .slice A366_8 ((rd_T28 l0_0 x4_1).f8).length c366_8]] (by rfl) rfl rfl ar_ ?_
             with_reducible refine (spec_PacketOk.calls k1 ((rd_T28 l0_0 x4_1).f0) ((rd_T28 l0_0 x4_1).f1) ((rd_T28 l0_0 x4_1).f2) ((rd_T28 l0_0 x4_1).f3) ((rd_T28 l0_0 x4_1).f4) ((rd_T28 l0_0 x4_1).f5) ((rd_T28 l0_0 x4_1).f6) ((rd_T28 l0_0 x4_1).f7) _ _ ((rd_T28 l0_0 x4_1).f8) true _ ?side1 ?side2 A10.out).mono ?_
             (case side1 => exact kC_ (Kd.C_below HR366_8.out HB.out))
             (case side2 => exact HC366_8.out)
             rintro e w26 ⟨rfl, hb⟩
             refine ⟨_, rfl, ?_⟩
             replace BK364 := (bbA_ BK364 hb); replace BK367 := (bbA_ BK367 hb); replace HB := (bs_ HB hb); (try clear hb); (try clear hb2); (try clear hk); (try clear hi)
             refine hK.out _ _ ⟨bc_ BK367 0, bc_ BK367 1, bc_ BK367 2, bc_ BK367 3, bc_ BK367 4, bc_ BK367 5, bc_ BK367 6, bc_ BK367 7, bc_ BK367 8, bc_ BK364 0, bc_ BK364 1, (cc_ HB hw369_0), (cc_ HB hw369_1), (cc_ HB hw369_2), (cc_ HB hw369_3), (cc_ HB hw369_4), (cc_ HB hw369_5), (cc_ HB hw369_6), (cc_ HB hw369_7), (cc_ HB hw369_8), (cc_ HB hw371_0), (cc_ HB hw371_1), (cc_ HB hw371_2), (cc_ HB hw371_3), (cc_ HB hw371_4), (cc_ HB hw371_5), (cc_ HB hw371_6), (cc_ HB hw371_7), (cc_ HB hw371_8), (cc_ HB hw372_0), (cc_ HB hw372_1), (cc_ HB hw372_2), (cc_ HB hw372_3), (cc_ HB hw372_4), (cc_ HB hw372_5), (cc_ HB hw372_6), (cc_ HB hw372_7), (cc_ HB hw372_8), (cc_ HB hw373_0), (cc_ HB hw373_1), (cc_ HB hw373_2), (cc_ HB hw373_3), (cc_ HB hw373_4), (cc_ HB hw373_5), (cc_ HB hw373_6), (cc_ HB hw373_7), (cc_ HB hw373_8)⟩ (fun hHeld => ?_)
             clear hK K; refine nm_ 19 ?_; refine pu_ (i := 2) (N := some 20) HT_ ?_; refine pu_ (i := 3) (N := some 21) HT_ ?_; refine pu_ (i := 5) (N := some 23) HT_ ?_; refine tk_ (i := 4) (N := some 22) HT_ HW_ hHeld ?_; refine tk_ (i := 6) (N := some 24) HT_ HW_ hHeld ?_; refine pu_ (i := 7) (N := some 25) HT_ ?_; refine tk_ (i := 8) (N := some 26) HT_ HW_ hHeld ?_
             refine on_ (i := 9) (N := some 27) HT_ (fun K hK => ?_)
             refine goes_ Try.func83 (by kernel_rfl) rfl #[.agg #[.int .i64 ((rd_T28 l0_0 x4_1).f0), .int .i64 ((rd_T28 l0_0 x4_1).f1), .int .i64 ((rd_T28 l0_0 x4_1).f2), .int .i64 ((rd_T28 l0_0 x4_1).f3), .int .i64 ((rd_T28 l0_0 x4_1).f4), .int .i64 ((rd_T28 l0_0 x4_1).f5), .bool ((rd_T28 l0_0 x4_1).f6), .bool ((rd_T28 l0_0 x4_1).f7), .slice A366_8 ((rd_T28 l0_0 x4_1).f8).length c366_8], .agg #[.int .i64 ((rd_T28 l0_0 0).f0), .int .i64 ((rd_T28 l0_0 0).f1), .int .i64 ((rd_T28 l0_0 0).f2), .int .i64 ((rd_T28 l0_0 0).f3), .int .i64 ((rd_T28 l0_0 0).f4), .int .i64 ((rd_T28 l0_0 0).f5), .bool ((rd_T28 l0_0 0).f6), .bool ((rd_T28 l0_0 0).f7), .slice A369_8 ((rd_T28 l0_0 0).f8).length c369_8]] (by rfl) rfl rfl ar_ ?_
             with_reducible refine (spec_l5Same.calls ((rd_T28 l0_0 x4_1).f0) ((rd_T28 l0_0 x4_1).f1) ((rd_T28 l0_0 x4_1).f2) ((rd_T28 l0_0 x4_1).f3) ((rd_T28 l0_0 x4_1).f4) ((rd_T28 l0_0 x4_1).f5) ((rd_T28 l0_0 x4_1).f6) ((rd_T28 l0_0 x4_1).f7) _ _ ((rd_T28 l0_0 x4_1).f8) ((rd_T28 l0_0 0).f0) ((rd_T28 l0_0 0).f1) ((rd_T28 l0_0 0).f2) ((rd_T28 l0_0 0).f3) ((rd_T28 l0_0 0).f4) ((rd_T28 l0_0 0).f5) ((rd_T28 l0_0 0).f6) ((rd_T28 l0_0 0).f7) _ _ ((rd_T28 l0_0 0).f8) true _ ?side1 ?side2 ?side3 ?side4 A13.out).mono ?_
             (case side1 => exact kC_ (Kd.C_below HR366_8.out HB.out))
             (case side2 => exact HC366_8.out)
             (case side3 => exact kC_ (Kd.C_below HR369_8.out HB.out))
             (case side4 => exact HC369_8.out)
             rintro e w27 ⟨rfl, hb⟩
             refine ⟨_, rfl, ?_⟩
             replace BK364 := (bbA_ BK364 hb); replace BK367 := (bbA_ BK367 hb); replace HB := (bs_ HB hb); (try clear hb); (try clear hb2); (try clear hk); (try clear hi)
             refine hK.out _ _ ⟨bc_ BK367 0, bc_ BK367 1, bc_ BK367 2, bc_ BK367 3, bc_ BK367 4, bc_ BK367 5, bc_ BK367 6, bc_ BK367 7, bc_ BK367 8, bc_ BK364 0, bc_ BK364 1, (cc_ HB hw369_0), (cc_ HB hw369_1), (cc_ HB hw369_2), (cc_ HB hw369_3), (cc_ HB hw369_4), (cc_ HB hw369_5), (cc_ HB hw369_6), (cc_ HB hw369_7), (cc_ HB hw369_8), (cc_ HB hw371_0), (cc_ HB hw371_1), (cc_ HB hw371_2), (cc_ HB hw371_3), (cc_ HB hw371_4), (cc_ HB hw371_5), (cc_ HB hw371_6), (cc_ HB hw371_7), (cc_ HB hw371_8), (cc_ HB hw372_0), (cc_ HB hw372_1), (cc_ HB hw372_2), (cc_ HB hw372_3), (cc_ HB hw372_4), (cc_ HB hw372_5), (cc_ HB hw372_6), (cc_ HB hw372_7), (cc_ HB hw372_8), (cc_ HB hw373_0), (cc_ HB hw373_1), (cc_ HB hw373_2), (cc_ HB hw373_3), (cc_ HB hw373_4), (cc_ HB hw373_5), (cc_ HB hw373_6), (cc_ HB hw373_7), (cc_ HB hw373_8)⟩ (fun hHeld => ?_)
             clear hK K; refine nm_ 27 ?_; refine pu_ (i := 10) (N := some 28) HT_ ?_; refine pu_ (i := 11) (N := some 29) HT_ ?_; refine pu_ (i := 12) (N := some 30) HT_ ?_; refine pu_ (i := 13) (N := some 31) HT_ ?_; refine pu_ (i := 14) (N := some 32) HT_ ?_; refine pu_ (i := 15) (N := some 33) HT_ ?_; refine pu_ (i := 16) (N := some 34) HT_ ?_; refine pu_ (i := 18) (N := some 36) HT_ ?_; refine pu_ (i := 20) (N := some 38) HT_ ?_; refine pu_ (i := 21) (N := some 39) HT_ ?_; refine pu_ (i := 25) (N := some 43) HT_ ?_; refine pu_ (i := 27) (N := some 45) HT_ ?_; refine pu_ (i := 28) (N := some 46) HT_ ?_; refine tk_ (i := 17) (N := some 35) HT_ HW_ hHeld ?_; refine tk_ (i := 19) (N := some 37) HT_ HW_ hHeld ?_; refine pu_ (i := 22) (N := some 40) HT_ ?_; refine pu_ (i := 23) (N := some 41) HT_ ?_; refine tk_ (i := 24) (N := some 42) HT_ HW_ hHeld ?_; refine tk_ (i := 26) (N := some 44) HT_ HW_ hHeld ?_; refine pu_ (i := 29) (N := some 47) HT_ ?_; refine pu_ (i := 30) (N := some 48) HT_ ?_; refine tk_ (i := 31) (N := some 49) HT_ HW_ hHeld ?_; refine pu_ (i := 32) (N := some 50) HT_ ?_; refine pu_ (i := 33) (N := some 51) HT_ ?_; refine pu_ (i := 34) (N := some 52) HT_ ?_; refine pu_ (i := 35) (N := some 53) HT_ ?_; refine pu_ (i := 36) (N := some 54) HT_ ?_; refine pu_ (i := 38) (N := some 56) HT_ ?_; refine pu_ (i := 39) (N := some 57) HT_ ?_; refine tk_ (i := 37) (N := some 55) HT_ HW_ hHeld ?_; refine pu_ (i := 40) (N := some 58) HT_ ?_; refine pu_ (i := 41) (N := some 59) HT_ ?_; refine tk_ (i := 42) (N := some 60) HT_ HW_ hHeld ?_; refine pu_ (i := 43) (N := some 61) HT_ ?_; refine pu_ (i := 44) (N := some 62) HT_ ?_; refine pu_ (i := 45) (N := some 63) HT_ ?_; refine pu_ (i := 46) (N := some 64) HT_ ?_
             refine done_ (done_of HT_.out (by kernel_rfl)) ?_
             try go_wp2
             first | go_meet | ((try simp only [← hji16]); go_meet)
             case rel => exact ⟨_, (!((rd_T28 l0_0 (ji16)).f6)), (by first | rfl | (simp; done) | (simp only [← hji16] <;> (first | rfl | simp)) | (simp [*]; done)), H', ⟨by have := HK1.out; first | omega | exact Nat.le_refl _⟩, ⟨by refine kb_ ?_; exact BK364.out⟩, ⟨by refine kb_ ?_; exact BK367.out⟩, ⟨hbA_ HB.out⟩⟩
           ·rw [if_neg c18] at H
            exact absurd H (by simp)
          ·rw [if_neg c17] at H
           exact absurd H (by simp)
         ·rw [if_neg c15] at H
          have c15b0 : decide (0 < x4_1) = false := decide_eq_false c15
          clear c15
          have H' := Aside0.mk H
          clear H
          try go_wp2
          obtain ⟨w28, h_w28⟩ : ∃ w_, (((((((((w7.setCell ⟨gb367, 0, none⟩ (.int .i64 ((rd_T28 l0_0 x4_1).f0))).setCell ⟨gb367, 1, none⟩ (.int .i64 ((rd_T28 l0_0 x4_1).f1))).setCell ⟨gb367, 2, none⟩ (.int .i64 ((rd_T28 l0_0 x4_1).f2))).setCell ⟨gb367, 3, none⟩ (.int .i64 ((rd_T28 l0_0 x4_1).f3))).setCell ⟨gb367, 4, none⟩ (.int .i64 ((rd_T28 l0_0 x4_1).f4))).setCell ⟨gb367, 5, none⟩ (.int .i64 ((rd_T28 l0_0 x4_1).f5))).setCell ⟨gb367, 6, none⟩ (.bool ((rd_T28 l0_0 x4_1).f6))).setCell ⟨gb367, 7, none⟩ (.bool ((rd_T28 l0_0 x4_1).f7))).setCell ⟨gb367, 8, none⟩ (.slice A366_8 ((rd_T28 l0_0 x4_1).f8).length c366_8)) = w_ := ⟨_, rfl⟩
          have n0_ : Aside0 (w28.heap[gb364]? = some (.cells #[.slice (some ad366) l0_0.length c0_0, .int .i64 a0_1] 25 (0, 0))) := ⟨by subst h_w28; exact kf_ BK364.out⟩
          have n1_ : Aside0 (w28.heap[gb367]? = some (.cells #[.int .i64 ((rd_T28 l0_0 x4_1).f0), .int .i64 ((rd_T28 l0_0 x4_1).f1), .int .i64 ((rd_T28 l0_0 x4_1).f2), .int .i64 ((rd_T28 l0_0 x4_1).f3), .int .i64 ((rd_T28 l0_0 x4_1).f4), .int .i64 ((rd_T28 l0_0 x4_1).f5), .bool ((rd_T28 l0_0 x4_1).f6), .bool ((rd_T28 l0_0 x4_1).f7), .slice A366_8 ((rd_T28 l0_0 x4_1).f8).length c366_8] 28 (0, 0))) := ⟨by subst h_w28; refine kb_ ?_; refine pz9 (cs := #[.int .i64 0, .int .i64 0, .int .i64 0, .int .i64 0, .int .i64 0, .int .i64 0, .bool false, .bool false, .slice none 0 0]) ?_; refine kb_ ?_; exact BK367.out⟩
          have n2_ : Aside0 (Below w.heap.size w w28) := ⟨by subst h_w28; exact hbA_ HB.out⟩
          (try clear BK364); (try clear BK367); (try clear HB)
          (try rw [h_w28]); clear h_w28
          have BK364 := n0_; have BK367 := n1_; have HB := n2_; clear n0_ n1_ n2_; replace BK364 := Aside0.mk (blk_drew BK364.out); replace BK367 := Aside0.mk (blk_drew BK367.out); replace HB := (bd_ HB)
          have p369 : 0 ≤ (0 : Int) := (by omega)
          have q369 : 0 < (l0_0.length : Int) := of_decide_eq_true (by first | (with_reducible assumption) | assumption)
          obtain ⟨ad369, A369_8, c369_8, e369, hx369_0, hx369_1, hx369_2, hx369_3, hx369_4, hx369_5, hx369_6, hx369_7, hx369_8, hl369_8, hi369_8⟩ := at_T28 HR0_0.out 0 p369 q369
          (try simp only [show ((0 : Int)).toNat = 0 from rfl, show 0 * 9 = 0 from rfl, Addr.add_zero'] at hx369_0 hx369_1 hx369_2 hx369_3 hx369_4 hx369_5 hx369_6 hx369_7 hx369_8); have hw369_8 := hx369_8; have hw369_7 := hx369_7; have hw369_6 := hx369_6; have hw369_5 := hx369_5; have hw369_4 := hx369_4; have hw369_3 := hx369_3; have hw369_2 := hx369_2; have hw369_1 := hx369_1; have hw369_0 := hx369_0
          obtain rfl : ad366 = ad369 := (by injection e369)
          have qi369 : (0 < l0_0.length) = True := eq_true (by omega)
          replace hx369_0 := cc_ HB hx369_0
          replace hx369_1 := cc_ HB hx369_1
          replace hx369_2 := cc_ HB hx369_2
          replace hx369_3 := cc_ HB hx369_3
          replace hx369_4 := cc_ HB hx369_4
          replace hx369_5 := cc_ HB hx369_5
          replace hx369_6 := cc_ HB hx369_6
          replace hx369_7 := cc_ HB hx369_7
          replace hx369_8 := cc_ HB hx369_8
          have HR369_8 := Aside0.mk hi369_8; have HC369_8 := Aside0.mk hl369_8; clear hi369_8 hl369_8
          replace p369 := eq_true p369
          replace q369 := eq_true q369
          refine start_ (n := 47) (S := fun w' => w'.cell? ⟨gb367, 0, none⟩ = some (.int .i64 ((rd_T28 l0_0 x4_1).f0)) ∧ w'.cell? ⟨gb367, 1, none⟩ = some (.int .i64 ((rd_T28 l0_0 x4_1).f1)) ∧ w'.cell? ⟨gb367, 2, none⟩ = some (.int .i64 ((rd_T28 l0_0 x4_1).f2)) ∧ w'.cell? ⟨gb367, 3, none⟩ = some (.int .i64 ((rd_T28 l0_0 x4_1).f3)) ∧ w'.cell? ⟨gb367, 4, none⟩ = some (.int .i64 ((rd_T28 l0_0 x4_1).f4)) ∧ w'.cell? ⟨gb367, 5, none⟩ = some (.int .i64 ((rd_T28 l0_0 x4_1).f5)) ∧ w'.cell? ⟨gb367, 6, none⟩ = some (.bool ((rd_T28 l0_0 x4_1).f6)) ∧ w'.cell? ⟨gb367, 7, none⟩ = some (.bool ((rd_T28 l0_0 x4_1).f7)) ∧ w'.cell? ⟨gb367, 8, none⟩ = some (.slice A366_8 ((rd_T28 l0_0 x4_1).f8).length c366_8) ∧ w'.cell? ⟨gb364, 0, none⟩ = some (.slice (some ad366) l0_0.length c0_0) ∧ w'.cell? ⟨gb364, 1, none⟩ = some (.int .i64 a0_1) ∧ w'.cell? ad366 = some (.int .i64 ((rd_T28 l0_0 0).f0)) ∧ w'.cell? ⟨ad366.block, ad366.off + 1, none⟩ = some (.int .i64 ((rd_T28 l0_0 0).f1)) ∧ w'.cell? ⟨ad366.block, ad366.off + 2, none⟩ = some (.int .i64 ((rd_T28 l0_0 0).f2)) ∧ w'.cell? ⟨ad366.block, ad366.off + 3, none⟩ = some (.int .i64 ((rd_T28 l0_0 0).f3)) ∧ w'.cell? ⟨ad366.block, ad366.off + 4, none⟩ = some (.int .i64 ((rd_T28 l0_0 0).f4)) ∧ w'.cell? ⟨ad366.block, ad366.off + 5, none⟩ = some (.int .i64 ((rd_T28 l0_0 0).f5)) ∧ w'.cell? ⟨ad366.block, ad366.off + 6, none⟩ = some (.bool ((rd_T28 l0_0 0).f6)) ∧ w'.cell? ⟨ad366.block, ad366.off + 7, none⟩ = some (.bool ((rd_T28 l0_0 0).f7)) ∧ w'.cell? ⟨ad366.block, ad366.off + 8, none⟩ = some (.slice A369_8 ((rd_T28 l0_0 0).f8).length c369_8)) (ds := []) #[false, false, false, false, false, false, false, false, false, false, false, false, false, false, false, false, false, false, false, false, false, false, false, false, false, false, false, false, false, false, false, false, false, false, false, false, false, false, false, false, false, false, false, false, false, false, false] (by kernel_rfl) rfl rfl ⟨bc_ BK367 0, bc_ BK367 1, bc_ BK367 2, bc_ BK367 3, bc_ BK367 4, bc_ BK367 5, bc_ BK367 6, bc_ BK367 7, bc_ BK367 8, bc_ BK364 0, bc_ BK364 1, (cc_ HB hw369_0), (cc_ HB hw369_1), (cc_ HB hw369_2), (cc_ HB hw369_3), (cc_ HB hw369_4), (cc_ HB hw369_5), (cc_ HB hw369_6), (cc_ HB hw369_7), (cc_ HB hw369_8)⟩ (fun hHeld => ?_); refine with_tabW spec_PartOk.tab6 spec_PartOk.bits6 (fun HT_ HW_ => ?_)
          generalize w28.drew = w29 at BK364 BK367 HB HR369_8 hx369_0 hx369_1 hx369_2 hx369_3 hx369_4 hx369_5 hx369_6 hx369_7 hx369_8 hHeld ⊢
          refine tk_ (i := 0) (N := some 18) HT_ HW_ hHeld ?_
          refine on_ (i := 1) (N := some 19) HT_ (fun K hK => ?_)
          refine goes_ Try.func77 (by kernel_rfl) rfl #[.agg #[.int .i64 ((rd_T28 l0_0 x4_1).f0), .int .i64 ((rd_T28 l0_0 x4_1).f1), .int .i64 ((rd_T28 l0_0 x4_1).f2), .int .i64 ((rd_T28 l0_0 x4_1).f3), .int .i64 ((rd_T28 l0_0 x4_1).f4), .int .i64 ((rd_T28 l0_0 x4_1).f5), .bool ((rd_T28 l0_0 x4_1).f6), .bool ((rd_T28 l0_0 x4_1).f7), .slice A366_8 ((rd_T28 l0_0 x4_1).f8).length c366_8]] (by rfl) rfl rfl ar_ ?_
          with_reducible refine (spec_PacketOk.calls k1 ((rd_T28 l0_0 x4_1).f0) ((rd_T28 l0_0 x4_1).f1) ((rd_T28 l0_0 x4_1).f2) ((rd_T28 l0_0 x4_1).f3) ((rd_T28 l0_0 x4_1).f4) ((rd_T28 l0_0 x4_1).f5) ((rd_T28 l0_0 x4_1).f6) ((rd_T28 l0_0 x4_1).f7) _ _ ((rd_T28 l0_0 x4_1).f8) true _ ?side1 ?side2 A10.out).mono ?_
          (case side1 => exact kC_ (Kd.C_below HR366_8.out HB.out))
          (case side2 => exact HC366_8.out)
          rintro e w30 ⟨rfl, hb⟩
          refine ⟨_, rfl, ?_⟩
          replace BK364 := (bbA_ BK364 hb); replace BK367 := (bbA_ BK367 hb); replace HB := (bs_ HB hb); (try clear hb); (try clear hb2); (try clear hk); (try clear hi)
          refine hK.out _ _ ⟨bc_ BK367 0, bc_ BK367 1, bc_ BK367 2, bc_ BK367 3, bc_ BK367 4, bc_ BK367 5, bc_ BK367 6, bc_ BK367 7, bc_ BK367 8, bc_ BK364 0, bc_ BK364 1, (cc_ HB hw369_0), (cc_ HB hw369_1), (cc_ HB hw369_2), (cc_ HB hw369_3), (cc_ HB hw369_4), (cc_ HB hw369_5), (cc_ HB hw369_6), (cc_ HB hw369_7), (cc_ HB hw369_8)⟩ (fun hHeld => ?_)
          clear hK K; refine nm_ 19 ?_; refine pu_ (i := 2) (N := some 20) HT_ ?_; refine pu_ (i := 3) (N := some 21) HT_ ?_; refine pu_ (i := 5) (N := some 23) HT_ ?_; refine tk_ (i := 4) (N := some 22) HT_ HW_ hHeld ?_; refine tk_ (i := 6) (N := some 24) HT_ HW_ hHeld ?_; refine pu_ (i := 7) (N := some 25) HT_ ?_; refine tk_ (i := 8) (N := some 26) HT_ HW_ hHeld ?_
          refine on_ (i := 9) (N := some 27) HT_ (fun K hK => ?_)
          refine goes_ Try.func83 (by kernel_rfl) rfl #[.agg #[.int .i64 ((rd_T28 l0_0 x4_1).f0), .int .i64 ((rd_T28 l0_0 x4_1).f1), .int .i64 ((rd_T28 l0_0 x4_1).f2), .int .i64 ((rd_T28 l0_0 x4_1).f3), .int .i64 ((rd_T28 l0_0 x4_1).f4), .int .i64 ((rd_T28 l0_0 x4_1).f5), .bool ((rd_T28 l0_0 x4_1).f6), .bool ((rd_T28 l0_0 x4_1).f7), .slice A366_8 ((rd_T28 l0_0 x4_1).f8).length c366_8], .agg #[.int .i64 ((rd_T28 l0_0 0).f0), .int .i64 ((rd_T28 l0_0 0).f1), .int .i64 ((rd_T28 l0_0 0).f2), .int .i64 ((rd_T28 l0_0 0).f3), .int .i64 ((rd_T28 l0_0 0).f4), .int .i64 ((rd_T28 l0_0 0).f5), .bool ((rd_T28 l0_0 0).f6), .bool ((rd_T28 l0_0 0).f7), .slice A369_8 ((rd_T28 l0_0 0).f8).length c369_8]] (by rfl) rfl rfl ar_ ?_
          with_reducible refine (spec_l5Same.calls ((rd_T28 l0_0 x4_1).f0) ((rd_T28 l0_0 x4_1).f1) ((rd_T28 l0_0 x4_1).f2) ((rd_T28 l0_0 x4_1).f3) ((rd_T28 l0_0 x4_1).f4) ((rd_T28 l0_0 x4_1).f5) ((rd_T28 l0_0 x4_1).f6) ((rd_T28 l0_0 x4_1).f7) _ _ ((rd_T28 l0_0 x4_1).f8) ((rd_T28 l0_0 0).f0) ((rd_T28 l0_0 0).f1) ((rd_T28 l0_0 0).f2) ((rd_T28 l0_0 0).f3) ((rd_T28 l0_0 0).f4) ((rd_T28 l0_0 0).f5) ((rd_T28 l0_0 0).f6) ((rd_T28 l0_0 0).f7) _ _ ((rd_T28 l0_0 0).f8) true _ ?side1 ?side2 ?side3 ?side4 A13.out).mono ?_
          (case side1 => exact kC_ (Kd.C_below HR366_8.out HB.out))
          (case side2 => exact HC366_8.out)
          (case side3 => exact kC_ (Kd.C_below HR369_8.out HB.out))
          (case side4 => exact HC369_8.out)
          rintro e w31 ⟨rfl, hb⟩
          refine ⟨_, rfl, ?_⟩
          replace BK364 := (bbA_ BK364 hb); replace BK367 := (bbA_ BK367 hb); replace HB := (bs_ HB hb); (try clear hb); (try clear hb2); (try clear hk); (try clear hi)
          refine hK.out _ _ ⟨bc_ BK367 0, bc_ BK367 1, bc_ BK367 2, bc_ BK367 3, bc_ BK367 4, bc_ BK367 5, bc_ BK367 6, bc_ BK367 7, bc_ BK367 8, bc_ BK364 0, bc_ BK364 1, (cc_ HB hw369_0), (cc_ HB hw369_1), (cc_ HB hw369_2), (cc_ HB hw369_3), (cc_ HB hw369_4), (cc_ HB hw369_5), (cc_ HB hw369_6), (cc_ HB hw369_7), (cc_ HB hw369_8)⟩ (fun hHeld => ?_)
          clear hK K; refine nm_ 27 ?_; refine pu_ (i := 10) (N := some 28) HT_ ?_; refine pu_ (i := 11) (N := some 29) HT_ ?_; refine pu_ (i := 12) (N := some 30) HT_ ?_; refine pu_ (i := 13) (N := some 31) HT_ ?_; refine pu_ (i := 14) (N := some 32) HT_ ?_; refine pu_ (i := 15) (N := some 33) HT_ ?_; refine pn_ (i := 16) (N := some 34) HT_ ?_; refine pn_ (i := 17) (N := some 35) HT_ ?_; refine pn_ (i := 18) (N := some 36) HT_ ?_; refine pn_ (i := 19) (N := some 37) HT_ ?_; refine pn_ (i := 20) (N := some 38) HT_ ?_; refine pn_ (i := 21) (N := some 39) HT_ ?_; refine pn_ (i := 22) (N := some 40) HT_ ?_; refine pn_ (i := 23) (N := some 41) HT_ ?_; refine pn_ (i := 24) (N := some 42) HT_ ?_; refine pn_ (i := 25) (N := some 43) HT_ ?_; refine pn_ (i := 26) (N := some 44) HT_ ?_; refine pn_ (i := 27) (N := some 45) HT_ ?_; refine pn_ (i := 28) (N := some 46) HT_ ?_; refine pn_ (i := 29) (N := some 47) HT_ ?_; refine pn_ (i := 30) (N := some 48) HT_ ?_; refine pn_ (i := 31) (N := some 49) HT_ ?_; refine pn_ (i := 32) (N := some 50) HT_ ?_; refine pn_ (i := 33) (N := some 51) HT_ ?_; refine pn_ (i := 34) (N := some 52) HT_ ?_; refine pn_ (i := 35) (N := some 53) HT_ ?_; refine pn_ (i := 36) (N := some 54) HT_ ?_; refine pn_ (i := 37) (N := some 55) HT_ ?_; refine pn_ (i := 38) (N := some 56) HT_ ?_; refine pn_ (i := 39) (N := some 57) HT_ ?_; refine pn_ (i := 40) (N := some 58) HT_ ?_; refine pn_ (i := 41) (N := some 59) HT_ ?_; refine pn_ (i := 42) (N := some 60) HT_ ?_; refine pn_ (i := 43) (N := some 61) HT_ ?_; refine pn_ (i := 44) (N := some 62) HT_ ?_; refine pu_ (i := 45) (N := some 63) HT_ ?_; refine pu_ (i := 46) (N := some 64) HT_ ?_
          refine done_ (done_of HT_.out (by kernel_rfl)) ?_
          try go_wp2
          go_meet
          case rel => exact ⟨_, (false), (by first | rfl | (simp; done) | (simp [*]; done)), H', ⟨by have := HK1.out; first | omega | exact Nat.le_refl _⟩, ⟨by refine kb_ ?_; exact BK364.out⟩, ⟨by refine kb_ ?_; exact BK367.out⟩, ⟨hbA_ HB.out⟩⟩
        ·replace c14 := Bool.eq_false_iff.mpr c14
         subst c14
         rw [if_neg (show ¬ (false = true) by decide)] at H
         have H' := Aside0.mk H
         clear H
         try go_wp2
         obtain ⟨w32, h_w32⟩ : ∃ w_, (((((((((w7.setCell ⟨gb367, 0, none⟩ (.int .i64 ((rd_T28 l0_0 x4_1).f0))).setCell ⟨gb367, 1, none⟩ (.int .i64 ((rd_T28 l0_0 x4_1).f1))).setCell ⟨gb367, 2, none⟩ (.int .i64 ((rd_T28 l0_0 x4_1).f2))).setCell ⟨gb367, 3, none⟩ (.int .i64 ((rd_T28 l0_0 x4_1).f3))).setCell ⟨gb367, 4, none⟩ (.int .i64 ((rd_T28 l0_0 x4_1).f4))).setCell ⟨gb367, 5, none⟩ (.int .i64 ((rd_T28 l0_0 x4_1).f5))).setCell ⟨gb367, 6, none⟩ (.bool ((rd_T28 l0_0 x4_1).f6))).setCell ⟨gb367, 7, none⟩ (.bool ((rd_T28 l0_0 x4_1).f7))).setCell ⟨gb367, 8, none⟩ (.slice A366_8 ((rd_T28 l0_0 x4_1).f8).length c366_8)) = w_ := ⟨_, rfl⟩
         have n0_ : Aside0 (w32.heap[gb364]? = some (.cells #[.slice (some ad366) l0_0.length c0_0, .int .i64 a0_1] 25 (0, 0))) := ⟨by subst h_w32; exact kf_ BK364.out⟩
         have n1_ : Aside0 (w32.heap[gb367]? = some (.cells #[.int .i64 ((rd_T28 l0_0 x4_1).f0), .int .i64 ((rd_T28 l0_0 x4_1).f1), .int .i64 ((rd_T28 l0_0 x4_1).f2), .int .i64 ((rd_T28 l0_0 x4_1).f3), .int .i64 ((rd_T28 l0_0 x4_1).f4), .int .i64 ((rd_T28 l0_0 x4_1).f5), .bool ((rd_T28 l0_0 x4_1).f6), .bool ((rd_T28 l0_0 x4_1).f7), .slice A366_8 ((rd_T28 l0_0 x4_1).f8).length c366_8] 28 (0, 0))) := ⟨by subst h_w32; refine kb_ ?_; refine pz9 (cs := #[.int .i64 0, .int .i64 0, .int .i64 0, .int .i64 0, .int .i64 0, .int .i64 0, .bool false, .bool false, .slice none 0 0]) ?_; refine kb_ ?_; exact BK367.out⟩
         have n2_ : Aside0 (Below w.heap.size w w32) := ⟨by subst h_w32; exact hbA_ HB.out⟩
         (try clear BK364); (try clear BK367); (try clear HB)
         (try rw [h_w32]); clear h_w32
         have BK364 := n0_; have BK367 := n1_; have HB := n2_; clear n0_ n1_ n2_; replace BK364 := Aside0.mk (blk_drew BK364.out); replace BK367 := Aside0.mk (blk_drew BK367.out); replace HB := (bd_ HB)
         have p369 : 0 ≤ (0 : Int) := (by omega)
         have q369 : 0 < (l0_0.length : Int) := of_decide_eq_true (by first | (with_reducible assumption) | assumption)
         obtain ⟨ad369, A369_8, c369_8, e369, hx369_0, hx369_1, hx369_2, hx369_3, hx369_4, hx369_5, hx369_6, hx369_7, hx369_8, hl369_8, hi369_8⟩ := at_T28 HR0_0.out 0 p369 q369
         (try simp only [show ((0 : Int)).toNat = 0 from rfl, show 0 * 9 = 0 from rfl, Addr.add_zero'] at hx369_0 hx369_1 hx369_2 hx369_3 hx369_4 hx369_5 hx369_6 hx369_7 hx369_8); have hw369_8 := hx369_8; have hw369_7 := hx369_7; have hw369_6 := hx369_6; have hw369_5 := hx369_5; have hw369_4 := hx369_4; have hw369_3 := hx369_3; have hw369_2 := hx369_2; have hw369_1 := hx369_1; have hw369_0 := hx369_0
         obtain rfl : ad366 = ad369 := (by injection e369)
         have qi369 : (0 < l0_0.length) = True := eq_true (by omega)
         replace hx369_0 := cc_ HB hx369_0
         replace hx369_1 := cc_ HB hx369_1
         replace hx369_2 := cc_ HB hx369_2
         replace hx369_3 := cc_ HB hx369_3
         replace hx369_4 := cc_ HB hx369_4
         replace hx369_5 := cc_ HB hx369_5
         replace hx369_6 := cc_ HB hx369_6
         replace hx369_7 := cc_ HB hx369_7
         replace hx369_8 := cc_ HB hx369_8
         have HR369_8 := Aside0.mk hi369_8; have HC369_8 := Aside0.mk hl369_8; clear hi369_8 hl369_8
         replace p369 := eq_true p369
         replace q369 := eq_true q369
         refine start_ (n := 47) (S := fun w' => w'.cell? ⟨gb367, 0, none⟩ = some (.int .i64 ((rd_T28 l0_0 x4_1).f0)) ∧ w'.cell? ⟨gb367, 1, none⟩ = some (.int .i64 ((rd_T28 l0_0 x4_1).f1)) ∧ w'.cell? ⟨gb367, 2, none⟩ = some (.int .i64 ((rd_T28 l0_0 x4_1).f2)) ∧ w'.cell? ⟨gb367, 3, none⟩ = some (.int .i64 ((rd_T28 l0_0 x4_1).f3)) ∧ w'.cell? ⟨gb367, 4, none⟩ = some (.int .i64 ((rd_T28 l0_0 x4_1).f4)) ∧ w'.cell? ⟨gb367, 5, none⟩ = some (.int .i64 ((rd_T28 l0_0 x4_1).f5)) ∧ w'.cell? ⟨gb367, 6, none⟩ = some (.bool ((rd_T28 l0_0 x4_1).f6)) ∧ w'.cell? ⟨gb367, 7, none⟩ = some (.bool ((rd_T28 l0_0 x4_1).f7)) ∧ w'.cell? ⟨gb367, 8, none⟩ = some (.slice A366_8 ((rd_T28 l0_0 x4_1).f8).length c366_8) ∧ w'.cell? ⟨gb364, 0, none⟩ = some (.slice (some ad366) l0_0.length c0_0) ∧ w'.cell? ⟨gb364, 1, none⟩ = some (.int .i64 a0_1) ∧ w'.cell? ad366 = some (.int .i64 ((rd_T28 l0_0 0).f0)) ∧ w'.cell? ⟨ad366.block, ad366.off + 1, none⟩ = some (.int .i64 ((rd_T28 l0_0 0).f1)) ∧ w'.cell? ⟨ad366.block, ad366.off + 2, none⟩ = some (.int .i64 ((rd_T28 l0_0 0).f2)) ∧ w'.cell? ⟨ad366.block, ad366.off + 3, none⟩ = some (.int .i64 ((rd_T28 l0_0 0).f3)) ∧ w'.cell? ⟨ad366.block, ad366.off + 4, none⟩ = some (.int .i64 ((rd_T28 l0_0 0).f4)) ∧ w'.cell? ⟨ad366.block, ad366.off + 5, none⟩ = some (.int .i64 ((rd_T28 l0_0 0).f5)) ∧ w'.cell? ⟨ad366.block, ad366.off + 6, none⟩ = some (.bool ((rd_T28 l0_0 0).f6)) ∧ w'.cell? ⟨ad366.block, ad366.off + 7, none⟩ = some (.bool ((rd_T28 l0_0 0).f7)) ∧ w'.cell? ⟨ad366.block, ad366.off + 8, none⟩ = some (.slice A369_8 ((rd_T28 l0_0 0).f8).length c369_8)) (ds := []) #[false, false, false, false, false, false, false, false, false, false, false, false, false, false, false, false, false, false, false, false, false, false, false, false, false, false, false, false, false, false, false, false, false, false, false, false, false, false, false, false, false, false, false, false, false, false, false] (by kernel_rfl) rfl rfl ⟨bc_ BK367 0, bc_ BK367 1, bc_ BK367 2, bc_ BK367 3, bc_ BK367 4, bc_ BK367 5, bc_ BK367 6, bc_ BK367 7, bc_ BK367 8, bc_ BK364 0, bc_ BK364 1, (cc_ HB hw369_0), (cc_ HB hw369_1), (cc_ HB hw369_2), (cc_ HB hw369_3), (cc_ HB hw369_4), (cc_ HB hw369_5), (cc_ HB hw369_6), (cc_ HB hw369_7), (cc_ HB hw369_8)⟩ (fun hHeld => ?_); refine with_tabW spec_PartOk.tab6 spec_PartOk.bits6 (fun HT_ HW_ => ?_)
         generalize w32.drew = w33 at BK364 BK367 HB HR369_8 hx369_0 hx369_1 hx369_2 hx369_3 hx369_4 hx369_5 hx369_6 hx369_7 hx369_8 hHeld ⊢
         refine tk_ (i := 0) (N := some 18) HT_ HW_ hHeld ?_
         refine on_ (i := 1) (N := some 19) HT_ (fun K hK => ?_)
         refine goes_ Try.func77 (by kernel_rfl) rfl #[.agg #[.int .i64 ((rd_T28 l0_0 x4_1).f0), .int .i64 ((rd_T28 l0_0 x4_1).f1), .int .i64 ((rd_T28 l0_0 x4_1).f2), .int .i64 ((rd_T28 l0_0 x4_1).f3), .int .i64 ((rd_T28 l0_0 x4_1).f4), .int .i64 ((rd_T28 l0_0 x4_1).f5), .bool ((rd_T28 l0_0 x4_1).f6), .bool ((rd_T28 l0_0 x4_1).f7), .slice A366_8 ((rd_T28 l0_0 x4_1).f8).length c366_8]] (by rfl) rfl rfl ar_ ?_
         with_reducible refine (spec_PacketOk.calls k1 ((rd_T28 l0_0 x4_1).f0) ((rd_T28 l0_0 x4_1).f1) ((rd_T28 l0_0 x4_1).f2) ((rd_T28 l0_0 x4_1).f3) ((rd_T28 l0_0 x4_1).f4) ((rd_T28 l0_0 x4_1).f5) ((rd_T28 l0_0 x4_1).f6) ((rd_T28 l0_0 x4_1).f7) _ _ ((rd_T28 l0_0 x4_1).f8) true _ ?side1 ?side2 A10.out).mono ?_
         (case side1 => exact kC_ (Kd.C_below HR366_8.out HB.out))
         (case side2 => exact HC366_8.out)
         rintro e w34 ⟨rfl, hb⟩
         refine ⟨_, rfl, ?_⟩
         replace BK364 := (bbA_ BK364 hb); replace BK367 := (bbA_ BK367 hb); replace HB := (bs_ HB hb); (try clear hb); (try clear hb2); (try clear hk); (try clear hi)
         refine hK.out _ _ ⟨bc_ BK367 0, bc_ BK367 1, bc_ BK367 2, bc_ BK367 3, bc_ BK367 4, bc_ BK367 5, bc_ BK367 6, bc_ BK367 7, bc_ BK367 8, bc_ BK364 0, bc_ BK364 1, (cc_ HB hw369_0), (cc_ HB hw369_1), (cc_ HB hw369_2), (cc_ HB hw369_3), (cc_ HB hw369_4), (cc_ HB hw369_5), (cc_ HB hw369_6), (cc_ HB hw369_7), (cc_ HB hw369_8)⟩ (fun hHeld => ?_)
         clear hK K; refine nm_ 19 ?_; refine pu_ (i := 2) (N := some 20) HT_ ?_; refine pu_ (i := 3) (N := some 21) HT_ ?_; refine pu_ (i := 5) (N := some 23) HT_ ?_; refine tk_ (i := 4) (N := some 22) HT_ HW_ hHeld ?_; refine tk_ (i := 6) (N := some 24) HT_ HW_ hHeld ?_; refine pu_ (i := 7) (N := some 25) HT_ ?_; refine tk_ (i := 8) (N := some 26) HT_ HW_ hHeld ?_
         refine on_ (i := 9) (N := some 27) HT_ (fun K hK => ?_)
         refine goes_ Try.func83 (by kernel_rfl) rfl #[.agg #[.int .i64 ((rd_T28 l0_0 x4_1).f0), .int .i64 ((rd_T28 l0_0 x4_1).f1), .int .i64 ((rd_T28 l0_0 x4_1).f2), .int .i64 ((rd_T28 l0_0 x4_1).f3), .int .i64 ((rd_T28 l0_0 x4_1).f4), .int .i64 ((rd_T28 l0_0 x4_1).f5), .bool ((rd_T28 l0_0 x4_1).f6), .bool ((rd_T28 l0_0 x4_1).f7), .slice A366_8 ((rd_T28 l0_0 x4_1).f8).length c366_8], .agg #[.int .i64 ((rd_T28 l0_0 0).f0), .int .i64 ((rd_T28 l0_0 0).f1), .int .i64 ((rd_T28 l0_0 0).f2), .int .i64 ((rd_T28 l0_0 0).f3), .int .i64 ((rd_T28 l0_0 0).f4), .int .i64 ((rd_T28 l0_0 0).f5), .bool ((rd_T28 l0_0 0).f6), .bool ((rd_T28 l0_0 0).f7), .slice A369_8 ((rd_T28 l0_0 0).f8).length c369_8]] (by rfl) rfl rfl ar_ ?_
         with_reducible refine (spec_l5Same.calls ((rd_T28 l0_0 x4_1).f0) ((rd_T28 l0_0 x4_1).f1) ((rd_T28 l0_0 x4_1).f2) ((rd_T28 l0_0 x4_1).f3) ((rd_T28 l0_0 x4_1).f4) ((rd_T28 l0_0 x4_1).f5) ((rd_T28 l0_0 x4_1).f6) ((rd_T28 l0_0 x4_1).f7) _ _ ((rd_T28 l0_0 x4_1).f8) ((rd_T28 l0_0 0).f0) ((rd_T28 l0_0 0).f1) ((rd_T28 l0_0 0).f2) ((rd_T28 l0_0 0).f3) ((rd_T28 l0_0 0).f4) ((rd_T28 l0_0 0).f5) ((rd_T28 l0_0 0).f6) ((rd_T28 l0_0 0).f7) _ _ ((rd_T28 l0_0 0).f8) false _ ?side1 ?side2 ?side3 ?side4 A13.out).mono ?_
         (case side1 => exact kC_ (Kd.C_below HR366_8.out HB.out))
         (case side2 => exact HC366_8.out)
         (case side3 => exact kC_ (Kd.C_below HR369_8.out HB.out))
         (case side4 => exact HC369_8.out)
         rintro e w35 ⟨rfl, hb⟩
         refine ⟨_, rfl, ?_⟩
         replace BK364 := (bbA_ BK364 hb); replace BK367 := (bbA_ BK367 hb); replace HB := (bs_ HB hb); (try clear hb); (try clear hb2); (try clear hk); (try clear hi)
         refine hK.out _ _ ⟨bc_ BK367 0, bc_ BK367 1, bc_ BK367 2, bc_ BK367 3, bc_ BK367 4, bc_ BK367 5, bc_ BK367 6, bc_ BK367 7, bc_ BK367 8, bc_ BK364 0, bc_ BK364 1, (cc_ HB hw369_0), (cc_ HB hw369_1), (cc_ HB hw369_2), (cc_ HB hw369_3), (cc_ HB hw369_4), (cc_ HB hw369_5), (cc_ HB hw369_6), (cc_ HB hw369_7), (cc_ HB hw369_8)⟩ (fun hHeld => ?_)
         clear hK K; refine nm_ 27 ?_; refine pu_ (i := 10) (N := some 28) HT_ ?_; refine pu_ (i := 11) (N := some 29) HT_ ?_; refine pu_ (i := 12) (N := some 30) HT_ ?_; refine pn_ (i := 13) (N := some 31) HT_ ?_; refine pn_ (i := 14) (N := some 32) HT_ ?_; refine pn_ (i := 15) (N := some 33) HT_ ?_; refine pn_ (i := 16) (N := some 34) HT_ ?_; refine pn_ (i := 17) (N := some 35) HT_ ?_; refine pn_ (i := 18) (N := some 36) HT_ ?_; refine pn_ (i := 19) (N := some 37) HT_ ?_; refine pn_ (i := 20) (N := some 38) HT_ ?_; refine pn_ (i := 21) (N := some 39) HT_ ?_; refine pn_ (i := 22) (N := some 40) HT_ ?_; refine pn_ (i := 23) (N := some 41) HT_ ?_; refine pn_ (i := 24) (N := some 42) HT_ ?_; refine pn_ (i := 25) (N := some 43) HT_ ?_; refine pn_ (i := 26) (N := some 44) HT_ ?_; refine pn_ (i := 27) (N := some 45) HT_ ?_; refine pn_ (i := 28) (N := some 46) HT_ ?_; refine pn_ (i := 29) (N := some 47) HT_ ?_; refine pn_ (i := 30) (N := some 48) HT_ ?_; refine pn_ (i := 31) (N := some 49) HT_ ?_; refine pn_ (i := 32) (N := some 50) HT_ ?_; refine pn_ (i := 33) (N := some 51) HT_ ?_; refine pn_ (i := 34) (N := some 52) HT_ ?_; refine pn_ (i := 35) (N := some 53) HT_ ?_; refine pn_ (i := 36) (N := some 54) HT_ ?_; refine pn_ (i := 37) (N := some 55) HT_ ?_; refine pn_ (i := 38) (N := some 56) HT_ ?_; refine pn_ (i := 39) (N := some 57) HT_ ?_; refine pn_ (i := 40) (N := some 58) HT_ ?_; refine pn_ (i := 41) (N := some 59) HT_ ?_; refine pn_ (i := 42) (N := some 60) HT_ ?_; refine pn_ (i := 43) (N := some 61) HT_ ?_; refine pn_ (i := 44) (N := some 62) HT_ ?_; refine pn_ (i := 45) (N := some 63) HT_ ?_; refine pu_ (i := 46) (N := some 64) HT_ ?_
         refine done_ (done_of HT_.out (by kernel_rfl)) ?_
         try go_wp2
         go_meet
         case rel => exact ⟨_, (true), (by first | rfl | (simp; done) | (simp [*]; done)), H', ⟨by have := HK1.out; first | omega | exact Nat.le_refl _⟩, ⟨by refine kb_ ?_; exact BK364.out⟩, ⟨by refine kb_ ?_; exact BK367.out⟩, ⟨hbA_ HB.out⟩⟩
       ·rw [if_neg c12] at H
        exact absurd H (by simp)
      ·replace c11 := Bool.eq_false_iff.mpr c11
       subst c11
       rw [if_neg (show ¬ (false = true) by decide)] at H
       have H' := Aside0.mk H
       clear H
       try go_wp2
       obtain ⟨w36, h_w36⟩ : ∃ w_, (((((((((w7.setCell ⟨gb367, 0, none⟩ (.int .i64 ((rd_T28 l0_0 x4_1).f0))).setCell ⟨gb367, 1, none⟩ (.int .i64 ((rd_T28 l0_0 x4_1).f1))).setCell ⟨gb367, 2, none⟩ (.int .i64 ((rd_T28 l0_0 x4_1).f2))).setCell ⟨gb367, 3, none⟩ (.int .i64 ((rd_T28 l0_0 x4_1).f3))).setCell ⟨gb367, 4, none⟩ (.int .i64 ((rd_T28 l0_0 x4_1).f4))).setCell ⟨gb367, 5, none⟩ (.int .i64 ((rd_T28 l0_0 x4_1).f5))).setCell ⟨gb367, 6, none⟩ (.bool ((rd_T28 l0_0 x4_1).f6))).setCell ⟨gb367, 7, none⟩ (.bool ((rd_T28 l0_0 x4_1).f7))).setCell ⟨gb367, 8, none⟩ (.slice A366_8 ((rd_T28 l0_0 x4_1).f8).length c366_8)) = w_ := ⟨_, rfl⟩
       have n0_ : Aside0 (w36.heap[gb364]? = some (.cells #[.slice (some ad366) l0_0.length c0_0, .int .i64 a0_1] 25 (0, 0))) := ⟨by subst h_w36; exact kf_ BK364.out⟩
       have n1_ : Aside0 (w36.heap[gb367]? = some (.cells #[.int .i64 ((rd_T28 l0_0 x4_1).f0), .int .i64 ((rd_T28 l0_0 x4_1).f1), .int .i64 ((rd_T28 l0_0 x4_1).f2), .int .i64 ((rd_T28 l0_0 x4_1).f3), .int .i64 ((rd_T28 l0_0 x4_1).f4), .int .i64 ((rd_T28 l0_0 x4_1).f5), .bool ((rd_T28 l0_0 x4_1).f6), .bool ((rd_T28 l0_0 x4_1).f7), .slice A366_8 ((rd_T28 l0_0 x4_1).f8).length c366_8] 28 (0, 0))) := ⟨by subst h_w36; refine kb_ ?_; refine pz9 (cs := #[.int .i64 0, .int .i64 0, .int .i64 0, .int .i64 0, .int .i64 0, .int .i64 0, .bool false, .bool false, .slice none 0 0]) ?_; refine kb_ ?_; exact BK367.out⟩
       have n2_ : Aside0 (Below w.heap.size w w36) := ⟨by subst h_w36; exact hbA_ HB.out⟩
       (try clear BK364); (try clear BK367); (try clear HB)
       (try rw [h_w36]); clear h_w36
       have BK364 := n0_; have BK367 := n1_; have HB := n2_; clear n0_ n1_ n2_; replace BK364 := Aside0.mk (blk_drew BK364.out); replace BK367 := Aside0.mk (blk_drew BK367.out); replace HB := (bd_ HB)
       refine start_ (n := 47) (S := fun w' => w'.cell? ⟨gb367, 0, none⟩ = some (.int .i64 ((rd_T28 l0_0 x4_1).f0)) ∧ w'.cell? ⟨gb367, 1, none⟩ = some (.int .i64 ((rd_T28 l0_0 x4_1).f1)) ∧ w'.cell? ⟨gb367, 2, none⟩ = some (.int .i64 ((rd_T28 l0_0 x4_1).f2)) ∧ w'.cell? ⟨gb367, 3, none⟩ = some (.int .i64 ((rd_T28 l0_0 x4_1).f3)) ∧ w'.cell? ⟨gb367, 4, none⟩ = some (.int .i64 ((rd_T28 l0_0 x4_1).f4)) ∧ w'.cell? ⟨gb367, 5, none⟩ = some (.int .i64 ((rd_T28 l0_0 x4_1).f5)) ∧ w'.cell? ⟨gb367, 6, none⟩ = some (.bool ((rd_T28 l0_0 x4_1).f6)) ∧ w'.cell? ⟨gb367, 7, none⟩ = some (.bool ((rd_T28 l0_0 x4_1).f7)) ∧ w'.cell? ⟨gb367, 8, none⟩ = some (.slice A366_8 ((rd_T28 l0_0 x4_1).f8).length c366_8)) (ds := []) #[false, false, false, false, false, false, false, false, false, false, false, false, false, false, false, false, false, false, false, false, false, false, false, false, false, false, false, false, false, false, false, false, false, false, false, false, false, false, false, false, false, false, false, false, false, false, false] (by kernel_rfl) rfl rfl (cz9 BK367.out) (fun hHeld => ?_); refine with_tabW spec_PartOk.tab6 spec_PartOk.bits6 (fun HT_ HW_ => ?_)
       generalize w36.drew = w37 at BK364 BK367 HB hHeld ⊢
       refine tk_ (i := 0) (N := some 18) HT_ HW_ hHeld ?_
       refine on_ (i := 1) (N := some 19) HT_ (fun K hK => ?_)
       refine goes_ Try.func77 (by kernel_rfl) rfl #[.agg #[.int .i64 ((rd_T28 l0_0 x4_1).f0), .int .i64 ((rd_T28 l0_0 x4_1).f1), .int .i64 ((rd_T28 l0_0 x4_1).f2), .int .i64 ((rd_T28 l0_0 x4_1).f3), .int .i64 ((rd_T28 l0_0 x4_1).f4), .int .i64 ((rd_T28 l0_0 x4_1).f5), .bool ((rd_T28 l0_0 x4_1).f6), .bool ((rd_T28 l0_0 x4_1).f7), .slice A366_8 ((rd_T28 l0_0 x4_1).f8).length c366_8]] (by rfl) rfl rfl ar_ ?_
       with_reducible refine (spec_PacketOk.calls k1 ((rd_T28 l0_0 x4_1).f0) ((rd_T28 l0_0 x4_1).f1) ((rd_T28 l0_0 x4_1).f2) ((rd_T28 l0_0 x4_1).f3) ((rd_T28 l0_0 x4_1).f4) ((rd_T28 l0_0 x4_1).f5) ((rd_T28 l0_0 x4_1).f6) ((rd_T28 l0_0 x4_1).f7) _ _ ((rd_T28 l0_0 x4_1).f8) false _ ?side1 ?side2 A10.out).mono ?_
       (case side1 => exact kC_ (Kd.C_below HR366_8.out HB.out))
       (case side2 => exact HC366_8.out)
       rintro e w38 ⟨rfl, hb⟩
       refine ⟨_, rfl, ?_⟩
       replace BK364 := (bbA_ BK364 hb); replace BK367 := (bbA_ BK367 hb); replace HB := (bs_ HB hb); (try clear hb); (try clear hb2); (try clear hk); (try clear hi)
       refine hK.out _ _ (cz9 BK367.out) (fun hHeld => ?_)
       clear hK K; refine nm_ 19 ?_; refine pu_ (i := 2) (N := some 20) HT_ ?_; refine pu_ (i := 3) (N := some 21) HT_ ?_; refine pn_ (i := 4) (N := some 22) HT_ ?_; refine pn_ (i := 5) (N := some 23) HT_ ?_; refine pn_ (i := 6) (N := some 24) HT_ ?_; refine pn_ (i := 7) (N := some 25) HT_ ?_; refine pn_ (i := 8) (N := some 26) HT_ ?_; refine pn_ (i := 9) (N := some 27) HT_ ?_; refine pn_ (i := 10) (N := some 28) HT_ ?_; refine pu_ (i := 11) (N := some 29) HT_ ?_; refine pu_ (i := 12) (N := some 30) HT_ ?_; refine pn_ (i := 13) (N := some 31) HT_ ?_; refine pn_ (i := 14) (N := some 32) HT_ ?_; refine pn_ (i := 15) (N := some 33) HT_ ?_; refine pn_ (i := 16) (N := some 34) HT_ ?_; refine pn_ (i := 17) (N := some 35) HT_ ?_; refine pn_ (i := 18) (N := some 36) HT_ ?_; refine pn_ (i := 19) (N := some 37) HT_ ?_; refine pn_ (i := 20) (N := some 38) HT_ ?_; refine pn_ (i := 21) (N := some 39) HT_ ?_; refine pn_ (i := 22) (N := some 40) HT_ ?_; refine pn_ (i := 23) (N := some 41) HT_ ?_; refine pn_ (i := 24) (N := some 42) HT_ ?_; refine pn_ (i := 25) (N := some 43) HT_ ?_; refine pn_ (i := 26) (N := some 44) HT_ ?_; refine pn_ (i := 27) (N := some 45) HT_ ?_; refine pn_ (i := 28) (N := some 46) HT_ ?_; refine pn_ (i := 29) (N := some 47) HT_ ?_; refine pn_ (i := 30) (N := some 48) HT_ ?_; refine pn_ (i := 31) (N := some 49) HT_ ?_; refine pn_ (i := 32) (N := some 50) HT_ ?_; refine pn_ (i := 33) (N := some 51) HT_ ?_; refine pn_ (i := 34) (N := some 52) HT_ ?_; refine pn_ (i := 35) (N := some 53) HT_ ?_; refine pn_ (i := 36) (N := some 54) HT_ ?_; refine pn_ (i := 37) (N := some 55) HT_ ?_; refine pn_ (i := 38) (N := some 56) HT_ ?_; refine pn_ (i := 39) (N := some 57) HT_ ?_; refine pn_ (i := 40) (N := some 58) HT_ ?_; refine pn_ (i := 41) (N := some 59) HT_ ?_; refine pn_ (i := 42) (N := some 60) HT_ ?_; refine pn_ (i := 43) (N := some 61) HT_ ?_; refine pn_ (i := 44) (N := some 62) HT_ ?_; refine pn_ (i := 45) (N := some 63) HT_ ?_; refine pu_ (i := 46) (N := some 64) HT_ ?_
       refine done_ (done_of HT_.out (by kernel_rfl)) ?_
       try go_wp2
       go_meet
       case rel => exact ⟨_, (true), (by first | rfl | (simp; done) | (simp [*]; done)), H', ⟨by have := HK1.out; first | omega | exact Nat.le_refl _⟩, ⟨by refine kb_ ?_; exact BK364.out⟩, ⟨by refine kb_ ?_; exact BK367.out⟩, ⟨hbA_ HB.out⟩⟩
     case rest =>
      clear HC5; (try clear c1); (try clear p2); (try clear c3); (try clear p3); (try clear q3); (try clear hx3); (try clear c7); (try clear c8); (try clear c11); (try clear c12); (try clear c36); (try clear p36); (try clear q36); (try clear hx36); (try clear hx369_0); (try clear hx369_1); (try clear hx369_2); (try clear hx369_3); (try clear hx369_4); (try clear hx369_5); (try clear hx369_6); (try clear hx369_7); (try clear hx369_8); (try clear p369); (try clear q369)
      obtain ⟨kq, x64_4, rfl, HA, HJ4, BK364, BK367, HB⟩ := hcut
      cases kq with
      | zero => exact absurd HA.out (by simp [spec_PartOk.j1])
      | succ kj4 =>
       have H := HA.out; clear HA
       simp only [spec_PartOk.j1] at H
       by_cases c39 : x64_4 = true
       ·subst c39
        rw [if_pos rfl] at H
        obtain rfl := Option.some.inj H
        go_wp2
        go_ret
        exact ⟨by first | rfl | (simp [errW_none, errW_some] <;> rfl) | (simp [*, errW_none, errW_some] <;> rfl), hbA_ HB.out⟩
       ·replace c39 := Bool.eq_false_iff.mpr c39
        subst c39
        rw [if_neg (show ¬ (false = true) by decide)] at H
        have H' := Aside0.mk H
        clear H; have hnb40 := NB367_364.out; have hnc40 := NB364_367.out; have Z41 := zz9 BK367
        go_wp2
        go_roundg kj4
        case measure => have := HK1.out; have := HJ4.out; omega
        case rel => exact ⟨(wrap64 (x3_1 + (((rd_T28 l0_0 x4_1).f8).length : Int))), (wrap64 (x4_1 + 1)), (by first | rfl | (simp; done) | (simp [*]; done)), (by first | rfl | (simp; done) | (simp [*]; done)), H', ⟨by have := HK1.out; have := HJ4.out; omega⟩, ⟨by refine kb_ ?_; exact BK364.out⟩, ⟨hbA_ HB.out⟩⟩
    ·rw [if_neg c4] at H
     exact absurd H (by simp)
   ·rw [if_neg c3] at H
    have c3b0 : decide (x4_1 < (l0_0.length : Int)) = false := decide_eq_false c3
    clear c3
    by_cases c42 : (l0_0.length : Int) > 0
    ·rw [if_pos c42] at H
     have c42b0 : decide (0 < (l0_0.length : Int)) = true := decide_eq_true c42
     have c42b1 : decide (0 < l0_0.length) = true := decide_eq_true (by omega)
     clear c42
     by_cases c43 : x3_1 ≤ 48
     ·rw [if_pos c43] at H
      have c43b0 : decide (x3_1 ≤ 48) = true := decide_eq_true c43
      clear c43
      replace H := Option.bind_eq_some_iff.mp H
      obtain ⟨t365, A440, H⟩ := H
      (try dsimp only at H)
      have A44 := Aside0.mk A440; clear A440
      obtain rfl := Option.some.inj H
      have Z45 := zz2 BK364
      go_wp2_with (first | (go_at_call 52; (with_reducible refine (spec_l1In.calls a0_1 0 1000000 t365 _ A44.out).mono ?_); rintro e w' ⟨rfl, ⟨nd, rfl⟩⟩))
      go_ret
      exact ⟨by first | rfl | (simp [errW_none, errW_some] <;> rfl) | (simp [*, errW_none, errW_some] <;> rfl), hbA_ HB.out⟩
     ·rw [if_neg c43] at H
      have c43b0 : decide (x3_1 ≤ 48) = false := decide_eq_false c43
      clear c43
      obtain rfl := Option.some.inj H
      have Z46 := zz2 BK364
      go_wp2
      go_ret
      exact ⟨by first | rfl | (simp [errW_none, errW_some] <;> rfl) | (simp [*, errW_none, errW_some] <;> rfl), hbA_ HB.out⟩
    ·rw [if_neg c42] at H
     have c42b0 : decide (0 < (l0_0.length : Int)) = false := decide_eq_false c42
     have c42b1 : decide (0 < l0_0.length) = false := decide_eq_false (by omega)
     clear c42
     obtain rfl := Option.some.inj H
     have Z47 := zz2 BK364
     go_wp2
     go_ret
     exact ⟨by first | rfl | (simp [errW_none, errW_some] <;> rfl) | (simp [*, errW_none, errW_some] <;> rfl), hbA_ HB.out⟩
mutual
def spec_PartWhole.j0 : Nat → Bool → List (S28) → Int → Option (Int × Int × Int × Int × Int × Int × Bool × Bool × List Int × Bool)
 | 0, _, _, _ => none
 | k + 1, x19, x375000, x375001 => if x19 = true then (some (0, 0, 0, 0, 0, 0, false, false, ([] : List Int), false)) else (if 0 < (x375000.length : Int) then (spec_PartWhole.l0 k 0 x375000 x375001 ((rd_T28 x375000 0).f0) ((rd_T28 x375000 0).f1) ((rd_T28 x375000 0).f2) ((rd_T28 x375000 0).f3) ((rd_T28 x375000 0).f4) ((rd_T28 x375000 0).f5) false ((rd_T28 x375000 0).f7) (([] : List Int))) else (none))
def spec_PartWhole.l0 : Nat → Int → List (S28) → Int → Int → Int → Int → Int → Int → Int → Bool → Bool → List Int → Option (Int × Int × Int × Int × Int × Int × Bool × Bool × List Int × Bool)
 | 0, _, _, _, _, _, _, _, _, _, _, _, _ => none
 | k + 1, x5, x375000, x375001, x380000, x380001, x380002, x380003, x380004, x380005, x380006, x380007, x380008 => if x5 < (x375000.length : Int) then (if 0 ≤ x5 then (if ((rd_T28 x375000 x5).f5) = (x380008.length : Int) then (if x380008.length + ((rd_T28 x375000 x5).f8).length < 140737488355328 then (spec_PartWhole.l0 k (wrap64 (x5 + 1)) x375000 x375001 x380000 x380001 x380002 x380003 x380004 x380005 x380006 x380007 (x380008 ++ ((rd_T28 x375000 x5).f8))) else (none)) else (some (0, 0, 0, 0, 0, 0, false, false, ([] : List Int), false))) else (none)) else (some (x380000, x380001, x380002, x380003, x380004, x380005, x380006, x380007, x380008, true))
end
def spec_PartWhole.f (k : Nat) (l0_0 : List (S28)) (a0_1 : Int) : Option (Int × Int × Int × Int × Int × Int × Bool × Bool × List Int × Bool) := (spec_PartOk.f k l0_0 a0_1).bind fun t376 => (if t376 = true then (if 0 ≤ (wrap64 ((l0_0.length : Int) - 1)) then (if (wrap64 ((l0_0.length : Int) - 1)) < (l0_0.length : Int) then (spec_PartWhole.j0 k ((rd_T28 l0_0 (wrap64 ((l0_0.length : Int) - 1))).f6) l0_0 a0_1) else (none)) else (none)) else (spec_PartWhole.j0 k true l0_0 a0_1))
theorem spec_PartWhole.mono_l : ∀ k, (∀ y0 y1 y2, LeO (spec_PartWhole.j0 k y0 y1 y2) (spec_PartWhole.j0 (k + 1) y0 y1 y2)) ∧ (∀ y0 y1 y2 y3 y4 y5 y6 y7 y8 y9 y10 y11, LeO (spec_PartWhole.l0 k y0 y1 y2 y3 y4 y5 y6 y7 y8 y9 y10 y11) (spec_PartWhole.l0 (k + 1) y0 y1 y2 y3 y4 y5 y6 y7 y8 y9 y10 y11))
 | 0 => ⟨fun _ _ _ r h => by simp [spec_PartWhole.j0] at h, fun _ _ _ _ _ _ _ _ _ _ _ _ r h => by simp [spec_PartWhole.l0] at h⟩
 | k + 1 => by
  obtain ⟨ih0, ih1⟩ := spec_PartWhole.mono_l k
  refine ⟨?_, ?_⟩
  ·intro y0 y1 y2
   unfold spec_PartWhole.j0
   repeat' first | (with_reducible first | apply ih0 | apply ih1 | apply spec_PartOk.mono | exact LeO.refl _ | exact LeO.none _ | refine LeO.ite ?_ ?_ | refine LeO.bind ?_ fun _ => ?_) | apply ih0 | apply ih1 | apply spec_PartOk.mono | exact LeO.none _ | refine LeO.ite ?_ ?_ | refine LeO.bind ?_ fun _ => ?_
  ·intro y0 y1 y2 y3 y4 y5 y6 y7 y8 y9 y10 y11
   unfold spec_PartWhole.l0
   repeat' first | (with_reducible first | apply ih0 | apply ih1 | apply spec_PartOk.mono | exact LeO.refl _ | exact LeO.none _ | refine LeO.ite ?_ ?_ | refine LeO.bind ?_ fun _ => ?_) | apply ih0 | apply ih1 | apply spec_PartOk.mono | exact LeO.none _ | refine LeO.ite ?_ ?_ | refine LeO.bind ?_ fun _ => ?_
theorem spec_PartWhole.mono : ∀ a0 a1 k, LeO (spec_PartWhole.f k a0 a1) (spec_PartWhole.f (k + 1) a0 a1) := by
 intro a0 a1 k
 obtain ⟨ih0, ih1⟩ := spec_PartWhole.mono_l k
 unfold spec_PartWhole.f
 repeat' first | (with_reducible first | apply ih0 | apply ih1 | apply spec_PartOk.mono | exact LeO.refl _ | exact LeO.none _ | refine LeO.ite ?_ ?_ | refine LeO.bind ?_ fun _ => ?_) | apply ih0 | apply ih1 | apply spec_PartOk.mono | exact LeO.none _ | refine LeO.ite ?_ ?_ | refine LeO.bind ?_ fun _ => ?_
def spec_PartWhole.T9 : Bool × List (List Nat × List Nat) := (true, [([], []), ([0], [0]), ([], []), ([1, 2], [1, 2]), ([3], [3]), ([4], [4]), ([], []), ([6], [6]), ([7], [7]), ([5, 8], [5, 8])])
def spec_PartWhole.B9 : List Nat := [0, 1, 0, 7, 15, 31, 0, 64, 192, 511]
theorem spec_PartWhole.tab9 : rtab .any (opsOf Try.f11 9) = spec_PartWhole.T9 := by kernel_rfl
theorem spec_PartWhole.bits9 : waitsOk spec_PartWhole.T9.2 spec_PartWhole.B9 = true := by kernel_rfl
def spec_PartWhole.T11 : Bool × List (List Nat × List Nat) := (true, [([], []), ([0], [0]), ([], []), ([2], [2]), ([], []), ([3, 4], [3, 4]), ([5], [5]), ([6], [6]), ([1, 7], [1, 7]), ([0, 1, 2, 3, 4, 5, 6, 7, 8], []), ([9, 8, 8, 0, 1, 2, 3, 4, 5, 6, 7, 8], [8, 9])])
def spec_PartWhole.B11 : List Nat := [0, 1, 0, 4, 0, 28, 60, 124, 255, 511, 1023]
theorem spec_PartWhole.tab11 : rtab .any (opsOf Try.f11 11) = spec_PartWhole.T11 := by kernel_rfl
theorem spec_PartWhole.bits11 : waitsOk spec_PartWhole.T11.2 spec_PartWhole.B11 = true := by kernel_rfl
set_option maxHeartbeats 8000000 in
set_option maxRecDepth 100000 in
theorem spec_PartWhole.calls (k : Nat) (A0_0 : Option Addr) (c0_0 : Nat) (l0_0 : List (S28)) (a0_1 : Int) (r1 : Int) (r2 : Int) (r3 : Int) (r4 : Int) (r5 : Int) (r6 : Int) (r7 : Bool) (r8 : Bool) (r9 : List Int) (r10 : Bool) (w : World) (hr0_0 : Kd.C k28 w A0_0 l0_0.length l0_0) (hc0_0 : l0_0.length ≤ c0_0) (h : spec_PartWhole.f k l0_0 a0_1 = some (r1, r2, r3, r4, r5, r6, r7, r8, r9, r10)) :
  Calls Try.prog 11 #[.agg #[.slice A0_0 l0_0.length c0_0, .int .i64 a0_1]] w fun e w' => ∃ v8_ : Value, e = .returned (.tuple #[.agg #[.int .i64 r1, .int .i64 r2, .int .i64 r3, .int .i64 r4, .int .i64 r5, .int .i64 r6, .bool r7, .bool r8, v8_], .bool r10]) ∧ Kd.R (Kd.int .u8) 5 w' w.heap.size (fun _ => True) v8_ r9 ∧ Below w.heap.size w w' := by
 have hu25 := Try.underlying25; have hu28 := Try.underlying28; have HR0_0 := Aside0.mk hr0_0; have HC0_0 := Aside0.mk hc0_0; clear hr0_0 hc0_0
 have HB := Aside0.mk (Below.refl w.heap.size w)
 have H : ((spec_PartOk.f k l0_0 a0_1).bind fun t376 => (if t376 = true then (if 0 ≤ (wrap64 ((l0_0.length : Int) - 1)) then (if (wrap64 ((l0_0.length : Int) - 1)) < (l0_0.length : Int) then (spec_PartWhole.j0 k ((rd_T28 l0_0 (wrap64 ((l0_0.length : Int) - 1))).f6) l0_0 a0_1) else (none)) else (none)) else (spec_PartWhole.j0 k true l0_0 a0_1))) = some (r1, r2, r3, r4, r5, r6, r7, r8, r9, r10) := h
 clear h; have HC2 := Aside0.mk H; clear H
 go_enter Try.func11, Try.ntmps11
 go_upto_region 1 with (first | ((with_reducible refine gate_dst (N := 1) rfl ?_); (try (refine gate_guard (by rfl) ?_; dsimp only)); refine box_ (N := 1) (cs := #[.slice A0_0 l0_0.length c0_0, .int .i64 a0_1]) (t := 25) (fun gb374 hg w3 hbox hb => ?_); have BK374 := Aside0.mk (hbox); have GW374 := ge_ hg HB; have GE374 := ge_ hg HB; replace HB := (bs_ HB hb); clear hb hbox hg) | ((with_reducible refine gate_dst (N := 2) rfl ?_); (try (refine gate_guard (by rfl) ?_; dsimp only)); refine box_ (N := 2) (cs := #[.int .i64 0, .int .i64 0, .int .i64 0, .int .i64 0, .int .i64 0, .int .i64 0, .bool false, .bool false, .slice none 0 0]) (t := 28) (fun gb375 hg w4 hbox hb => ?_); have BK375 := Aside0.mk (hbox); have GW375 := ge_ hg HB; have GE375 := ge_ hg HB; replace HB := (bs_ HB hb); have NB374_375 := nl_ hg BK374; have NB375_374 := ng_ hg BK374; replace BK374 := (bbA_ BK374 hb); clear hb hbox hg))
 (try simp only [Act.put, List.setIfInBounds_toArray, List.set_cons_zero, List.set_cons_succ])
 go_cut [19] (fun v19 wc => ∃ (kq : Nat) (x19_1 : Bool), v19 = .bool x19_1 ∧ Aside0 (spec_PartWhole.j0 kq x19_1 l0_0 a0_1 = some (r1, r2, r3, r4, r5, r6, r7, r8, r9, r10)) ∧ Aside0 (kq ≤ k) ∧ Aside0 (wc.heap[gb374]? = some (.cells #[(.slice A0_0 l0_0.length c0_0), .int .i64 a0_1] 25 (0, 0))) ∧ Aside0 (wc.heap[gb375]? = some (.cells #[.int .i64 0, .int .i64 0, .int .i64 0, .int .i64 0, .int .i64 0, .int .i64 0, .bool false, .bool false, (.slice none 0 0)] 28 (0, 0))) ∧ Aside0 (Below w.heap.size w wc))
 case first =>
  have H := HC2.out; clear HC2
  replace H := Option.bind_eq_some_iff.mp H
  obtain ⟨t376, A50, H⟩ := H
  (try dsimp only at H)
  have A5 := Aside0.mk A50; clear A50
  by_cases c6 : t376 = true
  ·subst c6
   rw [if_pos rfl] at H
   obtain ⟨ji7, hji7⟩ : ∃ j_ : Int, (wrap64 ((l0_0.length : Int) - 1)) = j_ := ⟨_, rfl⟩
   (first | rw [hji7] at H | simp only [hji7] at H)
   (try rw [hji7] at A5)
   have hji7w : (IntKind.i64.wrap ((l0_0.length : Int) - 1)) = ji7 := (i64_w _).trans hji7
   by_cases c8 : 0 ≤ (ji7)
   ·rw [if_pos c8] at H
    have c8b0 : decide (0 ≤ (ji7)) = true := decide_eq_true c8
    clear c8
    (first | rw [c8b0] | (simp only [i64_w, i32_w]; rw [c8b0]) | skip)
    by_cases c9 : (ji7) < (l0_0.length : Int)
    ·rw [if_pos c9] at H
     have c9b0 : decide ((ji7) < (l0_0.length : Int)) = true := decide_eq_true c9
     clear c9
     have H' := Aside0.mk H
     clear H; have hnb10 := NB374_375.out; have hnc10 := NB375_374.out; have Z11 := zz2 BK374
     go_wp2_with (first | ((with_reducible refine gate_callee (f := 46) rfl ?_); refine goesL_ (some 7) rfl rfl Try.func46 (by kernel_rfl) rfl #[.agg #[.slice A0_0 l0_0.length c0_0, .int .i64 a0_1]] rfl ar_ ?_; (with_reducible refine (spec_PartOk.calls k _ _ l0_0 a0_1 true _ ?side1 ?side2 A5.out).mono ?_); (case side1 => exact kC_ (Kd.C_below HR0_0.out HB.out)); (case side2 => exact HC0_0.out); rintro e w12 ⟨rfl, hb⟩; refine ⟨_, rfl, ?_⟩; replace BK374 := (bbA_ BK374 hb); replace BK375 := (bbA_ BK375 hb); replace HB := (bs_ HB hb); (try clear hb); (try clear hb2); (try clear hk); (try clear hi); have Z13 := zz2 BK374; have p377 : 0 ≤ ((ji7) : Int) := of_decide_eq_true (by first | (with_reducible assumption) | assumption); have q377 : (ji7) < (l0_0.length : Int) := of_decide_eq_true (by first | (with_reducible assumption) | assumption); obtain ⟨ad377, A377_8, c377_8, e377, hx377_0, hx377_1, hx377_2, hx377_3, hx377_4, hx377_5, hx377_6, hx377_7, hx377_8, hl377_8, hi377_8⟩ := at_T28 HR0_0.out (ji7) p377 q377; cases e377; replace hx377_0 := cc_ HB hx377_0; replace hx377_1 := cc_ HB hx377_1; replace hx377_2 := cc_ HB hx377_2; replace hx377_3 := cc_ HB hx377_3; replace hx377_4 := cc_ HB hx377_4; replace hx377_5 := cc_ HB hx377_5; replace hx377_6 := cc_ HB hx377_6; replace hx377_7 := cc_ HB hx377_7; replace hx377_8 := cc_ HB hx377_8; have HR377_8 := Aside0.mk hi377_8; have HC377_8 := Aside0.mk hl377_8; clear hi377_8 hl377_8; replace p377 := eq_true p377; replace q377 := eq_true q377))
     first | go_meet | ((try simp only [← hji7]); go_meet)
     case rel => exact ⟨_, ((rd_T28 l0_0 (ji7)).f6), (by first | rfl | (simp; done) | (simp only [← hji7] <;> (first | rfl | simp)) | (simp [*]; done)), H', ⟨by first | omega | exact Nat.le_refl _⟩, ⟨by refine kb_ ?_; exact BK374.out⟩, ⟨by refine kb_ ?_; exact BK375.out⟩, ⟨hbA_ HB.out⟩⟩
    ·rw [if_neg c9] at H
     exact absurd H (by simp)
   ·rw [if_neg c8] at H
    exact absurd H (by simp)
  ·replace c6 := Bool.eq_false_iff.mpr c6
   subst c6
   rw [if_neg (show ¬ (false = true) by decide)] at H
   have H' := Aside0.mk H
   clear H; have hnb14 := NB374_375.out; have hnc14 := NB375_374.out; have Z15 := zz2 BK374
   go_wp2_with (first | ((with_reducible refine gate_callee (f := 46) rfl ?_); refine goesL_ (some 7) rfl rfl Try.func46 (by kernel_rfl) rfl #[.agg #[.slice A0_0 l0_0.length c0_0, .int .i64 a0_1]] rfl ar_ ?_; (with_reducible refine (spec_PartOk.calls k _ _ l0_0 a0_1 false _ ?side1 ?side2 A5.out).mono ?_); (case side1 => exact kC_ (Kd.C_below HR0_0.out HB.out)); (case side2 => exact HC0_0.out); rintro e w16 ⟨rfl, hb⟩; refine ⟨_, rfl, ?_⟩; replace BK374 := (bbA_ BK374 hb); replace BK375 := (bbA_ BK375 hb); replace HB := (bs_ HB hb); (try clear hb); (try clear hb2); (try clear hk); (try clear hi)))
   go_meet
   case rel => exact ⟨_, (true), (by first | rfl | (simp; done) | (simp [*]; done)), H', ⟨by first | omega | exact Nat.le_refl _⟩, ⟨by refine kb_ ?_; exact BK374.out⟩, ⟨by refine kb_ ?_; exact BK375.out⟩, ⟨hbA_ HB.out⟩⟩
 case rest =>
  clear HC2; (try clear c1); (try clear p2); (try clear c3); (try clear p3); (try clear q3); (try clear hx3); (try clear c4); (try clear c6); (try clear p6); (try clear c8); (try clear c8b0); (try clear c9); (try clear c9b0); (try clear c10); (try clear c11); (try clear c14); (try clear Z11); (try clear Z13); (try clear Z15); (try clear hx377_0); (try clear hx377_1); (try clear hx377_2); (try clear hx377_3); (try clear hx377_4); (try clear hx377_5); (try clear hx377_6); (try clear hx377_7); (try clear hx377_8); (try clear p377); (try clear q377)
  obtain ⟨kq, x19_1, rfl, HA, HJ1, BK374, BK375, HB⟩ := hcut
  cases kq with
  | zero => exact absurd HA.out (by simp [spec_PartWhole.j0])
  | succ kj1 =>
   have H := HA.out; clear HA
   simp only [spec_PartWhole.j0] at H
   by_cases c17 : x19_1 = true
   ·subst c17
    rw [if_pos rfl] at H
    simp only [Option.some.injEq, Prod.mk.injEq] at H
    obtain ⟨rfl, rfl, rfl, rfl, rfl, rfl, rfl, rfl, rfl, rfl⟩ := H
    have hnb18 := NB375_374.out; have hnc18 := NB374_375.out; have Z19 := zz9 BK375
    go_wp2
    refine bodyPost_ret (results_ct rfl _ _ gb375 28 #[.int .i64 0, .int .i64 0, .int .i64 0, .int .i64 0, .int .i64 0, .int .i64 0, .bool false, .bool false, .slice none 0 0] (0, 0) _ rfl (by refine kb_ ?_; refine pz9 (cs := #[.int .i64 0, .int .i64 0, .int .i64 0, .int .i64 0, .int .i64 0, .int .i64 0, .bool false, .bool false, .slice none 0 0]) ?_; refine kb_ ?_; exact BK375.out) Try.underlying28 rfl (by kernel_rfl)) rfl ?_
    exact ⟨_, by first | rfl | (simp [errW_none, errW_some] <;> rfl) | (simp [*, errW_none, errW_some] <;> rfl), by first | exact Kd.R_nil _ _ _ _ _ | exact Kd.N_nil _ _ _ _ _ | exact Kd.V_nil _ _ _ _ _ | exact Kd.Q_nil _ _ _ _ _ | exact Kd.S_nil _ _ _ _ _, hbA_ HB.out⟩
   ·replace c17 := Bool.eq_false_iff.mpr c17
    subst c17
    rw [if_neg (show ¬ (false = true) by decide)] at H
    by_cases c20 : 0 < (l0_0.length : Int)
    ·rw [if_pos c20] at H
     have c20b0 : decide (0 < (l0_0.length : Int)) = true := decide_eq_true c20
     have c20b1 : decide (0 < l0_0.length) = true := decide_eq_true (by omega)
     clear c20
     obtain ⟨y380, hy380⟩ : ∃ y_ : List Int, y_ = (([] : List Int)) := ⟨_, rfl⟩
     (first | replace H := sb_ hy380 H | rw [← hy380] at H)
     have Ny380 := Aside0.mk hy380; clear hy380
     have H' := Aside0.mk H
     clear H; have hnb21 := NB374_375.out; have hnc21 := NB375_374.out; have Z22 := zz2 BK374
     have p378 : 0 ≤ (0 : Int) := (by omega)
     have q378 : 0 < (l0_0.length : Int) := of_decide_eq_true (by first | (with_reducible assumption) | assumption)
     obtain ⟨ad378, A378_8, c378_8, e378, hx378_0, hx378_1, hx378_2, hx378_3, hx378_4, hx378_5, hx378_6, hx378_7, hx378_8, hl378_8, hi378_8⟩ := at_T28 HR0_0.out 0 p378 q378
     cases e378
     have qi378 : (0 < l0_0.length) = True := eq_true (by omega)
     (try rw [show ((0 : Int)).toNat = 0 from rfl] at hx378_0)
     (try rw [show 0 * 9 = 0 from rfl] at hx378_0)
     (try rw [Addr.add_zero'] at hx378_0)
     (try rw [show ((0 : Int)).toNat = 0 from rfl] at hx378_1)
     (try rw [show 0 * 9 = 0 from rfl] at hx378_1)
     (try rw [Addr.add_zero'] at hx378_1)
     (try rw [show ((0 : Int)).toNat = 0 from rfl] at hx378_2)
     (try rw [show 0 * 9 = 0 from rfl] at hx378_2)
     (try rw [Addr.add_zero'] at hx378_2)
     (try rw [show ((0 : Int)).toNat = 0 from rfl] at hx378_3)
     (try rw [show 0 * 9 = 0 from rfl] at hx378_3)
     (try rw [Addr.add_zero'] at hx378_3)
     (try rw [show ((0 : Int)).toNat = 0 from rfl] at hx378_4)
     (try rw [show 0 * 9 = 0 from rfl] at hx378_4)
     (try rw [Addr.add_zero'] at hx378_4)
     (try rw [show ((0 : Int)).toNat = 0 from rfl] at hx378_5)
     (try rw [show 0 * 9 = 0 from rfl] at hx378_5)
     (try rw [Addr.add_zero'] at hx378_5)
     (try rw [show ((0 : Int)).toNat = 0 from rfl] at hx378_6)
     (try rw [show 0 * 9 = 0 from rfl] at hx378_6)
     (try rw [Addr.add_zero'] at hx378_6)
     (try rw [show ((0 : Int)).toNat = 0 from rfl] at hx378_7)
     (try rw [show 0 * 9 = 0 from rfl] at hx378_7)
     (try rw [Addr.add_zero'] at hx378_7)
     (try rw [show ((0 : Int)).toNat = 0 from rfl] at hx378_8)
     (try rw [show 0 * 9 = 0 from rfl] at hx378_8)
     (try rw [Addr.add_zero'] at hx378_8)
     replace hx378_0 := cc_ HB hx378_0
     replace hx378_1 := cc_ HB hx378_1
     replace hx378_2 := cc_ HB hx378_2
     replace hx378_3 := cc_ HB hx378_3
     replace hx378_4 := cc_ HB hx378_4
     replace hx378_5 := cc_ HB hx378_5
     replace hx378_6 := cc_ HB hx378_6
     replace hx378_7 := cc_ HB hx378_7
     replace hx378_8 := cc_ HB hx378_8
     have HR378_8 := Aside0.mk hi378_8; have HC378_8 := Aside0.mk hl378_8; clear hi378_8 hl378_8
     replace p378 := eq_true p378
     replace q378 := eq_true q378
     go_wp2_with (first | ((with_reducible refine gate_dst (N := 4) rfl ?_); (try (refine gate_guard (by rfl) ?_; dsimp only)); refine box_ (N := 4) (cs := #[.int .i64 0, .int .i64 0, .int .i64 0, .int .i64 0, .int .i64 0, .int .i64 0, .bool false, .bool false, .slice none 0 0]) (t := 28) (fun gb379 hg w23 hbox hb => ?_); have BK379 := Aside0.mk (hbox); have GW379 := ge_ hg HB; have GE379 := ge_ hg HB; replace HB := (bs_ HB hb); have NB374_379 := nl_ hg BK374; have NB379_374 := ng_ hg BK374; replace BK374 := (bbA_ BK374 hb); have NB375_379 := nl_ hg BK375; have NB379_375 := ng_ hg BK375; replace BK375 := (bbA_ BK375 hb); clear hb hbox hg; have hnb24 := NB379_374.out; have hnc24 := NB374_379.out; have hnb25 := NB379_375.out; have hnc25 := NB375_379.out; have Z26 := zz9 BK379) | ((with_reducible refine gate_dst (N := 26) rfl ?_); (try (refine gate_guard (by rfl) ?_; dsimp only)); refine Kd.R_lit (Kd.int .u8) _ 5 ?hg (N := 26) ?hd (xs := ([] : List Int)) (inner := []) (ok := fun _ => True) (okp := fun _ => True) ?hr ?hp (fun _ hk => hk) trivial (Below.refl _ _) (Nat.le_refl _) (by simp) ?_; (case hd => rfl); (case hg => rfl); (case hr => first | (go_simp; done) | (go_simp; rfl)); (case hp => exact (Reps.none _ _)); intro v381 w27 ho28 hb hg_ hnew_; clear hg_ hnew_; (first | rw [← Ny380.out] at ho28 | (simp only [Int.reduceToNat] at ho28; rw [← Ny380.out] at ho28)); have HO382 := Aside0.mk (Kd.R_lower ho28 (below_size (hbA_ HB.out))); replace BK374 := Aside0.mk (blk_below (g := gb374) (o := .cells #[.slice (some ad378) l0_0.length c0_0, .int .i64 a0_1] 25 (0, 0)) (by exact kf_ BK374.out) hb); replace BK375 := Aside0.mk (blk_below (g := gb375) (o := .cells #[.int .i64 0, .int .i64 0, .int .i64 0, .int .i64 0, .int .i64 0, .int .i64 0, .bool false, .bool false, .slice none 0 0] 28 (0, 0)) (by exact kf_ BK375.out) hb); replace BK379 := Aside0.mk (blk_below (g := gb379) (o := .cells #[.int .i64 ((rd_T28 l0_0 0).f0), .int .i64 ((rd_T28 l0_0 0).f1), .int .i64 ((rd_T28 l0_0 0).f2), .int .i64 ((rd_T28 l0_0 0).f3), .int .i64 ((rd_T28 l0_0 0).f4), .int .i64 ((rd_T28 l0_0 0).f5), .bool false, .bool ((rd_T28 l0_0 0).f7), .slice A378_8 ((rd_T28 l0_0 0).f8).length c378_8] 28 (0, 0)) (by refine kb_ ?_; refine blk_put (cs := #[.int .i64 ((rd_T28 l0_0 0).f0), .int .i64 ((rd_T28 l0_0 0).f1), .int .i64 ((rd_T28 l0_0 0).f2), .int .i64 ((rd_T28 l0_0 0).f3), .int .i64 ((rd_T28 l0_0 0).f4), .int .i64 ((rd_T28 l0_0 0).f5), .bool ((rd_T28 l0_0 0).f6), .bool ((rd_T28 l0_0 0).f7), .slice A378_8 ((rd_T28 l0_0 0).f8).length c378_8]) ?_ 6 _ rfl; refine kb_ ?_; refine pz9 (cs := #[.int .i64 0, .int .i64 0, .int .i64 0, .int .i64 0, .int .i64 0, .int .i64 0, .bool false, .bool false, .slice none 0 0]) ?_; refine kb_ ?_; exact BK379.out) hb); replace HB := (bs_ HB hb); clear hb ho28; obtain ⟨Ao29, co29, eo29⟩ := Kd.R_slice HO382.out; subst eo29; have Z30 := zz9 BK379))
     go_loopg [5] kj1 (fun kq v5 w' => ∃ (x5_2 : Int) (x376000_2 : Int) (x376001_2 : Int) (x376002_2 : Int) (x376003_2 : Int) (x376004_2 : Int) (x376005_2 : Int) (x376006_2 : Bool) (x376007_2 : Bool) (x380008_2 : List Int) (u380008 : Value), v5 = .int .i64 x5_2 ∧ Aside0 (spec_PartWhole.l0 kq x5_2 l0_0 a0_1 ((rd_T28 l0_0 0).f0) ((rd_T28 l0_0 0).f1) ((rd_T28 l0_0 0).f2) ((rd_T28 l0_0 0).f3) ((rd_T28 l0_0 0).f4) ((rd_T28 l0_0 0).f5) false ((rd_T28 l0_0 0).f7) x380008_2 = some (r1, r2, r3, r4, r5, r6, r7, r8, r9, r10)) ∧ Aside0 (kq ≤ kj1) ∧ Aside0 (Kd.R (Kd.int .u8) 5 w' w.heap.size (fun _ => True) u380008 x380008_2) ∧ Aside0 (w'.heap[gb374]? = some (.cells #[(.slice (some ad378) l0_0.length c0_0), .int .i64 a0_1] 25 (0, 0))) ∧ Aside0 (w'.heap[gb375]? = some (.cells #[.int .i64 x376000_2, .int .i64 x376001_2, .int .i64 x376002_2, .int .i64 x376003_2, .int .i64 x376004_2, .int .i64 x376005_2, .bool x376006_2, .bool x376007_2, (.slice none 0 0)] 28 (0, 0))) ∧ Aside0 (w'.heap[gb379]? = some (.cells #[.int .i64 ((rd_T28 l0_0 0).f0), .int .i64 ((rd_T28 l0_0 0).f1), .int .i64 ((rd_T28 l0_0 0).f2), .int .i64 ((rd_T28 l0_0 0).f3), .int .i64 ((rd_T28 l0_0 0).f4), .int .i64 ((rd_T28 l0_0 0).f5), .bool false, .bool ((rd_T28 l0_0 0).f7), u380008] 28 (0, 0))) ∧ Aside0 (Below w.heap.size w w'))
     case atStart => exact ⟨(0), (0), (0), (0), (0), (0), (0), (false), (false), (y380), (.slice Ao29 y380.length co29), (by first | rfl | (simp; done) | (simp [*]; done)), H', ⟨Nat.le_refl _⟩, ⟨by refine kR_ ?_; exact Kd.R_mono (Kd.R_f gb379 8 (.slice Ao29 y380.length co29) (Kd.R_types HO382.out BK379.out (by decide))) (fun _ hk => trivial)⟩, ⟨by exact kf_ BK374.out⟩, ⟨by exact kf_ BK375.out⟩, ⟨by refine kb_ ?_; refine blk_put (cs := #[.int .i64 ((rd_T28 l0_0 0).f0), .int .i64 ((rd_T28 l0_0 0).f1), .int .i64 ((rd_T28 l0_0 0).f2), .int .i64 ((rd_T28 l0_0 0).f3), .int .i64 ((rd_T28 l0_0 0).f4), .int .i64 ((rd_T28 l0_0 0).f5), .bool false, .bool ((rd_T28 l0_0 0).f7), .slice A378_8 ((rd_T28 l0_0 0).f8).length c378_8]) ?_ 8 _ rfl; refine kb_ ?_; exact BK379.out⟩, ⟨hbA_ HB.out⟩⟩
     case round =>
      clear H'; (try clear c1); (try clear c2); (try clear p2); (try clear c3); (try clear p3); (try clear q3); (try clear hx3); (try clear qi3); (try clear c4); (try clear c6); (try clear p6); (try clear c8); (try clear c8b0); (try clear c9); (try clear c9b0); (try clear c10); (try clear c11); (try clear c14); (try clear c17); (try clear c18); (try clear c20); (try clear c20b0); (try clear c20b1); (try clear c21); (try clear c24); (try clear c25); (try clear Z11); (try clear Z13); (try clear Z15); (try clear Z19); (try clear Z22); (try clear Z26); (try clear Z30); (try clear hx377_0); (try clear hx377_1); (try clear hx377_2); (try clear hx377_3); (try clear hx377_4); (try clear hx377_5); (try clear hx377_6); (try clear hx377_7); (try clear hx377_8); (try clear hx378_0); (try clear hx378_1); (try clear hx378_2); (try clear hx378_3); (try clear hx378_4); (try clear hx378_5); (try clear hx378_6); (try clear hx378_7); (try clear hx378_8); (try clear p2); (try clear p3); (try clear p377); (try clear p378); (try clear p6); (try clear q3); (try clear q377); (try clear q378)
      obtain ⟨x5_2, x376000_2, x376001_2, x376002_2, x376003_2, x376004_2, x376005_2, x376006_2, x376007_2, x380008_2, u380008, rfl, HA, HK2, HO_380008, BK374, BK375, BK379, HB⟩ := hrel
      cases gk with
      | zero => exact absurd HA.out (by simp [spec_PartWhole.l0])
      | succ k2 =>
       have H := HA.out; clear HA
       simp only [spec_PartWhole.l0] at H
       by_cases c31 : x5_2 < (l0_0.length : Int)
       ·rw [if_pos c31] at H
        have c31b0 : decide (x5_2 < (l0_0.length : Int)) = true := decide_eq_true c31
        clear c31
        by_cases c32 : 0 ≤ x5_2
        ·rw [if_pos c32] at H
         have c32b0 : decide (0 ≤ x5_2) = true := decide_eq_true c32
         clear c32
         by_cases c33 : ((rd_T28 l0_0 x5_2).f5) = (x380008_2.length : Int)
         ·rw [if_pos c33] at H
          have c33b0 : (((rd_T28 l0_0 x5_2).f5) == (x380008_2.length : Int)) = true := beq_iff_eq.mpr c33
          have c33b1 : (((rd_T28 l0_0 x5_2).f5) != (x380008_2.length : Int)) = false := bne_eq_false_iff_eq.mpr c33
          clear c33
          by_cases c34 : x380008_2.length + ((rd_T28 l0_0 x5_2).f8).length < 140737488355328
          ·rw [if_pos c34] at H
           have LMc34 := Aside0.mk c34; clear c34
           obtain ⟨y385, hy385⟩ : ∃ y_ : List Int, y_ = (x380008_2 ++ ((rd_T28 l0_0 x5_2).f8)) := ⟨_, rfl⟩
           (first | replace H := sb_ hy385 H | rw [← hy385] at H)
           have Ny385 := Aside0.mk hy385; clear hy385
           have H' := Aside0.mk H
           clear H; have hnb35 := NB374_375.out; have hnc35 := NB375_374.out; have hnb36 := NB374_379.out; have hnc36 := NB379_374.out; have Z37 := zz2 BK374
           try go_wp2
           replace HO_380008 := Aside0.mk (Kd.R_drew HO_380008.out); replace BK374 := Aside0.mk (blk_drew BK374.out); replace BK375 := Aside0.mk (blk_drew BK375.out); replace BK379 := Aside0.mk (blk_drew BK379.out); replace HB := (bd_ HB)
           have p383 : 0 ≤ (x5_2 : Int) := of_decide_eq_true (by first | (with_reducible assumption) | assumption)
           have q383 : x5_2 < (l0_0.length : Int) := of_decide_eq_true (by first | (with_reducible assumption) | assumption)
           obtain ⟨ad383, A383_8, c383_8, e383, hx383_0, hx383_1, hx383_2, hx383_3, hx383_4, hx383_5, hx383_6, hx383_7, hx383_8, hl383_8, hi383_8⟩ := at_T28 HR0_0.out x5_2 p383 q383
           have hw383_8 := hx383_8; have hw383_7 := hx383_7; have hw383_6 := hx383_6; have hw383_5 := hx383_5; have hw383_4 := hx383_4; have hw383_3 := hx383_3; have hw383_2 := hx383_2; have hw383_1 := hx383_1; have hw383_0 := hx383_0
           obtain rfl : ad378 = ad383 := (by injection e383)
           replace hx383_0 := cc_ HB hx383_0
           replace hx383_1 := cc_ HB hx383_1
           replace hx383_2 := cc_ HB hx383_2
           replace hx383_3 := cc_ HB hx383_3
           replace hx383_4 := cc_ HB hx383_4
           replace hx383_5 := cc_ HB hx383_5
           replace hx383_6 := cc_ HB hx383_6
           replace hx383_7 := cc_ HB hx383_7
           replace hx383_8 := cc_ HB hx383_8
           have HR383_8 := Aside0.mk hi383_8; have HC383_8 := Aside0.mk hl383_8; clear hi383_8 hl383_8
           replace p383 := eq_true p383
           replace q383 := eq_true q383
           obtain ⟨Ao39, co39, eo39⟩ := Kd.R_slice HO_380008.out
           (first | subst eo39 | (injection eo39 with f1_ f2_ f3_; have f4_ := f1_.symm; have f5_ := f3_.symm; clear f1_ f2_ f3_; subst f4_; subst f5_))
           refine start_ (n := 10) (S := fun w' => w'.cell? ⟨gb374, 0, none⟩ = some (.slice (some ad378) l0_0.length c0_0) ∧ w'.cell? ⟨gb374, 1, none⟩ = some (.int .i64 a0_1) ∧ w'.cell? ⟨gb379, 0, none⟩ = some (.int .i64 ((rd_T28 l0_0 0).f0)) ∧ w'.cell? ⟨gb379, 1, none⟩ = some (.int .i64 ((rd_T28 l0_0 0).f1)) ∧ w'.cell? ⟨gb379, 2, none⟩ = some (.int .i64 ((rd_T28 l0_0 0).f2)) ∧ w'.cell? ⟨gb379, 3, none⟩ = some (.int .i64 ((rd_T28 l0_0 0).f3)) ∧ w'.cell? ⟨gb379, 4, none⟩ = some (.int .i64 ((rd_T28 l0_0 0).f4)) ∧ w'.cell? ⟨gb379, 5, none⟩ = some (.int .i64 ((rd_T28 l0_0 0).f5)) ∧ w'.cell? ⟨gb379, 6, none⟩ = some (.bool false) ∧ w'.cell? ⟨gb379, 7, none⟩ = some (.bool ((rd_T28 l0_0 0).f7)) ∧ w'.cell? ⟨gb379, 8, none⟩ = some (.slice Ao39 x380008_2.length co39) ∧ w'.cell? (ad378.add ((x5_2).toNat * 9)) = some (.int .i64 ((rd_T28 l0_0 x5_2).f0)) ∧ w'.cell? ⟨(ad378.add ((x5_2).toNat * 9)).block, (ad378.add ((x5_2).toNat * 9)).off + 1, none⟩ = some (.int .i64 ((rd_T28 l0_0 x5_2).f1)) ∧ w'.cell? ⟨(ad378.add ((x5_2).toNat * 9)).block, (ad378.add ((x5_2).toNat * 9)).off + 2, none⟩ = some (.int .i64 ((rd_T28 l0_0 x5_2).f2)) ∧ w'.cell? ⟨(ad378.add ((x5_2).toNat * 9)).block, (ad378.add ((x5_2).toNat * 9)).off + 3, none⟩ = some (.int .i64 ((rd_T28 l0_0 x5_2).f3)) ∧ w'.cell? ⟨(ad378.add ((x5_2).toNat * 9)).block, (ad378.add ((x5_2).toNat * 9)).off + 4, none⟩ = some (.int .i64 ((rd_T28 l0_0 x5_2).f4)) ∧ w'.cell? ⟨(ad378.add ((x5_2).toNat * 9)).block, (ad378.add ((x5_2).toNat * 9)).off + 5, none⟩ = some (.int .i64 ((rd_T28 l0_0 x5_2).f5)) ∧ w'.cell? ⟨(ad378.add ((x5_2).toNat * 9)).block, (ad378.add ((x5_2).toNat * 9)).off + 6, none⟩ = some (.bool ((rd_T28 l0_0 x5_2).f6)) ∧ w'.cell? ⟨(ad378.add ((x5_2).toNat * 9)).block, (ad378.add ((x5_2).toNat * 9)).off + 7, none⟩ = some (.bool ((rd_T28 l0_0 x5_2).f7)) ∧ w'.cell? ⟨(ad378.add ((x5_2).toNat * 9)).block, (ad378.add ((x5_2).toNat * 9)).off + 8, none⟩ = some (.slice A383_8 ((rd_T28 l0_0 x5_2).f8).length c383_8)) (ds := []) #[false, false, false, false, false, false, false, false, false, false] (by kernel_rfl) rfl rfl ⟨bc_ BK374 0, bc_ BK374 1, bc_ BK379 0, bc_ BK379 1, bc_ BK379 2, bc_ BK379 3, bc_ BK379 4, bc_ BK379 5, bc_ BK379 6, bc_ BK379 7, bc_ BK379 8, (cc_ HB hw383_0), (cc_ HB hw383_1), (cc_ HB hw383_2), (cc_ HB hw383_3), (cc_ HB hw383_4), (cc_ HB hw383_5), (cc_ HB hw383_6), (cc_ HB hw383_7), (cc_ HB hw383_8)⟩ (fun hHeld => ?_); refine with_tabW spec_PartWhole.tab9 spec_PartWhole.bits9 (fun HT_ HW_ => ?_)
           generalize wr.drew = w38 at HO_380008 BK374 BK375 BK379 HB HR383_8 hx383_0 hx383_1 hx383_2 hx383_3 hx383_4 hx383_5 hx383_6 hx383_7 hx383_8 hHeld ⊢
           refine pu_ (i := 0) (N := some 35) HT_ ?_; refine pu_ (i := 2) (N := some 37) HT_ ?_; refine pu_ (i := 6) (N := some 41) HT_ ?_; refine tk_ (i := 1) (N := some 36) HT_ HW_ hHeld ?_; refine pu_ (i := 3) (N := some 38) HT_ ?_; refine pu_ (i := 4) (N := some 39) HT_ ?_; refine tk_ (i := 5) (N := some 40) HT_ HW_ hHeld ?_; refine tk_ (i := 7) (N := some 42) HT_ HW_ hHeld ?_; refine pu_ (i := 8) (N := some 43) HT_ ?_; refine pu_ (i := 9) (N := some 44) HT_ ?_
           refine done_ (done_of HT_.out (by kernel_rfl)) ?_
           try go_wp2
           replace HO_380008 := Aside0.mk (Kd.R_drew HO_380008.out); replace BK374 := Aside0.mk (blk_drew BK374.out); replace BK375 := Aside0.mk (blk_drew BK375.out); replace BK379 := Aside0.mk (blk_drew BK379.out); replace HB := (bd_ HB)
           have p384 : 0 ≤ (x5_2 : Int) := of_decide_eq_true (by first | (with_reducible assumption) | assumption)
           have q384 : x5_2 < (l0_0.length : Int) := of_decide_eq_true (by first | (with_reducible assumption) | assumption)
           obtain ⟨ad384, A384_8, c384_8, e384, hx384_0, hx384_1, hx384_2, hx384_3, hx384_4, hx384_5, hx384_6, hx384_7, hx384_8, hl384_8, hi384_8⟩ := at_T28 HR0_0.out x5_2 p384 q384
           have hw384_8 := hx384_8; have hw384_7 := hx384_7; have hw384_6 := hx384_6; have hw384_5 := hx384_5; have hw384_4 := hx384_4; have hw384_3 := hx384_3; have hw384_2 := hx384_2; have hw384_1 := hx384_1; have hw384_0 := hx384_0
           obtain rfl : ad378 = ad384 := (by injection e384)
           replace hx384_0 := cc_ HB hx384_0
           replace hx384_1 := cc_ HB hx384_1
           replace hx384_2 := cc_ HB hx384_2
           replace hx384_3 := cc_ HB hx384_3
           replace hx384_4 := cc_ HB hx384_4
           replace hx384_5 := cc_ HB hx384_5
           replace hx384_6 := cc_ HB hx384_6
           replace hx384_7 := cc_ HB hx384_7
           replace hx384_8 := cc_ HB hx384_8
           have HR384_8 := Aside0.mk hi384_8; have HC384_8 := Aside0.mk hl384_8; clear hi384_8 hl384_8
           replace p384 := eq_true p384
           replace q384 := eq_true q384
           refine start_ (n := 11) (S := fun w' => w'.cell? ⟨gb379, 0, none⟩ = some (.int .i64 ((rd_T28 l0_0 0).f0)) ∧ w'.cell? ⟨gb379, 1, none⟩ = some (.int .i64 ((rd_T28 l0_0 0).f1)) ∧ w'.cell? ⟨gb379, 2, none⟩ = some (.int .i64 ((rd_T28 l0_0 0).f2)) ∧ w'.cell? ⟨gb379, 3, none⟩ = some (.int .i64 ((rd_T28 l0_0 0).f3)) ∧ w'.cell? ⟨gb379, 4, none⟩ = some (.int .i64 ((rd_T28 l0_0 0).f4)) ∧ w'.cell? ⟨gb379, 5, none⟩ = some (.int .i64 ((rd_T28 l0_0 0).f5)) ∧ w'.cell? ⟨gb379, 6, none⟩ = some (.bool false) ∧ w'.cell? ⟨gb379, 7, none⟩ = some (.bool ((rd_T28 l0_0 0).f7)) ∧ w'.cell? ⟨gb379, 8, none⟩ = some (.slice Ao39 x380008_2.length co39) ∧ w'.cell? ⟨gb374, 0, none⟩ = some (.slice (some ad378) l0_0.length c0_0) ∧ w'.cell? ⟨gb374, 1, none⟩ = some (.int .i64 a0_1) ∧ w'.cell? (ad378.add ((x5_2).toNat * 9)) = some (.int .i64 ((rd_T28 l0_0 x5_2).f0)) ∧ w'.cell? ⟨(ad378.add ((x5_2).toNat * 9)).block, (ad378.add ((x5_2).toNat * 9)).off + 1, none⟩ = some (.int .i64 ((rd_T28 l0_0 x5_2).f1)) ∧ w'.cell? ⟨(ad378.add ((x5_2).toNat * 9)).block, (ad378.add ((x5_2).toNat * 9)).off + 2, none⟩ = some (.int .i64 ((rd_T28 l0_0 x5_2).f2)) ∧ w'.cell? ⟨(ad378.add ((x5_2).toNat * 9)).block, (ad378.add ((x5_2).toNat * 9)).off + 3, none⟩ = some (.int .i64 ((rd_T28 l0_0 x5_2).f3)) ∧ w'.cell? ⟨(ad378.add ((x5_2).toNat * 9)).block, (ad378.add ((x5_2).toNat * 9)).off + 4, none⟩ = some (.int .i64 ((rd_T28 l0_0 x5_2).f4)) ∧ w'.cell? ⟨(ad378.add ((x5_2).toNat * 9)).block, (ad378.add ((x5_2).toNat * 9)).off + 5, none⟩ = some (.int .i64 ((rd_T28 l0_0 x5_2).f5)) ∧ w'.cell? ⟨(ad378.add ((x5_2).toNat * 9)).block, (ad378.add ((x5_2).toNat * 9)).off + 6, none⟩ = some (.bool ((rd_T28 l0_0 x5_2).f6)) ∧ w'.cell? ⟨(ad378.add ((x5_2).toNat * 9)).block, (ad378.add ((x5_2).toNat * 9)).off + 7, none⟩ = some (.bool ((rd_T28 l0_0 x5_2).f7)) ∧ w'.cell? ⟨(ad378.add ((x5_2).toNat * 9)).block, (ad378.add ((x5_2).toNat * 9)).off + 8, none⟩ = some (.slice A384_8 ((rd_T28 l0_0 x5_2).f8).length c384_8)) (ds := [10]) #[false, false, false, false, false, false, false, false, false, false, false] (by kernel_rfl) rfl rfl ⟨bc_ BK379 0, bc_ BK379 1, bc_ BK379 2, bc_ BK379 3, bc_ BK379 4, bc_ BK379 5, bc_ BK379 6, bc_ BK379 7, bc_ BK379 8, bc_ BK374 0, bc_ BK374 1, (cc_ HB hw384_0), (cc_ HB hw384_1), (cc_ HB hw384_2), (cc_ HB hw384_3), (cc_ HB hw384_4), (cc_ HB hw384_5), (cc_ HB hw384_6), (cc_ HB hw384_7), (cc_ HB hw384_8)⟩ (fun hHeld => ?_); refine with_tabW spec_PartWhole.tab11 spec_PartWhole.bits11 (fun HT_ HW_ => ?_)
           generalize w38.drew = w40 at HO_380008 BK374 BK375 BK379 HB HR384_8 hx384_0 hx384_1 hx384_2 hx384_3 hx384_4 hx384_5 hx384_6 hx384_7 hx384_8 hHeld ⊢
           refine pu_ (i := 0) (N := some 46) HT_ ?_; refine pu_ (i := 2) (N := some 48) HT_ ?_; refine pu_ (i := 4) (N := some 50) HT_ ?_; refine tk_ (i := 1) (N := some 47) HT_ HW_ hHeld ?_; refine tk_ (i := 3) (N := some 49) HT_ HW_ hHeld ?_; refine pu_ (i := 5) (N := some 51) HT_ ?_; refine pu_ (i := 6) (N := some 52) HT_ ?_; refine tk_ (i := 7) (N := some 53) HT_ HW_ hHeld ?_
           refine on_ (i := 8) (N := some 54) HT_ (fun K hK => ?_)
           refine Kd.R_append_rows_step (Kd.int .u8) (w0 := w) w.heap.size (by rfl) (.tmp 47) (.tmp 53) 22 5 (.int .u8 0) 1 rfl Try.underlying22 info5 rfl (by decide) (by omega) (.slice Ao39 x380008_2.length co39) x380008_2 ((rd_T28 l0_0 x5_2).f8) _ _ _ (fun _ => True) (fun _ => False) rfl rfl ?aO ?aR (fun _ _ h => h) (fun _ h => h.elim) ?aF ?aB ?aS ?aL ?_
           (case aR => exact kC_ (Kd.C_below HR384_8.out HB.out))
           (case aB => exact (hbA_ HB.out))
           (case aF => exact (fun _ _ => trivial))
           (case aO => exact (kR_ HO_380008.out))
           (case aS => exact (below_size (hbA_ HB.out)))
           (case aL => have := LMc34.out; omega)
           intro v386 w41 ho hb hg hat
           rw [← Ny385.out] at ho
           have n0_ := (bgA_ BK374 hg (Kd.R_ne HO_380008.out BK374.out (by decide))); have n1_ := (bgA_ BK375 hg (Kd.R_ne HO_380008.out BK375.out (by decide))); have n2_ := (bgA_ BK379 hg (Kd.R_ne HO_380008.out BK379.out (by decide))); have n3_ := Aside0.mk (hb); have n4_ := Aside0.mk (ho); clear BK374 BK375 BK379 HB HO_380008; have BK374 := n0_; have BK375 := n1_; have BK379 := n2_; have HB := n3_; have HO387 := n4_; clear n0_ n1_ n2_ n3_ n4_ ho hb hg hat
           obtain ⟨Ao42, co42, eo42⟩ := Kd.R_slice HO387.out
           (first | subst eo42 | (injection eo42 with f1_ f2_ f3_; have f4_ := f1_.symm; have f5_ := f3_.symm; clear f1_ f2_ f3_; subst f4_; subst f5_))
           refine hK.out _ _ ⟨bc_ BK379 0, bc_ BK379 1, bc_ BK379 2, bc_ BK379 3, bc_ BK379 4, bc_ BK379 5, bc_ BK379 6, bc_ BK379 7, bc_ BK379 8, bc_ BK374 0, bc_ BK374 1, (cc_ HB hw384_0), (cc_ HB hw384_1), (cc_ HB hw384_2), (cc_ HB hw384_3), (cc_ HB hw384_4), (cc_ HB hw384_5), (cc_ HB hw384_6), (cc_ HB hw384_7), (cc_ HB hw384_8)⟩ (fun hHeld => ?_)
           clear hK K; refine nm_ 54 ?_; refine pu_ (i := 9) (N := some 55) HT_ ?_
           refine last_ (i := 10) (N := none) #[true, true, true, true, true, true, true, true, true, true, true] rfl rfl (one_of HT_.out (by kernel_rfl)) (by decide) (fun K hK => ?_)
           have hs43 : w41.cell? ⟨gb379, 8, none⟩ = some (.slice Ao39 x380008_2.length co39) := bc_ BK379 8
           have hfs43 := blk_frozen BK379.out 8
           have hns43_0 := NB374_379.out; have hns43_1 := NB375_379.out; have hms43_0 := NB379_374.out; have hms43_1 := NB379_375.out
           refine skip_ (w1 := ?_) (by rfl) rfl ?_ ?_
           rotate_left
           ·go_simp
            rfl
           refine hK.out _ _ ?_
           clear hK K
           refine done_ (done_of HT_.out (by kernel_rfl)) ?_
           try go_wp2
           go_roundg k2
           case measure => have := HJ1.out; have := HK2.out; omega
           case rel => exact ⟨(wrap64 (x5_2 + 1)), (x376000_2), (x376001_2), (x376002_2), (x376003_2), (x376004_2), (x376005_2), (x376006_2), (x376007_2), (y385), (.slice Ao42 y385.length co42), (by first | rfl | (simp; done) | (simp [*]; done)), H', ⟨by have := HJ1.out; have := HK2.out; omega⟩, ⟨by refine kR_ ?_; exact Kd.R_mono (Kd.R_f gb379 8 (.slice Ao42 y385.length co42) (Kd.R_types HO387.out BK379.out (by decide))) (fun _ hk => trivial)⟩, ⟨by exact kf_ BK374.out⟩, ⟨by exact kf_ BK375.out⟩, ⟨by refine kb_ ?_; refine blk_put (cs := #[.int .i64 ((rd_T28 l0_0 0).f0), .int .i64 ((rd_T28 l0_0 0).f1), .int .i64 ((rd_T28 l0_0 0).f2), .int .i64 ((rd_T28 l0_0 0).f3), .int .i64 ((rd_T28 l0_0 0).f4), .int .i64 ((rd_T28 l0_0 0).f5), .bool false, .bool ((rd_T28 l0_0 0).f7), .slice Ao39 x380008_2.length co39]) ?_ 8 _ rfl; refine kb_ ?_; exact BK379.out⟩, ⟨hbA_ HB.out⟩⟩
          ·rw [if_neg c34] at H
           exact absurd H (by simp)
         ·rw [if_neg c33] at H
          have c33b0 : (((rd_T28 l0_0 x5_2).f5) == (x380008_2.length : Int)) = false := beq_eq_false_iff_ne.mpr c33
          have c33b1 : (((rd_T28 l0_0 x5_2).f5) != (x380008_2.length : Int)) = true := bne_iff_ne.mpr c33
          simp only [Option.some.injEq, Prod.mk.injEq] at H
          obtain ⟨rfl, rfl, rfl, rfl, rfl, rfl, rfl, rfl, rfl, rfl⟩ := H
          have hnb44 := NB374_375.out; have hnc44 := NB375_374.out; have hnb45 := NB374_379.out; have hnc45 := NB379_374.out; have Z46 := zz2 BK374
          try go_wp2
          replace HO_380008 := Aside0.mk (Kd.R_drew HO_380008.out); replace BK374 := Aside0.mk (blk_drew BK374.out); replace BK375 := Aside0.mk (blk_drew BK375.out); replace BK379 := Aside0.mk (blk_drew BK379.out); replace HB := (bd_ HB)
          have p383 : 0 ≤ (x5_2 : Int) := of_decide_eq_true (by first | (with_reducible assumption) | assumption)
          have q383 : x5_2 < (l0_0.length : Int) := of_decide_eq_true (by first | (with_reducible assumption) | assumption)
          obtain ⟨ad383, A383_8, c383_8, e383, hx383_0, hx383_1, hx383_2, hx383_3, hx383_4, hx383_5, hx383_6, hx383_7, hx383_8, hl383_8, hi383_8⟩ := at_T28 HR0_0.out x5_2 p383 q383
          have hw383_8 := hx383_8; have hw383_7 := hx383_7; have hw383_6 := hx383_6; have hw383_5 := hx383_5; have hw383_4 := hx383_4; have hw383_3 := hx383_3; have hw383_2 := hx383_2; have hw383_1 := hx383_1; have hw383_0 := hx383_0
          obtain rfl : ad378 = ad383 := (by injection e383)
          replace hx383_0 := cc_ HB hx383_0
          replace hx383_1 := cc_ HB hx383_1
          replace hx383_2 := cc_ HB hx383_2
          replace hx383_3 := cc_ HB hx383_3
          replace hx383_4 := cc_ HB hx383_4
          replace hx383_5 := cc_ HB hx383_5
          replace hx383_6 := cc_ HB hx383_6
          replace hx383_7 := cc_ HB hx383_7
          replace hx383_8 := cc_ HB hx383_8
          have HR383_8 := Aside0.mk hi383_8; have HC383_8 := Aside0.mk hl383_8; clear hi383_8 hl383_8
          replace p383 := eq_true p383
          replace q383 := eq_true q383
          obtain ⟨Ao48, co48, eo48⟩ := Kd.R_slice HO_380008.out
          (first | subst eo48 | (injection eo48 with f1_ f2_ f3_; have f4_ := f1_.symm; have f5_ := f3_.symm; clear f1_ f2_ f3_; subst f4_; subst f5_))
          refine start_ (n := 10) (S := fun w' => w'.cell? ⟨gb374, 0, none⟩ = some (.slice (some ad378) l0_0.length c0_0) ∧ w'.cell? ⟨gb374, 1, none⟩ = some (.int .i64 a0_1) ∧ w'.cell? ⟨gb379, 0, none⟩ = some (.int .i64 ((rd_T28 l0_0 0).f0)) ∧ w'.cell? ⟨gb379, 1, none⟩ = some (.int .i64 ((rd_T28 l0_0 0).f1)) ∧ w'.cell? ⟨gb379, 2, none⟩ = some (.int .i64 ((rd_T28 l0_0 0).f2)) ∧ w'.cell? ⟨gb379, 3, none⟩ = some (.int .i64 ((rd_T28 l0_0 0).f3)) ∧ w'.cell? ⟨gb379, 4, none⟩ = some (.int .i64 ((rd_T28 l0_0 0).f4)) ∧ w'.cell? ⟨gb379, 5, none⟩ = some (.int .i64 ((rd_T28 l0_0 0).f5)) ∧ w'.cell? ⟨gb379, 6, none⟩ = some (.bool false) ∧ w'.cell? ⟨gb379, 7, none⟩ = some (.bool ((rd_T28 l0_0 0).f7)) ∧ w'.cell? ⟨gb379, 8, none⟩ = some (.slice Ao48 x380008_2.length co48) ∧ w'.cell? (ad378.add ((x5_2).toNat * 9)) = some (.int .i64 ((rd_T28 l0_0 x5_2).f0)) ∧ w'.cell? ⟨(ad378.add ((x5_2).toNat * 9)).block, (ad378.add ((x5_2).toNat * 9)).off + 1, none⟩ = some (.int .i64 ((rd_T28 l0_0 x5_2).f1)) ∧ w'.cell? ⟨(ad378.add ((x5_2).toNat * 9)).block, (ad378.add ((x5_2).toNat * 9)).off + 2, none⟩ = some (.int .i64 ((rd_T28 l0_0 x5_2).f2)) ∧ w'.cell? ⟨(ad378.add ((x5_2).toNat * 9)).block, (ad378.add ((x5_2).toNat * 9)).off + 3, none⟩ = some (.int .i64 ((rd_T28 l0_0 x5_2).f3)) ∧ w'.cell? ⟨(ad378.add ((x5_2).toNat * 9)).block, (ad378.add ((x5_2).toNat * 9)).off + 4, none⟩ = some (.int .i64 ((rd_T28 l0_0 x5_2).f4)) ∧ w'.cell? ⟨(ad378.add ((x5_2).toNat * 9)).block, (ad378.add ((x5_2).toNat * 9)).off + 5, none⟩ = some (.int .i64 ((rd_T28 l0_0 x5_2).f5)) ∧ w'.cell? ⟨(ad378.add ((x5_2).toNat * 9)).block, (ad378.add ((x5_2).toNat * 9)).off + 6, none⟩ = some (.bool ((rd_T28 l0_0 x5_2).f6)) ∧ w'.cell? ⟨(ad378.add ((x5_2).toNat * 9)).block, (ad378.add ((x5_2).toNat * 9)).off + 7, none⟩ = some (.bool ((rd_T28 l0_0 x5_2).f7)) ∧ w'.cell? ⟨(ad378.add ((x5_2).toNat * 9)).block, (ad378.add ((x5_2).toNat * 9)).off + 8, none⟩ = some (.slice A383_8 ((rd_T28 l0_0 x5_2).f8).length c383_8)) (ds := []) #[false, false, false, false, false, false, false, false, false, false] (by kernel_rfl) rfl rfl ⟨bc_ BK374 0, bc_ BK374 1, bc_ BK379 0, bc_ BK379 1, bc_ BK379 2, bc_ BK379 3, bc_ BK379 4, bc_ BK379 5, bc_ BK379 6, bc_ BK379 7, bc_ BK379 8, (cc_ HB hw383_0), (cc_ HB hw383_1), (cc_ HB hw383_2), (cc_ HB hw383_3), (cc_ HB hw383_4), (cc_ HB hw383_5), (cc_ HB hw383_6), (cc_ HB hw383_7), (cc_ HB hw383_8)⟩ (fun hHeld => ?_); refine with_tabW spec_PartWhole.tab9 spec_PartWhole.bits9 (fun HT_ HW_ => ?_)
          generalize wr.drew = w47 at HO_380008 BK374 BK375 BK379 HB HR383_8 hx383_0 hx383_1 hx383_2 hx383_3 hx383_4 hx383_5 hx383_6 hx383_7 hx383_8 hHeld ⊢
          refine pu_ (i := 0) (N := some 35) HT_ ?_; refine pu_ (i := 2) (N := some 37) HT_ ?_; refine pu_ (i := 6) (N := some 41) HT_ ?_; refine tk_ (i := 1) (N := some 36) HT_ HW_ hHeld ?_; refine pu_ (i := 3) (N := some 38) HT_ ?_; refine pu_ (i := 4) (N := some 39) HT_ ?_; refine tk_ (i := 5) (N := some 40) HT_ HW_ hHeld ?_; refine tk_ (i := 7) (N := some 42) HT_ HW_ hHeld ?_; refine pu_ (i := 8) (N := some 43) HT_ ?_; refine pu_ (i := 9) (N := some 44) HT_ ?_
          refine done_ (done_of HT_.out (by kernel_rfl)) ?_
          have hnb49 := NB375_379.out; have hnc49 := NB379_375.out; have Z50 := zz9 BK375
          try go_wp2
          refine bodyPost_ret (results_ct rfl _ _ gb375 28 #[.int .i64 0, .int .i64 0, .int .i64 0, .int .i64 0, .int .i64 0, .int .i64 0, .bool false, .bool false, .slice none 0 0] (0, 0) _ rfl (by refine kb_ ?_; refine pz9 (cs := #[.int .i64 x376000_2, .int .i64 x376001_2, .int .i64 x376002_2, .int .i64 x376003_2, .int .i64 x376004_2, .int .i64 x376005_2, .bool x376006_2, .bool x376007_2, .slice none 0 0]) ?_; refine kb_ ?_; exact BK375.out) Try.underlying28 rfl (by kernel_rfl)) rfl ?_
          exact ⟨_, by first | rfl | (simp [errW_none, errW_some] <;> rfl) | (simp [*, errW_none, errW_some] <;> rfl), by first | exact Kd.R_nil _ _ _ _ _ | exact Kd.N_nil _ _ _ _ _ | exact Kd.V_nil _ _ _ _ _ | exact Kd.Q_nil _ _ _ _ _ | exact Kd.S_nil _ _ _ _ _, hbA_ HB.out⟩
        ·rw [if_neg c32] at H
         exact absurd H (by simp)
       ·rw [if_neg c31] at H
        have c31b0 : decide (x5_2 < (l0_0.length : Int)) = false := decide_eq_false c31
        clear c31
        simp only [Option.some.injEq, Prod.mk.injEq] at H
        obtain ⟨rfl, rfl, rfl, rfl, rfl, rfl, rfl, rfl, rfl, rfl⟩ := H
        have hnb51 := NB374_375.out; have hnc51 := NB375_374.out; have hnb52 := NB374_379.out; have hnc52 := NB379_374.out; have Z53 := zz2 BK374; have hnb54 := NB379_375.out; have hnc54 := NB375_379.out; have Z55 := zz9 BK379; have Z56 := zz9 BK375
        obtain ⟨Ao57, co57, eo57⟩ := Kd.R_slice HO_380008.out
        subst eo57
        go_wp2
        refine bodyPost_ret (results_ct rfl _ _ gb375 28 #[.int .i64 ((rd_T28 l0_0 0).f0), .int .i64 ((rd_T28 l0_0 0).f1), .int .i64 ((rd_T28 l0_0 0).f2), .int .i64 ((rd_T28 l0_0 0).f3), .int .i64 ((rd_T28 l0_0 0).f4), .int .i64 ((rd_T28 l0_0 0).f5), .bool false, .bool ((rd_T28 l0_0 0).f7), .slice Ao57 x380008_2.length co57] (0, 0) _ rfl (by refine kb_ ?_; refine pz9 (cs := #[.int .i64 x376000_2, .int .i64 x376001_2, .int .i64 x376002_2, .int .i64 x376003_2, .int .i64 x376004_2, .int .i64 x376005_2, .bool x376006_2, .bool x376007_2, .slice none 0 0]) ?_; refine kb_ ?_; exact BK375.out) Try.underlying28 rfl (by kernel_rfl)) rfl ?_
        exact ⟨_, by first | rfl | (simp [errW_none, errW_some] <;> rfl) | (simp [*, errW_none, errW_some] <;> rfl), by refine kR_ ?_; exact rfm_ ((Kd.R_types HO_380008.out BK375.out (by decide))) (fun _ hk => trivial), hbA_ HB.out⟩
    ·rw [if_neg c20] at H
     exact absurd H (by simp)
def laws_sameBytes.f (l0 : List Int) (l1 : List Int) : Option (Bool) := some ((strOfNums l0).toList == (strOfNums l1).toList)
set_option maxHeartbeats 8000000 in
set_option maxRecDepth 100000 in
theorem laws_sameBytes.calls (A0 : Option Addr) (c0 : Nat) (l0 : List Int) (A1 : Option Addr) (c1 : Nat) (l1 : List Int) (r : Bool) (w : World) (hr0 : Kd.C (Kd.int .u8) w A0 l0.length l0) (hc0 : l0.length ≤ c0) (hr1 : Kd.C (Kd.int .u8) w A1 l1.length l1) (hc1 : l1.length ≤ c1) (h : laws_sameBytes.f l0 l1 = some r) :
  Calls Try.prog 35 #[.slice A0 l0.length c0, .slice A1 l1.length c1] w fun e w' => e = .returned (.bool r) ∧ Drawn0 w w' := by
 have HR0 := Aside0.mk hr0; have HC0 := Aside0.mk hc0; clear hr0 hc0; have HR1 := Aside0.mk hr1; have HC1 := Aside0.mk hc1; clear hr1 hc1
 have H : (some ((strOfNums l0).toList == (strOfNums l1).toList)) = some r := h
 clear h
 obtain rfl := Option.some.inj H
 have hcv3 := Kd.C_string (P := Try.prog) (A := A0) (c := c0) Try.underlying22 Try.underlying5 Try.underlying9 HR0.out
 have hcv4 := Kd.C_string (P := Try.prog) (A := A1) (c := c1) Try.underlying22 Try.underlying5 Try.underlying9 HR1.out
 go_enter Try.func35, Try.ntmps35
 go_wp2
 go_ret
 exact ⟨by first | rfl | (simp; done) | (simp [*]; done), by repeat (first | exact Drawn0.refl _ | apply Drawn0.step)⟩
end Go.Proofs.Ytpbeljcgcdilnaa.PFnPartWhole
