/- Printed by wip/xp/xprint.sh out of the translation, for this claim: what each function answers, as a plain function, and that the machine does just that. No condition. -/
import Derived.Test.YtpbeljcgcdilnaaPFnSegmentFromx0
import Derived.Test.YtpbeljcgcdilnaaPFnSegmentFromx2
import Derived.Test.YtpbeljcgcdilnaaPFnSegmentFromx3
namespace Go.Proofs.Ytpbeljcgcdilnaa.PFnSegmentFrom
open Go.RowKit Go.Proofs.YtpbeljcgcdilnaaW.PrintWords Go.Proofs.YtpbeljcgcdilnaaW.PrintLast Go.Proofs.YtpbeljcgcdilnaaW.PrintMore
attribute [local go_sem] max2_int min2_int max_two min_two max_three min_three max_four min_four   -- for this text's walks alone
set_option linter.unusedVariables false
set_option linter.unusedSimpArgs false
mutual
def spec_SegmentFrom.j0 : Nat → List Int → Int → Int → Bool → Option (Int × Int × Int × Int × Int × Bool × Bool × Bool × Bool × (List (S90)) × List Int × Bool)
 | 0, _, _, _, _ => none
 | k + 1, x0, x1, x2, x47 => if x47 = true then (some (0, 0, 0, 0, 0, false, false, false, false, ([] : List (S90)), ([] : List Int), false)) else (if 0 < (x0.length : Int) then (if 1 < (x0.length : Int) then ((spec_NumberAt.f k x0 2 2).bind fun t164 => ((spec_NumberAt.f k x0 4 2).bind fun t165 => (if 6 < (x0.length : Int) then (if 7 < (x0.length : Int) then (spec_SegmentFrom.l0 k x0 x1 x2 9 0 (wrap64 (rd x0 0)) (wrap64 (rd x0 1)) t164 t165 (wrap64 (rd x0 6)) ((Int.tmod (rd x0 7) 2) == 1) (((Int.tdiv (rd x0 7) 2) % 2) == 1) (((Int.tdiv (rd x0 7) 4) % 2) == 1) (((Int.tdiv (rd x0 7) 8) % 256) == 1) ([] : List (S90))) else (none)) else (none)))) else (none)) else (none))
def spec_SegmentFrom.l0 : Nat → List Int → Int → Int → Int → Int → Int → Int → Int → Int → Int → Bool → Bool → Bool → Bool → List (S90) → Option (Int × Int × Int × Int × Int × Bool × Bool × Bool × Bool × (List (S90)) × List Int × Bool)
 | 0, _, _, _, _, _, _, _, _, _, _, _, _, _, _, _ => none
 | k + 1, x0, x1, x2, x9, x10, x168000, x168001, x168002, x168003, x168004, x168005, x168006, x168007, x168008, x168009 => if 8 < (x0.length : Int) then (if x10 < (wrap64 (rd x0 8)) then ((spec_NumberAt.f k x0 x9 2).bind fun t173 => ((spec_NumberAt.f k x0 (wrap64 (x9 + 2)) 2).bind fun t174 => (if x168009.length < 8796093022208 then (spec_SegmentFrom.l0 k x0 x1 x2 (wrap64 (x9 + 4)) (wrap64 (x10 + 1)) x168000 x168001 x168002 x168003 x168004 x168005 x168006 x168007 x168008 (x168009 ++ [(⟨t173, t174⟩ : S90)])) else (none)))) else ((some (([] : List Int) : List Int)).bind fun y178 => (if 0 ≤ (wrap64 (x9 + 1)) then (if (wrap64 (x9 + 1)) ≤ (wrap64 ((x0.length : Int) - 2)) then (if (wrap64 ((x0.length : Int) - 2)) ≤ (x0.length : Int) then (if y178.length + ((x0.take ((wrap64 ((x0.length : Int) - 2)) : Int).toNat).drop ((wrap64 (x9 + 1)) : Int).toNat).length < 140737488355328 then ((some (y178 ++ ((x0.take ((wrap64 ((x0.length : Int) - 2)) : Int).toNat).drop ((wrap64 (x9 + 1)) : Int).toNat) : List Int)).bind fun y182 => (if 0 ≤ x9 then (if x9 < (x0.length : Int) then (if (wrap64 (rd x0 x9)) = (y182.length : Int) then ((spec_SegmentOk.f k x168000 x168001 x168002 x168003 x168004 x168005 x168006 x168007 x168008 x168009 y182).bind fun t186 => (if t186 = true then ((spec_NumberAt.f k x0 (wrap64 ((x0.length : Int) - 2)) 2).bind fun t187 => (if 0 ≤ (wrap64 ((x0.length : Int) - 2)) then ((spec_l9Sum.f k x1 x2 (x0.take ((wrap64 ((x0.length : Int) - 2)) : Int).toNat)).bind fun t189 => (spec_SegmentFrom.j2 k (t187 != t189) x168000 x168001 x168002 x168003 x168004 x168005 x168006 x168007 x168008 x168009 y182)) else (none))) else (spec_SegmentFrom.j2 k true x168000 x168001 x168002 x168003 x168004 x168005 x168006 x168007 x168008 x168009 y182))) else (spec_SegmentFrom.j2 k true x168000 x168001 x168002 x168003 x168004 x168005 x168006 x168007 x168008 x168009 y182)) else (none)) else (none))) else (none)) else (none)) else (none)) else (none)))) else (none)
def spec_SegmentFrom.j2 : Nat → Bool → Int → Int → Int → Int → Int → Bool → Bool → Bool → Bool → List (S90) → List Int → Option (Int × Int × Int × Int × Int × Bool × Bool × Bool × Bool × (List (S90)) × List Int × Bool)
 | 0, _, _, _, _, _, _, _, _, _, _, _, _ => none
 | k + 1, x151, x168000, x168001, x168002, x168003, x168004, x168005, x168006, x168007, x168008, x168009, x168010 => if x151 = true then (some (0, 0, 0, 0, 0, false, false, false, false, ([] : List (S90)), ([] : List Int), false)) else (some (x168000, x168001, x168002, x168003, x168004, x168005, x168006, x168007, x168008, x168009, x168010, true))
end
def spec_SegmentFrom.f (k : Nat) (l0 : List Int) (a1 : Int) (a2 : Int) : Option (Int × Int × Int × Int × Int × Bool × Bool × Bool × Bool × (List (S90)) × List Int × Bool) := if (l0.length : Int) < 12 then (spec_SegmentFrom.j0 k l0 a1 a2 true) else ((spec_l1In.f a1 0 65535).bind fun t157 => (if t157 = true then ((spec_l1In.f a2 0 65535).bind fun t158 => (if t158 = true then (if 7 < (l0.length : Int) then (if (rd l0 7) > 15 then (spec_SegmentFrom.j0 k l0 a1 a2 true) else (if 8 < (l0.length : Int) then (if (rd l0 8) > 2 then (spec_SegmentFrom.j0 k l0 a1 a2 true) else (spec_SegmentFrom.j0 k l0 a1 a2 (decide ((l0.length : Int) < (wrap64 (12 + (wrap64 (4 * (wrap64 (rd l0 8)))))))))) else (none))) else (none)) else (spec_SegmentFrom.j0 k l0 a1 a2 true))) else (spec_SegmentFrom.j0 k l0 a1 a2 true)))
theorem spec_SegmentFrom.mono_l : ∀ k, (∀ y0 y1 y2 y3, LeO (spec_SegmentFrom.j0 k y0 y1 y2 y3) (spec_SegmentFrom.j0 (k + 1) y0 y1 y2 y3)) ∧ (∀ y0 y1 y2 y3 y4 y5 y6 y7 y8 y9 y10 y11 y12 y13 y14, LeO (spec_SegmentFrom.l0 k y0 y1 y2 y3 y4 y5 y6 y7 y8 y9 y10 y11 y12 y13 y14) (spec_SegmentFrom.l0 (k + 1) y0 y1 y2 y3 y4 y5 y6 y7 y8 y9 y10 y11 y12 y13 y14)) ∧ (∀ y0 y1 y2 y3 y4 y5 y6 y7 y8 y9 y10 y11, LeO (spec_SegmentFrom.j2 k y0 y1 y2 y3 y4 y5 y6 y7 y8 y9 y10 y11) (spec_SegmentFrom.j2 (k + 1) y0 y1 y2 y3 y4 y5 y6 y7 y8 y9 y10 y11))
 | 0 => ⟨fun _ _ _ _ r h => by simp [spec_SegmentFrom.j0] at h, fun _ _ _ _ _ _ _ _ _ _ _ _ _ _ _ r h => by simp [spec_SegmentFrom.l0] at h, fun _ _ _ _ _ _ _ _ _ _ _ _ r h => by simp [spec_SegmentFrom.j2] at h⟩
 | k + 1 => by
  obtain ⟨ih0, ih1, ih2⟩ := spec_SegmentFrom.mono_l k
  refine ⟨?_, ?_, ?_⟩
  ·intro y0 y1 y2 y3
   unfold spec_SegmentFrom.j0
   repeat' first | (with_reducible first | apply ih0 | apply ih1 | apply ih2 | apply spec_NumberAt.mono | apply spec_SegmentOk.mono | apply spec_l9Sum.mono | exact LeO.refl _ | exact LeO.none _ | refine LeO.ite ?_ ?_ | refine LeO.bind ?_ fun _ => ?_) | apply ih0 | apply ih1 | apply ih2 | apply spec_NumberAt.mono | apply spec_SegmentOk.mono | apply spec_l9Sum.mono | exact LeO.none _ | refine LeO.ite ?_ ?_ | refine LeO.bind ?_ fun _ => ?_
  ·intro y0 y1 y2 y3 y4 y5 y6 y7 y8 y9 y10 y11 y12 y13 y14
   unfold spec_SegmentFrom.l0
   repeat' first | (with_reducible first | apply ih0 | apply ih1 | apply ih2 | apply spec_NumberAt.mono | apply spec_SegmentOk.mono | apply spec_l9Sum.mono | exact LeO.refl _ | exact LeO.none _ | refine LeO.ite ?_ ?_ | refine LeO.bind ?_ fun _ => ?_) | apply ih0 | apply ih1 | apply ih2 | apply spec_NumberAt.mono | apply spec_SegmentOk.mono | apply spec_l9Sum.mono | exact LeO.none _ | refine LeO.ite ?_ ?_ | refine LeO.bind ?_ fun _ => ?_
  ·intro y0 y1 y2 y3 y4 y5 y6 y7 y8 y9 y10 y11
   unfold spec_SegmentFrom.j2
   repeat' first | (with_reducible first | apply ih0 | apply ih1 | apply ih2 | apply spec_NumberAt.mono | apply spec_SegmentOk.mono | apply spec_l9Sum.mono | exact LeO.refl _ | exact LeO.none _ | refine LeO.ite ?_ ?_ | refine LeO.bind ?_ fun _ => ?_) | apply ih0 | apply ih1 | apply ih2 | apply spec_NumberAt.mono | apply spec_SegmentOk.mono | apply spec_l9Sum.mono | exact LeO.none _ | refine LeO.ite ?_ ?_ | refine LeO.bind ?_ fun _ => ?_
theorem spec_SegmentFrom.mono : ∀ a0 a1 a2 k, LeO (spec_SegmentFrom.f k a0 a1 a2) (spec_SegmentFrom.f (k + 1) a0 a1 a2) := by
 intro a0 a1 a2 k
 obtain ⟨ih0, ih1, ih2⟩ := spec_SegmentFrom.mono_l k
 unfold spec_SegmentFrom.f
 repeat' first | (with_reducible first | apply ih0 | apply ih1 | apply ih2 | apply spec_NumberAt.mono | apply spec_SegmentOk.mono | apply spec_l9Sum.mono | exact LeO.refl _ | exact LeO.none _ | refine LeO.ite ?_ ?_ | refine LeO.bind ?_ fun _ => ?_) | apply ih0 | apply ih1 | apply ih2 | apply spec_NumberAt.mono | apply spec_SegmentOk.mono | apply spec_l9Sum.mono | exact LeO.none _ | refine LeO.ite ?_ ?_ | refine LeO.bind ?_ fun _ => ?_
def spec_SegmentFrom.T3 : Bool × List (List Nat × List Nat) := (true, [([], []), ([0], [0]), ([1], [1]), ([2], [2]), ([], []), ([4], [4]), ([5], [5]), ([6], [6]), ([], []), ([8], [8]), ([], []), ([10, 9], [10]), ([], []), ([12], [12]), ([13], [13]), ([14], [14]), ([3, 7, 9, 11, 15], [3, 7, 9, 11, 15]), ([], []), ([17, 16, 11, 0, 1, 2, 3, 4, 5, 6, 7, 8, 9, 10, 11, 12, 13, 14, 15, 16, 17], [16, 17])])
def spec_SegmentFrom.B3 : List Nat := [0, 1, 3, 7, 0, 16, 48, 112, 0, 256, 0, 1792, 0, 4096, 12288, 28672, 65535, 0, 262143]
theorem spec_SegmentFrom.tab3 : rtab .any (opsOf Try.f25 3) = spec_SegmentFrom.T3 := by kernel_rfl
theorem spec_SegmentFrom.bits3 : waitsOk spec_SegmentFrom.T3.2 spec_SegmentFrom.B3 = true := by kernel_rfl
def spec_SegmentFrom.T12 : Bool × List (List Nat × List Nat) := (true, [([], []), ([0], [0]), ([], []), ([], []), ([2, 3], [2, 3]), ([], []), ([], []), ([6], [6]), ([5, 7, 4], [5, 7]), ([4, 8], [4, 8]), ([9], [9]), ([1, 10, 8], [1, 10]), ([0, 1, 2, 3, 4, 5, 6, 7, 8, 9, 10, 11], []), ([12, 11, 11, 0, 1, 2, 3, 4, 5, 6, 7, 8, 9, 10, 11], [11, 12])])
def spec_SegmentFrom.B12 : List Nat := [0, 1, 0, 0, 12, 0, 0, 64, 252, 508, 1020, 2047, 4095, 8191]
theorem spec_SegmentFrom.tab12 : rtab .any (opsOf Try.f25 12) = spec_SegmentFrom.T12 := by kernel_rfl
theorem spec_SegmentFrom.bits12 : waitsOk spec_SegmentFrom.T12.2 spec_SegmentFrom.B12 = true := by kernel_rfl
def spec_SegmentFrom.T16 : Bool × List (List Nat × List Nat) := (true, [([], []), ([], []), ([0, 1], [0, 1]), ([2], [2]), ([3], [3]), ([], []), ([5], [5]), ([6], [6]), ([4, 7], [4, 7]), ([8], [8]), ([9], [9]), ([10, 9, 9], [9, 10]), ([11, 9], [9, 11]), ([9, 12], [9, 12]), ([13, 11], [13]), ([14], [14]), ([14], [14]), ([15, 16, 14, 14], [14, 15, 16]), ([14], [14]), ([14], [14]), ([14], [14]), ([14], [14]), ([20, 21, 14], [14, 20, 21]), ([18, 19, 22, 17, 14], [14, 18, 19, 22]), ([17, 23, 14], [14, 17, 23]), ([14, 24], [14, 24])])
def spec_SegmentFrom.B16 : List Nat := [0, 0, 3, 7, 15, 0, 32, 96, 255, 511, 1023, 2047, 4095, 8191, 16383, 32767, 32767, 131071, 32767, 32767, 32767, 32767, 3178495, 8388607, 16777215, 33554431]
theorem spec_SegmentFrom.tab16 : rtab .any (opsOf Try.f25 16) = spec_SegmentFrom.T16 := by kernel_rfl
theorem spec_SegmentFrom.bits16 : waitsOk spec_SegmentFrom.T16.2 spec_SegmentFrom.B16 = true := by kernel_rfl
set_option maxHeartbeats 8000000 in
set_option maxRecDepth 100000 in
theorem spec_SegmentFrom.calls (k : Nat) (A0 : Option Addr) (c0 : Nat) (l0 : List Int) (a1 : Int) (a2 : Int) (r1 : Int) (r2 : Int) (r3 : Int) (r4 : Int) (r5 : Int) (r6 : Bool) (r7 : Bool) (r8 : Bool) (r9 : Bool) (r10 : List (S90)) (r11 : List Int) (r12 : Bool) (w : World) (hr0 : Kd.C (Kd.int .u8) w A0 l0.length l0) (hc0 : l0.length ≤ c0) (h : spec_SegmentFrom.f k l0 a1 a2 = some (r1, r2, r3, r4, r5, r6, r7, r8, r9, r10, r11, r12)) :
  Calls Try.prog 25 #[.slice A0 l0.length c0, .int .i64 a1, .int .i64 a2] w fun e w' => ∃ v9_ v10_ : Value, e = .returned (.tuple #[.agg #[.int .i64 r1, .int .i64 r2, .int .i64 r3, .int .i64 r4, .int .i64 r5, .bool r6, .bool r7, .bool r8, .bool r9, v9_, v10_], .bool r12]) ∧ Kd.R k90 90 w' w.heap.size (fun _ => True) v9_ r10 ∧ Kd.R (Kd.int .u8) 5 w' w.heap.size (fun _ => True) v10_ r11 ∧ Below w.heap.size w w' := by
 have hu52 := Try.underlying52; have hu90 := Try.underlying90; have HR0 := Aside0.mk hr0; have HC0 := Aside0.mk hc0; clear hr0 hc0
 have HB := Aside0.mk (Below.refl w.heap.size w)
 have H : (if (l0.length : Int) < 12 then (spec_SegmentFrom.j0 k l0 a1 a2 true) else ((spec_l1In.f a1 0 65535).bind fun t157 => (if t157 = true then ((spec_l1In.f a2 0 65535).bind fun t158 => (if t158 = true then (if 7 < (l0.length : Int) then (if (rd l0 7) > 15 then (spec_SegmentFrom.j0 k l0 a1 a2 true) else (if 8 < (l0.length : Int) then (if (rd l0 8) > 2 then (spec_SegmentFrom.j0 k l0 a1 a2 true) else (spec_SegmentFrom.j0 k l0 a1 a2 (decide ((l0.length : Int) < (wrap64 (12 + (wrap64 (4 * (wrap64 (rd l0 8)))))))))) else (none))) else (none)) else (spec_SegmentFrom.j0 k l0 a1 a2 true))) else (spec_SegmentFrom.j0 k l0 a1 a2 true)))) = some (r1, r2, r3, r4, r5, r6, r7, r8, r9, r10, r11, r12) := h
 clear h; have HC4 := Aside0.mk H; clear H
 go_enter Try.func25, Try.ntmps25
 go_upto_region 1 with (first | ((with_reducible refine gate_dst (N := 6) rfl ?_); (try (refine gate_guard (by rfl) ?_; dsimp only)); refine box_ (N := 6) (cs := #[.int .i64 0, .int .i64 0, .int .i64 0, .int .i64 0, .int .i64 0, .bool false, .bool false, .bool false, .bool false, .slice none 0 0, .slice none 0 0]) (t := 52) (fun gb156 hg w5 hbox hb => ?_); have BK156 := Aside0.mk (hbox); have GW156 := ge_ hg HB; have GE156 := ge_ hg HB; replace HB := (bs_ HB hb); clear hb hbox hg))
 (try simp only [Act.put, List.setIfInBounds_toArray, List.set_cons_zero, List.set_cons_succ])
 go_cut [47] (fun v47 wc => ∃ (kq : Nat) (x47_3 : Bool), v47 = .bool x47_3 ∧ Aside0 (spec_SegmentFrom.j0 kq l0 a1 a2 x47_3 = some (r1, r2, r3, r4, r5, r6, r7, r8, r9, r10, r11, r12)) ∧ Aside0 (kq ≤ k) ∧ Aside0 (wc.heap[gb156]? = some (.cells #[.int .i64 0, .int .i64 0, .int .i64 0, .int .i64 0, .int .i64 0, .bool false, .bool false, .bool false, .bool false, (.slice none 0 0), (.slice none 0 0)] 52 (0, 0))) ∧ Aside0 (Below w.heap.size w wc))
 case first =>
  have H := HC4.out; clear HC4
  by_cases c6 : (l0.length : Int) < 12
  ·rw [if_pos c6] at H
   have c6b0 : decide ((l0.length : Int) < 12) = true := decide_eq_true c6
   have c6b1 : decide (l0.length < 12) = true := decide_eq_true (by omega)
   clear c6
   (first | rw [c6b0] | (simp only [i64_w, i32_w]; rw [c6b0]) | skip)
   have H' := Aside0.mk H
   clear H
   go_wp2
   go_meet
   case rel => exact ⟨_, (true), (by first | rfl | (simp; done) | (simp [*]; done)), H', ⟨by first | omega | exact Nat.le_refl _⟩, ⟨by refine kb_ ?_; exact BK156.out⟩, ⟨hbA_ HB.out⟩⟩
  ·rw [if_neg c6] at H
   have c6b0 : decide ((l0.length : Int) < 12) = false := decide_eq_false c6
   have c6b1 : decide (l0.length < 12) = false := decide_eq_false (by omega)
   clear c6
   (first | rw [c6b0] | (simp only [i64_w, i32_w]; rw [c6b0]) | skip)
   replace H := Option.bind_eq_some_iff.mp H
   obtain ⟨t157, A70, H⟩ := H
   (try dsimp only at H)
   have A7 := Aside0.mk A70; clear A70
   by_cases c8 : t157 = true
   ·subst c8
    rw [if_pos rfl] at H
    replace H := Option.bind_eq_some_iff.mp H
    obtain ⟨t158, A90, H⟩ := H
    (try dsimp only at H)
    have A9 := Aside0.mk A90; clear A90
    by_cases c10 : t158 = true
    ·subst c10
     rw [if_pos rfl] at H
     by_cases c11 : 7 < (l0.length : Int)
     ·rw [if_pos c11] at H
      have c11b0 : decide (7 < (l0.length : Int)) = true := decide_eq_true c11
      have c11b1 : decide (7 < l0.length) = true := decide_eq_true (by omega)
      clear c11
      by_cases c12 : (rd l0 7) > 15
      ·rw [if_pos c12] at H
       have c12b0 : decide (15 < (rd l0 7)) = true := decide_eq_true c12
       clear c12
       have H' := Aside0.mk H
       clear H
       go_wp2_with (first | (go_at_call 52; (with_reducible refine (spec_l1In.calls a1 0 65535 true _ A7.out).mono ?_); rintro e w' ⟨rfl, ⟨nd, rfl⟩⟩) | (go_at_call 52; (with_reducible refine (spec_l1In.calls a2 0 65535 true _ A9.out).mono ?_); rintro e w' ⟨rfl, ⟨nd, rfl⟩⟩; have p159 : 0 ≤ (7 : Int) := (by omega); have q159 : 7 < (l0.length : Int) := of_decide_eq_true (by first | (with_reducible assumption) | assumption); obtain ⟨ad159, e159, hx159_0⟩ := Kd.at_int HR0.out 7 p159 q159; cases e159; (try simp only [show (7 : Int).toNat = 7 from rfl, Nat.reduceMul, Nat.reduceEqDiff, Go.Addr.add, ↓reduceIte] at hx159_0); have qi159 : (7 < l0.length) = True := eq_true (by omega); (try rw [show ((7 : Int)).toNat = 7 from rfl] at hx159_0); replace hx159_0 := cc_ HB hx159_0; replace p159 := eq_true p159; replace q159 := eq_true q159))
       go_meet
       case rel => exact ⟨_, (true), (by first | rfl | (simp; done) | (simp [*]; done)), H', ⟨by first | omega | exact Nat.le_refl _⟩, ⟨by refine kb_ ?_; exact BK156.out⟩, ⟨hbA_ HB.out⟩⟩
      ·rw [if_neg c12] at H
       have c12b0 : decide (15 < (rd l0 7)) = false := decide_eq_false c12
       clear c12
       by_cases c13 : 8 < (l0.length : Int)
       ·rw [if_pos c13] at H
        have c13b0 : decide (8 < (l0.length : Int)) = true := decide_eq_true c13
        have c13b1 : decide (8 < l0.length) = true := decide_eq_true (by omega)
        clear c13
        by_cases c14 : (rd l0 8) > 2
        ·rw [if_pos c14] at H
         have c14b0 : decide (2 < (rd l0 8)) = true := decide_eq_true c14
         clear c14
         have H' := Aside0.mk H
         clear H
         go_wp2_with (first | (go_at_call 52; (with_reducible refine (spec_l1In.calls a1 0 65535 true _ A7.out).mono ?_); rintro e w' ⟨rfl, ⟨nd, rfl⟩⟩) | (go_at_call 52; (with_reducible refine (spec_l1In.calls a2 0 65535 true _ A9.out).mono ?_); rintro e w' ⟨rfl, ⟨nd, rfl⟩⟩; have p159 : 0 ≤ (7 : Int) := (by omega); have q159 : 7 < (l0.length : Int) := of_decide_eq_true (by first | (with_reducible assumption) | assumption); obtain ⟨ad159, e159, hx159_0⟩ := Kd.at_int HR0.out 7 p159 q159; cases e159; (try simp only [show (7 : Int).toNat = 7 from rfl, Nat.reduceMul, Nat.reduceEqDiff, Go.Addr.add, ↓reduceIte] at hx159_0); have qi159 : (7 < l0.length) = True := eq_true (by omega); (try rw [show ((7 : Int)).toNat = 7 from rfl] at hx159_0); replace hx159_0 := cc_ HB hx159_0; replace p159 := eq_true p159; replace q159 := eq_true q159; have p160 : 0 ≤ (8 : Int) := (by omega); have q160 : 8 < (l0.length : Int) := of_decide_eq_true (by first | (with_reducible assumption) | assumption); obtain ⟨ad160, e160, hx160_0⟩ := Kd.at_int HR0.out 8 p160 q160; obtain rfl : ad159 = ad160 := (by injection e160); (try simp only [show (8 : Int).toNat = 8 from rfl, Nat.reduceMul, Nat.reduceEqDiff, Go.Addr.add, ↓reduceIte] at hx160_0); have qi160 : (8 < l0.length) = True := eq_true (by omega); (try rw [show ((8 : Int)).toNat = 8 from rfl] at hx160_0); replace hx160_0 := cc_ HB hx160_0; replace p160 := eq_true p160; replace q160 := eq_true q160))
         go_meet
         case rel => exact ⟨_, (true), (by first | rfl | (simp; done) | (simp [*]; done)), H', ⟨by first | omega | exact Nat.le_refl _⟩, ⟨by refine kb_ ?_; exact BK156.out⟩, ⟨hbA_ HB.out⟩⟩
        ·rw [if_neg c14] at H
         have c14b0 : decide (2 < (rd l0 8)) = false := decide_eq_false c14
         clear c14
         have H' := Aside0.mk H
         clear H
         go_wp2_with (first | (go_at_call 52; (with_reducible refine (spec_l1In.calls a1 0 65535 true _ A7.out).mono ?_); rintro e w' ⟨rfl, ⟨nd, rfl⟩⟩) | (go_at_call 52; (with_reducible refine (spec_l1In.calls a2 0 65535 true _ A9.out).mono ?_); rintro e w' ⟨rfl, ⟨nd, rfl⟩⟩; have p159 : 0 ≤ (7 : Int) := (by omega); have q159 : 7 < (l0.length : Int) := of_decide_eq_true (by first | (with_reducible assumption) | assumption); obtain ⟨ad159, e159, hx159_0⟩ := Kd.at_int HR0.out 7 p159 q159; cases e159; (try simp only [show (7 : Int).toNat = 7 from rfl, Nat.reduceMul, Nat.reduceEqDiff, Go.Addr.add, ↓reduceIte] at hx159_0); have qi159 : (7 < l0.length) = True := eq_true (by omega); (try rw [show ((7 : Int)).toNat = 7 from rfl] at hx159_0); replace hx159_0 := cc_ HB hx159_0; replace p159 := eq_true p159; replace q159 := eq_true q159; have p160 : 0 ≤ (8 : Int) := (by omega); have q160 : 8 < (l0.length : Int) := of_decide_eq_true (by first | (with_reducible assumption) | assumption); obtain ⟨ad160, e160, hx160_0⟩ := Kd.at_int HR0.out 8 p160 q160; obtain rfl : ad159 = ad160 := (by injection e160); (try simp only [show (8 : Int).toNat = 8 from rfl, Nat.reduceMul, Nat.reduceEqDiff, Go.Addr.add, ↓reduceIte] at hx160_0); have qi160 : (8 < l0.length) = True := eq_true (by omega); (try rw [show ((8 : Int)).toNat = 8 from rfl] at hx160_0); replace hx160_0 := cc_ HB hx160_0; replace p160 := eq_true p160; replace q160 := eq_true q160; have p161 : 0 ≤ (8 : Int) := (by omega); have q161 : 8 < (l0.length : Int) := of_decide_eq_true (by first | (with_reducible assumption) | assumption); obtain ⟨ad161, e161, hx161_0⟩ := Kd.at_int HR0.out 8 p161 q161; obtain rfl : ad159 = ad161 := (by injection e161); (try simp only [show (8 : Int).toNat = 8 from rfl, Nat.reduceMul, Nat.reduceEqDiff, Go.Addr.add, ↓reduceIte] at hx161_0); have qi161 : (8 < l0.length) = True := eq_true (by omega); (try rw [show ((8 : Int)).toNat = 8 from rfl] at hx161_0); replace hx161_0 := cc_ HB hx161_0; replace p161 := eq_true p161; replace q161 := eq_true q161))
         go_meet
         case rel => exact ⟨_, (decide ((l0.length : Int) < (wrap64 (12 + (wrap64 (4 * (wrap64 (rd l0 8)))))))), (by first | rfl | (simp; done) | (simp [*]; done)), H', ⟨by first | omega | exact Nat.le_refl _⟩, ⟨by refine kb_ ?_; exact BK156.out⟩, ⟨hbA_ HB.out⟩⟩
       ·rw [if_neg c13] at H
        exact absurd H (by simp)
     ·rw [if_neg c11] at H
      exact absurd H (by simp)
    ·replace c10 := Bool.eq_false_iff.mpr c10
     subst c10
     rw [if_neg (show ¬ (false = true) by decide)] at H
     have H' := Aside0.mk H
     clear H
     go_wp2_with (first | (go_at_call 52; (with_reducible refine (spec_l1In.calls a1 0 65535 true _ A7.out).mono ?_); rintro e w' ⟨rfl, ⟨nd, rfl⟩⟩) | (go_at_call 52; (with_reducible refine (spec_l1In.calls a2 0 65535 false _ A9.out).mono ?_); rintro e w' ⟨rfl, ⟨nd, rfl⟩⟩))
     go_meet
     case rel => exact ⟨_, (true), (by first | rfl | (simp; done) | (simp [*]; done)), H', ⟨by first | omega | exact Nat.le_refl _⟩, ⟨by refine kb_ ?_; exact BK156.out⟩, ⟨hbA_ HB.out⟩⟩
   ·replace c8 := Bool.eq_false_iff.mpr c8
    subst c8
    rw [if_neg (show ¬ (false = true) by decide)] at H
    have H' := Aside0.mk H
    clear H
    go_wp2_with (first | (go_at_call 52; (with_reducible refine (spec_l1In.calls a1 0 65535 false _ A7.out).mono ?_); rintro e w' ⟨rfl, ⟨nd, rfl⟩⟩))
    go_meet
    case rel => exact ⟨_, (true), (by first | rfl | (simp; done) | (simp [*]; done)), H', ⟨by first | omega | exact Nat.le_refl _⟩, ⟨by refine kb_ ?_; exact BK156.out⟩, ⟨hbA_ HB.out⟩⟩
 case rest =>
  clear HC4; (try clear c1); (try clear p1); (try clear q1); (try clear hx1); (try clear qi1); (try clear c2); (try clear p2); (try clear c6); (try clear c6b0); (try clear c6b1); (try clear p6); (try clear c8); (try clear c10); (try clear c11); (try clear c11b0); (try clear c11b1); (try clear c12); (try clear c12b0); (try clear c13); (try clear c13b0); (try clear c13b1); (try clear c14); (try clear c14b0); (try clear hx159_0); (try clear hx160_0); (try clear hx161_0); (try clear p159); (try clear p160); (try clear p161); (try clear q159); (try clear q160); (try clear q161)
  obtain ⟨kq, x47_3, rfl, HA, HJ3, BK156, HB⟩ := hcut
  cases kq with
  | zero => exact absurd HA.out (by simp [spec_SegmentFrom.j0])
  | succ kj3 =>
   have H := HA.out; clear HA
   simp only [spec_SegmentFrom.j0] at H
   by_cases c15 : x47_3 = true
   ·subst c15
    rw [if_pos rfl] at H
    simp only [Option.some.injEq, Prod.mk.injEq] at H
    obtain ⟨rfl, rfl, rfl, rfl, rfl, rfl, rfl, rfl, rfl, rfl, rfl, rfl⟩ := H
    have Z16 := zz11 BK156
    go_wp2
    refine bodyPost_ret (results_ct rfl _ _ gb156 52 #[.int .i64 0, .int .i64 0, .int .i64 0, .int .i64 0, .int .i64 0, .bool false, .bool false, .bool false, .bool false, .slice none 0 0, .slice none 0 0] (0, 0) _ rfl (by refine kb_ ?_; refine pz11 (cs := #[.int .i64 0, .int .i64 0, .int .i64 0, .int .i64 0, .int .i64 0, .bool false, .bool false, .bool false, .bool false, .slice none 0 0, .slice none 0 0]) ?_; refine kb_ ?_; exact BK156.out) Try.underlying52 rfl (by kernel_rfl)) rfl ?_
    exact ⟨_, _, by first | rfl | (simp [errW_none, errW_some] <;> rfl) | (simp [*, errW_none, errW_some] <;> rfl), by first | exact Kd.R_nil _ _ _ _ _ | exact Kd.N_nil _ _ _ _ _ | exact Kd.V_nil _ _ _ _ _ | exact Kd.Q_nil _ _ _ _ _ | exact Kd.S_nil _ _ _ _ _, by first | exact Kd.R_nil _ _ _ _ _ | exact Kd.N_nil _ _ _ _ _ | exact Kd.V_nil _ _ _ _ _ | exact Kd.Q_nil _ _ _ _ _ | exact Kd.S_nil _ _ _ _ _, hbA_ HB.out⟩
   ·replace c15 := Bool.eq_false_iff.mpr c15
    subst c15
    rw [if_neg (show ¬ (false = true) by decide)] at H
    by_cases c17 : 0 < (l0.length : Int)
    ·rw [if_pos c17] at H
     have c17b0 : decide (0 < (l0.length : Int)) = true := decide_eq_true c17
     have c17b1 : decide (0 < l0.length) = true := decide_eq_true (by omega)
     clear c17
     by_cases c18 : 1 < (l0.length : Int)
     ·rw [if_pos c18] at H
      have c18b0 : decide (1 < (l0.length : Int)) = true := decide_eq_true c18
      have c18b1 : decide (1 < l0.length) = true := decide_eq_true (by omega)
      clear c18
      replace H := Option.bind_eq_some_iff.mp H
      obtain ⟨t164, A190, H⟩ := H
      (try dsimp only at H)
      have A19 := Aside0.mk A190; clear A190
      replace H := Option.bind_eq_some_iff.mp H
      obtain ⟨t165, A200, H⟩ := H
      (try dsimp only at H)
      have A20 := Aside0.mk A200; clear A200
      by_cases c21 : 6 < (l0.length : Int)
      ·rw [if_pos c21] at H
       have c21b0 : decide (6 < (l0.length : Int)) = true := decide_eq_true c21
       have c21b1 : decide (6 < l0.length) = true := decide_eq_true (by omega)
       clear c21
       by_cases c22 : 7 < (l0.length : Int)
       ·rw [if_pos c22] at H
        have c22b0 : decide (7 < (l0.length : Int)) = true := decide_eq_true c22
        have c22b1 : decide (7 < l0.length) = true := decide_eq_true (by omega)
        clear c22
        have H' := Aside0.mk H
        clear H
        try go_wp2
        replace BK156 := Aside0.mk (blk_drew BK156.out); replace HB := (bd_ HB)
        have p162 : 0 ≤ (0 : Int) := (by omega)
        have q162 : 0 < (l0.length : Int) := of_decide_eq_true (by first | (with_reducible assumption) | assumption)
        obtain ⟨ad162, e162, hx162_0⟩ := Kd.at_int HR0.out 0 p162 q162
        have hw162_0 := hx162_0
        (try rw [show ((0 : Int)).toNat = 0 from rfl] at hw162_0)
        (try rw [show 0 * 1 = 0 from rfl] at hw162_0)
        (try rw [Addr.add_zero'] at hw162_0)
        cases e162
        have qi162 : (0 < l0.length) = True := eq_true (by omega)
        (try rw [show ((0 : Int)).toNat = 0 from rfl] at hx162_0)
        (try rw [Addr.add_zero'] at hx162_0)
        replace hx162_0 := cc_ HB hx162_0
        replace p162 := eq_true p162
        replace q162 := eq_true q162
        have p163 : 0 ≤ (1 : Int) := (by omega)
        have q163 : 1 < (l0.length : Int) := of_decide_eq_true (by first | (with_reducible assumption) | assumption)
        obtain ⟨ad163, e163, hx163_0⟩ := Kd.at_int HR0.out 1 p163 q163
        have hw163_0 := hx163_0
        (try rw [show ((1 : Int)).toNat = 1 from rfl] at hw163_0)
        (try rw [show 1 * 1 = 1 from rfl] at hw163_0)
        (try simp only [Nat.reduceMul, Nat.reduceEqDiff, Go.Addr.add, ↓reduceIte] at hw163_0)
        obtain rfl : ad162 = ad163 := (by injection e163)
        (try simp only [show (1 : Int).toNat = 1 from rfl, Nat.reduceMul, Nat.reduceEqDiff, Go.Addr.add, ↓reduceIte] at hx163_0)
        have qi163 : (1 < l0.length) = True := eq_true (by omega)
        (try rw [show ((1 : Int)).toNat = 1 from rfl] at hx163_0)
        replace hx163_0 := cc_ HB hx163_0
        replace p163 := eq_true p163
        replace q163 := eq_true q163
        have p166 : 0 ≤ (6 : Int) := (by omega)
        have q166 : 6 < (l0.length : Int) := of_decide_eq_true (by first | (with_reducible assumption) | assumption)
        obtain ⟨ad166, e166, hx166_0⟩ := Kd.at_int HR0.out 6 p166 q166
        have hw166_0 := hx166_0
        (try rw [show ((6 : Int)).toNat = 6 from rfl] at hw166_0)
        (try rw [show 6 * 1 = 6 from rfl] at hw166_0)
        (try simp only [Nat.reduceMul, Nat.reduceEqDiff, Go.Addr.add, ↓reduceIte] at hw166_0)
        obtain rfl : ad162 = ad166 := (by injection e166)
        (try simp only [show (6 : Int).toNat = 6 from rfl, Nat.reduceMul, Nat.reduceEqDiff, Go.Addr.add, ↓reduceIte] at hx166_0)
        have qi166 : (6 < l0.length) = True := eq_true (by omega)
        (try rw [show ((6 : Int)).toNat = 6 from rfl] at hx166_0)
        replace hx166_0 := cc_ HB hx166_0
        replace p166 := eq_true p166
        replace q166 := eq_true q166
        refine start_ (n := 19) (S := fun w' => w'.cell? ad162 = some (.int .u8 (rd l0 0)) ∧ w'.cell? ⟨ad162.block, ad162.off + 1, none⟩ = some (.int .u8 (rd l0 1)) ∧ w'.cell? ⟨ad162.block, ad162.off + 6, none⟩ = some (.int .u8 (rd l0 6))) (ds := []) #[false, false, false, false, false, false, false, false, false, false, false, false, false, false, false, false, false, false, false] (by kernel_rfl) rfl rfl ⟨(cc_ HB hw162_0), (cc_ HB hw163_0), (cc_ HB hw166_0)⟩ (fun hHeld => ?_); refine with_tabW spec_SegmentFrom.tab3 spec_SegmentFrom.bits3 (fun HT_ HW_ => ?_)
        generalize wc.drew = w23 at BK156 HB hx162_0 hx163_0 hx166_0 hHeld ⊢
        refine pu_ (i := 0) (N := some 49) HT_ ?_; refine pu_ (i := 1) (N := some 50) HT_ ?_; refine pu_ (i := 4) (N := some 53) HT_ ?_; refine pu_ (i := 5) (N := some 54) HT_ ?_; refine pu_ (i := 8) (N := some 57) HT_ ?_; refine pu_ (i := 10) (N := some 59) HT_ ?_; refine pu_ (i := 12) (N := some 61) HT_ ?_; refine pu_ (i := 13) (N := some 62) HT_ ?_; refine tk_ (i := 2) (N := some 51) HT_ HW_ hHeld ?_; refine pu_ (i := 3) (N := some 52) HT_ ?_; refine tk_ (i := 6) (N := some 55) HT_ HW_ hHeld ?_; refine pu_ (i := 7) (N := some 56) HT_ ?_; refine tk_ (i := 14) (N := some 63) HT_ HW_ hHeld ?_; refine pu_ (i := 15) (N := some 64) HT_ ?_
        refine join_ (σ := Nat) 1 #[true, true, true, true, true, true, true, true, true, true, true, true, true, true, true, true, true, true, false] (fun s_ => [(58, .int .i64 t164), (60, .int .i64 t165), (8, .pointer (some ⟨s_, 0, none⟩)), (65, .agg #[.int .i64 (wrap64 (rd l0 0)), .int .i64 (wrap64 (rd l0 1)), .int .i64 t164, .int .i64 t165, .int .i64 (wrap64 (rd l0 6)), .bool false, .bool false, .bool false, .bool false, .slice none 0 0, .slice none 0 0])]) (fun s_ w' => (w'.cell? ad162 = some (.int .u8 (rd l0 0)) ∧ w'.cell? ⟨ad162.block, ad162.off + 1, none⟩ = some (.int .u8 (rd l0 1)) ∧ w'.cell? ⟨ad162.block, ad162.off + 6, none⟩ = some (.int .u8 (rd l0 6))) ∧ (w'.heap[gb156]? = some (.cells #[.int .i64 0, .int .i64 0, .int .i64 0, .int .i64 0, .int .i64 0, .bool false, .bool false, .bool false, .bool false, .slice none 0 0, .slice none 0 0] 52 (0, 0))) ∧ (w'.heap[s_]? = some (.cells #[.int .i64 0, .int .i64 0, .int .i64 0, .int .i64 0, .int .i64 0, .bool false, .bool false, .bool false, .bool false, .slice none 0 0, .slice none 0 0] 52 (0, 0))) ∧ (w.heap.size ≤ s_) ∧ (w.heap.size ≤ s_) ∧ (gb156 ≠ s_) ∧ (s_ ≠ gb156) ∧ (Below w.heap.size w w')) ?_ ?_
        rotate_left
        ·intro hCont
         refine two_ (i := 9) (j := 17) (Ni := some 58) (Nj := some 8) #[true, true, true, true, true, true, true, true, true, true, true, false, true, true, true, true, false, false, false] #[true, true, true, true, true, true, true, true, true, false, true, false, true, true, true, true, false, true, false] rfl rfl rfl rfl (two_of HT_.out (by kernel_rfl)) (by decide) (by decide) (fun K hK => ?_) (fun K hK => ?_)
         ·skip
          refine goes_ Try.func58 (by kernel_rfl) rfl #[.slice (some ad162) l0.length c0, .int .i64 2, .int .i64 2] (by rfl) rfl rfl ar_ ?_
          with_reducible refine (spec_NumberAt.calls kj3 _ _ l0 2 2 t164 _ ?side1 ?side2 A19.out).mono ?_
          (case side1 => exact kC_ (Kd.C_below HR0.out HB.out))
          (case side2 => exact HC0.out)
          rintro e w' ⟨rfl, ⟨nd, rfl⟩⟩
          refine ⟨_, rfl, ?_⟩
          refine hK.out _ _ ⟨(by first | exact cc_ HB hw162_0 | exact cc_ ⟨hbA_ HB.out⟩ hw162_0), (by first | exact cc_ HB hw163_0 | exact cc_ ⟨hbA_ HB.out⟩ hw163_0), (by first | exact cc_ HB hw166_0 | exact cc_ ⟨hbA_ HB.out⟩ hw166_0)⟩ (fun hHeld => ?_)
          clear hK K; refine nm_ 58 ?_
          refine two_ (i := 11) (j := 17) (Ni := some 60) (Nj := some 8) #[true, true, true, true, true, true, true, true, true, true, true, true, true, true, true, true, false, false, false] #[true, true, true, true, true, true, true, true, true, true, true, false, true, true, true, true, false, true, false] rfl rfl rfl rfl (two_of HT_.out (by kernel_rfl)) (by decide) (by decide) (fun K hK => ?_) (fun K hK => ?_)
          ·skip
           refine goes_ Try.func58 (by kernel_rfl) rfl #[.slice (some ad162) l0.length c0, .int .i64 4, .int .i64 2] (by rfl) rfl rfl ar_ ?_
           with_reducible refine (spec_NumberAt.calls kj3 _ _ l0 4 2 t165 _ ?side1 ?side2 A20.out).mono ?_
           (case side1 => exact kC_ (Kd.C_below HR0.out (hbA_ HB.out)))
           (case side2 => exact HC0.out)
           rintro e w' ⟨rfl, ⟨nd, rfl⟩⟩
           refine ⟨_, rfl, ?_⟩
           refine hK.out _ _ ⟨(by first | exact cc_ HB hw162_0 | exact cc_ ⟨hbA_ HB.out⟩ hw162_0), (by first | exact cc_ HB hw163_0 | exact cc_ ⟨hbA_ HB.out⟩ hw163_0), (by first | exact cc_ HB hw166_0 | exact cc_ ⟨hbA_ HB.out⟩ hw166_0)⟩ (fun hHeld => ?_)
           clear hK K; refine nm_ 60 ?_; refine pu_ (i := 16) (N := some 65) HT_ ?_
           refine on_ (i := 17) (N := some 8) HT_ (fun K hK => ?_)
           refine box_step ?hg (N := 8) ?hd (cs := #[.int .i64 0, .int .i64 0, .int .i64 0, .int .i64 0, .int .i64 0, .bool false, .bool false, .bool false, .bool false, .slice none 0 0, .slice none 0 0]) (t := 52) ?hr ?_; (case hd => rfl); (case hg => rfl); (case hr => first | (go_simp; done) | (go_simp; rfl))
           intro gb167 hg w24 hbox hb
           have n0_ := (bbA_ BK156 hb); have n1_ := (bs_ HB hb); have n2_ := Aside0.mk (hbox); have n3_ := ge_ hg HB; have n4_ := ge_ hg HB; have n5_ := nl_ hg BK156; have n6_ := ng_ hg BK156; clear BK156 HB; have BK156 := n0_; have HB := n1_; have BK167 := n2_; have GW167 := n3_; have GE167 := n4_; have NB156_167 := n5_; have NB167_156 := n6_; clear n0_ n1_ n2_ n3_ n4_ n5_ n6_ hb hbox hg
           refine hK.out _ _ ⟨(by first | exact cc_ HB hw162_0 | exact cc_ ⟨hbA_ HB.out⟩ hw162_0), (by first | exact cc_ HB hw163_0 | exact cc_ ⟨hbA_ HB.out⟩ hw163_0), (by first | exact cc_ HB hw166_0 | exact cc_ ⟨hbA_ HB.out⟩ hw166_0)⟩ (fun hHeld => ?_)
           clear hK K; refine nm_ 8 ?_
           exact norm_ (by simp only [putAll, Act.put, List.setIfInBounds_toArray, List.set_cons_zero, List.set_cons_succ]) (hCont (gb167) _ ⟨hHeld, (kb_ BK156.out), (kb_ BK167.out), GW167.out, GE167.out, NB156_167.out, NB167_156.out, (hbA_ HB.out)⟩)
          ·skip
           refine box_step ?hg (N := 8) ?hd (cs := #[.int .i64 0, .int .i64 0, .int .i64 0, .int .i64 0, .int .i64 0, .bool false, .bool false, .bool false, .bool false, .slice none 0 0, .slice none 0 0]) (t := 52) ?hr ?_; (case hd => rfl); (case hg => rfl); (case hr => first | (go_simp; done) | (go_simp; rfl))
           intro gb167 hg w24 hbox hb
           have n0_ := (bbA_ BK156 hb); have n1_ := (bs_ HB hb); have n2_ := Aside0.mk (hbox); have n3_ := ge_ hg HB; have n4_ := ge_ hg HB; have n5_ := nl_ hg BK156; have n6_ := ng_ hg BK156; clear BK156 HB; have BK156 := n0_; have HB := n1_; have BK167 := n2_; have GW167 := n3_; have GE167 := n4_; have NB156_167 := n5_; have NB167_156 := n6_; clear n0_ n1_ n2_ n3_ n4_ n5_ n6_ hb hbox hg
           refine hK.out _ _ ⟨(by first | exact cc_ HB hw162_0 | exact cc_ ⟨hbA_ HB.out⟩ hw162_0), (by first | exact cc_ HB hw163_0 | exact cc_ ⟨hbA_ HB.out⟩ hw163_0), (by first | exact cc_ HB hw166_0 | exact cc_ ⟨hbA_ HB.out⟩ hw166_0)⟩ (fun hHeld => ?_)
           clear hK K; refine nm_ 8 ?_
           refine on_ (i := 11) (N := some 60) HT_ (fun K hK => ?_)
           refine goes_ Try.func58 (by kernel_rfl) rfl #[.slice (some ad162) l0.length c0, .int .i64 4, .int .i64 2] (by rfl) rfl rfl ar_ ?_
           with_reducible refine (spec_NumberAt.calls kj3 _ _ l0 4 2 t165 _ ?side1 ?side2 A20.out).mono ?_
           (case side1 => exact kC_ (Kd.C_below HR0.out HB.out))
           (case side2 => exact HC0.out)
           rintro e w' ⟨rfl, ⟨nd, rfl⟩⟩
           refine ⟨_, rfl, ?_⟩
           refine hK.out _ _ ⟨(by first | exact cc_ HB hw162_0 | exact cc_ ⟨hbA_ HB.out⟩ hw162_0), (by first | exact cc_ HB hw163_0 | exact cc_ ⟨hbA_ HB.out⟩ hw163_0), (by first | exact cc_ HB hw166_0 | exact cc_ ⟨hbA_ HB.out⟩ hw166_0)⟩ (fun hHeld => ?_)
           clear hK K; refine nm_ 60 ?_; refine pu_ (i := 16) (N := some 65) HT_ ?_
           exact norm_ (by simp only [putAll, Act.put, List.setIfInBounds_toArray, List.set_cons_zero, List.set_cons_succ]) (hCont (gb167) _ ⟨hHeld, (kb_ BK156.out), (kb_ BK167.out), GW167.out, GE167.out, NB156_167.out, NB167_156.out, (hbA_ HB.out)⟩)
         ·skip
          refine box_step ?hg (N := 8) ?hd (cs := #[.int .i64 0, .int .i64 0, .int .i64 0, .int .i64 0, .int .i64 0, .bool false, .bool false, .bool false, .bool false, .slice none 0 0, .slice none 0 0]) (t := 52) ?hr ?_; (case hd => rfl); (case hg => rfl); (case hr => first | (go_simp; done) | (go_simp; rfl))
          intro gb167 hg w24 hbox hb
          have n0_ := (bbA_ BK156 hb); have n1_ := (bs_ HB hb); have n2_ := Aside0.mk (hbox); have n3_ := ge_ hg HB; have n4_ := ge_ hg HB; have n5_ := nl_ hg BK156; have n6_ := ng_ hg BK156; clear BK156 HB; have BK156 := n0_; have HB := n1_; have BK167 := n2_; have GW167 := n3_; have GE167 := n4_; have NB156_167 := n5_; have NB167_156 := n6_; clear n0_ n1_ n2_ n3_ n4_ n5_ n6_ hb hbox hg
          refine hK.out _ _ ⟨(by first | exact cc_ HB hw162_0 | exact cc_ ⟨hbA_ HB.out⟩ hw162_0), (by first | exact cc_ HB hw163_0 | exact cc_ ⟨hbA_ HB.out⟩ hw163_0), (by first | exact cc_ HB hw166_0 | exact cc_ ⟨hbA_ HB.out⟩ hw166_0)⟩ (fun hHeld => ?_)
          clear hK K; refine nm_ 8 ?_
          refine on_ (i := 9) (N := some 58) HT_ (fun K hK => ?_)
          refine goes_ Try.func58 (by kernel_rfl) rfl #[.slice (some ad162) l0.length c0, .int .i64 2, .int .i64 2] (by rfl) rfl rfl ar_ ?_
          with_reducible refine (spec_NumberAt.calls kj3 _ _ l0 2 2 t164 _ ?side1 ?side2 A19.out).mono ?_
          (case side1 => exact kC_ (Kd.C_below HR0.out HB.out))
          (case side2 => exact HC0.out)
          rintro e w' ⟨rfl, ⟨nd, rfl⟩⟩
          refine ⟨_, rfl, ?_⟩
          refine hK.out _ _ ⟨(by first | exact cc_ HB hw162_0 | exact cc_ ⟨hbA_ HB.out⟩ hw162_0), (by first | exact cc_ HB hw163_0 | exact cc_ ⟨hbA_ HB.out⟩ hw163_0), (by first | exact cc_ HB hw166_0 | exact cc_ ⟨hbA_ HB.out⟩ hw166_0)⟩ (fun hHeld => ?_)
          clear hK K; refine nm_ 58 ?_
          refine on_ (i := 11) (N := some 60) HT_ (fun K hK => ?_)
          refine goes_ Try.func58 (by kernel_rfl) rfl #[.slice (some ad162) l0.length c0, .int .i64 4, .int .i64 2] (by rfl) rfl rfl ar_ ?_
          with_reducible refine (spec_NumberAt.calls kj3 _ _ l0 4 2 t165 _ ?side1 ?side2 A20.out).mono ?_
          (case side1 => exact kC_ (Kd.C_below HR0.out (hbA_ HB.out)))
          (case side2 => exact HC0.out)
          rintro e w' ⟨rfl, ⟨nd, rfl⟩⟩
          refine ⟨_, rfl, ?_⟩
          refine hK.out _ _ ⟨(by first | exact cc_ HB hw162_0 | exact cc_ ⟨hbA_ HB.out⟩ hw162_0), (by first | exact cc_ HB hw163_0 | exact cc_ ⟨hbA_ HB.out⟩ hw163_0), (by first | exact cc_ HB hw166_0 | exact cc_ ⟨hbA_ HB.out⟩ hw166_0)⟩ (fun hHeld => ?_)
          clear hK K; refine nm_ 60 ?_; refine pu_ (i := 16) (N := some 65) HT_ ?_
          exact norm_ (by simp only [putAll, Act.put, List.setIfInBounds_toArray, List.set_cons_zero, List.set_cons_succ]) (hCont (gb167) _ ⟨hHeld, (kb_ BK156.out), (kb_ BK167.out), GW167.out, GE167.out, NB156_167.out, NB167_156.out, (hbA_ HB.out)⟩)
        rintro gb167 w25 ⟨hS_, h0_, h1_, h2_, h3_, h4_, h5_, h6_⟩
        have n0_ : Aside0 (w25.heap[gb156]? = some (.cells #[.int .i64 0, .int .i64 0, .int .i64 0, .int .i64 0, .int .i64 0, .bool false, .bool false, .bool false, .bool false, .slice none 0 0, .slice none 0 0] 52 (0, 0))) := ⟨h0_⟩
        have n1_ : Aside0 (w25.heap[gb167]? = some (.cells #[.int .i64 0, .int .i64 0, .int .i64 0, .int .i64 0, .int .i64 0, .bool false, .bool false, .bool false, .bool false, .slice none 0 0, .slice none 0 0] 52 (0, 0))) := ⟨h1_⟩
        have n2_ : Aside0 (w.heap.size ≤ gb167) := ⟨h2_⟩
        have n3_ : Aside0 (w.heap.size ≤ gb167) := ⟨h3_⟩
        have n4_ : Aside0 (gb156 ≠ gb167) := ⟨h4_⟩
        have n5_ : Aside0 (gb167 ≠ gb156) := ⟨h5_⟩
        have n6_ : Aside0 (Below w.heap.size w w25) := ⟨h6_⟩
        clear BK156 HB h0_ h1_ h2_ h3_ h4_ h5_ h6_; have BK156 := n0_; have BK167 := n1_; have GW167 := n2_; have GE167 := n3_; have NB156_167 := n4_; have NB167_156 := n5_; have HB := n6_; clear n0_ n1_ n2_ n3_ n4_ n5_ n6_
        have hHeld : w25.cell? ad162 = some (.int .u8 (rd l0 0)) ∧ w25.cell? ⟨ad162.block, ad162.off + 1, none⟩ = some (.int .u8 (rd l0 1)) ∧ w25.cell? ⟨ad162.block, ad162.off + 6, none⟩ = some (.int .u8 (rd l0 6)) := hS_
        refine norm_ (a' := ?_) ?_ ?_
        rotate_left
        ·simp only [putAll, Act.put, List.setIfInBounds_toArray, List.set_cons_zero, List.set_cons_succ]
         rfl
        refine on_ (i := 18) (N := none) HT_ (fun K hK => ?_)
        have hs26 : w25.cell? ⟨gb167, 0, none⟩ = some (.int .i64 0) := bc_ BK167 0
        have hfs26 := blk_frozen BK167.out 0
        have hns26_0 := NB156_167.out; have hms26_0 := NB167_156.out
        have hs27 : w25.cell? ⟨gb167, 1, none⟩ = some (.int .i64 0) := bc_ BK167 1
        have hfs27 := blk_frozen BK167.out 1
        have hns27_0 := NB156_167.out; have hms27_0 := NB167_156.out
        have hs28 : w25.cell? ⟨gb167, 2, none⟩ = some (.int .i64 0) := bc_ BK167 2
        have hfs28 := blk_frozen BK167.out 2
        have hns28_0 := NB156_167.out; have hms28_0 := NB167_156.out
        have hs29 : w25.cell? ⟨gb167, 3, none⟩ = some (.int .i64 0) := bc_ BK167 3
        have hfs29 := blk_frozen BK167.out 3
        have hns29_0 := NB156_167.out; have hms29_0 := NB167_156.out
        have hs30 : w25.cell? ⟨gb167, 4, none⟩ = some (.int .i64 0) := bc_ BK167 4
        have hfs30 := blk_frozen BK167.out 4
        have hns30_0 := NB156_167.out; have hms30_0 := NB167_156.out
        have hs31 : w25.cell? ⟨gb167, 5, none⟩ = some (.bool false) := bc_ BK167 5
        have hfs31 := blk_frozen BK167.out 5
        have hns31_0 := NB156_167.out; have hms31_0 := NB167_156.out
        have hs32 : w25.cell? ⟨gb167, 6, none⟩ = some (.bool false) := bc_ BK167 6
        have hfs32 := blk_frozen BK167.out 6
        have hns32_0 := NB156_167.out; have hms32_0 := NB167_156.out
        have hs33 : w25.cell? ⟨gb167, 7, none⟩ = some (.bool false) := bc_ BK167 7
        have hfs33 := blk_frozen BK167.out 7
        have hns33_0 := NB156_167.out; have hms33_0 := NB167_156.out
        have hs34 : w25.cell? ⟨gb167, 8, none⟩ = some (.bool false) := bc_ BK167 8
        have hfs34 := blk_frozen BK167.out 8
        have hns34_0 := NB156_167.out; have hms34_0 := NB167_156.out
        have hs35 : w25.cell? ⟨gb167, 9, none⟩ = some (.slice none 0 0) := bc_ BK167 9
        have hfs35 := blk_frozen BK167.out 9
        have hns35_0 := NB156_167.out; have hms35_0 := NB167_156.out
        have hs36 : w25.cell? ⟨gb167, 10, none⟩ = some (.slice none 0 0) := bc_ BK167 10
        have hfs36 := blk_frozen BK167.out 10
        have hns36_0 := NB156_167.out; have hms36_0 := NB167_156.out
        refine skip_ (w1 := ?_) (by rfl) rfl ?_ ?_
        rotate_left
        ·go_simp
         rfl
        refine hK.out _ _ ⟨((cell_far (p := ⟨gb167, _, none⟩) (by first | exact Nat.ne_of_lt (Nat.lt_of_lt_of_le (by have := World.block_lt_of_cell? _ _ hw162_0; first | rwa [add_block] at this | exact this) GW167.out) | (rw [add_block]; exact Nat.ne_of_lt (Nat.lt_of_lt_of_le (by have := World.block_lt_of_cell? _ _ hw162_0; first | rwa [add_block] at this | exact this) GW167.out)) | (show (Addr.add _ _).block ≠ _; rw [add_block]; exact Nat.ne_of_lt (Nat.lt_of_lt_of_le (by have := World.block_lt_of_cell? _ _ hw162_0; first | rwa [add_block] at this | exact this) GW167.out)) | (dsimp only; exact Nat.ne_of_lt (Nat.lt_of_lt_of_le (by have := World.block_lt_of_cell? _ _ hw162_0; first | rwa [add_block] at this | exact this) GW167.out))) _).trans (((cell_far (p := ⟨gb167, _, none⟩) (by first | exact Nat.ne_of_lt (Nat.lt_of_lt_of_le (by have := World.block_lt_of_cell? _ _ hw162_0; first | rwa [add_block] at this | exact this) GW167.out) | (rw [add_block]; exact Nat.ne_of_lt (Nat.lt_of_lt_of_le (by have := World.block_lt_of_cell? _ _ hw162_0; first | rwa [add_block] at this | exact this) GW167.out)) | (show (Addr.add _ _).block ≠ _; rw [add_block]; exact Nat.ne_of_lt (Nat.lt_of_lt_of_le (by have := World.block_lt_of_cell? _ _ hw162_0; first | rwa [add_block] at this | exact this) GW167.out)) | (dsimp only; exact Nat.ne_of_lt (Nat.lt_of_lt_of_le (by have := World.block_lt_of_cell? _ _ hw162_0; first | rwa [add_block] at this | exact this) GW167.out))) _).trans (((cell_far (p := ⟨gb167, _, none⟩) (by first | exact Nat.ne_of_lt (Nat.lt_of_lt_of_le (by have := World.block_lt_of_cell? _ _ hw162_0; first | rwa [add_block] at this | exact this) GW167.out) | (rw [add_block]; exact Nat.ne_of_lt (Nat.lt_of_lt_of_le (by have := World.block_lt_of_cell? _ _ hw162_0; first | rwa [add_block] at this | exact this) GW167.out)) | (show (Addr.add _ _).block ≠ _; rw [add_block]; exact Nat.ne_of_lt (Nat.lt_of_lt_of_le (by have := World.block_lt_of_cell? _ _ hw162_0; first | rwa [add_block] at this | exact this) GW167.out)) | (dsimp only; exact Nat.ne_of_lt (Nat.lt_of_lt_of_le (by have := World.block_lt_of_cell? _ _ hw162_0; first | rwa [add_block] at this | exact this) GW167.out))) _).trans (((cell_far (p := ⟨gb167, _, none⟩) (by first | exact Nat.ne_of_lt (Nat.lt_of_lt_of_le (by have := World.block_lt_of_cell? _ _ hw162_0; first | rwa [add_block] at this | exact this) GW167.out) | (rw [add_block]; exact Nat.ne_of_lt (Nat.lt_of_lt_of_le (by have := World.block_lt_of_cell? _ _ hw162_0; first | rwa [add_block] at this | exact this) GW167.out)) | (show (Addr.add _ _).block ≠ _; rw [add_block]; exact Nat.ne_of_lt (Nat.lt_of_lt_of_le (by have := World.block_lt_of_cell? _ _ hw162_0; first | rwa [add_block] at this | exact this) GW167.out)) | (dsimp only; exact Nat.ne_of_lt (Nat.lt_of_lt_of_le (by have := World.block_lt_of_cell? _ _ hw162_0; first | rwa [add_block] at this | exact this) GW167.out))) _).trans (((cell_far (p := ⟨gb167, _, none⟩) (by first | exact Nat.ne_of_lt (Nat.lt_of_lt_of_le (by have := World.block_lt_of_cell? _ _ hw162_0; first | rwa [add_block] at this | exact this) GW167.out) | (rw [add_block]; exact Nat.ne_of_lt (Nat.lt_of_lt_of_le (by have := World.block_lt_of_cell? _ _ hw162_0; first | rwa [add_block] at this | exact this) GW167.out)) | (show (Addr.add _ _).block ≠ _; rw [add_block]; exact Nat.ne_of_lt (Nat.lt_of_lt_of_le (by have := World.block_lt_of_cell? _ _ hw162_0; first | rwa [add_block] at this | exact this) GW167.out)) | (dsimp only; exact Nat.ne_of_lt (Nat.lt_of_lt_of_le (by have := World.block_lt_of_cell? _ _ hw162_0; first | rwa [add_block] at this | exact this) GW167.out))) _).trans (((cell_far (p := ⟨gb167, _, none⟩) (by first | exact Nat.ne_of_lt (Nat.lt_of_lt_of_le (by have := World.block_lt_of_cell? _ _ hw162_0; first | rwa [add_block] at this | exact this) GW167.out) | (rw [add_block]; exact Nat.ne_of_lt (Nat.lt_of_lt_of_le (by have := World.block_lt_of_cell? _ _ hw162_0; first | rwa [add_block] at this | exact this) GW167.out)) | (show (Addr.add _ _).block ≠ _; rw [add_block]; exact Nat.ne_of_lt (Nat.lt_of_lt_of_le (by have := World.block_lt_of_cell? _ _ hw162_0; first | rwa [add_block] at this | exact this) GW167.out)) | (dsimp only; exact Nat.ne_of_lt (Nat.lt_of_lt_of_le (by have := World.block_lt_of_cell? _ _ hw162_0; first | rwa [add_block] at this | exact this) GW167.out))) _).trans (((cell_far (p := ⟨gb167, _, none⟩) (by first | exact Nat.ne_of_lt (Nat.lt_of_lt_of_le (by have := World.block_lt_of_cell? _ _ hw162_0; first | rwa [add_block] at this | exact this) GW167.out) | (rw [add_block]; exact Nat.ne_of_lt (Nat.lt_of_lt_of_le (by have := World.block_lt_of_cell? _ _ hw162_0; first | rwa [add_block] at this | exact this) GW167.out)) | (show (Addr.add _ _).block ≠ _; rw [add_block]; exact Nat.ne_of_lt (Nat.lt_of_lt_of_le (by have := World.block_lt_of_cell? _ _ hw162_0; first | rwa [add_block] at this | exact this) GW167.out)) | (dsimp only; exact Nat.ne_of_lt (Nat.lt_of_lt_of_le (by have := World.block_lt_of_cell? _ _ hw162_0; first | rwa [add_block] at this | exact this) GW167.out))) _).trans (((cell_far (p := ⟨gb167, _, none⟩) (by first | exact Nat.ne_of_lt (Nat.lt_of_lt_of_le (by have := World.block_lt_of_cell? _ _ hw162_0; first | rwa [add_block] at this | exact this) GW167.out) | (rw [add_block]; exact Nat.ne_of_lt (Nat.lt_of_lt_of_le (by have := World.block_lt_of_cell? _ _ hw162_0; first | rwa [add_block] at this | exact this) GW167.out)) | (show (Addr.add _ _).block ≠ _; rw [add_block]; exact Nat.ne_of_lt (Nat.lt_of_lt_of_le (by have := World.block_lt_of_cell? _ _ hw162_0; first | rwa [add_block] at this | exact this) GW167.out)) | (dsimp only; exact Nat.ne_of_lt (Nat.lt_of_lt_of_le (by have := World.block_lt_of_cell? _ _ hw162_0; first | rwa [add_block] at this | exact this) GW167.out))) _).trans (((cell_far (p := ⟨gb167, _, none⟩) (by first | exact Nat.ne_of_lt (Nat.lt_of_lt_of_le (by have := World.block_lt_of_cell? _ _ hw162_0; first | rwa [add_block] at this | exact this) GW167.out) | (rw [add_block]; exact Nat.ne_of_lt (Nat.lt_of_lt_of_le (by have := World.block_lt_of_cell? _ _ hw162_0; first | rwa [add_block] at this | exact this) GW167.out)) | (show (Addr.add _ _).block ≠ _; rw [add_block]; exact Nat.ne_of_lt (Nat.lt_of_lt_of_le (by have := World.block_lt_of_cell? _ _ hw162_0; first | rwa [add_block] at this | exact this) GW167.out)) | (dsimp only; exact Nat.ne_of_lt (Nat.lt_of_lt_of_le (by have := World.block_lt_of_cell? _ _ hw162_0; first | rwa [add_block] at this | exact this) GW167.out))) _).trans (((cell_far (p := ⟨gb167, _, none⟩) (by first | exact Nat.ne_of_lt (Nat.lt_of_lt_of_le (by have := World.block_lt_of_cell? _ _ hw162_0; first | rwa [add_block] at this | exact this) GW167.out) | (rw [add_block]; exact Nat.ne_of_lt (Nat.lt_of_lt_of_le (by have := World.block_lt_of_cell? _ _ hw162_0; first | rwa [add_block] at this | exact this) GW167.out)) | (show (Addr.add _ _).block ≠ _; rw [add_block]; exact Nat.ne_of_lt (Nat.lt_of_lt_of_le (by have := World.block_lt_of_cell? _ _ hw162_0; first | rwa [add_block] at this | exact this) GW167.out)) | (dsimp only; exact Nat.ne_of_lt (Nat.lt_of_lt_of_le (by have := World.block_lt_of_cell? _ _ hw162_0; first | rwa [add_block] at this | exact this) GW167.out))) _).trans (((cell_far (p := ⟨gb167, _, none⟩) (by first | exact Nat.ne_of_lt (Nat.lt_of_lt_of_le (by have := World.block_lt_of_cell? _ _ hw162_0; first | rwa [add_block] at this | exact this) GW167.out) | (rw [add_block]; exact Nat.ne_of_lt (Nat.lt_of_lt_of_le (by have := World.block_lt_of_cell? _ _ hw162_0; first | rwa [add_block] at this | exact this) GW167.out)) | (show (Addr.add _ _).block ≠ _; rw [add_block]; exact Nat.ne_of_lt (Nat.lt_of_lt_of_le (by have := World.block_lt_of_cell? _ _ hw162_0; first | rwa [add_block] at this | exact this) GW167.out)) | (dsimp only; exact Nat.ne_of_lt (Nat.lt_of_lt_of_le (by have := World.block_lt_of_cell? _ _ hw162_0; first | rwa [add_block] at this | exact this) GW167.out))) _).trans (hHeld.1)))))))))))))))))))))), ((cell_far (p := ⟨gb167, _, none⟩) (by first | exact Nat.ne_of_lt (Nat.lt_of_lt_of_le (by have := World.block_lt_of_cell? _ _ hw163_0; first | rwa [add_block] at this | exact this) GW167.out) | (rw [add_block]; exact Nat.ne_of_lt (Nat.lt_of_lt_of_le (by have := World.block_lt_of_cell? _ _ hw163_0; first | rwa [add_block] at this | exact this) GW167.out)) | (show (Addr.add _ _).block ≠ _; rw [add_block]; exact Nat.ne_of_lt (Nat.lt_of_lt_of_le (by have := World.block_lt_of_cell? _ _ hw163_0; first | rwa [add_block] at this | exact this) GW167.out)) | (dsimp only; exact Nat.ne_of_lt (Nat.lt_of_lt_of_le (by have := World.block_lt_of_cell? _ _ hw163_0; first | rwa [add_block] at this | exact this) GW167.out))) _).trans (((cell_far (p := ⟨gb167, _, none⟩) (by first | exact Nat.ne_of_lt (Nat.lt_of_lt_of_le (by have := World.block_lt_of_cell? _ _ hw163_0; first | rwa [add_block] at this | exact this) GW167.out) | (rw [add_block]; exact Nat.ne_of_lt (Nat.lt_of_lt_of_le (by have := World.block_lt_of_cell? _ _ hw163_0; first | rwa [add_block] at this | exact this) GW167.out)) | (show (Addr.add _ _).block ≠ _; rw [add_block]; exact Nat.ne_of_lt (Nat.lt_of_lt_of_le (by have := World.block_lt_of_cell? _ _ hw163_0; first | rwa [add_block] at this | exact this) GW167.out)) | (dsimp only; exact Nat.ne_of_lt (Nat.lt_of_lt_of_le (by have := World.block_lt_of_cell? _ _ hw163_0; first | rwa [add_block] at this | exact this) GW167.out))) _).trans (((cell_far (p := ⟨gb167, _, none⟩) (by first | exact Nat.ne_of_lt (Nat.lt_of_lt_of_le (by have := World.block_lt_of_cell? _ _ hw163_0; first | rwa [add_block] at this | exact this) GW167.out) | (rw [add_block]; exact Nat.ne_of_lt (Nat.lt_of_lt_of_le (by have := World.block_lt_of_cell? _ _ hw163_0; first | rwa [add_block] at this | exact this) GW167.out)) | (show (Addr.add _ _).block ≠ _; rw [add_block]; exact Nat.ne_of_lt (Nat.lt_of_lt_of_le (by have := World.block_lt_of_cell? _ _ hw163_0; first | rwa [add_block] at this | exact this) GW167.out)) | (dsimp only; exact Nat.ne_of_lt (Nat.lt_of_lt_of_le (by have := World.block_lt_of_cell? _ _ hw163_0; first | rwa [add_block] at this | exact this) GW167.out))) _).trans (((cell_far (p := ⟨gb167, _, none⟩) (by first | exact Nat.ne_of_lt (Nat.lt_of_lt_of_le (by have := World.block_lt_of_cell? _ _ hw163_0; first | rwa [add_block] at this | exact this) GW167.out) | (rw [add_block]; exact Nat.ne_of_lt (Nat.lt_of_lt_of_le (by have := World.block_lt_of_cell? _ _ hw163_0; first | rwa [add_block] at this | exact this) GW167.out)) | (show (Addr.add _ _).block ≠ _; rw [add_block]; exact Nat.ne_of_lt (Nat.lt_of_lt_of_le (by have := World.block_lt_of_cell? _ _ hw163_0; first | rwa [add_block] at this | exact this) GW167.out)) | (dsimp only; exact Nat.ne_of_lt (Nat.lt_of_lt_of_le (by have := World.block_lt_of_cell? _ _ hw163_0; first | rwa [add_block] at this | exact this) GW167.out))) _).trans (((cell_far (p := ⟨gb167, _, none⟩) (by first | exact Nat.ne_of_lt (Nat.lt_of_lt_of_le (by have := World.block_lt_of_cell? _ _ hw163_0; first | rwa [add_block] at this | exact this) GW167.out) | (rw [add_block]; exact Nat.ne_of_lt (Nat.lt_of_lt_of_le (by have := World.block_lt_of_cell? _ _ hw163_0; first | rwa [add_block] at this | exact this) GW167.out)) | (show (Addr.add _ _).block ≠ _; rw [add_block]; exact Nat.ne_of_lt (Nat.lt_of_lt_of_le (by have := World.block_lt_of_cell? _ _ hw163_0; first | rwa [add_block] at this | exact this) GW167.out)) | (dsimp only; exact Nat.ne_of_lt (Nat.lt_of_lt_of_le (by have := World.block_lt_of_cell? _ _ hw163_0; first | rwa [add_block] at this | exact this) GW167.out))) _).trans (((cell_far (p := ⟨gb167, _, none⟩) (by first | exact Nat.ne_of_lt (Nat.lt_of_lt_of_le (by have := World.block_lt_of_cell? _ _ hw163_0; first | rwa [add_block] at this | exact this) GW167.out) | (rw [add_block]; exact Nat.ne_of_lt (Nat.lt_of_lt_of_le (by have := World.block_lt_of_cell? _ _ hw163_0; first | rwa [add_block] at this | exact this) GW167.out)) | (show (Addr.add _ _).block ≠ _; rw [add_block]; exact Nat.ne_of_lt (Nat.lt_of_lt_of_le (by have := World.block_lt_of_cell? _ _ hw163_0; first | rwa [add_block] at this | exact this) GW167.out)) | (dsimp only; exact Nat.ne_of_lt (Nat.lt_of_lt_of_le (by have := World.block_lt_of_cell? _ _ hw163_0; first | rwa [add_block] at this | exact this) GW167.out))) _).trans (((cell_far (p := ⟨gb167, _, none⟩) (by first | exact Nat.ne_of_lt (Nat.lt_of_lt_of_le (by have := World.block_lt_of_cell? _ _ hw163_0; first | rwa [add_block] at this | exact this) GW167.out) | (rw [add_block]; exact Nat.ne_of_lt (Nat.lt_of_lt_of_le (by have := World.block_lt_of_cell? _ _ hw163_0; first | rwa [add_block] at this | exact this) GW167.out)) | (show (Addr.add _ _).block ≠ _; rw [add_block]; exact Nat.ne_of_lt (Nat.lt_of_lt_of_le (by have := World.block_lt_of_cell? _ _ hw163_0; first | rwa [add_block] at this | exact this) GW167.out)) | (dsimp only; exact Nat.ne_of_lt (Nat.lt_of_lt_of_le (by have := World.block_lt_of_cell? _ _ hw163_0; first | rwa [add_block] at this | exact this) GW167.out))) _).trans (((cell_far (p := ⟨gb167, _, none⟩) (by first | exact Nat.ne_of_lt (Nat.lt_of_lt_of_le (by have := World.block_lt_of_cell? _ _ hw163_0; first | rwa [add_block] at this | exact this) GW167.out) | (rw [add_block]; exact Nat.ne_of_lt (Nat.lt_of_lt_of_le (by have := World.block_lt_of_cell? _ _ hw163_0; first | rwa [add_block] at this | exact this) GW167.out)) | (show (Addr.add _ _).block ≠ _; rw [add_block]; exact Nat.ne_of_lt (Nat.lt_of_lt_of_le (by have := World.block_lt_of_cell? _ _ hw163_0; first | rwa [add_block] at this | exact this) GW167.out)) | (dsimp only; exact Nat.ne_of_lt (Nat.lt_of_lt_of_le (by have := World.block_lt_of_cell? _ _ hw163_0; first | rwa [add_block] at this | exact this) GW167.out))) _).trans (((cell_far (p := ⟨gb167, _, none⟩) (by first | exact Nat.ne_of_lt (Nat.lt_of_lt_of_le (by have := World.block_lt_of_cell? _ _ hw163_0; first | rwa [add_block] at this | exact this) GW167.out) | (rw [add_block]; exact Nat.ne_of_lt (Nat.lt_of_lt_of_le (by have := World.block_lt_of_cell? _ _ hw163_0; first | rwa [add_block] at this | exact this) GW167.out)) | (show (Addr.add _ _).block ≠ _; rw [add_block]; exact Nat.ne_of_lt (Nat.lt_of_lt_of_le (by have := World.block_lt_of_cell? _ _ hw163_0; first | rwa [add_block] at this | exact this) GW167.out)) | (dsimp only; exact Nat.ne_of_lt (Nat.lt_of_lt_of_le (by have := World.block_lt_of_cell? _ _ hw163_0; first | rwa [add_block] at this | exact this) GW167.out))) _).trans (((cell_far (p := ⟨gb167, _, none⟩) (by first | exact Nat.ne_of_lt (Nat.lt_of_lt_of_le (by have := World.block_lt_of_cell? _ _ hw163_0; first | rwa [add_block] at this | exact this) GW167.out) | (rw [add_block]; exact Nat.ne_of_lt (Nat.lt_of_lt_of_le (by have := World.block_lt_of_cell? _ _ hw163_0; first | rwa [add_block] at this | exact this) GW167.out)) | (show (Addr.add _ _).block ≠ _; rw [add_block]; exact Nat.ne_of_lt (Nat.lt_of_lt_of_le (by have := World.block_lt_of_cell? _ _ hw163_0; first | rwa [add_block] at this | exact this) GW167.out)) | (dsimp only; exact Nat.ne_of_lt (Nat.lt_of_lt_of_le (by have := World.block_lt_of_cell? _ _ hw163_0; first | rwa [add_block] at this | exact this) GW167.out))) _).trans (((cell_far (p := ⟨gb167, _, none⟩) (by first | exact Nat.ne_of_lt (Nat.lt_of_lt_of_le (by have := World.block_lt_of_cell? _ _ hw163_0; first | rwa [add_block] at this | exact this) GW167.out) | (rw [add_block]; exact Nat.ne_of_lt (Nat.lt_of_lt_of_le (by have := World.block_lt_of_cell? _ _ hw163_0; first | rwa [add_block] at this | exact this) GW167.out)) | (show (Addr.add _ _).block ≠ _; rw [add_block]; exact Nat.ne_of_lt (Nat.lt_of_lt_of_le (by have := World.block_lt_of_cell? _ _ hw163_0; first | rwa [add_block] at this | exact this) GW167.out)) | (dsimp only; exact Nat.ne_of_lt (Nat.lt_of_lt_of_le (by have := World.block_lt_of_cell? _ _ hw163_0; first | rwa [add_block] at this | exact this) GW167.out))) _).trans (hHeld.2.1)))))))))))))))))))))), ((cell_far (p := ⟨gb167, _, none⟩) (by first | exact Nat.ne_of_lt (Nat.lt_of_lt_of_le (by have := World.block_lt_of_cell? _ _ hw166_0; first | rwa [add_block] at this | exact this) GW167.out) | (rw [add_block]; exact Nat.ne_of_lt (Nat.lt_of_lt_of_le (by have := World.block_lt_of_cell? _ _ hw166_0; first | rwa [add_block] at this | exact this) GW167.out)) | (show (Addr.add _ _).block ≠ _; rw [add_block]; exact Nat.ne_of_lt (Nat.lt_of_lt_of_le (by have := World.block_lt_of_cell? _ _ hw166_0; first | rwa [add_block] at this | exact this) GW167.out)) | (dsimp only; exact Nat.ne_of_lt (Nat.lt_of_lt_of_le (by have := World.block_lt_of_cell? _ _ hw166_0; first | rwa [add_block] at this | exact this) GW167.out))) _).trans (((cell_far (p := ⟨gb167, _, none⟩) (by first | exact Nat.ne_of_lt (Nat.lt_of_lt_of_le (by have := World.block_lt_of_cell? _ _ hw166_0; first | rwa [add_block] at this | exact this) GW167.out) | (rw [add_block]; exact Nat.ne_of_lt (Nat.lt_of_lt_of_le (by have := World.block_lt_of_cell? _ _ hw166_0; first | rwa [add_block] at this | exact this) GW167.out)) | (show (Addr.add _ _).block ≠ _; rw [add_block]; exact Nat.ne_of_lt (Nat.lt_of_lt_of_le (by have := World.block_lt_of_cell? _ _ hw166_0; first | rwa [add_block] at this | exact this) GW167.out)) | (dsimp only; exact Nat.ne_of_lt (Nat.lt_of_lt_of_le (by have := World.block_lt_of_cell? _ _ hw166_0; first | rwa [add_block] at this | exact this) GW167.out))) _).trans (((cell_far (p := ⟨gb167, _, none⟩) (by first | exact Nat.ne_of_lt (Nat.lt_of_lt_of_le (by have := World.block_lt_of_cell? _ _ hw166_0; first | rwa [add_block] at this | exact this) GW167.out) | (rw [add_block]; exact Nat.ne_of_lt (Nat.lt_of_lt_of_le (by have := World.block_lt_of_cell? _ _ hw166_0; first | rwa [add_block] at this | exact this) GW167.out)) | (show (Addr.add _ _).block ≠ _; rw [add_block]; exact Nat.ne_of_lt (Nat.lt_of_lt_of_le (by have := World.block_lt_of_cell? _ _ hw166_0; first | rwa [add_block] at this | exact this) GW167.out)) | (dsimp only; exact Nat.ne_of_lt (Nat.lt_of_lt_of_le (by have := World.block_lt_of_cell? _ _ hw166_0; first | rwa [add_block] at this | exact this) GW167.out))) _).trans (((cell_far (p := ⟨gb167, _, none⟩) (by first | exact Nat.ne_of_lt (Nat.lt_of_lt_of_le (by have := World.block_lt_of_cell? _ _ hw166_0; first | rwa [add_block] at this | exact this) GW167.out) | (rw [add_block]; exact Nat.ne_of_lt (Nat.lt_of_lt_of_le (by have := World.block_lt_of_cell? _ _ hw166_0; first | rwa [add_block] at this | exact this) GW167.out)) | (show (Addr.add _ _).block ≠ _; rw [add_block]; exact Nat.ne_of_lt (Nat.lt_of_lt_of_le (by have := World.block_lt_of_cell? _ _ hw166_0; first | rwa [add_block] at this | exact this) GW167.out)) | (dsimp only; exact Nat.ne_of_lt (Nat.lt_of_lt_of_le (by have := World.block_lt_of_cell? _ _ hw166_0; first | rwa [add_block] at this | exact this) GW167.out))) _).trans (((cell_far (p := ⟨gb167, _, none⟩) (by first | exact Nat.ne_of_lt (Nat.lt_of_lt_of_le (by have := World.block_lt_of_cell? _ _ hw166_0; first | rwa [add_block] at this | exact this) GW167.out) | (rw [add_block]; exact Nat.ne_of_lt (Nat.lt_of_lt_of_le (by have := World.block_lt_of_cell? _ _ hw166_0; first | rwa [add_block] at this | exact this) GW167.out)) | (show (Addr.add _ _).block ≠ _; rw [add_block]; exact Nat.ne_of_lt (Nat.lt_of_lt_of_le (by have := World.block_lt_of_cell? _ _ hw166_0; first | rwa [add_block] at this | exact this) GW167.out)) | (dsimp only; exact Nat.ne_of_lt (Nat.lt_of_lt_of_le (by have := World.block_lt_of_cell? _ _ hw166_0; first | rwa [add_block] at this | exact this) GW167.out))) _).trans (((cell_far (p := ⟨gb167, _, none⟩) (by first | exact Nat.ne_of_lt (Nat.lt_of_lt_of_le (by have := World.block_lt_of_cell? _ _ hw166_0; first | rwa [add_block] at this | exact this) GW167.out) | (rw [add_block]; exact Nat.ne_of_lt (Nat.lt_of_lt_of_le (by have := World.block_lt_of_cell? _ _ hw166_0; first | rwa [add_block] at this | exact this) GW167.out)) | (show (Addr.add _ _).block ≠ _; rw [add_block]; exact Nat.ne_of_lt (Nat.lt_of_lt_of_le (by have := World.block_lt_of_cell? _ _ hw166_0; first | rwa [add_block] at this | exact this) GW167.out)) | (dsimp only; exact Nat.ne_of_lt (Nat.lt_of_lt_of_le (by have := World.block_lt_of_cell? _ _ hw166_0; first | rwa [add_block] at this | exact this) GW167.out))) _).trans (((cell_far (p := ⟨gb167, _, none⟩) (by first | exact Nat.ne_of_lt (Nat.lt_of_lt_of_le (by have := World.block_lt_of_cell? _ _ hw166_0; first | rwa [add_block] at this | exact this) GW167.out) | (rw [add_block]; exact Nat.ne_of_lt (Nat.lt_of_lt_of_le (by have := World.block_lt_of_cell? _ _ hw166_0; first | rwa [add_block] at this | exact this) GW167.out)) | (show (Addr.add _ _).block ≠ _; rw [add_block]; exact Nat.ne_of_lt (Nat.lt_of_lt_of_le (by have := World.block_lt_of_cell? _ _ hw166_0; first | rwa [add_block] at this | exact this) GW167.out)) | (dsimp only; exact Nat.ne_of_lt (Nat.lt_of_lt_of_le (by have := World.block_lt_of_cell? _ _ hw166_0; first | rwa [add_block] at this | exact this) GW167.out))) _).trans (((cell_far (p := ⟨gb167, _, none⟩) (by first | exact Nat.ne_of_lt (Nat.lt_of_lt_of_le (by have := World.block_lt_of_cell? _ _ hw166_0; first | rwa [add_block] at this | exact this) GW167.out) | (rw [add_block]; exact Nat.ne_of_lt (Nat.lt_of_lt_of_le (by have := World.block_lt_of_cell? _ _ hw166_0; first | rwa [add_block] at this | exact this) GW167.out)) | (show (Addr.add _ _).block ≠ _; rw [add_block]; exact Nat.ne_of_lt (Nat.lt_of_lt_of_le (by have := World.block_lt_of_cell? _ _ hw166_0; first | rwa [add_block] at this | exact this) GW167.out)) | (dsimp only; exact Nat.ne_of_lt (Nat.lt_of_lt_of_le (by have := World.block_lt_of_cell? _ _ hw166_0; first | rwa [add_block] at this | exact this) GW167.out))) _).trans (((cell_far (p := ⟨gb167, _, none⟩) (by first | exact Nat.ne_of_lt (Nat.lt_of_lt_of_le (by have := World.block_lt_of_cell? _ _ hw166_0; first | rwa [add_block] at this | exact this) GW167.out) | (rw [add_block]; exact Nat.ne_of_lt (Nat.lt_of_lt_of_le (by have := World.block_lt_of_cell? _ _ hw166_0; first | rwa [add_block] at this | exact this) GW167.out)) | (show (Addr.add _ _).block ≠ _; rw [add_block]; exact Nat.ne_of_lt (Nat.lt_of_lt_of_le (by have := World.block_lt_of_cell? _ _ hw166_0; first | rwa [add_block] at this | exact this) GW167.out)) | (dsimp only; exact Nat.ne_of_lt (Nat.lt_of_lt_of_le (by have := World.block_lt_of_cell? _ _ hw166_0; first | rwa [add_block] at this | exact this) GW167.out))) _).trans (((cell_far (p := ⟨gb167, _, none⟩) (by first | exact Nat.ne_of_lt (Nat.lt_of_lt_of_le (by have := World.block_lt_of_cell? _ _ hw166_0; first | rwa [add_block] at this | exact this) GW167.out) | (rw [add_block]; exact Nat.ne_of_lt (Nat.lt_of_lt_of_le (by have := World.block_lt_of_cell? _ _ hw166_0; first | rwa [add_block] at this | exact this) GW167.out)) | (show (Addr.add _ _).block ≠ _; rw [add_block]; exact Nat.ne_of_lt (Nat.lt_of_lt_of_le (by have := World.block_lt_of_cell? _ _ hw166_0; first | rwa [add_block] at this | exact this) GW167.out)) | (dsimp only; exact Nat.ne_of_lt (Nat.lt_of_lt_of_le (by have := World.block_lt_of_cell? _ _ hw166_0; first | rwa [add_block] at this | exact this) GW167.out))) _).trans (((cell_far (p := ⟨gb167, _, none⟩) (by first | exact Nat.ne_of_lt (Nat.lt_of_lt_of_le (by have := World.block_lt_of_cell? _ _ hw166_0; first | rwa [add_block] at this | exact this) GW167.out) | (rw [add_block]; exact Nat.ne_of_lt (Nat.lt_of_lt_of_le (by have := World.block_lt_of_cell? _ _ hw166_0; first | rwa [add_block] at this | exact this) GW167.out)) | (show (Addr.add _ _).block ≠ _; rw [add_block]; exact Nat.ne_of_lt (Nat.lt_of_lt_of_le (by have := World.block_lt_of_cell? _ _ hw166_0; first | rwa [add_block] at this | exact this) GW167.out)) | (dsimp only; exact Nat.ne_of_lt (Nat.lt_of_lt_of_le (by have := World.block_lt_of_cell? _ _ hw166_0; first | rwa [add_block] at this | exact this) GW167.out))) _).trans (hHeld.2.2))))))))))))))))))))))⟩ (fun hHeld => ?_)
        clear hK K
        refine done_ (done_of HT_.out (by kernel_rfl)) ?_
        obtain ⟨w37, h_w37⟩ : ∃ w_, (((((((((((w25.setCell ⟨gb167, 0, none⟩ (.int .i64 (wrap64 (rd l0 0)))).setCell ⟨gb167, 1, none⟩ (.int .i64 (wrap64 (rd l0 1)))).setCell ⟨gb167, 2, none⟩ (.int .i64 t164)).setCell ⟨gb167, 3, none⟩ (.int .i64 t165)).setCell ⟨gb167, 4, none⟩ (.int .i64 (wrap64 (rd l0 6)))).setCell ⟨gb167, 5, none⟩ (.bool false)).setCell ⟨gb167, 6, none⟩ (.bool false)).setCell ⟨gb167, 7, none⟩ (.bool false)).setCell ⟨gb167, 8, none⟩ (.bool false)).setCell ⟨gb167, 9, none⟩ (.slice none 0 0)).setCell ⟨gb167, 10, none⟩ (.slice none 0 0)) = w_ := ⟨_, rfl⟩
        have n0_ : Aside0 (w37.heap[gb156]? = some (.cells #[.int .i64 0, .int .i64 0, .int .i64 0, .int .i64 0, .int .i64 0, .bool false, .bool false, .bool false, .bool false, .slice none 0 0, .slice none 0 0] 52 (0, 0))) := ⟨by subst h_w37; exact kf_ BK156.out⟩
        have n1_ : Aside0 (w37.heap[gb167]? = some (.cells #[.int .i64 (wrap64 (rd l0 0)), .int .i64 (wrap64 (rd l0 1)), .int .i64 t164, .int .i64 t165, .int .i64 (wrap64 (rd l0 6)), .bool false, .bool false, .bool false, .bool false, .slice none 0 0, .slice none 0 0] 52 (0, 0))) := ⟨by subst h_w37; refine kb_ ?_; refine pz11 (cs := #[.int .i64 0, .int .i64 0, .int .i64 0, .int .i64 0, .int .i64 0, .bool false, .bool false, .bool false, .bool false, .slice none 0 0, .slice none 0 0]) ?_; refine kb_ ?_; exact BK167.out⟩
        have n2_ : Aside0 (Below w.heap.size w w37) := ⟨by subst h_w37; exact hbA_ HB.out⟩
        (try clear BK156); (try clear BK167); (try clear HB)
        (try rw [h_w37]); clear h_w37
        have BK156 := n0_; have BK167 := n1_; have HB := n2_; clear n0_ n1_ n2_
        have p168 : 0 ≤ (7 : Int) := (by omega)
        have q168 : 7 < (l0.length : Int) := of_decide_eq_true (by first | (with_reducible assumption) | assumption)
        obtain ⟨ad168, e168, hx168_0⟩ := Kd.at_int HR0.out 7 p168 q168
        obtain rfl : ad162 = ad168 := (by injection e168)
        (try simp only [show (7 : Int).toNat = 7 from rfl, Nat.reduceMul, Nat.reduceEqDiff, Go.Addr.add, ↓reduceIte] at hx168_0)
        have qi168 : (7 < l0.length) = True := eq_true (by omega)
        (try rw [show ((7 : Int)).toNat = 7 from rfl] at hx168_0)
        replace hx168_0 := cc_ HB hx168_0
        replace p168 := eq_true p168
        replace q168 := eq_true q168
        have hnb38 := NB167_156.out; have hnc38 := NB156_167.out; have Z39 := zz11 BK167
        have p169 : 0 ≤ (7 : Int) := (by omega)
        have q169 : 7 < (l0.length : Int) := of_decide_eq_true (by first | (with_reducible assumption) | assumption)
        obtain ⟨ad169, e169, hx169_0⟩ := Kd.at_int HR0.out 7 p169 q169
        obtain rfl : ad162 = ad169 := (by injection e169)
        (try simp only [show (7 : Int).toNat = 7 from rfl, Nat.reduceMul, Nat.reduceEqDiff, Go.Addr.add, ↓reduceIte] at hx169_0)
        have qi169 : (7 < l0.length) = True := eq_true (by omega)
        (try rw [show ((7 : Int)).toNat = 7 from rfl] at hx169_0)
        have hn169_0 : ad162.block ≠ gb167 := Nat.ne_of_lt (Nat.lt_of_lt_of_le (by have := World.block_lt_of_cell? _ _ hx169_0; first | rwa [add_block] at this | exact this) GW167.out)
        replace hx169_0 := cc_ HB hx169_0
        replace hx169_0 := (cell_far (p := ⟨gb167, 5, none⟩) (by first | (rw [add_block]; exact hn169_0) | (show (Addr.add _ _).block ≠ _; rw [add_block]; exact hn169_0) | exact hn169_0) (.bool ((Int.tmod (rd l0 7) 2) == 1))).trans hx169_0
        clear hn169_0
        replace p169 := eq_true p169
        replace q169 := eq_true q169
        have p170 : 0 ≤ (7 : Int) := (by omega)
        have q170 : 7 < (l0.length : Int) := of_decide_eq_true (by first | (with_reducible assumption) | assumption)
        obtain ⟨ad170, e170, hx170_0⟩ := Kd.at_int HR0.out 7 p170 q170
        obtain rfl : ad162 = ad170 := (by injection e170)
        (try simp only [show (7 : Int).toNat = 7 from rfl, Nat.reduceMul, Nat.reduceEqDiff, Go.Addr.add, ↓reduceIte] at hx170_0)
        have qi170 : (7 < l0.length) = True := eq_true (by omega)
        (try rw [show ((7 : Int)).toNat = 7 from rfl] at hx170_0)
        have hn170_0 : ad162.block ≠ gb167 := Nat.ne_of_lt (Nat.lt_of_lt_of_le (by have := World.block_lt_of_cell? _ _ hx170_0; first | rwa [add_block] at this | exact this) GW167.out)
        have hn170_1 : ad162.block ≠ gb167 := Nat.ne_of_lt (Nat.lt_of_lt_of_le (by have := World.block_lt_of_cell? _ _ hx170_0; first | rwa [add_block] at this | exact this) GW167.out)
        replace hx170_0 := cc_ HB hx170_0
        replace hx170_0 := (cell_far (p := ⟨gb167, 5, none⟩) (by first | (rw [add_block]; exact hn170_0) | (show (Addr.add _ _).block ≠ _; rw [add_block]; exact hn170_0) | exact hn170_0) (.bool ((Int.tmod (rd l0 7) 2) == 1))).trans hx170_0
        replace hx170_0 := (cell_far (p := ⟨gb167, 6, none⟩) (by first | (rw [add_block]; exact hn170_1) | (show (Addr.add _ _).block ≠ _; rw [add_block]; exact hn170_1) | exact hn170_1) (.bool (((Int.tdiv (rd l0 7) 2) % 2) == 1))).trans hx170_0
        clear hn170_0 hn170_1
        replace p170 := eq_true p170
        replace q170 := eq_true q170
        have p171 : 0 ≤ (7 : Int) := (by omega)
        have q171 : 7 < (l0.length : Int) := of_decide_eq_true (by first | (with_reducible assumption) | assumption)
        obtain ⟨ad171, e171, hx171_0⟩ := Kd.at_int HR0.out 7 p171 q171
        obtain rfl : ad162 = ad171 := (by injection e171)
        (try simp only [show (7 : Int).toNat = 7 from rfl, Nat.reduceMul, Nat.reduceEqDiff, Go.Addr.add, ↓reduceIte] at hx171_0)
        have qi171 : (7 < l0.length) = True := eq_true (by omega)
        (try rw [show ((7 : Int)).toNat = 7 from rfl] at hx171_0)
        have hn171_0 : ad162.block ≠ gb167 := Nat.ne_of_lt (Nat.lt_of_lt_of_le (by have := World.block_lt_of_cell? _ _ hx171_0; first | rwa [add_block] at this | exact this) GW167.out)
        have hn171_1 : ad162.block ≠ gb167 := Nat.ne_of_lt (Nat.lt_of_lt_of_le (by have := World.block_lt_of_cell? _ _ hx171_0; first | rwa [add_block] at this | exact this) GW167.out)
        have hn171_2 : ad162.block ≠ gb167 := Nat.ne_of_lt (Nat.lt_of_lt_of_le (by have := World.block_lt_of_cell? _ _ hx171_0; first | rwa [add_block] at this | exact this) GW167.out)
        replace hx171_0 := cc_ HB hx171_0
        replace hx171_0 := (cell_far (p := ⟨gb167, 5, none⟩) (by first | (rw [add_block]; exact hn171_0) | (show (Addr.add _ _).block ≠ _; rw [add_block]; exact hn171_0) | exact hn171_0) (.bool ((Int.tmod (rd l0 7) 2) == 1))).trans hx171_0
        replace hx171_0 := (cell_far (p := ⟨gb167, 6, none⟩) (by first | (rw [add_block]; exact hn171_1) | (show (Addr.add _ _).block ≠ _; rw [add_block]; exact hn171_1) | exact hn171_1) (.bool (((Int.tdiv (rd l0 7) 2) % 2) == 1))).trans hx171_0
        replace hx171_0 := (cell_far (p := ⟨gb167, 7, none⟩) (by first | (rw [add_block]; exact hn171_2) | (show (Addr.add _ _).block ≠ _; rw [add_block]; exact hn171_2) | exact hn171_2) (.bool (((Int.tdiv (rd l0 7) 4) % 2) == 1))).trans hx171_0
        clear hn171_0 hn171_1 hn171_2
        replace p171 := eq_true p171
        replace q171 := eq_true q171
        try go_wp2
        go_loopg [9, 10] kj3 (fun kq v9 v10 w' => ∃ (x9_2 : Int) (x10_2 : Int) (x168009_2 : List (S90)) (u168009 : Value), v9 = .int .i64 x9_2 ∧ v10 = .int .i64 x10_2 ∧ Aside0 (spec_SegmentFrom.l0 kq l0 a1 a2 x9_2 x10_2 (wrap64 (rd l0 0)) (wrap64 (rd l0 1)) t164 t165 (wrap64 (rd l0 6)) ((Int.tmod (rd l0 7) 2) == 1) (((Int.tdiv (rd l0 7) 2) % 2) == 1) (((Int.tdiv (rd l0 7) 4) % 2) == 1) (((Int.tdiv (rd l0 7) 8) % 256) == 1) x168009_2 = some (r1, r2, r3, r4, r5, r6, r7, r8, r9, r10, r11, r12)) ∧ Aside0 (kq ≤ kj3) ∧ Aside0 (Kd.R k90 90 w' w.heap.size (fun _ => True) u168009 x168009_2) ∧ Aside0 (w'.heap[gb156]? = some (.cells #[.int .i64 0, .int .i64 0, .int .i64 0, .int .i64 0, .int .i64 0, .bool false, .bool false, .bool false, .bool false, (.slice none 0 0), (.slice none 0 0)] 52 (0, 0))) ∧ Aside0 (w'.heap[gb167]? = some (.cells #[.int .i64 (wrap64 (rd l0 0)), .int .i64 (wrap64 (rd l0 1)), .int .i64 t164, .int .i64 t165, .int .i64 (wrap64 (rd l0 6)), .bool ((Int.tmod (rd l0 7) 2) == 1), .bool (((Int.tdiv (rd l0 7) 2) % 2) == 1), .bool (((Int.tdiv (rd l0 7) 4) % 2) == 1), .bool (((Int.tdiv (rd l0 7) 8) % 256) == 1), u168009, (.slice none 0 0)] 52 (0, 0))) ∧ Aside0 (Below w.heap.size w w'))
        case atStart => exact ⟨(9), (0), (([] : List (S90))), (.slice none 0 0), (by first | rfl | (simp; done) | (simp [*]; done)), (by first | rfl | (simp; done) | (simp [*]; done)), H', ⟨Nat.le_refl _⟩, ⟨by first | exact Kd.R_nil _ _ _ _ _ | exact Kd.N_nil _ _ _ _ _ | exact Kd.V_nil _ _ _ _ _ | exact Kd.Q_nil _ _ _ _ _ | exact Kd.S_nil _ _ _ _ _⟩, ⟨by exact kf_ BK156.out⟩, ⟨by refine kb_ ?_; refine blk_put (cs := #[.int .i64 (wrap64 (rd l0 0)), .int .i64 (wrap64 (rd l0 1)), .int .i64 t164, .int .i64 t165, .int .i64 (wrap64 (rd l0 6)), .bool ((Int.tmod (rd l0 7) 2) == 1), .bool (((Int.tdiv (rd l0 7) 2) % 2) == 1), .bool (((Int.tdiv (rd l0 7) 4) % 2) == 1), .bool false, .slice none 0 0, .slice none 0 0]) ?_ 8 _ rfl; refine kb_ ?_; refine blk_put (cs := #[.int .i64 (wrap64 (rd l0 0)), .int .i64 (wrap64 (rd l0 1)), .int .i64 t164, .int .i64 t165, .int .i64 (wrap64 (rd l0 6)), .bool ((Int.tmod (rd l0 7) 2) == 1), .bool (((Int.tdiv (rd l0 7) 2) % 2) == 1), .bool false, .bool false, .slice none 0 0, .slice none 0 0]) ?_ 7 _ rfl; refine kb_ ?_; refine blk_put (cs := #[.int .i64 (wrap64 (rd l0 0)), .int .i64 (wrap64 (rd l0 1)), .int .i64 t164, .int .i64 t165, .int .i64 (wrap64 (rd l0 6)), .bool ((Int.tmod (rd l0 7) 2) == 1), .bool false, .bool false, .bool false, .slice none 0 0, .slice none 0 0]) ?_ 6 _ rfl; refine kb_ ?_; refine blk_put (cs := #[.int .i64 (wrap64 (rd l0 0)), .int .i64 (wrap64 (rd l0 1)), .int .i64 t164, .int .i64 t165, .int .i64 (wrap64 (rd l0 6)), .bool false, .bool false, .bool false, .bool false, .slice none 0 0, .slice none 0 0]) ?_ 5 _ rfl; refine kb_ ?_; exact BK167.out⟩, ⟨hbA_ HB.out⟩⟩
        case round =>
         clear H'; (try clear c1); (try clear p1); (try clear q1); (try clear hx1); (try clear qi1); (try clear c2); (try clear p2); (try clear c3); (try clear c5); (try clear p6); (try clear c15); (try clear p16); (try clear q16); (try clear hx16); (try clear qi16); (try clear c17); (try clear c17b0); (try clear c17b1); (try clear p17); (try clear q17); (try clear hx17); (try clear qi17); (try clear c18); (try clear c18b0); (try clear c18b1); (try clear c21); (try clear c21b0); (try clear c21b1); (try clear c22); (try clear c22b0); (try clear c22b1); (try clear c38); (try clear Z16); (try clear Z39); (try clear hx162_0); (try clear hx163_0); (try clear hx166_0); (try clear hx168_0); (try clear hx169_0); (try clear hx170_0); (try clear hx171_0); (try clear p162); (try clear p163); (try clear p166); (try clear p168); (try clear p169); (try clear p170); (try clear p171); (try clear q162); (try clear q163); (try clear q166); (try clear q168); (try clear q169); (try clear q170); (try clear q171)
         obtain ⟨x9_2, x10_2, x168009_2, u168009, rfl, rfl, HA, HK2, HO_168009, BK156, BK167, HB⟩ := hrel
         cases gk with
         | zero => exact absurd HA.out (by simp [spec_SegmentFrom.l0])
         | succ k2 =>
          have H := HA.out; clear HA
          simp only [spec_SegmentFrom.l0] at H
          by_cases c40 : 8 < (l0.length : Int)
          ·rw [if_pos c40] at H
           have c40b0 : decide (8 < (l0.length : Int)) = true := decide_eq_true c40
           have c40b1 : decide (8 < l0.length) = true := decide_eq_true (by omega)
           clear c40
           by_cases c41 : x10_2 < (wrap64 (rd l0 8))
           ·rw [if_pos c41] at H
            have c41b0 : decide (x10_2 < (wrap64 (rd l0 8))) = true := decide_eq_true c41
            clear c41
            replace H := Option.bind_eq_some_iff.mp H
            obtain ⟨t173, A420, H⟩ := H
            (try dsimp only at H)
            have A42 := Aside0.mk A420; clear A420
            replace H := Option.bind_eq_some_iff.mp H
            obtain ⟨t174, A430, H⟩ := H
            (try dsimp only at H)
            have A43 := Aside0.mk A430; clear A430
            by_cases c44 : x168009_2.length < 8796093022208
            ·rw [if_pos c44] at H
             have LMc44 := Aside0.mk c44; clear c44
             obtain ⟨y175, hy175⟩ : ∃ y_ : List (S90), y_ = (x168009_2 ++ [(⟨t173, t174⟩ : S90)]) := ⟨_, rfl⟩
             (first | replace H := sb_ hy175 H | rw [← hy175] at H)
             have Ny175 := Aside0.mk hy175; clear hy175
             have H' := Aside0.mk H
             clear H
             have p172 : 0 ≤ (8 : Int) := (by omega)
             have q172 : 8 < (l0.length : Int) := of_decide_eq_true (by first | (with_reducible assumption) | assumption)
             obtain ⟨ad172, e172, hx172_0⟩ := Kd.at_int HR0.out 8 p172 q172
             obtain rfl : ad162 = ad172 := (by injection e172)
             (try simp only [show (8 : Int).toNat = 8 from rfl, Nat.reduceMul, Nat.reduceEqDiff, Go.Addr.add, ↓reduceIte] at hx172_0)
             have qi172 : (8 < l0.length) = True := eq_true (by omega)
             (try rw [show ((8 : Int)).toNat = 8 from rfl] at hx172_0)
             replace hx172_0 := cc_ HB hx172_0
             replace p172 := eq_true p172
             replace q172 := eq_true q172
             try go_wp2
             replace HO_168009 := Aside0.mk (Kd.R_drew HO_168009.out); replace BK156 := Aside0.mk (blk_drew BK156.out); replace BK167 := Aside0.mk (blk_drew BK167.out); replace HB := (bd_ HB)
             refine start_ (n := 14) (S := fun w' => w'.cell? ⟨gb167, 0, none⟩ = some (.int .i64 (wrap64 (rd l0 0))) ∧ w'.cell? ⟨gb167, 1, none⟩ = some (.int .i64 (wrap64 (rd l0 1))) ∧ w'.cell? ⟨gb167, 2, none⟩ = some (.int .i64 t164) ∧ w'.cell? ⟨gb167, 3, none⟩ = some (.int .i64 t165) ∧ w'.cell? ⟨gb167, 4, none⟩ = some (.int .i64 (wrap64 (rd l0 6))) ∧ w'.cell? ⟨gb167, 5, none⟩ = some (.bool ((Int.tmod (rd l0 7) 2) == 1)) ∧ w'.cell? ⟨gb167, 6, none⟩ = some (.bool (((Int.tdiv (rd l0 7) 2) % 2) == 1)) ∧ w'.cell? ⟨gb167, 7, none⟩ = some (.bool (((Int.tdiv (rd l0 7) 4) % 2) == 1)) ∧ w'.cell? ⟨gb167, 8, none⟩ = some (.bool (((Int.tdiv (rd l0 7) 8) % 256) == 1)) ∧ w'.cell? ⟨gb167, 9, none⟩ = some (u168009) ∧ w'.cell? ⟨gb167, 10, none⟩ = some (.slice none 0 0)) (ds := [13]) #[false, false, false, false, false, false, false, false, false, false, false, false, false, false] (by kernel_rfl) rfl rfl (cz11 BK167.out) (fun hHeld => ?_); refine with_tabW spec_SegmentFrom.tab12 spec_SegmentFrom.bits12 (fun HT_ HW_ => ?_)
             generalize wr.drew = w45 at HO_168009 BK156 BK167 HB hHeld ⊢
             refine pu_ (i := 0) (N := some 100) HT_ ?_; refine pu_ (i := 2) (N := some 102) HT_ ?_; refine pu_ (i := 3) (N := some 103) HT_ ?_; refine pu_ (i := 5) (N := some 105) HT_ ?_; refine pu_ (i := 6) (N := some 106) HT_ ?_; refine pu_ (i := 7) (N := some 107) HT_ ?_; refine tk_ (i := 1) (N := some 101) HT_ HW_ hHeld ?_
             refine on_ (i := 4) (N := some 104) HT_ (fun K hK => ?_)
             refine goes_ Try.func58 (by kernel_rfl) rfl #[.slice (some ad162) l0.length c0, .int .i64 x9_2, .int .i64 2] (by rfl) rfl rfl ar_ ?_
             with_reducible refine (spec_NumberAt.calls k2 _ _ l0 x9_2 2 t173 _ ?side1 ?side2 A42.out).mono ?_
             (case side1 => exact kC_ (Kd.C_below HR0.out HB.out))
             (case side2 => exact HC0.out)
             rintro e w' ⟨rfl, ⟨nd, rfl⟩⟩
             refine ⟨_, rfl, ?_⟩
             refine hK.out _ _ (cz11 BK167.out) (fun hHeld => ?_)
             clear hK K; refine nm_ 104 ?_
             refine on_ (i := 8) (N := some 108) HT_ (fun K hK => ?_)
             refine goes_ Try.func58 (by kernel_rfl) rfl #[.slice (some ad162) l0.length c0, .int .i64 (wrap64 (x9_2 + 2)), .int .i64 2] (by rfl) rfl rfl ar_ ?_
             with_reducible refine (spec_NumberAt.calls k2 _ _ l0 (wrap64 (x9_2 + 2)) 2 t174 _ ?side1 ?side2 A43.out).mono ?_
             (case side1 => exact kC_ (Kd.C_below HR0.out (hbA_ HB.out)))
             (case side2 => exact HC0.out)
             rintro e w' ⟨rfl, ⟨nd, rfl⟩⟩
             refine ⟨_, rfl, ?_⟩
             refine hK.out _ _ (cz11 BK167.out) (fun hHeld => ?_)
             clear hK K; refine nm_ 108 ?_; refine pu_ (i := 9) (N := some 109) HT_ ?_
             refine on_ (i := 10) (N := some 110) HT_ (fun K hK => ?_)
             refine value_ (w1 := ?_) (v := ?_) (by rfl) rfl ?_ ?_
             rotate_left 2
             ·go_simp
              constructor
              ·rfl
              ·rfl
             refine hK.out _ _ ⟨(blk_cell (blk_alloc BK167.out _) 0).trans rfl, (blk_cell (blk_alloc BK167.out _) 1).trans rfl, (blk_cell (blk_alloc BK167.out _) 2).trans rfl, (blk_cell (blk_alloc BK167.out _) 3).trans rfl, (blk_cell (blk_alloc BK167.out _) 4).trans rfl, (blk_cell (blk_alloc BK167.out _) 5).trans rfl, (blk_cell (blk_alloc BK167.out _) 6).trans rfl, (blk_cell (blk_alloc BK167.out _) 7).trans rfl, (blk_cell (blk_alloc BK167.out _) 8).trans rfl, (blk_cell (blk_alloc BK167.out _) 9).trans rfl, (blk_cell (blk_alloc BK167.out _) 10).trans rfl⟩ (fun hHeld => ?_)
             clear hK K; refine nm_ 110 ?_
             refine on_ (i := 11) (N := some 111) HT_ (fun K hK => ?_)
             refine Kd.R_append_step k90 (w0 := w) w.heap.size (by rfl) (.tmp 101) (.tmp 110) 50 90 (.agg #[(.int .i64 0), (.int .i64 0)]) 16 rfl Try.underlying50 info90 rfl (by decide) (by omega) u168009 x168009_2 (⟨t173, t174⟩ : S90) [.int .i64 t173, .int .i64 t174] (fun _ => True) (fun _ => False) rfl rfl ?aP (fun _ hk => hk.elim) ?aF ?aO ?aB ?aS ?aL ?_
             (case aP => exact k90_mkM _ _ _ (⟨t173, t174⟩ : S90))
             (case aB => exact (hbA_ HB.out))
             (case aF => exact (fun _ _ => trivial))
             (case aO => exact (kR_ HO_168009.out))
             (case aS => exact (below_size (hbA_ HB.out)))
             (case aL => have := LMc44.out; omega)
             intro v176 w46 ho hb hg hat
             rw [← Ny175.out] at ho
             have n0_ := (bgA_ BK156 hg (Kd.R_ne HO_168009.out BK156.out (by decide))); have n1_ := (bgA_ BK167 hg (Kd.R_ne HO_168009.out BK167.out (by decide))); have n2_ := Aside0.mk (hb); have n3_ := Aside0.mk (ho); clear BK156 BK167 HB HO_168009; have BK156 := n0_; have BK167 := n1_; have HB := n2_; have HO177 := n3_; clear n0_ n1_ n2_ n3_ ho hb hg hat
             obtain ⟨Ao47, co47, eo47⟩ := Kd.R_slice HO177.out
             (first | subst eo47 | (injection eo47 with f1_ f2_ f3_; have f4_ := f1_.symm; have f5_ := f3_.symm; clear f1_ f2_ f3_; subst f4_; subst f5_))
             refine hK.out _ _ (cz11 BK167.out) (fun hHeld => ?_)
             clear hK K; refine nm_ 111 ?_; refine pu_ (i := 12) (N := some 112) HT_ ?_
             refine last_ (i := 13) (N := none) #[true, true, true, true, true, true, true, true, true, true, true, true, true, true] rfl rfl (one_of HT_.out (by kernel_rfl)) (by decide) (fun K hK => ?_)
             have hs48 : w46.cell? ⟨gb167, 9, none⟩ = some (u168009) := bc_ BK167 9
             have hfs48 := blk_frozen BK167.out 9
             have hns48_0 := NB156_167.out; have hms48_0 := NB167_156.out
             refine skip_ (w1 := ?_) (by rfl) rfl ?_ ?_
             rotate_left
             ·go_simp
              rfl
             refine hK.out _ _ ?_
             clear hK K
             refine done_ (done_of HT_.out (by kernel_rfl)) ?_
             try go_wp2
             go_roundg k2
             case measure => have := HJ3.out; have := HK2.out; omega
             case rel => exact ⟨(wrap64 (x9_2 + 4)), (wrap64 (x10_2 + 1)), (y175), (.slice Ao47 y175.length co47), (by first | rfl | (simp; done) | (simp [*]; done)), (by first | rfl | (simp; done) | (simp [*]; done)), H', ⟨by have := HJ3.out; have := HK2.out; omega⟩, ⟨by refine kR_ ?_; exact Kd.R_mono (Kd.R_f gb167 9 (.slice Ao47 y175.length co47) (Kd.R_types HO177.out BK167.out (by decide))) (fun _ hk => trivial)⟩, ⟨by exact kf_ BK156.out⟩, ⟨by refine kb_ ?_; refine blk_put (cs := #[.int .i64 (wrap64 (rd l0 0)), .int .i64 (wrap64 (rd l0 1)), .int .i64 t164, .int .i64 t165, .int .i64 (wrap64 (rd l0 6)), .bool ((Int.tmod (rd l0 7) 2) == 1), .bool (((Int.tdiv (rd l0 7) 2) % 2) == 1), .bool (((Int.tdiv (rd l0 7) 4) % 2) == 1), .bool (((Int.tdiv (rd l0 7) 8) % 256) == 1), u168009, .slice none 0 0]) ?_ 9 _ rfl; refine kb_ ?_; exact BK167.out⟩, ⟨hbA_ HB.out⟩⟩
            ·rw [if_neg c44] at H
             exact absurd H (by simp)
           ·rw [if_neg c41] at H
            have c41b0 : decide (x10_2 < (wrap64 (rd l0 8))) = false := decide_eq_false c41
            clear c41
            obtain ⟨y178, hy178⟩ : ∃ y_ : List Int, y_ = (([] : List Int)) := ⟨_, rfl⟩
            (first | replace H := sb_ hy178 H | rw [← hy178] at H)
            have Ny178 := Aside0.mk hy178; clear hy178
            obtain ⟨ji49, hji49⟩ : ∃ j_ : Int, (wrap64 (x9_2 + 1)) = j_ := ⟨_, rfl⟩
            (first | rw [hji49] at H | simp only [hji49] at H)
            have hji49w : (IntKind.i64.wrap (x9_2 + 1)) = ji49 := (i64_w _).trans hji49
            by_cases c50 : 0 ≤ (ji49)
            ·rw [if_pos c50] at H
             have c50b0 := eq_true c50
             have c50b1 : decide (0 ≤ (ji49)) = true := decide_eq_true c50
             clear c50
             by_cases c51 : (ji49) ≤ (wrap64 ((l0.length : Int) - 2))
             ·rw [if_pos c51] at H
              have c51b0 := eq_true c51
              have c51b1 : decide ((ji49) ≤ (wrap64 ((l0.length : Int) - 2))) = true := decide_eq_true c51
              clear c51
              by_cases c52 : (wrap64 ((l0.length : Int) - 2)) ≤ (l0.length : Int)
              ·rw [if_pos c52] at H
               have c52b0 := eq_true c52
               have c52b1 : decide ((wrap64 ((l0.length : Int) - 2)) ≤ (l0.length : Int)) = true := decide_eq_true c52
               clear c52
               by_cases c53 : y178.length + ((l0.take ((wrap64 ((l0.length : Int) - 2)) : Int).toNat).drop ((ji49) : Int).toNat).length < 140737488355328
               ·rw [if_pos c53] at H
                have LMc53 := Aside0.mk c53; clear c53
                obtain ⟨y182, hy182⟩ : ∃ y_ : List Int, y_ = (y178 ++ ((l0.take ((wrap64 ((l0.length : Int) - 2)) : Int).toNat).drop ((ji49) : Int).toNat)) := ⟨_, rfl⟩
                (first | replace H := sb_ hy182 H | rw [← hy182] at H)
                have Ny182 := Aside0.mk hy182; clear hy182; have HC54 := Aside0.mk H; clear H
                have p172 : 0 ≤ (8 : Int) := (by omega)
                have q172 : 8 < (l0.length : Int) := of_decide_eq_true (by first | (with_reducible assumption) | assumption)
                obtain ⟨ad172, e172, hx172_0⟩ := Kd.at_int HR0.out 8 p172 q172
                obtain rfl : ad162 = ad172 := (by injection e172)
                (try simp only [show (8 : Int).toNat = 8 from rfl, Nat.reduceMul, Nat.reduceEqDiff, Go.Addr.add, ↓reduceIte] at hx172_0)
                have qi172 : (8 < l0.length) = True := eq_true (by omega)
                (try rw [show ((8 : Int)).toNat = 8 from rfl] at hx172_0)
                replace hx172_0 := cc_ HB hx172_0
                replace p172 := eq_true p172
                replace q172 := eq_true q172
                go_upto_region 16 with (first | ((with_reducible refine gate_dst (N := 118) rfl ?_); (try (refine gate_guard (by rfl) ?_; dsimp only)); refine Kd.R_lit (Kd.int .u8) _ 5 ?hg (N := 118) ?hd (xs := ([] : List Int)) (inner := []) (ok := fun _ => True) (okp := fun _ => True) ?hr ?hp (fun _ hk => hk) trivial (Below.refl _ _) (Nat.le_refl _) (by simp) ?_; (case hd => rfl); (case hg => rfl); (case hr => first | (go_simp; done) | (go_simp; rfl)); (case hp => exact (Reps.none _ _)); intro v179 w55 ho56 hb hg_ hnew_; clear hg_ hnew_; (first | rw [← Ny178.out] at ho56 | (simp only [Int.reduceToNat] at ho56; rw [← Ny178.out] at ho56)); replace HO_168009 := Aside0.mk (Kd.R_below (kR_ HO_168009.out) hb); have HO180 := Aside0.mk (Kd.R_lower ho56 (below_size (hbA_ HB.out))); replace BK156 := (bbA_ BK156 hb); replace BK167 := (bbA_ BK167 hb); replace HB := (bs_ HB hb); clear hb ho56; obtain ⟨i057, hi057, _, hsz57, _⟩ := info_parts info5; obtain ⟨A57, hcut57, hA57, hC57⟩ := print_mid_of (P := Try.prog) (Value.int .u8) 0 22 5 .i64 .i64 Try.underlying22 hi057 hsz57 (some ad162) c0 l0 (ji49) (wrap64 ((l0.length : Int) - 2)) (of_decide_eq_true (by first | (with_reducible assumption) | assumption)) (by first | omega | exact of_decide_eq_true (by first | (with_reducible assumption) | assumption)) (of_decide_eq_true (by first | (with_reducible assumption) | assumption)) HC0.out; have HR181 := Aside0.mk (Kd.C_of_reads (h1 := fun _ => rfl) (hA57 _ (Kd.reads_of_C HR0.out))); have HC181 := Aside0.mk hC57; clear hA57 hC57 hi057 hsz57) | ((with_reducible refine gate_builtin (b := .append) (xs := #[.tmp 118, .tmp 123]) rfl ?_); (try (refine gate_guard (by rfl) ?_; dsimp only)); at_builtin; refine Kd.R_append_rows (Kd.int .u8) (w0 := w) w.heap.size rfl (.tmp 118) (.tmp 123) 22 5 (.int .u8 0) 1 rfl Try.underlying22 info5 rfl (by decide) (by omega) v179 y178 ((l0.take ((wrap64 ((l0.length : Int) - 2)) : Int).toNat).drop ((ji49) : Int).toNat) _ _ _ (fun _ => True) (fun _ => False) rfl rfl ?aO ?aR (fun _ _ h => h) (fun _ h => h.elim) ?aF ?aB ?aS ?aL ?_; (case aR => first | (refine len_ (show ((l0.take ((wrap64 ((l0.length : Int) - 2)) : Int).toNat).drop ((ji49) : Int).toNat).length = ((wrap64 ((l0.length : Int) - 2)).toNat - (ji49).toNat) from (by rw [List.length_drop, List.length_take]; have h_ : ((wrap64 ((l0.length : Int) - 2)) : Int) ≤ (l0.length : Int) := of_decide_eq_true (by first | (with_reducible assumption) | assumption); omega)) ?_; repeat (first | exact (Kd.C_below HR181.out HB.out) | (with_reducible refine Kd.C_alloc ?_ _) | (with_reducible refine Kd.C_drewN ?_ _) | (with_reducible refine Kd.C_drew ?_)); done) | (repeat (first | exact (Kd.C_below HR181.out HB.out) | (with_reducible refine Kd.C_alloc ?_ _) | (with_reducible refine Kd.C_drewN ?_ _) | (with_reducible refine Kd.C_drew ?_)))); (case aB => exact (hbA_ HB.out)); (case aF => exact (fun _ _ => trivial)); (case aO => exact (kR_ HO180.out)); (case aS => exact (below_size (hbA_ HB.out))); (case aL => have := LMc53.out; have hlx_ := (show ((l0.take ((wrap64 ((l0.length : Int) - 2)) : Int).toNat).drop ((ji49) : Int).toNat).length = ((wrap64 ((l0.length : Int) - 2)).toNat - (ji49).toNat) from (by rw [List.length_drop, List.length_take]; have h_ : ((wrap64 ((l0.length : Int) - 2)) : Int) ≤ (l0.length : Int) := of_decide_eq_true (by first | (with_reducible assumption) | assumption); omega)); omega); intro v183 w58 ho hb hg hat; rw [← Ny182.out] at ho; replace HO_168009 := Aside0.mk (Kd.R_over' (kR_ HO_168009.out) (Kd.R_typed (kR_ HO180.out)) (by decide) hg); replace BK156 := (bgA_ BK156 hg (Kd.R_ne HO180.out BK156.out (by decide))); replace BK167 := (bgA_ BK167 hg (Kd.R_ne HO180.out BK167.out (by decide))); replace HB := Aside0.mk (hb); have HO184 := Aside0.mk (ho); clear HO180; clear ho hb hg hat; obtain ⟨Ao59, co59, eo59⟩ := Kd.R_slice HO184.out; subst eo59; have hnb60 := NB167_156.out; have hnc60 := NB156_167.out; have Z61 := zz11 BK167))
                (try simp only [Act.put, List.setIfInBounds_toArray, List.set_cons_zero, List.set_cons_succ])
                go_cut [151] (fun v151 wc => ∃ (kq : Nat) (x151_53 : Bool), v151 = .bool x151_53 ∧ Aside0 (spec_SegmentFrom.j2 kq x151_53 (wrap64 (rd l0 0)) (wrap64 (rd l0 1)) t164 t165 (wrap64 (rd l0 6)) ((Int.tmod (rd l0 7) 2) == 1) (((Int.tdiv (rd l0 7) 2) % 2) == 1) (((Int.tdiv (rd l0 7) 4) % 2) == 1) (((Int.tdiv (rd l0 7) 8) % 256) == 1) x168009_2 y182 = some (r1, r2, r3, r4, r5, r6, r7, r8, r9, r10, r11, r12)) ∧ Aside0 (kq ≤ k2) ∧ Aside0 (Kd.R k90 90 wc w.heap.size (fun _ => True) u168009 x168009_2) ∧ Aside0 (Kd.R (Kd.int .u8) 5 wc w.heap.size (fun _ => True) (.slice Ao59 y182.length co59) y182) ∧ Aside0 (wc.heap[gb156]? = some (.cells #[.int .i64 0, .int .i64 0, .int .i64 0, .int .i64 0, .int .i64 0, .bool false, .bool false, .bool false, .bool false, (.slice none 0 0), (.slice none 0 0)] 52 (0, 0))) ∧ Aside0 (wc.heap[gb167]? = some (.cells #[.int .i64 (wrap64 (rd l0 0)), .int .i64 (wrap64 (rd l0 1)), .int .i64 t164, .int .i64 t165, .int .i64 (wrap64 (rd l0 6)), .bool ((Int.tmod (rd l0 7) 2) == 1), .bool (((Int.tdiv (rd l0 7) 2) % 2) == 1), .bool (((Int.tdiv (rd l0 7) 4) % 2) == 1), .bool (((Int.tdiv (rd l0 7) 8) % 256) == 1), u168009, (.slice Ao59 y182.length co59)] 52 (0, 0))) ∧ Aside0 (Below w.heap.size w wc))
                case first =>
                 have H := HC54.out; clear HC54
                 by_cases c62 : 0 ≤ x9_2
                 ·rw [if_pos c62] at H
                  have c62b0 : decide (0 ≤ x9_2) = true := decide_eq_true c62
                  clear c62
                  (first | rw [c62b0] | (simp only [i64_w, i32_w]; rw [c62b0]) | skip)
                  by_cases c63 : x9_2 < (l0.length : Int)
                  ·rw [if_pos c63] at H
                   have c63b0 : decide (x9_2 < (l0.length : Int)) = true := decide_eq_true c63
                   clear c63
                   by_cases c64 : (wrap64 (rd l0 x9_2)) = (y182.length : Int)
                   ·rw [if_pos c64] at H
                    have c64b0 : ((wrap64 (rd l0 x9_2)) == (y182.length : Int)) = true := beq_iff_eq.mpr c64
                    have c64b1 : ((wrap64 (rd l0 x9_2)) != (y182.length : Int)) = false := bne_eq_false_iff_eq.mpr c64
                    clear c64
                    replace H := Option.bind_eq_some_iff.mp H
                    obtain ⟨t186, A650, H⟩ := H
                    (try dsimp only at H)
                    have A65 := Aside0.mk A650; clear A650
                    by_cases c66 : t186 = true
                    ·subst c66
                     rw [if_pos rfl] at H
                     replace H := Option.bind_eq_some_iff.mp H
                     obtain ⟨t187, A670, H⟩ := H
                     (try dsimp only at H)
                     have A67 := Aside0.mk A670; clear A670
                     obtain ⟨ji68, hji68⟩ : ∃ j_ : Int, (wrap64 ((l0.length : Int) - 2)) = j_ := ⟨_, rfl⟩
                     (first | rw [hji68] at H | simp only [hji68] at H)
                     (try rw [hji68] at c51b0)
                     (try rw [hji68] at c51b1)
                     (try rw [hji68] at c52b0)
                     (try rw [hji68] at c52b1)
                     (try rw [hji68] at Ny182)
                     (try rw [hji68] at A65)
                     (try rw [hji68] at A67)
                     have hji68w : (IntKind.i64.wrap ((l0.length : Int) - 2)) = ji68 := (i64_w _).trans hji68
                     by_cases c69 : 0 ≤ (ji68)
                     ·rw [if_pos c69] at H
                      have c69b0 := eq_true c69
                      have c69b1 : decide (0 ≤ (ji68)) = true := decide_eq_true c69
                      clear c69
                      have c70b0 := eq_true (of_decide_eq_true (by first | (with_reducible assumption) | assumption) : (ji68) ≤ (l0.length : Int))
                      replace H := Option.bind_eq_some_iff.mp H
                      obtain ⟨t189, A710, H⟩ := H
                      (try dsimp only at H)
                      have A71 := Aside0.mk A710; clear A710
                      have H' := Aside0.mk H
                      clear H
                      try go_wp2
                      obtain ⟨w72, h_w72⟩ : ∃ w_, (w58.setCell ⟨gb167, 10, none⟩ (.slice Ao59 y182.length co59)) = w_ := ⟨_, rfl⟩
                      have n0_ : Aside0 (Kd.R k90 90 w72 w.heap.size (fun _ => True) u168009 x168009_2) := ⟨by subst h_w72; refine kR_ ?_; exact Kd.R_mono (Kd.R_f gb167 10 (.slice Ao59 y182.length co59) (Kd.R_types HO_168009.out BK167.out (by decide))) (fun _ hk => trivial)⟩
                      have n1_ : Aside0 (Kd.R (Kd.int .u8) 5 w72 w.heap.size (fun _ => True) (.slice Ao59 y182.length co59) y182) := ⟨by subst h_w72; refine kR_ ?_; exact Kd.R_mono (Kd.R_f gb167 10 (.slice Ao59 y182.length co59) (Kd.R_types HO184.out BK167.out (by decide))) (fun _ hk => trivial)⟩
                      have n2_ : Aside0 (w72.heap[gb156]? = some (.cells #[.int .i64 0, .int .i64 0, .int .i64 0, .int .i64 0, .int .i64 0, .bool false, .bool false, .bool false, .bool false, .slice none 0 0, .slice none 0 0] 52 (0, 0))) := ⟨by subst h_w72; exact kf_ BK156.out⟩
                      have n3_ : Aside0 (w72.heap[gb167]? = some (.cells #[.int .i64 (wrap64 (rd l0 0)), .int .i64 (wrap64 (rd l0 1)), .int .i64 t164, .int .i64 t165, .int .i64 (wrap64 (rd l0 6)), .bool ((Int.tmod (rd l0 7) 2) == 1), .bool (((Int.tdiv (rd l0 7) 2) % 2) == 1), .bool (((Int.tdiv (rd l0 7) 4) % 2) == 1), .bool (((Int.tdiv (rd l0 7) 8) % 256) == 1), u168009, .slice Ao59 y182.length co59] 52 (0, 0))) := ⟨by subst h_w72; refine kb_ ?_; refine blk_put (cs := #[.int .i64 (wrap64 (rd l0 0)), .int .i64 (wrap64 (rd l0 1)), .int .i64 t164, .int .i64 t165, .int .i64 (wrap64 (rd l0 6)), .bool ((Int.tmod (rd l0 7) 2) == 1), .bool (((Int.tdiv (rd l0 7) 2) % 2) == 1), .bool (((Int.tdiv (rd l0 7) 4) % 2) == 1), .bool (((Int.tdiv (rd l0 7) 8) % 256) == 1), u168009, .slice none 0 0]) ?_ 10 _ rfl; refine kb_ ?_; exact BK167.out⟩
                      have n4_ : Aside0 (Below w.heap.size w w72) := ⟨by subst h_w72; exact hbA_ HB.out⟩
                      (try clear HO_168009); (try clear HO184); (try clear BK156); (try clear BK167); (try clear HB)
                      (try rw [h_w72]); clear h_w72
                      have HO_168009 := n0_; have HO184 := n1_; have BK156 := n2_; have BK167 := n3_; have HB := n4_; clear n0_ n1_ n2_ n3_ n4_; replace HO_168009 := Aside0.mk (Kd.R_drew HO_168009.out); replace HO184 := Aside0.mk (Kd.R_drew HO184.out); replace BK156 := Aside0.mk (blk_drew BK156.out); replace BK167 := Aside0.mk (blk_drew BK167.out); replace HB := (bd_ HB)
                      have p185 : 0 ≤ (x9_2 : Int) := of_decide_eq_true (by first | (with_reducible assumption) | assumption)
                      have q185 : x9_2 < (l0.length : Int) := of_decide_eq_true (by first | (with_reducible assumption) | assumption)
                      obtain ⟨ad185, e185, hx185_0⟩ := Kd.at_int HR0.out x9_2 p185 q185
                      have hw185_0 := hx185_0
                      obtain rfl : ad162 = ad185 := (by injection e185)
                      replace hx185_0 := cc_ HB hx185_0
                      replace p185 := eq_true p185
                      replace q185 := eq_true q185
                      obtain ⟨Ao74, co74, eo74⟩ := Kd.R_slice HO_168009.out
                      (first | subst eo74 | (injection eo74 with f1_ f2_ f3_; have f4_ := f1_.symm; have f5_ := f3_.symm; clear f1_ f2_ f3_; subst f4_; subst f5_))
                      refine start_ (n := 26) (S := fun w' => w'.cell? ⟨gb167, 0, none⟩ = some (.int .i64 (wrap64 (rd l0 0))) ∧ w'.cell? ⟨gb167, 1, none⟩ = some (.int .i64 (wrap64 (rd l0 1))) ∧ w'.cell? ⟨gb167, 2, none⟩ = some (.int .i64 t164) ∧ w'.cell? ⟨gb167, 3, none⟩ = some (.int .i64 t165) ∧ w'.cell? ⟨gb167, 4, none⟩ = some (.int .i64 (wrap64 (rd l0 6))) ∧ w'.cell? ⟨gb167, 5, none⟩ = some (.bool ((Int.tmod (rd l0 7) 2) == 1)) ∧ w'.cell? ⟨gb167, 6, none⟩ = some (.bool (((Int.tdiv (rd l0 7) 2) % 2) == 1)) ∧ w'.cell? ⟨gb167, 7, none⟩ = some (.bool (((Int.tdiv (rd l0 7) 4) % 2) == 1)) ∧ w'.cell? ⟨gb167, 8, none⟩ = some (.bool (((Int.tdiv (rd l0 7) 8) % 256) == 1)) ∧ w'.cell? ⟨gb167, 9, none⟩ = some (.slice Ao74 x168009_2.length co74) ∧ w'.cell? ⟨gb167, 10, none⟩ = some (.slice Ao59 y182.length co59) ∧ w'.cell? (ad162.add (x9_2).toNat) = some (.int .u8 (rd l0 x9_2))) (ds := []) #[false, false, false, false, false, false, false, false, false, false, false, false, false, false, false, false, false, false, false, false, false, false, false, false, false, false] (by kernel_rfl) rfl rfl ⟨bc_ BK167 0, bc_ BK167 1, bc_ BK167 2, bc_ BK167 3, bc_ BK167 4, bc_ BK167 5, bc_ BK167 6, bc_ BK167 7, bc_ BK167 8, bc_ BK167 9, bc_ BK167 10, (cc_ HB hw185_0)⟩ (fun hHeld => ?_); refine with_tabW spec_SegmentFrom.tab16 spec_SegmentFrom.bits16 (fun HT_ HW_ => ?_)
                      generalize w72.drew = w73 at HO_168009 HO184 BK156 BK167 HB hx185_0 hHeld ⊢
                      refine pu_ (i := 0) (N := some 126) HT_ ?_; refine pu_ (i := 1) (N := some 127) HT_ ?_; refine pu_ (i := 2) (N := some 128) HT_ ?_; refine pu_ (i := 5) (N := some 131) HT_ ?_; refine tk_ (i := 3) (N := some 129) HT_ HW_ hHeld ?_; refine pu_ (i := 4) (N := some 130) HT_ ?_; refine tk_ (i := 6) (N := some 132) HT_ HW_ hHeld ?_; refine pu_ (i := 7) (N := some 133) HT_ ?_; refine pu_ (i := 8) (N := some 134) HT_ ?_; refine pu_ (i := 9) (N := some 135) HT_ ?_; refine tk_ (i := 10) (N := some 136) HT_ HW_ hHeld ?_
                      refine on_ (i := 11) (N := some 137) HT_ (fun K hK => ?_)
                      refine goes_ Try.func59 (by kernel_rfl) rfl #[.agg #[.int .i64 (wrap64 (rd l0 0)), .int .i64 (wrap64 (rd l0 1)), .int .i64 t164, .int .i64 t165, .int .i64 (wrap64 (rd l0 6)), .bool ((Int.tmod (rd l0 7) 2) == 1), .bool (((Int.tdiv (rd l0 7) 2) % 2) == 1), .bool (((Int.tdiv (rd l0 7) 4) % 2) == 1), .bool (((Int.tdiv (rd l0 7) 8) % 256) == 1), .slice Ao74 x168009_2.length co74, .slice Ao59 y182.length co59]] (by rfl) rfl rfl ar_ ?_
                      with_reducible refine (spec_SegmentOk.calls k2 (wrap64 (rd l0 0)) (wrap64 (rd l0 1)) t164 t165 (wrap64 (rd l0 6)) ((Int.tmod (rd l0 7) 2) == 1) (((Int.tdiv (rd l0 7) 2) % 2) == 1) (((Int.tdiv (rd l0 7) 4) % 2) == 1) (((Int.tdiv (rd l0 7) 8) % 256) == 1) _ _ x168009_2 _ _ y182 true _ ?side1 ?side2 ?side3 ?side4 A65.out).mono ?_
                      (case side1 => exact kC_ (Kd.R_reads' HO_168009.out).2.2)
                      (case side2 => exact (Kd.R_reads' HO_168009.out).2.1)
                      (case side3 => exact kC_ (Kd.R_reads' HO184.out).2.2)
                      (case side4 => exact (Kd.R_reads' HO184.out).2.1)
                      rintro e w75 ⟨rfl, hb⟩
                      refine ⟨_, rfl, ?_⟩
                      replace HO_168009 := Aside0.mk (Kd.R_below (kR_ HO_168009.out) hb); replace HO184 := Aside0.mk (Kd.R_below (kR_ HO184.out) hb); replace BK156 := (bbA_ BK156 hb); replace BK167 := (bbA_ BK167 hb); replace HB := (bs_ HB hb); (try clear hb); (try clear hb2); (try clear hk); (try clear hi)
                      refine hK.out _ _ ⟨bc_ BK167 0, bc_ BK167 1, bc_ BK167 2, bc_ BK167 3, bc_ BK167 4, bc_ BK167 5, bc_ BK167 6, bc_ BK167 7, bc_ BK167 8, bc_ BK167 9, bc_ BK167 10, (by first | exact cc_ HB hw185_0 | exact cc_ ⟨hbA_ HB.out⟩ hw185_0)⟩ (fun hHeld => ?_)
                      clear hK K; refine nm_ 137 ?_; refine pu_ (i := 12) (N := some 138) HT_ ?_; refine pu_ (i := 13) (N := some 139) HT_ ?_; refine pu_ (i := 14) (N := some 140) HT_ ?_; refine pu_ (i := 15) (N := some 141) HT_ ?_; refine pu_ (i := 16) (N := some 142) HT_ ?_; refine pu_ (i := 18) (N := some 144) HT_ ?_; refine pu_ (i := 19) (N := some 145) HT_ ?_; refine pu_ (i := 20) (N := some 146) HT_ ?_; refine pu_ (i := 21) (N := some 147) HT_ ?_
                      obtain ⟨i076, hi076, _, hsz76, _⟩ := info_parts info5
                      obtain ⟨hcut76, hA76, hC76⟩ := print_take_of (P := Try.prog) (Value.int .u8) 0 22 5 .i64 Try.underlying22 hi076 hsz76 (some ad162) c0 l0 (ji68) (of_decide_eq_true (by first | (with_reducible assumption) | assumption)) (of_decide_eq_true (by first | (with_reducible assumption) | assumption)) HC0.out
                      refine pu_ (i := 22) (N := some 148) HT_ ?_
                      refine on_ (i := 17) (N := some 143) HT_ (fun K hK => ?_)
                      refine goes_ Try.func58 (by kernel_rfl) rfl #[.slice (some ad162) l0.length c0, .int .i64 ji68, .int .i64 2] (by rfl) rfl rfl (by (try simp only [List.map_toArray, List.map_cons, List.map_nil]); first | done | (simp only [hji68]; rfl) | rfl | (simp only [List.length_drop, List.length_take]; rfl)) ?_
                      with_reducible refine (spec_NumberAt.calls k2 _ _ l0 ji68 2 t187 _ ?side1 ?side2 A67.out).mono ?_
                      (case side1 => exact kC_ (Kd.C_below HR0.out HB.out))
                      (case side2 => exact HC0.out)
                      rintro e w' ⟨rfl, ⟨nd, rfl⟩⟩
                      refine ⟨_, rfl, ?_⟩
                      have HR188 := Aside0.mk (Kd.C_of_reads (h1 := fun _ => rfl) (hA76 _ (Kd.reads_of_C HR0.out)))
                      have HC188 := Aside0.mk hC76; clear hA76 hC76 hi076 hsz76
                      refine hK.out _ _ ⟨bc_ BK167 0, bc_ BK167 1, bc_ BK167 2, bc_ BK167 3, bc_ BK167 4, bc_ BK167 5, bc_ BK167 6, bc_ BK167 7, bc_ BK167 8, bc_ BK167 9, bc_ BK167 10, (by first | exact cc_ HB hw185_0 | exact cc_ ⟨hbA_ HB.out⟩ hw185_0)⟩ (fun hHeld => ?_)
                      clear hK K; refine nm_ 143 ?_
                      refine on_ (i := 23) (N := some 149) HT_ (fun K hK => ?_)
                      refine goes_ Try.func60 (by kernel_rfl) rfl #[.int .i64 a1, .int .i64 a2, .slice (some ad162) (l0.take ((ji68) : Int).toNat).length c0] (by rfl) rfl rfl (by (try simp only [List.map_toArray, List.map_cons, List.map_nil]); first | done | (rw [show (l0.take ((ji68) : Int).toNat).length = (ji68).toNat from (by rw [List.length_take]; have h_ : ((ji68) : Int) ≤ (l0.length : Int) := of_decide_eq_true (by first | (with_reducible assumption) | assumption); omega)] <;> rfl) | (simp only [hji68]; rfl) | rfl | (simp only [List.length_drop, List.length_take]; rfl)) ?_
                      with_reducible refine (spec_l9Sum.calls k2 a1 a2 _ _ (l0.take ((ji68) : Int).toNat) t189 _ ?side1 ?side2 A71.out).mono ?_
                      (case side1 => exact kC_ (Kd.C_below HR188.out (hbA_ HB.out)))
                      (case side2 => exact HC188.out)
                      rintro e w77 ⟨rfl, hb⟩
                      refine ⟨_, rfl, ?_⟩
                      replace HO_168009 := Aside0.mk (Kd.R_below (kR_ HO_168009.out) hb); replace HO184 := Aside0.mk (Kd.R_below (kR_ HO184.out) hb); replace BK156 := (bbA_ BK156 hb); replace BK167 := (bbA_ BK167 hb); replace HB := (bs_ HB hb); (try clear hb); (try clear hb2); (try clear hk); (try clear hi)
                      refine hK.out _ _ ⟨bc_ BK167 0, bc_ BK167 1, bc_ BK167 2, bc_ BK167 3, bc_ BK167 4, bc_ BK167 5, bc_ BK167 6, bc_ BK167 7, bc_ BK167 8, bc_ BK167 9, bc_ BK167 10, (by first | exact cc_ HB hw185_0 | exact cc_ ⟨hbA_ HB.out⟩ hw185_0)⟩ (fun hHeld => ?_)
                      clear hK K; refine nm_ 149 ?_; refine pu_ (i := 24) (N := some 150) HT_ ?_; refine pu_ (i := 25) (N := some 151) HT_ ?_
                      refine done_ (done_of HT_.out (by kernel_rfl)) ?_
                      try go_wp2
                      first | go_meet | ((try simp only [← hji68]); go_meet)
                      case rel => exact ⟨_, ((t187 != t189)), (by first | rfl | (simp; done) | (simp [*]; done)), H', ⟨by have := HJ3.out; have := HK2.out; first | omega | exact Nat.le_refl _⟩, ⟨kR_ HO_168009.out⟩, ⟨kR_ HO184.out⟩, ⟨by refine kb_ ?_; exact BK156.out⟩, ⟨by refine kb_ ?_; exact BK167.out⟩, ⟨hbA_ HB.out⟩⟩
                     ·rw [if_neg c69] at H
                      exact absurd H (by simp)
                    ·replace c66 := Bool.eq_false_iff.mpr c66
                     subst c66
                     rw [if_neg (show ¬ (false = true) by decide)] at H
                     have H' := Aside0.mk H
                     clear H
                     try go_wp2
                     obtain ⟨w78, h_w78⟩ : ∃ w_, (w58.setCell ⟨gb167, 10, none⟩ (.slice Ao59 y182.length co59)) = w_ := ⟨_, rfl⟩
                     have n0_ : Aside0 (Kd.R k90 90 w78 w.heap.size (fun _ => True) u168009 x168009_2) := ⟨by subst h_w78; refine kR_ ?_; exact Kd.R_mono (Kd.R_f gb167 10 (.slice Ao59 y182.length co59) (Kd.R_types HO_168009.out BK167.out (by decide))) (fun _ hk => trivial)⟩
                     have n1_ : Aside0 (Kd.R (Kd.int .u8) 5 w78 w.heap.size (fun _ => True) (.slice Ao59 y182.length co59) y182) := ⟨by subst h_w78; refine kR_ ?_; exact Kd.R_mono (Kd.R_f gb167 10 (.slice Ao59 y182.length co59) (Kd.R_types HO184.out BK167.out (by decide))) (fun _ hk => trivial)⟩
                     have n2_ : Aside0 (w78.heap[gb156]? = some (.cells #[.int .i64 0, .int .i64 0, .int .i64 0, .int .i64 0, .int .i64 0, .bool false, .bool false, .bool false, .bool false, .slice none 0 0, .slice none 0 0] 52 (0, 0))) := ⟨by subst h_w78; exact kf_ BK156.out⟩
                     have n3_ : Aside0 (w78.heap[gb167]? = some (.cells #[.int .i64 (wrap64 (rd l0 0)), .int .i64 (wrap64 (rd l0 1)), .int .i64 t164, .int .i64 t165, .int .i64 (wrap64 (rd l0 6)), .bool ((Int.tmod (rd l0 7) 2) == 1), .bool (((Int.tdiv (rd l0 7) 2) % 2) == 1), .bool (((Int.tdiv (rd l0 7) 4) % 2) == 1), .bool (((Int.tdiv (rd l0 7) 8) % 256) == 1), u168009, .slice Ao59 y182.length co59] 52 (0, 0))) := ⟨by subst h_w78; refine kb_ ?_; refine blk_put (cs := #[.int .i64 (wrap64 (rd l0 0)), .int .i64 (wrap64 (rd l0 1)), .int .i64 t164, .int .i64 t165, .int .i64 (wrap64 (rd l0 6)), .bool ((Int.tmod (rd l0 7) 2) == 1), .bool (((Int.tdiv (rd l0 7) 2) % 2) == 1), .bool (((Int.tdiv (rd l0 7) 4) % 2) == 1), .bool (((Int.tdiv (rd l0 7) 8) % 256) == 1), u168009, .slice none 0 0]) ?_ 10 _ rfl; refine kb_ ?_; exact BK167.out⟩
                     have n4_ : Aside0 (Below w.heap.size w w78) := ⟨by subst h_w78; exact hbA_ HB.out⟩
                     (try clear HO_168009); (try clear HO184); (try clear BK156); (try clear BK167); (try clear HB)
                     (try rw [h_w78]); clear h_w78
                     have HO_168009 := n0_; have HO184 := n1_; have BK156 := n2_; have BK167 := n3_; have HB := n4_; clear n0_ n1_ n2_ n3_ n4_; replace HO_168009 := Aside0.mk (Kd.R_drew HO_168009.out); replace HO184 := Aside0.mk (Kd.R_drew HO184.out); replace BK156 := Aside0.mk (blk_drew BK156.out); replace BK167 := Aside0.mk (blk_drew BK167.out); replace HB := (bd_ HB)
                     have p185 : 0 ≤ (x9_2 : Int) := of_decide_eq_true (by first | (with_reducible assumption) | assumption)
                     have q185 : x9_2 < (l0.length : Int) := of_decide_eq_true (by first | (with_reducible assumption) | assumption)
                     obtain ⟨ad185, e185, hx185_0⟩ := Kd.at_int HR0.out x9_2 p185 q185
                     have hw185_0 := hx185_0
                     obtain rfl : ad162 = ad185 := (by injection e185)
                     replace hx185_0 := cc_ HB hx185_0
                     replace p185 := eq_true p185
                     replace q185 := eq_true q185
                     obtain ⟨Ao80, co80, eo80⟩ := Kd.R_slice HO_168009.out
                     (first | subst eo80 | (injection eo80 with f1_ f2_ f3_; have f4_ := f1_.symm; have f5_ := f3_.symm; clear f1_ f2_ f3_; subst f4_; subst f5_))
                     refine start_ (n := 26) (S := fun w' => w'.cell? ⟨gb167, 0, none⟩ = some (.int .i64 (wrap64 (rd l0 0))) ∧ w'.cell? ⟨gb167, 1, none⟩ = some (.int .i64 (wrap64 (rd l0 1))) ∧ w'.cell? ⟨gb167, 2, none⟩ = some (.int .i64 t164) ∧ w'.cell? ⟨gb167, 3, none⟩ = some (.int .i64 t165) ∧ w'.cell? ⟨gb167, 4, none⟩ = some (.int .i64 (wrap64 (rd l0 6))) ∧ w'.cell? ⟨gb167, 5, none⟩ = some (.bool ((Int.tmod (rd l0 7) 2) == 1)) ∧ w'.cell? ⟨gb167, 6, none⟩ = some (.bool (((Int.tdiv (rd l0 7) 2) % 2) == 1)) ∧ w'.cell? ⟨gb167, 7, none⟩ = some (.bool (((Int.tdiv (rd l0 7) 4) % 2) == 1)) ∧ w'.cell? ⟨gb167, 8, none⟩ = some (.bool (((Int.tdiv (rd l0 7) 8) % 256) == 1)) ∧ w'.cell? ⟨gb167, 9, none⟩ = some (.slice Ao80 x168009_2.length co80) ∧ w'.cell? ⟨gb167, 10, none⟩ = some (.slice Ao59 y182.length co59) ∧ w'.cell? (ad162.add (x9_2).toNat) = some (.int .u8 (rd l0 x9_2))) (ds := []) #[false, false, false, false, false, false, false, false, false, false, false, false, false, false, false, false, false, false, false, false, false, false, false, false, false, false] (by kernel_rfl) rfl rfl ⟨bc_ BK167 0, bc_ BK167 1, bc_ BK167 2, bc_ BK167 3, bc_ BK167 4, bc_ BK167 5, bc_ BK167 6, bc_ BK167 7, bc_ BK167 8, bc_ BK167 9, bc_ BK167 10, (cc_ HB hw185_0)⟩ (fun hHeld => ?_); refine with_tabW spec_SegmentFrom.tab16 spec_SegmentFrom.bits16 (fun HT_ HW_ => ?_)
                     generalize w78.drew = w79 at HO_168009 HO184 BK156 BK167 HB hx185_0 hHeld ⊢
                     refine pu_ (i := 0) (N := some 126) HT_ ?_; refine pu_ (i := 1) (N := some 127) HT_ ?_; refine pu_ (i := 2) (N := some 128) HT_ ?_; refine pu_ (i := 5) (N := some 131) HT_ ?_; refine tk_ (i := 3) (N := some 129) HT_ HW_ hHeld ?_; refine pu_ (i := 4) (N := some 130) HT_ ?_; refine tk_ (i := 6) (N := some 132) HT_ HW_ hHeld ?_; refine pu_ (i := 7) (N := some 133) HT_ ?_; refine pu_ (i := 8) (N := some 134) HT_ ?_; refine pu_ (i := 9) (N := some 135) HT_ ?_; refine tk_ (i := 10) (N := some 136) HT_ HW_ hHeld ?_
                     refine on_ (i := 11) (N := some 137) HT_ (fun K hK => ?_)
                     refine goes_ Try.func59 (by kernel_rfl) rfl #[.agg #[.int .i64 (wrap64 (rd l0 0)), .int .i64 (wrap64 (rd l0 1)), .int .i64 t164, .int .i64 t165, .int .i64 (wrap64 (rd l0 6)), .bool ((Int.tmod (rd l0 7) 2) == 1), .bool (((Int.tdiv (rd l0 7) 2) % 2) == 1), .bool (((Int.tdiv (rd l0 7) 4) % 2) == 1), .bool (((Int.tdiv (rd l0 7) 8) % 256) == 1), .slice Ao80 x168009_2.length co80, .slice Ao59 y182.length co59]] (by rfl) rfl rfl ar_ ?_
                     with_reducible refine (spec_SegmentOk.calls k2 (wrap64 (rd l0 0)) (wrap64 (rd l0 1)) t164 t165 (wrap64 (rd l0 6)) ((Int.tmod (rd l0 7) 2) == 1) (((Int.tdiv (rd l0 7) 2) % 2) == 1) (((Int.tdiv (rd l0 7) 4) % 2) == 1) (((Int.tdiv (rd l0 7) 8) % 256) == 1) _ _ x168009_2 _ _ y182 false _ ?side1 ?side2 ?side3 ?side4 A65.out).mono ?_
                     (case side1 => exact kC_ (Kd.R_reads' HO_168009.out).2.2)
                     (case side2 => exact (Kd.R_reads' HO_168009.out).2.1)
                     (case side3 => exact kC_ (Kd.R_reads' HO184.out).2.2)
                     (case side4 => exact (Kd.R_reads' HO184.out).2.1)
                     rintro e w81 ⟨rfl, hb⟩
                     refine ⟨_, rfl, ?_⟩
                     replace HO_168009 := Aside0.mk (Kd.R_below (kR_ HO_168009.out) hb); replace HO184 := Aside0.mk (Kd.R_below (kR_ HO184.out) hb); replace BK156 := (bbA_ BK156 hb); replace BK167 := (bbA_ BK167 hb); replace HB := (bs_ HB hb); (try clear hb); (try clear hb2); (try clear hk); (try clear hi)
                     refine hK.out _ _ ⟨bc_ BK167 0, bc_ BK167 1, bc_ BK167 2, bc_ BK167 3, bc_ BK167 4, bc_ BK167 5, bc_ BK167 6, bc_ BK167 7, bc_ BK167 8, bc_ BK167 9, bc_ BK167 10, (by first | exact cc_ HB hw185_0 | exact cc_ ⟨hbA_ HB.out⟩ hw185_0)⟩ (fun hHeld => ?_)
                     clear hK K; refine nm_ 137 ?_; refine pu_ (i := 12) (N := some 138) HT_ ?_; refine pu_ (i := 13) (N := some 139) HT_ ?_; refine pu_ (i := 14) (N := some 140) HT_ ?_; refine pn_ (i := 15) (N := some 141) HT_ ?_; refine pn_ (i := 16) (N := some 142) HT_ ?_; refine pn_ (i := 17) (N := some 143) HT_ ?_; refine pn_ (i := 18) (N := some 144) HT_ ?_; refine pn_ (i := 19) (N := some 145) HT_ ?_; refine pn_ (i := 20) (N := some 146) HT_ ?_; refine pn_ (i := 21) (N := some 147) HT_ ?_; refine pn_ (i := 22) (N := some 148) HT_ ?_; refine pn_ (i := 23) (N := some 149) HT_ ?_; refine pn_ (i := 24) (N := some 150) HT_ ?_; refine pu_ (i := 25) (N := some 151) HT_ ?_
                     refine done_ (done_of HT_.out (by kernel_rfl)) ?_
                     try go_wp2
                     go_meet
                     case rel => exact ⟨_, (true), (by first | rfl | (simp; done) | (simp [*]; done)), H', ⟨by have := HJ3.out; have := HK2.out; first | omega | exact Nat.le_refl _⟩, ⟨kR_ HO_168009.out⟩, ⟨kR_ HO184.out⟩, ⟨by refine kb_ ?_; exact BK156.out⟩, ⟨by refine kb_ ?_; exact BK167.out⟩, ⟨hbA_ HB.out⟩⟩
                   ·rw [if_neg c64] at H
                    have c64b0 : ((wrap64 (rd l0 x9_2)) == (y182.length : Int)) = false := beq_eq_false_iff_ne.mpr c64
                    have c64b1 : ((wrap64 (rd l0 x9_2)) != (y182.length : Int)) = true := bne_iff_ne.mpr c64
                    have H' := Aside0.mk H
                    clear H
                    try go_wp2
                    obtain ⟨w82, h_w82⟩ : ∃ w_, (w58.setCell ⟨gb167, 10, none⟩ (.slice Ao59 y182.length co59)) = w_ := ⟨_, rfl⟩
                    have n0_ : Aside0 (Kd.R k90 90 w82 w.heap.size (fun _ => True) u168009 x168009_2) := ⟨by subst h_w82; refine kR_ ?_; exact Kd.R_mono (Kd.R_f gb167 10 (.slice Ao59 y182.length co59) (Kd.R_types HO_168009.out BK167.out (by decide))) (fun _ hk => trivial)⟩
                    have n1_ : Aside0 (Kd.R (Kd.int .u8) 5 w82 w.heap.size (fun _ => True) (.slice Ao59 y182.length co59) y182) := ⟨by subst h_w82; refine kR_ ?_; exact Kd.R_mono (Kd.R_f gb167 10 (.slice Ao59 y182.length co59) (Kd.R_types HO184.out BK167.out (by decide))) (fun _ hk => trivial)⟩
                    have n2_ : Aside0 (w82.heap[gb156]? = some (.cells #[.int .i64 0, .int .i64 0, .int .i64 0, .int .i64 0, .int .i64 0, .bool false, .bool false, .bool false, .bool false, .slice none 0 0, .slice none 0 0] 52 (0, 0))) := ⟨by subst h_w82; exact kf_ BK156.out⟩
                    have n3_ : Aside0 (w82.heap[gb167]? = some (.cells #[.int .i64 (wrap64 (rd l0 0)), .int .i64 (wrap64 (rd l0 1)), .int .i64 t164, .int .i64 t165, .int .i64 (wrap64 (rd l0 6)), .bool ((Int.tmod (rd l0 7) 2) == 1), .bool (((Int.tdiv (rd l0 7) 2) % 2) == 1), .bool (((Int.tdiv (rd l0 7) 4) % 2) == 1), .bool (((Int.tdiv (rd l0 7) 8) % 256) == 1), u168009, .slice Ao59 y182.length co59] 52 (0, 0))) := ⟨by subst h_w82; refine kb_ ?_; refine blk_put (cs := #[.int .i64 (wrap64 (rd l0 0)), .int .i64 (wrap64 (rd l0 1)), .int .i64 t164, .int .i64 t165, .int .i64 (wrap64 (rd l0 6)), .bool ((Int.tmod (rd l0 7) 2) == 1), .bool (((Int.tdiv (rd l0 7) 2) % 2) == 1), .bool (((Int.tdiv (rd l0 7) 4) % 2) == 1), .bool (((Int.tdiv (rd l0 7) 8) % 256) == 1), u168009, .slice none 0 0]) ?_ 10 _ rfl; refine kb_ ?_; exact BK167.out⟩
                    have n4_ : Aside0 (Below w.heap.size w w82) := ⟨by subst h_w82; exact hbA_ HB.out⟩
                    (try clear HO_168009); (try clear HO184); (try clear BK156); (try clear BK167); (try clear HB)
                    (try rw [h_w82]); clear h_w82
                    have HO_168009 := n0_; have HO184 := n1_; have BK156 := n2_; have BK167 := n3_; have HB := n4_; clear n0_ n1_ n2_ n3_ n4_; replace HO_168009 := Aside0.mk (Kd.R_drew HO_168009.out); replace HO184 := Aside0.mk (Kd.R_drew HO184.out); replace BK156 := Aside0.mk (blk_drew BK156.out); replace BK167 := Aside0.mk (blk_drew BK167.out); replace HB := (bd_ HB)
                    have p185 : 0 ≤ (x9_2 : Int) := of_decide_eq_true (by first | (with_reducible assumption) | assumption)
                    have q185 : x9_2 < (l0.length : Int) := of_decide_eq_true (by first | (with_reducible assumption) | assumption)
                    obtain ⟨ad185, e185, hx185_0⟩ := Kd.at_int HR0.out x9_2 p185 q185
                    have hw185_0 := hx185_0
                    obtain rfl : ad162 = ad185 := (by injection e185)
                    replace hx185_0 := cc_ HB hx185_0
                    replace p185 := eq_true p185
                    replace q185 := eq_true q185
                    refine start_ (n := 26) (S := fun w' => w'.cell? ⟨gb167, 0, none⟩ = some (.int .i64 (wrap64 (rd l0 0))) ∧ w'.cell? ⟨gb167, 1, none⟩ = some (.int .i64 (wrap64 (rd l0 1))) ∧ w'.cell? ⟨gb167, 2, none⟩ = some (.int .i64 t164) ∧ w'.cell? ⟨gb167, 3, none⟩ = some (.int .i64 t165) ∧ w'.cell? ⟨gb167, 4, none⟩ = some (.int .i64 (wrap64 (rd l0 6))) ∧ w'.cell? ⟨gb167, 5, none⟩ = some (.bool ((Int.tmod (rd l0 7) 2) == 1)) ∧ w'.cell? ⟨gb167, 6, none⟩ = some (.bool (((Int.tdiv (rd l0 7) 2) % 2) == 1)) ∧ w'.cell? ⟨gb167, 7, none⟩ = some (.bool (((Int.tdiv (rd l0 7) 4) % 2) == 1)) ∧ w'.cell? ⟨gb167, 8, none⟩ = some (.bool (((Int.tdiv (rd l0 7) 8) % 256) == 1)) ∧ w'.cell? ⟨gb167, 9, none⟩ = some (u168009) ∧ w'.cell? ⟨gb167, 10, none⟩ = some (.slice Ao59 y182.length co59) ∧ w'.cell? (ad162.add (x9_2).toNat) = some (.int .u8 (rd l0 x9_2))) (ds := []) #[false, false, false, false, false, false, false, false, false, false, false, false, false, false, false, false, false, false, false, false, false, false, false, false, false, false] (by kernel_rfl) rfl rfl ⟨bc_ BK167 0, bc_ BK167 1, bc_ BK167 2, bc_ BK167 3, bc_ BK167 4, bc_ BK167 5, bc_ BK167 6, bc_ BK167 7, bc_ BK167 8, bc_ BK167 9, bc_ BK167 10, (cc_ HB hw185_0)⟩ (fun hHeld => ?_); refine with_tabW spec_SegmentFrom.tab16 spec_SegmentFrom.bits16 (fun HT_ HW_ => ?_)
                    generalize w82.drew = w83 at HO_168009 HO184 BK156 BK167 HB hx185_0 hHeld ⊢
                    refine pu_ (i := 0) (N := some 126) HT_ ?_; refine pu_ (i := 1) (N := some 127) HT_ ?_; refine pu_ (i := 2) (N := some 128) HT_ ?_; refine pu_ (i := 5) (N := some 131) HT_ ?_; refine tk_ (i := 3) (N := some 129) HT_ HW_ hHeld ?_; refine pu_ (i := 4) (N := some 130) HT_ ?_; refine tk_ (i := 6) (N := some 132) HT_ HW_ hHeld ?_; refine pu_ (i := 7) (N := some 133) HT_ ?_; refine pu_ (i := 8) (N := some 134) HT_ ?_; refine pu_ (i := 9) (N := some 135) HT_ ?_; refine pn_ (i := 10) (N := some 136) HT_ ?_; refine pn_ (i := 11) (N := some 137) HT_ ?_; refine pn_ (i := 12) (N := some 138) HT_ ?_; refine pu_ (i := 13) (N := some 139) HT_ ?_; refine pu_ (i := 14) (N := some 140) HT_ ?_; refine pn_ (i := 15) (N := some 141) HT_ ?_; refine pn_ (i := 16) (N := some 142) HT_ ?_; refine pn_ (i := 17) (N := some 143) HT_ ?_; refine pn_ (i := 18) (N := some 144) HT_ ?_; refine pn_ (i := 19) (N := some 145) HT_ ?_; refine pn_ (i := 20) (N := some 146) HT_ ?_; refine pn_ (i := 21) (N := some 147) HT_ ?_; refine pn_ (i := 22) (N := some 148) HT_ ?_; refine pn_ (i := 23) (N := some 149) HT_ ?_; refine pn_ (i := 24) (N := some 150) HT_ ?_; refine pu_ (i := 25) (N := some 151) HT_ ?_
                    refine done_ (done_of HT_.out (by kernel_rfl)) ?_
                    try go_wp2
                    go_meet
                    case rel => exact ⟨_, (true), (by first | rfl | (simp; done) | (simp [*]; done)), H', ⟨by have := HJ3.out; have := HK2.out; first | omega | exact Nat.le_refl _⟩, ⟨kR_ HO_168009.out⟩, ⟨kR_ HO184.out⟩, ⟨by refine kb_ ?_; exact BK156.out⟩, ⟨by refine kb_ ?_; exact BK167.out⟩, ⟨hbA_ HB.out⟩⟩
                  ·rw [if_neg c63] at H
                   exact absurd H (by simp)
                 ·rw [if_neg c62] at H
                  exact absurd H (by simp)
                case rest =>
                 clear HC54; (try clear p1); (try clear q1); (try clear hx1); (try clear p2); (try clear c5); (try clear c6); (try clear p6); (try clear p18); (try clear q18); (try clear hx18); (try clear c58); (try clear c59); (try clear c60); (try clear c62); (try clear c63); (try clear c64); (try clear c64b0); (try clear c64b1); (try clear p64); (try clear c66); (try clear c69); (try clear hx185_0); (try clear p185); (try clear q185)
                 obtain ⟨kq, x151_53, rfl, HA, HJ53, HO_168009, HO_168010, BK156, BK167, HB⟩ := hcut
                 cases kq with
                 | zero => exact absurd HA.out (by simp [spec_SegmentFrom.j2])
                 | succ kj53 =>
                  have H := HA.out; clear HA
                  simp only [spec_SegmentFrom.j2] at H
                  by_cases c84 : x151_53 = true
                  ·subst c84
                   rw [if_pos rfl] at H
                   simp only [Option.some.injEq, Prod.mk.injEq] at H
                   obtain ⟨rfl, rfl, rfl, rfl, rfl, rfl, rfl, rfl, rfl, rfl, rfl, rfl⟩ := H
                   have hnb85 := NB156_167.out; have hnc85 := NB167_156.out; have Z86 := zz11 BK156
                   go_wp2
                   refine bodyPost_ret (results_ct rfl _ _ gb156 52 #[.int .i64 0, .int .i64 0, .int .i64 0, .int .i64 0, .int .i64 0, .bool false, .bool false, .bool false, .bool false, .slice none 0 0, .slice none 0 0] (0, 0) _ rfl (by refine kb_ ?_; refine pz11 (cs := #[.int .i64 0, .int .i64 0, .int .i64 0, .int .i64 0, .int .i64 0, .bool false, .bool false, .bool false, .bool false, .slice none 0 0, .slice none 0 0]) ?_; refine kb_ ?_; exact BK156.out) Try.underlying52 rfl (by kernel_rfl)) rfl ?_
                   exact ⟨_, _, by first | rfl | (simp [errW_none, errW_some] <;> rfl) | (simp only [← hji49]; first | rfl | (simp [errW_none, errW_some] <;> rfl)) | (simp [*, errW_none, errW_some] <;> rfl), by first | exact Kd.R_nil _ _ _ _ _ | exact Kd.N_nil _ _ _ _ _ | exact Kd.V_nil _ _ _ _ _ | exact Kd.Q_nil _ _ _ _ _ | exact Kd.S_nil _ _ _ _ _, by first | exact Kd.R_nil _ _ _ _ _ | exact Kd.N_nil _ _ _ _ _ | exact Kd.V_nil _ _ _ _ _ | exact Kd.Q_nil _ _ _ _ _ | exact Kd.S_nil _ _ _ _ _, hbA_ HB.out⟩
                  ·replace c84 := Bool.eq_false_iff.mpr c84
                   subst c84
                   rw [if_neg (show ¬ (false = true) by decide)] at H
                   simp only [Option.some.injEq, Prod.mk.injEq] at H
                   obtain ⟨rfl, rfl, rfl, rfl, rfl, rfl, rfl, rfl, rfl, rfl, rfl, rfl⟩ := H
                   have hnb87 := NB167_156.out; have hnc87 := NB156_167.out; have Z88 := zz11 BK167; have Z89 := zz11 BK156
                   obtain ⟨Ao90, co90, eo90⟩ := Kd.R_slice HO_168009.out
                   subst eo90
                   go_wp2
                   refine bodyPost_ret (results_ct rfl _ _ gb156 52 #[.int .i64 (wrap64 (rd l0 0)), .int .i64 (wrap64 (rd l0 1)), .int .i64 t164, .int .i64 t165, .int .i64 (wrap64 (rd l0 6)), .bool ((Int.tmod (rd l0 7) 2) == 1), .bool (((Int.tdiv (rd l0 7) 2) % 2) == 1), .bool (((Int.tdiv (rd l0 7) 4) % 2) == 1), .bool (((Int.tdiv (rd l0 7) 8) % 256) == 1), .slice Ao90 x168009_2.length co90, .slice Ao59 y182.length co59] (0, 0) _ rfl (by refine kb_ ?_; refine pz11 (cs := #[.int .i64 0, .int .i64 0, .int .i64 0, .int .i64 0, .int .i64 0, .bool false, .bool false, .bool false, .bool false, .slice none 0 0, .slice none 0 0]) ?_; refine kb_ ?_; exact BK156.out) Try.underlying52 rfl (by kernel_rfl)) rfl ?_
                   exact ⟨_, _, by first | rfl | (simp [errW_none, errW_some] <;> rfl) | (simp only [← hji49]; first | rfl | (simp [errW_none, errW_some] <;> rfl)) | (simp [*, errW_none, errW_some] <;> rfl), by refine kR_ ?_; exact rfm_ ((Kd.R_types HO_168009.out BK156.out (by decide))) (fun _ hk => trivial), by refine kR_ ?_; exact rfm_ ((Kd.R_types HO_168010.out BK156.out (by decide))) (fun _ hk => trivial), hbA_ HB.out⟩
               ·rw [if_neg c53] at H
                exact absurd H (by simp)
              ·rw [if_neg c52] at H
               exact absurd H (by simp)
             ·rw [if_neg c51] at H
              exact absurd H (by simp)
            ·rw [if_neg c50] at H
             exact absurd H (by simp)
          ·rw [if_neg c40] at H
           exact absurd H (by simp)
       ·rw [if_neg c22] at H
        exact absurd H (by simp)
      ·rw [if_neg c21] at H
       exact absurd H (by simp)
     ·rw [if_neg c18] at H
      exact absurd H (by simp)
    ·rw [if_neg c17] at H
     exact absurd H (by simp)
def impl_word.f (a0 : Int) : Option (Bool) := (impl_in.f a0 0 65535).bind fun t190 => (some t190)
set_option maxHeartbeats 8000000 in
set_option maxRecDepth 100000 in
theorem impl_word.calls (a0 : Int) (r : Bool) (w : World) (h : impl_word.f a0 = some r) :
  Calls Try.prog 48 #[.int .i64 a0] w fun e w' => e = .returned (.bool r) ∧ Drawn0 w w' := by
 have H : ((impl_in.f a0 0 65535).bind fun t190 => (some t190)) = some r := h
 clear h
 replace H := Option.bind_eq_some_iff.mp H
 obtain ⟨t190, A20, H⟩ := H
 (try dsimp only at H)
 have A2 := Aside0.mk A20; clear A20
 obtain rfl := Option.some.inj H
 go_enter Try.func48, Try.ntmps48
 go_wp2_with (first | ((with_reducible refine gate_callee (f := 49) rfl ?_); refine goesL_ (some 4) rfl rfl Try.func49 (by kernel_rfl) rfl #[.int .i64 a0, .int .i64 0, .int .i64 65535] rfl ar_ ?_; (with_reducible refine (impl_in.calls a0 0 65535 t190 _ A2.out).mono ?_); rintro e w' ⟨rfl, ⟨nd, rfl⟩⟩; refine ⟨_, rfl, ?_⟩))
 go_ret
 exact ⟨by first | rfl | (simp; done) | (simp [*]; done), by repeat (first | exact Drawn0.refl _ | apply Drawn0.step)⟩
def impl_portOk.f (a0 : Int) : Option (Bool) := (impl_in.f a0 1 255).bind fun t191 => (some t191)
set_option maxHeartbeats 8000000 in
set_option maxRecDepth 100000 in
theorem impl_portOk.calls (a0 : Int) (r : Bool) (w : World) (h : impl_portOk.f a0 = some r) :
  Calls Try.prog 96 #[.int .i64 a0] w fun e w' => e = .returned (.bool r) ∧ Drawn0 w w' := by
 have H : ((impl_in.f a0 1 255).bind fun t191 => (some t191)) = some r := h
 clear h
 replace H := Option.bind_eq_some_iff.mp H
 obtain ⟨t191, A20, H⟩ := H
 (try dsimp only at H)
 have A2 := Aside0.mk A20; clear A20
 obtain rfl := Option.some.inj H
 go_enter Try.func96, Try.ntmps96
 go_wp2_with (first | ((with_reducible refine gate_callee (f := 49) rfl ?_); refine goesL_ (some 4) rfl rfl Try.func49 (by kernel_rfl) rfl #[.int .i64 a0, .int .i64 1, .int .i64 255] rfl ar_ ?_; (with_reducible refine (impl_in.calls a0 1 255 t191 _ A2.out).mono ?_); rintro e w' ⟨rfl, ⟨nd, rfl⟩⟩; refine ⟨_, rfl, ?_⟩))
 go_ret
 exact ⟨by first | rfl | (simp; done) | (simp [*]; done), by repeat (first | exact Drawn0.refl _ | apply Drawn0.step)⟩
def impl_SegmentOk_1.f (a0_0 : Int) (a0_1 : Int) : Option (Bool) := (impl_word.f a0_0).bind fun t193 => (if t193 = true then ((impl_word.f a0_1).bind fun t194 => (some (!t194))) else (some true))
set_option maxHeartbeats 8000000 in
set_option maxRecDepth 100000 in
theorem impl_SegmentOk_1.calls (a0_0 : Int) (a0_1 : Int) (r : Bool) (w : World) (h : impl_SegmentOk_1.f a0_0 a0_1 = some r) :
  Calls Try.prog 98 #[.agg #[.int .i64 a0_0, .int .i64 a0_1]] w fun e w' => e = .returned (.bool r) ∧ Below w.heap.size w w' := by
 have hu90 := Try.underlying90
 have HB := Aside0.mk (Below.refl w.heap.size w)
 have H : ((impl_word.f a0_0).bind fun t193 => (if t193 = true then ((impl_word.f a0_1).bind fun t194 => (some (!t194))) else (some true))) = some r := h
 clear h
 replace H := Option.bind_eq_some_iff.mp H
 obtain ⟨t193, A20, H⟩ := H
 (try dsimp only at H)
 have A2 := Aside0.mk A20; clear A20
 by_cases c3 : t193 = true
 ·subst c3
  rw [if_pos rfl] at H
  replace H := Option.bind_eq_some_iff.mp H
  obtain ⟨t194, A40, H⟩ := H
  (try dsimp only at H)
  have A4 := Aside0.mk A40; clear A40
  obtain rfl := Option.some.inj H
  go_enter Try.func98, Try.ntmps98
  go_wp2_with (first | ((with_reducible refine gate_dst (N := 1) rfl ?_); refine box_ (N := 1) (cs := #[.int .i64 a0_0, .int .i64 a0_1]) (t := 90) (fun gb192 hg w5 hbox hb => ?_); have BK192 := Aside0.mk (hbox); have GW192 := ge_ hg HB; have GE192 := ge_ hg HB; replace HB := (bs_ HB hb); clear hb hbox hg; have Z6 := zz2 BK192) | ((with_reducible refine gate_callee (f := 48) rfl ?_); refine goesL_ (some 5) rfl rfl Try.func48 (by kernel_rfl) rfl #[.int .i64 a0_0] rfl ar_ ?_; (with_reducible refine (impl_word.calls a0_0 true _ A2.out).mono ?_); rintro e w' ⟨rfl, ⟨nd, rfl⟩⟩; refine ⟨_, rfl, ?_⟩) | (go_at_call 48; (with_reducible refine (impl_word.calls a0_1 t194 _ A4.out).mono ?_); rintro e w' ⟨rfl, ⟨nd, rfl⟩⟩))
  go_ret
  exact ⟨by first | rfl | (simp [errW_none, errW_some] <;> rfl) | (simp [*, errW_none, errW_some] <;> rfl), hbA_ HB.out⟩
 ·replace c3 := Bool.eq_false_iff.mpr c3
  subst c3
  rw [if_neg (show ¬ (false = true) by decide)] at H
  obtain rfl := Option.some.inj H
  go_enter Try.func98, Try.ntmps98
  go_wp2_with (first | ((with_reducible refine gate_dst (N := 1) rfl ?_); refine box_ (N := 1) (cs := #[.int .i64 a0_0, .int .i64 a0_1]) (t := 90) (fun gb192 hg w7 hbox hb => ?_); have BK192 := Aside0.mk (hbox); have GW192 := ge_ hg HB; have GE192 := ge_ hg HB; replace HB := (bs_ HB hb); clear hb hbox hg; have Z8 := zz2 BK192) | ((with_reducible refine gate_callee (f := 48) rfl ?_); refine goesL_ (some 5) rfl rfl Try.func48 (by kernel_rfl) rfl #[.int .i64 a0_0] rfl ar_ ?_; (with_reducible refine (impl_word.calls a0_0 false _ A2.out).mono ?_); rintro e w' ⟨rfl, ⟨nd, rfl⟩⟩; refine ⟨_, rfl, ?_⟩))
  go_ret
  exact ⟨by first | rfl | (simp [errW_none, errW_some] <;> rfl) | (simp [*, errW_none, errW_some] <;> rfl), hbA_ HB.out⟩
end Go.Proofs.Ytpbeljcgcdilnaa.PFnSegmentFrom
