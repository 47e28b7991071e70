/- Printed by wip/xp/xprint.sh out of the translation, for this claim: what each function answers, as a plain function, and that the machine does just that. No condition. -/
import Derived.Test.YtegchbdjbefdbaaPFnClientHearx0
import Derived.Test.YtegchbdjbefdbaaPFnClientHearx3
namespace Go.Proofs.Ytegchbdjbefdbaa.PFnClientHear
open Go.RowKit Go.Proofs.YtegchbdjbefdbaaW.PrintWords Go.Proofs.YtegchbdjbefdbaaW.PrintLast Go.Proofs.YtegchbdjbefdbaaW.PrintMore
attribute [local go_sem] max2_int min2_int max_two min_two max_three min_three max_four min_four   -- for this text's walks alone
set_option linter.unusedVariables false
set_option linter.unusedSimpArgs false
def spec_l20Client.l0 : Nat → Int → Int → List Int → List (S41) → List Int → Int → List Int → List (S41) → List Int → Option (Int × List Int × (List (S41)) × List Int)
 | 0, _, _, _, _, _, _, _, _, _ => none
 | k + 1, x4, x177000, x177001, x177002, x177003, x191000, x191001, x191002, x191003 => if x4 < (x177002.length : Int) then (if 0 ≤ x4 then ((some (([] : List Int) : List Int)).bind fun y192 => (if y192.length + ((rd_T41 x177002 x4).f1).length < 140737488355328 then (if x191002.length < 4398046511104 then (spec_l20Client.l0 k (wrap64 (x4 + 1)) x177000 x177001 x177002 x177003 x191000 x191001 (x191002 ++ [(⟨(rd_T41 x177002 x4).f0, (y192 ++ ((rd_T41 x177002 x4).f1))⟩ : S41)]) x191003) else (none)) else (none))) else (none)) else (some (x191000, x191001, x191002, x191003))
def spec_l20Client.f (k : Nat) (a0_0 : Int) (l0_1 : List Int) (l0_2 : List (S41)) (l0_3 : List Int) : Option (Int × List Int × (List (S41)) × List Int) := (some (([] : List Int) : List Int)).bind fun y178 => (if y178.length + l0_1.length < 17592186044416 then ((some (([] : List Int) : List Int)).bind fun y184 => (if y184.length + l0_3.length < 17592186044416 then (spec_l20Client.l0 k 0 a0_0 l0_1 l0_2 l0_3 a0_0 (y178 ++ l0_1) ([] : List (S41)) (y184 ++ l0_3)) else (none))) else (none))
theorem spec_l20Client.mono_l : ∀ k, (∀ y0 y1 y2 y3 y4 y5 y6 y7 y8, LeO (spec_l20Client.l0 k y0 y1 y2 y3 y4 y5 y6 y7 y8) (spec_l20Client.l0 (k + 1) y0 y1 y2 y3 y4 y5 y6 y7 y8))
 | 0 => fun _ _ _ _ _ _ _ _ _ r h => by simp [spec_l20Client.l0] at h
 | k + 1 => by
  have ih0 := spec_l20Client.mono_l k
  ·intro y0 y1 y2 y3 y4 y5 y6 y7 y8
   unfold spec_l20Client.l0
   repeat' first | (with_reducible first | apply ih0 | exact LeO.refl _ | exact LeO.none _ | refine LeO.ite ?_ ?_ | refine LeO.bind ?_ fun _ => ?_) | apply ih0 | exact LeO.none _ | refine LeO.ite ?_ ?_ | refine LeO.bind ?_ fun _ => ?_
theorem spec_l20Client.mono : ∀ a0 a1 a2 a3 k, LeO (spec_l20Client.f k a0 a1 a2 a3) (spec_l20Client.f (k + 1) a0 a1 a2 a3) := by
 intro a0 a1 a2 a3 k
 have ih0 := spec_l20Client.mono_l k
 unfold spec_l20Client.f
 repeat' first | (with_reducible first | apply ih0 | exact LeO.refl _ | exact LeO.none _ | refine LeO.ite ?_ ?_ | refine LeO.bind ?_ fun _ => ?_) | apply ih0 | exact LeO.none _ | refine LeO.ite ?_ ?_ | refine LeO.bind ?_ fun _ => ?_
def spec_l20Client.T1 : Bool × List (List Nat × List Nat) := (true, [([], []), ([0], [0]), ([], []), ([], []), ([3], [3]), ([2, 4], [2, 4]), ([], []), ([], []), ([7], [7]), ([6, 8, 5], [6, 8]), ([1, 5, 9], [1, 5, 9]), ([], []), ([11, 10, 9, 0, 1, 2, 3, 4, 5, 6, 7, 8, 9, 10, 11], [10, 11])])
def spec_l20Client.B1 : List Nat := [0, 1, 0, 0, 8, 28, 0, 0, 128, 508, 1023, 0, 4095]
theorem spec_l20Client.tab1 : rtab .any (opsOf Try.f56 1) = spec_l20Client.T1 := by kernel_rfl
theorem spec_l20Client.bits1 : waitsOk spec_l20Client.T1.2 spec_l20Client.B1 = true := by kernel_rfl
def spec_l20Client.T5 : Bool × List (List Nat × List Nat) := (true, [([], []), ([0], [0]), ([], []), ([2], [2]), ([], []), ([3, 4], [3, 4]), ([5], [5]), ([6], [6]), ([], []), ([], []), ([9], [9]), ([], []), ([10, 11], [10, 11]), ([12], [12]), ([13], [13]), ([8, 14], [8, 14]), ([7, 15], [7, 15]), ([16], [16]), ([1, 17, 15], [1, 17]), ([0, 1, 2, 3, 4, 5, 6, 7, 8, 9, 10, 11, 12, 13, 14, 15, 16, 17, 18], []), ([19, 18, 18, 0, 1, 2, 3, 4, 5, 6, 7, 8, 9, 10, 11, 12, 13, 14, 15, 16, 17, 18], [18, 19])])
def spec_l20Client.B5 : List Nat := [0, 1, 0, 4, 0, 28, 60, 124, 0, 0, 512, 0, 3584, 7680, 15872, 32512, 65532, 131068, 262143, 524287, 1048575]
theorem spec_l20Client.tab5 : rtab .any (opsOf Try.f56 5) = spec_l20Client.T5 := by kernel_rfl
theorem spec_l20Client.bits5 : waitsOk spec_l20Client.T5.2 spec_l20Client.B5 = true := by kernel_rfl
set_option maxHeartbeats 8000000 in
set_option maxRecDepth 100000 in
theorem spec_l20Client.calls (k : Nat) (a0_0 : Int) (A0_1 : Option Addr) (c0_1 : Nat) (l0_1 : List Int) (A0_2 : Option Addr) (c0_2 : Nat) (l0_2 : List (S41)) (A0_3 : Option Addr) (c0_3 : Nat) (l0_3 : List Int) (r1 : Int) (r2 : List Int) (r3 : List (S41)) (r4 : List Int) (w : World) (hr0_1 : Kd.C (Kd.int .i64) w A0_1 l0_1.length l0_1) (hc0_1 : l0_1.length ≤ c0_1) (hr0_2 : Kd.C k41 w A0_2 l0_2.length l0_2) (hc0_2 : l0_2.length ≤ c0_2) (hr0_3 : Kd.C (Kd.int .i64) w A0_3 l0_3.length l0_3) (hc0_3 : l0_3.length ≤ c0_3) (h : spec_l20Client.f k a0_0 l0_1 l0_2 l0_3 = some (r1, r2, r3, r4)) :
  Calls Try.prog 56 #[.agg #[.int .i64 a0_0, .slice A0_1 l0_1.length c0_1, .slice A0_2 l0_2.length c0_2, .slice A0_3 l0_3.length c0_3]] w fun e w' => ∃ v1_ v2_ v3_ : Value, e = .returned (.agg #[.int .i64 r1, v1_, v2_, v3_]) ∧ Kd.R (Kd.int .i64) 3 w' w.heap.size (fun k_ => some k_ ≠ (v3_ : Value).ownBlock) v1_ r2 ∧ Kd.S k41 41 w' w.heap.size (fun _ => True) v2_ r3 ∧ Kd.R (Kd.int .i64) 3 w' w.heap.size (fun k_ => some k_ ≠ (v1_ : Value).ownBlock) v3_ r4 ∧ Below w.heap.size w w' := by
 have hu30 := Try.underlying30; have hu41 := Try.underlying41; have HR0_1 := Aside0.mk hr0_1; have HC0_1 := Aside0.mk hc0_1; clear hr0_1 hc0_1; have HR0_2 := Aside0.mk hr0_2; have HC0_2 := Aside0.mk hc0_2; clear hr0_2 hc0_2; have HR0_3 := Aside0.mk hr0_3; have HC0_3 := Aside0.mk hc0_3; clear hr0_3 hc0_3
 have HB := Aside0.mk (Below.refl w.heap.size w)
 have H : ((some (([] : List Int) : List Int)).bind fun y178 => (if y178.length + l0_1.length < 17592186044416 then ((some (([] : List Int) : List Int)).bind fun y184 => (if y184.length + l0_3.length < 17592186044416 then (spec_l20Client.l0 k 0 a0_0 l0_1 l0_2 l0_3 a0_0 (y178 ++ l0_1) ([] : List (S41)) (y184 ++ l0_3)) else (none))) else (none))) = some (r1, r2, r3, r4) := h
 clear h
 obtain ⟨y178, hy178⟩ : ∃ y_ : List Int, y_ = (([] : List Int)) := ⟨_, rfl⟩
 (first | replace H := sb_ hy178 H | rw [← hy178] at H)
 have Ny178 := Aside0.mk hy178; clear hy178
 by_cases c2 : y178.length + l0_1.length < 17592186044416
 ·rw [if_pos c2] at H
  have LMc2 := Aside0.mk c2; clear c2
  obtain ⟨y181, hy181⟩ : ∃ y_ : List Int, y_ = (y178 ++ l0_1) := ⟨_, rfl⟩
  (first | replace H := sb_ hy181 H | rw [← hy181] at H)
  have Ny181 := Aside0.mk hy181; clear hy181
  obtain ⟨y184, hy184⟩ : ∃ y_ : List Int, y_ = (([] : List Int)) := ⟨_, rfl⟩
  (first | replace H := sb_ hy184 H | rw [← hy184] at H)
  have Ny184 := Aside0.mk hy184; clear hy184
  by_cases c3 : y184.length + l0_3.length < 17592186044416
  ·rw [if_pos c3] at H
   have LMc3 := Aside0.mk c3; clear c3
   obtain ⟨y187, hy187⟩ : ∃ y_ : List Int, y_ = (y184 ++ l0_3) := ⟨_, rfl⟩
   (first | replace H := sb_ hy187 H | rw [← hy187] at H)
   have Ny187 := Aside0.mk hy187; clear hy187
   have H' := Aside0.mk H
   clear H
   go_enter Try.func56, Try.ntmps56
   try go_wp2_with (first | ((with_reducible refine gate_dst (N := 1) rfl ?_); refine box_ (N := 1) (cs := #[.int .i64 a0_0, .slice A0_1 l0_1.length c0_1, .slice A0_2 l0_2.length c0_2, .slice A0_3 l0_3.length c0_3]) (t := 30) (fun gb176 hg w4 hbox hb => ?_); have BK176 := Aside0.mk (hbox); have GW176 := ge_ hg HB; have GE176 := ge_ hg HB; replace HB := (bs_ HB hb); clear hb hbox hg) | ((with_reducible refine gate_dst (N := 2) rfl ?_); refine box_ (N := 2) (cs := #[.int .i64 0, .slice none 0 0, .slice none 0 0, .slice none 0 0]) (t := 30) (fun gb177 hg w5 hbox hb => ?_); have BK177 := Aside0.mk (hbox); have GW177 := ge_ hg HB; have GE177 := ge_ hg HB; replace HB := (bs_ HB hb); have NB176_177 := nl_ hg BK176; have NB177_176 := ng_ hg BK176; replace BK176 := (bbA_ BK176 hb); clear hb hbox hg))
   replace BK176 := Aside0.mk (blk_drew BK176.out); replace BK177 := Aside0.mk (blk_drew BK177.out); replace HB := (bd_ HB)
   refine start_ (n := 13) (S := fun w' => w'.cell? ⟨gb176, 0, none⟩ = some (.int .i64 a0_0) ∧ w'.cell? ⟨gb176, 1, none⟩ = some (.slice A0_1 l0_1.length c0_1) ∧ w'.cell? ⟨gb176, 2, none⟩ = some (.slice A0_2 l0_2.length c0_2) ∧ w'.cell? ⟨gb176, 3, none⟩ = some (.slice A0_3 l0_3.length c0_3)) (ds := []) #[false, false, false, false, false, false, false, false, false, false, false, false, false] (by kernel_rfl) rfl rfl (cz4 BK176.out) (fun hHeld => ?_); refine with_tabW spec_l20Client.tab1 spec_l20Client.bits1 (fun HT_ HW_ => ?_)
   generalize w5.drew = w6 at BK176 BK177 HB hHeld ⊢
   refine pu_ (i := 0) (N := some 5) HT_ ?_; refine pu_ (i := 3) (N := some 8) HT_ ?_; refine pu_ (i := 7) (N := some 12) HT_ ?_; refine tk_ (i := 1) (N := some 6) HT_ HW_ hHeld ?_; refine tk_ (i := 4) (N := some 9) HT_ HW_ hHeld ?_; refine tk_ (i := 8) (N := some 13) HT_ HW_ hHeld ?_
   refine join_ (σ := Value × Value × Value × Value × Nat) 1 #[true, true, true, true, true, true, true, true, true, true, true, true, false] (fun s_ => [(7, s_.1), (10, s_.2.1), (11, s_.2.2.1), (14, s_.2.2.2.1), (3, .pointer (some ⟨s_.2.2.2.2, 0, none⟩)), (15, .agg #[.int .i64 a0_0, s_.2.1, .slice none 0 0, s_.2.2.2.1])]) (fun s_ w' => (w'.cell? ⟨gb176, 0, none⟩ = some (.int .i64 a0_0) ∧ w'.cell? ⟨gb176, 1, none⟩ = some (.slice A0_1 l0_1.length c0_1) ∧ w'.cell? ⟨gb176, 2, none⟩ = some (.slice A0_2 l0_2.length c0_2) ∧ w'.cell? ⟨gb176, 3, none⟩ = some (.slice A0_3 l0_3.length c0_3)) ∧ (Kd.R (Kd.int .i64) 3 w' w.heap.size (fun k_ => some k_ ≠ (s_.2.2.2.1 : Value).ownBlock) s_.2.1 y181) ∧ (Kd.R (Kd.int .i64) 3 w' w.heap.size (fun k_ => some k_ ≠ (s_.2.1 : Value).ownBlock) s_.2.2.2.1 y187) ∧ (w'.heap[gb176]? = some (.cells #[.int .i64 a0_0, .slice A0_1 l0_1.length c0_1, .slice A0_2 l0_2.length c0_2, .slice A0_3 l0_3.length c0_3] 30 (0, 0))) ∧ (w'.heap[gb177]? = some (.cells #[.int .i64 0, .slice none 0 0, .slice none 0 0, .slice none 0 0] 30 (0, 0))) ∧ (w'.heap[s_.2.2.2.2]? = some (.cells #[.int .i64 0, .slice none 0 0, .slice none 0 0, .slice none 0 0] 30 (0, 0))) ∧ (w.heap.size ≤ s_.2.2.2.2) ∧ (w.heap.size ≤ s_.2.2.2.2) ∧ (gb176 ≠ s_.2.2.2.2) ∧ (s_.2.2.2.2 ≠ gb176) ∧ (gb177 ≠ s_.2.2.2.2) ∧ (s_.2.2.2.2 ≠ gb177) ∧ (Below w.heap.size w w')) ?_ ?_
   rotate_left
   ·intro hJ2_5_6_9_11
    refine join_ (σ := Value × Value × Value × Value) 2 #[true, true, true, true, true, true, true, true, true, true, true, false, false] (fun s_ => [(7, s_.1), (10, s_.2.1), (11, s_.2.2.1), (14, s_.2.2.2), (15, .agg #[.int .i64 a0_0, s_.2.1, .slice none 0 0, s_.2.2.2])]) (fun s_ w' => (w'.cell? ⟨gb176, 0, none⟩ = some (.int .i64 a0_0) ∧ w'.cell? ⟨gb176, 1, none⟩ = some (.slice A0_1 l0_1.length c0_1) ∧ w'.cell? ⟨gb176, 2, none⟩ = some (.slice A0_2 l0_2.length c0_2) ∧ w'.cell? ⟨gb176, 3, none⟩ = some (.slice A0_3 l0_3.length c0_3)) ∧ (Kd.R (Kd.int .i64) 3 w' w.heap.size (fun k_ => some k_ ≠ (s_.2.2.2 : Value).ownBlock) s_.2.1 y181) ∧ (Kd.R (Kd.int .i64) 3 w' w.heap.size (fun k_ => some k_ ≠ (s_.2.1 : Value).ownBlock) s_.2.2.2 y187) ∧ (w'.heap[gb176]? = some (.cells #[.int .i64 a0_0, .slice A0_1 l0_1.length c0_1, .slice A0_2 l0_2.length c0_2, .slice A0_3 l0_3.length c0_3] 30 (0, 0))) ∧ (w'.heap[gb177]? = some (.cells #[.int .i64 0, .slice none 0 0, .slice none 0 0, .slice none 0 0] 30 (0, 0))) ∧ (Below w.heap.size w w')) ?_ ?_
    rotate_left
    ·intro hJ2_5_6_9
     refine join_ (σ := Value × Value × Value × Nat) 3 #[true, true, true, true, true, true, true, true, true, false, false, true, false] (fun s_ => [(7, s_.1), (10, s_.2.1), (11, s_.2.2.1), (3, .pointer (some ⟨s_.2.2.2, 0, none⟩))]) (fun s_ w' => (w'.cell? ⟨gb176, 0, none⟩ = some (.int .i64 a0_0) ∧ w'.cell? ⟨gb176, 1, none⟩ = some (.slice A0_1 l0_1.length c0_1) ∧ w'.cell? ⟨gb176, 2, none⟩ = some (.slice A0_2 l0_2.length c0_2) ∧ w'.cell? ⟨gb176, 3, none⟩ = some (.slice A0_3 l0_3.length c0_3)) ∧ (Kd.R (Kd.int .i64) 3 w' w.heap.size (fun k_ => some k_ ≠ (s_.2.2.1 : Value).ownBlock) s_.2.1 y181) ∧ (Kd.R (Kd.int .i64) 3 w' w.heap.size (fun k_ => some k_ ≠ (s_.2.1 : Value).ownBlock) s_.2.2.1 y184) ∧ (w'.heap[gb176]? = some (.cells #[.int .i64 a0_0, .slice A0_1 l0_1.length c0_1, .slice A0_2 l0_2.length c0_2, .slice A0_3 l0_3.length c0_3] 30 (0, 0))) ∧ (w'.heap[gb177]? = some (.cells #[.int .i64 0, .slice none 0 0, .slice none 0 0, .slice none 0 0] 30 (0, 0))) ∧ (w'.heap[s_.2.2.2]? = some (.cells #[.int .i64 0, .slice none 0 0, .slice none 0 0, .slice none 0 0] 30 (0, 0))) ∧ (w.heap.size ≤ s_.2.2.2) ∧ (w.heap.size ≤ s_.2.2.2) ∧ (gb176 ≠ s_.2.2.2) ∧ (s_.2.2.2 ≠ gb176) ∧ (gb177 ≠ s_.2.2.2) ∧ (s_.2.2.2 ≠ gb177) ∧ (Below w.heap.size w w')) ?_ ?_
     rotate_left
     ·intro hJ2_5_6_11
      refine join_ (σ := Value × Value × Value) 4 #[true, true, true, true, true, true, true, true, true, false, false, false, false] (fun s_ => [(7, s_.1), (10, s_.2.1), (11, s_.2.2)]) (fun s_ w' => (w'.cell? ⟨gb176, 0, none⟩ = some (.int .i64 a0_0) ∧ w'.cell? ⟨gb176, 1, none⟩ = some (.slice A0_1 l0_1.length c0_1) ∧ w'.cell? ⟨gb176, 2, none⟩ = some (.slice A0_2 l0_2.length c0_2) ∧ w'.cell? ⟨gb176, 3, none⟩ = some (.slice A0_3 l0_3.length c0_3)) ∧ (Kd.R (Kd.int .i64) 3 w' w.heap.size (fun k_ => some k_ ≠ (s_.2.2 : Value).ownBlock) s_.2.1 y181) ∧ (Kd.R (Kd.int .i64) 3 w' w.heap.size (fun k_ => some k_ ≠ (s_.2.1 : Value).ownBlock) s_.2.2 y184) ∧ (w'.heap[gb176]? = some (.cells #[.int .i64 a0_0, .slice A0_1 l0_1.length c0_1, .slice A0_2 l0_2.length c0_2, .slice A0_3 l0_3.length c0_3] 30 (0, 0))) ∧ (w'.heap[gb177]? = some (.cells #[.int .i64 0, .slice none 0 0, .slice none 0 0, .slice none 0 0] 30 (0, 0))) ∧ (Below w.heap.size w w')) ?_ ?_
      rotate_left
      ·intro hJ2_5_6
       refine join_ (σ := Value × Value × Nat) 4 #[true, true, true, true, true, true, false, true, true, false, false, true, false] (fun s_ => [(7, s_.1), (10, s_.2.1), (3, .pointer (some ⟨s_.2.2, 0, none⟩))]) (fun s_ w' => (w'.cell? ⟨gb176, 0, none⟩ = some (.int .i64 a0_0) ∧ w'.cell? ⟨gb176, 1, none⟩ = some (.slice A0_1 l0_1.length c0_1) ∧ w'.cell? ⟨gb176, 2, none⟩ = some (.slice A0_2 l0_2.length c0_2) ∧ w'.cell? ⟨gb176, 3, none⟩ = some (.slice A0_3 l0_3.length c0_3)) ∧ (Kd.R (Kd.int .i64) 3 w' w.heap.size (fun _ => True) s_.2.1 y181) ∧ (w'.heap[gb176]? = some (.cells #[.int .i64 a0_0, .slice A0_1 l0_1.length c0_1, .slice A0_2 l0_2.length c0_2, .slice A0_3 l0_3.length c0_3] 30 (0, 0))) ∧ (w'.heap[gb177]? = some (.cells #[.int .i64 0, .slice none 0 0, .slice none 0 0, .slice none 0 0] 30 (0, 0))) ∧ (w'.heap[s_.2.2]? = some (.cells #[.int .i64 0, .slice none 0 0, .slice none 0 0, .slice none 0 0] 30 (0, 0))) ∧ (w.heap.size ≤ s_.2.2) ∧ (w.heap.size ≤ s_.2.2) ∧ (gb176 ≠ s_.2.2) ∧ (s_.2.2 ≠ gb176) ∧ (gb177 ≠ s_.2.2) ∧ (s_.2.2 ≠ gb177) ∧ (Below w.heap.size w w')) ?_ ?_
       rotate_left
       ·intro hJ2_5_11
        refine join_ (σ := Value × Value × Nat) 4 #[true, true, true, true, true, false, true, true, true, false, false, true, false] (fun s_ => [(7, s_.1), (11, s_.2.1), (3, .pointer (some ⟨s_.2.2, 0, none⟩))]) (fun s_ w' => (w'.cell? ⟨gb176, 0, none⟩ = some (.int .i64 a0_0) ∧ w'.cell? ⟨gb176, 1, none⟩ = some (.slice A0_1 l0_1.length c0_1) ∧ w'.cell? ⟨gb176, 2, none⟩ = some (.slice A0_2 l0_2.length c0_2) ∧ w'.cell? ⟨gb176, 3, none⟩ = some (.slice A0_3 l0_3.length c0_3)) ∧ (Kd.R (Kd.int .i64) 3 w' w.heap.size (fun k_ => some k_ ≠ (s_.2.1 : Value).ownBlock) s_.1 y178) ∧ (Kd.R (Kd.int .i64) 3 w' w.heap.size (fun k_ => some k_ ≠ (s_.1 : Value).ownBlock) s_.2.1 y184) ∧ (w'.heap[gb176]? = some (.cells #[.int .i64 a0_0, .slice A0_1 l0_1.length c0_1, .slice A0_2 l0_2.length c0_2, .slice A0_3 l0_3.length c0_3] 30 (0, 0))) ∧ (w'.heap[gb177]? = some (.cells #[.int .i64 0, .slice none 0 0, .slice none 0 0, .slice none 0 0] 30 (0, 0))) ∧ (w'.heap[s_.2.2]? = some (.cells #[.int .i64 0, .slice none 0 0, .slice none 0 0, .slice none 0 0] 30 (0, 0))) ∧ (w.heap.size ≤ s_.2.2) ∧ (w.heap.size ≤ s_.2.2) ∧ (gb176 ≠ s_.2.2) ∧ (s_.2.2 ≠ gb176) ∧ (gb177 ≠ s_.2.2) ∧ (s_.2.2 ≠ gb177) ∧ (Below w.heap.size w w')) ?_ ?_
        rotate_left
        ·intro hJ2_6_11
         refine join_ (σ := Value × Value) 5 #[true, true, true, true, true, true, false, true, true, false, false, false, false] (fun s_ => [(7, s_.1), (10, s_.2)]) (fun s_ w' => (w'.cell? ⟨gb176, 0, none⟩ = some (.int .i64 a0_0) ∧ w'.cell? ⟨gb176, 1, none⟩ = some (.slice A0_1 l0_1.length c0_1) ∧ w'.cell? ⟨gb176, 2, none⟩ = some (.slice A0_2 l0_2.length c0_2) ∧ w'.cell? ⟨gb176, 3, none⟩ = some (.slice A0_3 l0_3.length c0_3)) ∧ (Kd.R (Kd.int .i64) 3 w' w.heap.size (fun _ => True) s_.2 y181) ∧ (w'.heap[gb176]? = some (.cells #[.int .i64 a0_0, .slice A0_1 l0_1.length c0_1, .slice A0_2 l0_2.length c0_2, .slice A0_3 l0_3.length c0_3] 30 (0, 0))) ∧ (w'.heap[gb177]? = some (.cells #[.int .i64 0, .slice none 0 0, .slice none 0 0, .slice none 0 0] 30 (0, 0))) ∧ (Below w.heap.size w w')) ?_ ?_
         rotate_left
         ·intro hJ2_5
          refine join_ (σ := Value × Value) 5 #[true, true, true, true, true, false, true, true, true, false, false, false, false] (fun s_ => [(7, s_.1), (11, s_.2)]) (fun s_ w' => (w'.cell? ⟨gb176, 0, none⟩ = some (.int .i64 a0_0) ∧ w'.cell? ⟨gb176, 1, none⟩ = some (.slice A0_1 l0_1.length c0_1) ∧ w'.cell? ⟨gb176, 2, none⟩ = some (.slice A0_2 l0_2.length c0_2) ∧ w'.cell? ⟨gb176, 3, none⟩ = some (.slice A0_3 l0_3.length c0_3)) ∧ (Kd.R (Kd.int .i64) 3 w' w.heap.size (fun k_ => some k_ ≠ (s_.2 : Value).ownBlock) s_.1 y178) ∧ (Kd.R (Kd.int .i64) 3 w' w.heap.size (fun k_ => some k_ ≠ (s_.1 : Value).ownBlock) s_.2 y184) ∧ (w'.heap[gb176]? = some (.cells #[.int .i64 a0_0, .slice A0_1 l0_1.length c0_1, .slice A0_2 l0_2.length c0_2, .slice A0_3 l0_3.length c0_3] 30 (0, 0))) ∧ (w'.heap[gb177]? = some (.cells #[.int .i64 0, .slice none 0 0, .slice none 0 0, .slice none 0 0] 30 (0, 0))) ∧ (Below w.heap.size w w')) ?_ ?_
          rotate_left
          ·intro hJ2_6
           refine join_ (σ := Value × Nat) 5 #[true, true, true, true, true, false, false, true, true, false, false, true, false] (fun s_ => [(7, s_.1), (3, .pointer (some ⟨s_.2, 0, none⟩))]) (fun s_ w' => (w'.cell? ⟨gb176, 0, none⟩ = some (.int .i64 a0_0) ∧ w'.cell? ⟨gb176, 1, none⟩ = some (.slice A0_1 l0_1.length c0_1) ∧ w'.cell? ⟨gb176, 2, none⟩ = some (.slice A0_2 l0_2.length c0_2) ∧ w'.cell? ⟨gb176, 3, none⟩ = some (.slice A0_3 l0_3.length c0_3)) ∧ (Kd.R (Kd.int .i64) 3 w' w.heap.size (fun _ => True) s_.1 y178) ∧ (w'.heap[gb176]? = some (.cells #[.int .i64 a0_0, .slice A0_1 l0_1.length c0_1, .slice A0_2 l0_2.length c0_2, .slice A0_3 l0_3.length c0_3] 30 (0, 0))) ∧ (w'.heap[gb177]? = some (.cells #[.int .i64 0, .slice none 0 0, .slice none 0 0, .slice none 0 0] 30 (0, 0))) ∧ (w'.heap[s_.2]? = some (.cells #[.int .i64 0, .slice none 0 0, .slice none 0 0, .slice none 0 0] 30 (0, 0))) ∧ (w.heap.size ≤ s_.2) ∧ (w.heap.size ≤ s_.2) ∧ (gb176 ≠ s_.2) ∧ (s_.2 ≠ gb176) ∧ (gb177 ≠ s_.2) ∧ (s_.2 ≠ gb177) ∧ (Below w.heap.size w w')) ?_ ?_
           rotate_left
           ·intro hJ2_11
            refine join_ (σ := Value × Nat) 5 #[true, true, false, true, true, false, true, true, true, false, false, true, false] (fun s_ => [(11, s_.1), (3, .pointer (some ⟨s_.2, 0, none⟩))]) (fun s_ w' => (w'.cell? ⟨gb176, 0, none⟩ = some (.int .i64 a0_0) ∧ w'.cell? ⟨gb176, 1, none⟩ = some (.slice A0_1 l0_1.length c0_1) ∧ w'.cell? ⟨gb176, 2, none⟩ = some (.slice A0_2 l0_2.length c0_2) ∧ w'.cell? ⟨gb176, 3, none⟩ = some (.slice A0_3 l0_3.length c0_3)) ∧ (Kd.R (Kd.int .i64) 3 w' w.heap.size (fun _ => True) s_.1 y184) ∧ (w'.heap[gb176]? = some (.cells #[.int .i64 a0_0, .slice A0_1 l0_1.length c0_1, .slice A0_2 l0_2.length c0_2, .slice A0_3 l0_3.length c0_3] 30 (0, 0))) ∧ (w'.heap[gb177]? = some (.cells #[.int .i64 0, .slice none 0 0, .slice none 0 0, .slice none 0 0] 30 (0, 0))) ∧ (w'.heap[s_.2]? = some (.cells #[.int .i64 0, .slice none 0 0, .slice none 0 0, .slice none 0 0] 30 (0, 0))) ∧ (w.heap.size ≤ s_.2) ∧ (w.heap.size ≤ s_.2) ∧ (gb176 ≠ s_.2) ∧ (s_.2 ≠ gb176) ∧ (gb177 ≠ s_.2) ∧ (s_.2 ≠ gb177) ∧ (Below w.heap.size w w')) ?_ ?_
            rotate_left
            ·intro hJ6_11
             refine join_ (σ := Value) 6 #[true, true, true, true, true, false, false, true, true, false, false, false, false] (fun s_ => [(7, s_)]) (fun s_ w' => (w'.cell? ⟨gb176, 0, none⟩ = some (.int .i64 a0_0) ∧ w'.cell? ⟨gb176, 1, none⟩ = some (.slice A0_1 l0_1.length c0_1) ∧ w'.cell? ⟨gb176, 2, none⟩ = some (.slice A0_2 l0_2.length c0_2) ∧ w'.cell? ⟨gb176, 3, none⟩ = some (.slice A0_3 l0_3.length c0_3)) ∧ (Kd.R (Kd.int .i64) 3 w' w.heap.size (fun _ => True) s_ y178) ∧ (w'.heap[gb176]? = some (.cells #[.int .i64 a0_0, .slice A0_1 l0_1.length c0_1, .slice A0_2 l0_2.length c0_2, .slice A0_3 l0_3.length c0_3] 30 (0, 0))) ∧ (w'.heap[gb177]? = some (.cells #[.int .i64 0, .slice none 0 0, .slice none 0 0, .slice none 0 0] 30 (0, 0))) ∧ (Below w.heap.size w w')) ?_ ?_
             rotate_left
             ·intro hJ2
              refine join_ (σ := Value) 6 #[true, true, false, true, true, false, true, true, true, false, false, false, false] (fun s_ => [(11, s_)]) (fun s_ w' => (w'.cell? ⟨gb176, 0, none⟩ = some (.int .i64 a0_0) ∧ w'.cell? ⟨gb176, 1, none⟩ = some (.slice A0_1 l0_1.length c0_1) ∧ w'.cell? ⟨gb176, 2, none⟩ = some (.slice A0_2 l0_2.length c0_2) ∧ w'.cell? ⟨gb176, 3, none⟩ = some (.slice A0_3 l0_3.length c0_3)) ∧ (Kd.R (Kd.int .i64) 3 w' w.heap.size (fun _ => True) s_ y184) ∧ (w'.heap[gb176]? = some (.cells #[.int .i64 a0_0, .slice A0_1 l0_1.length c0_1, .slice A0_2 l0_2.length c0_2, .slice A0_3 l0_3.length c0_3] 30 (0, 0))) ∧ (w'.heap[gb177]? = some (.cells #[.int .i64 0, .slice none 0 0, .slice none 0 0, .slice none 0 0] 30 (0, 0))) ∧ (Below w.heap.size w w')) ?_ ?_
              rotate_left
              ·intro hJ6
               refine join_ (σ := Nat) 6 #[true, true, false, true, true, false, false, true, true, false, false, true, false] (fun s_ => [(3, .pointer (some ⟨s_, 0, none⟩))]) (fun s_ w' => (w'.cell? ⟨gb176, 0, none⟩ = some (.int .i64 a0_0) ∧ w'.cell? ⟨gb176, 1, none⟩ = some (.slice A0_1 l0_1.length c0_1) ∧ w'.cell? ⟨gb176, 2, none⟩ = some (.slice A0_2 l0_2.length c0_2) ∧ w'.cell? ⟨gb176, 3, none⟩ = some (.slice A0_3 l0_3.length c0_3)) ∧ (w'.heap[gb176]? = some (.cells #[.int .i64 a0_0, .slice A0_1 l0_1.length c0_1, .slice A0_2 l0_2.length c0_2, .slice A0_3 l0_3.length c0_3] 30 (0, 0))) ∧ (w'.heap[gb177]? = some (.cells #[.int .i64 0, .slice none 0 0, .slice none 0 0, .slice none 0 0] 30 (0, 0))) ∧ (w'.heap[s_]? = some (.cells #[.int .i64 0, .slice none 0 0, .slice none 0 0, .slice none 0 0] 30 (0, 0))) ∧ (w.heap.size ≤ s_) ∧ (w.heap.size ≤ s_) ∧ (gb176 ≠ s_) ∧ (s_ ≠ gb176) ∧ (gb177 ≠ s_) ∧ (s_ ≠ gb177) ∧ (Below w.heap.size w w')) ?_ ?_
               rotate_left
               ·intro hJ11
                refine three_ (i := 2) (j := 6) (k := 11) (Ni := some 7) (Nj := some 11) (Nk := some 3) #[true, true, true, true, true, false, false, true, true, false, false, false, false] #[true, true, false, true, true, false, true, true, true, false, false, false, false] #[true, true, false, true, true, false, false, true, true, false, false, true, false] rfl rfl rfl rfl rfl rfl (three_of HT_.out (by kernel_rfl)) (by decide) (by decide) (by decide) (fun K hK => ?_) (fun K hK => ?_) (fun K hK => ?_)
                ·skip
                 refine Kd.R_lit_step (Kd.int .i64) _ 3 ?hg (N := 7) ?hd (xs := ([] : List Int)) (inner := []) (ok := fun _ => True) (okp := fun _ => True) ?hr ?hp (fun _ hk => hk) trivial (Below.refl _ _) (Nat.le_refl _) (by simp) ?_; (case hd => rfl); (case hg => rfl); (case hr => first | (go_simp; done) | (go_simp; rfl)); (case hp => exact (Reps.none _ _))
                 intro v179 w7 ho8 hb hg_ hnew_
                 clear hg_ hnew_
                 (first | rw [← Ny178.out] at ho8 | (simp only [Int.reduceToNat] at ho8; rw [← Ny178.out] at ho8))
                 have n0_ := Aside0.mk (Kd.R_lower ho8 (below_size (hbA_ HB.out))); have n1_ := (bbA_ BK176 hb); have n2_ := (bbA_ BK177 hb); have n3_ := (bs_ HB hb); clear BK176 BK177 HB; have HO180 := n0_; have BK176 := n1_; have BK177 := n2_; have HB := n3_; clear n0_ n1_ n2_ n3_ hb ho8
                 refine hK.out _ _ (cz4 BK176.out) (fun hHeld => ?_)
                 clear hK K; refine nm_ 7 ?_
                 exact norm_ (by first | (simp only [putAll, Act.put, List.setIfInBounds_toArray, List.set_cons_zero, List.set_cons_succ]; done) | (simp only [putAll, Act.put, List.setIfInBounds_toArray, List.set_cons_zero, List.set_cons_succ]; rfl)) (hJ2 (v179) _ ⟨hHeld, (kR_ HO180.out), (kb_ BK176.out), (kb_ BK177.out), (hbA_ HB.out)⟩)
                ·skip
                 refine Kd.R_lit_step (Kd.int .i64) _ 3 ?hg (N := 11) ?hd (xs := ([] : List Int)) (inner := []) (ok := fun _ => True) (okp := fun _ => True) ?hr ?hp (fun _ hk => hk) trivial (Below.refl _ _) (Nat.le_refl _) (by simp) ?_; (case hd => rfl); (case hg => rfl); (case hr => first | (go_simp; done) | (go_simp; rfl)); (case hp => exact (Reps.none _ _))
                 intro v185 w7 ho8 hb hg_ hnew_
                 clear hg_ hnew_
                 (first | rw [← Ny184.out] at ho8 | (simp only [Int.reduceToNat] at ho8; rw [← Ny184.out] at ho8))
                 have n0_ := Aside0.mk (Kd.R_lower ho8 (below_size (hbA_ HB.out))); have n1_ := (bbA_ BK176 hb); have n2_ := (bbA_ BK177 hb); have n3_ := (bs_ HB hb); clear BK176 BK177 HB; have HO186 := n0_; have BK176 := n1_; have BK177 := n2_; have HB := n3_; clear n0_ n1_ n2_ n3_ hb ho8
                 refine hK.out _ _ (cz4 BK176.out) (fun hHeld => ?_)
                 clear hK K; refine nm_ 11 ?_
                 exact norm_ (by first | (simp only [putAll, Act.put, List.setIfInBounds_toArray, List.set_cons_zero, List.set_cons_succ]; done) | (simp only [putAll, Act.put, List.setIfInBounds_toArray, List.set_cons_zero, List.set_cons_succ]; rfl)) (hJ6 (v185) _ ⟨hHeld, (kR_ HO186.out), (kb_ BK176.out), (kb_ BK177.out), (hbA_ HB.out)⟩)
                ·skip
                 refine box_step ?hg (N := 3) ?hd (cs := #[.int .i64 0, .slice none 0 0, .slice none 0 0, .slice none 0 0]) (t := 30) ?hr ?_; (case hd => rfl); (case hg => rfl); (case hr => first | (go_simp; done) | (go_simp; rfl))
                 intro gb190 hg w7 hbox hb
                 have n0_ := (bbA_ BK176 hb); have n1_ := (bbA_ BK177 hb); have n2_ := (bs_ HB hb); have n3_ := Aside0.mk (hbox); have n4_ := ge_ hg HB; have n5_ := ge_ hg HB; have n6_ := nl_ hg BK176; have n7_ := ng_ hg BK176; have n8_ := nl_ hg BK177; have n9_ := ng_ hg BK177; clear BK176 BK177 HB; have BK176 := n0_; have BK177 := n1_; have HB := n2_; have BK190 := n3_; have GW190 := n4_; have GE190 := n5_; have NB176_190 := n6_; have NB190_176 := n7_; have NB177_190 := n8_; have NB190_177 := n9_; clear n0_ n1_ n2_ n3_ n4_ n5_ n6_ n7_ n8_ n9_ hb hbox hg
                 refine hK.out _ _ (cz4 BK176.out) (fun hHeld => ?_)
                 clear hK K; refine nm_ 3 ?_
                 exact norm_ (by first | (simp only [putAll, Act.put, List.setIfInBounds_toArray, List.set_cons_zero, List.set_cons_succ]; done) | (simp only [putAll, Act.put, List.setIfInBounds_toArray, List.set_cons_zero, List.set_cons_succ]; rfl)) (hJ11 (gb190) _ ⟨hHeld, (kb_ BK176.out), (kb_ BK177.out), (kb_ BK190.out), GW190.out, GE190.out, NB176_190.out, NB190_176.out, NB177_190.out, NB190_177.out, (hbA_ HB.out)⟩)
               ·skip
                rintro gb190 w8 ⟨hS_, h0_, h1_, h2_, h3_, h4_, h5_, h6_, h7_, h8_, h9_⟩
                have n0_ : Aside0 (w8.heap[gb176]? = some (.cells #[.int .i64 a0_0, .slice A0_1 l0_1.length c0_1, .slice A0_2 l0_2.length c0_2, .slice A0_3 l0_3.length c0_3] 30 (0, 0))) := ⟨h0_⟩
                have n1_ : Aside0 (w8.heap[gb177]? = some (.cells #[.int .i64 0, .slice none 0 0, .slice none 0 0, .slice none 0 0] 30 (0, 0))) := ⟨h1_⟩
                have n2_ : Aside0 (w8.heap[gb190]? = some (.cells #[.int .i64 0, .slice none 0 0, .slice none 0 0, .slice none 0 0] 30 (0, 0))) := ⟨h2_⟩
                have n3_ : Aside0 (w.heap.size ≤ gb190) := ⟨h3_⟩
                have n4_ : Aside0 (w.heap.size ≤ gb190) := ⟨h4_⟩
                have n5_ : Aside0 (gb176 ≠ gb190) := ⟨h5_⟩
                have n6_ : Aside0 (gb190 ≠ gb176) := ⟨h6_⟩
                have n7_ : Aside0 (gb177 ≠ gb190) := ⟨h7_⟩
                have n8_ : Aside0 (gb190 ≠ gb177) := ⟨h8_⟩
                have n9_ : Aside0 (Below w.heap.size w w8) := ⟨h9_⟩
                clear BK176 BK177 HB h0_ h1_ h2_ h3_ h4_ h5_ h6_ h7_ h8_ h9_; have BK176 := n0_; have BK177 := n1_; have BK190 := n2_; have GW190 := n3_; have GE190 := n4_; have NB176_190 := n5_; have NB190_176 := n6_; have NB177_190 := n7_; have NB190_177 := n8_; have HB := n9_; clear n0_ n1_ n2_ n3_ n4_ n5_ n6_ n7_ n8_ n9_
                have hHeld : w8.cell? ⟨gb176, 0, none⟩ = some (.int .i64 a0_0) ∧ w8.cell? ⟨gb176, 1, none⟩ = some (.slice A0_1 l0_1.length c0_1) ∧ w8.cell? ⟨gb176, 2, none⟩ = some (.slice A0_2 l0_2.length c0_2) ∧ w8.cell? ⟨gb176, 3, none⟩ = some (.slice A0_3 l0_3.length c0_3) := hS_
                refine norm_ (a' := ?_) ?_ ?_
                rotate_left
                ·simp only [putAll, Act.put, List.setIfInBounds_toArray, List.set_cons_zero, List.set_cons_succ]
                 rfl
                refine two_ (i := 2) (j := 6) (Ni := some 7) (Nj := some 11) #[true, true, true, true, true, false, false, true, true, false, false, true, false] #[true, true, false, true, true, false, true, true, true, false, false, true, false] rfl rfl rfl rfl (two_of HT_.out (by kernel_rfl)) (by decide) (by decide) (fun K hK => ?_) (fun K hK => ?_)
                ·skip
                 refine Kd.R_lit_step (Kd.int .i64) _ 3 ?hg (N := 7) ?hd (xs := ([] : List Int)) (inner := []) (ok := fun _ => True) (okp := fun _ => True) ?hr ?hp (fun _ hk => hk) trivial (Below.refl _ _) (Nat.le_refl _) (by simp) ?_; (case hd => rfl); (case hg => rfl); (case hr => first | (go_simp; done) | (go_simp; rfl)); (case hp => exact (Reps.none _ _))
                 intro v179 w9 ho10 hb hg_ hnew_
                 clear hg_ hnew_
                 (first | rw [← Ny178.out] at ho10 | (simp only [Int.reduceToNat] at ho10; rw [← Ny178.out] at ho10))
                 have n0_ := Aside0.mk (Kd.R_lower ho10 (below_size (hbA_ HB.out))); have n1_ := (bbA_ BK176 hb); have n2_ := (bbA_ BK177 hb); have n3_ := (bbA_ BK190 hb); have n4_ := (bs_ HB hb); clear BK176 BK177 BK190 HB; have HO180 := n0_; have BK176 := n1_; have BK177 := n2_; have BK190 := n3_; have HB := n4_; clear n0_ n1_ n2_ n3_ n4_ hb ho10
                 refine hK.out _ _ (cz4 BK176.out) (fun hHeld => ?_)
                 clear hK K; refine nm_ 7 ?_
                 exact norm_ (by first | (simp only [putAll, Act.put, List.setIfInBounds_toArray, List.set_cons_zero, List.set_cons_succ]; done) | (simp only [putAll, Act.put, List.setIfInBounds_toArray, List.set_cons_zero, List.set_cons_succ]; rfl)) (hJ2_11 (v179, gb190) _ ⟨hHeld, (kR_ HO180.out), (kb_ BK176.out), (kb_ BK177.out), (kb_ BK190.out), GW190.out, GE190.out, NB176_190.out, NB190_176.out, NB177_190.out, NB190_177.out, (hbA_ HB.out)⟩)
                ·skip
                 refine Kd.R_lit_step (Kd.int .i64) _ 3 ?hg (N := 11) ?hd (xs := ([] : List Int)) (inner := []) (ok := fun _ => True) (okp := fun _ => True) ?hr ?hp (fun _ hk => hk) trivial (Below.refl _ _) (Nat.le_refl _) (by simp) ?_; (case hd => rfl); (case hg => rfl); (case hr => first | (go_simp; done) | (go_simp; rfl)); (case hp => exact (Reps.none _ _))
                 intro v185 w9 ho10 hb hg_ hnew_
                 clear hg_ hnew_
                 (first | rw [← Ny184.out] at ho10 | (simp only [Int.reduceToNat] at ho10; rw [← Ny184.out] at ho10))
                 have n0_ := Aside0.mk (Kd.R_lower ho10 (below_size (hbA_ HB.out))); have n1_ := (bbA_ BK176 hb); have n2_ := (bbA_ BK177 hb); have n3_ := (bbA_ BK190 hb); have n4_ := (bs_ HB hb); clear BK176 BK177 BK190 HB; have HO186 := n0_; have BK176 := n1_; have BK177 := n2_; have BK190 := n3_; have HB := n4_; clear n0_ n1_ n2_ n3_ n4_ hb ho10
                 refine hK.out _ _ (cz4 BK176.out) (fun hHeld => ?_)
                 clear hK K; refine nm_ 11 ?_
                 exact norm_ (by first | (simp only [putAll, Act.put, List.setIfInBounds_toArray, List.set_cons_zero, List.set_cons_succ]; done) | (simp only [putAll, Act.put, List.setIfInBounds_toArray, List.set_cons_zero, List.set_cons_succ]; rfl)) (hJ6_11 (v185, gb190) _ ⟨hHeld, (kR_ HO186.out), (kb_ BK176.out), (kb_ BK177.out), (kb_ BK190.out), GW190.out, GE190.out, NB176_190.out, NB190_176.out, NB177_190.out, NB190_177.out, (hbA_ HB.out)⟩)
              ·skip
               rintro v185 w9 ⟨hS_, h0_, h1_, h2_, h3_⟩
               have n0_ : Aside0 (Kd.R (Kd.int .i64) 3 w9 w.heap.size (fun _ => True) v185 y184) := ⟨h0_⟩
               have n1_ : Aside0 (w9.heap[gb176]? = some (.cells #[.int .i64 a0_0, .slice A0_1 l0_1.length c0_1, .slice A0_2 l0_2.length c0_2, .slice A0_3 l0_3.length c0_3] 30 (0, 0))) := ⟨h1_⟩
               have n2_ : Aside0 (w9.heap[gb177]? = some (.cells #[.int .i64 0, .slice none 0 0, .slice none 0 0, .slice none 0 0] 30 (0, 0))) := ⟨h2_⟩
               have n3_ : Aside0 (Below w.heap.size w w9) := ⟨h3_⟩
               clear BK176 BK177 HB h0_ h1_ h2_ h3_; have HO186 := n0_; have BK176 := n1_; have BK177 := n2_; have HB := n3_; clear n0_ n1_ n2_ n3_
               have hHeld : w9.cell? ⟨gb176, 0, none⟩ = some (.int .i64 a0_0) ∧ w9.cell? ⟨gb176, 1, none⟩ = some (.slice A0_1 l0_1.length c0_1) ∧ w9.cell? ⟨gb176, 2, none⟩ = some (.slice A0_2 l0_2.length c0_2) ∧ w9.cell? ⟨gb176, 3, none⟩ = some (.slice A0_3 l0_3.length c0_3) := hS_
               refine norm_ (a' := ?_) ?_ ?_
               rotate_left
               ·simp only [putAll, Act.put, List.setIfInBounds_toArray, List.set_cons_zero, List.set_cons_succ]
                rfl
               refine two_ (i := 2) (j := 11) (Ni := some 7) (Nj := some 3) #[true, true, true, true, true, false, true, true, true, false, false, false, false] #[true, true, false, true, true, false, true, true, true, false, false, true, false] rfl rfl rfl rfl (two_of HT_.out (by kernel_rfl)) (by decide) (by decide) (fun K hK => ?_) (fun K hK => ?_)
               ·skip
                refine Kd.R_lit_step (Kd.int .i64) _ 3 ?hg (N := 7) ?hd (xs := ([] : List Int)) (inner := []) (ok := fun _ => True) (okp := fun _ => True) ?hr ?hp (fun _ hk => hk) trivial (Below.refl _ _) (Nat.le_refl _) (by simp) ?_; (case hd => rfl); (case hg => rfl); (case hr => first | (go_simp; done) | (go_simp; rfl)); (case hp => exact (Reps.none _ _))
                intro v179 w10 ho11 hb hg_ hnew_
                clear hg_ hnew_
                (first | rw [← Ny178.out] at ho11 | (simp only [Int.reduceToNat] at ho11; rw [← Ny178.out] at ho11))
                have n0_ := Aside0.mk (Kd.R_elder' (kR_ HO186.out) (Kd.R_base ho11) hb); have n1_ := Aside0.mk (Kd.R_lower (Kd.R_new' ho11 (Kd.R_lt (kR_ HO186.out))) (below_size (hbA_ HB.out))); have n2_ := (bbA_ BK176 hb); have n3_ := (bbA_ BK177 hb); have n4_ := (bs_ HB hb); clear HO186 BK176 BK177 HB; have HO186 := n0_; have HO180 := n1_; have BK176 := n2_; have BK177 := n3_; have HB := n4_; clear n0_ n1_ n2_ n3_ n4_ hb ho11
                refine hK.out _ _ (cz4 BK176.out) (fun hHeld => ?_)
                clear hK K; refine nm_ 7 ?_
                exact norm_ (by first | (simp only [putAll, Act.put, List.setIfInBounds_toArray, List.set_cons_zero, List.set_cons_succ]; done) | (simp only [putAll, Act.put, List.setIfInBounds_toArray, List.set_cons_zero, List.set_cons_succ]; rfl)) (hJ2_6 (v179, v185) _ ⟨hHeld, (by refine kR_ ?_; first | exact Kd.R_mono HO180.out (fun _ hk => hk.2) | exact Kd.R_mono HO180.out (fun _ _ => trivial)), (by refine kR_ ?_; first | exact Kd.R_mono HO186.out (fun _ hk => hk.2) | exact Kd.R_mono HO186.out (fun _ _ => trivial)), (kb_ BK176.out), (kb_ BK177.out), (hbA_ HB.out)⟩)
               ·skip
                refine box_step ?hg (N := 3) ?hd (cs := #[.int .i64 0, .slice none 0 0, .slice none 0 0, .slice none 0 0]) (t := 30) ?hr ?_; (case hd => rfl); (case hg => rfl); (case hr => first | (go_simp; done) | (go_simp; rfl))
                intro gb190 hg w10 hbox hb
                have n0_ := Aside0.mk (Kd.R_below (kR_ HO186.out) hb); have n1_ := (bbA_ BK176 hb); have n2_ := (bbA_ BK177 hb); have n3_ := (bs_ HB hb); have n4_ := Aside0.mk (hbox); have n5_ := ge_ hg HB; have n6_ := ge_ hg HB; have n7_ := nl_ hg BK176; have n8_ := ng_ hg BK176; have n9_ := nl_ hg BK177; have n10_ := ng_ hg BK177; clear HO186 BK176 BK177 HB; have HO186 := n0_; have BK176 := n1_; have BK177 := n2_; have HB := n3_; have BK190 := n4_; have GW190 := n5_; have GE190 := n6_; have NB176_190 := n7_; have NB190_176 := n8_; have NB177_190 := n9_; have NB190_177 := n10_; clear n0_ n1_ n2_ n3_ n4_ n5_ n6_ n7_ n8_ n9_ n10_ hb hbox hg
                refine hK.out _ _ (cz4 BK176.out) (fun hHeld => ?_)
                clear hK K; refine nm_ 3 ?_
                exact norm_ (by first | (simp only [putAll, Act.put, List.setIfInBounds_toArray, List.set_cons_zero, List.set_cons_succ]; done) | (simp only [putAll, Act.put, List.setIfInBounds_toArray, List.set_cons_zero, List.set_cons_succ]; rfl)) (hJ6_11 (v185, gb190) _ ⟨hHeld, (kR_ HO186.out), (kb_ BK176.out), (kb_ BK177.out), (kb_ BK190.out), GW190.out, GE190.out, NB176_190.out, NB190_176.out, NB177_190.out, NB190_177.out, (hbA_ HB.out)⟩)
             ·skip
              rintro v179 w9 ⟨hS_, h0_, h1_, h2_, h3_⟩
              have n0_ : Aside0 (Kd.R (Kd.int .i64) 3 w9 w.heap.size (fun _ => True) v179 y178) := ⟨h0_⟩
              have n1_ : Aside0 (w9.heap[gb176]? = some (.cells #[.int .i64 a0_0, .slice A0_1 l0_1.length c0_1, .slice A0_2 l0_2.length c0_2, .slice A0_3 l0_3.length c0_3] 30 (0, 0))) := ⟨h1_⟩
              have n2_ : Aside0 (w9.heap[gb177]? = some (.cells #[.int .i64 0, .slice none 0 0, .slice none 0 0, .slice none 0 0] 30 (0, 0))) := ⟨h2_⟩
              have n3_ : Aside0 (Below w.heap.size w w9) := ⟨h3_⟩
              clear BK176 BK177 HB h0_ h1_ h2_ h3_; have HO180 := n0_; have BK176 := n1_; have BK177 := n2_; have HB := n3_; clear n0_ n1_ n2_ n3_
              have hHeld : w9.cell? ⟨gb176, 0, none⟩ = some (.int .i64 a0_0) ∧ w9.cell? ⟨gb176, 1, none⟩ = some (.slice A0_1 l0_1.length c0_1) ∧ w9.cell? ⟨gb176, 2, none⟩ = some (.slice A0_2 l0_2.length c0_2) ∧ w9.cell? ⟨gb176, 3, none⟩ = some (.slice A0_3 l0_3.length c0_3) := hS_
              refine norm_ (a' := ?_) ?_ ?_
              rotate_left
              ·simp only [putAll, Act.put, List.setIfInBounds_toArray, List.set_cons_zero, List.set_cons_succ]
               rfl
              refine three_ (i := 5) (j := 6) (k := 11) (Ni := some 10) (Nj := some 11) (Nk := some 3) #[true, true, true, true, true, true, false, true, true, false, false, false, false] #[true, true, true, true, true, false, true, true, true, false, false, false, false] #[true, true, true, true, true, false, false, true, true, false, false, true, false] rfl rfl rfl rfl rfl rfl (three_of HT_.out (by kernel_rfl)) (by decide) (by decide) (by decide) (fun K hK => ?_) (fun K hK => ?_) (fun K hK => ?_)
              ·skip
               refine Kd.R_append_rows_step (Kd.int .i64) (w0 := w) w.heap.size (by rfl) (.tmp 7) (.tmp 9) 22 3 (.int .i64 0) 8 rfl Try.underlying22 info3 rfl (by decide) (by omega) v179 y178 l0_1 _ _ _ (fun _ => True) (fun _ => False) rfl rfl ?aO ?aR (fun _ _ h => h) (fun _ h => h.elim) ?aF ?aB ?aS ?aL ?_
               (case aR => exact kC_ (Kd.C_below HR0_1.out HB.out))
               (case aB => exact (hbA_ HB.out))
               (case aF => exact (fun _ _ => trivial))
               (case aO => exact (kR_ HO180.out))
               (case aS => exact (below_size (hbA_ HB.out)))
               (case aL => have := LMc2.out; omega)
               intro v182 w10 ho hb hg hat
               rw [← Ny181.out] at ho
               have n0_ := (bgA_ BK176 hg (Kd.R_ne HO180.out BK176.out (by decide))); have n1_ := (bgA_ BK177 hg (Kd.R_ne HO180.out BK177.out (by decide))); have n2_ := Aside0.mk (hb); have n3_ := Aside0.mk (ho); clear BK176 BK177 HB HO180; have BK176 := n0_; have BK177 := n1_; have HB := n2_; have HO183 := n3_; clear n0_ n1_ n2_ n3_ ho hb hg hat
               refine hK.out _ _ (cz4 BK176.out) (fun hHeld => ?_)
               clear hK K; refine nm_ 10 ?_
               exact norm_ (by first | (simp only [putAll, Act.put, List.setIfInBounds_toArray, List.set_cons_zero, List.set_cons_succ]; done) | (simp only [putAll, Act.put, List.setIfInBounds_toArray, List.set_cons_zero, List.set_cons_succ]; rfl)) (hJ2_5 (v179, v182) _ ⟨hHeld, (kR_ HO183.out), (kb_ BK176.out), (kb_ BK177.out), (hbA_ HB.out)⟩)
              ·skip
               refine Kd.R_lit_step (Kd.int .i64) _ 3 ?hg (N := 11) ?hd (xs := ([] : List Int)) (inner := []) (ok := fun _ => True) (okp := fun _ => True) ?hr ?hp (fun _ hk => hk) trivial (Below.refl _ _) (Nat.le_refl _) (by simp) ?_; (case hd => rfl); (case hg => rfl); (case hr => first | (go_simp; done) | (go_simp; rfl)); (case hp => exact (Reps.none _ _))
               intro v185 w10 ho11 hb hg_ hnew_
               clear hg_ hnew_
               (first | rw [← Ny184.out] at ho11 | (simp only [Int.reduceToNat] at ho11; rw [← Ny184.out] at ho11))
               have n0_ := Aside0.mk (Kd.R_elder' (kR_ HO180.out) (Kd.R_base ho11) hb); have n1_ := Aside0.mk (Kd.R_lower (Kd.R_new' ho11 (Kd.R_lt (kR_ HO180.out))) (below_size (hbA_ HB.out))); have n2_ := (bbA_ BK176 hb); have n3_ := (bbA_ BK177 hb); have n4_ := (bs_ HB hb); clear HO180 BK176 BK177 HB; have HO180 := n0_; have HO186 := n1_; have BK176 := n2_; have BK177 := n3_; have HB := n4_; clear n0_ n1_ n2_ n3_ n4_ hb ho11
               refine hK.out _ _ (cz4 BK176.out) (fun hHeld => ?_)
               clear hK K; refine nm_ 11 ?_
               exact norm_ (by first | (simp only [putAll, Act.put, List.setIfInBounds_toArray, List.set_cons_zero, List.set_cons_succ]; done) | (simp only [putAll, Act.put, List.setIfInBounds_toArray, List.set_cons_zero, List.set_cons_succ]; rfl)) (hJ2_6 (v179, v185) _ ⟨hHeld, (by refine kR_ ?_; first | exact Kd.R_mono HO180.out (fun _ hk => hk.2) | exact Kd.R_mono HO180.out (fun _ _ => trivial)), (by refine kR_ ?_; first | exact Kd.R_mono HO186.out (fun _ hk => hk.2) | exact Kd.R_mono HO186.out (fun _ _ => trivial)), (kb_ BK176.out), (kb_ BK177.out), (hbA_ HB.out)⟩)
              ·skip
               refine box_step ?hg (N := 3) ?hd (cs := #[.int .i64 0, .slice none 0 0, .slice none 0 0, .slice none 0 0]) (t := 30) ?hr ?_; (case hd => rfl); (case hg => rfl); (case hr => first | (go_simp; done) | (go_simp; rfl))
               intro gb190 hg w10 hbox hb
               have n0_ := Aside0.mk (Kd.R_below (kR_ HO180.out) hb); have n1_ := (bbA_ BK176 hb); have n2_ := (bbA_ BK177 hb); have n3_ := (bs_ HB hb); have n4_ := Aside0.mk (hbox); have n5_ := ge_ hg HB; have n6_ := ge_ hg HB; have n7_ := nl_ hg BK176; have n8_ := ng_ hg BK176; have n9_ := nl_ hg BK177; have n10_ := ng_ hg BK177; clear HO180 BK176 BK177 HB; have HO180 := n0_; have BK176 := n1_; have BK177 := n2_; have HB := n3_; have BK190 := n4_; have GW190 := n5_; have GE190 := n6_; have NB176_190 := n7_; have NB190_176 := n8_; have NB177_190 := n9_; have NB190_177 := n10_; clear n0_ n1_ n2_ n3_ n4_ n5_ n6_ n7_ n8_ n9_ n10_ hb hbox hg
               refine hK.out _ _ (cz4 BK176.out) (fun hHeld => ?_)
               clear hK K; refine nm_ 3 ?_
               exact norm_ (by first | (simp only [putAll, Act.put, List.setIfInBounds_toArray, List.set_cons_zero, List.set_cons_succ]; done) | (simp only [putAll, Act.put, List.setIfInBounds_toArray, List.set_cons_zero, List.set_cons_succ]; rfl)) (hJ2_11 (v179, gb190) _ ⟨hHeld, (kR_ HO180.out), (kb_ BK176.out), (kb_ BK177.out), (kb_ BK190.out), GW190.out, GE190.out, NB176_190.out, NB190_176.out, NB177_190.out, NB190_177.out, (hbA_ HB.out)⟩)
            ·skip
             rintro ⟨v185, gb190⟩ w10 ⟨hS_, h0_, h1_, h2_, h3_, h4_, h5_, h6_, h7_, h8_, h9_, h10_⟩
             have n0_ : Aside0 (Kd.R (Kd.int .i64) 3 w10 w.heap.size (fun _ => True) v185 y184) := ⟨h0_⟩
             have n1_ : Aside0 (w10.heap[gb176]? = some (.cells #[.int .i64 a0_0, .slice A0_1 l0_1.length c0_1, .slice A0_2 l0_2.length c0_2, .slice A0_3 l0_3.length c0_3] 30 (0, 0))) := ⟨h1_⟩
             have n2_ : Aside0 (w10.heap[gb177]? = some (.cells #[.int .i64 0, .slice none 0 0, .slice none 0 0, .slice none 0 0] 30 (0, 0))) := ⟨h2_⟩
             have n3_ : Aside0 (w10.heap[gb190]? = some (.cells #[.int .i64 0, .slice none 0 0, .slice none 0 0, .slice none 0 0] 30 (0, 0))) := ⟨h3_⟩
             have n4_ : Aside0 (w.heap.size ≤ gb190) := ⟨h4_⟩
             have n5_ : Aside0 (w.heap.size ≤ gb190) := ⟨h5_⟩
             have n6_ : Aside0 (gb176 ≠ gb190) := ⟨h6_⟩
             have n7_ : Aside0 (gb190 ≠ gb176) := ⟨h7_⟩
             have n8_ : Aside0 (gb177 ≠ gb190) := ⟨h8_⟩
             have n9_ : Aside0 (gb190 ≠ gb177) := ⟨h9_⟩
             have n10_ : Aside0 (Below w.heap.size w w10) := ⟨h10_⟩
             clear BK176 BK177 HB h0_ h1_ h2_ h3_ h4_ h5_ h6_ h7_ h8_ h9_ h10_; have HO186 := n0_; have BK176 := n1_; have BK177 := n2_; have BK190 := n3_; have GW190 := n4_; have GE190 := n5_; have NB176_190 := n6_; have NB190_176 := n7_; have NB177_190 := n8_; have NB190_177 := n9_; have HB := n10_; clear n0_ n1_ n2_ n3_ n4_ n5_ n6_ n7_ n8_ n9_ n10_
             have hHeld : w10.cell? ⟨gb176, 0, none⟩ = some (.int .i64 a0_0) ∧ w10.cell? ⟨gb176, 1, none⟩ = some (.slice A0_1 l0_1.length c0_1) ∧ w10.cell? ⟨gb176, 2, none⟩ = some (.slice A0_2 l0_2.length c0_2) ∧ w10.cell? ⟨gb176, 3, none⟩ = some (.slice A0_3 l0_3.length c0_3) := hS_
             refine norm_ (a' := ?_) ?_ ?_
             rotate_left
             ·simp only [putAll, Act.put, List.setIfInBounds_toArray, List.set_cons_zero, List.set_cons_succ]
              rfl
             refine on_ (i := 2) (N := some 7) HT_ (fun K hK => ?_)
             refine Kd.R_lit_step (Kd.int .i64) _ 3 ?hg (N := 7) ?hd (xs := ([] : List Int)) (inner := []) (ok := fun _ => True) (okp := fun _ => True) ?hr ?hp (fun _ hk => hk) trivial (Below.refl _ _) (Nat.le_refl _) (by simp) ?_; (case hd => rfl); (case hg => rfl); (case hr => first | (go_simp; done) | (go_simp; rfl)); (case hp => exact (Reps.none _ _))
             intro v179 w11 ho12 hb hg_ hnew_
             clear hg_ hnew_
             (first | rw [← Ny178.out] at ho12 | (simp only [Int.reduceToNat] at ho12; rw [← Ny178.out] at ho12))
             have n0_ := Aside0.mk (Kd.R_elder' (kR_ HO186.out) (Kd.R_base ho12) hb); have n1_ := Aside0.mk (Kd.R_lower (Kd.R_new' ho12 (Kd.R_lt (kR_ HO186.out))) (below_size (hbA_ HB.out))); have n2_ := (bbA_ BK176 hb); have n3_ := (bbA_ BK177 hb); have n4_ := (bbA_ BK190 hb); have n5_ := (bs_ HB hb); clear HO186 BK176 BK177 BK190 HB; have HO186 := n0_; have HO180 := n1_; have BK176 := n2_; have BK177 := n3_; have BK190 := n4_; have HB := n5_; clear n0_ n1_ n2_ n3_ n4_ n5_ hb ho12
             refine hK.out _ _ (cz4 BK176.out) (fun hHeld => ?_)
             clear hK K; refine nm_ 7 ?_
             exact norm_ (by first | (simp only [putAll, Act.put, List.setIfInBounds_toArray, List.set_cons_zero, List.set_cons_succ]; done) | (simp only [putAll, Act.put, List.setIfInBounds_toArray, List.set_cons_zero, List.set_cons_succ]; rfl)) (hJ2_6_11 (v179, v185, gb190) _ ⟨hHeld, (by refine kR_ ?_; first | exact Kd.R_mono HO180.out (fun _ hk => hk.2) | exact Kd.R_mono HO180.out (fun _ _ => trivial)), (by refine kR_ ?_; first | exact Kd.R_mono HO186.out (fun _ hk => hk.2) | exact Kd.R_mono HO186.out (fun _ _ => trivial)), (kb_ BK176.out), (kb_ BK177.out), (kb_ BK190.out), GW190.out, GE190.out, NB176_190.out, NB190_176.out, NB177_190.out, NB190_177.out, (hbA_ HB.out)⟩)
           ·skip
            rintro ⟨v179, gb190⟩ w10 ⟨hS_, h0_, h1_, h2_, h3_, h4_, h5_, h6_, h7_, h8_, h9_, h10_⟩
            have n0_ : Aside0 (Kd.R (Kd.int .i64) 3 w10 w.heap.size (fun _ => True) v179 y178) := ⟨h0_⟩
            have n1_ : Aside0 (w10.heap[gb176]? = some (.cells #[.int .i64 a0_0, .slice A0_1 l0_1.length c0_1, .slice A0_2 l0_2.length c0_2, .slice A0_3 l0_3.length c0_3] 30 (0, 0))) := ⟨h1_⟩
            have n2_ : Aside0 (w10.heap[gb177]? = some (.cells #[.int .i64 0, .slice none 0 0, .slice none 0 0, .slice none 0 0] 30 (0, 0))) := ⟨h2_⟩
            have n3_ : Aside0 (w10.heap[gb190]? = some (.cells #[.int .i64 0, .slice none 0 0, .slice none 0 0, .slice none 0 0] 30 (0, 0))) := ⟨h3_⟩
            have n4_ : Aside0 (w.heap.size ≤ gb190) := ⟨h4_⟩
            have n5_ : Aside0 (w.heap.size ≤ gb190) := ⟨h5_⟩
            have n6_ : Aside0 (gb176 ≠ gb190) := ⟨h6_⟩
            have n7_ : Aside0 (gb190 ≠ gb176) := ⟨h7_⟩
            have n8_ : Aside0 (gb177 ≠ gb190) := ⟨h8_⟩
            have n9_ : Aside0 (gb190 ≠ gb177) := ⟨h9_⟩
            have n10_ : Aside0 (Below w.heap.size w w10) := ⟨h10_⟩
            clear BK176 BK177 HB h0_ h1_ h2_ h3_ h4_ h5_ h6_ h7_ h8_ h9_ h10_; have HO180 := n0_; have BK176 := n1_; have BK177 := n2_; have BK190 := n3_; have GW190 := n4_; have GE190 := n5_; have NB176_190 := n6_; have NB190_176 := n7_; have NB177_190 := n8_; have NB190_177 := n9_; have HB := n10_; clear n0_ n1_ n2_ n3_ n4_ n5_ n6_ n7_ n8_ n9_ n10_
            have hHeld : w10.cell? ⟨gb176, 0, none⟩ = some (.int .i64 a0_0) ∧ w10.cell? ⟨gb176, 1, none⟩ = some (.slice A0_1 l0_1.length c0_1) ∧ w10.cell? ⟨gb176, 2, none⟩ = some (.slice A0_2 l0_2.length c0_2) ∧ w10.cell? ⟨gb176, 3, none⟩ = some (.slice A0_3 l0_3.length c0_3) := hS_
            refine norm_ (a' := ?_) ?_ ?_
            rotate_left
            ·simp only [putAll, Act.put, List.setIfInBounds_toArray, List.set_cons_zero, List.set_cons_succ]
             rfl
            refine two_ (i := 5) (j := 6) (Ni := some 10) (Nj := some 11) #[true, true, true, true, true, true, false, true, true, false, false, true, false] #[true, true, true, true, true, false, true, true, true, false, false, true, false] rfl rfl rfl rfl (two_of HT_.out (by kernel_rfl)) (by decide) (by decide) (fun K hK => ?_) (fun K hK => ?_)
            ·skip
             refine Kd.R_append_rows_step (Kd.int .i64) (w0 := w) w.heap.size (by rfl) (.tmp 7) (.tmp 9) 22 3 (.int .i64 0) 8 rfl Try.underlying22 info3 rfl (by decide) (by omega) v179 y178 l0_1 _ _ _ (fun _ => True) (fun _ => False) rfl rfl ?aO ?aR (fun _ _ h => h) (fun _ h => h.elim) ?aF ?aB ?aS ?aL ?_
             (case aR => exact kC_ (Kd.C_below HR0_1.out HB.out))
             (case aB => exact (hbA_ HB.out))
             (case aF => exact (fun _ _ => trivial))
             (case aO => exact (kR_ HO180.out))
             (case aS => exact (below_size (hbA_ HB.out)))
             (case aL => have := LMc2.out; omega)
             intro v182 w11 ho hb hg hat
             rw [← Ny181.out] at ho
             have n0_ := (bgA_ BK176 hg (Kd.R_ne HO180.out BK176.out (by decide))); have n1_ := (bgA_ BK177 hg (Kd.R_ne HO180.out BK177.out (by decide))); have n2_ := (bgA_ BK190 hg (Kd.R_ne HO180.out BK190.out (by decide))); have n3_ := Aside0.mk (hb); have n4_ := Aside0.mk (ho); clear BK176 BK177 BK190 HB HO180; have BK176 := n0_; have BK177 := n1_; have BK190 := n2_; have HB := n3_; have HO183 := n4_; clear n0_ n1_ n2_ n3_ n4_ ho hb hg hat
             refine hK.out _ _ (cz4 BK176.out) (fun hHeld => ?_)
             clear hK K; refine nm_ 10 ?_
             exact norm_ (by first | (simp only [putAll, Act.put, List.setIfInBounds_toArray, List.set_cons_zero, List.set_cons_succ]; done) | (simp only [putAll, Act.put, List.setIfInBounds_toArray, List.set_cons_zero, List.set_cons_succ]; rfl)) (hJ2_5_11 (v179, v182, gb190) _ ⟨hHeld, (kR_ HO183.out), (kb_ BK176.out), (kb_ BK177.out), (kb_ BK190.out), GW190.out, GE190.out, NB176_190.out, NB190_176.out, NB177_190.out, NB190_177.out, (hbA_ HB.out)⟩)
            ·skip
             refine Kd.R_lit_step (Kd.int .i64) _ 3 ?hg (N := 11) ?hd (xs := ([] : List Int)) (inner := []) (ok := fun _ => True) (okp := fun _ => True) ?hr ?hp (fun _ hk => hk) trivial (Below.refl _ _) (Nat.le_refl _) (by simp) ?_; (case hd => rfl); (case hg => rfl); (case hr => first | (go_simp; done) | (go_simp; rfl)); (case hp => exact (Reps.none _ _))
             intro v185 w11 ho12 hb hg_ hnew_
             clear hg_ hnew_
             (first | rw [← Ny184.out] at ho12 | (simp only [Int.reduceToNat] at ho12; rw [← Ny184.out] at ho12))
             have n0_ := Aside0.mk (Kd.R_elder' (kR_ HO180.out) (Kd.R_base ho12) hb); have n1_ := Aside0.mk (Kd.R_lower (Kd.R_new' ho12 (Kd.R_lt (kR_ HO180.out))) (below_size (hbA_ HB.out))); have n2_ := (bbA_ BK176 hb); have n3_ := (bbA_ BK177 hb); have n4_ := (bbA_ BK190 hb); have n5_ := (bs_ HB hb); clear HO180 BK176 BK177 BK190 HB; have HO180 := n0_; have HO186 := n1_; have BK176 := n2_; have BK177 := n3_; have BK190 := n4_; have HB := n5_; clear n0_ n1_ n2_ n3_ n4_ n5_ hb ho12
             refine hK.out _ _ (cz4 BK176.out) (fun hHeld => ?_)
             clear hK K; refine nm_ 11 ?_
             exact norm_ (by first | (simp only [putAll, Act.put, List.setIfInBounds_toArray, List.set_cons_zero, List.set_cons_succ]; done) | (simp only [putAll, Act.put, List.setIfInBounds_toArray, List.set_cons_zero, List.set_cons_succ]; rfl)) (hJ2_6_11 (v179, v185, gb190) _ ⟨hHeld, (by refine kR_ ?_; first | exact Kd.R_mono HO180.out (fun _ hk => hk.2) | exact Kd.R_mono HO180.out (fun _ _ => trivial)), (by refine kR_ ?_; first | exact Kd.R_mono HO186.out (fun _ hk => hk.2) | exact Kd.R_mono HO186.out (fun _ _ => trivial)), (kb_ BK176.out), (kb_ BK177.out), (kb_ BK190.out), GW190.out, GE190.out, NB176_190.out, NB190_176.out, NB177_190.out, NB190_177.out, (hbA_ HB.out)⟩)
          ·skip
           rintro ⟨v179, v185⟩ w11 ⟨hS_, h0_, h1_, h2_, h3_, h4_⟩
           have n0_ : Aside0 (Kd.R (Kd.int .i64) 3 w11 w.heap.size (fun k_ => some k_ ≠ (v185 : Value).ownBlock) v179 y178) := ⟨h0_⟩
           have n1_ : Aside0 (Kd.R (Kd.int .i64) 3 w11 w.heap.size (fun k_ => some k_ ≠ (v179 : Value).ownBlock) v185 y184) := ⟨h1_⟩
           have n2_ : Aside0 (w11.heap[gb176]? = some (.cells #[.int .i64 a0_0, .slice A0_1 l0_1.length c0_1, .slice A0_2 l0_2.length c0_2, .slice A0_3 l0_3.length c0_3] 30 (0, 0))) := ⟨h2_⟩
           have n3_ : Aside0 (w11.heap[gb177]? = some (.cells #[.int .i64 0, .slice none 0 0, .slice none 0 0, .slice none 0 0] 30 (0, 0))) := ⟨h3_⟩
           have n4_ : Aside0 (Below w.heap.size w w11) := ⟨h4_⟩
           clear BK176 BK177 HB h0_ h1_ h2_ h3_ h4_; have HO180 := n0_; have HO186 := n1_; have BK176 := n2_; have BK177 := n3_; have HB := n4_; clear n0_ n1_ n2_ n3_ n4_
           have hHeld : w11.cell? ⟨gb176, 0, none⟩ = some (.int .i64 a0_0) ∧ w11.cell? ⟨gb176, 1, none⟩ = some (.slice A0_1 l0_1.length c0_1) ∧ w11.cell? ⟨gb176, 2, none⟩ = some (.slice A0_2 l0_2.length c0_2) ∧ w11.cell? ⟨gb176, 3, none⟩ = some (.slice A0_3 l0_3.length c0_3) := hS_
           refine norm_ (a' := ?_) ?_ ?_
           rotate_left
           ·simp only [putAll, Act.put, List.setIfInBounds_toArray, List.set_cons_zero, List.set_cons_succ]
            rfl
           refine two_ (i := 5) (j := 11) (Ni := some 10) (Nj := some 3) #[true, true, true, true, true, true, true, true, true, false, false, false, false] #[true, true, true, true, true, false, true, true, true, false, false, true, false] rfl rfl rfl rfl (two_of HT_.out (by kernel_rfl)) (by decide) (by decide) (fun K hK => ?_) (fun K hK => ?_)
           ·skip
            refine Kd.R_append_rows_step (Kd.int .i64) (w0 := w) w.heap.size (by rfl) (.tmp 7) (.tmp 9) 22 3 (.int .i64 0) 8 rfl Try.underlying22 info3 rfl (by decide) (by omega) v179 y178 l0_1 _ _ _ (fun k_ => some k_ ≠ (v185 : Value).ownBlock) (fun _ => False) rfl rfl ?aO ?aR (fun _ _ h => h) (fun _ h => h.elim) ?aF ?aB ?aS ?aL ?_
            (case aR => exact kC_ (Kd.C_below HR0_1.out HB.out))
            (case aB => exact (hbA_ HB.out))
            (case aF => exact (fun k_ hk => Kd.fresh' (Kd.R_lt (kR_ HO186.out)) k_ hk))
            (case aO => exact (kR_ HO180.out))
            (case aS => exact (below_size (hbA_ HB.out)))
            (case aL => have := LMc2.out; omega)
            intro v182 w12 ho hb hg hat
            rw [← Ny181.out] at ho
            have n0_ := (bgA_ BK176 hg (Kd.R_ne HO180.out BK176.out (by decide))); have n1_ := (bgA_ BK177 hg (Kd.R_ne HO180.out BK177.out (by decide))); have n2_ := Aside0.mk (Kd.R_after (ok := (fun _ => True)) (by refine kR_ ?_; exact Kd.R_mono HO186.out (fun _ hk => ⟨trivial, hk⟩)) hg hat); have n3_ := Aside0.mk (hb); have n4_ := Aside0.mk (ho); clear BK176 BK177 HO186 HB HO180; have BK176 := n0_; have BK177 := n1_; have HO186 := n2_; have HB := n3_; have HO183 := n4_; clear n0_ n1_ n2_ n3_ n4_ ho hb hg hat
            refine hK.out _ _ (cz4 BK176.out) (fun hHeld => ?_)
            clear hK K; refine nm_ 10 ?_
            exact norm_ (by first | (simp only [putAll, Act.put, List.setIfInBounds_toArray, List.set_cons_zero, List.set_cons_succ]; done) | (simp only [putAll, Act.put, List.setIfInBounds_toArray, List.set_cons_zero, List.set_cons_succ]; rfl)) (hJ2_5_6 (v179, v182, v185) _ ⟨hHeld, (kR_ HO183.out), (by refine kR_ ?_; first | exact Kd.R_mono HO186.out (fun _ hk => hk.2) | exact Kd.R_mono HO186.out (fun _ _ => trivial)), (kb_ BK176.out), (kb_ BK177.out), (hbA_ HB.out)⟩)
           ·skip
            refine box_step ?hg (N := 3) ?hd (cs := #[.int .i64 0, .slice none 0 0, .slice none 0 0, .slice none 0 0]) (t := 30) ?hr ?_; (case hd => rfl); (case hg => rfl); (case hr => first | (go_simp; done) | (go_simp; rfl))
            intro gb190 hg w12 hbox hb
            have n0_ := Aside0.mk (Kd.R_below (kR_ HO180.out) hb); have n1_ := Aside0.mk (Kd.R_below (kR_ HO186.out) hb); have n2_ := (bbA_ BK176 hb); have n3_ := (bbA_ BK177 hb); have n4_ := (bs_ HB hb); have n5_ := Aside0.mk (hbox); have n6_ := ge_ hg HB; have n7_ := ge_ hg HB; have n8_ := nl_ hg BK176; have n9_ := ng_ hg BK176; have n10_ := nl_ hg BK177; have n11_ := ng_ hg BK177; clear HO180 HO186 BK176 BK177 HB; have HO180 := n0_; have HO186 := n1_; have BK176 := n2_; have BK177 := n3_; have HB := n4_; have BK190 := n5_; have GW190 := n6_; have GE190 := n7_; have NB176_190 := n8_; have NB190_176 := n9_; have NB177_190 := n10_; have NB190_177 := n11_; clear n0_ n1_ n2_ n3_ n4_ n5_ n6_ n7_ n8_ n9_ n10_ n11_ hb hbox hg
            refine hK.out _ _ (cz4 BK176.out) (fun hHeld => ?_)
            clear hK K; refine nm_ 3 ?_
            exact norm_ (by first | (simp only [putAll, Act.put, List.setIfInBounds_toArray, List.set_cons_zero, List.set_cons_succ]; done) | (simp only [putAll, Act.put, List.setIfInBounds_toArray, List.set_cons_zero, List.set_cons_succ]; rfl)) (hJ2_6_11 (v179, v185, gb190) _ ⟨hHeld, (kR_ HO180.out), (kR_ HO186.out), (kb_ BK176.out), (kb_ BK177.out), (kb_ BK190.out), GW190.out, GE190.out, NB176_190.out, NB190_176.out, NB177_190.out, NB190_177.out, (hbA_ HB.out)⟩)
         ·skip
          rintro ⟨v179, v182⟩ w10 ⟨hS_, h0_, h1_, h2_, h3_⟩
          have n0_ : Aside0 (Kd.R (Kd.int .i64) 3 w10 w.heap.size (fun _ => True) v182 y181) := ⟨h0_⟩
          have n1_ : Aside0 (w10.heap[gb176]? = some (.cells #[.int .i64 a0_0, .slice A0_1 l0_1.length c0_1, .slice A0_2 l0_2.length c0_2, .slice A0_3 l0_3.length c0_3] 30 (0, 0))) := ⟨h1_⟩
          have n2_ : Aside0 (w10.heap[gb177]? = some (.cells #[.int .i64 0, .slice none 0 0, .slice none 0 0, .slice none 0 0] 30 (0, 0))) := ⟨h2_⟩
          have n3_ : Aside0 (Below w.heap.size w w10) := ⟨h3_⟩
          clear BK176 BK177 HB h0_ h1_ h2_ h3_; have HO183 := n0_; have BK176 := n1_; have BK177 := n2_; have HB := n3_; clear n0_ n1_ n2_ n3_
          have hHeld : w10.cell? ⟨gb176, 0, none⟩ = some (.int .i64 a0_0) ∧ w10.cell? ⟨gb176, 1, none⟩ = some (.slice A0_1 l0_1.length c0_1) ∧ w10.cell? ⟨gb176, 2, none⟩ = some (.slice A0_2 l0_2.length c0_2) ∧ w10.cell? ⟨gb176, 3, none⟩ = some (.slice A0_3 l0_3.length c0_3) := hS_
          refine norm_ (a' := ?_) ?_ ?_
          rotate_left
          ·simp only [putAll, Act.put, List.setIfInBounds_toArray, List.set_cons_zero, List.set_cons_succ]
           rfl
          refine two_ (i := 6) (j := 11) (Ni := some 11) (Nj := some 3) #[true, true, true, true, true, true, true, true, true, false, false, false, false] #[true, true, true, true, true, true, false, true, true, false, false, true, false] rfl rfl rfl rfl (two_of HT_.out (by kernel_rfl)) (by decide) (by decide) (fun K hK => ?_) (fun K hK => ?_)
          ·skip
           refine Kd.R_lit_step (Kd.int .i64) _ 3 ?hg (N := 11) ?hd (xs := ([] : List Int)) (inner := []) (ok := fun _ => True) (okp := fun _ => True) ?hr ?hp (fun _ hk => hk) trivial (Below.refl _ _) (Nat.le_refl _) (by simp) ?_; (case hd => rfl); (case hg => rfl); (case hr => first | (go_simp; done) | (go_simp; rfl)); (case hp => exact (Reps.none _ _))
           intro v185 w11 ho12 hb hg_ hnew_
           clear hg_ hnew_
           (first | rw [← Ny184.out] at ho12 | (simp only [Int.reduceToNat] at ho12; rw [← Ny184.out] at ho12))
           have n0_ := Aside0.mk (Kd.R_elder' (kR_ HO183.out) (Kd.R_base ho12) hb); have n1_ := Aside0.mk (Kd.R_lower (Kd.R_new' ho12 (Kd.R_lt (kR_ HO183.out))) (below_size (hbA_ HB.out))); have n2_ := (bbA_ BK176 hb); have n3_ := (bbA_ BK177 hb); have n4_ := (bs_ HB hb); clear HO183 BK176 BK177 HB; have HO183 := n0_; have HO186 := n1_; have BK176 := n2_; have BK177 := n3_; have HB := n4_; clear n0_ n1_ n2_ n3_ n4_ hb ho12
           refine hK.out _ _ (cz4 BK176.out) (fun hHeld => ?_)
           clear hK K; refine nm_ 11 ?_
           exact norm_ (by first | (simp only [putAll, Act.put, List.setIfInBounds_toArray, List.set_cons_zero, List.set_cons_succ]; done) | (simp only [putAll, Act.put, List.setIfInBounds_toArray, List.set_cons_zero, List.set_cons_succ]; rfl)) (hJ2_5_6 (v179, v182, v185) _ ⟨hHeld, (by refine kR_ ?_; first | exact Kd.R_mono HO183.out (fun _ hk => hk.2) | exact Kd.R_mono HO183.out (fun _ _ => trivial)), (by refine kR_ ?_; first | exact Kd.R_mono HO186.out (fun _ hk => hk.2) | exact Kd.R_mono HO186.out (fun _ _ => trivial)), (kb_ BK176.out), (kb_ BK177.out), (hbA_ HB.out)⟩)
          ·skip
           refine box_step ?hg (N := 3) ?hd (cs := #[.int .i64 0, .slice none 0 0, .slice none 0 0, .slice none 0 0]) (t := 30) ?hr ?_; (case hd => rfl); (case hg => rfl); (case hr => first | (go_simp; done) | (go_simp; rfl))
           intro gb190 hg w11 hbox hb
           have n0_ := Aside0.mk (Kd.R_below (kR_ HO183.out) hb); have n1_ := (bbA_ BK176 hb); have n2_ := (bbA_ BK177 hb); have n3_ := (bs_ HB hb); have n4_ := Aside0.mk (hbox); have n5_ := ge_ hg HB; have n6_ := ge_ hg HB; have n7_ := nl_ hg BK176; have n8_ := ng_ hg BK176; have n9_ := nl_ hg BK177; have n10_ := ng_ hg BK177; clear HO183 BK176 BK177 HB; have HO183 := n0_; have BK176 := n1_; have BK177 := n2_; have HB := n3_; have BK190 := n4_; have GW190 := n5_; have GE190 := n6_; have NB176_190 := n7_; have NB190_176 := n8_; have NB177_190 := n9_; have NB190_177 := n10_; clear n0_ n1_ n2_ n3_ n4_ n5_ n6_ n7_ n8_ n9_ n10_ hb hbox hg
           refine hK.out _ _ (cz4 BK176.out) (fun hHeld => ?_)
           clear hK K; refine nm_ 3 ?_
           exact norm_ (by first | (simp only [putAll, Act.put, List.setIfInBounds_toArray, List.set_cons_zero, List.set_cons_succ]; done) | (simp only [putAll, Act.put, List.setIfInBounds_toArray, List.set_cons_zero, List.set_cons_succ]; rfl)) (hJ2_5_11 (v179, v182, gb190) _ ⟨hHeld, (kR_ HO183.out), (kb_ BK176.out), (kb_ BK177.out), (kb_ BK190.out), GW190.out, GE190.out, NB176_190.out, NB190_176.out, NB177_190.out, NB190_177.out, (hbA_ HB.out)⟩)
        ·skip
         rintro ⟨v179, v185, gb190⟩ w12 ⟨hS_, h0_, h1_, h2_, h3_, h4_, h5_, h6_, h7_, h8_, h9_, h10_, h11_⟩
         have n0_ : Aside0 (Kd.R (Kd.int .i64) 3 w12 w.heap.size (fun k_ => some k_ ≠ (v185 : Value).ownBlock) v179 y178) := ⟨h0_⟩
         have n1_ : Aside0 (Kd.R (Kd.int .i64) 3 w12 w.heap.size (fun k_ => some k_ ≠ (v179 : Value).ownBlock) v185 y184) := ⟨h1_⟩
         have n2_ : Aside0 (w12.heap[gb176]? = some (.cells #[.int .i64 a0_0, .slice A0_1 l0_1.length c0_1, .slice A0_2 l0_2.length c0_2, .slice A0_3 l0_3.length c0_3] 30 (0, 0))) := ⟨h2_⟩
         have n3_ : Aside0 (w12.heap[gb177]? = some (.cells #[.int .i64 0, .slice none 0 0, .slice none 0 0, .slice none 0 0] 30 (0, 0))) := ⟨h3_⟩
         have n4_ : Aside0 (w12.heap[gb190]? = some (.cells #[.int .i64 0, .slice none 0 0, .slice none 0 0, .slice none 0 0] 30 (0, 0))) := ⟨h4_⟩
         have n5_ : Aside0 (w.heap.size ≤ gb190) := ⟨h5_⟩
         have n6_ : Aside0 (w.heap.size ≤ gb190) := ⟨h6_⟩
         have n7_ : Aside0 (gb176 ≠ gb190) := ⟨h7_⟩
         have n8_ : Aside0 (gb190 ≠ gb176) := ⟨h8_⟩
         have n9_ : Aside0 (gb177 ≠ gb190) := ⟨h9_⟩
         have n10_ : Aside0 (gb190 ≠ gb177) := ⟨h10_⟩
         have n11_ : Aside0 (Below w.heap.size w w12) := ⟨h11_⟩
         clear BK176 BK177 HB h0_ h1_ h2_ h3_ h4_ h5_ h6_ h7_ h8_ h9_ h10_ h11_; have HO180 := n0_; have HO186 := n1_; have BK176 := n2_; have BK177 := n3_; have BK190 := n4_; have GW190 := n5_; have GE190 := n6_; have NB176_190 := n7_; have NB190_176 := n8_; have NB177_190 := n9_; have NB190_177 := n10_; have HB := n11_; clear n0_ n1_ n2_ n3_ n4_ n5_ n6_ n7_ n8_ n9_ n10_ n11_
         have hHeld : w12.cell? ⟨gb176, 0, none⟩ = some (.int .i64 a0_0) ∧ w12.cell? ⟨gb176, 1, none⟩ = some (.slice A0_1 l0_1.length c0_1) ∧ w12.cell? ⟨gb176, 2, none⟩ = some (.slice A0_2 l0_2.length c0_2) ∧ w12.cell? ⟨gb176, 3, none⟩ = some (.slice A0_3 l0_3.length c0_3) := hS_
         refine norm_ (a' := ?_) ?_ ?_
         rotate_left
         ·simp only [putAll, Act.put, List.setIfInBounds_toArray, List.set_cons_zero, List.set_cons_succ]
          rfl
         refine on_ (i := 5) (N := some 10) HT_ (fun K hK => ?_)
         refine Kd.R_append_rows_step (Kd.int .i64) (w0 := w) w.heap.size (by rfl) (.tmp 7) (.tmp 9) 22 3 (.int .i64 0) 8 rfl Try.underlying22 info3 rfl (by decide) (by omega) v179 y178 l0_1 _ _ _ (fun k_ => some k_ ≠ (v185 : Value).ownBlock) (fun _ => False) rfl rfl ?aO ?aR (fun _ _ h => h) (fun _ h => h.elim) ?aF ?aB ?aS ?aL ?_
         (case aR => exact kC_ (Kd.C_below HR0_1.out HB.out))
         (case aB => exact (hbA_ HB.out))
         (case aF => exact (fun k_ hk => Kd.fresh' (Kd.R_lt (kR_ HO186.out)) k_ hk))
         (case aO => exact (kR_ HO180.out))
         (case aS => exact (below_size (hbA_ HB.out)))
         (case aL => have := LMc2.out; omega)
         intro v182 w13 ho hb hg hat
         rw [← Ny181.out] at ho
         have n0_ := (bgA_ BK176 hg (Kd.R_ne HO180.out BK176.out (by decide))); have n1_ := (bgA_ BK177 hg (Kd.R_ne HO180.out BK177.out (by decide))); have n2_ := Aside0.mk (Kd.R_after (ok := (fun _ => True)) (by refine kR_ ?_; exact Kd.R_mono HO186.out (fun _ hk => ⟨trivial, hk⟩)) hg hat); have n3_ := (bgA_ BK190 hg (Kd.R_ne HO180.out BK190.out (by decide))); have n4_ := Aside0.mk (hb); have n5_ := Aside0.mk (ho); clear BK176 BK177 HO186 BK190 HB HO180; have BK176 := n0_; have BK177 := n1_; have HO186 := n2_; have BK190 := n3_; have HB := n4_; have HO183 := n5_; clear n0_ n1_ n2_ n3_ n4_ n5_ ho hb hg hat
         refine hK.out _ _ (cz4 BK176.out) (fun hHeld => ?_)
         clear hK K; refine nm_ 10 ?_
         exact norm_ (by first | (simp only [putAll, Act.put, List.setIfInBounds_toArray, List.set_cons_zero, List.set_cons_succ]; done) | (simp only [putAll, Act.put, List.setIfInBounds_toArray, List.set_cons_zero, List.set_cons_succ]; rfl)) (hJ2_5_6_11 (v179, v182, v185, gb190) _ ⟨hHeld, (kR_ HO183.out), (by refine kR_ ?_; first | exact Kd.R_mono HO186.out (fun _ hk => hk.2) | exact Kd.R_mono HO186.out (fun _ _ => trivial)), (kb_ BK176.out), (kb_ BK177.out), (kb_ BK190.out), GW190.out, GE190.out, NB176_190.out, NB190_176.out, NB177_190.out, NB190_177.out, (hbA_ HB.out)⟩)
       ·skip
        rintro ⟨v179, v182, gb190⟩ w11 ⟨hS_, h0_, h1_, h2_, h3_, h4_, h5_, h6_, h7_, h8_, h9_, h10_⟩
        have n0_ : Aside0 (Kd.R (Kd.int .i64) 3 w11 w.heap.size (fun _ => True) v182 y181) := ⟨h0_⟩
        have n1_ : Aside0 (w11.heap[gb176]? = some (.cells #[.int .i64 a0_0, .slice A0_1 l0_1.length c0_1, .slice A0_2 l0_2.length c0_2, .slice A0_3 l0_3.length c0_3] 30 (0, 0))) := ⟨h1_⟩
        have n2_ : Aside0 (w11.heap[gb177]? = some (.cells #[.int .i64 0, .slice none 0 0, .slice none 0 0, .slice none 0 0] 30 (0, 0))) := ⟨h2_⟩
        have n3_ : Aside0 (w11.heap[gb190]? = some (.cells #[.int .i64 0, .slice none 0 0, .slice none 0 0, .slice none 0 0] 30 (0, 0))) := ⟨h3_⟩
        have n4_ : Aside0 (w.heap.size ≤ gb190) := ⟨h4_⟩
        have n5_ : Aside0 (w.heap.size ≤ gb190) := ⟨h5_⟩
        have n6_ : Aside0 (gb176 ≠ gb190) := ⟨h6_⟩
        have n7_ : Aside0 (gb190 ≠ gb176) := ⟨h7_⟩
        have n8_ : Aside0 (gb177 ≠ gb190) := ⟨h8_⟩
        have n9_ : Aside0 (gb190 ≠ gb177) := ⟨h9_⟩
        have n10_ : Aside0 (Below w.heap.size w w11) := ⟨h10_⟩
        clear BK176 BK177 HB h0_ h1_ h2_ h3_ h4_ h5_ h6_ h7_ h8_ h9_ h10_; have HO183 := n0_; have BK176 := n1_; have BK177 := n2_; have BK190 := n3_; have GW190 := n4_; have GE190 := n5_; have NB176_190 := n6_; have NB190_176 := n7_; have NB177_190 := n8_; have NB190_177 := n9_; have HB := n10_; clear n0_ n1_ n2_ n3_ n4_ n5_ n6_ n7_ n8_ n9_ n10_
        have hHeld : w11.cell? ⟨gb176, 0, none⟩ = some (.int .i64 a0_0) ∧ w11.cell? ⟨gb176, 1, none⟩ = some (.slice A0_1 l0_1.length c0_1) ∧ w11.cell? ⟨gb176, 2, none⟩ = some (.slice A0_2 l0_2.length c0_2) ∧ w11.cell? ⟨gb176, 3, none⟩ = some (.slice A0_3 l0_3.length c0_3) := hS_
        refine norm_ (a' := ?_) ?_ ?_
        rotate_left
        ·simp only [putAll, Act.put, List.setIfInBounds_toArray, List.set_cons_zero, List.set_cons_succ]
         rfl
        refine on_ (i := 6) (N := some 11) HT_ (fun K hK => ?_)
        refine Kd.R_lit_step (Kd.int .i64) _ 3 ?hg (N := 11) ?hd (xs := ([] : List Int)) (inner := []) (ok := fun _ => True) (okp := fun _ => True) ?hr ?hp (fun _ hk => hk) trivial (Below.refl _ _) (Nat.le_refl _) (by simp) ?_; (case hd => rfl); (case hg => rfl); (case hr => first | (go_simp; done) | (go_simp; rfl)); (case hp => exact (Reps.none _ _))
        intro v185 w12 ho13 hb hg_ hnew_
        clear hg_ hnew_
        (first | rw [← Ny184.out] at ho13 | (simp only [Int.reduceToNat] at ho13; rw [← Ny184.out] at ho13))
        have n0_ := Aside0.mk (Kd.R_elder' (kR_ HO183.out) (Kd.R_base ho13) hb); have n1_ := Aside0.mk (Kd.R_lower (Kd.R_new' ho13 (Kd.R_lt (kR_ HO183.out))) (below_size (hbA_ HB.out))); have n2_ := (bbA_ BK176 hb); have n3_ := (bbA_ BK177 hb); have n4_ := (bbA_ BK190 hb); have n5_ := (bs_ HB hb); clear HO183 BK176 BK177 BK190 HB; have HO183 := n0_; have HO186 := n1_; have BK176 := n2_; have BK177 := n3_; have BK190 := n4_; have HB := n5_; clear n0_ n1_ n2_ n3_ n4_ n5_ hb ho13
        refine hK.out _ _ (cz4 BK176.out) (fun hHeld => ?_)
        clear hK K; refine nm_ 11 ?_
        exact norm_ (by first | (simp only [putAll, Act.put, List.setIfInBounds_toArray, List.set_cons_zero, List.set_cons_succ]; done) | (simp only [putAll, Act.put, List.setIfInBounds_toArray, List.set_cons_zero, List.set_cons_succ]; rfl)) (hJ2_5_6_11 (v179, v182, v185, gb190) _ ⟨hHeld, (by refine kR_ ?_; first | exact Kd.R_mono HO183.out (fun _ hk => hk.2) | exact Kd.R_mono HO183.out (fun _ _ => trivial)), (by refine kR_ ?_; first | exact Kd.R_mono HO186.out (fun _ hk => hk.2) | exact Kd.R_mono HO186.out (fun _ _ => trivial)), (kb_ BK176.out), (kb_ BK177.out), (kb_ BK190.out), GW190.out, GE190.out, NB176_190.out, NB190_176.out, NB177_190.out, NB190_177.out, (hbA_ HB.out)⟩)
      ·skip
       rintro ⟨v179, v182, v185⟩ w12 ⟨hS_, h0_, h1_, h2_, h3_, h4_⟩
       have n0_ : Aside0 (Kd.R (Kd.int .i64) 3 w12 w.heap.size (fun k_ => some k_ ≠ (v185 : Value).ownBlock) v182 y181) := ⟨h0_⟩
       have n1_ : Aside0 (Kd.R (Kd.int .i64) 3 w12 w.heap.size (fun k_ => some k_ ≠ (v182 : Value).ownBlock) v185 y184) := ⟨h1_⟩
       have n2_ : Aside0 (w12.heap[gb176]? = some (.cells #[.int .i64 a0_0, .slice A0_1 l0_1.length c0_1, .slice A0_2 l0_2.length c0_2, .slice A0_3 l0_3.length c0_3] 30 (0, 0))) := ⟨h2_⟩
       have n3_ : Aside0 (w12.heap[gb177]? = some (.cells #[.int .i64 0, .slice none 0 0, .slice none 0 0, .slice none 0 0] 30 (0, 0))) := ⟨h3_⟩
       have n4_ : Aside0 (Below w.heap.size w w12) := ⟨h4_⟩
       clear BK176 BK177 HB h0_ h1_ h2_ h3_ h4_; have HO183 := n0_; have HO186 := n1_; have BK176 := n2_; have BK177 := n3_; have HB := n4_; clear n0_ n1_ n2_ n3_ n4_
       have hHeld : w12.cell? ⟨gb176, 0, none⟩ = some (.int .i64 a0_0) ∧ w12.cell? ⟨gb176, 1, none⟩ = some (.slice A0_1 l0_1.length c0_1) ∧ w12.cell? ⟨gb176, 2, none⟩ = some (.slice A0_2 l0_2.length c0_2) ∧ w12.cell? ⟨gb176, 3, none⟩ = some (.slice A0_3 l0_3.length c0_3) := hS_
       refine norm_ (a' := ?_) ?_ ?_
       rotate_left
       ·simp only [putAll, Act.put, List.setIfInBounds_toArray, List.set_cons_zero, List.set_cons_succ]
        rfl
       refine two_ (i := 9) (j := 11) (Ni := some 14) (Nj := some 3) #[true, true, true, true, true, true, true, true, true, true, false, false, false] #[true, true, true, true, true, true, true, true, true, false, false, true, false] rfl rfl rfl rfl (two_of HT_.out (by kernel_rfl)) (by decide) (by decide) (fun K hK => ?_) (fun K hK => ?_)
       ·skip
        refine Kd.R_append_rows_step (Kd.int .i64) (w0 := w) w.heap.size (by rfl) (.tmp 11) (.tmp 13) 22 3 (.int .i64 0) 8 rfl Try.underlying22 info3 rfl (by decide) (by omega) v185 y184 l0_3 _ _ _ (fun k_ => some k_ ≠ (v182 : Value).ownBlock) (fun _ => False) rfl rfl ?aO ?aR (fun _ _ h => h) (fun _ h => h.elim) ?aF ?aB ?aS ?aL ?_
        (case aR => exact kC_ (Kd.C_below HR0_3.out HB.out))
        (case aB => exact (hbA_ HB.out))
        (case aF => exact (fun k_ hk => Kd.fresh' (Kd.R_lt (kR_ HO183.out)) k_ hk))
        (case aO => exact (kR_ HO186.out))
        (case aS => exact (below_size (hbA_ HB.out)))
        (case aL => have := LMc3.out; omega)
        intro v188 w13 ho hb hg hat
        rw [← Ny187.out] at ho
        have n0_ := (bgA_ BK176 hg (Kd.R_ne HO186.out BK176.out (by decide))); have n1_ := (bgA_ BK177 hg (Kd.R_ne HO186.out BK177.out (by decide))); have n2_ := Aside0.mk (Kd.R_after (ok := (fun _ => True)) (by refine kR_ ?_; exact Kd.R_mono HO183.out (fun _ hk => ⟨trivial, hk⟩)) hg hat); have n3_ := Aside0.mk (hb); have n4_ := Aside0.mk (ho); clear BK176 BK177 HO183 HB HO186; have BK176 := n0_; have BK177 := n1_; have HO183 := n2_; have HB := n3_; have HO189 := n4_; clear n0_ n1_ n2_ n3_ n4_ ho hb hg hat
        obtain ⟨Ao14, co14, eo14⟩ := Kd.R_slice HO189.out
        (first | subst eo14 | (injection eo14 with f1_ f2_ f3_; have f4_ := f1_.symm; have f5_ := f3_.symm; clear f1_ f2_ f3_; subst f4_; subst f5_))
        obtain ⟨Ao15, co15, eo15⟩ := Kd.R_slice HO183.out
        (first | subst eo15 | (injection eo15 with f1_ f2_ f3_; have f4_ := f1_.symm; have f5_ := f3_.symm; clear f1_ f2_ f3_; subst f4_; subst f5_))
        refine hK.out _ _ (cz4 BK176.out) (fun hHeld => ?_)
        clear hK K; refine nm_ 14 ?_; refine pu_ (i := 10) (N := some 15) HT_ ?_
        exact norm_ (by first | (simp only [putAll, Act.put, List.setIfInBounds_toArray, List.set_cons_zero, List.set_cons_succ]; done) | (simp only [putAll, Act.put, List.setIfInBounds_toArray, List.set_cons_zero, List.set_cons_succ]; rfl)) (hJ2_5_6_9 (v179, .slice Ao15 y181.length co15, v185, .slice Ao14 y187.length co14) _ ⟨hHeld, (by refine kR_ ?_; first | exact Kd.R_mono HO183.out (fun _ hk => hk.2) | exact Kd.R_mono HO183.out (fun _ _ => trivial)), (kR_ HO189.out), (kb_ BK176.out), (kb_ BK177.out), (hbA_ HB.out)⟩)
       ·skip
        refine box_step ?hg (N := 3) ?hd (cs := #[.int .i64 0, .slice none 0 0, .slice none 0 0, .slice none 0 0]) (t := 30) ?hr ?_; (case hd => rfl); (case hg => rfl); (case hr => first | (go_simp; done) | (go_simp; rfl))
        intro gb190 hg w13 hbox hb
        have n0_ := Aside0.mk (Kd.R_below (kR_ HO183.out) hb); have n1_ := Aside0.mk (Kd.R_below (kR_ HO186.out) hb); have n2_ := (bbA_ BK176 hb); have n3_ := (bbA_ BK177 hb); have n4_ := (bs_ HB hb); have n5_ := Aside0.mk (hbox); have n6_ := ge_ hg HB; have n7_ := ge_ hg HB; have n8_ := nl_ hg BK176; have n9_ := ng_ hg BK176; have n10_ := nl_ hg BK177; have n11_ := ng_ hg BK177; clear HO183 HO186 BK176 BK177 HB; have HO183 := n0_; have HO186 := n1_; have BK176 := n2_; have BK177 := n3_; have HB := n4_; have BK190 := n5_; have GW190 := n6_; have GE190 := n7_; have NB176_190 := n8_; have NB190_176 := n9_; have NB177_190 := n10_; have NB190_177 := n11_; clear n0_ n1_ n2_ n3_ n4_ n5_ n6_ n7_ n8_ n9_ n10_ n11_ hb hbox hg
        refine hK.out _ _ (cz4 BK176.out) (fun hHeld => ?_)
        clear hK K; refine nm_ 3 ?_
        exact norm_ (by first | (simp only [putAll, Act.put, List.setIfInBounds_toArray, List.set_cons_zero, List.set_cons_succ]; done) | (simp only [putAll, Act.put, List.setIfInBounds_toArray, List.set_cons_zero, List.set_cons_succ]; rfl)) (hJ2_5_6_11 (v179, v182, v185, gb190) _ ⟨hHeld, (kR_ HO183.out), (kR_ HO186.out), (kb_ BK176.out), (kb_ BK177.out), (kb_ BK190.out), GW190.out, GE190.out, NB176_190.out, NB190_176.out, NB177_190.out, NB190_177.out, (hbA_ HB.out)⟩)
     ·skip
      rintro ⟨v179, v182, v185, gb190⟩ w13 ⟨hS_, h0_, h1_, h2_, h3_, h4_, h5_, h6_, h7_, h8_, h9_, h10_, h11_⟩
      have n0_ : Aside0 (Kd.R (Kd.int .i64) 3 w13 w.heap.size (fun k_ => some k_ ≠ (v185 : Value).ownBlock) v182 y181) := ⟨h0_⟩
      have n1_ : Aside0 (Kd.R (Kd.int .i64) 3 w13 w.heap.size (fun k_ => some k_ ≠ (v182 : Value).ownBlock) v185 y184) := ⟨h1_⟩
      have n2_ : Aside0 (w13.heap[gb176]? = some (.cells #[.int .i64 a0_0, .slice A0_1 l0_1.length c0_1, .slice A0_2 l0_2.length c0_2, .slice A0_3 l0_3.length c0_3] 30 (0, 0))) := ⟨h2_⟩
      have n3_ : Aside0 (w13.heap[gb177]? = some (.cells #[.int .i64 0, .slice none 0 0, .slice none 0 0, .slice none 0 0] 30 (0, 0))) := ⟨h3_⟩
      have n4_ : Aside0 (w13.heap[gb190]? = some (.cells #[.int .i64 0, .slice none 0 0, .slice none 0 0, .slice none 0 0] 30 (0, 0))) := ⟨h4_⟩
      have n5_ : Aside0 (w.heap.size ≤ gb190) := ⟨h5_⟩
      have n6_ : Aside0 (w.heap.size ≤ gb190) := ⟨h6_⟩
      have n7_ : Aside0 (gb176 ≠ gb190) := ⟨h7_⟩
      have n8_ : Aside0 (gb190 ≠ gb176) := ⟨h8_⟩
      have n9_ : Aside0 (gb177 ≠ gb190) := ⟨h9_⟩
      have n10_ : Aside0 (gb190 ≠ gb177) := ⟨h10_⟩
      have n11_ : Aside0 (Below w.heap.size w w13) := ⟨h11_⟩
      clear BK176 BK177 HB h0_ h1_ h2_ h3_ h4_ h5_ h6_ h7_ h8_ h9_ h10_ h11_; have HO183 := n0_; have HO186 := n1_; have BK176 := n2_; have BK177 := n3_; have BK190 := n4_; have GW190 := n5_; have GE190 := n6_; have NB176_190 := n7_; have NB190_176 := n8_; have NB177_190 := n9_; have NB190_177 := n10_; have HB := n11_; clear n0_ n1_ n2_ n3_ n4_ n5_ n6_ n7_ n8_ n9_ n10_ n11_
      have hHeld : w13.cell? ⟨gb176, 0, none⟩ = some (.int .i64 a0_0) ∧ w13.cell? ⟨gb176, 1, none⟩ = some (.slice A0_1 l0_1.length c0_1) ∧ w13.cell? ⟨gb176, 2, none⟩ = some (.slice A0_2 l0_2.length c0_2) ∧ w13.cell? ⟨gb176, 3, none⟩ = some (.slice A0_3 l0_3.length c0_3) := hS_
      refine norm_ (a' := ?_) ?_ ?_
      rotate_left
      ·simp only [putAll, Act.put, List.setIfInBounds_toArray, List.set_cons_zero, List.set_cons_succ]
       rfl
      refine on_ (i := 9) (N := some 14) HT_ (fun K hK => ?_)
      refine Kd.R_append_rows_step (Kd.int .i64) (w0 := w) w.heap.size (by rfl) (.tmp 11) (.tmp 13) 22 3 (.int .i64 0) 8 rfl Try.underlying22 info3 rfl (by decide) (by omega) v185 y184 l0_3 _ _ _ (fun k_ => some k_ ≠ (v182 : Value).ownBlock) (fun _ => False) rfl rfl ?aO ?aR (fun _ _ h => h) (fun _ h => h.elim) ?aF ?aB ?aS ?aL ?_
      (case aR => exact kC_ (Kd.C_below HR0_3.out HB.out))
      (case aB => exact (hbA_ HB.out))
      (case aF => exact (fun k_ hk => Kd.fresh' (Kd.R_lt (kR_ HO183.out)) k_ hk))
      (case aO => exact (kR_ HO186.out))
      (case aS => exact (below_size (hbA_ HB.out)))
      (case aL => have := LMc3.out; omega)
      intro v188 w14 ho hb hg hat
      rw [← Ny187.out] at ho
      have n0_ := (bgA_ BK176 hg (Kd.R_ne HO186.out BK176.out (by decide))); have n1_ := (bgA_ BK177 hg (Kd.R_ne HO186.out BK177.out (by decide))); have n2_ := Aside0.mk (Kd.R_after (ok := (fun _ => True)) (by refine kR_ ?_; exact Kd.R_mono HO183.out (fun _ hk => ⟨trivial, hk⟩)) hg hat); have n3_ := (bgA_ BK190 hg (Kd.R_ne HO186.out BK190.out (by decide))); have n4_ := Aside0.mk (hb); have n5_ := Aside0.mk (ho); clear BK176 BK177 HO183 BK190 HB HO186; have BK176 := n0_; have BK177 := n1_; have HO183 := n2_; have BK190 := n3_; have HB := n4_; have HO189 := n5_; clear n0_ n1_ n2_ n3_ n4_ n5_ ho hb hg hat
      obtain ⟨Ao15, co15, eo15⟩ := Kd.R_slice HO189.out
      (first | subst eo15 | (injection eo15 with f1_ f2_ f3_; have f4_ := f1_.symm; have f5_ := f3_.symm; clear f1_ f2_ f3_; subst f4_; subst f5_))
      obtain ⟨Ao16, co16, eo16⟩ := Kd.R_slice HO183.out
      (first | subst eo16 | (injection eo16 with f1_ f2_ f3_; have f4_ := f1_.symm; have f5_ := f3_.symm; clear f1_ f2_ f3_; subst f4_; subst f5_))
      refine hK.out _ _ (cz4 BK176.out) (fun hHeld => ?_)
      clear hK K; refine nm_ 14 ?_; refine pu_ (i := 10) (N := some 15) HT_ ?_
      exact norm_ (by first | (simp only [putAll, Act.put, List.setIfInBounds_toArray, List.set_cons_zero, List.set_cons_succ]; done) | (simp only [putAll, Act.put, List.setIfInBounds_toArray, List.set_cons_zero, List.set_cons_succ]; rfl)) (hJ2_5_6_9_11 (v179, .slice Ao16 y181.length co16, v185, .slice Ao15 y187.length co15, gb190) _ ⟨hHeld, (by refine kR_ ?_; first | exact Kd.R_mono HO183.out (fun _ hk => hk.2) | exact Kd.R_mono HO183.out (fun _ _ => trivial)), (kR_ HO189.out), (kb_ BK176.out), (kb_ BK177.out), (kb_ BK190.out), GW190.out, GE190.out, NB176_190.out, NB190_176.out, NB177_190.out, NB190_177.out, (hbA_ HB.out)⟩)
    ·skip
     rintro ⟨v179, v182, v185, v188⟩ w15 ⟨hS_, h0_, h1_, h2_, h3_, h4_⟩
     have n0_ : Aside0 (Kd.R (Kd.int .i64) 3 w15 w.heap.size (fun k_ => some k_ ≠ (v188 : Value).ownBlock) v182 y181) := ⟨h0_⟩
     have n1_ : Aside0 (Kd.R (Kd.int .i64) 3 w15 w.heap.size (fun k_ => some k_ ≠ (v182 : Value).ownBlock) v188 y187) := ⟨h1_⟩
     have n2_ : Aside0 (w15.heap[gb176]? = some (.cells #[.int .i64 a0_0, .slice A0_1 l0_1.length c0_1, .slice A0_2 l0_2.length c0_2, .slice A0_3 l0_3.length c0_3] 30 (0, 0))) := ⟨h2_⟩
     have n3_ : Aside0 (w15.heap[gb177]? = some (.cells #[.int .i64 0, .slice none 0 0, .slice none 0 0, .slice none 0 0] 30 (0, 0))) := ⟨h3_⟩
     have n4_ : Aside0 (Below w.heap.size w w15) := ⟨h4_⟩
     clear BK176 BK177 HB h0_ h1_ h2_ h3_ h4_; have HO183 := n0_; have HO189 := n1_; have BK176 := n2_; have BK177 := n3_; have HB := n4_; clear n0_ n1_ n2_ n3_ n4_
     have hHeld : w15.cell? ⟨gb176, 0, none⟩ = some (.int .i64 a0_0) ∧ w15.cell? ⟨gb176, 1, none⟩ = some (.slice A0_1 l0_1.length c0_1) ∧ w15.cell? ⟨gb176, 2, none⟩ = some (.slice A0_2 l0_2.length c0_2) ∧ w15.cell? ⟨gb176, 3, none⟩ = some (.slice A0_3 l0_3.length c0_3) := hS_
     obtain ⟨Ao16, co16, eo16⟩ := Kd.R_slice HO189.out
     (first | subst eo16 | (injection eo16 with f1_ f2_ f3_; have f4_ := f1_.symm; have f5_ := f3_.symm; clear f1_ f2_ f3_; subst f4_; subst f5_))
     obtain ⟨Ao17, co17, eo17⟩ := Kd.R_slice HO183.out
     (first | subst eo17 | (injection eo17 with f1_ f2_ f3_; have f4_ := f1_.symm; have f5_ := f3_.symm; clear f1_ f2_ f3_; subst f4_; subst f5_))
     refine norm_ (a' := ?_) ?_ ?_
     rotate_left
     ·simp only [putAll, Act.put, List.setIfInBounds_toArray, List.set_cons_zero, List.set_cons_succ]
      rfl
     refine on_ (i := 11) (N := some 3) HT_ (fun K hK => ?_)
     refine box_step ?hg (N := 3) ?hd (cs := #[.int .i64 0, .slice none 0 0, .slice none 0 0, .slice none 0 0]) (t := 30) ?hr ?_; (case hd => rfl); (case hg => rfl); (case hr => first | (go_simp; done) | (go_simp; rfl))
     intro gb190 hg w18 hbox hb
     have n0_ := Aside0.mk (Kd.R_below (kR_ HO183.out) hb); have n1_ := Aside0.mk (Kd.R_below (kR_ HO189.out) hb); have n2_ := (bbA_ BK176 hb); have n3_ := (bbA_ BK177 hb); have n4_ := (bs_ HB hb); have n5_ := Aside0.mk (hbox); have n6_ := ge_ hg HB; have n7_ := ge_ hg HB; have n8_ := nl_ hg BK176; have n9_ := ng_ hg BK176; have n10_ := nl_ hg BK177; have n11_ := ng_ hg BK177; clear HO183 HO189 BK176 BK177 HB; have HO183 := n0_; have HO189 := n1_; have BK176 := n2_; have BK177 := n3_; have HB := n4_; have BK190 := n5_; have GW190 := n6_; have GE190 := n7_; have NB176_190 := n8_; have NB190_176 := n9_; have NB177_190 := n10_; have NB190_177 := n11_; clear n0_ n1_ n2_ n3_ n4_ n5_ n6_ n7_ n8_ n9_ n10_ n11_ hb hbox hg
     refine hK.out _ _ (cz4 BK176.out) (fun hHeld => ?_)
     clear hK K; refine nm_ 3 ?_
     exact norm_ (by first | (simp only [putAll, Act.put, List.setIfInBounds_toArray, List.set_cons_zero, List.set_cons_succ]; done) | (simp only [putAll, Act.put, List.setIfInBounds_toArray, List.set_cons_zero, List.set_cons_succ]; rfl)) (hJ2_5_6_9_11 (v179, .slice Ao17 y181.length co17, v185, .slice Ao16 y187.length co16, gb190) _ ⟨hHeld, (kR_ HO183.out), (kR_ HO189.out), (kb_ BK176.out), (kb_ BK177.out), (kb_ BK190.out), GW190.out, GE190.out, NB176_190.out, NB190_176.out, NB177_190.out, NB190_177.out, (hbA_ HB.out)⟩)
   rintro ⟨v179, v182, v185, v188, gb190⟩ w16 ⟨hS_, h0_, h1_, h2_, h3_, h4_, h5_, h6_, h7_, h8_, h9_, h10_, h11_⟩
   have n0_ : Aside0 (Kd.R (Kd.int .i64) 3 w16 w.heap.size (fun k_ => some k_ ≠ (v188 : Value).ownBlock) v182 y181) := ⟨h0_⟩
   have n1_ : Aside0 (Kd.R (Kd.int .i64) 3 w16 w.heap.size (fun k_ => some k_ ≠ (v182 : Value).ownBlock) v188 y187) := ⟨h1_⟩
   have n2_ : Aside0 (w16.heap[gb176]? = some (.cells #[.int .i64 a0_0, .slice A0_1 l0_1.length c0_1, .slice A0_2 l0_2.length c0_2, .slice A0_3 l0_3.length c0_3] 30 (0, 0))) := ⟨h2_⟩
   have n3_ : Aside0 (w16.heap[gb177]? = some (.cells #[.int .i64 0, .slice none 0 0, .slice none 0 0, .slice none 0 0] 30 (0, 0))) := ⟨h3_⟩
   have n4_ : Aside0 (w16.heap[gb190]? = some (.cells #[.int .i64 0, .slice none 0 0, .slice none 0 0, .slice none 0 0] 30 (0, 0))) := ⟨h4_⟩
   have n5_ : Aside0 (w.heap.size ≤ gb190) := ⟨h5_⟩
   have n6_ : Aside0 (w.heap.size ≤ gb190) := ⟨h6_⟩
   have n7_ : Aside0 (gb176 ≠ gb190) := ⟨h7_⟩
   have n8_ : Aside0 (gb190 ≠ gb176) := ⟨h8_⟩
   have n9_ : Aside0 (gb177 ≠ gb190) := ⟨h9_⟩
   have n10_ : Aside0 (gb190 ≠ gb177) := ⟨h10_⟩
   have n11_ : Aside0 (Below w.heap.size w w16) := ⟨h11_⟩
   clear BK176 BK177 HB h0_ h1_ h2_ h3_ h4_ h5_ h6_ h7_ h8_ h9_ h10_ h11_; have HO183 := n0_; have HO189 := n1_; have BK176 := n2_; have BK177 := n3_; have BK190 := n4_; have GW190 := n5_; have GE190 := n6_; have NB176_190 := n7_; have NB190_176 := n8_; have NB177_190 := n9_; have NB190_177 := n10_; have HB := n11_; clear n0_ n1_ n2_ n3_ n4_ n5_ n6_ n7_ n8_ n9_ n10_ n11_
   have hHeld : w16.cell? ⟨gb176, 0, none⟩ = some (.int .i64 a0_0) ∧ w16.cell? ⟨gb176, 1, none⟩ = some (.slice A0_1 l0_1.length c0_1) ∧ w16.cell? ⟨gb176, 2, none⟩ = some (.slice A0_2 l0_2.length c0_2) ∧ w16.cell? ⟨gb176, 3, none⟩ = some (.slice A0_3 l0_3.length c0_3) := hS_
   obtain ⟨Ao17, co17, eo17⟩ := Kd.R_slice HO189.out
   (first | subst eo17 | (injection eo17 with f1_ f2_ f3_; have f4_ := f1_.symm; have f5_ := f3_.symm; clear f1_ f2_ f3_; subst f4_; subst f5_))
   obtain ⟨Ao18, co18, eo18⟩ := Kd.R_slice HO183.out
   (first | subst eo18 | (injection eo18 with f1_ f2_ f3_; have f4_ := f1_.symm; have f5_ := f3_.symm; clear f1_ f2_ f3_; subst f4_; subst f5_))
   refine norm_ (a' := ?_) ?_ ?_
   rotate_left
   ·simp only [putAll, Act.put, List.setIfInBounds_toArray, List.set_cons_zero, List.set_cons_succ]
    rfl
   refine on_ (i := 12) (N := none) HT_ (fun K hK => ?_)
   have hs19 : w16.cell? ⟨gb190, 0, none⟩ = some (.int .i64 0) := bc_ BK190 0
   have hfs19 := blk_frozen BK190.out 0
   have hns19_0 := NB176_190.out; have hns19_1 := NB177_190.out; have hms19_0 := NB190_176.out; have hms19_1 := NB190_177.out
   have hs20 : w16.cell? ⟨gb190, 1, none⟩ = some (.slice none 0 0) := bc_ BK190 1
   have hfs20 := blk_frozen BK190.out 1
   have hns20_0 := NB176_190.out; have hns20_1 := NB177_190.out; have hms20_0 := NB190_176.out; have hms20_1 := NB190_177.out
   have hs21 : w16.cell? ⟨gb190, 2, none⟩ = some (.slice none 0 0) := bc_ BK190 2
   have hfs21 := blk_frozen BK190.out 2
   have hns21_0 := NB176_190.out; have hns21_1 := NB177_190.out; have hms21_0 := NB190_176.out; have hms21_1 := NB190_177.out
   have hs22 : w16.cell? ⟨gb190, 3, none⟩ = some (.slice none 0 0) := bc_ BK190 3
   have hfs22 := blk_frozen BK190.out 3
   have hns22_0 := NB176_190.out; have hns22_1 := NB177_190.out; have hms22_0 := NB190_176.out; have hms22_1 := NB190_177.out
   refine skip_ (w1 := ?_) (by rfl) rfl ?_ ?_
   rotate_left
   ·go_simp
    rfl
   refine hK.out _ _ ⟨((cell_far (p := ⟨gb190, _, none⟩) NB176_190.out _).trans (((cell_far (p := ⟨gb190, _, none⟩) NB176_190.out _).trans (((cell_far (p := ⟨gb190, _, none⟩) NB176_190.out _).trans (((cell_far (p := ⟨gb190, _, none⟩) NB176_190.out _).trans (hHeld.1)))))))), ((cell_far (p := ⟨gb190, _, none⟩) NB176_190.out _).trans (((cell_far (p := ⟨gb190, _, none⟩) NB176_190.out _).trans (((cell_far (p := ⟨gb190, _, none⟩) NB176_190.out _).trans (((cell_far (p := ⟨gb190, _, none⟩) NB176_190.out _).trans (hHeld.2.1)))))))), ((cell_far (p := ⟨gb190, _, none⟩) NB176_190.out _).trans (((cell_far (p := ⟨gb190, _, none⟩) NB176_190.out _).trans (((cell_far (p := ⟨gb190, _, none⟩) NB176_190.out _).trans (((cell_far (p := ⟨gb190, _, none⟩) NB176_190.out _).trans (hHeld.2.2.1)))))))), ((cell_far (p := ⟨gb190, _, none⟩) NB176_190.out _).trans (((cell_far (p := ⟨gb190, _, none⟩) NB176_190.out _).trans (((cell_far (p := ⟨gb190, _, none⟩) NB176_190.out _).trans (((cell_far (p := ⟨gb190, _, none⟩) NB176_190.out _).trans (hHeld.2.2.2))))))))⟩ (fun hHeld => ?_)
   clear hK K
   refine done_ (done_of HT_.out (by kernel_rfl)) ?_
   try go_wp2
   go_loopg [4] k (fun kq v4 w' => ∃ (x4_1 : Int) (x191002_1 : List (S41)) (u191002 : Value), v4 = .int .i64 x4_1 ∧ Aside0 (spec_l20Client.l0 kq x4_1 a0_0 l0_1 l0_2 l0_3 a0_0 y181 x191002_1 y187 = some (r1, r2, r3, r4)) ∧ Aside0 (kq ≤ k) ∧ Aside0 (Kd.R (Kd.int .i64) 3 w' w.heap.size (fun k_ => some k_ ≠ ((.slice Ao17 y187.length co17) : Value).ownBlock) (.slice Ao18 y181.length co18) y181) ∧ Aside0 (Kd.S k41 41 w' w.heap.size (fun _ => True) u191002 x191002_1) ∧ Aside0 (Kd.R (Kd.int .i64) 3 w' w.heap.size (fun k_ => some k_ ≠ ((.slice Ao18 y181.length co18) : Value).ownBlock) (.slice Ao17 y187.length co17) y187) ∧ Aside0 (w'.heap[gb176]? = some (.cells #[.int .i64 a0_0, (.slice A0_1 l0_1.length c0_1), (.slice A0_2 l0_2.length c0_2), (.slice A0_3 l0_3.length c0_3)] 30 (0, 0))) ∧ Aside0 (w'.heap[gb177]? = some (.cells #[.int .i64 0, (.slice none 0 0), (.slice none 0 0), (.slice none 0 0)] 30 (0, 0))) ∧ Aside0 (w'.heap[gb190]? = some (.cells #[.int .i64 a0_0, (.slice Ao18 y181.length co18), u191002, (.slice Ao17 y187.length co17)] 30 (0, 0))) ∧ Aside0 (Below w.heap.size w w'))
   case atStart => exact ⟨(0), (([] : List (S41))), (.slice none 0 0), (by first | rfl | (simp; done) | (simp [*]; done)), H', ⟨Nat.le_refl _⟩, ⟨by refine kR_ ?_; exact rfm_ ((Kd.R_types HO183.out BK190.out (by decide))) (fun _ hk => hk.1)⟩, ⟨by first | exact Kd.S_nil _ _ _ _ _ | exact Kd.N_nil _ _ _ _ _ | exact Kd.V_nil _ _ _ _ _ | exact Kd.Q_nil _ _ _ _ _ | exact Kd.R_nil _ _ _ _ _⟩, ⟨by refine kR_ ?_; exact rfm_ ((Kd.R_types HO189.out BK190.out (by decide))) (fun _ hk => hk.1)⟩, ⟨by exact kf_ BK176.out⟩, ⟨by exact kf_ BK177.out⟩, ⟨by refine kb_ ?_; refine pz4 (cs := #[.int .i64 0, .slice none 0 0, .slice none 0 0, .slice none 0 0]) ?_; refine kb_ ?_; exact BK190.out⟩, ⟨hbA_ HB.out⟩⟩
   case round =>
    clear H'; (try clear c2); (try clear p2); (try clear c3)
    obtain ⟨x4_1, x191002_1, u191002, rfl, HA, HK1, HO_191001, HO_191002, HO_191003, BK176, BK177, BK190, HB⟩ := hrel
    cases gk with
    | zero => exact absurd HA.out (by simp [spec_l20Client.l0])
    | succ k1 =>
     have H := HA.out; clear HA
     simp only [spec_l20Client.l0] at H
     by_cases c23 : x4_1 < (l0_2.length : Int)
     ·rw [if_pos c23] at H
      have c23b0 : decide (x4_1 < (l0_2.length : Int)) = true := decide_eq_true c23
      clear c23
      by_cases c24 : 0 ≤ x4_1
      ·rw [if_pos c24] at H
       have c24b0 : decide (0 ≤ x4_1) = true := decide_eq_true c24
       clear c24
       obtain ⟨y192, hy192⟩ : ∃ y_ : List Int, y_ = (([] : List Int)) := ⟨_, rfl⟩
       (first | replace H := sb_ hy192 H | rw [← hy192] at H)
       have Ny192 := Aside0.mk hy192; clear hy192
       by_cases c25 : y192.length + ((rd_T41 l0_2 x4_1).f1).length < 140737488355328
       ·rw [if_pos c25] at H
        have LMc25 := Aside0.mk c25; clear c25
        obtain ⟨y196, hy196⟩ : ∃ y_ : List Int, y_ = (y192 ++ ((rd_T41 l0_2 x4_1).f1)) := ⟨_, rfl⟩
        (first | replace H := sb_ hy196 H | rw [← hy196] at H)
        have Ny196 := Aside0.mk hy196; clear hy196
        by_cases c26 : x191002_1.length < 4398046511104
        ·rw [if_pos c26] at H
         have LMc26 := Aside0.mk c26; clear c26
         obtain ⟨y199, hy199⟩ : ∃ y_ : List (S41), y_ = (x191002_1 ++ [(⟨(rd_T41 l0_2 x4_1).f0, y196⟩ : S41)]) := ⟨_, rfl⟩
         (first | replace H := sb_ hy199 H | rw [← hy199] at H)
         have Ny199 := Aside0.mk hy199; clear hy199
         have H' := Aside0.mk H
         clear H; have hnb27 := NB176_177.out; have hnc27 := NB177_176.out; have hnb28 := NB176_190.out; have hnc28 := NB190_176.out; have Z29 := zz4 BK176
         try go_wp2
         replace HO_191001 := Aside0.mk (Kd.R_drew HO_191001.out); replace HO_191002 := Aside0.mk (Kd.S_drew HO_191002.out); replace HO_191003 := Aside0.mk (Kd.R_drew HO_191003.out); replace BK176 := Aside0.mk (blk_drew BK176.out); replace BK177 := Aside0.mk (blk_drew BK177.out); replace BK190 := Aside0.mk (blk_drew BK190.out); replace HB := (bd_ HB)
         have p191 : 0 ≤ (x4_1 : Int) := of_decide_eq_true (by first | (with_reducible assumption) | assumption)
         have q191 : x4_1 < (l0_2.length : Int) := of_decide_eq_true (by first | (with_reducible assumption) | assumption)
         obtain ⟨ad191, A191_1, c191_1, e191, hx191_0, hx191_1, hl191_1, hi191_1⟩ := at_T41 HR0_2.out x4_1 p191 q191
         have hw191_1 := hx191_1; have hw191_0 := hx191_0
         cases e191
         replace hx191_0 := cc_ HB hx191_0
         replace hx191_1 := cc_ HB hx191_1
         have HR191_1 := Aside0.mk hi191_1; have HC191_1 := Aside0.mk hl191_1; clear hi191_1 hl191_1
         replace p191 := eq_true p191
         replace q191 := eq_true q191
         have p195 : 0 ≤ (x4_1 : Int) := of_decide_eq_true (by first | (with_reducible assumption) | assumption)
         have q195 : x4_1 < (l0_2.length : Int) := of_decide_eq_true (by first | (with_reducible assumption) | assumption)
         obtain ⟨ad195, A195_1, c195_1, e195, hx195_0, hx195_1, hl195_1, hi195_1⟩ := at_T41 HR0_2.out x4_1 p195 q195
         have hw195_1 := hx195_1; have hw195_0 := hx195_0
         obtain rfl : ad191 = ad195 := (by injection e195)
         replace hx195_0 := cc_ HB hx195_0
         replace hx195_1 := cc_ HB hx195_1
         have HR195_1 := Aside0.mk hi195_1; have HC195_1 := Aside0.mk hl195_1; clear hi195_1 hl195_1
         replace p195 := eq_true p195
         replace q195 := eq_true q195
         have ea_ := Option.some.inj (hx191_1.symm.trans hx195_1)
         injection ea_ with ea_ en_ ec_
         subst ea_; subst ec_; clear en_
         refine start_ (n := 21) (S := fun w' => w'.cell? ⟨gb190, 0, none⟩ = some (.int .i64 a0_0) ∧ w'.cell? ⟨gb190, 1, none⟩ = some (.slice Ao18 y181.length co18) ∧ w'.cell? ⟨gb190, 2, none⟩ = some (u191002) ∧ w'.cell? ⟨gb190, 3, none⟩ = some (.slice Ao17 y187.length co17) ∧ w'.cell? ⟨gb176, 0, none⟩ = some (.int .i64 a0_0) ∧ w'.cell? ⟨gb176, 1, none⟩ = some (.slice A0_1 l0_1.length c0_1) ∧ w'.cell? ⟨gb176, 2, none⟩ = some (.slice (some ad191) l0_2.length c0_2) ∧ w'.cell? ⟨gb176, 3, none⟩ = some (.slice A0_3 l0_3.length c0_3) ∧ w'.cell? (ad191.add ((x4_1).toNat * 2)) = some (.int .i64 ((rd_T41 l0_2 x4_1).f0)) ∧ w'.cell? ⟨(ad191.add ((x4_1).toNat * 2)).block, (ad191.add ((x4_1).toNat * 2)).off + 1, none⟩ = some (.slice A191_1 ((rd_T41 l0_2 x4_1).f1).length c191_1) ∧ w'.cell? (ad191.add ((x4_1).toNat * 2)) = some (.int .i64 ((rd_T41 l0_2 x4_1).f0)) ∧ w'.cell? ⟨(ad191.add ((x4_1).toNat * 2)).block, (ad191.add ((x4_1).toNat * 2)).off + 1, none⟩ = some (.slice A191_1 ((rd_T41 l0_2 x4_1).f1).length c191_1)) (ds := [20]) #[false, false, false, false, false, false, false, false, false, false, false, false, false, false, false, false, false, false, false, false, false] (by kernel_rfl) rfl rfl ⟨bc_ BK190 0, bc_ BK190 1, bc_ BK190 2, bc_ BK190 3, bc_ BK176 0, bc_ BK176 1, bc_ BK176 2, bc_ BK176 3, (cc_ HB hw191_0), (cc_ HB hw191_1), (cc_ HB hw195_0), (cc_ HB hw195_1)⟩ (fun hHeld => ?_); refine with_tabW spec_l20Client.tab5 spec_l20Client.bits5 (fun HT_ HW_ => ?_)
         generalize wr.drew = w30 at HO_191001 HO_191002 HO_191003 BK176 BK177 BK190 HB HR191_1 HR195_1 hx191_0 hx191_1 hx195_0 hx195_1 hHeld ⊢
         refine pu_ (i := 0) (N := some 23) HT_ ?_; refine pu_ (i := 2) (N := some 25) HT_ ?_; refine pu_ (i := 4) (N := some 27) HT_ ?_; refine pu_ (i := 9) (N := some 32) HT_ ?_; refine pu_ (i := 11) (N := some 34) HT_ ?_; refine tk_ (i := 1) (N := some 24) HT_ HW_ hHeld ?_; refine tk_ (i := 3) (N := some 26) HT_ HW_ hHeld ?_; refine pu_ (i := 5) (N := some 28) HT_ ?_; refine pu_ (i := 6) (N := some 29) HT_ ?_; refine tk_ (i := 7) (N := some 30) HT_ HW_ hHeld ?_; refine tk_ (i := 10) (N := some 33) HT_ HW_ hHeld ?_; refine pu_ (i := 12) (N := some 35) HT_ ?_; refine pu_ (i := 13) (N := some 36) HT_ ?_; refine tk_ (i := 14) (N := some 37) HT_ HW_ hHeld ?_
         refine on_ (i := 8) (N := some 31) HT_ (fun K hK => ?_)
         refine Kd.R_lit_step (Kd.int .u8) _ 5 ?hg (N := 31) ?hd (xs := ([] : List Int)) (inner := []) (ok := fun _ => True) (okp := fun _ => True) ?hr ?hp (fun _ hk => hk) trivial (Below.refl _ _) (Nat.le_refl _) (by simp) ?_; (case hd => rfl); (case hg => rfl); (case hr => first | (go_simp; done) | (go_simp; rfl)); (case hp => exact (Reps.none _ _))
         intro v193 w31 ho32 hb hg_ hnew_
         clear hg_ hnew_
         (first | rw [← Ny192.out] at ho32 | (simp only [Int.reduceToNat] at ho32; rw [← Ny192.out] at ho32))
         have n0_ := Aside0.mk (Kd.R_below (kR_ HO_191001.out) hb); have n1_ := Aside0.mk (Kd.S_elder' (kS_ HO_191002.out) (Kd.R_base ho32) hb); have n2_ := Aside0.mk (Kd.R_below (kR_ HO_191003.out) hb); have n3_ := Aside0.mk (Kd.R_lower ho32 (below_size (hbA_ HB.out))); have n4_ := (bbA_ BK176 hb); have n5_ := (bbA_ BK177 hb); have n6_ := (bbA_ BK190 hb); have n7_ := (bs_ HB hb); clear HO_191001 HO_191002 HO_191003 BK176 BK177 BK190 HB; have HO_191001 := n0_; have HO_191002 := n1_; have HO_191003 := n2_; have HO194 := n3_; have BK176 := n4_; have BK177 := n5_; have BK190 := n6_; have HB := n7_; clear n0_ n1_ n2_ n3_ n4_ n5_ n6_ n7_ hb ho32
         refine hK.out _ _ ⟨bc_ BK190 0, bc_ BK190 1, bc_ BK190 2, bc_ BK190 3, bc_ BK176 0, bc_ BK176 1, bc_ BK176 2, bc_ BK176 3, (cc_ HB hw191_0), (cc_ HB hw191_1), (cc_ HB hw195_0), (cc_ HB hw195_1)⟩ (fun hHeld => ?_)
         clear hK K; refine nm_ 31 ?_
         refine on_ (i := 15) (N := some 38) HT_ (fun K hK => ?_)
         refine Kd.R_append_rows_step (Kd.int .u8) (w0 := w) w.heap.size (by rfl) (.tmp 31) (.tmp 37) 34 5 (.int .u8 0) 1 rfl Try.underlying34 info5 rfl (by decide) (by omega) v193 y192 ((rd_T41 l0_2 x4_1).f1) _ _ _ (fun _ => True) (fun _ => False) rfl rfl ?aO ?aR (fun _ _ h => h) (fun _ h => h.elim) ?aF ?aB ?aS ?aL ?_
         (case aR => exact kC_ (Kd.C_below HR195_1.out HB.out))
         (case aB => exact (hbA_ HB.out))
         (case aF => exact (fun _ _ => trivial))
         (case aO => exact (kR_ HO194.out))
         (case aS => exact (below_size (hbA_ HB.out)))
         (case aL => have := LMc25.out; omega)
         intro v197 w33 ho hb hg hat
         rw [← Ny196.out] at ho
         have n0_ := Aside0.mk (Kd.R_over' (kR_ HO_191001.out) (Kd.R_typed (kR_ HO194.out)) (by decide) hg); have n1_ := Aside0.mk (Kd.S_after (ok := (fun _ => True)) (kS_ HO_191002.out) hg hat); have n2_ := Aside0.mk (Kd.R_over' (kR_ HO_191003.out) (Kd.R_typed (kR_ HO194.out)) (by decide) hg); have n3_ := (bgA_ BK176 hg (Kd.R_ne HO194.out BK176.out (by decide))); have n4_ := (bgA_ BK177 hg (Kd.R_ne HO194.out BK177.out (by decide))); have n5_ := (bgA_ BK190 hg (Kd.R_ne HO194.out BK190.out (by decide))); have n6_ := Aside0.mk (hb); have n7_ := Aside0.mk (ho); clear HO_191001 HO_191002 HO_191003 BK176 BK177 BK190 HB HO194; have HO_191001 := n0_; have HO_191002 := n1_; have HO_191003 := n2_; have BK176 := n3_; have BK177 := n4_; have BK190 := n5_; have HB := n6_; have HO198 := n7_; clear n0_ n1_ n2_ n3_ n4_ n5_ n6_ n7_ ho hb hg hat
         obtain ⟨Ao34, co34, eo34⟩ := Kd.R_slice HO198.out
         (first | subst eo34 | (injection eo34 with f1_ f2_ f3_; have f4_ := f1_.symm; have f5_ := f3_.symm; clear f1_ f2_ f3_; subst f4_; subst f5_))
         refine hK.out _ _ ⟨bc_ BK190 0, bc_ BK190 1, bc_ BK190 2, bc_ BK190 3, bc_ BK176 0, bc_ BK176 1, bc_ BK176 2, bc_ BK176 3, (cc_ HB hw191_0), (cc_ HB hw191_1), (cc_ HB hw195_0), (cc_ HB hw195_1)⟩ (fun hHeld => ?_)
         clear hK K; refine nm_ 38 ?_; refine pu_ (i := 16) (N := some 39) HT_ ?_
         refine on_ (i := 17) (N := some 40) HT_ (fun K hK => ?_)
         refine value_ (w1 := ?_) (v := ?_) (by rfl) rfl ?_ ?_
         rotate_left 2
         ·go_simp
          constructor
          ·rfl
          ·rfl
         refine hK.out _ _ ⟨(blk_cell (blk_alloc BK190.out _) 0).trans rfl, (blk_cell (blk_alloc BK190.out _) 1).trans rfl, (blk_cell (blk_alloc BK190.out _) 2).trans rfl, (blk_cell (blk_alloc BK190.out _) 3).trans rfl, (blk_cell (blk_alloc BK176.out _) 0).trans rfl, (blk_cell (blk_alloc BK176.out _) 1).trans rfl, (blk_cell (blk_alloc BK176.out _) 2).trans rfl, (blk_cell (blk_alloc BK176.out _) 3).trans rfl, (World.cell?_alloc_lt _ _ _ (World.block_lt_of_cell? _ _ ((cc_ HB hw191_0)))).trans ((cc_ HB hw191_0)), (World.cell?_alloc_lt _ _ _ (World.block_lt_of_cell? _ _ ((cc_ HB hw191_1)))).trans ((cc_ HB hw191_1)), (World.cell?_alloc_lt _ _ _ (World.block_lt_of_cell? _ _ ((cc_ HB hw195_0)))).trans ((cc_ HB hw195_0)), (World.cell?_alloc_lt _ _ _ (World.block_lt_of_cell? _ _ ((cc_ HB hw195_1)))).trans ((cc_ HB hw195_1))⟩ (fun hHeld => ?_)
         clear hK K; refine nm_ 40 ?_
         refine on_ (i := 18) (N := some 41) HT_ (fun K hK => ?_)
         refine Kd.S_append_step k41 (w0 := w) w.heap.size (by rfl) (.tmp 24) (.tmp 40) 28 41 (.agg #[(.int .i64 0), (.slice none 0 0)]) 32 rfl Try.underlying28 info41 rfl (by decide) (by omega) u191002 x191002_1 (⟨(rd_T41 l0_2 x4_1).f0, y196⟩ : S41) [.int .i64 ((rd_T41 l0_2 x4_1).f0), .slice Ao34 y196.length co34] (fun _ => True) (fun k_ => some k_ = (.slice Ao34 y196.length co34 : Value).ownBlock) rfl rfl ?aP (fun k_ hk_ => ((Kd.R_mono (ok' := fun k_ => ((fun _ => True)) k_ ∧ some k_ ≠ (u191002 : Value).ownBlock) (Kd.R_apart' (HO198.out) (Kd.S_typed HO_191002.out) (by decide)) (fun k_ hk => ⟨trivial, hk.2⟩))).1 k_ hk_.symm) ?aF ?aO ?aB ?aS ?aL ?_
         (case aP => exact k41_mkM _ _ _ (⟨(rd_T41 l0_2 x4_1).f0, y196⟩ : S41) (Kd.R_mono (Kd.R_tight rfl (Kd.R_mono (ok' := fun k_ => ((fun _ => True)) k_ ∧ some k_ ≠ (u191002 : Value).ownBlock) (Kd.R_apart' (HO198.out) (Kd.S_typed HO_191002.out) (by decide)) (fun k_ hk => ⟨trivial, hk.2⟩))) (fun _ h_ => h_)))
         (case aB => exact (hbA_ HB.out))
         (case aF => exact (fun _ _ => trivial))
         (case aO => exact (by refine kS_ ?_; exact Kd.S_mono HO_191002.out (fun k_ hk => ⟨trivial, fun e_ => hk.2 e_⟩)))
         (case aS => exact (below_size (hbA_ HB.out)))
         (case aL => have := LMc26.out; omega)
         intro v200 w35 ho hb hg hat
         rw [← Ny199.out] at ho
         have n0_ := Aside0.mk (Kd.R_over' (kR_ HO_191001.out) (Kd.S_typed (kS_ HO_191002.out)) (by decide) hg); have n1_ := Aside0.mk (Kd.R_over' (kR_ HO_191003.out) (Kd.S_typed (kS_ HO_191002.out)) (by decide) hg); have n2_ := (bgA_ BK176 hg (Kd.S_ne HO_191002.out BK176.out (by decide))); have n3_ := (bgA_ BK177 hg (Kd.S_ne HO_191002.out BK177.out (by decide))); have n4_ := (bgA_ BK190 hg (Kd.S_ne HO_191002.out BK190.out (by decide))); have n5_ := Aside0.mk (hb); have n6_ := Aside0.mk (ho); clear HO_191001 HO_191003 BK176 BK177 BK190 HB HO_191002 HO198; have HO_191001 := n0_; have HO_191003 := n1_; have BK176 := n2_; have BK177 := n3_; have BK190 := n4_; have HB := n5_; have HO201 := n6_; clear n0_ n1_ n2_ n3_ n4_ n5_ n6_ ho hb hg hat
         obtain ⟨Ao36, co36, eo36⟩ := Kd.S_slice HO201.out
         (first | subst eo36 | (injection eo36 with f1_ f2_ f3_; have f4_ := f1_.symm; have f5_ := f3_.symm; clear f1_ f2_ f3_; subst f4_; subst f5_))
         refine hK.out _ _ ⟨bc_ BK190 0, bc_ BK190 1, bc_ BK190 2, bc_ BK190 3, bc_ BK176 0, bc_ BK176 1, bc_ BK176 2, bc_ BK176 3, (cc_ HB hw191_0), (cc_ HB hw191_1), (cc_ HB hw195_0), (cc_ HB hw195_1)⟩ (fun hHeld => ?_)
         clear hK K; refine nm_ 41 ?_; refine pu_ (i := 19) (N := some 42) HT_ ?_
         refine last_ (i := 20) (N := none) #[true, true, true, true, true, true, true, true, true, true, true, true, true, true, true, true, true, true, true, true, true] rfl rfl (one_of HT_.out (by kernel_rfl)) (by decide) (fun K hK => ?_)
         have hs37 : w35.cell? ⟨gb190, 2, none⟩ = some (u191002) := bc_ BK190 2
         have hfs37 := blk_frozen BK190.out 2
         have hns37_0 := NB176_190.out; have hns37_1 := NB177_190.out; have hms37_0 := NB190_176.out; have hms37_1 := NB190_177.out
         refine skip_ (w1 := ?_) (by rfl) rfl ?_ ?_
         rotate_left
         ·go_simp
          rfl
         refine hK.out _ _ ?_
         clear hK K
         refine done_ (done_of HT_.out (by kernel_rfl)) ?_
         try go_wp2
         go_roundg k1
         case measure => have := HK1.out; omega
         case rel => exact ⟨(wrap64 (x4_1 + 1)), (y199), (.slice Ao36 y199.length co36), (by first | rfl | (simp; done) | (simp [*]; done)), H', ⟨by have := HK1.out; omega⟩, ⟨by refine kR_ ?_; exact Kd.R_mono (Kd.R_f gb190 2 (.slice Ao36 y199.length co36) (Kd.R_types HO_191001.out BK190.out (by decide))) (fun _ hk => hk.1)⟩, ⟨by refine kS_ ?_; exact Kd.S_mono (Kd.S_far (p := ⟨gb190, 2, none⟩) (Kd.S_types HO201.out BK190.out (by decide)) (fun _ hk => hk.2) (.slice Ao36 y199.length co36)) (fun _ hk => trivial)⟩, ⟨by refine kR_ ?_; exact Kd.R_mono (Kd.R_f gb190 2 (.slice Ao36 y199.length co36) (Kd.R_types HO_191003.out BK190.out (by decide))) (fun _ hk => hk.1)⟩, ⟨by exact kf_ BK176.out⟩, ⟨by exact kf_ BK177.out⟩, ⟨by refine kb_ ?_; refine blk_put (cs := #[.int .i64 a0_0, .slice Ao18 y181.length co18, u191002, .slice Ao17 y187.length co17]) ?_ 2 _ rfl; refine kb_ ?_; exact BK190.out⟩, ⟨hbA_ HB.out⟩⟩
        ·rw [if_neg c26] at H
         exact absurd H (by simp)
       ·rw [if_neg c25] at H
        exact absurd H (by simp)
      ·rw [if_neg c24] at H
       exact absurd H (by simp)
     ·rw [if_neg c23] at H
      have c23b0 : decide (x4_1 < (l0_2.length : Int)) = false := decide_eq_false c23
      clear c23
      simp only [Option.some.injEq, Prod.mk.injEq] at H
      obtain ⟨rfl, rfl, rfl, rfl⟩ := H
      have hnb38 := NB176_177.out; have hnc38 := NB177_176.out; have hnb39 := NB176_190.out; have hnc39 := NB190_176.out; have Z40 := zz4 BK176; have hnb41 := NB190_177.out; have hnc41 := NB177_190.out; have Z42 := zz4 BK190; have Z43 := zz4 BK177
      obtain ⟨Ao44, co44, eo44⟩ := Kd.S_slice HO_191002.out
      subst eo44
      go_wp2
      refine bodyPost_ret (results_cell_row rfl _ _ gb177 30 #[.int .i64 a0_0, .slice Ao18 y181.length co18, .slice Ao44 x191002_1.length co44, .slice Ao17 y187.length co17] (0, 0) _ rfl (by refine kb_ ?_; refine pz4 (cs := #[.int .i64 0, .slice none 0 0, .slice none 0 0, .slice none 0 0]) ?_; refine kb_ ?_; exact BK177.out) Try.underlying30 rfl (by kernel_rfl)) rfl ?_
      exact ⟨_, _, _, by first | rfl | (simp [errW_none, errW_some] <;> rfl) | (simp [*, errW_none, errW_some] <;> rfl), by refine kR_ ?_; exact rfm_ ((Kd.R_types HO_191001.out BK177.out (by decide))) (fun _ hk => hk.1), by refine kS_ ?_; exact Kd.S_mono (Kd.S_far (p := ⟨gb177, 3, none⟩) (Kd.S_far (p := ⟨gb177, 2, none⟩) (Kd.S_far (p := ⟨gb177, 1, none⟩) (Kd.S_far (p := ⟨gb177, 0, none⟩) (Kd.S_types HO_191002.out BK177.out (by decide)) (fun _ hk => hk.2) (.int .i64 a0_0)) (fun _ hk => hk.2) (.slice Ao18 y181.length co18)) (fun _ hk => hk.2) (.slice Ao44 x191002_1.length co44)) (fun _ hk => hk.2) (.slice Ao17 y187.length co17)) (fun _ hk => trivial), by refine kR_ ?_; exact rfm_ ((Kd.R_types HO_191003.out BK177.out (by decide))) (fun _ hk => hk.1), hbA_ HB.out⟩
  ·rw [if_neg c3] at H
   exact absurd H (by simp)
 ·rw [if_neg c2] at H
  exact absurd H (by simp)
def spec_ClientOver.f (k : Nat) (a0_0 : Int) (l0_1 : List Int) (l0_2 : List (S41)) (l0_3 : List Int) : Option (Int × List Int × (List (S41)) × List Int) := (spec_ClientOk.f k a0_0 l0_1 l0_2 l0_3).bind fun t204 => (if t204 = true then ((spec_l20Client.f k a0_0 l0_1 l0_2 l0_3).bind fun bt205 => (if bt205.2.2.2.length + l0_1.length < 17592186044416 then (some (bt205.1, (([] : List Int)), bt205.2.2.1, (bt205.2.2.2 ++ l0_1))) else (none))) else (some (0, ([] : List Int), ([] : List (S41)), ([] : List Int))))
theorem spec_ClientOver.mono : ∀ a0 a1 a2 a3 k, LeO (spec_ClientOver.f k a0 a1 a2 a3) (spec_ClientOver.f (k + 1) a0 a1 a2 a3) := by
 intro a0 a1 a2 a3 k
 unfold spec_ClientOver.f
 repeat' first | (with_reducible first | apply spec_ClientOk.mono | apply spec_l20Client.mono | exact LeO.refl _ | exact LeO.none _ | refine LeO.ite ?_ ?_ | refine LeO.bind ?_ fun _ => ?_) | apply spec_ClientOk.mono | apply spec_l20Client.mono | exact LeO.none _ | refine LeO.ite ?_ ?_ | refine LeO.bind ?_ fun _ => ?_
set_option maxHeartbeats 8000000 in
set_option maxRecDepth 100000 in
theorem spec_ClientOver.calls (k : Nat) (a0_0 : Int) (A0_1 : Option Addr) (c0_1 : Nat) (l0_1 : List Int) (A0_2 : Option Addr) (c0_2 : Nat) (l0_2 : List (S41)) (A0_3 : Option Addr) (c0_3 : Nat) (l0_3 : List Int) (r1 : Int) (r2 : List Int) (r3 : List (S41)) (r4 : List Int) (w : World) (hr0_1 : Kd.C (Kd.int .i64) w A0_1 l0_1.length l0_1) (hc0_1 : l0_1.length ≤ c0_1) (hr0_2 : Kd.C k41 w A0_2 l0_2.length l0_2) (hc0_2 : l0_2.length ≤ c0_2) (hr0_3 : Kd.C (Kd.int .i64) w A0_3 l0_3.length l0_3) (hc0_3 : l0_3.length ≤ c0_3) (h : spec_ClientOver.f k a0_0 l0_1 l0_2 l0_3 = some (r1, r2, r3, r4)) :
  Calls Try.prog 19 #[.agg #[.int .i64 a0_0, .slice A0_1 l0_1.length c0_1, .slice A0_2 l0_2.length c0_2, .slice A0_3 l0_3.length c0_3]] w fun e w' => ∃ v1_ v2_ v3_ : Value, e = .returned (.agg #[.int .i64 r1, v1_, v2_, v3_]) ∧ Kd.R (Kd.int .i64) 3 w' w.heap.size (fun k_ => some k_ ≠ (v3_ : Value).ownBlock) v1_ r2 ∧ Kd.S k41 41 w' w.heap.size (fun _ => True) v2_ r3 ∧ Kd.R (Kd.int .i64) 3 w' w.heap.size (fun k_ => some k_ ≠ (v1_ : Value).ownBlock) v3_ r4 ∧ Below w.heap.size w w' := by
 have hu30 := Try.underlying30; have HR0_1 := Aside0.mk hr0_1; have HC0_1 := Aside0.mk hc0_1; clear hr0_1 hc0_1; have HR0_2 := Aside0.mk hr0_2; have HC0_2 := Aside0.mk hc0_2; clear hr0_2 hc0_2; have HR0_3 := Aside0.mk hr0_3; have HC0_3 := Aside0.mk hc0_3; clear hr0_3 hc0_3
 have HB := Aside0.mk (Below.refl w.heap.size w)
 have H : ((spec_ClientOk.f k a0_0 l0_1 l0_2 l0_3).bind fun t204 => (if t204 = true then ((spec_l20Client.f k a0_0 l0_1 l0_2 l0_3).bind fun bt205 => (if bt205.2.2.2.length + l0_1.length < 17592186044416 then (some (bt205.1, (([] : List Int)), bt205.2.2.1, (bt205.2.2.2 ++ l0_1))) else (none))) else (some (0, ([] : List Int), ([] : List (S41)), ([] : List Int))))) = some (r1, r2, r3, r4) := h
 clear h
 replace H := Option.bind_eq_some_iff.mp H
 obtain ⟨t204, A20, H⟩ := H
 (try dsimp only at H)
 have A2 := Aside0.mk A20; clear A20
 by_cases c3 : t204 = true
 ·subst c3
  rw [if_pos rfl] at H
  replace H := Option.bind_eq_some_iff.mp H
  obtain ⟨⟨t205, t206, t209, t212⟩, A40, H⟩ := H
  (try dsimp only at H)
  have A4 := Aside0.mk A40; clear A40
  by_cases c5 : t212.length + l0_1.length < 17592186044416
  ·rw [if_pos c5] at H
   have LMc5 := Aside0.mk c5; clear c5
   obtain ⟨y216, hy216⟩ : ∃ y_ : List Int, y_ = (t212 ++ l0_1) := ⟨_, rfl⟩
   (first | replace H := sb_ hy216 H | rw [← hy216] at H)
   have Ny216 := Aside0.mk hy216; clear hy216
   obtain ⟨y219, hy219⟩ : ∃ y_ : List Int, y_ = (([] : List Int)) := ⟨_, rfl⟩
   (first | replace H := sb_ hy219 H | rw [← hy219] at H)
   have Ny219 := Aside0.mk hy219; clear hy219
   simp only [Option.some.injEq, Prod.mk.injEq] at H
   obtain ⟨rfl, rfl, rfl, rfl⟩ := H
   go_enter Try.func19, Try.ntmps19
   go_wp2_with (first | ((with_reducible refine gate_dst (N := 1) rfl ?_); refine box_ (N := 1) (cs := #[.int .i64 a0_0, .slice A0_1 l0_1.length c0_1, .slice A0_2 l0_2.length c0_2, .slice A0_3 l0_3.length c0_3]) (t := 30) (fun gb202 hg w6 hbox hb => ?_); have BK202 := Aside0.mk (hbox); have GW202 := ge_ hg HB; have GE202 := ge_ hg HB; replace HB := (bs_ HB hb); clear hb hbox hg) | ((with_reducible refine gate_dst (N := 2) rfl ?_); refine box_ (N := 2) (cs := #[.int .i64 0, .slice none 0 0, .slice none 0 0, .slice none 0 0]) (t := 30) (fun gb203 hg w7 hbox hb => ?_); have BK203 := Aside0.mk (hbox); have GW203 := ge_ hg HB; have GE203 := ge_ hg HB; replace HB := (bs_ HB hb); have NB202_203 := nl_ hg BK202; have NB203_202 := ng_ hg BK202; replace BK202 := (bbA_ BK202 hb); clear hb hbox hg; have hnb8 := NB202_203.out; have hnc8 := NB203_202.out; have Z9 := zz4 BK202) | ((with_reducible refine gate_callee (f := 12) rfl ?_); refine goesL_ (some 5) rfl rfl Try.func12 (by kernel_rfl) rfl #[.agg #[.int .i64 a0_0, .slice A0_1 l0_1.length c0_1, .slice A0_2 l0_2.length c0_2, .slice A0_3 l0_3.length c0_3]] rfl ar_ ?_; (with_reducible refine (spec_ClientOk.calls k a0_0 _ _ l0_1 _ _ l0_2 _ _ l0_3 true _ ?side1 ?side2 ?side3 ?side4 ?side5 ?side6 A2.out).mono ?_); (case side1 => exact kC_ (Kd.C_below HR0_1.out HB.out)); (case side2 => exact HC0_1.out); (case side3 => exact kC_ (Kd.C_below HR0_2.out HB.out)); (case side4 => exact HC0_2.out); (case side5 => exact kC_ (Kd.C_below HR0_3.out HB.out)); (case side6 => exact HC0_3.out); rintro e w10 ⟨rfl, hb⟩; refine ⟨_, rfl, ?_⟩; replace BK202 := (bbA_ BK202 hb); replace BK203 := (bbA_ BK203 hb); replace HB := (bs_ HB hb); (try clear hb); (try clear hb2); (try clear hk); (try clear hi); have Z11 := zz4 BK202) | ((with_reducible refine gate_callee (f := 56) rfl ?_); refine goesL_ (some 9) rfl rfl Try.func56 (by kernel_rfl) rfl #[.agg #[.int .i64 a0_0, .slice A0_1 l0_1.length c0_1, .slice A0_2 l0_2.length c0_2, .slice A0_3 l0_3.length c0_3]] rfl ar_ ?_; (with_reducible refine (spec_l20Client.calls k a0_0 _ _ l0_1 _ _ l0_2 _ _ l0_3 t205 t206 t209 t212 _ ?side1 ?side2 ?side3 ?side4 ?side5 ?side6 A4.out).mono ?_); (case side1 => exact kC_ (Kd.C_below HR0_1.out HB.out)); (case side2 => exact HC0_1.out); (case side3 => exact kC_ (Kd.C_below HR0_2.out HB.out)); (case side4 => exact HC0_2.out); (case side5 => exact kC_ (Kd.C_below HR0_3.out HB.out)); (case side6 => exact HC0_3.out); rintro e w12 ⟨v207, v210, v213, rfl, ho0, ho1, ho2, hb⟩; refine ⟨_, rfl, ?_⟩; have HO208 := Aside0.mk (Kd.R_lower ho0 (below_size (hbA_ HB.out))); have HO211 := Aside0.mk (Kd.S_lower ho1 (below_size (hbA_ HB.out))); have HO214 := Aside0.mk (Kd.R_lower ho2 (below_size (hbA_ HB.out))); replace BK202 := (bbA_ BK202 hb); replace BK203 := (bbA_ BK203 hb); replace HB := (bs_ HB hb); (try clear hb); (try clear hb2); (try clear hk); (try clear hi); (try clear ho0); (try clear ho1); (try clear ho2)) | ((with_reducible refine gate_dst (N := 3) rfl ?_); refine box_ (N := 3) (cs := #[.int .i64 0, .slice none 0 0, .slice none 0 0, .slice none 0 0]) (t := 30) (fun gb215 hg w13 hbox hb => ?_); replace HO208 := Aside0.mk (Kd.R_below (kR_ HO208.out) hb); replace HO211 := Aside0.mk (Kd.S_below (kS_ HO211.out) hb); replace HO214 := Aside0.mk (Kd.R_below (kR_ HO214.out) hb); have BK215 := Aside0.mk (hbox); have GW215 := ge_ hg HB; have GE215 := ge_ hg HB; replace HB := (bs_ HB hb); have NB202_215 := nl_ hg BK202; have NB215_202 := ng_ hg BK202; replace BK202 := (bbA_ BK202 hb); have NB203_215 := nl_ hg BK203; have NB215_203 := ng_ hg BK203; replace BK203 := (bbA_ BK203 hb); clear hb hbox hg; have hnb14 := NB215_202.out; have hnc14 := NB202_215.out; have hnb15 := NB215_203.out; have hnc15 := NB203_215.out; have Z16 := zz4 BK215; obtain ⟨Ao17, co17, eo17⟩ := Kd.R_slice HO208.out; subst eo17; obtain ⟨Ao18, co18, eo18⟩ := Kd.S_slice HO211.out; subst eo18; obtain ⟨Ao19, co19, eo19⟩ := Kd.R_slice HO214.out; subst eo19; have Z20 := zz4 BK202) | ((with_reducible refine gate_builtin (b := .append) (xs := #[.tmp 11, .tmp 13]) rfl ?_); at_builtin; refine Kd.R_append_rows (Kd.int .i64) (w0 := w) w.heap.size rfl (.tmp 11) (.tmp 13) 22 3 (.int .i64 0) 8 rfl Try.underlying22 info3 rfl (by decide) (by omega) (.slice Ao19 t212.length co19) t212 l0_1 _ _ _ (fun k_ => some k_ ≠ (.slice Ao17 t206.length co17 : Value).ownBlock) (fun _ => False) rfl rfl ?aO ?aR (fun _ _ h => h) (fun _ h => h.elim) ?aF ?aB ?aS ?aL ?_; (case aR => exact Kd.C_below HR0_1.out (hbA_ HB.out)); (case aB => exact (hbA_ HB.out)); (case aF => exact (fun k_ hk => Kd.fresh' (Kd.R_lt (by refine kR_ ?_; exact (rfm_ ((Kd.R_types HO208.out BK215.out (by decide))) (fun _ h_ => op1_ h_)))) k_ hk)); (case aO => exact (by refine kR_ ?_; exact rfm_ ((Kd.R_types HO214.out BK215.out (by decide))) (fun _ hk => hk.1))); (case aS => exact (below_size (hbA_ HB.out))); (case aL => have := LMc5.out; omega); intro v217 w21 ho hb hg hat; rw [← Ny216.out] at ho; replace BK202 := Aside0.mk (blk_grown (g := gb202) (o := .cells #[.int .i64 a0_0, .slice A0_1 l0_1.length c0_1, .slice A0_2 l0_2.length c0_2, .slice A0_3 l0_3.length c0_3] 30 (0, 0)) (by exact kf_ BK202.out) hg (Kd.R_ne HO214.out BK202.out (by decide))); replace BK203 := Aside0.mk (blk_grown (g := gb203) (o := .cells #[.int .i64 0, .slice none 0 0, .slice none 0 0, .slice none 0 0] 30 (0, 0)) (by exact kf_ BK203.out) hg (Kd.R_ne HO214.out BK203.out (by decide))); replace HO208 := Aside0.mk (Kd.R_after (ok := (fun _ => True)) (by refine kR_ ?_; exact rfm_ ((Kd.R_types HO208.out BK215.out (by decide))) (fun _ hk => ⟨trivial, hk.1⟩)) hg hat); replace HO211 := Aside0.mk (Kd.S_over' (by refine kS_ ?_; exact (Kd.S_mono (Kd.S_far (p := ⟨gb215, 3, none⟩) (Kd.S_far (p := ⟨gb215, 2, none⟩) (Kd.S_far (p := ⟨gb215, 1, none⟩) (Kd.S_far (p := ⟨gb215, 0, none⟩) (Kd.S_types HO211.out BK215.out (by decide)) (fun _ hk => hk.2) (.int .i64 t205)) (fun _ hk => hk.2) (.slice Ao17 t206.length co17)) (fun _ hk => hk.2) (.slice Ao18 t209.length co18)) (fun _ hk => hk.2) (.slice Ao19 t212.length co19)) (fun _ h_ => op1_ h_))) (Kd.R_typed (by refine kR_ ?_; exact (rfm_ ((Kd.R_types HO214.out BK215.out (by decide))) (fun _ h_ => op1_ h_)))) (by decide) hg); replace BK215 := Aside0.mk (blk_grown (g := gb215) (o := .cells #[.int .i64 t205, .slice Ao17 t206.length co17, .slice Ao18 t209.length co18, .slice Ao19 t212.length co19] 30 (0, 0)) (by refine kb_ ?_; refine pz4 (cs := #[.int .i64 0, .slice none 0 0, .slice none 0 0, .slice none 0 0]) ?_; refine kb_ ?_; exact BK215.out) hg (Kd.R_ne HO214.out BK215.out (by decide))); replace HB := Aside0.mk (hb); have HO218 := Aside0.mk (ho); clear HO214; clear ho hb hg hat; obtain ⟨Ao22, co22, eo22⟩ := Kd.R_slice HO218.out; subst eo22; have Z23 := zz4 BK215) | ((with_reducible refine gate_dst (N := 16) rfl ?_); refine Kd.R_lit (Kd.int .i64) _ 3 ?hg (N := 16) ?hd (xs := ([] : List Int)) (inner := []) (ok := fun _ => True) (okp := fun _ => True) ?hr ?hp (fun _ hk => hk) trivial (Below.refl _ _) (Nat.le_refl _) (by simp) ?_; (case hd => rfl); (case hg => rfl); (case hr => first | (go_simp; done) | (go_simp; rfl)); (case hp => exact (Reps.none _ _)); intro v220 w24 ho25 hb hg_ hnew_; clear hg_ hnew_; (first | rw [← Ny219.out] at ho25 | (simp only [Int.reduceToNat] at ho25; rw [← Ny219.out] at ho25)); replace HO211 := Aside0.mk (Kd.S_below (by refine kS_ ?_; exact (Kd.S_mono (Kd.S_far (p := ⟨gb215, 3, none⟩) (Kd.S_types HO211.out BK215.out (by decide)) (fun _ hk => hk.2) (.slice Ao22 y216.length co22)) (fun _ h_ => op1_ h_))) hb); have HO221 := Aside0.mk (Kd.R_lower (Kd.R_new' (Kd.R_new' ho25 (Kd.R_lt (by refine kR_ ?_; exact (Kd.R_mono (Kd.R_f gb215 3 (.slice Ao22 y216.length co22) (Kd.R_types HO208.out BK215.out (by decide))) (fun _ h_ => op1_ h_))))) (Kd.R_lt (by refine kR_ ?_; exact (Kd.R_mono (Kd.R_f gb215 3 (.slice Ao22 y216.length co22) (Kd.R_types HO218.out BK215.out (by decide))) (fun _ h_ => op1_ h_))))) (below_size (hbA_ HB.out))); replace HO208 := Aside0.mk (Kd.R_elder' (by refine kR_ ?_; exact (Kd.R_mono (Kd.R_f gb215 3 (.slice Ao22 y216.length co22) (Kd.R_types HO208.out BK215.out (by decide))) (fun _ h_ => op1_ h_))) (Kd.R_base ho25) hb); replace HO218 := Aside0.mk (Kd.R_elder' (by refine kR_ ?_; exact (Kd.R_mono (Kd.R_f gb215 3 (.slice Ao22 y216.length co22) (Kd.R_types HO218.out BK215.out (by decide))) (fun _ h_ => op1_ h_))) (Kd.R_base ho25) hb); replace BK202 := Aside0.mk (blk_below (g := gb202) (o := .cells #[.int .i64 a0_0, .slice A0_1 l0_1.length c0_1, .slice A0_2 l0_2.length c0_2, .slice A0_3 l0_3.length c0_3] 30 (0, 0)) (by exact kf_ BK202.out) hb); replace BK203 := Aside0.mk (blk_below (g := gb203) (o := .cells #[.int .i64 0, .slice none 0 0, .slice none 0 0, .slice none 0 0] 30 (0, 0)) (by exact kf_ BK203.out) hb); replace BK215 := Aside0.mk (blk_below (g := gb215) (o := .cells #[.int .i64 t205, .slice Ao17 t206.length co17, .slice Ao18 t209.length co18, .slice Ao22 y216.length co22] 30 (0, 0)) (by refine kb_ ?_; refine blk_put (cs := #[.int .i64 t205, .slice Ao17 t206.length co17, .slice Ao18 t209.length co18, .slice Ao19 t212.length co19]) ?_ 3 _ rfl; refine kb_ ?_; exact BK215.out) hb); replace HB := (bs_ HB hb); clear hb ho25; obtain ⟨Ao26, co26, eo26⟩ := Kd.R_slice HO221.out; subst eo26; have Z27 := zz4 BK215; have Z28 := zz4 BK203))
   refine bodyPost_ret (results_cell_row rfl _ _ gb203 30 #[.int .i64 t205, .slice Ao26 y219.length co26, .slice Ao18 t209.length co18, .slice Ao22 y216.length co22] (0, 0) _ rfl (by refine kb_ ?_; refine pz4 (cs := #[.int .i64 0, .slice none 0 0, .slice none 0 0, .slice none 0 0]) ?_; exact kf_ BK203.out) Try.underlying30 rfl (by kernel_rfl)) rfl ?_
   exact ⟨_, _, _, by first | rfl | (simp [errW_none, errW_some] <;> rfl) | (simp [*, errW_none, errW_some] <;> rfl), by refine kR_ ?_; exact rfm_ ((Kd.R_far (p := ⟨gb215, 1, none⟩) (Kd.R_types (Kd.R_types HO221.out BK215.out (by decide)) BK203.out (by decide)) (fun _ hk => hk.1.2) (.slice Ao26 y219.length co26))) (fun _ hk => hk.1.1.2), by refine kS_ ?_; exact Kd.S_mono (Kd.S_far (p := ⟨gb203, 3, none⟩) (Kd.S_far (p := ⟨gb203, 2, none⟩) (Kd.S_far (p := ⟨gb203, 1, none⟩) (Kd.S_far (p := ⟨gb203, 0, none⟩) (Kd.S_far (p := ⟨gb215, 1, none⟩) (Kd.S_types (Kd.S_types HO211.out BK215.out (by decide)) BK203.out (by decide)) (fun _ hk => hk.1.2) (.slice Ao26 y219.length co26)) (fun _ hk => hk.2) (.int .i64 t205)) (fun _ hk => hk.2) (.slice Ao26 y219.length co26)) (fun _ hk => hk.2) (.slice Ao18 t209.length co18)) (fun _ hk => hk.2) (.slice Ao22 y216.length co22)) (fun _ hk => trivial), by refine kR_ ?_; exact rfm_ ((Kd.R_far (p := ⟨gb215, 1, none⟩) (Kd.R_types (Kd.R_types HO218.out BK215.out (by decide)) BK203.out (by decide)) (fun _ hk => hk.1.2) (.slice Ao26 y219.length co26))) (fun _ hk => hk.1.1.2), hbA_ HB.out⟩
  ·rw [if_neg c5] at H
   exact absurd H (by simp)
 ·replace c3 := Bool.eq_false_iff.mpr c3
  subst c3
  rw [if_neg (show ¬ (false = true) by decide)] at H
  simp only [Option.some.injEq, Prod.mk.injEq] at H
  obtain ⟨rfl, rfl, rfl, rfl⟩ := H
  go_enter Try.func19, Try.ntmps19
  go_wp2_with (first | ((with_reducible refine gate_dst (N := 1) rfl ?_); refine box_ (N := 1) (cs := #[.int .i64 a0_0, .slice A0_1 l0_1.length c0_1, .slice A0_2 l0_2.length c0_2, .slice A0_3 l0_3.length c0_3]) (t := 30) (fun gb202 hg w29 hbox hb => ?_); have BK202 := Aside0.mk (hbox); have GW202 := ge_ hg HB; have GE202 := ge_ hg HB; replace HB := (bs_ HB hb); clear hb hbox hg) | ((with_reducible refine gate_dst (N := 2) rfl ?_); refine box_ (N := 2) (cs := #[.int .i64 0, .slice none 0 0, .slice none 0 0, .slice none 0 0]) (t := 30) (fun gb203 hg w30 hbox hb => ?_); have BK203 := Aside0.mk (hbox); have GW203 := ge_ hg HB; have GE203 := ge_ hg HB; replace HB := (bs_ HB hb); have NB202_203 := nl_ hg BK202; have NB203_202 := ng_ hg BK202; replace BK202 := (bbA_ BK202 hb); clear hb hbox hg; have hnb31 := NB202_203.out; have hnc31 := NB203_202.out; have Z32 := zz4 BK202) | ((with_reducible refine gate_callee (f := 12) rfl ?_); refine goesL_ (some 5) rfl rfl Try.func12 (by kernel_rfl) rfl #[.agg #[.int .i64 a0_0, .slice A0_1 l0_1.length c0_1, .slice A0_2 l0_2.length c0_2, .slice A0_3 l0_3.length c0_3]] rfl ar_ ?_; (with_reducible refine (spec_ClientOk.calls k a0_0 _ _ l0_1 _ _ l0_2 _ _ l0_3 false _ ?side1 ?side2 ?side3 ?side4 ?side5 ?side6 A2.out).mono ?_); (case side1 => exact kC_ (Kd.C_below HR0_1.out HB.out)); (case side2 => exact HC0_1.out); (case side3 => exact kC_ (Kd.C_below HR0_2.out HB.out)); (case side4 => exact HC0_2.out); (case side5 => exact kC_ (Kd.C_below HR0_3.out HB.out)); (case side6 => exact HC0_3.out); rintro e w33 ⟨rfl, hb⟩; refine ⟨_, rfl, ?_⟩; replace BK202 := (bbA_ BK202 hb); replace BK203 := (bbA_ BK203 hb); replace HB := (bs_ HB hb); (try clear hb); (try clear hb2); (try clear hk); (try clear hi); have Z34 := zz4 BK203))
  refine bodyPost_ret (results_cell_row rfl _ _ gb203 30 #[.int .i64 0, .slice none 0 0, .slice none 0 0, .slice none 0 0] (0, 0) _ rfl (by refine kb_ ?_; refine pz4 (cs := #[.int .i64 0, .slice none 0 0, .slice none 0 0, .slice none 0 0]) ?_; refine kb_ ?_; exact BK203.out) Try.underlying30 rfl (by kernel_rfl)) rfl ?_
  exact ⟨_, _, _, by first | rfl | (simp [errW_none, errW_some] <;> rfl) | (simp [*, errW_none, errW_some] <;> rfl), by first | exact Kd.R_nil _ _ _ _ _ | exact Kd.N_nil _ _ _ _ _ | exact Kd.V_nil _ _ _ _ _ | exact Kd.Q_nil _ _ _ _ _ | exact Kd.S_nil _ _ _ _ _, by first | exact Kd.S_nil _ _ _ _ _ | exact Kd.N_nil _ _ _ _ _ | exact Kd.V_nil _ _ _ _ _ | exact Kd.Q_nil _ _ _ _ _ | exact Kd.R_nil _ _ _ _ _, by first | exact Kd.R_nil _ _ _ _ _ | exact Kd.N_nil _ _ _ _ _ | exact Kd.V_nil _ _ _ _ _ | exact Kd.Q_nil _ _ _ _ _ | exact Kd.S_nil _ _ _ _ _, hbA_ HB.out⟩
end Go.Proofs.Ytegchbdjbefdbaa.PFnClientHear
