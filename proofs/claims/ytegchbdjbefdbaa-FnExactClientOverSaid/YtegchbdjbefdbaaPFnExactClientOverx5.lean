/- Printed by wip/xp/xprint.sh out of the translation, for this claim: what each function answers, as a plain function, and that the machine does just that. No condition. -/
import Derived.Test.YtegchbdjbefdbaaPFnExactClientOverx0
import Derived.Test.YtegchbdjbefdbaaPFnExactClientOverx4
namespace Go.Proofs.Ytegchbdjbefdbaa.PFnExactClientOver
open Go.RowKit Go.Proofs.YtegchbdjbefdbaaW.PrintWords Go.Proofs.YtegchbdjbefdbaaW.PrintLast Go.Proofs.YtegchbdjbefdbaaW.PrintMore
attribute [local go_sem] max2_int min2_int max_two min_two max_three min_three max_four min_four   -- for this text's walks alone
set_option linter.unusedVariables false
set_option linter.unusedSimpArgs false
def spec_l20Client.l0 : Nat → Int → Int → List Int → List (S41) → List Int → Int → List Int → List (S41) → List Int → Option (Int × List Int × (List (S41)) × List Int)
 | 0, _, _, _, _, _, _, _, _, _ => none
 | k + 1, x4, x256000, x256001, x256002, x256003, x270000, x270001, x270002, x270003 => if x4 < (x256002.length : Int) then (if 0 ≤ x4 then ((some (([] : List Int) : List Int)).bind fun y271 => (if y271.length + ((rd_T41 x256002 x4).f1).length < 140737488355328 then (if x270002.length < 4398046511104 then (spec_l20Client.l0 k (wrap64 (x4 + 1)) x256000 x256001 x256002 x256003 x270000 x270001 (x270002 ++ [(⟨(rd_T41 x256002 x4).f0, (y271 ++ ((rd_T41 x256002 x4).f1))⟩ : S41)]) x270003) else (none)) else (none))) else (none)) else (some (x270000, x270001, x270002, x270003))
def spec_l20Client.f (k : Nat) (a0_0 : Int) (l0_1 : List Int) (l0_2 : List (S41)) (l0_3 : List Int) : Option (Int × List Int × (List (S41)) × List Int) := (some (([] : List Int) : List Int)).bind fun y257 => (if y257.length + l0_1.length < 17592186044416 then ((some (([] : List Int) : List Int)).bind fun y263 => (if y263.length + l0_3.length < 17592186044416 then (spec_l20Client.l0 k 0 a0_0 l0_1 l0_2 l0_3 a0_0 (y257 ++ l0_1) ([] : List (S41)) (y263 ++ l0_3)) else (none))) else (none))
theorem spec_l20Client.mono_l : ∀ k, (∀ y0 y1 y2 y3 y4 y5 y6 y7 y8, LeO (spec_l20Client.l0 k y0 y1 y2 y3 y4 y5 y6 y7 y8) (spec_l20Client.l0 (k + 1) y0 y1 y2 y3 y4 y5 y6 y7 y8))
 | 0 => fun _ _ _ _ _ _ _ _ _ r h => by simp [spec_l20Client.l0] at h
 | k + 1 => by
  have ih0 := spec_l20Client.mono_l k
  ·intro y0 y1 y2 y3 y4 y5 y6 y7 y8
   unfold spec_l20Client.l0
   repeat' first | (with_reducible first | apply ih0 | exact LeO.refl _ | exact LeO.none _ | refine LeO.ite ?_ ?_ | refine LeO.bind ?_ fun _ => ?_) | apply ih0 | exact LeO.none _ | refine LeO.ite ?_ ?_ | refine LeO.bind ?_ fun _ => ?_
theorem spec_l20Client.mono : ∀ a0 a1 a2 a3 k, LeO (spec_l20Client.f k a0 a1 a2 a3) (spec_l20Client.f (k + 1) a0 a1 a2 a3) := by
 intro a0 a1 a2 a3 k
 have ih0 := spec_l20Client.mono_l k
 unfold spec_l20Client.f
 repeat' first | (with_reducible first | apply ih0 | exact LeO.refl _ | exact LeO.none _ | refine LeO.ite ?_ ?_ | refine LeO.bind ?_ fun _ => ?_) | apply ih0 | exact LeO.none _ | refine LeO.ite ?_ ?_ | refine LeO.bind ?_ fun _ => ?_
def spec_l20Client.T1 : Bool × List (List Nat × List Nat) := (true, [([], []), ([0], [0]), ([], []), ([], []), ([3], [3]), ([2, 4], [2, 4]), ([], []), ([], []), ([7], [7]), ([6, 8, 5], [6, 8]), ([1, 5, 9], [1, 5, 9]), ([], []), ([11, 10, 9, 0, 1, 2, 3, 4, 5, 6, 7, 8, 9, 10, 11], [10, 11])])
def spec_l20Client.B1 : List Nat := [0, 1, 0, 0, 8, 28, 0, 0, 128, 508, 1023, 0, 4095]
theorem spec_l20Client.tab1 : rtab .any (opsOf Try.f56 1) = spec_l20Client.T1 := by kernel_rfl
theorem spec_l20Client.bits1 : waitsOk spec_l20Client.T1.2 spec_l20Client.B1 = true := by kernel_rfl
def spec_l20Client.T5 : Bool × List (List Nat × List Nat) := (true, [([], []), ([0], [0]), ([], []), ([2], [2]), ([], []), ([3, 4], [3, 4]), ([5], [5]), ([6], [6]), ([], []), ([], []), ([9], [9]), ([], []), ([10, 11], [10, 11]), ([12], [12]), ([13], [13]), ([8, 14], [8, 14]), ([7, 15], [7, 15]), ([16], [16]), ([1, 17, 15], [1, 17]), ([0, 1, 2, 3, 4, 5, 6, 7, 8, 9, 10, 11, 12, 13, 14, 15, 16, 17, 18], []), ([19, 18, 18, 0, 1, 2, 3, 4, 5, 6, 7, 8, 9, 10, 11, 12, 13, 14, 15, 16, 17, 18], [18, 19])])
def spec_l20Client.B5 : List Nat := [0, 1, 0, 4, 0, 28, 60, 124, 0, 0, 512, 0, 3584, 7680, 15872, 32512, 65532, 131068, 262143, 524287, 1048575]
theorem spec_l20Client.tab5 : rtab .any (opsOf Try.f56 5) = spec_l20Client.T5 := by kernel_rfl
theorem spec_l20Client.bits5 : waitsOk spec_l20Client.T5.2 spec_l20Client.B5 = true := by kernel_rfl
set_option maxHeartbeats 8000000 in
set_option maxRecDepth 100000 in
theorem spec_l20Client.calls (k : Nat) (a0_0 : Int) (A0_1 : Option Addr) (c0_1 : Nat) (l0_1 : List Int) (A0_2 : Option Addr) (c0_2 : Nat) (l0_2 : List (S41)) (A0_3 : Option Addr) (c0_3 : Nat) (l0_3 : List Int) (r1 : Int) (r2 : List Int) (r3 : List (S41)) (r4 : List Int) (w : World) (hr0_1 : Kd.C (Kd.int .i64) w A0_1 l0_1.length l0_1) (hc0_1 : l0_1.length ≤ c0_1) (hr0_2 : Kd.C k41 w A0_2 l0_2.length l0_2) (hc0_2 : l0_2.length ≤ c0_2) (hr0_3 : Kd.C (Kd.int .i64) w A0_3 l0_3.length l0_3) (hc0_3 : l0_3.length ≤ c0_3) (h : spec_l20Client.f k a0_0 l0_1 l0_2 l0_3 = some (r1, r2, r3, r4)) :
  Calls Try.prog 56 #[.agg #[.int .i64 a0_0, .slice A0_1 l0_1.length c0_1, .slice A0_2 l0_2.length c0_2, .slice A0_3 l0_3.length c0_3]] w fun e w' => ∃ v1_ v2_ v3_ : Value, e = .returned (.agg #[.int .i64 r1, v1_, v2_, v3_]) ∧ Kd.R (Kd.int .i64) 3 w' w.heap.size (fun k_ => some k_ ≠ (v3_ : Value).ownBlock) v1_ r2 ∧ Kd.S k41 41 w' w.heap.size (fun _ => True) v2_ r3 ∧ Kd.R (Kd.int .i64) 3 w' w.heap.size (fun k_ => some k_ ≠ (v1_ : Value).ownBlock) v3_ r4 ∧ Below w.heap.size w w' := by
 have hu30 := Try.underlying30; have hu41 := Try.underlying41; have HR0_1 := Aside0.mk hr0_1; have HC0_1 := Aside0.mk hc0_1; clear hr0_1 hc0_1; have HR0_2 := Aside0.mk hr0_2; have HC0_2 := Aside0.mk hc0_2; clear hr0_2 hc0_2; have HR0_3 := Aside0.mk hr0_3; have HC0_3 := Aside0.mk hc0_3; clear hr0_3 hc0_3
 have HB := Aside0.mk (Below.refl w.heap.size w)
 have H : ((some (([] : List Int) : List Int)).bind fun y257 => (if y257.length + l0_1.length < 17592186044416 then ((some (([] : List Int) : List Int)).bind fun y263 => (if y263.length + l0_3.length < 17592186044416 then (spec_l20Client.l0 k 0 a0_0 l0_1 l0_2 l0_3 a0_0 (y257 ++ l0_1) ([] : List (S41)) (y263 ++ l0_3)) else (none))) else (none))) = some (r1, r2, r3, r4) := h
 clear h
 obtain ⟨y257, hy257⟩ : ∃ y_ : List Int, y_ = (([] : List Int)) := ⟨_, rfl⟩
 (first | replace H := sb_ hy257 H | rw [← hy257] at H)
 have Ny257 := Aside0.mk hy257; clear hy257
 by_cases c2 : y257.length + l0_1.length < 17592186044416
 ·rw [if_pos c2] at H
  have LMc2 := Aside0.mk c2; clear c2
  obtain ⟨y260, hy260⟩ : ∃ y_ : List Int, y_ = (y257 ++ l0_1) := ⟨_, rfl⟩
  (first | replace H := sb_ hy260 H | rw [← hy260] at H)
  have Ny260 := Aside0.mk hy260; clear hy260
  obtain ⟨y263, hy263⟩ : ∃ y_ : List Int, y_ = (([] : List Int)) := ⟨_, rfl⟩
  (first | replace H := sb_ hy263 H | rw [← hy263] at H)
  have Ny263 := Aside0.mk hy263; clear hy263
  by_cases c3 : y263.length + l0_3.length < 17592186044416
  ·rw [if_pos c3] at H
   have LMc3 := Aside0.mk c3; clear c3
   obtain ⟨y266, hy266⟩ : ∃ y_ : List Int, y_ = (y263 ++ l0_3) := ⟨_, rfl⟩
   (first | replace H := sb_ hy266 H | rw [← hy266] at H)
   have Ny266 := Aside0.mk hy266; clear hy266
   have H' := Aside0.mk H
   clear H
   go_enter Try.func56, Try.ntmps56
   try go_wp2_with (first | ((with_reducible refine gate_dst (N := 1) rfl ?_); refine box_ (N := 1) (cs := #[.int .i64 a0_0, .slice A0_1 l0_1.length c0_1, .slice A0_2 l0_2.length c0_2, .slice A0_3 l0_3.length c0_3]) (t := 30) (fun gb255 hg w4 hbox hb => ?_); have BK255 := Aside0.mk (hbox); have GW255 := ge_ hg HB; have GE255 := ge_ hg HB; replace HB := (bs_ HB hb); clear hb hbox hg) | ((with_reducible refine gate_dst (N := 2) rfl ?_); refine box_ (N := 2) (cs := #[.int .i64 0, .slice none 0 0, .slice none 0 0, .slice none 0 0]) (t := 30) (fun gb256 hg w5 hbox hb => ?_); have BK256 := Aside0.mk (hbox); have GW256 := ge_ hg HB; have GE256 := ge_ hg HB; replace HB := (bs_ HB hb); have NB255_256 := nl_ hg BK255; have NB256_255 := ng_ hg BK255; replace BK255 := (bbA_ BK255 hb); clear hb hbox hg))
   replace BK255 := Aside0.mk (blk_drew BK255.out); replace BK256 := Aside0.mk (blk_drew BK256.out); replace HB := (bd_ HB)
   refine start_ (n := 13) (S := fun w' => w'.cell? ⟨gb255, 0, none⟩ = some (.int .i64 a0_0) ∧ w'.cell? ⟨gb255, 1, none⟩ = some (.slice A0_1 l0_1.length c0_1) ∧ w'.cell? ⟨gb255, 2, none⟩ = some (.slice A0_2 l0_2.length c0_2) ∧ w'.cell? ⟨gb255, 3, none⟩ = some (.slice A0_3 l0_3.length c0_3)) (ds := []) #[false, false, false, false, false, false, false, false, false, false, false, false, false] (by kernel_rfl) rfl rfl (cz4 BK255.out) (fun hHeld => ?_); refine with_tabW spec_l20Client.tab1 spec_l20Client.bits1 (fun HT_ HW_ => ?_)
   generalize w5.drew = w6 at BK255 BK256 HB hHeld ⊢
   refine pu_ (i := 0) (N := some 5) HT_ ?_; refine pu_ (i := 3) (N := some 8) HT_ ?_; refine pu_ (i := 7) (N := some 12) HT_ ?_; refine tk_ (i := 1) (N := some 6) HT_ HW_ hHeld ?_; refine tk_ (i := 4) (N := some 9) HT_ HW_ hHeld ?_; refine tk_ (i := 8) (N := some 13) HT_ HW_ hHeld ?_
   refine join_ (σ := Value × Value × Value × Value × Nat) 1 #[true, true, true, true, true, true, true, true, true, true, true, true, false] (fun s_ => [(7, s_.1), (10, s_.2.1), (11, s_.2.2.1), (14, s_.2.2.2.1), (3, .pointer (some ⟨s_.2.2.2.2, 0, none⟩)), (15, .agg #[.int .i64 a0_0, s_.2.1, .slice none 0 0, s_.2.2.2.1])]) (fun s_ w' => (w'.cell? ⟨gb255, 0, none⟩ = some (.int .i64 a0_0) ∧ w'.cell? ⟨gb255, 1, none⟩ = some (.slice A0_1 l0_1.length c0_1) ∧ w'.cell? ⟨gb255, 2, none⟩ = some (.slice A0_2 l0_2.length c0_2) ∧ w'.cell? ⟨gb255, 3, none⟩ = some (.slice A0_3 l0_3.length c0_3)) ∧ (Kd.R (Kd.int .i64) 3 w' w.heap.size (fun k_ => some k_ ≠ (s_.2.2.2.1 : Value).ownBlock) s_.2.1 y260) ∧ (Kd.R (Kd.int .i64) 3 w' w.heap.size (fun k_ => some k_ ≠ (s_.2.1 : Value).ownBlock) s_.2.2.2.1 y266) ∧ (w'.heap[gb255]? = some (.cells #[.int .i64 a0_0, .slice A0_1 l0_1.length c0_1, .slice A0_2 l0_2.length c0_2, .slice A0_3 l0_3.length c0_3] 30 (0, 0))) ∧ (w'.heap[gb256]? = some (.cells #[.int .i64 0, .slice none 0 0, .slice none 0 0, .slice none 0 0] 30 (0, 0))) ∧ (w'.heap[s_.2.2.2.2]? = some (.cells #[.int .i64 0, .slice none 0 0, .slice none 0 0, .slice none 0 0] 30 (0, 0))) ∧ (w.heap.size ≤ s_.2.2.2.2) ∧ (w.heap.size ≤ s_.2.2.2.2) ∧ (gb255 ≠ s_.2.2.2.2) ∧ (s_.2.2.2.2 ≠ gb255) ∧ (gb256 ≠ s_.2.2.2.2) ∧ (s_.2.2.2.2 ≠ gb256) ∧ (Below w.heap.size w w')) ?_ ?_
   rotate_left
   ·intro hJ2_5_6_9_11
    refine join_ (σ := Value × Value × Value × Value) 2 #[true, true, true, true, true, true, true, true, true, true, true, false, false] (fun s_ => [(7, s_.1), (10, s_.2.1), (11, s_.2.2.1), (14, s_.2.2.2), (15, .agg #[.int .i64 a0_0, s_.2.1, .slice none 0 0, s_.2.2.2])]) (fun s_ w' => (w'.cell? ⟨gb255, 0, none⟩ = some (.int .i64 a0_0) ∧ w'.cell? ⟨gb255, 1, none⟩ = some (.slice A0_1 l0_1.length c0_1) ∧ w'.cell? ⟨gb255, 2, none⟩ = some (.slice A0_2 l0_2.length c0_2) ∧ w'.cell? ⟨gb255, 3, none⟩ = some (.slice A0_3 l0_3.length c0_3)) ∧ (Kd.R (Kd.int .i64) 3 w' w.heap.size (fun k_ => some k_ ≠ (s_.2.2.2 : Value).ownBlock) s_.2.1 y260) ∧ (Kd.R (Kd.int .i64) 3 w' w.heap.size (fun k_ => some k_ ≠ (s_.2.1 : Value).ownBlock) s_.2.2.2 y266) ∧ (w'.heap[gb255]? = some (.cells #[.int .i64 a0_0, .slice A0_1 l0_1.length c0_1, .slice A0_2 l0_2.length c0_2, .slice A0_3 l0_3.length c0_3] 30 (0, 0))) ∧ (w'.heap[gb256]? = some (.cells #[.int .i64 0, .slice none 0 0, .slice none 0 0, .slice none 0 0] 30 (0, 0))) ∧ (Below w.heap.size w w')) ?_ ?_
    rotate_left
    ·intro hJ2_5_6_9
     refine join_ (σ := Value × Value × Value × Nat) 3 #[true, true, true, true, true, true, true, true, true, false, false, true, false] (fun s_ => [(7, s_.1), (10, s_.2.1), (11, s_.2.2.1), (3, .pointer (some ⟨s_.2.2.2, 0, none⟩))]) (fun s_ w' => (w'.cell? ⟨gb255, 0, none⟩ = some (.int .i64 a0_0) ∧ w'.cell? ⟨gb255, 1, none⟩ = some (.slice A0_1 l0_1.length c0_1) ∧ w'.cell? ⟨gb255, 2, none⟩ = some (.slice A0_2 l0_2.length c0_2) ∧ w'.cell? ⟨gb255, 3, none⟩ = some (.slice A0_3 l0_3.length c0_3)) ∧ (Kd.R (Kd.int .i64) 3 w' w.heap.size (fun k_ => some k_ ≠ (s_.2.2.1 : Value).ownBlock) s_.2.1 y260) ∧ (Kd.R (Kd.int .i64) 3 w' w.heap.size (fun k_ => some k_ ≠ (s_.2.1 : Value).ownBlock) s_.2.2.1 y263) ∧ (w'.heap[gb255]? = some (.cells #[.int .i64 a0_0, .slice A0_1 l0_1.length c0_1, .slice A0_2 l0_2.length c0_2, .slice A0_3 l0_3.length c0_3] 30 (0, 0))) ∧ (w'.heap[gb256]? = some (.cells #[.int .i64 0, .slice none 0 0, .slice none 0 0, .slice none 0 0] 30 (0, 0))) ∧ (w'.heap[s_.2.2.2]? = some (.cells #[.int .i64 0, .slice none 0 0, .slice none 0 0, .slice none 0 0] 30 (0, 0))) ∧ (w.heap.size ≤ s_.2.2.2) ∧ (w.heap.size ≤ s_.2.2.2) ∧ (gb255 ≠ s_.2.2.2) ∧ (s_.2.2.2 ≠ gb255) ∧ (gb256 ≠ s_.2.2.2) ∧ (s_.2.2.2 ≠ gb256) ∧ (Below w.heap.size w w')) ?_ ?_
     rotate_left
     ·intro hJ2_5_6_11
      refine join_ (σ := Value × Value × Value) 4 #[true, true, true, true, true, true, true, true, true, false, false, false, false] (fun s_ => [(7, s_.1), (10, s_.2.1), (11, s_.2.2)]) (fun s_ w' => (w'.cell? ⟨gb255, 0, none⟩ = some (.int .i64 a0_0) ∧ w'.cell? ⟨gb255, 1, none⟩ = some (.slice A0_1 l0_1.length c0_1) ∧ w'.cell? ⟨gb255, 2, none⟩ = some (.slice A0_2 l0_2.length c0_2) ∧ w'.cell? ⟨gb255, 3, none⟩ = some (.slice A0_3 l0_3.length c0_3)) ∧ (Kd.R (Kd.int .i64) 3 w' w.heap.size (fun k_ => some k_ ≠ (s_.2.2 : Value).ownBlock) s_.2.1 y260) ∧ (Kd.R (Kd.int .i64) 3 w' w.heap.size (fun k_ => some k_ ≠ (s_.2.1 : Value).ownBlock) s_.2.2 y263) ∧ (w'.heap[gb255]? = some (.cells #[.int .i64 a0_0, .slice A0_1 l0_1.length c0_1, .slice A0_2 l0_2.length c0_2, .slice A0_3 l0_3.length c0_3] 30 (0, 0))) ∧ (w'.heap[gb256]? = some (.cells #[.int .i64 0, .slice none 0 0, .slice none 0 0, .slice none 0 0] 30 (0, 0))) ∧ (Below w.heap.size w w')) ?_ ?_
      rotate_left
      ·intro hJ2_5_6
       refine join_ (σ := Value × Value × Nat) 4 #[true, true, true, true, true, true, false, true, true, false, false, true, false] (fun s_ => [(7, s_.1), (10, s_.2.1), (3, .pointer (some ⟨s_.2.2, 0, none⟩))]) (fun s_ w' => (w'.cell? ⟨gb255, 0, none⟩ = some (.int .i64 a0_0) ∧ w'.cell? ⟨gb255, 1, none⟩ = some (.slice A0_1 l0_1.length c0_1) ∧ w'.cell? ⟨gb255, 2, none⟩ = some (.slice A0_2 l0_2.length c0_2) ∧ w'.cell? ⟨gb255, 3, none⟩ = some (.slice A0_3 l0_3.length c0_3)) ∧ (Kd.R (Kd.int .i64) 3 w' w.heap.size (fun _ => True) s_.2.1 y260) ∧ (w'.heap[gb255]? = some (.cells #[.int .i64 a0_0, .slice A0_1 l0_1.length c0_1, .slice A0_2 l0_2.length c0_2, .slice A0_3 l0_3.length c0_3] 30 (0, 0))) ∧ (w'.heap[gb256]? = some (.cells #[.int .i64 0, .slice none 0 0, .slice none 0 0, .slice none 0 0] 30 (0, 0))) ∧ (w'.heap[s_.2.2]? = some (.cells #[.int .i64 0, .slice none 0 0, .slice none 0 0, .slice none 0 0] 30 (0, 0))) ∧ (w.heap.size ≤ s_.2.2) ∧ (w.heap.size ≤ s_.2.2) ∧ (gb255 ≠ s_.2.2) ∧ (s_.2.2 ≠ gb255) ∧ (gb256 ≠ s_.2.2) ∧ (s_.2.2 ≠ gb256) ∧ (Below w.heap.size w w')) ?_ ?_
       rotate_left
       ·intro hJ2_5_11
        refine join_ (σ := Value × Value × Nat) 4 #[true, true, true, true, true, false, true, true, true, false, false, true, false] (fun s_ => [(7, s_.1), (11, s_.2.1), (3, .pointer (some ⟨s_.2.2, 0, none⟩))]) (fun s_ w' => (w'.cell? ⟨gb255, 0, none⟩ = some (.int .i64 a0_0) ∧ w'.cell? ⟨gb255, 1, none⟩ = some (.slice A0_1 l0_1.length c0_1) ∧ w'.cell? ⟨gb255, 2, none⟩ = some (.slice A0_2 l0_2.length c0_2) ∧ w'.cell? ⟨gb255, 3, none⟩ = some (.slice A0_3 l0_3.length c0_3)) ∧ (Kd.R (Kd.int .i64) 3 w' w.heap.size (fun k_ => some k_ ≠ (s_.2.1 : Value).ownBlock) s_.1 y257) ∧ (Kd.R (Kd.int .i64) 3 w' w.heap.size (fun k_ => some k_ ≠ (s_.1 : Value).ownBlock) s_.2.1 y263) ∧ (w'.heap[gb255]? = some (.cells #[.int .i64 a0_0, .slice A0_1 l0_1.length c0_1, .slice A0_2 l0_2.length c0_2, .slice A0_3 l0_3.length c0_3] 30 (0, 0))) ∧ (w'.heap[gb256]? = some (.cells #[.int .i64 0, .slice none 0 0, .slice none 0 0, .slice none 0 0] 30 (0, 0))) ∧ (w'.heap[s_.2.2]? = some (.cells #[.int .i64 0, .slice none 0 0, .slice none 0 0, .slice none 0 0] 30 (0, 0))) ∧ (w.heap.size ≤ s_.2.2) ∧ (w.heap.size ≤ s_.2.2) ∧ (gb255 ≠ s_.2.2) ∧ (s_.2.2 ≠ gb255) ∧ (gb256 ≠ s_.2.2) ∧ (s_.2.2 ≠ gb256) ∧ (Below w.heap.size w w')) ?_ ?_
        rotate_left
        ·intro hJ2_6_11
         refine join_ (σ := Value × Value) 5 #[true, true, true, true, true, true, false, true, true, false, false, false, false] (fun s_ => [(7, s_.1), (10, s_.2)]) (fun s_ w' => (w'.cell? ⟨gb255, 0, none⟩ = some (.int .i64 a0_0) ∧ w'.cell? ⟨gb255, 1, none⟩ = some (.slice A0_1 l0_1.length c0_1) ∧ w'.cell? ⟨gb255, 2, none⟩ = some (.slice A0_2 l0_2.length c0_2) ∧ w'.cell? ⟨gb255, 3, none⟩ = some (.slice A0_3 l0_3.length c0_3)) ∧ (Kd.R (Kd.int .i64) 3 w' w.heap.size (fun _ => True) s_.2 y260) ∧ (w'.heap[gb255]? = some (.cells #[.int .i64 a0_0, .slice A0_1 l0_1.length c0_1, .slice A0_2 l0_2.length c0_2, .slice A0_3 l0_3.length c0_3] 30 (0, 0))) ∧ (w'.heap[gb256]? = some (.cells #[.int .i64 0, .slice none 0 0, .slice none 0 0, .slice none 0 0] 30 (0, 0))) ∧ (Below w.heap.size w w')) ?_ ?_
         rotate_left
         ·intro hJ2_5
          refine join_ (σ := Value × Value) 5 #[true, true, true, true, true, false, true, true, true, false, false, false, false] (fun s_ => [(7, s_.1), (11, s_.2)]) (fun s_ w' => (w'.cell? ⟨gb255, 0, none⟩ = some (.int .i64 a0_0) ∧ w'.cell? ⟨gb255, 1, none⟩ = some (.slice A0_1 l0_1.length c0_1) ∧ w'.cell? ⟨gb255, 2, none⟩ = some (.slice A0_2 l0_2.length c0_2) ∧ w'.cell? ⟨gb255, 3, none⟩ = some (.slice A0_3 l0_3.length c0_3)) ∧ (Kd.R (Kd.int .i64) 3 w' w.heap.size (fun k_ => some k_ ≠ (s_.2 : Value).ownBlock) s_.1 y257) ∧ (Kd.R (Kd.int .i64) 3 w' w.heap.size (fun k_ => some k_ ≠ (s_.1 : Value).ownBlock) s_.2 y263) ∧ (w'.heap[gb255]? = some (.cells #[.int .i64 a0_0, .slice A0_1 l0_1.length c0_1, .slice A0_2 l0_2.length c0_2, .slice A0_3 l0_3.length c0_3] 30 (0, 0))) ∧ (w'.heap[gb256]? = some (.cells #[.int .i64 0, .slice none 0 0, .slice none 0 0, .slice none 0 0] 30 (0, 0))) ∧ (Below w.heap.size w w')) ?_ ?_
          rotate_left
          ·intro hJ2_6
           refine join_ (σ := Value × Nat) 5 #[true, true, true, true, true, false, false, true, true, false, false, true, false] (fun s_ => [(7, s_.1), (3, .pointer (some ⟨s_.2, 0, none⟩))]) (fun s_ w' => (w'.cell? ⟨gb255, 0, none⟩ = some (.int .i64 a0_0) ∧ w'.cell? ⟨gb255, 1, none⟩ = some (.slice A0_1 l0_1.length c0_1) ∧ w'.cell? ⟨gb255, 2, none⟩ = some (.slice A0_2 l0_2.length c0_2) ∧ w'.cell? ⟨gb255, 3, none⟩ = some (.slice A0_3 l0_3.length c0_3)) ∧ (Kd.R (Kd.int .i64) 3 w' w.heap.size (fun _ => True) s_.1 y257) ∧ (w'.heap[gb255]? = some (.cells #[.int .i64 a0_0, .slice A0_1 l0_1.length c0_1, .slice A0_2 l0_2.length c0_2, .slice A0_3 l0_3.length c0_3] 30 (0, 0))) ∧ (w'.heap[gb256]? = some (.cells #[.int .i64 0, .slice none 0 0, .slice none 0 0, .slice none 0 0] 30 (0, 0))) ∧ (w'.heap[s_.2]? = some (.cells #[.int .i64 0, .slice none 0 0, .slice none 0 0, .slice none 0 0] 30 (0, 0))) ∧ (w.heap.size ≤ s_.2) ∧ (w.heap.size ≤ s_.2) ∧ (gb255 ≠ s_.2) ∧ (s_.2 ≠ gb255) ∧ (gb256 ≠ s_.2) ∧ (s_.2 ≠ gb256) ∧ (Below w.heap.size w w')) ?_ ?_
           rotate_left
           ·intro hJ2_11
            refine join_ (σ := Value × Nat) 5 #[true, true, false, true, true, false, true, true, true, false, false, true, false] (fun s_ => [(11, s_.1), (3, .pointer (some ⟨s_.2, 0, none⟩))]) (fun s_ w' => (w'.cell? ⟨gb255, 0, none⟩ = some (.int .i64 a0_0) ∧ w'.cell? ⟨gb255, 1, none⟩ = some (.slice A0_1 l0_1.length c0_1) ∧ w'.cell? ⟨gb255, 2, none⟩ = some (.slice A0_2 l0_2.length c0_2) ∧ w'.cell? ⟨gb255, 3, none⟩ = some (.slice A0_3 l0_3.length c0_3)) ∧ (Kd.R (Kd.int .i64) 3 w' w.heap.size (fun _ => True) s_.1 y263) ∧ (w'.heap[gb255]? = some (.cells #[.int .i64 a0_0, .slice A0_1 l0_1.length c0_1, .slice A0_2 l0_2.length c0_2, .slice A0_3 l0_3.length c0_3] 30 (0, 0))) ∧ (w'.heap[gb256]? = some (.cells #[.int .i64 0, .slice none 0 0, .slice none 0 0, .slice none 0 0] 30 (0, 0))) ∧ (w'.heap[s_.2]? = some (.cells #[.int .i64 0, .slice none 0 0, .slice none 0 0, .slice none 0 0] 30 (0, 0))) ∧ (w.heap.size ≤ s_.2) ∧ (w.heap.size ≤ s_.2) ∧ (gb255 ≠ s_.2) ∧ (s_.2 ≠ gb255) ∧ (gb256 ≠ s_.2) ∧ (s_.2 ≠ gb256) ∧ (Below w.heap.size w w')) ?_ ?_
            rotate_left
            ·intro hJ6_11
             refine join_ (σ := Value) 6 #[true, true, true, true, true, false, false, true, true, false, false, false, false] (fun s_ => [(7, s_)]) (fun s_ w' => (w'.cell? ⟨gb255, 0, none⟩ = some (.int .i64 a0_0) ∧ w'.cell? ⟨gb255, 1, none⟩ = some (.slice A0_1 l0_1.length c0_1) ∧ w'.cell? ⟨gb255, 2, none⟩ = some (.slice A0_2 l0_2.length c0_2) ∧ w'.cell? ⟨gb255, 3, none⟩ = some (.slice A0_3 l0_3.length c0_3)) ∧ (Kd.R (Kd.int .i64) 3 w' w.heap.size (fun _ => True) s_ y257) ∧ (w'.heap[gb255]? = some (.cells #[.int .i64 a0_0, .slice A0_1 l0_1.length c0_1, .slice A0_2 l0_2.length c0_2, .slice A0_3 l0_3.length c0_3] 30 (0, 0))) ∧ (w'.heap[gb256]? = some (.cells #[.int .i64 0, .slice none 0 0, .slice none 0 0, .slice none 0 0] 30 (0, 0))) ∧ (Below w.heap.size w w')) ?_ ?_
             rotate_left
             ·intro hJ2
              refine join_ (σ := Value) 6 #[true, true, false, true, true, false, true, true, true, false, false, false, false] (fun s_ => [(11, s_)]) (fun s_ w' => (w'.cell? ⟨gb255, 0, none⟩ = some (.int .i64 a0_0) ∧ w'.cell? ⟨gb255, 1, none⟩ = some (.slice A0_1 l0_1.length c0_1) ∧ w'.cell? ⟨gb255, 2, none⟩ = some (.slice A0_2 l0_2.length c0_2) ∧ w'.cell? ⟨gb255, 3, none⟩ = some (.slice A0_3 l0_3.length c0_3)) ∧ (Kd.R (Kd.int .i64) 3 w' w.heap.size (fun _ => True) s_ y263) ∧ (w'.heap[gb255]? = some (.cells #[.int .i64 a0_0, .slice A0_1 l0_1.length c0_1, .slice A0_2 l0_2.length c0_2, .slice A0_3 l0_3.length c0_3] 30 (0, 0))) ∧ (w'.heap[gb256]? = some (.cells #[.int .i64 0, .slice none 0 0, .slice none 0 0, .slice none 0 0] 30 (0, 0))) ∧ (Below w.heap.size w w')) ?_ ?_
              rotate_left
              ·intro hJ6
               refine join_ (σ := Nat) 6 #[true, true, false, true, true, false, false, true, true, false, false, true, false] (fun s_ => [(3, .pointer (some ⟨s_, 0, none⟩))]) (fun s_ w' => (w'.cell? ⟨gb255, 0, none⟩ = some (.int .i64 a0_0) ∧ w'.cell? ⟨gb255, 1, none⟩ = some (.slice A0_1 l0_1.length c0_1) ∧ w'.cell? ⟨gb255, 2, none⟩ = some (.slice A0_2 l0_2.length c0_2) ∧ w'.cell? ⟨gb255, 3, none⟩ = some (.slice A0_3 l0_3.length c0_3)) ∧ (w'.heap[gb255]? = some (.cells #[.int .i64 a0_0, .slice A0_1 l0_1.length c0_1, .slice A0_2 l0_2.length c0_2, .slice A0_3 l0_3.length c0_3] 30 (0, 0))) ∧ (w'.heap[gb256]? = some (.cells #[.int .i64 0, .slice none 0 0, .slice none 0 0, .slice none 0 0] 30 (0, 0))) ∧ (w'.heap[s_]? = some (.cells #[.int .i64 0, .slice none 0 0, .slice none 0 0, .slice none 0 0] 30 (0, 0))) ∧ (w.heap.size ≤ s_) ∧ (w.heap.size ≤ s_) ∧ (gb255 ≠ s_) ∧ (s_ ≠ gb255) ∧ (gb256 ≠ s_) ∧ (s_ ≠ gb256) ∧ (Below w.heap.size w w')) ?_ ?_
               rotate_left
               ·intro hJ11
                refine three_ (i := 2) (j := 6) (k := 11) (Ni := some 7) (Nj := some 11) (Nk := some 3) #[true, true, true, true, true, false, false, true, true, false, false, false, false] #[true, true, false, true, true, false, true, true, true, false, false, false, false] #[true, true, false, true, true, false, false, true, true, false, false, true, false] rfl rfl rfl rfl rfl rfl (three_of HT_.out (by kernel_rfl)) (by decide) (by decide) (by decide) (fun K hK => ?_) (fun K hK => ?_) (fun K hK => ?_)
                ·skip
                 refine Kd.R_lit_step (Kd.int .i64) _ 3 ?hg (N := 7) ?hd (xs := ([] : List Int)) (inner := []) (ok := fun _ => True) (okp := fun _ => True) ?hr ?hp (fun _ hk => hk) trivial (Below.refl _ _) (Nat.le_refl _) (by simp) ?_; (case hd => rfl); (case hg => rfl); (case hr => first | (go_simp; done) | (go_simp; rfl)); (case hp => exact (Reps.none _ _))
                 intro v258 w7 ho8 hb hg_ hnew_
                 clear hg_ hnew_
                 (first | rw [← Ny257.out] at ho8 | (simp only [Int.reduceToNat] at ho8; rw [← Ny257.out] at ho8))
                 have n0_ := Aside0.mk (Kd.R_lower ho8 (below_size (hbA_ HB.out))); have n1_ := (bbA_ BK255 hb); have n2_ := (bbA_ BK256 hb); have n3_ := (bs_ HB hb); clear BK255 BK256 HB; have HO259 := n0_; have BK255 := n1_; have BK256 := n2_; have HB := n3_; clear n0_ n1_ n2_ n3_ hb ho8
                 refine hK.out _ _ (cz4 BK255.out) (fun hHeld => ?_)
                 clear hK K; refine nm_ 7 ?_
                 exact norm_ (by first | (simp only [putAll, Act.put, List.setIfInBounds_toArray, List.set_cons_zero, List.set_cons_succ]; done) | (simp only [putAll, Act.put, List.setIfInBounds_toArray, List.set_cons_zero, List.set_cons_succ]; rfl)) (hJ2 (v258) _ ⟨hHeld, (kR_ HO259.out), (kb_ BK255.out), (kb_ BK256.out), (hbA_ HB.out)⟩)
                ·skip
                 refine Kd.R_lit_step (Kd.int .i64) _ 3 ?hg (N := 11) ?hd (xs := ([] : List Int)) (inner := []) (ok := fun _ => True) (okp := fun _ => True) ?hr ?hp (fun _ hk => hk) trivial (Below.refl _ _) (Nat.le_refl _) (by simp) ?_; (case hd => rfl); (case hg => rfl); (case hr => first | (go_simp; done) | (go_simp; rfl)); (case hp => exact (Reps.none _ _))
                 intro v264 w7 ho8 hb hg_ hnew_
                 clear hg_ hnew_
                 (first | rw [← Ny263.out] at ho8 | (simp only [Int.reduceToNat] at ho8; rw [← Ny263.out] at ho8))
                 have n0_ := Aside0.mk (Kd.R_lower ho8 (below_size (hbA_ HB.out))); have n1_ := (bbA_ BK255 hb); have n2_ := (bbA_ BK256 hb); have n3_ := (bs_ HB hb); clear BK255 BK256 HB; have HO265 := n0_; have BK255 := n1_; have BK256 := n2_; have HB := n3_; clear n0_ n1_ n2_ n3_ hb ho8
                 refine hK.out _ _ (cz4 BK255.out) (fun hHeld => ?_)
                 clear hK K; refine nm_ 11 ?_
                 exact norm_ (by first | (simp only [putAll, Act.put, List.setIfInBounds_toArray, List.set_cons_zero, List.set_cons_succ]; done) | (simp only [putAll, Act.put, List.setIfInBounds_toArray, List.set_cons_zero, List.set_cons_succ]; rfl)) (hJ6 (v264) _ ⟨hHeld, (kR_ HO265.out), (kb_ BK255.out), (kb_ BK256.out), (hbA_ HB.out)⟩)
                ·skip
                 refine box_step ?hg (N := 3) ?hd (cs := #[.int .i64 0, .slice none 0 0, .slice none 0 0, .slice none 0 0]) (t := 30) ?hr ?_; (case hd => rfl); (case hg => rfl); (case hr => first | (go_simp; done) | (go_simp; rfl))
                 intro gb269 hg w7 hbox hb
                 have n0_ := (bbA_ BK255 hb); have n1_ := (bbA_ BK256 hb); have n2_ := (bs_ HB hb); have n3_ := Aside0.mk (hbox); have n4_ := ge_ hg HB; have n5_ := ge_ hg HB; have n6_ := nl_ hg BK255; have n7_ := ng_ hg BK255; have n8_ := nl_ hg BK256; have n9_ := ng_ hg BK256; clear BK255 BK256 HB; have BK255 := n0_; have BK256 := n1_; have HB := n2_; have BK269 := n3_; have GW269 := n4_; have GE269 := n5_; have NB255_269 := n6_; have NB269_255 := n7_; have NB256_269 := n8_; have NB269_256 := n9_; clear n0_ n1_ n2_ n3_ n4_ n5_ n6_ n7_ n8_ n9_ hb hbox hg
                 refine hK.out _ _ (cz4 BK255.out) (fun hHeld => ?_)
                 clear hK K; refine nm_ 3 ?_
                 exact norm_ (by first | (simp only [putAll, Act.put, List.setIfInBounds_toArray, List.set_cons_zero, List.set_cons_succ]; done) | (simp only [putAll, Act.put, List.setIfInBounds_toArray, List.set_cons_zero, List.set_cons_succ]; rfl)) (hJ11 (gb269) _ ⟨hHeld, (kb_ BK255.out), (kb_ BK256.out), (kb_ BK269.out), GW269.out, GE269.out, NB255_269.out, NB269_255.out, NB256_269.out, NB269_256.out, (hbA_ HB.out)⟩)
               ·skip
                rintro gb269 w8 ⟨hS_, h0_, h1_, h2_, h3_, h4_, h5_, h6_, h7_, h8_, h9_⟩
                have n0_ : Aside0 (w8.heap[gb255]? = some (.cells #[.int .i64 a0_0, .slice A0_1 l0_1.length c0_1, .slice A0_2 l0_2.length c0_2, .slice A0_3 l0_3.length c0_3] 30 (0, 0))) := ⟨h0_⟩
                have n1_ : Aside0 (w8.heap[gb256]? = some (.cells #[.int .i64 0, .slice none 0 0, .slice none 0 0, .slice none 0 0] 30 (0, 0))) := ⟨h1_⟩
                have n2_ : Aside0 (w8.heap[gb269]? = some (.cells #[.int .i64 0, .slice none 0 0, .slice none 0 0, .slice none 0 0] 30 (0, 0))) := ⟨h2_⟩
                have n3_ : Aside0 (w.heap.size ≤ gb269) := ⟨h3_⟩
                have n4_ : Aside0 (w.heap.size ≤ gb269) := ⟨h4_⟩
                have n5_ : Aside0 (gb255 ≠ gb269) := ⟨h5_⟩
                have n6_ : Aside0 (gb269 ≠ gb255) := ⟨h6_⟩
                have n7_ : Aside0 (gb256 ≠ gb269) := ⟨h7_⟩
                have n8_ : Aside0 (gb269 ≠ gb256) := ⟨h8_⟩
                have n9_ : Aside0 (Below w.heap.size w w8) := ⟨h9_⟩
                clear BK255 BK256 HB h0_ h1_ h2_ h3_ h4_ h5_ h6_ h7_ h8_ h9_; have BK255 := n0_; have BK256 := n1_; have BK269 := n2_; have GW269 := n3_; have GE269 := n4_; have NB255_269 := n5_; have NB269_255 := n6_; have NB256_269 := n7_; have NB269_256 := n8_; have HB := n9_; clear n0_ n1_ n2_ n3_ n4_ n5_ n6_ n7_ n8_ n9_
                have hHeld : w8.cell? ⟨gb255, 0, none⟩ = some (.int .i64 a0_0) ∧ w8.cell? ⟨gb255, 1, none⟩ = some (.slice A0_1 l0_1.length c0_1) ∧ w8.cell? ⟨gb255, 2, none⟩ = some (.slice A0_2 l0_2.length c0_2) ∧ w8.cell? ⟨gb255, 3, none⟩ = some (.slice A0_3 l0_3.length c0_3) := hS_
                refine norm_ (a' := ?_) ?_ ?_
                rotate_left
                ·simp only [putAll, Act.put, List.setIfInBounds_toArray, List.set_cons_zero, List.set_cons_succ]
                 rfl
                refine two_ (i := 2) (j := 6) (Ni := some 7) (Nj := some 11) #[true, true, true, true, true, false, false, true, true, false, false, true, false] #[true, true, false, true, true, false, true, true, true, false, false, true, false] rfl rfl rfl rfl (two_of HT_.out (by kernel_rfl)) (by decide) (by decide) (fun K hK => ?_) (fun K hK => ?_)
                ·skip
                 refine Kd.R_lit_step (Kd.int .i64) _ 3 ?hg (N := 7) ?hd (xs := ([] : List Int)) (inner := []) (ok := fun _ => True) (okp := fun _ => True) ?hr ?hp (fun _ hk => hk) trivial (Below.refl _ _) (Nat.le_refl _) (by simp) ?_; (case hd => rfl); (case hg => rfl); (case hr => first | (go_simp; done) | (go_simp; rfl)); (case hp => exact (Reps.none _ _))
                 intro v258 w9 ho10 hb hg_ hnew_
                 clear hg_ hnew_
                 (first | rw [← Ny257.out] at ho10 | (simp only [Int.reduceToNat] at ho10; rw [← Ny257.out] at ho10))
                 have n0_ := Aside0.mk (Kd.R_lower ho10 (below_size (hbA_ HB.out))); have n1_ := (bbA_ BK255 hb); have n2_ := (bbA_ BK256 hb); have n3_ := (bbA_ BK269 hb); have n4_ := (bs_ HB hb); clear BK255 BK256 BK269 HB; have HO259 := n0_; have BK255 := n1_; have BK256 := n2_; have BK269 := n3_; have HB := n4_; clear n0_ n1_ n2_ n3_ n4_ hb ho10
                 refine hK.out _ _ (cz4 BK255.out) (fun hHeld => ?_)
                 clear hK K; refine nm_ 7 ?_
                 exact norm_ (by first | (simp only [putAll, Act.put, List.setIfInBounds_toArray, List.set_cons_zero, List.set_cons_succ]; done) | (simp only [putAll, Act.put, List.setIfInBounds_toArray, List.set_cons_zero, List.set_cons_succ]; rfl)) (hJ2_11 (v258, gb269) _ ⟨hHeld, (kR_ HO259.out), (kb_ BK255.out), (kb_ BK256.out), (kb_ BK269.out), GW269.out, GE269.out, NB255_269.out, NB269_255.out, NB256_269.out, NB269_256.out, (hbA_ HB.out)⟩)
                ·skip
                 refine Kd.R_lit_step (Kd.int .i64) _ 3 ?hg (N := 11) ?hd (xs := ([] : List Int)) (inner := []) (ok := fun _ => True) (okp := fun _ => True) ?hr ?hp (fun _ hk => hk) trivial (Below.refl _ _) (Nat.le_refl _) (by simp) ?_; (case hd => rfl); (case hg => rfl); (case hr => first | (go_simp; done) | (go_simp; rfl)); (case hp => exact (Reps.none _ _))
                 intro v264 w9 ho10 hb hg_ hnew_
                 clear hg_ hnew_
                 (first | rw [← Ny263.out] at ho10 | (simp only [Int.reduceToNat] at ho10; rw [← Ny263.out] at ho10))
                 have n0_ := Aside0.mk (Kd.R_lower ho10 (below_size (hbA_ HB.out))); have n1_ := (bbA_ BK255 hb); have n2_ := (bbA_ BK256 hb); have n3_ := (bbA_ BK269 hb); have n4_ := (bs_ HB hb); clear BK255 BK256 BK269 HB; have HO265 := n0_; have BK255 := n1_; have BK256 := n2_; have BK269 := n3_; have HB := n4_; clear n0_ n1_ n2_ n3_ n4_ hb ho10
                 refine hK.out _ _ (cz4 BK255.out) (fun hHeld => ?_)
                 clear hK K; refine nm_ 11 ?_
                 exact norm_ (by first | (simp only [putAll, Act.put, List.setIfInBounds_toArray, List.set_cons_zero, List.set_cons_succ]; done) | (simp only [putAll, Act.put, List.setIfInBounds_toArray, List.set_cons_zero, List.set_cons_succ]; rfl)) (hJ6_11 (v264, gb269) _ ⟨hHeld, (kR_ HO265.out), (kb_ BK255.out), (kb_ BK256.out), (kb_ BK269.out), GW269.out, GE269.out, NB255_269.out, NB269_255.out, NB256_269.out, NB269_256.out, (hbA_ HB.out)⟩)
              ·skip
               rintro v264 w9 ⟨hS_, h0_, h1_, h2_, h3_⟩
               have n0_ : Aside0 (Kd.R (Kd.int .i64) 3 w9 w.heap.size (fun _ => True) v264 y263) := ⟨h0_⟩
               have n1_ : Aside0 (w9.heap[gb255]? = some (.cells #[.int .i64 a0_0, .slice A0_1 l0_1.length c0_1, .slice A0_2 l0_2.length c0_2, .slice A0_3 l0_3.length c0_3] 30 (0, 0))) := ⟨h1_⟩
               have n2_ : Aside0 (w9.heap[gb256]? = some (.cells #[.int .i64 0, .slice none 0 0, .slice none 0 0, .slice none 0 0] 30 (0, 0))) := ⟨h2_⟩
               have n3_ : Aside0 (Below w.heap.size w w9) := ⟨h3_⟩
               clear BK255 BK256 HB h0_ h1_ h2_ h3_; have HO265 := n0_; have BK255 := n1_; have BK256 := n2_; have HB := n3_; clear n0_ n1_ n2_ n3_
               have hHeld : w9.cell? ⟨gb255, 0, none⟩ = some (.int .i64 a0_0) ∧ w9.cell? ⟨gb255, 1, none⟩ = some (.slice A0_1 l0_1.length c0_1) ∧ w9.cell? ⟨gb255, 2, none⟩ = some (.slice A0_2 l0_2.length c0_2) ∧ w9.cell? ⟨gb255, 3, none⟩ = some (.slice A0_3 l0_3.length c0_3) := hS_
               refine norm_ (a' := ?_) ?_ ?_
               rotate_left
               ·simp only [putAll, Act.put, List.setIfInBounds_toArray, List.set_cons_zero, List.set_cons_succ]
                rfl
               refine two_ (i := 2) (j := 11) (Ni := some 7) (Nj := some 3) #[true, true, true, true, true, false, true, true, true, false, false, false, false] #[true, true, false, true, true, false, true, true, true, false, false, true, false] rfl rfl rfl rfl (two_of HT_.out (by kernel_rfl)) (by decide) (by decide) (fun K hK => ?_) (fun K hK => ?_)
               ·skip
                refine Kd.R_lit_step (Kd.int .i64) _ 3 ?hg (N := 7) ?hd (xs := ([] : List Int)) (inner := []) (ok := fun _ => True) (okp := fun _ => True) ?hr ?hp (fun _ hk => hk) trivial (Below.refl _ _) (Nat.le_refl _) (by simp) ?_; (case hd => rfl); (case hg => rfl); (case hr => first | (go_simp; done) | (go_simp; rfl)); (case hp => exact (Reps.none _ _))
                intro v258 w10 ho11 hb hg_ hnew_
                clear hg_ hnew_
                (first | rw [← Ny257.out] at ho11 | (simp only [Int.reduceToNat] at ho11; rw [← Ny257.out] at ho11))
                have n0_ := Aside0.mk (Kd.R_elder' (kR_ HO265.out) (Kd.R_base ho11) hb); have n1_ := Aside0.mk (Kd.R_lower (Kd.R_new' ho11 (Kd.R_lt (kR_ HO265.out))) (below_size (hbA_ HB.out))); have n2_ := (bbA_ BK255 hb); have n3_ := (bbA_ BK256 hb); have n4_ := (bs_ HB hb); clear HO265 BK255 BK256 HB; have HO265 := n0_; have HO259 := n1_; have BK255 := n2_; have BK256 := n3_; have HB := n4_; clear n0_ n1_ n2_ n3_ n4_ hb ho11
                refine hK.out _ _ (cz4 BK255.out) (fun hHeld => ?_)
                clear hK K; refine nm_ 7 ?_
                exact norm_ (by first | (simp only [putAll, Act.put, List.setIfInBounds_toArray, List.set_cons_zero, List.set_cons_succ]; done) | (simp only [putAll, Act.put, List.setIfInBounds_toArray, List.set_cons_zero, List.set_cons_succ]; rfl)) (hJ2_6 (v258, v264) _ ⟨hHeld, (by refine kR_ ?_; first | exact Kd.R_mono HO259.out (fun _ hk => hk.2) | exact Kd.R_mono HO259.out (fun _ _ => trivial)), (by refine kR_ ?_; first | exact Kd.R_mono HO265.out (fun _ hk => hk.2) | exact Kd.R_mono HO265.out (fun _ _ => trivial)), (kb_ BK255.out), (kb_ BK256.out), (hbA_ HB.out)⟩)
               ·skip
                refine box_step ?hg (N := 3) ?hd (cs := #[.int .i64 0, .slice none 0 0, .slice none 0 0, .slice none 0 0]) (t := 30) ?hr ?_; (case hd => rfl); (case hg => rfl); (case hr => first | (go_simp; done) | (go_simp; rfl))
                intro gb269 hg w10 hbox hb
                have n0_ := Aside0.mk (Kd.R_below (kR_ HO265.out) hb); have n1_ := (bbA_ BK255 hb); have n2_ := (bbA_ BK256 hb); have n3_ := (bs_ HB hb); have n4_ := Aside0.mk (hbox); have n5_ := ge_ hg HB; have n6_ := ge_ hg HB; have n7_ := nl_ hg BK255; have n8_ := ng_ hg BK255; have n9_ := nl_ hg BK256; have n10_ := ng_ hg BK256; clear HO265 BK255 BK256 HB; have HO265 := n0_; have BK255 := n1_; have BK256 := n2_; have HB := n3_; have BK269 := n4_; have GW269 := n5_; have GE269 := n6_; have NB255_269 := n7_; have NB269_255 := n8_; have NB256_269 := n9_; have NB269_256 := n10_; clear n0_ n1_ n2_ n3_ n4_ n5_ n6_ n7_ n8_ n9_ n10_ hb hbox hg
                refine hK.out _ _ (cz4 BK255.out) (fun hHeld => ?_)
                clear hK K; refine nm_ 3 ?_
                exact norm_ (by first | (simp only [putAll, Act.put, List.setIfInBounds_toArray, List.set_cons_zero, List.set_cons_succ]; done) | (simp only [putAll, Act.put, List.setIfInBounds_toArray, List.set_cons_zero, List.set_cons_succ]; rfl)) (hJ6_11 (v264, gb269) _ ⟨hHeld, (kR_ HO265.out), (kb_ BK255.out), (kb_ BK256.out), (kb_ BK269.out), GW269.out, GE269.out, NB255_269.out, NB269_255.out, NB256_269.out, NB269_256.out, (hbA_ HB.out)⟩)
             ·skip
              rintro v258 w9 ⟨hS_, h0_, h1_, h2_, h3_⟩
              have n0_ : Aside0 (Kd.R (Kd.int .i64) 3 w9 w.heap.size (fun _ => True) v258 y257) := ⟨h0_⟩
              have n1_ : Aside0 (w9.heap[gb255]? = some (.cells #[.int .i64 a0_0, .slice A0_1 l0_1.length c0_1, .slice A0_2 l0_2.length c0_2, .slice A0_3 l0_3.length c0_3] 30 (0, 0))) := ⟨h1_⟩
              have n2_ : Aside0 (w9.heap[gb256]? = some (.cells #[.int .i64 0, .slice none 0 0, .slice none 0 0, .slice none 0 0] 30 (0, 0))) := ⟨h2_⟩
              have n3_ : Aside0 (Below w.heap.size w w9) := ⟨h3_⟩
              clear BK255 BK256 HB h0_ h1_ h2_ h3_; have HO259 := n0_; have BK255 := n1_; have BK256 := n2_; have HB := n3_; clear n0_ n1_ n2_ n3_
              have hHeld : w9.cell? ⟨gb255, 0, none⟩ = some (.int .i64 a0_0) ∧ w9.cell? ⟨gb255, 1, none⟩ = some (.slice A0_1 l0_1.length c0_1) ∧ w9.cell? ⟨gb255, 2, none⟩ = some (.slice A0_2 l0_2.length c0_2) ∧ w9.cell? ⟨gb255, 3, none⟩ = some (.slice A0_3 l0_3.length c0_3) := hS_
              refine norm_ (a' := ?_) ?_ ?_
              rotate_left
              ·simp only [putAll, Act.put, List.setIfInBounds_toArray, List.set_cons_zero, List.set_cons_succ]
               rfl
              refine three_ (i := 5) (j := 6) (k := 11) (Ni := some 10) (Nj := some 11) (Nk := some 3) #[true, true, true, true, true, true, false, true, true, false, false, false, false] #[true, true, true, true, true, false, true, true, true, false, false, false, false] #[true, true, true, true, true, false, false, true, true, false, false, true, false] rfl rfl rfl rfl rfl rfl (three_of HT_.out (by kernel_rfl)) (by decide) (by decide) (by decide) (fun K hK => ?_) (fun K hK => ?_) (fun K hK => ?_)
              ·skip
               refine Kd.R_append_rows_step (Kd.int .i64) (w0 := w) w.heap.size (by rfl) (.tmp 7) (.tmp 9) 22 3 (.int .i64 0) 8 rfl Try.underlying22 info3 rfl (by decide) (by omega) v258 y257 l0_1 _ _ _ (fun _ => True) (fun _ => False) rfl rfl ?aO ?aR (fun _ _ h => h) (fun _ h => h.elim) ?aF ?aB ?aS ?aL ?_
               (case aR => exact kC_ (Kd.C_below HR0_1.out HB.out))
               (case aB => exact (hbA_ HB.out))
               (case aF => exact (fun _ _ => trivial))
               (case aO => exact (kR_ HO259.out))
               (case aS => exact (below_size (hbA_ HB.out)))
               (case aL => have := LMc2.out; omega)
               intro v261 w10 ho hb hg hat
               rw [← Ny260.out] at ho
               have n0_ := (bgA_ BK255 hg (Kd.R_ne HO259.out BK255.out (by decide))); have n1_ := (bgA_ BK256 hg (Kd.R_ne HO259.out BK256.out (by decide))); have n2_ := Aside0.mk (hb); have n3_ := Aside0.mk (ho); clear BK255 BK256 HB HO259; have BK255 := n0_; have BK256 := n1_; have HB := n2_; have HO262 := n3_; clear n0_ n1_ n2_ n3_ ho hb hg hat
               refine hK.out _ _ (cz4 BK255.out) (fun hHeld => ?_)
               clear hK K; refine nm_ 10 ?_
               exact norm_ (by first | (simp only [putAll, Act.put, List.setIfInBounds_toArray, List.set_cons_zero, List.set_cons_succ]; done) | (simp only [putAll, Act.put, List.setIfInBounds_toArray, List.set_cons_zero, List.set_cons_succ]; rfl)) (hJ2_5 (v258, v261) _ ⟨hHeld, (kR_ HO262.out), (kb_ BK255.out), (kb_ BK256.out), (hbA_ HB.out)⟩)
              ·skip
               refine Kd.R_lit_step (Kd.int .i64) _ 3 ?hg (N := 11) ?hd (xs := ([] : List Int)) (inner := []) (ok := fun _ => True) (okp := fun _ => True) ?hr ?hp (fun _ hk => hk) trivial (Below.refl _ _) (Nat.le_refl _) (by simp) ?_; (case hd => rfl); (case hg => rfl); (case hr => first | (go_simp; done) | (go_simp; rfl)); (case hp => exact (Reps.none _ _))
               intro v264 w10 ho11 hb hg_ hnew_
               clear hg_ hnew_
               (first | rw [← Ny263.out] at ho11 | (simp only [Int.reduceToNat] at ho11; rw [← Ny263.out] at ho11))
               have n0_ := Aside0.mk (Kd.R_elder' (kR_ HO259.out) (Kd.R_base ho11) hb); have n1_ := Aside0.mk (Kd.R_lower (Kd.R_new' ho11 (Kd.R_lt (kR_ HO259.out))) (below_size (hbA_ HB.out))); have n2_ := (bbA_ BK255 hb); have n3_ := (bbA_ BK256 hb); have n4_ := (bs_ HB hb); clear HO259 BK255 BK256 HB; have HO259 := n0_; have HO265 := n1_; have BK255 := n2_; have BK256 := n3_; have HB := n4_; clear n0_ n1_ n2_ n3_ n4_ hb ho11
               refine hK.out _ _ (cz4 BK255.out) (fun hHeld => ?_)
               clear hK K; refine nm_ 11 ?_
               exact norm_ (by first | (simp only [putAll, Act.put, List.setIfInBounds_toArray, List.set_cons_zero, List.set_cons_succ]; done) | (simp only [putAll, Act.put, List.setIfInBounds_toArray, List.set_cons_zero, List.set_cons_succ]; rfl)) (hJ2_6 (v258, v264) _ ⟨hHeld, (by refine kR_ ?_; first | exact Kd.R_mono HO259.out (fun _ hk => hk.2) | exact Kd.R_mono HO259.out (fun _ _ => trivial)), (by refine kR_ ?_; first | exact Kd.R_mono HO265.out (fun _ hk => hk.2) | exact Kd.R_mono HO265.out (fun _ _ => trivial)), (kb_ BK255.out), (kb_ BK256.out), (hbA_ HB.out)⟩)
              ·skip
               refine box_step ?hg (N := 3) ?hd (cs := #[.int .i64 0, .slice none 0 0, .slice none 0 0, .slice none 0 0]) (t := 30) ?hr ?_; (case hd => rfl); (case hg => rfl); (case hr => first | (go_simp; done) | (go_simp; rfl))
               intro gb269 hg w10 hbox hb
               have n0_ := Aside0.mk (Kd.R_below (kR_ HO259.out) hb); have n1_ := (bbA_ BK255 hb); have n2_ := (bbA_ BK256 hb); have n3_ := (bs_ HB hb); have n4_ := Aside0.mk (hbox); have n5_ := ge_ hg HB; have n6_ := ge_ hg HB; have n7_ := nl_ hg BK255; have n8_ := ng_ hg BK255; have n9_ := nl_ hg BK256; have n10_ := ng_ hg BK256; clear HO259 BK255 BK256 HB; have HO259 := n0_; have BK255 := n1_; have BK256 := n2_; have HB := n3_; have BK269 := n4_; have GW269 := n5_; have GE269 := n6_; have NB255_269 := n7_; have NB269_255 := n8_; have NB256_269 := n9_; have NB269_256 := n10_; clear n0_ n1_ n2_ n3_ n4_ n5_ n6_ n7_ n8_ n9_ n10_ hb hbox hg
               refine hK.out _ _ (cz4 BK255.out) (fun hHeld => ?_)
               clear hK K; refine nm_ 3 ?_
               exact norm_ (by first | (simp only [putAll, Act.put, List.setIfInBounds_toArray, List.set_cons_zero, List.set_cons_succ]; done) | (simp only [putAll, Act.put, List.setIfInBounds_toArray, List.set_cons_zero, List.set_cons_succ]; rfl)) (hJ2_11 (v258, gb269) _ ⟨hHeld, (kR_ HO259.out), (kb_ BK255.out), (kb_ BK256.out), (kb_ BK269.out), GW269.out, GE269.out, NB255_269.out, NB269_255.out, NB256_269.out, NB269_256.out, (hbA_ HB.out)⟩)
            ·skip
             rintro ⟨v264, gb269⟩ w10 ⟨hS_, h0_, h1_, h2_, h3_, h4_, h5_, h6_, h7_, h8_, h9_, h10_⟩
             have n0_ : Aside0 (Kd.R (Kd.int .i64) 3 w10 w.heap.size (fun _ => True) v264 y263) := ⟨h0_⟩
             have n1_ : Aside0 (w10.heap[gb255]? = some (.cells #[.int .i64 a0_0, .slice A0_1 l0_1.length c0_1, .slice A0_2 l0_2.length c0_2, .slice A0_3 l0_3.length c0_3] 30 (0, 0))) := ⟨h1_⟩
             have n2_ : Aside0 (w10.heap[gb256]? = some (.cells #[.int .i64 0, .slice none 0 0, .slice none 0 0, .slice none 0 0] 30 (0, 0))) := ⟨h2_⟩
             have n3_ : Aside0 (w10.heap[gb269]? = some (.cells #[.int .i64 0, .slice none 0 0, .slice none 0 0, .slice none 0 0] 30 (0, 0))) := ⟨h3_⟩
             have n4_ : Aside0 (w.heap.size ≤ gb269) := ⟨h4_⟩
             have n5_ : Aside0 (w.heap.size ≤ gb269) := ⟨h5_⟩
             have n6_ : Aside0 (gb255 ≠ gb269) := ⟨h6_⟩
             have n7_ : Aside0 (gb269 ≠ gb255) := ⟨h7_⟩
             have n8_ : Aside0 (gb256 ≠ gb269) := ⟨h8_⟩
             have n9_ : Aside0 (gb269 ≠ gb256) := ⟨h9_⟩
             have n10_ : Aside0 (Below w.heap.size w w10) := ⟨h10_⟩
             clear BK255 BK256 HB h0_ h1_ h2_ h3_ h4_ h5_ h6_ h7_ h8_ h9_ h10_; have HO265 := n0_; have BK255 := n1_; have BK256 := n2_; have BK269 := n3_; have GW269 := n4_; have GE269 := n5_; have NB255_269 := n6_; have NB269_255 := n7_; have NB256_269 := n8_; have NB269_256 := n9_; have HB := n10_; clear n0_ n1_ n2_ n3_ n4_ n5_ n6_ n7_ n8_ n9_ n10_
             have hHeld : w10.cell? ⟨gb255, 0, none⟩ = some (.int .i64 a0_0) ∧ w10.cell? ⟨gb255, 1, none⟩ = some (.slice A0_1 l0_1.length c0_1) ∧ w10.cell? ⟨gb255, 2, none⟩ = some (.slice A0_2 l0_2.length c0_2) ∧ w10.cell? ⟨gb255, 3, none⟩ = some (.slice A0_3 l0_3.length c0_3) := hS_
             refine norm_ (a' := ?_) ?_ ?_
             rotate_left
             ·simp only [putAll, Act.put, List.setIfInBounds_toArray, List.set_cons_zero, List.set_cons_succ]
              rfl
             refine on_ (i := 2) (N := some 7) HT_ (fun K hK => ?_)
             refine Kd.R_lit_step (Kd.int .i64) _ 3 ?hg (N := 7) ?hd (xs := ([] : List Int)) (inner := []) (ok := fun _ => True) (okp := fun _ => True) ?hr ?hp (fun _ hk => hk) trivial (Below.refl _ _) (Nat.le_refl _) (by simp) ?_; (case hd => rfl); (case hg => rfl); (case hr => first | (go_simp; done) | (go_simp; rfl)); (case hp => exact (Reps.none _ _))
             intro v258 w11 ho12 hb hg_ hnew_
             clear hg_ hnew_
             (first | rw [← Ny257.out] at ho12 | (simp only [Int.reduceToNat] at ho12; rw [← Ny257.out] at ho12))
             have n0_ := Aside0.mk (Kd.R_elder' (kR_ HO265.out) (Kd.R_base ho12) hb); have n1_ := Aside0.mk (Kd.R_lower (Kd.R_new' ho12 (Kd.R_lt (kR_ HO265.out))) (below_size (hbA_ HB.out))); have n2_ := (bbA_ BK255 hb); have n3_ := (bbA_ BK256 hb); have n4_ := (bbA_ BK269 hb); have n5_ := (bs_ HB hb); clear HO265 BK255 BK256 BK269 HB; have HO265 := n0_; have HO259 := n1_; have BK255 := n2_; have BK256 := n3_; have BK269 := n4_; have HB := n5_; clear n0_ n1_ n2_ n3_ n4_ n5_ hb ho12
             refine hK.out _ _ (cz4 BK255.out) (fun hHeld => ?_)
             clear hK K; refine nm_ 7 ?_
             exact norm_ (by first | (simp only [putAll, Act.put, List.setIfInBounds_toArray, List.set_cons_zero, List.set_cons_succ]; done) | (simp only [putAll, Act.put, List.setIfInBounds_toArray, List.set_cons_zero, List.set_cons_succ]; rfl)) (hJ2_6_11 (v258, v264, gb269) _ ⟨hHeld, (by refine kR_ ?_; first | exact Kd.R_mono HO259.out (fun _ hk => hk.2) | exact Kd.R_mono HO259.out (fun _ _ => trivial)), (by refine kR_ ?_; first | exact Kd.R_mono HO265.out (fun _ hk => hk.2) | exact Kd.R_mono HO265.out (fun _ _ => trivial)), (kb_ BK255.out), (kb_ BK256.out), (kb_ BK269.out), GW269.out, GE269.out, NB255_269.out, NB269_255.out, NB256_269.out, NB269_256.out, (hbA_ HB.out)⟩)
           ·skip
            rintro ⟨v258, gb269⟩ w10 ⟨hS_, h0_, h1_, h2_, h3_, h4_, h5_, h6_, h7_, h8_, h9_, h10_⟩
            have n0_ : Aside0 (Kd.R (Kd.int .i64) 3 w10 w.heap.size (fun _ => True) v258 y257) := ⟨h0_⟩
            have n1_ : Aside0 (w10.heap[gb255]? = some (.cells #[.int .i64 a0_0, .slice A0_1 l0_1.length c0_1, .slice A0_2 l0_2.length c0_2, .slice A0_3 l0_3.length c0_3] 30 (0, 0))) := ⟨h1_⟩
            have n2_ : Aside0 (w10.heap[gb256]? = some (.cells #[.int .i64 0, .slice none 0 0, .slice none 0 0, .slice none 0 0] 30 (0, 0))) := ⟨h2_⟩
            have n3_ : Aside0 (w10.heap[gb269]? = some (.cells #[.int .i64 0, .slice none 0 0, .slice none 0 0, .slice none 0 0] 30 (0, 0))) := ⟨h3_⟩
            have n4_ : Aside0 (w.heap.size ≤ gb269) := ⟨h4_⟩
            have n5_ : Aside0 (w.heap.size ≤ gb269) := ⟨h5_⟩
            have n6_ : Aside0 (gb255 ≠ gb269) := ⟨h6_⟩
            have n7_ : Aside0 (gb269 ≠ gb255) := ⟨h7_⟩
            have n8_ : Aside0 (gb256 ≠ gb269) := ⟨h8_⟩
            have n9_ : Aside0 (gb269 ≠ gb256) := ⟨h9_⟩
            have n10_ : Aside0 (Below w.heap.size w w10) := ⟨h10_⟩
            clear BK255 BK256 HB h0_ h1_ h2_ h3_ h4_ h5_ h6_ h7_ h8_ h9_ h10_; have HO259 := n0_; have BK255 := n1_; have BK256 := n2_; have BK269 := n3_; have GW269 := n4_; have GE269 := n5_; have NB255_269 := n6_; have NB269_255 := n7_; have NB256_269 := n8_; have NB269_256 := n9_; have HB := n10_; clear n0_ n1_ n2_ n3_ n4_ n5_ n6_ n7_ n8_ n9_ n10_
            have hHeld : w10.cell? ⟨gb255, 0, none⟩ = some (.int .i64 a0_0) ∧ w10.cell? ⟨gb255, 1, none⟩ = some (.slice A0_1 l0_1.length c0_1) ∧ w10.cell? ⟨gb255, 2, none⟩ = some (.slice A0_2 l0_2.length c0_2) ∧ w10.cell? ⟨gb255, 3, none⟩ = some (.slice A0_3 l0_3.length c0_3) := hS_
            refine norm_ (a' := ?_) ?_ ?_
            rotate_left
            ·simp only [putAll, Act.put, List.setIfInBounds_toArray, List.set_cons_zero, List.set_cons_succ]
             rfl
            refine two_ (i := 5) (j := 6) (Ni := some 10) (Nj := some 11) #[true, true, true, true, true, true, false, true, true, false, false, true, false] #[true, true, true, true, true, false, true, true, true, false, false, true, false] rfl rfl rfl rfl (two_of HT_.out (by kernel_rfl)) (by decide) (by decide) (fun K hK => ?_) (fun K hK => ?_)
            ·skip
             refine Kd.R_append_rows_step (Kd.int .i64) (w0 := w) w.heap.size (by rfl) (.tmp 7) (.tmp 9) 22 3 (.int .i64 0) 8 rfl Try.underlying22 info3 rfl (by decide) (by omega) v258 y257 l0_1 _ _ _ (fun _ => True) (fun _ => False) rfl rfl ?aO ?aR (fun _ _ h => h) (fun _ h => h.elim) ?aF ?aB ?aS ?aL ?_
             (case aR => exact kC_ (Kd.C_below HR0_1.out HB.out))
             (case aB => exact (hbA_ HB.out))
             (case aF => exact (fun _ _ => trivial))
             (case aO => exact (kR_ HO259.out))
             (case aS => exact (below_size (hbA_ HB.out)))
             (case aL => have := LMc2.out; omega)
             intro v261 w11 ho hb hg hat
             rw [← Ny260.out] at ho
             have n0_ := (bgA_ BK255 hg (Kd.R_ne HO259.out BK255.out (by decide))); have n1_ := (bgA_ BK256 hg (Kd.R_ne HO259.out BK256.out (by decide))); have n2_ := (bgA_ BK269 hg (Kd.R_ne HO259.out BK269.out (by decide))); have n3_ := Aside0.mk (hb); have n4_ := Aside0.mk (ho); clear BK255 BK256 BK269 HB HO259; have BK255 := n0_; have BK256 := n1_; have BK269 := n2_; have HB := n3_; have HO262 := n4_; clear n0_ n1_ n2_ n3_ n4_ ho hb hg hat
             refine hK.out _ _ (cz4 BK255.out) (fun hHeld => ?_)
             clear hK K; refine nm_ 10 ?_
             exact norm_ (by first | (simp only [putAll, Act.put, List.setIfInBounds_toArray, List.set_cons_zero, List.set_cons_succ]; done) | (simp only [putAll, Act.put, List.setIfInBounds_toArray, List.set_cons_zero, List.set_cons_succ]; rfl)) (hJ2_5_11 (v258, v261, gb269) _ ⟨hHeld, (kR_ HO262.out), (kb_ BK255.out), (kb_ BK256.out), (kb_ BK269.out), GW269.out, GE269.out, NB255_269.out, NB269_255.out, NB256_269.out, NB269_256.out, (hbA_ HB.out)⟩)
            ·skip
             refine Kd.R_lit_step (Kd.int .i64) _ 3 ?hg (N := 11) ?hd (xs := ([] : List Int)) (inner := []) (ok := fun _ => True) (okp := fun _ => True) ?hr ?hp (fun _ hk => hk) trivial (Below.refl _ _) (Nat.le_refl _) (by simp) ?_; (case hd => rfl); (case hg => rfl); (case hr => first | (go_simp; done) | (go_simp; rfl)); (case hp => exact (Reps.none _ _))
             intro v264 w11 ho12 hb hg_ hnew_
             clear hg_ hnew_
             (first | rw [← Ny263.out] at ho12 | (simp only [Int.reduceToNat] at ho12; rw [← Ny263.out] at ho12))
             have n0_ := Aside0.mk (Kd.R_elder' (kR_ HO259.out) (Kd.R_base ho12) hb); have n1_ := Aside0.mk (Kd.R_lower (Kd.R_new' ho12 (Kd.R_lt (kR_ HO259.out))) (below_size (hbA_ HB.out))); have n2_ := (bbA_ BK255 hb); have n3_ := (bbA_ BK256 hb); have n4_ := (bbA_ BK269 hb); have n5_ := (bs_ HB hb); clear HO259 BK255 BK256 BK269 HB; have HO259 := n0_; have HO265 := n1_; have BK255 := n2_; have BK256 := n3_; have BK269 := n4_; have HB := n5_; clear n0_ n1_ n2_ n3_ n4_ n5_ hb ho12
             refine hK.out _ _ (cz4 BK255.out) (fun hHeld => ?_)
             clear hK K; refine nm_ 11 ?_
             exact norm_ (by first | (simp only [putAll, Act.put, List.setIfInBounds_toArray, List.set_cons_zero, List.set_cons_succ]; done) | (simp only [putAll, Act.put, List.setIfInBounds_toArray, List.set_cons_zero, List.set_cons_succ]; rfl)) (hJ2_6_11 (v258, v264, gb269) _ ⟨hHeld, (by refine kR_ ?_; first | exact Kd.R_mono HO259.out (fun _ hk => hk.2) | exact Kd.R_mono HO259.out (fun _ _ => trivial)), (by refine kR_ ?_; first | exact Kd.R_mono HO265.out (fun _ hk => hk.2) | exact Kd.R_mono HO265.out (fun _ _ => trivial)), (kb_ BK255.out), (kb_ BK256.out), (kb_ BK269.out), GW269.out, GE269.out, NB255_269.out, NB269_255.out, NB256_269.out, NB269_256.out, (hbA_ HB.out)⟩)
          ·skip
           rintro ⟨v258, v264⟩ w11 ⟨hS_, h0_, h1_, h2_, h3_, h4_⟩
           have n0_ : Aside0 (Kd.R (Kd.int .i64) 3 w11 w.heap.size (fun k_ => some k_ ≠ (v264 : Value).ownBlock) v258 y257) := ⟨h0_⟩
           have n1_ : Aside0 (Kd.R (Kd.int .i64) 3 w11 w.heap.size (fun k_ => some k_ ≠ (v258 : Value).ownBlock) v264 y263) := ⟨h1_⟩
           have n2_ : Aside0 (w11.heap[gb255]? = some (.cells #[.int .i64 a0_0, .slice A0_1 l0_1.length c0_1, .slice A0_2 l0_2.length c0_2, .slice A0_3 l0_3.length c0_3] 30 (0, 0))) := ⟨h2_⟩
           have n3_ : Aside0 (w11.heap[gb256]? = some (.cells #[.int .i64 0, .slice none 0 0, .slice none 0 0, .slice none 0 0] 30 (0, 0))) := ⟨h3_⟩
           have n4_ : Aside0 (Below w.heap.size w w11) := ⟨h4_⟩
           clear BK255 BK256 HB h0_ h1_ h2_ h3_ h4_; have HO259 := n0_; have HO265 := n1_; have BK255 := n2_; have BK256 := n3_; have HB := n4_; clear n0_ n1_ n2_ n3_ n4_
           have hHeld : w11.cell? ⟨gb255, 0, none⟩ = some (.int .i64 a0_0) ∧ w11.cell? ⟨gb255, 1, none⟩ = some (.slice A0_1 l0_1.length c0_1) ∧ w11.cell? ⟨gb255, 2, none⟩ = some (.slice A0_2 l0_2.length c0_2) ∧ w11.cell? ⟨gb255, 3, none⟩ = some (.slice A0_3 l0_3.length c0_3) := hS_
           refine norm_ (a' := ?_) ?_ ?_
           rotate_left
           ·simp only [putAll, Act.put, List.setIfInBounds_toArray, List.set_cons_zero, List.set_cons_succ]
            rfl
           refine two_ (i := 5) (j := 11) (Ni := some 10) (Nj := some 3) #[true, true, true, true, true, true, true, true, true, false, false, false, false] #[true, true, true, true, true, false, true, true, true, false, false, true, false] rfl rfl rfl rfl (two_of HT_.out (by kernel_rfl)) (by decide) (by decide) (fun K hK => ?_) (fun K hK => ?_)
           ·skip
            refine Kd.R_append_rows_step (Kd.int .i64) (w0 := w) w.heap.size (by rfl) (.tmp 7) (.tmp 9) 22 3 (.int .i64 0) 8 rfl Try.underlying22 info3 rfl (by decide) (by omega) v258 y257 l0_1 _ _ _ (fun k_ => some k_ ≠ (v264 : Value).ownBlock) (fun _ => False) rfl rfl ?aO ?aR (fun _ _ h => h) (fun _ h => h.elim) ?aF ?aB ?aS ?aL ?_
            (case aR => exact kC_ (Kd.C_below HR0_1.out HB.out))
            (case aB => exact (hbA_ HB.out))
            (case aF => exact (fun k_ hk => Kd.fresh' (Kd.R_lt (kR_ HO265.out)) k_ hk))
            (case aO => exact (kR_ HO259.out))
            (case aS => exact (below_size (hbA_ HB.out)))
            (case aL => have := LMc2.out; omega)
            intro v261 w12 ho hb hg hat
            rw [← Ny260.out] at ho
            have n0_ := (bgA_ BK255 hg (Kd.R_ne HO259.out BK255.out (by decide))); have n1_ := (bgA_ BK256 hg (Kd.R_ne HO259.out BK256.out (by decide))); have n2_ := Aside0.mk (Kd.R_after (ok := (fun _ => True)) (by refine kR_ ?_; exact Kd.R_mono HO265.out (fun _ hk => ⟨trivial, hk⟩)) hg hat); have n3_ := Aside0.mk (hb); have n4_ := Aside0.mk (ho); clear BK255 BK256 HO265 HB HO259; have BK255 := n0_; have BK256 := n1_; have HO265 := n2_; have HB := n3_; have HO262 := n4_; clear n0_ n1_ n2_ n3_ n4_ ho hb hg hat
            refine hK.out _ _ (cz4 BK255.out) (fun hHeld => ?_)
            clear hK K; refine nm_ 10 ?_
            exact norm_ (by first | (simp only [putAll, Act.put, List.setIfInBounds_toArray, List.set_cons_zero, List.set_cons_succ]; done) | (simp only [putAll, Act.put, List.setIfInBounds_toArray, List.set_cons_zero, List.set_cons_succ]; rfl)) (hJ2_5_6 (v258, v261, v264) _ ⟨hHeld, (kR_ HO262.out), (by refine kR_ ?_; first | exact Kd.R_mono HO265.out (fun _ hk => hk.2) | exact Kd.R_mono HO265.out (fun _ _ => trivial)), (kb_ BK255.out), (kb_ BK256.out), (hbA_ HB.out)⟩)
           ·skip
            refine box_step ?hg (N := 3) ?hd (cs := #[.int .i64 0, .slice none 0 0, .slice none 0 0, .slice none 0 0]) (t := 30) ?hr ?_; (case hd => rfl); (case hg => rfl); (case hr => first | (go_simp; done) | (go_simp; rfl))
            intro gb269 hg w12 hbox hb
            have n0_ := Aside0.mk (Kd.R_below (kR_ HO259.out) hb); have n1_ := Aside0.mk (Kd.R_below (kR_ HO265.out) hb); have n2_ := (bbA_ BK255 hb); have n3_ := (bbA_ BK256 hb); have n4_ := (bs_ HB hb); have n5_ := Aside0.mk (hbox); have n6_ := ge_ hg HB; have n7_ := ge_ hg HB; have n8_ := nl_ hg BK255; have n9_ := ng_ hg BK255; have n10_ := nl_ hg BK256; have n11_ := ng_ hg BK256; clear HO259 HO265 BK255 BK256 HB; have HO259 := n0_; have HO265 := n1_; have BK255 := n2_; have BK256 := n3_; have HB := n4_; have BK269 := n5_; have GW269 := n6_; have GE269 := n7_; have NB255_269 := n8_; have NB269_255 := n9_; have NB256_269 := n10_; have NB269_256 := n11_; clear n0_ n1_ n2_ n3_ n4_ n5_ n6_ n7_ n8_ n9_ n10_ n11_ hb hbox hg
            refine hK.out _ _ (cz4 BK255.out) (fun hHeld => ?_)
            clear hK K; refine nm_ 3 ?_
            exact norm_ (by first | (simp only [putAll, Act.put, List.setIfInBounds_toArray, List.set_cons_zero, List.set_cons_succ]; done) | (simp only [putAll, Act.put, List.setIfInBounds_toArray, List.set_cons_zero, List.set_cons_succ]; rfl)) (hJ2_6_11 (v258, v264, gb269) _ ⟨hHeld, (kR_ HO259.out), (kR_ HO265.out), (kb_ BK255.out), (kb_ BK256.out), (kb_ BK269.out), GW269.out, GE269.out, NB255_269.out, NB269_255.out, NB256_269.out, NB269_256.out, (hbA_ HB.out)⟩)
         ·skip
          rintro ⟨v258, v261⟩ w10 ⟨hS_, h0_, h1_, h2_, h3_⟩
          have n0_ : Aside0 (Kd.R (Kd.int .i64) 3 w10 w.heap.size (fun _ => True) v261 y260) := ⟨h0_⟩
          have n1_ : Aside0 (w10.heap[gb255]? = some (.cells #[.int .i64 a0_0, .slice A0_1 l0_1.length c0_1, .slice A0_2 l0_2.length c0_2, .slice A0_3 l0_3.length c0_3] 30 (0, 0))) := ⟨h1_⟩
          have n2_ : Aside0 (w10.heap[gb256]? = some (.cells #[.int .i64 0, .slice none 0 0, .slice none 0 0, .slice none 0 0] 30 (0, 0))) := ⟨h2_⟩
          have n3_ : Aside0 (Below w.heap.size w w10) := ⟨h3_⟩
          clear BK255 BK256 HB h0_ h1_ h2_ h3_; have HO262 := n0_; have BK255 := n1_; have BK256 := n2_; have HB := n3_; clear n0_ n1_ n2_ n3_
          have hHeld : w10.cell? ⟨gb255, 0, none⟩ = some (.int .i64 a0_0) ∧ w10.cell? ⟨gb255, 1, none⟩ = some (.slice A0_1 l0_1.length c0_1) ∧ w10.cell? ⟨gb255, 2, none⟩ = some (.slice A0_2 l0_2.length c0_2) ∧ w10.cell? ⟨gb255, 3, none⟩ = some (.slice A0_3 l0_3.length c0_3) := hS_
          refine norm_ (a' := ?_) ?_ ?_
          rotate_left
          ·simp only [putAll, Act.put, List.setIfInBounds_toArray, List.set_cons_zero, List.set_cons_succ]
           rfl
          refine two_ (i := 6) (j := 11) (Ni := some 11) (Nj := some 3) #[true, true, true, true, true, true, true, true, true, false, false, false, false] #[true, true, true, true, true, true, false, true, true, false, false, true, false] rfl rfl rfl rfl (two_of HT_.out (by kernel_rfl)) (by decide) (by decide) (fun K hK => ?_) (fun K hK => ?_)
          ·skip
           refine Kd.R_lit_step (Kd.int .i64) _ 3 ?hg (N := 11) ?hd (xs := ([] : List Int)) (inner := []) (ok := fun _ => True) (okp := fun _ => True) ?hr ?hp (fun _ hk => hk) trivial (Below.refl _ _) (Nat.le_refl _) (by simp) ?_; (case hd => rfl); (case hg => rfl); (case hr => first | (go_simp; done) | (go_simp; rfl)); (case hp => exact (Reps.none _ _))
           intro v264 w11 ho12 hb hg_ hnew_
           clear hg_ hnew_
           (first | rw [← Ny263.out] at ho12 | (simp only [Int.reduceToNat] at ho12; rw [← Ny263.out] at ho12))
           have n0_ := Aside0.mk (Kd.R_elder' (kR_ HO262.out) (Kd.R_base ho12) hb); have n1_ := Aside0.mk (Kd.R_lower (Kd.R_new' ho12 (Kd.R_lt (kR_ HO262.out))) (below_size (hbA_ HB.out))); have n2_ := (bbA_ BK255 hb); have n3_ := (bbA_ BK256 hb); have n4_ := (bs_ HB hb); clear HO262 BK255 BK256 HB; have HO262 := n0_; have HO265 := n1_; have BK255 := n2_; have BK256 := n3_; have HB := n4_; clear n0_ n1_ n2_ n3_ n4_ hb ho12
           refine hK.out _ _ (cz4 BK255.out) (fun hHeld => ?_)
           clear hK K; refine nm_ 11 ?_
           exact norm_ (by first | (simp only [putAll, Act.put, List.setIfInBounds_toArray, List.set_cons_zero, List.set_cons_succ]; done) | (simp only [putAll, Act.put, List.setIfInBounds_toArray, List.set_cons_zero, List.set_cons_succ]; rfl)) (hJ2_5_6 (v258, v261, v264) _ ⟨hHeld, (by refine kR_ ?_; first | exact Kd.R_mono HO262.out (fun _ hk => hk.2) | exact Kd.R_mono HO262.out (fun _ _ => trivial)), (by refine kR_ ?_; first | exact Kd.R_mono HO265.out (fun _ hk => hk.2) | exact Kd.R_mono HO265.out (fun _ _ => trivial)), (kb_ BK255.out), (kb_ BK256.out), (hbA_ HB.out)⟩)
          ·skip
           refine box_step ?hg (N := 3) ?hd (cs := #[.int .i64 0, .slice none 0 0, .slice none 0 0, .slice none 0 0]) (t := 30) ?hr ?_; (case hd => rfl); (case hg => rfl); (case hr => first | (go_simp; done) | (go_simp; rfl))
           intro gb269 hg w11 hbox hb
           have n0_ := Aside0.mk (Kd.R_below (kR_ HO262.out) hb); have n1_ := (bbA_ BK255 hb); have n2_ := (bbA_ BK256 hb); have n3_ := (bs_ HB hb); have n4_ := Aside0.mk (hbox); have n5_ := ge_ hg HB; have n6_ := ge_ hg HB; have n7_ := nl_ hg BK255; have n8_ := ng_ hg BK255; have n9_ := nl_ hg BK256; have n10_ := ng_ hg BK256; clear HO262 BK255 BK256 HB; have HO262 := n0_; have BK255 := n1_; have BK256 := n2_; have HB := n3_; have BK269 := n4_; have GW269 := n5_; have GE269 := n6_; have NB255_269 := n7_; have NB269_255 := n8_; have NB256_269 := n9_; have NB269_256 := n10_; clear n0_ n1_ n2_ n3_ n4_ n5_ n6_ n7_ n8_ n9_ n10_ hb hbox hg
           refine hK.out _ _ (cz4 BK255.out) (fun hHeld => ?_)
           clear hK K; refine nm_ 3 ?_
           exact norm_ (by first | (simp only [putAll, Act.put, List.setIfInBounds_toArray, List.set_cons_zero, List.set_cons_succ]; done) | (simp only [putAll, Act.put, List.setIfInBounds_toArray, List.set_cons_zero, List.set_cons_succ]; rfl)) (hJ2_5_11 (v258, v261, gb269) _ ⟨hHeld, (kR_ HO262.out), (kb_ BK255.out), (kb_ BK256.out), (kb_ BK269.out), GW269.out, GE269.out, NB255_269.out, NB269_255.out, NB256_269.out, NB269_256.out, (hbA_ HB.out)⟩)
        ·skip
         rintro ⟨v258, v264, gb269⟩ w12 ⟨hS_, h0_, h1_, h2_, h3_, h4_, h5_, h6_, h7_, h8_, h9_, h10_, h11_⟩
         have n0_ : Aside0 (Kd.R (Kd.int .i64) 3 w12 w.heap.size (fun k_ => some k_ ≠ (v264 : Value).ownBlock) v258 y257) := ⟨h0_⟩
         have n1_ : Aside0 (Kd.R (Kd.int .i64) 3 w12 w.heap.size (fun k_ => some k_ ≠ (v258 : Value).ownBlock) v264 y263) := ⟨h1_⟩
         have n2_ : Aside0 (w12.heap[gb255]? = some (.cells #[.int .i64 a0_0, .slice A0_1 l0_1.length c0_1, .slice A0_2 l0_2.length c0_2, .slice A0_3 l0_3.length c0_3] 30 (0, 0))) := ⟨h2_⟩
         have n3_ : Aside0 (w12.heap[gb256]? = some (.cells #[.int .i64 0, .slice none 0 0, .slice none 0 0, .slice none 0 0] 30 (0, 0))) := ⟨h3_⟩
         have n4_ : Aside0 (w12.heap[gb269]? = some (.cells #[.int .i64 0, .slice none 0 0, .slice none 0 0, .slice none 0 0] 30 (0, 0))) := ⟨h4_⟩
         have n5_ : Aside0 (w.heap.size ≤ gb269) := ⟨h5_⟩
         have n6_ : Aside0 (w.heap.size ≤ gb269) := ⟨h6_⟩
         have n7_ : Aside0 (gb255 ≠ gb269) := ⟨h7_⟩
         have n8_ : Aside0 (gb269 ≠ gb255) := ⟨h8_⟩
         have n9_ : Aside0 (gb256 ≠ gb269) := ⟨h9_⟩
         have n10_ : Aside0 (gb269 ≠ gb256) := ⟨h10_⟩
         have n11_ : Aside0 (Below w.heap.size w w12) := ⟨h11_⟩
         clear BK255 BK256 HB h0_ h1_ h2_ h3_ h4_ h5_ h6_ h7_ h8_ h9_ h10_ h11_; have HO259 := n0_; have HO265 := n1_; have BK255 := n2_; have BK256 := n3_; have BK269 := n4_; have GW269 := n5_; have GE269 := n6_; have NB255_269 := n7_; have NB269_255 := n8_; have NB256_269 := n9_; have NB269_256 := n10_; have HB := n11_; clear n0_ n1_ n2_ n3_ n4_ n5_ n6_ n7_ n8_ n9_ n10_ n11_
         have hHeld : w12.cell? ⟨gb255, 0, none⟩ = some (.int .i64 a0_0) ∧ w12.cell? ⟨gb255, 1, none⟩ = some (.slice A0_1 l0_1.length c0_1) ∧ w12.cell? ⟨gb255, 2, none⟩ = some (.slice A0_2 l0_2.length c0_2) ∧ w12.cell? ⟨gb255, 3, none⟩ = some (.slice A0_3 l0_3.length c0_3) := hS_
         refine norm_ (a' := ?_) ?_ ?_
         rotate_left
         ·simp only [putAll, Act.put, List.setIfInBounds_toArray, List.set_cons_zero, List.set_cons_succ]
          rfl
         refine on_ (i := 5) (N := some 10) HT_ (fun K hK => ?_)
         refine Kd.R_append_rows_step (Kd.int .i64) (w0 := w) w.heap.size (by rfl) (.tmp 7) (.tmp 9) 22 3 (.int .i64 0) 8 rfl Try.underlying22 info3 rfl (by decide) (by omega) v258 y257 l0_1 _ _ _ (fun k_ => some k_ ≠ (v264 : Value).ownBlock) (fun _ => False) rfl rfl ?aO ?aR (fun _ _ h => h) (fun _ h => h.elim) ?aF ?aB ?aS ?aL ?_
         (case aR => exact kC_ (Kd.C_below HR0_1.out HB.out))
         (case aB => exact (hbA_ HB.out))
         (case aF => exact (fun k_ hk => Kd.fresh' (Kd.R_lt (kR_ HO265.out)) k_ hk))
         (case aO => exact (kR_ HO259.out))
         (case aS => exact (below_size (hbA_ HB.out)))
         (case aL => have := LMc2.out; omega)
         intro v261 w13 ho hb hg hat
         rw [← Ny260.out] at ho
         have n0_ := (bgA_ BK255 hg (Kd.R_ne HO259.out BK255.out (by decide))); have n1_ := (bgA_ BK256 hg (Kd.R_ne HO259.out BK256.out (by decide))); have n2_ := Aside0.mk (Kd.R_after (ok := (fun _ => True)) (by refine kR_ ?_; exact Kd.R_mono HO265.out (fun _ hk => ⟨trivial, hk⟩)) hg hat); have n3_ := (bgA_ BK269 hg (Kd.R_ne HO259.out BK269.out (by decide))); have n4_ := Aside0.mk (hb); have n5_ := Aside0.mk (ho); clear BK255 BK256 HO265 BK269 HB HO259; have BK255 := n0_; have BK256 := n1_; have HO265 := n2_; have BK269 := n3_; have HB := n4_; have HO262 := n5_; clear n0_ n1_ n2_ n3_ n4_ n5_ ho hb hg hat
         refine hK.out _ _ (cz4 BK255.out) (fun hHeld => ?_)
         clear hK K; refine nm_ 10 ?_
         exact norm_ (by first | (simp only [putAll, Act.put, List.setIfInBounds_toArray, List.set_cons_zero, List.set_cons_succ]; done) | (simp only [putAll, Act.put, List.setIfInBounds_toArray, List.set_cons_zero, List.set_cons_succ]; rfl)) (hJ2_5_6_11 (v258, v261, v264, gb269) _ ⟨hHeld, (kR_ HO262.out), (by refine kR_ ?_; first | exact Kd.R_mono HO265.out (fun _ hk => hk.2) | exact Kd.R_mono HO265.out (fun _ _ => trivial)), (kb_ BK255.out), (kb_ BK256.out), (kb_ BK269.out), GW269.out, GE269.out, NB255_269.out, NB269_255.out, NB256_269.out, NB269_256.out, (hbA_ HB.out)⟩)
       ·skip
        rintro ⟨v258, v261, gb269⟩ w11 ⟨hS_, h0_, h1_, h2_, h3_, h4_, h5_, h6_, h7_, h8_, h9_, h10_⟩
        have n0_ : Aside0 (Kd.R (Kd.int .i64) 3 w11 w.heap.size (fun _ => True) v261 y260) := ⟨h0_⟩
        have n1_ : Aside0 (w11.heap[gb255]? = some (.cells #[.int .i64 a0_0, .slice A0_1 l0_1.length c0_1, .slice A0_2 l0_2.length c0_2, .slice A0_3 l0_3.length c0_3] 30 (0, 0))) := ⟨h1_⟩
        have n2_ : Aside0 (w11.heap[gb256]? = some (.cells #[.int .i64 0, .slice none 0 0, .slice none 0 0, .slice none 0 0] 30 (0, 0))) := ⟨h2_⟩
        have n3_ : Aside0 (w11.heap[gb269]? = some (.cells #[.int .i64 0, .slice none 0 0, .slice none 0 0, .slice none 0 0] 30 (0, 0))) := ⟨h3_⟩
        have n4_ : Aside0 (w.heap.size ≤ gb269) := ⟨h4_⟩
        have n5_ : Aside0 (w.heap.size ≤ gb269) := ⟨h5_⟩
        have n6_ : Aside0 (gb255 ≠ gb269) := ⟨h6_⟩
        have n7_ : Aside0 (gb269 ≠ gb255) := ⟨h7_⟩
        have n8_ : Aside0 (gb256 ≠ gb269) := ⟨h8_⟩
        have n9_ : Aside0 (gb269 ≠ gb256) := ⟨h9_⟩
        have n10_ : Aside0 (Below w.heap.size w w11) := ⟨h10_⟩
        clear BK255 BK256 HB h0_ h1_ h2_ h3_ h4_ h5_ h6_ h7_ h8_ h9_ h10_; have HO262 := n0_; have BK255 := n1_; have BK256 := n2_; have BK269 := n3_; have GW269 := n4_; have GE269 := n5_; have NB255_269 := n6_; have NB269_255 := n7_; have NB256_269 := n8_; have NB269_256 := n9_; have HB := n10_; clear n0_ n1_ n2_ n3_ n4_ n5_ n6_ n7_ n8_ n9_ n10_
        have hHeld : w11.cell? ⟨gb255, 0, none⟩ = some (.int .i64 a0_0) ∧ w11.cell? ⟨gb255, 1, none⟩ = some (.slice A0_1 l0_1.length c0_1) ∧ w11.cell? ⟨gb255, 2, none⟩ = some (.slice A0_2 l0_2.length c0_2) ∧ w11.cell? ⟨gb255, 3, none⟩ = some (.slice A0_3 l0_3.length c0_3) := hS_
        refine norm_ (a' := ?_) ?_ ?_
        rotate_left
        ·simp only [putAll, Act.put, List.setIfInBounds_toArray, List.set_cons_zero, List.set_cons_succ]
         rfl
        refine on_ (i := 6) (N := some 11) HT_ (fun K hK => ?_)
        refine Kd.R_lit_step (Kd.int .i64) _ 3 ?hg (N := 11) ?hd (xs := ([] : List Int)) (inner := []) (ok := fun _ => True) (okp := fun _ => True) ?hr ?hp (fun _ hk => hk) trivial (Below.refl _ _) (Nat.le_refl _) (by simp) ?_; (case hd => rfl); (case hg => rfl); (case hr => first | (go_simp; done) | (go_simp; rfl)); (case hp => exact (Reps.none _ _))
        intro v264 w12 ho13 hb hg_ hnew_
        clear hg_ hnew_
        (first | rw [← Ny263.out] at ho13 | (simp only [Int.reduceToNat] at ho13; rw [← Ny263.out] at ho13))
        have n0_ := Aside0.mk (Kd.R_elder' (kR_ HO262.out) (Kd.R_base ho13) hb); have n1_ := Aside0.mk (Kd.R_lower (Kd.R_new' ho13 (Kd.R_lt (kR_ HO262.out))) (below_size (hbA_ HB.out))); have n2_ := (bbA_ BK255 hb); have n3_ := (bbA_ BK256 hb); have n4_ := (bbA_ BK269 hb); have n5_ := (bs_ HB hb); clear HO262 BK255 BK256 BK269 HB; have HO262 := n0_; have HO265 := n1_; have BK255 := n2_; have BK256 := n3_; have BK269 := n4_; have HB := n5_; clear n0_ n1_ n2_ n3_ n4_ n5_ hb ho13
        refine hK.out _ _ (cz4 BK255.out) (fun hHeld => ?_)
        clear hK K; refine nm_ 11 ?_
        exact norm_ (by first | (simp only [putAll, Act.put, List.setIfInBounds_toArray, List.set_cons_zero, List.set_cons_succ]; done) | (simp only [putAll, Act.put, List.setIfInBounds_toArray, List.set_cons_zero, List.set_cons_succ]; rfl)) (hJ2_5_6_11 (v258, v261, v264, gb269) _ ⟨hHeld, (by refine kR_ ?_; first | exact Kd.R_mono HO262.out (fun _ hk => hk.2) | exact Kd.R_mono HO262.out (fun _ _ => trivial)), (by refine kR_ ?_; first | exact Kd.R_mono HO265.out (fun _ hk => hk.2) | exact Kd.R_mono HO265.out (fun _ _ => trivial)), (kb_ BK255.out), (kb_ BK256.out), (kb_ BK269.out), GW269.out, GE269.out, NB255_269.out, NB269_255.out, NB256_269.out, NB269_256.out, (hbA_ HB.out)⟩)
      ·skip
       rintro ⟨v258, v261, v264⟩ w12 ⟨hS_, h0_, h1_, h2_, h3_, h4_⟩
       have n0_ : Aside0 (Kd.R (Kd.int .i64) 3 w12 w.heap.size (fun k_ => some k_ ≠ (v264 : Value).ownBlock) v261 y260) := ⟨h0_⟩
       have n1_ : Aside0 (Kd.R (Kd.int .i64) 3 w12 w.heap.size (fun k_ => some k_ ≠ (v261 : Value).ownBlock) v264 y263) := ⟨h1_⟩
       have n2_ : Aside0 (w12.heap[gb255]? = some (.cells #[.int .i64 a0_0, .slice A0_1 l0_1.length c0_1, .slice A0_2 l0_2.length c0_2, .slice A0_3 l0_3.length c0_3] 30 (0, 0))) := ⟨h2_⟩
       have n3_ : Aside0 (w12.heap[gb256]? = some (.cells #[.int .i64 0, .slice none 0 0, .slice none 0 0, .slice none 0 0] 30 (0, 0))) := ⟨h3_⟩
       have n4_ : Aside0 (Below w.heap.size w w12) := ⟨h4_⟩
       clear BK255 BK256 HB h0_ h1_ h2_ h3_ h4_; have HO262 := n0_; have HO265 := n1_; have BK255 := n2_; have BK256 := n3_; have HB := n4_; clear n0_ n1_ n2_ n3_ n4_
       have hHeld : w12.cell? ⟨gb255, 0, none⟩ = some (.int .i64 a0_0) ∧ w12.cell? ⟨gb255, 1, none⟩ = some (.slice A0_1 l0_1.length c0_1) ∧ w12.cell? ⟨gb255, 2, none⟩ = some (.slice A0_2 l0_2.length c0_2) ∧ w12.cell? ⟨gb255, 3, none⟩ = some (.slice A0_3 l0_3.length c0_3) := hS_
       refine norm_ (a' := ?_) ?_ ?_
       rotate_left
       ·simp only [putAll, Act.put, List.setIfInBounds_toArray, List.set_cons_zero, List.set_cons_succ]
        rfl
       refine two_ (i := 9) (j := 11) (Ni := some 14) (Nj := some 3) #[true, true, true, true, true, true, true, true, true, true, false, false, false] #[true, true, true, true, true, true, true, true, true, false, false, true, false] rfl rfl rfl rfl (two_of HT_.out (by kernel_rfl)) (by decide) (by decide) (fun K hK => ?_) (fun K hK => ?_)
       ·skip
        refine Kd.R_append_rows_step (Kd.int .i64) (w0 := w) w.heap.size (by rfl) (.tmp 11) (.tmp 13) 22 3 (.int .i64 0) 8 rfl Try.underlying22 info3 rfl (by decide) (by omega) v264 y263 l0_3 _ _ _ (fun k_ => some k_ ≠ (v261 : Value).ownBlock) (fun _ => False) rfl rfl ?aO ?aR (fun _ _ h => h) (fun _ h => h.elim) ?aF ?aB ?aS ?aL ?_
        (case aR => exact kC_ (Kd.C_below HR0_3.out HB.out))
        (case aB => exact (hbA_ HB.out))
        (case aF => exact (fun k_ hk => Kd.fresh' (Kd.R_lt (kR_ HO262.out)) k_ hk))
        (case aO => exact (kR_ HO265.out))
        (case aS => exact (below_size (hbA_ HB.out)))
        (case aL => have := LMc3.out; omega)
        intro v267 w13 ho hb hg hat
        rw [← Ny266.out] at ho
        have n0_ := (bgA_ BK255 hg (Kd.R_ne HO265.out BK255.out (by decide))); have n1_ := (bgA_ BK256 hg (Kd.R_ne HO265.out BK256.out (by decide))); have n2_ := Aside0.mk (Kd.R_after (ok := (fun _ => True)) (by refine kR_ ?_; exact Kd.R_mono HO262.out (fun _ hk => ⟨trivial, hk⟩)) hg hat); have n3_ := Aside0.mk (hb); have n4_ := Aside0.mk (ho); clear BK255 BK256 HO262 HB HO265; have BK255 := n0_; have BK256 := n1_; have HO262 := n2_; have HB := n3_; have HO268 := n4_; clear n0_ n1_ n2_ n3_ n4_ ho hb hg hat
        obtain ⟨Ao14, co14, eo14⟩ := Kd.R_slice HO268.out
        (first | subst eo14 | (injection eo14 with f1_ f2_ f3_; have f4_ := f1_.symm; have f5_ := f3_.symm; clear f1_ f2_ f3_; subst f4_; subst f5_))
        obtain ⟨Ao15, co15, eo15⟩ := Kd.R_slice HO262.out
        (first | subst eo15 | (injection eo15 with f1_ f2_ f3_; have f4_ := f1_.symm; have f5_ := f3_.symm; clear f1_ f2_ f3_; subst f4_; subst f5_))
        refine hK.out _ _ (cz4 BK255.out) (fun hHeld => ?_)
        clear hK K; refine nm_ 14 ?_; refine pu_ (i := 10) (N := some 15) HT_ ?_
        exact norm_ (by first | (simp only [putAll, Act.put, List.setIfInBounds_toArray, List.set_cons_zero, List.set_cons_succ]; done) | (simp only [putAll, Act.put, List.setIfInBounds_toArray, List.set_cons_zero, List.set_cons_succ]; rfl)) (hJ2_5_6_9 (v258, .slice Ao15 y260.length co15, v264, .slice Ao14 y266.length co14) _ ⟨hHeld, (by refine kR_ ?_; first | exact Kd.R_mono HO262.out (fun _ hk => hk.2) | exact Kd.R_mono HO262.out (fun _ _ => trivial)), (kR_ HO268.out), (kb_ BK255.out), (kb_ BK256.out), (hbA_ HB.out)⟩)
       ·skip
        refine box_step ?hg (N := 3) ?hd (cs := #[.int .i64 0, .slice none 0 0, .slice none 0 0, .slice none 0 0]) (t := 30) ?hr ?_; (case hd => rfl); (case hg => rfl); (case hr => first | (go_simp; done) | (go_simp; rfl))
        intro gb269 hg w13 hbox hb
        have n0_ := Aside0.mk (Kd.R_below (kR_ HO262.out) hb); have n1_ := Aside0.mk (Kd.R_below (kR_ HO265.out) hb); have n2_ := (bbA_ BK255 hb); have n3_ := (bbA_ BK256 hb); have n4_ := (bs_ HB hb); have n5_ := Aside0.mk (hbox); have n6_ := ge_ hg HB; have n7_ := ge_ hg HB; have n8_ := nl_ hg BK255; have n9_ := ng_ hg BK255; have n10_ := nl_ hg BK256; have n11_ := ng_ hg BK256; clear HO262 HO265 BK255 BK256 HB; have HO262 := n0_; have HO265 := n1_; have BK255 := n2_; have BK256 := n3_; have HB := n4_; have BK269 := n5_; have GW269 := n6_; have GE269 := n7_; have NB255_269 := n8_; have NB269_255 := n9_; have NB256_269 := n10_; have NB269_256 := n11_; clear n0_ n1_ n2_ n3_ n4_ n5_ n6_ n7_ n8_ n9_ n10_ n11_ hb hbox hg
        refine hK.out _ _ (cz4 BK255.out) (fun hHeld => ?_)
        clear hK K; refine nm_ 3 ?_
        exact norm_ (by first | (simp only [putAll, Act.put, List.setIfInBounds_toArray, List.set_cons_zero, List.set_cons_succ]; done) | (simp only [putAll, Act.put, List.setIfInBounds_toArray, List.set_cons_zero, List.set_cons_succ]; rfl)) (hJ2_5_6_11 (v258, v261, v264, gb269) _ ⟨hHeld, (kR_ HO262.out), (kR_ HO265.out), (kb_ BK255.out), (kb_ BK256.out), (kb_ BK269.out), GW269.out, GE269.out, NB255_269.out, NB269_255.out, NB256_269.out, NB269_256.out, (hbA_ HB.out)⟩)
     ·skip
      rintro ⟨v258, v261, v264, gb269⟩ w13 ⟨hS_, h0_, h1_, h2_, h3_, h4_, h5_, h6_, h7_, h8_, h9_, h10_, h11_⟩
      have n0_ : Aside0 (Kd.R (Kd.int .i64) 3 w13 w.heap.size (fun k_ => some k_ ≠ (v264 : Value).ownBlock) v261 y260) := ⟨h0_⟩
      have n1_ : Aside0 (Kd.R (Kd.int .i64) 3 w13 w.heap.size (fun k_ => some k_ ≠ (v261 : Value).ownBlock) v264 y263) := ⟨h1_⟩
      have n2_ : Aside0 (w13.heap[gb255]? = some (.cells #[.int .i64 a0_0, .slice A0_1 l0_1.length c0_1, .slice A0_2 l0_2.length c0_2, .slice A0_3 l0_3.length c0_3] 30 (0, 0))) := ⟨h2_⟩
      have n3_ : Aside0 (w13.heap[gb256]? = some (.cells #[.int .i64 0, .slice none 0 0, .slice none 0 0, .slice none 0 0] 30 (0, 0))) := ⟨h3_⟩
      have n4_ : Aside0 (w13.heap[gb269]? = some (.cells #[.int .i64 0, .slice none 0 0, .slice none 0 0, .slice none 0 0] 30 (0, 0))) := ⟨h4_⟩
      have n5_ : Aside0 (w.heap.size ≤ gb269) := ⟨h5_⟩
      have n6_ : Aside0 (w.heap.size ≤ gb269) := ⟨h6_⟩
      have n7_ : Aside0 (gb255 ≠ gb269) := ⟨h7_⟩
      have n8_ : Aside0 (gb269 ≠ gb255) := ⟨h8_⟩
      have n9_ : Aside0 (gb256 ≠ gb269) := ⟨h9_⟩
      have n10_ : Aside0 (gb269 ≠ gb256) := ⟨h10_⟩
      have n11_ : Aside0 (Below w.heap.size w w13) := ⟨h11_⟩
      clear BK255 BK256 HB h0_ h1_ h2_ h3_ h4_ h5_ h6_ h7_ h8_ h9_ h10_ h11_; have HO262 := n0_; have HO265 := n1_; have BK255 := n2_; have BK256 := n3_; have BK269 := n4_; have GW269 := n5_; have GE269 := n6_; have NB255_269 := n7_; have NB269_255 := n8_; have NB256_269 := n9_; have NB269_256 := n10_; have HB := n11_; clear n0_ n1_ n2_ n3_ n4_ n5_ n6_ n7_ n8_ n9_ n10_ n11_
      have hHeld : w13.cell? ⟨gb255, 0, none⟩ = some (.int .i64 a0_0) ∧ w13.cell? ⟨gb255, 1, none⟩ = some (.slice A0_1 l0_1.length c0_1) ∧ w13.cell? ⟨gb255, 2, none⟩ = some (.slice A0_2 l0_2.length c0_2) ∧ w13.cell? ⟨gb255, 3, none⟩ = some (.slice A0_3 l0_3.length c0_3) := hS_
      refine norm_ (a' := ?_) ?_ ?_
      rotate_left
      ·simp only [putAll, Act.put, List.setIfInBounds_toArray, List.set_cons_zero, List.set_cons_succ]
       rfl
      refine on_ (i := 9) (N := some 14) HT_ (fun K hK => ?_)
      refine Kd.R_append_rows_step (Kd.int .i64) (w0 := w) w.heap.size (by rfl) (.tmp 11) (.tmp 13) 22 3 (.int .i64 0) 8 rfl Try.underlying22 info3 rfl (by decide) (by omega) v264 y263 l0_3 _ _ _ (fun k_ => some k_ ≠ (v261 : Value).ownBlock) (fun _ => False) rfl rfl ?aO ?aR (fun _ _ h => h) (fun _ h => h.elim) ?aF ?aB ?aS ?aL ?_
      (case aR => exact kC_ (Kd.C_below HR0_3.out HB.out))
      (case aB => exact (hbA_ HB.out))
      (case aF => exact (fun k_ hk => Kd.fresh' (Kd.R_lt (kR_ HO262.out)) k_ hk))
      (case aO => exact (kR_ HO265.out))
      (case aS => exact (below_size (hbA_ HB.out)))
      (case aL => have := LMc3.out; omega)
      intro v267 w14 ho hb hg hat
      rw [← Ny266.out] at ho
      have n0_ := (bgA_ BK255 hg (Kd.R_ne HO265.out BK255.out (by decide))); have n1_ := (bgA_ BK256 hg (Kd.R_ne HO265.out BK256.out (by decide))); have n2_ := Aside0.mk (Kd.R_after (ok := (fun _ => True)) (by refine kR_ ?_; exact Kd.R_mono HO262.out (fun _ hk => ⟨trivial, hk⟩)) hg hat); have n3_ := (bgA_ BK269 hg (Kd.R_ne HO265.out BK269.out (by decide))); have n4_ := Aside0.mk (hb); have n5_ := Aside0.mk (ho); clear BK255 BK256 HO262 BK269 HB HO265; have BK255 := n0_; have BK256 := n1_; have HO262 := n2_; have BK269 := n3_; have HB := n4_; have HO268 := n5_; clear n0_ n1_ n2_ n3_ n4_ n5_ ho hb hg hat
      obtain ⟨Ao15, co15, eo15⟩ := Kd.R_slice HO268.out
      (first | subst eo15 | (injection eo15 with f1_ f2_ f3_; have f4_ := f1_.symm; have f5_ := f3_.symm; clear f1_ f2_ f3_; subst f4_; subst f5_))
      obtain ⟨Ao16, co16, eo16⟩ := Kd.R_slice HO262.out
      (first | subst eo16 | (injection eo16 with f1_ f2_ f3_; have f4_ := f1_.symm; have f5_ := f3_.symm; clear f1_ f2_ f3_; subst f4_; subst f5_))
      refine hK.out _ _ (cz4 BK255.out) (fun hHeld => ?_)
      clear hK K; refine nm_ 14 ?_; refine pu_ (i := 10) (N := some 15) HT_ ?_
      exact norm_ (by first | (simp only [putAll, Act.put, List.setIfInBounds_toArray, List.set_cons_zero, List.set_cons_succ]; done) | (simp only [putAll, Act.put, List.setIfInBounds_toArray, List.set_cons_zero, List.set_cons_succ]; rfl)) (hJ2_5_6_9_11 (v258, .slice Ao16 y260.length co16, v264, .slice Ao15 y266.length co15, gb269) _ ⟨hHeld, (by refine kR_ ?_; first | exact Kd.R_mono HO262.out (fun _ hk => hk.2) | exact Kd.R_mono HO262.out (fun _ _ => trivial)), (kR_ HO268.out), (kb_ BK255.out), (kb_ BK256.out), (kb_ BK269.out), GW269.out, GE269.out, NB255_269.out, NB269_255.out, NB256_269.out, NB269_256.out, (hbA_ HB.out)⟩)
    ·skip
     rintro ⟨v258, v261, v264, v267⟩ w15 ⟨hS_, h0_, h1_, h2_, h3_, h4_⟩
     have n0_ : Aside0 (Kd.R (Kd.int .i64) 3 w15 w.heap.size (fun k_ => some k_ ≠ (v267 : Value).ownBlock) v261 y260) := ⟨h0_⟩
     have n1_ : Aside0 (Kd.R (Kd.int .i64) 3 w15 w.heap.size (fun k_ => some k_ ≠ (v261 : Value).ownBlock) v267 y266) := ⟨h1_⟩
     have n2_ : Aside0 (w15.heap[gb255]? = some (.cells #[.int .i64 a0_0, .slice A0_1 l0_1.length c0_1, .slice A0_2 l0_2.length c0_2, .slice A0_3 l0_3.length c0_3] 30 (0, 0))) := ⟨h2_⟩
     have n3_ : Aside0 (w15.heap[gb256]? = some (.cells #[.int .i64 0, .slice none 0 0, .slice none 0 0, .slice none 0 0] 30 (0, 0))) := ⟨h3_⟩
     have n4_ : Aside0 (Below w.heap.size w w15) := ⟨h4_⟩
     clear BK255 BK256 HB h0_ h1_ h2_ h3_ h4_; have HO262 := n0_; have HO268 := n1_; have BK255 := n2_; have BK256 := n3_; have HB := n4_; clear n0_ n1_ n2_ n3_ n4_
     have hHeld : w15.cell? ⟨gb255, 0, none⟩ = some (.int .i64 a0_0) ∧ w15.cell? ⟨gb255, 1, none⟩ = some (.slice A0_1 l0_1.length c0_1) ∧ w15.cell? ⟨gb255, 2, none⟩ = some (.slice A0_2 l0_2.length c0_2) ∧ w15.cell? ⟨gb255, 3, none⟩ = some (.slice A0_3 l0_3.length c0_3) := hS_
     obtain ⟨Ao16, co16, eo16⟩ := Kd.R_slice HO268.out
     (first | subst eo16 | (injection eo16 with f1_ f2_ f3_; have f4_ := f1_.symm; have f5_ := f3_.symm; clear f1_ f2_ f3_; subst f4_; subst f5_))
     obtain ⟨Ao17, co17, eo17⟩ := Kd.R_slice HO262.out
     (first | subst eo17 | (injection eo17 with f1_ f2_ f3_; have f4_ := f1_.symm; have f5_ := f3_.symm; clear f1_ f2_ f3_; subst f4_; subst f5_))
     refine norm_ (a' := ?_) ?_ ?_
     rotate_left
     ·simp only [putAll, Act.put, List.setIfInBounds_toArray, List.set_cons_zero, List.set_cons_succ]
      rfl
     refine on_ (i := 11) (N := some 3) HT_ (fun K hK => ?_)
     refine box_step ?hg (N := 3) ?hd (cs := #[.int .i64 0, .slice none 0 0, .slice none 0 0, .slice none 0 0]) (t := 30) ?hr ?_; (case hd => rfl); (case hg => rfl); (case hr => first | (go_simp; done) | (go_simp; rfl))
     intro gb269 hg w18 hbox hb
     have n0_ := Aside0.mk (Kd.R_below (kR_ HO262.out) hb); have n1_ := Aside0.mk (Kd.R_below (kR_ HO268.out) hb); have n2_ := (bbA_ BK255 hb); have n3_ := (bbA_ BK256 hb); have n4_ := (bs_ HB hb); have n5_ := Aside0.mk (hbox); have n6_ := ge_ hg HB; have n7_ := ge_ hg HB; have n8_ := nl_ hg BK255; have n9_ := ng_ hg BK255; have n10_ := nl_ hg BK256; have n11_ := ng_ hg BK256; clear HO262 HO268 BK255 BK256 HB; have HO262 := n0_; have HO268 := n1_; have BK255 := n2_; have BK256 := n3_; have HB := n4_; have BK269 := n5_; have GW269 := n6_; have GE269 := n7_; have NB255_269 := n8_; have NB269_255 := n9_; have NB256_269 := n10_; have NB269_256 := n11_; clear n0_ n1_ n2_ n3_ n4_ n5_ n6_ n7_ n8_ n9_ n10_ n11_ hb hbox hg
     refine hK.out _ _ (cz4 BK255.out) (fun hHeld => ?_)
     clear hK K; refine nm_ 3 ?_
     exact norm_ (by first | (simp only [putAll, Act.put, List.setIfInBounds_toArray, List.set_cons_zero, List.set_cons_succ]; done) | (simp only [putAll, Act.put, List.setIfInBounds_toArray, List.set_cons_zero, List.set_cons_succ]; rfl)) (hJ2_5_6_9_11 (v258, .slice Ao17 y260.length co17, v264, .slice Ao16 y266.length co16, gb269) _ ⟨hHeld, (kR_ HO262.out), (kR_ HO268.out), (kb_ BK255.out), (kb_ BK256.out), (kb_ BK269.out), GW269.out, GE269.out, NB255_269.out, NB269_255.out, NB256_269.out, NB269_256.out, (hbA_ HB.out)⟩)
   rintro ⟨v258, v261, v264, v267, gb269⟩ w16 ⟨hS_, h0_, h1_, h2_, h3_, h4_, h5_, h6_, h7_, h8_, h9_, h10_, h11_⟩
   have n0_ : Aside0 (Kd.R (Kd.int .i64) 3 w16 w.heap.size (fun k_ => some k_ ≠ (v267 : Value).ownBlock) v261 y260) := ⟨h0_⟩
   have n1_ : Aside0 (Kd.R (Kd.int .i64) 3 w16 w.heap.size (fun k_ => some k_ ≠ (v261 : Value).ownBlock) v267 y266) := ⟨h1_⟩
   have n2_ : Aside0 (w16.heap[gb255]? = some (.cells #[.int .i64 a0_0, .slice A0_1 l0_1.length c0_1, .slice A0_2 l0_2.length c0_2, .slice A0_3 l0_3.length c0_3] 30 (0, 0))) := ⟨h2_⟩
   have n3_ : Aside0 (w16.heap[gb256]? = some (.cells #[.int .i64 0, .slice none 0 0, .slice none 0 0, .slice none 0 0] 30 (0, 0))) := ⟨h3_⟩
   have n4_ : Aside0 (w16.heap[gb269]? = some (.cells #[.int .i64 0, .slice none 0 0, .slice none 0 0, .slice none 0 0] 30 (0, 0))) := ⟨h4_⟩
   have n5_ : Aside0 (w.heap.size ≤ gb269) := ⟨h5_⟩
   have n6_ : Aside0 (w.heap.size ≤ gb269) := ⟨h6_⟩
   have n7_ : Aside0 (gb255 ≠ gb269) := ⟨h7_⟩
   have n8_ : Aside0 (gb269 ≠ gb255) := ⟨h8_⟩
   have n9_ : Aside0 (gb256 ≠ gb269) := ⟨h9_⟩
   have n10_ : Aside0 (gb269 ≠ gb256) := ⟨h10_⟩
   have n11_ : Aside0 (Below w.heap.size w w16) := ⟨h11_⟩
   clear BK255 BK256 HB h0_ h1_ h2_ h3_ h4_ h5_ h6_ h7_ h8_ h9_ h10_ h11_; have HO262 := n0_; have HO268 := n1_; have BK255 := n2_; have BK256 := n3_; have BK269 := n4_; have GW269 := n5_; have GE269 := n6_; have NB255_269 := n7_; have NB269_255 := n8_; have NB256_269 := n9_; have NB269_256 := n10_; have HB := n11_; clear n0_ n1_ n2_ n3_ n4_ n5_ n6_ n7_ n8_ n9_ n10_ n11_
   have hHeld : w16.cell? ⟨gb255, 0, none⟩ = some (.int .i64 a0_0) ∧ w16.cell? ⟨gb255, 1, none⟩ = some (.slice A0_1 l0_1.length c0_1) ∧ w16.cell? ⟨gb255, 2, none⟩ = some (.slice A0_2 l0_2.length c0_2) ∧ w16.cell? ⟨gb255, 3, none⟩ = some (.slice A0_3 l0_3.length c0_3) := hS_
   obtain ⟨Ao17, co17, eo17⟩ := Kd.R_slice HO268.out
   (first | subst eo17 | (injection eo17 with f1_ f2_ f3_; have f4_ := f1_.symm; have f5_ := f3_.symm; clear f1_ f2_ f3_; subst f4_; subst f5_))
   obtain ⟨Ao18, co18, eo18⟩ := Kd.R_slice HO262.out
   (first | subst eo18 | (injection eo18 with f1_ f2_ f3_; have f4_ := f1_.symm; have f5_ := f3_.symm; clear f1_ f2_ f3_; subst f4_; subst f5_))
   refine norm_ (a' := ?_) ?_ ?_
   rotate_left
   ·simp only [putAll, Act.put, List.setIfInBounds_toArray, List.set_cons_zero, List.set_cons_succ]
    rfl
   refine on_ (i := 12) (N := none) HT_ (fun K hK => ?_)
   have hs19 : w16.cell? ⟨gb269, 0, none⟩ = some (.int .i64 0) := bc_ BK269 0
   have hfs19 := blk_frozen BK269.out 0
   have hns19_0 := NB255_269.out; have hns19_1 := NB256_269.out; have hms19_0 := NB269_255.out; have hms19_1 := NB269_256.out
   have hs20 : w16.cell? ⟨gb269, 1, none⟩ = some (.slice none 0 0) := bc_ BK269 1
   have hfs20 := blk_frozen BK269.out 1
   have hns20_0 := NB255_269.out; have hns20_1 := NB256_269.out; have hms20_0 := NB269_255.out; have hms20_1 := NB269_256.out
   have hs21 : w16.cell? ⟨gb269, 2, none⟩ = some (.slice none 0 0) := bc_ BK269 2
   have hfs21 := blk_frozen BK269.out 2
   have hns21_0 := NB255_269.out; have hns21_1 := NB256_269.out; have hms21_0 := NB269_255.out; have hms21_1 := NB269_256.out
   have hs22 : w16.cell? ⟨gb269, 3, none⟩ = some (.slice none 0 0) := bc_ BK269 3
   have hfs22 := blk_frozen BK269.out 3
   have hns22_0 := NB255_269.out; have hns22_1 := NB256_269.out; have hms22_0 := NB269_255.out; have hms22_1 := NB269_256.out
   refine skip_ (w1 := ?_) (by rfl) rfl ?_ ?_
   rotate_left
   ·go_simp
    rfl
   refine hK.out _ _ ⟨((cell_far (p := ⟨gb269, _, none⟩) NB255_269.out _).trans (((cell_far (p := ⟨gb269, _, none⟩) NB255_269.out _).trans (((cell_far (p := ⟨gb269, _, none⟩) NB255_269.out _).trans (((cell_far (p := ⟨gb269, _, none⟩) NB255_269.out _).trans (hHeld.1)))))))), ((cell_far (p := ⟨gb269, _, none⟩) NB255_269.out _).trans (((cell_far (p := ⟨gb269, _, none⟩) NB255_269.out _).trans (((cell_far (p := ⟨gb269, _, none⟩) NB255_269.out _).trans (((cell_far (p := ⟨gb269, _, none⟩) NB255_269.out _).trans (hHeld.2.1)))))))), ((cell_far (p := ⟨gb269, _, none⟩) NB255_269.out _).trans (((cell_far (p := ⟨gb269, _, none⟩) NB255_269.out _).trans (((cell_far (p := ⟨gb269, _, none⟩) NB255_269.out _).trans (((cell_far (p := ⟨gb269, _, none⟩) NB255_269.out _).trans (hHeld.2.2.1)))))))), ((cell_far (p := ⟨gb269, _, none⟩) NB255_269.out _).trans (((cell_far (p := ⟨gb269, _, none⟩) NB255_269.out _).trans (((cell_far (p := ⟨gb269, _, none⟩) NB255_269.out _).trans (((cell_far (p := ⟨gb269, _, none⟩) NB255_269.out _).trans (hHeld.2.2.2))))))))⟩ (fun hHeld => ?_)
   clear hK K
   refine done_ (done_of HT_.out (by kernel_rfl)) ?_
   try go_wp2
   go_loopg [4] k (fun kq v4 w' => ∃ (x4_1 : Int) (x270002_1 : List (S41)) (u270002 : Value), v4 = .int .i64 x4_1 ∧ Aside0 (spec_l20Client.l0 kq x4_1 a0_0 l0_1 l0_2 l0_3 a0_0 y260 x270002_1 y266 = some (r1, r2, r3, r4)) ∧ Aside0 (kq ≤ k) ∧ Aside0 (Kd.R (Kd.int .i64) 3 w' w.heap.size (fun k_ => some k_ ≠ ((.slice Ao17 y266.length co17) : Value).ownBlock) (.slice Ao18 y260.length co18) y260) ∧ Aside0 (Kd.S k41 41 w' w.heap.size (fun _ => True) u270002 x270002_1) ∧ Aside0 (Kd.R (Kd.int .i64) 3 w' w.heap.size (fun k_ => some k_ ≠ ((.slice Ao18 y260.length co18) : Value).ownBlock) (.slice Ao17 y266.length co17) y266) ∧ Aside0 (w'.heap[gb255]? = some (.cells #[.int .i64 a0_0, (.slice A0_1 l0_1.length c0_1), (.slice A0_2 l0_2.length c0_2), (.slice A0_3 l0_3.length c0_3)] 30 (0, 0))) ∧ Aside0 (w'.heap[gb256]? = some (.cells #[.int .i64 0, (.slice none 0 0), (.slice none 0 0), (.slice none 0 0)] 30 (0, 0))) ∧ Aside0 (w'.heap[gb269]? = some (.cells #[.int .i64 a0_0, (.slice Ao18 y260.length co18), u270002, (.slice Ao17 y266.length co17)] 30 (0, 0))) ∧ Aside0 (Below w.heap.size w w'))
   case atStart => exact ⟨(0), (([] : List (S41))), (.slice none 0 0), (by first | rfl | (simp; done) | (simp [*]; done)), H', ⟨Nat.le_refl _⟩, ⟨by refine kR_ ?_; exact rfm_ ((Kd.R_types HO262.out BK269.out (by decide))) (fun _ hk => hk.1)⟩, ⟨by first | exact Kd.S_nil _ _ _ _ _ | exact Kd.N_nil _ _ _ _ _ | exact Kd.V_nil _ _ _ _ _ | exact Kd.Q_nil _ _ _ _ _ | exact Kd.R_nil _ _ _ _ _⟩, ⟨by refine kR_ ?_; exact rfm_ ((Kd.R_types HO268.out BK269.out (by decide))) (fun _ hk => hk.1)⟩, ⟨by exact kf_ BK255.out⟩, ⟨by exact kf_ BK256.out⟩, ⟨by refine kb_ ?_; refine pz4 (cs := #[.int .i64 0, .slice none 0 0, .slice none 0 0, .slice none 0 0]) ?_; refine kb_ ?_; exact BK269.out⟩, ⟨hbA_ HB.out⟩⟩
   case round =>
    clear H'; (try clear c2); (try clear p2); (try clear c3)
    obtain ⟨x4_1, x270002_1, u270002, rfl, HA, HK1, HO_270001, HO_270002, HO_270003, BK255, BK256, BK269, HB⟩ := hrel
    cases gk with
    | zero => exact absurd HA.out (by simp [spec_l20Client.l0])
    | succ k1 =>
     have H := HA.out; clear HA
     simp only [spec_l20Client.l0] at H
     by_cases c23 : x4_1 < (l0_2.length : Int)
     ·rw [if_pos c23] at H
      have c23b0 : decide (x4_1 < (l0_2.length : Int)) = true := decide_eq_true c23
      clear c23
      by_cases c24 : 0 ≤ x4_1
      ·rw [if_pos c24] at H
       have c24b0 : decide (0 ≤ x4_1) = true := decide_eq_true c24
       clear c24
       obtain ⟨y271, hy271⟩ : ∃ y_ : List Int, y_ = (([] : List Int)) := ⟨_, rfl⟩
       (first | replace H := sb_ hy271 H | rw [← hy271] at H)
       have Ny271 := Aside0.mk hy271; clear hy271
       by_cases c25 : y271.length + ((rd_T41 l0_2 x4_1).f1).length < 140737488355328
       ·rw [if_pos c25] at H
        have LMc25 := Aside0.mk c25; clear c25
        obtain ⟨y275, hy275⟩ : ∃ y_ : List Int, y_ = (y271 ++ ((rd_T41 l0_2 x4_1).f1)) := ⟨_, rfl⟩
        (first | replace H := sb_ hy275 H | rw [← hy275] at H)
        have Ny275 := Aside0.mk hy275; clear hy275
        by_cases c26 : x270002_1.length < 4398046511104
        ·rw [if_pos c26] at H
         have LMc26 := Aside0.mk c26; clear c26
         obtain ⟨y278, hy278⟩ : ∃ y_ : List (S41), y_ = (x270002_1 ++ [(⟨(rd_T41 l0_2 x4_1).f0, y275⟩ : S41)]) := ⟨_, rfl⟩
         (first | replace H := sb_ hy278 H | rw [← hy278] at H)
         have Ny278 := Aside0.mk hy278; clear hy278
         have H' := Aside0.mk H
         clear H; have hnb27 := NB255_256.out; have hnc27 := NB256_255.out; have hnb28 := NB255_269.out; have hnc28 := NB269_255.out; have Z29 := zz4 BK255
         try go_wp2
         replace HO_270001 := Aside0.mk (Kd.R_drew HO_270001.out); replace HO_270002 := Aside0.mk (Kd.S_drew HO_270002.out); replace HO_270003 := Aside0.mk (Kd.R_drew HO_270003.out); replace BK255 := Aside0.mk (blk_drew BK255.out); replace BK256 := Aside0.mk (blk_drew BK256.out); replace BK269 := Aside0.mk (blk_drew BK269.out); replace HB := (bd_ HB)
         have p270 : 0 ≤ (x4_1 : Int) := of_decide_eq_true (by first | (with_reducible assumption) | assumption)
         have q270 : x4_1 < (l0_2.length : Int) := of_decide_eq_true (by first | (with_reducible assumption) | assumption)
         obtain ⟨ad270, A270_1, c270_1, e270, hx270_0, hx270_1, hl270_1, hi270_1⟩ := at_T41 HR0_2.out x4_1 p270 q270
         have hw270_1 := hx270_1; have hw270_0 := hx270_0
         cases e270
         replace hx270_0 := cc_ HB hx270_0
         replace hx270_1 := cc_ HB hx270_1
         have HR270_1 := Aside0.mk hi270_1; have HC270_1 := Aside0.mk hl270_1; clear hi270_1 hl270_1
         replace p270 := eq_true p270
         replace q270 := eq_true q270
         have p274 : 0 ≤ (x4_1 : Int) := of_decide_eq_true (by first | (with_reducible assumption) | assumption)
         have q274 : x4_1 < (l0_2.length : Int) := of_decide_eq_true (by first | (with_reducible assumption) | assumption)
         obtain ⟨ad274, A274_1, c274_1, e274, hx274_0, hx274_1, hl274_1, hi274_1⟩ := at_T41 HR0_2.out x4_1 p274 q274
         have hw274_1 := hx274_1; have hw274_0 := hx274_0
         obtain rfl : ad270 = ad274 := (by injection e274)
         replace hx274_0 := cc_ HB hx274_0
         replace hx274_1 := cc_ HB hx274_1
         have HR274_1 := Aside0.mk hi274_1; have HC274_1 := Aside0.mk hl274_1; clear hi274_1 hl274_1
         replace p274 := eq_true p274
         replace q274 := eq_true q274
         have ea_ := Option.some.inj (hx270_1.symm.trans hx274_1)
         injection ea_ with ea_ en_ ec_
         subst ea_; subst ec_; clear en_
         refine start_ (n := 21) (S := fun w' => w'.cell? ⟨gb269, 0, none⟩ = some (.int .i64 a0_0) ∧ w'.cell? ⟨gb269, 1, none⟩ = some (.slice Ao18 y260.length co18) ∧ w'.cell? ⟨gb269, 2, none⟩ = some (u270002) ∧ w'.cell? ⟨gb269, 3, none⟩ = some (.slice Ao17 y266.length co17) ∧ w'.cell? ⟨gb255, 0, none⟩ = some (.int .i64 a0_0) ∧ w'.cell? ⟨gb255, 1, none⟩ = some (.slice A0_1 l0_1.length c0_1) ∧ w'.cell? ⟨gb255, 2, none⟩ = some (.slice (some ad270) l0_2.length c0_2) ∧ w'.cell? ⟨gb255, 3, none⟩ = some (.slice A0_3 l0_3.length c0_3) ∧ w'.cell? (ad270.add ((x4_1).toNat * 2)) = some (.int .i64 ((rd_T41 l0_2 x4_1).f0)) ∧ w'.cell? ⟨(ad270.add ((x4_1).toNat * 2)).block, (ad270.add ((x4_1).toNat * 2)).off + 1, none⟩ = some (.slice A270_1 ((rd_T41 l0_2 x4_1).f1).length c270_1) ∧ w'.cell? (ad270.add ((x4_1).toNat * 2)) = some (.int .i64 ((rd_T41 l0_2 x4_1).f0)) ∧ w'.cell? ⟨(ad270.add ((x4_1).toNat * 2)).block, (ad270.add ((x4_1).toNat * 2)).off + 1, none⟩ = some (.slice A270_1 ((rd_T41 l0_2 x4_1).f1).length c270_1)) (ds := [20]) #[false, false, false, false, false, false, false, false, false, false, false, false, false, false, false, false, false, false, false, false, false] (by kernel_rfl) rfl rfl ⟨bc_ BK269 0, bc_ BK269 1, bc_ BK269 2, bc_ BK269 3, bc_ BK255 0, bc_ BK255 1, bc_ BK255 2, bc_ BK255 3, (cc_ HB hw270_0), (cc_ HB hw270_1), (cc_ HB hw274_0), (cc_ HB hw274_1)⟩ (fun hHeld => ?_); refine with_tabW spec_l20Client.tab5 spec_l20Client.bits5 (fun HT_ HW_ => ?_)
         generalize wr.drew = w30 at HO_270001 HO_270002 HO_270003 BK255 BK256 BK269 HB HR270_1 HR274_1 hx270_0 hx270_1 hx274_0 hx274_1 hHeld ⊢
         refine pu_ (i := 0) (N := some 23) HT_ ?_; refine pu_ (i := 2) (N := some 25) HT_ ?_; refine pu_ (i := 4) (N := some 27) HT_ ?_; refine pu_ (i := 9) (N := some 32) HT_ ?_; refine pu_ (i := 11) (N := some 34) HT_ ?_; refine tk_ (i := 1) (N := some 24) HT_ HW_ hHeld ?_; refine tk_ (i := 3) (N := some 26) HT_ HW_ hHeld ?_; refine pu_ (i := 5) (N := some 28) HT_ ?_; refine pu_ (i := 6) (N := some 29) HT_ ?_; refine tk_ (i := 7) (N := some 30) HT_ HW_ hHeld ?_; refine tk_ (i := 10) (N := some 33) HT_ HW_ hHeld ?_; refine pu_ (i := 12) (N := some 35) HT_ ?_; refine pu_ (i := 13) (N := some 36) HT_ ?_; refine tk_ (i := 14) (N := some 37) HT_ HW_ hHeld ?_
         refine on_ (i := 8) (N := some 31) HT_ (fun K hK => ?_)
         refine Kd.R_lit_step (Kd.int .u8) _ 5 ?hg (N := 31) ?hd (xs := ([] : List Int)) (inner := []) (ok := fun _ => True) (okp := fun _ => True) ?hr ?hp (fun _ hk => hk) trivial (Below.refl _ _) (Nat.le_refl _) (by simp) ?_; (case hd => rfl); (case hg => rfl); (case hr => first | (go_simp; done) | (go_simp; rfl)); (case hp => exact (Reps.none _ _))
         intro v272 w31 ho32 hb hg_ hnew_
         clear hg_ hnew_
         (first | rw [← Ny271.out] at ho32 | (simp only [Int.reduceToNat] at ho32; rw [← Ny271.out] at ho32))
         have n0_ := Aside0.mk (Kd.R_below (kR_ HO_270001.out) hb); have n1_ := Aside0.mk (Kd.S_elder' (kS_ HO_270002.out) (Kd.R_base ho32) hb); have n2_ := Aside0.mk (Kd.R_below (kR_ HO_270003.out) hb); have n3_ := Aside0.mk (Kd.R_lower ho32 (below_size (hbA_ HB.out))); have n4_ := (bbA_ BK255 hb); have n5_ := (bbA_ BK256 hb); have n6_ := (bbA_ BK269 hb); have n7_ := (bs_ HB hb); clear HO_270001 HO_270002 HO_270003 BK255 BK256 BK269 HB; have HO_270001 := n0_; have HO_270002 := n1_; have HO_270003 := n2_; have HO273 := n3_; have BK255 := n4_; have BK256 := n5_; have BK269 := n6_; have HB := n7_; clear n0_ n1_ n2_ n3_ n4_ n5_ n6_ n7_ hb ho32
         refine hK.out _ _ ⟨bc_ BK269 0, bc_ BK269 1, bc_ BK269 2, bc_ BK269 3, bc_ BK255 0, bc_ BK255 1, bc_ BK255 2, bc_ BK255 3, (cc_ HB hw270_0), (cc_ HB hw270_1), (cc_ HB hw274_0), (cc_ HB hw274_1)⟩ (fun hHeld => ?_)
         clear hK K; refine nm_ 31 ?_
         refine on_ (i := 15) (N := some 38) HT_ (fun K hK => ?_)
         refine Kd.R_append_rows_step (Kd.int .u8) (w0 := w) w.heap.size (by rfl) (.tmp 31) (.tmp 37) 34 5 (.int .u8 0) 1 rfl Try.underlying34 info5 rfl (by decide) (by omega) v272 y271 ((rd_T41 l0_2 x4_1).f1) _ _ _ (fun _ => True) (fun _ => False) rfl rfl ?aO ?aR (fun _ _ h => h) (fun _ h => h.elim) ?aF ?aB ?aS ?aL ?_
         (case aR => exact kC_ (Kd.C_below HR274_1.out HB.out))
         (case aB => exact (hbA_ HB.out))
         (case aF => exact (fun _ _ => trivial))
         (case aO => exact (kR_ HO273.out))
         (case aS => exact (below_size (hbA_ HB.out)))
         (case aL => have := LMc25.out; omega)
         intro v276 w33 ho hb hg hat
         rw [← Ny275.out] at ho
         have n0_ := Aside0.mk (Kd.R_over' (kR_ HO_270001.out) (Kd.R_typed (kR_ HO273.out)) (by decide) hg); have n1_ := Aside0.mk (Kd.S_after (ok := (fun _ => True)) (kS_ HO_270002.out) hg hat); have n2_ := Aside0.mk (Kd.R_over' (kR_ HO_270003.out) (Kd.R_typed (kR_ HO273.out)) (by decide) hg); have n3_ := (bgA_ BK255 hg (Kd.R_ne HO273.out BK255.out (by decide))); have n4_ := (bgA_ BK256 hg (Kd.R_ne HO273.out BK256.out (by decide))); have n5_ := (bgA_ BK269 hg (Kd.R_ne HO273.out BK269.out (by decide))); have n6_ := Aside0.mk (hb); have n7_ := Aside0.mk (ho); clear HO_270001 HO_270002 HO_270003 BK255 BK256 BK269 HB HO273; have HO_270001 := n0_; have HO_270002 := n1_; have HO_270003 := n2_; have BK255 := n3_; have BK256 := n4_; have BK269 := n5_; have HB := n6_; have HO277 := n7_; clear n0_ n1_ n2_ n3_ n4_ n5_ n6_ n7_ ho hb hg hat
         obtain ⟨Ao34, co34, eo34⟩ := Kd.R_slice HO277.out
         (first | subst eo34 | (injection eo34 with f1_ f2_ f3_; have f4_ := f1_.symm; have f5_ := f3_.symm; clear f1_ f2_ f3_; subst f4_; subst f5_))
         refine hK.out _ _ ⟨bc_ BK269 0, bc_ BK269 1, bc_ BK269 2, bc_ BK269 3, bc_ BK255 0, bc_ BK255 1, bc_ BK255 2, bc_ BK255 3, (cc_ HB hw270_0), (cc_ HB hw270_1), (cc_ HB hw274_0), (cc_ HB hw274_1)⟩ (fun hHeld => ?_)
         clear hK K; refine nm_ 38 ?_; refine pu_ (i := 16) (N := some 39) HT_ ?_
         refine on_ (i := 17) (N := some 40) HT_ (fun K hK => ?_)
         refine value_ (w1 := ?_) (v := ?_) (by rfl) rfl ?_ ?_
         rotate_left 2
         ·go_simp
          constructor
          ·rfl
          ·rfl
         refine hK.out _ _ ⟨(blk_cell (blk_alloc BK269.out _) 0).trans rfl, (blk_cell (blk_alloc BK269.out _) 1).trans rfl, (blk_cell (blk_alloc BK269.out _) 2).trans rfl, (blk_cell (blk_alloc BK269.out _) 3).trans rfl, (blk_cell (blk_alloc BK255.out _) 0).trans rfl, (blk_cell (blk_alloc BK255.out _) 1).trans rfl, (blk_cell (blk_alloc BK255.out _) 2).trans rfl, (blk_cell (blk_alloc BK255.out _) 3).trans rfl, (World.cell?_alloc_lt _ _ _ (World.block_lt_of_cell? _ _ ((cc_ HB hw270_0)))).trans ((cc_ HB hw270_0)), (World.cell?_alloc_lt _ _ _ (World.block_lt_of_cell? _ _ ((cc_ HB hw270_1)))).trans ((cc_ HB hw270_1)), (World.cell?_alloc_lt _ _ _ (World.block_lt_of_cell? _ _ ((cc_ HB hw274_0)))).trans ((cc_ HB hw274_0)), (World.cell?_alloc_lt _ _ _ (World.block_lt_of_cell? _ _ ((cc_ HB hw274_1)))).trans ((cc_ HB hw274_1))⟩ (fun hHeld => ?_)
         clear hK K; refine nm_ 40 ?_
         refine on_ (i := 18) (N := some 41) HT_ (fun K hK => ?_)
         refine Kd.S_append_step k41 (w0 := w) w.heap.size (by rfl) (.tmp 24) (.tmp 40) 28 41 (.agg #[(.int .i64 0), (.slice none 0 0)]) 32 rfl Try.underlying28 info41 rfl (by decide) (by omega) u270002 x270002_1 (⟨(rd_T41 l0_2 x4_1).f0, y275⟩ : S41) [.int .i64 ((rd_T41 l0_2 x4_1).f0), .slice Ao34 y275.length co34] (fun _ => True) (fun k_ => some k_ = (.slice Ao34 y275.length co34 : Value).ownBlock) rfl rfl ?aP (fun k_ hk_ => ((Kd.R_mono (ok' := fun k_ => ((fun _ => True)) k_ ∧ some k_ ≠ (u270002 : Value).ownBlock) (Kd.R_apart' (HO277.out) (Kd.S_typed HO_270002.out) (by decide)) (fun k_ hk => ⟨trivial, hk.2⟩))).1 k_ hk_.symm) ?aF ?aO ?aB ?aS ?aL ?_
         (case aP => exact k41_mkM _ _ _ (⟨(rd_T41 l0_2 x4_1).f0, y275⟩ : S41) (Kd.R_mono (Kd.R_tight rfl (Kd.R_mono (ok' := fun k_ => ((fun _ => True)) k_ ∧ some k_ ≠ (u270002 : Value).ownBlock) (Kd.R_apart' (HO277.out) (Kd.S_typed HO_270002.out) (by decide)) (fun k_ hk => ⟨trivial, hk.2⟩))) (fun _ h_ => h_)))
         (case aB => exact (hbA_ HB.out))
         (case aF => exact (fun _ _ => trivial))
         (case aO => exact (by refine kS_ ?_; exact Kd.S_mono HO_270002.out (fun k_ hk => ⟨trivial, fun e_ => hk.2 e_⟩)))
         (case aS => exact (below_size (hbA_ HB.out)))
         (case aL => have := LMc26.out; omega)
         intro v279 w35 ho hb hg hat
         rw [← Ny278.out] at ho
         have n0_ := Aside0.mk (Kd.R_over' (kR_ HO_270001.out) (Kd.S_typed (kS_ HO_270002.out)) (by decide) hg); have n1_ := Aside0.mk (Kd.R_over' (kR_ HO_270003.out) (Kd.S_typed (kS_ HO_270002.out)) (by decide) hg); have n2_ := (bgA_ BK255 hg (Kd.S_ne HO_270002.out BK255.out (by decide))); have n3_ := (bgA_ BK256 hg (Kd.S_ne HO_270002.out BK256.out (by decide))); have n4_ := (bgA_ BK269 hg (Kd.S_ne HO_270002.out BK269.out (by decide))); have n5_ := Aside0.mk (hb); have n6_ := Aside0.mk (ho); clear HO_270001 HO_270003 BK255 BK256 BK269 HB HO_270002 HO277; have HO_270001 := n0_; have HO_270003 := n1_; have BK255 := n2_; have BK256 := n3_; have BK269 := n4_; have HB := n5_; have HO280 := n6_; clear n0_ n1_ n2_ n3_ n4_ n5_ n6_ ho hb hg hat
         obtain ⟨Ao36, co36, eo36⟩ := Kd.S_slice HO280.out
         (first | subst eo36 | (injection eo36 with f1_ f2_ f3_; have f4_ := f1_.symm; have f5_ := f3_.symm; clear f1_ f2_ f3_; subst f4_; subst f5_))
         refine hK.out _ _ ⟨bc_ BK269 0, bc_ BK269 1, bc_ BK269 2, bc_ BK269 3, bc_ BK255 0, bc_ BK255 1, bc_ BK255 2, bc_ BK255 3, (cc_ HB hw270_0), (cc_ HB hw270_1), (cc_ HB hw274_0), (cc_ HB hw274_1)⟩ (fun hHeld => ?_)
         clear hK K; refine nm_ 41 ?_; refine pu_ (i := 19) (N := some 42) HT_ ?_
         refine last_ (i := 20) (N := none) #[true, true, true, true, true, true, true, true, true, true, true, true, true, true, true, true, true, true, true, true, true] rfl rfl (one_of HT_.out (by kernel_rfl)) (by decide) (fun K hK => ?_)
         have hs37 : w35.cell? ⟨gb269, 2, none⟩ = some (u270002) := bc_ BK269 2
         have hfs37 := blk_frozen BK269.out 2
         have hns37_0 := NB255_269.out; have hns37_1 := NB256_269.out; have hms37_0 := NB269_255.out; have hms37_1 := NB269_256.out
         refine skip_ (w1 := ?_) (by rfl) rfl ?_ ?_
         rotate_left
         ·go_simp
          rfl
         refine hK.out _ _ ?_
         clear hK K
         refine done_ (done_of HT_.out (by kernel_rfl)) ?_
         try go_wp2
         go_roundg k1
         case measure => have := HK1.out; omega
         case rel => exact ⟨(wrap64 (x4_1 + 1)), (y278), (.slice Ao36 y278.length co36), (by first | rfl | (simp; done) | (simp [*]; done)), H', ⟨by have := HK1.out; omega⟩, ⟨by refine kR_ ?_; exact Kd.R_mono (Kd.R_f gb269 2 (.slice Ao36 y278.length co36) (Kd.R_types HO_270001.out BK269.out (by decide))) (fun _ hk => hk.1)⟩, ⟨by refine kS_ ?_; exact Kd.S_mono (Kd.S_far (p := ⟨gb269, 2, none⟩) (Kd.S_types HO280.out BK269.out (by decide)) (fun _ hk => hk.2) (.slice Ao36 y278.length co36)) (fun _ hk => trivial)⟩, ⟨by refine kR_ ?_; exact Kd.R_mono (Kd.R_f gb269 2 (.slice Ao36 y278.length co36) (Kd.R_types HO_270003.out BK269.out (by decide))) (fun _ hk => hk.1)⟩, ⟨by exact kf_ BK255.out⟩, ⟨by exact kf_ BK256.out⟩, ⟨by refine kb_ ?_; refine blk_put (cs := #[.int .i64 a0_0, .slice Ao18 y260.length co18, u270002, .slice Ao17 y266.length co17]) ?_ 2 _ rfl; refine kb_ ?_; exact BK269.out⟩, ⟨hbA_ HB.out⟩⟩
        ·rw [if_neg c26] at H
         exact absurd H (by simp)
       ·rw [if_neg c25] at H
        exact absurd H (by simp)
      ·rw [if_neg c24] at H
       exact absurd H (by simp)
     ·rw [if_neg c23] at H
      have c23b0 : decide (x4_1 < (l0_2.length : Int)) = false := decide_eq_false c23
      clear c23
      simp only [Option.some.injEq, Prod.mk.injEq] at H
      obtain ⟨rfl, rfl, rfl, rfl⟩ := H
      have hnb38 := NB255_256.out; have hnc38 := NB256_255.out; have hnb39 := NB255_269.out; have hnc39 := NB269_255.out; have Z40 := zz4 BK255; have hnb41 := NB269_256.out; have hnc41 := NB256_269.out; have Z42 := zz4 BK269; have Z43 := zz4 BK256
      obtain ⟨Ao44, co44, eo44⟩ := Kd.S_slice HO_270002.out
      subst eo44
      go_wp2
      refine bodyPost_ret (results_cell_row rfl _ _ gb256 30 #[.int .i64 a0_0, .slice Ao18 y260.length co18, .slice Ao44 x270002_1.length co44, .slice Ao17 y266.length co17] (0, 0) _ rfl (by refine kb_ ?_; refine pz4 (cs := #[.int .i64 0, .slice none 0 0, .slice none 0 0, .slice none 0 0]) ?_; refine kb_ ?_; exact BK256.out) Try.underlying30 rfl (by kernel_rfl)) rfl ?_
      exact ⟨_, _, _, by first | rfl | (simp [errW_none, errW_some] <;> rfl) | (simp [*, errW_none, errW_some] <;> rfl), by refine kR_ ?_; exact rfm_ ((Kd.R_types HO_270001.out BK256.out (by decide))) (fun _ hk => hk.1), by refine kS_ ?_; exact Kd.S_mono (Kd.S_far (p := ⟨gb256, 3, none⟩) (Kd.S_far (p := ⟨gb256, 2, none⟩) (Kd.S_far (p := ⟨gb256, 1, none⟩) (Kd.S_far (p := ⟨gb256, 0, none⟩) (Kd.S_types HO_270002.out BK256.out (by decide)) (fun _ hk => hk.2) (.int .i64 a0_0)) (fun _ hk => hk.2) (.slice Ao18 y260.length co18)) (fun _ hk => hk.2) (.slice Ao44 x270002_1.length co44)) (fun _ hk => hk.2) (.slice Ao17 y266.length co17)) (fun _ hk => trivial), by refine kR_ ?_; exact rfm_ ((Kd.R_types HO_270003.out BK256.out (by decide))) (fun _ hk => hk.1), hbA_ HB.out⟩
  ·rw [if_neg c3] at H
   exact absurd H (by simp)
 ·rw [if_neg c2] at H
  exact absurd H (by simp)
def spec_ClientOver.f (k : Nat) (a0_0 : Int) (l0_1 : List Int) (l0_2 : List (S41)) (l0_3 : List Int) : Option (Int × List Int × (List (S41)) × List Int) := (spec_ClientOk.f k a0_0 l0_1 l0_2 l0_3).bind fun t283 => (if t283 = true then ((spec_l20Client.f k a0_0 l0_1 l0_2 l0_3).bind fun bt284 => (if bt284.2.2.2.length + l0_1.length < 17592186044416 then (some (bt284.1, (([] : List Int)), bt284.2.2.1, (bt284.2.2.2 ++ l0_1))) else (none))) else (some (0, ([] : List Int), ([] : List (S41)), ([] : List Int))))
theorem spec_ClientOver.mono : ∀ a0 a1 a2 a3 k, LeO (spec_ClientOver.f k a0 a1 a2 a3) (spec_ClientOver.f (k + 1) a0 a1 a2 a3) := by
 intro a0 a1 a2 a3 k
 unfold spec_ClientOver.f
 repeat' first | (with_reducible first | apply spec_ClientOk.mono | apply spec_l20Client.mono | exact LeO.refl _ | exact LeO.none _ | refine LeO.ite ?_ ?_ | refine LeO.bind ?_ fun _ => ?_) | apply spec_ClientOk.mono | apply spec_l20Client.mono | exact LeO.none _ | refine LeO.ite ?_ ?_ | refine LeO.bind ?_ fun _ => ?_
set_option maxHeartbeats 8000000 in
set_option maxRecDepth 100000 in
theorem spec_ClientOver.calls (k : Nat) (a0_0 : Int) (A0_1 : Option Addr) (c0_1 : Nat) (l0_1 : List Int) (A0_2 : Option Addr) (c0_2 : Nat) (l0_2 : List (S41)) (A0_3 : Option Addr) (c0_3 : Nat) (l0_3 : List Int) (r1 : Int) (r2 : List Int) (r3 : List (S41)) (r4 : List Int) (w : World) (hr0_1 : Kd.C (Kd.int .i64) w A0_1 l0_1.length l0_1) (hc0_1 : l0_1.length ≤ c0_1) (hr0_2 : Kd.C k41 w A0_2 l0_2.length l0_2) (hc0_2 : l0_2.length ≤ c0_2) (hr0_3 : Kd.C (Kd.int .i64) w A0_3 l0_3.length l0_3) (hc0_3 : l0_3.length ≤ c0_3) (h : spec_ClientOver.f k a0_0 l0_1 l0_2 l0_3 = some (r1, r2, r3, r4)) :
  Calls Try.prog 19 #[.agg #[.int .i64 a0_0, .slice A0_1 l0_1.length c0_1, .slice A0_2 l0_2.length c0_2, .slice A0_3 l0_3.length c0_3]] w fun e w' => ∃ v1_ v2_ v3_ : Value, e = .returned (.agg #[.int .i64 r1, v1_, v2_, v3_]) ∧ Kd.R (Kd.int .i64) 3 w' w.heap.size (fun k_ => some k_ ≠ (v3_ : Value).ownBlock) v1_ r2 ∧ Kd.S k41 41 w' w.heap.size (fun _ => True) v2_ r3 ∧ Kd.R (Kd.int .i64) 3 w' w.heap.size (fun k_ => some k_ ≠ (v1_ : Value).ownBlock) v3_ r4 ∧ Below w.heap.size w w' := by
 have hu30 := Try.underlying30; have HR0_1 := Aside0.mk hr0_1; have HC0_1 := Aside0.mk hc0_1; clear hr0_1 hc0_1; have HR0_2 := Aside0.mk hr0_2; have HC0_2 := Aside0.mk hc0_2; clear hr0_2 hc0_2; have HR0_3 := Aside0.mk hr0_3; have HC0_3 := Aside0.mk hc0_3; clear hr0_3 hc0_3
 have HB := Aside0.mk (Below.refl w.heap.size w)
 have H : ((spec_ClientOk.f k a0_0 l0_1 l0_2 l0_3).bind fun t283 => (if t283 = true then ((spec_l20Client.f k a0_0 l0_1 l0_2 l0_3).bind fun bt284 => (if bt284.2.2.2.length + l0_1.length < 17592186044416 then (some (bt284.1, (([] : List Int)), bt284.2.2.1, (bt284.2.2.2 ++ l0_1))) else (none))) else (some (0, ([] : List Int), ([] : List (S41)), ([] : List Int))))) = some (r1, r2, r3, r4) := h
 clear h
 replace H := Option.bind_eq_some_iff.mp H
 obtain ⟨t283, A20, H⟩ := H
 (try dsimp only at H)
 have A2 := Aside0.mk A20; clear A20
 by_cases c3 : t283 = true
 ·subst c3
  rw [if_pos rfl] at H
  replace H := Option.bind_eq_some_iff.mp H
  obtain ⟨⟨t284, t285, t288, t291⟩, A40, H⟩ := H
  (try dsimp only at H)
  have A4 := Aside0.mk A40; clear A40
  by_cases c5 : t291.length + l0_1.length < 17592186044416
  ·rw [if_pos c5] at H
   have LMc5 := Aside0.mk c5; clear c5
   obtain ⟨y295, hy295⟩ : ∃ y_ : List Int, y_ = (t291 ++ l0_1) := ⟨_, rfl⟩
   (first | replace H := sb_ hy295 H | rw [← hy295] at H)
   have Ny295 := Aside0.mk hy295; clear hy295
   obtain ⟨y298, hy298⟩ : ∃ y_ : List Int, y_ = (([] : List Int)) := ⟨_, rfl⟩
   (first | replace H := sb_ hy298 H | rw [← hy298] at H)
   have Ny298 := Aside0.mk hy298; clear hy298
   simp only [Option.some.injEq, Prod.mk.injEq] at H
   obtain ⟨rfl, rfl, rfl, rfl⟩ := H
   go_enter Try.func19, Try.ntmps19
   go_wp2_with (first | ((with_reducible refine gate_dst (N := 1) rfl ?_); refine box_ (N := 1) (cs := #[.int .i64 a0_0, .slice A0_1 l0_1.length c0_1, .slice A0_2 l0_2.length c0_2, .slice A0_3 l0_3.length c0_3]) (t := 30) (fun gb281 hg w6 hbox hb => ?_); have BK281 := Aside0.mk (hbox); have GW281 := ge_ hg HB; have GE281 := ge_ hg HB; replace HB := (bs_ HB hb); clear hb hbox hg) | ((with_reducible refine gate_dst (N := 2) rfl ?_); refine box_ (N := 2) (cs := #[.int .i64 0, .slice none 0 0, .slice none 0 0, .slice none 0 0]) (t := 30) (fun gb282 hg w7 hbox hb => ?_); have BK282 := Aside0.mk (hbox); have GW282 := ge_ hg HB; have GE282 := ge_ hg HB; replace HB := (bs_ HB hb); have NB281_282 := nl_ hg BK281; have NB282_281 := ng_ hg BK281; replace BK281 := (bbA_ BK281 hb); clear hb hbox hg; have hnb8 := NB281_282.out; have hnc8 := NB282_281.out; have Z9 := zz4 BK281) | ((with_reducible refine gate_callee (f := 12) rfl ?_); refine goesL_ (some 5) rfl rfl Try.func12 (by kernel_rfl) rfl #[.agg #[.int .i64 a0_0, .slice A0_1 l0_1.length c0_1, .slice A0_2 l0_2.length c0_2, .slice A0_3 l0_3.length c0_3]] rfl ar_ ?_; (with_reducible refine (spec_ClientOk.calls k a0_0 _ _ l0_1 _ _ l0_2 _ _ l0_3 true _ ?side1 ?side2 ?side3 ?side4 ?side5 ?side6 A2.out).mono ?_); (case side1 => exact kC_ (Kd.C_below HR0_1.out HB.out)); (case side2 => exact HC0_1.out); (case side3 => exact kC_ (Kd.C_below HR0_2.out HB.out)); (case side4 => exact HC0_2.out); (case side5 => exact kC_ (Kd.C_below HR0_3.out HB.out)); (case side6 => exact HC0_3.out); rintro e w10 ⟨rfl, hb⟩; refine ⟨_, rfl, ?_⟩; replace BK281 := (bbA_ BK281 hb); replace BK282 := (bbA_ BK282 hb); replace HB := (bs_ HB hb); (try clear hb); (try clear hb2); (try clear hk); (try clear hi); have Z11 := zz4 BK281) | ((with_reducible refine gate_callee (f := 56) rfl ?_); refine goesL_ (some 9) rfl rfl Try.func56 (by kernel_rfl) rfl #[.agg #[.int .i64 a0_0, .slice A0_1 l0_1.length c0_1, .slice A0_2 l0_2.length c0_2, .slice A0_3 l0_3.length c0_3]] rfl ar_ ?_; (with_reducible refine (spec_l20Client.calls k a0_0 _ _ l0_1 _ _ l0_2 _ _ l0_3 t284 t285 t288 t291 _ ?side1 ?side2 ?side3 ?side4 ?side5 ?side6 A4.out).mono ?_); (case side1 => exact kC_ (Kd.C_below HR0_1.out HB.out)); (case side2 => exact HC0_1.out); (case side3 => exact kC_ (Kd.C_below HR0_2.out HB.out)); (case side4 => exact HC0_2.out); (case side5 => exact kC_ (Kd.C_below HR0_3.out HB.out)); (case side6 => exact HC0_3.out); rintro e w12 ⟨v286, v289, v292, rfl, ho0, ho1, ho2, hb⟩; refine ⟨_, rfl, ?_⟩; have HO287 := Aside0.mk (Kd.R_lower ho0 (below_size (hbA_ HB.out))); have HO290 := Aside0.mk (Kd.S_lower ho1 (below_size (hbA_ HB.out))); have HO293 := Aside0.mk (Kd.R_lower ho2 (below_size (hbA_ HB.out))); replace BK281 := (bbA_ BK281 hb); replace BK282 := (bbA_ BK282 hb); replace HB := (bs_ HB hb); (try clear hb); (try clear hb2); (try clear hk); (try clear hi); (try clear ho0); (try clear ho1); (try clear ho2)) | ((with_reducible refine gate_dst (N := 3) rfl ?_); refine box_ (N := 3) (cs := #[.int .i64 0, .slice none 0 0, .slice none 0 0, .slice none 0 0]) (t := 30) (fun gb294 hg w13 hbox hb => ?_); replace HO287 := Aside0.mk (Kd.R_below (kR_ HO287.out) hb); replace HO290 := Aside0.mk (Kd.S_below (kS_ HO290.out) hb); replace HO293 := Aside0.mk (Kd.R_below (kR_ HO293.out) hb); have BK294 := Aside0.mk (hbox); have GW294 := ge_ hg HB; have GE294 := ge_ hg HB; replace HB := (bs_ HB hb); have NB281_294 := nl_ hg BK281; have NB294_281 := ng_ hg BK281; replace BK281 := (bbA_ BK281 hb); have NB282_294 := nl_ hg BK282; have NB294_282 := ng_ hg BK282; replace BK282 := (bbA_ BK282 hb); clear hb hbox hg; have hnb14 := NB294_281.out; have hnc14 := NB281_294.out; have hnb15 := NB294_282.out; have hnc15 := NB282_294.out; have Z16 := zz4 BK294; obtain ⟨Ao17, co17, eo17⟩ := Kd.R_slice HO287.out; subst eo17; obtain ⟨Ao18, co18, eo18⟩ := Kd.S_slice HO290.out; subst eo18; obtain ⟨Ao19, co19, eo19⟩ := Kd.R_slice HO293.out; subst eo19; have Z20 := zz4 BK281) | ((with_reducible refine gate_builtin (b := .append) (xs := #[.tmp 11, .tmp 13]) rfl ?_); at_builtin; refine Kd.R_append_rows (Kd.int .i64) (w0 := w) w.heap.size rfl (.tmp 11) (.tmp 13) 22 3 (.int .i64 0) 8 rfl Try.underlying22 info3 rfl (by decide) (by omega) (.slice Ao19 t291.length co19) t291 l0_1 _ _ _ (fun k_ => some k_ ≠ (.slice Ao17 t285.length co17 : Value).ownBlock) (fun _ => False) rfl rfl ?aO ?aR (fun _ _ h => h) (fun _ h => h.elim) ?aF ?aB ?aS ?aL ?_; (case aR => exact Kd.C_below HR0_1.out (hbA_ HB.out)); (case aB => exact (hbA_ HB.out)); (case aF => exact (fun k_ hk => Kd.fresh' (Kd.R_lt (by refine kR_ ?_; exact (rfm_ ((Kd.R_types HO287.out BK294.out (by decide))) (fun _ h_ => op1_ h_)))) k_ hk)); (case aO => exact (by refine kR_ ?_; exact rfm_ ((Kd.R_types HO293.out BK294.out (by decide))) (fun _ hk => hk.1))); (case aS => exact (below_size (hbA_ HB.out))); (case aL => have := LMc5.out; omega); intro v296 w21 ho hb hg hat; rw [← Ny295.out] at ho; replace BK281 := Aside0.mk (blk_grown (g := gb281) (o := .cells #[.int .i64 a0_0, .slice A0_1 l0_1.length c0_1, .slice A0_2 l0_2.length c0_2, .slice A0_3 l0_3.length c0_3] 30 (0, 0)) (by exact kf_ BK281.out) hg (Kd.R_ne HO293.out BK281.out (by decide))); replace BK282 := Aside0.mk (blk_grown (g := gb282) (o := .cells #[.int .i64 0, .slice none 0 0, .slice none 0 0, .slice none 0 0] 30 (0, 0)) (by exact kf_ BK282.out) hg (Kd.R_ne HO293.out BK282.out (by decide))); replace HO287 := Aside0.mk (Kd.R_after (ok := (fun _ => True)) (by refine kR_ ?_; exact rfm_ ((Kd.R_types HO287.out BK294.out (by decide))) (fun _ hk => ⟨trivial, hk.1⟩)) hg hat); replace HO290 := Aside0.mk (Kd.S_over' (by refine kS_ ?_; exact (Kd.S_mono (Kd.S_far (p := ⟨gb294, 3, none⟩) (Kd.S_far (p := ⟨gb294, 2, none⟩) (Kd.S_far (p := ⟨gb294, 1, none⟩) (Kd.S_far (p := ⟨gb294, 0, none⟩) (Kd.S_types HO290.out BK294.out (by decide)) (fun _ hk => hk.2) (.int .i64 t284)) (fun _ hk => hk.2) (.slice Ao17 t285.length co17)) (fun _ hk => hk.2) (.slice Ao18 t288.length co18)) (fun _ hk => hk.2) (.slice Ao19 t291.length co19)) (fun _ h_ => op1_ h_))) (Kd.R_typed (by refine kR_ ?_; exact (rfm_ ((Kd.R_types HO293.out BK294.out (by decide))) (fun _ h_ => op1_ h_)))) (by decide) hg); replace BK294 := Aside0.mk (blk_grown (g := gb294) (o := .cells #[.int .i64 t284, .slice Ao17 t285.length co17, .slice Ao18 t288.length co18, .slice Ao19 t291.length co19] 30 (0, 0)) (by refine kb_ ?_; refine pz4 (cs := #[.int .i64 0, .slice none 0 0, .slice none 0 0, .slice none 0 0]) ?_; refine kb_ ?_; exact BK294.out) hg (Kd.R_ne HO293.out BK294.out (by decide))); replace HB := Aside0.mk (hb); have HO297 := Aside0.mk (ho); clear HO293; clear ho hb hg hat; obtain ⟨Ao22, co22, eo22⟩ := Kd.R_slice HO297.out; subst eo22; have Z23 := zz4 BK294) | ((with_reducible refine gate_dst (N := 16) rfl ?_); refine Kd.R_lit (Kd.int .i64) _ 3 ?hg (N := 16) ?hd (xs := ([] : List Int)) (inner := []) (ok := fun _ => True) (okp := fun _ => True) ?hr ?hp (fun _ hk => hk) trivial (Below.refl _ _) (Nat.le_refl _) (by simp) ?_; (case hd => rfl); (case hg => rfl); (case hr => first | (go_simp; done) | (go_simp; rfl)); (case hp => exact (Reps.none _ _)); intro v299 w24 ho25 hb hg_ hnew_; clear hg_ hnew_; (first | rw [← Ny298.out] at ho25 | (simp only [Int.reduceToNat] at ho25; rw [← Ny298.out] at ho25)); replace HO290 := Aside0.mk (Kd.S_below (by refine kS_ ?_; exact (Kd.S_mono (Kd.S_far (p := ⟨gb294, 3, none⟩) (Kd.S_types HO290.out BK294.out (by decide)) (fun _ hk => hk.2) (.slice Ao22 y295.length co22)) (fun _ h_ => op1_ h_))) hb); have HO300 := Aside0.mk (Kd.R_lower (Kd.R_new' (Kd.R_new' ho25 (Kd.R_lt (by refine kR_ ?_; exact (Kd.R_mono (Kd.R_f gb294 3 (.slice Ao22 y295.length co22) (Kd.R_types HO287.out BK294.out (by decide))) (fun _ h_ => op1_ h_))))) (Kd.R_lt (by refine kR_ ?_; exact (Kd.R_mono (Kd.R_f gb294 3 (.slice Ao22 y295.length co22) (Kd.R_types HO297.out BK294.out (by decide))) (fun _ h_ => op1_ h_))))) (below_size (hbA_ HB.out))); replace HO287 := Aside0.mk (Kd.R_elder' (by refine kR_ ?_; exact (Kd.R_mono (Kd.R_f gb294 3 (.slice Ao22 y295.length co22) (Kd.R_types HO287.out BK294.out (by decide))) (fun _ h_ => op1_ h_))) (Kd.R_base ho25) hb); replace HO297 := Aside0.mk (Kd.R_elder' (by refine kR_ ?_; exact (Kd.R_mono (Kd.R_f gb294 3 (.slice Ao22 y295.length co22) (Kd.R_types HO297.out BK294.out (by decide))) (fun _ h_ => op1_ h_))) (Kd.R_base ho25) hb); replace BK281 := Aside0.mk (blk_below (g := gb281) (o := .cells #[.int .i64 a0_0, .slice A0_1 l0_1.length c0_1, .slice A0_2 l0_2.length c0_2, .slice A0_3 l0_3.length c0_3] 30 (0, 0)) (by exact kf_ BK281.out) hb); replace BK282 := Aside0.mk (blk_below (g := gb282) (o := .cells #[.int .i64 0, .slice none 0 0, .slice none 0 0, .slice none 0 0] 30 (0, 0)) (by exact kf_ BK282.out) hb); replace BK294 := Aside0.mk (blk_below (g := gb294) (o := .cells #[.int .i64 t284, .slice Ao17 t285.length co17, .slice Ao18 t288.length co18, .slice Ao22 y295.length co22] 30 (0, 0)) (by refine kb_ ?_; refine blk_put (cs := #[.int .i64 t284, .slice Ao17 t285.length co17, .slice Ao18 t288.length co18, .slice Ao19 t291.length co19]) ?_ 3 _ rfl; refine kb_ ?_; exact BK294.out) hb); replace HB := (bs_ HB hb); clear hb ho25; obtain ⟨Ao26, co26, eo26⟩ := Kd.R_slice HO300.out; subst eo26; have Z27 := zz4 BK294; have Z28 := zz4 BK282))
   refine bodyPost_ret (results_cell_row rfl _ _ gb282 30 #[.int .i64 t284, .slice Ao26 y298.length co26, .slice Ao18 t288.length co18, .slice Ao22 y295.length co22] (0, 0) _ rfl (by refine kb_ ?_; refine pz4 (cs := #[.int .i64 0, .slice none 0 0, .slice none 0 0, .slice none 0 0]) ?_; exact kf_ BK282.out) Try.underlying30 rfl (by kernel_rfl)) rfl ?_
   exact ⟨_, _, _, by first | rfl | (simp [errW_none, errW_some] <;> rfl) | (simp [*, errW_none, errW_some] <;> rfl), by refine kR_ ?_; exact rfm_ ((Kd.R_far (p := ⟨gb294, 1, none⟩) (Kd.R_types (Kd.R_types HO300.out BK294.out (by decide)) BK282.out (by decide)) (fun _ hk => hk.1.2) (.slice Ao26 y298.length co26))) (fun _ hk => hk.1.1.2), by refine kS_ ?_; exact Kd.S_mono (Kd.S_far (p := ⟨gb282, 3, none⟩) (Kd.S_far (p := ⟨gb282, 2, none⟩) (Kd.S_far (p := ⟨gb282, 1, none⟩) (Kd.S_far (p := ⟨gb282, 0, none⟩) (Kd.S_far (p := ⟨gb294, 1, none⟩) (Kd.S_types (Kd.S_types HO290.out BK294.out (by decide)) BK282.out (by decide)) (fun _ hk => hk.1.2) (.slice Ao26 y298.length co26)) (fun _ hk => hk.2) (.int .i64 t284)) (fun _ hk => hk.2) (.slice Ao26 y298.length co26)) (fun _ hk => hk.2) (.slice Ao18 t288.length co18)) (fun _ hk => hk.2) (.slice Ao22 y295.length co22)) (fun _ hk => trivial), by refine kR_ ?_; exact rfm_ ((Kd.R_far (p := ⟨gb294, 1, none⟩) (Kd.R_types (Kd.R_types HO297.out BK294.out (by decide)) BK282.out (by decide)) (fun _ hk => hk.1.2) (.slice Ao26 y298.length co26))) (fun _ hk => hk.1.1.2), hbA_ HB.out⟩
  ·rw [if_neg c5] at H
   exact absurd H (by simp)
 ·replace c3 := Bool.eq_false_iff.mpr c3
  subst c3
  rw [if_neg (show ¬ (false = true) by decide)] at H
  simp only [Option.some.injEq, Prod.mk.injEq] at H
  obtain ⟨rfl, rfl, rfl, rfl⟩ := H
  go_enter Try.func19, Try.ntmps19
  go_wp2_with (first | ((with_reducible refine gate_dst (N := 1) rfl ?_); refine box_ (N := 1) (cs := #[.int .i64 a0_0, .slice A0_1 l0_1.length c0_1, .slice A0_2 l0_2.length c0_2, .slice A0_3 l0_3.length c0_3]) (t := 30) (fun gb281 hg w29 hbox hb => ?_); have BK281 := Aside0.mk (hbox); have GW281 := ge_ hg HB; have GE281 := ge_ hg HB; replace HB := (bs_ HB hb); clear hb hbox hg) | ((with_reducible refine gate_dst (N := 2) rfl ?_); refine box_ (N := 2) (cs := #[.int .i64 0, .slice none 0 0, .slice none 0 0, .slice none 0 0]) (t := 30) (fun gb282 hg w30 hbox hb => ?_); have BK282 := Aside0.mk (hbox); have GW282 := ge_ hg HB; have GE282 := ge_ hg HB; replace HB := (bs_ HB hb); have NB281_282 := nl_ hg BK281; have NB282_281 := ng_ hg BK281; replace BK281 := (bbA_ BK281 hb); clear hb hbox hg; have hnb31 := NB281_282.out; have hnc31 := NB282_281.out; have Z32 := zz4 BK281) | ((with_reducible refine gate_callee (f := 12) rfl ?_); refine goesL_ (some 5) rfl rfl Try.func12 (by kernel_rfl) rfl #[.agg #[.int .i64 a0_0, .slice A0_1 l0_1.length c0_1, .slice A0_2 l0_2.length c0_2, .slice A0_3 l0_3.length c0_3]] rfl ar_ ?_; (with_reducible refine (spec_ClientOk.calls k a0_0 _ _ l0_1 _ _ l0_2 _ _ l0_3 false _ ?side1 ?side2 ?side3 ?side4 ?side5 ?side6 A2.out).mono ?_); (case side1 => exact kC_ (Kd.C_below HR0_1.out HB.out)); (case side2 => exact HC0_1.out); (case side3 => exact kC_ (Kd.C_below HR0_2.out HB.out)); (case side4 => exact HC0_2.out); (case side5 => exact kC_ (Kd.C_below HR0_3.out HB.out)); (case side6 => exact HC0_3.out); rintro e w33 ⟨rfl, hb⟩; refine ⟨_, rfl, ?_⟩; replace BK281 := (bbA_ BK281 hb); replace BK282 := (bbA_ BK282 hb); replace HB := (bs_ HB hb); (try clear hb); (try clear hb2); (try clear hk); (try clear hi); have Z34 := zz4 BK282))
  refine bodyPost_ret (results_cell_row rfl _ _ gb282 30 #[.int .i64 0, .slice none 0 0, .slice none 0 0, .slice none 0 0] (0, 0) _ rfl (by refine kb_ ?_; refine pz4 (cs := #[.int .i64 0, .slice none 0 0, .slice none 0 0, .slice none 0 0]) ?_; refine kb_ ?_; exact BK282.out) Try.underlying30 rfl (by kernel_rfl)) rfl ?_
  exact ⟨_, _, _, by first | rfl | (simp [errW_none, errW_some] <;> rfl) | (simp [*, errW_none, errW_some] <;> rfl), by first | exact Kd.R_nil _ _ _ _ _ | exact Kd.N_nil _ _ _ _ _ | exact Kd.V_nil _ _ _ _ _ | exact Kd.Q_nil _ _ _ _ _ | exact Kd.S_nil _ _ _ _ _, by first | exact Kd.S_nil _ _ _ _ _ | exact Kd.N_nil _ _ _ _ _ | exact Kd.V_nil _ _ _ _ _ | exact Kd.Q_nil _ _ _ _ _ | exact Kd.R_nil _ _ _ _ _, by first | exact Kd.R_nil _ _ _ _ _ | exact Kd.N_nil _ _ _ _ _ | exact Kd.V_nil _ _ _ _ _ | exact Kd.Q_nil _ _ _ _ _ | exact Kd.S_nil _ _ _ _ _, hbA_ HB.out⟩
def laws_markByteS.l0 : Nat → List Int → Int → Int → Option (Int × List Int)
 | 0, _, _, _ => none
 | k + 1, x0, x1, x5 => if x5 < (x0.length : Int) then (if 0 ≤ x5 then (laws_markByteS.l0 k (x0.set (x5 : Int).toNat ((x1) % 256)) (wrap64 (x1 + 1)) (wrap64 (x5 + 1))) else (none)) else (some (x1, x0))
def laws_markByteS.f (k : Nat) (l0 : List Int) (a1 : Int) : Option (Int × List Int) := laws_markByteS.l0 k l0 a1 0
theorem laws_markByteS.mono_l : ∀ k, (∀ y0 y1 y2, LeO (laws_markByteS.l0 k y0 y1 y2) (laws_markByteS.l0 (k + 1) y0 y1 y2))
 | 0 => fun _ _ _ r h => by simp [laws_markByteS.l0] at h
 | k + 1 => by
  have ih0 := laws_markByteS.mono_l k
  ·intro y0 y1 y2
   unfold laws_markByteS.l0
   repeat' first | (with_reducible first | apply ih0 | exact LeO.refl _ | exact LeO.none _ | refine LeO.ite ?_ ?_ | refine LeO.bind ?_ fun _ => ?_) | apply ih0 | exact LeO.none _ | refine LeO.ite ?_ ?_ | refine LeO.bind ?_ fun _ => ?_
theorem laws_markByteS.mono : ∀ a0 a1 k, LeO (laws_markByteS.f k a0 a1) (laws_markByteS.f (k + 1) a0 a1) := by
 intro a0 a1 k
 have ih0 := laws_markByteS.mono_l k
 unfold laws_markByteS.f
 repeat' first | (with_reducible first | apply ih0 | exact LeO.refl _ | exact LeO.none _ | refine LeO.ite ?_ ?_ | refine LeO.bind ?_ fun _ => ?_) | apply ih0 | exact LeO.none _ | refine LeO.ite ?_ ?_ | refine LeO.bind ?_ fun _ => ?_
set_option maxHeartbeats 8000000 in
set_option maxRecDepth 100000 in
theorem laws_markByteS.calls (k : Nat) (P0_ : Nat → Prop) (u9000_ : Value) (l0 : List Int) (a1 : Int) (r1 : Int) (r2 : List Int) (w0 w : World) (hB : Below w0.heap.size w0 w) (ho0 : Kd.R (Kd.int .u8) 5 w w0.heap.size P0_ u9000_ l0) (h : laws_markByteS.f k l0 a1 = some (r1, r2)) :
  Calls Try.prog 34 #[u9000_, .int .i64 a1] w fun e w' => e = .returned (.int .i64 r1) ∧ Kd.R (Kd.int .u8) 5 w' w0.heap.size (fun k_ => (P0_ k_ ∨ w.heap.size ≤ k_)) u9000_ r2 ∧ Below w0.heap.size w0 w' ∧ Kept w w' (fun k_ => P0_ k_) := by
 have HO0 := Aside0.mk (show Kd.R (Kd.int .u8) 5 w w0.heap.size (fun k_ => (P0_ k_ ∨ w.heap.size ≤ k_)) u9000_ l0 from Kd.R_mono ho0 (fun k_ hk => (.inl hk)))
 have HK := Aside0.mk (Kept.refl w (fun k_ => P0_ k_))
 have HW0 := Aside0.mk hB.size; have HB := Aside0.mk hB; clear hB
 have H : (laws_markByteS.l0 k l0 a1 0) = some (r1, r2) := h
 clear h
 have H' := Aside0.mk H
 clear H
 go_enter Try.func34, Try.ntmps34
 go_wp2
 go_loopg [1, 5] k (fun kq v1 v5 w' => ∃ (x0_1 : List Int) (x1_1 : Int) (x5_1 : Int), v1 = .int .i64 x1_1 ∧ v5 = .int .i64 x5_1 ∧ Aside0 (laws_markByteS.l0 kq x0_1 x1_1 x5_1 = some (r1, r2)) ∧ Aside0 (kq ≤ k) ∧ Aside0 (Kd.R (Kd.int .u8) 5 w' w0.heap.size (fun k_ => (P0_ k_ ∨ w.heap.size ≤ k_)) u9000_ x0_1) ∧ Aside0 (Kept w w' (fun k_ => P0_ k_)) ∧ Aside0 (Below w0.heap.size w0 w'))
 case atStart => exact ⟨(l0), (a1), (0), (by first | rfl | (simp; done) | (simp [*]; done)), (by first | rfl | (simp; done) | (simp [*]; done)), H', ⟨Nat.le_refl _⟩, ⟨kR_ HO0.out⟩, ⟨by repeat (first | (with_reducible first | exact HK.out | apply Kept.alloc | apply Kept.drewN | apply Kept.drew) | exact HK.out)⟩, ⟨hbA_ HB.out⟩⟩
 case round =>
  clear H'; (try clear p2)
  obtain ⟨x0_1, x1_1, x5_1, rfl, rfl, HA, HK1, HO_0, HK, HB⟩ := hrel
  cases gk with
  | zero => exact absurd HA.out (by simp [laws_markByteS.l0])
  | succ k1 =>
   have H := HA.out; clear HA
   simp only [laws_markByteS.l0] at H
   by_cases c3 : x5_1 < (x0_1.length : Int)
   ·rw [if_pos c3] at H
    have c3b0 : decide (x5_1 < (x0_1.length : Int)) = true := decide_eq_true c3
    clear c3
    by_cases c4 : 0 ≤ x5_1
    ·rw [if_pos c4] at H
     have c4b0 : decide (0 ≤ x5_1) = true := decide_eq_true c4
     clear c4
     obtain ⟨y301, hy301⟩ : ∃ y_ : List Int, y_ = (x0_1.set (x5_1 : Int).toNat ((x1_1) % 256)) := ⟨_, rfl⟩
     (first | replace H := sb_ hy301 H | rw [← hy301] at H)
     have Ny301 := Aside0.mk hy301; clear hy301
     have H' := Aside0.mk H
     clear H
     obtain ⟨Ao6, co6, eo6⟩ := Kd.R_slice HO_0.out
     subst eo6
     have p5 : 0 ≤ (x5_1 : Int) := of_decide_eq_true (by first | (with_reducible assumption) | assumption)
     have q5 : (x5_1 : Int) < ((x0_1.length : Int) : Int) := of_decide_eq_true (by first | (with_reducible assumption) | assumption)
     obtain ⟨go5, co5, eo5, gb5, gl5, cl5, HG5⟩ := Kd.R_form HO_0.out (by omega)
     (first | cases eo5 | (injection eo5 with ea_ en_ ec_; (first | subst ea_ | (injection ea_ with ea_; subst ea_)); subst ec_; clear en_))
     have GB5 := Aside0.mk gb5; have GG5 := Aside0.mk HG5; clear gb5 gl5 HG5
     have HMgo5 := Aside0.mk (show (P0_ go5 ∨ w.heap.size ≤ go5) from (HO_0.out.1 _ rfl))
     obtain ⟨hx5_0, hf5_0⟩ := Kd.R_celln 0 HO_0.out (x5_1 : Int) p5 q5
     replace p5 := eq_true p5
     replace q5 := eq_true q5
     have HP7 := Kd.R_putg HO_0.out (x5_1 : Int) ((x1_1) % 256)
     go_wp2_with (first | ((with_reducible refine gate_store (t := 5) (p := 16) rfl ?_); refine store_event (t := 5) (p := 16) (v := ?vo_w8) (w1 := (wr.setCell ⟨go5, (x5_1 : Int).toNat, none⟩ (.int .u8 ((x1_1) % 256)))) ?hg ?ho ?hn ?hr ?_; (case ho => rfl); (case hg => rfl); (case hn => rfl); (case hr => first | (go_simp; done) | (go_simp; rfl)); intro w8 hw; have hg : wr.grownBy w8 (some go5) := (by rw [hw]; exact HP7.2); have hp_ : Kd.R (Kd.int .u8) 5 w8 w0.heap.size (fun k_ => (P0_ k_ ∨ w.heap.size ≤ k_)) (.slice (some ⟨go5, 0, none⟩) x0_1.length co6) y301 := (by rw [hw, Ny301.out]; exact HP7.1); clear HP7; replace HB := Aside0.mk ((by rw [hw]; exact below_set (HB.out) GB5.out : Below w0.heap.size w0 w8)); replace HK := Aside0.mk (Kept.of_grown (S := (fun k_ => P0_ k_)) hg (by repeat (first | (with_reducible first | exact HK.out | apply Kept.alloc | apply Kept.drewN | apply Kept.drew) | exact HK.out)) (fun k_ e_ => (HO_0.out.1 k_ e_))); replace HO_0 := Aside0.mk (hp_); clear hg hw hp_))
     go_roundg k1
     case measure => have := HK1.out; omega
     case rel => exact ⟨(y301), (wrap64 (x1_1 + 1)), (wrap64 (x5_1 + 1)), (by first | rfl | (simp; done) | (simp [*]; done)), (by first | rfl | (simp; done) | (simp [*]; done)), H', ⟨by have := HK1.out; omega⟩, ⟨kR_ HO_0.out⟩, ⟨by repeat (first | (with_reducible first | exact HK.out | apply Kept.alloc | apply Kept.drewN | apply Kept.drew) | exact HK.out)⟩, ⟨hbA_ HB.out⟩⟩
    ·rw [if_neg c4] at H
     exact absurd H (by simp)
   ·rw [if_neg c3] at H
    have c3b0 : decide (x5_1 < (x0_1.length : Int)) = false := decide_eq_false c3
    clear c3
    simp only [Option.some.injEq, Prod.mk.injEq] at H
    obtain ⟨rfl, rfl⟩ := H
    obtain ⟨Ao9, co9, eo9⟩ := Kd.R_slice HO_0.out
    subst eo9
    go_wp2
    go_ret
    exact ⟨by first | rfl | (simp [errW_none, errW_some] <;> rfl) | (simp [*, errW_none, errW_some] <;> rfl), kR_ HO_0.out, hbA_ HB.out, by repeat (first | (with_reducible first | exact HK.out | apply Kept.alloc | apply Kept.drewN | apply Kept.drew) | exact HK.out)⟩
end Go.Proofs.Ytegchbdjbefdbaa.PFnExactClientOver
