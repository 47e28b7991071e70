/- Printed by wip/xp/xprint.sh out of the translation, for this claim: what each function answers, as a plain function, and that the machine does just that. No condition. -/
import Derived.Test.YtegchbdjbefdbaaPFnClientOverx0
import Derived.Test.YtegchbdjbefdbaaPFnClientOverx2
namespace Go.Proofs.Ytegchbdjbefdbaa.PFnClientOver
open Go.RowKit Go.Proofs.YtegchbdjbefdbaaW.PrintWords Go.Proofs.YtegchbdjbefdbaaW.PrintLast Go.Proofs.YtegchbdjbefdbaaW.PrintMore
attribute [local go_sem] max2_int min2_int max_two min_two max_three min_three max_four min_four   -- for this text's walks alone
set_option linter.unusedVariables false
set_option linter.unusedSimpArgs false
def spec_l20Client.l0 : Nat → Int → Int → List Int → List (S41) → List Int → Int → List Int → List (S41) → List Int → Option (Int × List Int × (List (S41)) × List Int)
 | 0, _, _, _, _, _, _, _, _, _ => none
 | k + 1, x4, x150000, x150001, x150002, x150003, x164000, x164001, x164002, x164003 => if x4 < (x150002.length : Int) then (if 0 ≤ x4 then ((some (([] : List Int) : List Int)).bind fun y165 => (if y165.length + ((rd_T41 x150002 x4).f1).length < 140737488355328 then (if x164002.length < 4398046511104 then (spec_l20Client.l0 k (wrap64 (x4 + 1)) x150000 x150001 x150002 x150003 x164000 x164001 (x164002 ++ [(⟨(rd_T41 x150002 x4).f0, (y165 ++ ((rd_T41 x150002 x4).f1))⟩ : S41)]) x164003) else (none)) else (none))) else (none)) else (some (x164000, x164001, x164002, x164003))
def spec_l20Client.f (k : Nat) (a0_0 : Int) (l0_1 : List Int) (l0_2 : List (S41)) (l0_3 : List Int) : Option (Int × List Int × (List (S41)) × List Int) := (some (([] : List Int) : List Int)).bind fun y151 => (if y151.length + l0_1.length < 17592186044416 then ((some (([] : List Int) : List Int)).bind fun y157 => (if y157.length + l0_3.length < 17592186044416 then (spec_l20Client.l0 k 0 a0_0 l0_1 l0_2 l0_3 a0_0 (y151 ++ l0_1) ([] : List (S41)) (y157 ++ l0_3)) else (none))) else (none))
theorem spec_l20Client.mono_l : ∀ k, (∀ y0 y1 y2 y3 y4 y5 y6 y7 y8, LeO (spec_l20Client.l0 k y0 y1 y2 y3 y4 y5 y6 y7 y8) (spec_l20Client.l0 (k + 1) y0 y1 y2 y3 y4 y5 y6 y7 y8))
 | 0 => fun _ _ _ _ _ _ _ _ _ r h => by simp [spec_l20Client.l0] at h
 | k + 1 => by
  have ih0 := spec_l20Client.mono_l k
  ·intro y0 y1 y2 y3 y4 y5 y6 y7 y8
   unfold spec_l20Client.l0
   repeat' first | (with_reducible first | apply ih0 | exact LeO.refl _ | exact LeO.none _ | refine LeO.ite ?_ ?_ | refine LeO.bind ?_ fun _ => ?_) | apply ih0 | exact LeO.none _ | refine LeO.ite ?_ ?_ | refine LeO.bind ?_ fun _ => ?_
theorem spec_l20Client.mono : ∀ a0 a1 a2 a3 k, LeO (spec_l20Client.f k a0 a1 a2 a3) (spec_l20Client.f (k + 1) a0 a1 a2 a3) := by
 intro a0 a1 a2 a3 k
 have ih0 := spec_l20Client.mono_l k
 unfold spec_l20Client.f
 repeat' first | (with_reducible first | apply ih0 | exact LeO.refl _ | exact LeO.none _ | refine LeO.ite ?_ ?_ | refine LeO.bind ?_ fun _ => ?_) | apply ih0 | exact LeO.none _ | refine LeO.ite ?_ ?_ | refine LeO.bind ?_ fun _ => ?_
def spec_l20Client.T1 : Bool × List (List Nat × List Nat) := (true, [([], []), ([0], [0]), ([], []), ([], []), ([3], [3]), ([2, 4], [2, 4]), ([], []), ([], []), ([7], [7]), ([6, 8, 5], [6, 8]), ([1, 5, 9], [1, 5, 9]), ([], []), ([11, 10, 9, 0, 1, 2, 3, 4, 5, 6, 7, 8, 9, 10, 11], [10, 11])])
def spec_l20Client.B1 : List Nat := [0, 1, 0, 0, 8, 28, 0, 0, 128, 508, 1023, 0, 4095]
theorem spec_l20Client.tab1 : rtab .any (opsOf Try.f56 1) = spec_l20Client.T1 := by kernel_rfl
theorem spec_l20Client.bits1 : waitsOk spec_l20Client.T1.2 spec_l20Client.B1 = true := by kernel_rfl
def spec_l20Client.T5 : Bool × List (List Nat × List Nat) := (true, [([], []), ([0], [0]), ([], []), ([2], [2]), ([], []), ([3, 4], [3, 4]), ([5], [5]), ([6], [6]), ([], []), ([], []), ([9], [9]), ([], []), ([10, 11], [10, 11]), ([12], [12]), ([13], [13]), ([8, 14], [8, 14]), ([7, 15], [7, 15]), ([16], [16]), ([1, 17, 15], [1, 17]), ([0, 1, 2, 3, 4, 5, 6, 7, 8, 9, 10, 11, 12, 13, 14, 15, 16, 17, 18], []), ([19, 18, 18, 0, 1, 2, 3, 4, 5, 6, 7, 8, 9, 10, 11, 12, 13, 14, 15, 16, 17, 18], [18, 19])])
def spec_l20Client.B5 : List Nat := [0, 1, 0, 4, 0, 28, 60, 124, 0, 0, 512, 0, 3584, 7680, 15872, 32512, 65532, 131068, 262143, 524287, 1048575]
theorem spec_l20Client.tab5 : rtab .any (opsOf Try.f56 5) = spec_l20Client.T5 := by kernel_rfl
theorem spec_l20Client.bits5 : waitsOk spec_l20Client.T5.2 spec_l20Client.B5 = true := by kernel_rfl
set_option maxHeartbeats 8000000 in
set_option maxRecDepth 100000 in
theorem spec_l20Client.calls (k : Nat) (a0_0 : Int) (A0_1 : Option Addr) (c0_1 : Nat) (l0_1 : List Int) (A0_2 : Option Addr) (c0_2 : Nat) (l0_2 : List (S41)) (A0_3 : Option Addr) (c0_3 : Nat) (l0_3 : List Int) (r1 : Int) (r2 : List Int) (r3 : List (S41)) (r4 : List Int) (w : World) (hr0_1 : Kd.C (Kd.int .i64) w A0_1 l0_1.length l0_1) (hc0_1 : l0_1.length ≤ c0_1) (hr0_2 : Kd.C k41 w A0_2 l0_2.length l0_2) (hc0_2 : l0_2.length ≤ c0_2) (hr0_3 : Kd.C (Kd.int .i64) w A0_3 l0_3.length l0_3) (hc0_3 : l0_3.length ≤ c0_3) (h : spec_l20Client.f k a0_0 l0_1 l0_2 l0_3 = some (r1, r2, r3, r4)) :
  Calls Try.prog 56 #[.agg #[.int .i64 a0_0, .slice A0_1 l0_1.length c0_1, .slice A0_2 l0_2.length c0_2, .slice A0_3 l0_3.length c0_3]] w fun e w' => ∃ v1_ v2_ v3_ : Value, e = .returned (.agg #[.int .i64 r1, v1_, v2_, v3_]) ∧ Kd.R (Kd.int .i64) 3 w' w.heap.size (fun k_ => some k_ ≠ (v3_ : Value).ownBlock) v1_ r2 ∧ Kd.S k41 41 w' w.heap.size (fun _ => True) v2_ r3 ∧ Kd.R (Kd.int .i64) 3 w' w.heap.size (fun k_ => some k_ ≠ (v1_ : Value).ownBlock) v3_ r4 ∧ Below w.heap.size w w' := by
 have hu30 := Try.underlying30; have hu41 := Try.underlying41; have HR0_1 := Aside0.mk hr0_1; have HC0_1 := Aside0.mk hc0_1; clear hr0_1 hc0_1; have HR0_2 := Aside0.mk hr0_2; have HC0_2 := Aside0.mk hc0_2; clear hr0_2 hc0_2; have HR0_3 := Aside0.mk hr0_3; have HC0_3 := Aside0.mk hc0_3; clear hr0_3 hc0_3
 have HB := Aside0.mk (Below.refl w.heap.size w)
 have H : ((some (([] : List Int) : List Int)).bind fun y151 => (if y151.length + l0_1.length < 17592186044416 then ((some (([] : List Int) : List Int)).bind fun y157 => (if y157.length + l0_3.length < 17592186044416 then (spec_l20Client.l0 k 0 a0_0 l0_1 l0_2 l0_3 a0_0 (y151 ++ l0_1) ([] : List (S41)) (y157 ++ l0_3)) else (none))) else (none))) = some (r1, r2, r3, r4) := h
 clear h
 obtain ⟨y151, hy151⟩ : ∃ y_ : List Int, y_ = (([] : List Int)) := ⟨_, rfl⟩
 (first | replace H := sb_ hy151 H | rw [← hy151] at H)
 have Ny151 := Aside0.mk hy151; clear hy151
 by_cases c2 : y151.length + l0_1.length < 17592186044416
 ·rw [if_pos c2] at H
  have LMc2 := Aside0.mk c2; clear c2
  obtain ⟨y154, hy154⟩ : ∃ y_ : List Int, y_ = (y151 ++ l0_1) := ⟨_, rfl⟩
  (first | replace H := sb_ hy154 H | rw [← hy154] at H)
  have Ny154 := Aside0.mk hy154; clear hy154
  obtain ⟨y157, hy157⟩ : ∃ y_ : List Int, y_ = (([] : List Int)) := ⟨_, rfl⟩
  (first | replace H := sb_ hy157 H | rw [← hy157] at H)
  have Ny157 := Aside0.mk hy157; clear hy157
  by_cases c3 : y157.length + l0_3.length < 17592186044416
  ·rw [if_pos c3] at H
   have LMc3 := Aside0.mk c3; clear c3
   obtain ⟨y160, hy160⟩ : ∃ y_ : List Int, y_ = (y157 ++ l0_3) := ⟨_, rfl⟩
   (first | replace H := sb_ hy160 H | rw [← hy160] at H)
   have Ny160 := Aside0.mk hy160; clear hy160
   have H' := Aside0.mk H
   clear H
   go_enter Try.func56, Try.ntmps56
   try go_wp2_with (first | ((with_reducible refine gate_dst (N := 1) rfl ?_); refine box_ (N := 1) (cs := #[.int .i64 a0_0, .slice A0_1 l0_1.length c0_1, .slice A0_2 l0_2.length c0_2, .slice A0_3 l0_3.length c0_3]) (t := 30) (fun gb149 hg w4 hbox hb => ?_); have BK149 := Aside0.mk (hbox); have GW149 := ge_ hg HB; have GE149 := ge_ hg HB; replace HB := (bs_ HB hb); clear hb hbox hg) | ((with_reducible refine gate_dst (N := 2) rfl ?_); refine box_ (N := 2) (cs := #[.int .i64 0, .slice none 0 0, .slice none 0 0, .slice none 0 0]) (t := 30) (fun gb150 hg w5 hbox hb => ?_); have BK150 := Aside0.mk (hbox); have GW150 := ge_ hg HB; have GE150 := ge_ hg HB; replace HB := (bs_ HB hb); have NB149_150 := nl_ hg BK149; have NB150_149 := ng_ hg BK149; replace BK149 := (bbA_ BK149 hb); clear hb hbox hg))
   replace BK149 := Aside0.mk (blk_drew BK149.out); replace BK150 := Aside0.mk (blk_drew BK150.out); replace HB := (bd_ HB)
   refine start_ (n := 13) (S := fun w' => w'.cell? ⟨gb149, 0, none⟩ = some (.int .i64 a0_0) ∧ w'.cell? ⟨gb149, 1, none⟩ = some (.slice A0_1 l0_1.length c0_1) ∧ w'.cell? ⟨gb149, 2, none⟩ = some (.slice A0_2 l0_2.length c0_2) ∧ w'.cell? ⟨gb149, 3, none⟩ = some (.slice A0_3 l0_3.length c0_3)) (ds := []) #[false, false, false, false, false, false, false, false, false, false, false, false, false] (by kernel_rfl) rfl rfl (cz4 BK149.out) (fun hHeld => ?_); refine with_tabW spec_l20Client.tab1 spec_l20Client.bits1 (fun HT_ HW_ => ?_)
   generalize w5.drew = w6 at BK149 BK150 HB hHeld ⊢
   refine pu_ (i := 0) (N := some 5) HT_ ?_; refine pu_ (i := 3) (N := some 8) HT_ ?_; refine pu_ (i := 7) (N := some 12) HT_ ?_; refine tk_ (i := 1) (N := some 6) HT_ HW_ hHeld ?_; refine tk_ (i := 4) (N := some 9) HT_ HW_ hHeld ?_; refine tk_ (i := 8) (N := some 13) HT_ HW_ hHeld ?_
   refine join_ (σ := Value × Value × Value × Value × Nat) 1 #[true, true, true, true, true, true, true, true, true, true, true, true, false] (fun s_ => [(7, s_.1), (10, s_.2.1), (11, s_.2.2.1), (14, s_.2.2.2.1), (3, .pointer (some ⟨s_.2.2.2.2, 0, none⟩)), (15, .agg #[.int .i64 a0_0, s_.2.1, .slice none 0 0, s_.2.2.2.1])]) (fun s_ w' => (w'.cell? ⟨gb149, 0, none⟩ = some (.int .i64 a0_0) ∧ w'.cell? ⟨gb149, 1, none⟩ = some (.slice A0_1 l0_1.length c0_1) ∧ w'.cell? ⟨gb149, 2, none⟩ = some (.slice A0_2 l0_2.length c0_2) ∧ w'.cell? ⟨gb149, 3, none⟩ = some (.slice A0_3 l0_3.length c0_3)) ∧ (Kd.R (Kd.int .i64) 3 w' w.heap.size (fun k_ => some k_ ≠ (s_.2.2.2.1 : Value).ownBlock) s_.2.1 y154) ∧ (Kd.R (Kd.int .i64) 3 w' w.heap.size (fun k_ => some k_ ≠ (s_.2.1 : Value).ownBlock) s_.2.2.2.1 y160) ∧ (w'.heap[gb149]? = some (.cells #[.int .i64 a0_0, .slice A0_1 l0_1.length c0_1, .slice A0_2 l0_2.length c0_2, .slice A0_3 l0_3.length c0_3] 30 (0, 0))) ∧ (w'.heap[gb150]? = some (.cells #[.int .i64 0, .slice none 0 0, .slice none 0 0, .slice none 0 0] 30 (0, 0))) ∧ (w'.heap[s_.2.2.2.2]? = some (.cells #[.int .i64 0, .slice none 0 0, .slice none 0 0, .slice none 0 0] 30 (0, 0))) ∧ (w.heap.size ≤ s_.2.2.2.2) ∧ (w.heap.size ≤ s_.2.2.2.2) ∧ (gb149 ≠ s_.2.2.2.2) ∧ (s_.2.2.2.2 ≠ gb149) ∧ (gb150 ≠ s_.2.2.2.2) ∧ (s_.2.2.2.2 ≠ gb150) ∧ (Below w.heap.size w w')) ?_ ?_
   rotate_left
   ·intro hJ2_5_6_9_11
    refine join_ (σ := Value × Value × Value × Value) 2 #[true, true, true, true, true, true, true, true, true, true, true, false, false] (fun s_ => [(7, s_.1), (10, s_.2.1), (11, s_.2.2.1), (14, s_.2.2.2), (15, .agg #[.int .i64 a0_0, s_.2.1, .slice none 0 0, s_.2.2.2])]) (fun s_ w' => (w'.cell? ⟨gb149, 0, none⟩ = some (.int .i64 a0_0) ∧ w'.cell? ⟨gb149, 1, none⟩ = some (.slice A0_1 l0_1.length c0_1) ∧ w'.cell? ⟨gb149, 2, none⟩ = some (.slice A0_2 l0_2.length c0_2) ∧ w'.cell? ⟨gb149, 3, none⟩ = some (.slice A0_3 l0_3.length c0_3)) ∧ (Kd.R (Kd.int .i64) 3 w' w.heap.size (fun k_ => some k_ ≠ (s_.2.2.2 : Value).ownBlock) s_.2.1 y154) ∧ (Kd.R (Kd.int .i64) 3 w' w.heap.size (fun k_ => some k_ ≠ (s_.2.1 : Value).ownBlock) s_.2.2.2 y160) ∧ (w'.heap[gb149]? = some (.cells #[.int .i64 a0_0, .slice A0_1 l0_1.length c0_1, .slice A0_2 l0_2.length c0_2, .slice A0_3 l0_3.length c0_3] 30 (0, 0))) ∧ (w'.heap[gb150]? = some (.cells #[.int .i64 0, .slice none 0 0, .slice none 0 0, .slice none 0 0] 30 (0, 0))) ∧ (Below w.heap.size w w')) ?_ ?_
    rotate_left
    ·intro hJ2_5_6_9
     refine join_ (σ := Value × Value × Value × Nat) 3 #[true, true, true, true, true, true, true, true, true, false, false, true, false] (fun s_ => [(7, s_.1), (10, s_.2.1), (11, s_.2.2.1), (3, .pointer (some ⟨s_.2.2.2, 0, none⟩))]) (fun s_ w' => (w'.cell? ⟨gb149, 0, none⟩ = some (.int .i64 a0_0) ∧ w'.cell? ⟨gb149, 1, none⟩ = some (.slice A0_1 l0_1.length c0_1) ∧ w'.cell? ⟨gb149, 2, none⟩ = some (.slice A0_2 l0_2.length c0_2) ∧ w'.cell? ⟨gb149, 3, none⟩ = some (.slice A0_3 l0_3.length c0_3)) ∧ (Kd.R (Kd.int .i64) 3 w' w.heap.size (fun k_ => some k_ ≠ (s_.2.2.1 : Value).ownBlock) s_.2.1 y154) ∧ (Kd.R (Kd.int .i64) 3 w' w.heap.size (fun k_ => some k_ ≠ (s_.2.1 : Value).ownBlock) s_.2.2.1 y157) ∧ (w'.heap[gb149]? = some (.cells #[.int .i64 a0_0, .slice A0_1 l0_1.length c0_1, .slice A0_2 l0_2.length c0_2, .slice A0_3 l0_3.length c0_3] 30 (0, 0))) ∧ (w'.heap[gb150]? = some (.cells #[.int .i64 0, .slice none 0 0, .slice none 0 0, .slice none 0 0] 30 (0, 0))) ∧ (w'.heap[s_.2.2.2]? = some (.cells #[.int .i64 0, .slice none 0 0, .slice none 0 0, .slice none 0 0] 30 (0, 0))) ∧ (w.heap.size ≤ s_.2.2.2) ∧ (w.heap.size ≤ s_.2.2.2) ∧ (gb149 ≠ s_.2.2.2) ∧ (s_.2.2.2 ≠ gb149) ∧ (gb150 ≠ s_.2.2.2) ∧ (s_.2.2.2 ≠ gb150) ∧ (Below w.heap.size w w')) ?_ ?_
     rotate_left
     ·intro hJ2_5_6_11
      refine join_ (σ := Value × Value × Value) 4 #[true, true, true, true, true, true, true, true, true, false, false, false, false] (fun s_ => [(7, s_.1), (10, s_.2.1), (11, s_.2.2)]) (fun s_ w' => (w'.cell? ⟨gb149, 0, none⟩ = some (.int .i64 a0_0) ∧ w'.cell? ⟨gb149, 1, none⟩ = some (.slice A0_1 l0_1.length c0_1) ∧ w'.cell? ⟨gb149, 2, none⟩ = some (.slice A0_2 l0_2.length c0_2) ∧ w'.cell? ⟨gb149, 3, none⟩ = some (.slice A0_3 l0_3.length c0_3)) ∧ (Kd.R (Kd.int .i64) 3 w' w.heap.size (fun k_ => some k_ ≠ (s_.2.2 : Value).ownBlock) s_.2.1 y154) ∧ (Kd.R (Kd.int .i64) 3 w' w.heap.size (fun k_ => some k_ ≠ (s_.2.1 : Value).ownBlock) s_.2.2 y157) ∧ (w'.heap[gb149]? = some (.cells #[.int .i64 a0_0, .slice A0_1 l0_1.length c0_1, .slice A0_2 l0_2.length c0_2, .slice A0_3 l0_3.length c0_3] 30 (0, 0))) ∧ (w'.heap[gb150]? = some (.cells #[.int .i64 0, .slice none 0 0, .slice none 0 0, .slice none 0 0] 30 (0, 0))) ∧ (Below w.heap.size w w')) ?_ ?_
      rotate_left
      ·intro hJ2_5_6
       refine join_ (σ := Value × Value × Nat) 4 #[true, true, true, true, true, true, false, true, true, false, false, true, false] (fun s_ => [(7, s_.1), (10, s_.2.1), (3, .pointer (some ⟨s_.2.2, 0, none⟩))]) (fun s_ w' => (w'.cell? ⟨gb149, 0, none⟩ = some (.int .i64 a0_0) ∧ w'.cell? ⟨gb149, 1, none⟩ = some (.slice A0_1 l0_1.length c0_1) ∧ w'.cell? ⟨gb149, 2, none⟩ = some (.slice A0_2 l0_2.length c0_2) ∧ w'.cell? ⟨gb149, 3, none⟩ = some (.slice A0_3 l0_3.length c0_3)) ∧ (Kd.R (Kd.int .i64) 3 w' w.heap.size (fun _ => True) s_.2.1 y154) ∧ (w'.heap[gb149]? = some (.cells #[.int .i64 a0_0, .slice A0_1 l0_1.length c0_1, .slice A0_2 l0_2.length c0_2, .slice A0_3 l0_3.length c0_3] 30 (0, 0))) ∧ (w'.heap[gb150]? = some (.cells #[.int .i64 0, .slice none 0 0, .slice none 0 0, .slice none 0 0] 30 (0, 0))) ∧ (w'.heap[s_.2.2]? = some (.cells #[.int .i64 0, .slice none 0 0, .slice none 0 0, .slice none 0 0] 30 (0, 0))) ∧ (w.heap.size ≤ s_.2.2) ∧ (w.heap.size ≤ s_.2.2) ∧ (gb149 ≠ s_.2.2) ∧ (s_.2.2 ≠ gb149) ∧ (gb150 ≠ s_.2.2) ∧ (s_.2.2 ≠ gb150) ∧ (Below w.heap.size w w')) ?_ ?_
       rotate_left
       ·intro hJ2_5_11
        refine join_ (σ := Value × Value × Nat) 4 #[true, true, true, true, true, false, true, true, true, false, false, true, false] (fun s_ => [(7, s_.1), (11, s_.2.1), (3, .pointer (some ⟨s_.2.2, 0, none⟩))]) (fun s_ w' => (w'.cell? ⟨gb149, 0, none⟩ = some (.int .i64 a0_0) ∧ w'.cell? ⟨gb149, 1, none⟩ = some (.slice A0_1 l0_1.length c0_1) ∧ w'.cell? ⟨gb149, 2, none⟩ = some (.slice A0_2 l0_2.length c0_2) ∧ w'.cell? ⟨gb149, 3, none⟩ = some (.slice A0_3 l0_3.length c0_3)) ∧ (Kd.R (Kd.int .i64) 3 w' w.heap.size (fun k_ => some k_ ≠ (s_.2.1 : Value).ownBlock) s_.1 y151) ∧ (Kd.R (Kd.int .i64) 3 w' w.heap.size (fun k_ => some k_ ≠ (s_.1 : Value).ownBlock) s_.2.1 y157) ∧ (w'.heap[gb149]? = some (.cells #[.int .i64 a0_0, .slice A0_1 l0_1.length c0_1, .slice A0_2 l0_2.length c0_2, .slice A0_3 l0_3.length c0_3] 30 (0, 0))) ∧ (w'.heap[gb150]? = some (.cells #[.int .i64 0, .slice none 0 0, .slice none 0 0, .slice none 0 0] 30 (0, 0))) ∧ (w'.heap[s_.2.2]? = some (.cells #[.int .i64 0, .slice none 0 0, .slice none 0 0, .slice none 0 0] 30 (0, 0))) ∧ (w.heap.size ≤ s_.2.2) ∧ (w.heap.size ≤ s_.2.2) ∧ (gb149 ≠ s_.2.2) ∧ (s_.2.2 ≠ gb149) ∧ (gb150 ≠ s_.2.2) ∧ (s_.2.2 ≠ gb150) ∧ (Below w.heap.size w w')) ?_ ?_
        rotate_left
        ·intro hJ2_6_11
         refine join_ (σ := Value × Value) 5 #[true, true, true, true, true, true, false, true, true, false, false, false, false] (fun s_ => [(7, s_.1), (10, s_.2)]) (fun s_ w' => (w'.cell? ⟨gb149, 0, none⟩ = some (.int .i64 a0_0) ∧ w'.cell? ⟨gb149, 1, none⟩ = some (.slice A0_1 l0_1.length c0_1) ∧ w'.cell? ⟨gb149, 2, none⟩ = some (.slice A0_2 l0_2.length c0_2) ∧ w'.cell? ⟨gb149, 3, none⟩ = some (.slice A0_3 l0_3.length c0_3)) ∧ (Kd.R (Kd.int .i64) 3 w' w.heap.size (fun _ => True) s_.2 y154) ∧ (w'.heap[gb149]? = some (.cells #[.int .i64 a0_0, .slice A0_1 l0_1.length c0_1, .slice A0_2 l0_2.length c0_2, .slice A0_3 l0_3.length c0_3] 30 (0, 0))) ∧ (w'.heap[gb150]? = some (.cells #[.int .i64 0, .slice none 0 0, .slice none 0 0, .slice none 0 0] 30 (0, 0))) ∧ (Below w.heap.size w w')) ?_ ?_
         rotate_left
         ·intro hJ2_5
          refine join_ (σ := Value × Value) 5 #[true, true, true, true, true, false, true, true, true, false, false, false, false] (fun s_ => [(7, s_.1), (11, s_.2)]) (fun s_ w' => (w'.cell? ⟨gb149, 0, none⟩ = some (.int .i64 a0_0) ∧ w'.cell? ⟨gb149, 1, none⟩ = some (.slice A0_1 l0_1.length c0_1) ∧ w'.cell? ⟨gb149, 2, none⟩ = some (.slice A0_2 l0_2.length c0_2) ∧ w'.cell? ⟨gb149, 3, none⟩ = some (.slice A0_3 l0_3.length c0_3)) ∧ (Kd.R (Kd.int .i64) 3 w' w.heap.size (fun k_ => some k_ ≠ (s_.2 : Value).ownBlock) s_.1 y151) ∧ (Kd.R (Kd.int .i64) 3 w' w.heap.size (fun k_ => some k_ ≠ (s_.1 : Value).ownBlock) s_.2 y157) ∧ (w'.heap[gb149]? = some (.cells #[.int .i64 a0_0, .slice A0_1 l0_1.length c0_1, .slice A0_2 l0_2.length c0_2, .slice A0_3 l0_3.length c0_3] 30 (0, 0))) ∧ (w'.heap[gb150]? = some (.cells #[.int .i64 0, .slice none 0 0, .slice none 0 0, .slice none 0 0] 30 (0, 0))) ∧ (Below w.heap.size w w')) ?_ ?_
          rotate_left
          ·intro hJ2_6
           refine join_ (σ := Value × Nat) 5 #[true, true, true, true, true, false, false, true, true, false, false, true, false] (fun s_ => [(7, s_.1), (3, .pointer (some ⟨s_.2, 0, none⟩))]) (fun s_ w' => (w'.cell? ⟨gb149, 0, none⟩ = some (.int .i64 a0_0) ∧ w'.cell? ⟨gb149, 1, none⟩ = some (.slice A0_1 l0_1.length c0_1) ∧ w'.cell? ⟨gb149, 2, none⟩ = some (.slice A0_2 l0_2.length c0_2) ∧ w'.cell? ⟨gb149, 3, none⟩ = some (.slice A0_3 l0_3.length c0_3)) ∧ (Kd.R (Kd.int .i64) 3 w' w.heap.size (fun _ => True) s_.1 y151) ∧ (w'.heap[gb149]? = some (.cells #[.int .i64 a0_0, .slice A0_1 l0_1.length c0_1, .slice A0_2 l0_2.length c0_2, .slice A0_3 l0_3.length c0_3] 30 (0, 0))) ∧ (w'.heap[gb150]? = some (.cells #[.int .i64 0, .slice none 0 0, .slice none 0 0, .slice none 0 0] 30 (0, 0))) ∧ (w'.heap[s_.2]? = some (.cells #[.int .i64 0, .slice none 0 0, .slice none 0 0, .slice none 0 0] 30 (0, 0))) ∧ (w.heap.size ≤ s_.2) ∧ (w.heap.size ≤ s_.2) ∧ (gb149 ≠ s_.2) ∧ (s_.2 ≠ gb149) ∧ (gb150 ≠ s_.2) ∧ (s_.2 ≠ gb150) ∧ (Below w.heap.size w w')) ?_ ?_
           rotate_left
           ·intro hJ2_11
            refine join_ (σ := Value × Nat) 5 #[true, true, false, true, true, false, true, true, true, false, false, true, false] (fun s_ => [(11, s_.1), (3, .pointer (some ⟨s_.2, 0, none⟩))]) (fun s_ w' => (w'.cell? ⟨gb149, 0, none⟩ = some (.int .i64 a0_0) ∧ w'.cell? ⟨gb149, 1, none⟩ = some (.slice A0_1 l0_1.length c0_1) ∧ w'.cell? ⟨gb149, 2, none⟩ = some (.slice A0_2 l0_2.length c0_2) ∧ w'.cell? ⟨gb149, 3, none⟩ = some (.slice A0_3 l0_3.length c0_3)) ∧ (Kd.R (Kd.int .i64) 3 w' w.heap.size (fun _ => True) s_.1 y157) ∧ (w'.heap[gb149]? = some (.cells #[.int .i64 a0_0, .slice A0_1 l0_1.length c0_1, .slice A0_2 l0_2.length c0_2, .slice A0_3 l0_3.length c0_3] 30 (0, 0))) ∧ (w'.heap[gb150]? = some (.cells #[.int .i64 0, .slice none 0 0, .slice none 0 0, .slice none 0 0] 30 (0, 0))) ∧ (w'.heap[s_.2]? = some (.cells #[.int .i64 0, .slice none 0 0, .slice none 0 0, .slice none 0 0] 30 (0, 0))) ∧ (w.heap.size ≤ s_.2) ∧ (w.heap.size ≤ s_.2) ∧ (gb149 ≠ s_.2) ∧ (s_.2 ≠ gb149) ∧ (gb150 ≠ s_.2) ∧ (s_.2 ≠ gb150) ∧ (Below w.heap.size w w')) ?_ ?_
            rotate_left
            ·intro hJ6_11
             refine join_ (σ := Value) 6 #[true, true, true, true, true, false, false, true, true, false, false, false, false] (fun s_ => [(7, s_)]) (fun s_ w' => (w'.cell? ⟨gb149, 0, none⟩ = some (.int .i64 a0_0) ∧ w'.cell? ⟨gb149, 1, none⟩ = some (.slice A0_1 l0_1.length c0_1) ∧ w'.cell? ⟨gb149, 2, none⟩ = some (.slice A0_2 l0_2.length c0_2) ∧ w'.cell? ⟨gb149, 3, none⟩ = some (.slice A0_3 l0_3.length c0_3)) ∧ (Kd.R (Kd.int .i64) 3 w' w.heap.size (fun _ => True) s_ y151) ∧ (w'.heap[gb149]? = some (.cells #[.int .i64 a0_0, .slice A0_1 l0_1.length c0_1, .slice A0_2 l0_2.length c0_2, .slice A0_3 l0_3.length c0_3] 30 (0, 0))) ∧ (w'.heap[gb150]? = some (.cells #[.int .i64 0, .slice none 0 0, .slice none 0 0, .slice none 0 0] 30 (0, 0))) ∧ (Below w.heap.size w w')) ?_ ?_
             rotate_left
             ·intro hJ2
              refine join_ (σ := Value) 6 #[true, true, false, true, true, false, true, true, true, false, false, false, false] (fun s_ => [(11, s_)]) (fun s_ w' => (w'.cell? ⟨gb149, 0, none⟩ = some (.int .i64 a0_0) ∧ w'.cell? ⟨gb149, 1, none⟩ = some (.slice A0_1 l0_1.length c0_1) ∧ w'.cell? ⟨gb149, 2, none⟩ = some (.slice A0_2 l0_2.length c0_2) ∧ w'.cell? ⟨gb149, 3, none⟩ = some (.slice A0_3 l0_3.length c0_3)) ∧ (Kd.R (Kd.int .i64) 3 w' w.heap.size (fun _ => True) s_ y157) ∧ (w'.heap[gb149]? = some (.cells #[.int .i64 a0_0, .slice A0_1 l0_1.length c0_1, .slice A0_2 l0_2.length c0_2, .slice A0_3 l0_3.length c0_3] 30 (0, 0))) ∧ (w'.heap[gb150]? = some (.cells #[.int .i64 0, .slice none 0 0, .slice none 0 0, .slice none 0 0] 30 (0, 0))) ∧ (Below w.heap.size w w')) ?_ ?_
              rotate_left
              ·intro hJ6
               refine join_ (σ := Nat) 6 #[true, true, false, true, true, false, false, true, true, false, false, true, false] (fun s_ => [(3, .pointer (some ⟨s_, 0, none⟩))]) (fun s_ w' => (w'.cell? ⟨gb149, 0, none⟩ = some (.int .i64 a0_0) ∧ w'.cell? ⟨gb149, 1, none⟩ = some (.slice A0_1 l0_1.length c0_1) ∧ w'.cell? ⟨gb149, 2, none⟩ = some (.slice A0_2 l0_2.length c0_2) ∧ w'.cell? ⟨gb149, 3, none⟩ = some (.slice A0_3 l0_3.length c0_3)) ∧ (w'.heap[gb149]? = some (.cells #[.int .i64 a0_0, .slice A0_1 l0_1.length c0_1, .slice A0_2 l0_2.length c0_2, .slice A0_3 l0_3.length c0_3] 30 (0, 0))) ∧ (w'.heap[gb150]? = some (.cells #[.int .i64 0, .slice none 0 0, .slice none 0 0, .slice none 0 0] 30 (0, 0))) ∧ (w'.heap[s_]? = some (.cells #[.int .i64 0, .slice none 0 0, .slice none 0 0, .slice none 0 0] 30 (0, 0))) ∧ (w.heap.size ≤ s_) ∧ (w.heap.size ≤ s_) ∧ (gb149 ≠ s_) ∧ (s_ ≠ gb149) ∧ (gb150 ≠ s_) ∧ (s_ ≠ gb150) ∧ (Below w.heap.size w w')) ?_ ?_
               rotate_left
               ·intro hJ11
                refine three_ (i := 2) (j := 6) (k := 11) (Ni := some 7) (Nj := some 11) (Nk := some 3) #[true, true, true, true, true, false, false, true, true, false, false, false, false] #[true, true, false, true, true, false, true, true, true, false, false, false, false] #[true, true, false, true, true, false, false, true, true, false, false, true, false] rfl rfl rfl rfl rfl rfl (three_of HT_.out (by kernel_rfl)) (by decide) (by decide) (by decide) (fun K hK => ?_) (fun K hK => ?_) (fun K hK => ?_)
                ·skip
                 refine Kd.R_lit_step (Kd.int .i64) _ 3 ?hg (N := 7) ?hd (xs := ([] : List Int)) (inner := []) (ok := fun _ => True) (okp := fun _ => True) ?hr ?hp (fun _ hk => hk) trivial (Below.refl _ _) (Nat.le_refl _) (by simp) ?_; (case hd => rfl); (case hg => rfl); (case hr => first | (go_simp; done) | (go_simp; rfl)); (case hp => exact (Reps.none _ _))
                 intro v152 w7 ho8 hb hg_ hnew_
                 clear hg_ hnew_
                 (first | rw [← Ny151.out] at ho8 | (simp only [Int.reduceToNat] at ho8; rw [← Ny151.out] at ho8))
                 have n0_ := Aside0.mk (Kd.R_lower ho8 (below_size (hbA_ HB.out))); have n1_ := (bbA_ BK149 hb); have n2_ := (bbA_ BK150 hb); have n3_ := (bs_ HB hb); clear BK149 BK150 HB; have HO153 := n0_; have BK149 := n1_; have BK150 := n2_; have HB := n3_; clear n0_ n1_ n2_ n3_ hb ho8
                 refine hK.out _ _ (cz4 BK149.out) (fun hHeld => ?_)
                 clear hK K; refine nm_ 7 ?_
                 exact norm_ (by first | (simp only [putAll, Act.put, List.setIfInBounds_toArray, List.set_cons_zero, List.set_cons_succ]; done) | (simp only [putAll, Act.put, List.setIfInBounds_toArray, List.set_cons_zero, List.set_cons_succ]; rfl)) (hJ2 (v152) _ ⟨hHeld, (kR_ HO153.out), (kb_ BK149.out), (kb_ BK150.out), (hbA_ HB.out)⟩)
                ·skip
                 refine Kd.R_lit_step (Kd.int .i64) _ 3 ?hg (N := 11) ?hd (xs := ([] : List Int)) (inner := []) (ok := fun _ => True) (okp := fun _ => True) ?hr ?hp (fun _ hk => hk) trivial (Below.refl _ _) (Nat.le_refl _) (by simp) ?_; (case hd => rfl); (case hg => rfl); (case hr => first | (go_simp; done) | (go_simp; rfl)); (case hp => exact (Reps.none _ _))
                 intro v158 w7 ho8 hb hg_ hnew_
                 clear hg_ hnew_
                 (first | rw [← Ny157.out] at ho8 | (simp only [Int.reduceToNat] at ho8; rw [← Ny157.out] at ho8))
                 have n0_ := Aside0.mk (Kd.R_lower ho8 (below_size (hbA_ HB.out))); have n1_ := (bbA_ BK149 hb); have n2_ := (bbA_ BK150 hb); have n3_ := (bs_ HB hb); clear BK149 BK150 HB; have HO159 := n0_; have BK149 := n1_; have BK150 := n2_; have HB := n3_; clear n0_ n1_ n2_ n3_ hb ho8
                 refine hK.out _ _ (cz4 BK149.out) (fun hHeld => ?_)
                 clear hK K; refine nm_ 11 ?_
                 exact norm_ (by first | (simp only [putAll, Act.put, List.setIfInBounds_toArray, List.set_cons_zero, List.set_cons_succ]; done) | (simp only [putAll, Act.put, List.setIfInBounds_toArray, List.set_cons_zero, List.set_cons_succ]; rfl)) (hJ6 (v158) _ ⟨hHeld, (kR_ HO159.out), (kb_ BK149.out), (kb_ BK150.out), (hbA_ HB.out)⟩)
                ·skip
                 refine box_step ?hg (N := 3) ?hd (cs := #[.int .i64 0, .slice none 0 0, .slice none 0 0, .slice none 0 0]) (t := 30) ?hr ?_; (case hd => rfl); (case hg => rfl); (case hr => first | (go_simp; done) | (go_simp; rfl))
                 intro gb163 hg w7 hbox hb
                 have n0_ := (bbA_ BK149 hb); have n1_ := (bbA_ BK150 hb); have n2_ := (bs_ HB hb); have n3_ := Aside0.mk (hbox); have n4_ := ge_ hg HB; have n5_ := ge_ hg HB; have n6_ := nl_ hg BK149; have n7_ := ng_ hg BK149; have n8_ := nl_ hg BK150; have n9_ := ng_ hg BK150; clear BK149 BK150 HB; have BK149 := n0_; have BK150 := n1_; have HB := n2_; have BK163 := n3_; have GW163 := n4_; have GE163 := n5_; have NB149_163 := n6_; have NB163_149 := n7_; have NB150_163 := n8_; have NB163_150 := n9_; clear n0_ n1_ n2_ n3_ n4_ n5_ n6_ n7_ n8_ n9_ hb hbox hg
                 refine hK.out _ _ (cz4 BK149.out) (fun hHeld => ?_)
                 clear hK K; refine nm_ 3 ?_
                 exact norm_ (by first | (simp only [putAll, Act.put, List.setIfInBounds_toArray, List.set_cons_zero, List.set_cons_succ]; done) | (simp only [putAll, Act.put, List.setIfInBounds_toArray, List.set_cons_zero, List.set_cons_succ]; rfl)) (hJ11 (gb163) _ ⟨hHeld, (kb_ BK149.out), (kb_ BK150.out), (kb_ BK163.out), GW163.out, GE163.out, NB149_163.out, NB163_149.out, NB150_163.out, NB163_150.out, (hbA_ HB.out)⟩)
               ·skip
                rintro gb163 w8 ⟨hS_, h0_, h1_, h2_, h3_, h4_, h5_, h6_, h7_, h8_, h9_⟩
                have n0_ : Aside0 (w8.heap[gb149]? = some (.cells #[.int .i64 a0_0, .slice A0_1 l0_1.length c0_1, .slice A0_2 l0_2.length c0_2, .slice A0_3 l0_3.length c0_3] 30 (0, 0))) := ⟨h0_⟩
                have n1_ : Aside0 (w8.heap[gb150]? = some (.cells #[.int .i64 0, .slice none 0 0, .slice none 0 0, .slice none 0 0] 30 (0, 0))) := ⟨h1_⟩
                have n2_ : Aside0 (w8.heap[gb163]? = some (.cells #[.int .i64 0, .slice none 0 0, .slice none 0 0, .slice none 0 0] 30 (0, 0))) := ⟨h2_⟩
                have n3_ : Aside0 (w.heap.size ≤ gb163) := ⟨h3_⟩
                have n4_ : Aside0 (w.heap.size ≤ gb163) := ⟨h4_⟩
                have n5_ : Aside0 (gb149 ≠ gb163) := ⟨h5_⟩
                have n6_ : Aside0 (gb163 ≠ gb149) := ⟨h6_⟩
                have n7_ : Aside0 (gb150 ≠ gb163) := ⟨h7_⟩
                have n8_ : Aside0 (gb163 ≠ gb150) := ⟨h8_⟩
                have n9_ : Aside0 (Below w.heap.size w w8) := ⟨h9_⟩
                clear BK149 BK150 HB h0_ h1_ h2_ h3_ h4_ h5_ h6_ h7_ h8_ h9_; have BK149 := n0_; have BK150 := n1_; have BK163 := n2_; have GW163 := n3_; have GE163 := n4_; have NB149_163 := n5_; have NB163_149 := n6_; have NB150_163 := n7_; have NB163_150 := n8_; have HB := n9_; clear n0_ n1_ n2_ n3_ n4_ n5_ n6_ n7_ n8_ n9_
                have hHeld : w8.cell? ⟨gb149, 0, none⟩ = some (.int .i64 a0_0) ∧ w8.cell? ⟨gb149, 1, none⟩ = some (.slice A0_1 l0_1.length c0_1) ∧ w8.cell? ⟨gb149, 2, none⟩ = some (.slice A0_2 l0_2.length c0_2) ∧ w8.cell? ⟨gb149, 3, none⟩ = some (.slice A0_3 l0_3.length c0_3) := hS_
                refine norm_ (a' := ?_) ?_ ?_
                rotate_left
                ·simp only [putAll, Act.put, List.setIfInBounds_toArray, List.set_cons_zero, List.set_cons_succ]
                 rfl
                refine two_ (i := 2) (j := 6) (Ni := some 7) (Nj := some 11) #[true, true, true, true, true, false, false, true, true, false, false, true, false] #[true, true, false, true, true, false, true, true, true, false, false, true, false] rfl rfl rfl rfl (two_of HT_.out (by kernel_rfl)) (by decide) (by decide) (fun K hK => ?_) (fun K hK => ?_)
                ·skip
                 refine Kd.R_lit_step (Kd.int .i64) _ 3 ?hg (N := 7) ?hd (xs := ([] : List Int)) (inner := []) (ok := fun _ => True) (okp := fun _ => True) ?hr ?hp (fun _ hk => hk) trivial (Below.refl _ _) (Nat.le_refl _) (by simp) ?_; (case hd => rfl); (case hg => rfl); (case hr => first | (go_simp; done) | (go_simp; rfl)); (case hp => exact (Reps.none _ _))
                 intro v152 w9 ho10 hb hg_ hnew_
                 clear hg_ hnew_
                 (first | rw [← Ny151.out] at ho10 | (simp only [Int.reduceToNat] at ho10; rw [← Ny151.out] at ho10))
                 have n0_ := Aside0.mk (Kd.R_lower ho10 (below_size (hbA_ HB.out))); have n1_ := (bbA_ BK149 hb); have n2_ := (bbA_ BK150 hb); have n3_ := (bbA_ BK163 hb); have n4_ := (bs_ HB hb); clear BK149 BK150 BK163 HB; have HO153 := n0_; have BK149 := n1_; have BK150 := n2_; have BK163 := n3_; have HB := n4_; clear n0_ n1_ n2_ n3_ n4_ hb ho10
                 refine hK.out _ _ (cz4 BK149.out) (fun hHeld => ?_)
                 clear hK K; refine nm_ 7 ?_
                 exact norm_ (by first | (simp only [putAll, Act.put, List.setIfInBounds_toArray, List.set_cons_zero, List.set_cons_succ]; done) | (simp only [putAll, Act.put, List.setIfInBounds_toArray, List.set_cons_zero, List.set_cons_succ]; rfl)) (hJ2_11 (v152, gb163) _ ⟨hHeld, (kR_ HO153.out), (kb_ BK149.out), (kb_ BK150.out), (kb_ BK163.out), GW163.out, GE163.out, NB149_163.out, NB163_149.out, NB150_163.out, NB163_150.out, (hbA_ HB.out)⟩)
                ·skip
                 refine Kd.R_lit_step (Kd.int .i64) _ 3 ?hg (N := 11) ?hd (xs := ([] : List Int)) (inner := []) (ok := fun _ => True) (okp := fun _ => True) ?hr ?hp (fun _ hk => hk) trivial (Below.refl _ _) (Nat.le_refl _) (by simp) ?_; (case hd => rfl); (case hg => rfl); (case hr => first | (go_simp; done) | (go_simp; rfl)); (case hp => exact (Reps.none _ _))
                 intro v158 w9 ho10 hb hg_ hnew_
                 clear hg_ hnew_
                 (first | rw [← Ny157.out] at ho10 | (simp only [Int.reduceToNat] at ho10; rw [← Ny157.out] at ho10))
                 have n0_ := Aside0.mk (Kd.R_lower ho10 (below_size (hbA_ HB.out))); have n1_ := (bbA_ BK149 hb); have n2_ := (bbA_ BK150 hb); have n3_ := (bbA_ BK163 hb); have n4_ := (bs_ HB hb); clear BK149 BK150 BK163 HB; have HO159 := n0_; have BK149 := n1_; have BK150 := n2_; have BK163 := n3_; have HB := n4_; clear n0_ n1_ n2_ n3_ n4_ hb ho10
                 refine hK.out _ _ (cz4 BK149.out) (fun hHeld => ?_)
                 clear hK K; refine nm_ 11 ?_
                 exact norm_ (by first | (simp only [putAll, Act.put, List.setIfInBounds_toArray, List.set_cons_zero, List.set_cons_succ]; done) | (simp only [putAll, Act.put, List.setIfInBounds_toArray, List.set_cons_zero, List.set_cons_succ]; rfl)) (hJ6_11 (v158, gb163) _ ⟨hHeld, (kR_ HO159.out), (kb_ BK149.out), (kb_ BK150.out), (kb_ BK163.out), GW163.out, GE163.out, NB149_163.out, NB163_149.out, NB150_163.out, NB163_150.out, (hbA_ HB.out)⟩)
              ·skip
               rintro v158 w9 ⟨hS_, h0_, h1_, h2_, h3_⟩
               have n0_ : Aside0 (Kd.R (Kd.int .i64) 3 w9 w.heap.size (fun _ => True) v158 y157) := ⟨h0_⟩
               have n1_ : Aside0 (w9.heap[gb149]? = some (.cells #[.int .i64 a0_0, .slice A0_1 l0_1.length c0_1, .slice A0_2 l0_2.length c0_2, .slice A0_3 l0_3.length c0_3] 30 (0, 0))) := ⟨h1_⟩
               have n2_ : Aside0 (w9.heap[gb150]? = some (.cells #[.int .i64 0, .slice none 0 0, .slice none 0 0, .slice none 0 0] 30 (0, 0))) := ⟨h2_⟩
               have n3_ : Aside0 (Below w.heap.size w w9) := ⟨h3_⟩
               clear BK149 BK150 HB h0_ h1_ h2_ h3_; have HO159 := n0_; have BK149 := n1_; have BK150 := n2_; have HB := n3_; clear n0_ n1_ n2_ n3_
               have hHeld : w9.cell? ⟨gb149, 0, none⟩ = some (.int .i64 a0_0) ∧ w9.cell? ⟨gb149, 1, none⟩ = some (.slice A0_1 l0_1.length c0_1) ∧ w9.cell? ⟨gb149, 2, none⟩ = some (.slice A0_2 l0_2.length c0_2) ∧ w9.cell? ⟨gb149, 3, none⟩ = some (.slice A0_3 l0_3.length c0_3) := hS_
               refine norm_ (a' := ?_) ?_ ?_
               rotate_left
               ·simp only [putAll, Act.put, List.setIfInBounds_toArray, List.set_cons_zero, List.set_cons_succ]
                rfl
               refine two_ (i := 2) (j := 11) (Ni := some 7) (Nj := some 3) #[true, true, true, true, true, false, true, true, true, false, false, false, false] #[true, true, false, true, true, false, true, true, true, false, false, true, false] rfl rfl rfl rfl (two_of HT_.out (by kernel_rfl)) (by decide) (by decide) (fun K hK => ?_) (fun K hK => ?_)
               ·skip
                refine Kd.R_lit_step (Kd.int .i64) _ 3 ?hg (N := 7) ?hd (xs := ([] : List Int)) (inner := []) (ok := fun _ => True) (okp := fun _ => True) ?hr ?hp (fun _ hk => hk) trivial (Below.refl _ _) (Nat.le_refl _) (by simp) ?_; (case hd => rfl); (case hg => rfl); (case hr => first | (go_simp; done) | (go_simp; rfl)); (case hp => exact (Reps.none _ _))
                intro v152 w10 ho11 hb hg_ hnew_
                clear hg_ hnew_
                (first | rw [← Ny151.out] at ho11 | (simp only [Int.reduceToNat] at ho11; rw [← Ny151.out] at ho11))
                have n0_ := Aside0.mk (Kd.R_elder' (kR_ HO159.out) (Kd.R_base ho11) hb); have n1_ := Aside0.mk (Kd.R_lower (Kd.R_new' ho11 (Kd.R_lt (kR_ HO159.out))) (below_size (hbA_ HB.out))); have n2_ := (bbA_ BK149 hb); have n3_ := (bbA_ BK150 hb); have n4_ := (bs_ HB hb); clear HO159 BK149 BK150 HB; have HO159 := n0_; have HO153 := n1_; have BK149 := n2_; have BK150 := n3_; have HB := n4_; clear n0_ n1_ n2_ n3_ n4_ hb ho11
                refine hK.out _ _ (cz4 BK149.out) (fun hHeld => ?_)
                clear hK K; refine nm_ 7 ?_
                exact norm_ (by first | (simp only [putAll, Act.put, List.setIfInBounds_toArray, List.set_cons_zero, List.set_cons_succ]; done) | (simp only [putAll, Act.put, List.setIfInBounds_toArray, List.set_cons_zero, List.set_cons_succ]; rfl)) (hJ2_6 (v152, v158) _ ⟨hHeld, (by refine kR_ ?_; first | exact Kd.R_mono HO153.out (fun _ hk => hk.2) | exact Kd.R_mono HO153.out (fun _ _ => trivial)), (by refine kR_ ?_; first | exact Kd.R_mono HO159.out (fun _ hk => hk.2) | exact Kd.R_mono HO159.out (fun _ _ => trivial)), (kb_ BK149.out), (kb_ BK150.out), (hbA_ HB.out)⟩)
               ·skip
                refine box_step ?hg (N := 3) ?hd (cs := #[.int .i64 0, .slice none 0 0, .slice none 0 0, .slice none 0 0]) (t := 30) ?hr ?_; (case hd => rfl); (case hg => rfl); (case hr => first | (go_simp; done) | (go_simp; rfl))
                intro gb163 hg w10 hbox hb
                have n0_ := Aside0.mk (Kd.R_below (kR_ HO159.out) hb); have n1_ := (bbA_ BK149 hb); have n2_ := (bbA_ BK150 hb); have n3_ := (bs_ HB hb); have n4_ := Aside0.mk (hbox); have n5_ := ge_ hg HB; have n6_ := ge_ hg HB; have n7_ := nl_ hg BK149; have n8_ := ng_ hg BK149; have n9_ := nl_ hg BK150; have n10_ := ng_ hg BK150; clear HO159 BK149 BK150 HB; have HO159 := n0_; have BK149 := n1_; have BK150 := n2_; have HB := n3_; have BK163 := n4_; have GW163 := n5_; have GE163 := n6_; have NB149_163 := n7_; have NB163_149 := n8_; have NB150_163 := n9_; have NB163_150 := n10_; clear n0_ n1_ n2_ n3_ n4_ n5_ n6_ n7_ n8_ n9_ n10_ hb hbox hg
                refine hK.out _ _ (cz4 BK149.out) (fun hHeld => ?_)
                clear hK K; refine nm_ 3 ?_
                exact norm_ (by first | (simp only [putAll, Act.put, List.setIfInBounds_toArray, List.set_cons_zero, List.set_cons_succ]; done) | (simp only [putAll, Act.put, List.setIfInBounds_toArray, List.set_cons_zero, List.set_cons_succ]; rfl)) (hJ6_11 (v158, gb163) _ ⟨hHeld, (kR_ HO159.out), (kb_ BK149.out), (kb_ BK150.out), (kb_ BK163.out), GW163.out, GE163.out, NB149_163.out, NB163_149.out, NB150_163.out, NB163_150.out, (hbA_ HB.out)⟩)
             ·skip
              rintro v152 w9 ⟨hS_, h0_, h1_, h2_, h3_⟩
              have n0_ : Aside0 (Kd.R (Kd.int .i64) 3 w9 w.heap.size (fun _ => True) v152 y151) := ⟨h0_⟩
              have n1_ : Aside0 (w9.heap[gb149]? = some (.cells #[.int .i64 a0_0, .slice A0_1 l0_1.length c0_1, .slice A0_2 l0_2.length c0_2, .slice A0_3 l0_3.length c0_3] 30 (0, 0))) := ⟨h1_⟩
              have n2_ : Aside0 (w9.heap[gb150]? = some (.cells #[.int .i64 0, .slice none 0 0, .slice none 0 0, .slice none 0 0] 30 (0, 0))) := ⟨h2_⟩
              have n3_ : Aside0 (Below w.heap.size w w9) := ⟨h3_⟩
              clear BK149 BK150 HB h0_ h1_ h2_ h3_; have HO153 := n0_; have BK149 := n1_; have BK150 := n2_; have HB := n3_; clear n0_ n1_ n2_ n3_
              have hHeld : w9.cell? ⟨gb149, 0, none⟩ = some (.int .i64 a0_0) ∧ w9.cell? ⟨gb149, 1, none⟩ = some (.slice A0_1 l0_1.length c0_1) ∧ w9.cell? ⟨gb149, 2, none⟩ = some (.slice A0_2 l0_2.length c0_2) ∧ w9.cell? ⟨gb149, 3, none⟩ = some (.slice A0_3 l0_3.length c0_3) := hS_
              refine norm_ (a' := ?_) ?_ ?_
              rotate_left
              ·simp only [putAll, Act.put, List.setIfInBounds_toArray, List.set_cons_zero, List.set_cons_succ]
               rfl
              refine three_ (i := 5) (j := 6) (k := 11) (Ni := some 10) (Nj := some 11) (Nk := some 3) #[true, true, true, true, true, true, false, true, true, false, false, false, false] #[true, true, true, true, true, false, true, true, true, false, false, false, false] #[true, true, true, true, true, false, false, true, true, false, false, true, false] rfl rfl rfl rfl rfl rfl (three_of HT_.out (by kernel_rfl)) (by decide) (by decide) (by decide) (fun K hK => ?_) (fun K hK => ?_) (fun K hK => ?_)
              ·skip
               refine Kd.R_append_rows_step (Kd.int .i64) (w0 := w) w.heap.size (by rfl) (.tmp 7) (.tmp 9) 22 3 (.int .i64 0) 8 rfl Try.underlying22 info3 rfl (by decide) (by omega) v152 y151 l0_1 _ _ _ (fun _ => True) (fun _ => False) rfl rfl ?aO ?aR (fun _ _ h => h) (fun _ h => h.elim) ?aF ?aB ?aS ?aL ?_
               (case aR => exact kC_ (Kd.C_below HR0_1.out HB.out))
               (case aB => exact (hbA_ HB.out))
               (case aF => exact (fun _ _ => trivial))
               (case aO => exact (kR_ HO153.out))
               (case aS => exact (below_size (hbA_ HB.out)))
               (case aL => have := LMc2.out; omega)
               intro v155 w10 ho hb hg hat
               rw [← Ny154.out] at ho
               have n0_ := (bgA_ BK149 hg (Kd.R_ne HO153.out BK149.out (by decide))); have n1_ := (bgA_ BK150 hg (Kd.R_ne HO153.out BK150.out (by decide))); have n2_ := Aside0.mk (hb); have n3_ := Aside0.mk (ho); clear BK149 BK150 HB HO153; have BK149 := n0_; have BK150 := n1_; have HB := n2_; have HO156 := n3_; clear n0_ n1_ n2_ n3_ ho hb hg hat
               refine hK.out _ _ (cz4 BK149.out) (fun hHeld => ?_)
               clear hK K; refine nm_ 10 ?_
               exact norm_ (by first | (simp only [putAll, Act.put, List.setIfInBounds_toArray, List.set_cons_zero, List.set_cons_succ]; done) | (simp only [putAll, Act.put, List.setIfInBounds_toArray, List.set_cons_zero, List.set_cons_succ]; rfl)) (hJ2_5 (v152, v155) _ ⟨hHeld, (kR_ HO156.out), (kb_ BK149.out), (kb_ BK150.out), (hbA_ HB.out)⟩)
              ·skip
               refine Kd.R_lit_step (Kd.int .i64) _ 3 ?hg (N := 11) ?hd (xs := ([] : List Int)) (inner := []) (ok := fun _ => True) (okp := fun _ => True) ?hr ?hp (fun _ hk => hk) trivial (Below.refl _ _) (Nat.le_refl _) (by simp) ?_; (case hd => rfl); (case hg => rfl); (case hr => first | (go_simp; done) | (go_simp; rfl)); (case hp => exact (Reps.none _ _))
               intro v158 w10 ho11 hb hg_ hnew_
               clear hg_ hnew_
               (first | rw [← Ny157.out] at ho11 | (simp only [Int.reduceToNat] at ho11; rw [← Ny157.out] at ho11))
               have n0_ := Aside0.mk (Kd.R_elder' (kR_ HO153.out) (Kd.R_base ho11) hb); have n1_ := Aside0.mk (Kd.R_lower (Kd.R_new' ho11 (Kd.R_lt (kR_ HO153.out))) (below_size (hbA_ HB.out))); have n2_ := (bbA_ BK149 hb); have n3_ := (bbA_ BK150 hb); have n4_ := (bs_ HB hb); clear HO153 BK149 BK150 HB; have HO153 := n0_; have HO159 := n1_; have BK149 := n2_; have BK150 := n3_; have HB := n4_; clear n0_ n1_ n2_ n3_ n4_ hb ho11
               refine hK.out _ _ (cz4 BK149.out) (fun hHeld => ?_)
               clear hK K; refine nm_ 11 ?_
               exact norm_ (by first | (simp only [putAll, Act.put, List.setIfInBounds_toArray, List.set_cons_zero, List.set_cons_succ]; done) | (simp only [putAll, Act.put, List.setIfInBounds_toArray, List.set_cons_zero, List.set_cons_succ]; rfl)) (hJ2_6 (v152, v158) _ ⟨hHeld, (by refine kR_ ?_; first | exact Kd.R_mono HO153.out (fun _ hk => hk.2) | exact Kd.R_mono HO153.out (fun _ _ => trivial)), (by refine kR_ ?_; first | exact Kd.R_mono HO159.out (fun _ hk => hk.2) | exact Kd.R_mono HO159.out (fun _ _ => trivial)), (kb_ BK149.out), (kb_ BK150.out), (hbA_ HB.out)⟩)
              ·skip
               refine box_step ?hg (N := 3) ?hd (cs := #[.int .i64 0, .slice none 0 0, .slice none 0 0, .slice none 0 0]) (t := 30) ?hr ?_; (case hd => rfl); (case hg => rfl); (case hr => first | (go_simp; done) | (go_simp; rfl))
               intro gb163 hg w10 hbox hb
               have n0_ := Aside0.mk (Kd.R_below (kR_ HO153.out) hb); have n1_ := (bbA_ BK149 hb); have n2_ := (bbA_ BK150 hb); have n3_ := (bs_ HB hb); have n4_ := Aside0.mk (hbox); have n5_ := ge_ hg HB; have n6_ := ge_ hg HB; have n7_ := nl_ hg BK149; have n8_ := ng_ hg BK149; have n9_ := nl_ hg BK150; have n10_ := ng_ hg BK150; clear HO153 BK149 BK150 HB; have HO153 := n0_; have BK149 := n1_; have BK150 := n2_; have HB := n3_; have BK163 := n4_; have GW163 := n5_; have GE163 := n6_; have NB149_163 := n7_; have NB163_149 := n8_; have NB150_163 := n9_; have NB163_150 := n10_; clear n0_ n1_ n2_ n3_ n4_ n5_ n6_ n7_ n8_ n9_ n10_ hb hbox hg
               refine hK.out _ _ (cz4 BK149.out) (fun hHeld => ?_)
               clear hK K; refine nm_ 3 ?_
               exact norm_ (by first | (simp only [putAll, Act.put, List.setIfInBounds_toArray, List.set_cons_zero, List.set_cons_succ]; done) | (simp only [putAll, Act.put, List.setIfInBounds_toArray, List.set_cons_zero, List.set_cons_succ]; rfl)) (hJ2_11 (v152, gb163) _ ⟨hHeld, (kR_ HO153.out), (kb_ BK149.out), (kb_ BK150.out), (kb_ BK163.out), GW163.out, GE163.out, NB149_163.out, NB163_149.out, NB150_163.out, NB163_150.out, (hbA_ HB.out)⟩)
            ·skip
             rintro ⟨v158, gb163⟩ w10 ⟨hS_, h0_, h1_, h2_, h3_, h4_, h5_, h6_, h7_, h8_, h9_, h10_⟩
             have n0_ : Aside0 (Kd.R (Kd.int .i64) 3 w10 w.heap.size (fun _ => True) v158 y157) := ⟨h0_⟩
             have n1_ : Aside0 (w10.heap[gb149]? = some (.cells #[.int .i64 a0_0, .slice A0_1 l0_1.length c0_1, .slice A0_2 l0_2.length c0_2, .slice A0_3 l0_3.length c0_3] 30 (0, 0))) := ⟨h1_⟩
             have n2_ : Aside0 (w10.heap[gb150]? = some (.cells #[.int .i64 0, .slice none 0 0, .slice none 0 0, .slice none 0 0] 30 (0, 0))) := ⟨h2_⟩
             have n3_ : Aside0 (w10.heap[gb163]? = some (.cells #[.int .i64 0, .slice none 0 0, .slice none 0 0, .slice none 0 0] 30 (0, 0))) := ⟨h3_⟩
             have n4_ : Aside0 (w.heap.size ≤ gb163) := ⟨h4_⟩
             have n5_ : Aside0 (w.heap.size ≤ gb163) := ⟨h5_⟩
             have n6_ : Aside0 (gb149 ≠ gb163) := ⟨h6_⟩
             have n7_ : Aside0 (gb163 ≠ gb149) := ⟨h7_⟩
             have n8_ : Aside0 (gb150 ≠ gb163) := ⟨h8_⟩
             have n9_ : Aside0 (gb163 ≠ gb150) := ⟨h9_⟩
             have n10_ : Aside0 (Below w.heap.size w w10) := ⟨h10_⟩
             clear BK149 BK150 HB h0_ h1_ h2_ h3_ h4_ h5_ h6_ h7_ h8_ h9_ h10_; have HO159 := n0_; have BK149 := n1_; have BK150 := n2_; have BK163 := n3_; have GW163 := n4_; have GE163 := n5_; have NB149_163 := n6_; have NB163_149 := n7_; have NB150_163 := n8_; have NB163_150 := n9_; have HB := n10_; clear n0_ n1_ n2_ n3_ n4_ n5_ n6_ n7_ n8_ n9_ n10_
             have hHeld : w10.cell? ⟨gb149, 0, none⟩ = some (.int .i64 a0_0) ∧ w10.cell? ⟨gb149, 1, none⟩ = some (.slice A0_1 l0_1.length c0_1) ∧ w10.cell? ⟨gb149, 2, none⟩ = some (.slice A0_2 l0_2.length c0_2) ∧ w10.cell? ⟨gb149, 3, none⟩ = some (.slice A0_3 l0_3.length c0_3) := hS_
             refine norm_ (a' := ?_) ?_ ?_
             rotate_left
             ·simp only [putAll, Act.put, List.setIfInBounds_toArray, List.set_cons_zero, List.set_cons_succ]
              rfl
             refine on_ (i := 2) (N := some 7) HT_ (fun K hK => ?_)
             refine Kd.R_lit_step (Kd.int .i64) _ 3 ?hg (N := 7) ?hd (xs := ([] : List Int)) (inner := []) (ok := fun _ => True) (okp := fun _ => True) ?hr ?hp (fun _ hk => hk) trivial (Below.refl _ _) (Nat.le_refl _) (by simp) ?_; (case hd => rfl); (case hg => rfl); (case hr => first | (go_simp; done) | (go_simp; rfl)); (case hp => exact (Reps.none _ _))
             intro v152 w11 ho12 hb hg_ hnew_
             clear hg_ hnew_
             (first | rw [← Ny151.out] at ho12 | (simp only [Int.reduceToNat] at ho12; rw [← Ny151.out] at ho12))
             have n0_ := Aside0.mk (Kd.R_elder' (kR_ HO159.out) (Kd.R_base ho12) hb); have n1_ := Aside0.mk (Kd.R_lower (Kd.R_new' ho12 (Kd.R_lt (kR_ HO159.out))) (below_size (hbA_ HB.out))); have n2_ := (bbA_ BK149 hb); have n3_ := (bbA_ BK150 hb); have n4_ := (bbA_ BK163 hb); have n5_ := (bs_ HB hb); clear HO159 BK149 BK150 BK163 HB; have HO159 := n0_; have HO153 := n1_; have BK149 := n2_; have BK150 := n3_; have BK163 := n4_; have HB := n5_; clear n0_ n1_ n2_ n3_ n4_ n5_ hb ho12
             refine hK.out _ _ (cz4 BK149.out) (fun hHeld => ?_)
             clear hK K; refine nm_ 7 ?_
             exact norm_ (by first | (simp only [putAll, Act.put, List.setIfInBounds_toArray, List.set_cons_zero, List.set_cons_succ]; done) | (simp only [putAll, Act.put, List.setIfInBounds_toArray, List.set_cons_zero, List.set_cons_succ]; rfl)) (hJ2_6_11 (v152, v158, gb163) _ ⟨hHeld, (by refine kR_ ?_; first | exact Kd.R_mono HO153.out (fun _ hk => hk.2) | exact Kd.R_mono HO153.out (fun _ _ => trivial)), (by refine kR_ ?_; first | exact Kd.R_mono HO159.out (fun _ hk => hk.2) | exact Kd.R_mono HO159.out (fun _ _ => trivial)), (kb_ BK149.out), (kb_ BK150.out), (kb_ BK163.out), GW163.out, GE163.out, NB149_163.out, NB163_149.out, NB150_163.out, NB163_150.out, (hbA_ HB.out)⟩)
           ·skip
            rintro ⟨v152, gb163⟩ w10 ⟨hS_, h0_, h1_, h2_, h3_, h4_, h5_, h6_, h7_, h8_, h9_, h10_⟩
            have n0_ : Aside0 (Kd.R (Kd.int .i64) 3 w10 w.heap.size (fun _ => True) v152 y151) := ⟨h0_⟩
            have n1_ : Aside0 (w10.heap[gb149]? = some (.cells #[.int .i64 a0_0, .slice A0_1 l0_1.length c0_1, .slice A0_2 l0_2.length c0_2, .slice A0_3 l0_3.length c0_3] 30 (0, 0))) := ⟨h1_⟩
            have n2_ : Aside0 (w10.heap[gb150]? = some (.cells #[.int .i64 0, .slice none 0 0, .slice none 0 0, .slice none 0 0] 30 (0, 0))) := ⟨h2_⟩
            have n3_ : Aside0 (w10.heap[gb163]? = some (.cells #[.int .i64 0, .slice none 0 0, .slice none 0 0, .slice none 0 0] 30 (0, 0))) := ⟨h3_⟩
            have n4_ : Aside0 (w.heap.size ≤ gb163) := ⟨h4_⟩
            have n5_ : Aside0 (w.heap.size ≤ gb163) := ⟨h5_⟩
            have n6_ : Aside0 (gb149 ≠ gb163) := ⟨h6_⟩
            have n7_ : Aside0 (gb163 ≠ gb149) := ⟨h7_⟩
            have n8_ : Aside0 (gb150 ≠ gb163) := ⟨h8_⟩
            have n9_ : Aside0 (gb163 ≠ gb150) := ⟨h9_⟩
            have n10_ : Aside0 (Below w.heap.size w w10) := ⟨h10_⟩
            clear BK149 BK150 HB h0_ h1_ h2_ h3_ h4_ h5_ h6_ h7_ h8_ h9_ h10_; have HO153 := n0_; have BK149 := n1_; have BK150 := n2_; have BK163 := n3_; have GW163 := n4_; have GE163 := n5_; have NB149_163 := n6_; have NB163_149 := n7_; have NB150_163 := n8_; have NB163_150 := n9_; have HB := n10_; clear n0_ n1_ n2_ n3_ n4_ n5_ n6_ n7_ n8_ n9_ n10_
            have hHeld : w10.cell? ⟨gb149, 0, none⟩ = some (.int .i64 a0_0) ∧ w10.cell? ⟨gb149, 1, none⟩ = some (.slice A0_1 l0_1.length c0_1) ∧ w10.cell? ⟨gb149, 2, none⟩ = some (.slice A0_2 l0_2.length c0_2) ∧ w10.cell? ⟨gb149, 3, none⟩ = some (.slice A0_3 l0_3.length c0_3) := hS_
            refine norm_ (a' := ?_) ?_ ?_
            rotate_left
            ·simp only [putAll, Act.put, List.setIfInBounds_toArray, List.set_cons_zero, List.set_cons_succ]
             rfl
            refine two_ (i := 5) (j := 6) (Ni := some 10) (Nj := some 11) #[true, true, true, true, true, true, false, true, true, false, false, true, false] #[true, true, true, true, true, false, true, true, true, false, false, true, false] rfl rfl rfl rfl (two_of HT_.out (by kernel_rfl)) (by decide) (by decide) (fun K hK => ?_) (fun K hK => ?_)
            ·skip
             refine Kd.R_append_rows_step (Kd.int .i64) (w0 := w) w.heap.size (by rfl) (.tmp 7) (.tmp 9) 22 3 (.int .i64 0) 8 rfl Try.underlying22 info3 rfl (by decide) (by omega) v152 y151 l0_1 _ _ _ (fun _ => True) (fun _ => False) rfl rfl ?aO ?aR (fun _ _ h => h) (fun _ h => h.elim) ?aF ?aB ?aS ?aL ?_
             (case aR => exact kC_ (Kd.C_below HR0_1.out HB.out))
             (case aB => exact (hbA_ HB.out))
             (case aF => exact (fun _ _ => trivial))
             (case aO => exact (kR_ HO153.out))
             (case aS => exact (below_size (hbA_ HB.out)))
             (case aL => have := LMc2.out; omega)
             intro v155 w11 ho hb hg hat
             rw [← Ny154.out] at ho
             have n0_ := (bgA_ BK149 hg (Kd.R_ne HO153.out BK149.out (by decide))); have n1_ := (bgA_ BK150 hg (Kd.R_ne HO153.out BK150.out (by decide))); have n2_ := (bgA_ BK163 hg (Kd.R_ne HO153.out BK163.out (by decide))); have n3_ := Aside0.mk (hb); have n4_ := Aside0.mk (ho); clear BK149 BK150 BK163 HB HO153; have BK149 := n0_; have BK150 := n1_; have BK163 := n2_; have HB := n3_; have HO156 := n4_; clear n0_ n1_ n2_ n3_ n4_ ho hb hg hat
             refine hK.out _ _ (cz4 BK149.out) (fun hHeld => ?_)
             clear hK K; refine nm_ 10 ?_
             exact norm_ (by first | (simp only [putAll, Act.put, List.setIfInBounds_toArray, List.set_cons_zero, List.set_cons_succ]; done) | (simp only [putAll, Act.put, List.setIfInBounds_toArray, List.set_cons_zero, List.set_cons_succ]; rfl)) (hJ2_5_11 (v152, v155, gb163) _ ⟨hHeld, (kR_ HO156.out), (kb_ BK149.out), (kb_ BK150.out), (kb_ BK163.out), GW163.out, GE163.out, NB149_163.out, NB163_149.out, NB150_163.out, NB163_150.out, (hbA_ HB.out)⟩)
            ·skip
             refine Kd.R_lit_step (Kd.int .i64) _ 3 ?hg (N := 11) ?hd (xs := ([] : List Int)) (inner := []) (ok := fun _ => True) (okp := fun _ => True) ?hr ?hp (fun _ hk => hk) trivial (Below.refl _ _) (Nat.le_refl _) (by simp) ?_; (case hd => rfl); (case hg => rfl); (case hr => first | (go_simp; done) | (go_simp; rfl)); (case hp => exact (Reps.none _ _))
             intro v158 w11 ho12 hb hg_ hnew_
             clear hg_ hnew_
             (first | rw [← Ny157.out] at ho12 | (simp only [Int.reduceToNat] at ho12; rw [← Ny157.out] at ho12))
             have n0_ := Aside0.mk (Kd.R_elder' (kR_ HO153.out) (Kd.R_base ho12) hb); have n1_ := Aside0.mk (Kd.R_lower (Kd.R_new' ho12 (Kd.R_lt (kR_ HO153.out))) (below_size (hbA_ HB.out))); have n2_ := (bbA_ BK149 hb); have n3_ := (bbA_ BK150 hb); have n4_ := (bbA_ BK163 hb); have n5_ := (bs_ HB hb); clear HO153 BK149 BK150 BK163 HB; have HO153 := n0_; have HO159 := n1_; have BK149 := n2_; have BK150 := n3_; have BK163 := n4_; have HB := n5_; clear n0_ n1_ n2_ n3_ n4_ n5_ hb ho12
             refine hK.out _ _ (cz4 BK149.out) (fun hHeld => ?_)
             clear hK K; refine nm_ 11 ?_
             exact norm_ (by first | (simp only [putAll, Act.put, List.setIfInBounds_toArray, List.set_cons_zero, List.set_cons_succ]; done) | (simp only [putAll, Act.put, List.setIfInBounds_toArray, List.set_cons_zero, List.set_cons_succ]; rfl)) (hJ2_6_11 (v152, v158, gb163) _ ⟨hHeld, (by refine kR_ ?_; first | exact Kd.R_mono HO153.out (fun _ hk => hk.2) | exact Kd.R_mono HO153.out (fun _ _ => trivial)), (by refine kR_ ?_; first | exact Kd.R_mono HO159.out (fun _ hk => hk.2) | exact Kd.R_mono HO159.out (fun _ _ => trivial)), (kb_ BK149.out), (kb_ BK150.out), (kb_ BK163.out), GW163.out, GE163.out, NB149_163.out, NB163_149.out, NB150_163.out, NB163_150.out, (hbA_ HB.out)⟩)
          ·skip
           rintro ⟨v152, v158⟩ w11 ⟨hS_, h0_, h1_, h2_, h3_, h4_⟩
           have n0_ : Aside0 (Kd.R (Kd.int .i64) 3 w11 w.heap.size (fun k_ => some k_ ≠ (v158 : Value).ownBlock) v152 y151) := ⟨h0_⟩
           have n1_ : Aside0 (Kd.R (Kd.int .i64) 3 w11 w.heap.size (fun k_ => some k_ ≠ (v152 : Value).ownBlock) v158 y157) := ⟨h1_⟩
           have n2_ : Aside0 (w11.heap[gb149]? = some (.cells #[.int .i64 a0_0, .slice A0_1 l0_1.length c0_1, .slice A0_2 l0_2.length c0_2, .slice A0_3 l0_3.length c0_3] 30 (0, 0))) := ⟨h2_⟩
           have n3_ : Aside0 (w11.heap[gb150]? = some (.cells #[.int .i64 0, .slice none 0 0, .slice none 0 0, .slice none 0 0] 30 (0, 0))) := ⟨h3_⟩
           have n4_ : Aside0 (Below w.heap.size w w11) := ⟨h4_⟩
           clear BK149 BK150 HB h0_ h1_ h2_ h3_ h4_; have HO153 := n0_; have HO159 := n1_; have BK149 := n2_; have BK150 := n3_; have HB := n4_; clear n0_ n1_ n2_ n3_ n4_
           have hHeld : w11.cell? ⟨gb149, 0, none⟩ = some (.int .i64 a0_0) ∧ w11.cell? ⟨gb149, 1, none⟩ = some (.slice A0_1 l0_1.length c0_1) ∧ w11.cell? ⟨gb149, 2, none⟩ = some (.slice A0_2 l0_2.length c0_2) ∧ w11.cell? ⟨gb149, 3, none⟩ = some (.slice A0_3 l0_3.length c0_3) := hS_
           refine norm_ (a' := ?_) ?_ ?_
           rotate_left
           ·simp only [putAll, Act.put, List.setIfInBounds_toArray, List.set_cons_zero, List.set_cons_succ]
            rfl
           refine two_ (i := 5) (j := 11) (Ni := some 10) (Nj := some 3) #[true, true, true, true, true, true, true, true, true, false, false, false, false] #[true, true, true, true, true, false, true, true, true, false, false, true, false] rfl rfl rfl rfl (two_of HT_.out (by kernel_rfl)) (by decide) (by decide) (fun K hK => ?_) (fun K hK => ?_)
           ·skip
            refine Kd.R_append_rows_step (Kd.int .i64) (w0 := w) w.heap.size (by rfl) (.tmp 7) (.tmp 9) 22 3 (.int .i64 0) 8 rfl Try.underlying22 info3 rfl (by decide) (by omega) v152 y151 l0_1 _ _ _ (fun k_ => some k_ ≠ (v158 : Value).ownBlock) (fun _ => False) rfl rfl ?aO ?aR (fun _ _ h => h) (fun _ h => h.elim) ?aF ?aB ?aS ?aL ?_
            (case aR => exact kC_ (Kd.C_below HR0_1.out HB.out))
            (case aB => exact (hbA_ HB.out))
            (case aF => exact (fun k_ hk => Kd.fresh' (Kd.R_lt (kR_ HO159.out)) k_ hk))
            (case aO => exact (kR_ HO153.out))
            (case aS => exact (below_size (hbA_ HB.out)))
            (case aL => have := LMc2.out; omega)
            intro v155 w12 ho hb hg hat
            rw [← Ny154.out] at ho
            have n0_ := (bgA_ BK149 hg (Kd.R_ne HO153.out BK149.out (by decide))); have n1_ := (bgA_ BK150 hg (Kd.R_ne HO153.out BK150.out (by decide))); have n2_ := Aside0.mk (Kd.R_after (ok := (fun _ => True)) (by refine kR_ ?_; exact Kd.R_mono HO159.out (fun _ hk => ⟨trivial, hk⟩)) hg hat); have n3_ := Aside0.mk (hb); have n4_ := Aside0.mk (ho); clear BK149 BK150 HO159 HB HO153; have BK149 := n0_; have BK150 := n1_; have HO159 := n2_; have HB := n3_; have HO156 := n4_; clear n0_ n1_ n2_ n3_ n4_ ho hb hg hat
            refine hK.out _ _ (cz4 BK149.out) (fun hHeld => ?_)
            clear hK K; refine nm_ 10 ?_
            exact norm_ (by first | (simp only [putAll, Act.put, List.setIfInBounds_toArray, List.set_cons_zero, List.set_cons_succ]; done) | (simp only [putAll, Act.put, List.setIfInBounds_toArray, List.set_cons_zero, List.set_cons_succ]; rfl)) (hJ2_5_6 (v152, v155, v158) _ ⟨hHeld, (kR_ HO156.out), (by refine kR_ ?_; first | exact Kd.R_mono HO159.out (fun _ hk => hk.2) | exact Kd.R_mono HO159.out (fun _ _ => trivial)), (kb_ BK149.out), (kb_ BK150.out), (hbA_ HB.out)⟩)
           ·skip
            refine box_step ?hg (N := 3) ?hd (cs := #[.int .i64 0, .slice none 0 0, .slice none 0 0, .slice none 0 0]) (t := 30) ?hr ?_; (case hd => rfl); (case hg => rfl); (case hr => first | (go_simp; done) | (go_simp; rfl))
            intro gb163 hg w12 hbox hb
            have n0_ := Aside0.mk (Kd.R_below (kR_ HO153.out) hb); have n1_ := Aside0.mk (Kd.R_below (kR_ HO159.out) hb); have n2_ := (bbA_ BK149 hb); have n3_ := (bbA_ BK150 hb); have n4_ := (bs_ HB hb); have n5_ := Aside0.mk (hbox); have n6_ := ge_ hg HB; have n7_ := ge_ hg HB; have n8_ := nl_ hg BK149; have n9_ := ng_ hg BK149; have n10_ := nl_ hg BK150; have n11_ := ng_ hg BK150; clear HO153 HO159 BK149 BK150 HB; have HO153 := n0_; have HO159 := n1_; have BK149 := n2_; have BK150 := n3_; have HB := n4_; have BK163 := n5_; have GW163 := n6_; have GE163 := n7_; have NB149_163 := n8_; have NB163_149 := n9_; have NB150_163 := n10_; have NB163_150 := n11_; clear n0_ n1_ n2_ n3_ n4_ n5_ n6_ n7_ n8_ n9_ n10_ n11_ hb hbox hg
            refine hK.out _ _ (cz4 BK149.out) (fun hHeld => ?_)
            clear hK K; refine nm_ 3 ?_
            exact norm_ (by first | (simp only [putAll, Act.put, List.setIfInBounds_toArray, List.set_cons_zero, List.set_cons_succ]; done) | (simp only [putAll, Act.put, List.setIfInBounds_toArray, List.set_cons_zero, List.set_cons_succ]; rfl)) (hJ2_6_11 (v152, v158, gb163) _ ⟨hHeld, (kR_ HO153.out), (kR_ HO159.out), (kb_ BK149.out), (kb_ BK150.out), (kb_ BK163.out), GW163.out, GE163.out, NB149_163.out, NB163_149.out, NB150_163.out, NB163_150.out, (hbA_ HB.out)⟩)
         ·skip
          rintro ⟨v152, v155⟩ w10 ⟨hS_, h0_, h1_, h2_, h3_⟩
          have n0_ : Aside0 (Kd.R (Kd.int .i64) 3 w10 w.heap.size (fun _ => True) v155 y154) := ⟨h0_⟩
          have n1_ : Aside0 (w10.heap[gb149]? = some (.cells #[.int .i64 a0_0, .slice A0_1 l0_1.length c0_1, .slice A0_2 l0_2.length c0_2, .slice A0_3 l0_3.length c0_3] 30 (0, 0))) := ⟨h1_⟩
          have n2_ : Aside0 (w10.heap[gb150]? = some (.cells #[.int .i64 0, .slice none 0 0, .slice none 0 0, .slice none 0 0] 30 (0, 0))) := ⟨h2_⟩
          have n3_ : Aside0 (Below w.heap.size w w10) := ⟨h3_⟩
          clear BK149 BK150 HB h0_ h1_ h2_ h3_; have HO156 := n0_; have BK149 := n1_; have BK150 := n2_; have HB := n3_; clear n0_ n1_ n2_ n3_
          have hHeld : w10.cell? ⟨gb149, 0, none⟩ = some (.int .i64 a0_0) ∧ w10.cell? ⟨gb149, 1, none⟩ = some (.slice A0_1 l0_1.length c0_1) ∧ w10.cell? ⟨gb149, 2, none⟩ = some (.slice A0_2 l0_2.length c0_2) ∧ w10.cell? ⟨gb149, 3, none⟩ = some (.slice A0_3 l0_3.length c0_3) := hS_
          refine norm_ (a' := ?_) ?_ ?_
          rotate_left
          ·simp only [putAll, Act.put, List.setIfInBounds_toArray, List.set_cons_zero, List.set_cons_succ]
           rfl
          refine two_ (i := 6) (j := 11) (Ni := some 11) (Nj := some 3) #[true, true, true, true, true, true, true, true, true, false, false, false, false] #[true, true, true, true, true, true, false, true, true, false, false, true, false] rfl rfl rfl rfl (two_of HT_.out (by kernel_rfl)) (by decide) (by decide) (fun K hK => ?_) (fun K hK => ?_)
          ·skip
           refine Kd.R_lit_step (Kd.int .i64) _ 3 ?hg (N := 11) ?hd (xs := ([] : List Int)) (inner := []) (ok := fun _ => True) (okp := fun _ => True) ?hr ?hp (fun _ hk => hk) trivial (Below.refl _ _) (Nat.le_refl _) (by simp) ?_; (case hd => rfl); (case hg => rfl); (case hr => first | (go_simp; done) | (go_simp; rfl)); (case hp => exact (Reps.none _ _))
           intro v158 w11 ho12 hb hg_ hnew_
           clear hg_ hnew_
           (first | rw [← Ny157.out] at ho12 | (simp only [Int.reduceToNat] at ho12; rw [← Ny157.out] at ho12))
           have n0_ := Aside0.mk (Kd.R_elder' (kR_ HO156.out) (Kd.R_base ho12) hb); have n1_ := Aside0.mk (Kd.R_lower (Kd.R_new' ho12 (Kd.R_lt (kR_ HO156.out))) (below_size (hbA_ HB.out))); have n2_ := (bbA_ BK149 hb); have n3_ := (bbA_ BK150 hb); have n4_ := (bs_ HB hb); clear HO156 BK149 BK150 HB; have HO156 := n0_; have HO159 := n1_; have BK149 := n2_; have BK150 := n3_; have HB := n4_; clear n0_ n1_ n2_ n3_ n4_ hb ho12
           refine hK.out _ _ (cz4 BK149.out) (fun hHeld => ?_)
           clear hK K; refine nm_ 11 ?_
           exact norm_ (by first | (simp only [putAll, Act.put, List.setIfInBounds_toArray, List.set_cons_zero, List.set_cons_succ]; done) | (simp only [putAll, Act.put, List.setIfInBounds_toArray, List.set_cons_zero, List.set_cons_succ]; rfl)) (hJ2_5_6 (v152, v155, v158) _ ⟨hHeld, (by refine kR_ ?_; first | exact Kd.R_mono HO156.out (fun _ hk => hk.2) | exact Kd.R_mono HO156.out (fun _ _ => trivial)), (by refine kR_ ?_; first | exact Kd.R_mono HO159.out (fun _ hk => hk.2) | exact Kd.R_mono HO159.out (fun _ _ => trivial)), (kb_ BK149.out), (kb_ BK150.out), (hbA_ HB.out)⟩)
          ·skip
           refine box_step ?hg (N := 3) ?hd (cs := #[.int .i64 0, .slice none 0 0, .slice none 0 0, .slice none 0 0]) (t := 30) ?hr ?_; (case hd => rfl); (case hg => rfl); (case hr => first | (go_simp; done) | (go_simp; rfl))
           intro gb163 hg w11 hbox hb
           have n0_ := Aside0.mk (Kd.R_below (kR_ HO156.out) hb); have n1_ := (bbA_ BK149 hb); have n2_ := (bbA_ BK150 hb); have n3_ := (bs_ HB hb); have n4_ := Aside0.mk (hbox); have n5_ := ge_ hg HB; have n6_ := ge_ hg HB; have n7_ := nl_ hg BK149; have n8_ := ng_ hg BK149; have n9_ := nl_ hg BK150; have n10_ := ng_ hg BK150; clear HO156 BK149 BK150 HB; have HO156 := n0_; have BK149 := n1_; have BK150 := n2_; have HB := n3_; have BK163 := n4_; have GW163 := n5_; have GE163 := n6_; have NB149_163 := n7_; have NB163_149 := n8_; have NB150_163 := n9_; have NB163_150 := n10_; clear n0_ n1_ n2_ n3_ n4_ n5_ n6_ n7_ n8_ n9_ n10_ hb hbox hg
           refine hK.out _ _ (cz4 BK149.out) (fun hHeld => ?_)
           clear hK K; refine nm_ 3 ?_
           exact norm_ (by first | (simp only [putAll, Act.put, List.setIfInBounds_toArray, List.set_cons_zero, List.set_cons_succ]; done) | (simp only [putAll, Act.put, List.setIfInBounds_toArray, List.set_cons_zero, List.set_cons_succ]; rfl)) (hJ2_5_11 (v152, v155, gb163) _ ⟨hHeld, (kR_ HO156.out), (kb_ BK149.out), (kb_ BK150.out), (kb_ BK163.out), GW163.out, GE163.out, NB149_163.out, NB163_149.out, NB150_163.out, NB163_150.out, (hbA_ HB.out)⟩)
        ·skip
         rintro ⟨v152, v158, gb163⟩ w12 ⟨hS_, h0_, h1_, h2_, h3_, h4_, h5_, h6_, h7_, h8_, h9_, h10_, h11_⟩
         have n0_ : Aside0 (Kd.R (Kd.int .i64) 3 w12 w.heap.size (fun k_ => some k_ ≠ (v158 : Value).ownBlock) v152 y151) := ⟨h0_⟩
         have n1_ : Aside0 (Kd.R (Kd.int .i64) 3 w12 w.heap.size (fun k_ => some k_ ≠ (v152 : Value).ownBlock) v158 y157) := ⟨h1_⟩
         have n2_ : Aside0 (w12.heap[gb149]? = some (.cells #[.int .i64 a0_0, .slice A0_1 l0_1.length c0_1, .slice A0_2 l0_2.length c0_2, .slice A0_3 l0_3.length c0_3] 30 (0, 0))) := ⟨h2_⟩
         have n3_ : Aside0 (w12.heap[gb150]? = some (.cells #[.int .i64 0, .slice none 0 0, .slice none 0 0, .slice none 0 0] 30 (0, 0))) := ⟨h3_⟩
         have n4_ : Aside0 (w12.heap[gb163]? = some (.cells #[.int .i64 0, .slice none 0 0, .slice none 0 0, .slice none 0 0] 30 (0, 0))) := ⟨h4_⟩
         have n5_ : Aside0 (w.heap.size ≤ gb163) := ⟨h5_⟩
         have n6_ : Aside0 (w.heap.size ≤ gb163) := ⟨h6_⟩
         have n7_ : Aside0 (gb149 ≠ gb163) := ⟨h7_⟩
         have n8_ : Aside0 (gb163 ≠ gb149) := ⟨h8_⟩
         have n9_ : Aside0 (gb150 ≠ gb163) := ⟨h9_⟩
         have n10_ : Aside0 (gb163 ≠ gb150) := ⟨h10_⟩
         have n11_ : Aside0 (Below w.heap.size w w12) := ⟨h11_⟩
         clear BK149 BK150 HB h0_ h1_ h2_ h3_ h4_ h5_ h6_ h7_ h8_ h9_ h10_ h11_; have HO153 := n0_; have HO159 := n1_; have BK149 := n2_; have BK150 := n3_; have BK163 := n4_; have GW163 := n5_; have GE163 := n6_; have NB149_163 := n7_; have NB163_149 := n8_; have NB150_163 := n9_; have NB163_150 := n10_; have HB := n11_; clear n0_ n1_ n2_ n3_ n4_ n5_ n6_ n7_ n8_ n9_ n10_ n11_
         have hHeld : w12.cell? ⟨gb149, 0, none⟩ = some (.int .i64 a0_0) ∧ w12.cell? ⟨gb149, 1, none⟩ = some (.slice A0_1 l0_1.length c0_1) ∧ w12.cell? ⟨gb149, 2, none⟩ = some (.slice A0_2 l0_2.length c0_2) ∧ w12.cell? ⟨gb149, 3, none⟩ = some (.slice A0_3 l0_3.length c0_3) := hS_
         refine norm_ (a' := ?_) ?_ ?_
         rotate_left
         ·simp only [putAll, Act.put, List.setIfInBounds_toArray, List.set_cons_zero, List.set_cons_succ]
          rfl
         refine on_ (i := 5) (N := some 10) HT_ (fun K hK => ?_)
         refine Kd.R_append_rows_step (Kd.int .i64) (w0 := w) w.heap.size (by rfl) (.tmp 7) (.tmp 9) 22 3 (.int .i64 0) 8 rfl Try.underlying22 info3 rfl (by decide) (by omega) v152 y151 l0_1 _ _ _ (fun k_ => some k_ ≠ (v158 : Value).ownBlock) (fun _ => False) rfl rfl ?aO ?aR (fun _ _ h => h) (fun _ h => h.elim) ?aF ?aB ?aS ?aL ?_
         (case aR => exact kC_ (Kd.C_below HR0_1.out HB.out))
         (case aB => exact (hbA_ HB.out))
         (case aF => exact (fun k_ hk => Kd.fresh' (Kd.R_lt (kR_ HO159.out)) k_ hk))
         (case aO => exact (kR_ HO153.out))
         (case aS => exact (below_size (hbA_ HB.out)))
         (case aL => have := LMc2.out; omega)
         intro v155 w13 ho hb hg hat
         rw [← Ny154.out] at ho
         have n0_ := (bgA_ BK149 hg (Kd.R_ne HO153.out BK149.out (by decide))); have n1_ := (bgA_ BK150 hg (Kd.R_ne HO153.out BK150.out (by decide))); have n2_ := Aside0.mk (Kd.R_after (ok := (fun _ => True)) (by refine kR_ ?_; exact Kd.R_mono HO159.out (fun _ hk => ⟨trivial, hk⟩)) hg hat); have n3_ := (bgA_ BK163 hg (Kd.R_ne HO153.out BK163.out (by decide))); have n4_ := Aside0.mk (hb); have n5_ := Aside0.mk (ho); clear BK149 BK150 HO159 BK163 HB HO153; have BK149 := n0_; have BK150 := n1_; have HO159 := n2_; have BK163 := n3_; have HB := n4_; have HO156 := n5_; clear n0_ n1_ n2_ n3_ n4_ n5_ ho hb hg hat
         refine hK.out _ _ (cz4 BK149.out) (fun hHeld => ?_)
         clear hK K; refine nm_ 10 ?_
         exact norm_ (by first | (simp only [putAll, Act.put, List.setIfInBounds_toArray, List.set_cons_zero, List.set_cons_succ]; done) | (simp only [putAll, Act.put, List.setIfInBounds_toArray, List.set_cons_zero, List.set_cons_succ]; rfl)) (hJ2_5_6_11 (v152, v155, v158, gb163) _ ⟨hHeld, (kR_ HO156.out), (by refine kR_ ?_; first | exact Kd.R_mono HO159.out (fun _ hk => hk.2) | exact Kd.R_mono HO159.out (fun _ _ => trivial)), (kb_ BK149.out), (kb_ BK150.out), (kb_ BK163.out), GW163.out, GE163.out, NB149_163.out, NB163_149.out, NB150_163.out, NB163_150.out, (hbA_ HB.out)⟩)
       ·skip
        rintro ⟨v152, v155, gb163⟩ w11 ⟨hS_, h0_, h1_, h2_, h3_, h4_, h5_, h6_, h7_, h8_, h9_, h10_⟩
        have n0_ : Aside0 (Kd.R (Kd.int .i64) 3 w11 w.heap.size (fun _ => True) v155 y154) := ⟨h0_⟩
        have n1_ : Aside0 (w11.heap[gb149]? = some (.cells #[.int .i64 a0_0, .slice A0_1 l0_1.length c0_1, .slice A0_2 l0_2.length c0_2, .slice A0_3 l0_3.length c0_3] 30 (0, 0))) := ⟨h1_⟩
        have n2_ : Aside0 (w11.heap[gb150]? = some (.cells #[.int .i64 0, .slice none 0 0, .slice none 0 0, .slice none 0 0] 30 (0, 0))) := ⟨h2_⟩
        have n3_ : Aside0 (w11.heap[gb163]? = some (.cells #[.int .i64 0, .slice none 0 0, .slice none 0 0, .slice none 0 0] 30 (0, 0))) := ⟨h3_⟩
        have n4_ : Aside0 (w.heap.size ≤ gb163) := ⟨h4_⟩
        have n5_ : Aside0 (w.heap.size ≤ gb163) := ⟨h5_⟩
        have n6_ : Aside0 (gb149 ≠ gb163) := ⟨h6_⟩
        have n7_ : Aside0 (gb163 ≠ gb149) := ⟨h7_⟩
        have n8_ : Aside0 (gb150 ≠ gb163) := ⟨h8_⟩
        have n9_ : Aside0 (gb163 ≠ gb150) := ⟨h9_⟩
        have n10_ : Aside0 (Below w.heap.size w w11) := ⟨h10_⟩
        clear BK149 BK150 HB h0_ h1_ h2_ h3_ h4_ h5_ h6_ h7_ h8_ h9_ h10_; have HO156 := n0_; have BK149 := n1_; have BK150 := n2_; have BK163 := n3_; have GW163 := n4_; have GE163 := n5_; have NB149_163 := n6_; have NB163_149 := n7_; have NB150_163 := n8_; have NB163_150 := n9_; have HB := n10_; clear n0_ n1_ n2_ n3_ n4_ n5_ n6_ n7_ n8_ n9_ n10_
        have hHeld : w11.cell? ⟨gb149, 0, none⟩ = some (.int .i64 a0_0) ∧ w11.cell? ⟨gb149, 1, none⟩ = some (.slice A0_1 l0_1.length c0_1) ∧ w11.cell? ⟨gb149, 2, none⟩ = some (.slice A0_2 l0_2.length c0_2) ∧ w11.cell? ⟨gb149, 3, none⟩ = some (.slice A0_3 l0_3.length c0_3) := hS_
        refine norm_ (a' := ?_) ?_ ?_
        rotate_left
        ·simp only [putAll, Act.put, List.setIfInBounds_toArray, List.set_cons_zero, List.set_cons_succ]
         rfl
        refine on_ (i := 6) (N := some 11) HT_ (fun K hK => ?_)
        refine Kd.R_lit_step (Kd.int .i64) _ 3 ?hg (N := 11) ?hd (xs := ([] : List Int)) (inner := []) (ok := fun _ => True) (okp := fun _ => True) ?hr ?hp (fun _ hk => hk) trivial (Below.refl _ _) (Nat.le_refl _) (by simp) ?_; (case hd => rfl); (case hg => rfl); (case hr => first | (go_simp; done) | (go_simp; rfl)); (case hp => exact (Reps.none _ _))
        intro v158 w12 ho13 hb hg_ hnew_
        clear hg_ hnew_
        (first | rw [← Ny157.out] at ho13 | (simp only [Int.reduceToNat] at ho13; rw [← Ny157.out] at ho13))
        have n0_ := Aside0.mk (Kd.R_elder' (kR_ HO156.out) (Kd.R_base ho13) hb); have n1_ := Aside0.mk (Kd.R_lower (Kd.R_new' ho13 (Kd.R_lt (kR_ HO156.out))) (below_size (hbA_ HB.out))); have n2_ := (bbA_ BK149 hb); have n3_ := (bbA_ BK150 hb); have n4_ := (bbA_ BK163 hb); have n5_ := (bs_ HB hb); clear HO156 BK149 BK150 BK163 HB; have HO156 := n0_; have HO159 := n1_; have BK149 := n2_; have BK150 := n3_; have BK163 := n4_; have HB := n5_; clear n0_ n1_ n2_ n3_ n4_ n5_ hb ho13
        refine hK.out _ _ (cz4 BK149.out) (fun hHeld => ?_)
        clear hK K; refine nm_ 11 ?_
        exact norm_ (by first | (simp only [putAll, Act.put, List.setIfInBounds_toArray, List.set_cons_zero, List.set_cons_succ]; done) | (simp only [putAll, Act.put, List.setIfInBounds_toArray, List.set_cons_zero, List.set_cons_succ]; rfl)) (hJ2_5_6_11 (v152, v155, v158, gb163) _ ⟨hHeld, (by refine kR_ ?_; first | exact Kd.R_mono HO156.out (fun _ hk => hk.2) | exact Kd.R_mono HO156.out (fun _ _ => trivial)), (by refine kR_ ?_; first | exact Kd.R_mono HO159.out (fun _ hk => hk.2) | exact Kd.R_mono HO159.out (fun _ _ => trivial)), (kb_ BK149.out), (kb_ BK150.out), (kb_ BK163.out), GW163.out, GE163.out, NB149_163.out, NB163_149.out, NB150_163.out, NB163_150.out, (hbA_ HB.out)⟩)
      ·skip
       rintro ⟨v152, v155, v158⟩ w12 ⟨hS_, h0_, h1_, h2_, h3_, h4_⟩
       have n0_ : Aside0 (Kd.R (Kd.int .i64) 3 w12 w.heap.size (fun k_ => some k_ ≠ (v158 : Value).ownBlock) v155 y154) := ⟨h0_⟩
       have n1_ : Aside0 (Kd.R (Kd.int .i64) 3 w12 w.heap.size (fun k_ => some k_ ≠ (v155 : Value).ownBlock) v158 y157) := ⟨h1_⟩
       have n2_ : Aside0 (w12.heap[gb149]? = some (.cells #[.int .i64 a0_0, .slice A0_1 l0_1.length c0_1, .slice A0_2 l0_2.length c0_2, .slice A0_3 l0_3.length c0_3] 30 (0, 0))) := ⟨h2_⟩
       have n3_ : Aside0 (w12.heap[gb150]? = some (.cells #[.int .i64 0, .slice none 0 0, .slice none 0 0, .slice none 0 0] 30 (0, 0))) := ⟨h3_⟩
       have n4_ : Aside0 (Below w.heap.size w w12) := ⟨h4_⟩
       clear BK149 BK150 HB h0_ h1_ h2_ h3_ h4_; have HO156 := n0_; have HO159 := n1_; have BK149 := n2_; have BK150 := n3_; have HB := n4_; clear n0_ n1_ n2_ n3_ n4_
       have hHeld : w12.cell? ⟨gb149, 0, none⟩ = some (.int .i64 a0_0) ∧ w12.cell? ⟨gb149, 1, none⟩ = some (.slice A0_1 l0_1.length c0_1) ∧ w12.cell? ⟨gb149, 2, none⟩ = some (.slice A0_2 l0_2.length c0_2) ∧ w12.cell? ⟨gb149, 3, none⟩ = some (.slice A0_3 l0_3.length c0_3) := hS_
       refine norm_ (a' := ?_) ?_ ?_
       rotate_left
       ·simp only [putAll, Act.put, List.setIfInBounds_toArray, List.set_cons_zero, List.set_cons_succ]
        rfl
       refine two_ (i := 9) (j := 11) (Ni := some 14) (Nj := some 3) #[true, true, true, true, true, true, true, true, true, true, false, false, false] #[true, true, true, true, true, true, true, true, true, false, false, true, false] rfl rfl rfl rfl (two_of HT_.out (by kernel_rfl)) (by decide) (by decide) (fun K hK => ?_) (fun K hK => ?_)
       ·skip
        refine Kd.R_append_rows_step (Kd.int .i64) (w0 := w) w.heap.size (by rfl) (.tmp 11) (.tmp 13) 22 3 (.int .i64 0) 8 rfl Try.underlying22 info3 rfl (by decide) (by omega) v158 y157 l0_3 _ _ _ (fun k_ => some k_ ≠ (v155 : Value).ownBlock) (fun _ => False) rfl rfl ?aO ?aR (fun _ _ h => h) (fun _ h => h.elim) ?aF ?aB ?aS ?aL ?_
        (case aR => exact kC_ (Kd.C_below HR0_3.out HB.out))
        (case aB => exact (hbA_ HB.out))
        (case aF => exact (fun k_ hk => Kd.fresh' (Kd.R_lt (kR_ HO156.out)) k_ hk))
        (case aO => exact (kR_ HO159.out))
        (case aS => exact (below_size (hbA_ HB.out)))
        (case aL => have := LMc3.out; omega)
        intro v161 w13 ho hb hg hat
        rw [← Ny160.out] at ho
        have n0_ := (bgA_ BK149 hg (Kd.R_ne HO159.out BK149.out (by decide))); have n1_ := (bgA_ BK150 hg (Kd.R_ne HO159.out BK150.out (by decide))); have n2_ := Aside0.mk (Kd.R_after (ok := (fun _ => True)) (by refine kR_ ?_; exact Kd.R_mono HO156.out (fun _ hk => ⟨trivial, hk⟩)) hg hat); have n3_ := Aside0.mk (hb); have n4_ := Aside0.mk (ho); clear BK149 BK150 HO156 HB HO159; have BK149 := n0_; have BK150 := n1_; have HO156 := n2_; have HB := n3_; have HO162 := n4_; clear n0_ n1_ n2_ n3_ n4_ ho hb hg hat
        obtain ⟨Ao14, co14, eo14⟩ := Kd.R_slice HO162.out
        (first | subst eo14 | (injection eo14 with f1_ f2_ f3_; have f4_ := f1_.symm; have f5_ := f3_.symm; clear f1_ f2_ f3_; subst f4_; subst f5_))
        obtain ⟨Ao15, co15, eo15⟩ := Kd.R_slice HO156.out
        (first | subst eo15 | (injection eo15 with f1_ f2_ f3_; have f4_ := f1_.symm; have f5_ := f3_.symm; clear f1_ f2_ f3_; subst f4_; subst f5_))
        refine hK.out _ _ (cz4 BK149.out) (fun hHeld => ?_)
        clear hK K; refine nm_ 14 ?_; refine pu_ (i := 10) (N := some 15) HT_ ?_
        exact norm_ (by first | (simp only [putAll, Act.put, List.setIfInBounds_toArray, List.set_cons_zero, List.set_cons_succ]; done) | (simp only [putAll, Act.put, List.setIfInBounds_toArray, List.set_cons_zero, List.set_cons_succ]; rfl)) (hJ2_5_6_9 (v152, .slice Ao15 y154.length co15, v158, .slice Ao14 y160.length co14) _ ⟨hHeld, (by refine kR_ ?_; first | exact Kd.R_mono HO156.out (fun _ hk => hk.2) | exact Kd.R_mono HO156.out (fun _ _ => trivial)), (kR_ HO162.out), (kb_ BK149.out), (kb_ BK150.out), (hbA_ HB.out)⟩)
       ·skip
        refine box_step ?hg (N := 3) ?hd (cs := #[.int .i64 0, .slice none 0 0, .slice none 0 0, .slice none 0 0]) (t := 30) ?hr ?_; (case hd => rfl); (case hg => rfl); (case hr => first | (go_simp; done) | (go_simp; rfl))
        intro gb163 hg w13 hbox hb
        have n0_ := Aside0.mk (Kd.R_below (kR_ HO156.out) hb); have n1_ := Aside0.mk (Kd.R_below (kR_ HO159.out) hb); have n2_ := (bbA_ BK149 hb); have n3_ := (bbA_ BK150 hb); have n4_ := (bs_ HB hb); have n5_ := Aside0.mk (hbox); have n6_ := ge_ hg HB; have n7_ := ge_ hg HB; have n8_ := nl_ hg BK149; have n9_ := ng_ hg BK149; have n10_ := nl_ hg BK150; have n11_ := ng_ hg BK150; clear HO156 HO159 BK149 BK150 HB; have HO156 := n0_; have HO159 := n1_; have BK149 := n2_; have BK150 := n3_; have HB := n4_; have BK163 := n5_; have GW163 := n6_; have GE163 := n7_; have NB149_163 := n8_; have NB163_149 := n9_; have NB150_163 := n10_; have NB163_150 := n11_; clear n0_ n1_ n2_ n3_ n4_ n5_ n6_ n7_ n8_ n9_ n10_ n11_ hb hbox hg
        refine hK.out _ _ (cz4 BK149.out) (fun hHeld => ?_)
        clear hK K; refine nm_ 3 ?_
        exact norm_ (by first | (simp only [putAll, Act.put, List.setIfInBounds_toArray, List.set_cons_zero, List.set_cons_succ]; done) | (simp only [putAll, Act.put, List.setIfInBounds_toArray, List.set_cons_zero, List.set_cons_succ]; rfl)) (hJ2_5_6_11 (v152, v155, v158, gb163) _ ⟨hHeld, (kR_ HO156.out), (kR_ HO159.out), (kb_ BK149.out), (kb_ BK150.out), (kb_ BK163.out), GW163.out, GE163.out, NB149_163.out, NB163_149.out, NB150_163.out, NB163_150.out, (hbA_ HB.out)⟩)
     ·skip
      rintro ⟨v152, v155, v158, gb163⟩ w13 ⟨hS_, h0_, h1_, h2_, h3_, h4_, h5_, h6_, h7_, h8_, h9_, h10_, h11_⟩
      have n0_ : Aside0 (Kd.R (Kd.int .i64) 3 w13 w.heap.size (fun k_ => some k_ ≠ (v158 : Value).ownBlock) v155 y154) := ⟨h0_⟩
      have n1_ : Aside0 (Kd.R (Kd.int .i64) 3 w13 w.heap.size (fun k_ => some k_ ≠ (v155 : Value).ownBlock) v158 y157) := ⟨h1_⟩
      have n2_ : Aside0 (w13.heap[gb149]? = some (.cells #[.int .i64 a0_0, .slice A0_1 l0_1.length c0_1, .slice A0_2 l0_2.length c0_2, .slice A0_3 l0_3.length c0_3] 30 (0, 0))) := ⟨h2_⟩
      have n3_ : Aside0 (w13.heap[gb150]? = some (.cells #[.int .i64 0, .slice none 0 0, .slice none 0 0, .slice none 0 0] 30 (0, 0))) := ⟨h3_⟩
      have n4_ : Aside0 (w13.heap[gb163]? = some (.cells #[.int .i64 0, .slice none 0 0, .slice none 0 0, .slice none 0 0] 30 (0, 0))) := ⟨h4_⟩
      have n5_ : Aside0 (w.heap.size ≤ gb163) := ⟨h5_⟩
      have n6_ : Aside0 (w.heap.size ≤ gb163) := ⟨h6_⟩
      have n7_ : Aside0 (gb149 ≠ gb163) := ⟨h7_⟩
      have n8_ : Aside0 (gb163 ≠ gb149) := ⟨h8_⟩
      have n9_ : Aside0 (gb150 ≠ gb163) := ⟨h9_⟩
      have n10_ : Aside0 (gb163 ≠ gb150) := ⟨h10_⟩
      have n11_ : Aside0 (Below w.heap.size w w13) := ⟨h11_⟩
      clear BK149 BK150 HB h0_ h1_ h2_ h3_ h4_ h5_ h6_ h7_ h8_ h9_ h10_ h11_; have HO156 := n0_; have HO159 := n1_; have BK149 := n2_; have BK150 := n3_; have BK163 := n4_; have GW163 := n5_; have GE163 := n6_; have NB149_163 := n7_; have NB163_149 := n8_; have NB150_163 := n9_; have NB163_150 := n10_; have HB := n11_; clear n0_ n1_ n2_ n3_ n4_ n5_ n6_ n7_ n8_ n9_ n10_ n11_
      have hHeld : w13.cell? ⟨gb149, 0, none⟩ = some (.int .i64 a0_0) ∧ w13.cell? ⟨gb149, 1, none⟩ = some (.slice A0_1 l0_1.length c0_1) ∧ w13.cell? ⟨gb149, 2, none⟩ = some (.slice A0_2 l0_2.length c0_2) ∧ w13.cell? ⟨gb149, 3, none⟩ = some (.slice A0_3 l0_3.length c0_3) := hS_
      refine norm_ (a' := ?_) ?_ ?_
      rotate_left
      ·simp only [putAll, Act.put, List.setIfInBounds_toArray, List.set_cons_zero, List.set_cons_succ]
       rfl
      refine on_ (i := 9) (N := some 14) HT_ (fun K hK => ?_)
      refine Kd.R_append_rows_step (Kd.int .i64) (w0 := w) w.heap.size (by rfl) (.tmp 11) (.tmp 13) 22 3 (.int .i64 0) 8 rfl Try.underlying22 info3 rfl (by decide) (by omega) v158 y157 l0_3 _ _ _ (fun k_ => some k_ ≠ (v155 : Value).ownBlock) (fun _ => False) rfl rfl ?aO ?aR (fun _ _ h => h) (fun _ h => h.elim) ?aF ?aB ?aS ?aL ?_
      (case aR => exact kC_ (Kd.C_below HR0_3.out HB.out))
      (case aB => exact (hbA_ HB.out))
      (case aF => exact (fun k_ hk => Kd.fresh' (Kd.R_lt (kR_ HO156.out)) k_ hk))
      (case aO => exact (kR_ HO159.out))
      (case aS => exact (below_size (hbA_ HB.out)))
      (case aL => have := LMc3.out; omega)
      intro v161 w14 ho hb hg hat
      rw [← Ny160.out] at ho
      have n0_ := (bgA_ BK149 hg (Kd.R_ne HO159.out BK149.out (by decide))); have n1_ := (bgA_ BK150 hg (Kd.R_ne HO159.out BK150.out (by decide))); have n2_ := Aside0.mk (Kd.R_after (ok := (fun _ => True)) (by refine kR_ ?_; exact Kd.R_mono HO156.out (fun _ hk => ⟨trivial, hk⟩)) hg hat); have n3_ := (bgA_ BK163 hg (Kd.R_ne HO159.out BK163.out (by decide))); have n4_ := Aside0.mk (hb); have n5_ := Aside0.mk (ho); clear BK149 BK150 HO156 BK163 HB HO159; have BK149 := n0_; have BK150 := n1_; have HO156 := n2_; have BK163 := n3_; have HB := n4_; have HO162 := n5_; clear n0_ n1_ n2_ n3_ n4_ n5_ ho hb hg hat
      obtain ⟨Ao15, co15, eo15⟩ := Kd.R_slice HO162.out
      (first | subst eo15 | (injection eo15 with f1_ f2_ f3_; have f4_ := f1_.symm; have f5_ := f3_.symm; clear f1_ f2_ f3_; subst f4_; subst f5_))
      obtain ⟨Ao16, co16, eo16⟩ := Kd.R_slice HO156.out
      (first | subst eo16 | (injection eo16 with f1_ f2_ f3_; have f4_ := f1_.symm; have f5_ := f3_.symm; clear f1_ f2_ f3_; subst f4_; subst f5_))
      refine hK.out _ _ (cz4 BK149.out) (fun hHeld => ?_)
      clear hK K; refine nm_ 14 ?_; refine pu_ (i := 10) (N := some 15) HT_ ?_
      exact norm_ (by first | (simp only [putAll, Act.put, List.setIfInBounds_toArray, List.set_cons_zero, List.set_cons_succ]; done) | (simp only [putAll, Act.put, List.setIfInBounds_toArray, List.set_cons_zero, List.set_cons_succ]; rfl)) (hJ2_5_6_9_11 (v152, .slice Ao16 y154.length co16, v158, .slice Ao15 y160.length co15, gb163) _ ⟨hHeld, (by refine kR_ ?_; first | exact Kd.R_mono HO156.out (fun _ hk => hk.2) | exact Kd.R_mono HO156.out (fun _ _ => trivial)), (kR_ HO162.out), (kb_ BK149.out), (kb_ BK150.out), (kb_ BK163.out), GW163.out, GE163.out, NB149_163.out, NB163_149.out, NB150_163.out, NB163_150.out, (hbA_ HB.out)⟩)
    ·skip
     rintro ⟨v152, v155, v158, v161⟩ w15 ⟨hS_, h0_, h1_, h2_, h3_, h4_⟩
     have n0_ : Aside0 (Kd.R (Kd.int .i64) 3 w15 w.heap.size (fun k_ => some k_ ≠ (v161 : Value).ownBlock) v155 y154) := ⟨h0_⟩
     have n1_ : Aside0 (Kd.R (Kd.int .i64) 3 w15 w.heap.size (fun k_ => some k_ ≠ (v155 : Value).ownBlock) v161 y160) := ⟨h1_⟩
     have n2_ : Aside0 (w15.heap[gb149]? = some (.cells #[.int .i64 a0_0, .slice A0_1 l0_1.length c0_1, .slice A0_2 l0_2.length c0_2, .slice A0_3 l0_3.length c0_3] 30 (0, 0))) := ⟨h2_⟩
     have n3_ : Aside0 (w15.heap[gb150]? = some (.cells #[.int .i64 0, .slice none 0 0, .slice none 0 0, .slice none 0 0] 30 (0, 0))) := ⟨h3_⟩
     have n4_ : Aside0 (Below w.heap.size w w15) := ⟨h4_⟩
     clear BK149 BK150 HB h0_ h1_ h2_ h3_ h4_; have HO156 := n0_; have HO162 := n1_; have BK149 := n2_; have BK150 := n3_; have HB := n4_; clear n0_ n1_ n2_ n3_ n4_
     have hHeld : w15.cell? ⟨gb149, 0, none⟩ = some (.int .i64 a0_0) ∧ w15.cell? ⟨gb149, 1, none⟩ = some (.slice A0_1 l0_1.length c0_1) ∧ w15.cell? ⟨gb149, 2, none⟩ = some (.slice A0_2 l0_2.length c0_2) ∧ w15.cell? ⟨gb149, 3, none⟩ = some (.slice A0_3 l0_3.length c0_3) := hS_
     obtain ⟨Ao16, co16, eo16⟩ := Kd.R_slice HO162.out
     (first | subst eo16 | (injection eo16 with f1_ f2_ f3_; have f4_ := f1_.symm; have f5_ := f3_.symm; clear f1_ f2_ f3_; subst f4_; subst f5_))
     obtain ⟨Ao17, co17, eo17⟩ := Kd.R_slice HO156.out
     (first | subst eo17 | (injection eo17 with f1_ f2_ f3_; have f4_ := f1_.symm; have f5_ := f3_.symm; clear f1_ f2_ f3_; subst f4_; subst f5_))
     refine norm_ (a' := ?_) ?_ ?_
     rotate_left
     ·simp only [putAll, Act.put, List.setIfInBounds_toArray, List.set_cons_zero, List.set_cons_succ]
      rfl
     refine on_ (i := 11) (N := some 3) HT_ (fun K hK => ?_)
     refine box_step ?hg (N := 3) ?hd (cs := #[.int .i64 0, .slice none 0 0, .slice none 0 0, .slice none 0 0]) (t := 30) ?hr ?_; (case hd => rfl); (case hg => rfl); (case hr => first | (go_simp; done) | (go_simp; rfl))
     intro gb163 hg w18 hbox hb
     have n0_ := Aside0.mk (Kd.R_below (kR_ HO156.out) hb); have n1_ := Aside0.mk (Kd.R_below (kR_ HO162.out) hb); have n2_ := (bbA_ BK149 hb); have n3_ := (bbA_ BK150 hb); have n4_ := (bs_ HB hb); have n5_ := Aside0.mk (hbox); have n6_ := ge_ hg HB; have n7_ := ge_ hg HB; have n8_ := nl_ hg BK149; have n9_ := ng_ hg BK149; have n10_ := nl_ hg BK150; have n11_ := ng_ hg BK150; clear HO156 HO162 BK149 BK150 HB; have HO156 := n0_; have HO162 := n1_; have BK149 := n2_; have BK150 := n3_; have HB := n4_; have BK163 := n5_; have GW163 := n6_; have GE163 := n7_; have NB149_163 := n8_; have NB163_149 := n9_; have NB150_163 := n10_; have NB163_150 := n11_; clear n0_ n1_ n2_ n3_ n4_ n5_ n6_ n7_ n8_ n9_ n10_ n11_ hb hbox hg
     refine hK.out _ _ (cz4 BK149.out) (fun hHeld => ?_)
     clear hK K; refine nm_ 3 ?_
     exact norm_ (by first | (simp only [putAll, Act.put, List.setIfInBounds_toArray, List.set_cons_zero, List.set_cons_succ]; done) | (simp only [putAll, Act.put, List.setIfInBounds_toArray, List.set_cons_zero, List.set_cons_succ]; rfl)) (hJ2_5_6_9_11 (v152, .slice Ao17 y154.length co17, v158, .slice Ao16 y160.length co16, gb163) _ ⟨hHeld, (kR_ HO156.out), (kR_ HO162.out), (kb_ BK149.out), (kb_ BK150.out), (kb_ BK163.out), GW163.out, GE163.out, NB149_163.out, NB163_149.out, NB150_163.out, NB163_150.out, (hbA_ HB.out)⟩)
   rintro ⟨v152, v155, v158, v161, gb163⟩ w16 ⟨hS_, h0_, h1_, h2_, h3_, h4_, h5_, h6_, h7_, h8_, h9_, h10_, h11_⟩
   have n0_ : Aside0 (Kd.R (Kd.int .i64) 3 w16 w.heap.size (fun k_ => some k_ ≠ (v161 : Value).ownBlock) v155 y154) := ⟨h0_⟩
   have n1_ : Aside0 (Kd.R (Kd.int .i64) 3 w16 w.heap.size (fun k_ => some k_ ≠ (v155 : Value).ownBlock) v161 y160) := ⟨h1_⟩
   have n2_ : Aside0 (w16.heap[gb149]? = some (.cells #[.int .i64 a0_0, .slice A0_1 l0_1.length c0_1, .slice A0_2 l0_2.length c0_2, .slice A0_3 l0_3.length c0_3] 30 (0, 0))) := ⟨h2_⟩
   have n3_ : Aside0 (w16.heap[gb150]? = some (.cells #[.int .i64 0, .slice none 0 0, .slice none 0 0, .slice none 0 0] 30 (0, 0))) := ⟨h3_⟩
   have n4_ : Aside0 (w16.heap[gb163]? = some (.cells #[.int .i64 0, .slice none 0 0, .slice none 0 0, .slice none 0 0] 30 (0, 0))) := ⟨h4_⟩
   have n5_ : Aside0 (w.heap.size ≤ gb163) := ⟨h5_⟩
   have n6_ : Aside0 (w.heap.size ≤ gb163) := ⟨h6_⟩
   have n7_ : Aside0 (gb149 ≠ gb163) := ⟨h7_⟩
   have n8_ : Aside0 (gb163 ≠ gb149) := ⟨h8_⟩
   have n9_ : Aside0 (gb150 ≠ gb163) := ⟨h9_⟩
   have n10_ : Aside0 (gb163 ≠ gb150) := ⟨h10_⟩
   have n11_ : Aside0 (Below w.heap.size w w16) := ⟨h11_⟩
   clear BK149 BK150 HB h0_ h1_ h2_ h3_ h4_ h5_ h6_ h7_ h8_ h9_ h10_ h11_; have HO156 := n0_; have HO162 := n1_; have BK149 := n2_; have BK150 := n3_; have BK163 := n4_; have GW163 := n5_; have GE163 := n6_; have NB149_163 := n7_; have NB163_149 := n8_; have NB150_163 := n9_; have NB163_150 := n10_; have HB := n11_; clear n0_ n1_ n2_ n3_ n4_ n5_ n6_ n7_ n8_ n9_ n10_ n11_
   have hHeld : w16.cell? ⟨gb149, 0, none⟩ = some (.int .i64 a0_0) ∧ w16.cell? ⟨gb149, 1, none⟩ = some (.slice A0_1 l0_1.length c0_1) ∧ w16.cell? ⟨gb149, 2, none⟩ = some (.slice A0_2 l0_2.length c0_2) ∧ w16.cell? ⟨gb149, 3, none⟩ = some (.slice A0_3 l0_3.length c0_3) := hS_
   obtain ⟨Ao17, co17, eo17⟩ := Kd.R_slice HO162.out
   (first | subst eo17 | (injection eo17 with f1_ f2_ f3_; have f4_ := f1_.symm; have f5_ := f3_.symm; clear f1_ f2_ f3_; subst f4_; subst f5_))
   obtain ⟨Ao18, co18, eo18⟩ := Kd.R_slice HO156.out
   (first | subst eo18 | (injection eo18 with f1_ f2_ f3_; have f4_ := f1_.symm; have f5_ := f3_.symm; clear f1_ f2_ f3_; subst f4_; subst f5_))
   refine norm_ (a' := ?_) ?_ ?_
   rotate_left
   ·simp only [putAll, Act.put, List.setIfInBounds_toArray, List.set_cons_zero, List.set_cons_succ]
    rfl
   refine on_ (i := 12) (N := none) HT_ (fun K hK => ?_)
   have hs19 : w16.cell? ⟨gb163, 0, none⟩ = some (.int .i64 0) := bc_ BK163 0
   have hfs19 := blk_frozen BK163.out 0
   have hns19_0 := NB149_163.out; have hns19_1 := NB150_163.out; have hms19_0 := NB163_149.out; have hms19_1 := NB163_150.out
   have hs20 : w16.cell? ⟨gb163, 1, none⟩ = some (.slice none 0 0) := bc_ BK163 1
   have hfs20 := blk_frozen BK163.out 1
   have hns20_0 := NB149_163.out; have hns20_1 := NB150_163.out; have hms20_0 := NB163_149.out; have hms20_1 := NB163_150.out
   have hs21 : w16.cell? ⟨gb163, 2, none⟩ = some (.slice none 0 0) := bc_ BK163 2
   have hfs21 := blk_frozen BK163.out 2
   have hns21_0 := NB149_163.out; have hns21_1 := NB150_163.out; have hms21_0 := NB163_149.out; have hms21_1 := NB163_150.out
   have hs22 : w16.cell? ⟨gb163, 3, none⟩ = some (.slice none 0 0) := bc_ BK163 3
   have hfs22 := blk_frozen BK163.out 3
   have hns22_0 := NB149_163.out; have hns22_1 := NB150_163.out; have hms22_0 := NB163_149.out; have hms22_1 := NB163_150.out
   refine skip_ (w1 := ?_) (by rfl) rfl ?_ ?_
   rotate_left
   ·go_simp
    rfl
   refine hK.out _ _ ⟨((cell_far (p := ⟨gb163, _, none⟩) NB149_163.out _).trans (((cell_far (p := ⟨gb163, _, none⟩) NB149_163.out _).trans (((cell_far (p := ⟨gb163, _, none⟩) NB149_163.out _).trans (((cell_far (p := ⟨gb163, _, none⟩) NB149_163.out _).trans (hHeld.1)))))))), ((cell_far (p := ⟨gb163, _, none⟩) NB149_163.out _).trans (((cell_far (p := ⟨gb163, _, none⟩) NB149_163.out _).trans (((cell_far (p := ⟨gb163, _, none⟩) NB149_163.out _).trans (((cell_far (p := ⟨gb163, _, none⟩) NB149_163.out _).trans (hHeld.2.1)))))))), ((cell_far (p := ⟨gb163, _, none⟩) NB149_163.out _).trans (((cell_far (p := ⟨gb163, _, none⟩) NB149_163.out _).trans (((cell_far (p := ⟨gb163, _, none⟩) NB149_163.out _).trans (((cell_far (p := ⟨gb163, _, none⟩) NB149_163.out _).trans (hHeld.2.2.1)))))))), ((cell_far (p := ⟨gb163, _, none⟩) NB149_163.out _).trans (((cell_far (p := ⟨gb163, _, none⟩) NB149_163.out _).trans (((cell_far (p := ⟨gb163, _, none⟩) NB149_163.out _).trans (((cell_far (p := ⟨gb163, _, none⟩) NB149_163.out _).trans (hHeld.2.2.2))))))))⟩ (fun hHeld => ?_)
   clear hK K
   refine done_ (done_of HT_.out (by kernel_rfl)) ?_
   try go_wp2
   go_loopg [4] k (fun kq v4 w' => ∃ (x4_1 : Int) (x164002_1 : List (S41)) (u164002 : Value), v4 = .int .i64 x4_1 ∧ Aside0 (spec_l20Client.l0 kq x4_1 a0_0 l0_1 l0_2 l0_3 a0_0 y154 x164002_1 y160 = some (r1, r2, r3, r4)) ∧ Aside0 (kq ≤ k) ∧ Aside0 (Kd.R (Kd.int .i64) 3 w' w.heap.size (fun k_ => some k_ ≠ ((.slice Ao17 y160.length co17) : Value).ownBlock) (.slice Ao18 y154.length co18) y154) ∧ Aside0 (Kd.S k41 41 w' w.heap.size (fun _ => True) u164002 x164002_1) ∧ Aside0 (Kd.R (Kd.int .i64) 3 w' w.heap.size (fun k_ => some k_ ≠ ((.slice Ao18 y154.length co18) : Value).ownBlock) (.slice Ao17 y160.length co17) y160) ∧ Aside0 (w'.heap[gb149]? = some (.cells #[.int .i64 a0_0, (.slice A0_1 l0_1.length c0_1), (.slice A0_2 l0_2.length c0_2), (.slice A0_3 l0_3.length c0_3)] 30 (0, 0))) ∧ Aside0 (w'.heap[gb150]? = some (.cells #[.int .i64 0, (.slice none 0 0), (.slice none 0 0), (.slice none 0 0)] 30 (0, 0))) ∧ Aside0 (w'.heap[gb163]? = some (.cells #[.int .i64 a0_0, (.slice Ao18 y154.length co18), u164002, (.slice Ao17 y160.length co17)] 30 (0, 0))) ∧ Aside0 (Below w.heap.size w w'))
   case atStart => exact ⟨(0), (([] : List (S41))), (.slice none 0 0), (by first | rfl | (simp; done) | (simp [*]; done)), H', ⟨Nat.le_refl _⟩, ⟨by refine kR_ ?_; exact rfm_ ((Kd.R_types HO156.out BK163.out (by decide))) (fun _ hk => hk.1)⟩, ⟨by first | exact Kd.S_nil _ _ _ _ _ | exact Kd.N_nil _ _ _ _ _ | exact Kd.V_nil _ _ _ _ _ | exact Kd.Q_nil _ _ _ _ _ | exact Kd.R_nil _ _ _ _ _⟩, ⟨by refine kR_ ?_; exact rfm_ ((Kd.R_types HO162.out BK163.out (by decide))) (fun _ hk => hk.1)⟩, ⟨by exact kf_ BK149.out⟩, ⟨by exact kf_ BK150.out⟩, ⟨by refine kb_ ?_; refine pz4 (cs := #[.int .i64 0, .slice none 0 0, .slice none 0 0, .slice none 0 0]) ?_; refine kb_ ?_; exact BK163.out⟩, ⟨hbA_ HB.out⟩⟩
   case round =>
    clear H'; (try clear c2); (try clear p2); (try clear c3)
    obtain ⟨x4_1, x164002_1, u164002, rfl, HA, HK1, HO_164001, HO_164002, HO_164003, BK149, BK150, BK163, HB⟩ := hrel
    cases gk with
    | zero => exact absurd HA.out (by simp [spec_l20Client.l0])
    | succ k1 =>
     have H := HA.out; clear HA
     simp only [spec_l20Client.l0] at H
     by_cases c23 : x4_1 < (l0_2.length : Int)
     ·rw [if_pos c23] at H
      have c23b0 : decide (x4_1 < (l0_2.length : Int)) = true := decide_eq_true c23
      clear c23
      by_cases c24 : 0 ≤ x4_1
      ·rw [if_pos c24] at H
       have c24b0 : decide (0 ≤ x4_1) = true := decide_eq_true c24
       clear c24
       obtain ⟨y165, hy165⟩ : ∃ y_ : List Int, y_ = (([] : List Int)) := ⟨_, rfl⟩
       (first | replace H := sb_ hy165 H | rw [← hy165] at H)
       have Ny165 := Aside0.mk hy165; clear hy165
       by_cases c25 : y165.length + ((rd_T41 l0_2 x4_1).f1).length < 140737488355328
       ·rw [if_pos c25] at H
        have LMc25 := Aside0.mk c25; clear c25
        obtain ⟨y169, hy169⟩ : ∃ y_ : List Int, y_ = (y165 ++ ((rd_T41 l0_2 x4_1).f1)) := ⟨_, rfl⟩
        (first | replace H := sb_ hy169 H | rw [← hy169] at H)
        have Ny169 := Aside0.mk hy169; clear hy169
        by_cases c26 : x164002_1.length < 4398046511104
        ·rw [if_pos c26] at H
         have LMc26 := Aside0.mk c26; clear c26
         obtain ⟨y172, hy172⟩ : ∃ y_ : List (S41), y_ = (x164002_1 ++ [(⟨(rd_T41 l0_2 x4_1).f0, y169⟩ : S41)]) := ⟨_, rfl⟩
         (first | replace H := sb_ hy172 H | rw [← hy172] at H)
         have Ny172 := Aside0.mk hy172; clear hy172
         have H' := Aside0.mk H
         clear H; have hnb27 := NB149_150.out; have hnc27 := NB150_149.out; have hnb28 := NB149_163.out; have hnc28 := NB163_149.out; have Z29 := zz4 BK149
         try go_wp2
         replace HO_164001 := Aside0.mk (Kd.R_drew HO_164001.out); replace HO_164002 := Aside0.mk (Kd.S_drew HO_164002.out); replace HO_164003 := Aside0.mk (Kd.R_drew HO_164003.out); replace BK149 := Aside0.mk (blk_drew BK149.out); replace BK150 := Aside0.mk (blk_drew BK150.out); replace BK163 := Aside0.mk (blk_drew BK163.out); replace HB := (bd_ HB)
         have p164 : 0 ≤ (x4_1 : Int) := of_decide_eq_true (by first | (with_reducible assumption) | assumption)
         have q164 : x4_1 < (l0_2.length : Int) := of_decide_eq_true (by first | (with_reducible assumption) | assumption)
         obtain ⟨ad164, A164_1, c164_1, e164, hx164_0, hx164_1, hl164_1, hi164_1⟩ := at_T41 HR0_2.out x4_1 p164 q164
         have hw164_1 := hx164_1; have hw164_0 := hx164_0
         cases e164
         replace hx164_0 := cc_ HB hx164_0
         replace hx164_1 := cc_ HB hx164_1
         have HR164_1 := Aside0.mk hi164_1; have HC164_1 := Aside0.mk hl164_1; clear hi164_1 hl164_1
         replace p164 := eq_true p164
         replace q164 := eq_true q164
         have p168 : 0 ≤ (x4_1 : Int) := of_decide_eq_true (by first | (with_reducible assumption) | assumption)
         have q168 : x4_1 < (l0_2.length : Int) := of_decide_eq_true (by first | (with_reducible assumption) | assumption)
         obtain ⟨ad168, A168_1, c168_1, e168, hx168_0, hx168_1, hl168_1, hi168_1⟩ := at_T41 HR0_2.out x4_1 p168 q168
         have hw168_1 := hx168_1; have hw168_0 := hx168_0
         obtain rfl : ad164 = ad168 := (by injection e168)
         replace hx168_0 := cc_ HB hx168_0
         replace hx168_1 := cc_ HB hx168_1
         have HR168_1 := Aside0.mk hi168_1; have HC168_1 := Aside0.mk hl168_1; clear hi168_1 hl168_1
         replace p168 := eq_true p168
         replace q168 := eq_true q168
         have ea_ := Option.some.inj (hx164_1.symm.trans hx168_1)
         injection ea_ with ea_ en_ ec_
         subst ea_; subst ec_; clear en_
         refine start_ (n := 21) (S := fun w' => w'.cell? ⟨gb163, 0, none⟩ = some (.int .i64 a0_0) ∧ w'.cell? ⟨gb163, 1, none⟩ = some (.slice Ao18 y154.length co18) ∧ w'.cell? ⟨gb163, 2, none⟩ = some (u164002) ∧ w'.cell? ⟨gb163, 3, none⟩ = some (.slice Ao17 y160.length co17) ∧ w'.cell? ⟨gb149, 0, none⟩ = some (.int .i64 a0_0) ∧ w'.cell? ⟨gb149, 1, none⟩ = some (.slice A0_1 l0_1.length c0_1) ∧ w'.cell? ⟨gb149, 2, none⟩ = some (.slice (some ad164) l0_2.length c0_2) ∧ w'.cell? ⟨gb149, 3, none⟩ = some (.slice A0_3 l0_3.length c0_3) ∧ w'.cell? (ad164.add ((x4_1).toNat * 2)) = some (.int .i64 ((rd_T41 l0_2 x4_1).f0)) ∧ w'.cell? ⟨(ad164.add ((x4_1).toNat * 2)).block, (ad164.add ((x4_1).toNat * 2)).off + 1, none⟩ = some (.slice A164_1 ((rd_T41 l0_2 x4_1).f1).length c164_1) ∧ w'.cell? (ad164.add ((x4_1).toNat * 2)) = some (.int .i64 ((rd_T41 l0_2 x4_1).f0)) ∧ w'.cell? ⟨(ad164.add ((x4_1).toNat * 2)).block, (ad164.add ((x4_1).toNat * 2)).off + 1, none⟩ = some (.slice A164_1 ((rd_T41 l0_2 x4_1).f1).length c164_1)) (ds := [20]) #[false, false, false, false, false, false, false, false, false, false, false, false, false, false, false, false, false, false, false, false, false] (by kernel_rfl) rfl rfl ⟨bc_ BK163 0, bc_ BK163 1, bc_ BK163 2, bc_ BK163 3, bc_ BK149 0, bc_ BK149 1, bc_ BK149 2, bc_ BK149 3, (cc_ HB hw164_0), (cc_ HB hw164_1), (cc_ HB hw168_0), (cc_ HB hw168_1)⟩ (fun hHeld => ?_); refine with_tabW spec_l20Client.tab5 spec_l20Client.bits5 (fun HT_ HW_ => ?_)
         generalize wr.drew = w30 at HO_164001 HO_164002 HO_164003 BK149 BK150 BK163 HB HR164_1 HR168_1 hx164_0 hx164_1 hx168_0 hx168_1 hHeld ⊢
         refine pu_ (i := 0) (N := some 23) HT_ ?_; refine pu_ (i := 2) (N := some 25) HT_ ?_; refine pu_ (i := 4) (N := some 27) HT_ ?_; refine pu_ (i := 9) (N := some 32) HT_ ?_; refine pu_ (i := 11) (N := some 34) HT_ ?_; refine tk_ (i := 1) (N := some 24) HT_ HW_ hHeld ?_; refine tk_ (i := 3) (N := some 26) HT_ HW_ hHeld ?_; refine pu_ (i := 5) (N := some 28) HT_ ?_; refine pu_ (i := 6) (N := some 29) HT_ ?_; refine tk_ (i := 7) (N := some 30) HT_ HW_ hHeld ?_; refine tk_ (i := 10) (N := some 33) HT_ HW_ hHeld ?_; refine pu_ (i := 12) (N := some 35) HT_ ?_; refine pu_ (i := 13) (N := some 36) HT_ ?_; refine tk_ (i := 14) (N := some 37) HT_ HW_ hHeld ?_
         refine on_ (i := 8) (N := some 31) HT_ (fun K hK => ?_)
         refine Kd.R_lit_step (Kd.int .u8) _ 5 ?hg (N := 31) ?hd (xs := ([] : List Int)) (inner := []) (ok := fun _ => True) (okp := fun _ => True) ?hr ?hp (fun _ hk => hk) trivial (Below.refl _ _) (Nat.le_refl _) (by simp) ?_; (case hd => rfl); (case hg => rfl); (case hr => first | (go_simp; done) | (go_simp; rfl)); (case hp => exact (Reps.none _ _))
         intro v166 w31 ho32 hb hg_ hnew_
         clear hg_ hnew_
         (first | rw [← Ny165.out] at ho32 | (simp only [Int.reduceToNat] at ho32; rw [← Ny165.out] at ho32))
         have n0_ := Aside0.mk (Kd.R_below (kR_ HO_164001.out) hb); have n1_ := Aside0.mk (Kd.S_elder' (kS_ HO_164002.out) (Kd.R_base ho32) hb); have n2_ := Aside0.mk (Kd.R_below (kR_ HO_164003.out) hb); have n3_ := Aside0.mk (Kd.R_lower ho32 (below_size (hbA_ HB.out))); have n4_ := (bbA_ BK149 hb); have n5_ := (bbA_ BK150 hb); have n6_ := (bbA_ BK163 hb); have n7_ := (bs_ HB hb); clear HO_164001 HO_164002 HO_164003 BK149 BK150 BK163 HB; have HO_164001 := n0_; have HO_164002 := n1_; have HO_164003 := n2_; have HO167 := n3_; have BK149 := n4_; have BK150 := n5_; have BK163 := n6_; have HB := n7_; clear n0_ n1_ n2_ n3_ n4_ n5_ n6_ n7_ hb ho32
         refine hK.out _ _ ⟨bc_ BK163 0, bc_ BK163 1, bc_ BK163 2, bc_ BK163 3, bc_ BK149 0, bc_ BK149 1, bc_ BK149 2, bc_ BK149 3, (cc_ HB hw164_0), (cc_ HB hw164_1), (cc_ HB hw168_0), (cc_ HB hw168_1)⟩ (fun hHeld => ?_)
         clear hK K; refine nm_ 31 ?_
         refine on_ (i := 15) (N := some 38) HT_ (fun K hK => ?_)
         refine Kd.R_append_rows_step (Kd.int .u8) (w0 := w) w.heap.size (by rfl) (.tmp 31) (.tmp 37) 34 5 (.int .u8 0) 1 rfl Try.underlying34 info5 rfl (by decide) (by omega) v166 y165 ((rd_T41 l0_2 x4_1).f1) _ _ _ (fun _ => True) (fun _ => False) rfl rfl ?aO ?aR (fun _ _ h => h) (fun _ h => h.elim) ?aF ?aB ?aS ?aL ?_
         (case aR => exact kC_ (Kd.C_below HR168_1.out HB.out))
         (case aB => exact (hbA_ HB.out))
         (case aF => exact (fun _ _ => trivial))
         (case aO => exact (kR_ HO167.out))
         (case aS => exact (below_size (hbA_ HB.out)))
         (case aL => have := LMc25.out; omega)
         intro v170 w33 ho hb hg hat
         rw [← Ny169.out] at ho
         have n0_ := Aside0.mk (Kd.R_over' (kR_ HO_164001.out) (Kd.R_typed (kR_ HO167.out)) (by decide) hg); have n1_ := Aside0.mk (Kd.S_after (ok := (fun _ => True)) (kS_ HO_164002.out) hg hat); have n2_ := Aside0.mk (Kd.R_over' (kR_ HO_164003.out) (Kd.R_typed (kR_ HO167.out)) (by decide) hg); have n3_ := (bgA_ BK149 hg (Kd.R_ne HO167.out BK149.out (by decide))); have n4_ := (bgA_ BK150 hg (Kd.R_ne HO167.out BK150.out (by decide))); have n5_ := (bgA_ BK163 hg (Kd.R_ne HO167.out BK163.out (by decide))); have n6_ := Aside0.mk (hb); have n7_ := Aside0.mk (ho); clear HO_164001 HO_164002 HO_164003 BK149 BK150 BK163 HB HO167; have HO_164001 := n0_; have HO_164002 := n1_; have HO_164003 := n2_; have BK149 := n3_; have BK150 := n4_; have BK163 := n5_; have HB := n6_; have HO171 := n7_; clear n0_ n1_ n2_ n3_ n4_ n5_ n6_ n7_ ho hb hg hat
         obtain ⟨Ao34, co34, eo34⟩ := Kd.R_slice HO171.out
         (first | subst eo34 | (injection eo34 with f1_ f2_ f3_; have f4_ := f1_.symm; have f5_ := f3_.symm; clear f1_ f2_ f3_; subst f4_; subst f5_))
         refine hK.out _ _ ⟨bc_ BK163 0, bc_ BK163 1, bc_ BK163 2, bc_ BK163 3, bc_ BK149 0, bc_ BK149 1, bc_ BK149 2, bc_ BK149 3, (cc_ HB hw164_0), (cc_ HB hw164_1), (cc_ HB hw168_0), (cc_ HB hw168_1)⟩ (fun hHeld => ?_)
         clear hK K; refine nm_ 38 ?_; refine pu_ (i := 16) (N := some 39) HT_ ?_
         refine on_ (i := 17) (N := some 40) HT_ (fun K hK => ?_)
         refine value_ (w1 := ?_) (v := ?_) (by rfl) rfl ?_ ?_
         rotate_left 2
         ·go_simp
          constructor
          ·rfl
          ·rfl
         refine hK.out _ _ ⟨(blk_cell (blk_alloc BK163.out _) 0).trans rfl, (blk_cell (blk_alloc BK163.out _) 1).trans rfl, (blk_cell (blk_alloc BK163.out _) 2).trans rfl, (blk_cell (blk_alloc BK163.out _) 3).trans rfl, (blk_cell (blk_alloc BK149.out _) 0).trans rfl, (blk_cell (blk_alloc BK149.out _) 1).trans rfl, (blk_cell (blk_alloc BK149.out _) 2).trans rfl, (blk_cell (blk_alloc BK149.out _) 3).trans rfl, (World.cell?_alloc_lt _ _ _ (World.block_lt_of_cell? _ _ ((cc_ HB hw164_0)))).trans ((cc_ HB hw164_0)), (World.cell?_alloc_lt _ _ _ (World.block_lt_of_cell? _ _ ((cc_ HB hw164_1)))).trans ((cc_ HB hw164_1)), (World.cell?_alloc_lt _ _ _ (World.block_lt_of_cell? _ _ ((cc_ HB hw168_0)))).trans ((cc_ HB hw168_0)), (World.cell?_alloc_lt _ _ _ (World.block_lt_of_cell? _ _ ((cc_ HB hw168_1)))).trans ((cc_ HB hw168_1))⟩ (fun hHeld => ?_)
         clear hK K; refine nm_ 40 ?_
         refine on_ (i := 18) (N := some 41) HT_ (fun K hK => ?_)
         refine Kd.S_append_step k41 (w0 := w) w.heap.size (by rfl) (.tmp 24) (.tmp 40) 28 41 (.agg #[(.int .i64 0), (.slice none 0 0)]) 32 rfl Try.underlying28 info41 rfl (by decide) (by omega) u164002 x164002_1 (⟨(rd_T41 l0_2 x4_1).f0, y169⟩ : S41) [.int .i64 ((rd_T41 l0_2 x4_1).f0), .slice Ao34 y169.length co34] (fun _ => True) (fun k_ => some k_ = (.slice Ao34 y169.length co34 : Value).ownBlock) rfl rfl ?aP (fun k_ hk_ => ((Kd.R_mono (ok' := fun k_ => ((fun _ => True)) k_ ∧ some k_ ≠ (u164002 : Value).ownBlock) (Kd.R_apart' (HO171.out) (Kd.S_typed HO_164002.out) (by decide)) (fun k_ hk => ⟨trivial, hk.2⟩))).1 k_ hk_.symm) ?aF ?aO ?aB ?aS ?aL ?_
         (case aP => exact k41_mkM _ _ _ (⟨(rd_T41 l0_2 x4_1).f0, y169⟩ : S41) (Kd.R_mono (Kd.R_tight rfl (Kd.R_mono (ok' := fun k_ => ((fun _ => True)) k_ ∧ some k_ ≠ (u164002 : Value).ownBlock) (Kd.R_apart' (HO171.out) (Kd.S_typed HO_164002.out) (by decide)) (fun k_ hk => ⟨trivial, hk.2⟩))) (fun _ h_ => h_)))
         (case aB => exact (hbA_ HB.out))
         (case aF => exact (fun _ _ => trivial))
         (case aO => exact (by refine kS_ ?_; exact Kd.S_mono HO_164002.out (fun k_ hk => ⟨trivial, fun e_ => hk.2 e_⟩)))
         (case aS => exact (below_size (hbA_ HB.out)))
         (case aL => have := LMc26.out; omega)
         intro v173 w35 ho hb hg hat
         rw [← Ny172.out] at ho
         have n0_ := Aside0.mk (Kd.R_over' (kR_ HO_164001.out) (Kd.S_typed (kS_ HO_164002.out)) (by decide) hg); have n1_ := Aside0.mk (Kd.R_over' (kR_ HO_164003.out) (Kd.S_typed (kS_ HO_164002.out)) (by decide) hg); have n2_ := (bgA_ BK149 hg (Kd.S_ne HO_164002.out BK149.out (by decide))); have n3_ := (bgA_ BK150 hg (Kd.S_ne HO_164002.out BK150.out (by decide))); have n4_ := (bgA_ BK163 hg (Kd.S_ne HO_164002.out BK163.out (by decide))); have n5_ := Aside0.mk (hb); have n6_ := Aside0.mk (ho); clear HO_164001 HO_164003 BK149 BK150 BK163 HB HO_164002 HO171; have HO_164001 := n0_; have HO_164003 := n1_; have BK149 := n2_; have BK150 := n3_; have BK163 := n4_; have HB := n5_; have HO174 := n6_; clear n0_ n1_ n2_ n3_ n4_ n5_ n6_ ho hb hg hat
         obtain ⟨Ao36, co36, eo36⟩ := Kd.S_slice HO174.out
         (first | subst eo36 | (injection eo36 with f1_ f2_ f3_; have f4_ := f1_.symm; have f5_ := f3_.symm; clear f1_ f2_ f3_; subst f4_; subst f5_))
         refine hK.out _ _ ⟨bc_ BK163 0, bc_ BK163 1, bc_ BK163 2, bc_ BK163 3, bc_ BK149 0, bc_ BK149 1, bc_ BK149 2, bc_ BK149 3, (cc_ HB hw164_0), (cc_ HB hw164_1), (cc_ HB hw168_0), (cc_ HB hw168_1)⟩ (fun hHeld => ?_)
         clear hK K; refine nm_ 41 ?_; refine pu_ (i := 19) (N := some 42) HT_ ?_
         refine last_ (i := 20) (N := none) #[true, true, true, true, true, true, true, true, true, true, true, true, true, true, true, true, true, true, true, true, true] rfl rfl (one_of HT_.out (by kernel_rfl)) (by decide) (fun K hK => ?_)
         have hs37 : w35.cell? ⟨gb163, 2, none⟩ = some (u164002) := bc_ BK163 2
         have hfs37 := blk_frozen BK163.out 2
         have hns37_0 := NB149_163.out; have hns37_1 := NB150_163.out; have hms37_0 := NB163_149.out; have hms37_1 := NB163_150.out
         refine skip_ (w1 := ?_) (by rfl) rfl ?_ ?_
         rotate_left
         ·go_simp
          rfl
         refine hK.out _ _ ?_
         clear hK K
         refine done_ (done_of HT_.out (by kernel_rfl)) ?_
         try go_wp2
         go_roundg k1
         case measure => have := HK1.out; omega
         case rel => exact ⟨(wrap64 (x4_1 + 1)), (y172), (.slice Ao36 y172.length co36), (by first | rfl | (simp; done) | (simp [*]; done)), H', ⟨by have := HK1.out; omega⟩, ⟨by refine kR_ ?_; exact Kd.R_mono (Kd.R_f gb163 2 (.slice Ao36 y172.length co36) (Kd.R_types HO_164001.out BK163.out (by decide))) (fun _ hk => hk.1)⟩, ⟨by refine kS_ ?_; exact Kd.S_mono (Kd.S_far (p := ⟨gb163, 2, none⟩) (Kd.S_types HO174.out BK163.out (by decide)) (fun _ hk => hk.2) (.slice Ao36 y172.length co36)) (fun _ hk => trivial)⟩, ⟨by refine kR_ ?_; exact Kd.R_mono (Kd.R_f gb163 2 (.slice Ao36 y172.length co36) (Kd.R_types HO_164003.out BK163.out (by decide))) (fun _ hk => hk.1)⟩, ⟨by exact kf_ BK149.out⟩, ⟨by exact kf_ BK150.out⟩, ⟨by refine kb_ ?_; refine blk_put (cs := #[.int .i64 a0_0, .slice Ao18 y154.length co18, u164002, .slice Ao17 y160.length co17]) ?_ 2 _ rfl; refine kb_ ?_; exact BK163.out⟩, ⟨hbA_ HB.out⟩⟩
        ·rw [if_neg c26] at H
         exact absurd H (by simp)
       ·rw [if_neg c25] at H
        exact absurd H (by simp)
      ·rw [if_neg c24] at H
       exact absurd H (by simp)
     ·rw [if_neg c23] at H
      have c23b0 : decide (x4_1 < (l0_2.length : Int)) = false := decide_eq_false c23
      clear c23
      simp only [Option.some.injEq, Prod.mk.injEq] at H
      obtain ⟨rfl, rfl, rfl, rfl⟩ := H
      have hnb38 := NB149_150.out; have hnc38 := NB150_149.out; have hnb39 := NB149_163.out; have hnc39 := NB163_149.out; have Z40 := zz4 BK149; have hnb41 := NB163_150.out; have hnc41 := NB150_163.out; have Z42 := zz4 BK163; have Z43 := zz4 BK150
      obtain ⟨Ao44, co44, eo44⟩ := Kd.S_slice HO_164002.out
      subst eo44
      go_wp2
      refine bodyPost_ret (results_cell_row rfl _ _ gb150 30 #[.int .i64 a0_0, .slice Ao18 y154.length co18, .slice Ao44 x164002_1.length co44, .slice Ao17 y160.length co17] (0, 0) _ rfl (by refine kb_ ?_; refine pz4 (cs := #[.int .i64 0, .slice none 0 0, .slice none 0 0, .slice none 0 0]) ?_; refine kb_ ?_; exact BK150.out) Try.underlying30 rfl (by kernel_rfl)) rfl ?_
      exact ⟨_, _, _, by first | rfl | (simp [errW_none, errW_some] <;> rfl) | (simp [*, errW_none, errW_some] <;> rfl), by refine kR_ ?_; exact rfm_ ((Kd.R_types HO_164001.out BK150.out (by decide))) (fun _ hk => hk.1), by refine kS_ ?_; exact Kd.S_mono (Kd.S_far (p := ⟨gb150, 3, none⟩) (Kd.S_far (p := ⟨gb150, 2, none⟩) (Kd.S_far (p := ⟨gb150, 1, none⟩) (Kd.S_far (p := ⟨gb150, 0, none⟩) (Kd.S_types HO_164002.out BK150.out (by decide)) (fun _ hk => hk.2) (.int .i64 a0_0)) (fun _ hk => hk.2) (.slice Ao18 y154.length co18)) (fun _ hk => hk.2) (.slice Ao44 x164002_1.length co44)) (fun _ hk => hk.2) (.slice Ao17 y160.length co17)) (fun _ hk => trivial), by refine kR_ ?_; exact rfm_ ((Kd.R_types HO_164003.out BK150.out (by decide))) (fun _ hk => hk.1), hbA_ HB.out⟩
  ·rw [if_neg c3] at H
   exact absurd H (by simp)
 ·rw [if_neg c2] at H
  exact absurd H (by simp)
def spec_ClientOver.f (k : Nat) (a0_0 : Int) (l0_1 : List Int) (l0_2 : List (S41)) (l0_3 : List Int) : Option (Int × List Int × (List (S41)) × List Int) := (spec_ClientOk.f k a0_0 l0_1 l0_2 l0_3).bind fun t177 => (if t177 = true then ((spec_l20Client.f k a0_0 l0_1 l0_2 l0_3).bind fun bt178 => (if bt178.2.2.2.length + l0_1.length < 17592186044416 then (some (bt178.1, (([] : List Int)), bt178.2.2.1, (bt178.2.2.2 ++ l0_1))) else (none))) else (some (0, ([] : List Int), ([] : List (S41)), ([] : List Int))))
theorem spec_ClientOver.mono : ∀ a0 a1 a2 a3 k, LeO (spec_ClientOver.f k a0 a1 a2 a3) (spec_ClientOver.f (k + 1) a0 a1 a2 a3) := by
 intro a0 a1 a2 a3 k
 unfold spec_ClientOver.f
 repeat' first | (with_reducible first | apply spec_ClientOk.mono | apply spec_l20Client.mono | exact LeO.refl _ | exact LeO.none _ | refine LeO.ite ?_ ?_ | refine LeO.bind ?_ fun _ => ?_) | apply spec_ClientOk.mono | apply spec_l20Client.mono | exact LeO.none _ | refine LeO.ite ?_ ?_ | refine LeO.bind ?_ fun _ => ?_
set_option maxHeartbeats 8000000 in
set_option maxRecDepth 100000 in
theorem spec_ClientOver.calls (k : Nat) (a0_0 : Int) (A0_1 : Option Addr) (c0_1 : Nat) (l0_1 : List Int) (A0_2 : Option Addr) (c0_2 : Nat) (l0_2 : List (S41)) (A0_3 : Option Addr) (c0_3 : Nat) (l0_3 : List Int) (r1 : Int) (r2 : List Int) (r3 : List (S41)) (r4 : List Int) (w : World) (hr0_1 : Kd.C (Kd.int .i64) w A0_1 l0_1.length l0_1) (hc0_1 : l0_1.length ≤ c0_1) (hr0_2 : Kd.C k41 w A0_2 l0_2.length l0_2) (hc0_2 : l0_2.length ≤ c0_2) (hr0_3 : Kd.C (Kd.int .i64) w A0_3 l0_3.length l0_3) (hc0_3 : l0_3.length ≤ c0_3) (h : spec_ClientOver.f k a0_0 l0_1 l0_2 l0_3 = some (r1, r2, r3, r4)) :
  Calls Try.prog 19 #[.agg #[.int .i64 a0_0, .slice A0_1 l0_1.length c0_1, .slice A0_2 l0_2.length c0_2, .slice A0_3 l0_3.length c0_3]] w fun e w' => ∃ v1_ v2_ v3_ : Value, e = .returned (.agg #[.int .i64 r1, v1_, v2_, v3_]) ∧ Kd.R (Kd.int .i64) 3 w' w.heap.size (fun k_ => some k_ ≠ (v3_ : Value).ownBlock) v1_ r2 ∧ Kd.S k41 41 w' w.heap.size (fun _ => True) v2_ r3 ∧ Kd.R (Kd.int .i64) 3 w' w.heap.size (fun k_ => some k_ ≠ (v1_ : Value).ownBlock) v3_ r4 ∧ Below w.heap.size w w' := by
 have hu30 := Try.underlying30; have HR0_1 := Aside0.mk hr0_1; have HC0_1 := Aside0.mk hc0_1; clear hr0_1 hc0_1; have HR0_2 := Aside0.mk hr0_2; have HC0_2 := Aside0.mk hc0_2; clear hr0_2 hc0_2; have HR0_3 := Aside0.mk hr0_3; have HC0_3 := Aside0.mk hc0_3; clear hr0_3 hc0_3
 have HB := Aside0.mk (Below.refl w.heap.size w)
 have H : ((spec_ClientOk.f k a0_0 l0_1 l0_2 l0_3).bind fun t177 => (if t177 = true then ((spec_l20Client.f k a0_0 l0_1 l0_2 l0_3).bind fun bt178 => (if bt178.2.2.2.length + l0_1.length < 17592186044416 then (some (bt178.1, (([] : List Int)), bt178.2.2.1, (bt178.2.2.2 ++ l0_1))) else (none))) else (some (0, ([] : List Int), ([] : List (S41)), ([] : List Int))))) = some (r1, r2, r3, r4) := h
 clear h
 replace H := Option.bind_eq_some_iff.mp H
 obtain ⟨t177, A20, H⟩ := H
 (try dsimp only at H)
 have A2 := Aside0.mk A20; clear A20
 by_cases c3 : t177 = true
 ·subst c3
  rw [if_pos rfl] at H
  replace H := Option.bind_eq_some_iff.mp H
  obtain ⟨⟨t178, t179, t182, t185⟩, A40, H⟩ := H
  (try dsimp only at H)
  have A4 := Aside0.mk A40; clear A40
  by_cases c5 : t185.length + l0_1.length < 17592186044416
  ·rw [if_pos c5] at H
   have LMc5 := Aside0.mk c5; clear c5
   obtain ⟨y189, hy189⟩ : ∃ y_ : List Int, y_ = (t185 ++ l0_1) := ⟨_, rfl⟩
   (first | replace H := sb_ hy189 H | rw [← hy189] at H)
   have Ny189 := Aside0.mk hy189; clear hy189
   obtain ⟨y192, hy192⟩ : ∃ y_ : List Int, y_ = (([] : List Int)) := ⟨_, rfl⟩
   (first | replace H := sb_ hy192 H | rw [← hy192] at H)
   have Ny192 := Aside0.mk hy192; clear hy192
   simp only [Option.some.injEq, Prod.mk.injEq] at H
   obtain ⟨rfl, rfl, rfl, rfl⟩ := H
   go_enter Try.func19, Try.ntmps19
   go_wp2_with (first | ((with_reducible refine gate_dst (N := 1) rfl ?_); refine box_ (N := 1) (cs := #[.int .i64 a0_0, .slice A0_1 l0_1.length c0_1, .slice A0_2 l0_2.length c0_2, .slice A0_3 l0_3.length c0_3]) (t := 30) (fun gb175 hg w6 hbox hb => ?_); have BK175 := Aside0.mk (hbox); have GW175 := ge_ hg HB; have GE175 := ge_ hg HB; replace HB := (bs_ HB hb); clear hb hbox hg) | ((with_reducible refine gate_dst (N := 2) rfl ?_); refine box_ (N := 2) (cs := #[.int .i64 0, .slice none 0 0, .slice none 0 0, .slice none 0 0]) (t := 30) (fun gb176 hg w7 hbox hb => ?_); have BK176 := Aside0.mk (hbox); have GW176 := ge_ hg HB; have GE176 := ge_ hg HB; replace HB := (bs_ HB hb); have NB175_176 := nl_ hg BK175; have NB176_175 := ng_ hg BK175; replace BK175 := (bbA_ BK175 hb); clear hb hbox hg; have hnb8 := NB175_176.out; have hnc8 := NB176_175.out; have Z9 := zz4 BK175) | ((with_reducible refine gate_callee (f := 12) rfl ?_); refine goesL_ (some 5) rfl rfl Try.func12 (by kernel_rfl) rfl #[.agg #[.int .i64 a0_0, .slice A0_1 l0_1.length c0_1, .slice A0_2 l0_2.length c0_2, .slice A0_3 l0_3.length c0_3]] rfl ar_ ?_; (with_reducible refine (spec_ClientOk.calls k a0_0 _ _ l0_1 _ _ l0_2 _ _ l0_3 true _ ?side1 ?side2 ?side3 ?side4 ?side5 ?side6 A2.out).mono ?_); (case side1 => exact kC_ (Kd.C_below HR0_1.out HB.out)); (case side2 => exact HC0_1.out); (case side3 => exact kC_ (Kd.C_below HR0_2.out HB.out)); (case side4 => exact HC0_2.out); (case side5 => exact kC_ (Kd.C_below HR0_3.out HB.out)); (case side6 => exact HC0_3.out); rintro e w10 ⟨rfl, hb⟩; refine ⟨_, rfl, ?_⟩; replace BK175 := (bbA_ BK175 hb); replace BK176 := (bbA_ BK176 hb); replace HB := (bs_ HB hb); (try clear hb); (try clear hb2); (try clear hk); (try clear hi); have Z11 := zz4 BK175) | ((with_reducible refine gate_callee (f := 56) rfl ?_); refine goesL_ (some 9) rfl rfl Try.func56 (by kernel_rfl) rfl #[.agg #[.int .i64 a0_0, .slice A0_1 l0_1.length c0_1, .slice A0_2 l0_2.length c0_2, .slice A0_3 l0_3.length c0_3]] rfl ar_ ?_; (with_reducible refine (spec_l20Client.calls k a0_0 _ _ l0_1 _ _ l0_2 _ _ l0_3 t178 t179 t182 t185 _ ?side1 ?side2 ?side3 ?side4 ?side5 ?side6 A4.out).mono ?_); (case side1 => exact kC_ (Kd.C_below HR0_1.out HB.out)); (case side2 => exact HC0_1.out); (case side3 => exact kC_ (Kd.C_below HR0_2.out HB.out)); (case side4 => exact HC0_2.out); (case side5 => exact kC_ (Kd.C_below HR0_3.out HB.out)); (case side6 => exact HC0_3.out); rintro e w12 ⟨v180, v183, v186, rfl, ho0, ho1, ho2, hb⟩; refine ⟨_, rfl, ?_⟩; have HO181 := Aside0.mk (Kd.R_lower ho0 (below_size (hbA_ HB.out))); have HO184 := Aside0.mk (Kd.S_lower ho1 (below_size (hbA_ HB.out))); have HO187 := Aside0.mk (Kd.R_lower ho2 (below_size (hbA_ HB.out))); replace BK175 := (bbA_ BK175 hb); replace BK176 := (bbA_ BK176 hb); replace HB := (bs_ HB hb); (try clear hb); (try clear hb2); (try clear hk); (try clear hi); (try clear ho0); (try clear ho1); (try clear ho2)) | ((with_reducible refine gate_dst (N := 3) rfl ?_); refine box_ (N := 3) (cs := #[.int .i64 0, .slice none 0 0, .slice none 0 0, .slice none 0 0]) (t := 30) (fun gb188 hg w13 hbox hb => ?_); replace HO181 := Aside0.mk (Kd.R_below (kR_ HO181.out) hb); replace HO184 := Aside0.mk (Kd.S_below (kS_ HO184.out) hb); replace HO187 := Aside0.mk (Kd.R_below (kR_ HO187.out) hb); have BK188 := Aside0.mk (hbox); have GW188 := ge_ hg HB; have GE188 := ge_ hg HB; replace HB := (bs_ HB hb); have NB175_188 := nl_ hg BK175; have NB188_175 := ng_ hg BK175; replace BK175 := (bbA_ BK175 hb); have NB176_188 := nl_ hg BK176; have NB188_176 := ng_ hg BK176; replace BK176 := (bbA_ BK176 hb); clear hb hbox hg; have hnb14 := NB188_175.out; have hnc14 := NB175_188.out; have hnb15 := NB188_176.out; have hnc15 := NB176_188.out; have Z16 := zz4 BK188; obtain ⟨Ao17, co17, eo17⟩ := Kd.R_slice HO181.out; subst eo17; obtain ⟨Ao18, co18, eo18⟩ := Kd.S_slice HO184.out; subst eo18; obtain ⟨Ao19, co19, eo19⟩ := Kd.R_slice HO187.out; subst eo19; have Z20 := zz4 BK175) | ((with_reducible refine gate_builtin (b := .append) (xs := #[.tmp 11, .tmp 13]) rfl ?_); at_builtin; refine Kd.R_append_rows (Kd.int .i64) (w0 := w) w.heap.size rfl (.tmp 11) (.tmp 13) 22 3 (.int .i64 0) 8 rfl Try.underlying22 info3 rfl (by decide) (by omega) (.slice Ao19 t185.length co19) t185 l0_1 _ _ _ (fun k_ => some k_ ≠ (.slice Ao17 t179.length co17 : Value).ownBlock) (fun _ => False) rfl rfl ?aO ?aR (fun _ _ h => h) (fun _ h => h.elim) ?aF ?aB ?aS ?aL ?_; (case aR => exact Kd.C_below HR0_1.out (hbA_ HB.out)); (case aB => exact (hbA_ HB.out)); (case aF => exact (fun k_ hk => Kd.fresh' (Kd.R_lt (by refine kR_ ?_; exact (rfm_ ((Kd.R_types HO181.out BK188.out (by decide))) (fun _ h_ => op1_ h_)))) k_ hk)); (case aO => exact (by refine kR_ ?_; exact rfm_ ((Kd.R_types HO187.out BK188.out (by decide))) (fun _ hk => hk.1))); (case aS => exact (below_size (hbA_ HB.out))); (case aL => have := LMc5.out; omega); intro v190 w21 ho hb hg hat; rw [← Ny189.out] at ho; replace BK175 := Aside0.mk (blk_grown (g := gb175) (o := .cells #[.int .i64 a0_0, .slice A0_1 l0_1.length c0_1, .slice A0_2 l0_2.length c0_2, .slice A0_3 l0_3.length c0_3] 30 (0, 0)) (by exact kf_ BK175.out) hg (Kd.R_ne HO187.out BK175.out (by decide))); replace BK176 := Aside0.mk (blk_grown (g := gb176) (o := .cells #[.int .i64 0, .slice none 0 0, .slice none 0 0, .slice none 0 0] 30 (0, 0)) (by exact kf_ BK176.out) hg (Kd.R_ne HO187.out BK176.out (by decide))); replace HO181 := Aside0.mk (Kd.R_after (ok := (fun _ => True)) (by refine kR_ ?_; exact rfm_ ((Kd.R_types HO181.out BK188.out (by decide))) (fun _ hk => ⟨trivial, hk.1⟩)) hg hat); replace HO184 := Aside0.mk (Kd.S_over' (by refine kS_ ?_; exact (Kd.S_mono (Kd.S_far (p := ⟨gb188, 3, none⟩) (Kd.S_far (p := ⟨gb188, 2, none⟩) (Kd.S_far (p := ⟨gb188, 1, none⟩) (Kd.S_far (p := ⟨gb188, 0, none⟩) (Kd.S_types HO184.out BK188.out (by decide)) (fun _ hk => hk.2) (.int .i64 t178)) (fun _ hk => hk.2) (.slice Ao17 t179.length co17)) (fun _ hk => hk.2) (.slice Ao18 t182.length co18)) (fun _ hk => hk.2) (.slice Ao19 t185.length co19)) (fun _ h_ => op1_ h_))) (Kd.R_typed (by refine kR_ ?_; exact (rfm_ ((Kd.R_types HO187.out BK188.out (by decide))) (fun _ h_ => op1_ h_)))) (by decide) hg); replace BK188 := Aside0.mk (blk_grown (g := gb188) (o := .cells #[.int .i64 t178, .slice Ao17 t179.length co17, .slice Ao18 t182.length co18, .slice Ao19 t185.length co19] 30 (0, 0)) (by refine kb_ ?_; refine pz4 (cs := #[.int .i64 0, .slice none 0 0, .slice none 0 0, .slice none 0 0]) ?_; refine kb_ ?_; exact BK188.out) hg (Kd.R_ne HO187.out BK188.out (by decide))); replace HB := Aside0.mk (hb); have HO191 := Aside0.mk (ho); clear HO187; clear ho hb hg hat; obtain ⟨Ao22, co22, eo22⟩ := Kd.R_slice HO191.out; subst eo22; have Z23 := zz4 BK188) | ((with_reducible refine gate_dst (N := 16) rfl ?_); refine Kd.R_lit (Kd.int .i64) _ 3 ?hg (N := 16) ?hd (xs := ([] : List Int)) (inner := []) (ok := fun _ => True) (okp := fun _ => True) ?hr ?hp (fun _ hk => hk) trivial (Below.refl _ _) (Nat.le_refl _) (by simp) ?_; (case hd => rfl); (case hg => rfl); (case hr => first | (go_simp; done) | (go_simp; rfl)); (case hp => exact (Reps.none _ _)); intro v193 w24 ho25 hb hg_ hnew_; clear hg_ hnew_; (first | rw [← Ny192.out] at ho25 | (simp only [Int.reduceToNat] at ho25; rw [← Ny192.out] at ho25)); replace HO184 := Aside0.mk (Kd.S_below (by refine kS_ ?_; exact (Kd.S_mono (Kd.S_far (p := ⟨gb188, 3, none⟩) (Kd.S_types HO184.out BK188.out (by decide)) (fun _ hk => hk.2) (.slice Ao22 y189.length co22)) (fun _ h_ => op1_ h_))) hb); have HO194 := Aside0.mk (Kd.R_lower (Kd.R_new' (Kd.R_new' ho25 (Kd.R_lt (by refine kR_ ?_; exact (Kd.R_mono (Kd.R_f gb188 3 (.slice Ao22 y189.length co22) (Kd.R_types HO181.out BK188.out (by decide))) (fun _ h_ => op1_ h_))))) (Kd.R_lt (by refine kR_ ?_; exact (Kd.R_mono (Kd.R_f gb188 3 (.slice Ao22 y189.length co22) (Kd.R_types HO191.out BK188.out (by decide))) (fun _ h_ => op1_ h_))))) (below_size (hbA_ HB.out))); replace HO181 := Aside0.mk (Kd.R_elder' (by refine kR_ ?_; exact (Kd.R_mono (Kd.R_f gb188 3 (.slice Ao22 y189.length co22) (Kd.R_types HO181.out BK188.out (by decide))) (fun _ h_ => op1_ h_))) (Kd.R_base ho25) hb); replace HO191 := Aside0.mk (Kd.R_elder' (by refine kR_ ?_; exact (Kd.R_mono (Kd.R_f gb188 3 (.slice Ao22 y189.length co22) (Kd.R_types HO191.out BK188.out (by decide))) (fun _ h_ => op1_ h_))) (Kd.R_base ho25) hb); replace BK175 := Aside0.mk (blk_below (g := gb175) (o := .cells #[.int .i64 a0_0, .slice A0_1 l0_1.length c0_1, .slice A0_2 l0_2.length c0_2, .slice A0_3 l0_3.length c0_3] 30 (0, 0)) (by exact kf_ BK175.out) hb); replace BK176 := Aside0.mk (blk_below (g := gb176) (o := .cells #[.int .i64 0, .slice none 0 0, .slice none 0 0, .slice none 0 0] 30 (0, 0)) (by exact kf_ BK176.out) hb); replace BK188 := Aside0.mk (blk_below (g := gb188) (o := .cells #[.int .i64 t178, .slice Ao17 t179.length co17, .slice Ao18 t182.length co18, .slice Ao22 y189.length co22] 30 (0, 0)) (by refine kb_ ?_; refine blk_put (cs := #[.int .i64 t178, .slice Ao17 t179.length co17, .slice Ao18 t182.length co18, .slice Ao19 t185.length co19]) ?_ 3 _ rfl; refine kb_ ?_; exact BK188.out) hb); replace HB := (bs_ HB hb); clear hb ho25; obtain ⟨Ao26, co26, eo26⟩ := Kd.R_slice HO194.out; subst eo26; have Z27 := zz4 BK188; have Z28 := zz4 BK176))
   refine bodyPost_ret (results_cell_row rfl _ _ gb176 30 #[.int .i64 t178, .slice Ao26 y192.length co26, .slice Ao18 t182.length co18, .slice Ao22 y189.length co22] (0, 0) _ rfl (by refine kb_ ?_; refine pz4 (cs := #[.int .i64 0, .slice none 0 0, .slice none 0 0, .slice none 0 0]) ?_; exact kf_ BK176.out) Try.underlying30 rfl (by kernel_rfl)) rfl ?_
   exact ⟨_, _, _, by first | rfl | (simp [errW_none, errW_some] <;> rfl) | (simp [*, errW_none, errW_some] <;> rfl), by refine kR_ ?_; exact rfm_ ((Kd.R_far (p := ⟨gb188, 1, none⟩) (Kd.R_types (Kd.R_types HO194.out BK188.out (by decide)) BK176.out (by decide)) (fun _ hk => hk.1.2) (.slice Ao26 y192.length co26))) (fun _ hk => hk.1.1.2), by refine kS_ ?_; exact Kd.S_mono (Kd.S_far (p := ⟨gb176, 3, none⟩) (Kd.S_far (p := ⟨gb176, 2, none⟩) (Kd.S_far (p := ⟨gb176, 1, none⟩) (Kd.S_far (p := ⟨gb176, 0, none⟩) (Kd.S_far (p := ⟨gb188, 1, none⟩) (Kd.S_types (Kd.S_types HO184.out BK188.out (by decide)) BK176.out (by decide)) (fun _ hk => hk.1.2) (.slice Ao26 y192.length co26)) (fun _ hk => hk.2) (.int .i64 t178)) (fun _ hk => hk.2) (.slice Ao26 y192.length co26)) (fun _ hk => hk.2) (.slice Ao18 t182.length co18)) (fun _ hk => hk.2) (.slice Ao22 y189.length co22)) (fun _ hk => trivial), by refine kR_ ?_; exact rfm_ ((Kd.R_far (p := ⟨gb188, 1, none⟩) (Kd.R_types (Kd.R_types HO191.out BK188.out (by decide)) BK176.out (by decide)) (fun _ hk => hk.1.2) (.slice Ao26 y192.length co26))) (fun _ hk => hk.1.1.2), hbA_ HB.out⟩
  ·rw [if_neg c5] at H
   exact absurd H (by simp)
 ·replace c3 := Bool.eq_false_iff.mpr c3
  subst c3
  rw [if_neg (show ¬ (false = true) by decide)] at H
  simp only [Option.some.injEq, Prod.mk.injEq] at H
  obtain ⟨rfl, rfl, rfl, rfl⟩ := H
  go_enter Try.func19, Try.ntmps19
  go_wp2_with (first | ((with_reducible refine gate_dst (N := 1) rfl ?_); refine box_ (N := 1) (cs := #[.int .i64 a0_0, .slice A0_1 l0_1.length c0_1, .slice A0_2 l0_2.length c0_2, .slice A0_3 l0_3.length c0_3]) (t := 30) (fun gb175 hg w29 hbox hb => ?_); have BK175 := Aside0.mk (hbox); have GW175 := ge_ hg HB; have GE175 := ge_ hg HB; replace HB := (bs_ HB hb); clear hb hbox hg) | ((with_reducible refine gate_dst (N := 2) rfl ?_); refine box_ (N := 2) (cs := #[.int .i64 0, .slice none 0 0, .slice none 0 0, .slice none 0 0]) (t := 30) (fun gb176 hg w30 hbox hb => ?_); have BK176 := Aside0.mk (hbox); have GW176 := ge_ hg HB; have GE176 := ge_ hg HB; replace HB := (bs_ HB hb); have NB175_176 := nl_ hg BK175; have NB176_175 := ng_ hg BK175; replace BK175 := (bbA_ BK175 hb); clear hb hbox hg; have hnb31 := NB175_176.out; have hnc31 := NB176_175.out; have Z32 := zz4 BK175) | ((with_reducible refine gate_callee (f := 12) rfl ?_); refine goesL_ (some 5) rfl rfl Try.func12 (by kernel_rfl) rfl #[.agg #[.int .i64 a0_0, .slice A0_1 l0_1.length c0_1, .slice A0_2 l0_2.length c0_2, .slice A0_3 l0_3.length c0_3]] rfl ar_ ?_; (with_reducible refine (spec_ClientOk.calls k a0_0 _ _ l0_1 _ _ l0_2 _ _ l0_3 false _ ?side1 ?side2 ?side3 ?side4 ?side5 ?side6 A2.out).mono ?_); (case side1 => exact kC_ (Kd.C_below HR0_1.out HB.out)); (case side2 => exact HC0_1.out); (case side3 => exact kC_ (Kd.C_below HR0_2.out HB.out)); (case side4 => exact HC0_2.out); (case side5 => exact kC_ (Kd.C_below HR0_3.out HB.out)); (case side6 => exact HC0_3.out); rintro e w33 ⟨rfl, hb⟩; refine ⟨_, rfl, ?_⟩; replace BK175 := (bbA_ BK175 hb); replace BK176 := (bbA_ BK176 hb); replace HB := (bs_ HB hb); (try clear hb); (try clear hb2); (try clear hk); (try clear hi); have Z34 := zz4 BK176))
  refine bodyPost_ret (results_cell_row rfl _ _ gb176 30 #[.int .i64 0, .slice none 0 0, .slice none 0 0, .slice none 0 0] (0, 0) _ rfl (by refine kb_ ?_; refine pz4 (cs := #[.int .i64 0, .slice none 0 0, .slice none 0 0, .slice none 0 0]) ?_; refine kb_ ?_; exact BK176.out) Try.underlying30 rfl (by kernel_rfl)) rfl ?_
  exact ⟨_, _, _, by first | rfl | (simp [errW_none, errW_some] <;> rfl) | (simp [*, errW_none, errW_some] <;> rfl), by first | exact Kd.R_nil _ _ _ _ _ | exact Kd.N_nil _ _ _ _ _ | exact Kd.V_nil _ _ _ _ _ | exact Kd.Q_nil _ _ _ _ _ | exact Kd.S_nil _ _ _ _ _, by first | exact Kd.S_nil _ _ _ _ _ | exact Kd.N_nil _ _ _ _ _ | exact Kd.V_nil _ _ _ _ _ | exact Kd.Q_nil _ _ _ _ _ | exact Kd.R_nil _ _ _ _ _, by first | exact Kd.R_nil _ _ _ _ _ | exact Kd.N_nil _ _ _ _ _ | exact Kd.V_nil _ _ _ _ _ | exact Kd.Q_nil _ _ _ _ _ | exact Kd.S_nil _ _ _ _ _, hbA_ HB.out⟩
end Go.Proofs.Ytegchbdjbefdbaa.PFnClientOver
