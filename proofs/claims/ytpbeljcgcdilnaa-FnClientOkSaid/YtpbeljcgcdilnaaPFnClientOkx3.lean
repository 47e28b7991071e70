/- Printed by wip/xp/xprint.sh out of the translation, for this claim: what each function answers, as a plain function, and that the machine does just that. No condition. -/
import Derived.Test.YtpbeljcgcdilnaaPFnClientOkx0
namespace Go.Proofs.Ytpbeljcgcdilnaa.PFnClientOk
open Go.RowKit Go.Proofs.YtpbeljcgcdilnaaW.PrintWords Go.Proofs.YtpbeljcgcdilnaaW.PrintLast Go.Proofs.YtpbeljcgcdilnaaW.PrintMore
attribute [local go_sem] max2_int min2_int max_two min_two max_three min_three max_four min_four   -- for this text's walks alone
set_option linter.unusedVariables false
set_option linter.unusedSimpArgs false
def spec_l20Client.l0 : Nat → Int → Int → List Int → List (S81) → List Int → Int → List Int → List (S81) → List Int → Option (Int × List Int × (List (S81)) × List Int)
 | 0, _, _, _, _, _, _, _, _, _ => none
 | k + 1, x4, x167000, x167001, x167002, x167003, x181000, x181001, x181002, x181003 => if x4 < (x167002.length : Int) then (if 0 ≤ x4 then ((some (([] : List Int) : List Int)).bind fun y182 => (if y182.length + ((rd_T81 x167002 x4).f1).length < 140737488355328 then (if x181002.length < 4398046511104 then (spec_l20Client.l0 k (wrap64 (x4 + 1)) x167000 x167001 x167002 x167003 x181000 x181001 (x181002 ++ [(⟨(rd_T81 x167002 x4).f0, (y182 ++ ((rd_T81 x167002 x4).f1))⟩ : S81)]) x181003) else (none)) else (none))) else (none)) else (some (x181000, x181001, x181002, x181003))
def spec_l20Client.f (k : Nat) (a0_0 : Int) (l0_1 : List Int) (l0_2 : List (S81)) (l0_3 : List Int) : Option (Int × List Int × (List (S81)) × List Int) := (some (([] : List Int) : List Int)).bind fun y168 => (if y168.length + l0_1.length < 17592186044416 then ((some (([] : List Int) : List Int)).bind fun y174 => (if y174.length + l0_3.length < 17592186044416 then (spec_l20Client.l0 k 0 a0_0 l0_1 l0_2 l0_3 a0_0 (y168 ++ l0_1) ([] : List (S81)) (y174 ++ l0_3)) else (none))) else (none))
theorem spec_l20Client.mono_l : ∀ k, (∀ y0 y1 y2 y3 y4 y5 y6 y7 y8, LeO (spec_l20Client.l0 k y0 y1 y2 y3 y4 y5 y6 y7 y8) (spec_l20Client.l0 (k + 1) y0 y1 y2 y3 y4 y5 y6 y7 y8))
 | 0 => fun _ _ _ _ _ _ _ _ _ r h => by simp [spec_l20Client.l0] at h
 | k + 1 => by
  have ih0 := spec_l20Client.mono_l k
  ·intro y0 y1 y2 y3 y4 y5 y6 y7 y8
   unfold spec_l20Client.l0
   repeat' first | (with_reducible first | apply ih0 | exact LeO.refl _ | exact LeO.none _ | refine LeO.ite ?_ ?_ | refine LeO.bind ?_ fun _ => ?_) | apply ih0 | exact LeO.none _ | refine LeO.ite ?_ ?_ | refine LeO.bind ?_ fun _ => ?_
theorem spec_l20Client.mono : ∀ a0 a1 a2 a3 k, LeO (spec_l20Client.f k a0 a1 a2 a3) (spec_l20Client.f (k + 1) a0 a1 a2 a3) := by
 intro a0 a1 a2 a3 k
 have ih0 := spec_l20Client.mono_l k
 unfold spec_l20Client.f
 repeat' first | (with_reducible first | apply ih0 | exact LeO.refl _ | exact LeO.none _ | refine LeO.ite ?_ ?_ | refine LeO.bind ?_ fun _ => ?_) | apply ih0 | exact LeO.none _ | refine LeO.ite ?_ ?_ | refine LeO.bind ?_ fun _ => ?_
def spec_l20Client.T1 : Bool × List (List Nat × List Nat) := (true, [([], []), ([0], [0]), ([], []), ([], []), ([3], [3]), ([2, 4], [2, 4]), ([], []), ([], []), ([7], [7]), ([6, 8, 5], [6, 8]), ([1, 5, 9], [1, 5, 9]), ([], []), ([11, 10, 9, 0, 1, 2, 3, 4, 5, 6, 7, 8, 9, 10, 11], [10, 11])])
def spec_l20Client.B1 : List Nat := [0, 1, 0, 0, 8, 28, 0, 0, 128, 508, 1023, 0, 4095]
theorem spec_l20Client.tab1 : rtab .any (opsOf Try.f103 1) = spec_l20Client.T1 := by kernel_rfl
theorem spec_l20Client.bits1 : waitsOk spec_l20Client.T1.2 spec_l20Client.B1 = true := by kernel_rfl
def spec_l20Client.T5 : Bool × List (List Nat × List Nat) := (true, [([], []), ([0], [0]), ([], []), ([2], [2]), ([], []), ([3, 4], [3, 4]), ([5], [5]), ([6], [6]), ([], []), ([], []), ([9], [9]), ([], []), ([10, 11], [10, 11]), ([12], [12]), ([13], [13]), ([8, 14], [8, 14]), ([7, 15], [7, 15]), ([16], [16]), ([1, 17, 15], [1, 17]), ([0, 1, 2, 3, 4, 5, 6, 7, 8, 9, 10, 11, 12, 13, 14, 15, 16, 17, 18], []), ([19, 18, 18, 0, 1, 2, 3, 4, 5, 6, 7, 8, 9, 10, 11, 12, 13, 14, 15, 16, 17, 18], [18, 19])])
def spec_l20Client.B5 : List Nat := [0, 1, 0, 4, 0, 28, 60, 124, 0, 0, 512, 0, 3584, 7680, 15872, 32512, 65532, 131068, 262143, 524287, 1048575]
theorem spec_l20Client.tab5 : rtab .any (opsOf Try.f103 5) = spec_l20Client.T5 := by kernel_rfl
theorem spec_l20Client.bits5 : waitsOk spec_l20Client.T5.2 spec_l20Client.B5 = true := by kernel_rfl
set_option maxHeartbeats 8000000 in
set_option maxRecDepth 100000 in
theorem spec_l20Client.calls (k : Nat) (a0_0 : Int) (A0_1 : Option Addr) (c0_1 : Nat) (l0_1 : List Int) (A0_2 : Option Addr) (c0_2 : Nat) (l0_2 : List (S81)) (A0_3 : Option Addr) (c0_3 : Nat) (l0_3 : List Int) (r1 : Int) (r2 : List Int) (r3 : List (S81)) (r4 : List Int) (w : World) (hr0_1 : Kd.C (Kd.int .i64) w A0_1 l0_1.length l0_1) (hc0_1 : l0_1.length ≤ c0_1) (hr0_2 : Kd.C k81 w A0_2 l0_2.length l0_2) (hc0_2 : l0_2.length ≤ c0_2) (hr0_3 : Kd.C (Kd.int .i64) w A0_3 l0_3.length l0_3) (hc0_3 : l0_3.length ≤ c0_3) (h : spec_l20Client.f k a0_0 l0_1 l0_2 l0_3 = some (r1, r2, r3, r4)) :
  Calls Try.prog 103 #[.agg #[.int .i64 a0_0, .slice A0_1 l0_1.length c0_1, .slice A0_2 l0_2.length c0_2, .slice A0_3 l0_3.length c0_3]] w fun e w' => ∃ v1_ v2_ v3_ : Value, e = .returned (.agg #[.int .i64 r1, v1_, v2_, v3_]) ∧ Kd.R (Kd.int .i64) 3 w' w.heap.size (fun k_ => some k_ ≠ (v3_ : Value).ownBlock) v1_ r2 ∧ Kd.S k81 81 w' w.heap.size (fun _ => True) v2_ r3 ∧ Kd.R (Kd.int .i64) 3 w' w.heap.size (fun k_ => some k_ ≠ (v1_ : Value).ownBlock) v3_ r4 ∧ Below w.heap.size w w' := by
 have hu38 := Try.underlying38; have hu81 := Try.underlying81; have HR0_1 := Aside0.mk hr0_1; have HC0_1 := Aside0.mk hc0_1; clear hr0_1 hc0_1; have HR0_2 := Aside0.mk hr0_2; have HC0_2 := Aside0.mk hc0_2; clear hr0_2 hc0_2; have HR0_3 := Aside0.mk hr0_3; have HC0_3 := Aside0.mk hc0_3; clear hr0_3 hc0_3
 have HB := Aside0.mk (Below.refl w.heap.size w)
 have H : ((some (([] : List Int) : List Int)).bind fun y168 => (if y168.length + l0_1.length < 17592186044416 then ((some (([] : List Int) : List Int)).bind fun y174 => (if y174.length + l0_3.length < 17592186044416 then (spec_l20Client.l0 k 0 a0_0 l0_1 l0_2 l0_3 a0_0 (y168 ++ l0_1) ([] : List (S81)) (y174 ++ l0_3)) else (none))) else (none))) = some (r1, r2, r3, r4) := h
 clear h
 obtain ⟨y168, hy168⟩ : ∃ y_ : List Int, y_ = (([] : List Int)) := ⟨_, rfl⟩
 (first | replace H := sb_ hy168 H | rw [← hy168] at H)
 have Ny168 := Aside0.mk hy168; clear hy168
 by_cases c2 : y168.length + l0_1.length < 17592186044416
 ·rw [if_pos c2] at H
  have LMc2 := Aside0.mk c2; clear c2
  obtain ⟨y171, hy171⟩ : ∃ y_ : List Int, y_ = (y168 ++ l0_1) := ⟨_, rfl⟩
  (first | replace H := sb_ hy171 H | rw [← hy171] at H)
  have Ny171 := Aside0.mk hy171; clear hy171
  obtain ⟨y174, hy174⟩ : ∃ y_ : List Int, y_ = (([] : List Int)) := ⟨_, rfl⟩
  (first | replace H := sb_ hy174 H | rw [← hy174] at H)
  have Ny174 := Aside0.mk hy174; clear hy174
  by_cases c3 : y174.length + l0_3.length < 17592186044416
  ·rw [if_pos c3] at H
   have LMc3 := Aside0.mk c3; clear c3
   obtain ⟨y177, hy177⟩ : ∃ y_ : List Int, y_ = (y174 ++ l0_3) := ⟨_, rfl⟩
   (first | replace H := sb_ hy177 H | rw [← hy177] at H)
   have Ny177 := Aside0.mk hy177; clear hy177
   have H' := Aside0.mk H
   clear H
   go_enter Try.func103, Try.ntmps103
   try go_wp2_with (first | ((with_reducible refine gate_dst (N := 1) rfl ?_); refine box_ (N := 1) (cs := #[.int .i64 a0_0, .slice A0_1 l0_1.length c0_1, .slice A0_2 l0_2.length c0_2, .slice A0_3 l0_3.length c0_3]) (t := 38) (fun gb166 hg w4 hbox hb => ?_); have BK166 := Aside0.mk (hbox); have GW166 := ge_ hg HB; have GE166 := ge_ hg HB; replace HB := (bs_ HB hb); clear hb hbox hg) | ((with_reducible refine gate_dst (N := 2) rfl ?_); refine box_ (N := 2) (cs := #[.int .i64 0, .slice none 0 0, .slice none 0 0, .slice none 0 0]) (t := 38) (fun gb167 hg w5 hbox hb => ?_); have BK167 := Aside0.mk (hbox); have GW167 := ge_ hg HB; have GE167 := ge_ hg HB; replace HB := (bs_ HB hb); have NB166_167 := nl_ hg BK166; have NB167_166 := ng_ hg BK166; replace BK166 := (bbA_ BK166 hb); clear hb hbox hg))
   replace BK166 := Aside0.mk (blk_drew BK166.out); replace BK167 := Aside0.mk (blk_drew BK167.out); replace HB := (bd_ HB)
   refine start_ (n := 13) (S := fun w' => w'.cell? ⟨gb166, 0, none⟩ = some (.int .i64 a0_0) ∧ w'.cell? ⟨gb166, 1, none⟩ = some (.slice A0_1 l0_1.length c0_1) ∧ w'.cell? ⟨gb166, 2, none⟩ = some (.slice A0_2 l0_2.length c0_2) ∧ w'.cell? ⟨gb166, 3, none⟩ = some (.slice A0_3 l0_3.length c0_3)) (ds := []) #[false, false, false, false, false, false, false, false, false, false, false, false, false] (by kernel_rfl) rfl rfl (cz4 BK166.out) (fun hHeld => ?_); refine with_tabW spec_l20Client.tab1 spec_l20Client.bits1 (fun HT_ HW_ => ?_)
   generalize w5.drew = w6 at BK166 BK167 HB hHeld ⊢
   refine pu_ (i := 0) (N := some 5) HT_ ?_; refine pu_ (i := 3) (N := some 8) HT_ ?_; refine pu_ (i := 7) (N := some 12) HT_ ?_; refine tk_ (i := 1) (N := some 6) HT_ HW_ hHeld ?_; refine tk_ (i := 4) (N := some 9) HT_ HW_ hHeld ?_; refine tk_ (i := 8) (N := some 13) HT_ HW_ hHeld ?_
   refine join_ (σ := Value × Value × Value × Value × Nat) 1 #[true, true, true, true, true, true, true, true, true, true, true, true, false] (fun s_ => [(7, s_.1), (10, s_.2.1), (11, s_.2.2.1), (14, s_.2.2.2.1), (3, .pointer (some ⟨s_.2.2.2.2, 0, none⟩)), (15, .agg #[.int .i64 a0_0, s_.2.1, .slice none 0 0, s_.2.2.2.1])]) (fun s_ w' => (w'.cell? ⟨gb166, 0, none⟩ = some (.int .i64 a0_0) ∧ w'.cell? ⟨gb166, 1, none⟩ = some (.slice A0_1 l0_1.length c0_1) ∧ w'.cell? ⟨gb166, 2, none⟩ = some (.slice A0_2 l0_2.length c0_2) ∧ w'.cell? ⟨gb166, 3, none⟩ = some (.slice A0_3 l0_3.length c0_3)) ∧ (Kd.R (Kd.int .i64) 3 w' w.heap.size (fun k_ => some k_ ≠ (s_.2.2.2.1 : Value).ownBlock) s_.2.1 y171) ∧ (Kd.R (Kd.int .i64) 3 w' w.heap.size (fun k_ => some k_ ≠ (s_.2.1 : Value).ownBlock) s_.2.2.2.1 y177) ∧ (w'.heap[gb166]? = some (.cells #[.int .i64 a0_0, .slice A0_1 l0_1.length c0_1, .slice A0_2 l0_2.length c0_2, .slice A0_3 l0_3.length c0_3] 38 (0, 0))) ∧ (w'.heap[gb167]? = some (.cells #[.int .i64 0, .slice none 0 0, .slice none 0 0, .slice none 0 0] 38 (0, 0))) ∧ (w'.heap[s_.2.2.2.2]? = some (.cells #[.int .i64 0, .slice none 0 0, .slice none 0 0, .slice none 0 0] 38 (0, 0))) ∧ (w.heap.size ≤ s_.2.2.2.2) ∧ (w.heap.size ≤ s_.2.2.2.2) ∧ (gb166 ≠ s_.2.2.2.2) ∧ (s_.2.2.2.2 ≠ gb166) ∧ (gb167 ≠ s_.2.2.2.2) ∧ (s_.2.2.2.2 ≠ gb167) ∧ (Below w.heap.size w w')) ?_ ?_
   rotate_left
   ·intro hJ2_5_6_9_11
    refine join_ (σ := Value × Value × Value × Value) 2 #[true, true, true, true, true, true, true, true, true, true, true, false, false] (fun s_ => [(7, s_.1), (10, s_.2.1), (11, s_.2.2.1), (14, s_.2.2.2), (15, .agg #[.int .i64 a0_0, s_.2.1, .slice none 0 0, s_.2.2.2])]) (fun s_ w' => (w'.cell? ⟨gb166, 0, none⟩ = some (.int .i64 a0_0) ∧ w'.cell? ⟨gb166, 1, none⟩ = some (.slice A0_1 l0_1.length c0_1) ∧ w'.cell? ⟨gb166, 2, none⟩ = some (.slice A0_2 l0_2.length c0_2) ∧ w'.cell? ⟨gb166, 3, none⟩ = some (.slice A0_3 l0_3.length c0_3)) ∧ (Kd.R (Kd.int .i64) 3 w' w.heap.size (fun k_ => some k_ ≠ (s_.2.2.2 : Value).ownBlock) s_.2.1 y171) ∧ (Kd.R (Kd.int .i64) 3 w' w.heap.size (fun k_ => some k_ ≠ (s_.2.1 : Value).ownBlock) s_.2.2.2 y177) ∧ (w'.heap[gb166]? = some (.cells #[.int .i64 a0_0, .slice A0_1 l0_1.length c0_1, .slice A0_2 l0_2.length c0_2, .slice A0_3 l0_3.length c0_3] 38 (0, 0))) ∧ (w'.heap[gb167]? = some (.cells #[.int .i64 0, .slice none 0 0, .slice none 0 0, .slice none 0 0] 38 (0, 0))) ∧ (Below w.heap.size w w')) ?_ ?_
    rotate_left
    ·intro hJ2_5_6_9
     refine join_ (σ := Value × Value × Value × Nat) 3 #[true, true, true, true, true, true, true, true, true, false, false, true, false] (fun s_ => [(7, s_.1), (10, s_.2.1), (11, s_.2.2.1), (3, .pointer (some ⟨s_.2.2.2, 0, none⟩))]) (fun s_ w' => (w'.cell? ⟨gb166, 0, none⟩ = some (.int .i64 a0_0) ∧ w'.cell? ⟨gb166, 1, none⟩ = some (.slice A0_1 l0_1.length c0_1) ∧ w'.cell? ⟨gb166, 2, none⟩ = some (.slice A0_2 l0_2.length c0_2) ∧ w'.cell? ⟨gb166, 3, none⟩ = some (.slice A0_3 l0_3.length c0_3)) ∧ (Kd.R (Kd.int .i64) 3 w' w.heap.size (fun k_ => some k_ ≠ (s_.2.2.1 : Value).ownBlock) s_.2.1 y171) ∧ (Kd.R (Kd.int .i64) 3 w' w.heap.size (fun k_ => some k_ ≠ (s_.2.1 : Value).ownBlock) s_.2.2.1 y174) ∧ (w'.heap[gb166]? = some (.cells #[.int .i64 a0_0, .slice A0_1 l0_1.length c0_1, .slice A0_2 l0_2.length c0_2, .slice A0_3 l0_3.length c0_3] 38 (0, 0))) ∧ (w'.heap[gb167]? = some (.cells #[.int .i64 0, .slice none 0 0, .slice none 0 0, .slice none 0 0] 38 (0, 0))) ∧ (w'.heap[s_.2.2.2]? = some (.cells #[.int .i64 0, .slice none 0 0, .slice none 0 0, .slice none 0 0] 38 (0, 0))) ∧ (w.heap.size ≤ s_.2.2.2) ∧ (w.heap.size ≤ s_.2.2.2) ∧ (gb166 ≠ s_.2.2.2) ∧ (s_.2.2.2 ≠ gb166) ∧ (gb167 ≠ s_.2.2.2) ∧ (s_.2.2.2 ≠ gb167) ∧ (Below w.heap.size w w')) ?_ ?_
     rotate_left
     ·intro hJ2_5_6_11
      refine join_ (σ := Value × Value × Value) 4 #[true, true, true, true, true, true, true, true, true, false, false, false, false] (fun s_ => [(7, s_.1), (10, s_.2.1), (11, s_.2.2)]) (fun s_ w' => (w'.cell? ⟨gb166, 0, none⟩ = some (.int .i64 a0_0) ∧ w'.cell? ⟨gb166, 1, none⟩ = some (.slice A0_1 l0_1.length c0_1) ∧ w'.cell? ⟨gb166, 2, none⟩ = some (.slice A0_2 l0_2.length c0_2) ∧ w'.cell? ⟨gb166, 3, none⟩ = some (.slice A0_3 l0_3.length c0_3)) ∧ (Kd.R (Kd.int .i64) 3 w' w.heap.size (fun k_ => some k_ ≠ (s_.2.2 : Value).ownBlock) s_.2.1 y171) ∧ (Kd.R (Kd.int .i64) 3 w' w.heap.size (fun k_ => some k_ ≠ (s_.2.1 : Value).ownBlock) s_.2.2 y174) ∧ (w'.heap[gb166]? = some (.cells #[.int .i64 a0_0, .slice A0_1 l0_1.length c0_1, .slice A0_2 l0_2.length c0_2, .slice A0_3 l0_3.length c0_3] 38 (0, 0))) ∧ (w'.heap[gb167]? = some (.cells #[.int .i64 0, .slice none 0 0, .slice none 0 0, .slice none 0 0] 38 (0, 0))) ∧ (Below w.heap.size w w')) ?_ ?_
      rotate_left
      ·intro hJ2_5_6
       refine join_ (σ := Value × Value × Nat) 4 #[true, true, true, true, true, true, false, true, true, false, false, true, false] (fun s_ => [(7, s_.1), (10, s_.2.1), (3, .pointer (some ⟨s_.2.2, 0, none⟩))]) (fun s_ w' => (w'.cell? ⟨gb166, 0, none⟩ = some (.int .i64 a0_0) ∧ w'.cell? ⟨gb166, 1, none⟩ = some (.slice A0_1 l0_1.length c0_1) ∧ w'.cell? ⟨gb166, 2, none⟩ = some (.slice A0_2 l0_2.length c0_2) ∧ w'.cell? ⟨gb166, 3, none⟩ = some (.slice A0_3 l0_3.length c0_3)) ∧ (Kd.R (Kd.int .i64) 3 w' w.heap.size (fun _ => True) s_.2.1 y171) ∧ (w'.heap[gb166]? = some (.cells #[.int .i64 a0_0, .slice A0_1 l0_1.length c0_1, .slice A0_2 l0_2.length c0_2, .slice A0_3 l0_3.length c0_3] 38 (0, 0))) ∧ (w'.heap[gb167]? = some (.cells #[.int .i64 0, .slice none 0 0, .slice none 0 0, .slice none 0 0] 38 (0, 0))) ∧ (w'.heap[s_.2.2]? = some (.cells #[.int .i64 0, .slice none 0 0, .slice none 0 0, .slice none 0 0] 38 (0, 0))) ∧ (w.heap.size ≤ s_.2.2) ∧ (w.heap.size ≤ s_.2.2) ∧ (gb166 ≠ s_.2.2) ∧ (s_.2.2 ≠ gb166) ∧ (gb167 ≠ s_.2.2) ∧ (s_.2.2 ≠ gb167) ∧ (Below w.heap.size w w')) ?_ ?_
       rotate_left
       ·intro hJ2_5_11
        refine join_ (σ := Value × Value × Nat) 4 #[true, true, true, true, true, false, true, true, true, false, false, true, false] (fun s_ => [(7, s_.1), (11, s_.2.1), (3, .pointer (some ⟨s_.2.2, 0, none⟩))]) (fun s_ w' => (w'.cell? ⟨gb166, 0, none⟩ = some (.int .i64 a0_0) ∧ w'.cell? ⟨gb166, 1, none⟩ = some (.slice A0_1 l0_1.length c0_1) ∧ w'.cell? ⟨gb166, 2, none⟩ = some (.slice A0_2 l0_2.length c0_2) ∧ w'.cell? ⟨gb166, 3, none⟩ = some (.slice A0_3 l0_3.length c0_3)) ∧ (Kd.R (Kd.int .i64) 3 w' w.heap.size (fun k_ => some k_ ≠ (s_.2.1 : Value).ownBlock) s_.1 y168) ∧ (Kd.R (Kd.int .i64) 3 w' w.heap.size (fun k_ => some k_ ≠ (s_.1 : Value).ownBlock) s_.2.1 y174) ∧ (w'.heap[gb166]? = some (.cells #[.int .i64 a0_0, .slice A0_1 l0_1.length c0_1, .slice A0_2 l0_2.length c0_2, .slice A0_3 l0_3.length c0_3] 38 (0, 0))) ∧ (w'.heap[gb167]? = some (.cells #[.int .i64 0, .slice none 0 0, .slice none 0 0, .slice none 0 0] 38 (0, 0))) ∧ (w'.heap[s_.2.2]? = some (.cells #[.int .i64 0, .slice none 0 0, .slice none 0 0, .slice none 0 0] 38 (0, 0))) ∧ (w.heap.size ≤ s_.2.2) ∧ (w.heap.size ≤ s_.2.2) ∧ (gb166 ≠ s_.2.2) ∧ (s_.2.2 ≠ gb166) ∧ (gb167 ≠ s_.2.2) ∧ (s_.2.2 ≠ gb167) ∧ (Below w.heap.size w w')) ?_ ?_
        rotate_left
        ·intro hJ2_6_11
         refine join_ (σ := Value × Value) 5 #[true, true, true, true, true, true, false, true, true, false, false, false, false] (fun s_ => [(7, s_.1), (10, s_.2)]) (fun s_ w' => (w'.cell? ⟨gb166, 0, none⟩ = some (.int .i64 a0_0) ∧ w'.cell? ⟨gb166, 1, none⟩ = some (.slice A0_1 l0_1.length c0_1) ∧ w'.cell? ⟨gb166, 2, none⟩ = some (.slice A0_2 l0_2.length c0_2) ∧ w'.cell? ⟨gb166, 3, none⟩ = some (.slice A0_3 l0_3.length c0_3)) ∧ (Kd.R (Kd.int .i64) 3 w' w.heap.size (fun _ => True) s_.2 y171) ∧ (w'.heap[gb166]? = some (.cells #[.int .i64 a0_0, .slice A0_1 l0_1.length c0_1, .slice A0_2 l0_2.length c0_2, .slice A0_3 l0_3.length c0_3] 38 (0, 0))) ∧ (w'.heap[gb167]? = some (.cells #[.int .i64 0, .slice none 0 0, .slice none 0 0, .slice none 0 0] 38 (0, 0))) ∧ (Below w.heap.size w w')) ?_ ?_
         rotate_left
         ·intro hJ2_5
          refine join_ (σ := Value × Value) 5 #[true, true, true, true, true, false, true, true, true, false, false, false, false] (fun s_ => [(7, s_.1), (11, s_.2)]) (fun s_ w' => (w'.cell? ⟨gb166, 0, none⟩ = some (.int .i64 a0_0) ∧ w'.cell? ⟨gb166, 1, none⟩ = some (.slice A0_1 l0_1.length c0_1) ∧ w'.cell? ⟨gb166, 2, none⟩ = some (.slice A0_2 l0_2.length c0_2) ∧ w'.cell? ⟨gb166, 3, none⟩ = some (.slice A0_3 l0_3.length c0_3)) ∧ (Kd.R (Kd.int .i64) 3 w' w.heap.size (fun k_ => some k_ ≠ (s_.2 : Value).ownBlock) s_.1 y168) ∧ (Kd.R (Kd.int .i64) 3 w' w.heap.size (fun k_ => some k_ ≠ (s_.1 : Value).ownBlock) s_.2 y174) ∧ (w'.heap[gb166]? = some (.cells #[.int .i64 a0_0, .slice A0_1 l0_1.length c0_1, .slice A0_2 l0_2.length c0_2, .slice A0_3 l0_3.length c0_3] 38 (0, 0))) ∧ (w'.heap[gb167]? = some (.cells #[.int .i64 0, .slice none 0 0, .slice none 0 0, .slice none 0 0] 38 (0, 0))) ∧ (Below w.heap.size w w')) ?_ ?_
          rotate_left
          ·intro hJ2_6
           refine join_ (σ := Value × Nat) 5 #[true, true, true, true, true, false, false, true, true, false, false, true, false] (fun s_ => [(7, s_.1), (3, .pointer (some ⟨s_.2, 0, none⟩))]) (fun s_ w' => (w'.cell? ⟨gb166, 0, none⟩ = some (.int .i64 a0_0) ∧ w'.cell? ⟨gb166, 1, none⟩ = some (.slice A0_1 l0_1.length c0_1) ∧ w'.cell? ⟨gb166, 2, none⟩ = some (.slice A0_2 l0_2.length c0_2) ∧ w'.cell? ⟨gb166, 3, none⟩ = some (.slice A0_3 l0_3.length c0_3)) ∧ (Kd.R (Kd.int .i64) 3 w' w.heap.size (fun _ => True) s_.1 y168) ∧ (w'.heap[gb166]? = some (.cells #[.int .i64 a0_0, .slice A0_1 l0_1.length c0_1, .slice A0_2 l0_2.length c0_2, .slice A0_3 l0_3.length c0_3] 38 (0, 0))) ∧ (w'.heap[gb167]? = some (.cells #[.int .i64 0, .slice none 0 0, .slice none 0 0, .slice none 0 0] 38 (0, 0))) ∧ (w'.heap[s_.2]? = some (.cells #[.int .i64 0, .slice none 0 0, .slice none 0 0, .slice none 0 0] 38 (0, 0))) ∧ (w.heap.size ≤ s_.2) ∧ (w.heap.size ≤ s_.2) ∧ (gb166 ≠ s_.2) ∧ (s_.2 ≠ gb166) ∧ (gb167 ≠ s_.2) ∧ (s_.2 ≠ gb167) ∧ (Below w.heap.size w w')) ?_ ?_
           rotate_left
           ·intro hJ2_11
            refine join_ (σ := Value × Nat) 5 #[true, true, false, true, true, false, true, true, true, false, false, true, false] (fun s_ => [(11, s_.1), (3, .pointer (some ⟨s_.2, 0, none⟩))]) (fun s_ w' => (w'.cell? ⟨gb166, 0, none⟩ = some (.int .i64 a0_0) ∧ w'.cell? ⟨gb166, 1, none⟩ = some (.slice A0_1 l0_1.length c0_1) ∧ w'.cell? ⟨gb166, 2, none⟩ = some (.slice A0_2 l0_2.length c0_2) ∧ w'.cell? ⟨gb166, 3, none⟩ = some (.slice A0_3 l0_3.length c0_3)) ∧ (Kd.R (Kd.int .i64) 3 w' w.heap.size (fun _ => True) s_.1 y174) ∧ (w'.heap[gb166]? = some (.cells #[.int .i64 a0_0, .slice A0_1 l0_1.length c0_1, .slice A0_2 l0_2.length c0_2, .slice A0_3 l0_3.length c0_3] 38 (0, 0))) ∧ (w'.heap[gb167]? = some (.cells #[.int .i64 0, .slice none 0 0, .slice none 0 0, .slice none 0 0] 38 (0, 0))) ∧ (w'.heap[s_.2]? = some (.cells #[.int .i64 0, .slice none 0 0, .slice none 0 0, .slice none 0 0] 38 (0, 0))) ∧ (w.heap.size ≤ s_.2) ∧ (w.heap.size ≤ s_.2) ∧ (gb166 ≠ s_.2) ∧ (s_.2 ≠ gb166) ∧ (gb167 ≠ s_.2) ∧ (s_.2 ≠ gb167) ∧ (Below w.heap.size w w')) ?_ ?_
            rotate_left
            ·intro hJ6_11
             refine join_ (σ := Value) 6 #[true, true, true, true, true, false, false, true, true, false, false, false, false] (fun s_ => [(7, s_)]) (fun s_ w' => (w'.cell? ⟨gb166, 0, none⟩ = some (.int .i64 a0_0) ∧ w'.cell? ⟨gb166, 1, none⟩ = some (.slice A0_1 l0_1.length c0_1) ∧ w'.cell? ⟨gb166, 2, none⟩ = some (.slice A0_2 l0_2.length c0_2) ∧ w'.cell? ⟨gb166, 3, none⟩ = some (.slice A0_3 l0_3.length c0_3)) ∧ (Kd.R (Kd.int .i64) 3 w' w.heap.size (fun _ => True) s_ y168) ∧ (w'.heap[gb166]? = some (.cells #[.int .i64 a0_0, .slice A0_1 l0_1.length c0_1, .slice A0_2 l0_2.length c0_2, .slice A0_3 l0_3.length c0_3] 38 (0, 0))) ∧ (w'.heap[gb167]? = some (.cells #[.int .i64 0, .slice none 0 0, .slice none 0 0, .slice none 0 0] 38 (0, 0))) ∧ (Below w.heap.size w w')) ?_ ?_
             rotate_left
             ·intro hJ2
              refine join_ (σ := Value) 6 #[true, true, false, true, true, false, true, true, true, false, false, false, false] (fun s_ => [(11, s_)]) (fun s_ w' => (w'.cell? ⟨gb166, 0, none⟩ = some (.int .i64 a0_0) ∧ w'.cell? ⟨gb166, 1, none⟩ = some (.slice A0_1 l0_1.length c0_1) ∧ w'.cell? ⟨gb166, 2, none⟩ = some (.slice A0_2 l0_2.length c0_2) ∧ w'.cell? ⟨gb166, 3, none⟩ = some (.slice A0_3 l0_3.length c0_3)) ∧ (Kd.R (Kd.int .i64) 3 w' w.heap.size (fun _ => True) s_ y174) ∧ (w'.heap[gb166]? = some (.cells #[.int .i64 a0_0, .slice A0_1 l0_1.length c0_1, .slice A0_2 l0_2.length c0_2, .slice A0_3 l0_3.length c0_3] 38 (0, 0))) ∧ (w'.heap[gb167]? = some (.cells #[.int .i64 0, .slice none 0 0, .slice none 0 0, .slice none 0 0] 38 (0, 0))) ∧ (Below w.heap.size w w')) ?_ ?_
              rotate_left
              ·intro hJ6
               refine join_ (σ := Nat) 6 #[true, true, false, true, true, false, false, true, true, false, false, true, false] (fun s_ => [(3, .pointer (some ⟨s_, 0, none⟩))]) (fun s_ w' => (w'.cell? ⟨gb166, 0, none⟩ = some (.int .i64 a0_0) ∧ w'.cell? ⟨gb166, 1, none⟩ = some (.slice A0_1 l0_1.length c0_1) ∧ w'.cell? ⟨gb166, 2, none⟩ = some (.slice A0_2 l0_2.length c0_2) ∧ w'.cell? ⟨gb166, 3, none⟩ = some (.slice A0_3 l0_3.length c0_3)) ∧ (w'.heap[gb166]? = some (.cells #[.int .i64 a0_0, .slice A0_1 l0_1.length c0_1, .slice A0_2 l0_2.length c0_2, .slice A0_3 l0_3.length c0_3] 38 (0, 0))) ∧ (w'.heap[gb167]? = some (.cells #[.int .i64 0, .slice none 0 0, .slice none 0 0, .slice none 0 0] 38 (0, 0))) ∧ (w'.heap[s_]? = some (.cells #[.int .i64 0, .slice none 0 0, .slice none 0 0, .slice none 0 0] 38 (0, 0))) ∧ (w.heap.size ≤ s_) ∧ (w.heap.size ≤ s_) ∧ (gb166 ≠ s_) ∧ (s_ ≠ gb166) ∧ (gb167 ≠ s_) ∧ (s_ ≠ gb167) ∧ (Below w.heap.size w w')) ?_ ?_
               rotate_left
               ·intro hJ11
                refine three_ (i := 2) (j := 6) (k := 11) (Ni := some 7) (Nj := some 11) (Nk := some 3) #[true, true, true, true, true, false, false, true, true, false, false, false, false] #[true, true, false, true, true, false, true, true, true, false, false, false, false] #[true, true, false, true, true, false, false, true, true, false, false, true, false] rfl rfl rfl rfl rfl rfl (three_of HT_.out (by kernel_rfl)) (by decide) (by decide) (by decide) (fun K hK => ?_) (fun K hK => ?_) (fun K hK => ?_)
                ·skip
                 refine Kd.R_lit_step (Kd.int .i64) _ 3 ?hg (N := 7) ?hd (xs := ([] : List Int)) (inner := []) (ok := fun _ => True) (okp := fun _ => True) ?hr ?hp (fun _ hk => hk) trivial (Below.refl _ _) (Nat.le_refl _) (by simp) ?_; (case hd => rfl); (case hg => rfl); (case hr => first | (go_simp; done) | (go_simp; rfl)); (case hp => exact (Reps.none _ _))
                 intro v169 w7 ho8 hb hg_ hnew_
                 clear hg_ hnew_
                 (first | rw [← Ny168.out] at ho8 | (simp only [Int.reduceToNat] at ho8; rw [← Ny168.out] at ho8))
                 have n0_ := Aside0.mk (Kd.R_lower ho8 (below_size (hbA_ HB.out))); have n1_ := (bbA_ BK166 hb); have n2_ := (bbA_ BK167 hb); have n3_ := (bs_ HB hb); clear BK166 BK167 HB; have HO170 := n0_; have BK166 := n1_; have BK167 := n2_; have HB := n3_; clear n0_ n1_ n2_ n3_ hb ho8
                 refine hK.out _ _ (cz4 BK166.out) (fun hHeld => ?_)
                 clear hK K; refine nm_ 7 ?_
                 exact norm_ (by first | (simp only [putAll, Act.put, List.setIfInBounds_toArray, List.set_cons_zero, List.set_cons_succ]; done) | (simp only [putAll, Act.put, List.setIfInBounds_toArray, List.set_cons_zero, List.set_cons_succ]; rfl)) (hJ2 (v169) _ ⟨hHeld, (kR_ HO170.out), (kb_ BK166.out), (kb_ BK167.out), (hbA_ HB.out)⟩)
                ·skip
                 refine Kd.R_lit_step (Kd.int .i64) _ 3 ?hg (N := 11) ?hd (xs := ([] : List Int)) (inner := []) (ok := fun _ => True) (okp := fun _ => True) ?hr ?hp (fun _ hk => hk) trivial (Below.refl _ _) (Nat.le_refl _) (by simp) ?_; (case hd => rfl); (case hg => rfl); (case hr => first | (go_simp; done) | (go_simp; rfl)); (case hp => exact (Reps.none _ _))
                 intro v175 w7 ho8 hb hg_ hnew_
                 clear hg_ hnew_
                 (first | rw [← Ny174.out] at ho8 | (simp only [Int.reduceToNat] at ho8; rw [← Ny174.out] at ho8))
                 have n0_ := Aside0.mk (Kd.R_lower ho8 (below_size (hbA_ HB.out))); have n1_ := (bbA_ BK166 hb); have n2_ := (bbA_ BK167 hb); have n3_ := (bs_ HB hb); clear BK166 BK167 HB; have HO176 := n0_; have BK166 := n1_; have BK167 := n2_; have HB := n3_; clear n0_ n1_ n2_ n3_ hb ho8
                 refine hK.out _ _ (cz4 BK166.out) (fun hHeld => ?_)
                 clear hK K; refine nm_ 11 ?_
                 exact norm_ (by first | (simp only [putAll, Act.put, List.setIfInBounds_toArray, List.set_cons_zero, List.set_cons_succ]; done) | (simp only [putAll, Act.put, List.setIfInBounds_toArray, List.set_cons_zero, List.set_cons_succ]; rfl)) (hJ6 (v175) _ ⟨hHeld, (kR_ HO176.out), (kb_ BK166.out), (kb_ BK167.out), (hbA_ HB.out)⟩)
                ·skip
                 refine box_step ?hg (N := 3) ?hd (cs := #[.int .i64 0, .slice none 0 0, .slice none 0 0, .slice none 0 0]) (t := 38) ?hr ?_; (case hd => rfl); (case hg => rfl); (case hr => first | (go_simp; done) | (go_simp; rfl))
                 intro gb180 hg w7 hbox hb
                 have n0_ := (bbA_ BK166 hb); have n1_ := (bbA_ BK167 hb); have n2_ := (bs_ HB hb); have n3_ := Aside0.mk (hbox); have n4_ := ge_ hg HB; have n5_ := ge_ hg HB; have n6_ := nl_ hg BK166; have n7_ := ng_ hg BK166; have n8_ := nl_ hg BK167; have n9_ := ng_ hg BK167; clear BK166 BK167 HB; have BK166 := n0_; have BK167 := n1_; have HB := n2_; have BK180 := n3_; have GW180 := n4_; have GE180 := n5_; have NB166_180 := n6_; have NB180_166 := n7_; have NB167_180 := n8_; have NB180_167 := n9_; clear n0_ n1_ n2_ n3_ n4_ n5_ n6_ n7_ n8_ n9_ hb hbox hg
                 refine hK.out _ _ (cz4 BK166.out) (fun hHeld => ?_)
                 clear hK K; refine nm_ 3 ?_
                 exact norm_ (by first | (simp only [putAll, Act.put, List.setIfInBounds_toArray, List.set_cons_zero, List.set_cons_succ]; done) | (simp only [putAll, Act.put, List.setIfInBounds_toArray, List.set_cons_zero, List.set_cons_succ]; rfl)) (hJ11 (gb180) _ ⟨hHeld, (kb_ BK166.out), (kb_ BK167.out), (kb_ BK180.out), GW180.out, GE180.out, NB166_180.out, NB180_166.out, NB167_180.out, NB180_167.out, (hbA_ HB.out)⟩)
               ·skip
                rintro gb180 w8 ⟨hS_, h0_, h1_, h2_, h3_, h4_, h5_, h6_, h7_, h8_, h9_⟩
                have n0_ : Aside0 (w8.heap[gb166]? = some (.cells #[.int .i64 a0_0, .slice A0_1 l0_1.length c0_1, .slice A0_2 l0_2.length c0_2, .slice A0_3 l0_3.length c0_3] 38 (0, 0))) := ⟨h0_⟩
                have n1_ : Aside0 (w8.heap[gb167]? = some (.cells #[.int .i64 0, .slice none 0 0, .slice none 0 0, .slice none 0 0] 38 (0, 0))) := ⟨h1_⟩
                have n2_ : Aside0 (w8.heap[gb180]? = some (.cells #[.int .i64 0, .slice none 0 0, .slice none 0 0, .slice none 0 0] 38 (0, 0))) := ⟨h2_⟩
                have n3_ : Aside0 (w.heap.size ≤ gb180) := ⟨h3_⟩
                have n4_ : Aside0 (w.heap.size ≤ gb180) := ⟨h4_⟩
                have n5_ : Aside0 (gb166 ≠ gb180) := ⟨h5_⟩
                have n6_ : Aside0 (gb180 ≠ gb166) := ⟨h6_⟩
                have n7_ : Aside0 (gb167 ≠ gb180) := ⟨h7_⟩
                have n8_ : Aside0 (gb180 ≠ gb167) := ⟨h8_⟩
                have n9_ : Aside0 (Below w.heap.size w w8) := ⟨h9_⟩
                clear BK166 BK167 HB h0_ h1_ h2_ h3_ h4_ h5_ h6_ h7_ h8_ h9_; have BK166 := n0_; have BK167 := n1_; have BK180 := n2_; have GW180 := n3_; have GE180 := n4_; have NB166_180 := n5_; have NB180_166 := n6_; have NB167_180 := n7_; have NB180_167 := n8_; have HB := n9_; clear n0_ n1_ n2_ n3_ n4_ n5_ n6_ n7_ n8_ n9_
                have hHeld : w8.cell? ⟨gb166, 0, none⟩ = some (.int .i64 a0_0) ∧ w8.cell? ⟨gb166, 1, none⟩ = some (.slice A0_1 l0_1.length c0_1) ∧ w8.cell? ⟨gb166, 2, none⟩ = some (.slice A0_2 l0_2.length c0_2) ∧ w8.cell? ⟨gb166, 3, none⟩ = some (.slice A0_3 l0_3.length c0_3) := hS_
                refine norm_ (a' := ?_) ?_ ?_
                rotate_left
                ·simp only [putAll, Act.put, List.setIfInBounds_toArray, List.set_cons_zero, List.set_cons_succ]
                 rfl
                refine two_ (i := 2) (j := 6) (Ni := some 7) (Nj := some 11) #[true, true, true, true, true, false, false, true, true, false, false, true, false] #[true, true, false, true, true, false, true, true, true, false, false, true, false] rfl rfl rfl rfl (two_of HT_.out (by kernel_rfl)) (by decide) (by decide) (fun K hK => ?_) (fun K hK => ?_)
                ·skip
                 refine Kd.R_lit_step (Kd.int .i64) _ 3 ?hg (N := 7) ?hd (xs := ([] : List Int)) (inner := []) (ok := fun _ => True) (okp := fun _ => True) ?hr ?hp (fun _ hk => hk) trivial (Below.refl _ _) (Nat.le_refl _) (by simp) ?_; (case hd => rfl); (case hg => rfl); (case hr => first | (go_simp; done) | (go_simp; rfl)); (case hp => exact (Reps.none _ _))
                 intro v169 w9 ho10 hb hg_ hnew_
                 clear hg_ hnew_
                 (first | rw [← Ny168.out] at ho10 | (simp only [Int.reduceToNat] at ho10; rw [← Ny168.out] at ho10))
                 have n0_ := Aside0.mk (Kd.R_lower ho10 (below_size (hbA_ HB.out))); have n1_ := (bbA_ BK166 hb); have n2_ := (bbA_ BK167 hb); have n3_ := (bbA_ BK180 hb); have n4_ := (bs_ HB hb); clear BK166 BK167 BK180 HB; have HO170 := n0_; have BK166 := n1_; have BK167 := n2_; have BK180 := n3_; have HB := n4_; clear n0_ n1_ n2_ n3_ n4_ hb ho10
                 refine hK.out _ _ (cz4 BK166.out) (fun hHeld => ?_)
                 clear hK K; refine nm_ 7 ?_
                 exact norm_ (by first | (simp only [putAll, Act.put, List.setIfInBounds_toArray, List.set_cons_zero, List.set_cons_succ]; done) | (simp only [putAll, Act.put, List.setIfInBounds_toArray, List.set_cons_zero, List.set_cons_succ]; rfl)) (hJ2_11 (v169, gb180) _ ⟨hHeld, (kR_ HO170.out), (kb_ BK166.out), (kb_ BK167.out), (kb_ BK180.out), GW180.out, GE180.out, NB166_180.out, NB180_166.out, NB167_180.out, NB180_167.out, (hbA_ HB.out)⟩)
                ·skip
                 refine Kd.R_lit_step (Kd.int .i64) _ 3 ?hg (N := 11) ?hd (xs := ([] : List Int)) (inner := []) (ok := fun _ => True) (okp := fun _ => True) ?hr ?hp (fun _ hk => hk) trivial (Below.refl _ _) (Nat.le_refl _) (by simp) ?_; (case hd => rfl); (case hg => rfl); (case hr => first | (go_simp; done) | (go_simp; rfl)); (case hp => exact (Reps.none _ _))
                 intro v175 w9 ho10 hb hg_ hnew_
                 clear hg_ hnew_
                 (first | rw [← Ny174.out] at ho10 | (simp only [Int.reduceToNat] at ho10; rw [← Ny174.out] at ho10))
                 have n0_ := Aside0.mk (Kd.R_lower ho10 (below_size (hbA_ HB.out))); have n1_ := (bbA_ BK166 hb); have n2_ := (bbA_ BK167 hb); have n3_ := (bbA_ BK180 hb); have n4_ := (bs_ HB hb); clear BK166 BK167 BK180 HB; have HO176 := n0_; have BK166 := n1_; have BK167 := n2_; have BK180 := n3_; have HB := n4_; clear n0_ n1_ n2_ n3_ n4_ hb ho10
                 refine hK.out _ _ (cz4 BK166.out) (fun hHeld => ?_)
                 clear hK K; refine nm_ 11 ?_
                 exact norm_ (by first | (simp only [putAll, Act.put, List.setIfInBounds_toArray, List.set_cons_zero, List.set_cons_succ]; done) | (simp only [putAll, Act.put, List.setIfInBounds_toArray, List.set_cons_zero, List.set_cons_succ]; rfl)) (hJ6_11 (v175, gb180) _ ⟨hHeld, (kR_ HO176.out), (kb_ BK166.out), (kb_ BK167.out), (kb_ BK180.out), GW180.out, GE180.out, NB166_180.out, NB180_166.out, NB167_180.out, NB180_167.out, (hbA_ HB.out)⟩)
              ·skip
               rintro v175 w9 ⟨hS_, h0_, h1_, h2_, h3_⟩
               have n0_ : Aside0 (Kd.R (Kd.int .i64) 3 w9 w.heap.size (fun _ => True) v175 y174) := ⟨h0_⟩
               have n1_ : Aside0 (w9.heap[gb166]? = some (.cells #[.int .i64 a0_0, .slice A0_1 l0_1.length c0_1, .slice A0_2 l0_2.length c0_2, .slice A0_3 l0_3.length c0_3] 38 (0, 0))) := ⟨h1_⟩
               have n2_ : Aside0 (w9.heap[gb167]? = some (.cells #[.int .i64 0, .slice none 0 0, .slice none 0 0, .slice none 0 0] 38 (0, 0))) := ⟨h2_⟩
               have n3_ : Aside0 (Below w.heap.size w w9) := ⟨h3_⟩
               clear BK166 BK167 HB h0_ h1_ h2_ h3_; have HO176 := n0_; have BK166 := n1_; have BK167 := n2_; have HB := n3_; clear n0_ n1_ n2_ n3_
               have hHeld : w9.cell? ⟨gb166, 0, none⟩ = some (.int .i64 a0_0) ∧ w9.cell? ⟨gb166, 1, none⟩ = some (.slice A0_1 l0_1.length c0_1) ∧ w9.cell? ⟨gb166, 2, none⟩ = some (.slice A0_2 l0_2.length c0_2) ∧ w9.cell? ⟨gb166, 3, none⟩ = some (.slice A0_3 l0_3.length c0_3) := hS_
               refine norm_ (a' := ?_) ?_ ?_
               rotate_left
               ·simp only [putAll, Act.put, List.setIfInBounds_toArray, List.set_cons_zero, List.set_cons_succ]
                rfl
               refine two_ (i := 2) (j := 11) (Ni := some 7) (Nj := some 3) #[true, true, true, true, true, false, true, true, true, false, false, false, false] #[true, true, false, true, true, false, true, true, true, false, false, true, false] rfl rfl rfl rfl (two_of HT_.out (by kernel_rfl)) (by decide) (by decide) (fun K hK => ?_) (fun K hK => ?_)
               ·skip
                refine Kd.R_lit_step (Kd.int .i64) _ 3 ?hg (N := 7) ?hd (xs := ([] : List Int)) (inner := []) (ok := fun _ => True) (okp := fun _ => True) ?hr ?hp (fun _ hk => hk) trivial (Below.refl _ _) (Nat.le_refl _) (by simp) ?_; (case hd => rfl); (case hg => rfl); (case hr => first | (go_simp; done) | (go_simp; rfl)); (case hp => exact (Reps.none _ _))
                intro v169 w10 ho11 hb hg_ hnew_
                clear hg_ hnew_
                (first | rw [← Ny168.out] at ho11 | (simp only [Int.reduceToNat] at ho11; rw [← Ny168.out] at ho11))
                have n0_ := Aside0.mk (Kd.R_elder' (kR_ HO176.out) (Kd.R_base ho11) hb); have n1_ := Aside0.mk (Kd.R_lower (Kd.R_new' ho11 (Kd.R_lt (kR_ HO176.out))) (below_size (hbA_ HB.out))); have n2_ := (bbA_ BK166 hb); have n3_ := (bbA_ BK167 hb); have n4_ := (bs_ HB hb); clear HO176 BK166 BK167 HB; have HO176 := n0_; have HO170 := n1_; have BK166 := n2_; have BK167 := n3_; have HB := n4_; clear n0_ n1_ n2_ n3_ n4_ hb ho11
                refine hK.out _ _ (cz4 BK166.out) (fun hHeld => ?_)
                clear hK K; refine nm_ 7 ?_
                exact norm_ (by first | (simp only [putAll, Act.put, List.setIfInBounds_toArray, List.set_cons_zero, List.set_cons_succ]; done) | (simp only [putAll, Act.put, List.setIfInBounds_toArray, List.set_cons_zero, List.set_cons_succ]; rfl)) (hJ2_6 (v169, v175) _ ⟨hHeld, (by refine kR_ ?_; first | exact Kd.R_mono HO170.out (fun _ hk => hk.2) | exact Kd.R_mono HO170.out (fun _ _ => trivial)), (by refine kR_ ?_; first | exact Kd.R_mono HO176.out (fun _ hk => hk.2) | exact Kd.R_mono HO176.out (fun _ _ => trivial)), (kb_ BK166.out), (kb_ BK167.out), (hbA_ HB.out)⟩)
               ·skip
                refine box_step ?hg (N := 3) ?hd (cs := #[.int .i64 0, .slice none 0 0, .slice none 0 0, .slice none 0 0]) (t := 38) ?hr ?_; (case hd => rfl); (case hg => rfl); (case hr => first | (go_simp; done) | (go_simp; rfl))
                intro gb180 hg w10 hbox hb
                have n0_ := Aside0.mk (Kd.R_below (kR_ HO176.out) hb); have n1_ := (bbA_ BK166 hb); have n2_ := (bbA_ BK167 hb); have n3_ := (bs_ HB hb); have n4_ := Aside0.mk (hbox); have n5_ := ge_ hg HB; have n6_ := ge_ hg HB; have n7_ := nl_ hg BK166; have n8_ := ng_ hg BK166; have n9_ := nl_ hg BK167; have n10_ := ng_ hg BK167; clear HO176 BK166 BK167 HB; have HO176 := n0_; have BK166 := n1_; have BK167 := n2_; have HB := n3_; have BK180 := n4_; have GW180 := n5_; have GE180 := n6_; have NB166_180 := n7_; have NB180_166 := n8_; have NB167_180 := n9_; have NB180_167 := n10_; clear n0_ n1_ n2_ n3_ n4_ n5_ n6_ n7_ n8_ n9_ n10_ hb hbox hg
                refine hK.out _ _ (cz4 BK166.out) (fun hHeld => ?_)
                clear hK K; refine nm_ 3 ?_
                exact norm_ (by first | (simp only [putAll, Act.put, List.setIfInBounds_toArray, List.set_cons_zero, List.set_cons_succ]; done) | (simp only [putAll, Act.put, List.setIfInBounds_toArray, List.set_cons_zero, List.set_cons_succ]; rfl)) (hJ6_11 (v175, gb180) _ ⟨hHeld, (kR_ HO176.out), (kb_ BK166.out), (kb_ BK167.out), (kb_ BK180.out), GW180.out, GE180.out, NB166_180.out, NB180_166.out, NB167_180.out, NB180_167.out, (hbA_ HB.out)⟩)
             ·skip
              rintro v169 w9 ⟨hS_, h0_, h1_, h2_, h3_⟩
              have n0_ : Aside0 (Kd.R (Kd.int .i64) 3 w9 w.heap.size (fun _ => True) v169 y168) := ⟨h0_⟩
              have n1_ : Aside0 (w9.heap[gb166]? = some (.cells #[.int .i64 a0_0, .slice A0_1 l0_1.length c0_1, .slice A0_2 l0_2.length c0_2, .slice A0_3 l0_3.length c0_3] 38 (0, 0))) := ⟨h1_⟩
              have n2_ : Aside0 (w9.heap[gb167]? = some (.cells #[.int .i64 0, .slice none 0 0, .slice none 0 0, .slice none 0 0] 38 (0, 0))) := ⟨h2_⟩
              have n3_ : Aside0 (Below w.heap.size w w9) := ⟨h3_⟩
              clear BK166 BK167 HB h0_ h1_ h2_ h3_; have HO170 := n0_; have BK166 := n1_; have BK167 := n2_; have HB := n3_; clear n0_ n1_ n2_ n3_
              have hHeld : w9.cell? ⟨gb166, 0, none⟩ = some (.int .i64 a0_0) ∧ w9.cell? ⟨gb166, 1, none⟩ = some (.slice A0_1 l0_1.length c0_1) ∧ w9.cell? ⟨gb166, 2, none⟩ = some (.slice A0_2 l0_2.length c0_2) ∧ w9.cell? ⟨gb166, 3, none⟩ = some (.slice A0_3 l0_3.length c0_3) := hS_
              refine norm_ (a' := ?_) ?_ ?_
              rotate_left
              ·simp only [putAll, Act.put, List.setIfInBounds_toArray, List.set_cons_zero, List.set_cons_succ]
               rfl
              refine three_ (i := 5) (j := 6) (k := 11) (Ni := some 10) (Nj := some 11) (Nk := some 3) #[true, true, true, true, true, true, false, true, true, false, false, false, false] #[true, true, true, true, true, false, true, true, true, false, false, false, false] #[true, true, true, true, true, false, false, true, true, false, false, true, false] rfl rfl rfl rfl rfl rfl (three_of HT_.out (by kernel_rfl)) (by decide) (by decide) (by decide) (fun K hK => ?_) (fun K hK => ?_) (fun K hK => ?_)
              ·skip
               refine Kd.R_append_rows_step (Kd.int .i64) (w0 := w) w.heap.size (by rfl) (.tmp 7) (.tmp 9) 35 3 (.int .i64 0) 8 rfl Try.underlying35 info3 rfl (by decide) (by omega) v169 y168 l0_1 _ _ _ (fun _ => True) (fun _ => False) rfl rfl ?aO ?aR (fun _ _ h => h) (fun _ h => h.elim) ?aF ?aB ?aS ?aL ?_
               (case aR => exact kC_ (Kd.C_below HR0_1.out HB.out))
               (case aB => exact (hbA_ HB.out))
               (case aF => exact (fun _ _ => trivial))
               (case aO => exact (kR_ HO170.out))
               (case aS => exact (below_size (hbA_ HB.out)))
               (case aL => have := LMc2.out; omega)
               intro v172 w10 ho hb hg hat
               rw [← Ny171.out] at ho
               have n0_ := (bgA_ BK166 hg (Kd.R_ne HO170.out BK166.out (by decide))); have n1_ := (bgA_ BK167 hg (Kd.R_ne HO170.out BK167.out (by decide))); have n2_ := Aside0.mk (hb); have n3_ := Aside0.mk (ho); clear BK166 BK167 HB HO170; have BK166 := n0_; have BK167 := n1_; have HB := n2_; have HO173 := n3_; clear n0_ n1_ n2_ n3_ ho hb hg hat
               refine hK.out _ _ (cz4 BK166.out) (fun hHeld => ?_)
               clear hK K; refine nm_ 10 ?_
               exact norm_ (by first | (simp only [putAll, Act.put, List.setIfInBounds_toArray, List.set_cons_zero, List.set_cons_succ]; done) | (simp only [putAll, Act.put, List.setIfInBounds_toArray, List.set_cons_zero, List.set_cons_succ]; rfl)) (hJ2_5 (v169, v172) _ ⟨hHeld, (kR_ HO173.out), (kb_ BK166.out), (kb_ BK167.out), (hbA_ HB.out)⟩)
              ·skip
               refine Kd.R_lit_step (Kd.int .i64) _ 3 ?hg (N := 11) ?hd (xs := ([] : List Int)) (inner := []) (ok := fun _ => True) (okp := fun _ => True) ?hr ?hp (fun _ hk => hk) trivial (Below.refl _ _) (Nat.le_refl _) (by simp) ?_; (case hd => rfl); (case hg => rfl); (case hr => first | (go_simp; done) | (go_simp; rfl)); (case hp => exact (Reps.none _ _))
               intro v175 w10 ho11 hb hg_ hnew_
               clear hg_ hnew_
               (first | rw [← Ny174.out] at ho11 | (simp only [Int.reduceToNat] at ho11; rw [← Ny174.out] at ho11))
               have n0_ := Aside0.mk (Kd.R_elder' (kR_ HO170.out) (Kd.R_base ho11) hb); have n1_ := Aside0.mk (Kd.R_lower (Kd.R_new' ho11 (Kd.R_lt (kR_ HO170.out))) (below_size (hbA_ HB.out))); have n2_ := (bbA_ BK166 hb); have n3_ := (bbA_ BK167 hb); have n4_ := (bs_ HB hb); clear HO170 BK166 BK167 HB; have HO170 := n0_; have HO176 := n1_; have BK166 := n2_; have BK167 := n3_; have HB := n4_; clear n0_ n1_ n2_ n3_ n4_ hb ho11
               refine hK.out _ _ (cz4 BK166.out) (fun hHeld => ?_)
               clear hK K; refine nm_ 11 ?_
               exact norm_ (by first | (simp only [putAll, Act.put, List.setIfInBounds_toArray, List.set_cons_zero, List.set_cons_succ]; done) | (simp only [putAll, Act.put, List.setIfInBounds_toArray, List.set_cons_zero, List.set_cons_succ]; rfl)) (hJ2_6 (v169, v175) _ ⟨hHeld, (by refine kR_ ?_; first | exact Kd.R_mono HO170.out (fun _ hk => hk.2) | exact Kd.R_mono HO170.out (fun _ _ => trivial)), (by refine kR_ ?_; first | exact Kd.R_mono HO176.out (fun _ hk => hk.2) | exact Kd.R_mono HO176.out (fun _ _ => trivial)), (kb_ BK166.out), (kb_ BK167.out), (hbA_ HB.out)⟩)
              ·skip
               refine box_step ?hg (N := 3) ?hd (cs := #[.int .i64 0, .slice none 0 0, .slice none 0 0, .slice none 0 0]) (t := 38) ?hr ?_; (case hd => rfl); (case hg => rfl); (case hr => first | (go_simp; done) | (go_simp; rfl))
               intro gb180 hg w10 hbox hb
               have n0_ := Aside0.mk (Kd.R_below (kR_ HO170.out) hb); have n1_ := (bbA_ BK166 hb); have n2_ := (bbA_ BK167 hb); have n3_ := (bs_ HB hb); have n4_ := Aside0.mk (hbox); have n5_ := ge_ hg HB; have n6_ := ge_ hg HB; have n7_ := nl_ hg BK166; have n8_ := ng_ hg BK166; have n9_ := nl_ hg BK167; have n10_ := ng_ hg BK167; clear HO170 BK166 BK167 HB; have HO170 := n0_; have BK166 := n1_; have BK167 := n2_; have HB := n3_; have BK180 := n4_; have GW180 := n5_; have GE180 := n6_; have NB166_180 := n7_; have NB180_166 := n8_; have NB167_180 := n9_; have NB180_167 := n10_; clear n0_ n1_ n2_ n3_ n4_ n5_ n6_ n7_ n8_ n9_ n10_ hb hbox hg
               refine hK.out _ _ (cz4 BK166.out) (fun hHeld => ?_)
               clear hK K; refine nm_ 3 ?_
               exact norm_ (by first | (simp only [putAll, Act.put, List.setIfInBounds_toArray, List.set_cons_zero, List.set_cons_succ]; done) | (simp only [putAll, Act.put, List.setIfInBounds_toArray, List.set_cons_zero, List.set_cons_succ]; rfl)) (hJ2_11 (v169, gb180) _ ⟨hHeld, (kR_ HO170.out), (kb_ BK166.out), (kb_ BK167.out), (kb_ BK180.out), GW180.out, GE180.out, NB166_180.out, NB180_166.out, NB167_180.out, NB180_167.out, (hbA_ HB.out)⟩)
            ·skip
             rintro ⟨v175, gb180⟩ w10 ⟨hS_, h0_, h1_, h2_, h3_, h4_, h5_, h6_, h7_, h8_, h9_, h10_⟩
             have n0_ : Aside0 (Kd.R (Kd.int .i64) 3 w10 w.heap.size (fun _ => True) v175 y174) := ⟨h0_⟩
             have n1_ : Aside0 (w10.heap[gb166]? = some (.cells #[.int .i64 a0_0, .slice A0_1 l0_1.length c0_1, .slice A0_2 l0_2.length c0_2, .slice A0_3 l0_3.length c0_3] 38 (0, 0))) := ⟨h1_⟩
             have n2_ : Aside0 (w10.heap[gb167]? = some (.cells #[.int .i64 0, .slice none 0 0, .slice none 0 0, .slice none 0 0] 38 (0, 0))) := ⟨h2_⟩
             have n3_ : Aside0 (w10.heap[gb180]? = some (.cells #[.int .i64 0, .slice none 0 0, .slice none 0 0, .slice none 0 0] 38 (0, 0))) := ⟨h3_⟩
             have n4_ : Aside0 (w.heap.size ≤ gb180) := ⟨h4_⟩
             have n5_ : Aside0 (w.heap.size ≤ gb180) := ⟨h5_⟩
             have n6_ : Aside0 (gb166 ≠ gb180) := ⟨h6_⟩
             have n7_ : Aside0 (gb180 ≠ gb166) := ⟨h7_⟩
             have n8_ : Aside0 (gb167 ≠ gb180) := ⟨h8_⟩
             have n9_ : Aside0 (gb180 ≠ gb167) := ⟨h9_⟩
             have n10_ : Aside0 (Below w.heap.size w w10) := ⟨h10_⟩
             clear BK166 BK167 HB h0_ h1_ h2_ h3_ h4_ h5_ h6_ h7_ h8_ h9_ h10_; have HO176 := n0_; have BK166 := n1_; have BK167 := n2_; have BK180 := n3_; have GW180 := n4_; have GE180 := n5_; have NB166_180 := n6_; have NB180_166 := n7_; have NB167_180 := n8_; have NB180_167 := n9_; have HB := n10_; clear n0_ n1_ n2_ n3_ n4_ n5_ n6_ n7_ n8_ n9_ n10_
             have hHeld : w10.cell? ⟨gb166, 0, none⟩ = some (.int .i64 a0_0) ∧ w10.cell? ⟨gb166, 1, none⟩ = some (.slice A0_1 l0_1.length c0_1) ∧ w10.cell? ⟨gb166, 2, none⟩ = some (.slice A0_2 l0_2.length c0_2) ∧ w10.cell? ⟨gb166, 3, none⟩ = some (.slice A0_3 l0_3.length c0_3) := hS_
             refine norm_ (a' := ?_) ?_ ?_
             rotate_left
             ·simp only [putAll, Act.put, List.setIfInBounds_toArray, List.set_cons_zero, List.set_cons_succ]
              rfl
             refine on_ (i := 2) (N := some 7) HT_ (fun K hK => ?_)
             refine Kd.R_lit_step (Kd.int .i64) _ 3 ?hg (N := 7) ?hd (xs := ([] : List Int)) (inner := []) (ok := fun _ => True) (okp := fun _ => True) ?hr ?hp (fun _ hk => hk) trivial (Below.refl _ _) (Nat.le_refl _) (by simp) ?_; (case hd => rfl); (case hg => rfl); (case hr => first | (go_simp; done) | (go_simp; rfl)); (case hp => exact (Reps.none _ _))
             intro v169 w11 ho12 hb hg_ hnew_
             clear hg_ hnew_
             (first | rw [← Ny168.out] at ho12 | (simp only [Int.reduceToNat] at ho12; rw [← Ny168.out] at ho12))
             have n0_ := Aside0.mk (Kd.R_elder' (kR_ HO176.out) (Kd.R_base ho12) hb); have n1_ := Aside0.mk (Kd.R_lower (Kd.R_new' ho12 (Kd.R_lt (kR_ HO176.out))) (below_size (hbA_ HB.out))); have n2_ := (bbA_ BK166 hb); have n3_ := (bbA_ BK167 hb); have n4_ := (bbA_ BK180 hb); have n5_ := (bs_ HB hb); clear HO176 BK166 BK167 BK180 HB; have HO176 := n0_; have HO170 := n1_; have BK166 := n2_; have BK167 := n3_; have BK180 := n4_; have HB := n5_; clear n0_ n1_ n2_ n3_ n4_ n5_ hb ho12
             refine hK.out _ _ (cz4 BK166.out) (fun hHeld => ?_)
             clear hK K; refine nm_ 7 ?_
             exact norm_ (by first | (simp only [putAll, Act.put, List.setIfInBounds_toArray, List.set_cons_zero, List.set_cons_succ]; done) | (simp only [putAll, Act.put, List.setIfInBounds_toArray, List.set_cons_zero, List.set_cons_succ]; rfl)) (hJ2_6_11 (v169, v175, gb180) _ ⟨hHeld, (by refine kR_ ?_; first | exact Kd.R_mono HO170.out (fun _ hk => hk.2) | exact Kd.R_mono HO170.out (fun _ _ => trivial)), (by refine kR_ ?_; first | exact Kd.R_mono HO176.out (fun _ hk => hk.2) | exact Kd.R_mono HO176.out (fun _ _ => trivial)), (kb_ BK166.out), (kb_ BK167.out), (kb_ BK180.out), GW180.out, GE180.out, NB166_180.out, NB180_166.out, NB167_180.out, NB180_167.out, (hbA_ HB.out)⟩)
           ·skip
            rintro ⟨v169, gb180⟩ w10 ⟨hS_, h0_, h1_, h2_, h3_, h4_, h5_, h6_, h7_, h8_, h9_, h10_⟩
            have n0_ : Aside0 (Kd.R (Kd.int .i64) 3 w10 w.heap.size (fun _ => True) v169 y168) := ⟨h0_⟩
            have n1_ : Aside0 (w10.heap[gb166]? = some (.cells #[.int .i64 a0_0, .slice A0_1 l0_1.length c0_1, .slice A0_2 l0_2.length c0_2, .slice A0_3 l0_3.length c0_3] 38 (0, 0))) := ⟨h1_⟩
            have n2_ : Aside0 (w10.heap[gb167]? = some (.cells #[.int .i64 0, .slice none 0 0, .slice none 0 0, .slice none 0 0] 38 (0, 0))) := ⟨h2_⟩
            have n3_ : Aside0 (w10.heap[gb180]? = some (.cells #[.int .i64 0, .slice none 0 0, .slice none 0 0, .slice none 0 0] 38 (0, 0))) := ⟨h3_⟩
            have n4_ : Aside0 (w.heap.size ≤ gb180) := ⟨h4_⟩
            have n5_ : Aside0 (w.heap.size ≤ gb180) := ⟨h5_⟩
            have n6_ : Aside0 (gb166 ≠ gb180) := ⟨h6_⟩
            have n7_ : Aside0 (gb180 ≠ gb166) := ⟨h7_⟩
            have n8_ : Aside0 (gb167 ≠ gb180) := ⟨h8_⟩
            have n9_ : Aside0 (gb180 ≠ gb167) := ⟨h9_⟩
            have n10_ : Aside0 (Below w.heap.size w w10) := ⟨h10_⟩
            clear BK166 BK167 HB h0_ h1_ h2_ h3_ h4_ h5_ h6_ h7_ h8_ h9_ h10_; have HO170 := n0_; have BK166 := n1_; have BK167 := n2_; have BK180 := n3_; have GW180 := n4_; have GE180 := n5_; have NB166_180 := n6_; have NB180_166 := n7_; have NB167_180 := n8_; have NB180_167 := n9_; have HB := n10_; clear n0_ n1_ n2_ n3_ n4_ n5_ n6_ n7_ n8_ n9_ n10_
            have hHeld : w10.cell? ⟨gb166, 0, none⟩ = some (.int .i64 a0_0) ∧ w10.cell? ⟨gb166, 1, none⟩ = some (.slice A0_1 l0_1.length c0_1) ∧ w10.cell? ⟨gb166, 2, none⟩ = some (.slice A0_2 l0_2.length c0_2) ∧ w10.cell? ⟨gb166, 3, none⟩ = some (.slice A0_3 l0_3.length c0_3) := hS_
            refine norm_ (a' := ?_) ?_ ?_
            rotate_left
            ·simp only [putAll, Act.put, List.setIfInBounds_toArray, List.set_cons_zero, List.set_cons_succ]
             rfl
            refine two_ (i := 5) (j := 6) (Ni := some 10) (Nj := some 11) #[true, true, true, true, true, true, false, true, true, false, false, true, false] #[true, true, true, true, true, false, true, true, true, false, false, true, false] rfl rfl rfl rfl (two_of HT_.out (by kernel_rfl)) (by decide) (by decide) (fun K hK => ?_) (fun K hK => ?_)
            ·skip
             refine Kd.R_append_rows_step (Kd.int .i64) (w0 := w) w.heap.size (by rfl) (.tmp 7) (.tmp 9) 35 3 (.int .i64 0) 8 rfl Try.underlying35 info3 rfl (by decide) (by omega) v169 y168 l0_1 _ _ _ (fun _ => True) (fun _ => False) rfl rfl ?aO ?aR (fun _ _ h => h) (fun _ h => h.elim) ?aF ?aB ?aS ?aL ?_
             (case aR => exact kC_ (Kd.C_below HR0_1.out HB.out))
             (case aB => exact (hbA_ HB.out))
             (case aF => exact (fun _ _ => trivial))
             (case aO => exact (kR_ HO170.out))
             (case aS => exact (below_size (hbA_ HB.out)))
             (case aL => have := LMc2.out; omega)
             intro v172 w11 ho hb hg hat
             rw [← Ny171.out] at ho
             have n0_ := (bgA_ BK166 hg (Kd.R_ne HO170.out BK166.out (by decide))); have n1_ := (bgA_ BK167 hg (Kd.R_ne HO170.out BK167.out (by decide))); have n2_ := (bgA_ BK180 hg (Kd.R_ne HO170.out BK180.out (by decide))); have n3_ := Aside0.mk (hb); have n4_ := Aside0.mk (ho); clear BK166 BK167 BK180 HB HO170; have BK166 := n0_; have BK167 := n1_; have BK180 := n2_; have HB := n3_; have HO173 := n4_; clear n0_ n1_ n2_ n3_ n4_ ho hb hg hat
             refine hK.out _ _ (cz4 BK166.out) (fun hHeld => ?_)
             clear hK K; refine nm_ 10 ?_
             exact norm_ (by first | (simp only [putAll, Act.put, List.setIfInBounds_toArray, List.set_cons_zero, List.set_cons_succ]; done) | (simp only [putAll, Act.put, List.setIfInBounds_toArray, List.set_cons_zero, List.set_cons_succ]; rfl)) (hJ2_5_11 (v169, v172, gb180) _ ⟨hHeld, (kR_ HO173.out), (kb_ BK166.out), (kb_ BK167.out), (kb_ BK180.out), GW180.out, GE180.out, NB166_180.out, NB180_166.out, NB167_180.out, NB180_167.out, (hbA_ HB.out)⟩)
            ·skip
             refine Kd.R_lit_step (Kd.int .i64) _ 3 ?hg (N := 11) ?hd (xs := ([] : List Int)) (inner := []) (ok := fun _ => True) (okp := fun _ => True) ?hr ?hp (fun _ hk => hk) trivial (Below.refl _ _) (Nat.le_refl _) (by simp) ?_; (case hd => rfl); (case hg => rfl); (case hr => first | (go_simp; done) | (go_simp; rfl)); (case hp => exact (Reps.none _ _))
             intro v175 w11 ho12 hb hg_ hnew_
             clear hg_ hnew_
             (first | rw [← Ny174.out] at ho12 | (simp only [Int.reduceToNat] at ho12; rw [← Ny174.out] at ho12))
             have n0_ := Aside0.mk (Kd.R_elder' (kR_ HO170.out) (Kd.R_base ho12) hb); have n1_ := Aside0.mk (Kd.R_lower (Kd.R_new' ho12 (Kd.R_lt (kR_ HO170.out))) (below_size (hbA_ HB.out))); have n2_ := (bbA_ BK166 hb); have n3_ := (bbA_ BK167 hb); have n4_ := (bbA_ BK180 hb); have n5_ := (bs_ HB hb); clear HO170 BK166 BK167 BK180 HB; have HO170 := n0_; have HO176 := n1_; have BK166 := n2_; have BK167 := n3_; have BK180 := n4_; have HB := n5_; clear n0_ n1_ n2_ n3_ n4_ n5_ hb ho12
             refine hK.out _ _ (cz4 BK166.out) (fun hHeld => ?_)
             clear hK K; refine nm_ 11 ?_
             exact norm_ (by first | (simp only [putAll, Act.put, List.setIfInBounds_toArray, List.set_cons_zero, List.set_cons_succ]; done) | (simp only [putAll, Act.put, List.setIfInBounds_toArray, List.set_cons_zero, List.set_cons_succ]; rfl)) (hJ2_6_11 (v169, v175, gb180) _ ⟨hHeld, (by refine kR_ ?_; first | exact Kd.R_mono HO170.out (fun _ hk => hk.2) | exact Kd.R_mono HO170.out (fun _ _ => trivial)), (by refine kR_ ?_; first | exact Kd.R_mono HO176.out (fun _ hk => hk.2) | exact Kd.R_mono HO176.out (fun _ _ => trivial)), (kb_ BK166.out), (kb_ BK167.out), (kb_ BK180.out), GW180.out, GE180.out, NB166_180.out, NB180_166.out, NB167_180.out, NB180_167.out, (hbA_ HB.out)⟩)
          ·skip
           rintro ⟨v169, v175⟩ w11 ⟨hS_, h0_, h1_, h2_, h3_, h4_⟩
           have n0_ : Aside0 (Kd.R (Kd.int .i64) 3 w11 w.heap.size (fun k_ => some k_ ≠ (v175 : Value).ownBlock) v169 y168) := ⟨h0_⟩
           have n1_ : Aside0 (Kd.R (Kd.int .i64) 3 w11 w.heap.size (fun k_ => some k_ ≠ (v169 : Value).ownBlock) v175 y174) := ⟨h1_⟩
           have n2_ : Aside0 (w11.heap[gb166]? = some (.cells #[.int .i64 a0_0, .slice A0_1 l0_1.length c0_1, .slice A0_2 l0_2.length c0_2, .slice A0_3 l0_3.length c0_3] 38 (0, 0))) := ⟨h2_⟩
           have n3_ : Aside0 (w11.heap[gb167]? = some (.cells #[.int .i64 0, .slice none 0 0, .slice none 0 0, .slice none 0 0] 38 (0, 0))) := ⟨h3_⟩
           have n4_ : Aside0 (Below w.heap.size w w11) := ⟨h4_⟩
           clear BK166 BK167 HB h0_ h1_ h2_ h3_ h4_; have HO170 := n0_; have HO176 := n1_; have BK166 := n2_; have BK167 := n3_; have HB := n4_; clear n0_ n1_ n2_ n3_ n4_
           have hHeld : w11.cell? ⟨gb166, 0, none⟩ = some (.int .i64 a0_0) ∧ w11.cell? ⟨gb166, 1, none⟩ = some (.slice A0_1 l0_1.length c0_1) ∧ w11.cell? ⟨gb166, 2, none⟩ = some (.slice A0_2 l0_2.length c0_2) ∧ w11.cell? ⟨gb166, 3, none⟩ = some (.slice A0_3 l0_3.length c0_3) := hS_
           refine norm_ (a' := ?_) ?_ ?_
           rotate_left
           ·simp only [putAll, Act.put, List.setIfInBounds_toArray, List.set_cons_zero, List.set_cons_succ]
            rfl
           refine two_ (i := 5) (j := 11) (Ni := some 10) (Nj := some 3) #[true, true, true, true, true, true, true, true, true, false, false, false, false] #[true, true, true, true, true, false, true, true, true, false, false, true, false] rfl rfl rfl rfl (two_of HT_.out (by kernel_rfl)) (by decide) (by decide) (fun K hK => ?_) (fun K hK => ?_)
           ·skip
            refine Kd.R_append_rows_step (Kd.int .i64) (w0 := w) w.heap.size (by rfl) (.tmp 7) (.tmp 9) 35 3 (.int .i64 0) 8 rfl Try.underlying35 info3 rfl (by decide) (by omega) v169 y168 l0_1 _ _ _ (fun k_ => some k_ ≠ (v175 : Value).ownBlock) (fun _ => False) rfl rfl ?aO ?aR (fun _ _ h => h) (fun _ h => h.elim) ?aF ?aB ?aS ?aL ?_
            (case aR => exact kC_ (Kd.C_below HR0_1.out HB.out))
            (case aB => exact (hbA_ HB.out))
            (case aF => exact (fun k_ hk => Kd.fresh' (Kd.R_lt (kR_ HO176.out)) k_ hk))
            (case aO => exact (kR_ HO170.out))
            (case aS => exact (below_size (hbA_ HB.out)))
            (case aL => have := LMc2.out; omega)
            intro v172 w12 ho hb hg hat
            rw [← Ny171.out] at ho
            have n0_ := (bgA_ BK166 hg (Kd.R_ne HO170.out BK166.out (by decide))); have n1_ := (bgA_ BK167 hg (Kd.R_ne HO170.out BK167.out (by decide))); have n2_ := Aside0.mk (Kd.R_after (ok := (fun _ => True)) (by refine kR_ ?_; exact Kd.R_mono HO176.out (fun _ hk => ⟨trivial, hk⟩)) hg hat); have n3_ := Aside0.mk (hb); have n4_ := Aside0.mk (ho); clear BK166 BK167 HO176 HB HO170; have BK166 := n0_; have BK167 := n1_; have HO176 := n2_; have HB := n3_; have HO173 := n4_; clear n0_ n1_ n2_ n3_ n4_ ho hb hg hat
            refine hK.out _ _ (cz4 BK166.out) (fun hHeld => ?_)
            clear hK K; refine nm_ 10 ?_
            exact norm_ (by first | (simp only [putAll, Act.put, List.setIfInBounds_toArray, List.set_cons_zero, List.set_cons_succ]; done) | (simp only [putAll, Act.put, List.setIfInBounds_toArray, List.set_cons_zero, List.set_cons_succ]; rfl)) (hJ2_5_6 (v169, v172, v175) _ ⟨hHeld, (kR_ HO173.out), (by refine kR_ ?_; first | exact Kd.R_mono HO176.out (fun _ hk => hk.2) | exact Kd.R_mono HO176.out (fun _ _ => trivial)), (kb_ BK166.out), (kb_ BK167.out), (hbA_ HB.out)⟩)
           ·skip
            refine box_step ?hg (N := 3) ?hd (cs := #[.int .i64 0, .slice none 0 0, .slice none 0 0, .slice none 0 0]) (t := 38) ?hr ?_; (case hd => rfl); (case hg => rfl); (case hr => first | (go_simp; done) | (go_simp; rfl))
            intro gb180 hg w12 hbox hb
            have n0_ := Aside0.mk (Kd.R_below (kR_ HO170.out) hb); have n1_ := Aside0.mk (Kd.R_below (kR_ HO176.out) hb); have n2_ := (bbA_ BK166 hb); have n3_ := (bbA_ BK167 hb); have n4_ := (bs_ HB hb); have n5_ := Aside0.mk (hbox); have n6_ := ge_ hg HB; have n7_ := ge_ hg HB; have n8_ := nl_ hg BK166; have n9_ := ng_ hg BK166; have n10_ := nl_ hg BK167; have n11_ := ng_ hg BK167; clear HO170 HO176 BK166 BK167 HB; have HO170 := n0_; have HO176 := n1_; have BK166 := n2_; have BK167 := n3_; have HB := n4_; have BK180 := n5_; have GW180 := n6_; have GE180 := n7_; have NB166_180 := n8_; have NB180_166 := n9_; have NB167_180 := n10_; have NB180_167 := n11_; clear n0_ n1_ n2_ n3_ n4_ n5_ n6_ n7_ n8_ n9_ n10_ n11_ hb hbox hg
            refine hK.out _ _ (cz4 BK166.out) (fun hHeld => ?_)
            clear hK K; refine nm_ 3 ?_
            exact norm_ (by first | (simp only [putAll, Act.put, List.setIfInBounds_toArray, List.set_cons_zero, List.set_cons_succ]; done) | (simp only [putAll, Act.put, List.setIfInBounds_toArray, List.set_cons_zero, List.set_cons_succ]; rfl)) (hJ2_6_11 (v169, v175, gb180) _ ⟨hHeld, (kR_ HO170.out), (kR_ HO176.out), (kb_ BK166.out), (kb_ BK167.out), (kb_ BK180.out), GW180.out, GE180.out, NB166_180.out, NB180_166.out, NB167_180.out, NB180_167.out, (hbA_ HB.out)⟩)
         ·skip
          rintro ⟨v169, v172⟩ w10 ⟨hS_, h0_, h1_, h2_, h3_⟩
          have n0_ : Aside0 (Kd.R (Kd.int .i64) 3 w10 w.heap.size (fun _ => True) v172 y171) := ⟨h0_⟩
          have n1_ : Aside0 (w10.heap[gb166]? = some (.cells #[.int .i64 a0_0, .slice A0_1 l0_1.length c0_1, .slice A0_2 l0_2.length c0_2, .slice A0_3 l0_3.length c0_3] 38 (0, 0))) := ⟨h1_⟩
          have n2_ : Aside0 (w10.heap[gb167]? = some (.cells #[.int .i64 0, .slice none 0 0, .slice none 0 0, .slice none 0 0] 38 (0, 0))) := ⟨h2_⟩
          have n3_ : Aside0 (Below w.heap.size w w10) := ⟨h3_⟩
          clear BK166 BK167 HB h0_ h1_ h2_ h3_; have HO173 := n0_; have BK166 := n1_; have BK167 := n2_; have HB := n3_; clear n0_ n1_ n2_ n3_
          have hHeld : w10.cell? ⟨gb166, 0, none⟩ = some (.int .i64 a0_0) ∧ w10.cell? ⟨gb166, 1, none⟩ = some (.slice A0_1 l0_1.length c0_1) ∧ w10.cell? ⟨gb166, 2, none⟩ = some (.slice A0_2 l0_2.length c0_2) ∧ w10.cell? ⟨gb166, 3, none⟩ = some (.slice A0_3 l0_3.length c0_3) := hS_
          refine norm_ (a' := ?_) ?_ ?_
          rotate_left
          ·simp only [putAll, Act.put, List.setIfInBounds_toArray, List.set_cons_zero, List.set_cons_succ]
           rfl
          refine two_ (i := 6) (j := 11) (Ni := some 11) (Nj := some 3) #[true, true, true, true, true, true, true, true, true, false, false, false, false] #[true, true, true, true, true, true, false, true, true, false, false, true, false] rfl rfl rfl rfl (two_of HT_.out (by kernel_rfl)) (by decide) (by decide) (fun K hK => ?_) (fun K hK => ?_)
          ·skip
           refine Kd.R_lit_step (Kd.int .i64) _ 3 ?hg (N := 11) ?hd (xs := ([] : List Int)) (inner := []) (ok := fun _ => True) (okp := fun _ => True) ?hr ?hp (fun _ hk => hk) trivial (Below.refl _ _) (Nat.le_refl _) (by simp) ?_; (case hd => rfl); (case hg => rfl); (case hr => first | (go_simp; done) | (go_simp; rfl)); (case hp => exact (Reps.none _ _))
           intro v175 w11 ho12 hb hg_ hnew_
           clear hg_ hnew_
           (first | rw [← Ny174.out] at ho12 | (simp only [Int.reduceToNat] at ho12; rw [← Ny174.out] at ho12))
           have n0_ := Aside0.mk (Kd.R_elder' (kR_ HO173.out) (Kd.R_base ho12) hb); have n1_ := Aside0.mk (Kd.R_lower (Kd.R_new' ho12 (Kd.R_lt (kR_ HO173.out))) (below_size (hbA_ HB.out))); have n2_ := (bbA_ BK166 hb); have n3_ := (bbA_ BK167 hb); have n4_ := (bs_ HB hb); clear HO173 BK166 BK167 HB; have HO173 := n0_; have HO176 := n1_; have BK166 := n2_; have BK167 := n3_; have HB := n4_; clear n0_ n1_ n2_ n3_ n4_ hb ho12
           refine hK.out _ _ (cz4 BK166.out) (fun hHeld => ?_)
           clear hK K; refine nm_ 11 ?_
           exact norm_ (by first | (simp only [putAll, Act.put, List.setIfInBounds_toArray, List.set_cons_zero, List.set_cons_succ]; done) | (simp only [putAll, Act.put, List.setIfInBounds_toArray, List.set_cons_zero, List.set_cons_succ]; rfl)) (hJ2_5_6 (v169, v172, v175) _ ⟨hHeld, (by refine kR_ ?_; first | exact Kd.R_mono HO173.out (fun _ hk => hk.2) | exact Kd.R_mono HO173.out (fun _ _ => trivial)), (by refine kR_ ?_; first | exact Kd.R_mono HO176.out (fun _ hk => hk.2) | exact Kd.R_mono HO176.out (fun _ _ => trivial)), (kb_ BK166.out), (kb_ BK167.out), (hbA_ HB.out)⟩)
          ·skip
           refine box_step ?hg (N := 3) ?hd (cs := #[.int .i64 0, .slice none 0 0, .slice none 0 0, .slice none 0 0]) (t := 38) ?hr ?_; (case hd => rfl); (case hg => rfl); (case hr => first | (go_simp; done) | (go_simp; rfl))
           intro gb180 hg w11 hbox hb
           have n0_ := Aside0.mk (Kd.R_below (kR_ HO173.out) hb); have n1_ := (bbA_ BK166 hb); have n2_ := (bbA_ BK167 hb); have n3_ := (bs_ HB hb); have n4_ := Aside0.mk (hbox); have n5_ := ge_ hg HB; have n6_ := ge_ hg HB; have n7_ := nl_ hg BK166; have n8_ := ng_ hg BK166; have n9_ := nl_ hg BK167; have n10_ := ng_ hg BK167; clear HO173 BK166 BK167 HB; have HO173 := n0_; have BK166 := n1_; have BK167 := n2_; have HB := n3_; have BK180 := n4_; have GW180 := n5_; have GE180 := n6_; have NB166_180 := n7_; have NB180_166 := n8_; have NB167_180 := n9_; have NB180_167 := n10_; clear n0_ n1_ n2_ n3_ n4_ n5_ n6_ n7_ n8_ n9_ n10_ hb hbox hg
           refine hK.out _ _ (cz4 BK166.out) (fun hHeld => ?_)
           clear hK K; refine nm_ 3 ?_
           exact norm_ (by first | (simp only [putAll, Act.put, List.setIfInBounds_toArray, List.set_cons_zero, List.set_cons_succ]; done) | (simp only [putAll, Act.put, List.setIfInBounds_toArray, List.set_cons_zero, List.set_cons_succ]; rfl)) (hJ2_5_11 (v169, v172, gb180) _ ⟨hHeld, (kR_ HO173.out), (kb_ BK166.out), (kb_ BK167.out), (kb_ BK180.out), GW180.out, GE180.out, NB166_180.out, NB180_166.out, NB167_180.out, NB180_167.out, (hbA_ HB.out)⟩)
        ·skip
         rintro ⟨v169, v175, gb180⟩ w12 ⟨hS_, h0_, h1_, h2_, h3_, h4_, h5_, h6_, h7_, h8_, h9_, h10_, h11_⟩
         have n0_ : Aside0 (Kd.R (Kd.int .i64) 3 w12 w.heap.size (fun k_ => some k_ ≠ (v175 : Value).ownBlock) v169 y168) := ⟨h0_⟩
         have n1_ : Aside0 (Kd.R (Kd.int .i64) 3 w12 w.heap.size (fun k_ => some k_ ≠ (v169 : Value).ownBlock) v175 y174) := ⟨h1_⟩
         have n2_ : Aside0 (w12.heap[gb166]? = some (.cells #[.int .i64 a0_0, .slice A0_1 l0_1.length c0_1, .slice A0_2 l0_2.length c0_2, .slice A0_3 l0_3.length c0_3] 38 (0, 0))) := ⟨h2_⟩
         have n3_ : Aside0 (w12.heap[gb167]? = some (.cells #[.int .i64 0, .slice none 0 0, .slice none 0 0, .slice none 0 0] 38 (0, 0))) := ⟨h3_⟩
         have n4_ : Aside0 (w12.heap[gb180]? = some (.cells #[.int .i64 0, .slice none 0 0, .slice none 0 0, .slice none 0 0] 38 (0, 0))) := ⟨h4_⟩
         have n5_ : Aside0 (w.heap.size ≤ gb180) := ⟨h5_⟩
         have n6_ : Aside0 (w.heap.size ≤ gb180) := ⟨h6_⟩
         have n7_ : Aside0 (gb166 ≠ gb180) := ⟨h7_⟩
         have n8_ : Aside0 (gb180 ≠ gb166) := ⟨h8_⟩
         have n9_ : Aside0 (gb167 ≠ gb180) := ⟨h9_⟩
         have n10_ : Aside0 (gb180 ≠ gb167) := ⟨h10_⟩
         have n11_ : Aside0 (Below w.heap.size w w12) := ⟨h11_⟩
         clear BK166 BK167 HB h0_ h1_ h2_ h3_ h4_ h5_ h6_ h7_ h8_ h9_ h10_ h11_; have HO170 := n0_; have HO176 := n1_; have BK166 := n2_; have BK167 := n3_; have BK180 := n4_; have GW180 := n5_; have GE180 := n6_; have NB166_180 := n7_; have NB180_166 := n8_; have NB167_180 := n9_; have NB180_167 := n10_; have HB := n11_; clear n0_ n1_ n2_ n3_ n4_ n5_ n6_ n7_ n8_ n9_ n10_ n11_
         have hHeld : w12.cell? ⟨gb166, 0, none⟩ = some (.int .i64 a0_0) ∧ w12.cell? ⟨gb166, 1, none⟩ = some (.slice A0_1 l0_1.length c0_1) ∧ w12.cell? ⟨gb166, 2, none⟩ = some (.slice A0_2 l0_2.length c0_2) ∧ w12.cell? ⟨gb166, 3, none⟩ = some (.slice A0_3 l0_3.length c0_3) := hS_
         refine norm_ (a' := ?_) ?_ ?_
         rotate_left
         ·simp only [putAll, Act.put, List.setIfInBounds_toArray, List.set_cons_zero, List.set_cons_succ]
          rfl
         refine on_ (i := 5) (N := some 10) HT_ (fun K hK => ?_)
         refine Kd.R_append_rows_step (Kd.int .i64) (w0 := w) w.heap.size (by rfl) (.tmp 7) (.tmp 9) 35 3 (.int .i64 0) 8 rfl Try.underlying35 info3 rfl (by decide) (by omega) v169 y168 l0_1 _ _ _ (fun k_ => some k_ ≠ (v175 : Value).ownBlock) (fun _ => False) rfl rfl ?aO ?aR (fun _ _ h => h) (fun _ h => h.elim) ?aF ?aB ?aS ?aL ?_
         (case aR => exact kC_ (Kd.C_below HR0_1.out HB.out))
         (case aB => exact (hbA_ HB.out))
         (case aF => exact (fun k_ hk => Kd.fresh' (Kd.R_lt (kR_ HO176.out)) k_ hk))
         (case aO => exact (kR_ HO170.out))
         (case aS => exact (below_size (hbA_ HB.out)))
         (case aL => have := LMc2.out; omega)
         intro v172 w13 ho hb hg hat
         rw [← Ny171.out] at ho
         have n0_ := (bgA_ BK166 hg (Kd.R_ne HO170.out BK166.out (by decide))); have n1_ := (bgA_ BK167 hg (Kd.R_ne HO170.out BK167.out (by decide))); have n2_ := Aside0.mk (Kd.R_after (ok := (fun _ => True)) (by refine kR_ ?_; exact Kd.R_mono HO176.out (fun _ hk => ⟨trivial, hk⟩)) hg hat); have n3_ := (bgA_ BK180 hg (Kd.R_ne HO170.out BK180.out (by decide))); have n4_ := Aside0.mk (hb); have n5_ := Aside0.mk (ho); clear BK166 BK167 HO176 BK180 HB HO170; have BK166 := n0_; have BK167 := n1_; have HO176 := n2_; have BK180 := n3_; have HB := n4_; have HO173 := n5_; clear n0_ n1_ n2_ n3_ n4_ n5_ ho hb hg hat
         refine hK.out _ _ (cz4 BK166.out) (fun hHeld => ?_)
         clear hK K; refine nm_ 10 ?_
         exact norm_ (by first | (simp only [putAll, Act.put, List.setIfInBounds_toArray, List.set_cons_zero, List.set_cons_succ]; done) | (simp only [putAll, Act.put, List.setIfInBounds_toArray, List.set_cons_zero, List.set_cons_succ]; rfl)) (hJ2_5_6_11 (v169, v172, v175, gb180) _ ⟨hHeld, (kR_ HO173.out), (by refine kR_ ?_; first | exact Kd.R_mono HO176.out (fun _ hk => hk.2) | exact Kd.R_mono HO176.out (fun _ _ => trivial)), (kb_ BK166.out), (kb_ BK167.out), (kb_ BK180.out), GW180.out, GE180.out, NB166_180.out, NB180_166.out, NB167_180.out, NB180_167.out, (hbA_ HB.out)⟩)
       ·skip
        rintro ⟨v169, v172, gb180⟩ w11 ⟨hS_, h0_, h1_, h2_, h3_, h4_, h5_, h6_, h7_, h8_, h9_, h10_⟩
        have n0_ : Aside0 (Kd.R (Kd.int .i64) 3 w11 w.heap.size (fun _ => True) v172 y171) := ⟨h0_⟩
        have n1_ : Aside0 (w11.heap[gb166]? = some (.cells #[.int .i64 a0_0, .slice A0_1 l0_1.length c0_1, .slice A0_2 l0_2.length c0_2, .slice A0_3 l0_3.length c0_3] 38 (0, 0))) := ⟨h1_⟩
        have n2_ : Aside0 (w11.heap[gb167]? = some (.cells #[.int .i64 0, .slice none 0 0, .slice none 0 0, .slice none 0 0] 38 (0, 0))) := ⟨h2_⟩
        have n3_ : Aside0 (w11.heap[gb180]? = some (.cells #[.int .i64 0, .slice none 0 0, .slice none 0 0, .slice none 0 0] 38 (0, 0))) := ⟨h3_⟩
        have n4_ : Aside0 (w.heap.size ≤ gb180) := ⟨h4_⟩
        have n5_ : Aside0 (w.heap.size ≤ gb180) := ⟨h5_⟩
        have n6_ : Aside0 (gb166 ≠ gb180) := ⟨h6_⟩
        have n7_ : Aside0 (gb180 ≠ gb166) := ⟨h7_⟩
        have n8_ : Aside0 (gb167 ≠ gb180) := ⟨h8_⟩
        have n9_ : Aside0 (gb180 ≠ gb167) := ⟨h9_⟩
        have n10_ : Aside0 (Below w.heap.size w w11) := ⟨h10_⟩
        clear BK166 BK167 HB h0_ h1_ h2_ h3_ h4_ h5_ h6_ h7_ h8_ h9_ h10_; have HO173 := n0_; have BK166 := n1_; have BK167 := n2_; have BK180 := n3_; have GW180 := n4_; have GE180 := n5_; have NB166_180 := n6_; have NB180_166 := n7_; have NB167_180 := n8_; have NB180_167 := n9_; have HB := n10_; clear n0_ n1_ n2_ n3_ n4_ n5_ n6_ n7_ n8_ n9_ n10_
        have hHeld : w11.cell? ⟨gb166, 0, none⟩ = some (.int .i64 a0_0) ∧ w11.cell? ⟨gb166, 1, none⟩ = some (.slice A0_1 l0_1.length c0_1) ∧ w11.cell? ⟨gb166, 2, none⟩ = some (.slice A0_2 l0_2.length c0_2) ∧ w11.cell? ⟨gb166, 3, none⟩ = some (.slice A0_3 l0_3.length c0_3) := hS_
        refine norm_ (a' := ?_) ?_ ?_
        rotate_left
        ·simp only [putAll, Act.put, List.setIfInBounds_toArray, List.set_cons_zero, List.set_cons_succ]
         rfl
        refine on_ (i := 6) (N := some 11) HT_ (fun K hK => ?_)
        refine Kd.R_lit_step (Kd.int .i64) _ 3 ?hg (N := 11) ?hd (xs := ([] : List Int)) (inner := []) (ok := fun _ => True) (okp := fun _ => True) ?hr ?hp (fun _ hk => hk) trivial (Below.refl _ _) (Nat.le_refl _) (by simp) ?_; (case hd => rfl); (case hg => rfl); (case hr => first | (go_simp; done) | (go_simp; rfl)); (case hp => exact (Reps.none _ _))
        intro v175 w12 ho13 hb hg_ hnew_
        clear hg_ hnew_
        (first | rw [← Ny174.out] at ho13 | (simp only [Int.reduceToNat] at ho13; rw [← Ny174.out] at ho13))
        have n0_ := Aside0.mk (Kd.R_elder' (kR_ HO173.out) (Kd.R_base ho13) hb); have n1_ := Aside0.mk (Kd.R_lower (Kd.R_new' ho13 (Kd.R_lt (kR_ HO173.out))) (below_size (hbA_ HB.out))); have n2_ := (bbA_ BK166 hb); have n3_ := (bbA_ BK167 hb); have n4_ := (bbA_ BK180 hb); have n5_ := (bs_ HB hb); clear HO173 BK166 BK167 BK180 HB; have HO173 := n0_; have HO176 := n1_; have BK166 := n2_; have BK167 := n3_; have BK180 := n4_; have HB := n5_; clear n0_ n1_ n2_ n3_ n4_ n5_ hb ho13
        refine hK.out _ _ (cz4 BK166.out) (fun hHeld => ?_)
        clear hK K; refine nm_ 11 ?_
        exact norm_ (by first | (simp only [putAll, Act.put, List.setIfInBounds_toArray, List.set_cons_zero, List.set_cons_succ]; done) | (simp only [putAll, Act.put, List.setIfInBounds_toArray, List.set_cons_zero, List.set_cons_succ]; rfl)) (hJ2_5_6_11 (v169, v172, v175, gb180) _ ⟨hHeld, (by refine kR_ ?_; first | exact Kd.R_mono HO173.out (fun _ hk => hk.2) | exact Kd.R_mono HO173.out (fun _ _ => trivial)), (by refine kR_ ?_; first | exact Kd.R_mono HO176.out (fun _ hk => hk.2) | exact Kd.R_mono HO176.out (fun _ _ => trivial)), (kb_ BK166.out), (kb_ BK167.out), (kb_ BK180.out), GW180.out, GE180.out, NB166_180.out, NB180_166.out, NB167_180.out, NB180_167.out, (hbA_ HB.out)⟩)
      ·skip
       rintro ⟨v169, v172, v175⟩ w12 ⟨hS_, h0_, h1_, h2_, h3_, h4_⟩
       have n0_ : Aside0 (Kd.R (Kd.int .i64) 3 w12 w.heap.size (fun k_ => some k_ ≠ (v175 : Value).ownBlock) v172 y171) := ⟨h0_⟩
       have n1_ : Aside0 (Kd.R (Kd.int .i64) 3 w12 w.heap.size (fun k_ => some k_ ≠ (v172 : Value).ownBlock) v175 y174) := ⟨h1_⟩
       have n2_ : Aside0 (w12.heap[gb166]? = some (.cells #[.int .i64 a0_0, .slice A0_1 l0_1.length c0_1, .slice A0_2 l0_2.length c0_2, .slice A0_3 l0_3.length c0_3] 38 (0, 0))) := ⟨h2_⟩
       have n3_ : Aside0 (w12.heap[gb167]? = some (.cells #[.int .i64 0, .slice none 0 0, .slice none 0 0, .slice none 0 0] 38 (0, 0))) := ⟨h3_⟩
       have n4_ : Aside0 (Below w.heap.size w w12) := ⟨h4_⟩
       clear BK166 BK167 HB h0_ h1_ h2_ h3_ h4_; have HO173 := n0_; have HO176 := n1_; have BK166 := n2_; have BK167 := n3_; have HB := n4_; clear n0_ n1_ n2_ n3_ n4_
       have hHeld : w12.cell? ⟨gb166, 0, none⟩ = some (.int .i64 a0_0) ∧ w12.cell? ⟨gb166, 1, none⟩ = some (.slice A0_1 l0_1.length c0_1) ∧ w12.cell? ⟨gb166, 2, none⟩ = some (.slice A0_2 l0_2.length c0_2) ∧ w12.cell? ⟨gb166, 3, none⟩ = some (.slice A0_3 l0_3.length c0_3) := hS_
       refine norm_ (a' := ?_) ?_ ?_
       rotate_left
       ·simp only [putAll, Act.put, List.setIfInBounds_toArray, List.set_cons_zero, List.set_cons_succ]
        rfl
       refine two_ (i := 9) (j := 11) (Ni := some 14) (Nj := some 3) #[true, true, true, true, true, true, true, true, true, true, false, false, false] #[true, true, true, true, true, true, true, true, true, false, false, true, false] rfl rfl rfl rfl (two_of HT_.out (by kernel_rfl)) (by decide) (by decide) (fun K hK => ?_) (fun K hK => ?_)
       ·skip
        refine Kd.R_append_rows_step (Kd.int .i64) (w0 := w) w.heap.size (by rfl) (.tmp 11) (.tmp 13) 35 3 (.int .i64 0) 8 rfl Try.underlying35 info3 rfl (by decide) (by omega) v175 y174 l0_3 _ _ _ (fun k_ => some k_ ≠ (v172 : Value).ownBlock) (fun _ => False) rfl rfl ?aO ?aR (fun _ _ h => h) (fun _ h => h.elim) ?aF ?aB ?aS ?aL ?_
        (case aR => exact kC_ (Kd.C_below HR0_3.out HB.out))
        (case aB => exact (hbA_ HB.out))
        (case aF => exact (fun k_ hk => Kd.fresh' (Kd.R_lt (kR_ HO173.out)) k_ hk))
        (case aO => exact (kR_ HO176.out))
        (case aS => exact (below_size (hbA_ HB.out)))
        (case aL => have := LMc3.out; omega)
        intro v178 w13 ho hb hg hat
        rw [← Ny177.out] at ho
        have n0_ := (bgA_ BK166 hg (Kd.R_ne HO176.out BK166.out (by decide))); have n1_ := (bgA_ BK167 hg (Kd.R_ne HO176.out BK167.out (by decide))); have n2_ := Aside0.mk (Kd.R_after (ok := (fun _ => True)) (by refine kR_ ?_; exact Kd.R_mono HO173.out (fun _ hk => ⟨trivial, hk⟩)) hg hat); have n3_ := Aside0.mk (hb); have n4_ := Aside0.mk (ho); clear BK166 BK167 HO173 HB HO176; have BK166 := n0_; have BK167 := n1_; have HO173 := n2_; have HB := n3_; have HO179 := n4_; clear n0_ n1_ n2_ n3_ n4_ ho hb hg hat
        obtain ⟨Ao14, co14, eo14⟩ := Kd.R_slice HO179.out
        (first | subst eo14 | (injection eo14 with f1_ f2_ f3_; have f4_ := f1_.symm; have f5_ := f3_.symm; clear f1_ f2_ f3_; subst f4_; subst f5_))
        obtain ⟨Ao15, co15, eo15⟩ := Kd.R_slice HO173.out
        (first | subst eo15 | (injection eo15 with f1_ f2_ f3_; have f4_ := f1_.symm; have f5_ := f3_.symm; clear f1_ f2_ f3_; subst f4_; subst f5_))
        refine hK.out _ _ (cz4 BK166.out) (fun hHeld => ?_)
        clear hK K; refine nm_ 14 ?_; refine pu_ (i := 10) (N := some 15) HT_ ?_
        exact norm_ (by first | (simp only [putAll, Act.put, List.setIfInBounds_toArray, List.set_cons_zero, List.set_cons_succ]; done) | (simp only [putAll, Act.put, List.setIfInBounds_toArray, List.set_cons_zero, List.set_cons_succ]; rfl)) (hJ2_5_6_9 (v169, .slice Ao15 y171.length co15, v175, .slice Ao14 y177.length co14) _ ⟨hHeld, (by refine kR_ ?_; first | exact Kd.R_mono HO173.out (fun _ hk => hk.2) | exact Kd.R_mono HO173.out (fun _ _ => trivial)), (kR_ HO179.out), (kb_ BK166.out), (kb_ BK167.out), (hbA_ HB.out)⟩)
       ·skip
        refine box_step ?hg (N := 3) ?hd (cs := #[.int .i64 0, .slice none 0 0, .slice none 0 0, .slice none 0 0]) (t := 38) ?hr ?_; (case hd => rfl); (case hg => rfl); (case hr => first | (go_simp; done) | (go_simp; rfl))
        intro gb180 hg w13 hbox hb
        have n0_ := Aside0.mk (Kd.R_below (kR_ HO173.out) hb); have n1_ := Aside0.mk (Kd.R_below (kR_ HO176.out) hb); have n2_ := (bbA_ BK166 hb); have n3_ := (bbA_ BK167 hb); have n4_ := (bs_ HB hb); have n5_ := Aside0.mk (hbox); have n6_ := ge_ hg HB; have n7_ := ge_ hg HB; have n8_ := nl_ hg BK166; have n9_ := ng_ hg BK166; have n10_ := nl_ hg BK167; have n11_ := ng_ hg BK167; clear HO173 HO176 BK166 BK167 HB; have HO173 := n0_; have HO176 := n1_; have BK166 := n2_; have BK167 := n3_; have HB := n4_; have BK180 := n5_; have GW180 := n6_; have GE180 := n7_; have NB166_180 := n8_; have NB180_166 := n9_; have NB167_180 := n10_; have NB180_167 := n11_; clear n0_ n1_ n2_ n3_ n4_ n5_ n6_ n7_ n8_ n9_ n10_ n11_ hb hbox hg
        refine hK.out _ _ (cz4 BK166.out) (fun hHeld => ?_)
        clear hK K; refine nm_ 3 ?_
        exact norm_ (by first | (simp only [putAll, Act.put, List.setIfInBounds_toArray, List.set_cons_zero, List.set_cons_succ]; done) | (simp only [putAll, Act.put, List.setIfInBounds_toArray, List.set_cons_zero, List.set_cons_succ]; rfl)) (hJ2_5_6_11 (v169, v172, v175, gb180) _ ⟨hHeld, (kR_ HO173.out), (kR_ HO176.out), (kb_ BK166.out), (kb_ BK167.out), (kb_ BK180.out), GW180.out, GE180.out, NB166_180.out, NB180_166.out, NB167_180.out, NB180_167.out, (hbA_ HB.out)⟩)
     ·skip
      rintro ⟨v169, v172, v175, gb180⟩ w13 ⟨hS_, h0_, h1_, h2_, h3_, h4_, h5_, h6_, h7_, h8_, h9_, h10_, h11_⟩
      have n0_ : Aside0 (Kd.R (Kd.int .i64) 3 w13 w.heap.size (fun k_ => some k_ ≠ (v175 : Value).ownBlock) v172 y171) := ⟨h0_⟩
      have n1_ : Aside0 (Kd.R (Kd.int .i64) 3 w13 w.heap.size (fun k_ => some k_ ≠ (v172 : Value).ownBlock) v175 y174) := ⟨h1_⟩
      have n2_ : Aside0 (w13.heap[gb166]? = some (.cells #[.int .i64 a0_0, .slice A0_1 l0_1.length c0_1, .slice A0_2 l0_2.length c0_2, .slice A0_3 l0_3.length c0_3] 38 (0, 0))) := ⟨h2_⟩
      have n3_ : Aside0 (w13.heap[gb167]? = some (.cells #[.int .i64 0, .slice none 0 0, .slice none 0 0, .slice none 0 0] 38 (0, 0))) := ⟨h3_⟩
      have n4_ : Aside0 (w13.heap[gb180]? = some (.cells #[.int .i64 0, .slice none 0 0, .slice none 0 0, .slice none 0 0] 38 (0, 0))) := ⟨h4_⟩
      have n5_ : Aside0 (w.heap.size ≤ gb180) := ⟨h5_⟩
      have n6_ : Aside0 (w.heap.size ≤ gb180) := ⟨h6_⟩
      have n7_ : Aside0 (gb166 ≠ gb180) := ⟨h7_⟩
      have n8_ : Aside0 (gb180 ≠ gb166) := ⟨h8_⟩
      have n9_ : Aside0 (gb167 ≠ gb180) := ⟨h9_⟩
      have n10_ : Aside0 (gb180 ≠ gb167) := ⟨h10_⟩
      have n11_ : Aside0 (Below w.heap.size w w13) := ⟨h11_⟩
      clear BK166 BK167 HB h0_ h1_ h2_ h3_ h4_ h5_ h6_ h7_ h8_ h9_ h10_ h11_; have HO173 := n0_; have HO176 := n1_; have BK166 := n2_; have BK167 := n3_; have BK180 := n4_; have GW180 := n5_; have GE180 := n6_; have NB166_180 := n7_; have NB180_166 := n8_; have NB167_180 := n9_; have NB180_167 := n10_; have HB := n11_; clear n0_ n1_ n2_ n3_ n4_ n5_ n6_ n7_ n8_ n9_ n10_ n11_
      have hHeld : w13.cell? ⟨gb166, 0, none⟩ = some (.int .i64 a0_0) ∧ w13.cell? ⟨gb166, 1, none⟩ = some (.slice A0_1 l0_1.length c0_1) ∧ w13.cell? ⟨gb166, 2, none⟩ = some (.slice A0_2 l0_2.length c0_2) ∧ w13.cell? ⟨gb166, 3, none⟩ = some (.slice A0_3 l0_3.length c0_3) := hS_
      refine norm_ (a' := ?_) ?_ ?_
      rotate_left
      ·simp only [putAll, Act.put, List.setIfInBounds_toArray, List.set_cons_zero, List.set_cons_succ]
       rfl
      refine on_ (i := 9) (N := some 14) HT_ (fun K hK => ?_)
      refine Kd.R_append_rows_step (Kd.int .i64) (w0 := w) w.heap.size (by rfl) (.tmp 11) (.tmp 13) 35 3 (.int .i64 0) 8 rfl Try.underlying35 info3 rfl (by decide) (by omega) v175 y174 l0_3 _ _ _ (fun k_ => some k_ ≠ (v172 : Value).ownBlock) (fun _ => False) rfl rfl ?aO ?aR (fun _ _ h => h) (fun _ h => h.elim) ?aF ?aB ?aS ?aL ?_
      (case aR => exact kC_ (Kd.C_below HR0_3.out HB.out))
      (case aB => exact (hbA_ HB.out))
      (case aF => exact (fun k_ hk => Kd.fresh' (Kd.R_lt (kR_ HO173.out)) k_ hk))
      (case aO => exact (kR_ HO176.out))
      (case aS => exact (below_size (hbA_ HB.out)))
      (case aL => have := LMc3.out; omega)
      intro v178 w14 ho hb hg hat
      rw [← Ny177.out] at ho
      have n0_ := (bgA_ BK166 hg (Kd.R_ne HO176.out BK166.out (by decide))); have n1_ := (bgA_ BK167 hg (Kd.R_ne HO176.out BK167.out (by decide))); have n2_ := Aside0.mk (Kd.R_after (ok := (fun _ => True)) (by refine kR_ ?_; exact Kd.R_mono HO173.out (fun _ hk => ⟨trivial, hk⟩)) hg hat); have n3_ := (bgA_ BK180 hg (Kd.R_ne HO176.out BK180.out (by decide))); have n4_ := Aside0.mk (hb); have n5_ := Aside0.mk (ho); clear BK166 BK167 HO173 BK180 HB HO176; have BK166 := n0_; have BK167 := n1_; have HO173 := n2_; have BK180 := n3_; have HB := n4_; have HO179 := n5_; clear n0_ n1_ n2_ n3_ n4_ n5_ ho hb hg hat
      obtain ⟨Ao15, co15, eo15⟩ := Kd.R_slice HO179.out
      (first | subst eo15 | (injection eo15 with f1_ f2_ f3_; have f4_ := f1_.symm; have f5_ := f3_.symm; clear f1_ f2_ f3_; subst f4_; subst f5_))
      obtain ⟨Ao16, co16, eo16⟩ := Kd.R_slice HO173.out
      (first | subst eo16 | (injection eo16 with f1_ f2_ f3_; have f4_ := f1_.symm; have f5_ := f3_.symm; clear f1_ f2_ f3_; subst f4_; subst f5_))
      refine hK.out _ _ (cz4 BK166.out) (fun hHeld => ?_)
      clear hK K; refine nm_ 14 ?_; refine pu_ (i := 10) (N := some 15) HT_ ?_
      exact norm_ (by first | (simp only [putAll, Act.put, List.setIfInBounds_toArray, List.set_cons_zero, List.set_cons_succ]; done) | (simp only [putAll, Act.put, List.setIfInBounds_toArray, List.set_cons_zero, List.set_cons_succ]; rfl)) (hJ2_5_6_9_11 (v169, .slice Ao16 y171.length co16, v175, .slice Ao15 y177.length co15, gb180) _ ⟨hHeld, (by refine kR_ ?_; first | exact Kd.R_mono HO173.out (fun _ hk => hk.2) | exact Kd.R_mono HO173.out (fun _ _ => trivial)), (kR_ HO179.out), (kb_ BK166.out), (kb_ BK167.out), (kb_ BK180.out), GW180.out, GE180.out, NB166_180.out, NB180_166.out, NB167_180.out, NB180_167.out, (hbA_ HB.out)⟩)
    ·skip
     rintro ⟨v169, v172, v175, v178⟩ w15 ⟨hS_, h0_, h1_, h2_, h3_, h4_⟩
     have n0_ : Aside0 (Kd.R (Kd.int .i64) 3 w15 w.heap.size (fun k_ => some k_ ≠ (v178 : Value).ownBlock) v172 y171) := ⟨h0_⟩
     have n1_ : Aside0 (Kd.R (Kd.int .i64) 3 w15 w.heap.size (fun k_ => some k_ ≠ (v172 : Value).ownBlock) v178 y177) := ⟨h1_⟩
     have n2_ : Aside0 (w15.heap[gb166]? = some (.cells #[.int .i64 a0_0, .slice A0_1 l0_1.length c0_1, .slice A0_2 l0_2.length c0_2, .slice A0_3 l0_3.length c0_3] 38 (0, 0))) := ⟨h2_⟩
     have n3_ : Aside0 (w15.heap[gb167]? = some (.cells #[.int .i64 0, .slice none 0 0, .slice none 0 0, .slice none 0 0] 38 (0, 0))) := ⟨h3_⟩
     have n4_ : Aside0 (Below w.heap.size w w15) := ⟨h4_⟩
     clear BK166 BK167 HB h0_ h1_ h2_ h3_ h4_; have HO173 := n0_; have HO179 := n1_; have BK166 := n2_; have BK167 := n3_; have HB := n4_; clear n0_ n1_ n2_ n3_ n4_
     have hHeld : w15.cell? ⟨gb166, 0, none⟩ = some (.int .i64 a0_0) ∧ w15.cell? ⟨gb166, 1, none⟩ = some (.slice A0_1 l0_1.length c0_1) ∧ w15.cell? ⟨gb166, 2, none⟩ = some (.slice A0_2 l0_2.length c0_2) ∧ w15.cell? ⟨gb166, 3, none⟩ = some (.slice A0_3 l0_3.length c0_3) := hS_
     obtain ⟨Ao16, co16, eo16⟩ := Kd.R_slice HO179.out
     (first | subst eo16 | (injection eo16 with f1_ f2_ f3_; have f4_ := f1_.symm; have f5_ := f3_.symm; clear f1_ f2_ f3_; subst f4_; subst f5_))
     obtain ⟨Ao17, co17, eo17⟩ := Kd.R_slice HO173.out
     (first | subst eo17 | (injection eo17 with f1_ f2_ f3_; have f4_ := f1_.symm; have f5_ := f3_.symm; clear f1_ f2_ f3_; subst f4_; subst f5_))
     refine norm_ (a' := ?_) ?_ ?_
     rotate_left
     ·simp only [putAll, Act.put, List.setIfInBounds_toArray, List.set_cons_zero, List.set_cons_succ]
      rfl
     refine on_ (i := 11) (N := some 3) HT_ (fun K hK => ?_)
     refine box_step ?hg (N := 3) ?hd (cs := #[.int .i64 0, .slice none 0 0, .slice none 0 0, .slice none 0 0]) (t := 38) ?hr ?_; (case hd => rfl); (case hg => rfl); (case hr => first | (go_simp; done) | (go_simp; rfl))
     intro gb180 hg w18 hbox hb
     have n0_ := Aside0.mk (Kd.R_below (kR_ HO173.out) hb); have n1_ := Aside0.mk (Kd.R_below (kR_ HO179.out) hb); have n2_ := (bbA_ BK166 hb); have n3_ := (bbA_ BK167 hb); have n4_ := (bs_ HB hb); have n5_ := Aside0.mk (hbox); have n6_ := ge_ hg HB; have n7_ := ge_ hg HB; have n8_ := nl_ hg BK166; have n9_ := ng_ hg BK166; have n10_ := nl_ hg BK167; have n11_ := ng_ hg BK167; clear HO173 HO179 BK166 BK167 HB; have HO173 := n0_; have HO179 := n1_; have BK166 := n2_; have BK167 := n3_; have HB := n4_; have BK180 := n5_; have GW180 := n6_; have GE180 := n7_; have NB166_180 := n8_; have NB180_166 := n9_; have NB167_180 := n10_; have NB180_167 := n11_; clear n0_ n1_ n2_ n3_ n4_ n5_ n6_ n7_ n8_ n9_ n10_ n11_ hb hbox hg
     refine hK.out _ _ (cz4 BK166.out) (fun hHeld => ?_)
     clear hK K; refine nm_ 3 ?_
     exact norm_ (by first | (simp only [putAll, Act.put, List.setIfInBounds_toArray, List.set_cons_zero, List.set_cons_succ]; done) | (simp only [putAll, Act.put, List.setIfInBounds_toArray, List.set_cons_zero, List.set_cons_succ]; rfl)) (hJ2_5_6_9_11 (v169, .slice Ao17 y171.length co17, v175, .slice Ao16 y177.length co16, gb180) _ ⟨hHeld, (kR_ HO173.out), (kR_ HO179.out), (kb_ BK166.out), (kb_ BK167.out), (kb_ BK180.out), GW180.out, GE180.out, NB166_180.out, NB180_166.out, NB167_180.out, NB180_167.out, (hbA_ HB.out)⟩)
   rintro ⟨v169, v172, v175, v178, gb180⟩ w16 ⟨hS_, h0_, h1_, h2_, h3_, h4_, h5_, h6_, h7_, h8_, h9_, h10_, h11_⟩
   have n0_ : Aside0 (Kd.R (Kd.int .i64) 3 w16 w.heap.size (fun k_ => some k_ ≠ (v178 : Value).ownBlock) v172 y171) := ⟨h0_⟩
   have n1_ : Aside0 (Kd.R (Kd.int .i64) 3 w16 w.heap.size (fun k_ => some k_ ≠ (v172 : Value).ownBlock) v178 y177) := ⟨h1_⟩
   have n2_ : Aside0 (w16.heap[gb166]? = some (.cells #[.int .i64 a0_0, .slice A0_1 l0_1.length c0_1, .slice A0_2 l0_2.length c0_2, .slice A0_3 l0_3.length c0_3] 38 (0, 0))) := ⟨h2_⟩
   have n3_ : Aside0 (w16.heap[gb167]? = some (.cells #[.int .i64 0, .slice none 0 0, .slice none 0 0, .slice none 0 0] 38 (0, 0))) := ⟨h3_⟩
   have n4_ : Aside0 (w16.heap[gb180]? = some (.cells #[.int .i64 0, .slice none 0 0, .slice none 0 0, .slice none 0 0] 38 (0, 0))) := ⟨h4_⟩
   have n5_ : Aside0 (w.heap.size ≤ gb180) := ⟨h5_⟩
   have n6_ : Aside0 (w.heap.size ≤ gb180) := ⟨h6_⟩
   have n7_ : Aside0 (gb166 ≠ gb180) := ⟨h7_⟩
   have n8_ : Aside0 (gb180 ≠ gb166) := ⟨h8_⟩
   have n9_ : Aside0 (gb167 ≠ gb180) := ⟨h9_⟩
   have n10_ : Aside0 (gb180 ≠ gb167) := ⟨h10_⟩
   have n11_ : Aside0 (Below w.heap.size w w16) := ⟨h11_⟩
   clear BK166 BK167 HB h0_ h1_ h2_ h3_ h4_ h5_ h6_ h7_ h8_ h9_ h10_ h11_; have HO173 := n0_; have HO179 := n1_; have BK166 := n2_; have BK167 := n3_; have BK180 := n4_; have GW180 := n5_; have GE180 := n6_; have NB166_180 := n7_; have NB180_166 := n8_; have NB167_180 := n9_; have NB180_167 := n10_; have HB := n11_; clear n0_ n1_ n2_ n3_ n4_ n5_ n6_ n7_ n8_ n9_ n10_ n11_
   have hHeld : w16.cell? ⟨gb166, 0, none⟩ = some (.int .i64 a0_0) ∧ w16.cell? ⟨gb166, 1, none⟩ = some (.slice A0_1 l0_1.length c0_1) ∧ w16.cell? ⟨gb166, 2, none⟩ = some (.slice A0_2 l0_2.length c0_2) ∧ w16.cell? ⟨gb166, 3, none⟩ = some (.slice A0_3 l0_3.length c0_3) := hS_
   obtain ⟨Ao17, co17, eo17⟩ := Kd.R_slice HO179.out
   (first | subst eo17 | (injection eo17 with f1_ f2_ f3_; have f4_ := f1_.symm; have f5_ := f3_.symm; clear f1_ f2_ f3_; subst f4_; subst f5_))
   obtain ⟨Ao18, co18, eo18⟩ := Kd.R_slice HO173.out
   (first | subst eo18 | (injection eo18 with f1_ f2_ f3_; have f4_ := f1_.symm; have f5_ := f3_.symm; clear f1_ f2_ f3_; subst f4_; subst f5_))
   refine norm_ (a' := ?_) ?_ ?_
   rotate_left
   ·simp only [putAll, Act.put, List.setIfInBounds_toArray, List.set_cons_zero, List.set_cons_succ]
    rfl
   refine on_ (i := 12) (N := none) HT_ (fun K hK => ?_)
   have hs19 : w16.cell? ⟨gb180, 0, none⟩ = some (.int .i64 0) := bc_ BK180 0
   have hfs19 := blk_frozen BK180.out 0
   have hns19_0 := NB166_180.out; have hns19_1 := NB167_180.out; have hms19_0 := NB180_166.out; have hms19_1 := NB180_167.out
   have hs20 : w16.cell? ⟨gb180, 1, none⟩ = some (.slice none 0 0) := bc_ BK180 1
   have hfs20 := blk_frozen BK180.out 1
   have hns20_0 := NB166_180.out; have hns20_1 := NB167_180.out; have hms20_0 := NB180_166.out; have hms20_1 := NB180_167.out
   have hs21 : w16.cell? ⟨gb180, 2, none⟩ = some (.slice none 0 0) := bc_ BK180 2
   have hfs21 := blk_frozen BK180.out 2
   have hns21_0 := NB166_180.out; have hns21_1 := NB167_180.out; have hms21_0 := NB180_166.out; have hms21_1 := NB180_167.out
   have hs22 : w16.cell? ⟨gb180, 3, none⟩ = some (.slice none 0 0) := bc_ BK180 3
   have hfs22 := blk_frozen BK180.out 3
   have hns22_0 := NB166_180.out; have hns22_1 := NB167_180.out; have hms22_0 := NB180_166.out; have hms22_1 := NB180_167.out
   refine skip_ (w1 := ?_) (by rfl) rfl ?_ ?_
   rotate_left
   ·go_simp
    rfl
   refine hK.out _ _ ⟨((cell_far (p := ⟨gb180, _, none⟩) NB166_180.out _).trans (((cell_far (p := ⟨gb180, _, none⟩) NB166_180.out _).trans (((cell_far (p := ⟨gb180, _, none⟩) NB166_180.out _).trans (((cell_far (p := ⟨gb180, _, none⟩) NB166_180.out _).trans (hHeld.1)))))))), ((cell_far (p := ⟨gb180, _, none⟩) NB166_180.out _).trans (((cell_far (p := ⟨gb180, _, none⟩) NB166_180.out _).trans (((cell_far (p := ⟨gb180, _, none⟩) NB166_180.out _).trans (((cell_far (p := ⟨gb180, _, none⟩) NB166_180.out _).trans (hHeld.2.1)))))))), ((cell_far (p := ⟨gb180, _, none⟩) NB166_180.out _).trans (((cell_far (p := ⟨gb180, _, none⟩) NB166_180.out _).trans (((cell_far (p := ⟨gb180, _, none⟩) NB166_180.out _).trans (((cell_far (p := ⟨gb180, _, none⟩) NB166_180.out _).trans (hHeld.2.2.1)))))))), ((cell_far (p := ⟨gb180, _, none⟩) NB166_180.out _).trans (((cell_far (p := ⟨gb180, _, none⟩) NB166_180.out _).trans (((cell_far (p := ⟨gb180, _, none⟩) NB166_180.out _).trans (((cell_far (p := ⟨gb180, _, none⟩) NB166_180.out _).trans (hHeld.2.2.2))))))))⟩ (fun hHeld => ?_)
   clear hK K
   refine done_ (done_of HT_.out (by kernel_rfl)) ?_
   try go_wp2
   go_loopg [4] k (fun kq v4 w' => ∃ (x4_1 : Int) (x181002_1 : List (S81)) (u181002 : Value), v4 = .int .i64 x4_1 ∧ Aside0 (spec_l20Client.l0 kq x4_1 a0_0 l0_1 l0_2 l0_3 a0_0 y171 x181002_1 y177 = some (r1, r2, r3, r4)) ∧ Aside0 (kq ≤ k) ∧ Aside0 (Kd.R (Kd.int .i64) 3 w' w.heap.size (fun k_ => some k_ ≠ ((.slice Ao17 y177.length co17) : Value).ownBlock) (.slice Ao18 y171.length co18) y171) ∧ Aside0 (Kd.S k81 81 w' w.heap.size (fun _ => True) u181002 x181002_1) ∧ Aside0 (Kd.R (Kd.int .i64) 3 w' w.heap.size (fun k_ => some k_ ≠ ((.slice Ao18 y171.length co18) : Value).ownBlock) (.slice Ao17 y177.length co17) y177) ∧ Aside0 (w'.heap[gb166]? = some (.cells #[.int .i64 a0_0, (.slice A0_1 l0_1.length c0_1), (.slice A0_2 l0_2.length c0_2), (.slice A0_3 l0_3.length c0_3)] 38 (0, 0))) ∧ Aside0 (w'.heap[gb167]? = some (.cells #[.int .i64 0, (.slice none 0 0), (.slice none 0 0), (.slice none 0 0)] 38 (0, 0))) ∧ Aside0 (w'.heap[gb180]? = some (.cells #[.int .i64 a0_0, (.slice Ao18 y171.length co18), u181002, (.slice Ao17 y177.length co17)] 38 (0, 0))) ∧ Aside0 (Below w.heap.size w w'))
   case atStart => exact ⟨(0), (([] : List (S81))), (.slice none 0 0), (by first | rfl | (simp; done) | (simp [*]; done)), H', ⟨Nat.le_refl _⟩, ⟨by refine kR_ ?_; exact rfm_ ((Kd.R_types HO173.out BK180.out (by decide))) (fun _ hk => hk.1)⟩, ⟨by first | exact Kd.S_nil _ _ _ _ _ | exact Kd.N_nil _ _ _ _ _ | exact Kd.V_nil _ _ _ _ _ | exact Kd.Q_nil _ _ _ _ _ | exact Kd.R_nil _ _ _ _ _⟩, ⟨by refine kR_ ?_; exact rfm_ ((Kd.R_types HO179.out BK180.out (by decide))) (fun _ hk => hk.1)⟩, ⟨by exact kf_ BK166.out⟩, ⟨by exact kf_ BK167.out⟩, ⟨by refine kb_ ?_; refine pz4 (cs := #[.int .i64 0, .slice none 0 0, .slice none 0 0, .slice none 0 0]) ?_; refine kb_ ?_; exact BK180.out⟩, ⟨hbA_ HB.out⟩⟩
   case round =>
    clear H'; (try clear c2); (try clear p2); (try clear c3)
    obtain ⟨x4_1, x181002_1, u181002, rfl, HA, HK1, HO_181001, HO_181002, HO_181003, BK166, BK167, BK180, HB⟩ := hrel
    cases gk with
    | zero => exact absurd HA.out (by simp [spec_l20Client.l0])
    | succ k1 =>
     have H := HA.out; clear HA
     simp only [spec_l20Client.l0] at H
     by_cases c23 : x4_1 < (l0_2.length : Int)
     ·rw [if_pos c23] at H
      have c23b0 : decide (x4_1 < (l0_2.length : Int)) = true := decide_eq_true c23
      clear c23
      by_cases c24 : 0 ≤ x4_1
      ·rw [if_pos c24] at H
       have c24b0 : decide (0 ≤ x4_1) = true := decide_eq_true c24
       clear c24
       obtain ⟨y182, hy182⟩ : ∃ y_ : List Int, y_ = (([] : List Int)) := ⟨_, rfl⟩
       (first | replace H := sb_ hy182 H | rw [← hy182] at H)
       have Ny182 := Aside0.mk hy182; clear hy182
       by_cases c25 : y182.length + ((rd_T81 l0_2 x4_1).f1).length < 140737488355328
       ·rw [if_pos c25] at H
        have LMc25 := Aside0.mk c25; clear c25
        obtain ⟨y186, hy186⟩ : ∃ y_ : List Int, y_ = (y182 ++ ((rd_T81 l0_2 x4_1).f1)) := ⟨_, rfl⟩
        (first | replace H := sb_ hy186 H | rw [← hy186] at H)
        have Ny186 := Aside0.mk hy186; clear hy186
        by_cases c26 : x181002_1.length < 4398046511104
        ·rw [if_pos c26] at H
         have LMc26 := Aside0.mk c26; clear c26
         obtain ⟨y189, hy189⟩ : ∃ y_ : List (S81), y_ = (x181002_1 ++ [(⟨(rd_T81 l0_2 x4_1).f0, y186⟩ : S81)]) := ⟨_, rfl⟩
         (first | replace H := sb_ hy189 H | rw [← hy189] at H)
         have Ny189 := Aside0.mk hy189; clear hy189
         have H' := Aside0.mk H
         clear H; have hnb27 := NB166_167.out; have hnc27 := NB167_166.out; have hnb28 := NB166_180.out; have hnc28 := NB180_166.out; have Z29 := zz4 BK166
         try go_wp2
         replace HO_181001 := Aside0.mk (Kd.R_drew HO_181001.out); replace HO_181002 := Aside0.mk (Kd.S_drew HO_181002.out); replace HO_181003 := Aside0.mk (Kd.R_drew HO_181003.out); replace BK166 := Aside0.mk (blk_drew BK166.out); replace BK167 := Aside0.mk (blk_drew BK167.out); replace BK180 := Aside0.mk (blk_drew BK180.out); replace HB := (bd_ HB)
         have p181 : 0 ≤ (x4_1 : Int) := of_decide_eq_true (by first | (with_reducible assumption) | assumption)
         have q181 : x4_1 < (l0_2.length : Int) := of_decide_eq_true (by first | (with_reducible assumption) | assumption)
         obtain ⟨ad181, A181_1, c181_1, e181, hx181_0, hx181_1, hl181_1, hi181_1⟩ := at_T81 HR0_2.out x4_1 p181 q181
         have hw181_1 := hx181_1; have hw181_0 := hx181_0
         cases e181
         replace hx181_0 := cc_ HB hx181_0
         replace hx181_1 := cc_ HB hx181_1
         have HR181_1 := Aside0.mk hi181_1; have HC181_1 := Aside0.mk hl181_1; clear hi181_1 hl181_1
         replace p181 := eq_true p181
         replace q181 := eq_true q181
         have p185 : 0 ≤ (x4_1 : Int) := of_decide_eq_true (by first | (with_reducible assumption) | assumption)
         have q185 : x4_1 < (l0_2.length : Int) := of_decide_eq_true (by first | (with_reducible assumption) | assumption)
         obtain ⟨ad185, A185_1, c185_1, e185, hx185_0, hx185_1, hl185_1, hi185_1⟩ := at_T81 HR0_2.out x4_1 p185 q185
         have hw185_1 := hx185_1; have hw185_0 := hx185_0
         obtain rfl : ad181 = ad185 := (by injection e185)
         replace hx185_0 := cc_ HB hx185_0
         replace hx185_1 := cc_ HB hx185_1
         have HR185_1 := Aside0.mk hi185_1; have HC185_1 := Aside0.mk hl185_1; clear hi185_1 hl185_1
         replace p185 := eq_true p185
         replace q185 := eq_true q185
         have ea_ := Option.some.inj (hx181_1.symm.trans hx185_1)
         injection ea_ with ea_ en_ ec_
         subst ea_; subst ec_; clear en_
         refine start_ (n := 21) (S := fun w' => w'.cell? ⟨gb180, 0, none⟩ = some (.int .i64 a0_0) ∧ w'.cell? ⟨gb180, 1, none⟩ = some (.slice Ao18 y171.length co18) ∧ w'.cell? ⟨gb180, 2, none⟩ = some (u181002) ∧ w'.cell? ⟨gb180, 3, none⟩ = some (.slice Ao17 y177.length co17) ∧ w'.cell? ⟨gb166, 0, none⟩ = some (.int .i64 a0_0) ∧ w'.cell? ⟨gb166, 1, none⟩ = some (.slice A0_1 l0_1.length c0_1) ∧ w'.cell? ⟨gb166, 2, none⟩ = some (.slice (some ad181) l0_2.length c0_2) ∧ w'.cell? ⟨gb166, 3, none⟩ = some (.slice A0_3 l0_3.length c0_3) ∧ w'.cell? (ad181.add ((x4_1).toNat * 2)) = some (.int .i64 ((rd_T81 l0_2 x4_1).f0)) ∧ w'.cell? ⟨(ad181.add ((x4_1).toNat * 2)).block, (ad181.add ((x4_1).toNat * 2)).off + 1, none⟩ = some (.slice A181_1 ((rd_T81 l0_2 x4_1).f1).length c181_1) ∧ w'.cell? (ad181.add ((x4_1).toNat * 2)) = some (.int .i64 ((rd_T81 l0_2 x4_1).f0)) ∧ w'.cell? ⟨(ad181.add ((x4_1).toNat * 2)).block, (ad181.add ((x4_1).toNat * 2)).off + 1, none⟩ = some (.slice A181_1 ((rd_T81 l0_2 x4_1).f1).length c181_1)) (ds := [20]) #[false, false, false, false, false, false, false, false, false, false, false, false, false, false, false, false, false, false, false, false, false] (by kernel_rfl) rfl rfl ⟨bc_ BK180 0, bc_ BK180 1, bc_ BK180 2, bc_ BK180 3, bc_ BK166 0, bc_ BK166 1, bc_ BK166 2, bc_ BK166 3, (cc_ HB hw181_0), (cc_ HB hw181_1), (cc_ HB hw185_0), (cc_ HB hw185_1)⟩ (fun hHeld => ?_); refine with_tabW spec_l20Client.tab5 spec_l20Client.bits5 (fun HT_ HW_ => ?_)
         generalize wr.drew = w30 at HO_181001 HO_181002 HO_181003 BK166 BK167 BK180 HB HR181_1 HR185_1 hx181_0 hx181_1 hx185_0 hx185_1 hHeld ⊢
         refine pu_ (i := 0) (N := some 23) HT_ ?_; refine pu_ (i := 2) (N := some 25) HT_ ?_; refine pu_ (i := 4) (N := some 27) HT_ ?_; refine pu_ (i := 9) (N := some 32) HT_ ?_; refine pu_ (i := 11) (N := some 34) HT_ ?_; refine tk_ (i := 1) (N := some 24) HT_ HW_ hHeld ?_; refine tk_ (i := 3) (N := some 26) HT_ HW_ hHeld ?_; refine pu_ (i := 5) (N := some 28) HT_ ?_; refine pu_ (i := 6) (N := some 29) HT_ ?_; refine tk_ (i := 7) (N := some 30) HT_ HW_ hHeld ?_; refine tk_ (i := 10) (N := some 33) HT_ HW_ hHeld ?_; refine pu_ (i := 12) (N := some 35) HT_ ?_; refine pu_ (i := 13) (N := some 36) HT_ ?_; refine tk_ (i := 14) (N := some 37) HT_ HW_ hHeld ?_
         refine on_ (i := 8) (N := some 31) HT_ (fun K hK => ?_)
         refine Kd.R_lit_step (Kd.int .u8) _ 5 ?hg (N := 31) ?hd (xs := ([] : List Int)) (inner := []) (ok := fun _ => True) (okp := fun _ => True) ?hr ?hp (fun _ hk => hk) trivial (Below.refl _ _) (Nat.le_refl _) (by simp) ?_; (case hd => rfl); (case hg => rfl); (case hr => first | (go_simp; done) | (go_simp; rfl)); (case hp => exact (Reps.none _ _))
         intro v183 w31 ho32 hb hg_ hnew_
         clear hg_ hnew_
         (first | rw [← Ny182.out] at ho32 | (simp only [Int.reduceToNat] at ho32; rw [← Ny182.out] at ho32))
         have n0_ := Aside0.mk (Kd.R_below (kR_ HO_181001.out) hb); have n1_ := Aside0.mk (Kd.S_elder' (kS_ HO_181002.out) (Kd.R_base ho32) hb); have n2_ := Aside0.mk (Kd.R_below (kR_ HO_181003.out) hb); have n3_ := Aside0.mk (Kd.R_lower ho32 (below_size (hbA_ HB.out))); have n4_ := (bbA_ BK166 hb); have n5_ := (bbA_ BK167 hb); have n6_ := (bbA_ BK180 hb); have n7_ := (bs_ HB hb); clear HO_181001 HO_181002 HO_181003 BK166 BK167 BK180 HB; have HO_181001 := n0_; have HO_181002 := n1_; have HO_181003 := n2_; have HO184 := n3_; have BK166 := n4_; have BK167 := n5_; have BK180 := n6_; have HB := n7_; clear n0_ n1_ n2_ n3_ n4_ n5_ n6_ n7_ hb ho32
         refine hK.out _ _ ⟨bc_ BK180 0, bc_ BK180 1, bc_ BK180 2, bc_ BK180 3, bc_ BK166 0, bc_ BK166 1, bc_ BK166 2, bc_ BK166 3, (cc_ HB hw181_0), (cc_ HB hw181_1), (cc_ HB hw185_0), (cc_ HB hw185_1)⟩ (fun hHeld => ?_)
         clear hK K; refine nm_ 31 ?_
         refine on_ (i := 15) (N := some 38) HT_ (fun K hK => ?_)
         refine Kd.R_append_rows_step (Kd.int .u8) (w0 := w) w.heap.size (by rfl) (.tmp 31) (.tmp 37) 22 5 (.int .u8 0) 1 rfl Try.underlying22 info5 rfl (by decide) (by omega) v183 y182 ((rd_T81 l0_2 x4_1).f1) _ _ _ (fun _ => True) (fun _ => False) rfl rfl ?aO ?aR (fun _ _ h => h) (fun _ h => h.elim) ?aF ?aB ?aS ?aL ?_
         (case aR => exact kC_ (Kd.C_below HR185_1.out HB.out))
         (case aB => exact (hbA_ HB.out))
         (case aF => exact (fun _ _ => trivial))
         (case aO => exact (kR_ HO184.out))
         (case aS => exact (below_size (hbA_ HB.out)))
         (case aL => have := LMc25.out; omega)
         intro v187 w33 ho hb hg hat
         rw [← Ny186.out] at ho
         have n0_ := Aside0.mk (Kd.R_over' (kR_ HO_181001.out) (Kd.R_typed (kR_ HO184.out)) (by decide) hg); have n1_ := Aside0.mk (Kd.S_after (ok := (fun _ => True)) (kS_ HO_181002.out) hg hat); have n2_ := Aside0.mk (Kd.R_over' (kR_ HO_181003.out) (Kd.R_typed (kR_ HO184.out)) (by decide) hg); have n3_ := (bgA_ BK166 hg (Kd.R_ne HO184.out BK166.out (by decide))); have n4_ := (bgA_ BK167 hg (Kd.R_ne HO184.out BK167.out (by decide))); have n5_ := (bgA_ BK180 hg (Kd.R_ne HO184.out BK180.out (by decide))); have n6_ := Aside0.mk (hb); have n7_ := Aside0.mk (ho); clear HO_181001 HO_181002 HO_181003 BK166 BK167 BK180 HB HO184; have HO_181001 := n0_; have HO_181002 := n1_; have HO_181003 := n2_; have BK166 := n3_; have BK167 := n4_; have BK180 := n5_; have HB := n6_; have HO188 := n7_; clear n0_ n1_ n2_ n3_ n4_ n5_ n6_ n7_ ho hb hg hat
         obtain ⟨Ao34, co34, eo34⟩ := Kd.R_slice HO188.out
         (first | subst eo34 | (injection eo34 with f1_ f2_ f3_; have f4_ := f1_.symm; have f5_ := f3_.symm; clear f1_ f2_ f3_; subst f4_; subst f5_))
         refine hK.out _ _ ⟨bc_ BK180 0, bc_ BK180 1, bc_ BK180 2, bc_ BK180 3, bc_ BK166 0, bc_ BK166 1, bc_ BK166 2, bc_ BK166 3, (cc_ HB hw181_0), (cc_ HB hw181_1), (cc_ HB hw185_0), (cc_ HB hw185_1)⟩ (fun hHeld => ?_)
         clear hK K; refine nm_ 38 ?_; refine pu_ (i := 16) (N := some 39) HT_ ?_
         refine on_ (i := 17) (N := some 40) HT_ (fun K hK => ?_)
         refine value_ (w1 := ?_) (v := ?_) (by rfl) rfl ?_ ?_
         rotate_left 2
         ·go_simp
          constructor
          ·rfl
          ·rfl
         refine hK.out _ _ ⟨(blk_cell (blk_alloc BK180.out _) 0).trans rfl, (blk_cell (blk_alloc BK180.out _) 1).trans rfl, (blk_cell (blk_alloc BK180.out _) 2).trans rfl, (blk_cell (blk_alloc BK180.out _) 3).trans rfl, (blk_cell (blk_alloc BK166.out _) 0).trans rfl, (blk_cell (blk_alloc BK166.out _) 1).trans rfl, (blk_cell (blk_alloc BK166.out _) 2).trans rfl, (blk_cell (blk_alloc BK166.out _) 3).trans rfl, (World.cell?_alloc_lt _ _ _ (World.block_lt_of_cell? _ _ ((cc_ HB hw181_0)))).trans ((cc_ HB hw181_0)), (World.cell?_alloc_lt _ _ _ (World.block_lt_of_cell? _ _ ((cc_ HB hw181_1)))).trans ((cc_ HB hw181_1)), (World.cell?_alloc_lt _ _ _ (World.block_lt_of_cell? _ _ ((cc_ HB hw185_0)))).trans ((cc_ HB hw185_0)), (World.cell?_alloc_lt _ _ _ (World.block_lt_of_cell? _ _ ((cc_ HB hw185_1)))).trans ((cc_ HB hw185_1))⟩ (fun hHeld => ?_)
         clear hK K; refine nm_ 40 ?_
         refine on_ (i := 18) (N := some 41) HT_ (fun K hK => ?_)
         refine Kd.S_append_step k81 (w0 := w) w.heap.size (by rfl) (.tmp 24) (.tmp 40) 36 81 (.agg #[(.int .i64 0), (.slice none 0 0)]) 32 rfl Try.underlying36 info81 rfl (by decide) (by omega) u181002 x181002_1 (⟨(rd_T81 l0_2 x4_1).f0, y186⟩ : S81) [.int .i64 ((rd_T81 l0_2 x4_1).f0), .slice Ao34 y186.length co34] (fun _ => True) (fun k_ => some k_ = (.slice Ao34 y186.length co34 : Value).ownBlock) rfl rfl ?aP (fun k_ hk_ => ((Kd.R_mono (ok' := fun k_ => ((fun _ => True)) k_ ∧ some k_ ≠ (u181002 : Value).ownBlock) (Kd.R_apart' (HO188.out) (Kd.S_typed HO_181002.out) (by decide)) (fun k_ hk => ⟨trivial, hk.2⟩))).1 k_ hk_.symm) ?aF ?aO ?aB ?aS ?aL ?_
         (case aP => exact k81_mkM _ _ _ (⟨(rd_T81 l0_2 x4_1).f0, y186⟩ : S81) (Kd.R_mono (Kd.R_tight rfl (Kd.R_mono (ok' := fun k_ => ((fun _ => True)) k_ ∧ some k_ ≠ (u181002 : Value).ownBlock) (Kd.R_apart' (HO188.out) (Kd.S_typed HO_181002.out) (by decide)) (fun k_ hk => ⟨trivial, hk.2⟩))) (fun _ h_ => h_)))
         (case aB => exact (hbA_ HB.out))
         (case aF => exact (fun _ _ => trivial))
         (case aO => exact (by refine kS_ ?_; exact Kd.S_mono HO_181002.out (fun k_ hk => ⟨trivial, fun e_ => hk.2 e_⟩)))
         (case aS => exact (below_size (hbA_ HB.out)))
         (case aL => have := LMc26.out; omega)
         intro v190 w35 ho hb hg hat
         rw [← Ny189.out] at ho
         have n0_ := Aside0.mk (Kd.R_over' (kR_ HO_181001.out) (Kd.S_typed (kS_ HO_181002.out)) (by decide) hg); have n1_ := Aside0.mk (Kd.R_over' (kR_ HO_181003.out) (Kd.S_typed (kS_ HO_181002.out)) (by decide) hg); have n2_ := (bgA_ BK166 hg (Kd.S_ne HO_181002.out BK166.out (by decide))); have n3_ := (bgA_ BK167 hg (Kd.S_ne HO_181002.out BK167.out (by decide))); have n4_ := (bgA_ BK180 hg (Kd.S_ne HO_181002.out BK180.out (by decide))); have n5_ := Aside0.mk (hb); have n6_ := Aside0.mk (ho); clear HO_181001 HO_181003 BK166 BK167 BK180 HB HO_181002 HO188; have HO_181001 := n0_; have HO_181003 := n1_; have BK166 := n2_; have BK167 := n3_; have BK180 := n4_; have HB := n5_; have HO191 := n6_; clear n0_ n1_ n2_ n3_ n4_ n5_ n6_ ho hb hg hat
         obtain ⟨Ao36, co36, eo36⟩ := Kd.S_slice HO191.out
         (first | subst eo36 | (injection eo36 with f1_ f2_ f3_; have f4_ := f1_.symm; have f5_ := f3_.symm; clear f1_ f2_ f3_; subst f4_; subst f5_))
         refine hK.out _ _ ⟨bc_ BK180 0, bc_ BK180 1, bc_ BK180 2, bc_ BK180 3, bc_ BK166 0, bc_ BK166 1, bc_ BK166 2, bc_ BK166 3, (cc_ HB hw181_0), (cc_ HB hw181_1), (cc_ HB hw185_0), (cc_ HB hw185_1)⟩ (fun hHeld => ?_)
         clear hK K; refine nm_ 41 ?_; refine pu_ (i := 19) (N := some 42) HT_ ?_
         refine last_ (i := 20) (N := none) #[true, true, true, true, true, true, true, true, true, true, true, true, true, true, true, true, true, true, true, true, true] rfl rfl (one_of HT_.out (by kernel_rfl)) (by decide) (fun K hK => ?_)
         have hs37 : w35.cell? ⟨gb180, 2, none⟩ = some (u181002) := bc_ BK180 2
         have hfs37 := blk_frozen BK180.out 2
         have hns37_0 := NB166_180.out; have hns37_1 := NB167_180.out; have hms37_0 := NB180_166.out; have hms37_1 := NB180_167.out
         refine skip_ (w1 := ?_) (by rfl) rfl ?_ ?_
         rotate_left
         ·go_simp
          rfl
         refine hK.out _ _ ?_
         clear hK K
         refine done_ (done_of HT_.out (by kernel_rfl)) ?_
         try go_wp2
         go_roundg k1
         case measure => have := HK1.out; omega
         case rel => exact ⟨(wrap64 (x4_1 + 1)), (y189), (.slice Ao36 y189.length co36), (by first | rfl | (simp; done) | (simp [*]; done)), H', ⟨by have := HK1.out; omega⟩, ⟨by refine kR_ ?_; exact Kd.R_mono (Kd.R_f gb180 2 (.slice Ao36 y189.length co36) (Kd.R_types HO_181001.out BK180.out (by decide))) (fun _ hk => hk.1)⟩, ⟨by refine kS_ ?_; exact Kd.S_mono (Kd.S_far (p := ⟨gb180, 2, none⟩) (Kd.S_types HO191.out BK180.out (by decide)) (fun _ hk => hk.2) (.slice Ao36 y189.length co36)) (fun _ hk => trivial)⟩, ⟨by refine kR_ ?_; exact Kd.R_mono (Kd.R_f gb180 2 (.slice Ao36 y189.length co36) (Kd.R_types HO_181003.out BK180.out (by decide))) (fun _ hk => hk.1)⟩, ⟨by exact kf_ BK166.out⟩, ⟨by exact kf_ BK167.out⟩, ⟨by refine kb_ ?_; refine blk_put (cs := #[.int .i64 a0_0, .slice Ao18 y171.length co18, u181002, .slice Ao17 y177.length co17]) ?_ 2 _ rfl; refine kb_ ?_; exact BK180.out⟩, ⟨hbA_ HB.out⟩⟩
        ·rw [if_neg c26] at H
         exact absurd H (by simp)
       ·rw [if_neg c25] at H
        exact absurd H (by simp)
      ·rw [if_neg c24] at H
       exact absurd H (by simp)
     ·rw [if_neg c23] at H
      have c23b0 : decide (x4_1 < (l0_2.length : Int)) = false := decide_eq_false c23
      clear c23
      simp only [Option.some.injEq, Prod.mk.injEq] at H
      obtain ⟨rfl, rfl, rfl, rfl⟩ := H
      have hnb38 := NB166_167.out; have hnc38 := NB167_166.out; have hnb39 := NB166_180.out; have hnc39 := NB180_166.out; have Z40 := zz4 BK166; have hnb41 := NB180_167.out; have hnc41 := NB167_180.out; have Z42 := zz4 BK180; have Z43 := zz4 BK167
      obtain ⟨Ao44, co44, eo44⟩ := Kd.S_slice HO_181002.out
      subst eo44
      go_wp2
      refine bodyPost_ret (results_cell_row rfl _ _ gb167 38 #[.int .i64 a0_0, .slice Ao18 y171.length co18, .slice Ao44 x181002_1.length co44, .slice Ao17 y177.length co17] (0, 0) _ rfl (by refine kb_ ?_; refine pz4 (cs := #[.int .i64 0, .slice none 0 0, .slice none 0 0, .slice none 0 0]) ?_; refine kb_ ?_; exact BK167.out) Try.underlying38 rfl (by kernel_rfl)) rfl ?_
      exact ⟨_, _, _, by first | rfl | (simp [errW_none, errW_some] <;> rfl) | (simp [*, errW_none, errW_some] <;> rfl), by refine kR_ ?_; exact rfm_ ((Kd.R_types HO_181001.out BK167.out (by decide))) (fun _ hk => hk.1), by refine kS_ ?_; exact Kd.S_mono (Kd.S_far (p := ⟨gb167, 3, none⟩) (Kd.S_far (p := ⟨gb167, 2, none⟩) (Kd.S_far (p := ⟨gb167, 1, none⟩) (Kd.S_far (p := ⟨gb167, 0, none⟩) (Kd.S_types HO_181002.out BK167.out (by decide)) (fun _ hk => hk.2) (.int .i64 a0_0)) (fun _ hk => hk.2) (.slice Ao18 y171.length co18)) (fun _ hk => hk.2) (.slice Ao44 x181002_1.length co44)) (fun _ hk => hk.2) (.slice Ao17 y177.length co17)) (fun _ hk => trivial), by refine kR_ ?_; exact rfm_ ((Kd.R_types HO_181003.out BK167.out (by decide))) (fun _ hk => hk.1), hbA_ HB.out⟩
  ·rw [if_neg c3] at H
   exact absurd H (by simp)
 ·rw [if_neg c2] at H
  exact absurd H (by simp)
end Go.Proofs.Ytpbeljcgcdilnaa.PFnClientOk
