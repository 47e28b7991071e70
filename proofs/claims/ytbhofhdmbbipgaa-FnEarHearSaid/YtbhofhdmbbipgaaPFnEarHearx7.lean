/- Printed by wip/xp/xprint.sh out of the translation, for this claim: what each function answers, as a plain function, and that the machine does just that. No condition. -/
import Derived.Test.YtbhofhdmbbipgaaPFnEarHearx0
import Derived.Test.YtbhofhdmbbipgaaPFnEarHearx2
import Derived.Test.YtbhofhdmbbipgaaPFnEarHearx6
namespace Go.Proofs.Ytbhofhdmbbipgaa.PFnEarHear
open Go.RowKit Go.Proofs.YtbhofhdmbbipgaaW.PrintWords Go.Proofs.YtbhofhdmbbipgaaW.PrintLast Go.Proofs.YtbhofhdmbbipgaaW.PrintMore
attribute [local go_sem] max2_int min2_int max_two min_two max_three min_three max_four min_four   -- for this text's walks alone
set_option linter.unusedVariables false
set_option linter.unusedSimpArgs false
def spec_EarRead.f (k : Nat) (a0_0 : Int) (a0_1 : Int) (l0_2 : List Int) (l0_3 : List (S96)) (a1 : Int) : Option (Int × Int × List Int × (List (S96)) × List Int) := (spec_EarOk.f k a0_0 a0_1 l0_2 l0_3).bind fun t261 => (if t261 = true then (if a1 < 0 then (some (0, 0, ([] : List Int), ([] : List (S96)), (([] : List Int)))) else ((some (([] : List Int) : List Int)).bind fun y265 => (if 0 ≤ (mn a1 (l0_2.length : Int)) then (if (mn a1 (l0_2.length : Int)) ≤ (l0_2.length : Int) then (if y265.length + (l0_2.drop ((mn a1 (l0_2.length : Int)) : Int).toNat).length < 140737488355328 then ((some (([] : List (S96)) : List (S96))).bind fun y272 => (if y272.length + l0_3.length < 8796093022208 then ((some (([] : List Int) : List Int)).bind fun y279 => (if y279.length + (l0_2.take ((mn a1 (l0_2.length : Int)) : Int).toNat).length < 140737488355328 then (some (a0_0, a0_1, (y265 ++ (l0_2.drop ((mn a1 (l0_2.length : Int)) : Int).toNat)), (y272 ++ l0_3), (y279 ++ (l0_2.take ((mn a1 (l0_2.length : Int)) : Int).toNat)))) else (none))) else (none))) else (none)) else (none)) else (none)))) else (some (0, 0, ([] : List Int), ([] : List (S96)), (([] : List Int)))))
theorem spec_EarRead.mono : ∀ a0 a1 a2 a3 a4 k, LeO (spec_EarRead.f k a0 a1 a2 a3 a4) (spec_EarRead.f (k + 1) a0 a1 a2 a3 a4) := by
 intro a0 a1 a2 a3 a4 k
 unfold spec_EarRead.f
 repeat' first | (with_reducible first | apply spec_EarOk.mono | exact LeO.refl _ | exact LeO.none _ | refine LeO.ite ?_ ?_ | refine LeO.bind ?_ fun _ => ?_) | apply spec_EarOk.mono | exact LeO.none _ | refine LeO.ite ?_ ?_ | refine LeO.bind ?_ fun _ => ?_
def spec_EarRead.T4 : Bool × List (List Nat × List Nat) := (true, [([], []), ([0], [0]), ([], []), ([2], [2]), ([], []), ([], []), ([5], [5]), ([], []), ([6, 7], [6, 7]), ([4, 8], [4, 8]), ([], []), ([], []), ([11], [11]), ([10, 12, 9], [10, 12]), ([1, 3, 9, 13], [1, 3, 9, 13]), ([], []), ([15, 14, 13, 0, 1, 2, 3, 4, 5, 6, 7, 8, 9, 10, 11, 12, 13, 14, 15], [14, 15])])
def spec_EarRead.B4 : List Nat := [0, 1, 0, 4, 0, 0, 32, 0, 224, 496, 0, 0, 2048, 8176, 16383, 0, 65535]
theorem spec_EarRead.tab4 : rtab .any (opsOf Try.f40 4) = spec_EarRead.T4 := by kernel_rfl
theorem spec_EarRead.bits4 : waitsOk spec_EarRead.T4.2 spec_EarRead.B4 = true := by kernel_rfl
def spec_EarRead.T5 : Bool × List (List Nat × List Nat) := (true, [([], []), ([], []), ([], []), ([2], [2]), ([], []), ([3, 4], [3, 4]), ([1, 5], [1, 5]), ([0, 6, 0], [0]), ([6, 7, 0, 1, 2, 3, 4, 5, 6, 7], [6])])
def spec_EarRead.B5 : List Nat := [0, 0, 0, 4, 0, 28, 62, 127, 255]
theorem spec_EarRead.tab5 : rtab .any (opsOf Try.f40 5) = spec_EarRead.T5 := by kernel_rfl
theorem spec_EarRead.bits5 : waitsOk spec_EarRead.T5.2 spec_EarRead.B5 = true := by kernel_rfl
set_option maxHeartbeats 8000000 in
set_option maxRecDepth 100000 in
theorem spec_EarRead.calls (k : Nat) (a0_0 : Int) (a0_1 : Int) (A0_2 : Option Addr) (c0_2 : Nat) (l0_2 : List Int) (A0_3 : Option Addr) (c0_3 : Nat) (l0_3 : List (S96)) (a1 : Int) (r1 : Int) (r2 : Int) (r3 : List Int) (r4 : List (S96)) (r5 : List Int) (w : World) (hr0_2 : Kd.C (Kd.int .u8) w A0_2 l0_2.length l0_2) (hc0_2 : l0_2.length ≤ c0_2) (hr0_3 : Kd.C k96 w A0_3 l0_3.length l0_3) (hc0_3 : l0_3.length ≤ c0_3) (h : spec_EarRead.f k a0_0 a0_1 l0_2 l0_3 a1 = some (r1, r2, r3, r4, r5)) :
  Calls Try.prog 40 #[.agg #[.int .i64 a0_0, .int .i64 a0_1, .slice A0_2 l0_2.length c0_2, .slice A0_3 l0_3.length c0_3], .int .i64 a1] w fun e w' => ∃ v2_ v3_ v4_ : Value, e = .returned (.tuple #[.agg #[.int .i64 r1, .int .i64 r2, v2_, v3_], v4_]) ∧ Kd.R (Kd.int .u8) 5 w' w.heap.size (fun k_ => some k_ ≠ (v4_ : Value).ownBlock) v2_ r3 ∧ Kd.R k96 96 w' w.heap.size (fun _ => True) v3_ r4 ∧ Kd.R (Kd.int .u8) 5 w' w.heap.size (fun k_ => some k_ ≠ (v2_ : Value).ownBlock) v4_ r5 ∧ Below w.heap.size w w' := by
 have hu48 := Try.underlying48; have HR0_2 := Aside0.mk hr0_2; have HC0_2 := Aside0.mk hc0_2; clear hr0_2 hc0_2; have HR0_3 := Aside0.mk hr0_3; have HC0_3 := Aside0.mk hc0_3; clear hr0_3 hc0_3
 have HB := Aside0.mk (Below.refl w.heap.size w)
 have H : ((spec_EarOk.f k a0_0 a0_1 l0_2 l0_3).bind fun t261 => (if t261 = true then (if a1 < 0 then (some (0, 0, ([] : List Int), ([] : List (S96)), (([] : List Int)))) else ((some (([] : List Int) : List Int)).bind fun y265 => (if 0 ≤ (mn a1 (l0_2.length : Int)) then (if (mn a1 (l0_2.length : Int)) ≤ (l0_2.length : Int) then (if y265.length + (l0_2.drop ((mn a1 (l0_2.length : Int)) : Int).toNat).length < 140737488355328 then ((some (([] : List (S96)) : List (S96))).bind fun y272 => (if y272.length + l0_3.length < 8796093022208 then ((some (([] : List Int) : List Int)).bind fun y279 => (if y279.length + (l0_2.take ((mn a1 (l0_2.length : Int)) : Int).toNat).length < 140737488355328 then (some (a0_0, a0_1, (y265 ++ (l0_2.drop ((mn a1 (l0_2.length : Int)) : Int).toNat)), (y272 ++ l0_3), (y279 ++ (l0_2.take ((mn a1 (l0_2.length : Int)) : Int).toNat)))) else (none))) else (none))) else (none)) else (none)) else (none)))) else (some (0, 0, ([] : List Int), ([] : List (S96)), (([] : List Int)))))) = some (r1, r2, r3, r4, r5) := h
 clear h
 replace H := Option.bind_eq_some_iff.mp H
 obtain ⟨t261, A30, H⟩ := H
 (try dsimp only at H)
 have A3 := Aside0.mk A30; clear A30
 by_cases c4 : t261 = true
 ·subst c4
  rw [if_pos rfl] at H
  by_cases c5 : a1 < 0
  ·rw [if_pos c5] at H
   have c5b0 : decide (a1 < 0) = true := decide_eq_true c5
   clear c5
   obtain ⟨y262, hy262⟩ : ∃ y_ : List Int, y_ = (([] : List Int)) := ⟨_, rfl⟩
   (first | replace H := sb_ hy262 H | rw [← hy262] at H)
   have Ny262 := Aside0.mk hy262; clear hy262
   simp only [Option.some.injEq, Prod.mk.injEq] at H
   obtain ⟨rfl, rfl, rfl, rfl, rfl⟩ := H
   go_enter Try.func40, Try.ntmps40
   go_wp2_with (first | ((with_reducible refine gate_dst (N := 2) rfl ?_); refine box_ (N := 2) (cs := #[.int .i64 a0_0, .int .i64 a0_1, .slice A0_2 l0_2.length c0_2, .slice A0_3 l0_3.length c0_3]) (t := 48) (fun gb259 hg w6 hbox hb => ?_); have BK259 := Aside0.mk (hbox); have GW259 := ge_ hg HB; have GE259 := ge_ hg HB; replace HB := (bs_ HB hb); clear hb hbox hg) | ((with_reducible refine gate_dst (N := 4) rfl ?_); refine box_ (N := 4) (cs := #[.int .i64 0, .int .i64 0, .slice none 0 0, .slice none 0 0]) (t := 48) (fun gb260 hg w7 hbox hb => ?_); have BK260 := Aside0.mk (hbox); have GW260 := ge_ hg HB; have GE260 := ge_ hg HB; replace HB := (bs_ HB hb); have NB259_260 := nl_ hg BK259; have NB260_259 := ng_ hg BK259; replace BK259 := (bbA_ BK259 hb); clear hb hbox hg; have hnb8 := NB259_260.out; have hnc8 := NB260_259.out; have Z9 := zz4 BK259) | ((with_reducible refine gate_callee (f := 66) rfl ?_); refine goesL_ (some 9) rfl rfl Try.func66 (by kernel_rfl) rfl #[.agg #[.int .i64 a0_0, .int .i64 a0_1, .slice A0_2 l0_2.length c0_2, .slice A0_3 l0_3.length c0_3]] rfl ar_ ?_; (with_reducible refine (spec_EarOk.calls k a0_0 a0_1 _ _ l0_2 _ _ l0_3 true _ ?side1 ?side2 ?side3 ?side4 A3.out).mono ?_); (case side1 => exact kC_ (Kd.C_below HR0_2.out HB.out)); (case side2 => exact HC0_2.out); (case side3 => exact kC_ (Kd.C_below HR0_3.out HB.out)); (case side4 => exact HC0_3.out); rintro e w10 ⟨rfl, hb⟩; refine ⟨_, rfl, ?_⟩; replace BK259 := (bbA_ BK259 hb); replace BK260 := (bbA_ BK260 hb); replace HB := (bs_ HB hb); (try clear hb); (try clear hb2); (try clear hk); (try clear hi)) | ((with_reducible refine gate_dst (N := 16) rfl ?_); refine Kd.R_lit (Kd.int .u8) _ 5 ?hg (N := 16) ?hd (xs := ([] : List Int)) (inner := []) (ok := fun _ => True) (okp := fun _ => True) ?hr ?hp (fun _ hk => hk) trivial (Below.refl _ _) (Nat.le_refl _) (by simp) ?_; (case hd => rfl); (case hg => rfl); (case hr => first | (go_simp; done) | (go_simp; rfl)); (case hp => exact (Reps.none _ _)); intro v263 w11 ho12 hb hg_ hnew_; clear hg_ hnew_; (first | rw [← Ny262.out] at ho12 | (simp only [Int.reduceToNat] at ho12; rw [← Ny262.out] at ho12)); have HO264 := Aside0.mk (Kd.R_lower ho12 (below_size (hbA_ HB.out))); replace BK259 := (bbA_ BK259 hb); replace BK260 := (bbA_ BK260 hb); replace HB := (bs_ HB hb); clear hb ho12; have Z13 := zz4 BK260))
   refine bodyPost_ret (results_ct rfl _ _ gb260 48 #[.int .i64 0, .int .i64 0, .slice none 0 0, .slice none 0 0] (0, 0) _ rfl (by refine kb_ ?_; refine pz4 (cs := #[.int .i64 0, .int .i64 0, .slice none 0 0, .slice none 0 0]) ?_; refine kb_ ?_; exact BK260.out) Try.underlying48 rfl (by kernel_rfl)) rfl ?_
   exact ⟨_, _, _, by first | rfl | (simp [errW_none, errW_some] <;> rfl) | (simp [*, errW_none, errW_some] <;> rfl), by (try rw [Ny262.out]); first | exact Kd.R_nil _ _ _ _ _ | exact Kd.N_nil _ _ _ _ _ | exact Kd.V_nil _ _ _ _ _ | exact Kd.Q_nil _ _ _ _ _ | exact Kd.S_nil _ _ _ _ _, by (try rw [Ny262.out]); first | exact Kd.R_nil _ _ _ _ _ | exact Kd.N_nil _ _ _ _ _ | exact Kd.V_nil _ _ _ _ _ | exact Kd.Q_nil _ _ _ _ _ | exact Kd.S_nil _ _ _ _ _, by refine kR_ ?_; exact rfm_ ((Kd.R_types HO264.out BK260.out (by decide))) (fun _ hk => (by simp [Value.ownBlock])), hbA_ HB.out⟩
  ·rw [if_neg c5] at H
   have c5b0 : decide (a1 < 0) = false := decide_eq_false c5
   clear c5
   obtain ⟨ji14, hji14⟩ : ∃ j_ : Int, (mn a1 (l0_2.length : Int)) = j_ := ⟨_, rfl⟩
   (first | rw [hji14] at H | simp only [hji14] at H)
   (try rw [hji14] at A3)
   have hji14_ : (if (l0_2.length : Int) < a1 then (l0_2.length : Int) else a1) = ji14 := hji14
   obtain ⟨y265, hy265⟩ : ∃ y_ : List Int, y_ = (([] : List Int)) := ⟨_, rfl⟩
   (first | replace H := sb_ hy265 H | rw [← hy265] at H)
   have Ny265 := Aside0.mk hy265; clear hy265
   by_cases c15 : 0 ≤ (ji14)
   ·rw [if_pos c15] at H
    have c15b0 := eq_true c15
    have c15b1 : decide (0 ≤ (ji14)) = true := decide_eq_true c15
    clear c15
    by_cases c16 : (ji14) ≤ (l0_2.length : Int)
    ·rw [if_pos c16] at H
     have c16b0 := eq_true c16
     have c16b1 : decide ((ji14) ≤ (l0_2.length : Int)) = true := decide_eq_true c16
     clear c16
     by_cases c17 : y265.length + (l0_2.drop ((ji14) : Int).toNat).length < 140737488355328
     ·rw [if_pos c17] at H
      have LMc17 := Aside0.mk c17; clear c17
      obtain ⟨y269, hy269⟩ : ∃ y_ : List Int, y_ = (y265 ++ (l0_2.drop ((ji14) : Int).toNat)) := ⟨_, rfl⟩
      (first | replace H := sb_ hy269 H | rw [← hy269] at H)
      have Ny269 := Aside0.mk hy269; clear hy269
      obtain ⟨y272, hy272⟩ : ∃ y_ : List (S96), y_ = (([] : List (S96))) := ⟨_, rfl⟩
      (first | replace H := sb_ hy272 H | rw [← hy272] at H)
      have Ny272 := Aside0.mk hy272; clear hy272
      by_cases c18 : y272.length + l0_3.length < 8796093022208
      ·rw [if_pos c18] at H
       have LMc18 := Aside0.mk c18; clear c18
       obtain ⟨y275, hy275⟩ : ∃ y_ : List (S96), y_ = (y272 ++ l0_3) := ⟨_, rfl⟩
       (first | replace H := sb_ hy275 H | rw [← hy275] at H)
       have Ny275 := Aside0.mk hy275; clear hy275
       obtain ⟨y279, hy279⟩ : ∃ y_ : List Int, y_ = (([] : List Int)) := ⟨_, rfl⟩
       (first | replace H := sb_ hy279 H | rw [← hy279] at H)
       have Ny279 := Aside0.mk hy279; clear hy279
       have c19b0 := eq_true (of_decide_eq_true (by first | (with_reducible assumption) | assumption) : 0 ≤ (ji14))
       have c20b0 := eq_true (of_decide_eq_true (by first | (with_reducible assumption) | assumption) : (ji14) ≤ (l0_2.length : Int))
       by_cases c21 : y279.length + (l0_2.take ((ji14) : Int).toNat).length < 140737488355328
       ·rw [if_pos c21] at H
        have LMc21 := Aside0.mk c21; clear c21
        obtain ⟨y283, hy283⟩ : ∃ y_ : List Int, y_ = (y279 ++ (l0_2.take ((ji14) : Int).toNat)) := ⟨_, rfl⟩
        (first | replace H := sb_ hy283 H | rw [← hy283] at H)
        have Ny283 := Aside0.mk hy283; clear hy283
        simp only [Option.some.injEq, Prod.mk.injEq] at H
        obtain ⟨rfl, rfl, rfl, rfl, rfl⟩ := H
        go_enter Try.func40, Try.ntmps40
        try go_wp2_with (first | ((with_reducible refine gate_dst (N := 2) rfl ?_); refine box_ (N := 2) (cs := #[.int .i64 a0_0, .int .i64 a0_1, .slice A0_2 l0_2.length c0_2, .slice A0_3 l0_3.length c0_3]) (t := 48) (fun gb259 hg w22 hbox hb => ?_); have BK259 := Aside0.mk (hbox); have GW259 := ge_ hg HB; have GE259 := ge_ hg HB; replace HB := (bs_ HB hb); clear hb hbox hg) | ((with_reducible refine gate_dst (N := 4) rfl ?_); refine box_ (N := 4) (cs := #[.int .i64 0, .int .i64 0, .slice none 0 0, .slice none 0 0]) (t := 48) (fun gb260 hg w23 hbox hb => ?_); have BK260 := Aside0.mk (hbox); have GW260 := ge_ hg HB; have GE260 := ge_ hg HB; replace HB := (bs_ HB hb); have NB259_260 := nl_ hg BK259; have NB260_259 := ng_ hg BK259; replace BK259 := (bbA_ BK259 hb); clear hb hbox hg; have hnb24 := NB259_260.out; have hnc24 := NB260_259.out; have Z25 := zz4 BK259) | ((with_reducible refine gate_callee (f := 66) rfl ?_); refine goesL_ (some 9) rfl rfl Try.func66 (by kernel_rfl) rfl #[.agg #[.int .i64 a0_0, .int .i64 a0_1, .slice A0_2 l0_2.length c0_2, .slice A0_3 l0_3.length c0_3]] rfl ar_ ?_; (with_reducible refine (spec_EarOk.calls k a0_0 a0_1 _ _ l0_2 _ _ l0_3 true _ ?side1 ?side2 ?side3 ?side4 A3.out).mono ?_); (case side1 => exact kC_ (Kd.C_below HR0_2.out HB.out)); (case side2 => exact HC0_2.out); (case side3 => exact kC_ (Kd.C_below HR0_3.out HB.out)); (case side4 => exact HC0_3.out); rintro e w26 ⟨rfl, hb⟩; refine ⟨_, rfl, ?_⟩; replace BK259 := (bbA_ BK259 hb); replace BK260 := (bbA_ BK260 hb); replace HB := (bs_ HB hb); (try clear hb); (try clear hb2); (try clear hk); (try clear hi); have Z27 := zz4 BK259))
        replace BK259 := Aside0.mk (blk_drew BK259.out); replace BK260 := Aside0.mk (blk_drew BK260.out); replace HB := (bd_ HB)
        obtain ⟨i029, hi029, _, hsz29, _⟩ := info_parts info5
        obtain ⟨A29, hcut29, hA29, hC29⟩ := print_drop_of (P := Try.prog) (Value.int .u8) 0 22 5 .i64 Try.underlying22 hi029 hsz29 A0_2 c0_2 l0_2 (ji14) (of_decide_eq_true (by first | (with_reducible assumption) | assumption)) (of_decide_eq_true (by first | (with_reducible assumption) | assumption)) HC0_2.out
        have HR268 := Aside0.mk (Kd.C_of_reads (h1 := fun _ => rfl) (hA29 _ (Kd.reads_of_C HR0_2.out)))
        have HC268 := Aside0.mk hC29; clear hA29 hC29 hi029 hsz29
        refine start_ (n := 17) (S := fun w' => w'.cell? ⟨gb259, 0, none⟩ = some (.int .i64 a0_0) ∧ w'.cell? ⟨gb259, 1, none⟩ = some (.int .i64 a0_1) ∧ w'.cell? ⟨gb259, 2, none⟩ = some (.slice A0_2 l0_2.length c0_2) ∧ w'.cell? ⟨gb259, 3, none⟩ = some (.slice A0_3 l0_3.length c0_3)) (ds := []) #[false, false, false, false, false, false, false, false, false, false, false, false, false, false, false, false, false] (by kernel_rfl) rfl rfl (cz4 BK259.out) (fun hHeld => ?_); refine with_tabW spec_EarRead.tab4 spec_EarRead.bits4 (fun HT_ HW_ => ?_)
        generalize w26.drew = w28 at BK259 BK260 HB HR268 hHeld ⊢
        refine pu_ (i := 0) (N := some 22) HT_ ?_; refine pu_ (i := 2) (N := some 24) HT_ ?_; refine pu_ (i := 5) (N := some 27) HT_ ?_; refine pu_ (i := 7) (N := some 29) HT_ ?_; refine pu_ (i := 11) (N := some 33) HT_ ?_; refine tk_ (i := 1) (N := some 23) HT_ HW_ hHeld ?_; refine tk_ (i := 3) (N := some 25) HT_ HW_ hHeld ?_; refine tk_ (i := 6) (N := some 28) HT_ HW_ hHeld ?_; refine pu_ (i := 8) (N := some 30) HT_ ?_; refine tk_ (i := 12) (N := some 34) HT_ HW_ hHeld ?_
        refine join_ (σ := Value × Value × Value × Value × Nat) 1 #[true, true, true, true, true, true, true, true, true, true, true, true, true, true, true, true, false] (fun s_ => [(26, s_.1), (31, s_.2.1), (32, s_.2.2.1), (35, s_.2.2.2.1), (7, .pointer (some ⟨s_.2.2.2.2, 0, none⟩)), (36, .agg #[.int .i64 a0_0, .int .i64 a0_1, s_.2.1, s_.2.2.2.1])]) (fun s_ w' => (w'.cell? ⟨gb259, 0, none⟩ = some (.int .i64 a0_0) ∧ w'.cell? ⟨gb259, 1, none⟩ = some (.int .i64 a0_1) ∧ w'.cell? ⟨gb259, 2, none⟩ = some (.slice A0_2 l0_2.length c0_2) ∧ w'.cell? ⟨gb259, 3, none⟩ = some (.slice A0_3 l0_3.length c0_3)) ∧ (Kd.R (Kd.int .u8) 5 w' w.heap.size (fun _ => True) s_.2.1 y269) ∧ (Kd.R k96 96 w' w.heap.size (fun _ => True) s_.2.2.2.1 y275) ∧ (w'.heap[gb259]? = some (.cells #[.int .i64 a0_0, .int .i64 a0_1, .slice A0_2 l0_2.length c0_2, .slice A0_3 l0_3.length c0_3] 48 (0, 0))) ∧ (w'.heap[gb260]? = some (.cells #[.int .i64 0, .int .i64 0, .slice none 0 0, .slice none 0 0] 48 (0, 0))) ∧ (w'.heap[s_.2.2.2.2]? = some (.cells #[.int .i64 0, .int .i64 0, .slice none 0 0, .slice none 0 0] 48 (0, 0))) ∧ (w.heap.size ≤ s_.2.2.2.2) ∧ (w.heap.size ≤ s_.2.2.2.2) ∧ (gb259 ≠ s_.2.2.2.2) ∧ (s_.2.2.2.2 ≠ gb259) ∧ (gb260 ≠ s_.2.2.2.2) ∧ (s_.2.2.2.2 ≠ gb260) ∧ (Below w.heap.size w w')) ?_ ?_
        rotate_left
        ·intro hJ4_9_10_13_15
         refine join_ (σ := Value × Value × Value × Value) 2 #[true, true, true, true, true, true, true, true, true, true, true, true, true, true, true, false, false] (fun s_ => [(26, s_.1), (31, s_.2.1), (32, s_.2.2.1), (35, s_.2.2.2), (36, .agg #[.int .i64 a0_0, .int .i64 a0_1, s_.2.1, s_.2.2.2])]) (fun s_ w' => (w'.cell? ⟨gb259, 0, none⟩ = some (.int .i64 a0_0) ∧ w'.cell? ⟨gb259, 1, none⟩ = some (.int .i64 a0_1) ∧ w'.cell? ⟨gb259, 2, none⟩ = some (.slice A0_2 l0_2.length c0_2) ∧ w'.cell? ⟨gb259, 3, none⟩ = some (.slice A0_3 l0_3.length c0_3)) ∧ (Kd.R (Kd.int .u8) 5 w' w.heap.size (fun _ => True) s_.2.1 y269) ∧ (Kd.R k96 96 w' w.heap.size (fun _ => True) s_.2.2.2 y275) ∧ (w'.heap[gb259]? = some (.cells #[.int .i64 a0_0, .int .i64 a0_1, .slice A0_2 l0_2.length c0_2, .slice A0_3 l0_3.length c0_3] 48 (0, 0))) ∧ (w'.heap[gb260]? = some (.cells #[.int .i64 0, .int .i64 0, .slice none 0 0, .slice none 0 0] 48 (0, 0))) ∧ (Below w.heap.size w w')) ?_ ?_
         rotate_left
         ·intro hJ4_9_10_13
          refine join_ (σ := Value × Value × Value × Nat) 3 #[true, true, true, true, true, true, true, true, true, true, true, true, true, false, false, true, false] (fun s_ => [(26, s_.1), (31, s_.2.1), (32, s_.2.2.1), (7, .pointer (some ⟨s_.2.2.2, 0, none⟩))]) (fun s_ w' => (w'.cell? ⟨gb259, 0, none⟩ = some (.int .i64 a0_0) ∧ w'.cell? ⟨gb259, 1, none⟩ = some (.int .i64 a0_1) ∧ w'.cell? ⟨gb259, 2, none⟩ = some (.slice A0_2 l0_2.length c0_2) ∧ w'.cell? ⟨gb259, 3, none⟩ = some (.slice A0_3 l0_3.length c0_3)) ∧ (Kd.R (Kd.int .u8) 5 w' w.heap.size (fun _ => True) s_.2.1 y269) ∧ (Kd.R k96 96 w' w.heap.size (fun _ => True) s_.2.2.1 y272) ∧ (w'.heap[gb259]? = some (.cells #[.int .i64 a0_0, .int .i64 a0_1, .slice A0_2 l0_2.length c0_2, .slice A0_3 l0_3.length c0_3] 48 (0, 0))) ∧ (w'.heap[gb260]? = some (.cells #[.int .i64 0, .int .i64 0, .slice none 0 0, .slice none 0 0] 48 (0, 0))) ∧ (w'.heap[s_.2.2.2]? = some (.cells #[.int .i64 0, .int .i64 0, .slice none 0 0, .slice none 0 0] 48 (0, 0))) ∧ (w.heap.size ≤ s_.2.2.2) ∧ (w.heap.size ≤ s_.2.2.2) ∧ (gb259 ≠ s_.2.2.2) ∧ (s_.2.2.2 ≠ gb259) ∧ (gb260 ≠ s_.2.2.2) ∧ (s_.2.2.2 ≠ gb260) ∧ (Below w.heap.size w w')) ?_ ?_
          rotate_left
          ·intro hJ4_9_10_15
           refine join_ (σ := Value × Value × Value) 4 #[true, true, true, true, true, true, true, true, true, true, true, true, true, false, false, false, false] (fun s_ => [(26, s_.1), (31, s_.2.1), (32, s_.2.2)]) (fun s_ w' => (w'.cell? ⟨gb259, 0, none⟩ = some (.int .i64 a0_0) ∧ w'.cell? ⟨gb259, 1, none⟩ = some (.int .i64 a0_1) ∧ w'.cell? ⟨gb259, 2, none⟩ = some (.slice A0_2 l0_2.length c0_2) ∧ w'.cell? ⟨gb259, 3, none⟩ = some (.slice A0_3 l0_3.length c0_3)) ∧ (Kd.R (Kd.int .u8) 5 w' w.heap.size (fun _ => True) s_.2.1 y269) ∧ (Kd.R k96 96 w' w.heap.size (fun _ => True) s_.2.2 y272) ∧ (w'.heap[gb259]? = some (.cells #[.int .i64 a0_0, .int .i64 a0_1, .slice A0_2 l0_2.length c0_2, .slice A0_3 l0_3.length c0_3] 48 (0, 0))) ∧ (w'.heap[gb260]? = some (.cells #[.int .i64 0, .int .i64 0, .slice none 0 0, .slice none 0 0] 48 (0, 0))) ∧ (Below w.heap.size w w')) ?_ ?_
           rotate_left
           ·intro hJ4_9_10
            refine join_ (σ := Value × Value × Nat) 4 #[true, true, true, true, true, true, true, true, true, true, false, true, true, false, false, true, false] (fun s_ => [(26, s_.1), (31, s_.2.1), (7, .pointer (some ⟨s_.2.2, 0, none⟩))]) (fun s_ w' => (w'.cell? ⟨gb259, 0, none⟩ = some (.int .i64 a0_0) ∧ w'.cell? ⟨gb259, 1, none⟩ = some (.int .i64 a0_1) ∧ w'.cell? ⟨gb259, 2, none⟩ = some (.slice A0_2 l0_2.length c0_2) ∧ w'.cell? ⟨gb259, 3, none⟩ = some (.slice A0_3 l0_3.length c0_3)) ∧ (Kd.R (Kd.int .u8) 5 w' w.heap.size (fun _ => True) s_.2.1 y269) ∧ (w'.heap[gb259]? = some (.cells #[.int .i64 a0_0, .int .i64 a0_1, .slice A0_2 l0_2.length c0_2, .slice A0_3 l0_3.length c0_3] 48 (0, 0))) ∧ (w'.heap[gb260]? = some (.cells #[.int .i64 0, .int .i64 0, .slice none 0 0, .slice none 0 0] 48 (0, 0))) ∧ (w'.heap[s_.2.2]? = some (.cells #[.int .i64 0, .int .i64 0, .slice none 0 0, .slice none 0 0] 48 (0, 0))) ∧ (w.heap.size ≤ s_.2.2) ∧ (w.heap.size ≤ s_.2.2) ∧ (gb259 ≠ s_.2.2) ∧ (s_.2.2 ≠ gb259) ∧ (gb260 ≠ s_.2.2) ∧ (s_.2.2 ≠ gb260) ∧ (Below w.heap.size w w')) ?_ ?_
            rotate_left
            ·intro hJ4_9_15
             refine join_ (σ := Value × Value × Nat) 4 #[true, true, true, true, true, true, true, true, true, false, true, true, true, false, false, true, false] (fun s_ => [(26, s_.1), (32, s_.2.1), (7, .pointer (some ⟨s_.2.2, 0, none⟩))]) (fun s_ w' => (w'.cell? ⟨gb259, 0, none⟩ = some (.int .i64 a0_0) ∧ w'.cell? ⟨gb259, 1, none⟩ = some (.int .i64 a0_1) ∧ w'.cell? ⟨gb259, 2, none⟩ = some (.slice A0_2 l0_2.length c0_2) ∧ w'.cell? ⟨gb259, 3, none⟩ = some (.slice A0_3 l0_3.length c0_3)) ∧ (Kd.R (Kd.int .u8) 5 w' w.heap.size (fun _ => True) s_.1 y265) ∧ (Kd.R k96 96 w' w.heap.size (fun _ => True) s_.2.1 y272) ∧ (w'.heap[gb259]? = some (.cells #[.int .i64 a0_0, .int .i64 a0_1, .slice A0_2 l0_2.length c0_2, .slice A0_3 l0_3.length c0_3] 48 (0, 0))) ∧ (w'.heap[gb260]? = some (.cells #[.int .i64 0, .int .i64 0, .slice none 0 0, .slice none 0 0] 48 (0, 0))) ∧ (w'.heap[s_.2.2]? = some (.cells #[.int .i64 0, .int .i64 0, .slice none 0 0, .slice none 0 0] 48 (0, 0))) ∧ (w.heap.size ≤ s_.2.2) ∧ (w.heap.size ≤ s_.2.2) ∧ (gb259 ≠ s_.2.2) ∧ (s_.2.2 ≠ gb259) ∧ (gb260 ≠ s_.2.2) ∧ (s_.2.2 ≠ gb260) ∧ (Below w.heap.size w w')) ?_ ?_
             rotate_left
             ·intro hJ4_10_15
              refine join_ (σ := Value × Value) 5 #[true, true, true, true, true, true, true, true, true, true, false, true, true, false, false, false, false] (fun s_ => [(26, s_.1), (31, s_.2)]) (fun s_ w' => (w'.cell? ⟨gb259, 0, none⟩ = some (.int .i64 a0_0) ∧ w'.cell? ⟨gb259, 1, none⟩ = some (.int .i64 a0_1) ∧ w'.cell? ⟨gb259, 2, none⟩ = some (.slice A0_2 l0_2.length c0_2) ∧ w'.cell? ⟨gb259, 3, none⟩ = some (.slice A0_3 l0_3.length c0_3)) ∧ (Kd.R (Kd.int .u8) 5 w' w.heap.size (fun _ => True) s_.2 y269) ∧ (w'.heap[gb259]? = some (.cells #[.int .i64 a0_0, .int .i64 a0_1, .slice A0_2 l0_2.length c0_2, .slice A0_3 l0_3.length c0_3] 48 (0, 0))) ∧ (w'.heap[gb260]? = some (.cells #[.int .i64 0, .int .i64 0, .slice none 0 0, .slice none 0 0] 48 (0, 0))) ∧ (Below w.heap.size w w')) ?_ ?_
              rotate_left
              ·intro hJ4_9
               refine join_ (σ := Value × Value) 5 #[true, true, true, true, true, true, true, true, true, false, true, true, true, false, false, false, false] (fun s_ => [(26, s_.1), (32, s_.2)]) (fun s_ w' => (w'.cell? ⟨gb259, 0, none⟩ = some (.int .i64 a0_0) ∧ w'.cell? ⟨gb259, 1, none⟩ = some (.int .i64 a0_1) ∧ w'.cell? ⟨gb259, 2, none⟩ = some (.slice A0_2 l0_2.length c0_2) ∧ w'.cell? ⟨gb259, 3, none⟩ = some (.slice A0_3 l0_3.length c0_3)) ∧ (Kd.R (Kd.int .u8) 5 w' w.heap.size (fun _ => True) s_.1 y265) ∧ (Kd.R k96 96 w' w.heap.size (fun _ => True) s_.2 y272) ∧ (w'.heap[gb259]? = some (.cells #[.int .i64 a0_0, .int .i64 a0_1, .slice A0_2 l0_2.length c0_2, .slice A0_3 l0_3.length c0_3] 48 (0, 0))) ∧ (w'.heap[gb260]? = some (.cells #[.int .i64 0, .int .i64 0, .slice none 0 0, .slice none 0 0] 48 (0, 0))) ∧ (Below w.heap.size w w')) ?_ ?_
               rotate_left
               ·intro hJ4_10
                refine join_ (σ := Value × Nat) 5 #[true, true, true, true, true, true, true, true, true, false, false, true, true, false, false, true, false] (fun s_ => [(26, s_.1), (7, .pointer (some ⟨s_.2, 0, none⟩))]) (fun s_ w' => (w'.cell? ⟨gb259, 0, none⟩ = some (.int .i64 a0_0) ∧ w'.cell? ⟨gb259, 1, none⟩ = some (.int .i64 a0_1) ∧ w'.cell? ⟨gb259, 2, none⟩ = some (.slice A0_2 l0_2.length c0_2) ∧ w'.cell? ⟨gb259, 3, none⟩ = some (.slice A0_3 l0_3.length c0_3)) ∧ (Kd.R (Kd.int .u8) 5 w' w.heap.size (fun _ => True) s_.1 y265) ∧ (w'.heap[gb259]? = some (.cells #[.int .i64 a0_0, .int .i64 a0_1, .slice A0_2 l0_2.length c0_2, .slice A0_3 l0_3.length c0_3] 48 (0, 0))) ∧ (w'.heap[gb260]? = some (.cells #[.int .i64 0, .int .i64 0, .slice none 0 0, .slice none 0 0] 48 (0, 0))) ∧ (w'.heap[s_.2]? = some (.cells #[.int .i64 0, .int .i64 0, .slice none 0 0, .slice none 0 0] 48 (0, 0))) ∧ (w.heap.size ≤ s_.2) ∧ (w.heap.size ≤ s_.2) ∧ (gb259 ≠ s_.2) ∧ (s_.2 ≠ gb259) ∧ (gb260 ≠ s_.2) ∧ (s_.2 ≠ gb260) ∧ (Below w.heap.size w w')) ?_ ?_
                rotate_left
                ·intro hJ4_15
                 refine join_ (σ := Value × Nat) 5 #[true, true, true, true, false, true, true, true, true, false, true, true, true, false, false, true, false] (fun s_ => [(32, s_.1), (7, .pointer (some ⟨s_.2, 0, none⟩))]) (fun s_ w' => (w'.cell? ⟨gb259, 0, none⟩ = some (.int .i64 a0_0) ∧ w'.cell? ⟨gb259, 1, none⟩ = some (.int .i64 a0_1) ∧ w'.cell? ⟨gb259, 2, none⟩ = some (.slice A0_2 l0_2.length c0_2) ∧ w'.cell? ⟨gb259, 3, none⟩ = some (.slice A0_3 l0_3.length c0_3)) ∧ (Kd.R k96 96 w' w.heap.size (fun _ => True) s_.1 y272) ∧ (w'.heap[gb259]? = some (.cells #[.int .i64 a0_0, .int .i64 a0_1, .slice A0_2 l0_2.length c0_2, .slice A0_3 l0_3.length c0_3] 48 (0, 0))) ∧ (w'.heap[gb260]? = some (.cells #[.int .i64 0, .int .i64 0, .slice none 0 0, .slice none 0 0] 48 (0, 0))) ∧ (w'.heap[s_.2]? = some (.cells #[.int .i64 0, .int .i64 0, .slice none 0 0, .slice none 0 0] 48 (0, 0))) ∧ (w.heap.size ≤ s_.2) ∧ (w.heap.size ≤ s_.2) ∧ (gb259 ≠ s_.2) ∧ (s_.2 ≠ gb259) ∧ (gb260 ≠ s_.2) ∧ (s_.2 ≠ gb260) ∧ (Below w.heap.size w w')) ?_ ?_
                 rotate_left
                 ·intro hJ10_15
                  refine join_ (σ := Value) 6 #[true, true, true, true, true, true, true, true, true, false, false, true, true, false, false, false, false] (fun s_ => [(26, s_)]) (fun s_ w' => (w'.cell? ⟨gb259, 0, none⟩ = some (.int .i64 a0_0) ∧ w'.cell? ⟨gb259, 1, none⟩ = some (.int .i64 a0_1) ∧ w'.cell? ⟨gb259, 2, none⟩ = some (.slice A0_2 l0_2.length c0_2) ∧ w'.cell? ⟨gb259, 3, none⟩ = some (.slice A0_3 l0_3.length c0_3)) ∧ (Kd.R (Kd.int .u8) 5 w' w.heap.size (fun _ => True) s_ y265) ∧ (w'.heap[gb259]? = some (.cells #[.int .i64 a0_0, .int .i64 a0_1, .slice A0_2 l0_2.length c0_2, .slice A0_3 l0_3.length c0_3] 48 (0, 0))) ∧ (w'.heap[gb260]? = some (.cells #[.int .i64 0, .int .i64 0, .slice none 0 0, .slice none 0 0] 48 (0, 0))) ∧ (Below w.heap.size w w')) ?_ ?_
                  rotate_left
                  ·intro hJ4
                   refine join_ (σ := Value) 6 #[true, true, true, true, false, true, true, true, true, false, true, true, true, false, false, false, false] (fun s_ => [(32, s_)]) (fun s_ w' => (w'.cell? ⟨gb259, 0, none⟩ = some (.int .i64 a0_0) ∧ w'.cell? ⟨gb259, 1, none⟩ = some (.int .i64 a0_1) ∧ w'.cell? ⟨gb259, 2, none⟩ = some (.slice A0_2 l0_2.length c0_2) ∧ w'.cell? ⟨gb259, 3, none⟩ = some (.slice A0_3 l0_3.length c0_3)) ∧ (Kd.R k96 96 w' w.heap.size (fun _ => True) s_ y272) ∧ (w'.heap[gb259]? = some (.cells #[.int .i64 a0_0, .int .i64 a0_1, .slice A0_2 l0_2.length c0_2, .slice A0_3 l0_3.length c0_3] 48 (0, 0))) ∧ (w'.heap[gb260]? = some (.cells #[.int .i64 0, .int .i64 0, .slice none 0 0, .slice none 0 0] 48 (0, 0))) ∧ (Below w.heap.size w w')) ?_ ?_
                   rotate_left
                   ·intro hJ10
                    refine join_ (σ := Nat) 6 #[true, true, true, true, false, true, true, true, true, false, false, true, true, false, false, true, false] (fun s_ => [(7, .pointer (some ⟨s_, 0, none⟩))]) (fun s_ w' => (w'.cell? ⟨gb259, 0, none⟩ = some (.int .i64 a0_0) ∧ w'.cell? ⟨gb259, 1, none⟩ = some (.int .i64 a0_1) ∧ w'.cell? ⟨gb259, 2, none⟩ = some (.slice A0_2 l0_2.length c0_2) ∧ w'.cell? ⟨gb259, 3, none⟩ = some (.slice A0_3 l0_3.length c0_3)) ∧ (w'.heap[gb259]? = some (.cells #[.int .i64 a0_0, .int .i64 a0_1, .slice A0_2 l0_2.length c0_2, .slice A0_3 l0_3.length c0_3] 48 (0, 0))) ∧ (w'.heap[gb260]? = some (.cells #[.int .i64 0, .int .i64 0, .slice none 0 0, .slice none 0 0] 48 (0, 0))) ∧ (w'.heap[s_]? = some (.cells #[.int .i64 0, .int .i64 0, .slice none 0 0, .slice none 0 0] 48 (0, 0))) ∧ (w.heap.size ≤ s_) ∧ (w.heap.size ≤ s_) ∧ (gb259 ≠ s_) ∧ (s_ ≠ gb259) ∧ (gb260 ≠ s_) ∧ (s_ ≠ gb260) ∧ (Below w.heap.size w w')) ?_ ?_
                    rotate_left
                    ·intro hJ15
                     refine three_ (i := 4) (j := 10) (k := 15) (Ni := some 26) (Nj := some 32) (Nk := some 7) #[true, true, true, true, true, true, true, true, true, false, false, true, true, false, false, false, false] #[true, true, true, true, false, true, true, true, true, false, true, true, true, false, false, false, false] #[true, true, true, true, false, true, true, true, true, false, false, true, true, false, false, true, false] rfl rfl rfl rfl rfl rfl (three_of HT_.out (by kernel_rfl)) (by decide) (by decide) (by decide) (fun K hK => ?_) (fun K hK => ?_) (fun K hK => ?_)
                     ·skip
                      refine Kd.R_lit_step (Kd.int .u8) _ 5 ?hg (N := 26) ?hd (xs := ([] : List Int)) (inner := []) (ok := fun _ => True) (okp := fun _ => True) ?hr ?hp (fun _ hk => hk) trivial (Below.refl _ _) (Nat.le_refl _) (by simp) ?_; (case hd => rfl); (case hg => rfl); (case hr => first | (go_simp; done) | (go_simp; rfl)); (case hp => exact (Reps.none _ _))
                      intro v266 w30 ho31 hb hg_ hnew_
                      clear hg_ hnew_
                      (first | rw [← Ny265.out] at ho31 | (simp only [Int.reduceToNat] at ho31; rw [← Ny265.out] at ho31))
                      have n0_ := Aside0.mk (Kd.R_lower ho31 (below_size (hbA_ HB.out))); have n1_ := (bbA_ BK259 hb); have n2_ := (bbA_ BK260 hb); have n3_ := (bs_ HB hb); clear BK259 BK260 HB; have HO267 := n0_; have BK259 := n1_; have BK260 := n2_; have HB := n3_; clear n0_ n1_ n2_ n3_ hb ho31
                      refine hK.out _ _ (cz4 BK259.out) (fun hHeld => ?_)
                      clear hK K; refine nm_ 26 ?_
                      exact norm_ (by first | (simp only [putAll, Act.put, List.setIfInBounds_toArray, List.set_cons_zero, List.set_cons_succ]; done) | (simp only [putAll, Act.put, List.setIfInBounds_toArray, List.set_cons_zero, List.set_cons_succ]; rfl)) (hJ4 (v266) _ ⟨hHeld, (kR_ HO267.out), (kb_ BK259.out), (kb_ BK260.out), (hbA_ HB.out)⟩)
                     ·skip
                      refine Kd.R_lit_step k96 _ 96 ?hg (N := 32) ?hd (xs := ([] : List (S96))) (inner := []) (ok := fun _ => True) (okp := fun _ => True) ?hr ?hp (fun _ hk => hk) trivial (Below.refl _ _) (Nat.le_refl _) (by simp) ?_; (case hd => rfl); (case hg => rfl); (case hr => first | (go_simp; done) | (go_simp; rfl)); (case hp => exact (Reps.none _ _))
                      intro v273 w30 ho31 hb hg_ hnew_
                      clear hg_ hnew_
                      (first | rw [← Ny272.out] at ho31 | (simp only [Int.reduceToNat] at ho31; rw [← Ny272.out] at ho31))
                      have n0_ := Aside0.mk (Kd.R_lower ho31 (below_size (hbA_ HB.out))); have n1_ := (bbA_ BK259 hb); have n2_ := (bbA_ BK260 hb); have n3_ := (bs_ HB hb); clear BK259 BK260 HB; have HO274 := n0_; have BK259 := n1_; have BK260 := n2_; have HB := n3_; clear n0_ n1_ n2_ n3_ hb ho31
                      refine hK.out _ _ (cz4 BK259.out) (fun hHeld => ?_)
                      clear hK K; refine nm_ 32 ?_
                      exact norm_ (by first | (simp only [putAll, Act.put, List.setIfInBounds_toArray, List.set_cons_zero, List.set_cons_succ]; done) | (simp only [putAll, Act.put, List.setIfInBounds_toArray, List.set_cons_zero, List.set_cons_succ]; rfl)) (hJ10 (v273) _ ⟨hHeld, (kR_ HO274.out), (kb_ BK259.out), (kb_ BK260.out), (hbA_ HB.out)⟩)
                     ·skip
                      refine box_step ?hg (N := 7) ?hd (cs := #[.int .i64 0, .int .i64 0, .slice none 0 0, .slice none 0 0]) (t := 48) ?hr ?_; (case hd => rfl); (case hg => rfl); (case hr => first | (go_simp; done) | (go_simp; rfl))
                      intro gb278 hg w30 hbox hb
                      have n0_ := (bbA_ BK259 hb); have n1_ := (bbA_ BK260 hb); have n2_ := (bs_ HB hb); have n3_ := Aside0.mk (hbox); have n4_ := ge_ hg HB; have n5_ := ge_ hg HB; have n6_ := nl_ hg BK259; have n7_ := ng_ hg BK259; have n8_ := nl_ hg BK260; have n9_ := ng_ hg BK260; clear BK259 BK260 HB; have BK259 := n0_; have BK260 := n1_; have HB := n2_; have BK278 := n3_; have GW278 := n4_; have GE278 := n5_; have NB259_278 := n6_; have NB278_259 := n7_; have NB260_278 := n8_; have NB278_260 := n9_; clear n0_ n1_ n2_ n3_ n4_ n5_ n6_ n7_ n8_ n9_ hb hbox hg
                      refine hK.out _ _ (cz4 BK259.out) (fun hHeld => ?_)
                      clear hK K; refine nm_ 7 ?_
                      exact norm_ (by first | (simp only [putAll, Act.put, List.setIfInBounds_toArray, List.set_cons_zero, List.set_cons_succ]; done) | (simp only [putAll, Act.put, List.setIfInBounds_toArray, List.set_cons_zero, List.set_cons_succ]; rfl)) (hJ15 (gb278) _ ⟨hHeld, (kb_ BK259.out), (kb_ BK260.out), (kb_ BK278.out), GW278.out, GE278.out, NB259_278.out, NB278_259.out, NB260_278.out, NB278_260.out, (hbA_ HB.out)⟩)
                    ·skip
                     rintro gb278 w31 ⟨hS_, h0_, h1_, h2_, h3_, h4_, h5_, h6_, h7_, h8_, h9_⟩
                     have n0_ : Aside0 (w31.heap[gb259]? = some (.cells #[.int .i64 a0_0, .int .i64 a0_1, .slice A0_2 l0_2.length c0_2, .slice A0_3 l0_3.length c0_3] 48 (0, 0))) := ⟨h0_⟩
                     have n1_ : Aside0 (w31.heap[gb260]? = some (.cells #[.int .i64 0, .int .i64 0, .slice none 0 0, .slice none 0 0] 48 (0, 0))) := ⟨h1_⟩
                     have n2_ : Aside0 (w31.heap[gb278]? = some (.cells #[.int .i64 0, .int .i64 0, .slice none 0 0, .slice none 0 0] 48 (0, 0))) := ⟨h2_⟩
                     have n3_ : Aside0 (w.heap.size ≤ gb278) := ⟨h3_⟩
                     have n4_ : Aside0 (w.heap.size ≤ gb278) := ⟨h4_⟩
                     have n5_ : Aside0 (gb259 ≠ gb278) := ⟨h5_⟩
                     have n6_ : Aside0 (gb278 ≠ gb259) := ⟨h6_⟩
                     have n7_ : Aside0 (gb260 ≠ gb278) := ⟨h7_⟩
                     have n8_ : Aside0 (gb278 ≠ gb260) := ⟨h8_⟩
                     have n9_ : Aside0 (Below w.heap.size w w31) := ⟨h9_⟩
                     clear BK259 BK260 HB h0_ h1_ h2_ h3_ h4_ h5_ h6_ h7_ h8_ h9_; have BK259 := n0_; have BK260 := n1_; have BK278 := n2_; have GW278 := n3_; have GE278 := n4_; have NB259_278 := n5_; have NB278_259 := n6_; have NB260_278 := n7_; have NB278_260 := n8_; have HB := n9_; clear n0_ n1_ n2_ n3_ n4_ n5_ n6_ n7_ n8_ n9_
                     have hHeld : w31.cell? ⟨gb259, 0, none⟩ = some (.int .i64 a0_0) ∧ w31.cell? ⟨gb259, 1, none⟩ = some (.int .i64 a0_1) ∧ w31.cell? ⟨gb259, 2, none⟩ = some (.slice A0_2 l0_2.length c0_2) ∧ w31.cell? ⟨gb259, 3, none⟩ = some (.slice A0_3 l0_3.length c0_3) := hS_
                     refine norm_ (a' := ?_) ?_ ?_
                     rotate_left
                     ·simp only [putAll, Act.put, List.setIfInBounds_toArray, List.set_cons_zero, List.set_cons_succ]
                      rfl
                     refine two_ (i := 4) (j := 10) (Ni := some 26) (Nj := some 32) #[true, true, true, true, true, true, true, true, true, false, false, true, true, false, false, true, false] #[true, true, true, true, false, true, true, true, true, false, true, true, true, false, false, true, false] rfl rfl rfl rfl (two_of HT_.out (by kernel_rfl)) (by decide) (by decide) (fun K hK => ?_) (fun K hK => ?_)
                     ·skip
                      refine Kd.R_lit_step (Kd.int .u8) _ 5 ?hg (N := 26) ?hd (xs := ([] : List Int)) (inner := []) (ok := fun _ => True) (okp := fun _ => True) ?hr ?hp (fun _ hk => hk) trivial (Below.refl _ _) (Nat.le_refl _) (by simp) ?_; (case hd => rfl); (case hg => rfl); (case hr => first | (go_simp; done) | (go_simp; rfl)); (case hp => exact (Reps.none _ _))
                      intro v266 w32 ho33 hb hg_ hnew_
                      clear hg_ hnew_
                      (first | rw [← Ny265.out] at ho33 | (simp only [Int.reduceToNat] at ho33; rw [← Ny265.out] at ho33))
                      have n0_ := Aside0.mk (Kd.R_lower ho33 (below_size (hbA_ HB.out))); have n1_ := (bbA_ BK259 hb); have n2_ := (bbA_ BK260 hb); have n3_ := (bbA_ BK278 hb); have n4_ := (bs_ HB hb); clear BK259 BK260 BK278 HB; have HO267 := n0_; have BK259 := n1_; have BK260 := n2_; have BK278 := n3_; have HB := n4_; clear n0_ n1_ n2_ n3_ n4_ hb ho33
                      refine hK.out _ _ (cz4 BK259.out) (fun hHeld => ?_)
                      clear hK K; refine nm_ 26 ?_
                      exact norm_ (by first | (simp only [putAll, Act.put, List.setIfInBounds_toArray, List.set_cons_zero, List.set_cons_succ]; done) | (simp only [putAll, Act.put, List.setIfInBounds_toArray, List.set_cons_zero, List.set_cons_succ]; rfl)) (hJ4_15 (v266, gb278) _ ⟨hHeld, (kR_ HO267.out), (kb_ BK259.out), (kb_ BK260.out), (kb_ BK278.out), GW278.out, GE278.out, NB259_278.out, NB278_259.out, NB260_278.out, NB278_260.out, (hbA_ HB.out)⟩)
                     ·skip
                      refine Kd.R_lit_step k96 _ 96 ?hg (N := 32) ?hd (xs := ([] : List (S96))) (inner := []) (ok := fun _ => True) (okp := fun _ => True) ?hr ?hp (fun _ hk => hk) trivial (Below.refl _ _) (Nat.le_refl _) (by simp) ?_; (case hd => rfl); (case hg => rfl); (case hr => first | (go_simp; done) | (go_simp; rfl)); (case hp => exact (Reps.none _ _))
                      intro v273 w32 ho33 hb hg_ hnew_
                      clear hg_ hnew_
                      (first | rw [← Ny272.out] at ho33 | (simp only [Int.reduceToNat] at ho33; rw [← Ny272.out] at ho33))
                      have n0_ := Aside0.mk (Kd.R_lower ho33 (below_size (hbA_ HB.out))); have n1_ := (bbA_ BK259 hb); have n2_ := (bbA_ BK260 hb); have n3_ := (bbA_ BK278 hb); have n4_ := (bs_ HB hb); clear BK259 BK260 BK278 HB; have HO274 := n0_; have BK259 := n1_; have BK260 := n2_; have BK278 := n3_; have HB := n4_; clear n0_ n1_ n2_ n3_ n4_ hb ho33
                      refine hK.out _ _ (cz4 BK259.out) (fun hHeld => ?_)
                      clear hK K; refine nm_ 32 ?_
                      exact norm_ (by first | (simp only [putAll, Act.put, List.setIfInBounds_toArray, List.set_cons_zero, List.set_cons_succ]; done) | (simp only [putAll, Act.put, List.setIfInBounds_toArray, List.set_cons_zero, List.set_cons_succ]; rfl)) (hJ10_15 (v273, gb278) _ ⟨hHeld, (kR_ HO274.out), (kb_ BK259.out), (kb_ BK260.out), (kb_ BK278.out), GW278.out, GE278.out, NB259_278.out, NB278_259.out, NB260_278.out, NB278_260.out, (hbA_ HB.out)⟩)
                   ·skip
                    rintro v273 w32 ⟨hS_, h0_, h1_, h2_, h3_⟩
                    have n0_ : Aside0 (Kd.R k96 96 w32 w.heap.size (fun _ => True) v273 y272) := ⟨h0_⟩
                    have n1_ : Aside0 (w32.heap[gb259]? = some (.cells #[.int .i64 a0_0, .int .i64 a0_1, .slice A0_2 l0_2.length c0_2, .slice A0_3 l0_3.length c0_3] 48 (0, 0))) := ⟨h1_⟩
                    have n2_ : Aside0 (w32.heap[gb260]? = some (.cells #[.int .i64 0, .int .i64 0, .slice none 0 0, .slice none 0 0] 48 (0, 0))) := ⟨h2_⟩
                    have n3_ : Aside0 (Below w.heap.size w w32) := ⟨h3_⟩
                    clear BK259 BK260 HB h0_ h1_ h2_ h3_; have HO274 := n0_; have BK259 := n1_; have BK260 := n2_; have HB := n3_; clear n0_ n1_ n2_ n3_
                    have hHeld : w32.cell? ⟨gb259, 0, none⟩ = some (.int .i64 a0_0) ∧ w32.cell? ⟨gb259, 1, none⟩ = some (.int .i64 a0_1) ∧ w32.cell? ⟨gb259, 2, none⟩ = some (.slice A0_2 l0_2.length c0_2) ∧ w32.cell? ⟨gb259, 3, none⟩ = some (.slice A0_3 l0_3.length c0_3) := hS_
                    refine norm_ (a' := ?_) ?_ ?_
                    rotate_left
                    ·simp only [putAll, Act.put, List.setIfInBounds_toArray, List.set_cons_zero, List.set_cons_succ]
                     rfl
                    refine two_ (i := 4) (j := 15) (Ni := some 26) (Nj := some 7) #[true, true, true, true, true, true, true, true, true, false, true, true, true, false, false, false, false] #[true, true, true, true, false, true, true, true, true, false, true, true, true, false, false, true, false] rfl rfl rfl rfl (two_of HT_.out (by kernel_rfl)) (by decide) (by decide) (fun K hK => ?_) (fun K hK => ?_)
                    ·skip
                     refine Kd.R_lit_step (Kd.int .u8) _ 5 ?hg (N := 26) ?hd (xs := ([] : List Int)) (inner := []) (ok := fun _ => True) (okp := fun _ => True) ?hr ?hp (fun _ hk => hk) trivial (Below.refl _ _) (Nat.le_refl _) (by simp) ?_; (case hd => rfl); (case hg => rfl); (case hr => first | (go_simp; done) | (go_simp; rfl)); (case hp => exact (Reps.none _ _))
                     intro v266 w33 ho34 hb hg_ hnew_
                     clear hg_ hnew_
                     (first | rw [← Ny265.out] at ho34 | (simp only [Int.reduceToNat] at ho34; rw [← Ny265.out] at ho34))
                     have n0_ := Aside0.mk (Kd.R_below (kR_ HO274.out) hb); have n1_ := Aside0.mk (Kd.R_lower ho34 (below_size (hbA_ HB.out))); have n2_ := (bbA_ BK259 hb); have n3_ := (bbA_ BK260 hb); have n4_ := (bs_ HB hb); clear HO274 BK259 BK260 HB; have HO274 := n0_; have HO267 := n1_; have BK259 := n2_; have BK260 := n3_; have HB := n4_; clear n0_ n1_ n2_ n3_ n4_ hb ho34
                     refine hK.out _ _ (cz4 BK259.out) (fun hHeld => ?_)
                     clear hK K; refine nm_ 26 ?_
                     exact norm_ (by first | (simp only [putAll, Act.put, List.setIfInBounds_toArray, List.set_cons_zero, List.set_cons_succ]; done) | (simp only [putAll, Act.put, List.setIfInBounds_toArray, List.set_cons_zero, List.set_cons_succ]; rfl)) (hJ4_10 (v266, v273) _ ⟨hHeld, (kR_ HO267.out), (kR_ HO274.out), (kb_ BK259.out), (kb_ BK260.out), (hbA_ HB.out)⟩)
                    ·skip
                     refine box_step ?hg (N := 7) ?hd (cs := #[.int .i64 0, .int .i64 0, .slice none 0 0, .slice none 0 0]) (t := 48) ?hr ?_; (case hd => rfl); (case hg => rfl); (case hr => first | (go_simp; done) | (go_simp; rfl))
                     intro gb278 hg w33 hbox hb
                     have n0_ := Aside0.mk (Kd.R_below (kR_ HO274.out) hb); have n1_ := (bbA_ BK259 hb); have n2_ := (bbA_ BK260 hb); have n3_ := (bs_ HB hb); have n4_ := Aside0.mk (hbox); have n5_ := ge_ hg HB; have n6_ := ge_ hg HB; have n7_ := nl_ hg BK259; have n8_ := ng_ hg BK259; have n9_ := nl_ hg BK260; have n10_ := ng_ hg BK260; clear HO274 BK259 BK260 HB; have HO274 := n0_; have BK259 := n1_; have BK260 := n2_; have HB := n3_; have BK278 := n4_; have GW278 := n5_; have GE278 := n6_; have NB259_278 := n7_; have NB278_259 := n8_; have NB260_278 := n9_; have NB278_260 := n10_; clear n0_ n1_ n2_ n3_ n4_ n5_ n6_ n7_ n8_ n9_ n10_ hb hbox hg
                     refine hK.out _ _ (cz4 BK259.out) (fun hHeld => ?_)
                     clear hK K; refine nm_ 7 ?_
                     exact norm_ (by first | (simp only [putAll, Act.put, List.setIfInBounds_toArray, List.set_cons_zero, List.set_cons_succ]; done) | (simp only [putAll, Act.put, List.setIfInBounds_toArray, List.set_cons_zero, List.set_cons_succ]; rfl)) (hJ10_15 (v273, gb278) _ ⟨hHeld, (kR_ HO274.out), (kb_ BK259.out), (kb_ BK260.out), (kb_ BK278.out), GW278.out, GE278.out, NB259_278.out, NB278_259.out, NB260_278.out, NB278_260.out, (hbA_ HB.out)⟩)
                  ·skip
                   rintro v266 w32 ⟨hS_, h0_, h1_, h2_, h3_⟩
                   have n0_ : Aside0 (Kd.R (Kd.int .u8) 5 w32 w.heap.size (fun _ => True) v266 y265) := ⟨h0_⟩
                   have n1_ : Aside0 (w32.heap[gb259]? = some (.cells #[.int .i64 a0_0, .int .i64 a0_1, .slice A0_2 l0_2.length c0_2, .slice A0_3 l0_3.length c0_3] 48 (0, 0))) := ⟨h1_⟩
                   have n2_ : Aside0 (w32.heap[gb260]? = some (.cells #[.int .i64 0, .int .i64 0, .slice none 0 0, .slice none 0 0] 48 (0, 0))) := ⟨h2_⟩
                   have n3_ : Aside0 (Below w.heap.size w w32) := ⟨h3_⟩
                   clear BK259 BK260 HB h0_ h1_ h2_ h3_; have HO267 := n0_; have BK259 := n1_; have BK260 := n2_; have HB := n3_; clear n0_ n1_ n2_ n3_
                   have hHeld : w32.cell? ⟨gb259, 0, none⟩ = some (.int .i64 a0_0) ∧ w32.cell? ⟨gb259, 1, none⟩ = some (.int .i64 a0_1) ∧ w32.cell? ⟨gb259, 2, none⟩ = some (.slice A0_2 l0_2.length c0_2) ∧ w32.cell? ⟨gb259, 3, none⟩ = some (.slice A0_3 l0_3.length c0_3) := hS_
                   refine norm_ (a' := ?_) ?_ ?_
                   rotate_left
                   ·simp only [putAll, Act.put, List.setIfInBounds_toArray, List.set_cons_zero, List.set_cons_succ]
                    rfl
                   refine three_ (i := 9) (j := 10) (k := 15) (Ni := some 31) (Nj := some 32) (Nk := some 7) #[true, true, true, true, true, true, true, true, true, true, false, true, true, false, false, false, false] #[true, true, true, true, true, true, true, true, true, false, true, true, true, false, false, false, false] #[true, true, true, true, true, true, true, true, true, false, false, true, true, false, false, true, false] rfl rfl rfl rfl rfl rfl (three_of HT_.out (by kernel_rfl)) (by decide) (by decide) (by decide) (fun K hK => ?_) (fun K hK => ?_) (fun K hK => ?_)
                   ·skip
                    refine Kd.R_append_rows_step (Kd.int .u8) (w0 := w) w.heap.size (by rfl) (.tmp 26) (.tmp 30) 22 5 (.int .u8 0) 1 rfl Try.underlying22 info5 rfl (by decide) (by omega) v266 y265 (l0_2.drop ((ji14) : Int).toNat) _ _ _ (fun _ => True) (fun _ => False) rfl rfl ?aO ?aR (fun _ _ h => h) (fun _ h => h.elim) ?aF ?aB ?aS ?aL ?_
                    (case aR => first | (refine len_ (show (l0_2.drop ((ji14) : Int).toNat).length = (l0_2.length - (ji14).toNat) from List.length_drop) ?_; repeat (first | exact (Kd.C_below HR268.out HB.out) | (with_reducible refine Kd.C_alloc ?_ _) | (with_reducible refine Kd.C_drewN ?_ _) | (with_reducible refine Kd.C_drew ?_)); done) | (repeat (first | exact (Kd.C_below HR268.out HB.out) | (with_reducible refine Kd.C_alloc ?_ _) | (with_reducible refine Kd.C_drewN ?_ _) | (with_reducible refine Kd.C_drew ?_))))
                    (case aB => exact (hbA_ HB.out))
                    (case aF => exact (fun _ _ => trivial))
                    (case aO => exact (kR_ HO267.out))
                    (case aS => exact (below_size (hbA_ HB.out)))
                    (case aL => have := LMc17.out; have hlx_ := (show (l0_2.drop ((ji14) : Int).toNat).length = (l0_2.length - (ji14).toNat) from List.length_drop); omega)
                    intro v270 w33 ho hb hg hat
                    rw [← Ny269.out] at ho
                    have n0_ := (bgA_ BK259 hg (Kd.R_ne HO267.out BK259.out (by decide))); have n1_ := (bgA_ BK260 hg (Kd.R_ne HO267.out BK260.out (by decide))); have n2_ := Aside0.mk (hb); have n3_ := Aside0.mk (ho); clear BK259 BK260 HB HO267; have BK259 := n0_; have BK260 := n1_; have HB := n2_; have HO271 := n3_; clear n0_ n1_ n2_ n3_ ho hb hg hat
                    refine hK.out _ _ (cz4 BK259.out) (fun hHeld => ?_)
                    clear hK K; refine nm_ 31 ?_
                    exact norm_ (by first | (simp only [putAll, Act.put, List.setIfInBounds_toArray, List.set_cons_zero, List.set_cons_succ]; done) | (simp only [putAll, Act.put, List.setIfInBounds_toArray, List.set_cons_zero, List.set_cons_succ]; rfl)) (hJ4_9 (v266, v270) _ ⟨hHeld, (kR_ HO271.out), (kb_ BK259.out), (kb_ BK260.out), (hbA_ HB.out)⟩)
                   ·skip
                    refine Kd.R_lit_step k96 _ 96 ?hg (N := 32) ?hd (xs := ([] : List (S96))) (inner := []) (ok := fun _ => True) (okp := fun _ => True) ?hr ?hp (fun _ hk => hk) trivial (Below.refl _ _) (Nat.le_refl _) (by simp) ?_; (case hd => rfl); (case hg => rfl); (case hr => first | (go_simp; done) | (go_simp; rfl)); (case hp => exact (Reps.none _ _))
                    intro v273 w33 ho34 hb hg_ hnew_
                    clear hg_ hnew_
                    (first | rw [← Ny272.out] at ho34 | (simp only [Int.reduceToNat] at ho34; rw [← Ny272.out] at ho34))
                    have n0_ := Aside0.mk (Kd.R_below (kR_ HO267.out) hb); have n1_ := Aside0.mk (Kd.R_lower ho34 (below_size (hbA_ HB.out))); have n2_ := (bbA_ BK259 hb); have n3_ := (bbA_ BK260 hb); have n4_ := (bs_ HB hb); clear HO267 BK259 BK260 HB; have HO267 := n0_; have HO274 := n1_; have BK259 := n2_; have BK260 := n3_; have HB := n4_; clear n0_ n1_ n2_ n3_ n4_ hb ho34
                    refine hK.out _ _ (cz4 BK259.out) (fun hHeld => ?_)
                    clear hK K; refine nm_ 32 ?_
                    exact norm_ (by first | (simp only [putAll, Act.put, List.setIfInBounds_toArray, List.set_cons_zero, List.set_cons_succ]; done) | (simp only [putAll, Act.put, List.setIfInBounds_toArray, List.set_cons_zero, List.set_cons_succ]; rfl)) (hJ4_10 (v266, v273) _ ⟨hHeld, (kR_ HO267.out), (kR_ HO274.out), (kb_ BK259.out), (kb_ BK260.out), (hbA_ HB.out)⟩)
                   ·skip
                    refine box_step ?hg (N := 7) ?hd (cs := #[.int .i64 0, .int .i64 0, .slice none 0 0, .slice none 0 0]) (t := 48) ?hr ?_; (case hd => rfl); (case hg => rfl); (case hr => first | (go_simp; done) | (go_simp; rfl))
                    intro gb278 hg w33 hbox hb
                    have n0_ := Aside0.mk (Kd.R_below (kR_ HO267.out) hb); have n1_ := (bbA_ BK259 hb); have n2_ := (bbA_ BK260 hb); have n3_ := (bs_ HB hb); have n4_ := Aside0.mk (hbox); have n5_ := ge_ hg HB; have n6_ := ge_ hg HB; have n7_ := nl_ hg BK259; have n8_ := ng_ hg BK259; have n9_ := nl_ hg BK260; have n10_ := ng_ hg BK260; clear HO267 BK259 BK260 HB; have HO267 := n0_; have BK259 := n1_; have BK260 := n2_; have HB := n3_; have BK278 := n4_; have GW278 := n5_; have GE278 := n6_; have NB259_278 := n7_; have NB278_259 := n8_; have NB260_278 := n9_; have NB278_260 := n10_; clear n0_ n1_ n2_ n3_ n4_ n5_ n6_ n7_ n8_ n9_ n10_ hb hbox hg
                    refine hK.out _ _ (cz4 BK259.out) (fun hHeld => ?_)
                    clear hK K; refine nm_ 7 ?_
                    exact norm_ (by first | (simp only [putAll, Act.put, List.setIfInBounds_toArray, List.set_cons_zero, List.set_cons_succ]; done) | (simp only [putAll, Act.put, List.setIfInBounds_toArray, List.set_cons_zero, List.set_cons_succ]; rfl)) (hJ4_15 (v266, gb278) _ ⟨hHeld, (kR_ HO267.out), (kb_ BK259.out), (kb_ BK260.out), (kb_ BK278.out), GW278.out, GE278.out, NB259_278.out, NB278_259.out, NB260_278.out, NB278_260.out, (hbA_ HB.out)⟩)
                 ·skip
                  rintro ⟨v273, gb278⟩ w33 ⟨hS_, h0_, h1_, h2_, h3_, h4_, h5_, h6_, h7_, h8_, h9_, h10_⟩
                  have n0_ : Aside0 (Kd.R k96 96 w33 w.heap.size (fun _ => True) v273 y272) := ⟨h0_⟩
                  have n1_ : Aside0 (w33.heap[gb259]? = some (.cells #[.int .i64 a0_0, .int .i64 a0_1, .slice A0_2 l0_2.length c0_2, .slice A0_3 l0_3.length c0_3] 48 (0, 0))) := ⟨h1_⟩
                  have n2_ : Aside0 (w33.heap[gb260]? = some (.cells #[.int .i64 0, .int .i64 0, .slice none 0 0, .slice none 0 0] 48 (0, 0))) := ⟨h2_⟩
                  have n3_ : Aside0 (w33.heap[gb278]? = some (.cells #[.int .i64 0, .int .i64 0, .slice none 0 0, .slice none 0 0] 48 (0, 0))) := ⟨h3_⟩
                  have n4_ : Aside0 (w.heap.size ≤ gb278) := ⟨h4_⟩
                  have n5_ : Aside0 (w.heap.size ≤ gb278) := ⟨h5_⟩
                  have n6_ : Aside0 (gb259 ≠ gb278) := ⟨h6_⟩
                  have n7_ : Aside0 (gb278 ≠ gb259) := ⟨h7_⟩
                  have n8_ : Aside0 (gb260 ≠ gb278) := ⟨h8_⟩
                  have n9_ : Aside0 (gb278 ≠ gb260) := ⟨h9_⟩
                  have n10_ : Aside0 (Below w.heap.size w w33) := ⟨h10_⟩
                  clear BK259 BK260 HB h0_ h1_ h2_ h3_ h4_ h5_ h6_ h7_ h8_ h9_ h10_; have HO274 := n0_; have BK259 := n1_; have BK260 := n2_; have BK278 := n3_; have GW278 := n4_; have GE278 := n5_; have NB259_278 := n6_; have NB278_259 := n7_; have NB260_278 := n8_; have NB278_260 := n9_; have HB := n10_; clear n0_ n1_ n2_ n3_ n4_ n5_ n6_ n7_ n8_ n9_ n10_
                  have hHeld : w33.cell? ⟨gb259, 0, none⟩ = some (.int .i64 a0_0) ∧ w33.cell? ⟨gb259, 1, none⟩ = some (.int .i64 a0_1) ∧ w33.cell? ⟨gb259, 2, none⟩ = some (.slice A0_2 l0_2.length c0_2) ∧ w33.cell? ⟨gb259, 3, none⟩ = some (.slice A0_3 l0_3.length c0_3) := hS_
                  refine norm_ (a' := ?_) ?_ ?_
                  rotate_left
                  ·simp only [putAll, Act.put, List.setIfInBounds_toArray, List.set_cons_zero, List.set_cons_succ]
                   rfl
                  refine on_ (i := 4) (N := some 26) HT_ (fun K hK => ?_)
                  refine Kd.R_lit_step (Kd.int .u8) _ 5 ?hg (N := 26) ?hd (xs := ([] : List Int)) (inner := []) (ok := fun _ => True) (okp := fun _ => True) ?hr ?hp (fun _ hk => hk) trivial (Below.refl _ _) (Nat.le_refl _) (by simp) ?_; (case hd => rfl); (case hg => rfl); (case hr => first | (go_simp; done) | (go_simp; rfl)); (case hp => exact (Reps.none _ _))
                  intro v266 w34 ho35 hb hg_ hnew_
                  clear hg_ hnew_
                  (first | rw [← Ny265.out] at ho35 | (simp only [Int.reduceToNat] at ho35; rw [← Ny265.out] at ho35))
                  have n0_ := Aside0.mk (Kd.R_below (kR_ HO274.out) hb); have n1_ := Aside0.mk (Kd.R_lower ho35 (below_size (hbA_ HB.out))); have n2_ := (bbA_ BK259 hb); have n3_ := (bbA_ BK260 hb); have n4_ := (bbA_ BK278 hb); have n5_ := (bs_ HB hb); clear HO274 BK259 BK260 BK278 HB; have HO274 := n0_; have HO267 := n1_; have BK259 := n2_; have BK260 := n3_; have BK278 := n4_; have HB := n5_; clear n0_ n1_ n2_ n3_ n4_ n5_ hb ho35
                  refine hK.out _ _ (cz4 BK259.out) (fun hHeld => ?_)
                  clear hK K; refine nm_ 26 ?_
                  exact norm_ (by first | (simp only [putAll, Act.put, List.setIfInBounds_toArray, List.set_cons_zero, List.set_cons_succ]; done) | (simp only [putAll, Act.put, List.setIfInBounds_toArray, List.set_cons_zero, List.set_cons_succ]; rfl)) (hJ4_10_15 (v266, v273, gb278) _ ⟨hHeld, (kR_ HO267.out), (kR_ HO274.out), (kb_ BK259.out), (kb_ BK260.out), (kb_ BK278.out), GW278.out, GE278.out, NB259_278.out, NB278_259.out, NB260_278.out, NB278_260.out, (hbA_ HB.out)⟩)
                ·skip
                 rintro ⟨v266, gb278⟩ w33 ⟨hS_, h0_, h1_, h2_, h3_, h4_, h5_, h6_, h7_, h8_, h9_, h10_⟩
                 have n0_ : Aside0 (Kd.R (Kd.int .u8) 5 w33 w.heap.size (fun _ => True) v266 y265) := ⟨h0_⟩
                 have n1_ : Aside0 (w33.heap[gb259]? = some (.cells #[.int .i64 a0_0, .int .i64 a0_1, .slice A0_2 l0_2.length c0_2, .slice A0_3 l0_3.length c0_3] 48 (0, 0))) := ⟨h1_⟩
                 have n2_ : Aside0 (w33.heap[gb260]? = some (.cells #[.int .i64 0, .int .i64 0, .slice none 0 0, .slice none 0 0] 48 (0, 0))) := ⟨h2_⟩
                 have n3_ : Aside0 (w33.heap[gb278]? = some (.cells #[.int .i64 0, .int .i64 0, .slice none 0 0, .slice none 0 0] 48 (0, 0))) := ⟨h3_⟩
                 have n4_ : Aside0 (w.heap.size ≤ gb278) := ⟨h4_⟩
                 have n5_ : Aside0 (w.heap.size ≤ gb278) := ⟨h5_⟩
                 have n6_ : Aside0 (gb259 ≠ gb278) := ⟨h6_⟩
                 have n7_ : Aside0 (gb278 ≠ gb259) := ⟨h7_⟩
                 have n8_ : Aside0 (gb260 ≠ gb278) := ⟨h8_⟩
                 have n9_ : Aside0 (gb278 ≠ gb260) := ⟨h9_⟩
                 have n10_ : Aside0 (Below w.heap.size w w33) := ⟨h10_⟩
                 clear BK259 BK260 HB h0_ h1_ h2_ h3_ h4_ h5_ h6_ h7_ h8_ h9_ h10_; have HO267 := n0_; have BK259 := n1_; have BK260 := n2_; have BK278 := n3_; have GW278 := n4_; have GE278 := n5_; have NB259_278 := n6_; have NB278_259 := n7_; have NB260_278 := n8_; have NB278_260 := n9_; have HB := n10_; clear n0_ n1_ n2_ n3_ n4_ n5_ n6_ n7_ n8_ n9_ n10_
                 have hHeld : w33.cell? ⟨gb259, 0, none⟩ = some (.int .i64 a0_0) ∧ w33.cell? ⟨gb259, 1, none⟩ = some (.int .i64 a0_1) ∧ w33.cell? ⟨gb259, 2, none⟩ = some (.slice A0_2 l0_2.length c0_2) ∧ w33.cell? ⟨gb259, 3, none⟩ = some (.slice A0_3 l0_3.length c0_3) := hS_
                 refine norm_ (a' := ?_) ?_ ?_
                 rotate_left
                 ·simp only [putAll, Act.put, List.setIfInBounds_toArray, List.set_cons_zero, List.set_cons_succ]
                  rfl
                 refine two_ (i := 9) (j := 10) (Ni := some 31) (Nj := some 32) #[true, true, true, true, true, true, true, true, true, true, false, true, true, false, false, true, false] #[true, true, true, true, true, true, true, true, true, false, true, true, true, false, false, true, false] rfl rfl rfl rfl (two_of HT_.out (by kernel_rfl)) (by decide) (by decide) (fun K hK => ?_) (fun K hK => ?_)
                 ·skip
                  refine Kd.R_append_rows_step (Kd.int .u8) (w0 := w) w.heap.size (by rfl) (.tmp 26) (.tmp 30) 22 5 (.int .u8 0) 1 rfl Try.underlying22 info5 rfl (by decide) (by omega) v266 y265 (l0_2.drop ((ji14) : Int).toNat) _ _ _ (fun _ => True) (fun _ => False) rfl rfl ?aO ?aR (fun _ _ h => h) (fun _ h => h.elim) ?aF ?aB ?aS ?aL ?_
                  (case aR => first | (refine len_ (show (l0_2.drop ((ji14) : Int).toNat).length = (l0_2.length - (ji14).toNat) from List.length_drop) ?_; repeat (first | exact (Kd.C_below HR268.out HB.out) | (with_reducible refine Kd.C_alloc ?_ _) | (with_reducible refine Kd.C_drewN ?_ _) | (with_reducible refine Kd.C_drew ?_)); done) | (repeat (first | exact (Kd.C_below HR268.out HB.out) | (with_reducible refine Kd.C_alloc ?_ _) | (with_reducible refine Kd.C_drewN ?_ _) | (with_reducible refine Kd.C_drew ?_))))
                  (case aB => exact (hbA_ HB.out))
                  (case aF => exact (fun _ _ => trivial))
                  (case aO => exact (kR_ HO267.out))
                  (case aS => exact (below_size (hbA_ HB.out)))
                  (case aL => have := LMc17.out; have hlx_ := (show (l0_2.drop ((ji14) : Int).toNat).length = (l0_2.length - (ji14).toNat) from List.length_drop); omega)
                  intro v270 w34 ho hb hg hat
                  rw [← Ny269.out] at ho
                  have n0_ := (bgA_ BK259 hg (Kd.R_ne HO267.out BK259.out (by decide))); have n1_ := (bgA_ BK260 hg (Kd.R_ne HO267.out BK260.out (by decide))); have n2_ := (bgA_ BK278 hg (Kd.R_ne HO267.out BK278.out (by decide))); have n3_ := Aside0.mk (hb); have n4_ := Aside0.mk (ho); clear BK259 BK260 BK278 HB HO267; have BK259 := n0_; have BK260 := n1_; have BK278 := n2_; have HB := n3_; have HO271 := n4_; clear n0_ n1_ n2_ n3_ n4_ ho hb hg hat
                  refine hK.out _ _ (cz4 BK259.out) (fun hHeld => ?_)
                  clear hK K; refine nm_ 31 ?_
                  exact norm_ (by first | (simp only [putAll, Act.put, List.setIfInBounds_toArray, List.set_cons_zero, List.set_cons_succ]; done) | (simp only [putAll, Act.put, List.setIfInBounds_toArray, List.set_cons_zero, List.set_cons_succ]; rfl)) (hJ4_9_15 (v266, v270, gb278) _ ⟨hHeld, (kR_ HO271.out), (kb_ BK259.out), (kb_ BK260.out), (kb_ BK278.out), GW278.out, GE278.out, NB259_278.out, NB278_259.out, NB260_278.out, NB278_260.out, (hbA_ HB.out)⟩)
                 ·skip
                  refine Kd.R_lit_step k96 _ 96 ?hg (N := 32) ?hd (xs := ([] : List (S96))) (inner := []) (ok := fun _ => True) (okp := fun _ => True) ?hr ?hp (fun _ hk => hk) trivial (Below.refl _ _) (Nat.le_refl _) (by simp) ?_; (case hd => rfl); (case hg => rfl); (case hr => first | (go_simp; done) | (go_simp; rfl)); (case hp => exact (Reps.none _ _))
                  intro v273 w34 ho35 hb hg_ hnew_
                  clear hg_ hnew_
                  (first | rw [← Ny272.out] at ho35 | (simp only [Int.reduceToNat] at ho35; rw [← Ny272.out] at ho35))
                  have n0_ := Aside0.mk (Kd.R_below (kR_ HO267.out) hb); have n1_ := Aside0.mk (Kd.R_lower ho35 (below_size (hbA_ HB.out))); have n2_ := (bbA_ BK259 hb); have n3_ := (bbA_ BK260 hb); have n4_ := (bbA_ BK278 hb); have n5_ := (bs_ HB hb); clear HO267 BK259 BK260 BK278 HB; have HO267 := n0_; have HO274 := n1_; have BK259 := n2_; have BK260 := n3_; have BK278 := n4_; have HB := n5_; clear n0_ n1_ n2_ n3_ n4_ n5_ hb ho35
                  refine hK.out _ _ (cz4 BK259.out) (fun hHeld => ?_)
                  clear hK K; refine nm_ 32 ?_
                  exact norm_ (by first | (simp only [putAll, Act.put, List.setIfInBounds_toArray, List.set_cons_zero, List.set_cons_succ]; done) | (simp only [putAll, Act.put, List.setIfInBounds_toArray, List.set_cons_zero, List.set_cons_succ]; rfl)) (hJ4_10_15 (v266, v273, gb278) _ ⟨hHeld, (kR_ HO267.out), (kR_ HO274.out), (kb_ BK259.out), (kb_ BK260.out), (kb_ BK278.out), GW278.out, GE278.out, NB259_278.out, NB278_259.out, NB260_278.out, NB278_260.out, (hbA_ HB.out)⟩)
               ·skip
                rintro ⟨v266, v273⟩ w34 ⟨hS_, h0_, h1_, h2_, h3_, h4_⟩
                have n0_ : Aside0 (Kd.R (Kd.int .u8) 5 w34 w.heap.size (fun _ => True) v266 y265) := ⟨h0_⟩
                have n1_ : Aside0 (Kd.R k96 96 w34 w.heap.size (fun _ => True) v273 y272) := ⟨h1_⟩
                have n2_ : Aside0 (w34.heap[gb259]? = some (.cells #[.int .i64 a0_0, .int .i64 a0_1, .slice A0_2 l0_2.length c0_2, .slice A0_3 l0_3.length c0_3] 48 (0, 0))) := ⟨h2_⟩
                have n3_ : Aside0 (w34.heap[gb260]? = some (.cells #[.int .i64 0, .int .i64 0, .slice none 0 0, .slice none 0 0] 48 (0, 0))) := ⟨h3_⟩
                have n4_ : Aside0 (Below w.heap.size w w34) := ⟨h4_⟩
                clear BK259 BK260 HB h0_ h1_ h2_ h3_ h4_; have HO267 := n0_; have HO274 := n1_; have BK259 := n2_; have BK260 := n3_; have HB := n4_; clear n0_ n1_ n2_ n3_ n4_
                have hHeld : w34.cell? ⟨gb259, 0, none⟩ = some (.int .i64 a0_0) ∧ w34.cell? ⟨gb259, 1, none⟩ = some (.int .i64 a0_1) ∧ w34.cell? ⟨gb259, 2, none⟩ = some (.slice A0_2 l0_2.length c0_2) ∧ w34.cell? ⟨gb259, 3, none⟩ = some (.slice A0_3 l0_3.length c0_3) := hS_
                refine norm_ (a' := ?_) ?_ ?_
                rotate_left
                ·simp only [putAll, Act.put, List.setIfInBounds_toArray, List.set_cons_zero, List.set_cons_succ]
                 rfl
                refine two_ (i := 9) (j := 15) (Ni := some 31) (Nj := some 7) #[true, true, true, true, true, true, true, true, true, true, true, true, true, false, false, false, false] #[true, true, true, true, true, true, true, true, true, false, true, true, true, false, false, true, false] rfl rfl rfl rfl (two_of HT_.out (by kernel_rfl)) (by decide) (by decide) (fun K hK => ?_) (fun K hK => ?_)
                ·skip
                 refine Kd.R_append_rows_step (Kd.int .u8) (w0 := w) w.heap.size (by rfl) (.tmp 26) (.tmp 30) 22 5 (.int .u8 0) 1 rfl Try.underlying22 info5 rfl (by decide) (by omega) v266 y265 (l0_2.drop ((ji14) : Int).toNat) _ _ _ (fun _ => True) (fun _ => False) rfl rfl ?aO ?aR (fun _ _ h => h) (fun _ h => h.elim) ?aF ?aB ?aS ?aL ?_
                 (case aR => first | (refine len_ (show (l0_2.drop ((ji14) : Int).toNat).length = (l0_2.length - (ji14).toNat) from List.length_drop) ?_; repeat (first | exact (Kd.C_below HR268.out HB.out) | (with_reducible refine Kd.C_alloc ?_ _) | (with_reducible refine Kd.C_drewN ?_ _) | (with_reducible refine Kd.C_drew ?_)); done) | (repeat (first | exact (Kd.C_below HR268.out HB.out) | (with_reducible refine Kd.C_alloc ?_ _) | (with_reducible refine Kd.C_drewN ?_ _) | (with_reducible refine Kd.C_drew ?_))))
                 (case aB => exact (hbA_ HB.out))
                 (case aF => exact (fun _ _ => trivial))
                 (case aO => exact (kR_ HO267.out))
                 (case aS => exact (below_size (hbA_ HB.out)))
                 (case aL => have := LMc17.out; have hlx_ := (show (l0_2.drop ((ji14) : Int).toNat).length = (l0_2.length - (ji14).toNat) from List.length_drop); omega)
                 intro v270 w35 ho hb hg hat
                 rw [← Ny269.out] at ho
                 have n0_ := (bgA_ BK259 hg (Kd.R_ne HO267.out BK259.out (by decide))); have n1_ := (bgA_ BK260 hg (Kd.R_ne HO267.out BK260.out (by decide))); have n2_ := Aside0.mk (Kd.R_over' (kR_ HO274.out) (Kd.R_typed (kR_ HO267.out)) (by decide) hg); have n3_ := Aside0.mk (hb); have n4_ := Aside0.mk (ho); clear BK259 BK260 HO274 HB HO267; have BK259 := n0_; have BK260 := n1_; have HO274 := n2_; have HB := n3_; have HO271 := n4_; clear n0_ n1_ n2_ n3_ n4_ ho hb hg hat
                 refine hK.out _ _ (cz4 BK259.out) (fun hHeld => ?_)
                 clear hK K; refine nm_ 31 ?_
                 exact norm_ (by first | (simp only [putAll, Act.put, List.setIfInBounds_toArray, List.set_cons_zero, List.set_cons_succ]; done) | (simp only [putAll, Act.put, List.setIfInBounds_toArray, List.set_cons_zero, List.set_cons_succ]; rfl)) (hJ4_9_10 (v266, v270, v273) _ ⟨hHeld, (kR_ HO271.out), (kR_ HO274.out), (kb_ BK259.out), (kb_ BK260.out), (hbA_ HB.out)⟩)
                ·skip
                 refine box_step ?hg (N := 7) ?hd (cs := #[.int .i64 0, .int .i64 0, .slice none 0 0, .slice none 0 0]) (t := 48) ?hr ?_; (case hd => rfl); (case hg => rfl); (case hr => first | (go_simp; done) | (go_simp; rfl))
                 intro gb278 hg w35 hbox hb
                 have n0_ := Aside0.mk (Kd.R_below (kR_ HO267.out) hb); have n1_ := Aside0.mk (Kd.R_below (kR_ HO274.out) hb); have n2_ := (bbA_ BK259 hb); have n3_ := (bbA_ BK260 hb); have n4_ := (bs_ HB hb); have n5_ := Aside0.mk (hbox); have n6_ := ge_ hg HB; have n7_ := ge_ hg HB; have n8_ := nl_ hg BK259; have n9_ := ng_ hg BK259; have n10_ := nl_ hg BK260; have n11_ := ng_ hg BK260; clear HO267 HO274 BK259 BK260 HB; have HO267 := n0_; have HO274 := n1_; have BK259 := n2_; have BK260 := n3_; have HB := n4_; have BK278 := n5_; have GW278 := n6_; have GE278 := n7_; have NB259_278 := n8_; have NB278_259 := n9_; have NB260_278 := n10_; have NB278_260 := n11_; clear n0_ n1_ n2_ n3_ n4_ n5_ n6_ n7_ n8_ n9_ n10_ n11_ hb hbox hg
                 refine hK.out _ _ (cz4 BK259.out) (fun hHeld => ?_)
                 clear hK K; refine nm_ 7 ?_
                 exact norm_ (by first | (simp only [putAll, Act.put, List.setIfInBounds_toArray, List.set_cons_zero, List.set_cons_succ]; done) | (simp only [putAll, Act.put, List.setIfInBounds_toArray, List.set_cons_zero, List.set_cons_succ]; rfl)) (hJ4_10_15 (v266, v273, gb278) _ ⟨hHeld, (kR_ HO267.out), (kR_ HO274.out), (kb_ BK259.out), (kb_ BK260.out), (kb_ BK278.out), GW278.out, GE278.out, NB259_278.out, NB278_259.out, NB260_278.out, NB278_260.out, (hbA_ HB.out)⟩)
              ·skip
               rintro ⟨v266, v270⟩ w33 ⟨hS_, h0_, h1_, h2_, h3_⟩
               have n0_ : Aside0 (Kd.R (Kd.int .u8) 5 w33 w.heap.size (fun _ => True) v270 y269) := ⟨h0_⟩
               have n1_ : Aside0 (w33.heap[gb259]? = some (.cells #[.int .i64 a0_0, .int .i64 a0_1, .slice A0_2 l0_2.length c0_2, .slice A0_3 l0_3.length c0_3] 48 (0, 0))) := ⟨h1_⟩
               have n2_ : Aside0 (w33.heap[gb260]? = some (.cells #[.int .i64 0, .int .i64 0, .slice none 0 0, .slice none 0 0] 48 (0, 0))) := ⟨h2_⟩
               have n3_ : Aside0 (Below w.heap.size w w33) := ⟨h3_⟩
               clear BK259 BK260 HB h0_ h1_ h2_ h3_; have HO271 := n0_; have BK259 := n1_; have BK260 := n2_; have HB := n3_; clear n0_ n1_ n2_ n3_
               have hHeld : w33.cell? ⟨gb259, 0, none⟩ = some (.int .i64 a0_0) ∧ w33.cell? ⟨gb259, 1, none⟩ = some (.int .i64 a0_1) ∧ w33.cell? ⟨gb259, 2, none⟩ = some (.slice A0_2 l0_2.length c0_2) ∧ w33.cell? ⟨gb259, 3, none⟩ = some (.slice A0_3 l0_3.length c0_3) := hS_
               refine norm_ (a' := ?_) ?_ ?_
               rotate_left
               ·simp only [putAll, Act.put, List.setIfInBounds_toArray, List.set_cons_zero, List.set_cons_succ]
                rfl
               refine two_ (i := 10) (j := 15) (Ni := some 32) (Nj := some 7) #[true, true, true, true, true, true, true, true, true, true, true, true, true, false, false, false, false] #[true, true, true, true, true, true, true, true, true, true, false, true, true, false, false, true, false] rfl rfl rfl rfl (two_of HT_.out (by kernel_rfl)) (by decide) (by decide) (fun K hK => ?_) (fun K hK => ?_)
               ·skip
                refine Kd.R_lit_step k96 _ 96 ?hg (N := 32) ?hd (xs := ([] : List (S96))) (inner := []) (ok := fun _ => True) (okp := fun _ => True) ?hr ?hp (fun _ hk => hk) trivial (Below.refl _ _) (Nat.le_refl _) (by simp) ?_; (case hd => rfl); (case hg => rfl); (case hr => first | (go_simp; done) | (go_simp; rfl)); (case hp => exact (Reps.none _ _))
                intro v273 w34 ho35 hb hg_ hnew_
                clear hg_ hnew_
                (first | rw [← Ny272.out] at ho35 | (simp only [Int.reduceToNat] at ho35; rw [← Ny272.out] at ho35))
                have n0_ := Aside0.mk (Kd.R_below (kR_ HO271.out) hb); have n1_ := Aside0.mk (Kd.R_lower ho35 (below_size (hbA_ HB.out))); have n2_ := (bbA_ BK259 hb); have n3_ := (bbA_ BK260 hb); have n4_ := (bs_ HB hb); clear HO271 BK259 BK260 HB; have HO271 := n0_; have HO274 := n1_; have BK259 := n2_; have BK260 := n3_; have HB := n4_; clear n0_ n1_ n2_ n3_ n4_ hb ho35
                refine hK.out _ _ (cz4 BK259.out) (fun hHeld => ?_)
                clear hK K; refine nm_ 32 ?_
                exact norm_ (by first | (simp only [putAll, Act.put, List.setIfInBounds_toArray, List.set_cons_zero, List.set_cons_succ]; done) | (simp only [putAll, Act.put, List.setIfInBounds_toArray, List.set_cons_zero, List.set_cons_succ]; rfl)) (hJ4_9_10 (v266, v270, v273) _ ⟨hHeld, (kR_ HO271.out), (kR_ HO274.out), (kb_ BK259.out), (kb_ BK260.out), (hbA_ HB.out)⟩)
               ·skip
                refine box_step ?hg (N := 7) ?hd (cs := #[.int .i64 0, .int .i64 0, .slice none 0 0, .slice none 0 0]) (t := 48) ?hr ?_; (case hd => rfl); (case hg => rfl); (case hr => first | (go_simp; done) | (go_simp; rfl))
                intro gb278 hg w34 hbox hb
                have n0_ := Aside0.mk (Kd.R_below (kR_ HO271.out) hb); have n1_ := (bbA_ BK259 hb); have n2_ := (bbA_ BK260 hb); have n3_ := (bs_ HB hb); have n4_ := Aside0.mk (hbox); have n5_ := ge_ hg HB; have n6_ := ge_ hg HB; have n7_ := nl_ hg BK259; have n8_ := ng_ hg BK259; have n9_ := nl_ hg BK260; have n10_ := ng_ hg BK260; clear HO271 BK259 BK260 HB; have HO271 := n0_; have BK259 := n1_; have BK260 := n2_; have HB := n3_; have BK278 := n4_; have GW278 := n5_; have GE278 := n6_; have NB259_278 := n7_; have NB278_259 := n8_; have NB260_278 := n9_; have NB278_260 := n10_; clear n0_ n1_ n2_ n3_ n4_ n5_ n6_ n7_ n8_ n9_ n10_ hb hbox hg
                refine hK.out _ _ (cz4 BK259.out) (fun hHeld => ?_)
                clear hK K; refine nm_ 7 ?_
                exact norm_ (by first | (simp only [putAll, Act.put, List.setIfInBounds_toArray, List.set_cons_zero, List.set_cons_succ]; done) | (simp only [putAll, Act.put, List.setIfInBounds_toArray, List.set_cons_zero, List.set_cons_succ]; rfl)) (hJ4_9_15 (v266, v270, gb278) _ ⟨hHeld, (kR_ HO271.out), (kb_ BK259.out), (kb_ BK260.out), (kb_ BK278.out), GW278.out, GE278.out, NB259_278.out, NB278_259.out, NB260_278.out, NB278_260.out, (hbA_ HB.out)⟩)
             ·skip
              rintro ⟨v266, v273, gb278⟩ w35 ⟨hS_, h0_, h1_, h2_, h3_, h4_, h5_, h6_, h7_, h8_, h9_, h10_, h11_⟩
              have n0_ : Aside0 (Kd.R (Kd.int .u8) 5 w35 w.heap.size (fun _ => True) v266 y265) := ⟨h0_⟩
              have n1_ : Aside0 (Kd.R k96 96 w35 w.heap.size (fun _ => True) v273 y272) := ⟨h1_⟩
              have n2_ : Aside0 (w35.heap[gb259]? = some (.cells #[.int .i64 a0_0, .int .i64 a0_1, .slice A0_2 l0_2.length c0_2, .slice A0_3 l0_3.length c0_3] 48 (0, 0))) := ⟨h2_⟩
              have n3_ : Aside0 (w35.heap[gb260]? = some (.cells #[.int .i64 0, .int .i64 0, .slice none 0 0, .slice none 0 0] 48 (0, 0))) := ⟨h3_⟩
              have n4_ : Aside0 (w35.heap[gb278]? = some (.cells #[.int .i64 0, .int .i64 0, .slice none 0 0, .slice none 0 0] 48 (0, 0))) := ⟨h4_⟩
              have n5_ : Aside0 (w.heap.size ≤ gb278) := ⟨h5_⟩
              have n6_ : Aside0 (w.heap.size ≤ gb278) := ⟨h6_⟩
              have n7_ : Aside0 (gb259 ≠ gb278) := ⟨h7_⟩
              have n8_ : Aside0 (gb278 ≠ gb259) := ⟨h8_⟩
              have n9_ : Aside0 (gb260 ≠ gb278) := ⟨h9_⟩
              have n10_ : Aside0 (gb278 ≠ gb260) := ⟨h10_⟩
              have n11_ : Aside0 (Below w.heap.size w w35) := ⟨h11_⟩
              clear BK259 BK260 HB h0_ h1_ h2_ h3_ h4_ h5_ h6_ h7_ h8_ h9_ h10_ h11_; have HO267 := n0_; have HO274 := n1_; have BK259 := n2_; have BK260 := n3_; have BK278 := n4_; have GW278 := n5_; have GE278 := n6_; have NB259_278 := n7_; have NB278_259 := n8_; have NB260_278 := n9_; have NB278_260 := n10_; have HB := n11_; clear n0_ n1_ n2_ n3_ n4_ n5_ n6_ n7_ n8_ n9_ n10_ n11_
              have hHeld : w35.cell? ⟨gb259, 0, none⟩ = some (.int .i64 a0_0) ∧ w35.cell? ⟨gb259, 1, none⟩ = some (.int .i64 a0_1) ∧ w35.cell? ⟨gb259, 2, none⟩ = some (.slice A0_2 l0_2.length c0_2) ∧ w35.cell? ⟨gb259, 3, none⟩ = some (.slice A0_3 l0_3.length c0_3) := hS_
              refine norm_ (a' := ?_) ?_ ?_
              rotate_left
              ·simp only [putAll, Act.put, List.setIfInBounds_toArray, List.set_cons_zero, List.set_cons_succ]
               rfl
              refine on_ (i := 9) (N := some 31) HT_ (fun K hK => ?_)
              refine Kd.R_append_rows_step (Kd.int .u8) (w0 := w) w.heap.size (by rfl) (.tmp 26) (.tmp 30) 22 5 (.int .u8 0) 1 rfl Try.underlying22 info5 rfl (by decide) (by omega) v266 y265 (l0_2.drop ((ji14) : Int).toNat) _ _ _ (fun _ => True) (fun _ => False) rfl rfl ?aO ?aR (fun _ _ h => h) (fun _ h => h.elim) ?aF ?aB ?aS ?aL ?_
              (case aR => first | (refine len_ (show (l0_2.drop ((ji14) : Int).toNat).length = (l0_2.length - (ji14).toNat) from List.length_drop) ?_; repeat (first | exact (Kd.C_below HR268.out HB.out) | (with_reducible refine Kd.C_alloc ?_ _) | (with_reducible refine Kd.C_drewN ?_ _) | (with_reducible refine Kd.C_drew ?_)); done) | (repeat (first | exact (Kd.C_below HR268.out HB.out) | (with_reducible refine Kd.C_alloc ?_ _) | (with_reducible refine Kd.C_drewN ?_ _) | (with_reducible refine Kd.C_drew ?_))))
              (case aB => exact (hbA_ HB.out))
              (case aF => exact (fun _ _ => trivial))
              (case aO => exact (kR_ HO267.out))
              (case aS => exact (below_size (hbA_ HB.out)))
              (case aL => have := LMc17.out; have hlx_ := (show (l0_2.drop ((ji14) : Int).toNat).length = (l0_2.length - (ji14).toNat) from List.length_drop); omega)
              intro v270 w36 ho hb hg hat
              rw [← Ny269.out] at ho
              have n0_ := (bgA_ BK259 hg (Kd.R_ne HO267.out BK259.out (by decide))); have n1_ := (bgA_ BK260 hg (Kd.R_ne HO267.out BK260.out (by decide))); have n2_ := Aside0.mk (Kd.R_over' (kR_ HO274.out) (Kd.R_typed (kR_ HO267.out)) (by decide) hg); have n3_ := (bgA_ BK278 hg (Kd.R_ne HO267.out BK278.out (by decide))); have n4_ := Aside0.mk (hb); have n5_ := Aside0.mk (ho); clear BK259 BK260 HO274 BK278 HB HO267; have BK259 := n0_; have BK260 := n1_; have HO274 := n2_; have BK278 := n3_; have HB := n4_; have HO271 := n5_; clear n0_ n1_ n2_ n3_ n4_ n5_ ho hb hg hat
              refine hK.out _ _ (cz4 BK259.out) (fun hHeld => ?_)
              clear hK K; refine nm_ 31 ?_
              exact norm_ (by first | (simp only [putAll, Act.put, List.setIfInBounds_toArray, List.set_cons_zero, List.set_cons_succ]; done) | (simp only [putAll, Act.put, List.setIfInBounds_toArray, List.set_cons_zero, List.set_cons_succ]; rfl)) (hJ4_9_10_15 (v266, v270, v273, gb278) _ ⟨hHeld, (kR_ HO271.out), (kR_ HO274.out), (kb_ BK259.out), (kb_ BK260.out), (kb_ BK278.out), GW278.out, GE278.out, NB259_278.out, NB278_259.out, NB260_278.out, NB278_260.out, (hbA_ HB.out)⟩)
            ·skip
             rintro ⟨v266, v270, gb278⟩ w34 ⟨hS_, h0_, h1_, h2_, h3_, h4_, h5_, h6_, h7_, h8_, h9_, h10_⟩
             have n0_ : Aside0 (Kd.R (Kd.int .u8) 5 w34 w.heap.size (fun _ => True) v270 y269) := ⟨h0_⟩
             have n1_ : Aside0 (w34.heap[gb259]? = some (.cells #[.int .i64 a0_0, .int .i64 a0_1, .slice A0_2 l0_2.length c0_2, .slice A0_3 l0_3.length c0_3] 48 (0, 0))) := ⟨h1_⟩
             have n2_ : Aside0 (w34.heap[gb260]? = some (.cells #[.int .i64 0, .int .i64 0, .slice none 0 0, .slice none 0 0] 48 (0, 0))) := ⟨h2_⟩
             have n3_ : Aside0 (w34.heap[gb278]? = some (.cells #[.int .i64 0, .int .i64 0, .slice none 0 0, .slice none 0 0] 48 (0, 0))) := ⟨h3_⟩
             have n4_ : Aside0 (w.heap.size ≤ gb278) := ⟨h4_⟩
             have n5_ : Aside0 (w.heap.size ≤ gb278) := ⟨h5_⟩
             have n6_ : Aside0 (gb259 ≠ gb278) := ⟨h6_⟩
             have n7_ : Aside0 (gb278 ≠ gb259) := ⟨h7_⟩
             have n8_ : Aside0 (gb260 ≠ gb278) := ⟨h8_⟩
             have n9_ : Aside0 (gb278 ≠ gb260) := ⟨h9_⟩
             have n10_ : Aside0 (Below w.heap.size w w34) := ⟨h10_⟩
             clear BK259 BK260 HB h0_ h1_ h2_ h3_ h4_ h5_ h6_ h7_ h8_ h9_ h10_; have HO271 := n0_; have BK259 := n1_; have BK260 := n2_; have BK278 := n3_; have GW278 := n4_; have GE278 := n5_; have NB259_278 := n6_; have NB278_259 := n7_; have NB260_278 := n8_; have NB278_260 := n9_; have HB := n10_; clear n0_ n1_ n2_ n3_ n4_ n5_ n6_ n7_ n8_ n9_ n10_
             have hHeld : w34.cell? ⟨gb259, 0, none⟩ = some (.int .i64 a0_0) ∧ w34.cell? ⟨gb259, 1, none⟩ = some (.int .i64 a0_1) ∧ w34.cell? ⟨gb259, 2, none⟩ = some (.slice A0_2 l0_2.length c0_2) ∧ w34.cell? ⟨gb259, 3, none⟩ = some (.slice A0_3 l0_3.length c0_3) := hS_
             refine norm_ (a' := ?_) ?_ ?_
             rotate_left
             ·simp only [putAll, Act.put, List.setIfInBounds_toArray, List.set_cons_zero, List.set_cons_succ]
              rfl
             refine on_ (i := 10) (N := some 32) HT_ (fun K hK => ?_)
             refine Kd.R_lit_step k96 _ 96 ?hg (N := 32) ?hd (xs := ([] : List (S96))) (inner := []) (ok := fun _ => True) (okp := fun _ => True) ?hr ?hp (fun _ hk => hk) trivial (Below.refl _ _) (Nat.le_refl _) (by simp) ?_; (case hd => rfl); (case hg => rfl); (case hr => first | (go_simp; done) | (go_simp; rfl)); (case hp => exact (Reps.none _ _))
             intro v273 w35 ho36 hb hg_ hnew_
             clear hg_ hnew_
             (first | rw [← Ny272.out] at ho36 | (simp only [Int.reduceToNat] at ho36; rw [← Ny272.out] at ho36))
             have n0_ := Aside0.mk (Kd.R_below (kR_ HO271.out) hb); have n1_ := Aside0.mk (Kd.R_lower ho36 (below_size (hbA_ HB.out))); have n2_ := (bbA_ BK259 hb); have n3_ := (bbA_ BK260 hb); have n4_ := (bbA_ BK278 hb); have n5_ := (bs_ HB hb); clear HO271 BK259 BK260 BK278 HB; have HO271 := n0_; have HO274 := n1_; have BK259 := n2_; have BK260 := n3_; have BK278 := n4_; have HB := n5_; clear n0_ n1_ n2_ n3_ n4_ n5_ hb ho36
             refine hK.out _ _ (cz4 BK259.out) (fun hHeld => ?_)
             clear hK K; refine nm_ 32 ?_
             exact norm_ (by first | (simp only [putAll, Act.put, List.setIfInBounds_toArray, List.set_cons_zero, List.set_cons_succ]; done) | (simp only [putAll, Act.put, List.setIfInBounds_toArray, List.set_cons_zero, List.set_cons_succ]; rfl)) (hJ4_9_10_15 (v266, v270, v273, gb278) _ ⟨hHeld, (kR_ HO271.out), (kR_ HO274.out), (kb_ BK259.out), (kb_ BK260.out), (kb_ BK278.out), GW278.out, GE278.out, NB259_278.out, NB278_259.out, NB260_278.out, NB278_260.out, (hbA_ HB.out)⟩)
           ·skip
            rintro ⟨v266, v270, v273⟩ w35 ⟨hS_, h0_, h1_, h2_, h3_, h4_⟩
            have n0_ : Aside0 (Kd.R (Kd.int .u8) 5 w35 w.heap.size (fun _ => True) v270 y269) := ⟨h0_⟩
            have n1_ : Aside0 (Kd.R k96 96 w35 w.heap.size (fun _ => True) v273 y272) := ⟨h1_⟩
            have n2_ : Aside0 (w35.heap[gb259]? = some (.cells #[.int .i64 a0_0, .int .i64 a0_1, .slice A0_2 l0_2.length c0_2, .slice A0_3 l0_3.length c0_3] 48 (0, 0))) := ⟨h2_⟩
            have n3_ : Aside0 (w35.heap[gb260]? = some (.cells #[.int .i64 0, .int .i64 0, .slice none 0 0, .slice none 0 0] 48 (0, 0))) := ⟨h3_⟩
            have n4_ : Aside0 (Below w.heap.size w w35) := ⟨h4_⟩
            clear BK259 BK260 HB h0_ h1_ h2_ h3_ h4_; have HO271 := n0_; have HO274 := n1_; have BK259 := n2_; have BK260 := n3_; have HB := n4_; clear n0_ n1_ n2_ n3_ n4_
            have hHeld : w35.cell? ⟨gb259, 0, none⟩ = some (.int .i64 a0_0) ∧ w35.cell? ⟨gb259, 1, none⟩ = some (.int .i64 a0_1) ∧ w35.cell? ⟨gb259, 2, none⟩ = some (.slice A0_2 l0_2.length c0_2) ∧ w35.cell? ⟨gb259, 3, none⟩ = some (.slice A0_3 l0_3.length c0_3) := hS_
            refine norm_ (a' := ?_) ?_ ?_
            rotate_left
            ·simp only [putAll, Act.put, List.setIfInBounds_toArray, List.set_cons_zero, List.set_cons_succ]
             rfl
            refine two_ (i := 13) (j := 15) (Ni := some 35) (Nj := some 7) #[true, true, true, true, true, true, true, true, true, true, true, true, true, true, false, false, false] #[true, true, true, true, true, true, true, true, true, true, true, true, true, false, false, true, false] rfl rfl rfl rfl (two_of HT_.out (by kernel_rfl)) (by decide) (by decide) (fun K hK => ?_) (fun K hK => ?_)
            ·skip
             refine Kd.R_append_rows_step k96 (w0 := w) w.heap.size (by rfl) (.tmp 32) (.tmp 34) 46 96 (.agg #[(.int .i64 0), (.int .u8 0)]) 16 rfl Try.underlying46 info96 rfl (by decide) (by omega) v273 y272 l0_3 _ _ _ (fun _ => True) (fun _ => False) rfl rfl ?aO ?aR (fun _ _ h => h) (fun _ h => h.elim) ?aF ?aB ?aS ?aL ?_
             (case aR => exact kC_ (Kd.C_below HR0_3.out HB.out))
             (case aB => exact (hbA_ HB.out))
             (case aF => exact (fun _ _ => trivial))
             (case aO => exact (kR_ HO274.out))
             (case aS => exact (below_size (hbA_ HB.out)))
             (case aL => have := LMc18.out; omega)
             intro v276 w36 ho hb hg hat
             rw [← Ny275.out] at ho
             have n0_ := (bgA_ BK259 hg (Kd.R_ne HO274.out BK259.out (by decide))); have n1_ := (bgA_ BK260 hg (Kd.R_ne HO274.out BK260.out (by decide))); have n2_ := Aside0.mk (Kd.R_over' (kR_ HO271.out) (Kd.R_typed (kR_ HO274.out)) (by decide) hg); have n3_ := Aside0.mk (hb); have n4_ := Aside0.mk (ho); clear BK259 BK260 HO271 HB HO274; have BK259 := n0_; have BK260 := n1_; have HO271 := n2_; have HB := n3_; have HO277 := n4_; clear n0_ n1_ n2_ n3_ n4_ ho hb hg hat
             obtain ⟨Ao37, co37, eo37⟩ := Kd.R_slice HO277.out
             (first | subst eo37 | (injection eo37 with f1_ f2_ f3_; have f4_ := f1_.symm; have f5_ := f3_.symm; clear f1_ f2_ f3_; subst f4_; subst f5_))
             obtain ⟨Ao38, co38, eo38⟩ := Kd.R_slice HO271.out
             (first | subst eo38 | (injection eo38 with f1_ f2_ f3_; have f4_ := f1_.symm; have f5_ := f3_.symm; clear f1_ f2_ f3_; subst f4_; subst f5_))
             refine hK.out _ _ (cz4 BK259.out) (fun hHeld => ?_)
             clear hK K; refine nm_ 35 ?_; refine pu_ (i := 14) (N := some 36) HT_ ?_
             exact norm_ (by first | (simp only [putAll, Act.put, List.setIfInBounds_toArray, List.set_cons_zero, List.set_cons_succ]; done) | (simp only [putAll, Act.put, List.setIfInBounds_toArray, List.set_cons_zero, List.set_cons_succ]; rfl)) (hJ4_9_10_13 (v266, .slice Ao38 y269.length co38, v273, .slice Ao37 y275.length co37) _ ⟨hHeld, (kR_ HO271.out), (kR_ HO277.out), (kb_ BK259.out), (kb_ BK260.out), (hbA_ HB.out)⟩)
            ·skip
             refine box_step ?hg (N := 7) ?hd (cs := #[.int .i64 0, .int .i64 0, .slice none 0 0, .slice none 0 0]) (t := 48) ?hr ?_; (case hd => rfl); (case hg => rfl); (case hr => first | (go_simp; done) | (go_simp; rfl))
             intro gb278 hg w36 hbox hb
             have n0_ := Aside0.mk (Kd.R_below (kR_ HO271.out) hb); have n1_ := Aside0.mk (Kd.R_below (kR_ HO274.out) hb); have n2_ := (bbA_ BK259 hb); have n3_ := (bbA_ BK260 hb); have n4_ := (bs_ HB hb); have n5_ := Aside0.mk (hbox); have n6_ := ge_ hg HB; have n7_ := ge_ hg HB; have n8_ := nl_ hg BK259; have n9_ := ng_ hg BK259; have n10_ := nl_ hg BK260; have n11_ := ng_ hg BK260; clear HO271 HO274 BK259 BK260 HB; have HO271 := n0_; have HO274 := n1_; have BK259 := n2_; have BK260 := n3_; have HB := n4_; have BK278 := n5_; have GW278 := n6_; have GE278 := n7_; have NB259_278 := n8_; have NB278_259 := n9_; have NB260_278 := n10_; have NB278_260 := n11_; clear n0_ n1_ n2_ n3_ n4_ n5_ n6_ n7_ n8_ n9_ n10_ n11_ hb hbox hg
             refine hK.out _ _ (cz4 BK259.out) (fun hHeld => ?_)
             clear hK K; refine nm_ 7 ?_
             exact norm_ (by first | (simp only [putAll, Act.put, List.setIfInBounds_toArray, List.set_cons_zero, List.set_cons_succ]; done) | (simp only [putAll, Act.put, List.setIfInBounds_toArray, List.set_cons_zero, List.set_cons_succ]; rfl)) (hJ4_9_10_15 (v266, v270, v273, gb278) _ ⟨hHeld, (kR_ HO271.out), (kR_ HO274.out), (kb_ BK259.out), (kb_ BK260.out), (kb_ BK278.out), GW278.out, GE278.out, NB259_278.out, NB278_259.out, NB260_278.out, NB278_260.out, (hbA_ HB.out)⟩)
          ·skip
           rintro ⟨v266, v270, v273, gb278⟩ w36 ⟨hS_, h0_, h1_, h2_, h3_, h4_, h5_, h6_, h7_, h8_, h9_, h10_, h11_⟩
           have n0_ : Aside0 (Kd.R (Kd.int .u8) 5 w36 w.heap.size (fun _ => True) v270 y269) := ⟨h0_⟩
           have n1_ : Aside0 (Kd.R k96 96 w36 w.heap.size (fun _ => True) v273 y272) := ⟨h1_⟩
           have n2_ : Aside0 (w36.heap[gb259]? = some (.cells #[.int .i64 a0_0, .int .i64 a0_1, .slice A0_2 l0_2.length c0_2, .slice A0_3 l0_3.length c0_3] 48 (0, 0))) := ⟨h2_⟩
           have n3_ : Aside0 (w36.heap[gb260]? = some (.cells #[.int .i64 0, .int .i64 0, .slice none 0 0, .slice none 0 0] 48 (0, 0))) := ⟨h3_⟩
           have n4_ : Aside0 (w36.heap[gb278]? = some (.cells #[.int .i64 0, .int .i64 0, .slice none 0 0, .slice none 0 0] 48 (0, 0))) := ⟨h4_⟩
           have n5_ : Aside0 (w.heap.size ≤ gb278) := ⟨h5_⟩
           have n6_ : Aside0 (w.heap.size ≤ gb278) := ⟨h6_⟩
           have n7_ : Aside0 (gb259 ≠ gb278) := ⟨h7_⟩
           have n8_ : Aside0 (gb278 ≠ gb259) := ⟨h8_⟩
           have n9_ : Aside0 (gb260 ≠ gb278) := ⟨h9_⟩
           have n10_ : Aside0 (gb278 ≠ gb260) := ⟨h10_⟩
           have n11_ : Aside0 (Below w.heap.size w w36) := ⟨h11_⟩
           clear BK259 BK260 HB h0_ h1_ h2_ h3_ h4_ h5_ h6_ h7_ h8_ h9_ h10_ h11_; have HO271 := n0_; have HO274 := n1_; have BK259 := n2_; have BK260 := n3_; have BK278 := n4_; have GW278 := n5_; have GE278 := n6_; have NB259_278 := n7_; have NB278_259 := n8_; have NB260_278 := n9_; have NB278_260 := n10_; have HB := n11_; clear n0_ n1_ n2_ n3_ n4_ n5_ n6_ n7_ n8_ n9_ n10_ n11_
           have hHeld : w36.cell? ⟨gb259, 0, none⟩ = some (.int .i64 a0_0) ∧ w36.cell? ⟨gb259, 1, none⟩ = some (.int .i64 a0_1) ∧ w36.cell? ⟨gb259, 2, none⟩ = some (.slice A0_2 l0_2.length c0_2) ∧ w36.cell? ⟨gb259, 3, none⟩ = some (.slice A0_3 l0_3.length c0_3) := hS_
           refine norm_ (a' := ?_) ?_ ?_
           rotate_left
           ·simp only [putAll, Act.put, List.setIfInBounds_toArray, List.set_cons_zero, List.set_cons_succ]
            rfl
           refine on_ (i := 13) (N := some 35) HT_ (fun K hK => ?_)
           refine Kd.R_append_rows_step k96 (w0 := w) w.heap.size (by rfl) (.tmp 32) (.tmp 34) 46 96 (.agg #[(.int .i64 0), (.int .u8 0)]) 16 rfl Try.underlying46 info96 rfl (by decide) (by omega) v273 y272 l0_3 _ _ _ (fun _ => True) (fun _ => False) rfl rfl ?aO ?aR (fun _ _ h => h) (fun _ h => h.elim) ?aF ?aB ?aS ?aL ?_
           (case aR => exact kC_ (Kd.C_below HR0_3.out HB.out))
           (case aB => exact (hbA_ HB.out))
           (case aF => exact (fun _ _ => trivial))
           (case aO => exact (kR_ HO274.out))
           (case aS => exact (below_size (hbA_ HB.out)))
           (case aL => have := LMc18.out; omega)
           intro v276 w37 ho hb hg hat
           rw [← Ny275.out] at ho
           have n0_ := (bgA_ BK259 hg (Kd.R_ne HO274.out BK259.out (by decide))); have n1_ := (bgA_ BK260 hg (Kd.R_ne HO274.out BK260.out (by decide))); have n2_ := Aside0.mk (Kd.R_over' (kR_ HO271.out) (Kd.R_typed (kR_ HO274.out)) (by decide) hg); have n3_ := (bgA_ BK278 hg (Kd.R_ne HO274.out BK278.out (by decide))); have n4_ := Aside0.mk (hb); have n5_ := Aside0.mk (ho); clear BK259 BK260 HO271 BK278 HB HO274; have BK259 := n0_; have BK260 := n1_; have HO271 := n2_; have BK278 := n3_; have HB := n4_; have HO277 := n5_; clear n0_ n1_ n2_ n3_ n4_ n5_ ho hb hg hat
           obtain ⟨Ao38, co38, eo38⟩ := Kd.R_slice HO277.out
           (first | subst eo38 | (injection eo38 with f1_ f2_ f3_; have f4_ := f1_.symm; have f5_ := f3_.symm; clear f1_ f2_ f3_; subst f4_; subst f5_))
           obtain ⟨Ao39, co39, eo39⟩ := Kd.R_slice HO271.out
           (first | subst eo39 | (injection eo39 with f1_ f2_ f3_; have f4_ := f1_.symm; have f5_ := f3_.symm; clear f1_ f2_ f3_; subst f4_; subst f5_))
           refine hK.out _ _ (cz4 BK259.out) (fun hHeld => ?_)
           clear hK K; refine nm_ 35 ?_; refine pu_ (i := 14) (N := some 36) HT_ ?_
           exact norm_ (by first | (simp only [putAll, Act.put, List.setIfInBounds_toArray, List.set_cons_zero, List.set_cons_succ]; done) | (simp only [putAll, Act.put, List.setIfInBounds_toArray, List.set_cons_zero, List.set_cons_succ]; rfl)) (hJ4_9_10_13_15 (v266, .slice Ao39 y269.length co39, v273, .slice Ao38 y275.length co38, gb278) _ ⟨hHeld, (kR_ HO271.out), (kR_ HO277.out), (kb_ BK259.out), (kb_ BK260.out), (kb_ BK278.out), GW278.out, GE278.out, NB259_278.out, NB278_259.out, NB260_278.out, NB278_260.out, (hbA_ HB.out)⟩)
         ·skip
          rintro ⟨v266, v270, v273, v276⟩ w38 ⟨hS_, h0_, h1_, h2_, h3_, h4_⟩
          have n0_ : Aside0 (Kd.R (Kd.int .u8) 5 w38 w.heap.size (fun _ => True) v270 y269) := ⟨h0_⟩
          have n1_ : Aside0 (Kd.R k96 96 w38 w.heap.size (fun _ => True) v276 y275) := ⟨h1_⟩
          have n2_ : Aside0 (w38.heap[gb259]? = some (.cells #[.int .i64 a0_0, .int .i64 a0_1, .slice A0_2 l0_2.length c0_2, .slice A0_3 l0_3.length c0_3] 48 (0, 0))) := ⟨h2_⟩
          have n3_ : Aside0 (w38.heap[gb260]? = some (.cells #[.int .i64 0, .int .i64 0, .slice none 0 0, .slice none 0 0] 48 (0, 0))) := ⟨h3_⟩
          have n4_ : Aside0 (Below w.heap.size w w38) := ⟨h4_⟩
          clear BK259 BK260 HB h0_ h1_ h2_ h3_ h4_; have HO271 := n0_; have HO277 := n1_; have BK259 := n2_; have BK260 := n3_; have HB := n4_; clear n0_ n1_ n2_ n3_ n4_
          have hHeld : w38.cell? ⟨gb259, 0, none⟩ = some (.int .i64 a0_0) ∧ w38.cell? ⟨gb259, 1, none⟩ = some (.int .i64 a0_1) ∧ w38.cell? ⟨gb259, 2, none⟩ = some (.slice A0_2 l0_2.length c0_2) ∧ w38.cell? ⟨gb259, 3, none⟩ = some (.slice A0_3 l0_3.length c0_3) := hS_
          obtain ⟨Ao39, co39, eo39⟩ := Kd.R_slice HO277.out
          (first | subst eo39 | (injection eo39 with f1_ f2_ f3_; have f4_ := f1_.symm; have f5_ := f3_.symm; clear f1_ f2_ f3_; subst f4_; subst f5_))
          obtain ⟨Ao40, co40, eo40⟩ := Kd.R_slice HO271.out
          (first | subst eo40 | (injection eo40 with f1_ f2_ f3_; have f4_ := f1_.symm; have f5_ := f3_.symm; clear f1_ f2_ f3_; subst f4_; subst f5_))
          refine norm_ (a' := ?_) ?_ ?_
          rotate_left
          ·simp only [putAll, Act.put, List.setIfInBounds_toArray, List.set_cons_zero, List.set_cons_succ]
           rfl
          refine on_ (i := 15) (N := some 7) HT_ (fun K hK => ?_)
          refine box_step ?hg (N := 7) ?hd (cs := #[.int .i64 0, .int .i64 0, .slice none 0 0, .slice none 0 0]) (t := 48) ?hr ?_; (case hd => rfl); (case hg => rfl); (case hr => first | (go_simp; done) | (go_simp; rfl))
          intro gb278 hg w41 hbox hb
          have n0_ := Aside0.mk (Kd.R_below (kR_ HO271.out) hb); have n1_ := Aside0.mk (Kd.R_below (kR_ HO277.out) hb); have n2_ := (bbA_ BK259 hb); have n3_ := (bbA_ BK260 hb); have n4_ := (bs_ HB hb); have n5_ := Aside0.mk (hbox); have n6_ := ge_ hg HB; have n7_ := ge_ hg HB; have n8_ := nl_ hg BK259; have n9_ := ng_ hg BK259; have n10_ := nl_ hg BK260; have n11_ := ng_ hg BK260; clear HO271 HO277 BK259 BK260 HB; have HO271 := n0_; have HO277 := n1_; have BK259 := n2_; have BK260 := n3_; have HB := n4_; have BK278 := n5_; have GW278 := n6_; have GE278 := n7_; have NB259_278 := n8_; have NB278_259 := n9_; have NB260_278 := n10_; have NB278_260 := n11_; clear n0_ n1_ n2_ n3_ n4_ n5_ n6_ n7_ n8_ n9_ n10_ n11_ hb hbox hg
          refine hK.out _ _ (cz4 BK259.out) (fun hHeld => ?_)
          clear hK K; refine nm_ 7 ?_
          exact norm_ (by first | (simp only [putAll, Act.put, List.setIfInBounds_toArray, List.set_cons_zero, List.set_cons_succ]; done) | (simp only [putAll, Act.put, List.setIfInBounds_toArray, List.set_cons_zero, List.set_cons_succ]; rfl)) (hJ4_9_10_13_15 (v266, .slice Ao40 y269.length co40, v273, .slice Ao39 y275.length co39, gb278) _ ⟨hHeld, (kR_ HO271.out), (kR_ HO277.out), (kb_ BK259.out), (kb_ BK260.out), (kb_ BK278.out), GW278.out, GE278.out, NB259_278.out, NB278_259.out, NB260_278.out, NB278_260.out, (hbA_ HB.out)⟩)
        rintro ⟨v266, v270, v273, v276, gb278⟩ w39 ⟨hS_, h0_, h1_, h2_, h3_, h4_, h5_, h6_, h7_, h8_, h9_, h10_, h11_⟩
        have n0_ : Aside0 (Kd.R (Kd.int .u8) 5 w39 w.heap.size (fun _ => True) v270 y269) := ⟨h0_⟩
        have n1_ : Aside0 (Kd.R k96 96 w39 w.heap.size (fun _ => True) v276 y275) := ⟨h1_⟩
        have n2_ : Aside0 (w39.heap[gb259]? = some (.cells #[.int .i64 a0_0, .int .i64 a0_1, .slice A0_2 l0_2.length c0_2, .slice A0_3 l0_3.length c0_3] 48 (0, 0))) := ⟨h2_⟩
        have n3_ : Aside0 (w39.heap[gb260]? = some (.cells #[.int .i64 0, .int .i64 0, .slice none 0 0, .slice none 0 0] 48 (0, 0))) := ⟨h3_⟩
        have n4_ : Aside0 (w39.heap[gb278]? = some (.cells #[.int .i64 0, .int .i64 0, .slice none 0 0, .slice none 0 0] 48 (0, 0))) := ⟨h4_⟩
        have n5_ : Aside0 (w.heap.size ≤ gb278) := ⟨h5_⟩
        have n6_ : Aside0 (w.heap.size ≤ gb278) := ⟨h6_⟩
        have n7_ : Aside0 (gb259 ≠ gb278) := ⟨h7_⟩
        have n8_ : Aside0 (gb278 ≠ gb259) := ⟨h8_⟩
        have n9_ : Aside0 (gb260 ≠ gb278) := ⟨h9_⟩
        have n10_ : Aside0 (gb278 ≠ gb260) := ⟨h10_⟩
        have n11_ : Aside0 (Below w.heap.size w w39) := ⟨h11_⟩
        clear BK259 BK260 HB h0_ h1_ h2_ h3_ h4_ h5_ h6_ h7_ h8_ h9_ h10_ h11_; have HO271 := n0_; have HO277 := n1_; have BK259 := n2_; have BK260 := n3_; have BK278 := n4_; have GW278 := n5_; have GE278 := n6_; have NB259_278 := n7_; have NB278_259 := n8_; have NB260_278 := n9_; have NB278_260 := n10_; have HB := n11_; clear n0_ n1_ n2_ n3_ n4_ n5_ n6_ n7_ n8_ n9_ n10_ n11_
        have hHeld : w39.cell? ⟨gb259, 0, none⟩ = some (.int .i64 a0_0) ∧ w39.cell? ⟨gb259, 1, none⟩ = some (.int .i64 a0_1) ∧ w39.cell? ⟨gb259, 2, none⟩ = some (.slice A0_2 l0_2.length c0_2) ∧ w39.cell? ⟨gb259, 3, none⟩ = some (.slice A0_3 l0_3.length c0_3) := hS_
        obtain ⟨Ao40, co40, eo40⟩ := Kd.R_slice HO277.out
        (first | subst eo40 | (injection eo40 with f1_ f2_ f3_; have f4_ := f1_.symm; have f5_ := f3_.symm; clear f1_ f2_ f3_; subst f4_; subst f5_))
        obtain ⟨Ao41, co41, eo41⟩ := Kd.R_slice HO271.out
        (first | subst eo41 | (injection eo41 with f1_ f2_ f3_; have f4_ := f1_.symm; have f5_ := f3_.symm; clear f1_ f2_ f3_; subst f4_; subst f5_))
        refine norm_ (a' := ?_) ?_ ?_
        rotate_left
        ·simp only [putAll, Act.put, List.setIfInBounds_toArray, List.set_cons_zero, List.set_cons_succ]
         rfl
        refine on_ (i := 16) (N := none) HT_ (fun K hK => ?_)
        have hs42 : w39.cell? ⟨gb278, 0, none⟩ = some (.int .i64 0) := bc_ BK278 0
        have hfs42 := blk_frozen BK278.out 0
        have hns42_0 := NB259_278.out; have hns42_1 := NB260_278.out; have hms42_0 := NB278_259.out; have hms42_1 := NB278_260.out
        have hs43 : w39.cell? ⟨gb278, 1, none⟩ = some (.int .i64 0) := bc_ BK278 1
        have hfs43 := blk_frozen BK278.out 1
        have hns43_0 := NB259_278.out; have hns43_1 := NB260_278.out; have hms43_0 := NB278_259.out; have hms43_1 := NB278_260.out
        have hs44 : w39.cell? ⟨gb278, 2, none⟩ = some (.slice none 0 0) := bc_ BK278 2
        have hfs44 := blk_frozen BK278.out 2
        have hns44_0 := NB259_278.out; have hns44_1 := NB260_278.out; have hms44_0 := NB278_259.out; have hms44_1 := NB278_260.out
        have hs45 : w39.cell? ⟨gb278, 3, none⟩ = some (.slice none 0 0) := bc_ BK278 3
        have hfs45 := blk_frozen BK278.out 3
        have hns45_0 := NB259_278.out; have hns45_1 := NB260_278.out; have hms45_0 := NB278_259.out; have hms45_1 := NB278_260.out
        refine skip_ (w1 := ?_) (by rfl) rfl ?_ ?_
        rotate_left
        ·go_simp
         rfl
        refine hK.out _ _ ⟨((cell_far (p := ⟨gb278, _, none⟩) NB259_278.out _).trans (((cell_far (p := ⟨gb278, _, none⟩) NB259_278.out _).trans (((cell_far (p := ⟨gb278, _, none⟩) NB259_278.out _).trans (((cell_far (p := ⟨gb278, _, none⟩) NB259_278.out _).trans (hHeld.1)))))))), ((cell_far (p := ⟨gb278, _, none⟩) NB259_278.out _).trans (((cell_far (p := ⟨gb278, _, none⟩) NB259_278.out _).trans (((cell_far (p := ⟨gb278, _, none⟩) NB259_278.out _).trans (((cell_far (p := ⟨gb278, _, none⟩) NB259_278.out _).trans (hHeld.2.1)))))))), ((cell_far (p := ⟨gb278, _, none⟩) NB259_278.out _).trans (((cell_far (p := ⟨gb278, _, none⟩) NB259_278.out _).trans (((cell_far (p := ⟨gb278, _, none⟩) NB259_278.out _).trans (((cell_far (p := ⟨gb278, _, none⟩) NB259_278.out _).trans (hHeld.2.2.1)))))))), ((cell_far (p := ⟨gb278, _, none⟩) NB259_278.out _).trans (((cell_far (p := ⟨gb278, _, none⟩) NB259_278.out _).trans (((cell_far (p := ⟨gb278, _, none⟩) NB259_278.out _).trans (((cell_far (p := ⟨gb278, _, none⟩) NB259_278.out _).trans (hHeld.2.2.2))))))))⟩ (fun hHeld => ?_)
        clear hK K
        refine done_ (done_of HT_.out (by kernel_rfl)) ?_
        try go_wp2
        obtain ⟨w46, h_w46⟩ : ∃ w_, ((((w39.setCell ⟨gb278, 0, none⟩ (.int .i64 a0_0)).setCell ⟨gb278, 1, none⟩ (.int .i64 a0_1)).setCell ⟨gb278, 2, none⟩ (.slice Ao41 y269.length co41)).setCell ⟨gb278, 3, none⟩ (.slice Ao40 y275.length co40)) = w_ := ⟨_, rfl⟩
        have n0_ : Aside0 (Kd.R (Kd.int .u8) 5 w46 w.heap.size (fun _ => True) (.slice Ao41 y269.length co41) y269) := ⟨by subst h_w46; refine kR_ ?_; exact rfm_ ((Kd.R_types HO271.out BK278.out (by decide))) (fun _ hk => trivial)⟩
        have n1_ : Aside0 (Kd.R k96 96 w46 w.heap.size (fun _ => True) (.slice Ao40 y275.length co40) y275) := ⟨by subst h_w46; refine kR_ ?_; exact rfm_ ((Kd.R_types HO277.out BK278.out (by decide))) (fun _ hk => trivial)⟩
        have n2_ : Aside0 (w46.heap[gb259]? = some (.cells #[.int .i64 a0_0, .int .i64 a0_1, .slice A0_2 l0_2.length c0_2, .slice A0_3 l0_3.length c0_3] 48 (0, 0))) := ⟨by subst h_w46; exact kf_ BK259.out⟩
        have n3_ : Aside0 (w46.heap[gb260]? = some (.cells #[.int .i64 0, .int .i64 0, .slice none 0 0, .slice none 0 0] 48 (0, 0))) := ⟨by subst h_w46; exact kf_ BK260.out⟩
        have n4_ : Aside0 (w46.heap[gb278]? = some (.cells #[.int .i64 a0_0, .int .i64 a0_1, .slice Ao41 y269.length co41, .slice Ao40 y275.length co40] 48 (0, 0))) := ⟨by subst h_w46; refine kb_ ?_; refine pz4 (cs := #[.int .i64 0, .int .i64 0, .slice none 0 0, .slice none 0 0]) ?_; refine kb_ ?_; exact BK278.out⟩
        have n5_ : Aside0 (Below w.heap.size w w46) := ⟨by subst h_w46; exact hbA_ HB.out⟩
        (try clear HO271); (try clear HO277); (try clear BK259); (try clear BK260); (try clear BK278); (try clear HB)
        (try rw [h_w46]); clear h_w46
        have HO271 := n0_; have HO277 := n1_; have BK259 := n2_; have BK260 := n3_; have BK278 := n4_; have HB := n5_; clear n0_ n1_ n2_ n3_ n4_ n5_; replace HO271 := Aside0.mk (Kd.R_drew HO271.out); replace HO277 := Aside0.mk (Kd.R_drew HO277.out); replace BK259 := Aside0.mk (blk_drew BK259.out); replace BK260 := Aside0.mk (blk_drew BK260.out); replace BK278 := Aside0.mk (blk_drew BK278.out); replace HB := (bd_ HB)
        obtain ⟨i048, hi048, _, hsz48, _⟩ := info_parts info5
        obtain ⟨hcut48, hA48, hC48⟩ := print_take_of (P := Try.prog) (Value.int .u8) 0 22 5 .i64 Try.underlying22 hi048 hsz48 A0_2 c0_2 l0_2 (ji14) (of_decide_eq_true (by first | (with_reducible assumption) | assumption)) (of_decide_eq_true (by first | (with_reducible assumption) | assumption)) HC0_2.out
        have HR282 := Aside0.mk (Kd.C_of_reads (h1 := fun _ => rfl) (hA48 _ (Kd.reads_of_C HR0_2.out)))
        have HC282 := Aside0.mk hC48; clear hA48 hC48 hi048 hsz48
        refine start_ (n := 9) (S := fun w' => w'.cell? ⟨gb278, 0, none⟩ = some (.int .i64 a0_0) ∧ w'.cell? ⟨gb278, 1, none⟩ = some (.int .i64 a0_1) ∧ w'.cell? ⟨gb278, 2, none⟩ = some (.slice Ao41 y269.length co41) ∧ w'.cell? ⟨gb278, 3, none⟩ = some (.slice Ao40 y275.length co40) ∧ w'.cell? ⟨gb259, 0, none⟩ = some (.int .i64 a0_0) ∧ w'.cell? ⟨gb259, 1, none⟩ = some (.int .i64 a0_1) ∧ w'.cell? ⟨gb259, 2, none⟩ = some (.slice A0_2 l0_2.length c0_2) ∧ w'.cell? ⟨gb259, 3, none⟩ = some (.slice A0_3 l0_3.length c0_3)) (ds := []) #[false, false, false, false, false, false, false, false, false] (by kernel_rfl) rfl rfl ⟨bc_ BK278 0, bc_ BK278 1, bc_ BK278 2, bc_ BK278 3, bc_ BK259 0, bc_ BK259 1, bc_ BK259 2, bc_ BK259 3⟩ (fun hHeld => ?_); refine with_tabW spec_EarRead.tab5 spec_EarRead.bits5 (fun HT_ HW_ => ?_)
        generalize w46.drew = w47 at HO271 HO277 BK259 BK260 BK278 HB HR282 hHeld ⊢
        refine pu_ (i := 2) (N := some 39) HT_ ?_; refine pu_ (i := 4) (N := some 41) HT_ ?_; refine tk_ (i := 0) (N := some 37) HT_ HW_ hHeld ?_; refine tk_ (i := 3) (N := some 40) HT_ HW_ hHeld ?_; refine pu_ (i := 5) (N := some 42) HT_ ?_
        refine on_ (i := 1) (N := some 38) HT_ (fun K hK => ?_)
        refine Kd.R_lit_step (Kd.int .u8) _ 5 ?hg (N := 38) ?hd (xs := ([] : List Int)) (inner := []) (ok := fun _ => True) (okp := fun _ => True) ?hr ?hp (fun _ hk => hk) trivial (Below.refl _ _) (Nat.le_refl _) (by simp) ?_; (case hd => rfl); (case hg => rfl); (case hr => first | (go_simp; done) | (go_simp; rfl)); (case hp => exact (Reps.none _ _))
        intro v280 w49 ho50 hb hg_ hnew_
        clear hg_ hnew_
        (first | rw [← Ny279.out] at ho50 | (simp only [Int.reduceToNat] at ho50; rw [← Ny279.out] at ho50))
        have n0_ := Aside0.mk (Kd.R_elder' (kR_ HO271.out) (Kd.R_base ho50) hb); have n1_ := Aside0.mk (Kd.R_below (kR_ HO277.out) hb); have n2_ := Aside0.mk (Kd.R_lower (Kd.R_new' ho50 (Kd.R_lt (kR_ HO271.out))) (below_size (hbA_ HB.out))); have n3_ := (bbA_ BK259 hb); have n4_ := (bbA_ BK260 hb); have n5_ := (bbA_ BK278 hb); have n6_ := (bs_ HB hb); clear HO271 HO277 BK259 BK260 BK278 HB; have HO271 := n0_; have HO277 := n1_; have HO281 := n2_; have BK259 := n3_; have BK260 := n4_; have BK278 := n5_; have HB := n6_; clear n0_ n1_ n2_ n3_ n4_ n5_ n6_ hb ho50
        refine hK.out _ _ ⟨bc_ BK278 0, bc_ BK278 1, bc_ BK278 2, bc_ BK278 3, bc_ BK259 0, bc_ BK259 1, bc_ BK259 2, bc_ BK259 3⟩ (fun hHeld => ?_)
        clear hK K; refine nm_ 38 ?_
        refine on_ (i := 6) (N := some 43) HT_ (fun K hK => ?_)
        refine Kd.R_append_rows_step (Kd.int .u8) (w0 := w) w.heap.size (by rfl) (.tmp 38) (.tmp 42) 22 5 (.int .u8 0) 1 rfl Try.underlying22 info5 rfl (by decide) (by omega) v280 y279 (l0_2.take ((ji14) : Int).toNat) _ _ _ (fun k_ => some k_ ≠ (.slice Ao41 y269.length co41 : Value).ownBlock) (fun _ => False) rfl rfl ?aO ?aR (fun _ _ h => h) (fun _ h => h.elim) ?aF ?aB ?aS ?aL ?_
        (case aR => first | (refine len_ (show (l0_2.take ((ji14) : Int).toNat).length = (ji14).toNat from (by rw [List.length_take]; have h_ : ((ji14) : Int) ≤ (l0_2.length : Int) := of_decide_eq_true (by first | (with_reducible assumption) | assumption); omega)) ?_; repeat (first | exact (Kd.C_below HR282.out HB.out) | (with_reducible refine Kd.C_alloc ?_ _) | (with_reducible refine Kd.C_drewN ?_ _) | (with_reducible refine Kd.C_drew ?_)); done) | (repeat (first | exact (Kd.C_below HR282.out HB.out) | (with_reducible refine Kd.C_alloc ?_ _) | (with_reducible refine Kd.C_drewN ?_ _) | (with_reducible refine Kd.C_drew ?_))))
        (case aB => exact (hbA_ HB.out))
        (case aF => exact (fun k_ hk => Kd.fresh' (Kd.R_lt (kR_ HO271.out)) k_ hk))
        (case aO => exact (by refine kR_ ?_; first | exact Kd.R_mono HO281.out (fun _ hk => hk.2) | exact Kd.R_mono HO281.out (fun _ _ => trivial)))
        (case aS => exact (below_size (hbA_ HB.out)))
        (case aL => have := LMc21.out; have hlx_ := (show (l0_2.take ((ji14) : Int).toNat).length = (ji14).toNat from (by rw [List.length_take]; have h_ : ((ji14) : Int) ≤ (l0_2.length : Int) := of_decide_eq_true (by first | (with_reducible assumption) | assumption); omega)); omega)
        intro v284 w51 ho hb hg hat
        rw [← Ny283.out] at ho
        have n0_ := (bgA_ BK259 hg (Kd.R_ne HO281.out BK259.out (by decide))); have n1_ := (bgA_ BK260 hg (Kd.R_ne HO281.out BK260.out (by decide))); have n2_ := Aside0.mk (Kd.R_after (ok := (fun _ => True)) (kR_ HO271.out) hg hat); have n3_ := Aside0.mk (Kd.R_over' (kR_ HO277.out) (Kd.R_typed (kR_ HO281.out)) (by decide) hg); have n4_ := (bgA_ BK278 hg (Kd.R_ne HO281.out BK278.out (by decide))); have n5_ := Aside0.mk (hb); have n6_ := Aside0.mk (ho); clear BK259 BK260 HO271 HO277 BK278 HB HO281; have BK259 := n0_; have BK260 := n1_; have HO271 := n2_; have HO277 := n3_; have BK278 := n4_; have HB := n5_; have HO285 := n6_; clear n0_ n1_ n2_ n3_ n4_ n5_ n6_ ho hb hg hat
        refine hK.out _ _ ⟨bc_ BK278 0, bc_ BK278 1, bc_ BK278 2, bc_ BK278 3, bc_ BK259 0, bc_ BK259 1, bc_ BK259 2, bc_ BK259 3⟩ (fun hHeld => ?_)
        clear hK K; refine nm_ 43 ?_
        refine on_ (i := 7) (N := none) HT_ (fun K hK => ?_)
        have hs52 : w51.cell? ⟨gb260, 0, none⟩ = some (.int .i64 0) := bc_ BK260 0
        have hfs52 := blk_frozen BK260.out 0
        have hns52_0 := NB259_260.out; have hns52_2 := NB278_260.out; have hms52_0 := NB260_259.out; have hms52_2 := NB260_278.out
        have hs53 : w51.cell? ⟨gb260, 1, none⟩ = some (.int .i64 0) := bc_ BK260 1
        have hfs53 := blk_frozen BK260.out 1
        have hns53_0 := NB259_260.out; have hns53_2 := NB278_260.out; have hms53_0 := NB260_259.out; have hms53_2 := NB260_278.out
        have hs54 : w51.cell? ⟨gb260, 2, none⟩ = some (.slice none 0 0) := bc_ BK260 2
        have hfs54 := blk_frozen BK260.out 2
        have hns54_0 := NB259_260.out; have hns54_2 := NB278_260.out; have hms54_0 := NB260_259.out; have hms54_2 := NB260_278.out
        have hs55 : w51.cell? ⟨gb260, 3, none⟩ = some (.slice none 0 0) := bc_ BK260 3
        have hfs55 := blk_frozen BK260.out 3
        have hns55_0 := NB259_260.out; have hns55_2 := NB278_260.out; have hms55_0 := NB260_259.out; have hms55_2 := NB260_278.out
        refine skip_ (w1 := ?_) (by rfl) rfl ?_ ?_
        rotate_left
        ·go_simp
         rfl
        refine hK.out _ _ ⟨((cell_far (p := ⟨gb260, _, none⟩) NB278_260.out _).trans (((cell_far (p := ⟨gb260, _, none⟩) NB278_260.out _).trans (((cell_far (p := ⟨gb260, _, none⟩) NB278_260.out _).trans (((cell_far (p := ⟨gb260, _, none⟩) NB278_260.out _).trans (hHeld.1)))))))), ((cell_far (p := ⟨gb260, _, none⟩) NB278_260.out _).trans (((cell_far (p := ⟨gb260, _, none⟩) NB278_260.out _).trans (((cell_far (p := ⟨gb260, _, none⟩) NB278_260.out _).trans (((cell_far (p := ⟨gb260, _, none⟩) NB278_260.out _).trans (hHeld.2.1)))))))), ((cell_far (p := ⟨gb260, _, none⟩) NB278_260.out _).trans (((cell_far (p := ⟨gb260, _, none⟩) NB278_260.out _).trans (((cell_far (p := ⟨gb260, _, none⟩) NB278_260.out _).trans (((cell_far (p := ⟨gb260, _, none⟩) NB278_260.out _).trans (hHeld.2.2.1)))))))), ((cell_far (p := ⟨gb260, _, none⟩) NB278_260.out _).trans (((cell_far (p := ⟨gb260, _, none⟩) NB278_260.out _).trans (((cell_far (p := ⟨gb260, _, none⟩) NB278_260.out _).trans (((cell_far (p := ⟨gb260, _, none⟩) NB278_260.out _).trans (hHeld.2.2.2.1)))))))), ((cell_far (p := ⟨gb260, _, none⟩) NB259_260.out _).trans (((cell_far (p := ⟨gb260, _, none⟩) NB259_260.out _).trans (((cell_far (p := ⟨gb260, _, none⟩) NB259_260.out _).trans (((cell_far (p := ⟨gb260, _, none⟩) NB259_260.out _).trans (hHeld.2.2.2.2.1)))))))), ((cell_far (p := ⟨gb260, _, none⟩) NB259_260.out _).trans (((cell_far (p := ⟨gb260, _, none⟩) NB259_260.out _).trans (((cell_far (p := ⟨gb260, _, none⟩) NB259_260.out _).trans (((cell_far (p := ⟨gb260, _, none⟩) NB259_260.out _).trans (hHeld.2.2.2.2.2.1)))))))), ((cell_far (p := ⟨gb260, _, none⟩) NB259_260.out _).trans (((cell_far (p := ⟨gb260, _, none⟩) NB259_260.out _).trans (((cell_far (p := ⟨gb260, _, none⟩) NB259_260.out _).trans (((cell_far (p := ⟨gb260, _, none⟩) NB259_260.out _).trans (hHeld.2.2.2.2.2.2.1)))))))), ((cell_far (p := ⟨gb260, _, none⟩) NB259_260.out _).trans (((cell_far (p := ⟨gb260, _, none⟩) NB259_260.out _).trans (((cell_far (p := ⟨gb260, _, none⟩) NB259_260.out _).trans (((cell_far (p := ⟨gb260, _, none⟩) NB259_260.out _).trans (hHeld.2.2.2.2.2.2.2))))))))⟩ (fun hHeld => ?_)
        clear hK K; refine pu_ (i := 8) (N := some 5) HT_ ?_
        refine done_ (done_of HT_.out (by kernel_rfl)) ?_
        try go_wp2
        refine bodyPost_ret (results_ct rfl _ _ gb260 48 #[.int .i64 a0_0, .int .i64 a0_1, .slice Ao41 y269.length co41, .slice Ao40 y275.length co40] (0, 0) _ rfl (by refine kb_ ?_; refine pz4 (cs := #[.int .i64 0, .int .i64 0, .slice none 0 0, .slice none 0 0]) ?_; refine kb_ ?_; exact BK260.out) Try.underlying48 rfl (by kernel_rfl)) rfl ?_
        exact ⟨_, _, _, by first | rfl | (simp [errW_none, errW_some] <;> rfl) | (simp only [← hji14]; first | rfl | (simp [errW_none, errW_some] <;> rfl)) | (simp [*, errW_none, errW_some] <;> rfl), by refine kR_ ?_; exact rfm_ ((Kd.R_types HO271.out BK260.out (by decide))) (fun _ hk => hk.1.2), by refine kR_ ?_; exact rfm_ ((Kd.R_types HO277.out BK260.out (by decide))) (fun _ hk => trivial), by refine kR_ ?_; exact rfm_ ((Kd.R_types HO285.out BK260.out (by decide))) (fun _ hk => hk.1), hbA_ HB.out⟩
       ·rw [if_neg c21] at H
        exact absurd H (by simp)
      ·rw [if_neg c18] at H
       exact absurd H (by simp)
     ·rw [if_neg c17] at H
      exact absurd H (by simp)
    ·rw [if_neg c16] at H
     exact absurd H (by simp)
   ·rw [if_neg c15] at H
    exact absurd H (by simp)
 ·replace c4 := Bool.eq_false_iff.mpr c4
  subst c4
  rw [if_neg (show ¬ (false = true) by decide)] at H
  obtain ⟨y286, hy286⟩ : ∃ y_ : List Int, y_ = (([] : List Int)) := ⟨_, rfl⟩
  (first | replace H := sb_ hy286 H | rw [← hy286] at H)
  have Ny286 := Aside0.mk hy286; clear hy286
  simp only [Option.some.injEq, Prod.mk.injEq] at H
  obtain ⟨rfl, rfl, rfl, rfl, rfl⟩ := H
  go_enter Try.func40, Try.ntmps40
  go_wp2_with (first | ((with_reducible refine gate_dst (N := 2) rfl ?_); refine box_ (N := 2) (cs := #[.int .i64 a0_0, .int .i64 a0_1, .slice A0_2 l0_2.length c0_2, .slice A0_3 l0_3.length c0_3]) (t := 48) (fun gb259 hg w56 hbox hb => ?_); have BK259 := Aside0.mk (hbox); have GW259 := ge_ hg HB; have GE259 := ge_ hg HB; replace HB := (bs_ HB hb); clear hb hbox hg) | ((with_reducible refine gate_dst (N := 4) rfl ?_); refine box_ (N := 4) (cs := #[.int .i64 0, .int .i64 0, .slice none 0 0, .slice none 0 0]) (t := 48) (fun gb260 hg w57 hbox hb => ?_); have BK260 := Aside0.mk (hbox); have GW260 := ge_ hg HB; have GE260 := ge_ hg HB; replace HB := (bs_ HB hb); have NB259_260 := nl_ hg BK259; have NB260_259 := ng_ hg BK259; replace BK259 := (bbA_ BK259 hb); clear hb hbox hg; have hnb58 := NB259_260.out; have hnc58 := NB260_259.out; have Z59 := zz4 BK259) | ((with_reducible refine gate_callee (f := 66) rfl ?_); refine goesL_ (some 9) rfl rfl Try.func66 (by kernel_rfl) rfl #[.agg #[.int .i64 a0_0, .int .i64 a0_1, .slice A0_2 l0_2.length c0_2, .slice A0_3 l0_3.length c0_3]] rfl ar_ ?_; (with_reducible refine (spec_EarOk.calls k a0_0 a0_1 _ _ l0_2 _ _ l0_3 false _ ?side1 ?side2 ?side3 ?side4 A3.out).mono ?_); (case side1 => exact kC_ (Kd.C_below HR0_2.out HB.out)); (case side2 => exact HC0_2.out); (case side3 => exact kC_ (Kd.C_below HR0_3.out HB.out)); (case side4 => exact HC0_3.out); rintro e w60 ⟨rfl, hb⟩; refine ⟨_, rfl, ?_⟩; replace BK259 := (bbA_ BK259 hb); replace BK260 := (bbA_ BK260 hb); replace HB := (bs_ HB hb); (try clear hb); (try clear hb2); (try clear hk); (try clear hi)) | ((with_reducible refine gate_dst (N := 16) rfl ?_); refine Kd.R_lit (Kd.int .u8) _ 5 ?hg (N := 16) ?hd (xs := ([] : List Int)) (inner := []) (ok := fun _ => True) (okp := fun _ => True) ?hr ?hp (fun _ hk => hk) trivial (Below.refl _ _) (Nat.le_refl _) (by simp) ?_; (case hd => rfl); (case hg => rfl); (case hr => first | (go_simp; done) | (go_simp; rfl)); (case hp => exact (Reps.none _ _)); intro v287 w61 ho62 hb hg_ hnew_; clear hg_ hnew_; (first | rw [← Ny286.out] at ho62 | (simp only [Int.reduceToNat] at ho62; rw [← Ny286.out] at ho62)); have HO288 := Aside0.mk (Kd.R_lower ho62 (below_size (hbA_ HB.out))); replace BK259 := (bbA_ BK259 hb); replace BK260 := (bbA_ BK260 hb); replace HB := (bs_ HB hb); clear hb ho62; have Z63 := zz4 BK260))
  refine bodyPost_ret (results_ct rfl _ _ gb260 48 #[.int .i64 0, .int .i64 0, .slice none 0 0, .slice none 0 0] (0, 0) _ rfl (by refine kb_ ?_; refine pz4 (cs := #[.int .i64 0, .int .i64 0, .slice none 0 0, .slice none 0 0]) ?_; refine kb_ ?_; exact BK260.out) Try.underlying48 rfl (by kernel_rfl)) rfl ?_
  exact ⟨_, _, _, by first | rfl | (simp [errW_none, errW_some] <;> rfl) | (simp [*, errW_none, errW_some] <;> rfl), by (try rw [Ny286.out]); first | exact Kd.R_nil _ _ _ _ _ | exact Kd.N_nil _ _ _ _ _ | exact Kd.V_nil _ _ _ _ _ | exact Kd.Q_nil _ _ _ _ _ | exact Kd.S_nil _ _ _ _ _, by (try rw [Ny286.out]); first | exact Kd.R_nil _ _ _ _ _ | exact Kd.N_nil _ _ _ _ _ | exact Kd.V_nil _ _ _ _ _ | exact Kd.Q_nil _ _ _ _ _ | exact Kd.S_nil _ _ _ _ _, by refine kR_ ?_; exact rfm_ ((Kd.R_types HO288.out BK260.out (by decide))) (fun _ hk => (by simp [Value.ownBlock])), hbA_ HB.out⟩
def spec_l20Stream.f (a0 : Int) : Option (Int) := some ((wrap64 (97 + (Int.tmod (wrap64 ((wrap64 (a0 * 7)) + (wrap64 (Int.tdiv a0 5)))) 26))) % 256)
set_option maxHeartbeats 8000000 in
set_option maxRecDepth 100000 in
theorem spec_l20Stream.calls (a0 : Int) (r : Int) (w : World) (h : spec_l20Stream.f a0 = some r) :
  Calls Try.prog 100 #[.int .i64 a0] w fun e w' => e = .returned (.int .u8 r) ∧ Drawn0 w w' := by
 have H : (some ((wrap64 (97 + (Int.tmod (wrap64 ((wrap64 (a0 * 7)) + (wrap64 (Int.tdiv a0 5)))) 26))) % 256)) = some r := h
 clear h
 obtain rfl := Option.some.inj H
 go_enter Try.func100, Try.ntmps100
 go_wp2
 go_ret
 exact ⟨by first | rfl | (simp; done) | (simp [*]; done), by repeat (first | exact Drawn0.refl _ | apply Drawn0.step)⟩
def spec_l20Heard.l0 : Nat → Int → Int → List Int → Int → Option (List Int)
 | 0, _, _, _, _ => none
 | k + 1, x0, x1, x5, x6 => if x6 < x1 then ((spec_l20Stream.f (wrap64 (x0 + x6))).bind fun t292 => (if x5.length < 140737488355328 then (spec_l20Heard.l0 k x0 x1 (x5 ++ [t292]) (wrap64 (x6 + 1))) else (none))) else (some x5)
def spec_l20Heard.f (k : Nat) (a0 : Int) (a1 : Int) : Option (List Int) := spec_l20Heard.l0 k a0 a1 (([] : List Int)) 0
theorem spec_l20Heard.mono_l : ∀ k, (∀ y0 y1 y2 y3, LeO (spec_l20Heard.l0 k y0 y1 y2 y3) (spec_l20Heard.l0 (k + 1) y0 y1 y2 y3))
 | 0 => fun _ _ _ _ r h => by simp [spec_l20Heard.l0] at h
 | k + 1 => by
  have ih0 := spec_l20Heard.mono_l k
  ·intro y0 y1 y2 y3
   unfold spec_l20Heard.l0
   repeat' first | (with_reducible first | apply ih0 | exact LeO.refl _ | exact LeO.none _ | refine LeO.ite ?_ ?_ | refine LeO.bind ?_ fun _ => ?_) | apply ih0 | exact LeO.none _ | refine LeO.ite ?_ ?_ | refine LeO.bind ?_ fun _ => ?_
theorem spec_l20Heard.mono : ∀ a0 a1 k, LeO (spec_l20Heard.f k a0 a1) (spec_l20Heard.f (k + 1) a0 a1) := by
 intro a0 a1 k
 have ih0 := spec_l20Heard.mono_l k
 unfold spec_l20Heard.f
 repeat' first | (with_reducible first | apply ih0 | exact LeO.refl _ | exact LeO.none _ | refine LeO.ite ?_ ?_ | refine LeO.bind ?_ fun _ => ?_) | apply ih0 | exact LeO.none _ | refine LeO.ite ?_ ?_ | refine LeO.bind ?_ fun _ => ?_
set_option maxHeartbeats 8000000 in
set_option maxRecDepth 100000 in
theorem spec_l20Heard.calls (k : Nat) (a0 : Int) (a1 : Int) (r : List Int) (w : World) (h : spec_l20Heard.f k a0 a1 = some r) :
  Calls Try.prog 76 #[.int .i64 a0, .int .i64 a1] w fun e w' => ∃ v0_ : Value, e = .returned (v0_) ∧ Kd.R (Kd.int .u8) 5 w' w.heap.size (fun _ => True) v0_ r ∧ Below w.heap.size w w' := by
 have HB := Aside0.mk (Below.refl w.heap.size w)
 have H : (spec_l20Heard.l0 k a0 a1 (([] : List Int)) 0) = some r := h
 clear h
 obtain ⟨y289, hy289⟩ : ∃ y_ : List Int, y_ = (([] : List Int)) := ⟨_, rfl⟩
 (first | replace H := sb_ hy289 H | rw [← hy289] at H)
 have Ny289 := Aside0.mk hy289; clear hy289
 have H' := Aside0.mk H
 clear H
 go_enter Try.func76, Try.ntmps76
 go_wp2_with (first | ((with_reducible refine gate_dst (N := 7) rfl ?_); refine Kd.R_lit (Kd.int .u8) _ 5 ?hg (N := 7) ?hd (xs := ([] : List Int)) (inner := []) (ok := fun _ => True) (okp := fun _ => True) ?hr ?hp (fun _ hk => hk) trivial (Below.refl _ _) (Nat.le_refl _) (by simp) ?_; (case hd => rfl); (case hg => rfl); (case hr => first | (go_simp; done) | (go_simp; rfl)); (case hp => exact (Reps.none _ _)); intro v290 w3 ho4 hb hg_ hnew_; clear hg_ hnew_; (first | rw [← Ny289.out] at ho4 | (simp only [Int.reduceToNat] at ho4; rw [← Ny289.out] at ho4)); have HO291 := Aside0.mk (Kd.R_lower ho4 (below_size (hbA_ HB.out))); replace HB := (bs_ HB hb); clear hb ho4))
 go_loopg [5, 6] k (fun kq v5 v6 w' => ∃ (x5_1 : List Int) (x6_1 : Int), v6 = .int .i64 x6_1 ∧ Aside0 (spec_l20Heard.l0 kq a0 a1 x5_1 x6_1 = some r) ∧ Aside0 (kq ≤ k) ∧ Aside0 (Kd.R (Kd.int .u8) 5 w' w.heap.size (fun _ => True) v5 x5_1) ∧ Aside0 (Below w.heap.size w w'))
 case atStart => exact ⟨(y289), (0), (by first | rfl | (simp; done) | (simp [*]; done)), H', ⟨Nat.le_refl _⟩, ⟨kR_ HO291.out⟩, ⟨hbA_ HB.out⟩⟩
 case round =>
  clear H'; (try clear p2)
  obtain ⟨x5_1, x6_1, rfl, HA, HK1, HO_5, HB⟩ := hrel
  cases gk with
  | zero => exact absurd HA.out (by simp [spec_l20Heard.l0])
  | succ k1 =>
   have H := HA.out; clear HA
   simp only [spec_l20Heard.l0] at H
   by_cases c5 : x6_1 < a1
   ·rw [if_pos c5] at H
    have c5b0 : decide (x6_1 < a1) = true := decide_eq_true c5
    clear c5
    replace H := Option.bind_eq_some_iff.mp H
    obtain ⟨t292, A60, H⟩ := H
    (try dsimp only at H)
    have A6 := Aside0.mk A60; clear A60
    by_cases c7 : x5_1.length < 140737488355328
    ·rw [if_pos c7] at H
     have LMc7 := Aside0.mk c7; clear c7
     obtain ⟨y293, hy293⟩ : ∃ y_ : List Int, y_ = (x5_1 ++ [t292]) := ⟨_, rfl⟩
     (first | replace H := sb_ hy293 H | rw [← hy293] at H)
     have Ny293 := Aside0.mk hy293; clear hy293
     have H' := Aside0.mk H
     clear H
     go_wp2_with (first | ((with_reducible refine gate_callee (f := 100) rfl ?_); refine goesL_ (some 17) rfl rfl Try.func100 (by kernel_rfl) rfl #[.int .i64 (wrap64 (a0 + x6_1))] rfl ar_ ?_; (with_reducible refine (spec_l20Stream.calls (wrap64 (a0 + x6_1)) t292 _ A6.out).mono ?_); rintro e w' ⟨rfl, ⟨nd, rfl⟩⟩; refine ⟨_, rfl, ?_⟩) | ((with_reducible refine gate_builtin (b := .append) (xs := #[.tmp 13, .tmp 18]) rfl ?_); at_builtin; refine Kd.R_append (Kd.int .u8) (w0 := w) w.heap.size rfl (.tmp 13) (.tmp 18) 22 5 (.int .u8 0) 1 rfl Try.underlying22 info5 rfl (by decide) (by omega) u5 x5_1 t292 [.int .u8 t292] (fun _ => True) (fun _ => False) rfl rfl ?aP (fun _ hk => hk.elim) ?aF ?aO ?aB ?aS ?aL ?_; (case aP => exact rfl); (case aB => exact (hbA_ HB.out)); (case aF => exact (fun _ _ => trivial)); (case aO => exact (kR_ HO_5.out)); (case aS => exact (below_size (hbA_ HB.out))); (case aL => have := LMc7.out; omega); intro v294 w8 ho hb hg hat; rw [← Ny293.out] at ho; replace HB := Aside0.mk (hb); have HO295 := Aside0.mk (ho); clear HO_5; clear ho hb hg hat))
     go_roundg k1
     case measure => have := HK1.out; omega
     case rel => exact ⟨(y293), (wrap64 (x6_1 + 1)), (by first | rfl | (simp; done) | (simp [*]; done)), H', ⟨by have := HK1.out; omega⟩, ⟨kR_ HO295.out⟩, ⟨hbA_ HB.out⟩⟩
    ·rw [if_neg c7] at H
     exact absurd H (by simp)
   ·rw [if_neg c5] at H
    have c5b0 : decide (x6_1 < a1) = false := decide_eq_false c5
    clear c5
    obtain rfl := Option.some.inj H
    go_wp2
    go_ret
    exact ⟨_, by first | rfl | (simp [errW_none, errW_some] <;> rfl) | (simp [*, errW_none, errW_some] <;> rfl), kR_ HO_5.out, hbA_ HB.out⟩
def spec_l20Rd_odd.f (k : Nat) (s0_0 : List Int) (s0_1 : Int) (a1 : Int) : Option (Bool × Int) := if a1 > 0 then ((spec_l20Rd_pick.f k s0_0 s0_1 a1).bind fun bt296 => (some ((bt296.1 == (wrap64 (a1 - 1))), bt296.2))) else (some (false, s0_1))
theorem spec_l20Rd_odd.mono : ∀ a0 a1 a2 k, LeO (spec_l20Rd_odd.f k a0 a1 a2) (spec_l20Rd_odd.f (k + 1) a0 a1 a2) := by
 intro a0 a1 a2 k
 unfold spec_l20Rd_odd.f
 repeat' first | (with_reducible first | apply spec_l20Rd_pick.mono | exact LeO.refl _ | exact LeO.none _ | refine LeO.ite ?_ ?_ | refine LeO.bind ?_ fun _ => ?_) | apply spec_l20Rd_pick.mono | exact LeO.none _ | refine LeO.ite ?_ ?_ | refine LeO.bind ?_ fun _ => ?_
set_option maxHeartbeats 8000000 in
set_option maxRecDepth 100000 in
theorem spec_l20Rd_odd.calls (k : Nat) (g : Nat) (s0_0 : List Int) (s0_1 : Int) (a1 : Int) (r1 : Bool) (r2 : Int) (w0 w : World) (hI : IsS113 w0 w g s0_0 s0_1) (hB : Below w0.heap.size w0 w) (h : spec_l20Rd_odd.f k s0_0 s0_1 a1 = some (r1, r2)) :
  Calls Try.prog 90 #[.pointer (some ⟨g, 0, none⟩), .int .i64 a1] w fun e w' => e = .returned (.bool r1) ∧ IsS113 w0 w' g s0_0 r2 ∧ Below w0.heap.size w0 w' ∧ KeepBut w w' g none := by
 have HI0 := Aside0.mk hI
 have HK := Aside0.mk (KeepBut.refl w g none)
 have HL := Aside0.mk hB.size; clear hI; have HW0 := Aside0.mk hB.size; have HB := Aside0.mk hB; clear hB
 have H : (if a1 > 0 then ((spec_l20Rd_pick.f k s0_0 s0_1 a1).bind fun bt296 => (some ((bt296.1 == (wrap64 (a1 - 1))), bt296.2))) else (some (false, s0_1))) = some (r1, r2) := h
 clear h
 by_cases c3 : a1 > 0
 ·rw [if_pos c3] at H
  have c3b0 : decide (0 < a1) = true := decide_eq_true c3
  clear c3
  replace H := Option.bind_eq_some_iff.mp H
  obtain ⟨⟨t296, t297⟩, A40, H⟩ := H
  (try dsimp only at H)
  have A4 := Aside0.mk A40; clear A40
  simp only [Option.some.injEq, Prod.mk.injEq] at H
  obtain ⟨rfl, rfl⟩ := H
  go_enter Try.func90, Try.ntmps90
  go_wp2_with (first | (go_at_call 54; (with_reducible refine (spec_l20Rd_pick.calls k g s0_0 s0_1 a1 t296 t297 w0 _ ?side1 ?side2 A4.out).mono ?_); (case side1 => exact is113_ HI0.out); (case side2 => exact hb113_ HB.out); rintro e w5 ⟨rfl, hi, hb, hk⟩; replace HK := (kk_ HK hk); replace HB := Aside0.mk (hb); replace HI0 := Aside0.mk (hi); (try clear hb); (try clear hb2); (try clear hk); (try clear hi)))
  go_ret
  exact ⟨by first | rfl | (simp [errW_none, errW_some] <;> rfl) | (simp [*, errW_none, errW_some] <;> rfl), is113_ HI0.out, hb113_ HB.out, hkA_ HK.out⟩
 ·rw [if_neg c3] at H
  have c3b0 : decide (0 < a1) = false := decide_eq_false c3
  clear c3
  simp only [Option.some.injEq, Prod.mk.injEq] at H
  obtain ⟨rfl, rfl⟩ := H
  go_enter Try.func90, Try.ntmps90
  go_wp2
  go_ret
  exact ⟨by first | rfl | (simp [errW_none, errW_some] <;> rfl) | (simp [*, errW_none, errW_some] <;> rfl), is113_ HI0.out, hb113_ HB.out, hkA_ HK.out⟩
end Go.Proofs.Ytbhofhdmbbipgaa.PFnEarHear
