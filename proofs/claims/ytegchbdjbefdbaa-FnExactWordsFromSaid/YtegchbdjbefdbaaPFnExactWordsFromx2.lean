/- Printed by wip/xp/xprint.sh out of the translation, for this claim: what each function answers, as a plain function, and that the machine does just that. No condition. -/
import Derived.Test.YtegchbdjbefdbaaPFnExactWordsFromx0
import Derived.Test.YtegchbdjbefdbaaPFnExactWordsFromx1
namespace Go.Proofs.Ytegchbdjbefdbaa.PFnExactWordsFrom
open Go.RowKit Go.Proofs.YtegchbdjbefdbaaW.PrintWords Go.Proofs.YtegchbdjbefdbaaW.PrintLast Go.Proofs.YtegchbdjbefdbaaW.PrintMore
attribute [local go_sem] max2_int min2_int max_two min_two max_three min_three max_four min_four   -- for this text's walks alone
set_option linter.unusedVariables false
set_option linter.unusedSimpArgs false
def spec_WordsFrom.l0 : Nat → List Int → List (S41) → Int → Option ((List (S41)) × Int × Bool)
 | 0, _, _, _ => none
 | k + 1, x0, x5, x6 => if (wrap64 (x6 + 2)) ≤ (x0.length : Int) then (if 0 ≤ x6 then (if x6 < (x0.length : Int) then (if (wrap64 (rd x0 x6)) ≤ 9 then (if (wrap64 ((wrap64 (x6 + 2)) + (wrap64 (rd x0 x6)))) ≤ (x0.length : Int) then (if 0 ≤ (wrap64 (x6 + 1)) then (if (wrap64 (x6 + 1)) < (x0.length : Int) then ((some (([] : List Int) : List Int)).bind fun y131 => (if 0 ≤ (wrap64 (x6 + 2)) then (if (wrap64 (x6 + 2)) ≤ (wrap64 ((wrap64 (x6 + 2)) + (wrap64 (rd x0 x6)))) then (if y131.length + ((x0.take ((wrap64 ((wrap64 (x6 + 2)) + (wrap64 (rd x0 x6)))) : Int).toNat).drop ((wrap64 (x6 + 2)) : Int).toNat).length < 140737488355328 then (if x5.length < 4398046511104 then (spec_WordsFrom.l0 k x0 (x5 ++ [(⟨wrap64 (rd x0 (wrap64 (x6 + 1))), (y131 ++ ((x0.take ((wrap64 ((wrap64 (x6 + 2)) + (wrap64 (rd x0 x6)))) : Int).toNat).drop ((wrap64 (x6 + 2)) : Int).toNat))⟩ : S41)]) (wrap64 ((wrap64 (x6 + 2)) + (wrap64 (rd x0 x6))))) else (none)) else (none)) else (none)) else (none))) else (none)) else (none)) else (if x6 = (x0.length : Int) then (some (x5, x6, true)) else (some (x5, x6, decide ((wrap64 (rd x0 x6)) ≤ 9))))) else (if x6 = (x0.length : Int) then (some (x5, x6, true)) else (some (x5, x6, decide ((wrap64 (rd x0 x6)) ≤ 9))))) else (none)) else (none)) else (if x6 = (x0.length : Int) then (some (x5, x6, true)) else (if 0 ≤ x6 then (if x6 < (x0.length : Int) then (some (x5, x6, decide ((wrap64 (rd x0 x6)) ≤ 9))) else (none)) else (none)))
def spec_WordsFrom.f (k : Nat) (l0 : List Int) : Option ((List (S41)) × Int × Bool) := spec_WordsFrom.l0 k l0 (([] : List (S41))) 0
theorem spec_WordsFrom.mono_l : ∀ k, (∀ y0 y1 y2, LeO (spec_WordsFrom.l0 k y0 y1 y2) (spec_WordsFrom.l0 (k + 1) y0 y1 y2))
 | 0 => fun _ _ _ r h => by simp [spec_WordsFrom.l0] at h
 | k + 1 => by
  have ih0 := spec_WordsFrom.mono_l k
  ·intro y0 y1 y2
   unfold spec_WordsFrom.l0
   repeat' first | (with_reducible first | apply ih0 | exact LeO.refl _ | exact LeO.none _ | refine LeO.ite ?_ ?_ | refine LeO.bind ?_ fun _ => ?_) | apply ih0 | exact LeO.none _ | refine LeO.ite ?_ ?_ | refine LeO.bind ?_ fun _ => ?_
theorem spec_WordsFrom.mono : ∀ a0 k, LeO (spec_WordsFrom.f k a0) (spec_WordsFrom.f (k + 1) a0) := by
 intro a0 k
 have ih0 := spec_WordsFrom.mono_l k
 unfold spec_WordsFrom.f
 repeat' first | (with_reducible first | apply ih0 | exact LeO.refl _ | exact LeO.none _ | refine LeO.ite ?_ ?_ | refine LeO.bind ?_ fun _ => ?_) | apply ih0 | exact LeO.none _ | refine LeO.ite ?_ ?_ | refine LeO.bind ?_ fun _ => ?_
def spec_WordsFrom.T5 : Bool × List (List Nat × List Nat) := (true, [([], []), ([], []), ([], []), ([2], [2]), ([1, 3], [1, 3]), ([4], [4]), ([5], [5]), ([], []), ([], []), ([], []), ([9], [9]), ([], []), ([11], [11]), ([], []), ([12, 13], [12, 13]), ([8, 10, 14], [8, 10, 14]), ([7, 15], [7, 15]), ([6, 16], [6, 16]), ([17], [17]), ([0, 18, 16], [0, 18]), ([19, 19, 0, 1, 2, 3, 4, 5, 6, 7, 8, 9, 10, 11, 12, 13, 14, 15, 16, 17, 18, 19], [0, 19])])
def spec_WordsFrom.B5 : List Nat := [0, 0, 0, 4, 14, 30, 62, 0, 0, 0, 512, 0, 2048, 0, 14336, 32512, 65408, 131070, 262142, 524287, 1048575]
theorem spec_WordsFrom.tab5 : rtab .any (opsOf Try.f40 5) = spec_WordsFrom.T5 := by kernel_rfl
theorem spec_WordsFrom.bits5 : waitsOk spec_WordsFrom.T5.2 spec_WordsFrom.B5 = true := by kernel_rfl
def spec_WordsFrom.T7 : Bool × List (List Nat × List Nat) := (true, [([], []), ([], []), ([], []), ([], []), ([3], [3]), ([2, 4], [2, 4]), ([5], [5]), ([6], [6]), ([6], [6]), ([7, 8, 6], [6, 7, 8]), ([9, 6], [6, 9]), ([10, 6], [6, 10]), ([11, 6], [6, 11]), ([6, 12], [6, 12]), ([0, 6, 0], [0]), ([1, 14, 0, 1, 14], [1]), ([13, 15, 0, 1, 2, 3, 4, 5, 6, 7, 8, 9, 10, 11, 12, 13, 14, 15], [13])])
def spec_WordsFrom.B7 : List Nat := [0, 0, 0, 0, 8, 28, 60, 124, 124, 508, 1020, 2044, 4092, 8188, 125, 16511, 65535]
theorem spec_WordsFrom.tab7 : rtab .any (opsOf Try.f40 7) = spec_WordsFrom.T7 := by kernel_rfl
theorem spec_WordsFrom.bits7 : waitsOk spec_WordsFrom.T7.2 spec_WordsFrom.B7 = true := by kernel_rfl
set_option maxHeartbeats 8000000 in
set_option maxRecDepth 100000 in
theorem spec_WordsFrom.calls (k : Nat) (A0 : Option Addr) (c0 : Nat) (l0 : List Int) (r1 : List (S41)) (r2 : Int) (r3 : Bool) (w : World) (hr0 : Kd.C (Kd.int .u8) w A0 l0.length l0) (hc0 : l0.length ≤ c0) (h : spec_WordsFrom.f k l0 = some (r1, r2, r3)) :
  Calls Try.prog 40 #[.slice A0 l0.length c0] w fun e w' => ∃ v0_ : Value, e = .returned (.tuple #[v0_, .int .i64 r2, .bool r3]) ∧ Kd.S k41 41 w' w.heap.size (fun _ => True) v0_ r1 ∧ Below w.heap.size w w' := by
 have hu41 := Try.underlying41; have HR0 := Aside0.mk hr0; have HC0 := Aside0.mk hc0; clear hr0 hc0
 have HB := Aside0.mk (Below.refl w.heap.size w)
 have H : (spec_WordsFrom.l0 k l0 (([] : List (S41))) 0) = some (r1, r2, r3) := h
 clear h
 obtain ⟨y124, hy124⟩ : ∃ y_ : List (S41), y_ = (([] : List (S41))) := ⟨_, rfl⟩
 (first | replace H := sb_ hy124 H | rw [← hy124] at H)
 have Ny124 := Aside0.mk hy124; clear hy124
 have H' := Aside0.mk H
 clear H
 go_enter Try.func40, Try.ntmps40
 go_wp2_with (first | ((with_reducible refine gate_dst (N := 8) rfl ?_); (try (refine gate_guard (by rfl) ?_; dsimp only)); refine Kd.S_lit k41 _ 41 ?hg (N := 8) ?hd (xs := ([] : List (S41))) (inner := []) (ok := fun _ => True) (okp := fun _ => True) ?hr ?hp (fun _ hk => hk) trivial (Below.refl _ _) (Nat.le_refl _) (by simp) ?_; (case hd => rfl); (case hg => rfl); (case hr => first | (go_simp; done) | (go_simp; rfl)); (case hp => exact (Reps.none _ _)); intro v125 w2 ho3 hb hg_ hnew_; clear hg_ hnew_; (first | rw [← Ny124.out] at ho3 | (simp only [Int.reduceToNat] at ho3; rw [← Ny124.out] at ho3)); have HO126 := Aside0.mk (Kd.S_lower ho3 (below_size (hbA_ HB.out))); replace HB := (bs_ HB hb); clear hb ho3))
 go_loopg [5, 6] k (fun kq v5 v6 w' => ∃ (x5_1 : List (S41)) (x6_1 : Int), v6 = .int .i64 x6_1 ∧ Aside0 (spec_WordsFrom.l0 kq l0 x5_1 x6_1 = some (r1, r2, r3)) ∧ Aside0 (kq ≤ k) ∧ Aside0 (Kd.S k41 41 w' w.heap.size (fun _ => True) v5 x5_1) ∧ Aside0 (Below w.heap.size w w'))
 case atStart => exact ⟨(y124), (0), (by first | rfl | (simp; done) | (simp [*]; done)), H', ⟨Nat.le_refl _⟩, ⟨by refine kS_ ?_; exact HO126.out⟩, ⟨hbA_ HB.out⟩⟩
 case round =>
  clear H'; (try clear p2)
  obtain ⟨x5_1, x6_1, rfl, HA, HK1, HO_5, HB⟩ := hrel
  cases gk with
  | zero => exact absurd HA.out (by simp [spec_WordsFrom.l0])
  | succ k1 =>
   have H := HA.out; clear HA
   simp only [spec_WordsFrom.l0] at H
   by_cases c4 : (wrap64 (x6_1 + 2)) ≤ (l0.length : Int)
   ·rw [if_pos c4] at H
    have c4b0 : decide ((wrap64 (x6_1 + 2)) ≤ (l0.length : Int)) = true := decide_eq_true c4
    clear c4
    by_cases c5 : 0 ≤ x6_1
    ·rw [if_pos c5] at H
     have c5b0 : decide (0 ≤ x6_1) = true := decide_eq_true c5
     clear c5
     by_cases c6 : x6_1 < (l0.length : Int)
     ·rw [if_pos c6] at H
      have c6b0 : decide (x6_1 < (l0.length : Int)) = true := decide_eq_true c6
      clear c6
      by_cases c7 : (wrap64 (rd l0 x6_1)) ≤ 9
      ·rw [if_pos c7] at H
       have c7b0 : decide ((wrap64 (rd l0 x6_1)) ≤ 9) = true := decide_eq_true c7
       clear c7
       by_cases c8 : (wrap64 ((wrap64 (x6_1 + 2)) + (wrap64 (rd l0 x6_1)))) ≤ (l0.length : Int)
       ·rw [if_pos c8] at H
        have c8b0 : decide ((wrap64 ((wrap64 (x6_1 + 2)) + (wrap64 (rd l0 x6_1)))) ≤ (l0.length : Int)) = true := decide_eq_true c8
        clear c8
        obtain ⟨ji9, hji9⟩ : ∃ j_ : Int, (wrap64 (x6_1 + 1)) = j_ := ⟨_, rfl⟩
        (first | rw [hji9] at H | simp only [hji9] at H)
        have hji9w : (IntKind.i64.wrap (x6_1 + 1)) = ji9 := (i64_w _).trans hji9
        by_cases c10 : 0 ≤ (ji9)
        ·rw [if_pos c10] at H
         have c10b0 : decide (0 ≤ (ji9)) = true := decide_eq_true c10
         clear c10
         by_cases c11 : (ji9) < (l0.length : Int)
         ·rw [if_pos c11] at H
          have c11b0 : decide ((ji9) < (l0.length : Int)) = true := decide_eq_true c11
          clear c11
          obtain ⟨y131, hy131⟩ : ∃ y_ : List Int, y_ = (([] : List Int)) := ⟨_, rfl⟩
          (first | replace H := sb_ hy131 H | rw [← hy131] at H)
          have Ny131 := Aside0.mk hy131; clear hy131
          obtain ⟨ji12, hji12⟩ : ∃ j_ : Int, (wrap64 (x6_1 + 2)) = j_ := ⟨_, rfl⟩
          (first | rw [hji12] at H | simp only [hji12] at H)
          (try rw [hji12] at c4b0)
          (try rw [hji12] at c8b0)
          have hji12w : (IntKind.i64.wrap (x6_1 + 2)) = ji12 := (i64_w _).trans hji12
          by_cases c13 : 0 ≤ (ji12)
          ·rw [if_pos c13] at H
           have c13b0 := eq_true c13
           have c13b1 : decide (0 ≤ (ji12)) = true := decide_eq_true c13
           clear c13
           by_cases c14 : (ji12) ≤ (wrap64 ((ji12) + (wrap64 (rd l0 x6_1))))
           ·rw [if_pos c14] at H
            have c14b0 := eq_true c14
            have c14b1 : decide ((ji12) ≤ (wrap64 ((ji12) + (wrap64 (rd l0 x6_1))))) = true := decide_eq_true c14
            have c15b0 := eq_true (of_decide_eq_true (by first | (with_reducible assumption) | assumption) : (wrap64 ((ji12) + (wrap64 (rd l0 x6_1)))) ≤ (l0.length : Int))
            by_cases c16 : y131.length + ((l0.take ((wrap64 ((ji12) + (wrap64 (rd l0 x6_1)))) : Int).toNat).drop ((ji12) : Int).toNat).length < 140737488355328
            ·rw [if_pos c16] at H
             have LMc16 := Aside0.mk c16; clear c16
             obtain ⟨y135, hy135⟩ : ∃ y_ : List Int, y_ = (y131 ++ ((l0.take ((wrap64 ((ji12) + (wrap64 (rd l0 x6_1)))) : Int).toNat).drop ((ji12) : Int).toNat)) := ⟨_, rfl⟩
             (first | replace H := sb_ hy135 H | rw [← hy135] at H)
             have Ny135 := Aside0.mk hy135; clear hy135
             by_cases c17 : x5_1.length < 4398046511104
             ·rw [if_pos c17] at H
              have LMc17 := Aside0.mk c17; clear c17
              obtain ⟨y138, hy138⟩ : ∃ y_ : List (S41), y_ = (x5_1 ++ [(⟨wrap64 (rd l0 (ji9)), y135⟩ : S41)]) := ⟨_, rfl⟩
              (first | replace H := sb_ hy138 H | rw [← hy138] at H)
              have Ny138 := Aside0.mk hy138; clear hy138
              have H' := Aside0.mk H
              clear H
              have p127 : 0 ≤ (x6_1 : Int) := of_decide_eq_true (by first | (with_reducible assumption) | assumption)
              have q127 : x6_1 < (l0.length : Int) := of_decide_eq_true (by first | (with_reducible assumption) | assumption)
              obtain ⟨ad127, e127, hx127_0⟩ := Kd.at_int HR0.out x6_1 p127 q127
              cases e127
              replace hx127_0 := cc_ HB hx127_0
              replace p127 := eq_true p127
              replace q127 := eq_true q127
              have p128 : 0 ≤ (x6_1 : Int) := of_decide_eq_true (by first | (with_reducible assumption) | assumption)
              have q128 : x6_1 < (l0.length : Int) := of_decide_eq_true (by first | (with_reducible assumption) | assumption)
              obtain ⟨ad128, e128, hx128_0⟩ := Kd.at_int HR0.out x6_1 p128 q128
              obtain rfl : ad127 = ad128 := (by injection e128)
              replace hx128_0 := cc_ HB hx128_0
              replace p128 := eq_true p128
              replace q128 := eq_true q128
              have p129 : 0 ≤ (x6_1 : Int) := of_decide_eq_true (by first | (with_reducible assumption) | assumption)
              have q129 : x6_1 < (l0.length : Int) := of_decide_eq_true (by first | (with_reducible assumption) | assumption)
              obtain ⟨ad129, e129, hx129_0⟩ := Kd.at_int HR0.out x6_1 p129 q129
              obtain rfl : ad127 = ad129 := (by injection e129)
              replace hx129_0 := cc_ HB hx129_0
              replace p129 := eq_true p129
              replace q129 := eq_true q129
              try go_wp2
              replace HO_5 := Aside0.mk (Kd.S_drew HO_5.out); replace HB := (bd_ HB)
              have p130 : 0 ≤ ((ji9) : Int) := of_decide_eq_true (by first | (with_reducible assumption) | assumption)
              have q130 : (ji9) < (l0.length : Int) := of_decide_eq_true (by first | (with_reducible assumption) | assumption)
              obtain ⟨ad130, e130, hx130_0⟩ := Kd.at_int HR0.out (ji9) p130 q130
              have hw130_0 := hx130_0
              obtain rfl : ad127 = ad130 := (by injection e130)
              replace hx130_0 := cc_ HB hx130_0
              replace p130 := eq_true p130
              replace q130 := eq_true q130
              obtain ⟨i019, hi019, _, hsz19, _⟩ := info_parts info5
              obtain ⟨A19, hcut19, hA19, hC19⟩ := print_mid_of (P := Try.prog) (Value.int .u8) 0 34 5 .i64 .i64 Try.underlying34 hi019 hsz19 (some ad127) c0 l0 (ji12) (wrap64 ((ji12) + (wrap64 (rd l0 x6_1)))) (of_decide_eq_true (by first | (with_reducible assumption) | assumption)) (by first | omega | exact of_decide_eq_true (by first | (with_reducible assumption) | assumption)) (of_decide_eq_true (by first | (with_reducible assumption) | assumption)) HC0.out
              have HR134 := Aside0.mk (Kd.C_of_reads (h1 := fun _ => rfl) (hA19 _ (Kd.reads_of_C HR0.out)))
              have HC134 := Aside0.mk hC19; clear hA19 hC19 hi019 hsz19
              refine start_ (n := 21) (S := fun w' => w'.cell? (ad127.add ((ji9)).toNat) = some (.int .u8 (rd l0 (ji9)))) (ds := []) #[false, false, false, false, false, false, false, false, false, false, false, false, false, false, false, false, false, false, false, false, false] (by kernel_rfl) rfl rfl ((cc_ HB hw130_0)) (fun hHeld => ?_); refine with_tabW spec_WordsFrom.tab5 spec_WordsFrom.bits5 (fun HT_ HW_ => ?_)
              generalize wr.drew = w18 at HO_5 HB HR134 hx130_0 hHeld ⊢
              refine pu_ (i := 0) (N := some 40) HT_ ?_; refine pu_ (i := 1) (N := some 41) HT_ ?_; refine pu_ (i := 2) (N := some 42) HT_ ?_; refine pu_ (i := 3) (N := some 43) HT_ ?_; refine pu_ (i := 4) (N := some 44) HT_ ?_; refine pu_ (i := 8) (N := some 48) HT_ ?_; refine pu_ (i := 9) (N := some 49) HT_ ?_; refine pu_ (i := 10) (N := some 50) HT_ ?_; refine pu_ (i := 11) (N := some 51) HT_ ?_; refine pu_ (i := 12) (N := some 52) HT_ ?_; refine pu_ (i := 13) (N := some 53) HT_ ?_; refine pu_ (i := 14) (N := some 54) HT_ ?_; refine pu_ (i := 15) (N := some 55) HT_ ?_; refine tk_ (i := 5) (N := some 45) HT_ HW_ hHeld ?_; refine pu_ (i := 6) (N := some 46) HT_ ?_
              refine on_ (i := 7) (N := some 47) HT_ (fun K hK => ?_)
              refine Kd.R_lit_step (Kd.int .u8) _ 5 ?hg (N := 47) ?hd (xs := ([] : List Int)) (inner := []) (ok := fun _ => True) (okp := fun _ => True) ?hr ?hp (fun _ hk => hk) trivial (Below.refl _ _) (Nat.le_refl _) (by simp) ?_; (case hd => rfl); (case hg => rfl); (case hr => first | (go_simp; done) | (go_simp; rfl)); (case hp => exact (Reps.none _ _))
              intro v132 w20 ho21 hb hg_ hnew_
              clear hg_ hnew_
              (first | rw [← Ny131.out] at ho21 | (simp only [Int.reduceToNat] at ho21; rw [← Ny131.out] at ho21))
              have n0_ := Aside0.mk (Kd.S_elder' (kS_ HO_5.out) (Kd.R_base ho21) hb); have n1_ := Aside0.mk (Kd.R_lower ho21 (below_size (hbA_ HB.out))); have n2_ := (bs_ HB hb); clear HO_5 HB; have HO_5 := n0_; have HO133 := n1_; have HB := n2_; clear n0_ n1_ n2_ hb ho21
              refine hK.out _ _ ((cc_ HB hw130_0)) (fun hHeld => ?_)
              clear hK K; refine nm_ 47 ?_
              refine on_ (i := 16) (N := some 56) HT_ (fun K hK => ?_)
              refine Kd.R_append_rows_step (Kd.int .u8) (w0 := w) w.heap.size (by rfl) (.tmp 47) (.tmp 55) 34 5 (.int .u8 0) 1 rfl Try.underlying34 info5 rfl (by decide) (by omega) v132 y131 ((l0.take ((wrap64 ((ji12) + (wrap64 (rd l0 x6_1)))) : Int).toNat).drop ((ji12) : Int).toNat) _ _ _ (fun _ => True) (fun _ => False) rfl rfl ?aO ?aR (fun _ _ h => h) (fun _ h => h.elim) ?aF ?aB ?aS ?aL ?_
              (case aR => first | (refine len_ (show ((l0.take ((wrap64 ((ji12) + (wrap64 (rd l0 x6_1)))) : Int).toNat).drop ((ji12) : Int).toNat).length = ((wrap64 ((ji12) + (wrap64 (rd l0 x6_1)))).toNat - (ji12).toNat) from (by rw [List.length_drop, List.length_take]; have h_ : ((wrap64 ((ji12) + (wrap64 (rd l0 x6_1)))) : Int) ≤ (l0.length : Int) := of_decide_eq_true (by first | (with_reducible assumption) | assumption); omega)) ?_; repeat (first | exact (Kd.C_below HR134.out HB.out) | (with_reducible refine Kd.C_alloc ?_ _) | (with_reducible refine Kd.C_drewN ?_ _) | (with_reducible refine Kd.C_drew ?_)); done) | (repeat (first | exact (Kd.C_below HR134.out HB.out) | (with_reducible refine Kd.C_alloc ?_ _) | (with_reducible refine Kd.C_drewN ?_ _) | (with_reducible refine Kd.C_drew ?_))))
              (case aB => exact (hbA_ HB.out))
              (case aF => exact (fun _ _ => trivial))
              (case aO => exact (kR_ HO133.out))
              (case aS => exact (below_size (hbA_ HB.out)))
              (case aL => have := LMc16.out; have hlx_ := (show ((l0.take ((wrap64 ((ji12) + (wrap64 (rd l0 x6_1)))) : Int).toNat).drop ((ji12) : Int).toNat).length = ((wrap64 ((ji12) + (wrap64 (rd l0 x6_1)))).toNat - (ji12).toNat) from (by rw [List.length_drop, List.length_take]; have h_ : ((wrap64 ((ji12) + (wrap64 (rd l0 x6_1)))) : Int) ≤ (l0.length : Int) := of_decide_eq_true (by first | (with_reducible assumption) | assumption); omega)); omega)
              intro v136 w22 ho hb hg hat
              rw [← Ny135.out] at ho
              have n0_ := Aside0.mk (Kd.S_after (ok := (fun _ => True)) (kS_ HO_5.out) hg hat); have n1_ := Aside0.mk (hb); have n2_ := Aside0.mk (ho); clear HO_5 HB HO133; have HO_5 := n0_; have HB := n1_; have HO137 := n2_; clear n0_ n1_ n2_ ho hb hg hat
              obtain ⟨Ao23, co23, eo23⟩ := Kd.R_slice HO137.out
              (first | subst eo23 | (injection eo23 with f1_ f2_ f3_; have f4_ := f1_.symm; have f5_ := f3_.symm; clear f1_ f2_ f3_; subst f4_; subst f5_))
              refine hK.out _ _ ((cc_ HB hw130_0)) (fun hHeld => ?_)
              clear hK K; refine nm_ 56 ?_; refine pu_ (i := 17) (N := some 57) HT_ ?_
              refine on_ (i := 18) (N := some 58) HT_ (fun K hK => ?_)
              refine value_ (w1 := ?_) (v := ?_) (by rfl) rfl ?_ ?_
              rotate_left 2
              ·go_simp
               constructor
               ·rfl
               ·rfl
              refine hK.out _ _ ((World.cell?_alloc_lt _ _ _ (World.block_lt_of_cell? _ _ ((cc_ HB hw130_0)))).trans ((cc_ HB hw130_0))) (fun hHeld => ?_)
              clear hK K; refine nm_ 58 ?_
              refine on_ (i := 19) (N := some 59) HT_ (fun K hK => ?_)
              refine Kd.S_append_step k41 (w0 := w) w.heap.size (by rfl) (.tmp 40) (.tmp 58) 28 41 (.agg #[(.int .i64 0), (.slice none 0 0)]) 32 rfl Try.underlying28 info41 rfl (by decide) (by omega) u5 x5_1 (⟨wrap64 (rd l0 (ji9)), y135⟩ : S41) [.int .i64 (wrap64 (rd l0 (ji9))), .slice Ao23 y135.length co23] (fun _ => True) (fun k_ => some k_ = (.slice Ao23 y135.length co23 : Value).ownBlock) rfl rfl ?aP (fun k_ hk_ => ((Kd.R_mono (ok' := fun k_ => ((fun _ => True)) k_ ∧ some k_ ≠ (u5 : Value).ownBlock) (Kd.R_apart' (HO137.out) (Kd.S_typed HO_5.out) (by decide)) (fun k_ hk => ⟨trivial, hk.2⟩))).1 k_ hk_.symm) ?aF ?aO ?aB ?aS ?aL ?_
              (case aP => exact k41_mkM _ _ _ (⟨wrap64 (rd l0 (ji9)), y135⟩ : S41) (Kd.R_mono (Kd.R_tight rfl (Kd.R_mono (ok' := fun k_ => ((fun _ => True)) k_ ∧ some k_ ≠ (u5 : Value).ownBlock) (Kd.R_apart' (HO137.out) (Kd.S_typed HO_5.out) (by decide)) (fun k_ hk => ⟨trivial, hk.2⟩))) (fun _ h_ => h_)))
              (case aB => exact (hbA_ HB.out))
              (case aF => exact (fun _ _ => trivial))
              (case aO => exact (by refine kS_ ?_; exact Kd.S_mono HO_5.out (fun k_ hk => ⟨trivial, fun e_ => hk.2 e_⟩)))
              (case aS => exact (below_size (hbA_ HB.out)))
              (case aL => have := LMc17.out; omega)
              intro v139 w24 ho hb hg hat
              rw [← Ny138.out] at ho
              have n0_ := Aside0.mk (hb); have n1_ := Aside0.mk (ho); clear HB HO_5 HO137; have HB := n0_; have HO140 := n1_; clear n0_ n1_ ho hb hg hat
              refine hK.out _ _ ((cc_ HB hw130_0)) (fun hHeld => ?_)
              clear hK K; refine nm_ 59 ?_; refine pu_ (i := 20) (N := some 5) HT_ ?_
              refine done_ (done_of HT_.out (by kernel_rfl)) ?_
              try go_wp2
              go_roundg k1
              case measure => have := HK1.out; omega
              case rel => exact ⟨(y138), (wrap64 ((ji12) + (wrap64 (rd l0 x6_1)))), (by first | rfl | (simp; done) | (simp only [← hji12] <;> (first | rfl | simp)) | (simp [*]; done)), H', ⟨by have := HK1.out; omega⟩, ⟨by refine kS_ ?_; exact HO140.out⟩, ⟨hbA_ HB.out⟩⟩
             ·rw [if_neg c17] at H
              exact absurd H (by simp)
            ·rw [if_neg c16] at H
             exact absurd H (by simp)
           ·rw [if_neg c14] at H
            exact absurd H (by simp)
          ·rw [if_neg c13] at H
           exact absurd H (by simp)
         ·rw [if_neg c11] at H
          exact absurd H (by simp)
        ·rw [if_neg c10] at H
         exact absurd H (by simp)
       ·rw [if_neg c8] at H
        have c8b0 : decide ((wrap64 ((wrap64 (x6_1 + 2)) + (wrap64 (rd l0 x6_1)))) ≤ (l0.length : Int)) = false := decide_eq_false c8
        clear c8
        by_cases c25 : x6_1 = (l0.length : Int)
        ·rw [if_pos c25] at H
         have c25b0 : (x6_1 == (l0.length : Int)) = true := beq_iff_eq.mpr c25
         have c25b1 : (x6_1 != (l0.length : Int)) = false := bne_eq_false_iff_eq.mpr c25
         clear c25
         simp only [Option.some.injEq, Prod.mk.injEq] at H
         obtain ⟨rfl, rfl, rfl⟩ := H
         have p127 : 0 ≤ (x6_1 : Int) := of_decide_eq_true (by first | (with_reducible assumption) | assumption)
         have q127 : x6_1 < (l0.length : Int) := of_decide_eq_true (by first | (with_reducible assumption) | assumption)
         obtain ⟨ad127, e127, hx127_0⟩ := Kd.at_int HR0.out x6_1 p127 q127
         cases e127
         replace hx127_0 := cc_ HB hx127_0
         replace p127 := eq_true p127
         replace q127 := eq_true q127
         have p128 : 0 ≤ (x6_1 : Int) := of_decide_eq_true (by first | (with_reducible assumption) | assumption)
         have q128 : x6_1 < (l0.length : Int) := of_decide_eq_true (by first | (with_reducible assumption) | assumption)
         obtain ⟨ad128, e128, hx128_0⟩ := Kd.at_int HR0.out x6_1 p128 q128
         obtain rfl : ad127 = ad128 := (by injection e128)
         replace hx128_0 := cc_ HB hx128_0
         replace p128 := eq_true p128
         replace q128 := eq_true q128
         try go_wp2
         replace HO_5 := Aside0.mk (Kd.S_drew HO_5.out); replace HB := (bd_ HB)
         refine start_ (n := 17) (S := fun w' => True) (ds := []) #[false, false, false, false, false, false, false, false, false, false, false, false, false, false, false, false, false] (by kernel_rfl) rfl rfl trivial (fun hHeld => ?_); refine with_tabW spec_WordsFrom.tab7 spec_WordsFrom.bits7 (fun HT_ HW_ => ?_)
         generalize wr.drew = w26 at HO_5 HB hHeld ⊢
         refine pu_ (i := 0) (N := some 64) HT_ ?_; refine pu_ (i := 1) (N := some 65) HT_ ?_; refine pu_ (i := 2) (N := some 66) HT_ ?_; refine pu_ (i := 3) (N := some 67) HT_ ?_; refine pu_ (i := 4) (N := some 68) HT_ ?_; refine pu_ (i := 5) (N := some 69) HT_ ?_; refine pu_ (i := 6) (N := some 70) HT_ ?_; refine pn_ (i := 7) (N := some 71) HT_ ?_; refine pn_ (i := 8) (N := some 72) HT_ ?_; refine pn_ (i := 9) (N := some 73) HT_ ?_; refine pn_ (i := 10) (N := some 74) HT_ ?_; refine pn_ (i := 11) (N := some 75) HT_ ?_; refine pn_ (i := 12) (N := some 76) HT_ ?_; refine pu_ (i := 13) (N := some 77) HT_ ?_; refine pu_ (i := 14) (N := some 2) HT_ ?_; refine pu_ (i := 15) (N := some 3) HT_ ?_; refine pu_ (i := 16) (N := some 4) HT_ ?_
         refine done_ (done_of HT_.out (by kernel_rfl)) ?_
         try go_wp2
         go_ret3
         exact ⟨_, by first | rfl | (simp [errW_none, errW_some] <;> rfl) | (simp [*, errW_none, errW_some] <;> rfl), by refine kS_ ?_; exact HO_5.out, hbA_ HB.out⟩
        ·rw [if_neg c25] at H
         have c25b0 : (x6_1 == (l0.length : Int)) = false := beq_eq_false_iff_ne.mpr c25
         have c25b1 : (x6_1 != (l0.length : Int)) = true := bne_iff_ne.mpr c25
         simp only [Option.some.injEq, Prod.mk.injEq] at H
         obtain ⟨rfl, rfl, rfl⟩ := H
         have p127 : 0 ≤ (x6_1 : Int) := of_decide_eq_true (by first | (with_reducible assumption) | assumption)
         have q127 : x6_1 < (l0.length : Int) := of_decide_eq_true (by first | (with_reducible assumption) | assumption)
         obtain ⟨ad127, e127, hx127_0⟩ := Kd.at_int HR0.out x6_1 p127 q127
         cases e127
         replace hx127_0 := cc_ HB hx127_0
         replace p127 := eq_true p127
         replace q127 := eq_true q127
         have p128 : 0 ≤ (x6_1 : Int) := of_decide_eq_true (by first | (with_reducible assumption) | assumption)
         have q128 : x6_1 < (l0.length : Int) := of_decide_eq_true (by first | (with_reducible assumption) | assumption)
         obtain ⟨ad128, e128, hx128_0⟩ := Kd.at_int HR0.out x6_1 p128 q128
         obtain rfl : ad127 = ad128 := (by injection e128)
         replace hx128_0 := cc_ HB hx128_0
         replace p128 := eq_true p128
         replace q128 := eq_true q128
         try go_wp2
         replace HO_5 := Aside0.mk (Kd.S_drew HO_5.out); replace HB := (bd_ HB)
         have p141 : 0 ≤ (x6_1 : Int) := of_decide_eq_true (by first | (with_reducible assumption) | assumption)
         have q141 : x6_1 < (l0.length : Int) := of_decide_eq_true (by first | (with_reducible assumption) | assumption)
         obtain ⟨ad141, e141, hx141_0⟩ := Kd.at_int HR0.out x6_1 p141 q141
         have hw141_0 := hx141_0
         obtain rfl : ad127 = ad141 := (by injection e141)
         replace hx141_0 := cc_ HB hx141_0
         replace p141 := eq_true p141
         replace q141 := eq_true q141
         refine start_ (n := 17) (S := fun w' => w'.cell? (ad127.add (x6_1).toNat) = some (.int .u8 (rd l0 x6_1))) (ds := []) #[false, false, false, false, false, false, false, false, false, false, false, false, false, false, false, false, false] (by kernel_rfl) rfl rfl ((cc_ HB hw141_0)) (fun hHeld => ?_); refine with_tabW spec_WordsFrom.tab7 spec_WordsFrom.bits7 (fun HT_ HW_ => ?_)
         generalize wr.drew = w27 at HO_5 HB hx141_0 hHeld ⊢
         refine pu_ (i := 0) (N := some 64) HT_ ?_; refine pu_ (i := 1) (N := some 65) HT_ ?_; refine pu_ (i := 2) (N := some 66) HT_ ?_; refine pu_ (i := 3) (N := some 67) HT_ ?_; refine pu_ (i := 4) (N := some 68) HT_ ?_; refine pu_ (i := 5) (N := some 69) HT_ ?_; refine pu_ (i := 6) (N := some 70) HT_ ?_; refine pu_ (i := 7) (N := some 71) HT_ ?_; refine pu_ (i := 8) (N := some 72) HT_ ?_; refine pu_ (i := 9) (N := some 73) HT_ ?_; refine pu_ (i := 14) (N := some 2) HT_ ?_; refine pu_ (i := 15) (N := some 3) HT_ ?_; refine tk_ (i := 10) (N := some 74) HT_ HW_ hHeld ?_; refine pu_ (i := 11) (N := some 75) HT_ ?_; refine pu_ (i := 12) (N := some 76) HT_ ?_; refine pu_ (i := 13) (N := some 77) HT_ ?_; refine pu_ (i := 16) (N := some 4) HT_ ?_
         refine done_ (done_of HT_.out (by kernel_rfl)) ?_
         try go_wp2
         go_ret3
         exact ⟨_, by first | rfl | (simp [errW_none, errW_some] <;> rfl) | (simp [*, errW_none, errW_some] <;> rfl), by refine kS_ ?_; exact HO_5.out, hbA_ HB.out⟩
      ·rw [if_neg c7] at H
       have c7b0 : decide ((wrap64 (rd l0 x6_1)) ≤ 9) = false := decide_eq_false c7
       clear c7
       by_cases c28 : x6_1 = (l0.length : Int)
       ·rw [if_pos c28] at H
        have c28b0 : (x6_1 == (l0.length : Int)) = true := beq_iff_eq.mpr c28
        have c28b1 : (x6_1 != (l0.length : Int)) = false := bne_eq_false_iff_eq.mpr c28
        clear c28
        simp only [Option.some.injEq, Prod.mk.injEq] at H
        obtain ⟨rfl, rfl, rfl⟩ := H
        have p127 : 0 ≤ (x6_1 : Int) := of_decide_eq_true (by first | (with_reducible assumption) | assumption)
        have q127 : x6_1 < (l0.length : Int) := of_decide_eq_true (by first | (with_reducible assumption) | assumption)
        obtain ⟨ad127, e127, hx127_0⟩ := Kd.at_int HR0.out x6_1 p127 q127
        cases e127
        replace hx127_0 := cc_ HB hx127_0
        replace p127 := eq_true p127
        replace q127 := eq_true q127
        try go_wp2
        replace HO_5 := Aside0.mk (Kd.S_drew HO_5.out); replace HB := (bd_ HB)
        refine start_ (n := 17) (S := fun w' => True) (ds := []) #[false, false, false, false, false, false, false, false, false, false, false, false, false, false, false, false, false] (by kernel_rfl) rfl rfl trivial (fun hHeld => ?_); refine with_tabW spec_WordsFrom.tab7 spec_WordsFrom.bits7 (fun HT_ HW_ => ?_)
        generalize wr.drew = w29 at HO_5 HB hHeld ⊢
        refine pu_ (i := 0) (N := some 64) HT_ ?_; refine pu_ (i := 1) (N := some 65) HT_ ?_; refine pu_ (i := 2) (N := some 66) HT_ ?_; refine pu_ (i := 3) (N := some 67) HT_ ?_; refine pu_ (i := 4) (N := some 68) HT_ ?_; refine pu_ (i := 5) (N := some 69) HT_ ?_; refine pu_ (i := 6) (N := some 70) HT_ ?_; refine pn_ (i := 7) (N := some 71) HT_ ?_; refine pn_ (i := 8) (N := some 72) HT_ ?_; refine pn_ (i := 9) (N := some 73) HT_ ?_; refine pn_ (i := 10) (N := some 74) HT_ ?_; refine pn_ (i := 11) (N := some 75) HT_ ?_; refine pn_ (i := 12) (N := some 76) HT_ ?_; refine pu_ (i := 13) (N := some 77) HT_ ?_; refine pu_ (i := 14) (N := some 2) HT_ ?_; refine pu_ (i := 15) (N := some 3) HT_ ?_; refine pu_ (i := 16) (N := some 4) HT_ ?_
        refine done_ (done_of HT_.out (by kernel_rfl)) ?_
        try go_wp2
        go_ret3
        exact ⟨_, by first | rfl | (simp [errW_none, errW_some] <;> rfl) | (simp [*, errW_none, errW_some] <;> rfl), by refine kS_ ?_; exact HO_5.out, hbA_ HB.out⟩
       ·rw [if_neg c28] at H
        have c28b0 : (x6_1 == (l0.length : Int)) = false := beq_eq_false_iff_ne.mpr c28
        have c28b1 : (x6_1 != (l0.length : Int)) = true := bne_iff_ne.mpr c28
        simp only [Option.some.injEq, Prod.mk.injEq] at H
        obtain ⟨rfl, rfl, rfl⟩ := H
        have p127 : 0 ≤ (x6_1 : Int) := of_decide_eq_true (by first | (with_reducible assumption) | assumption)
        have q127 : x6_1 < (l0.length : Int) := of_decide_eq_true (by first | (with_reducible assumption) | assumption)
        obtain ⟨ad127, e127, hx127_0⟩ := Kd.at_int HR0.out x6_1 p127 q127
        cases e127
        replace hx127_0 := cc_ HB hx127_0
        replace p127 := eq_true p127
        replace q127 := eq_true q127
        try go_wp2
        replace HO_5 := Aside0.mk (Kd.S_drew HO_5.out); replace HB := (bd_ HB)
        have p142 : 0 ≤ (x6_1 : Int) := of_decide_eq_true (by first | (with_reducible assumption) | assumption)
        have q142 : x6_1 < (l0.length : Int) := of_decide_eq_true (by first | (with_reducible assumption) | assumption)
        obtain ⟨ad142, e142, hx142_0⟩ := Kd.at_int HR0.out x6_1 p142 q142
        have hw142_0 := hx142_0
        obtain rfl : ad127 = ad142 := (by injection e142)
        replace hx142_0 := cc_ HB hx142_0
        replace p142 := eq_true p142
        replace q142 := eq_true q142
        refine start_ (n := 17) (S := fun w' => w'.cell? (ad127.add (x6_1).toNat) = some (.int .u8 (rd l0 x6_1))) (ds := []) #[false, false, false, false, false, false, false, false, false, false, false, false, false, false, false, false, false] (by kernel_rfl) rfl rfl ((cc_ HB hw142_0)) (fun hHeld => ?_); refine with_tabW spec_WordsFrom.tab7 spec_WordsFrom.bits7 (fun HT_ HW_ => ?_)
        generalize wr.drew = w30 at HO_5 HB hx142_0 hHeld ⊢
        refine pu_ (i := 0) (N := some 64) HT_ ?_; refine pu_ (i := 1) (N := some 65) HT_ ?_; refine pu_ (i := 2) (N := some 66) HT_ ?_; refine pu_ (i := 3) (N := some 67) HT_ ?_; refine pu_ (i := 4) (N := some 68) HT_ ?_; refine pu_ (i := 5) (N := some 69) HT_ ?_; refine pu_ (i := 6) (N := some 70) HT_ ?_; refine pu_ (i := 7) (N := some 71) HT_ ?_; refine pu_ (i := 8) (N := some 72) HT_ ?_; refine pu_ (i := 9) (N := some 73) HT_ ?_; refine pu_ (i := 14) (N := some 2) HT_ ?_; refine pu_ (i := 15) (N := some 3) HT_ ?_; refine tk_ (i := 10) (N := some 74) HT_ HW_ hHeld ?_; refine pu_ (i := 11) (N := some 75) HT_ ?_; refine pu_ (i := 12) (N := some 76) HT_ ?_; refine pu_ (i := 13) (N := some 77) HT_ ?_; refine pu_ (i := 16) (N := some 4) HT_ ?_
        refine done_ (done_of HT_.out (by kernel_rfl)) ?_
        try go_wp2
        go_ret3
        exact ⟨_, by first | rfl | (simp [errW_none, errW_some] <;> rfl) | (simp [*, errW_none, errW_some] <;> rfl), by refine kS_ ?_; exact HO_5.out, hbA_ HB.out⟩
     ·rw [if_neg c6] at H
      exact absurd H (by simp)
    ·rw [if_neg c5] at H
     exact absurd H (by simp)
   ·rw [if_neg c4] at H
    have c4b0 : decide ((wrap64 (x6_1 + 2)) ≤ (l0.length : Int)) = false := decide_eq_false c4
    clear c4
    by_cases c31 : x6_1 = (l0.length : Int)
    ·rw [if_pos c31] at H
     have c31b0 : (x6_1 == (l0.length : Int)) = true := beq_iff_eq.mpr c31
     have c31b1 : (x6_1 != (l0.length : Int)) = false := bne_eq_false_iff_eq.mpr c31
     clear c31
     simp only [Option.some.injEq, Prod.mk.injEq] at H
     obtain ⟨rfl, rfl, rfl⟩ := H
     try go_wp2
     replace HO_5 := Aside0.mk (Kd.S_drew HO_5.out); replace HB := (bd_ HB)
     refine start_ (n := 17) (S := fun w' => True) (ds := []) #[false, false, false, false, false, false, false, false, false, false, false, false, false, false, false, false, false] (by kernel_rfl) rfl rfl trivial (fun hHeld => ?_); refine with_tabW spec_WordsFrom.tab7 spec_WordsFrom.bits7 (fun HT_ HW_ => ?_)
     generalize wr.drew = w32 at HO_5 HB hHeld ⊢
     refine pu_ (i := 0) (N := some 64) HT_ ?_; refine pu_ (i := 1) (N := some 65) HT_ ?_; refine pu_ (i := 2) (N := some 66) HT_ ?_; refine pu_ (i := 3) (N := some 67) HT_ ?_; refine pu_ (i := 4) (N := some 68) HT_ ?_; refine pu_ (i := 5) (N := some 69) HT_ ?_; refine pu_ (i := 6) (N := some 70) HT_ ?_; refine pn_ (i := 7) (N := some 71) HT_ ?_; refine pn_ (i := 8) (N := some 72) HT_ ?_; refine pn_ (i := 9) (N := some 73) HT_ ?_; refine pn_ (i := 10) (N := some 74) HT_ ?_; refine pn_ (i := 11) (N := some 75) HT_ ?_; refine pn_ (i := 12) (N := some 76) HT_ ?_; refine pu_ (i := 13) (N := some 77) HT_ ?_; refine pu_ (i := 14) (N := some 2) HT_ ?_; refine pu_ (i := 15) (N := some 3) HT_ ?_; refine pu_ (i := 16) (N := some 4) HT_ ?_
     refine done_ (done_of HT_.out (by kernel_rfl)) ?_
     try go_wp2
     go_ret3
     exact ⟨_, by first | rfl | (simp [errW_none, errW_some] <;> rfl) | (simp [*, errW_none, errW_some] <;> rfl), by refine kS_ ?_; exact HO_5.out, hbA_ HB.out⟩
    ·rw [if_neg c31] at H
     have c31b0 : (x6_1 == (l0.length : Int)) = false := beq_eq_false_iff_ne.mpr c31
     have c31b1 : (x6_1 != (l0.length : Int)) = true := bne_iff_ne.mpr c31
     by_cases c33 : 0 ≤ x6_1
     ·rw [if_pos c33] at H
      have c33b0 : decide (0 ≤ x6_1) = true := decide_eq_true c33
      clear c33
      by_cases c34 : x6_1 < (l0.length : Int)
      ·rw [if_pos c34] at H
       have c34b0 : decide (x6_1 < (l0.length : Int)) = true := decide_eq_true c34
       clear c34
       simp only [Option.some.injEq, Prod.mk.injEq] at H
       obtain ⟨rfl, rfl, rfl⟩ := H
       try go_wp2
       replace HO_5 := Aside0.mk (Kd.S_drew HO_5.out); replace HB := (bd_ HB)
       have p143 : 0 ≤ (x6_1 : Int) := of_decide_eq_true (by first | (with_reducible assumption) | assumption)
       have q143 : x6_1 < (l0.length : Int) := of_decide_eq_true (by first | (with_reducible assumption) | assumption)
       obtain ⟨ad143, e143, hx143_0⟩ := Kd.at_int HR0.out x6_1 p143 q143
       have hw143_0 := hx143_0
       cases e143
       replace hx143_0 := cc_ HB hx143_0
       replace p143 := eq_true p143
       replace q143 := eq_true q143
       refine start_ (n := 17) (S := fun w' => w'.cell? (ad143.add (x6_1).toNat) = some (.int .u8 (rd l0 x6_1))) (ds := []) #[false, false, false, false, false, false, false, false, false, false, false, false, false, false, false, false, false] (by kernel_rfl) rfl rfl ((cc_ HB hw143_0)) (fun hHeld => ?_); refine with_tabW spec_WordsFrom.tab7 spec_WordsFrom.bits7 (fun HT_ HW_ => ?_)
       generalize wr.drew = w35 at HO_5 HB hx143_0 hHeld ⊢
       refine pu_ (i := 0) (N := some 64) HT_ ?_; refine pu_ (i := 1) (N := some 65) HT_ ?_; refine pu_ (i := 2) (N := some 66) HT_ ?_; refine pu_ (i := 3) (N := some 67) HT_ ?_; refine pu_ (i := 4) (N := some 68) HT_ ?_; refine pu_ (i := 5) (N := some 69) HT_ ?_; refine pu_ (i := 6) (N := some 70) HT_ ?_; refine pu_ (i := 7) (N := some 71) HT_ ?_; refine pu_ (i := 8) (N := some 72) HT_ ?_; refine pu_ (i := 9) (N := some 73) HT_ ?_; refine pu_ (i := 14) (N := some 2) HT_ ?_; refine pu_ (i := 15) (N := some 3) HT_ ?_; refine tk_ (i := 10) (N := some 74) HT_ HW_ hHeld ?_; refine pu_ (i := 11) (N := some 75) HT_ ?_; refine pu_ (i := 12) (N := some 76) HT_ ?_; refine pu_ (i := 13) (N := some 77) HT_ ?_; refine pu_ (i := 16) (N := some 4) HT_ ?_
       refine done_ (done_of HT_.out (by kernel_rfl)) ?_
       try go_wp2
       go_ret3
       exact ⟨_, by first | rfl | (simp [errW_none, errW_some] <;> rfl) | (simp [*, errW_none, errW_some] <;> rfl), by refine kS_ ?_; exact HO_5.out, hbA_ HB.out⟩
      ·rw [if_neg c34] at H
       exact absurd H (by simp)
     ·rw [if_neg c33] at H
      exact absurd H (by simp)
def laws_eqWords.f (k : Nat) (a0_0 : Int) (l0_1 : List Int) (a1_0 : Int) (l1_1 : List Int) : Option (Bool) := if a0_0 = a1_0 then ((laws_eqByteS.f k l0_1 l1_1).bind fun t146 => (if t146 = true then (some true) else (some false))) else (some false)
theorem laws_eqWords.mono : ∀ a0 a1 a2 a3 k, LeO (laws_eqWords.f k a0 a1 a2 a3) (laws_eqWords.f (k + 1) a0 a1 a2 a3) := by
 intro a0 a1 a2 a3 k
 unfold laws_eqWords.f
 repeat' first | (with_reducible first | apply laws_eqByteS.mono | exact LeO.refl _ | exact LeO.none _ | refine LeO.ite ?_ ?_ | refine LeO.bind ?_ fun _ => ?_) | apply laws_eqByteS.mono | exact LeO.none _ | refine LeO.ite ?_ ?_ | refine LeO.bind ?_ fun _ => ?_
set_option maxHeartbeats 8000000 in
set_option maxRecDepth 100000 in
theorem laws_eqWords.calls (k : Nat) (a0_0 : Int) (A0_1 : Option Addr) (c0_1 : Nat) (l0_1 : List Int) (a1_0 : Int) (A1_1 : Option Addr) (c1_1 : Nat) (l1_1 : List Int) (r : Bool) (w : World) (hr0_1 : Kd.C (Kd.int .u8) w A0_1 l0_1.length l0_1) (hc0_1 : l0_1.length ≤ c0_1) (hr1_1 : Kd.C (Kd.int .u8) w A1_1 l1_1.length l1_1) (hc1_1 : l1_1.length ≤ c1_1) (h : laws_eqWords.f k a0_0 l0_1 a1_0 l1_1 = some r) :
  Calls Try.prog 38 #[.agg #[.int .i64 a0_0, .slice A0_1 l0_1.length c0_1], .agg #[.int .i64 a1_0, .slice A1_1 l1_1.length c1_1]] w fun e w' => e = .returned (.bool r) ∧ Below w.heap.size w w' := by
 have hu41 := Try.underlying41; have HR0_1 := Aside0.mk hr0_1; have HC0_1 := Aside0.mk hc0_1; clear hr0_1 hc0_1; have HR1_1 := Aside0.mk hr1_1; have HC1_1 := Aside0.mk hc1_1; clear hr1_1 hc1_1
 have HB := Aside0.mk (Below.refl w.heap.size w)
 have H : (if a0_0 = a1_0 then ((laws_eqByteS.f k l0_1 l1_1).bind fun t146 => (if t146 = true then (some true) else (some false))) else (some false)) = some r := h
 clear h
 by_cases c3 : a0_0 = a1_0
 ·rw [if_pos c3] at H
  have c3b0 : (a0_0 == a1_0) = true := beq_iff_eq.mpr c3
  have c3b1 : (a0_0 != a1_0) = false := bne_eq_false_iff_eq.mpr c3
  clear c3
  replace H := Option.bind_eq_some_iff.mp H
  obtain ⟨t146, A40, H⟩ := H
  (try dsimp only at H)
  have A4 := Aside0.mk A40; clear A40
  by_cases c5 : t146 = true
  ·subst c5
   rw [if_pos rfl] at H
   obtain rfl := Option.some.inj H
   go_enter Try.func38, Try.ntmps38
   go_wp2_with (first | ((with_reducible refine gate_dst (N := 2) rfl ?_); refine box_ (N := 2) (cs := #[.int .i64 a0_0, .slice A0_1 l0_1.length c0_1]) (t := 41) (fun gb144 hg w6 hbox hb => ?_); have BK144 := Aside0.mk (hbox); have GW144 := ge_ hg HB; have GE144 := ge_ hg HB; replace HB := (bs_ HB hb); clear hb hbox hg) | ((with_reducible refine gate_dst (N := 3) rfl ?_); refine box_ (N := 3) (cs := #[.int .i64 a1_0, .slice A1_1 l1_1.length c1_1]) (t := 41) (fun gb145 hg w7 hbox hb => ?_); have BK145 := Aside0.mk (hbox); have GW145 := ge_ hg HB; have GE145 := ge_ hg HB; replace HB := (bs_ HB hb); have NB144_145 := nl_ hg BK144; have NB145_144 := ng_ hg BK144; replace BK144 := (bbA_ BK144 hb); clear hb hbox hg; have hnb8 := NB144_145.out; have hnc8 := NB145_144.out; have Z9 := zz2 BK144; have Z10 := zz2 BK145) | ((with_reducible refine gate_callee (f := 33) rfl ?_); refine goesL_ (some 14) rfl rfl Try.func33 (by kernel_rfl) rfl #[.slice A0_1 l0_1.length c0_1, .slice A1_1 l1_1.length c1_1] rfl ar_ ?_; (with_reducible refine (laws_eqByteS.calls k _ _ l0_1 _ _ l1_1 true _ ?side1 ?side2 ?side3 ?side4 A4.out).mono ?_); (case side1 => exact kC_ (Kd.C_below HR0_1.out HB.out)); (case side2 => exact HC0_1.out); (case side3 => exact kC_ (Kd.C_below HR1_1.out HB.out)); (case side4 => exact HC1_1.out); rintro e w' ⟨rfl, ⟨nd, rfl⟩⟩; refine ⟨_, rfl, ?_⟩))
   go_ret
   exact ⟨by first | rfl | (simp [errW_none, errW_some] <;> rfl) | (simp [*, errW_none, errW_some] <;> rfl), hbA_ HB.out⟩
  ·replace c5 := Bool.eq_false_iff.mpr c5
   subst c5
   rw [if_neg (show ¬ (false = true) by decide)] at H
   obtain rfl := Option.some.inj H
   go_enter Try.func38, Try.ntmps38
   go_wp2_with (first | ((with_reducible refine gate_dst (N := 2) rfl ?_); refine box_ (N := 2) (cs := #[.int .i64 a0_0, .slice A0_1 l0_1.length c0_1]) (t := 41) (fun gb144 hg w11 hbox hb => ?_); have BK144 := Aside0.mk (hbox); have GW144 := ge_ hg HB; have GE144 := ge_ hg HB; replace HB := (bs_ HB hb); clear hb hbox hg) | ((with_reducible refine gate_dst (N := 3) rfl ?_); refine box_ (N := 3) (cs := #[.int .i64 a1_0, .slice A1_1 l1_1.length c1_1]) (t := 41) (fun gb145 hg w12 hbox hb => ?_); have BK145 := Aside0.mk (hbox); have GW145 := ge_ hg HB; have GE145 := ge_ hg HB; replace HB := (bs_ HB hb); have NB144_145 := nl_ hg BK144; have NB145_144 := ng_ hg BK144; replace BK144 := (bbA_ BK144 hb); clear hb hbox hg; have hnb13 := NB144_145.out; have hnc13 := NB145_144.out; have Z14 := zz2 BK144; have Z15 := zz2 BK145) | ((with_reducible refine gate_callee (f := 33) rfl ?_); refine goesL_ (some 14) rfl rfl Try.func33 (by kernel_rfl) rfl #[.slice A0_1 l0_1.length c0_1, .slice A1_1 l1_1.length c1_1] rfl ar_ ?_; (with_reducible refine (laws_eqByteS.calls k _ _ l0_1 _ _ l1_1 false _ ?side1 ?side2 ?side3 ?side4 A4.out).mono ?_); (case side1 => exact kC_ (Kd.C_below HR0_1.out HB.out)); (case side2 => exact HC0_1.out); (case side3 => exact kC_ (Kd.C_below HR1_1.out HB.out)); (case side4 => exact HC1_1.out); rintro e w' ⟨rfl, ⟨nd, rfl⟩⟩; refine ⟨_, rfl, ?_⟩))
   go_ret
   exact ⟨by first | rfl | (simp [errW_none, errW_some] <;> rfl) | (simp [*, errW_none, errW_some] <;> rfl), hbA_ HB.out⟩
 ·rw [if_neg c3] at H
  have c3b0 : (a0_0 == a1_0) = false := beq_eq_false_iff_ne.mpr c3
  have c3b1 : (a0_0 != a1_0) = true := bne_iff_ne.mpr c3
  obtain rfl := Option.some.inj H
  go_enter Try.func38, Try.ntmps38
  go_wp2_with (first | ((with_reducible refine gate_dst (N := 2) rfl ?_); refine box_ (N := 2) (cs := #[.int .i64 a0_0, .slice A0_1 l0_1.length c0_1]) (t := 41) (fun gb144 hg w16 hbox hb => ?_); have BK144 := Aside0.mk (hbox); have GW144 := ge_ hg HB; have GE144 := ge_ hg HB; replace HB := (bs_ HB hb); clear hb hbox hg) | ((with_reducible refine gate_dst (N := 3) rfl ?_); refine box_ (N := 3) (cs := #[.int .i64 a1_0, .slice A1_1 l1_1.length c1_1]) (t := 41) (fun gb145 hg w17 hbox hb => ?_); have BK145 := Aside0.mk (hbox); have GW145 := ge_ hg HB; have GE145 := ge_ hg HB; replace HB := (bs_ HB hb); have NB144_145 := nl_ hg BK144; have NB145_144 := ng_ hg BK144; replace BK144 := (bbA_ BK144 hb); clear hb hbox hg; have hnb18 := NB144_145.out; have hnc18 := NB145_144.out; have Z19 := zz2 BK144; have Z20 := zz2 BK145))
  go_ret
  exact ⟨by first | rfl | (simp [errW_none, errW_some] <;> rfl) | (simp [*, errW_none, errW_some] <;> rfl), hbA_ HB.out⟩
def laws_eqWordsS.l0 : Nat → List (S41) → List (S41) → Int → Option (Bool)
 | 0, _, _, _ => none
 | k + 1, x0, x1, x5 => if x5 < (x0.length : Int) then (if 0 ≤ x5 then (if x5 < (x1.length : Int) then ((laws_eqWords.f k ((rd_T41 x0 x5).f0) ((rd_T41 x0 x5).f1) ((rd_T41 x1 x5).f0) ((rd_T41 x1 x5).f1)).bind fun t149 => (if t149 = true then (laws_eqWordsS.l0 k x0 x1 (wrap64 (x5 + 1))) else (some false))) else (none)) else (none)) else (some true)
def laws_eqWordsS.f (k : Nat) (l0 : List (S41)) (l1 : List (S41)) : Option (Bool) := if (l0.length : Int) = (l1.length : Int) then (laws_eqWordsS.l0 k l0 l1 0) else (some false)
theorem laws_eqWordsS.mono_l : ∀ k, (∀ y0 y1 y2, LeO (laws_eqWordsS.l0 k y0 y1 y2) (laws_eqWordsS.l0 (k + 1) y0 y1 y2))
 | 0 => fun _ _ _ r h => by simp [laws_eqWordsS.l0] at h
 | k + 1 => by
  have ih0 := laws_eqWordsS.mono_l k
  ·intro y0 y1 y2
   unfold laws_eqWordsS.l0
   repeat' first | (with_reducible first | apply ih0 | apply laws_eqWords.mono | exact LeO.refl _ | exact LeO.none _ | refine LeO.ite ?_ ?_ | refine LeO.bind ?_ fun _ => ?_) | apply ih0 | apply laws_eqWords.mono | exact LeO.none _ | refine LeO.ite ?_ ?_ | refine LeO.bind ?_ fun _ => ?_
theorem laws_eqWordsS.mono : ∀ a0 a1 k, LeO (laws_eqWordsS.f k a0 a1) (laws_eqWordsS.f (k + 1) a0 a1) := by
 intro a0 a1 k
 have ih0 := laws_eqWordsS.mono_l k
 unfold laws_eqWordsS.f
 repeat' first | (with_reducible first | apply ih0 | apply laws_eqWords.mono | exact LeO.refl _ | exact LeO.none _ | refine LeO.ite ?_ ?_ | refine LeO.bind ?_ fun _ => ?_) | apply ih0 | apply laws_eqWords.mono | exact LeO.none _ | refine LeO.ite ?_ ?_ | refine LeO.bind ?_ fun _ => ?_
def laws_eqWordsS.T6 : Bool × List (List Nat × List Nat) := (true, [([], []), ([], []), ([0, 1], [0, 1]), ([2], [2]), ([], []), ([], []), ([4, 5], [4, 5]), ([6], [6]), ([3, 7], [3, 7]), ([8], [8])])
def laws_eqWordsS.B6 : List Nat := [0, 0, 3, 7, 0, 0, 48, 112, 255, 511]
theorem laws_eqWordsS.tab6 : rtab .any (opsOf Try.f41 6) = laws_eqWordsS.T6 := by kernel_rfl
theorem laws_eqWordsS.bits6 : waitsOk laws_eqWordsS.T6.2 laws_eqWordsS.B6 = true := by kernel_rfl
set_option maxHeartbeats 8000000 in
set_option maxRecDepth 100000 in
theorem laws_eqWordsS.calls (k : Nat) (A0 : Option Addr) (c0 : Nat) (l0 : List (S41)) (A1 : Option Addr) (c1 : Nat) (l1 : List (S41)) (r : Bool) (w : World) (hr0 : Kd.C k41 w A0 l0.length l0) (hc0 : l0.length ≤ c0) (hr1 : Kd.C k41 w A1 l1.length l1) (hc1 : l1.length ≤ c1) (h : laws_eqWordsS.f k l0 l1 = some r) :
  Calls Try.prog 41 #[.slice A0 l0.length c0, .slice A1 l1.length c1] w fun e w' => e = .returned (.bool r) ∧ Below w.heap.size w w' := by
 have hu41 := Try.underlying41; have HR0 := Aside0.mk hr0; have HC0 := Aside0.mk hc0; clear hr0 hc0; have HR1 := Aside0.mk hr1; have HC1 := Aside0.mk hc1; clear hr1 hc1
 have HB := Aside0.mk (Below.refl w.heap.size w)
 have H : (if (l0.length : Int) = (l1.length : Int) then (laws_eqWordsS.l0 k l0 l1 0) else (some false)) = some r := h
 clear h
 by_cases c3 : (l0.length : Int) = (l1.length : Int)
 ·rw [if_pos c3] at H
  have c3b0 : ((l0.length : Int) == (l1.length : Int)) = true := beq_iff_eq.mpr c3
  have c3b1 : ((l0.length : Int) != (l1.length : Int)) = false := bne_eq_false_iff_eq.mpr c3
  have c3b2 : (l0.length == l1.length) = true := by first | simpa using c3 | (simp at c3 ⊢; omega)
  clear c3
  have H' := Aside0.mk H
  clear H
  go_enter Try.func41, Try.ntmps41
  go_wp2
  go_loopg [5] k (fun kq v5 w' => ∃ (x5_1 : Int), v5 = .int .i64 x5_1 ∧ Aside0 (laws_eqWordsS.l0 kq l0 l1 x5_1 = some r) ∧ Aside0 (kq ≤ k) ∧ Aside0 (Below w.heap.size w w'))
  case atStart => exact ⟨(0), (by first | rfl | (simp; done) | (simp [*]; done)), H', ⟨Nat.le_refl _⟩, ⟨hbA_ HB.out⟩⟩
  case round =>
   clear H'; (try clear c1); (try clear p2); (try clear c3); (try clear c3b0); (try clear c3b1); (try clear c3b2)
   obtain ⟨x5_1, rfl, HA, HK1, HB⟩ := hrel
   cases gk with
   | zero => exact absurd HA.out (by simp [laws_eqWordsS.l0])
   | succ k1 =>
    have H := HA.out; clear HA
    simp only [laws_eqWordsS.l0] at H
    by_cases c4 : x5_1 < (l0.length : Int)
    ·rw [if_pos c4] at H
     have c4b0 : decide (x5_1 < (l0.length : Int)) = true := decide_eq_true c4
     clear c4
     by_cases c5 : 0 ≤ x5_1
     ·rw [if_pos c5] at H
      have c5b0 : decide (0 ≤ x5_1) = true := decide_eq_true c5
      clear c5
      by_cases c6 : x5_1 < (l1.length : Int)
      ·rw [if_pos c6] at H
       have c6b0 : decide (x5_1 < (l1.length : Int)) = true := decide_eq_true c6
       clear c6
       replace H := Option.bind_eq_some_iff.mp H
       obtain ⟨t149, A70, H⟩ := H
       (try dsimp only at H)
       have A7 := Aside0.mk A70; clear A70
       by_cases c8 : t149 = true
       ·subst c8
        rw [if_pos rfl] at H
        have H' := Aside0.mk H
        clear H
        try go_wp2
        replace HB := (bd_ HB)
        have p147 : 0 ≤ (x5_1 : Int) := of_decide_eq_true (by first | (with_reducible assumption) | assumption)
        have q147 : x5_1 < (l0.length : Int) := of_decide_eq_true (by first | (with_reducible assumption) | assumption)
        obtain ⟨ad147, A147_1, c147_1, e147, hx147_0, hx147_1, hl147_1, hi147_1⟩ := at_T41 HR0.out x5_1 p147 q147
        have hw147_1 := hx147_1; have hw147_0 := hx147_0
        cases e147
        replace hx147_0 := cc_ HB hx147_0
        replace hx147_1 := cc_ HB hx147_1
        have HR147_1 := Aside0.mk hi147_1; have HC147_1 := Aside0.mk hl147_1; clear hi147_1 hl147_1
        replace p147 := eq_true p147
        replace q147 := eq_true q147
        have p148 : 0 ≤ (x5_1 : Int) := of_decide_eq_true (by first | (with_reducible assumption) | assumption)
        have q148 : x5_1 < (l1.length : Int) := of_decide_eq_true (by first | (with_reducible assumption) | assumption)
        obtain ⟨ad148, A148_1, c148_1, e148, hx148_0, hx148_1, hl148_1, hi148_1⟩ := at_T41 HR1.out x5_1 p148 q148
        have hw148_1 := hx148_1; have hw148_0 := hx148_0
        cases e148
        replace hx148_0 := cc_ HB hx148_0
        replace hx148_1 := cc_ HB hx148_1
        have HR148_1 := Aside0.mk hi148_1; have HC148_1 := Aside0.mk hl148_1; clear hi148_1 hl148_1
        replace p148 := eq_true p148
        replace q148 := eq_true q148
        refine start_ (n := 10) (S := fun w' => w'.cell? (ad147.add ((x5_1).toNat * 2)) = some (.int .i64 ((rd_T41 l0 x5_1).f0)) ∧ w'.cell? ⟨(ad147.add ((x5_1).toNat * 2)).block, (ad147.add ((x5_1).toNat * 2)).off + 1, none⟩ = some (.slice A147_1 ((rd_T41 l0 x5_1).f1).length c147_1) ∧ w'.cell? (ad148.add ((x5_1).toNat * 2)) = some (.int .i64 ((rd_T41 l1 x5_1).f0)) ∧ w'.cell? ⟨(ad148.add ((x5_1).toNat * 2)).block, (ad148.add ((x5_1).toNat * 2)).off + 1, none⟩ = some (.slice A148_1 ((rd_T41 l1 x5_1).f1).length c148_1)) (ds := []) #[false, false, false, false, false, false, false, false, false, false] (by kernel_rfl) rfl rfl ⟨(cc_ HB hw147_0), (cc_ HB hw147_1), (cc_ HB hw148_0), (cc_ HB hw148_1)⟩ (fun hHeld => ?_); refine with_tabW laws_eqWordsS.tab6 laws_eqWordsS.bits6 (fun HT_ HW_ => ?_)
        generalize wr.drew = w9 at HB HR147_1 HR148_1 hx147_0 hx147_1 hx148_0 hx148_1 hHeld ⊢
        refine pu_ (i := 0) (N := some 17) HT_ ?_; refine pu_ (i := 1) (N := some 18) HT_ ?_; refine pu_ (i := 2) (N := some 19) HT_ ?_; refine pu_ (i := 4) (N := some 21) HT_ ?_; refine pu_ (i := 5) (N := some 22) HT_ ?_; refine pu_ (i := 6) (N := some 23) HT_ ?_; refine tk_ (i := 3) (N := some 20) HT_ HW_ hHeld ?_; refine tk_ (i := 7) (N := some 24) HT_ HW_ hHeld ?_
        refine on_ (i := 8) (N := some 25) HT_ (fun K hK => ?_)
        refine goes_ Try.func38 (by kernel_rfl) rfl #[.agg #[.int .i64 ((rd_T41 l0 x5_1).f0), .slice A147_1 ((rd_T41 l0 x5_1).f1).length c147_1], .agg #[.int .i64 ((rd_T41 l1 x5_1).f0), .slice A148_1 ((rd_T41 l1 x5_1).f1).length c148_1]] (by rfl) rfl rfl ar_ ?_
        with_reducible refine (laws_eqWords.calls k1 ((rd_T41 l0 x5_1).f0) _ _ ((rd_T41 l0 x5_1).f1) ((rd_T41 l1 x5_1).f0) _ _ ((rd_T41 l1 x5_1).f1) true _ ?side1 ?side2 ?side3 ?side4 A7.out).mono ?_
        (case side1 => exact kC_ (Kd.C_below HR147_1.out HB.out))
        (case side2 => exact HC147_1.out)
        (case side3 => exact kC_ (Kd.C_below HR148_1.out HB.out))
        (case side4 => exact HC148_1.out)
        rintro e w10 ⟨rfl, hb⟩
        refine ⟨_, rfl, ?_⟩
        replace HB := (bs_ HB hb); (try clear hb); (try clear hb2); (try clear hk); (try clear hi)
        refine hK.out _ _ ⟨(cc_ HB hw147_0), (cc_ HB hw147_1), (cc_ HB hw148_0), (cc_ HB hw148_1)⟩ (fun hHeld => ?_)
        clear hK K; refine nm_ 25 ?_; refine pu_ (i := 9) (N := some 26) HT_ ?_
        refine done_ (done_of HT_.out (by kernel_rfl)) ?_
        try go_wp2
        go_roundg k1
        case measure => have := HK1.out; omega
        case rel => exact ⟨(wrap64 (x5_1 + 1)), (by first | rfl | (simp; done) | (simp [*]; done)), H', ⟨by have := HK1.out; omega⟩, ⟨hbA_ HB.out⟩⟩
       ·replace c8 := Bool.eq_false_iff.mpr c8
        subst c8
        rw [if_neg (show ¬ (false = true) by decide)] at H
        obtain rfl := Option.some.inj H
        try go_wp2
        replace HB := (bd_ HB)
        have p147 : 0 ≤ (x5_1 : Int) := of_decide_eq_true (by first | (with_reducible assumption) | assumption)
        have q147 : x5_1 < (l0.length : Int) := of_decide_eq_true (by first | (with_reducible assumption) | assumption)
        obtain ⟨ad147, A147_1, c147_1, e147, hx147_0, hx147_1, hl147_1, hi147_1⟩ := at_T41 HR0.out x5_1 p147 q147
        have hw147_1 := hx147_1; have hw147_0 := hx147_0
        cases e147
        replace hx147_0 := cc_ HB hx147_0
        replace hx147_1 := cc_ HB hx147_1
        have HR147_1 := Aside0.mk hi147_1; have HC147_1 := Aside0.mk hl147_1; clear hi147_1 hl147_1
        replace p147 := eq_true p147
        replace q147 := eq_true q147
        have p148 : 0 ≤ (x5_1 : Int) := of_decide_eq_true (by first | (with_reducible assumption) | assumption)
        have q148 : x5_1 < (l1.length : Int) := of_decide_eq_true (by first | (with_reducible assumption) | assumption)
        obtain ⟨ad148, A148_1, c148_1, e148, hx148_0, hx148_1, hl148_1, hi148_1⟩ := at_T41 HR1.out x5_1 p148 q148
        have hw148_1 := hx148_1; have hw148_0 := hx148_0
        cases e148
        replace hx148_0 := cc_ HB hx148_0
        replace hx148_1 := cc_ HB hx148_1
        have HR148_1 := Aside0.mk hi148_1; have HC148_1 := Aside0.mk hl148_1; clear hi148_1 hl148_1
        replace p148 := eq_true p148
        replace q148 := eq_true q148
        refine start_ (n := 10) (S := fun w' => w'.cell? (ad147.add ((x5_1).toNat * 2)) = some (.int .i64 ((rd_T41 l0 x5_1).f0)) ∧ w'.cell? ⟨(ad147.add ((x5_1).toNat * 2)).block, (ad147.add ((x5_1).toNat * 2)).off + 1, none⟩ = some (.slice A147_1 ((rd_T41 l0 x5_1).f1).length c147_1) ∧ w'.cell? (ad148.add ((x5_1).toNat * 2)) = some (.int .i64 ((rd_T41 l1 x5_1).f0)) ∧ w'.cell? ⟨(ad148.add ((x5_1).toNat * 2)).block, (ad148.add ((x5_1).toNat * 2)).off + 1, none⟩ = some (.slice A148_1 ((rd_T41 l1 x5_1).f1).length c148_1)) (ds := []) #[false, false, false, false, false, false, false, false, false, false] (by kernel_rfl) rfl rfl ⟨(cc_ HB hw147_0), (cc_ HB hw147_1), (cc_ HB hw148_0), (cc_ HB hw148_1)⟩ (fun hHeld => ?_); refine with_tabW laws_eqWordsS.tab6 laws_eqWordsS.bits6 (fun HT_ HW_ => ?_)
        generalize wr.drew = w11 at HB HR147_1 HR148_1 hx147_0 hx147_1 hx148_0 hx148_1 hHeld ⊢
        refine pu_ (i := 0) (N := some 17) HT_ ?_; refine pu_ (i := 1) (N := some 18) HT_ ?_; refine pu_ (i := 2) (N := some 19) HT_ ?_; refine pu_ (i := 4) (N := some 21) HT_ ?_; refine pu_ (i := 5) (N := some 22) HT_ ?_; refine pu_ (i := 6) (N := some 23) HT_ ?_; refine tk_ (i := 3) (N := some 20) HT_ HW_ hHeld ?_; refine tk_ (i := 7) (N := some 24) HT_ HW_ hHeld ?_
        refine on_ (i := 8) (N := some 25) HT_ (fun K hK => ?_)
        refine goes_ Try.func38 (by kernel_rfl) rfl #[.agg #[.int .i64 ((rd_T41 l0 x5_1).f0), .slice A147_1 ((rd_T41 l0 x5_1).f1).length c147_1], .agg #[.int .i64 ((rd_T41 l1 x5_1).f0), .slice A148_1 ((rd_T41 l1 x5_1).f1).length c148_1]] (by rfl) rfl rfl ar_ ?_
        with_reducible refine (laws_eqWords.calls k1 ((rd_T41 l0 x5_1).f0) _ _ ((rd_T41 l0 x5_1).f1) ((rd_T41 l1 x5_1).f0) _ _ ((rd_T41 l1 x5_1).f1) false _ ?side1 ?side2 ?side3 ?side4 A7.out).mono ?_
        (case side1 => exact kC_ (Kd.C_below HR147_1.out HB.out))
        (case side2 => exact HC147_1.out)
        (case side3 => exact kC_ (Kd.C_below HR148_1.out HB.out))
        (case side4 => exact HC148_1.out)
        rintro e w12 ⟨rfl, hb⟩
        refine ⟨_, rfl, ?_⟩
        replace HB := (bs_ HB hb); (try clear hb); (try clear hb2); (try clear hk); (try clear hi)
        refine hK.out _ _ ⟨(cc_ HB hw147_0), (cc_ HB hw147_1), (cc_ HB hw148_0), (cc_ HB hw148_1)⟩ (fun hHeld => ?_)
        clear hK K; refine nm_ 25 ?_; refine pu_ (i := 9) (N := some 26) HT_ ?_
        refine done_ (done_of HT_.out (by kernel_rfl)) ?_
        try go_wp2
        go_ret
        exact ⟨by first | rfl | (simp [errW_none, errW_some] <;> rfl) | (simp [*, errW_none, errW_some] <;> rfl), hbA_ HB.out⟩
      ·rw [if_neg c6] at H
       exact absurd H (by simp)
     ·rw [if_neg c5] at H
      exact absurd H (by simp)
    ·rw [if_neg c4] at H
     have c4b0 : decide (x5_1 < (l0.length : Int)) = false := decide_eq_false c4
     clear c4
     obtain rfl := Option.some.inj H
     go_wp2
     go_ret
     exact ⟨by first | rfl | (simp [errW_none, errW_some] <;> rfl) | (simp [*, errW_none, errW_some] <;> rfl), hbA_ HB.out⟩
 ·rw [if_neg c3] at H
  have c3b0 : ((l0.length : Int) == (l1.length : Int)) = false := beq_eq_false_iff_ne.mpr c3
  have c3b1 : ((l0.length : Int) != (l1.length : Int)) = true := bne_iff_ne.mpr c3
  have c3b2 : (l0.length == l1.length) = false := by first | simpa using c3 | (simp at c3 ⊢; omega)
  obtain rfl := Option.some.inj H
  go_enter Try.func41, Try.ntmps41
  go_wp2
  go_ret
  exact ⟨by first | rfl | (simp [errW_none, errW_some] <;> rfl) | (simp [*, errW_none, errW_some] <;> rfl), hbA_ HB.out⟩
def laws_markWordsS.l0 : Nat → List S41 → Int → Int → Option (Int × List S41)
  | 0, _, _, _ => none
  | k + 1, x0, x1, x5 => if x5 < (x0.length : Int) then (if 0 ≤ x5 then ((laws_markByteS.f k (rd_T41 x0 x5).f1 (wrap64 (x1 + 1))).bind fun t => laws_markWordsS.l0 k (x0.set x5.toNat (⟨(x1), t.2⟩ : S41)) t.1 (wrap64 (x5 + 1))) else none) else (some (x1, x0))
def laws_markWordsS.f (k : Nat) (l0 : List S41) (a1 : Int) : Option (Int × List S41) := laws_markWordsS.l0 k l0 a1 0
theorem laws_markWordsS.mono_l : ∀ k, (∀ y0 y1 y2, LeO (laws_markWordsS.l0 k y0 y1 y2) (laws_markWordsS.l0 (k + 1) y0 y1 y2))
  | 0 => fun _ _ _ r h => by simp [laws_markWordsS.l0] at h
  | k + 1 => by
    have ih0 := laws_markWordsS.mono_l k
    · intro y0 y1 y2
      unfold laws_markWordsS.l0
      repeat' first
      | (with_reducible exact ih0 _ _ _)
      | (with_reducible exact laws_markByteS.mono _ _ _)
      | (with_reducible exact LeO.refl _)
      | (with_reducible exact LeO.none _)
      | (with_reducible refine LeO.ite ?_ ?_)
      | (with_reducible refine LeO.bind ?_ (fun _ => ?_))
      | exact ih0 _ _ _
      | exact laws_markByteS.mono _ _ _
      | exact LeO.none _
      | refine LeO.ite ?_ ?_
      | refine LeO.bind ?_ (fun _ => ?_)
theorem laws_markWordsS.mono : ∀ a0 a1 k, LeO (laws_markWordsS.f k a0 a1) (laws_markWordsS.f (k + 1) a0 a1) := by
  intro a0 a1 k
  have ih0 := laws_markWordsS.mono_l k
  unfold laws_markWordsS.f
  repeat' first
      | (with_reducible exact ih0 _ _ _)
      | (with_reducible exact laws_markByteS.mono _ _ _)
      | (with_reducible exact LeO.refl _)
      | (with_reducible exact LeO.none _)
      | (with_reducible refine LeO.ite ?_ ?_)
      | (with_reducible refine LeO.bind ?_ (fun _ => ?_))
      | exact ih0 _ _ _
      | exact laws_markByteS.mono _ _ _
      | exact LeO.none _
      | refine LeO.ite ?_ ?_
      | refine LeO.bind ?_ (fun _ => ?_)
set_option maxHeartbeats 8000000 in
set_option maxRecDepth 100000 in
theorem laws_markWordsS.calls (k : Nat) (P0_ : Nat → Prop) (u9000_ : Value) (l0 : List S41) (a1 : Int) (r1 : Int) (r2 : List S41) (w0 w : World) (hB : Below w0.heap.size w0 w) (ho0 : Kd.S k41 41 w w0.heap.size P0_ u9000_ l0) (h : laws_markWordsS.f k l0 a1 = some (r1, r2)) :
    Calls Try.prog 42 #[u9000_, .int .i64 a1] w fun e w' => e = .returned (.int .i64 r1) ∧ Kd.S k41 41 w' w0.heap.size P0_ u9000_ r2 ∧ Below w0.heap.size w0 w' ∧ Kept w w' (fun k_ => P0_ k_) := by
  have HO0 := Aside0.mk ho0; clear ho0
  have HK := Aside0.mk (Kept.refl w (fun k_ => P0_ k_))
  have HB := Aside0.mk hB; clear hB
  have H' := Aside0.mk (show laws_markWordsS.l0 k l0 a1 0 = some (r1, r2) from h)
  clear h
  go_enter Try.func42, Try.ntmps42
  go_wp2
  go_loopg [1, 5] k (fun kq v1 v5 w' => ∃ (x0_1 : List S41) (x1_1 : Int) (x5_1 : Int), v1 = .int .i64 x1_1 ∧ v5 = .int .i64 x5_1 ∧ Aside0 (laws_markWordsS.l0 kq x0_1 x1_1 x5_1 = some (r1, r2)) ∧ Aside0 (kq ≤ k) ∧ Aside0 (Kd.S k41 41 w' w0.heap.size P0_ u9000_ x0_1) ∧ Aside0 (Kept w w' (fun k_ => P0_ k_)) ∧ Aside0 (Below w0.heap.size w0 w'))
  case atStart => exact ⟨l0, a1, 0, (by first | rfl | (simp; done) | (simp [*]; done)), (by first | rfl | (simp; done) | (simp [*]; done)), H', ⟨Nat.le_refl _⟩, ⟨kS_ HO0.out⟩, ⟨by repeat (first | (with_reducible first | exact HK.out | apply Kept.alloc | apply Kept.drewN | apply Kept.drew) | exact HK.out)⟩, ⟨hbA_ HB.out⟩⟩
  case round =>
    clear H'; (try clear p2)
    obtain ⟨x0_1, x1_1, x5_1, rfl, rfl, HA, HK1, HO_0, HK, HB⟩ := hrel
    cases gk with
    | zero => exact absurd HA.out (by simp [laws_markWordsS.l0])
    | succ k1 =>
      have H := HA.out; clear HA
      simp only [laws_markWordsS.l0] at H
      by_cases c3 : x5_1 < (x0_1.length : Int)
      · rw [if_pos c3] at H
        have c3b0 : decide (x5_1 < (x0_1.length : Int)) = true := decide_eq_true c3
        by_cases c4 : 0 ≤ x5_1
        · rw [if_pos c4] at H
          have c4b0 : decide (0 ≤ x5_1) = true := decide_eq_true c4
          replace H := Option.bind_eq_some_iff.mp H
          obtain ⟨⟨t1, t2⟩, A20, H⟩ := H
          have A2 := Aside0.mk A20; clear A20
          have H' := Aside0.mk H
          clear H
          obtain ⟨Ao6, co6, eo6⟩ := Kd.S_slice HO_0.out
          subst eo6
          have p5 : 0 ≤ (x5_1 : Int) := c4
          have q5 : (x5_1 : Int) < ((x0_1.length : Nat) : Int) := c3
          have P5 := Aside0.mk p5
          have Q5 := Aside0.mk q5
          clear c3 c4
          obtain ⟨go5, co5, eo5, gb5, gl5, cl5, HG5⟩ := Kd.S_form HO_0.out (by omega)
          (first | cases eo5 | (injection eo5 with ea_ en_ ec_; (first | subst ea_ | (injection ea_ with ea_; subst ea_)); subst ec_; clear en_))
          have GB5 := Aside0.mk gb5; clear gb5 gl5 HG5
          have HMgo5 := Aside0.mk (show P0_ go5 from (Kd.S_R HO_0.out).1 _ rfl)
          have HS0 := Aside0.mk (show Kd.S k41 41 wr w0.heap.size P0_ (.slice (some ⟨go5, 0, none⟩) x0_1.length co6) (x0_1.set x5_1.toNat (rd_T41 x0_1 x5_1)) from Kd.S_start HO_0.out z41 x5_1)
          clear HO_0
          obtain ⟨ok0_, c0_, hM0_, hc0_, hf0_, hk0_, hb0_⟩ := Kd.S_cells HS0.out P5.out Q5.out
          obtain ⟨ve0_, rfl, ge0_⟩ := k41_openM hM0_
          have hx0 := hc0_ 0 _ rfl
          have hf0 := hf0_ 0
          (try simp only [show k41.sz = 2 from rfl, Nat.add_zero] at hx0 hf0)
          clear hM0_ hc0_ hf0_ hk0_ hb0_ ge0_
          replace p5 := eq_true p5
          replace q5 := eq_true q5
          have HP0 := Kd.S_put1 HS0.out P5.out Q5.out 0 (.int .i64 x1_1) (by decide) (⟨(x1_1), (rd_T41 x0_1 x5_1).f1⟩ : S41) (fun hM_ => by obtain ⟨v1, rfl, g1⟩ := k41_openM hM_; exact k41_mkM _ _ _ (⟨(x1_1), (rd_T41 x0_1 x5_1).f1⟩ : S41) g1)
          (try simp only [show k41.sz = 2 from rfl, Nat.add_zero] at HP0)
          go_wp2_with (first | ((with_reducible refine gate_store (t := 3) (p := 16) rfl ?_); refine store_event (t := 3) (p := 16) (v := ?vo_w8) (w1 := (wr.setCell ⟨go5, (x5_1 : Int).toNat * 2, none⟩ (.int .i64 x1_1))) ?hg ?ho ?hn ?hr ?_; (case ho => rfl); (case hg => rfl); (case hn => rfl); (case hr => first | (go_simp; done) | (go_simp; rfl)); intro w8 hw; have hg : wr.grownBy w8 (some go5) := (by rw [hw]; exact HP0.2); have HS1 : Aside0 (Kd.S k41 41 w8 w0.heap.size P0_ (.slice (some ⟨go5, 0, none⟩) x0_1.length co6) (x0_1.set x5_1.toNat (⟨(x1_1), (rd_T41 x0_1 x5_1).f1⟩ : S41))) := ⟨by rw [hw]; exact HP0.1⟩; clear HP0; replace HB := Aside0.mk ((by rw [hw]; exact below_set (HB.out) GB5.out : Below w0.heap.size w0 w8)); replace HK := Aside0.mk (Kept.of_grown (S := (fun k_ => P0_ k_)) hg (by repeat (first | (with_reducible first | exact HK.out | apply Kept.alloc | apply Kept.drewN | apply Kept.drew) | exact HK.out)) (fun k_ e_ => .inl (by injection e_ with e_; subst e_; exact HMgo5.out))); clear hg hw HS0 hx0 hf0; obtain ⟨ok1_, c1_, hM1_, hc1_, hf1_, hk1_, hb1_⟩ := Kd.S_cells HS1.out P5.out Q5.out; obtain ⟨ve1_, rfl, ge1_⟩ := k41_openM hM1_; obtain ⟨Ae1_, ce1_, ee1_⟩ := Kd.R_slice ge1_; subst ee1_; have hx1 := hc1_ 1 _ rfl; (try simp only [show k41.sz = 2 from rfl, Nat.add_zero] at hx1); have HG1 := Aside0.mk ge1_; have HK1_ := Aside0.mk hk1_; have HW1 := Aside0.mk @hb1_; clear hM1_ hc1_ hf1_ ge1_ hk1_ hb1_) | ((with_reducible refine gate_callee (f := 34) rfl ?_); refine goesL_ (some 25) rfl rfl Try.func34 (by kernel_rfl) rfl #[.slice Ae1_ (rd_T41 x0_1 x5_1).f1.length ce1_, .int .i64 (wrap64 (x1_1 + 1))] rfl ar_ ?_; refine (laws_markByteS.calls k1 (fun k_ => some k_ = (.slice Ae1_ (rd_T41 x0_1 x5_1).f1.length ce1_ : Value).ownBlock) _ _ _ t1 t2 w0 _ HB.out (Kd.R_tight rfl HG1.out) A2.out).mono ?_; rintro e w30 ⟨rfl, hy, hb, hkp⟩; refine ⟨_, rfl, ?_⟩; have HSe : Aside0 (Kd.S k41 41 w30 w0.heap.size P0_ (.slice (some ⟨go5, 0, none⟩) x0_1.length co6) (x0_1.set x5_1.toNat (⟨(x1_1), t2⟩ : S41))) := ⟨HW1.out hkp (fun k_ e_ => HG1.out.1 k_ e_.symm) (k41_mkM _ _ _ (⟨(x1_1), t2⟩ : S41) (Kd.R_reok rfl hy (fun k_ e_ => HG1.out.1 k_ e_)))⟩; replace HB := Aside0.mk hb; replace HK := Aside0.mk (Kept.then_ (S := (fun k_ => P0_ k_)) (by repeat (first | (with_reducible first | exact HK.out | apply Kept.alloc | apply Kept.drewN | apply Kept.drew) | exact HK.out)) hkp (fun k_ e_ => .inl (HK1_.out k_ (HG1.out.1 k_ e_.symm)).1)); clear hy hb hkp HW1 HS1 hx1 HG1 HK1_))
          go_roundg k1
          case measure => have := HK1.out; omega
          case rel => exact ⟨(x0_1.set x5_1.toNat (⟨(x1_1), t2⟩ : S41)), t1, (wrap64 (x5_1 + 1)), (by first | rfl | (simp; done) | (simp [*]; done)), (by first | rfl | (simp; done) | (simp [*]; done)), H', ⟨by have := HK1.out; omega⟩, ⟨kS_ HSe.out⟩, ⟨by repeat (first | (with_reducible first | exact HK.out | apply Kept.alloc | apply Kept.drewN | apply Kept.drew) | exact HK.out)⟩, ⟨hbA_ HB.out⟩⟩
        · rw [if_neg c4] at H
          exact absurd H (by simp)
      · rw [if_neg c3] at H
        have c3b0 : decide (x5_1 < (x0_1.length : Int)) = false := decide_eq_false c3
        clear c3
        simp only [Option.some.injEq, Prod.mk.injEq] at H
        obtain ⟨rfl, rfl⟩ := H
        obtain ⟨Ao9, co9, eo9⟩ := Kd.S_slice HO_0.out
        subst eo9
        go_wp2
        go_ret
        exact ⟨by first | rfl | (simp [*]; done), kS_ HO_0.out, hbA_ HB.out, by repeat (first | (with_reducible first | exact HK.out | apply Kept.alloc | apply Kept.drewN | apply Kept.drew) | exact HK.out)⟩
def laws_heldByteS.l0 : Nat → List Int → Int → Int → Option (Int)
 | 0, _, _, _ => none
 | k + 1, x0, x1, x5 => if x5 < (x0.length : Int) then (if 0 ≤ x5 then (if (rd x0 x5) = ((x1) % 256) then (laws_heldByteS.l0 k x0 (wrap64 (x1 + 1)) (wrap64 (x5 + 1))) else (some (-1))) else (none)) else (some x1)
def laws_heldByteS.f (k : Nat) (l0 : List Int) (a1 : Int) : Option (Int) := laws_heldByteS.l0 k l0 a1 0
theorem laws_heldByteS.mono_l : ∀ k, (∀ y0 y1 y2, LeO (laws_heldByteS.l0 k y0 y1 y2) (laws_heldByteS.l0 (k + 1) y0 y1 y2))
 | 0 => fun _ _ _ r h => by simp [laws_heldByteS.l0] at h
 | k + 1 => by
  have ih0 := laws_heldByteS.mono_l k
  ·intro y0 y1 y2
   unfold laws_heldByteS.l0
   repeat' first | (with_reducible first | apply ih0 | exact LeO.refl _ | exact LeO.none _ | refine LeO.ite ?_ ?_ | refine LeO.bind ?_ fun _ => ?_) | apply ih0 | exact LeO.none _ | refine LeO.ite ?_ ?_ | refine LeO.bind ?_ fun _ => ?_
theorem laws_heldByteS.mono : ∀ a0 a1 k, LeO (laws_heldByteS.f k a0 a1) (laws_heldByteS.f (k + 1) a0 a1) := by
 intro a0 a1 k
 have ih0 := laws_heldByteS.mono_l k
 unfold laws_heldByteS.f
 repeat' first | (with_reducible first | apply ih0 | exact LeO.refl _ | exact LeO.none _ | refine LeO.ite ?_ ?_ | refine LeO.bind ?_ fun _ => ?_) | apply ih0 | exact LeO.none _ | refine LeO.ite ?_ ?_ | refine LeO.bind ?_ fun _ => ?_
set_option maxHeartbeats 8000000 in
set_option maxRecDepth 100000 in
theorem laws_heldByteS.calls (k : Nat) (A0 : Option Addr) (c0 : Nat) (l0 : List Int) (a1 : Int) (r : Int) (w : World) (hr0 : Kd.C (Kd.int .u8) w A0 l0.length l0) (hc0 : l0.length ≤ c0) (h : laws_heldByteS.f k l0 a1 = some r) :
  Calls Try.prog 35 #[.slice A0 l0.length c0, .int .i64 a1] w fun e w' => e = .returned (.int .i64 r) ∧ Drawn0 w w' := by
 have HR0 := Aside0.mk hr0; have HC0 := Aside0.mk hc0; clear hr0 hc0
 have H : (laws_heldByteS.l0 k l0 a1 0) = some r := h
 clear h
 have H' := Aside0.mk H
 clear H
 go_enter Try.func35, Try.ntmps35
 go_wp2
 go_loopg [1, 5] k (fun kq v1 v5 w' => ∃ (x1_1 : Int) (x5_1 : Int), v1 = .int .i64 x1_1 ∧ v5 = .int .i64 x5_1 ∧ Aside0 (laws_heldByteS.l0 kq l0 x1_1 x5_1 = some r) ∧ Aside0 (kq ≤ k) ∧ Drawn0 w w')
 case atStart => exact ⟨(a1), (0), (by first | rfl | (simp; done) | (simp [*]; done)), (by first | rfl | (simp; done) | (simp [*]; done)), H', ⟨Nat.le_refl _⟩, by repeat (first | exact Drawn0.refl _ | apply Drawn0.step)⟩
 case round =>
  clear H'; (try clear p2)
  obtain ⟨x1_1, x5_1, rfl, rfl, HA, HK1, ⟨m1, rfl⟩⟩ := hrel
  cases gk with
  | zero => exact absurd HA.out (by simp [laws_heldByteS.l0])
  | succ k1 =>
   have H := HA.out; clear HA
   simp only [laws_heldByteS.l0] at H
   by_cases c3 : x5_1 < (l0.length : Int)
   ·rw [if_pos c3] at H
    have c3b0 : decide (x5_1 < (l0.length : Int)) = true := decide_eq_true c3
    clear c3
    by_cases c4 : 0 ≤ x5_1
    ·rw [if_pos c4] at H
     have c4b0 : decide (0 ≤ x5_1) = true := decide_eq_true c4
     clear c4
     by_cases c5 : (rd l0 x5_1) = ((x1_1) % 256)
     ·rw [if_pos c5] at H
      have c5b0 : ((rd l0 x5_1) == ((x1_1) % 256)) = true := beq_iff_eq.mpr c5
      have c5b1 : ((rd l0 x5_1) != ((x1_1) % 256)) = false := bne_eq_false_iff_eq.mpr c5
      clear c5
      have H' := Aside0.mk H
      clear H
      have p150 : 0 ≤ (x5_1 : Int) := of_decide_eq_true (by first | (with_reducible assumption) | assumption)
      have q150 : x5_1 < (l0.length : Int) := of_decide_eq_true (by first | (with_reducible assumption) | assumption)
      obtain ⟨ad150, e150, hx150_0⟩ := Kd.at_int HR0.out x5_1 p150 q150
      cases e150
      replace p150 := eq_true p150
      replace q150 := eq_true q150
      go_wp2
      go_roundg k1
      case measure => have := HK1.out; omega
      case rel => exact ⟨(wrap64 (x1_1 + 1)), (wrap64 (x5_1 + 1)), (by first | rfl | (simp; done) | (simp [*]; done)), (by first | rfl | (simp; done) | (simp [*]; done)), H', ⟨by have := HK1.out; omega⟩, by repeat (first | exact Drawn0.refl _ | apply Drawn0.step)⟩
     ·rw [if_neg c5] at H
      have c5b0 : ((rd l0 x5_1) == ((x1_1) % 256)) = false := beq_eq_false_iff_ne.mpr c5
      have c5b1 : ((rd l0 x5_1) != ((x1_1) % 256)) = true := bne_iff_ne.mpr c5
      obtain rfl := Option.some.inj H
      have p150 : 0 ≤ (x5_1 : Int) := of_decide_eq_true (by first | (with_reducible assumption) | assumption)
      have q150 : x5_1 < (l0.length : Int) := of_decide_eq_true (by first | (with_reducible assumption) | assumption)
      obtain ⟨ad150, e150, hx150_0⟩ := Kd.at_int HR0.out x5_1 p150 q150
      cases e150
      replace p150 := eq_true p150
      replace q150 := eq_true q150
      go_wp2
      go_ret
      exact ⟨by first | rfl | (simp; done) | (simp [*]; done), by repeat (first | exact Drawn0.refl _ | apply Drawn0.step)⟩
    ·rw [if_neg c4] at H
     exact absurd H (by simp)
   ·rw [if_neg c3] at H
    have c3b0 : decide (x5_1 < (l0.length : Int)) = false := decide_eq_false c3
    clear c3
    obtain rfl := Option.some.inj H
    go_wp2
    go_ret
    exact ⟨by first | rfl | (simp; done) | (simp [*]; done), by repeat (first | exact Drawn0.refl _ | apply Drawn0.step)⟩
end Go.Proofs.Ytegchbdjbefdbaa.PFnExactWordsFrom
