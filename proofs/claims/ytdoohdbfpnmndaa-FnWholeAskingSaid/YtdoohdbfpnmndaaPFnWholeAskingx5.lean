/- Printed by wip/xp/xprint.sh out of the translation, for this claim: what each function answers, as a plain function, and that the machine does just that. No condition. -/
import Derived.Test.YtdoohdbfpnmndaaPFnWholeAskingx0
import Derived.Test.YtdoohdbfpnmndaaPFnWholeAskingx3
import Derived.Test.YtdoohdbfpnmndaaPFnWholeAskingx4
namespace Go.Proofs.Ytdoohdbfpnmndaa.PFnWholeAsking
open Go.RowKit Go.Proofs.YtdoohdbfpnmndaaW.PrintWords Go.Proofs.YtdoohdbfpnmndaaW.PrintLast Go.Proofs.YtdoohdbfpnmndaaW.PrintMore
attribute [local go_sem] max2_int min2_int max_two min_two max_three min_three max_four min_four   -- for this text's walks alone
set_option linter.unusedVariables false
set_option linter.unusedSimpArgs false
mutual
def spec_NearHear.j0 : Nat → Int → Int → List (List Int) → Bool → List (S63) → List (S65) → Int → Int → Int → Int → Option ((List (S63)) × (List (S65)) × (List (List Int)))
 | 0, _, _, _, _, _, _, _, _, _, _ => none
 | k + 1, x1, x3, x10, x28, x252000, x252001, x253000, x253001, x253002, x253003 => if x28 = true then (some (([] : List (S63)), ([] : List (S65)), x10)) else (spec_NearHear.l0 k x3 x10 (x253003 == x1) 0 x252000 x252001 x253000 x253001 x253002 x253003 ([] : List (S63)))
def spec_NearHear.l0 : Nat → Int → List (List Int) → Bool → Int → List (S63) → List (S65) → Int → Int → Int → Int → List (S63) → Option ((List (S63)) × (List (S65)) × (List (List Int)))
 | 0, _, _, _, _, _, _, _, _, _, _, _ => none
 | k + 1, x3, x10, x12, x13, x252000, x252001, x253000, x253001, x253002, x253003, x261000 => if x13 < (x252000.length : Int) then (if 0 ≤ x13 then (if ((rd_T63 x252000 x13).f0) = x253002 then (spec_NearHear.l0 k x3 x10 true (wrap64 (x13 + 1)) x252000 x252001 x253000 x253001 x253002 x253003 x261000) else (if x261000.length < 5864062014805 then (spec_NearHear.l0 k x3 x10 x12 (wrap64 (x13 + 1)) x252000 x252001 x253000 x253001 x253002 x253003 (x261000 ++ [(⟨(rd_T63 x252000 x13).f0, (rd_T63 x252000 x13).f1, (rd_T63 x252000 x13).f2⟩ : S63)])) else (none))) else (none)) else (spec_NearHear.l1 k x3 x10 x12 0 x252000 x252001 x253000 x253001 x253002 x253003 x261000 ([] : List (S65)))
def spec_NearHear.l1 : Nat → Int → List (List Int) → Bool → Int → List (S63) → List (S65) → Int → Int → Int → Int → List (S63) → List (S65) → Option ((List (S63)) × (List (S65)) × (List (List Int)))
 | 0, _, _, _, _, _, _, _, _, _, _, _, _ => none
 | k + 1, x3, x10, x12, x14, x252000, x252001, x253000, x253001, x253002, x253003, x261000, x261001 => if x14 < (x252001.length : Int) then (if 0 ≤ x14 then (if ((rd_T65 x252001 x14).f0) = x253002 then ((some (([] : List Int) : List Int)).bind fun y267 => (if y267.length + ((rd_T65 x252001 x14).f1).length < 140737488355328 then (if x10.length < 5864062014805 then (spec_NearHear.l1 k x3 (x10 ++ [(y267 ++ ((rd_T65 x252001 x14).f1))]) true (wrap64 (x14 + 1)) x252000 x252001 x253000 x253001 x253002 x253003 x261000 x261001) else (none)) else (none))) else ((some (([] : List Int) : List Int)).bind fun y278 => (if y278.length + ((rd_T65 x252001 x14).f1).length < 140737488355328 then (if x261001.length < 4398046511104 then (spec_NearHear.l1 k x3 x10 x12 (wrap64 (x14 + 1)) x252000 x252001 x253000 x253001 x253002 x253003 x261000 (x261001 ++ [(⟨(rd_T65 x252001 x14).f0, (y278 ++ ((rd_T65 x252001 x14).f1))⟩ : S65)])) else (none)) else (none)))) else (none)) else (if x12 = true then (if x261000.length < 5864062014805 then ((some (x261000 ++ [(⟨x253002, x253001, wrap64 (x3 + 20)⟩ : S63)] : List (S63))).bind fun y297 => (if (y297.length : Int) > 4 then (if 1 ≤ (y297.length : Int) then (some ((y297.drop (1 : Int).toNat), x261001, x10)) else (none)) else (some (y297, x261001, x10)))) else (none)) else ((spec_l3Copy.f k x252000 x252001).bind fun bt288 => (some (bt288.1, bt288.2, (([] : List (List Int)))))))
end
def spec_NearHear.f (k : Nat) (l0_0 : List (S63)) (l0_1 : List (S65)) (a1 : Int) (a2_0 : Int) (a2_1 : Int) (a2_2 : Int) (a2_3 : Int) (a3 : Int) : Option ((List (S63)) × (List (S65)) × (List (List Int))) := (some (([] : List (List Int)) : List (List Int))).bind fun y254 => ((spec_NearOk.f k l0_0 l0_1).bind fun t257 => (if t257 = true then ((spec_QueryOk.f a2_0 a2_1 a2_2 a2_3).bind fun t258 => (if t258 = true then ((spec_l1In.f a3 0 999980).bind fun t259 => (spec_NearHear.j0 k a1 a3 y254 (!t259) l0_0 l0_1 a2_0 a2_1 a2_2 a2_3)) else (spec_NearHear.j0 k a1 a3 y254 true l0_0 l0_1 a2_0 a2_1 a2_2 a2_3))) else (spec_NearHear.j0 k a1 a3 y254 true l0_0 l0_1 a2_0 a2_1 a2_2 a2_3)))
theorem spec_NearHear.mono_l : ∀ k, (∀ y0 y1 y2 y3 y4 y5 y6 y7 y8 y9, LeO (spec_NearHear.j0 k y0 y1 y2 y3 y4 y5 y6 y7 y8 y9) (spec_NearHear.j0 (k + 1) y0 y1 y2 y3 y4 y5 y6 y7 y8 y9)) ∧ (∀ y0 y1 y2 y3 y4 y5 y6 y7 y8 y9 y10, LeO (spec_NearHear.l0 k y0 y1 y2 y3 y4 y5 y6 y7 y8 y9 y10) (spec_NearHear.l0 (k + 1) y0 y1 y2 y3 y4 y5 y6 y7 y8 y9 y10)) ∧ (∀ y0 y1 y2 y3 y4 y5 y6 y7 y8 y9 y10 y11, LeO (spec_NearHear.l1 k y0 y1 y2 y3 y4 y5 y6 y7 y8 y9 y10 y11) (spec_NearHear.l1 (k + 1) y0 y1 y2 y3 y4 y5 y6 y7 y8 y9 y10 y11))
 | 0 => ⟨fun _ _ _ _ _ _ _ _ _ _ r h => by simp [spec_NearHear.j0] at h, fun _ _ _ _ _ _ _ _ _ _ _ r h => by simp [spec_NearHear.l0] at h, fun _ _ _ _ _ _ _ _ _ _ _ _ r h => by simp [spec_NearHear.l1] at h⟩
 | k + 1 => by
  obtain ⟨ih0, ih1, ih2⟩ := spec_NearHear.mono_l k
  refine ⟨?_, ?_, ?_⟩
  ·intro y0 y1 y2 y3 y4 y5 y6 y7 y8 y9
   unfold spec_NearHear.j0
   repeat' first | (with_reducible first | apply ih0 | apply ih1 | apply ih2 | apply spec_NearOk.mono | apply spec_l3Copy.mono | exact LeO.refl _ | exact LeO.none _ | refine LeO.ite ?_ ?_ | refine LeO.bind ?_ fun _ => ?_) | apply ih0 | apply ih1 | apply ih2 | apply spec_NearOk.mono | apply spec_l3Copy.mono | exact LeO.none _ | refine LeO.ite ?_ ?_ | refine LeO.bind ?_ fun _ => ?_
  ·intro y0 y1 y2 y3 y4 y5 y6 y7 y8 y9 y10
   unfold spec_NearHear.l0
   repeat' first | (with_reducible first | apply ih0 | apply ih1 | apply ih2 | apply spec_NearOk.mono | apply spec_l3Copy.mono | exact LeO.refl _ | exact LeO.none _ | refine LeO.ite ?_ ?_ | refine LeO.bind ?_ fun _ => ?_) | apply ih0 | apply ih1 | apply ih2 | apply spec_NearOk.mono | apply spec_l3Copy.mono | exact LeO.none _ | refine LeO.ite ?_ ?_ | refine LeO.bind ?_ fun _ => ?_
  ·intro y0 y1 y2 y3 y4 y5 y6 y7 y8 y9 y10 y11
   unfold spec_NearHear.l1
   repeat' first | (with_reducible first | apply ih0 | apply ih1 | apply ih2 | apply spec_NearOk.mono | apply spec_l3Copy.mono | exact LeO.refl _ | exact LeO.none _ | refine LeO.ite ?_ ?_ | refine LeO.bind ?_ fun _ => ?_) | apply ih0 | apply ih1 | apply ih2 | apply spec_NearOk.mono | apply spec_l3Copy.mono | exact LeO.none _ | refine LeO.ite ?_ ?_ | refine LeO.bind ?_ fun _ => ?_
theorem spec_NearHear.mono : ∀ a0 a1 a2 a3 a4 a5 a6 a7 k, LeO (spec_NearHear.f k a0 a1 a2 a3 a4 a5 a6 a7) (spec_NearHear.f (k + 1) a0 a1 a2 a3 a4 a5 a6 a7) := by
 intro a0 a1 a2 a3 a4 a5 a6 a7 k
 obtain ⟨ih0, ih1, ih2⟩ := spec_NearHear.mono_l k
 unfold spec_NearHear.f
 repeat' first | (with_reducible first | apply ih0 | apply ih1 | apply ih2 | apply spec_NearOk.mono | apply spec_l3Copy.mono | exact LeO.refl _ | exact LeO.none _ | refine LeO.ite ?_ ?_ | refine LeO.bind ?_ fun _ => ?_) | apply ih0 | apply ih1 | apply ih2 | apply spec_NearOk.mono | apply spec_l3Copy.mono | exact LeO.none _ | refine LeO.ite ?_ ?_ | refine LeO.bind ?_ fun _ => ?_
def spec_NearHear.T9 : Bool × List (List Nat × List Nat) := (true, [([], []), ([0], [0]), ([], []), ([1, 2], [1, 2]), ([3], [3]), ([4], [4]), ([], []), ([6], [6]), ([5, 7], [5, 7])])
def spec_NearHear.B9 : List Nat := [0, 1, 0, 7, 15, 31, 0, 64, 255]
theorem spec_NearHear.tab9 : rtab .any (opsOf Try.f7 9) = spec_NearHear.T9 := by kernel_rfl
theorem spec_NearHear.bits9 : waitsOk spec_NearHear.T9.2 spec_NearHear.B9 = true := by kernel_rfl
def spec_NearHear.T11 : Bool × List (List Nat × List Nat) := (true, [([], []), ([0], [0]), ([], []), ([2], [2]), ([], []), ([3, 4], [3, 4]), ([5], [5]), ([6], [6]), ([1, 7], [1, 7]), ([0, 1, 2, 3, 4, 5, 6, 7, 8], []), ([9, 8, 8, 0, 1, 2, 3, 4, 5, 6, 7, 8], [8, 9])])
def spec_NearHear.B11 : List Nat := [0, 1, 0, 4, 0, 28, 60, 124, 255, 511, 1023]
theorem spec_NearHear.tab11 : rtab .any (opsOf Try.f7 11) = spec_NearHear.T11 := by kernel_rfl
theorem spec_NearHear.bits11 : waitsOk spec_NearHear.T11.2 spec_NearHear.B11 = true := by kernel_rfl
def spec_NearHear.T15 : Bool × List (List Nat × List Nat) := (true, [([], []), ([0], [0]), ([], []), ([1, 2], [1, 2]), ([3], [3]), ([4], [4]), ([], []), ([6], [6]), ([5, 7], [5, 7])])
def spec_NearHear.B15 : List Nat := [0, 1, 0, 7, 15, 31, 0, 64, 255]
theorem spec_NearHear.tab15 : rtab .any (opsOf Try.f7 15) = spec_NearHear.T15 := by kernel_rfl
theorem spec_NearHear.bits15 : waitsOk spec_NearHear.T15.2 spec_NearHear.B15 = true := by kernel_rfl
def spec_NearHear.T18 : Bool × List (List Nat × List Nat) := (true, [([], []), ([0], [0]), ([], []), ([2], [2]), ([], []), ([3, 4], [3, 4]), ([5], [5]), ([6], [6]), ([], []), ([], []), ([9], [9]), ([], []), ([10, 11], [10, 11]), ([12], [12]), ([13], [13]), ([8, 14], [8, 14]), ([7, 15], [7, 15]), ([16], [16]), ([1, 17, 15], [1, 17]), ([0, 1, 2, 3, 4, 5, 6, 7, 8, 9, 10, 11, 12, 13, 14, 15, 16, 17, 18], []), ([19, 18, 18, 0, 1, 2, 3, 4, 5, 6, 7, 8, 9, 10, 11, 12, 13, 14, 15, 16, 17, 18], [18, 19])])
def spec_NearHear.B18 : List Nat := [0, 1, 0, 4, 0, 28, 60, 124, 0, 0, 512, 0, 3584, 7680, 15872, 32512, 65532, 131068, 262143, 524287, 1048575]
theorem spec_NearHear.tab18 : rtab .any (opsOf Try.f7 18) = spec_NearHear.T18 := by kernel_rfl
theorem spec_NearHear.bits18 : waitsOk spec_NearHear.T18.2 spec_NearHear.B18 = true := by kernel_rfl
set_option maxHeartbeats 8000000 in
set_option maxRecDepth 100000 in
theorem spec_NearHear.calls (k : Nat) (A0_0 : Option Addr) (c0_0 : Nat) (l0_0 : List (S63)) (A0_1 : Option Addr) (c0_1 : Nat) (l0_1 : List (S65)) (a1 : Int) (a2_0 : Int) (a2_1 : Int) (a2_2 : Int) (a2_3 : Int) (a3 : Int) (r1 : List (S63)) (r2 : List (S65)) (r3 : List (List Int)) (w : World) (hr0_0 : Kd.C k63 w A0_0 l0_0.length l0_0) (hc0_0 : l0_0.length ≤ c0_0) (hr0_1 : Kd.C k65 w A0_1 l0_1.length l0_1) (hc0_1 : l0_1.length ≤ c0_1) (h : spec_NearHear.f k l0_0 l0_1 a1 a2_0 a2_1 a2_2 a2_3 a3 = some (r1, r2, r3)) :
  Calls Try.prog 7 #[.agg #[.slice A0_0 l0_0.length c0_0, .slice A0_1 l0_1.length c0_1], .int .i64 a1, .agg #[.int .i64 a2_0, .int .i64 a2_1, .int .i64 a2_2, .int .i64 a2_3], .int .i64 a3] w fun e w' => ∃ v0_ v1_ v2_ : Value, e = .returned (.tuple #[.agg #[v0_, v1_], v2_]) ∧ Kd.Q k63 63 w' w.heap.size (fun _ => True) v0_ r1 ∧ Kd.S k65 65 w' w.heap.size (fun _ => True) v1_ r2 ∧ Kd.S (Kd.slice 5 (Kd.int .u8)) 44 w' w.heap.size (fun _ => True) v2_ r3 ∧ Below w.heap.size w w' := by
 have hu32 := Try.underlying32; have hu37 := Try.underlying37; have hu63 := Try.underlying63; have hu65 := Try.underlying65; have HR0_0 := Aside0.mk hr0_0; have HC0_0 := Aside0.mk hc0_0; clear hr0_0 hc0_0; have HR0_1 := Aside0.mk hr0_1; have HC0_1 := Aside0.mk hc0_1; clear hr0_1 hc0_1
 have HB := Aside0.mk (Below.refl w.heap.size w)
 have H : ((some (([] : List (List Int)) : List (List Int))).bind fun y254 => ((spec_NearOk.f k l0_0 l0_1).bind fun t257 => (if t257 = true then ((spec_QueryOk.f a2_0 a2_1 a2_2 a2_3).bind fun t258 => (if t258 = true then ((spec_l1In.f a3 0 999980).bind fun t259 => (spec_NearHear.j0 k a1 a3 y254 (!t259) l0_0 l0_1 a2_0 a2_1 a2_2 a2_3)) else (spec_NearHear.j0 k a1 a3 y254 true l0_0 l0_1 a2_0 a2_1 a2_2 a2_3))) else (spec_NearHear.j0 k a1 a3 y254 true l0_0 l0_1 a2_0 a2_1 a2_2 a2_3)))) = some (r1, r2, r3) := h
 clear h
 obtain ⟨y254, hy254⟩ : ∃ y_ : List (List Int), y_ = (([] : List (List Int))) := ⟨_, rfl⟩
 (first | replace H := sb_ hy254 H | rw [← hy254] at H)
 have Ny254 := Aside0.mk hy254; clear hy254; have HC5 := Aside0.mk H; clear H
 go_enter Try.func7, Try.ntmps7
 go_upto_region 2 with (first | ((with_reducible refine gate_dst (N := 4) rfl ?_); refine box_ (N := 4) (cs := #[.slice A0_0 l0_0.length c0_0, .slice A0_1 l0_1.length c0_1]) (t := 32) (fun gb251 hg w6 hbox hb => ?_); have BK251 := Aside0.mk (hbox); have GW251 := ge_ hg HB; have GE251 := ge_ hg HB; replace HB := (bs_ HB hb); clear hb hbox hg) | ((with_reducible refine gate_dst (N := 6) rfl ?_); refine box_ (N := 6) (cs := #[.int .i64 a2_0, .int .i64 a2_1, .int .i64 a2_2, .int .i64 a2_3]) (t := 37) (fun gb252 hg w7 hbox hb => ?_); have BK252 := Aside0.mk (hbox); have GW252 := ge_ hg HB; have GE252 := ge_ hg HB; replace HB := (bs_ HB hb); have NB251_252 := nl_ hg BK251; have NB252_251 := ng_ hg BK251; replace BK251 := (bbA_ BK251 hb); clear hb hbox hg) | ((with_reducible refine gate_dst (N := 8) rfl ?_); refine box_ (N := 8) (cs := #[.slice none 0 0, .slice none 0 0]) (t := 32) (fun gb253 hg w8 hbox hb => ?_); have BK253 := Aside0.mk (hbox); have GW253 := ge_ hg HB; have GE253 := ge_ hg HB; replace HB := (bs_ HB hb); have NB251_253 := nl_ hg BK251; have NB253_251 := ng_ hg BK251; replace BK251 := (bbA_ BK251 hb); have NB252_253 := nl_ hg BK252; have NB253_252 := ng_ hg BK252; replace BK252 := (bbA_ BK252 hb); clear hb hbox hg) | ((with_reducible refine gate_dst (N := 15) rfl ?_); refine Kd.S_lit (Kd.slice 5 (Kd.int .u8)) _ 44 ?hg (N := 15) ?hd (xs := ([] : List (List Int))) (inner := []) (ok := fun _ => True) (okp := fun _ => True) ?hr ?hp (fun _ hk => hk) trivial (Below.refl _ _) (Nat.le_refl _) (by simp) ?_; (case hd => rfl); (case hg => rfl); (case hr => first | (go_simp; done) | (go_simp; rfl)); (case hp => exact (Reps.none _ _)); intro v255 w9 ho10 hb hg_ hnew_; clear hg_ hnew_; (first | rw [← Ny254.out] at ho10 | (simp only [Int.reduceToNat] at ho10; rw [← Ny254.out] at ho10)); have HO256 := Aside0.mk (Kd.S_lower ho10 (below_size (hbA_ HB.out))); replace BK251 := (bbA_ BK251 hb); replace BK252 := (bbA_ BK252 hb); replace BK253 := (bbA_ BK253 hb); replace HB := (bs_ HB hb); clear hb ho10))
 (try simp only [Act.put, List.setIfInBounds_toArray, List.set_cons_zero, List.set_cons_succ])
 go_cut [28] (fun v28 wc => ∃ (kq : Nat) (x28_4 : Bool), v28 = .bool x28_4 ∧ Aside0 (spec_NearHear.j0 kq a1 a3 y254 x28_4 l0_0 l0_1 a2_0 a2_1 a2_2 a2_3 = some (r1, r2, r3)) ∧ Aside0 (kq ≤ k) ∧ Aside0 (Kd.S (Kd.slice 5 (Kd.int .u8)) 44 wc w.heap.size (fun _ => True) v255 y254) ∧ Aside0 (wc.heap[gb251]? = some (.cells #[(.slice A0_0 l0_0.length c0_0), (.slice A0_1 l0_1.length c0_1)] 32 (0, 0))) ∧ Aside0 (wc.heap[gb252]? = some (.cells #[.int .i64 a2_0, .int .i64 a2_1, .int .i64 a2_2, .int .i64 a2_3] 37 (0, 0))) ∧ Aside0 (wc.heap[gb253]? = some (.cells #[(.slice none 0 0), (.slice none 0 0)] 32 (0, 0))) ∧ Aside0 (Below w.heap.size w wc))
 case first =>
  have H := HC5.out; clear HC5
  replace H := Option.bind_eq_some_iff.mp H
  obtain ⟨t257, A110, H⟩ := H
  (try dsimp only at H)
  have A11 := Aside0.mk A110; clear A110
  by_cases c12 : t257 = true
  ·subst c12
   rw [if_pos rfl] at H
   replace H := Option.bind_eq_some_iff.mp H
   obtain ⟨t258, A130, H⟩ := H
   (try dsimp only at H)
   have A13 := Aside0.mk A130; clear A130
   by_cases c14 : t258 = true
   ·subst c14
    rw [if_pos rfl] at H
    replace H := Option.bind_eq_some_iff.mp H
    obtain ⟨t259, A150, H⟩ := H
    (try dsimp only at H)
    have A15 := Aside0.mk A150; clear A150
    have H' := Aside0.mk H
    clear H; have hnb16 := NB251_252.out; have hnc16 := NB252_251.out; have hnb17 := NB251_253.out; have hnc17 := NB253_251.out; have Z18 := zz2 BK251
    go_wp2_with (first | ((with_reducible refine gate_callee (f := 31) rfl ?_); refine goesL_ (some 17) rfl rfl Try.func31 (by kernel_rfl) rfl #[.agg #[.slice A0_0 l0_0.length c0_0, .slice A0_1 l0_1.length c0_1]] rfl ar_ ?_; (with_reducible refine (spec_NearOk.calls k _ _ l0_0 _ _ l0_1 true _ ?side1 ?side2 ?side3 ?side4 A11.out).mono ?_); (case side1 => exact kC_ (Kd.C_below HR0_0.out HB.out)); (case side2 => exact HC0_0.out); (case side3 => exact kC_ (Kd.C_below HR0_1.out HB.out)); (case side4 => exact HC0_1.out); rintro e w19 ⟨rfl, hb⟩; refine ⟨_, rfl, ?_⟩; replace HO256 := Aside0.mk (Kd.S_below (kS_ HO256.out) hb); replace BK251 := (bbA_ BK251 hb); replace BK252 := (bbA_ BK252 hb); replace BK253 := (bbA_ BK253 hb); replace HB := (bs_ HB hb); (try clear hb); (try clear hb2); (try clear hk); (try clear hi); have hnb20 := NB252_253.out; have hnc20 := NB253_252.out; have Z21 := zz4 BK252) | (go_at_call 32; (with_reducible refine (spec_QueryOk.calls a2_0 a2_1 a2_2 a2_3 true _ A13.out).mono ?_); rintro e w22 ⟨rfl, hb⟩; replace HO256 := Aside0.mk (Kd.S_below (kS_ HO256.out) hb); replace BK251 := (bbA_ BK251 hb); replace BK252 := (bbA_ BK252 hb); replace BK253 := (bbA_ BK253 hb); replace HB := (bs_ HB hb); (try clear hb); (try clear hb2); (try clear hk); (try clear hi)) | (go_at_call 33; (with_reducible refine (spec_l1In.calls a3 0 999980 t259 _ A15.out).mono ?_); rintro e w' ⟨rfl, ⟨nd, rfl⟩⟩))
    go_meet
    case rel => exact ⟨_, (!t259), (by first | rfl | (simp; done) | (simp [*]; done)), H', ⟨by first | omega | exact Nat.le_refl _⟩, ⟨by refine kS_ ?_; exact HO256.out⟩, ⟨by refine kb_ ?_; exact BK251.out⟩, ⟨by refine kb_ ?_; exact BK252.out⟩, ⟨by refine kb_ ?_; exact BK253.out⟩, ⟨hbA_ HB.out⟩⟩
   ·replace c14 := Bool.eq_false_iff.mpr c14
    subst c14
    rw [if_neg (show ¬ (false = true) by decide)] at H
    have H' := Aside0.mk H
    clear H; have hnb23 := NB251_252.out; have hnc23 := NB252_251.out; have hnb24 := NB251_253.out; have hnc24 := NB253_251.out; have Z25 := zz2 BK251
    go_wp2_with (first | ((with_reducible refine gate_callee (f := 31) rfl ?_); refine goesL_ (some 17) rfl rfl Try.func31 (by kernel_rfl) rfl #[.agg #[.slice A0_0 l0_0.length c0_0, .slice A0_1 l0_1.length c0_1]] rfl ar_ ?_; (with_reducible refine (spec_NearOk.calls k _ _ l0_0 _ _ l0_1 true _ ?side1 ?side2 ?side3 ?side4 A11.out).mono ?_); (case side1 => exact kC_ (Kd.C_below HR0_0.out HB.out)); (case side2 => exact HC0_0.out); (case side3 => exact kC_ (Kd.C_below HR0_1.out HB.out)); (case side4 => exact HC0_1.out); rintro e w26 ⟨rfl, hb⟩; refine ⟨_, rfl, ?_⟩; replace HO256 := Aside0.mk (Kd.S_below (kS_ HO256.out) hb); replace BK251 := (bbA_ BK251 hb); replace BK252 := (bbA_ BK252 hb); replace BK253 := (bbA_ BK253 hb); replace HB := (bs_ HB hb); (try clear hb); (try clear hb2); (try clear hk); (try clear hi); have hnb27 := NB252_253.out; have hnc27 := NB253_252.out; have Z28 := zz4 BK252) | (go_at_call 32; (with_reducible refine (spec_QueryOk.calls a2_0 a2_1 a2_2 a2_3 false _ A13.out).mono ?_); rintro e w29 ⟨rfl, hb⟩; replace HO256 := Aside0.mk (Kd.S_below (kS_ HO256.out) hb); replace BK251 := (bbA_ BK251 hb); replace BK252 := (bbA_ BK252 hb); replace BK253 := (bbA_ BK253 hb); replace HB := (bs_ HB hb); (try clear hb); (try clear hb2); (try clear hk); (try clear hi)))
    go_meet
    case rel => exact ⟨_, (true), (by first | rfl | (simp; done) | (simp [*]; done)), H', ⟨by first | omega | exact Nat.le_refl _⟩, ⟨by refine kS_ ?_; exact HO256.out⟩, ⟨by refine kb_ ?_; exact BK251.out⟩, ⟨by refine kb_ ?_; exact BK252.out⟩, ⟨by refine kb_ ?_; exact BK253.out⟩, ⟨hbA_ HB.out⟩⟩
  ·replace c12 := Bool.eq_false_iff.mpr c12
   subst c12
   rw [if_neg (show ¬ (false = true) by decide)] at H
   have H' := Aside0.mk H
   clear H; have hnb30 := NB251_252.out; have hnc30 := NB252_251.out; have hnb31 := NB251_253.out; have hnc31 := NB253_251.out; have Z32 := zz2 BK251
   go_wp2_with (first | ((with_reducible refine gate_callee (f := 31) rfl ?_); refine goesL_ (some 17) rfl rfl Try.func31 (by kernel_rfl) rfl #[.agg #[.slice A0_0 l0_0.length c0_0, .slice A0_1 l0_1.length c0_1]] rfl ar_ ?_; (with_reducible refine (spec_NearOk.calls k _ _ l0_0 _ _ l0_1 false _ ?side1 ?side2 ?side3 ?side4 A11.out).mono ?_); (case side1 => exact kC_ (Kd.C_below HR0_0.out HB.out)); (case side2 => exact HC0_0.out); (case side3 => exact kC_ (Kd.C_below HR0_1.out HB.out)); (case side4 => exact HC0_1.out); rintro e w33 ⟨rfl, hb⟩; refine ⟨_, rfl, ?_⟩; replace HO256 := Aside0.mk (Kd.S_below (kS_ HO256.out) hb); replace BK251 := (bbA_ BK251 hb); replace BK252 := (bbA_ BK252 hb); replace BK253 := (bbA_ BK253 hb); replace HB := (bs_ HB hb); (try clear hb); (try clear hb2); (try clear hk); (try clear hi)))
   go_meet
   case rel => exact ⟨_, (true), (by first | rfl | (simp; done) | (simp [*]; done)), H', ⟨by first | omega | exact Nat.le_refl _⟩, ⟨by refine kS_ ?_; exact HO256.out⟩, ⟨by refine kb_ ?_; exact BK251.out⟩, ⟨by refine kb_ ?_; exact BK252.out⟩, ⟨by refine kb_ ?_; exact BK253.out⟩, ⟨hbA_ HB.out⟩⟩
 case rest =>
  clear HC5; (try clear c1); (try clear c2); (try clear p2); (try clear c3); (try clear c7); (try clear c12); (try clear c14); (try clear c16); (try clear c17); (try clear c20); (try clear c23); (try clear c24); (try clear c27); (try clear c30); (try clear c31); (try clear Z18); (try clear Z21); (try clear Z25); (try clear Z28); (try clear Z32)
  obtain ⟨kq, x28_4, rfl, HA, HJ4, HO_10, BK251, BK252, BK253, HB⟩ := hcut
  cases kq with
  | zero => exact absurd HA.out (by simp [spec_NearHear.j0])
  | succ kj4 =>
   have H := HA.out; clear HA
   simp only [spec_NearHear.j0] at H
   by_cases c34 : x28_4 = true
   ·subst c34
    rw [if_pos rfl] at H
    simp only [Option.some.injEq, Prod.mk.injEq] at H
    obtain ⟨rfl, rfl, rfl⟩ := H
    have hnb35 := NB253_251.out; have hnc35 := NB251_253.out; have hnb36 := NB253_252.out; have hnc36 := NB252_253.out; have Z37 := zz2 BK253
    go_wp2
    refine bodyPost_ret (results_ct rfl _ _ gb253 32 #[.slice none 0 0, .slice none 0 0] (0, 0) _ rfl (by refine kb_ ?_; refine pz2 (cs := #[.slice none 0 0, .slice none 0 0]) ?_; refine kb_ ?_; exact BK253.out) Try.underlying32 rfl (by kernel_rfl)) rfl ?_
    exact ⟨_, _, _, by first | rfl | (simp [errW_none, errW_some] <;> rfl) | (simp [*, errW_none, errW_some] <;> rfl), Kd.Q_of_R (by first | exact Kd.R_nil _ _ _ _ _ | exact Kd.N_nil _ _ _ _ _ | exact Kd.V_nil _ _ _ _ _ | exact Kd.Q_nil _ _ _ _ _ | exact Kd.S_nil _ _ _ _ _), by first | exact Kd.S_nil _ _ _ _ _ | exact Kd.N_nil _ _ _ _ _ | exact Kd.V_nil _ _ _ _ _ | exact Kd.Q_nil _ _ _ _ _ | exact Kd.R_nil _ _ _ _ _, by refine kS_ ?_; exact Kd.S_mono (Kd.S_far (p := ⟨gb253, 1, none⟩) (Kd.S_far (p := ⟨gb253, 0, none⟩) (Kd.S_types HO_10.out BK253.out (by decide)) (fun _ hk => hk.2) (.slice none 0 0)) (fun _ hk => hk.2) (.slice none 0 0)) (fun _ hk => trivial), hbA_ HB.out⟩
   ·replace c34 := Bool.eq_false_iff.mpr c34
    subst c34
    rw [if_neg (show ¬ (false = true) by decide)] at H
    have H' := Aside0.mk H
    clear H
    go_wp2_with (first | ((with_reducible refine gate_dst (N := 11) rfl ?_); refine box_ (N := 11) (cs := #[.slice none 0 0, .slice none 0 0]) (t := 32) (fun gb260 hg w38 hbox hb => ?_); replace HO_10 := Aside0.mk (Kd.S_below (kS_ HO_10.out) hb); have BK260 := Aside0.mk (hbox); have GW260 := ge_ hg HB; have GE260 := ge_ hg HB; replace HB := (bs_ HB hb); have NB251_260 := nl_ hg BK251; have NB260_251 := ng_ hg BK251; replace BK251 := (bbA_ BK251 hb); have NB252_260 := nl_ hg BK252; have NB260_252 := ng_ hg BK252; replace BK252 := (bbA_ BK252 hb); have NB253_260 := nl_ hg BK253; have NB260_253 := ng_ hg BK253; replace BK253 := (bbA_ BK253 hb); clear hb hbox hg; have hnb39 := NB260_251.out; have hnc39 := NB251_260.out; have hnb40 := NB260_252.out; have hnc40 := NB252_260.out; have hnb41 := NB260_253.out; have hnc41 := NB253_260.out; have Z42 := zz2 BK260; have hnb43 := NB252_251.out; have hnc43 := NB251_252.out; have hnb44 := NB252_253.out; have hnc44 := NB253_252.out; have Z45 := zz4 BK252))
    go_loopg [12, 13] kj4 (fun kq v12 v13 w' => ∃ (x12_2 : Bool) (x13_2 : Int) (x261000_2 : List (S63)) (u261000 : Value), v12 = .bool x12_2 ∧ v13 = .int .i64 x13_2 ∧ Aside0 (spec_NearHear.l0 kq a3 y254 x12_2 x13_2 l0_0 l0_1 a2_0 a2_1 a2_2 a2_3 x261000_2 = some (r1, r2, r3)) ∧ Aside0 (kq ≤ kj4) ∧ Aside0 (Kd.S (Kd.slice 5 (Kd.int .u8)) 44 w' w.heap.size (fun _ => True) v255 y254) ∧ Aside0 (Kd.Q k63 63 w' w.heap.size (fun _ => True) u261000 x261000_2) ∧ Aside0 (w'.heap[gb251]? = some (.cells #[(.slice A0_0 l0_0.length c0_0), (.slice A0_1 l0_1.length c0_1)] 32 (0, 0))) ∧ Aside0 (w'.heap[gb252]? = some (.cells #[.int .i64 a2_0, .int .i64 a2_1, .int .i64 a2_2, .int .i64 a2_3] 37 (0, 0))) ∧ Aside0 (w'.heap[gb253]? = some (.cells #[(.slice none 0 0), (.slice none 0 0)] 32 (0, 0))) ∧ Aside0 (w'.heap[gb260]? = some (.cells #[u261000, (.slice none 0 0)] 32 (0, 0))) ∧ Aside0 (Below w.heap.size w w'))
    case atStart => exact ⟨((a2_3 == a1)), (0), (([] : List (S63))), (.slice none 0 0), (by first | rfl | (simp; done) | (simp [*]; done)), (by first | rfl | (simp; done) | (simp [*]; done)), H', ⟨Nat.le_refl _⟩, ⟨by refine kS_ ?_; exact Kd.S_mono (Kd.S_far (p := ⟨gb260, 1, none⟩) (Kd.S_far (p := ⟨gb260, 0, none⟩) (Kd.S_types HO_10.out BK260.out (by decide)) (fun _ hk => hk.2) (.slice none 0 0)) (fun _ hk => hk.2) (.slice none 0 0)) (fun _ hk => trivial)⟩, ⟨Kd.Q_of_R (by first | exact Kd.R_nil _ _ _ _ _ | exact Kd.N_nil _ _ _ _ _ | exact Kd.V_nil _ _ _ _ _ | exact Kd.Q_nil _ _ _ _ _ | exact Kd.S_nil _ _ _ _ _)⟩, ⟨by exact kf_ BK251.out⟩, ⟨by exact kf_ BK252.out⟩, ⟨by exact kf_ BK253.out⟩, ⟨by refine kb_ ?_; refine pz2 (cs := #[.slice none 0 0, .slice none 0 0]) ?_; refine kb_ ?_; exact BK260.out⟩, ⟨hbA_ HB.out⟩⟩
    case round =>
     clear H'; (try clear c1); (try clear c2); (try clear p2); (try clear c3); (try clear c4); (try clear c7); (try clear c12); (try clear c14); (try clear c16); (try clear c17); (try clear c20); (try clear c23); (try clear c24); (try clear c27); (try clear c30); (try clear c31); (try clear c34); (try clear c35); (try clear c36); (try clear c39); (try clear c40); (try clear c41); (try clear c43); (try clear c44); (try clear Z18); (try clear Z21); (try clear Z25); (try clear Z28); (try clear Z32); (try clear Z37); (try clear Z42); (try clear Z45); (try clear p2)
     obtain ⟨x12_2, x13_2, x261000_2, u261000, rfl, rfl, HA, HK2, HO_10, HO_261000, BK251, BK252, BK253, BK260, HB⟩ := hrel
     cases gk with
     | zero => exact absurd HA.out (by simp [spec_NearHear.l0])
     | succ k2 =>
      have H := HA.out; clear HA
      simp only [spec_NearHear.l0] at H
      by_cases c46 : x13_2 < (l0_0.length : Int)
      ·rw [if_pos c46] at H
       have c46b0 : decide (x13_2 < (l0_0.length : Int)) = true := decide_eq_true c46
       clear c46
       by_cases c47 : 0 ≤ x13_2
       ·rw [if_pos c47] at H
        have c47b0 : decide (0 ≤ x13_2) = true := decide_eq_true c47
        clear c47
        by_cases c48 : ((rd_T63 l0_0 x13_2).f0) = a2_2
        ·rw [if_pos c48] at H
         have c48b0 : (((rd_T63 l0_0 x13_2).f0) == a2_2) = true := beq_iff_eq.mpr c48
         have c48b1 : (((rd_T63 l0_0 x13_2).f0) != a2_2) = false := bne_eq_false_iff_eq.mpr c48
         clear c48
         have H' := Aside0.mk H
         clear H; have hnb49 := NB251_252.out; have hnc49 := NB252_251.out; have hnb50 := NB251_253.out; have hnc50 := NB253_251.out; have hnb51 := NB251_260.out; have hnc51 := NB260_251.out; have Z52 := zz2 BK251
         try go_wp2
         replace HO_10 := Aside0.mk (Kd.S_drew HO_10.out); replace HO_261000 := Aside0.mk (Kd.Q_drew HO_261000.out); replace BK251 := Aside0.mk (blk_drew BK251.out); replace BK252 := Aside0.mk (blk_drew BK252.out); replace BK253 := Aside0.mk (blk_drew BK253.out); replace BK260 := Aside0.mk (blk_drew BK260.out); replace HB := (bd_ HB)
         have p261 : 0 ≤ (x13_2 : Int) := of_decide_eq_true (by first | (with_reducible assumption) | assumption)
         have q261 : x13_2 < (l0_0.length : Int) := of_decide_eq_true (by first | (with_reducible assumption) | assumption)
         obtain ⟨ad261, e261, hx261_0, hx261_1, hx261_2⟩ := at_T63 HR0_0.out x13_2 p261 q261
         have hw261_2 := hx261_2; have hw261_1 := hx261_1; have hw261_0 := hx261_0
         cases e261
         replace hx261_0 := cc_ HB hx261_0
         replace hx261_1 := cc_ HB hx261_1
         replace hx261_2 := cc_ HB hx261_2
         replace p261 := eq_true p261
         replace q261 := eq_true q261
         refine start_ (n := 9) (S := fun w' => w'.cell? ⟨gb251, 0, none⟩ = some (.slice (some ad261) l0_0.length c0_0) ∧ w'.cell? ⟨gb251, 1, none⟩ = some (.slice A0_1 l0_1.length c0_1) ∧ w'.cell? ⟨gb252, 0, none⟩ = some (.int .i64 a2_0) ∧ w'.cell? ⟨gb252, 1, none⟩ = some (.int .i64 a2_1) ∧ w'.cell? ⟨gb252, 2, none⟩ = some (.int .i64 a2_2) ∧ w'.cell? ⟨gb252, 3, none⟩ = some (.int .i64 a2_3) ∧ w'.cell? (ad261.add ((x13_2).toNat * 3)) = some (.int .i64 ((rd_T63 l0_0 x13_2).f0)) ∧ w'.cell? ⟨(ad261.add ((x13_2).toNat * 3)).block, (ad261.add ((x13_2).toNat * 3)).off + 1, none⟩ = some (.int .i64 ((rd_T63 l0_0 x13_2).f1)) ∧ w'.cell? ⟨(ad261.add ((x13_2).toNat * 3)).block, (ad261.add ((x13_2).toNat * 3)).off + 2, none⟩ = some (.int .i64 ((rd_T63 l0_0 x13_2).f2))) (ds := []) #[false, false, false, false, false, false, false, false, false] (by kernel_rfl) rfl rfl ⟨bc_ BK251 0, bc_ BK251 1, bc_ BK252 0, bc_ BK252 1, bc_ BK252 2, bc_ BK252 3, (cc_ HB hw261_0), (cc_ HB hw261_1), (cc_ HB hw261_2)⟩ (fun hHeld => ?_); refine with_tabW spec_NearHear.tab9 spec_NearHear.bits9 (fun HT_ HW_ => ?_)
         generalize wr.drew = w53 at HO_10 HO_261000 BK251 BK252 BK253 BK260 HB hx261_0 hx261_1 hx261_2 hHeld ⊢
         refine pu_ (i := 0) (N := some 43) HT_ ?_; refine pu_ (i := 2) (N := some 45) HT_ ?_; refine pu_ (i := 6) (N := some 49) HT_ ?_; refine tk_ (i := 1) (N := some 44) HT_ HW_ hHeld ?_; refine pu_ (i := 3) (N := some 46) HT_ ?_; refine pu_ (i := 4) (N := some 47) HT_ ?_; refine tk_ (i := 5) (N := some 48) HT_ HW_ hHeld ?_; refine tk_ (i := 7) (N := some 50) HT_ HW_ hHeld ?_; refine pu_ (i := 8) (N := some 51) HT_ ?_
         refine done_ (done_of HT_.out (by kernel_rfl)) ?_
         try go_wp2
         go_roundg k2
         case measure => have := HJ4.out; have := HK2.out; omega
         case rel => exact ⟨(true), (wrap64 (x13_2 + 1)), (x261000_2), (u261000), (by first | rfl | (simp; done) | (simp [*]; done)), (by first | rfl | (simp; done) | (simp [*]; done)), H', ⟨by have := HJ4.out; have := HK2.out; omega⟩, ⟨by refine kS_ ?_; exact HO_10.out⟩, ⟨by (with_reducible repeat (first | apply Kd.Q_alloc | apply Kd.Q_drewN | apply Kd.Q_drew)); exact HO_261000.out⟩, ⟨by refine kb_ ?_; exact BK251.out⟩, ⟨by refine kb_ ?_; exact BK252.out⟩, ⟨by refine kb_ ?_; exact BK253.out⟩, ⟨by refine kb_ ?_; exact BK260.out⟩, ⟨hbA_ HB.out⟩⟩
        ·rw [if_neg c48] at H
         have c48b0 : (((rd_T63 l0_0 x13_2).f0) == a2_2) = false := beq_eq_false_iff_ne.mpr c48
         have c48b1 : (((rd_T63 l0_0 x13_2).f0) != a2_2) = true := bne_iff_ne.mpr c48
         by_cases c54 : x261000_2.length < 5864062014805
         ·rw [if_pos c54] at H
          have LMc54 := Aside0.mk c54; clear c54
          obtain ⟨y263, hy263⟩ : ∃ y_ : List (S63), y_ = (x261000_2 ++ [(⟨(rd_T63 l0_0 x13_2).f0, (rd_T63 l0_0 x13_2).f1, (rd_T63 l0_0 x13_2).f2⟩ : S63)]) := ⟨_, rfl⟩
          (first | replace H := sb_ hy263 H | rw [← hy263] at H)
          have Ny263 := Aside0.mk hy263; clear hy263
          have H' := Aside0.mk H
          clear H; have hnb55 := NB251_252.out; have hnc55 := NB252_251.out; have hnb56 := NB251_253.out; have hnc56 := NB253_251.out; have hnb57 := NB251_260.out; have hnc57 := NB260_251.out; have Z58 := zz2 BK251
          try go_wp2
          replace HO_10 := Aside0.mk (Kd.S_drew HO_10.out); replace HO_261000 := Aside0.mk (Kd.Q_drew HO_261000.out); replace BK251 := Aside0.mk (blk_drew BK251.out); replace BK252 := Aside0.mk (blk_drew BK252.out); replace BK253 := Aside0.mk (blk_drew BK253.out); replace BK260 := Aside0.mk (blk_drew BK260.out); replace HB := (bd_ HB)
          have p261 : 0 ≤ (x13_2 : Int) := of_decide_eq_true (by first | (with_reducible assumption) | assumption)
          have q261 : x13_2 < (l0_0.length : Int) := of_decide_eq_true (by first | (with_reducible assumption) | assumption)
          obtain ⟨ad261, e261, hx261_0, hx261_1, hx261_2⟩ := at_T63 HR0_0.out x13_2 p261 q261
          have hw261_2 := hx261_2; have hw261_1 := hx261_1; have hw261_0 := hx261_0
          cases e261
          replace hx261_0 := cc_ HB hx261_0
          replace hx261_1 := cc_ HB hx261_1
          replace hx261_2 := cc_ HB hx261_2
          replace p261 := eq_true p261
          replace q261 := eq_true q261
          refine start_ (n := 9) (S := fun w' => w'.cell? ⟨gb251, 0, none⟩ = some (.slice (some ad261) l0_0.length c0_0) ∧ w'.cell? ⟨gb251, 1, none⟩ = some (.slice A0_1 l0_1.length c0_1) ∧ w'.cell? ⟨gb252, 0, none⟩ = some (.int .i64 a2_0) ∧ w'.cell? ⟨gb252, 1, none⟩ = some (.int .i64 a2_1) ∧ w'.cell? ⟨gb252, 2, none⟩ = some (.int .i64 a2_2) ∧ w'.cell? ⟨gb252, 3, none⟩ = some (.int .i64 a2_3) ∧ w'.cell? (ad261.add ((x13_2).toNat * 3)) = some (.int .i64 ((rd_T63 l0_0 x13_2).f0)) ∧ w'.cell? ⟨(ad261.add ((x13_2).toNat * 3)).block, (ad261.add ((x13_2).toNat * 3)).off + 1, none⟩ = some (.int .i64 ((rd_T63 l0_0 x13_2).f1)) ∧ w'.cell? ⟨(ad261.add ((x13_2).toNat * 3)).block, (ad261.add ((x13_2).toNat * 3)).off + 2, none⟩ = some (.int .i64 ((rd_T63 l0_0 x13_2).f2))) (ds := []) #[false, false, false, false, false, false, false, false, false] (by kernel_rfl) rfl rfl ⟨bc_ BK251 0, bc_ BK251 1, bc_ BK252 0, bc_ BK252 1, bc_ BK252 2, bc_ BK252 3, (cc_ HB hw261_0), (cc_ HB hw261_1), (cc_ HB hw261_2)⟩ (fun hHeld => ?_); refine with_tabW spec_NearHear.tab9 spec_NearHear.bits9 (fun HT_ HW_ => ?_)
          generalize wr.drew = w59 at HO_10 HO_261000 BK251 BK252 BK253 BK260 HB hx261_0 hx261_1 hx261_2 hHeld ⊢
          refine pu_ (i := 0) (N := some 43) HT_ ?_; refine pu_ (i := 2) (N := some 45) HT_ ?_; refine pu_ (i := 6) (N := some 49) HT_ ?_; refine tk_ (i := 1) (N := some 44) HT_ HW_ hHeld ?_; refine pu_ (i := 3) (N := some 46) HT_ ?_; refine pu_ (i := 4) (N := some 47) HT_ ?_; refine tk_ (i := 5) (N := some 48) HT_ HW_ hHeld ?_; refine tk_ (i := 7) (N := some 50) HT_ HW_ hHeld ?_; refine pu_ (i := 8) (N := some 51) HT_ ?_
          refine done_ (done_of HT_.out (by kernel_rfl)) ?_
          try go_wp2
          replace HO_10 := Aside0.mk (Kd.S_drew HO_10.out); replace HO_261000 := Aside0.mk (Kd.Q_drew HO_261000.out); replace BK251 := Aside0.mk (blk_drew BK251.out); replace BK252 := Aside0.mk (blk_drew BK252.out); replace BK253 := Aside0.mk (blk_drew BK253.out); replace BK260 := Aside0.mk (blk_drew BK260.out); replace HB := (bd_ HB)
          have p262 : 0 ≤ (x13_2 : Int) := of_decide_eq_true (by first | (with_reducible assumption) | assumption)
          have q262 : x13_2 < (l0_0.length : Int) := of_decide_eq_true (by first | (with_reducible assumption) | assumption)
          obtain ⟨ad262, e262, hx262_0, hx262_1, hx262_2⟩ := at_T63 HR0_0.out x13_2 p262 q262
          have hw262_2 := hx262_2; have hw262_1 := hx262_1; have hw262_0 := hx262_0
          obtain rfl : ad261 = ad262 := (by injection e262)
          replace hx262_0 := cc_ HB hx262_0
          replace hx262_1 := cc_ HB hx262_1
          replace hx262_2 := cc_ HB hx262_2
          replace p262 := eq_true p262
          replace q262 := eq_true q262
          refine start_ (n := 11) (S := fun w' => w'.cell? ⟨gb260, 0, none⟩ = some (u261000) ∧ w'.cell? ⟨gb260, 1, none⟩ = some (.slice none 0 0) ∧ w'.cell? ⟨gb251, 0, none⟩ = some (.slice (some ad261) l0_0.length c0_0) ∧ w'.cell? ⟨gb251, 1, none⟩ = some (.slice A0_1 l0_1.length c0_1) ∧ w'.cell? (ad261.add ((x13_2).toNat * 3)) = some (.int .i64 ((rd_T63 l0_0 x13_2).f0)) ∧ w'.cell? ⟨(ad261.add ((x13_2).toNat * 3)).block, (ad261.add ((x13_2).toNat * 3)).off + 1, none⟩ = some (.int .i64 ((rd_T63 l0_0 x13_2).f1)) ∧ w'.cell? ⟨(ad261.add ((x13_2).toNat * 3)).block, (ad261.add ((x13_2).toNat * 3)).off + 2, none⟩ = some (.int .i64 ((rd_T63 l0_0 x13_2).f2))) (ds := [10]) #[false, false, false, false, false, false, false, false, false, false, false] (by kernel_rfl) rfl rfl ⟨bc_ BK260 0, bc_ BK260 1, bc_ BK251 0, bc_ BK251 1, (cc_ HB hw262_0), (cc_ HB hw262_1), (cc_ HB hw262_2)⟩ (fun hHeld => ?_); refine with_tabW spec_NearHear.tab11 spec_NearHear.bits11 (fun HT_ HW_ => ?_)
          generalize w59.drew = w60 at HO_10 HO_261000 BK251 BK252 BK253 BK260 HB hx262_0 hx262_1 hx262_2 hHeld ⊢
          refine pu_ (i := 0) (N := some 52) HT_ ?_; refine pu_ (i := 2) (N := some 54) HT_ ?_; refine pu_ (i := 4) (N := some 56) HT_ ?_; refine tk_ (i := 1) (N := some 53) HT_ HW_ hHeld ?_; refine tk_ (i := 3) (N := some 55) HT_ HW_ hHeld ?_; refine pu_ (i := 5) (N := some 57) HT_ ?_; refine tk_ (i := 6) (N := some 58) HT_ HW_ hHeld ?_
          refine on_ (i := 7) (N := some 59) HT_ (fun K hK => ?_)
          refine value_ (w1 := ?_) (v := ?_) (by rfl) rfl ?_ ?_
          rotate_left 2
          ·go_simp
           constructor
           ·rfl
           ·rfl
          refine hK.out _ _ ⟨(blk_cell (blk_alloc BK260.out _) 0).trans rfl, (blk_cell (blk_alloc BK260.out _) 1).trans rfl, (blk_cell (blk_alloc BK251.out _) 0).trans rfl, (blk_cell (blk_alloc BK251.out _) 1).trans rfl, (World.cell?_alloc_lt _ _ _ (World.block_lt_of_cell? _ _ ((by first | exact cc_ HB hw262_0 | exact cc_ ⟨hbA_ HB.out⟩ hw262_0)))).trans ((by first | exact cc_ HB hw262_0 | exact cc_ ⟨hbA_ HB.out⟩ hw262_0)), (World.cell?_alloc_lt _ _ _ (World.block_lt_of_cell? _ _ ((by first | exact cc_ HB hw262_1 | exact cc_ ⟨hbA_ HB.out⟩ hw262_1)))).trans ((by first | exact cc_ HB hw262_1 | exact cc_ ⟨hbA_ HB.out⟩ hw262_1)), (World.cell?_alloc_lt _ _ _ (World.block_lt_of_cell? _ _ ((by first | exact cc_ HB hw262_2 | exact cc_ ⟨hbA_ HB.out⟩ hw262_2)))).trans ((by first | exact cc_ HB hw262_2 | exact cc_ ⟨hbA_ HB.out⟩ hw262_2))⟩ (fun hHeld => ?_)
          clear hK K; refine nm_ 59 ?_
          refine on_ (i := 8) (N := some 60) HT_ (fun K hK => ?_)
          refine Kd.Q_append_step k63 (w0 := w) w.heap.size (by rfl) (.tmp 53) (.tmp 59) 29 63 (.agg #[(.int .i64 0), (.int .i64 0), (.int .i64 0)]) 24 rfl Try.underlying29 info63 rfl (by decide) (by omega) u261000 x261000_2 (⟨(rd_T63 l0_0 x13_2).f0, (rd_T63 l0_0 x13_2).f1, (rd_T63 l0_0 x13_2).f2⟩ : S63) [.int .i64 ((rd_T63 l0_0 x13_2).f0), .int .i64 ((rd_T63 l0_0 x13_2).f1), .int .i64 ((rd_T63 l0_0 x13_2).f2)] (fun _ => True) (fun _ => False) rfl rfl ?aP (fun _ hk => hk.elim) ?aF ?aO ?aB ?aS ?aL ?_
          (case aP => exact k63_mkM _ _ _ (⟨(rd_T63 l0_0 x13_2).f0, (rd_T63 l0_0 x13_2).f1, (rd_T63 l0_0 x13_2).f2⟩ : S63))
          (case aB => exact (hbA_ HB.out))
          (case aF => exact (fun _ _ => trivial))
          (case aO => exact (by (with_reducible repeat (first | apply Kd.Q_alloc | apply Kd.Q_drewN | apply Kd.Q_drew)); exact HO_261000.out))
          (case aS => exact (below_size (hbA_ HB.out)))
          (case aL => have := LMc54.out; omega)
          intro v264 w61 ho hb hg hat
          rw [← Ny263.out] at ho
          have n0_ := Aside0.mk (Kd.S_over' (kS_ HO_10.out) (Kd.Q_typed (by (with_reducible repeat (first | apply Kd.Q_alloc | apply Kd.Q_drewN | apply Kd.Q_drew)); exact HO_261000.out)) (by decide) hg); have n1_ := (bgA_ BK251 hg (Kd.Q_ne HO_261000.out BK251.out (by decide))); have n2_ := (bgA_ BK252 hg (Kd.Q_ne HO_261000.out BK252.out (by decide))); have n3_ := (bgA_ BK253 hg (Kd.Q_ne HO_261000.out BK253.out (by decide))); have n4_ := (bgA_ BK260 hg (Kd.Q_ne HO_261000.out BK260.out (by decide))); have n5_ := Aside0.mk (hb); have n6_ := Aside0.mk (ho); clear HO_10 BK251 BK252 BK253 BK260 HB HO_261000; have HO_10 := n0_; have BK251 := n1_; have BK252 := n2_; have BK253 := n3_; have BK260 := n4_; have HB := n5_; have HO265 := n6_; clear n0_ n1_ n2_ n3_ n4_ n5_ n6_ ho hb hg hat
          obtain ⟨Ao62, co62, eo62, _⟩ := Kd.Q_slice HO265.out
          (first | subst eo62 | (injection eo62 with f1_ f2_ f3_; have f4_ := f1_.symm; have f5_ := f3_.symm; clear f1_ f2_ f3_; subst f4_; subst f5_))
          refine hK.out _ _ ⟨bc_ BK260 0, bc_ BK260 1, bc_ BK251 0, bc_ BK251 1, (by first | exact cc_ HB hw262_0 | exact cc_ ⟨hbA_ HB.out⟩ hw262_0), (by first | exact cc_ HB hw262_1 | exact cc_ ⟨hbA_ HB.out⟩ hw262_1), (by first | exact cc_ HB hw262_2 | exact cc_ ⟨hbA_ HB.out⟩ hw262_2)⟩ (fun hHeld => ?_)
          clear hK K; refine nm_ 60 ?_; refine pu_ (i := 9) (N := some 61) HT_ ?_
          refine last_ (i := 10) (N := none) #[true, true, true, true, true, true, true, true, true, true, true] rfl rfl (one_of HT_.out (by kernel_rfl)) (by decide) (fun K hK => ?_)
          have hs63 : w61.cell? ⟨gb260, 0, none⟩ = some (u261000) := bc_ BK260 0
          have hfs63 := blk_frozen BK260.out 0
          have hns63_0 := NB251_260.out; have hns63_1 := NB252_260.out; have hns63_2 := NB253_260.out; have hms63_0 := NB260_251.out; have hms63_1 := NB260_252.out; have hms63_2 := NB260_253.out
          refine skip_ (w1 := ?_) (by rfl) rfl ?_ ?_
          rotate_left
          ·go_simp
           rfl
          refine hK.out _ _ ?_
          clear hK K
          refine done_ (done_of HT_.out (by kernel_rfl)) ?_
          try go_wp2
          go_roundg k2
          case measure => have := HJ4.out; have := HK2.out; omega
          case rel => exact ⟨(x12_2), (wrap64 (x13_2 + 1)), (y263), (.slice Ao62 y263.length co62), (by first | rfl | (simp; done) | (simp [*]; done)), (by first | rfl | (simp; done) | (simp [*]; done)), H', ⟨by have := HJ4.out; have := HK2.out; omega⟩, ⟨by refine kS_ ?_; exact Kd.S_mono (Kd.S_far (p := ⟨gb260, 0, none⟩) (Kd.S_types HO_10.out BK260.out (by decide)) (fun _ hk => hk.2) (.slice Ao62 y263.length co62)) (fun _ hk => trivial)⟩, ⟨by (with_reducible repeat (first | apply Kd.Q_alloc | apply Kd.Q_drewN | apply Kd.Q_drew)); exact Kd.Q_mono (Kd.Q_far (p := ⟨gb260, 0, none⟩) (Kd.Q_types HO265.out BK260.out (by decide)) (fun _ hk => hk.2) (.slice Ao62 y263.length co62)) (fun _ hk => trivial)⟩, ⟨by exact kf_ BK251.out⟩, ⟨by exact kf_ BK252.out⟩, ⟨by exact kf_ BK253.out⟩, ⟨by refine kb_ ?_; refine blk_put (cs := #[u261000, .slice none 0 0]) ?_ 0 _ rfl; refine kb_ ?_; exact BK260.out⟩, ⟨hbA_ HB.out⟩⟩
         ·rw [if_neg c54] at H
          exact absurd H (by simp)
       ·rw [if_neg c47] at H
        exact absurd H (by simp)
      ·rw [if_neg c46] at H
       have c46b0 : decide (x13_2 < (l0_0.length : Int)) = false := decide_eq_false c46
       clear c46
       have H' := Aside0.mk H
       clear H; have hnb64 := NB251_252.out; have hnc64 := NB252_251.out; have hnb65 := NB251_253.out; have hnc65 := NB253_251.out; have hnb66 := NB251_260.out; have hnc66 := NB260_251.out; have Z67 := zz2 BK251
       go_wp2
       go_loopg [10, 12, 14] k2 (fun kq v10 v12 v14 w' => ∃ (x10_3 : List (List Int)) (x12_3 : Bool) (x14_3 : Int) (x261001_3 : List (S65)) (u261001 : Value), v12 = .bool x12_3 ∧ v14 = .int .i64 x14_3 ∧ Aside0 (spec_NearHear.l1 kq a3 x10_3 x12_3 x14_3 l0_0 l0_1 a2_0 a2_1 a2_2 a2_3 x261000_2 x261001_3 = some (r1, r2, r3)) ∧ Aside0 (kq ≤ k2) ∧ Aside0 (Kd.S (Kd.slice 5 (Kd.int .u8)) 44 w' w.heap.size (fun _ => True) v10 x10_3) ∧ Aside0 (Kd.Q k63 63 w' w.heap.size (fun _ => True) u261000 x261000_2) ∧ Aside0 (Kd.S k65 65 w' w.heap.size (fun _ => True) u261001 x261001_3) ∧ Aside0 (w'.heap[gb251]? = some (.cells #[(.slice A0_0 l0_0.length c0_0), (.slice A0_1 l0_1.length c0_1)] 32 (0, 0))) ∧ Aside0 (w'.heap[gb252]? = some (.cells #[.int .i64 a2_0, .int .i64 a2_1, .int .i64 a2_2, .int .i64 a2_3] 37 (0, 0))) ∧ Aside0 (w'.heap[gb253]? = some (.cells #[(.slice none 0 0), (.slice none 0 0)] 32 (0, 0))) ∧ Aside0 (w'.heap[gb260]? = some (.cells #[u261000, u261001] 32 (0, 0))) ∧ Aside0 (Below w.heap.size w w'))
       case atStart => exact ⟨(y254), (x12_2), (0), (([] : List (S65))), (.slice none 0 0), (by first | rfl | (simp; done) | (simp [*]; done)), (by first | rfl | (simp; done) | (simp [*]; done)), H', ⟨Nat.le_refl _⟩, ⟨by refine kS_ ?_; exact HO_10.out⟩, ⟨by (with_reducible repeat (first | apply Kd.Q_alloc | apply Kd.Q_drewN | apply Kd.Q_drew)); exact HO_261000.out⟩, ⟨by first | exact Kd.S_nil _ _ _ _ _ | exact Kd.N_nil _ _ _ _ _ | exact Kd.V_nil _ _ _ _ _ | exact Kd.Q_nil _ _ _ _ _ | exact Kd.R_nil _ _ _ _ _⟩, ⟨by refine kb_ ?_; exact BK251.out⟩, ⟨by refine kb_ ?_; exact BK252.out⟩, ⟨by refine kb_ ?_; exact BK253.out⟩, ⟨by refine kb_ ?_; exact BK260.out⟩, ⟨hbA_ HB.out⟩⟩
       case round =>
        clear H'; (try clear c1); (try clear c2); (try clear p2); (try clear q2); (try clear hx2); (try clear c3); (try clear c4); (try clear c5); (try clear c6); (try clear p6); (try clear c7); (try clear c12); (try clear c14); (try clear c16); (try clear c17); (try clear c20); (try clear c23); (try clear c24); (try clear p26); (try clear q26); (try clear hx26); (try clear c27); (try clear c30); (try clear c31); (try clear c34); (try clear c35); (try clear c36); (try clear c39); (try clear c40); (try clear c41); (try clear c43); (try clear c44); (try clear c46); (try clear c46b0); (try clear c47); (try clear c47b0); (try clear c48); (try clear c48b0); (try clear c48b1); (try clear c49); (try clear c50); (try clear c51); (try clear c54); (try clear c55); (try clear c56); (try clear c57); (try clear c64); (try clear p64); (try clear c65); (try clear c66); (try clear Z18); (try clear Z21); (try clear Z25); (try clear Z28); (try clear Z32); (try clear Z37); (try clear Z42); (try clear Z45); (try clear Z52); (try clear Z58); (try clear Z67); (try clear hx261_0); (try clear hx261_1); (try clear hx261_2); (try clear hx262_0); (try clear hx262_1); (try clear hx262_2); (try clear p2); (try clear p261); (try clear p262); (try clear q261); (try clear q262)
        obtain ⟨x10_3, x12_3, x14_3, x261001_3, u261001, rfl, rfl, HA, HK3, HO_10, HO_261000, HO_261001, BK251, BK252, BK253, BK260, HB⟩ := hrel
        cases gk with
        | zero => exact absurd HA.out (by simp [spec_NearHear.l1])
        | succ k3 =>
         have H := HA.out; clear HA
         simp only [spec_NearHear.l1] at H
         by_cases c68 : x14_3 < (l0_1.length : Int)
         ·rw [if_pos c68] at H
          have c68b0 : decide (x14_3 < (l0_1.length : Int)) = true := decide_eq_true c68
          clear c68
          by_cases c69 : 0 ≤ x14_3
          ·rw [if_pos c69] at H
           have c69b0 : decide (0 ≤ x14_3) = true := decide_eq_true c69
           clear c69
           by_cases c70 : ((rd_T65 l0_1 x14_3).f0) = a2_2
           ·rw [if_pos c70] at H
            have c70b0 : (((rd_T65 l0_1 x14_3).f0) == a2_2) = true := beq_iff_eq.mpr c70
            have c70b1 : (((rd_T65 l0_1 x14_3).f0) != a2_2) = false := bne_eq_false_iff_eq.mpr c70
            clear c70
            obtain ⟨y267, hy267⟩ : ∃ y_ : List Int, y_ = (([] : List Int)) := ⟨_, rfl⟩
            (first | replace H := sb_ hy267 H | rw [← hy267] at H)
            have Ny267 := Aside0.mk hy267; clear hy267
            by_cases c71 : y267.length + ((rd_T65 l0_1 x14_3).f1).length < 140737488355328
            ·rw [if_pos c71] at H
             have LMc71 := Aside0.mk c71; clear c71
             obtain ⟨y271, hy271⟩ : ∃ y_ : List Int, y_ = (y267 ++ ((rd_T65 l0_1 x14_3).f1)) := ⟨_, rfl⟩
             (first | replace H := sb_ hy271 H | rw [← hy271] at H)
             have Ny271 := Aside0.mk hy271; clear hy271
             by_cases c72 : x10_3.length < 5864062014805
             ·rw [if_pos c72] at H
              have LMc72 := Aside0.mk c72; clear c72
              obtain ⟨y274, hy274⟩ : ∃ y_ : List (List Int), y_ = (x10_3 ++ [y271]) := ⟨_, rfl⟩
              (first | replace H := sb_ hy274 H | rw [← hy274] at H)
              have Ny274 := Aside0.mk hy274; clear hy274
              have H' := Aside0.mk H
              clear H; have hnb73 := NB251_252.out; have hnc73 := NB252_251.out; have hnb74 := NB251_253.out; have hnc74 := NB253_251.out; have hnb75 := NB251_260.out; have hnc75 := NB260_251.out; have Z76 := zz2 BK251
              try go_wp2
              replace HO_10 := Aside0.mk (Kd.S_drew HO_10.out); replace HO_261000 := Aside0.mk (Kd.Q_drew HO_261000.out); replace HO_261001 := Aside0.mk (Kd.S_drew HO_261001.out); replace BK251 := Aside0.mk (blk_drew BK251.out); replace BK252 := Aside0.mk (blk_drew BK252.out); replace BK253 := Aside0.mk (blk_drew BK253.out); replace BK260 := Aside0.mk (blk_drew BK260.out); replace HB := (bd_ HB)
              have p266 : 0 ≤ (x14_3 : Int) := of_decide_eq_true (by first | (with_reducible assumption) | assumption)
              have q266 : x14_3 < (l0_1.length : Int) := of_decide_eq_true (by first | (with_reducible assumption) | assumption)
              obtain ⟨ad266, A266_1, c266_1, e266, hx266_0, hx266_1, hl266_1, hi266_1⟩ := at_T65 HR0_1.out x14_3 p266 q266
              have hw266_1 := hx266_1; have hw266_0 := hx266_0
              cases e266
              replace hx266_0 := cc_ HB hx266_0
              replace hx266_1 := cc_ HB hx266_1
              have HR266_1 := Aside0.mk hi266_1; have HC266_1 := Aside0.mk hl266_1; clear hi266_1 hl266_1
              replace p266 := eq_true p266
              replace q266 := eq_true q266
              refine start_ (n := 9) (S := fun w' => w'.cell? ⟨gb251, 0, none⟩ = some (.slice A0_0 l0_0.length c0_0) ∧ w'.cell? ⟨gb251, 1, none⟩ = some (.slice (some ad266) l0_1.length c0_1) ∧ w'.cell? ⟨gb252, 0, none⟩ = some (.int .i64 a2_0) ∧ w'.cell? ⟨gb252, 1, none⟩ = some (.int .i64 a2_1) ∧ w'.cell? ⟨gb252, 2, none⟩ = some (.int .i64 a2_2) ∧ w'.cell? ⟨gb252, 3, none⟩ = some (.int .i64 a2_3) ∧ w'.cell? (ad266.add ((x14_3).toNat * 2)) = some (.int .i64 ((rd_T65 l0_1 x14_3).f0)) ∧ w'.cell? ⟨(ad266.add ((x14_3).toNat * 2)).block, (ad266.add ((x14_3).toNat * 2)).off + 1, none⟩ = some (.slice A266_1 ((rd_T65 l0_1 x14_3).f1).length c266_1)) (ds := []) #[false, false, false, false, false, false, false, false, false] (by kernel_rfl) rfl rfl ⟨bc_ BK251 0, bc_ BK251 1, bc_ BK252 0, bc_ BK252 1, bc_ BK252 2, bc_ BK252 3, (cc_ HB hw266_0), (cc_ HB hw266_1)⟩ (fun hHeld => ?_); refine with_tabW spec_NearHear.tab15 spec_NearHear.bits15 (fun HT_ HW_ => ?_)
              generalize wr.drew = w77 at HO_10 HO_261000 HO_261001 BK251 BK252 BK253 BK260 HB HR266_1 hx266_0 hx266_1 hHeld ⊢
              refine pu_ (i := 0) (N := some 69) HT_ ?_; refine pu_ (i := 2) (N := some 71) HT_ ?_; refine pu_ (i := 6) (N := some 75) HT_ ?_; refine tk_ (i := 1) (N := some 70) HT_ HW_ hHeld ?_; refine pu_ (i := 3) (N := some 72) HT_ ?_; refine pu_ (i := 4) (N := some 73) HT_ ?_; refine tk_ (i := 5) (N := some 74) HT_ HW_ hHeld ?_; refine tk_ (i := 7) (N := some 76) HT_ HW_ hHeld ?_; refine pu_ (i := 8) (N := some 77) HT_ ?_
              refine done_ (done_of HT_.out (by kernel_rfl)) ?_
              try go_wp2_with (first | ((with_reducible refine gate_dst (N := 79) rfl ?_); refine Kd.R_lit (Kd.int .u8) _ 5 ?hg (N := 79) ?hd (xs := ([] : List Int)) (inner := []) (ok := fun _ => True) (okp := fun _ => True) ?hr ?hp (fun _ hk => hk) trivial (Below.refl _ _) (Nat.le_refl _) (by simp) ?_; (case hd => rfl); (case hg => rfl); (case hr => first | (go_simp; done) | (go_simp; rfl)); (case hp => exact (Reps.none _ _)); intro v268 w78 ho79 hb hg_ hnew_; clear hg_ hnew_; (first | rw [← Ny267.out] at ho79 | (simp only [Int.reduceToNat] at ho79; rw [← Ny267.out] at ho79)); replace HO_10 := Aside0.mk (Kd.S_elder' (kS_ HO_10.out) (Kd.R_base ho79) hb); replace HO_261000 := Aside0.mk (Kd.Q_below (by (with_reducible repeat (first | apply Kd.Q_alloc | apply Kd.Q_drewN | apply Kd.Q_drew)); exact HO_261000.out) hb); replace HO_261001 := Aside0.mk (Kd.S_elder' (kS_ HO_261001.out) (Kd.R_base ho79) hb); have HO269 := Aside0.mk (Kd.R_lower ho79 (below_size (hbA_ HB.out))); replace BK251 := (bbA_ BK251 hb); replace BK252 := (bbA_ BK252 hb); replace BK253 := (bbA_ BK253 hb); replace BK260 := (bbA_ BK260 hb); replace HB := (bs_ HB hb); clear hb ho79; have Z80 := zz2 BK251; have p270 : 0 ≤ (x14_3 : Int) := of_decide_eq_true (by first | (with_reducible assumption) | assumption); have q270 : x14_3 < (l0_1.length : Int) := of_decide_eq_true (by first | (with_reducible assumption) | assumption); obtain ⟨ad270, A270_1, c270_1, e270, hx270_0, hx270_1, hl270_1, hi270_1⟩ := at_T65 HR0_1.out x14_3 p270 q270; obtain rfl : ad266 = ad270 := (by injection e270); replace hx270_0 := cc_ HB hx270_0; replace hx270_1 := cc_ HB hx270_1; have HR270_1 := Aside0.mk hi270_1; have HC270_1 := Aside0.mk hl270_1; clear hi270_1 hl270_1; replace p270 := eq_true p270; replace q270 := eq_true q270) | ((with_reducible refine gate_builtin (b := .append) (xs := #[.tmp 79, .tmp 85]) rfl ?_); at_builtin; refine Kd.R_append_rows (Kd.int .u8) (w0 := w) w.heap.size rfl (.tmp 79) (.tmp 85) 44 5 (.int .u8 0) 1 rfl Try.underlying44 info5 rfl (by decide) (by omega) v268 y267 ((rd_T65 l0_1 x14_3).f1) _ _ _ (fun _ => True) (fun _ => False) rfl rfl ?aO ?aR (fun _ _ h => h) (fun _ h => h.elim) ?aF ?aB ?aS ?aL ?_; (case aR => exact kC_ (Kd.C_below HR270_1.out HB.out)); (case aB => exact (hbA_ HB.out)); (case aF => exact (fun _ _ => trivial)); (case aO => exact (kR_ HO269.out)); (case aS => exact (below_size (hbA_ HB.out))); (case aL => have := LMc71.out; omega); intro v272 w81 ho hb hg hat; rw [← Ny271.out] at ho; replace HO_10 := Aside0.mk (Kd.S_after (ok := (fun _ => True)) (kS_ HO_10.out) hg hat); replace HO_261000 := Aside0.mk (Kd.Q_over' (by (with_reducible repeat (first | apply Kd.Q_alloc | apply Kd.Q_drewN | apply Kd.Q_drew)); exact HO_261000.out) (Kd.R_typed (kR_ HO269.out)) (by decide) hg); replace HO_261001 := Aside0.mk (Kd.S_after (ok := (fun _ => True)) (kS_ HO_261001.out) hg hat); replace BK251 := (bgA_ BK251 hg (Kd.R_ne HO269.out BK251.out (by decide))); replace BK252 := (bgA_ BK252 hg (Kd.R_ne HO269.out BK252.out (by decide))); replace BK253 := (bgA_ BK253 hg (Kd.R_ne HO269.out BK253.out (by decide))); replace BK260 := (bgA_ BK260 hg (Kd.R_ne HO269.out BK260.out (by decide))); replace HB := Aside0.mk (hb); have HO273 := Aside0.mk (ho); clear HO269; clear ho hb hg hat; obtain ⟨Ao83, co83, eo83⟩ := Kd.R_slice HO273.out; subst eo83) | ((with_reducible refine gate_builtin (b := .append) (xs := #[.tmp 78, .tmp 87]) rfl ?_); at_builtin; refine Kd.S_append (Kd.slice 5 (Kd.int .u8)) (w0 := w) w.heap.size rfl (.tmp 78) (.tmp 87) 33 44 (.slice none 0 0) 24 rfl Try.underlying33 info44 rfl (by decide) (by omega) u10 x10_3 y271 [.slice Ao83 y271.length co83] (fun _ => True) (fun k_ => some k_ = (.slice Ao83 y271.length co83 : Value).ownBlock) rfl rfl ?aP (fun k_ hk_ => ((Kd.R_mono (ok' := fun k_ => ((fun _ => True)) k_ ∧ some k_ ≠ (u10 : Value).ownBlock) (Kd.R_apart' (HO273.out) (Kd.S_typed HO_10.out) (by decide)) (fun k_ hk => ⟨trivial, hk.2⟩))).1 k_ hk_.symm) ?aF ?aO ?aB ?aS ?aL ?_; (case aP => exact Kd.M_row (Kd.R_mono (Kd.R_tight rfl (Kd.R_mono (ok' := fun k_ => ((fun _ => True)) k_ ∧ some k_ ≠ (u10 : Value).ownBlock) (Kd.R_apart' (HO273.out) (Kd.S_typed HO_10.out) (by decide)) (fun k_ hk => ⟨trivial, hk.2⟩))) (fun _ h_ => h_))); (case aB => exact (hbA_ HB.out)); (case aF => exact (fun _ _ => trivial)); (case aO => exact (by refine kS_ ?_; exact Kd.S_mono HO_10.out (fun k_ hk => ⟨trivial, fun e_ => hk.2 e_⟩))); (case aS => exact (below_size (hbA_ HB.out))); (case aL => have := LMc72.out; omega); intro v275 w82 ho hb hg hat; rw [← Ny274.out] at ho; replace HO_261000 := Aside0.mk (Kd.Q_over' (by (with_reducible repeat (first | apply Kd.Q_alloc | apply Kd.Q_drewN | apply Kd.Q_drew)); exact HO_261000.out) (Kd.S_typed (kS_ HO_10.out)) (by decide) hg); replace HO_261001 := Aside0.mk (Kd.S_over' (kS_ HO_261001.out) (Kd.S_typed (kS_ HO_10.out)) (by decide) hg); replace BK251 := (bgA_ BK251 hg (Kd.S_ne HO_10.out BK251.out (by decide))); replace BK252 := (bgA_ BK252 hg (Kd.S_ne HO_10.out BK252.out (by decide))); replace BK253 := (bgA_ BK253 hg (Kd.S_ne HO_10.out BK253.out (by decide))); replace BK260 := (bgA_ BK260 hg (Kd.S_ne HO_10.out BK260.out (by decide))); replace HB := Aside0.mk (hb); have HO276 := Aside0.mk (ho); clear HO_10 HO273; clear ho hb hg hat))
              go_roundg k3
              case measure => have := HJ4.out; have := HK2.out; have := HK3.out; omega
              case rel => exact ⟨(y274), (true), (wrap64 (x14_3 + 1)), (x261001_3), (u261001), (by first | rfl | (simp; done) | (simp [*]; done)), (by first | rfl | (simp; done) | (simp [*]; done)), H', ⟨by have := HJ4.out; have := HK2.out; have := HK3.out; omega⟩, ⟨by refine kS_ ?_; exact HO276.out⟩, ⟨by (with_reducible repeat (first | apply Kd.Q_alloc | apply Kd.Q_drewN | apply Kd.Q_drew)); exact HO_261000.out⟩, ⟨by refine kS_ ?_; exact Kd.S_mono HO_261001.out (fun _ hk => trivial)⟩, ⟨by refine kb_ ?_; exact BK251.out⟩, ⟨by refine kb_ ?_; exact BK252.out⟩, ⟨by refine kb_ ?_; exact BK253.out⟩, ⟨by refine kb_ ?_; exact BK260.out⟩, ⟨hbA_ HB.out⟩⟩
             ·rw [if_neg c72] at H
              exact absurd H (by simp)
            ·rw [if_neg c71] at H
             exact absurd H (by simp)
           ·rw [if_neg c70] at H
            have c70b0 : (((rd_T65 l0_1 x14_3).f0) == a2_2) = false := beq_eq_false_iff_ne.mpr c70
            have c70b1 : (((rd_T65 l0_1 x14_3).f0) != a2_2) = true := bne_iff_ne.mpr c70
            obtain ⟨y278, hy278⟩ : ∃ y_ : List Int, y_ = (([] : List Int)) := ⟨_, rfl⟩
            (first | replace H := sb_ hy278 H | rw [← hy278] at H)
            have Ny278 := Aside0.mk hy278; clear hy278
            by_cases c84 : y278.length + ((rd_T65 l0_1 x14_3).f1).length < 140737488355328
            ·rw [if_pos c84] at H
             have LMc84 := Aside0.mk c84; clear c84
             obtain ⟨y282, hy282⟩ : ∃ y_ : List Int, y_ = (y278 ++ ((rd_T65 l0_1 x14_3).f1)) := ⟨_, rfl⟩
             (first | replace H := sb_ hy282 H | rw [← hy282] at H)
             have Ny282 := Aside0.mk hy282; clear hy282
             by_cases c85 : x261001_3.length < 4398046511104
             ·rw [if_pos c85] at H
              have LMc85 := Aside0.mk c85; clear c85
              obtain ⟨y285, hy285⟩ : ∃ y_ : List (S65), y_ = (x261001_3 ++ [(⟨(rd_T65 l0_1 x14_3).f0, y282⟩ : S65)]) := ⟨_, rfl⟩
              (first | replace H := sb_ hy285 H | rw [← hy285] at H)
              have Ny285 := Aside0.mk hy285; clear hy285
              have H' := Aside0.mk H
              clear H; have hnb86 := NB251_252.out; have hnc86 := NB252_251.out; have hnb87 := NB251_253.out; have hnc87 := NB253_251.out; have hnb88 := NB251_260.out; have hnc88 := NB260_251.out; have Z89 := zz2 BK251
              try go_wp2
              replace HO_10 := Aside0.mk (Kd.S_drew HO_10.out); replace HO_261000 := Aside0.mk (Kd.Q_drew HO_261000.out); replace HO_261001 := Aside0.mk (Kd.S_drew HO_261001.out); replace BK251 := Aside0.mk (blk_drew BK251.out); replace BK252 := Aside0.mk (blk_drew BK252.out); replace BK253 := Aside0.mk (blk_drew BK253.out); replace BK260 := Aside0.mk (blk_drew BK260.out); replace HB := (bd_ HB)
              have p266 : 0 ≤ (x14_3 : Int) := of_decide_eq_true (by first | (with_reducible assumption) | assumption)
              have q266 : x14_3 < (l0_1.length : Int) := of_decide_eq_true (by first | (with_reducible assumption) | assumption)
              obtain ⟨ad266, A266_1, c266_1, e266, hx266_0, hx266_1, hl266_1, hi266_1⟩ := at_T65 HR0_1.out x14_3 p266 q266
              have hw266_1 := hx266_1; have hw266_0 := hx266_0
              cases e266
              replace hx266_0 := cc_ HB hx266_0
              replace hx266_1 := cc_ HB hx266_1
              have HR266_1 := Aside0.mk hi266_1; have HC266_1 := Aside0.mk hl266_1; clear hi266_1 hl266_1
              replace p266 := eq_true p266
              replace q266 := eq_true q266
              refine start_ (n := 9) (S := fun w' => w'.cell? ⟨gb251, 0, none⟩ = some (.slice A0_0 l0_0.length c0_0) ∧ w'.cell? ⟨gb251, 1, none⟩ = some (.slice (some ad266) l0_1.length c0_1) ∧ w'.cell? ⟨gb252, 0, none⟩ = some (.int .i64 a2_0) ∧ w'.cell? ⟨gb252, 1, none⟩ = some (.int .i64 a2_1) ∧ w'.cell? ⟨gb252, 2, none⟩ = some (.int .i64 a2_2) ∧ w'.cell? ⟨gb252, 3, none⟩ = some (.int .i64 a2_3) ∧ w'.cell? (ad266.add ((x14_3).toNat * 2)) = some (.int .i64 ((rd_T65 l0_1 x14_3).f0)) ∧ w'.cell? ⟨(ad266.add ((x14_3).toNat * 2)).block, (ad266.add ((x14_3).toNat * 2)).off + 1, none⟩ = some (.slice A266_1 ((rd_T65 l0_1 x14_3).f1).length c266_1)) (ds := []) #[false, false, false, false, false, false, false, false, false] (by kernel_rfl) rfl rfl ⟨bc_ BK251 0, bc_ BK251 1, bc_ BK252 0, bc_ BK252 1, bc_ BK252 2, bc_ BK252 3, (cc_ HB hw266_0), (cc_ HB hw266_1)⟩ (fun hHeld => ?_); refine with_tabW spec_NearHear.tab15 spec_NearHear.bits15 (fun HT_ HW_ => ?_)
              generalize wr.drew = w90 at HO_10 HO_261000 HO_261001 BK251 BK252 BK253 BK260 HB HR266_1 hx266_0 hx266_1 hHeld ⊢
              refine pu_ (i := 0) (N := some 69) HT_ ?_; refine pu_ (i := 2) (N := some 71) HT_ ?_; refine pu_ (i := 6) (N := some 75) HT_ ?_; refine tk_ (i := 1) (N := some 70) HT_ HW_ hHeld ?_; refine pu_ (i := 3) (N := some 72) HT_ ?_; refine pu_ (i := 4) (N := some 73) HT_ ?_; refine tk_ (i := 5) (N := some 74) HT_ HW_ hHeld ?_; refine tk_ (i := 7) (N := some 76) HT_ HW_ hHeld ?_; refine pu_ (i := 8) (N := some 77) HT_ ?_
              refine done_ (done_of HT_.out (by kernel_rfl)) ?_
              try go_wp2
              replace HO_10 := Aside0.mk (Kd.S_drew HO_10.out); replace HO_261000 := Aside0.mk (Kd.Q_drew HO_261000.out); replace HO_261001 := Aside0.mk (Kd.S_drew HO_261001.out); replace BK251 := Aside0.mk (blk_drew BK251.out); replace BK252 := Aside0.mk (blk_drew BK252.out); replace BK253 := Aside0.mk (blk_drew BK253.out); replace BK260 := Aside0.mk (blk_drew BK260.out); replace HB := (bd_ HB)
              have p277 : 0 ≤ (x14_3 : Int) := of_decide_eq_true (by first | (with_reducible assumption) | assumption)
              have q277 : x14_3 < (l0_1.length : Int) := of_decide_eq_true (by first | (with_reducible assumption) | assumption)
              obtain ⟨ad277, A277_1, c277_1, e277, hx277_0, hx277_1, hl277_1, hi277_1⟩ := at_T65 HR0_1.out x14_3 p277 q277
              have hw277_1 := hx277_1; have hw277_0 := hx277_0
              obtain rfl : ad266 = ad277 := (by injection e277)
              replace hx277_0 := cc_ HB hx277_0
              replace hx277_1 := cc_ HB hx277_1
              have HR277_1 := Aside0.mk hi277_1; have HC277_1 := Aside0.mk hl277_1; clear hi277_1 hl277_1
              replace p277 := eq_true p277
              replace q277 := eq_true q277
              have p281 : 0 ≤ (x14_3 : Int) := of_decide_eq_true (by first | (with_reducible assumption) | assumption)
              have q281 : x14_3 < (l0_1.length : Int) := of_decide_eq_true (by first | (with_reducible assumption) | assumption)
              obtain ⟨ad281, A281_1, c281_1, e281, hx281_0, hx281_1, hl281_1, hi281_1⟩ := at_T65 HR0_1.out x14_3 p281 q281
              have hw281_1 := hx281_1; have hw281_0 := hx281_0
              obtain rfl : ad266 = ad281 := (by injection e281)
              replace hx281_0 := cc_ HB hx281_0
              replace hx281_1 := cc_ HB hx281_1
              have HR281_1 := Aside0.mk hi281_1; have HC281_1 := Aside0.mk hl281_1; clear hi281_1 hl281_1
              replace p281 := eq_true p281
              replace q281 := eq_true q281
              have ea_ := Option.some.inj (hx277_1.symm.trans hx281_1)
              injection ea_ with ea_ en_ ec_
              subst ea_; subst ec_; clear en_
              refine start_ (n := 21) (S := fun w' => w'.cell? ⟨gb260, 0, none⟩ = some (u261000) ∧ w'.cell? ⟨gb260, 1, none⟩ = some (u261001) ∧ w'.cell? ⟨gb251, 0, none⟩ = some (.slice A0_0 l0_0.length c0_0) ∧ w'.cell? ⟨gb251, 1, none⟩ = some (.slice (some ad266) l0_1.length c0_1) ∧ w'.cell? (ad266.add ((x14_3).toNat * 2)) = some (.int .i64 ((rd_T65 l0_1 x14_3).f0)) ∧ w'.cell? ⟨(ad266.add ((x14_3).toNat * 2)).block, (ad266.add ((x14_3).toNat * 2)).off + 1, none⟩ = some (.slice A277_1 ((rd_T65 l0_1 x14_3).f1).length c277_1) ∧ w'.cell? (ad266.add ((x14_3).toNat * 2)) = some (.int .i64 ((rd_T65 l0_1 x14_3).f0)) ∧ w'.cell? ⟨(ad266.add ((x14_3).toNat * 2)).block, (ad266.add ((x14_3).toNat * 2)).off + 1, none⟩ = some (.slice A277_1 ((rd_T65 l0_1 x14_3).f1).length c277_1)) (ds := [20]) #[false, false, false, false, false, false, false, false, false, false, false, false, false, false, false, false, false, false, false, false, false] (by kernel_rfl) rfl rfl ⟨bc_ BK260 0, bc_ BK260 1, bc_ BK251 0, bc_ BK251 1, (cc_ HB hw277_0), (cc_ HB hw277_1), (cc_ HB hw281_0), (cc_ HB hw281_1)⟩ (fun hHeld => ?_); refine with_tabW spec_NearHear.tab18 spec_NearHear.bits18 (fun HT_ HW_ => ?_)
              generalize w90.drew = w91 at HO_10 HO_261000 HO_261001 BK251 BK252 BK253 BK260 HB HR277_1 HR281_1 hx277_0 hx277_1 hx281_0 hx281_1 hHeld ⊢
              refine pu_ (i := 0) (N := some 89) HT_ ?_; refine pu_ (i := 2) (N := some 91) HT_ ?_; refine pu_ (i := 4) (N := some 93) HT_ ?_; refine pu_ (i := 9) (N := some 98) HT_ ?_; refine pu_ (i := 11) (N := some 100) HT_ ?_; refine tk_ (i := 1) (N := some 90) HT_ HW_ hHeld ?_; refine tk_ (i := 3) (N := some 92) HT_ HW_ hHeld ?_; refine pu_ (i := 5) (N := some 94) HT_ ?_; refine pu_ (i := 6) (N := some 95) HT_ ?_; refine tk_ (i := 7) (N := some 96) HT_ HW_ hHeld ?_; refine tk_ (i := 10) (N := some 99) HT_ HW_ hHeld ?_; refine pu_ (i := 12) (N := some 101) HT_ ?_; refine pu_ (i := 13) (N := some 102) HT_ ?_; refine tk_ (i := 14) (N := some 103) HT_ HW_ hHeld ?_
              refine on_ (i := 8) (N := some 97) HT_ (fun K hK => ?_)
              refine Kd.R_lit_step (Kd.int .u8) _ 5 ?hg (N := 97) ?hd (xs := ([] : List Int)) (inner := []) (ok := fun _ => True) (okp := fun _ => True) ?hr ?hp (fun _ hk => hk) trivial (Below.refl _ _) (Nat.le_refl _) (by simp) ?_; (case hd => rfl); (case hg => rfl); (case hr => first | (go_simp; done) | (go_simp; rfl)); (case hp => exact (Reps.none _ _))
              intro v279 w92 ho93 hb hg_ hnew_
              clear hg_ hnew_
              (first | rw [← Ny278.out] at ho93 | (simp only [Int.reduceToNat] at ho93; rw [← Ny278.out] at ho93))
              have n0_ := Aside0.mk (Kd.S_elder' (kS_ HO_10.out) (Kd.R_base ho93) hb); have n1_ := Aside0.mk (Kd.Q_below (by (with_reducible repeat (first | apply Kd.Q_alloc | apply Kd.Q_drewN | apply Kd.Q_drew)); exact HO_261000.out) hb); have n2_ := Aside0.mk (Kd.S_elder' (kS_ HO_261001.out) (Kd.R_base ho93) hb); have n3_ := Aside0.mk (Kd.R_lower ho93 (below_size (hbA_ HB.out))); have n4_ := (bbA_ BK251 hb); have n5_ := (bbA_ BK252 hb); have n6_ := (bbA_ BK253 hb); have n7_ := (bbA_ BK260 hb); have n8_ := (bs_ HB hb); clear HO_10 HO_261000 HO_261001 BK251 BK252 BK253 BK260 HB; have HO_10 := n0_; have HO_261000 := n1_; have HO_261001 := n2_; have HO280 := n3_; have BK251 := n4_; have BK252 := n5_; have BK253 := n6_; have BK260 := n7_; have HB := n8_; clear n0_ n1_ n2_ n3_ n4_ n5_ n6_ n7_ n8_ hb ho93
              refine hK.out _ _ ⟨bc_ BK260 0, bc_ BK260 1, bc_ BK251 0, bc_ BK251 1, (by first | exact cc_ HB hw277_0 | exact cc_ ⟨hbA_ HB.out⟩ hw277_0), (by first | exact cc_ HB hw277_1 | exact cc_ ⟨hbA_ HB.out⟩ hw277_1), (by first | exact cc_ HB hw281_0 | exact cc_ ⟨hbA_ HB.out⟩ hw281_0), (by first | exact cc_ HB hw281_1 | exact cc_ ⟨hbA_ HB.out⟩ hw281_1)⟩ (fun hHeld => ?_)
              clear hK K; refine nm_ 97 ?_
              refine on_ (i := 15) (N := some 104) HT_ (fun K hK => ?_)
              refine Kd.R_append_rows_step (Kd.int .u8) (w0 := w) w.heap.size (by rfl) (.tmp 97) (.tmp 103) 44 5 (.int .u8 0) 1 rfl Try.underlying44 info5 rfl (by decide) (by omega) v279 y278 ((rd_T65 l0_1 x14_3).f1) _ _ _ (fun _ => True) (fun _ => False) rfl rfl ?aO ?aR (fun _ _ h => h) (fun _ h => h.elim) ?aF ?aB ?aS ?aL ?_
              (case aR => exact kC_ (Kd.C_below HR281_1.out HB.out))
              (case aB => exact (hbA_ HB.out))
              (case aF => exact (fun _ _ => trivial))
              (case aO => exact (kR_ HO280.out))
              (case aS => exact (below_size (hbA_ HB.out)))
              (case aL => have := LMc84.out; omega)
              intro v283 w94 ho hb hg hat
              rw [← Ny282.out] at ho
              have n0_ := Aside0.mk (Kd.S_after (ok := (fun _ => True)) (kS_ HO_10.out) hg hat); have n1_ := Aside0.mk (Kd.Q_over' (by (with_reducible repeat (first | apply Kd.Q_alloc | apply Kd.Q_drewN | apply Kd.Q_drew)); exact HO_261000.out) (Kd.R_typed (kR_ HO280.out)) (by decide) hg); have n2_ := Aside0.mk (Kd.S_after (ok := (fun _ => True)) (kS_ HO_261001.out) hg hat); have n3_ := (bgA_ BK251 hg (Kd.R_ne HO280.out BK251.out (by decide))); have n4_ := (bgA_ BK252 hg (Kd.R_ne HO280.out BK252.out (by decide))); have n5_ := (bgA_ BK253 hg (Kd.R_ne HO280.out BK253.out (by decide))); have n6_ := (bgA_ BK260 hg (Kd.R_ne HO280.out BK260.out (by decide))); have n7_ := Aside0.mk (hb); have n8_ := Aside0.mk (ho); clear HO_10 HO_261000 HO_261001 BK251 BK252 BK253 BK260 HB HO280; have HO_10 := n0_; have HO_261000 := n1_; have HO_261001 := n2_; have BK251 := n3_; have BK252 := n4_; have BK253 := n5_; have BK260 := n6_; have HB := n7_; have HO284 := n8_; clear n0_ n1_ n2_ n3_ n4_ n5_ n6_ n7_ n8_ ho hb hg hat
              obtain ⟨Ao95, co95, eo95⟩ := Kd.R_slice HO284.out
              (first | subst eo95 | (injection eo95 with f1_ f2_ f3_; have f4_ := f1_.symm; have f5_ := f3_.symm; clear f1_ f2_ f3_; subst f4_; subst f5_))
              refine hK.out _ _ ⟨bc_ BK260 0, bc_ BK260 1, bc_ BK251 0, bc_ BK251 1, (by first | exact cc_ HB hw277_0 | exact cc_ ⟨hbA_ HB.out⟩ hw277_0), (by first | exact cc_ HB hw277_1 | exact cc_ ⟨hbA_ HB.out⟩ hw277_1), (by first | exact cc_ HB hw281_0 | exact cc_ ⟨hbA_ HB.out⟩ hw281_0), (by first | exact cc_ HB hw281_1 | exact cc_ ⟨hbA_ HB.out⟩ hw281_1)⟩ (fun hHeld => ?_)
              clear hK K; refine nm_ 104 ?_; refine pu_ (i := 16) (N := some 105) HT_ ?_
              refine on_ (i := 17) (N := some 106) HT_ (fun K hK => ?_)
              refine value_ (w1 := ?_) (v := ?_) (by rfl) rfl ?_ ?_
              rotate_left 2
              ·go_simp
               constructor
               ·rfl
               ·rfl
              refine hK.out _ _ ⟨(blk_cell (blk_alloc BK260.out _) 0).trans rfl, (blk_cell (blk_alloc BK260.out _) 1).trans rfl, (blk_cell (blk_alloc BK251.out _) 0).trans rfl, (blk_cell (blk_alloc BK251.out _) 1).trans rfl, (World.cell?_alloc_lt _ _ _ (World.block_lt_of_cell? _ _ ((by first | exact cc_ HB hw277_0 | exact cc_ ⟨hbA_ HB.out⟩ hw277_0)))).trans ((by first | exact cc_ HB hw277_0 | exact cc_ ⟨hbA_ HB.out⟩ hw277_0)), (World.cell?_alloc_lt _ _ _ (World.block_lt_of_cell? _ _ ((by first | exact cc_ HB hw277_1 | exact cc_ ⟨hbA_ HB.out⟩ hw277_1)))).trans ((by first | exact cc_ HB hw277_1 | exact cc_ ⟨hbA_ HB.out⟩ hw277_1)), (World.cell?_alloc_lt _ _ _ (World.block_lt_of_cell? _ _ ((by first | exact cc_ HB hw281_0 | exact cc_ ⟨hbA_ HB.out⟩ hw281_0)))).trans ((by first | exact cc_ HB hw281_0 | exact cc_ ⟨hbA_ HB.out⟩ hw281_0)), (World.cell?_alloc_lt _ _ _ (World.block_lt_of_cell? _ _ ((by first | exact cc_ HB hw281_1 | exact cc_ ⟨hbA_ HB.out⟩ hw281_1)))).trans ((by first | exact cc_ HB hw281_1 | exact cc_ ⟨hbA_ HB.out⟩ hw281_1))⟩ (fun hHeld => ?_)
              clear hK K; refine nm_ 106 ?_
              refine on_ (i := 18) (N := some 107) HT_ (fun K hK => ?_)
              refine Kd.S_append_step k65 (w0 := w) w.heap.size (by rfl) (.tmp 90) (.tmp 106) 30 65 (.agg #[(.int .i64 0), (.slice none 0 0)]) 32 rfl Try.underlying30 info65 rfl (by decide) (by omega) u261001 x261001_3 (⟨(rd_T65 l0_1 x14_3).f0, y282⟩ : S65) [.int .i64 ((rd_T65 l0_1 x14_3).f0), .slice Ao95 y282.length co95] (fun _ => True) (fun k_ => some k_ = (.slice Ao95 y282.length co95 : Value).ownBlock) rfl rfl ?aP (fun k_ hk_ => ((Kd.R_mono (ok' := fun k_ => ((fun _ => True)) k_ ∧ some k_ ≠ (u261001 : Value).ownBlock) (Kd.R_apart' (HO284.out) (Kd.S_typed HO_261001.out) (by decide)) (fun k_ hk => ⟨trivial, hk.2⟩))).1 k_ hk_.symm) ?aF ?aO ?aB ?aS ?aL ?_
              (case aP => exact k65_mkM _ _ _ (⟨(rd_T65 l0_1 x14_3).f0, y282⟩ : S65) (Kd.R_mono (Kd.R_tight rfl (Kd.R_mono (ok' := fun k_ => ((fun _ => True)) k_ ∧ some k_ ≠ (u261001 : Value).ownBlock) (Kd.R_apart' (HO284.out) (Kd.S_typed HO_261001.out) (by decide)) (fun k_ hk => ⟨trivial, hk.2⟩))) (fun _ h_ => h_)))
              (case aB => exact (hbA_ HB.out))
              (case aF => exact (fun _ _ => trivial))
              (case aO => exact (by refine kS_ ?_; exact Kd.S_mono HO_261001.out (fun k_ hk => ⟨trivial, fun e_ => hk.2 e_⟩)))
              (case aS => exact (below_size (hbA_ HB.out)))
              (case aL => have := LMc85.out; omega)
              intro v286 w96 ho hb hg hat
              rw [← Ny285.out] at ho
              have n0_ := Aside0.mk (Kd.S_over' (kS_ HO_10.out) (Kd.S_typed (kS_ HO_261001.out)) (by decide) hg); have n1_ := Aside0.mk (Kd.Q_over' (by (with_reducible repeat (first | apply Kd.Q_alloc | apply Kd.Q_drewN | apply Kd.Q_drew)); exact HO_261000.out) (Kd.S_typed (kS_ HO_261001.out)) (by decide) hg); have n2_ := (bgA_ BK251 hg (Kd.S_ne HO_261001.out BK251.out (by decide))); have n3_ := (bgA_ BK252 hg (Kd.S_ne HO_261001.out BK252.out (by decide))); have n4_ := (bgA_ BK253 hg (Kd.S_ne HO_261001.out BK253.out (by decide))); have n5_ := (bgA_ BK260 hg (Kd.S_ne HO_261001.out BK260.out (by decide))); have n6_ := Aside0.mk (hb); have n7_ := Aside0.mk (ho); clear HO_10 HO_261000 BK251 BK252 BK253 BK260 HB HO_261001 HO284; have HO_10 := n0_; have HO_261000 := n1_; have BK251 := n2_; have BK252 := n3_; have BK253 := n4_; have BK260 := n5_; have HB := n6_; have HO287 := n7_; clear n0_ n1_ n2_ n3_ n4_ n5_ n6_ n7_ ho hb hg hat
              obtain ⟨Ao97, co97, eo97⟩ := Kd.S_slice HO287.out
              (first | subst eo97 | (injection eo97 with f1_ f2_ f3_; have f4_ := f1_.symm; have f5_ := f3_.symm; clear f1_ f2_ f3_; subst f4_; subst f5_))
              refine hK.out _ _ ⟨bc_ BK260 0, bc_ BK260 1, bc_ BK251 0, bc_ BK251 1, (by first | exact cc_ HB hw277_0 | exact cc_ ⟨hbA_ HB.out⟩ hw277_0), (by first | exact cc_ HB hw277_1 | exact cc_ ⟨hbA_ HB.out⟩ hw277_1), (by first | exact cc_ HB hw281_0 | exact cc_ ⟨hbA_ HB.out⟩ hw281_0), (by first | exact cc_ HB hw281_1 | exact cc_ ⟨hbA_ HB.out⟩ hw281_1)⟩ (fun hHeld => ?_)
              clear hK K; refine nm_ 107 ?_; refine pu_ (i := 19) (N := some 108) HT_ ?_
              refine last_ (i := 20) (N := none) #[true, true, true, true, true, true, true, true, true, true, true, true, true, true, true, true, true, true, true, true, true] rfl rfl (one_of HT_.out (by kernel_rfl)) (by decide) (fun K hK => ?_)
              have hs98 : w96.cell? ⟨gb260, 1, none⟩ = some (u261001) := bc_ BK260 1
              have hfs98 := blk_frozen BK260.out 1
              have hns98_0 := NB251_260.out; have hns98_1 := NB252_260.out; have hns98_2 := NB253_260.out; have hms98_0 := NB260_251.out; have hms98_1 := NB260_252.out; have hms98_2 := NB260_253.out
              refine skip_ (w1 := ?_) (by rfl) rfl ?_ ?_
              rotate_left
              ·go_simp
               rfl
              refine hK.out _ _ ?_
              clear hK K
              refine done_ (done_of HT_.out (by kernel_rfl)) ?_
              try go_wp2
              go_roundg k3
              case measure => have := HJ4.out; have := HK2.out; have := HK3.out; omega
              case rel => exact ⟨(x10_3), (x12_3), (wrap64 (x14_3 + 1)), (y285), (.slice Ao97 y285.length co97), (by first | rfl | (simp; done) | (simp [*]; done)), (by first | rfl | (simp; done) | (simp [*]; done)), H', ⟨by have := HJ4.out; have := HK2.out; have := HK3.out; omega⟩, ⟨by refine kS_ ?_; exact Kd.S_mono (Kd.S_far (p := ⟨gb260, 1, none⟩) (Kd.S_types HO_10.out BK260.out (by decide)) (fun _ hk => hk.2) (.slice Ao97 y285.length co97)) (fun _ hk => trivial)⟩, ⟨by (with_reducible repeat (first | apply Kd.Q_alloc | apply Kd.Q_drewN | apply Kd.Q_drew)); exact Kd.Q_mono (Kd.Q_far (p := ⟨gb260, 1, none⟩) (Kd.Q_types HO_261000.out BK260.out (by decide)) (fun _ hk => hk.2) (.slice Ao97 y285.length co97)) (fun _ hk => trivial)⟩, ⟨by refine kS_ ?_; exact Kd.S_mono (Kd.S_far (p := ⟨gb260, 1, none⟩) (Kd.S_types HO287.out BK260.out (by decide)) (fun _ hk => hk.2) (.slice Ao97 y285.length co97)) (fun _ hk => trivial)⟩, ⟨by exact kf_ BK251.out⟩, ⟨by exact kf_ BK252.out⟩, ⟨by exact kf_ BK253.out⟩, ⟨by refine kb_ ?_; refine blk_put (cs := #[u261000, u261001]) ?_ 1 _ rfl; refine kb_ ?_; exact BK260.out⟩, ⟨hbA_ HB.out⟩⟩
             ·rw [if_neg c85] at H
              exact absurd H (by simp)
            ·rw [if_neg c84] at H
             exact absurd H (by simp)
          ·rw [if_neg c69] at H
           exact absurd H (by simp)
         ·rw [if_neg c68] at H
          have c68b0 : decide (x14_3 < (l0_1.length : Int)) = false := decide_eq_false c68
          clear c68
          by_cases c99 : x12_3 = true
          ·subst c99
           rw [if_pos rfl] at H
           by_cases c100 : x261000_2.length < 5864062014805
           ·rw [if_pos c100] at H
            have LMc100 := Aside0.mk c100; clear c100
            obtain ⟨y297, hy297⟩ : ∃ y_ : List (S63), y_ = (x261000_2 ++ [(⟨a2_2, a2_1, wrap64 (a3 + 20)⟩ : S63)]) := ⟨_, rfl⟩
            (first | replace H := sb_ hy297 H | rw [← hy297] at H)
            have Ny297 := Aside0.mk hy297; clear hy297
            by_cases c101 : (y297.length : Int) > 4
            ·rw [if_pos c101] at H
             have c101b0 : decide (4 < (y297.length : Int)) = true := decide_eq_true c101
             have c101b1 : decide (4 < y297.length) = true := decide_eq_true (by omega)
             clear c101
             by_cases c102 : 1 ≤ (y297.length : Int)
             ·rw [if_pos c102] at H
              have c102b0 := eq_true c102
              have c102b1 : decide (1 ≤ (y297.length : Int)) = true := decide_eq_true c102
              clear c102
              obtain ⟨y300, hy300⟩ : ∃ y_ : List (S63), y_ = (y297.drop (1 : Int).toNat) := ⟨_, rfl⟩
              (first | replace H := sb_ hy300 H | rw [← hy300] at H)
              have Ny300 := Aside0.mk hy300; clear hy300
              simp only [Option.some.injEq, Prod.mk.injEq] at H
              obtain ⟨rfl, rfl, rfl⟩ := H
              have hnb103 := NB251_252.out; have hnc103 := NB252_251.out; have hnb104 := NB251_253.out; have hnc104 := NB253_251.out; have hnb105 := NB251_260.out; have hnc105 := NB260_251.out; have Z106 := zz2 BK251; have hnb107 := NB260_252.out; have hnc107 := NB252_260.out; have hnb108 := NB260_253.out; have hnc108 := NB253_260.out; have Z109 := zz2 BK260; have hnb110 := NB252_253.out; have hnc110 := NB253_252.out; have Z111 := zz4 BK252
              go_wp2_with (first | ((with_reducible refine gate_builtin (b := .append) (xs := #[.tmp 115, .tmp 123]) rfl ?_); at_builtin; refine Kd.Q_append k63 (w0 := w) w.heap.size rfl (.tmp 115) (.tmp 123) 29 63 (.agg #[(.int .i64 0), (.int .i64 0), (.int .i64 0)]) 24 rfl Try.underlying29 info63 rfl (by decide) (by omega) u261000 x261000_2 (⟨a2_2, a2_1, wrap64 (a3 + 20)⟩ : S63) [.int .i64 a2_2, .int .i64 a2_1, .int .i64 (wrap64 (a3 + 20))] (fun _ => True) (fun _ => False) rfl rfl ?aP (fun _ hk => hk.elim) ?aF ?aO ?aB ?aS ?aL ?_; (case aP => exact k63_mkM _ _ _ (⟨a2_2, a2_1, wrap64 (a3 + 20)⟩ : S63)); (case aB => exact (hbA_ HB.out)); (case aF => exact (fun _ _ => trivial)); (case aO => exact (by (with_reducible repeat (first | apply Kd.Q_alloc | apply Kd.Q_drewN | apply Kd.Q_drew)); exact HO_261000.out)); (case aS => exact (below_size (hbA_ HB.out))); (case aL => have := LMc100.out; omega); intro v298 w112 ho hb hg hat; rw [← Ny297.out] at ho; replace HO_10 := Aside0.mk (Kd.S_over' (kS_ HO_10.out) (Kd.Q_typed (by (with_reducible repeat (first | apply Kd.Q_alloc | apply Kd.Q_drewN | apply Kd.Q_drew)); exact HO_261000.out)) (by decide) hg); replace HO_261001 := Aside0.mk (Kd.S_over' (kS_ HO_261001.out) (Kd.Q_typed (by (with_reducible repeat (first | apply Kd.Q_alloc | apply Kd.Q_drewN | apply Kd.Q_drew)); exact HO_261000.out)) (by decide) hg); replace BK251 := (bgA_ BK251 hg (Kd.Q_ne HO_261000.out BK251.out (by decide))); replace BK252 := (bgA_ BK252 hg (Kd.Q_ne HO_261000.out BK252.out (by decide))); replace BK253 := (bgA_ BK253 hg (Kd.Q_ne HO_261000.out BK253.out (by decide))); replace BK260 := (bgA_ BK260 hg (Kd.Q_ne HO_261000.out BK260.out (by decide))); replace HB := Aside0.mk (hb); have HO299 := Aside0.mk (ho); clear HO_261000; clear ho hb hg hat; obtain ⟨Ao113, co113, eo113, _⟩ := Kd.Q_slice HO299.out; subst eo113; have Z114 := zz2 BK260) | ((with_reducible refine gate_store (t := 29) (p := 125) rfl ?_); refine store_event (t := 29) (p := 125) (v := ?vo_w115) (w1 := (w112.setCell ⟨gb260, 0, none⟩ (.slice Ao113 y297.length co113))) ?hg ?ho ?hn ?hr ?_; (case ho => rfl); (case hg => rfl); (case hn => rfl); (case hr => first | (go_simp; done) | (go_simp; rfl)); intro w115 hw; have n0_ : Aside0 (Kd.S (Kd.slice 5 (Kd.int .u8)) 44 w115 w.heap.size (fun _ => True) u10 x10_3) := ⟨(by rw [hw]; exact (by refine kS_ ?_; exact Kd.S_mono (Kd.S_far (p := ⟨gb260, 0, none⟩) (Kd.S_types HO_10.out BK260.out (by decide)) (fun _ hk => hk.2) (.slice Ao113 y297.length co113)) (fun _ hk => trivial)))⟩; have n1_ : Aside0 (Kd.S k65 65 w115 w.heap.size (fun _ => True) u261001 x261001_3) := ⟨(by rw [hw]; exact (by refine kS_ ?_; exact Kd.S_mono (Kd.S_far (p := ⟨gb260, 0, none⟩) (Kd.S_types HO_261001.out BK260.out (by decide)) (fun _ hk => hk.2) (.slice Ao113 y297.length co113)) (fun _ hk => trivial)))⟩; have n2_ : Aside0 (Kd.Q k63 63 w115 w.heap.size (fun _ => True) (.slice Ao113 y297.length co113) y297) := ⟨(by rw [hw]; exact (by (with_reducible repeat (first | apply Kd.Q_alloc | apply Kd.Q_drewN | apply Kd.Q_drew)); exact Kd.Q_mono (Kd.Q_far (p := ⟨gb260, 0, none⟩) (Kd.Q_types HO299.out BK260.out (by decide)) (fun _ hk => hk.2) (.slice Ao113 y297.length co113)) (fun _ hk => trivial)))⟩; have n3_ : Aside0 (w115.heap[gb251]? = some (.cells #[.slice A0_0 l0_0.length c0_0, .slice A0_1 l0_1.length c0_1] 32 (0, 0))) := ⟨(by rw [hw]; exact (by exact kf_ BK251.out))⟩; have n4_ : Aside0 (w115.heap[gb252]? = some (.cells #[.int .i64 a2_0, .int .i64 a2_1, .int .i64 a2_2, .int .i64 a2_3] 37 (0, 0))) := ⟨(by rw [hw]; exact (by exact kf_ BK252.out))⟩; have n5_ : Aside0 (w115.heap[gb253]? = some (.cells #[.slice none 0 0, .slice none 0 0] 32 (0, 0))) := ⟨(by rw [hw]; exact (by exact kf_ BK253.out))⟩; have n6_ : Aside0 (w115.heap[gb260]? = some (.cells #[.slice Ao113 y297.length co113, u261001] 32 (0, 0))) := ⟨(by rw [hw]; exact (by refine kb_ ?_; refine blk_put (cs := #[u261000, u261001]) ?_ 0 _ rfl; refine kb_ ?_; exact BK260.out))⟩; have n7_ : Aside0 (Below w.heap.size w w115) := ⟨(by rw [hw]; exact (hbA_ HB.out))⟩; clear hw; clear HO_10; clear HO_261001; clear HO299; clear BK251; clear BK252; clear BK253; clear BK260; clear HB; have HO_10 := n0_; have HO_261001 := n1_; have HO299 := n2_; have BK251 := n3_; have BK252 := n4_; have BK253 := n5_; have BK260 := n6_; have HB := n7_; clear n0_ n1_ n2_ n3_ n4_ n5_ n6_ n7_; have Z116 := zz2 BK260; have q117 : (1 : Int) ≤ ((y297.length : Int) : Int) := of_decide_eq_true (by first | (with_reducible assumption) | assumption); obtain ⟨i0117, hi0117, _, hsz117, _⟩ := info_parts info63; have hcut117 := cut_from (P := Try.prog) 29 63 .i64 Try.underlying29 hi0117 3 hsz117 Ao113 y297.length co113 1 (by omega) q117; have hr117 := Kd.Q_drop (k := (1 : Int).toNat) HO299.out (by omega); obtain ⟨A117, hA117⟩ : ∃ A1, A1 = (if co113 = (1 : Int).toNat then Ao113 else (Ao113 : Option Addr).map (·.add ((1 : Int).toNat * 3))) := ⟨_, rfl⟩; obtain ⟨c117, hc117⟩ : ∃ c1, c1 = co113 - (1 : Int).toNat := ⟨_, rfl⟩; have hy117 : y300.length = y297.length - (1 : Int).toNat := (by rw [Ny300.out, List.length_drop]); rw [← Ny300.out] at hr117; rw [← hy117, ← hA117, ← hc117] at hcut117; replace hr117 : Kd.Q k63 63 w115 w.heap.size (fun _ => True) (.slice A117 y300.length c117) y300 := (by rw [hA117, hc117, hy117]; exact hr117); have HE117 : Aside0 ((Value.slice A117 y300.length c117).ownBlock = (.slice Ao113 y297.length co113 : Value).ownBlock) := ⟨by rw [hA117]; split <;> (cases (Ao113 : Option Addr) <;> first | rfl | simp [Value.ownBlock, add_block])⟩; clear hy117 hi0117 hsz117 HO299 hA117 hc117; have HO302 := Aside0.mk hr117; clear hr117; replace q117 := eq_true q117; have Z118 := zz2 BK253; obtain ⟨Ao119, co119, eo119⟩ := Kd.S_slice HO_261001.out; subst eo119))
              refine bodyPost_ret (results_ct rfl _ _ gb253 32 #[.slice A117 y300.length c117, .slice Ao119 x261001_3.length co119] (0, 0) _ rfl (by refine kb_ ?_; refine pz2 (cs := #[.slice none 0 0, .slice none 0 0]) ?_; exact kf_ BK253.out) Try.underlying32 rfl (by kernel_rfl)) rfl ?_
              exact ⟨_, _, _, by first | rfl | (simp [errW_none, errW_some] <;> rfl) | (simp [*, errW_none, errW_some] <;> rfl), by (with_reducible repeat (first | apply Kd.Q_alloc | apply Kd.Q_drewN | apply Kd.Q_drew)); exact Kd.Q_mono (Kd.Q_far (p := ⟨gb253, 1, none⟩) (Kd.Q_far (p := ⟨gb253, 0, none⟩) (Kd.Q_far (p := ⟨gb260, 0, none⟩) (Kd.Q_types (Kd.Q_types HO302.out BK260.out (by decide)) BK253.out (by decide)) (fun _ hk => hk.1.2) (.slice A117 y300.length c117)) (fun _ hk => hk.2) (.slice A117 y300.length c117)) (fun _ hk => hk.2) (.slice Ao119 x261001_3.length co119)) (fun _ hk => trivial), by refine kS_ ?_; exact Kd.S_mono (Kd.S_far (p := ⟨gb253, 1, none⟩) (Kd.S_far (p := ⟨gb253, 0, none⟩) (Kd.S_far (p := ⟨gb260, 0, none⟩) (Kd.S_types (Kd.S_types HO_261001.out BK260.out (by decide)) BK253.out (by decide)) (fun _ hk => hk.1.2) (.slice A117 y300.length c117)) (fun _ hk => hk.2) (.slice A117 y300.length c117)) (fun _ hk => hk.2) (.slice Ao119 x261001_3.length co119)) (fun _ hk => trivial), by refine kS_ ?_; exact Kd.S_mono (Kd.S_far (p := ⟨gb253, 1, none⟩) (Kd.S_far (p := ⟨gb253, 0, none⟩) (Kd.S_far (p := ⟨gb260, 0, none⟩) (Kd.S_types (Kd.S_types HO_10.out BK260.out (by decide)) BK253.out (by decide)) (fun _ hk => hk.1.2) (.slice A117 y300.length c117)) (fun _ hk => hk.2) (.slice A117 y300.length c117)) (fun _ hk => hk.2) (.slice Ao119 x261001_3.length co119)) (fun _ hk => trivial), hbA_ HB.out⟩
             ·rw [if_neg c102] at H
              exact absurd H (by simp)
            ·rw [if_neg c101] at H
             have c101b0 : decide (4 < (y297.length : Int)) = false := decide_eq_false c101
             have c101b1 : decide (4 < y297.length) = false := decide_eq_false (by omega)
             clear c101
             simp only [Option.some.injEq, Prod.mk.injEq] at H
             obtain ⟨rfl, rfl, rfl⟩ := H
             have hnb120 := NB251_252.out; have hnc120 := NB252_251.out; have hnb121 := NB251_253.out; have hnc121 := NB253_251.out; have hnb122 := NB251_260.out; have hnc122 := NB260_251.out; have Z123 := zz2 BK251; have hnb124 := NB260_252.out; have hnc124 := NB252_260.out; have hnb125 := NB260_253.out; have hnc125 := NB253_260.out; have Z126 := zz2 BK260; have hnb127 := NB252_253.out; have hnc127 := NB253_252.out; have Z128 := zz4 BK252
             go_wp2_with (first | ((with_reducible refine gate_builtin (b := .append) (xs := #[.tmp 115, .tmp 123]) rfl ?_); at_builtin; refine Kd.Q_append k63 (w0 := w) w.heap.size rfl (.tmp 115) (.tmp 123) 29 63 (.agg #[(.int .i64 0), (.int .i64 0), (.int .i64 0)]) 24 rfl Try.underlying29 info63 rfl (by decide) (by omega) u261000 x261000_2 (⟨a2_2, a2_1, wrap64 (a3 + 20)⟩ : S63) [.int .i64 a2_2, .int .i64 a2_1, .int .i64 (wrap64 (a3 + 20))] (fun _ => True) (fun _ => False) rfl rfl ?aP (fun _ hk => hk.elim) ?aF ?aO ?aB ?aS ?aL ?_; (case aP => exact k63_mkM _ _ _ (⟨a2_2, a2_1, wrap64 (a3 + 20)⟩ : S63)); (case aB => exact (hbA_ HB.out)); (case aF => exact (fun _ _ => trivial)); (case aO => exact (by (with_reducible repeat (first | apply Kd.Q_alloc | apply Kd.Q_drewN | apply Kd.Q_drew)); exact HO_261000.out)); (case aS => exact (below_size (hbA_ HB.out))); (case aL => have := LMc100.out; omega); intro v298 w129 ho hb hg hat; rw [← Ny297.out] at ho; replace HO_10 := Aside0.mk (Kd.S_over' (kS_ HO_10.out) (Kd.Q_typed (by (with_reducible repeat (first | apply Kd.Q_alloc | apply Kd.Q_drewN | apply Kd.Q_drew)); exact HO_261000.out)) (by decide) hg); replace HO_261001 := Aside0.mk (Kd.S_over' (kS_ HO_261001.out) (Kd.Q_typed (by (with_reducible repeat (first | apply Kd.Q_alloc | apply Kd.Q_drewN | apply Kd.Q_drew)); exact HO_261000.out)) (by decide) hg); replace BK251 := (bgA_ BK251 hg (Kd.Q_ne HO_261000.out BK251.out (by decide))); replace BK252 := (bgA_ BK252 hg (Kd.Q_ne HO_261000.out BK252.out (by decide))); replace BK253 := (bgA_ BK253 hg (Kd.Q_ne HO_261000.out BK253.out (by decide))); replace BK260 := (bgA_ BK260 hg (Kd.Q_ne HO_261000.out BK260.out (by decide))); replace HB := Aside0.mk (hb); have HO299 := Aside0.mk (ho); clear HO_261000; clear ho hb hg hat; obtain ⟨Ao130, co130, eo130, _⟩ := Kd.Q_slice HO299.out; subst eo130; have Z131 := zz2 BK260; have Z132 := zz2 BK253; obtain ⟨Ao133, co133, eo133⟩ := Kd.S_slice HO_261001.out; subst eo133))
             refine bodyPost_ret (results_ct rfl _ _ gb253 32 #[.slice Ao130 y297.length co130, .slice Ao133 x261001_3.length co133] (0, 0) _ rfl (by refine kb_ ?_; refine pz2 (cs := #[.slice none 0 0, .slice none 0 0]) ?_; exact kf_ BK253.out) Try.underlying32 rfl (by kernel_rfl)) rfl ?_
             exact ⟨_, _, _, by first | rfl | (simp [errW_none, errW_some] <;> rfl) | (simp [*, errW_none, errW_some] <;> rfl), by (with_reducible repeat (first | apply Kd.Q_alloc | apply Kd.Q_drewN | apply Kd.Q_drew)); exact Kd.Q_mono (Kd.Q_far (p := ⟨gb253, 1, none⟩) (Kd.Q_far (p := ⟨gb253, 0, none⟩) (Kd.Q_far (p := ⟨gb260, 0, none⟩) (Kd.Q_types (Kd.Q_types HO299.out BK260.out (by decide)) BK253.out (by decide)) (fun _ hk => hk.1.2) (.slice Ao130 y297.length co130)) (fun _ hk => hk.2) (.slice Ao130 y297.length co130)) (fun _ hk => hk.2) (.slice Ao133 x261001_3.length co133)) (fun _ hk => trivial), by refine kS_ ?_; exact Kd.S_mono (Kd.S_far (p := ⟨gb253, 1, none⟩) (Kd.S_far (p := ⟨gb253, 0, none⟩) (Kd.S_far (p := ⟨gb260, 0, none⟩) (Kd.S_types (Kd.S_types HO_261001.out BK260.out (by decide)) BK253.out (by decide)) (fun _ hk => hk.1.2) (.slice Ao130 y297.length co130)) (fun _ hk => hk.2) (.slice Ao130 y297.length co130)) (fun _ hk => hk.2) (.slice Ao133 x261001_3.length co133)) (fun _ hk => trivial), by refine kS_ ?_; exact Kd.S_mono (Kd.S_far (p := ⟨gb253, 1, none⟩) (Kd.S_far (p := ⟨gb253, 0, none⟩) (Kd.S_far (p := ⟨gb260, 0, none⟩) (Kd.S_types (Kd.S_types HO_10.out BK260.out (by decide)) BK253.out (by decide)) (fun _ hk => hk.1.2) (.slice Ao130 y297.length co130)) (fun _ hk => hk.2) (.slice Ao130 y297.length co130)) (fun _ hk => hk.2) (.slice Ao133 x261001_3.length co133)) (fun _ hk => trivial), hbA_ HB.out⟩
           ·rw [if_neg c100] at H
            exact absurd H (by simp)
          ·replace c99 := Bool.eq_false_iff.mpr c99
           subst c99
           rw [if_neg (show ¬ (false = true) by decide)] at H
           replace H := Option.bind_eq_some_iff.mp H
           obtain ⟨⟨t288, t291⟩, A1340, H⟩ := H
           (try dsimp only at H)
           have A134 := Aside0.mk A1340; clear A1340
           obtain ⟨y294, hy294⟩ : ∃ y_ : List (List Int), y_ = (([] : List (List Int))) := ⟨_, rfl⟩
           (first | replace H := sb_ hy294 H | rw [← hy294] at H)
           have Ny294 := Aside0.mk hy294; clear hy294
           simp only [Option.some.injEq, Prod.mk.injEq] at H
           obtain ⟨rfl, rfl, rfl⟩ := H
           have hnb135 := NB251_252.out; have hnc135 := NB252_251.out; have hnb136 := NB251_253.out; have hnc136 := NB253_251.out; have hnb137 := NB251_260.out; have hnc137 := NB260_251.out; have Z138 := zz2 BK251
           go_wp2_with (first | ((with_reducible refine gate_callee (f := 34) rfl ?_); refine goesL_ (some 112) rfl rfl Try.func34 (by kernel_rfl) rfl #[.agg #[.slice A0_0 l0_0.length c0_0, .slice A0_1 l0_1.length c0_1]] rfl ar_ ?_; (with_reducible refine (spec_l3Copy.calls k3 _ _ l0_0 _ _ l0_1 t288 t291 _ ?side1 ?side2 ?side3 ?side4 A134.out).mono ?_); (case side1 => exact kC_ (Kd.C_below HR0_0.out HB.out)); (case side2 => exact HC0_0.out); (case side3 => exact kC_ (Kd.C_below HR0_1.out HB.out)); (case side4 => exact HC0_1.out); rintro e w139 ⟨v289, v292, rfl, ho0, ho1, hb⟩; refine ⟨_, rfl, ?_⟩; replace HO_10 := Aside0.mk (Kd.S_below (kS_ HO_10.out) hb); have HO290 := Aside0.mk (Kd.R_lower (Kd.R_new' ho0 (Kd.Q_lt (by (with_reducible repeat (first | apply Kd.Q_alloc | apply Kd.Q_drewN | apply Kd.Q_drew)); exact HO_261000.out))) (below_size (hbA_ HB.out))); replace HO_261000 := Aside0.mk (Kd.Q_elder' (by (with_reducible repeat (first | apply Kd.Q_alloc | apply Kd.Q_drewN | apply Kd.Q_drew)); exact HO_261000.out) (Kd.R_base ho0) hb); have HO293 := Aside0.mk (Kd.S_lower (Kd.S_new' ho1 (Kd.S_lt (kS_ HO_261001.out))) (below_size (hbA_ HB.out))); replace HO_261001 := Aside0.mk (Kd.S_elder' (kS_ HO_261001.out) (Kd.S_base ho1) hb); replace BK251 := (bbA_ BK251 hb); replace BK252 := (bbA_ BK252 hb); replace BK253 := (bbA_ BK253 hb); replace BK260 := (bbA_ BK260 hb); replace HB := (bs_ HB hb); (try clear hb); (try clear hb2); (try clear hk); (try clear hi); (try clear ho0); (try clear ho1)) | ((with_reducible refine gate_dst (N := 113) rfl ?_); refine Kd.S_lit (Kd.slice 5 (Kd.int .u8)) _ 44 ?hg (N := 113) ?hd (xs := ([] : List (List Int))) (inner := []) (ok := fun _ => True) (okp := fun _ => True) ?hr ?hp (fun _ hk => hk) trivial (Below.refl _ _) (Nat.le_refl _) (by simp) ?_; (case hd => rfl); (case hg => rfl); (case hr => first | (go_simp; done) | (go_simp; rfl)); (case hp => exact (Reps.none _ _)); intro v295 w140 ho141 hb hg_ hnew_; clear hg_ hnew_; (first | rw [← Ny294.out] at ho141 | (simp only [Int.reduceToNat] at ho141; rw [← Ny294.out] at ho141)); replace HO_261000 := Aside0.mk (Kd.Q_below (by (with_reducible repeat (first | apply Kd.Q_alloc | apply Kd.Q_drewN | apply Kd.Q_drew)); exact HO_261000.out) hb); replace HO_261001 := Aside0.mk (Kd.S_below (kS_ HO_261001.out) hb); replace HO290 := Aside0.mk (Kd.R_below (kR_ HO290.out) hb); replace HO293 := Aside0.mk (Kd.S_below (kS_ HO293.out) hb); have HO296 := Aside0.mk (Kd.S_lower (Kd.S_new' ho141 (Kd.S_lt (kS_ HO_10.out))) (below_size (hbA_ HB.out))); replace HO_10 := Aside0.mk (Kd.S_elder' (kS_ HO_10.out) (Kd.S_base ho141) hb); replace BK251 := (bbA_ BK251 hb); replace BK252 := (bbA_ BK252 hb); replace BK253 := (bbA_ BK253 hb); replace BK260 := (bbA_ BK260 hb); replace HB := (bs_ HB hb); clear hb ho141; obtain ⟨Ao142, co142, eo142⟩ := Kd.R_slice HO290.out; subst eo142; have hnb143 := NB253_252.out; have hnc143 := NB252_253.out; have hnb144 := NB253_260.out; have hnc144 := NB260_253.out; have Z145 := zz2 BK253; obtain ⟨Ao146, co146, eo146⟩ := Kd.S_slice HO293.out; subst eo146))
           refine bodyPost_ret (results_ct rfl _ _ gb253 32 #[.slice Ao142 t288.length co142, .slice Ao146 t291.length co146] (0, 0) _ rfl (by refine kb_ ?_; refine pz2 (cs := #[.slice none 0 0, .slice none 0 0]) ?_; refine kb_ ?_; exact BK253.out) Try.underlying32 rfl (by kernel_rfl)) rfl ?_
           exact ⟨_, _, _, by first | rfl | (simp [errW_none, errW_some] <;> rfl) | (simp [*, errW_none, errW_some] <;> rfl), Kd.Q_of_R (by refine kR_ ?_; exact rfm_ ((Kd.R_types HO290.out BK253.out (by decide))) (fun _ hk => trivial)), by refine kS_ ?_; exact Kd.S_mono (Kd.S_far (p := ⟨gb253, 1, none⟩) (Kd.S_far (p := ⟨gb253, 0, none⟩) (Kd.S_types HO293.out BK253.out (by decide)) (fun _ hk => hk.2) (.slice Ao142 t288.length co142)) (fun _ hk => hk.2) (.slice Ao146 t291.length co146)) (fun _ hk => trivial), by refine kS_ ?_; exact Kd.S_mono (Kd.S_far (p := ⟨gb253, 1, none⟩) (Kd.S_far (p := ⟨gb253, 0, none⟩) (Kd.S_types HO296.out BK253.out (by decide)) (fun _ hk => hk.2) (.slice Ao142 t288.length co142)) (fun _ hk => hk.2) (.slice Ao146 t291.length co146)) (fun _ hk => trivial), hbA_ HB.out⟩
def spec_l20Rd_pick.j0 : Nat → Int → Bool → List Int → Int → Option (Int × Int)
 | 0, _, _, _, _ => none
 | k + 1, x1, x24, x1000, x1001 => if x24 = true then (some (0, x1001)) else (if (wrap64 (x1001 - 1)) < (x1000.length : Int) then (if 0 ≤ (wrap64 (x1001 - 1)) then (if x1 = 0 then (none) else (some (Int.tmod (wrap64 (rd x1000 (wrap64 (x1001 - 1)))) x1, x1001))) else (none)) else (if (x1000.length : Int) = 0 then (none) else (if 0 ≤ (Int.tmod (wrap64 (x1001 - 1)) (x1000.length : Int)) then (if (Int.tmod (wrap64 (x1001 - 1)) (x1000.length : Int)) < (x1000.length : Int) then (if 0 ≤ (Int.tmod (wrap64 ((wrap64 ((wrap64 (x1001 - 1)) * 7)) + 3)) (x1000.length : Int)) then (if (Int.tmod (wrap64 ((wrap64 ((wrap64 (x1001 - 1)) * 7)) + 3)) (x1000.length : Int)) < (x1000.length : Int) then (if x1 = 0 then (none) else (some (Int.tmod (Go.bits .xor .i64 (wrap64 ((wrap64 ((wrap64 ((wrap64 ((wrap64 (rd x1000 (Int.tmod (wrap64 (x1001 - 1)) (x1000.length : Int)))) * 131)) + (wrap64 ((wrap64 (rd x1000 (Int.tmod (wrap64 ((wrap64 ((wrap64 (x1001 - 1)) * 7)) + 3)) (x1000.length : Int)))) * 1117)))) + (wrap64 ((wrap64 (x1001 - 1)) * 29)))) + (wrap64 ((wrap64 (Int.tdiv (wrap64 (x1001 - 1)) (x1000.length : Int))) * 53)))) (wrap64 (Int.tdiv (wrap64 ((wrap64 ((wrap64 ((wrap64 ((wrap64 (rd x1000 (Int.tmod (wrap64 (x1001 - 1)) (x1000.length : Int)))) * 131)) + (wrap64 ((wrap64 (rd x1000 (Int.tmod (wrap64 ((wrap64 ((wrap64 (x1001 - 1)) * 7)) + 3)) (x1000.length : Int)))) * 1117)))) + (wrap64 ((wrap64 (x1001 - 1)) * 29)))) + (wrap64 ((wrap64 (Int.tdiv (wrap64 (x1001 - 1)) (x1000.length : Int))) * 53)))) 64))) x1, x1001))) else (none)) else (none)) else (none)) else (none))))
def spec_l20Rd_pick.f (k : Nat) (s0_0 : List Int) (s0_1 : Int) (a1 : Int) : Option (Int × Int) := if a1 < 1 then (spec_l20Rd_pick.j0 k a1 true s0_0 (wrap64 (s0_1 + 1))) else (spec_l20Rd_pick.j0 k a1 ((s0_0.length : Int) == 0) s0_0 (wrap64 (s0_1 + 1)))
theorem spec_l20Rd_pick.mono_l : ∀ k, (∀ y0 y1 y2 y3, LeO (spec_l20Rd_pick.j0 k y0 y1 y2 y3) (spec_l20Rd_pick.j0 (k + 1) y0 y1 y2 y3))
 | 0 => fun _ _ _ _ r h => by simp [spec_l20Rd_pick.j0] at h
 | k + 1 => by
  have ih0 := spec_l20Rd_pick.mono_l k
  ·intro y0 y1 y2 y3
   unfold spec_l20Rd_pick.j0
   repeat' first | (with_reducible first | apply ih0 | exact LeO.refl _ | exact LeO.none _ | refine LeO.ite ?_ ?_ | refine LeO.bind ?_ fun _ => ?_) | apply ih0 | exact LeO.none _ | refine LeO.ite ?_ ?_ | refine LeO.bind ?_ fun _ => ?_
theorem spec_l20Rd_pick.mono : ∀ a0 a1 a2 k, LeO (spec_l20Rd_pick.f k a0 a1 a2) (spec_l20Rd_pick.f (k + 1) a0 a1 a2) := by
 intro a0 a1 a2 k
 have ih0 := spec_l20Rd_pick.mono_l k
 unfold spec_l20Rd_pick.f
 repeat' first | (with_reducible first | apply ih0 | exact LeO.refl _ | exact LeO.none _ | refine LeO.ite ?_ ?_ | refine LeO.bind ?_ fun _ => ?_) | apply ih0 | exact LeO.none _ | refine LeO.ite ?_ ?_ | refine LeO.bind ?_ fun _ => ?_
set_option maxHeartbeats 8000000 in
set_option maxRecDepth 100000 in
theorem spec_l20Rd_pick.calls (k : Nat) (g : Nat) (s0_0 : List Int) (s0_1 : Int) (a1 : Int) (r1 : Int) (r2 : Int) (w0 w : World) (hI : IsS104 w0 w g s0_0 s0_1) (hB : Below w0.heap.size w0 w) (h : spec_l20Rd_pick.f k s0_0 s0_1 a1 = some (r1, r2)) :
  Calls Try.prog 58 #[.pointer (some ⟨g, 0, none⟩), .int .i64 a1] w fun e w' => e = .returned (.int .i64 r1) ∧ IsS104 w0 w' g s0_0 r2 ∧ Below w0.heap.size w0 w' ∧ KeepBut w w' g none := by
 have HI0 := Aside0.mk hI
 have HK := Aside0.mk (KeepBut.refl w g none)
 have HL := Aside0.mk hB.size; clear hI; have HW0 := Aside0.mk hB.size; have HB := Aside0.mk hB; clear hB
 have H : (if a1 < 1 then (spec_l20Rd_pick.j0 k a1 true s0_0 (wrap64 (s0_1 + 1))) else (spec_l20Rd_pick.j0 k a1 ((s0_0.length : Int) == 0) s0_0 (wrap64 (s0_1 + 1)))) = some (r1, r2) := h
 clear h; have HC3 := Aside0.mk H; clear H
 obtain ⟨ASz4_0, cSz4_0, HGz4, hgz4, HSz4_0⟩ := HI0.out
 have hcz4_0 := cellS104_0 HGz4
 have hcz4_1 := cellS104_1 HGz4
 have hfz4_1 := blk_frozen HGz4 1; clear HGz4 hgz4
 go_enter Try.func58, Try.ntmps58
 go_upto_region 2 with (fail)
 repeat (go_quiet (fail); go_upto_region 2 with (fail))
 go_cut [24] (fun v24 wc => ∃ (kq : Nat) (x24_2 : Bool), v24 = .bool x24_2 ∧ Aside0 (spec_l20Rd_pick.j0 kq a1 x24_2 s0_0 (wrap64 (s0_1 + 1)) = some (r1, r2)) ∧ Aside0 (kq ≤ k) ∧ Aside0 (IsS104 w0 wc g s0_0 (wrap64 (s0_1 + 1))) ∧ Aside0 (KeepBut w wc g none) ∧ Aside0 (Below w0.heap.size w0 wc))
 case first =>
  have H := HC3.out; clear HC3
  by_cases c5 : a1 < 1
  ·rw [if_pos c5] at H
   have c5b0 : decide (a1 < 1) = true := decide_eq_true c5
   clear c5
   (first | rw [c5b0] | (simp only [i64_w, i32_w]; rw [c5b0]) | skip)
   have H' := Aside0.mk H
   clear H
   go_wp2
   repeat (go_quiet (fail); try go_wp2)
   go_meet
   case rel => exact ⟨_, (true), (by first | rfl | (simp; done) | (simp [*]; done)), H', ⟨by first | omega | exact Nat.le_refl _⟩, ⟨is104_ HI0.out⟩, ⟨hkA_ HK.out⟩, ⟨hb104_ HB.out⟩⟩
  ·rw [if_neg c5] at H
   have c5b0 : decide (a1 < 1) = false := decide_eq_false c5
   clear c5
   (first | rw [c5b0] | (simp only [i64_w, i32_w]; rw [c5b0]) | skip)
   have H' := Aside0.mk H
   clear H
   obtain ⟨ASz6_0, cSz6_0, HGz6, hgz6, HSz6_0⟩ := HI0.out
   have hcz6_0 := cellS104_0 HGz6
   have hcz6_1 := cellS104_1 HGz6
   have hfz6_1 := blk_frozen HGz6 1; clear HGz6 hgz6
   go_wp2
   repeat (go_quiet (fail); try go_wp2)
   go_meet
   case rel => exact ⟨_, (((s0_0.length : Int) == 0)), (by first | rfl | (simp; done) | (simp [*]; done)), H', ⟨by first | omega | exact Nat.le_refl _⟩, ⟨is104_ HI0.out⟩, ⟨hkA_ HK.out⟩, ⟨hb104_ HB.out⟩⟩
 case rest =>
  clear HC3; (try clear p2); (try clear c5); (try clear c5b0); (try clear p6); (try clear hcz4_0); (try clear hcz4_1); (try clear hcz6_0); (try clear hcz6_1); (try clear hfz4_1); (try clear hfz6_1)
  obtain ⟨kq, x24_2, rfl, HA, HJ2, HI0, HK, HB⟩ := hcut
  cases kq with
  | zero => exact absurd HA.out (by simp [spec_l20Rd_pick.j0])
  | succ kj2 =>
   have H := HA.out; clear HA
   simp only [spec_l20Rd_pick.j0] at H
   by_cases c7 : x24_2 = true
   ·subst c7
    rw [if_pos rfl] at H
    simp only [Option.some.injEq, Prod.mk.injEq] at H
    obtain ⟨rfl, rfl⟩ := H
    go_wp2
    repeat (go_quiet (fail); try go_wp2)
    go_ret
    exact ⟨by first | rfl | (simp [errW_none, errW_some] <;> rfl) | (simp [*, errW_none, errW_some] <;> rfl), is104_ HI0.out, hb104_ HB.out, hkA_ HK.out⟩
   ·replace c7 := Bool.eq_false_iff.mpr c7
    subst c7
    rw [if_neg (show ¬ (false = true) by decide)] at H
    by_cases c8 : (wrap64 ((wrap64 (s0_1 + 1)) - 1)) < (s0_0.length : Int)
    ·rw [if_pos c8] at H
     have c8b0 : decide ((wrap64 ((wrap64 (s0_1 + 1)) - 1)) < (s0_0.length : Int)) = true := decide_eq_true c8
     clear c8
     obtain ⟨ji9, hji9⟩ : ∃ j_ : Int, (wrap64 ((wrap64 (s0_1 + 1)) - 1)) = j_ := ⟨_, rfl⟩
     (first | rw [hji9] at H | simp only [hji9] at H)
     (try rw [hji9] at c8b0)
     have hji9w : (IntKind.i64.wrap ((wrap64 (s0_1 + 1)) - 1)) = ji9 := (i64_w _).trans hji9
     by_cases c10 : 0 ≤ (ji9)
     ·rw [if_pos c10] at H
      have c10b0 : decide (0 ≤ (ji9)) = true := decide_eq_true c10
      clear c10
      by_cases c11 : a1 = 0
      ·rw [if_pos c11] at H
       exact absurd H (by simp)
      ·rw [if_neg c11] at H
       have c11b0 : (a1 == 0) = false := beq_eq_false_iff_ne.mpr c11
       have c11b1 : (a1 != 0) = true := bne_iff_ne.mpr c11
       simp only [Option.some.injEq, Prod.mk.injEq] at H
       obtain ⟨rfl, rfl⟩ := H
       obtain ⟨ASz12_0, cSz12_0, HGz12, hgz12, HSz12_0⟩ := HI0.out
       have hcz12_0 := cellS104_0 HGz12
       have hcz12_1 := cellS104_1 HGz12
       have hfz12_1 := blk_frozen HGz12 1; clear HGz12 hgz12
       have p303 : 0 ≤ ((ji9) : Int) := of_decide_eq_true (by first | (with_reducible assumption) | assumption)
       have q303 : (ji9) < (s0_0.length : Int) := of_decide_eq_true (by first | (with_reducible assumption) | assumption)
       obtain ⟨ad303, e303, hx303_0⟩ := Kd.at_int HSz12_0 (ji9) p303 q303
       cases e303
       replace hx303_0 := pw_cell_below HB.out hx303_0
       replace p303 := eq_true p303
       replace q303 := eq_true q303
       go_wp2
       repeat (go_quiet (fail); try go_wp2)
       go_ret
       exact ⟨by first | rfl | (simp [errW_none, errW_some] <;> rfl) | (simp only [← hji9]; first | rfl | (simp [errW_none, errW_some] <;> rfl)) | (simp [*, errW_none, errW_some] <;> rfl), is104_ HI0.out, hb104_ HB.out, hkA_ HK.out⟩
     ·rw [if_neg c10] at H
      exact absurd H (by simp)
    ·rw [if_neg c8] at H
     have c8b0 : decide ((wrap64 ((wrap64 (s0_1 + 1)) - 1)) < (s0_0.length : Int)) = false := decide_eq_false c8
     clear c8
     by_cases c13 : (s0_0.length : Int) = 0
     ·rw [if_pos c13] at H
      exact absurd H (by simp)
     ·rw [if_neg c13] at H
      have c13b0 : ((s0_0.length : Int) == 0) = false := beq_eq_false_iff_ne.mpr c13
      have c13b1 : ((s0_0.length : Int) != 0) = true := bne_iff_ne.mpr c13
      have c13b2 : ¬ (s0_0 = []) := fun h_ => c13 (by rw [h_]; rfl)
      obtain ⟨ji14, hji14⟩ : ∃ j_ : Int, (Int.tmod (wrap64 ((wrap64 (s0_1 + 1)) - 1)) (s0_0.length : Int)) = j_ := ⟨_, rfl⟩
      (first | rw [hji14] at H | simp only [hji14] at H)
      by_cases c15 : 0 ≤ (ji14)
      ·rw [if_pos c15] at H
       have c15b0 : decide (0 ≤ (ji14)) = true := decide_eq_true c15
       clear c15
       by_cases c16 : (ji14) < (s0_0.length : Int)
       ·rw [if_pos c16] at H
        have c16b0 : decide ((ji14) < (s0_0.length : Int)) = true := decide_eq_true c16
        clear c16
        obtain ⟨ji17, hji17⟩ : ∃ j_ : Int, (Int.tmod (wrap64 ((wrap64 ((wrap64 ((wrap64 (s0_1 + 1)) - 1)) * 7)) + 3)) (s0_0.length : Int)) = j_ := ⟨_, rfl⟩
        (first | rw [hji17] at H | simp only [hji17] at H)
        by_cases c18 : 0 ≤ (ji17)
        ·rw [if_pos c18] at H
         have c18b0 : decide (0 ≤ (ji17)) = true := decide_eq_true c18
         clear c18
         by_cases c19 : (ji17) < (s0_0.length : Int)
         ·rw [if_pos c19] at H
          have c19b0 : decide ((ji17) < (s0_0.length : Int)) = true := decide_eq_true c19
          clear c19
          by_cases c20 : a1 = 0
          ·rw [if_pos c20] at H
           exact absurd H (by simp)
          ·rw [if_neg c20] at H
           have c20b0 : (a1 == 0) = false := beq_eq_false_iff_ne.mpr c20
           have c20b1 : (a1 != 0) = true := bne_iff_ne.mpr c20
           simp only [Option.some.injEq, Prod.mk.injEq] at H
           obtain ⟨rfl, rfl⟩ := H
           obtain ⟨ASz21_0, cSz21_0, HGz21, hgz21, HSz21_0⟩ := HI0.out
           have hcz21_0 := cellS104_0 HGz21
           have hcz21_1 := cellS104_1 HGz21
           have hfz21_1 := blk_frozen HGz21 1; clear HGz21 hgz21
           have p304 : 0 ≤ ((ji14) : Int) := of_decide_eq_true (by first | (with_reducible assumption) | assumption)
           have q304 : (ji14) < (s0_0.length : Int) := of_decide_eq_true (by first | (with_reducible assumption) | assumption)
           obtain ⟨ad304, e304, hx304_0⟩ := Kd.at_int HSz21_0 (ji14) p304 q304
           cases e304
           replace hx304_0 := pw_cell_below HB.out hx304_0
           replace p304 := eq_true p304
           replace q304 := eq_true q304
           have p305 : 0 ≤ ((ji17) : Int) := of_decide_eq_true (by first | (with_reducible assumption) | assumption)
           have q305 : (ji17) < (s0_0.length : Int) := of_decide_eq_true (by first | (with_reducible assumption) | assumption)
           obtain ⟨ad305, e305, hx305_0⟩ := Kd.at_int HSz21_0 (ji17) p305 q305
           obtain rfl : ad304 = ad305 := (by injection e305)
           replace hx305_0 := pw_cell_below HB.out hx305_0
           replace p305 := eq_true p305
           replace q305 := eq_true q305
           go_wp2
           repeat (go_quiet (fail); try go_wp2)
           go_ret
           exact ⟨by first | rfl | (simp [errW_none, errW_some] <;> rfl) | (simp only [← hji14, ← hji17]; first | rfl | (simp [errW_none, errW_some] <;> rfl)) | (simp [*, errW_none, errW_some] <;> rfl), is104_ HI0.out, hb104_ HB.out, hkA_ HK.out⟩
         ·rw [if_neg c19] at H
          exact absurd H (by simp)
        ·rw [if_neg c18] at H
         exact absurd H (by simp)
       ·rw [if_neg c16] at H
        exact absurd H (by simp)
      ·rw [if_neg c15] at H
       exact absurd H (by simp)
def spec_l20Rd_odd.f (k : Nat) (s0_0 : List Int) (s0_1 : Int) (a1 : Int) : Option (Bool × Int) := if a1 > 0 then ((spec_l20Rd_pick.f k s0_0 s0_1 a1).bind fun bt306 => (some ((bt306.1 == (wrap64 (a1 - 1))), bt306.2))) else (some (false, s0_1))
theorem spec_l20Rd_odd.mono : ∀ a0 a1 a2 k, LeO (spec_l20Rd_odd.f k a0 a1 a2) (spec_l20Rd_odd.f (k + 1) a0 a1 a2) := by
 intro a0 a1 a2 k
 unfold spec_l20Rd_odd.f
 repeat' first | (with_reducible first | apply spec_l20Rd_pick.mono | exact LeO.refl _ | exact LeO.none _ | refine LeO.ite ?_ ?_ | refine LeO.bind ?_ fun _ => ?_) | apply spec_l20Rd_pick.mono | exact LeO.none _ | refine LeO.ite ?_ ?_ | refine LeO.bind ?_ fun _ => ?_
set_option maxHeartbeats 8000000 in
set_option maxRecDepth 100000 in
theorem spec_l20Rd_odd.calls (k : Nat) (g : Nat) (s0_0 : List Int) (s0_1 : Int) (a1 : Int) (r1 : Bool) (r2 : Int) (w0 w : World) (hI : IsS104 w0 w g s0_0 s0_1) (hB : Below w0.heap.size w0 w) (h : spec_l20Rd_odd.f k s0_0 s0_1 a1 = some (r1, r2)) :
  Calls Try.prog 78 #[.pointer (some ⟨g, 0, none⟩), .int .i64 a1] w fun e w' => e = .returned (.bool r1) ∧ IsS104 w0 w' g s0_0 r2 ∧ Below w0.heap.size w0 w' ∧ KeepBut w w' g none := by
 have HI0 := Aside0.mk hI
 have HK := Aside0.mk (KeepBut.refl w g none)
 have HL := Aside0.mk hB.size; clear hI; have HW0 := Aside0.mk hB.size; have HB := Aside0.mk hB; clear hB
 have H : (if a1 > 0 then ((spec_l20Rd_pick.f k s0_0 s0_1 a1).bind fun bt306 => (some ((bt306.1 == (wrap64 (a1 - 1))), bt306.2))) else (some (false, s0_1))) = some (r1, r2) := h
 clear h
 by_cases c3 : a1 > 0
 ·rw [if_pos c3] at H
  have c3b0 : decide (0 < a1) = true := decide_eq_true c3
  clear c3
  replace H := Option.bind_eq_some_iff.mp H
  obtain ⟨⟨t306, t307⟩, A40, H⟩ := H
  (try dsimp only at H)
  have A4 := Aside0.mk A40; clear A40
  simp only [Option.some.injEq, Prod.mk.injEq] at H
  obtain ⟨rfl, rfl⟩ := H
  go_enter Try.func78, Try.ntmps78
  go_wp2_with (first | (go_at_call 58; (with_reducible refine (spec_l20Rd_pick.calls k g s0_0 s0_1 a1 t306 t307 w0 _ ?side1 ?side2 A4.out).mono ?_); (case side1 => exact is104_ HI0.out); (case side2 => exact hb104_ HB.out); rintro e w5 ⟨rfl, hi, hb, hk⟩; replace HK := (kk_ HK hk); replace HB := Aside0.mk (hb); replace HI0 := Aside0.mk (hi); (try clear hb); (try clear hb2); (try clear hk); (try clear hi)))
  go_ret
  exact ⟨by first | rfl | (simp [errW_none, errW_some] <;> rfl) | (simp [*, errW_none, errW_some] <;> rfl), is104_ HI0.out, hb104_ HB.out, hkA_ HK.out⟩
 ·rw [if_neg c3] at H
  have c3b0 : decide (0 < a1) = false := decide_eq_false c3
  clear c3
  simp only [Option.some.injEq, Prod.mk.injEq] at H
  obtain ⟨rfl, rfl⟩ := H
  go_enter Try.func78, Try.ntmps78
  go_wp2
  go_ret
  exact ⟨by first | rfl | (simp [errW_none, errW_some] <;> rfl) | (simp [*, errW_none, errW_some] <;> rfl), is104_ HI0.out, hb104_ HB.out, hkA_ HK.out⟩
def spec_l20Query.f (k : Nat) (s0_0 : List Int) (s0_1 : Int) (a1 : Int) : Option (Int × Int × Int × Int × Int) := (spec_l20Rd_pick.f k s0_0 s0_1 2).bind fun bt309 => ((spec_l20Rd_pick.f k s0_0 bt309.2 4).bind fun bt311 => ((spec_l20Rd_pick.f k s0_0 bt311.2 6).bind fun bt313 => ((spec_l20Rd_pick.f k s0_0 bt313.2 6).bind fun bt315 => ((spec_l20Rd_odd.f k s0_0 bt315.2 a1).bind fun bt318 => (if bt318.1 = true then ((spec_l20Rd_pick.f k s0_0 bt318.2 3).bind fun bt320 => (if bt320.1 = 0 then ((spec_l20Rd_pick.f k s0_0 bt320.2 5).bind fun bt322 => (some (bt322.1, bt311.1, bt313.1, bt315.1, bt322.2))) else (if bt320.1 = 1 then (some (wrap64 (1 + bt309.1), 255, bt313.1, bt315.1, bt320.2)) else ((spec_l20Rd_pick.f k s0_0 bt320.2 2).bind fun bt324 => (some (wrap64 (1 + bt309.1), bt311.1, wrap64 (65536 - (wrap64 (bt324.1 * 70000))), bt315.1, bt324.2)))))) else (some (wrap64 (1 + bt309.1), bt311.1, bt313.1, bt315.1, bt318.2)))))))
theorem spec_l20Query.mono : ∀ a0 a1 a2 k, LeO (spec_l20Query.f k a0 a1 a2) (spec_l20Query.f (k + 1) a0 a1 a2) := by
 intro a0 a1 a2 k
 unfold spec_l20Query.f
 repeat' first | (with_reducible first | apply spec_l20Rd_odd.mono | apply spec_l20Rd_pick.mono | exact LeO.refl _ | exact LeO.none _ | refine LeO.ite ?_ ?_ | refine LeO.bind ?_ fun _ => ?_) | apply spec_l20Rd_odd.mono | apply spec_l20Rd_pick.mono | exact LeO.none _ | refine LeO.ite ?_ ?_ | refine LeO.bind ?_ fun _ => ?_
set_option maxHeartbeats 8000000 in
set_option maxRecDepth 100000 in
theorem spec_l20Query.calls (k : Nat) (g : Nat) (s0_0 : List Int) (s0_1 : Int) (a1 : Int) (r1 : Int) (r2 : Int) (r3 : Int) (r4 : Int) (r5 : Int) (w0 w : World) (hI : IsS104 w0 w g s0_0 s0_1) (hB : Below w0.heap.size w0 w) (h : spec_l20Query.f k s0_0 s0_1 a1 = some (r1, r2, r3, r4, r5)) :
  Calls Try.prog 59 #[.pointer (some ⟨g, 0, none⟩), .int .i64 a1] w fun e w' => e = .returned (.agg #[.int .i64 r1, .int .i64 r2, .int .i64 r3, .int .i64 r4]) ∧ IsS104 w0 w' g s0_0 r5 ∧ Below w0.heap.size w0 w' ∧ KeepBut w w' g none := by
 have hu37 := Try.underlying37; have HI0 := Aside0.mk hI
 have HK := Aside0.mk (KeepBut.refl w g none)
 have HL := Aside0.mk hB.size; clear hI; have HW0 := Aside0.mk hB.size; have HB := Aside0.mk hB; clear hB
 have H : ((spec_l20Rd_pick.f k s0_0 s0_1 2).bind fun bt309 => ((spec_l20Rd_pick.f k s0_0 bt309.2 4).bind fun bt311 => ((spec_l20Rd_pick.f k s0_0 bt311.2 6).bind fun bt313 => ((spec_l20Rd_pick.f k s0_0 bt313.2 6).bind fun bt315 => ((spec_l20Rd_odd.f k s0_0 bt315.2 a1).bind fun bt318 => (if bt318.1 = true then ((spec_l20Rd_pick.f k s0_0 bt318.2 3).bind fun bt320 => (if bt320.1 = 0 then ((spec_l20Rd_pick.f k s0_0 bt320.2 5).bind fun bt322 => (some (bt322.1, bt311.1, bt313.1, bt315.1, bt322.2))) else (if bt320.1 = 1 then (some (wrap64 (1 + bt309.1), 255, bt313.1, bt315.1, bt320.2)) else ((spec_l20Rd_pick.f k s0_0 bt320.2 2).bind fun bt324 => (some (wrap64 (1 + bt309.1), bt311.1, wrap64 (65536 - (wrap64 (bt324.1 * 70000))), bt315.1, bt324.2)))))) else (some (wrap64 (1 + bt309.1), bt311.1, bt313.1, bt315.1, bt318.2)))))))) = some (r1, r2, r3, r4, r5) := h
 clear h
 replace H := Option.bind_eq_some_iff.mp H
 obtain ⟨⟨t309, t310⟩, A30, H⟩ := H
 (try dsimp only at H)
 have A3 := Aside0.mk A30; clear A30
 replace H := Option.bind_eq_some_iff.mp H
 obtain ⟨⟨t311, t312⟩, A40, H⟩ := H
 (try dsimp only at H)
 have A4 := Aside0.mk A40; clear A40
 replace H := Option.bind_eq_some_iff.mp H
 obtain ⟨⟨t313, t314⟩, A50, H⟩ := H
 (try dsimp only at H)
 have A5 := Aside0.mk A50; clear A50
 replace H := Option.bind_eq_some_iff.mp H
 obtain ⟨⟨t315, t316⟩, A60, H⟩ := H
 (try dsimp only at H)
 have A6 := Aside0.mk A60; clear A60
 replace H := Option.bind_eq_some_iff.mp H
 obtain ⟨⟨t318, t319⟩, A70, H⟩ := H
 (try dsimp only at H)
 have A7 := Aside0.mk A70; clear A70
 by_cases c8 : t318 = true
 ·subst c8
  rw [if_pos rfl] at H
  replace H := Option.bind_eq_some_iff.mp H
  obtain ⟨⟨t320, t321⟩, A90, H⟩ := H
  (try dsimp only at H)
  have A9 := Aside0.mk A90; clear A90
  by_cases c10 : t320 = 0
  ·rw [if_pos c10] at H
   have c10b0 : (t320 == 0) = true := beq_iff_eq.mpr c10
   have c10b1 : (t320 != 0) = false := bne_eq_false_iff_eq.mpr c10
   clear c10
   replace H := Option.bind_eq_some_iff.mp H
   obtain ⟨⟨t322, t323⟩, A110, H⟩ := H
   (try dsimp only at H)
   have A11 := Aside0.mk A110; clear A110
   simp only [Option.some.injEq, Prod.mk.injEq] at H
   obtain ⟨rfl, rfl, rfl, rfl, rfl⟩ := H
   go_enter Try.func59, Try.ntmps59
   go_wp2_with (first | ((with_reducible refine gate_dst (N := 4) rfl ?_); refine box_ (N := 4) (cs := #[.int .i64 0, .int .i64 0, .int .i64 0, .int .i64 0]) (t := 37) (fun gb308 hg w12 hbox hb => ?_); replace HB := (bs104_ HB hb); have BK308 := Aside0.mk (hbox); have GW308 := gk_ hg HK; have GE308 := Aside0.mk ((Nat.le_trans HW0.out (by rw [hg]; exact (keep_size (w := w) (g := g) (row := none) (hkA_ HK.out)) : w.heap.size ≤ gb308) : w0.heap.size ≤ gb308)); replace HK := (kw_ HK hb); have NB0_308 := nl104_ hg HI0; have NB308_0 := ng104_ hg HI0; replace HI0 := (ib104_ HI0 hb); clear hb hbox hg) | ((with_reducible refine gate_callee (f := 58) rfl ?_); refine goesL_ (some 7) rfl rfl Try.func58 (by kernel_rfl) rfl #[.pointer (some ⟨g, 0, none⟩), .int .i64 2] rfl ar_ ?_; (with_reducible refine (spec_l20Rd_pick.calls k g s0_0 s0_1 2 t309 t310 w0 _ ?side1 ?side2 A3.out).mono ?_); (case side1 => exact is104_ HI0.out); (case side2 => exact hb104_ HB.out); rintro e w13 ⟨rfl, hi, hb, hk⟩; refine ⟨_, rfl, ?_⟩; replace BK308 := (bkA_ BK308 hk NB308_0); replace HK := (kk_ HK hk); replace HB := Aside0.mk (hb); replace HI0 := Aside0.mk (hi); (try clear hb); (try clear hb2); (try clear hk); (try clear hi)) | ((with_reducible refine gate_callee (f := 58) rfl ?_); refine goesL_ (some 10) rfl rfl Try.func58 (by kernel_rfl) rfl #[.pointer (some ⟨g, 0, none⟩), .int .i64 4] rfl ar_ ?_; (with_reducible refine (spec_l20Rd_pick.calls k g s0_0 t310 4 t311 t312 w0 _ ?side1 ?side2 A4.out).mono ?_); (case side1 => exact is104_ HI0.out); (case side2 => exact hb104_ HB.out); rintro e w14 ⟨rfl, hi, hb, hk⟩; refine ⟨_, rfl, ?_⟩; replace BK308 := (bkA_ BK308 hk NB308_0); replace HK := (kk_ HK hk); replace HB := Aside0.mk (hb); replace HI0 := Aside0.mk (hi); (try clear hb); (try clear hb2); (try clear hk); (try clear hi)) | ((with_reducible refine gate_callee (f := 58) rfl ?_); refine goesL_ (some 12) rfl rfl Try.func58 (by kernel_rfl) rfl #[.pointer (some ⟨g, 0, none⟩), .int .i64 6] rfl ar_ ?_; (with_reducible refine (spec_l20Rd_pick.calls k g s0_0 t312 6 t313 t314 w0 _ ?side1 ?side2 A5.out).mono ?_); (case side1 => exact is104_ HI0.out); (case side2 => exact hb104_ HB.out); rintro e w15 ⟨rfl, hi, hb, hk⟩; refine ⟨_, rfl, ?_⟩; replace BK308 := (bkA_ BK308 hk NB308_0); replace HK := (kk_ HK hk); replace HB := Aside0.mk (hb); replace HI0 := Aside0.mk (hi); (try clear hb); (try clear hb2); (try clear hk); (try clear hi)) | ((with_reducible refine gate_callee (f := 58) rfl ?_); refine goesL_ (some 14) rfl rfl Try.func58 (by kernel_rfl) rfl #[.pointer (some ⟨g, 0, none⟩), .int .i64 6] rfl ar_ ?_; (with_reducible refine (spec_l20Rd_pick.calls k g s0_0 t314 6 t315 t316 w0 _ ?side1 ?side2 A6.out).mono ?_); (case side1 => exact is104_ HI0.out); (case side2 => exact hb104_ HB.out); rintro e w16 ⟨rfl, hi, hb, hk⟩; refine ⟨_, rfl, ?_⟩; replace BK308 := (bkA_ BK308 hk NB308_0); replace HK := (kk_ HK hk); replace HB := Aside0.mk (hb); replace HI0 := Aside0.mk (hi); (try clear hb); (try clear hb2); (try clear hk); (try clear hi)) | ((with_reducible refine gate_dst (N := 5) rfl ?_); refine box_ (N := 5) (cs := #[.int .i64 0, .int .i64 0, .int .i64 0, .int .i64 0]) (t := 37) (fun gb317 hg w17 hbox hb => ?_); replace HB := (bs104_ HB hb); have BK317 := Aside0.mk (hbox); have GW317 := gk_ hg HK; have GE317 := Aside0.mk ((Nat.le_trans HW0.out (by rw [hg]; exact (keep_size (w := w) (g := g) (row := none) (hkA_ HK.out)) : w.heap.size ≤ gb317) : w0.heap.size ≤ gb317)); replace HK := (kw_ HK hb); have NB308_317 := nl_ hg BK308; have NB317_308 := ng_ hg BK308; replace BK308 := (bbA_ BK308 hb); have NB0_317 := nl104_ hg HI0; have NB317_0 := ng104_ hg HI0; replace HI0 := (ib104_ HI0 hb); clear hb hbox hg; have hnb18 := NB317_308.out; have hnc18 := NB308_317.out; have hnb19 := NB317_0.out; have hnc19 := NB0_317.out; have Z20 := zz4 BK317) | ((with_reducible refine gate_callee (f := 78) rfl ?_); refine goesL_ (some 18) rfl rfl Try.func78 (by kernel_rfl) rfl #[.pointer (some ⟨g, 0, none⟩), .int .i64 a1] rfl ar_ ?_; (with_reducible refine (spec_l20Rd_odd.calls k g s0_0 t316 a1 true t319 w0 _ ?side1 ?side2 A7.out).mono ?_); (case side1 => exact is104_ HI0.out); (case side2 => exact hb104_ HB.out); rintro e w21 ⟨rfl, hi, hb, hk⟩; refine ⟨_, rfl, ?_⟩; replace BK308 := Aside0.mk (KeepBut.blk hk (g' := gb308) (o := .cells #[.int .i64 0, .int .i64 0, .int .i64 0, .int .i64 0] 37 (0, 0)) (by exact kf_ BK308.out) NB308_0.out (by simp)); replace BK317 := Aside0.mk (KeepBut.blk hk (g' := gb317) (o := .cells #[.int .i64 (wrap64 (1 + t309)), .int .i64 t311, .int .i64 t313, .int .i64 t315] 37 (0, 0)) (by refine kb_ ?_; refine pz4 (cs := #[.int .i64 0, .int .i64 0, .int .i64 0, .int .i64 0]) ?_; refine kb_ ?_; exact BK317.out) NB317_0.out (by simp)); replace HK := (kk_ HK hk); replace HB := Aside0.mk (hb); replace HI0 := Aside0.mk (hi); (try clear hb); (try clear hb2); (try clear hk); (try clear hi)) | ((with_reducible refine gate_callee (f := 58) rfl ?_); refine goesL_ (some 20) rfl rfl Try.func58 (by kernel_rfl) rfl #[.pointer (some ⟨g, 0, none⟩), .int .i64 3] rfl ar_ ?_; (with_reducible refine (spec_l20Rd_pick.calls k g s0_0 t319 3 t320 t321 w0 _ ?side1 ?side2 A9.out).mono ?_); (case side1 => exact is104_ HI0.out); (case side2 => exact hb104_ HB.out); rintro e w22 ⟨rfl, hi, hb, hk⟩; refine ⟨_, rfl, ?_⟩; replace BK308 := (bkA_ BK308 hk NB308_0); replace BK317 := (bkA_ BK317 hk NB317_0); replace HK := (kk_ HK hk); replace HB := Aside0.mk (hb); replace HI0 := Aside0.mk (hi); (try clear hb); (try clear hb2); (try clear hk); (try clear hi)) | ((with_reducible refine gate_callee (f := 58) rfl ?_); refine goesL_ (some 29) rfl rfl Try.func58 (by kernel_rfl) rfl #[.pointer (some ⟨g, 0, none⟩), .int .i64 5] rfl ar_ ?_; (with_reducible refine (spec_l20Rd_pick.calls k g s0_0 t321 5 t322 t323 w0 _ ?side1 ?side2 A11.out).mono ?_); (case side1 => exact is104_ HI0.out); (case side2 => exact hb104_ HB.out); rintro e w23 ⟨rfl, hi, hb, hk⟩; refine ⟨_, rfl, ?_⟩; replace BK308 := (bkA_ BK308 hk NB308_0); replace BK317 := (bkA_ BK317 hk NB317_0); replace HK := (kk_ HK hk); replace HB := Aside0.mk (hb); replace HI0 := Aside0.mk (hi); (try clear hb); (try clear hb2); (try clear hk); (try clear hi); have Z24 := zz4 BK317; have hnb25 := NB308_0.out; have hnc25 := NB0_308.out; have Z26 := zz4 BK308))
   refine bodyPost_ret (results_cell_row rfl _ _ gb308 37 #[.int .i64 t322, .int .i64 t311, .int .i64 t313, .int .i64 t315] (0, 0) _ rfl (by refine kb_ ?_; refine pz4 (cs := #[.int .i64 0, .int .i64 0, .int .i64 0, .int .i64 0]) ?_; exact kf_ BK308.out) Try.underlying37 rfl (by kernel_rfl)) rfl ?_
   exact ⟨by first | rfl | (simp [errW_none, errW_some] <;> rfl) | (simp [*, errW_none, errW_some] <;> rfl), is104_ HI0.out, hb104_ HB.out, hkA_ HK.out⟩
  ·rw [if_neg c10] at H
   have c10b0 : (t320 == 0) = false := beq_eq_false_iff_ne.mpr c10
   have c10b1 : (t320 != 0) = true := bne_iff_ne.mpr c10
   by_cases c27 : t320 = 1
   ·rw [if_pos c27] at H
    have c27b0 : (t320 == 1) = true := beq_iff_eq.mpr c27
    have c27b1 : (t320 != 1) = false := bne_eq_false_iff_eq.mpr c27
    clear c27
    simp only [Option.some.injEq, Prod.mk.injEq] at H
    obtain ⟨rfl, rfl, rfl, rfl, rfl⟩ := H
    go_enter Try.func59, Try.ntmps59
    go_wp2_with (first | ((with_reducible refine gate_dst (N := 4) rfl ?_); refine box_ (N := 4) (cs := #[.int .i64 0, .int .i64 0, .int .i64 0, .int .i64 0]) (t := 37) (fun gb308 hg w28 hbox hb => ?_); replace HB := (bs104_ HB hb); have BK308 := Aside0.mk (hbox); have GW308 := gk_ hg HK; have GE308 := Aside0.mk ((Nat.le_trans HW0.out (by rw [hg]; exact (keep_size (w := w) (g := g) (row := none) (hkA_ HK.out)) : w.heap.size ≤ gb308) : w0.heap.size ≤ gb308)); replace HK := (kw_ HK hb); have NB0_308 := nl104_ hg HI0; have NB308_0 := ng104_ hg HI0; replace HI0 := (ib104_ HI0 hb); clear hb hbox hg) | ((with_reducible refine gate_callee (f := 58) rfl ?_); refine goesL_ (some 7) rfl rfl Try.func58 (by kernel_rfl) rfl #[.pointer (some ⟨g, 0, none⟩), .int .i64 2] rfl ar_ ?_; (with_reducible refine (spec_l20Rd_pick.calls k g s0_0 s0_1 2 t309 t310 w0 _ ?side1 ?side2 A3.out).mono ?_); (case side1 => exact is104_ HI0.out); (case side2 => exact hb104_ HB.out); rintro e w29 ⟨rfl, hi, hb, hk⟩; refine ⟨_, rfl, ?_⟩; replace BK308 := (bkA_ BK308 hk NB308_0); replace HK := (kk_ HK hk); replace HB := Aside0.mk (hb); replace HI0 := Aside0.mk (hi); (try clear hb); (try clear hb2); (try clear hk); (try clear hi)) | ((with_reducible refine gate_callee (f := 58) rfl ?_); refine goesL_ (some 10) rfl rfl Try.func58 (by kernel_rfl) rfl #[.pointer (some ⟨g, 0, none⟩), .int .i64 4] rfl ar_ ?_; (with_reducible refine (spec_l20Rd_pick.calls k g s0_0 t310 4 t311 t312 w0 _ ?side1 ?side2 A4.out).mono ?_); (case side1 => exact is104_ HI0.out); (case side2 => exact hb104_ HB.out); rintro e w30 ⟨rfl, hi, hb, hk⟩; refine ⟨_, rfl, ?_⟩; replace BK308 := (bkA_ BK308 hk NB308_0); replace HK := (kk_ HK hk); replace HB := Aside0.mk (hb); replace HI0 := Aside0.mk (hi); (try clear hb); (try clear hb2); (try clear hk); (try clear hi)) | ((with_reducible refine gate_callee (f := 58) rfl ?_); refine goesL_ (some 12) rfl rfl Try.func58 (by kernel_rfl) rfl #[.pointer (some ⟨g, 0, none⟩), .int .i64 6] rfl ar_ ?_; (with_reducible refine (spec_l20Rd_pick.calls k g s0_0 t312 6 t313 t314 w0 _ ?side1 ?side2 A5.out).mono ?_); (case side1 => exact is104_ HI0.out); (case side2 => exact hb104_ HB.out); rintro e w31 ⟨rfl, hi, hb, hk⟩; refine ⟨_, rfl, ?_⟩; replace BK308 := (bkA_ BK308 hk NB308_0); replace HK := (kk_ HK hk); replace HB := Aside0.mk (hb); replace HI0 := Aside0.mk (hi); (try clear hb); (try clear hb2); (try clear hk); (try clear hi)) | ((with_reducible refine gate_callee (f := 58) rfl ?_); refine goesL_ (some 14) rfl rfl Try.func58 (by kernel_rfl) rfl #[.pointer (some ⟨g, 0, none⟩), .int .i64 6] rfl ar_ ?_; (with_reducible refine (spec_l20Rd_pick.calls k g s0_0 t314 6 t315 t316 w0 _ ?side1 ?side2 A6.out).mono ?_); (case side1 => exact is104_ HI0.out); (case side2 => exact hb104_ HB.out); rintro e w32 ⟨rfl, hi, hb, hk⟩; refine ⟨_, rfl, ?_⟩; replace BK308 := (bkA_ BK308 hk NB308_0); replace HK := (kk_ HK hk); replace HB := Aside0.mk (hb); replace HI0 := Aside0.mk (hi); (try clear hb); (try clear hb2); (try clear hk); (try clear hi)) | ((with_reducible refine gate_dst (N := 5) rfl ?_); refine box_ (N := 5) (cs := #[.int .i64 0, .int .i64 0, .int .i64 0, .int .i64 0]) (t := 37) (fun gb317 hg w33 hbox hb => ?_); replace HB := (bs104_ HB hb); have BK317 := Aside0.mk (hbox); have GW317 := gk_ hg HK; have GE317 := Aside0.mk ((Nat.le_trans HW0.out (by rw [hg]; exact (keep_size (w := w) (g := g) (row := none) (hkA_ HK.out)) : w.heap.size ≤ gb317) : w0.heap.size ≤ gb317)); replace HK := (kw_ HK hb); have NB308_317 := nl_ hg BK308; have NB317_308 := ng_ hg BK308; replace BK308 := (bbA_ BK308 hb); have NB0_317 := nl104_ hg HI0; have NB317_0 := ng104_ hg HI0; replace HI0 := (ib104_ HI0 hb); clear hb hbox hg; have hnb34 := NB317_308.out; have hnc34 := NB308_317.out; have hnb35 := NB317_0.out; have hnc35 := NB0_317.out; have Z36 := zz4 BK317) | ((with_reducible refine gate_callee (f := 78) rfl ?_); refine goesL_ (some 18) rfl rfl Try.func78 (by kernel_rfl) rfl #[.pointer (some ⟨g, 0, none⟩), .int .i64 a1] rfl ar_ ?_; (with_reducible refine (spec_l20Rd_odd.calls k g s0_0 t316 a1 true t319 w0 _ ?side1 ?side2 A7.out).mono ?_); (case side1 => exact is104_ HI0.out); (case side2 => exact hb104_ HB.out); rintro e w37 ⟨rfl, hi, hb, hk⟩; refine ⟨_, rfl, ?_⟩; replace BK308 := Aside0.mk (KeepBut.blk hk (g' := gb308) (o := .cells #[.int .i64 0, .int .i64 0, .int .i64 0, .int .i64 0] 37 (0, 0)) (by exact kf_ BK308.out) NB308_0.out (by simp)); replace BK317 := Aside0.mk (KeepBut.blk hk (g' := gb317) (o := .cells #[.int .i64 (wrap64 (1 + t309)), .int .i64 t311, .int .i64 t313, .int .i64 t315] 37 (0, 0)) (by refine kb_ ?_; refine pz4 (cs := #[.int .i64 0, .int .i64 0, .int .i64 0, .int .i64 0]) ?_; refine kb_ ?_; exact BK317.out) NB317_0.out (by simp)); replace HK := (kk_ HK hk); replace HB := Aside0.mk (hb); replace HI0 := Aside0.mk (hi); (try clear hb); (try clear hb2); (try clear hk); (try clear hi)) | ((with_reducible refine gate_callee (f := 58) rfl ?_); refine goesL_ (some 20) rfl rfl Try.func58 (by kernel_rfl) rfl #[.pointer (some ⟨g, 0, none⟩), .int .i64 3] rfl ar_ ?_; (with_reducible refine (spec_l20Rd_pick.calls k g s0_0 t319 3 t320 t321 w0 _ ?side1 ?side2 A9.out).mono ?_); (case side1 => exact is104_ HI0.out); (case side2 => exact hb104_ HB.out); rintro e w38 ⟨rfl, hi, hb, hk⟩; refine ⟨_, rfl, ?_⟩; replace BK308 := (bkA_ BK308 hk NB308_0); replace BK317 := (bkA_ BK317 hk NB317_0); replace HK := (kk_ HK hk); replace HB := Aside0.mk (hb); replace HI0 := Aside0.mk (hi); (try clear hb); (try clear hb2); (try clear hk); (try clear hi); have Z39 := zz4 BK317; have hnb40 := NB308_0.out; have hnc40 := NB0_308.out; have Z41 := zz4 BK308))
    refine bodyPost_ret (results_cell_row rfl _ _ gb308 37 #[.int .i64 (wrap64 (1 + t309)), .int .i64 255, .int .i64 t313, .int .i64 t315] (0, 0) _ rfl (by refine kb_ ?_; refine pz4 (cs := #[.int .i64 0, .int .i64 0, .int .i64 0, .int .i64 0]) ?_; exact kf_ BK308.out) Try.underlying37 rfl (by kernel_rfl)) rfl ?_
    exact ⟨by first | rfl | (simp [errW_none, errW_some] <;> rfl) | (simp [*, errW_none, errW_some] <;> rfl), is104_ HI0.out, hb104_ HB.out, hkA_ HK.out⟩
   ·rw [if_neg c27] at H
    have c27b0 : (t320 == 1) = false := beq_eq_false_iff_ne.mpr c27
    have c27b1 : (t320 != 1) = true := bne_iff_ne.mpr c27
    replace H := Option.bind_eq_some_iff.mp H
    obtain ⟨⟨t324, t325⟩, A420, H⟩ := H
    (try dsimp only at H)
    have A42 := Aside0.mk A420; clear A420
    simp only [Option.some.injEq, Prod.mk.injEq] at H
    obtain ⟨rfl, rfl, rfl, rfl, rfl⟩ := H
    go_enter Try.func59, Try.ntmps59
    go_wp2_with (first | ((with_reducible refine gate_dst (N := 4) rfl ?_); refine box_ (N := 4) (cs := #[.int .i64 0, .int .i64 0, .int .i64 0, .int .i64 0]) (t := 37) (fun gb308 hg w43 hbox hb => ?_); replace HB := (bs104_ HB hb); have BK308 := Aside0.mk (hbox); have GW308 := gk_ hg HK; have GE308 := Aside0.mk ((Nat.le_trans HW0.out (by rw [hg]; exact (keep_size (w := w) (g := g) (row := none) (hkA_ HK.out)) : w.heap.size ≤ gb308) : w0.heap.size ≤ gb308)); replace HK := (kw_ HK hb); have NB0_308 := nl104_ hg HI0; have NB308_0 := ng104_ hg HI0; replace HI0 := (ib104_ HI0 hb); clear hb hbox hg) | ((with_reducible refine gate_callee (f := 58) rfl ?_); refine goesL_ (some 7) rfl rfl Try.func58 (by kernel_rfl) rfl #[.pointer (some ⟨g, 0, none⟩), .int .i64 2] rfl ar_ ?_; (with_reducible refine (spec_l20Rd_pick.calls k g s0_0 s0_1 2 t309 t310 w0 _ ?side1 ?side2 A3.out).mono ?_); (case side1 => exact is104_ HI0.out); (case side2 => exact hb104_ HB.out); rintro e w44 ⟨rfl, hi, hb, hk⟩; refine ⟨_, rfl, ?_⟩; replace BK308 := (bkA_ BK308 hk NB308_0); replace HK := (kk_ HK hk); replace HB := Aside0.mk (hb); replace HI0 := Aside0.mk (hi); (try clear hb); (try clear hb2); (try clear hk); (try clear hi)) | ((with_reducible refine gate_callee (f := 58) rfl ?_); refine goesL_ (some 10) rfl rfl Try.func58 (by kernel_rfl) rfl #[.pointer (some ⟨g, 0, none⟩), .int .i64 4] rfl ar_ ?_; (with_reducible refine (spec_l20Rd_pick.calls k g s0_0 t310 4 t311 t312 w0 _ ?side1 ?side2 A4.out).mono ?_); (case side1 => exact is104_ HI0.out); (case side2 => exact hb104_ HB.out); rintro e w45 ⟨rfl, hi, hb, hk⟩; refine ⟨_, rfl, ?_⟩; replace BK308 := (bkA_ BK308 hk NB308_0); replace HK := (kk_ HK hk); replace HB := Aside0.mk (hb); replace HI0 := Aside0.mk (hi); (try clear hb); (try clear hb2); (try clear hk); (try clear hi)) | ((with_reducible refine gate_callee (f := 58) rfl ?_); refine goesL_ (some 12) rfl rfl Try.func58 (by kernel_rfl) rfl #[.pointer (some ⟨g, 0, none⟩), .int .i64 6] rfl ar_ ?_; (with_reducible refine (spec_l20Rd_pick.calls k g s0_0 t312 6 t313 t314 w0 _ ?side1 ?side2 A5.out).mono ?_); (case side1 => exact is104_ HI0.out); (case side2 => exact hb104_ HB.out); rintro e w46 ⟨rfl, hi, hb, hk⟩; refine ⟨_, rfl, ?_⟩; replace BK308 := (bkA_ BK308 hk NB308_0); replace HK := (kk_ HK hk); replace HB := Aside0.mk (hb); replace HI0 := Aside0.mk (hi); (try clear hb); (try clear hb2); (try clear hk); (try clear hi)) | ((with_reducible refine gate_callee (f := 58) rfl ?_); refine goesL_ (some 14) rfl rfl Try.func58 (by kernel_rfl) rfl #[.pointer (some ⟨g, 0, none⟩), .int .i64 6] rfl ar_ ?_; (with_reducible refine (spec_l20Rd_pick.calls k g s0_0 t314 6 t315 t316 w0 _ ?side1 ?side2 A6.out).mono ?_); (case side1 => exact is104_ HI0.out); (case side2 => exact hb104_ HB.out); rintro e w47 ⟨rfl, hi, hb, hk⟩; refine ⟨_, rfl, ?_⟩; replace BK308 := (bkA_ BK308 hk NB308_0); replace HK := (kk_ HK hk); replace HB := Aside0.mk (hb); replace HI0 := Aside0.mk (hi); (try clear hb); (try clear hb2); (try clear hk); (try clear hi)) | ((with_reducible refine gate_dst (N := 5) rfl ?_); refine box_ (N := 5) (cs := #[.int .i64 0, .int .i64 0, .int .i64 0, .int .i64 0]) (t := 37) (fun gb317 hg w48 hbox hb => ?_); replace HB := (bs104_ HB hb); have BK317 := Aside0.mk (hbox); have GW317 := gk_ hg HK; have GE317 := Aside0.mk ((Nat.le_trans HW0.out (by rw [hg]; exact (keep_size (w := w) (g := g) (row := none) (hkA_ HK.out)) : w.heap.size ≤ gb317) : w0.heap.size ≤ gb317)); replace HK := (kw_ HK hb); have NB308_317 := nl_ hg BK308; have NB317_308 := ng_ hg BK308; replace BK308 := (bbA_ BK308 hb); have NB0_317 := nl104_ hg HI0; have NB317_0 := ng104_ hg HI0; replace HI0 := (ib104_ HI0 hb); clear hb hbox hg; have hnb49 := NB317_308.out; have hnc49 := NB308_317.out; have hnb50 := NB317_0.out; have hnc50 := NB0_317.out; have Z51 := zz4 BK317) | ((with_reducible refine gate_callee (f := 78) rfl ?_); refine goesL_ (some 18) rfl rfl Try.func78 (by kernel_rfl) rfl #[.pointer (some ⟨g, 0, none⟩), .int .i64 a1] rfl ar_ ?_; (with_reducible refine (spec_l20Rd_odd.calls k g s0_0 t316 a1 true t319 w0 _ ?side1 ?side2 A7.out).mono ?_); (case side1 => exact is104_ HI0.out); (case side2 => exact hb104_ HB.out); rintro e w52 ⟨rfl, hi, hb, hk⟩; refine ⟨_, rfl, ?_⟩; replace BK308 := Aside0.mk (KeepBut.blk hk (g' := gb308) (o := .cells #[.int .i64 0, .int .i64 0, .int .i64 0, .int .i64 0] 37 (0, 0)) (by exact kf_ BK308.out) NB308_0.out (by simp)); replace BK317 := Aside0.mk (KeepBut.blk hk (g' := gb317) (o := .cells #[.int .i64 (wrap64 (1 + t309)), .int .i64 t311, .int .i64 t313, .int .i64 t315] 37 (0, 0)) (by refine kb_ ?_; refine pz4 (cs := #[.int .i64 0, .int .i64 0, .int .i64 0, .int .i64 0]) ?_; refine kb_ ?_; exact BK317.out) NB317_0.out (by simp)); replace HK := (kk_ HK hk); replace HB := Aside0.mk (hb); replace HI0 := Aside0.mk (hi); (try clear hb); (try clear hb2); (try clear hk); (try clear hi)) | ((with_reducible refine gate_callee (f := 58) rfl ?_); refine goesL_ (some 20) rfl rfl Try.func58 (by kernel_rfl) rfl #[.pointer (some ⟨g, 0, none⟩), .int .i64 3] rfl ar_ ?_; (with_reducible refine (spec_l20Rd_pick.calls k g s0_0 t319 3 t320 t321 w0 _ ?side1 ?side2 A9.out).mono ?_); (case side1 => exact is104_ HI0.out); (case side2 => exact hb104_ HB.out); rintro e w53 ⟨rfl, hi, hb, hk⟩; refine ⟨_, rfl, ?_⟩; replace BK308 := (bkA_ BK308 hk NB308_0); replace BK317 := (bkA_ BK317 hk NB317_0); replace HK := (kk_ HK hk); replace HB := Aside0.mk (hb); replace HI0 := Aside0.mk (hi); (try clear hb); (try clear hb2); (try clear hk); (try clear hi)) | ((with_reducible refine gate_callee (f := 58) rfl ?_); refine goesL_ (some 22) rfl rfl Try.func58 (by kernel_rfl) rfl #[.pointer (some ⟨g, 0, none⟩), .int .i64 2] rfl ar_ ?_; (with_reducible refine (spec_l20Rd_pick.calls k g s0_0 t321 2 t324 t325 w0 _ ?side1 ?side2 A42.out).mono ?_); (case side1 => exact is104_ HI0.out); (case side2 => exact hb104_ HB.out); rintro e w54 ⟨rfl, hi, hb, hk⟩; refine ⟨_, rfl, ?_⟩; replace BK308 := (bkA_ BK308 hk NB308_0); replace BK317 := (bkA_ BK317 hk NB317_0); replace HK := (kk_ HK hk); replace HB := Aside0.mk (hb); replace HI0 := Aside0.mk (hi); (try clear hb); (try clear hb2); (try clear hk); (try clear hi); have Z55 := zz4 BK317; have hnb56 := NB308_0.out; have hnc56 := NB0_308.out; have Z57 := zz4 BK308))
    refine bodyPost_ret (results_cell_row rfl _ _ gb308 37 #[.int .i64 (wrap64 (1 + t309)), .int .i64 t311, .int .i64 (wrap64 (65536 - (wrap64 (t324 * 70000)))), .int .i64 t315] (0, 0) _ rfl (by refine kb_ ?_; refine pz4 (cs := #[.int .i64 0, .int .i64 0, .int .i64 0, .int .i64 0]) ?_; exact kf_ BK308.out) Try.underlying37 rfl (by kernel_rfl)) rfl ?_
    exact ⟨by first | rfl | (simp [errW_none, errW_some] <;> rfl) | (simp [*, errW_none, errW_some] <;> rfl), is104_ HI0.out, hb104_ HB.out, hkA_ HK.out⟩
 ·replace c8 := Bool.eq_false_iff.mpr c8
  subst c8
  rw [if_neg (show ¬ (false = true) by decide)] at H
  simp only [Option.some.injEq, Prod.mk.injEq] at H
  obtain ⟨rfl, rfl, rfl, rfl, rfl⟩ := H
  go_enter Try.func59, Try.ntmps59
  go_wp2_with (first | ((with_reducible refine gate_dst (N := 4) rfl ?_); refine box_ (N := 4) (cs := #[.int .i64 0, .int .i64 0, .int .i64 0, .int .i64 0]) (t := 37) (fun gb308 hg w58 hbox hb => ?_); replace HB := (bs104_ HB hb); have BK308 := Aside0.mk (hbox); have GW308 := gk_ hg HK; have GE308 := Aside0.mk ((Nat.le_trans HW0.out (by rw [hg]; exact (keep_size (w := w) (g := g) (row := none) (hkA_ HK.out)) : w.heap.size ≤ gb308) : w0.heap.size ≤ gb308)); replace HK := (kw_ HK hb); have NB0_308 := nl104_ hg HI0; have NB308_0 := ng104_ hg HI0; replace HI0 := (ib104_ HI0 hb); clear hb hbox hg) | ((with_reducible refine gate_callee (f := 58) rfl ?_); refine goesL_ (some 7) rfl rfl Try.func58 (by kernel_rfl) rfl #[.pointer (some ⟨g, 0, none⟩), .int .i64 2] rfl ar_ ?_; (with_reducible refine (spec_l20Rd_pick.calls k g s0_0 s0_1 2 t309 t310 w0 _ ?side1 ?side2 A3.out).mono ?_); (case side1 => exact is104_ HI0.out); (case side2 => exact hb104_ HB.out); rintro e w59 ⟨rfl, hi, hb, hk⟩; refine ⟨_, rfl, ?_⟩; replace BK308 := (bkA_ BK308 hk NB308_0); replace HK := (kk_ HK hk); replace HB := Aside0.mk (hb); replace HI0 := Aside0.mk (hi); (try clear hb); (try clear hb2); (try clear hk); (try clear hi)) | ((with_reducible refine gate_callee (f := 58) rfl ?_); refine goesL_ (some 10) rfl rfl Try.func58 (by kernel_rfl) rfl #[.pointer (some ⟨g, 0, none⟩), .int .i64 4] rfl ar_ ?_; (with_reducible refine (spec_l20Rd_pick.calls k g s0_0 t310 4 t311 t312 w0 _ ?side1 ?side2 A4.out).mono ?_); (case side1 => exact is104_ HI0.out); (case side2 => exact hb104_ HB.out); rintro e w60 ⟨rfl, hi, hb, hk⟩; refine ⟨_, rfl, ?_⟩; replace BK308 := (bkA_ BK308 hk NB308_0); replace HK := (kk_ HK hk); replace HB := Aside0.mk (hb); replace HI0 := Aside0.mk (hi); (try clear hb); (try clear hb2); (try clear hk); (try clear hi)) | ((with_reducible refine gate_callee (f := 58) rfl ?_); refine goesL_ (some 12) rfl rfl Try.func58 (by kernel_rfl) rfl #[.pointer (some ⟨g, 0, none⟩), .int .i64 6] rfl ar_ ?_; (with_reducible refine (spec_l20Rd_pick.calls k g s0_0 t312 6 t313 t314 w0 _ ?side1 ?side2 A5.out).mono ?_); (case side1 => exact is104_ HI0.out); (case side2 => exact hb104_ HB.out); rintro e w61 ⟨rfl, hi, hb, hk⟩; refine ⟨_, rfl, ?_⟩; replace BK308 := (bkA_ BK308 hk NB308_0); replace HK := (kk_ HK hk); replace HB := Aside0.mk (hb); replace HI0 := Aside0.mk (hi); (try clear hb); (try clear hb2); (try clear hk); (try clear hi)) | ((with_reducible refine gate_callee (f := 58) rfl ?_); refine goesL_ (some 14) rfl rfl Try.func58 (by kernel_rfl) rfl #[.pointer (some ⟨g, 0, none⟩), .int .i64 6] rfl ar_ ?_; (with_reducible refine (spec_l20Rd_pick.calls k g s0_0 t314 6 t315 t316 w0 _ ?side1 ?side2 A6.out).mono ?_); (case side1 => exact is104_ HI0.out); (case side2 => exact hb104_ HB.out); rintro e w62 ⟨rfl, hi, hb, hk⟩; refine ⟨_, rfl, ?_⟩; replace BK308 := (bkA_ BK308 hk NB308_0); replace HK := (kk_ HK hk); replace HB := Aside0.mk (hb); replace HI0 := Aside0.mk (hi); (try clear hb); (try clear hb2); (try clear hk); (try clear hi)) | ((with_reducible refine gate_dst (N := 5) rfl ?_); refine box_ (N := 5) (cs := #[.int .i64 0, .int .i64 0, .int .i64 0, .int .i64 0]) (t := 37) (fun gb317 hg w63 hbox hb => ?_); replace HB := (bs104_ HB hb); have BK317 := Aside0.mk (hbox); have GW317 := gk_ hg HK; have GE317 := Aside0.mk ((Nat.le_trans HW0.out (by rw [hg]; exact (keep_size (w := w) (g := g) (row := none) (hkA_ HK.out)) : w.heap.size ≤ gb317) : w0.heap.size ≤ gb317)); replace HK := (kw_ HK hb); have NB308_317 := nl_ hg BK308; have NB317_308 := ng_ hg BK308; replace BK308 := (bbA_ BK308 hb); have NB0_317 := nl104_ hg HI0; have NB317_0 := ng104_ hg HI0; replace HI0 := (ib104_ HI0 hb); clear hb hbox hg; have hnb64 := NB317_308.out; have hnc64 := NB308_317.out; have hnb65 := NB317_0.out; have hnc65 := NB0_317.out; have Z66 := zz4 BK317) | ((with_reducible refine gate_callee (f := 78) rfl ?_); refine goesL_ (some 18) rfl rfl Try.func78 (by kernel_rfl) rfl #[.pointer (some ⟨g, 0, none⟩), .int .i64 a1] rfl ar_ ?_; (with_reducible refine (spec_l20Rd_odd.calls k g s0_0 t316 a1 false t319 w0 _ ?side1 ?side2 A7.out).mono ?_); (case side1 => exact is104_ HI0.out); (case side2 => exact hb104_ HB.out); rintro e w67 ⟨rfl, hi, hb, hk⟩; refine ⟨_, rfl, ?_⟩; replace BK308 := Aside0.mk (KeepBut.blk hk (g' := gb308) (o := .cells #[.int .i64 0, .int .i64 0, .int .i64 0, .int .i64 0] 37 (0, 0)) (by exact kf_ BK308.out) NB308_0.out (by simp)); replace BK317 := Aside0.mk (KeepBut.blk hk (g' := gb317) (o := .cells #[.int .i64 (wrap64 (1 + t309)), .int .i64 t311, .int .i64 t313, .int .i64 t315] 37 (0, 0)) (by refine kb_ ?_; refine pz4 (cs := #[.int .i64 0, .int .i64 0, .int .i64 0, .int .i64 0]) ?_; refine kb_ ?_; exact BK317.out) NB317_0.out (by simp)); replace HK := (kk_ HK hk); replace HB := Aside0.mk (hb); replace HI0 := Aside0.mk (hi); (try clear hb); (try clear hb2); (try clear hk); (try clear hi); have Z68 := zz4 BK317; have hnb69 := NB308_0.out; have hnc69 := NB0_308.out; have Z70 := zz4 BK308))
  refine bodyPost_ret (results_cell_row rfl _ _ gb308 37 #[.int .i64 (wrap64 (1 + t309)), .int .i64 t311, .int .i64 t313, .int .i64 t315] (0, 0) _ rfl (by refine kb_ ?_; refine pz4 (cs := #[.int .i64 0, .int .i64 0, .int .i64 0, .int .i64 0]) ?_; refine kb_ ?_; exact BK308.out) Try.underlying37 rfl (by kernel_rfl)) rfl ?_
  exact ⟨by first | rfl | (simp [errW_none, errW_some] <;> rfl) | (simp [*, errW_none, errW_some] <;> rfl), is104_ HI0.out, hb104_ HB.out, hkA_ HK.out⟩
end Go.Proofs.Ytdoohdbfpnmndaa.PFnWholeAsking
