/- Printed by wip/xp/xprint.sh out of the translation, for this claim: what each function answers, as a plain function, and that the machine does just that. No condition. -/
import Derived.Test.YtjiodkbbmhhccabPFnMouthWritex0
import Derived.Test.YtjiodkbbmhhccabPFnMouthWritex2
import Derived.Test.YtjiodkbbmhhccabPFnMouthWritex4
import Derived.Test.YtjiodkbbmhhccabPFnMouthWritex5
import Derived.Test.YtjiodkbbmhhccabPFnMouthWritex6
import Derived.Test.YtjiodkbbmhhccabPFnMouthWritex7
namespace Go.Proofs.Ytjiodkbbmhhccab.PFnMouthWrite
open Go.RowKit Go.Proofs.YtjiodkbbmhhccabW.PrintWords Go.Proofs.YtjiodkbbmhhccabW.PrintLast Go.Proofs.YtjiodkbbmhhccabW.PrintMore
attribute [local go_sem] max2_int min2_int max_two min_two max_three min_three max_four min_four   -- for this text's walks alone
set_option linter.unusedVariables false
set_option linter.unusedSimpArgs false

/-! ### spec_l20Mouth: function 28 -/
def spec_l20Mouth.l0 : Nat → Int → Int → List Int → Int → Int → List Int → Int → Int → List (S60) → Option (Int × List Int × Int × Int × (List (S60)) × Int)
  | 0, _, _, _, _, _, _, _, _, _ => none
  | k + 1, x1, x6, x1000, x1001, x218000, x218001, x218002, x218003, x218004 => if x6 > 0 then ((spec_l20Rd_pick.f k x1000 x1001 4).bind fun bt220 => (if bt220.1 = 0 then ((spec_l20Rd_pick.f k x1000 bt220.2 9).bind fun bt222 => ((spec_l20Heard.f k (wrap64 (x218000 + (x218001.length : Int))) bt222.1).bind fun t224 => ((spec_MouthWrite.f k x218000 x218001 x218002 x218003 x218004 t224).bind fun bt227 => (spec_l20Mouth.l0 k x1 (wrap64 (x6 - 1)) x1000 bt222.2 bt227.1 bt227.2.1 bt227.2.2.1 bt227.2.2.2.1 bt227.2.2.2.2.1)))) else (if bt220.1 = 1 then ((spec_l20Rd_pick.f k x1000 bt220.2 (wrap64 (x218002 + 1))).bind fun bt237 => ((spec_l20Rd_pick.f k x1000 bt237.2 30).bind fun bt239 => ((spec_l20Rd_pick.f k x1000 bt239.2 4).bind fun bt241 => ((spec_l20Rd_pick.f k x1000 bt241.2 6).bind fun bt243 => ((spec_l20Rd_pick.f k x1000 bt243.2 4).bind fun bt245 => ((spec_l20Rd_pick.f k x1000 bt245.2 9).bind fun bt247 => ((spec_MouthHear.f k x218000 x218001 x218002 x218003 x218004 (wrap64 (x218000 + bt237.1)) bt239.1 (([(⟨wrap64 ((wrap64 ((wrap64 (x218000 + bt237.1)) + 1)) + bt241.1), wrap64 ((wrap64 ((wrap64 (x218000 + bt237.1)) + 2)) + bt243.1)⟩ : S60), (⟨wrap64 ((wrap64 ((wrap64 (x218000 + bt237.1)) + 5)) + bt245.1), wrap64 ((wrap64 ((wrap64 (x218000 + bt237.1)) + 6)) + bt247.1)⟩ : S60)] : List (S60)))).bind fun bt252 => (spec_l20Mouth.l0 k x1 (wrap64 (x6 - 1)) x1000 bt247.2 bt252.1 bt252.2.1 bt252.2.2.1 bt252.2.2.2.1 bt252.2.2.2.2.1)))))))) else ((spec_l20Rd_pick.f k x1000 bt220.2 8).bind fun bt262 => ((spec_MouthNext.f k x218000 x218001 x218002 x218003 x218004 (wrap64 (1 + bt262.1))).bind fun bt264 => (spec_l20Mouth.l0 k x1 (wrap64 (x6 - 1)) x1000 bt262.2 bt264.1 bt264.2.1 bt264.2.2.1 bt264.2.2.2.1 bt264.2.2.2.2.1)))))) else ((spec_l20Rd_odd.f k x1000 x1001 x1).bind fun bt277 => (if bt277.1 = true then ((spec_l20Rd_pick.f k x1000 bt277.2 4).bind fun bt279 => (if bt279.1 = 0 then ((spec_l20Rd_pick.f k x1000 bt279.2 40).bind fun bt281 => (some (x218000, x218001, wrap64 (bt281.1 - 1), x218003, x218004, bt281.2))) else (if bt279.1 = 1 then ((spec_l20Rd_pick.f k x1000 bt279.2 2).bind fun bt283 => (some (x218000, x218001, x218002, wrap64 (256 - (wrap64 (bt283.1 * 300))), x218004, bt283.2))) else (if bt279.1 = 2 then ((spec_l20Rd_pick.f k x1000 bt279.2 9).bind fun bt285 => ((spec_l20Rd_pick.f k x1000 bt285.2 12).bind fun bt287 => (if x218004.length < 8796093022208 then (some (x218000, x218001, x218002, x218003, (x218004 ++ [(⟨wrap64 (x218000 + bt285.1), wrap64 (x218000 + bt287.1)⟩ : S60)]), bt287.2)) else (none)))) else (if 33 ≤ 281474976710656 then (some (x218000, (List.replicate 33 0), x218002, x218003, x218004, bt279.2)) else (none)))))) else (some (x218000, x218001, x218002, x218003, x218004, bt277.2))))
def spec_l20Mouth.f (k : Nat) (s0_0 : List Int) (s0_1 : Int) (a1 : Int) : Option (Int × List Int × Int × Int × (List (S60)) × Int) := (spec_l20Rd_pick.f k s0_0 s0_1 3).bind fun bt213 => ((spec_l20Rd_pick.f k s0_0 bt213.2 30).bind fun bt215 => ((spec_l20Rd_pick.f k s0_0 bt215.2 9).bind fun bt218 => (spec_l20Mouth.l0 k a1 bt218.1 s0_0 bt218.2 (wrap64 (100 + (wrap64 (bt213.1 * 40)))) ([] : List Int) 0 bt215.1 ([] : List (S60)))))
theorem spec_l20Mouth.mono_l : ∀ k, (∀ y0 y1 y2 y3 y4 y5 y6 y7 y8, LeO (spec_l20Mouth.l0 k y0 y1 y2 y3 y4 y5 y6 y7 y8) (spec_l20Mouth.l0 (k + 1) y0 y1 y2 y3 y4 y5 y6 y7 y8))
  | 0 => fun _ _ _ _ _ _ _ _ _ r h => by simp [spec_l20Mouth.l0] at h
  | k + 1 => by
    have ih0 := spec_l20Mouth.mono_l k
    · intro y0 y1 y2 y3 y4 y5 y6 y7 y8
      unfold spec_l20Mouth.l0
      repeat' first
      | (with_reducible exact ih0 _ _ _ _ _ _ _ _ _)
      | (with_reducible exact spec_MouthHear.mono _ _ _ _ _ _ _ _ _)
      | (with_reducible exact spec_MouthNext.mono _ _ _ _ _ _ _)
      | (with_reducible exact spec_MouthWrite.mono _ _ _ _ _ _ _)
      | (with_reducible exact spec_l20Heard.mono _ _ _)
      | (with_reducible exact spec_l20Rd_odd.mono _ _ _ _)
      | (with_reducible exact spec_l20Rd_pick.mono _ _ _ _)
      | (with_reducible exact LeO.refl _)
      | (with_reducible exact LeO.none _)
      | (with_reducible refine LeO.ite ?_ ?_)
      | (with_reducible refine LeO.bind ?_ (fun _ => ?_))
      | exact ih0 _ _ _ _ _ _ _ _ _
      | exact spec_MouthHear.mono _ _ _ _ _ _ _ _ _
      | exact spec_MouthNext.mono _ _ _ _ _ _ _
      | exact spec_MouthWrite.mono _ _ _ _ _ _ _
      | exact spec_l20Heard.mono _ _ _
      | exact spec_l20Rd_odd.mono _ _ _ _
      | exact spec_l20Rd_pick.mono _ _ _ _
      | exact LeO.none _
      | refine LeO.ite ?_ ?_
      | refine LeO.bind ?_ (fun _ => ?_)
theorem spec_l20Mouth.mono : ∀ a0 a1 a2 k, LeO (spec_l20Mouth.f k a0 a1 a2) (spec_l20Mouth.f (k + 1) a0 a1 a2) := by
  intro a0 a1 a2 k
  have ih0 := spec_l20Mouth.mono_l k
  unfold spec_l20Mouth.f
  repeat' first
      | (with_reducible exact ih0 _ _ _ _ _ _ _ _ _)
      | (with_reducible exact spec_MouthHear.mono _ _ _ _ _ _ _ _ _)
      | (with_reducible exact spec_MouthNext.mono _ _ _ _ _ _ _)
      | (with_reducible exact spec_MouthWrite.mono _ _ _ _ _ _ _)
      | (with_reducible exact spec_l20Heard.mono _ _ _)
      | (with_reducible exact spec_l20Rd_odd.mono _ _ _ _)
      | (with_reducible exact spec_l20Rd_pick.mono _ _ _ _)
      | (with_reducible exact LeO.refl _)
      | (with_reducible exact LeO.none _)
      | (with_reducible refine LeO.ite ?_ ?_)
      | (with_reducible refine LeO.bind ?_ (fun _ => ?_))
      | exact ih0 _ _ _ _ _ _ _ _ _
      | exact spec_MouthHear.mono _ _ _ _ _ _ _ _ _
      | exact spec_MouthNext.mono _ _ _ _ _ _ _
      | exact spec_MouthWrite.mono _ _ _ _ _ _ _
      | exact spec_l20Heard.mono _ _ _
      | exact spec_l20Rd_odd.mono _ _ _ _
      | exact spec_l20Rd_pick.mono _ _ _ _
      | exact LeO.none _
      | refine LeO.ite ?_ ?_
      | refine LeO.bind ?_ (fun _ => ?_)
def spec_l20Mouth.T6 : Bool × List (List Nat × List Nat) := (true, [([], []), ([], []), ([1], [1]), ([2], [2]), ([0, 3, 2], [0, 3]), ([4], [4]), ([5], [5]), ([5], [5]), ([5], [5]), ([6, 4, 0, 1, 2, 3, 4, 5, 6], [6])])
def spec_l20Mouth.B6 : List Nat := [0, 0, 2, 6, 15, 31, 63, 63, 63, 127]
theorem spec_l20Mouth.tab6 : rtab .any (opsOf Try.f28 6) = spec_l20Mouth.T6 := by kernel_rfl
theorem spec_l20Mouth.bits6 : waitsOk spec_l20Mouth.T6.2 spec_l20Mouth.B6 = true := by kernel_rfl
def spec_l20Mouth.T8 : Bool × List (List Nat × List Nat) := (true, [([], []), ([], []), ([1], [1]), ([], []), ([3], [3]), ([4], [4]), ([2, 5], [2, 5]), ([], []), ([7], [7]), ([6, 8, 8], [6, 8]), ([0, 9, 9], [0, 9]), ([10], [10]), ([11], [11]), ([11], [11]), ([12, 10, 0, 1, 2, 3, 4, 5, 6, 7, 8, 9, 10, 11, 12], [12])])
def spec_l20Mouth.B8 : List Nat := [0, 0, 2, 0, 8, 24, 62, 0, 128, 510, 1023, 2047, 4095, 4095, 8191]
theorem spec_l20Mouth.tab8 : rtab .any (opsOf Try.f28 8) = spec_l20Mouth.T8 := by kernel_rfl
theorem spec_l20Mouth.bits8 : waitsOk spec_l20Mouth.T8.2 spec_l20Mouth.B8 = true := by kernel_rfl
def spec_l20Mouth.T10 : Bool × List (List Nat × List Nat) := (true, [([], []), ([0], [0]), ([], []), ([], []), ([3], [3]), ([4], [4]), ([2, 5], [2, 5]), ([1, 6], [1, 6]), ([7, 6, 0, 1, 2, 3, 4, 5, 6, 7], [7])])
def spec_l20Mouth.B10 : List Nat := [0, 1, 0, 0, 8, 24, 60, 127, 255]
theorem spec_l20Mouth.tab10 : rtab .any (opsOf Try.f28 10) = spec_l20Mouth.T10 := by kernel_rfl
theorem spec_l20Mouth.bits10 : waitsOk spec_l20Mouth.T10.2 spec_l20Mouth.B10 = true := by kernel_rfl
def spec_l20Mouth.T11 : Bool × List (List Nat × List Nat) := (true, [([], []), ([], []), ([], []), ([2], [2]), ([], []), ([4], [4]), ([], []), ([6, 3], [6]), ([5, 7], [5, 7]), ([], []), ([9], [9]), ([], []), ([11, 7], [11]), ([10, 12], [10, 12]), ([8, 13], [8, 13]), ([], []), ([15], [15]), ([], []), ([17, 12], [17]), ([16, 18], [16, 18]), ([], []), ([20], [20]), ([], []), ([22, 18], [22]), ([21, 23], [21, 23]), ([19, 24], [19, 24]), ([14, 25], [14, 25]), ([0, 1, 3, 26, 23], [0, 1, 3, 26]), ([27], [27]), ([28], [28]), ([28], [28]), ([29, 27, 0, 1, 2, 3, 4, 5, 6, 7, 8, 9, 10, 11, 12, 13, 14, 15, 16, 17, 18, 19, 20, 21, 22, 23, 24, 25, 26, 27, 28, 29], [29])])
def spec_l20Mouth.B11 : List Nat := [0, 0, 0, 4, 0, 16, 0, 76, 252, 0, 512, 0, 2252, 7884, 16380, 0, 32768, 0, 137420, 497868, 0, 1048576, 0, 4593868, 16128204, 33528012, 67108860, 134217727, 268435455, 536870911, 536870911, 1073741823]
theorem spec_l20Mouth.tab11 : rtab .any (opsOf Try.f28 11) = spec_l20Mouth.T11 := by kernel_rfl
theorem spec_l20Mouth.bits11 : waitsOk spec_l20Mouth.T11.2 spec_l20Mouth.B11 = true := by kernel_rfl
def spec_l20Mouth.T20 : Bool × List (List Nat × List Nat) := (true, [([], []), ([0], [0]), ([], []), ([2], [2]), ([], []), ([4], [4]), ([3, 5], [3, 5]), ([], []), ([7], [7]), ([], []), ([9, 5], [9]), ([8, 10], [8, 10]), ([6, 11], [6, 11]), ([12], [12]), ([1, 13, 10], [1, 13]), ([0, 1, 2, 3, 4, 5, 6, 7, 8, 9, 10, 11, 12, 13, 14], []), ([15, 14, 14, 0, 1, 2, 3, 4, 5, 6, 7, 8, 9, 10, 11, 12, 13, 14], [14, 15])])
def spec_l20Mouth.B20 : List Nat := [0, 1, 0, 4, 0, 16, 60, 0, 128, 0, 560, 1968, 4092, 8188, 16383, 32767, 65535]
theorem spec_l20Mouth.tab20 : rtab .any (opsOf Try.f28 20) = spec_l20Mouth.T20 := by kernel_rfl
theorem spec_l20Mouth.bits20 : waitsOk spec_l20Mouth.T20.2 spec_l20Mouth.B20 = true := by kernel_rfl
set_option maxHeartbeats 8000000 in
set_option maxRecDepth 100000 in
theorem spec_l20Mouth.calls (k : Nat) (g : Nat) (s0_0 : List Int) (s0_1 : Int) (a1 : Int) (r1 : Int) (r2 : List Int) (r3 : Int) (r4 : Int) (r5 : List (S60)) (r6 : Int) (w0 w : World) (hI : IsS67 w0 w g s0_0 s0_1) (hB : Below w0.heap.size w0 w) (h : spec_l20Mouth.f k s0_0 s0_1 a1 = some (r1, r2, r3, r4, r5, r6)) :
    Calls Try.prog 28 #[.pointer (some ⟨g, 0, none⟩), .int .i64 a1] w fun e w' => ∃ v1_ v4_ : Value, e = .returned (.agg #[.int .i64 r1, v1_, .int .i64 r3, .int .i64 r4, v4_]) ∧ Kd.R (Kd.int .u8) 5 w' w.heap.size (fun _ => True) v1_ r2 ∧ Kd.R k60 60 w' w.heap.size (fun _ => True) v4_ r5 ∧ IsS67 w0 w' g s0_0 r6 ∧ Below w0.heap.size w0 w' ∧ KeepBut w w' g none := by
  have hu25 := Try.underlying25
  have hu60 := Try.underlying60
  have HI0 := Aside0.mk hI
  have HK := Aside0.mk (KeepBut.refl w g none)
  have HL := Aside0.mk hB.size
  clear hI
  have HW0 := Aside0.mk hB.size
  have HB := Aside0.mk hB
  clear hB
  have H : ((spec_l20Rd_pick.f k s0_0 s0_1 3).bind fun bt213 => ((spec_l20Rd_pick.f k s0_0 bt213.2 30).bind fun bt215 => ((spec_l20Rd_pick.f k s0_0 bt215.2 9).bind fun bt218 => (spec_l20Mouth.l0 k a1 bt218.1 s0_0 bt218.2 (wrap64 (100 + (wrap64 (bt213.1 * 40)))) ([] : List Int) 0 bt215.1 ([] : List (S60)))))) = some (r1, r2, r3, r4, r5, r6) := h
  clear h
  replace H := Option.bind_eq_some_iff.mp H
  obtain ⟨⟨t213, t214⟩, A30, H⟩ := H
  replace H : ((spec_l20Rd_pick.f k s0_0 t214 30).bind fun bt215 => ((spec_l20Rd_pick.f k s0_0 bt215.2 9).bind fun bt218 => (spec_l20Mouth.l0 k a1 bt218.1 s0_0 bt218.2 (wrap64 (100 + (wrap64 (t213 * 40)))) ([] : List Int) 0 bt215.1 ([] : List (S60))))) = some (r1, r2, r3, r4, r5, r6) := H
  have A3 := Aside0.mk A30
  clear A30
  replace H := Option.bind_eq_some_iff.mp H
  obtain ⟨⟨t215, t216⟩, A40, H⟩ := H
  replace H : ((spec_l20Rd_pick.f k s0_0 t216 9).bind fun bt218 => (spec_l20Mouth.l0 k a1 bt218.1 s0_0 bt218.2 (wrap64 (100 + (wrap64 (t213 * 40)))) ([] : List Int) 0 t215 ([] : List (S60)))) = some (r1, r2, r3, r4, r5, r6) := H
  have A4 := Aside0.mk A40
  clear A40
  replace H := Option.bind_eq_some_iff.mp H
  obtain ⟨⟨t218, t219⟩, A50, H⟩ := H
  replace H : (spec_l20Mouth.l0 k a1 t218 s0_0 t219 (wrap64 (100 + (wrap64 (t213 * 40)))) ([] : List Int) 0 t215 ([] : List (S60))) = some (r1, r2, r3, r4, r5, r6) := H
  have A5 := Aside0.mk A50
  clear A50
  have H' := Aside0.mk H
  clear H
  go_enter Try.func28, Try.ntmps28
  go_wp2_with (first | ((with_reducible refine gate_dst (N := 4) rfl ?_); refine box_event ?hg (N := 4) ?hd (cs := #[.int .i64 0, .slice none 0 0, .int .i64 0, .int .i64 0, .slice none 0 0]) (t := 25) ?hr ?_; (case hd => rfl); (case hg => rfl); (case hr => first | (go_simp; done) | (go_simp; rfl)); intro gb212 hg w6 hbox hb; have n0_ := Aside0.mk (IsS67.below (by repeat (first | (with_reducible first | exact HI0.out | apply IsS67.alloc | apply IsS67.drewN | apply IsS67.drew | apply IsS67.set_1) | exact HI0.out)) hb); have n1_ := Aside0.mk (KeepBut.trans (by repeat (first | (with_reducible first | exact HK.out | apply KeepBut.set_ | apply keep_drewN | apply keep_drew | apply keep_alloc) | exact HK.out)) (KeepBut.of_below hb g none) (.inl rfl)); have n2_ := Aside0.mk (below_step (by repeat (first | (with_reducible first | exact HB.out | apply below_alloc | apply pw_below_drewN | apply below_drew1 | refine below_set ?_ (IsS67.ge HI0.out)) | exact HB.out)) hb); have n3_ := Aside0.mk (hbox); have n4_ := Aside0.mk ((by rw [hg]; exact (keep_size (w := w) (g := g) (row := none) (by repeat (first | (with_reducible first | exact HK.out | apply KeepBut.set_ | apply keep_drewN | apply keep_drew | apply keep_alloc) | exact HK.out))) : w.heap.size ≤ gb212)); have n5_ := Aside0.mk ((Nat.le_trans HW0.out (by rw [hg]; exact (keep_size (w := w) (g := g) (row := none) (by repeat (first | (with_reducible first | exact HK.out | apply KeepBut.set_ | apply keep_drewN | apply keep_drew | apply keep_alloc) | exact HK.out))) : w.heap.size ≤ gb212) : w0.heap.size ≤ gb212)); have n6_ := Aside0.mk ((by rw [hg]; exact Nat.ne_of_lt (IsS67.lt (show IsS67 w0 _ g s0_0 s0_1 from by repeat (first | (with_reducible first | exact HI0.out | apply IsS67.alloc | apply IsS67.drewN | apply IsS67.drew | apply IsS67.set_1) | exact HI0.out))) : g ≠ gb212)); have n7_ := Aside0.mk ((by rw [hg]; exact Nat.ne_of_gt (IsS67.lt (show IsS67 w0 _ g s0_0 s0_1 from by repeat (first | (with_reducible first | exact HI0.out | apply IsS67.alloc | apply IsS67.drewN | apply IsS67.drew | apply IsS67.set_1) | exact HI0.out))) : gb212 ≠ g)); clear HI0; clear HK; clear HB; have HI0 := n0_; have HK := n1_; have HB := n2_; have BK212 := n3_; have GW212 := n4_; have GE212 := n5_; have NB0_212 := n6_; have NB212_0 := n7_; clear n0_ n1_ n2_ n3_ n4_ n5_ n6_ n7_; clear hb hbox hg) | ((with_reducible refine gate_callee (f := 30) rfl ?_); refine goesL_ (some 9) rfl rfl Try.func30 (by kernel_rfl) rfl #[.pointer (some ⟨g, 0, none⟩), .int .i64 3] rfl ar_ ?_; (with_reducible refine (spec_l20Rd_pick.calls k g s0_0 s0_1 3 t213 t214 w0 _ ?side1 ?side2 A3.out).mono ?_); (case side1 => repeat (first | (with_reducible first | exact HI0.out | apply IsS67.alloc | apply IsS67.drewN | apply IsS67.drew | apply IsS67.set_1 | refine IsS67.far ?_ NB0_212.out _) | exact HI0.out)); (case side2 => repeat (first | (with_reducible first | exact HB.out | apply below_alloc | apply pw_below_drewN | apply below_drew1 | refine below_set ?_ (IsS67.ge HI0.out) | refine below_set ?_ GE212.out) | exact HB.out)); rintro e w7 ⟨rfl, hi, hb, hk⟩; refine ⟨_, rfl, ?_⟩; have n0_ := Aside0.mk (KeepBut.blk hk (g' := gb212) (o := .cells #[.int .i64 0, .slice none 0 0, .int .i64 0, .int .i64 0, .slice none 0 0] 25 (0, 0)) (kb_ BK212.out) NB212_0.out (by simp)); have n1_ := Aside0.mk (KeepBut.trans (by repeat (first | (with_reducible first | exact HK.out | apply KeepBut.set_ | apply keep_drewN | apply keep_drew | apply keep_alloc | refine keep_far ?_ GW212.out _) | exact HK.out)) hk (.inl rfl)); have n2_ := Aside0.mk (hb); have n3_ := Aside0.mk (hi); clear BK212; clear HK; clear HB; clear HI0; have BK212 := n0_; have HK := n1_; have HB := n2_; have HI0 := n3_; clear n0_ n1_ n2_ n3_; (try clear hb); (try clear hb2); (try clear hk); (try clear hi)) | ((with_reducible refine gate_callee (f := 30) rfl ?_); refine goesL_ (some 13) rfl rfl Try.func30 (by kernel_rfl) rfl #[.pointer (some ⟨g, 0, none⟩), .int .i64 30] rfl ar_ ?_; (with_reducible refine (spec_l20Rd_pick.calls k g s0_0 t214 30 t215 t216 w0 _ ?side1 ?side2 A4.out).mono ?_); (case side1 => repeat (first | (with_reducible first | exact HI0.out | apply IsS67.alloc | apply IsS67.drewN | apply IsS67.drew | apply IsS67.set_1 | refine IsS67.far ?_ NB0_212.out _) | exact HI0.out)); (case side2 => repeat (first | (with_reducible first | exact HB.out | apply below_alloc | apply pw_below_drewN | apply below_drew1 | refine below_set ?_ (IsS67.ge HI0.out) | refine below_set ?_ GE212.out) | exact HB.out)); rintro e w8 ⟨rfl, hi, hb, hk⟩; refine ⟨_, rfl, ?_⟩; have n0_ := Aside0.mk (KeepBut.blk hk (g' := gb212) (o := .cells #[.int .i64 0, .slice none 0 0, .int .i64 0, .int .i64 0, .slice none 0 0] 25 (0, 0)) (kb_ BK212.out) NB212_0.out (by simp)); have n1_ := Aside0.mk (KeepBut.trans (by repeat (first | (with_reducible first | exact HK.out | apply KeepBut.set_ | apply keep_drewN | apply keep_drew | apply keep_alloc | refine keep_far ?_ GW212.out _) | exact HK.out)) hk (.inl rfl)); have n2_ := Aside0.mk (hb); have n3_ := Aside0.mk (hi); clear BK212; clear HK; clear HB; clear HI0; have BK212 := n0_; have HK := n1_; have HB := n2_; have HI0 := n3_; clear n0_ n1_ n2_ n3_; (try clear hb); (try clear hb2); (try clear hk); (try clear hi)) | ((with_reducible refine gate_dst (N := 5) rfl ?_); refine box_event ?hg (N := 5) ?hd (cs := #[.int .i64 0, .slice none 0 0, .int .i64 0, .int .i64 0, .slice none 0 0]) (t := 25) ?hr ?_; (case hd => rfl); (case hg => rfl); (case hr => first | (go_simp; done) | (go_simp; rfl)); intro gb217 hg w9 hbox hb; have n0_ := Aside0.mk (IsS67.below (by repeat (first | (with_reducible first | exact HI0.out | apply IsS67.alloc | apply IsS67.drewN | apply IsS67.drew | apply IsS67.set_1 | refine IsS67.far ?_ NB0_212.out _) | exact HI0.out)) hb); have n1_ := Aside0.mk (blk_below (g := gb212) (o := .cells #[.int .i64 0, .slice none 0 0, .int .i64 0, .int .i64 0, .slice none 0 0] 25 (0, 0)) (kb_ BK212.out) hb); have n2_ := Aside0.mk (KeepBut.trans (by repeat (first | (with_reducible first | exact HK.out | apply KeepBut.set_ | apply keep_drewN | apply keep_drew | apply keep_alloc | refine keep_far ?_ GW212.out _) | exact HK.out)) (KeepBut.of_below hb g none) (.inl rfl)); have n3_ := Aside0.mk (below_step (by repeat (first | (with_reducible first | exact HB.out | apply below_alloc | apply pw_below_drewN | apply below_drew1 | refine below_set ?_ (IsS67.ge HI0.out) | refine below_set ?_ GE212.out) | exact HB.out)) hb); have n4_ := Aside0.mk (hbox); have n5_ := Aside0.mk ((by rw [hg]; exact (keep_size (w := w) (g := g) (row := none) (by repeat (first | (with_reducible first | exact HK.out | apply KeepBut.set_ | apply keep_drewN | apply keep_drew | apply keep_alloc | refine keep_far ?_ GW212.out _) | exact HK.out))) : w.heap.size ≤ gb217)); have n6_ := Aside0.mk ((Nat.le_trans HW0.out (by rw [hg]; exact (keep_size (w := w) (g := g) (row := none) (by repeat (first | (with_reducible first | exact HK.out | apply KeepBut.set_ | apply keep_drewN | apply keep_drew | apply keep_alloc | refine keep_far ?_ GW212.out _) | exact HK.out))) : w.heap.size ≤ gb217) : w0.heap.size ≤ gb217)); have n7_ := Aside0.mk ((by rw [hg]; exact Nat.ne_of_lt (blk_lt (g := gb212) (o := .cells #[.int .i64 0, .slice none 0 0, .int .i64 0, .int .i64 0, .slice none 0 0] 25 (0, 0)) (kb_ BK212.out)) : gb212 ≠ gb217)); have n8_ := Aside0.mk ((by rw [hg]; exact Nat.ne_of_gt (blk_lt (g := gb212) (o := .cells #[.int .i64 0, .slice none 0 0, .int .i64 0, .int .i64 0, .slice none 0 0] 25 (0, 0)) (kb_ BK212.out)) : gb217 ≠ gb212)); have n9_ := Aside0.mk ((by rw [hg]; exact Nat.ne_of_lt (IsS67.lt (show IsS67 w0 _ g s0_0 t216 from by repeat (first | (with_reducible first | exact HI0.out | apply IsS67.alloc | apply IsS67.drewN | apply IsS67.drew | apply IsS67.set_1 | refine IsS67.far ?_ NB0_212.out _) | exact HI0.out))) : g ≠ gb217)); have n10_ := Aside0.mk ((by rw [hg]; exact Nat.ne_of_gt (IsS67.lt (show IsS67 w0 _ g s0_0 t216 from by repeat (first | (with_reducible first | exact HI0.out | apply IsS67.alloc | apply IsS67.drewN | apply IsS67.drew | apply IsS67.set_1 | refine IsS67.far ?_ NB0_212.out _) | exact HI0.out))) : gb217 ≠ g)); clear HI0; clear BK212; clear HK; clear HB; have HI0 := n0_; have BK212 := n1_; have HK := n2_; have HB := n3_; have BK217 := n4_; have GW217 := n5_; have GE217 := n6_; have NB212_217 := n7_; have NB217_212 := n8_; have NB0_217 := n9_; have NB217_0 := n10_; clear n0_ n1_ n2_ n3_ n4_ n5_ n6_ n7_ n8_ n9_ n10_; clear hb hbox hg; have hnb10 := NB217_212.out; have hnc10 := NB212_217.out; have hnb11 := NB217_0.out; have hnc11 := NB0_217.out; have hcz12_0 : w9.cell? ⟨gb217, 0, none⟩ = some (.int .i64 0) := (blk_cell BK217.out 0).trans rfl; have hcz12_1 : w9.cell? ⟨gb217, 1, none⟩ = some (.slice none 0 0) := (blk_cell BK217.out 1).trans rfl; have hcz12_2 : w9.cell? ⟨gb217, 2, none⟩ = some (.int .i64 0) := (blk_cell BK217.out 2).trans rfl; have hcz12_3 : w9.cell? ⟨gb217, 3, none⟩ = some (.int .i64 0) := (blk_cell BK217.out 3).trans rfl; have hcz12_4 : w9.cell? ⟨gb217, 4, none⟩ = some (.slice none 0 0) := (blk_cell BK217.out 4).trans rfl; have hfz12_0 := blk_frozen BK217.out 0; have hfz12_1 := blk_frozen BK217.out 1; have hfz12_2 := blk_frozen BK217.out 2; have hfz12_3 := blk_frozen BK217.out 3; have hfz12_4 := blk_frozen BK217.out 4) | ((with_reducible refine gate_callee (f := 30) rfl ?_); refine goesL_ (some 16) rfl rfl Try.func30 (by kernel_rfl) rfl #[.pointer (some ⟨g, 0, none⟩), .int .i64 9] rfl ar_ ?_; (with_reducible refine (spec_l20Rd_pick.calls k g s0_0 t216 9 t218 t219 w0 _ ?side1 ?side2 A5.out).mono ?_); (case side1 => repeat (first | (with_reducible first | exact HI0.out | apply IsS67.alloc | apply IsS67.drewN | apply IsS67.drew | apply IsS67.set_1 | refine IsS67.far ?_ NB0_212.out _ | refine IsS67.far ?_ NB0_217.out _) | exact HI0.out)); (case side2 => repeat (first | (with_reducible first | exact HB.out | apply below_alloc | apply pw_below_drewN | apply below_drew1 | refine below_set ?_ (IsS67.ge HI0.out) | refine below_set ?_ GE212.out | refine below_set ?_ GE217.out) | exact HB.out)); rintro e w13 ⟨rfl, hi, hb, hk⟩; refine ⟨_, rfl, ?_⟩; have n0_ := Aside0.mk (KeepBut.blk hk (g' := gb212) (o := .cells #[.int .i64 0, .slice none 0 0, .int .i64 0, .int .i64 0, .slice none 0 0] 25 (0, 0)) (by refine kb_ ?_; refine blk_far ?_ NB212_217.out _; refine kb_ ?_; refine blk_far ?_ NB212_217.out _; refine kb_ ?_; refine blk_far ?_ NB212_217.out _; refine kb_ ?_; refine blk_far ?_ NB212_217.out _; refine kb_ ?_; refine blk_far ?_ NB212_217.out _; refine kb_ ?_; exact BK212.out) NB212_0.out (by simp)); have n1_ := Aside0.mk (KeepBut.blk hk (g' := gb217) (o := .cells #[.int .i64 (wrap64 (100 + (wrap64 (t213 * 40)))), .slice none 0 0, .int .i64 0, .int .i64 t215, .slice none 0 0] 25 (0, 0)) (by refine kb_ ?_; refine blk_put (cs := #[.int .i64 (wrap64 (100 + (wrap64 (t213 * 40)))), .slice none 0 0, .int .i64 0, .int .i64 t215, .slice none 0 0]) ?_ 4 _ rfl; refine kb_ ?_; refine blk_put (cs := #[.int .i64 (wrap64 (100 + (wrap64 (t213 * 40)))), .slice none 0 0, .int .i64 0, .int .i64 0, .slice none 0 0]) ?_ 3 _ rfl; refine kb_ ?_; refine blk_put (cs := #[.int .i64 (wrap64 (100 + (wrap64 (t213 * 40)))), .slice none 0 0, .int .i64 0, .int .i64 0, .slice none 0 0]) ?_ 2 _ rfl; refine kb_ ?_; refine blk_put (cs := #[.int .i64 (wrap64 (100 + (wrap64 (t213 * 40)))), .slice none 0 0, .int .i64 0, .int .i64 0, .slice none 0 0]) ?_ 1 _ rfl; refine kb_ ?_; refine blk_put (cs := #[.int .i64 0, .slice none 0 0, .int .i64 0, .int .i64 0, .slice none 0 0]) ?_ 0 _ rfl; refine kb_ ?_; exact BK217.out) NB217_0.out (by simp)); have n2_ := Aside0.mk (KeepBut.trans (by repeat (first | (with_reducible first | exact HK.out | apply KeepBut.set_ | apply keep_drewN | apply keep_drew | apply keep_alloc | refine keep_far ?_ GW212.out _ | refine keep_far ?_ GW217.out _) | exact HK.out)) hk (.inl rfl)); have n3_ := Aside0.mk (hb); have n4_ := Aside0.mk (hi); clear BK212; clear BK217; clear HK; clear HB; clear HI0; have BK212 := n0_; have BK217 := n1_; have HK := n2_; have HB := n3_; have HI0 := n4_; clear n0_ n1_ n2_ n3_ n4_; (try clear hb); (try clear hb2); (try clear hk); (try clear hi)))
  go_loopg [6] k (fun kq v6 w' => ∃ (x6_1 : Int) (x1001_1 : Int) (x218000_1 : Int) (x218001_1 : List Int) (x218002_1 : Int) (x218003_1 : Int) (x218004_1 : List (S60)) (u218001 : Value) (u218004 : Value), v6 = .int .i64 x6_1 ∧ Aside0 (spec_l20Mouth.l0 kq a1 x6_1 s0_0 x1001_1 x218000_1 x218001_1 x218002_1 x218003_1 x218004_1 = some (r1, r2, r3, r4, r5, r6)) ∧ Aside0 (kq ≤ k) ∧ Aside0 (Kd.R (Kd.int .u8) 5 w' w.heap.size (fun _ => True) u218001 x218001_1) ∧ Aside0 (Kd.R k60 60 w' w.heap.size (fun _ => True) u218004 x218004_1) ∧ Aside0 (w'.heap[gb212]? = some (.cells #[.int .i64 0, (.slice none 0 0), .int .i64 0, .int .i64 0, (.slice none 0 0)] 25 (0, 0))) ∧ Aside0 (w'.heap[gb217]? = some (.cells #[.int .i64 x218000_1, u218001, .int .i64 x218002_1, .int .i64 x218003_1, u218004] 25 (0, 0))) ∧ Aside0 (IsS67 w0 w' g s0_0 x1001_1) ∧ Aside0 (KeepBut w w' g none) ∧ Aside0 (Below w0.heap.size w0 w'))
  case atStart => exact ⟨(t218), (t219), (wrap64 (100 + (wrap64 (t213 * 40)))), (([] : List Int)), (0), (t215), (([] : List (S60))), (.slice none 0 0), (.slice none 0 0), (by first | rfl | (simp; done) | (simp [*]; done)), H', ⟨Nat.le_refl _⟩, ⟨by first | exact Kd.R_nil _ _ _ _ _ | exact Kd.N_nil _ _ _ _ _ | exact Kd.V_nil _ _ _ _ _ | exact Kd.Q_nil _ _ _ _ _ | exact Kd.S_nil _ _ _ _ _⟩, ⟨by first | exact Kd.R_nil _ _ _ _ _ | exact Kd.N_nil _ _ _ _ _ | exact Kd.V_nil _ _ _ _ _ | exact Kd.Q_nil _ _ _ _ _ | exact Kd.S_nil _ _ _ _ _⟩, ⟨by refine kb_ ?_; exact BK212.out⟩, ⟨by refine kb_ ?_; exact BK217.out⟩, ⟨by repeat (first | (with_reducible first | exact HI0.out | apply IsS67.alloc | apply IsS67.drewN | apply IsS67.drew | apply IsS67.set_1 | refine IsS67.far ?_ NB0_212.out _ | refine IsS67.far ?_ NB0_217.out _) | exact HI0.out)⟩, ⟨by repeat (first | (with_reducible first | exact HK.out | apply KeepBut.set_ | apply keep_drewN | apply keep_drew | apply keep_alloc | refine keep_far ?_ GW212.out _ | refine keep_far ?_ GW217.out _) | exact HK.out)⟩, ⟨by repeat (first | (with_reducible first | exact HB.out | apply below_alloc | apply pw_below_drewN | apply below_drew1 | refine below_set ?_ (IsS67.ge HI0.out) | refine below_set ?_ GE212.out | refine below_set ?_ GE217.out) | exact HB.out)⟩⟩
  case round =>
    clear H'
    try clear c1
    try clear c2
    try clear p2
    try clear c3
    try clear p6
    try clear c10
    try clear c11
    try clear hcz12_0
    try clear hcz12_1
    try clear hcz12_2
    try clear hcz12_3
    try clear hcz12_4
    try clear hfz12_0
    try clear hfz12_1
    try clear hfz12_2
    try clear hfz12_3
    try clear hfz12_4
    obtain ⟨x6_1, x1001_1, x218000_1, x218001_1, x218002_1, x218003_1, x218004_1, u218001, u218004, rfl, HA, HK1, HO_218001, HO_218004, BK212, BK217, HI0, HK, HB⟩ := hrel
    cases gk with
    | zero => exact absurd HA.out (by simp [spec_l20Mouth.l0])
    | succ k1 =>
      have H := HA.out
      clear HA
      simp only [spec_l20Mouth.l0] at H
      by_cases c14 : x6_1 > 0
      · rw [if_pos c14] at H
        have c14b0 : decide (0 < x6_1) = true := decide_eq_true c14
        clear c14
        replace H := Option.bind_eq_some_iff.mp H
        obtain ⟨⟨t220, t221⟩, A150, H⟩ := H
        replace H : (if t220 = 0 then ((spec_l20Rd_pick.f k1 s0_0 t221 9).bind fun bt222 => ((spec_l20Heard.f k1 (wrap64 (x218000_1 + (x218001_1.length : Int))) bt222.1).bind fun t224 => ((spec_MouthWrite.f k1 x218000_1 x218001_1 x218002_1 x218003_1 x218004_1 t224).bind fun bt227 => (spec_l20Mouth.l0 k1 a1 (wrap64 (x6_1 - 1)) s0_0 bt222.2 bt227.1 bt227.2.1 bt227.2.2.1 bt227.2.2.2.1 bt227.2.2.2.2.1)))) else (if t220 = 1 then ((spec_l20Rd_pick.f k1 s0_0 t221 (wrap64 (x218002_1 + 1))).bind fun bt237 => ((spec_l20Rd_pick.f k1 s0_0 bt237.2 30).bind fun bt239 => ((spec_l20Rd_pick.f k1 s0_0 bt239.2 4).bind fun bt241 => ((spec_l20Rd_pick.f k1 s0_0 bt241.2 6).bind fun bt243 => ((spec_l20Rd_pick.f k1 s0_0 bt243.2 4).bind fun bt245 => ((spec_l20Rd_pick.f k1 s0_0 bt245.2 9).bind fun bt247 => ((spec_MouthHear.f k1 x218000_1 x218001_1 x218002_1 x218003_1 x218004_1 (wrap64 (x218000_1 + bt237.1)) bt239.1 (([(⟨wrap64 ((wrap64 ((wrap64 (x218000_1 + bt237.1)) + 1)) + bt241.1), wrap64 ((wrap64 ((wrap64 (x218000_1 + bt237.1)) + 2)) + bt243.1)⟩ : S60), (⟨wrap64 ((wrap64 ((wrap64 (x218000_1 + bt237.1)) + 5)) + bt245.1), wrap64 ((wrap64 ((wrap64 (x218000_1 + bt237.1)) + 6)) + bt247.1)⟩ : S60)] : List (S60)))).bind fun bt252 => (spec_l20Mouth.l0 k1 a1 (wrap64 (x6_1 - 1)) s0_0 bt247.2 bt252.1 bt252.2.1 bt252.2.2.1 bt252.2.2.2.1 bt252.2.2.2.2.1)))))))) else ((spec_l20Rd_pick.f k1 s0_0 t221 8).bind fun bt262 => ((spec_MouthNext.f k1 x218000_1 x218001_1 x218002_1 x218003_1 x218004_1 (wrap64 (1 + bt262.1))).bind fun bt264 => (spec_l20Mouth.l0 k1 a1 (wrap64 (x6_1 - 1)) s0_0 bt262.2 bt264.1 bt264.2.1 bt264.2.2.1 bt264.2.2.2.1 bt264.2.2.2.2.1))))) = some (r1, r2, r3, r4, r5, r6) := H
        have A15 := Aside0.mk A150
        clear A150
        by_cases c16 : t220 = 0
        · rw [if_pos c16] at H
          have c16b0 : (t220 == 0) = true := beq_iff_eq.mpr c16
          have c16b1 : (t220 != 0) = false := bne_eq_false_iff_eq.mpr c16
          clear c16
          replace H := Option.bind_eq_some_iff.mp H
          obtain ⟨⟨t222, t223⟩, A170, H⟩ := H
          replace H : ((spec_l20Heard.f k1 (wrap64 (x218000_1 + (x218001_1.length : Int))) t222).bind fun t224 => ((spec_MouthWrite.f k1 x218000_1 x218001_1 x218002_1 x218003_1 x218004_1 t224).bind fun bt227 => (spec_l20Mouth.l0 k1 a1 (wrap64 (x6_1 - 1)) s0_0 t223 bt227.1 bt227.2.1 bt227.2.2.1 bt227.2.2.2.1 bt227.2.2.2.2.1))) = some (r1, r2, r3, r4, r5, r6) := H
          have A17 := Aside0.mk A170
          clear A170
          replace H := Option.bind_eq_some_iff.mp H
          obtain ⟨t224, A180, H⟩ := H
          replace H : ((spec_MouthWrite.f k1 x218000_1 x218001_1 x218002_1 x218003_1 x218004_1 t224).bind fun bt227 => (spec_l20Mouth.l0 k1 a1 (wrap64 (x6_1 - 1)) s0_0 t223 bt227.1 bt227.2.1 bt227.2.2.1 bt227.2.2.2.1 bt227.2.2.2.2.1)) = some (r1, r2, r3, r4, r5, r6) := H
          have A18 := Aside0.mk A180
          clear A180
          replace H := Option.bind_eq_some_iff.mp H
          obtain ⟨⟨t227, t228, t231, t232, t233, t236⟩, A190, H⟩ := H
          replace H : (spec_l20Mouth.l0 k1 a1 (wrap64 (x6_1 - 1)) s0_0 t223 t227 t228 t231 t232 t233) = some (r1, r2, r3, r4, r5, r6) := H
          have A19 := Aside0.mk A190
          clear A190
          have H' := Aside0.mk H
          clear H
          try go_wp2_with (first | ((with_reducible refine gate_callee (f := 30) rfl ?_); refine goesL_ (some 22) rfl rfl Try.func30 (by kernel_rfl) rfl #[.pointer (some ⟨g, 0, none⟩), .int .i64 4] rfl ar_ ?_; (with_reducible refine (spec_l20Rd_pick.calls k1 g s0_0 x1001_1 4 t220 t221 w0 _ ?side1 ?side2 A15.out).mono ?_); (case side1 => repeat (first | (with_reducible first | exact HI0.out | apply IsS67.alloc | apply IsS67.drewN | apply IsS67.drew | apply IsS67.set_1 | refine IsS67.far ?_ NB0_212.out _ | refine IsS67.far ?_ NB0_217.out _) | exact HI0.out)); (case side2 => repeat (first | (with_reducible first | exact HB.out | apply below_alloc | apply pw_below_drewN | apply below_drew1 | refine below_set ?_ (IsS67.ge HI0.out) | refine below_set ?_ GE212.out | refine below_set ?_ GE217.out) | exact HB.out)); rintro e w20 ⟨rfl, hi, hb, hk⟩; refine ⟨_, rfl, ?_⟩; have n0_ := Aside0.mk (Kd.R_mono (Kd.R_keep (IsS67.apart (show IsS67 w0 _ g s0_0 x1001_1 from by repeat (first | (with_reducible first | exact HI0.out | apply IsS67.alloc | apply IsS67.drewN | apply IsS67.drew | apply IsS67.set_1 | refine IsS67.far ?_ NB0_212.out _ | refine IsS67.far ?_ NB0_217.out _) | exact HI0.out)) (kR_ HO_218001.out) (by decide)) hk (fun _ h => h.2)) (fun _ h => h.1)); have n1_ := Aside0.mk (Kd.R_mono (Kd.R_keep (IsS67.apart (show IsS67 w0 _ g s0_0 x1001_1 from by repeat (first | (with_reducible first | exact HI0.out | apply IsS67.alloc | apply IsS67.drewN | apply IsS67.drew | apply IsS67.set_1 | refine IsS67.far ?_ NB0_212.out _ | refine IsS67.far ?_ NB0_217.out _) | exact HI0.out)) (kR_ HO_218004.out) (by decide)) hk (fun _ h => h.2)) (fun _ h => h.1)); have n2_ := Aside0.mk (KeepBut.blk hk (g' := gb212) (o := .cells #[.int .i64 0, .slice none 0 0, .int .i64 0, .int .i64 0, .slice none 0 0] 25 (0, 0)) (kb_ BK212.out) NB212_0.out (by simp)); have n3_ := Aside0.mk (KeepBut.blk hk (g' := gb217) (o := .cells #[.int .i64 x218000_1, u218001, .int .i64 x218002_1, .int .i64 x218003_1, u218004] 25 (0, 0)) (kb_ BK217.out) NB217_0.out (by simp)); have n4_ := Aside0.mk (KeepBut.trans (by repeat (first | (with_reducible first | exact HK.out | apply KeepBut.set_ | apply keep_drewN | apply keep_drew | apply keep_alloc | refine keep_far ?_ GW212.out _ | refine keep_far ?_ GW217.out _) | exact HK.out)) hk (.inl rfl)); have n5_ := Aside0.mk (hb); have n6_ := Aside0.mk (hi); clear HO_218001; clear HO_218004; clear BK212; clear BK217; clear HK; clear HB; clear HI0; have HO_218001 := n0_; have HO_218004 := n1_; have BK212 := n2_; have BK217 := n3_; have HK := n4_; have HB := n5_; have HI0 := n6_; clear n0_ n1_ n2_ n3_ n4_ n5_ n6_; (try clear hb); (try clear hb2); (try clear hk); (try clear hi)))
          have n0_ := Aside0.mk (Kd.R_drew HO_218001.out)
          have n1_ := Aside0.mk (Kd.R_drew HO_218004.out)
          have n2_ := Aside0.mk (blk_drew BK212.out)
          have n3_ := Aside0.mk (blk_drew BK217.out)
          have n4_ := Aside0.mk (IsS67.drew HI0.out)
          have n5_ := Aside0.mk (keep_drew HK.out)
          have n6_ := Aside0.mk (below_drew1 HB.out)
          clear HO_218001
          clear HO_218004
          clear BK212
          clear BK217
          clear HI0
          clear HK
          clear HB
          have HO_218001 := n0_
          have HO_218004 := n1_
          have BK212 := n2_
          have BK217 := n3_
          have HI0 := n4_
          have HK := n5_
          have HB := n6_
          clear n0_ n1_ n2_ n3_ n4_ n5_ n6_
          obtain ⟨Ao22, co22, eo22⟩ := Kd.R_slice HO_218001.out
          (first | subst eo22 | (injection eo22 with f1_ f2_ f3_; have f4_ := f1_.symm; have f5_ := f3_.symm; clear f1_ f2_ f3_; subst f4_; subst f5_))
          refine start_ (n := 15) (S := fun w' => w'.cell? ⟨gb217, 0, none⟩ = some (.int .i64 x218000_1) ∧ w'.cell? ⟨gb217, 1, none⟩ = some (.slice Ao22 x218001_1.length co22) ∧ w'.cell? ⟨gb217, 2, none⟩ = some (.int .i64 x218002_1) ∧ w'.cell? ⟨gb217, 3, none⟩ = some (.int .i64 x218003_1) ∧ w'.cell? ⟨gb217, 4, none⟩ = some (u218004)) (ds := [14]) #[false, false, false, false, false, false, false, false, false, false, false, false, false, false, false] (by kernel_rfl) rfl rfl ⟨(blk_cell BK217.out 0).trans rfl, (blk_cell BK217.out 1).trans rfl, (blk_cell BK217.out 2).trans rfl, (blk_cell BK217.out 3).trans rfl, (blk_cell BK217.out 4).trans rfl⟩ (fun hHeld => ?_); refine with_tabW spec_l20Mouth.tab8 spec_l20Mouth.bits8 (fun HT_ HW_ => ?_)
          generalize w20.drew = w21 at HO_218001 HO_218004 BK212 BK217 HI0 HK HB hHeld ⊢
          refine pu_ (i := 1) (N := some 36) HT_ ?_
          refine pu_ (i := 3) (N := some 38) HT_ ?_
          refine pu_ (i := 7) (N := some 42) HT_ ?_
          refine tk_ (i := 0) (N := some 35) HT_ HW_ hHeld ?_
          refine tk_ (i := 2) (N := some 37) HT_ HW_ hHeld ?_
          refine tk_ (i := 4) (N := some 39) HT_ HW_ hHeld ?_
          refine pu_ (i := 5) (N := some 40) HT_ ?_
          refine pu_ (i := 6) (N := some 41) HT_ ?_
          refine on_ (i := 8) (N := some 43) HT_ (fun K hK => ?_)
          refine goes_ Try.func30 (by kernel_rfl) rfl #[.pointer (some ⟨g, 0, none⟩), .int .i64 9] (by rfl) rfl rfl ar_ ?_
          with_reducible refine (spec_l20Rd_pick.calls k1 g s0_0 t221 9 t222 t223 w0 _ ?side1 ?side2 A17.out).mono ?_
          (case side1 => repeat (first | (with_reducible first | exact HI0.out | apply IsS67.alloc | apply IsS67.drewN | apply IsS67.drew | apply IsS67.set_1 | refine IsS67.far ?_ NB0_212.out _ | refine IsS67.far ?_ NB0_217.out _) | exact HI0.out))
          (case side2 => repeat (first | (with_reducible first | exact HB.out | apply below_alloc | apply pw_below_drewN | apply below_drew1 | refine below_set ?_ (IsS67.ge HI0.out) | refine below_set ?_ GE212.out | refine below_set ?_ GE217.out) | exact HB.out))
          rintro e w23 ⟨rfl, hi, hb, hk⟩
          refine ⟨_, rfl, ?_⟩
          have n0_ := Aside0.mk (Kd.R_mono (Kd.R_keep (IsS67.apart (show IsS67 w0 _ g s0_0 t221 from by repeat (first | (with_reducible first | exact HI0.out | apply IsS67.alloc | apply IsS67.drewN | apply IsS67.drew | apply IsS67.set_1 | refine IsS67.far ?_ NB0_212.out _ | refine IsS67.far ?_ NB0_217.out _) | exact HI0.out)) (kR_ HO_218001.out) (by decide)) hk (fun _ h => h.2)) (fun _ h => h.1))
          have n1_ := Aside0.mk (Kd.R_mono (Kd.R_keep (IsS67.apart (show IsS67 w0 _ g s0_0 t221 from by repeat (first | (with_reducible first | exact HI0.out | apply IsS67.alloc | apply IsS67.drewN | apply IsS67.drew | apply IsS67.set_1 | refine IsS67.far ?_ NB0_212.out _ | refine IsS67.far ?_ NB0_217.out _) | exact HI0.out)) (kR_ HO_218004.out) (by decide)) hk (fun _ h => h.2)) (fun _ h => h.1))
          have n2_ := Aside0.mk (KeepBut.blk hk (g' := gb212) (o := .cells #[.int .i64 0, .slice none 0 0, .int .i64 0, .int .i64 0, .slice none 0 0] 25 (0, 0)) (kb_ BK212.out) NB212_0.out (by simp))
          have n3_ := Aside0.mk (KeepBut.blk hk (g' := gb217) (o := .cells #[.int .i64 x218000_1, .slice Ao22 x218001_1.length co22, .int .i64 x218002_1, .int .i64 x218003_1, u218004] 25 (0, 0)) (kb_ BK217.out) NB217_0.out (by simp))
          have n4_ := Aside0.mk (KeepBut.trans (by repeat (first | (with_reducible first | exact HK.out | apply KeepBut.set_ | apply keep_drewN | apply keep_drew | apply keep_alloc | refine keep_far ?_ GW212.out _ | refine keep_far ?_ GW217.out _) | exact HK.out)) hk (.inl rfl))
          have n5_ := Aside0.mk (hb)
          have n6_ := Aside0.mk (hi)
          clear HO_218001
          clear HO_218004
          clear BK212
          clear BK217
          clear HK
          clear HB
          clear HI0
          have HO_218001 := n0_
          have HO_218004 := n1_
          have BK212 := n2_
          have BK217 := n3_
          have HK := n4_
          have HB := n5_
          have HI0 := n6_
          clear n0_ n1_ n2_ n3_ n4_ n5_ n6_
          (try clear hb)
          (try clear hb2)
          (try clear hk)
          (try clear hi)
          refine hK.out _ _ ⟨(blk_cell BK217.out 0).trans rfl, (blk_cell BK217.out 1).trans rfl, (blk_cell BK217.out 2).trans rfl, (blk_cell BK217.out 3).trans rfl, (blk_cell BK217.out 4).trans rfl⟩ (fun hHeld => ?_)
          clear hK K
          refine nm_ 43 ?_
          refine on_ (i := 9) (N := some 44) HT_ (fun K hK => ?_)
          refine goes_ Try.func46 (by kernel_rfl) rfl #[.int .i64 (wrap64 (x218000_1 + (x218001_1.length : Int))), .int .i64 t222] (by rfl) rfl rfl ar_ ?_
          with_reducible refine (spec_l20Heard.calls k1 (wrap64 (x218000_1 + (x218001_1.length : Int))) t222 t224 _ A18.out).mono ?_
          rintro e w24 ⟨v225, rfl, ho0, hb⟩
          refine ⟨_, rfl, ?_⟩
          have n0_ := Aside0.mk (Kd.R_elder' (kR_ HO_218001.out) (Kd.R_base ho0) hb)
          have n1_ := Aside0.mk (Kd.R_below (kR_ HO_218004.out) hb)
          have n2_ := Aside0.mk (Kd.R_lower (Kd.R_new' ho0 (Kd.R_lt (kR_ HO_218001.out))) (keep_size (w := w) (g := g) (row := none) (by repeat (first | (with_reducible first | exact HK.out | apply KeepBut.set_ | apply keep_drewN | apply keep_drew | apply keep_alloc | refine keep_far ?_ GW212.out _ | refine keep_far ?_ GW217.out _) | exact HK.out))))
          have n3_ := Aside0.mk (blk_below (g := gb212) (o := .cells #[.int .i64 0, .slice none 0 0, .int .i64 0, .int .i64 0, .slice none 0 0] 25 (0, 0)) (kb_ BK212.out) hb)
          have n4_ := Aside0.mk (blk_below (g := gb217) (o := .cells #[.int .i64 x218000_1, .slice Ao22 x218001_1.length co22, .int .i64 x218002_1, .int .i64 x218003_1, u218004] 25 (0, 0)) (kb_ BK217.out) hb)
          have n5_ := Aside0.mk (IsS67.below (by repeat (first | (with_reducible first | exact HI0.out | apply IsS67.alloc | apply IsS67.drewN | apply IsS67.drew | apply IsS67.set_1 | refine IsS67.far ?_ NB0_212.out _ | refine IsS67.far ?_ NB0_217.out _) | exact HI0.out)) hb)
          have n6_ := Aside0.mk (KeepBut.trans (by repeat (first | (with_reducible first | exact HK.out | apply KeepBut.set_ | apply keep_drewN | apply keep_drew | apply keep_alloc | refine keep_far ?_ GW212.out _ | refine keep_far ?_ GW217.out _) | exact HK.out)) (KeepBut.of_below hb g none) (.inl rfl))
          have n7_ := Aside0.mk (below_step (by repeat (first | (with_reducible first | exact HB.out | apply below_alloc | apply pw_below_drewN | apply below_drew1 | refine below_set ?_ (IsS67.ge HI0.out) | refine below_set ?_ GE212.out | refine below_set ?_ GE217.out) | exact HB.out)) hb)
          clear HO_218001
          clear HO_218004
          clear BK212
          clear BK217
          clear HI0
          clear HK
          clear HB
          have HO_218001 := n0_
          have HO_218004 := n1_
          have HO226 := n2_
          have BK212 := n3_
          have BK217 := n4_
          have HI0 := n5_
          have HK := n6_
          have HB := n7_
          clear n0_ n1_ n2_ n3_ n4_ n5_ n6_ n7_
          (try clear hb)
          (try clear hb2)
          (try clear hk)
          (try clear hi)
          (try clear ho0)
          obtain ⟨Ao25, co25, eo25⟩ := Kd.R_slice HO_218004.out
          (first | subst eo25 | (injection eo25 with f1_ f2_ f3_; have f4_ := f1_.symm; have f5_ := f3_.symm; clear f1_ f2_ f3_; subst f4_; subst f5_))
          obtain ⟨Ao26, co26, eo26⟩ := Kd.R_slice HO226.out
          (first | subst eo26 | (injection eo26 with f1_ f2_ f3_; have f4_ := f1_.symm; have f5_ := f3_.symm; clear f1_ f2_ f3_; subst f4_; subst f5_))
          refine hK.out _ _ ⟨(blk_cell BK217.out 0).trans rfl, (blk_cell BK217.out 1).trans rfl, (blk_cell BK217.out 2).trans rfl, (blk_cell BK217.out 3).trans rfl, (blk_cell BK217.out 4).trans rfl⟩ (fun hHeld => ?_)
          clear hK K
          refine nm_ 44 ?_
          refine on_ (i := 10) (N := some 45) HT_ (fun K hK => ?_)
          refine goes_ Try.func8 (by kernel_rfl) rfl #[.agg #[.int .i64 x218000_1, .slice Ao22 x218001_1.length co22, .int .i64 x218002_1, .int .i64 x218003_1, .slice Ao25 x218004_1.length co25], .slice Ao26 t224.length co26] (by rfl) rfl rfl ar_ ?_
          with_reducible refine (spec_MouthWrite.calls k1 x218000_1 _ _ x218001_1 x218002_1 x218003_1 _ _ x218004_1 _ _ t224 t227 t228 t231 t232 t233 t236 _ ?side1 ?side2 ?side3 ?side4 ?side5 ?side6 A19.out).mono ?_
          (case side1 => exact kC_ (Kd.R_reads' HO_218001.out).2.2)
          (case side2 => exact (Kd.R_reads' HO_218001.out).2.1)
          (case side3 => exact kC_ (Kd.R_reads' HO_218004.out).2.2)
          (case side4 => exact (Kd.R_reads' HO_218004.out).2.1)
          (case side5 => exact kC_ (Kd.R_reads' HO226.out).2.2)
          (case side6 => exact (Kd.R_reads' HO226.out).2.1)
          rintro e w27 ⟨v229, v234, rfl, ho0, ho1, hb⟩
          refine ⟨_, rfl, ?_⟩
          have n0_ := Aside0.mk (Kd.R_elder' (kR_ HO_218001.out) (Kd.R_base ho0) hb)
          have n1_ := Aside0.mk (Kd.R_elder' (kR_ HO_218004.out) (Kd.R_base ho1) hb)
          have n2_ := Aside0.mk (Kd.R_elder' (kR_ HO226.out) (Kd.R_base ho0) hb)
          have n3_ := Aside0.mk (Kd.R_lower (Kd.R_new' (Kd.R_new' ho0 (Kd.R_lt (kR_ HO_218001.out))) (Kd.R_lt (kR_ HO226.out))) (keep_size (w := w) (g := g) (row := none) (by repeat (first | (with_reducible first | exact HK.out | apply KeepBut.set_ | apply keep_drewN | apply keep_drew | apply keep_alloc | refine keep_far ?_ GW212.out _ | refine keep_far ?_ GW217.out _) | exact HK.out))))
          have n4_ := Aside0.mk (Kd.R_lower (Kd.R_new' ho1 (Kd.R_lt (kR_ HO_218004.out))) (keep_size (w := w) (g := g) (row := none) (by repeat (first | (with_reducible first | exact HK.out | apply KeepBut.set_ | apply keep_drewN | apply keep_drew | apply keep_alloc | refine keep_far ?_ GW212.out _ | refine keep_far ?_ GW217.out _) | exact HK.out))))
          have n5_ := Aside0.mk (blk_below (g := gb212) (o := .cells #[.int .i64 0, .slice none 0 0, .int .i64 0, .int .i64 0, .slice none 0 0] 25 (0, 0)) (kb_ BK212.out) hb)
          have n6_ := Aside0.mk (blk_below (g := gb217) (o := .cells #[.int .i64 x218000_1, .slice Ao22 x218001_1.length co22, .int .i64 x218002_1, .int .i64 x218003_1, .slice Ao25 x218004_1.length co25] 25 (0, 0)) (kb_ BK217.out) hb)
          have n7_ := Aside0.mk (IsS67.below (by repeat (first | (with_reducible first | exact HI0.out | apply IsS67.alloc | apply IsS67.drewN | apply IsS67.drew | apply IsS67.set_1 | refine IsS67.far ?_ NB0_212.out _ | refine IsS67.far ?_ NB0_217.out _) | exact HI0.out)) hb)
          have n8_ := Aside0.mk (KeepBut.trans (by repeat (first | (with_reducible first | exact HK.out | apply KeepBut.set_ | apply keep_drewN | apply keep_drew | apply keep_alloc | refine keep_far ?_ GW212.out _ | refine keep_far ?_ GW217.out _) | exact HK.out)) (KeepBut.of_below hb g none) (.inl rfl))
          have n9_ := Aside0.mk (below_step (by repeat (first | (with_reducible first | exact HB.out | apply below_alloc | apply pw_below_drewN | apply below_drew1 | refine below_set ?_ (IsS67.ge HI0.out) | refine below_set ?_ GE212.out | refine below_set ?_ GE217.out) | exact HB.out)) hb)
          clear HO_218001
          clear HO_218004
          clear HO226
          clear BK212
          clear BK217
          clear HI0
          clear HK
          clear HB
          have HO_218001 := n0_
          have HO_218004 := n1_
          have HO226 := n2_
          have HO230 := n3_
          have HO235 := n4_
          have BK212 := n5_
          have BK217 := n6_
          have HI0 := n7_
          have HK := n8_
          have HB := n9_
          clear n0_ n1_ n2_ n3_ n4_ n5_ n6_ n7_ n8_ n9_
          (try clear hb)
          (try clear hb2)
          (try clear hk)
          (try clear hi)
          (try clear ho0)
          (try clear ho1)
          obtain ⟨Ao29, co29, eo29⟩ := Kd.R_slice HO230.out
          (first | subst eo29 | (injection eo29 with f1_ f2_ f3_; have f4_ := f1_.symm; have f5_ := f3_.symm; clear f1_ f2_ f3_; subst f4_; subst f5_))
          obtain ⟨Ao33, co33, eo33⟩ := Kd.R_slice HO235.out
          (first | subst eo33 | (injection eo33 with f1_ f2_ f3_; have f4_ := f1_.symm; have f5_ := f3_.symm; clear f1_ f2_ f3_; subst f4_; subst f5_))
          refine hK.out _ _ ⟨(blk_cell BK217.out 0).trans rfl, (blk_cell BK217.out 1).trans rfl, (blk_cell BK217.out 2).trans rfl, (blk_cell BK217.out 3).trans rfl, (blk_cell BK217.out 4).trans rfl⟩ (fun hHeld => ?_)
          clear hK K
          refine nm_ 45 ?_
          refine pu_ (i := 11) (N := some 34) HT_ ?_
          refine pu_ (i := 12) (N := some 46) HT_ ?_
          refine pu_ (i := 13) (N := some 47) HT_ ?_
          refine last_ (i := 14) (N := none) #[true, true, true, true, true, true, true, true, true, true, true, true, true, true, true] rfl rfl (one_of HT_.out (by kernel_rfl)) (by decide) (fun K hK => ?_)
          have hs28 : w27.cell? ⟨gb217, 0, none⟩ = some (.int .i64 x218000_1) := (blk_cell BK217.out 0).trans rfl
          have hfs28 := blk_frozen BK217.out 0
          have hns28_0 := NB212_217.out
          have hms28_0 := NB217_212.out
          have hs30 : w27.cell? ⟨gb217, 1, none⟩ = some (.slice Ao22 x218001_1.length co22) := (blk_cell BK217.out 1).trans rfl
          have hfs30 := blk_frozen BK217.out 1
          have hns30_0 := NB212_217.out
          have hms30_0 := NB217_212.out
          have hs31 : w27.cell? ⟨gb217, 2, none⟩ = some (.int .i64 x218002_1) := (blk_cell BK217.out 2).trans rfl
          have hfs31 := blk_frozen BK217.out 2
          have hns31_0 := NB212_217.out
          have hms31_0 := NB217_212.out
          have hs32 : w27.cell? ⟨gb217, 3, none⟩ = some (.int .i64 x218003_1) := (blk_cell BK217.out 3).trans rfl
          have hfs32 := blk_frozen BK217.out 3
          have hns32_0 := NB212_217.out
          have hms32_0 := NB217_212.out
          have hs34 : w27.cell? ⟨gb217, 4, none⟩ = some (.slice Ao25 x218004_1.length co25) := (blk_cell BK217.out 4).trans rfl
          have hfs34 := blk_frozen BK217.out 4
          have hns34_0 := NB212_217.out
          have hms34_0 := NB217_212.out
          refine skip_ (w1 := ?_) (by rfl) rfl ?_ ?_
          rotate_left
          · go_simp
            rfl
          refine hK.out _ _ ?_
          clear hK K
          refine done_ (done_of HT_.out (by kernel_rfl)) ?_
          try go_wp2
          go_roundg k1
          case measure => have := HK1.out; omega
          case rel => exact ⟨(wrap64 (x6_1 - 1)), (t223), (t227), (t228), (t231), (t232), (t233), (.slice Ao29 t228.length co29), (.slice Ao33 t233.length co33), (by first | rfl | (simp; done) | (simp [*]; done)), H', ⟨by have := HK1.out; omega⟩, ⟨by refine kR_ ?_; exact Kd.R_mono (Kd.R_f gb217 4 (.slice Ao33 t233.length co33) (Kd.R_f gb217 3 (.int .i64 t232) (Kd.R_f gb217 2 (.int .i64 t231) (Kd.R_f gb217 1 (.slice Ao29 t228.length co29) (Kd.R_f gb217 0 (.int .i64 t227) (Kd.R_types HO230.out BK217.out (by decide))))))) (fun _ hk => trivial)⟩, ⟨by refine kR_ ?_; exact Kd.R_mono (Kd.R_f gb217 4 (.slice Ao33 t233.length co33) (Kd.R_f gb217 3 (.int .i64 t232) (Kd.R_f gb217 2 (.int .i64 t231) (Kd.R_f gb217 1 (.slice Ao29 t228.length co29) (Kd.R_f gb217 0 (.int .i64 t227) (Kd.R_types HO235.out BK217.out (by decide))))))) (fun _ hk => trivial)⟩, ⟨by refine kb_ ?_; refine blk_far ?_ NB212_217.out _; refine kb_ ?_; refine blk_far ?_ NB212_217.out _; refine kb_ ?_; refine blk_far ?_ NB212_217.out _; refine kb_ ?_; refine blk_far ?_ NB212_217.out _; refine kb_ ?_; refine blk_far ?_ NB212_217.out _; refine kb_ ?_; exact BK212.out⟩, ⟨by refine kb_ ?_; refine blk_put (cs := #[.int .i64 t227, .slice Ao29 t228.length co29, .int .i64 t231, .int .i64 t232, .slice Ao25 x218004_1.length co25]) ?_ 4 _ rfl; refine kb_ ?_; refine blk_put (cs := #[.int .i64 t227, .slice Ao29 t228.length co29, .int .i64 t231, .int .i64 x218003_1, .slice Ao25 x218004_1.length co25]) ?_ 3 _ rfl; refine kb_ ?_; refine blk_put (cs := #[.int .i64 t227, .slice Ao29 t228.length co29, .int .i64 x218002_1, .int .i64 x218003_1, .slice Ao25 x218004_1.length co25]) ?_ 2 _ rfl; refine kb_ ?_; refine blk_put (cs := #[.int .i64 t227, .slice Ao22 x218001_1.length co22, .int .i64 x218002_1, .int .i64 x218003_1, .slice Ao25 x218004_1.length co25]) ?_ 1 _ rfl; refine kb_ ?_; refine blk_put (cs := #[.int .i64 x218000_1, .slice Ao22 x218001_1.length co22, .int .i64 x218002_1, .int .i64 x218003_1, .slice Ao25 x218004_1.length co25]) ?_ 0 _ rfl; refine kb_ ?_; exact BK217.out⟩, ⟨by repeat (first | (with_reducible first | exact HI0.out | apply IsS67.alloc | apply IsS67.drewN | apply IsS67.drew | apply IsS67.set_1 | refine IsS67.far ?_ NB0_212.out _ | refine IsS67.far ?_ NB0_217.out _) | exact HI0.out)⟩, ⟨by repeat (first | (with_reducible first | exact HK.out | apply KeepBut.set_ | apply keep_drewN | apply keep_drew | apply keep_alloc | refine keep_far ?_ GW212.out _ | refine keep_far ?_ GW217.out _) | exact HK.out)⟩, ⟨by repeat (first | (with_reducible first | exact HB.out | apply below_alloc | apply pw_below_drewN | apply below_drew1 | refine below_set ?_ (IsS67.ge HI0.out) | refine below_set ?_ GE212.out | refine below_set ?_ GE217.out) | exact HB.out)⟩⟩
        · rw [if_neg c16] at H
          have c16b0 : (t220 == 0) = false := beq_eq_false_iff_ne.mpr c16
          have c16b1 : (t220 != 0) = true := bne_iff_ne.mpr c16
          by_cases c35 : t220 = 1
          · rw [if_pos c35] at H
            have c35b0 : (t220 == 1) = true := beq_iff_eq.mpr c35
            have c35b1 : (t220 != 1) = false := bne_eq_false_iff_eq.mpr c35
            clear c35
            replace H := Option.bind_eq_some_iff.mp H
            obtain ⟨⟨t237, t238⟩, A360, H⟩ := H
            replace H : ((spec_l20Rd_pick.f k1 s0_0 t238 30).bind fun bt239 => ((spec_l20Rd_pick.f k1 s0_0 bt239.2 4).bind fun bt241 => ((spec_l20Rd_pick.f k1 s0_0 bt241.2 6).bind fun bt243 => ((spec_l20Rd_pick.f k1 s0_0 bt243.2 4).bind fun bt245 => ((spec_l20Rd_pick.f k1 s0_0 bt245.2 9).bind fun bt247 => ((spec_MouthHear.f k1 x218000_1 x218001_1 x218002_1 x218003_1 x218004_1 (wrap64 (x218000_1 + t237)) bt239.1 (([(⟨wrap64 ((wrap64 ((wrap64 (x218000_1 + t237)) + 1)) + bt241.1), wrap64 ((wrap64 ((wrap64 (x218000_1 + t237)) + 2)) + bt243.1)⟩ : S60), (⟨wrap64 ((wrap64 ((wrap64 (x218000_1 + t237)) + 5)) + bt245.1), wrap64 ((wrap64 ((wrap64 (x218000_1 + t237)) + 6)) + bt247.1)⟩ : S60)] : List (S60)))).bind fun bt252 => (spec_l20Mouth.l0 k1 a1 (wrap64 (x6_1 - 1)) s0_0 bt247.2 bt252.1 bt252.2.1 bt252.2.2.1 bt252.2.2.2.1 bt252.2.2.2.2.1))))))) = some (r1, r2, r3, r4, r5, r6) := H
            have A36 := Aside0.mk A360
            clear A360
            replace H := Option.bind_eq_some_iff.mp H
            obtain ⟨⟨t239, t240⟩, A370, H⟩ := H
            replace H : ((spec_l20Rd_pick.f k1 s0_0 t240 4).bind fun bt241 => ((spec_l20Rd_pick.f k1 s0_0 bt241.2 6).bind fun bt243 => ((spec_l20Rd_pick.f k1 s0_0 bt243.2 4).bind fun bt245 => ((spec_l20Rd_pick.f k1 s0_0 bt245.2 9).bind fun bt247 => ((spec_MouthHear.f k1 x218000_1 x218001_1 x218002_1 x218003_1 x218004_1 (wrap64 (x218000_1 + t237)) t239 (([(⟨wrap64 ((wrap64 ((wrap64 (x218000_1 + t237)) + 1)) + bt241.1), wrap64 ((wrap64 ((wrap64 (x218000_1 + t237)) + 2)) + bt243.1)⟩ : S60), (⟨wrap64 ((wrap64 ((wrap64 (x218000_1 + t237)) + 5)) + bt245.1), wrap64 ((wrap64 ((wrap64 (x218000_1 + t237)) + 6)) + bt247.1)⟩ : S60)] : List (S60)))).bind fun bt252 => (spec_l20Mouth.l0 k1 a1 (wrap64 (x6_1 - 1)) s0_0 bt247.2 bt252.1 bt252.2.1 bt252.2.2.1 bt252.2.2.2.1 bt252.2.2.2.2.1)))))) = some (r1, r2, r3, r4, r5, r6) := H
            have A37 := Aside0.mk A370
            clear A370
            replace H := Option.bind_eq_some_iff.mp H
            obtain ⟨⟨t241, t242⟩, A380, H⟩ := H
            replace H : ((spec_l20Rd_pick.f k1 s0_0 t242 6).bind fun bt243 => ((spec_l20Rd_pick.f k1 s0_0 bt243.2 4).bind fun bt245 => ((spec_l20Rd_pick.f k1 s0_0 bt245.2 9).bind fun bt247 => ((spec_MouthHear.f k1 x218000_1 x218001_1 x218002_1 x218003_1 x218004_1 (wrap64 (x218000_1 + t237)) t239 (([(⟨wrap64 ((wrap64 ((wrap64 (x218000_1 + t237)) + 1)) + t241), wrap64 ((wrap64 ((wrap64 (x218000_1 + t237)) + 2)) + bt243.1)⟩ : S60), (⟨wrap64 ((wrap64 ((wrap64 (x218000_1 + t237)) + 5)) + bt245.1), wrap64 ((wrap64 ((wrap64 (x218000_1 + t237)) + 6)) + bt247.1)⟩ : S60)] : List (S60)))).bind fun bt252 => (spec_l20Mouth.l0 k1 a1 (wrap64 (x6_1 - 1)) s0_0 bt247.2 bt252.1 bt252.2.1 bt252.2.2.1 bt252.2.2.2.1 bt252.2.2.2.2.1))))) = some (r1, r2, r3, r4, r5, r6) := H
            have A38 := Aside0.mk A380
            clear A380
            replace H := Option.bind_eq_some_iff.mp H
            obtain ⟨⟨t243, t244⟩, A390, H⟩ := H
            replace H : ((spec_l20Rd_pick.f k1 s0_0 t244 4).bind fun bt245 => ((spec_l20Rd_pick.f k1 s0_0 bt245.2 9).bind fun bt247 => ((spec_MouthHear.f k1 x218000_1 x218001_1 x218002_1 x218003_1 x218004_1 (wrap64 (x218000_1 + t237)) t239 (([(⟨wrap64 ((wrap64 ((wrap64 (x218000_1 + t237)) + 1)) + t241), wrap64 ((wrap64 ((wrap64 (x218000_1 + t237)) + 2)) + t243)⟩ : S60), (⟨wrap64 ((wrap64 ((wrap64 (x218000_1 + t237)) + 5)) + bt245.1), wrap64 ((wrap64 ((wrap64 (x218000_1 + t237)) + 6)) + bt247.1)⟩ : S60)] : List (S60)))).bind fun bt252 => (spec_l20Mouth.l0 k1 a1 (wrap64 (x6_1 - 1)) s0_0 bt247.2 bt252.1 bt252.2.1 bt252.2.2.1 bt252.2.2.2.1 bt252.2.2.2.2.1)))) = some (r1, r2, r3, r4, r5, r6) := H
            have A39 := Aside0.mk A390
            clear A390
            replace H := Option.bind_eq_some_iff.mp H
            obtain ⟨⟨t245, t246⟩, A400, H⟩ := H
            replace H : ((spec_l20Rd_pick.f k1 s0_0 t246 9).bind fun bt247 => ((spec_MouthHear.f k1 x218000_1 x218001_1 x218002_1 x218003_1 x218004_1 (wrap64 (x218000_1 + t237)) t239 (([(⟨wrap64 ((wrap64 ((wrap64 (x218000_1 + t237)) + 1)) + t241), wrap64 ((wrap64 ((wrap64 (x218000_1 + t237)) + 2)) + t243)⟩ : S60), (⟨wrap64 ((wrap64 ((wrap64 (x218000_1 + t237)) + 5)) + t245), wrap64 ((wrap64 ((wrap64 (x218000_1 + t237)) + 6)) + bt247.1)⟩ : S60)] : List (S60)))).bind fun bt252 => (spec_l20Mouth.l0 k1 a1 (wrap64 (x6_1 - 1)) s0_0 bt247.2 bt252.1 bt252.2.1 bt252.2.2.1 bt252.2.2.2.1 bt252.2.2.2.2.1))) = some (r1, r2, r3, r4, r5, r6) := H
            have A40 := Aside0.mk A400
            clear A400
            replace H := Option.bind_eq_some_iff.mp H
            obtain ⟨⟨t247, t248⟩, A410, H⟩ := H
            replace H : ((spec_MouthHear.f k1 x218000_1 x218001_1 x218002_1 x218003_1 x218004_1 (wrap64 (x218000_1 + t237)) t239 (([(⟨wrap64 ((wrap64 ((wrap64 (x218000_1 + t237)) + 1)) + t241), wrap64 ((wrap64 ((wrap64 (x218000_1 + t237)) + 2)) + t243)⟩ : S60), (⟨wrap64 ((wrap64 ((wrap64 (x218000_1 + t237)) + 5)) + t245), wrap64 ((wrap64 ((wrap64 (x218000_1 + t237)) + 6)) + t247)⟩ : S60)] : List (S60)))).bind fun bt252 => (spec_l20Mouth.l0 k1 a1 (wrap64 (x6_1 - 1)) s0_0 t248 bt252.1 bt252.2.1 bt252.2.2.1 bt252.2.2.2.1 bt252.2.2.2.2.1)) = some (r1, r2, r3, r4, r5, r6) := H
            have A41 := Aside0.mk A410
            clear A410
            obtain ⟨y249, hy249⟩ : ∃ y_ : List (S60), y_ = (([(⟨wrap64 ((wrap64 ((wrap64 (x218000_1 + t237)) + 1)) + t241), wrap64 ((wrap64 ((wrap64 (x218000_1 + t237)) + 2)) + t243)⟩ : S60), (⟨wrap64 ((wrap64 ((wrap64 (x218000_1 + t237)) + 5)) + t245), wrap64 ((wrap64 ((wrap64 (x218000_1 + t237)) + 6)) + t247)⟩ : S60)] : List (S60))) := ⟨_, rfl⟩
            replace H : ((spec_MouthHear.f k1 x218000_1 x218001_1 x218002_1 x218003_1 x218004_1 (wrap64 (x218000_1 + t237)) t239 y249).bind fun bt252 => (spec_l20Mouth.l0 k1 a1 (wrap64 (x6_1 - 1)) s0_0 t248 bt252.1 bt252.2.1 bt252.2.2.1 bt252.2.2.2.1 bt252.2.2.2.2.1)) = some (r1, r2, r3, r4, r5, r6) := by first | (rw [hy249]; with_reducible exact H) | (have H2_ := (Option.bind_some _ _).symm.trans H; rw [hy249]; with_reducible exact H2_) | (have H2_ := (Option.bind_some _ _).symm.trans H; with_reducible exact H2_) | with_reducible exact H | (rw [hy249]; exact H) | exact H
            have Ny249 := Aside0.mk hy249
            clear hy249
            replace H := Option.bind_eq_some_iff.mp H
            obtain ⟨⟨t252, t253, t256, t257, t258, t261⟩, A420, H⟩ := H
            replace H : (spec_l20Mouth.l0 k1 a1 (wrap64 (x6_1 - 1)) s0_0 t248 t252 t253 t256 t257 t258) = some (r1, r2, r3, r4, r5, r6) := H
            have A42 := Aside0.mk A420
            clear A420
            have H' := Aside0.mk H
            clear H
            try go_wp2_with (first | ((with_reducible refine gate_callee (f := 30) rfl ?_); refine goesL_ (some 22) rfl rfl Try.func30 (by kernel_rfl) rfl #[.pointer (some ⟨g, 0, none⟩), .int .i64 4] rfl ar_ ?_; (with_reducible refine (spec_l20Rd_pick.calls k1 g s0_0 x1001_1 4 t220 t221 w0 _ ?side1 ?side2 A15.out).mono ?_); (case side1 => repeat (first | (with_reducible first | exact HI0.out | apply IsS67.alloc | apply IsS67.drewN | apply IsS67.drew | apply IsS67.set_1 | refine IsS67.far ?_ NB0_212.out _ | refine IsS67.far ?_ NB0_217.out _) | exact HI0.out)); (case side2 => repeat (first | (with_reducible first | exact HB.out | apply below_alloc | apply pw_below_drewN | apply below_drew1 | refine below_set ?_ (IsS67.ge HI0.out) | refine below_set ?_ GE212.out | refine below_set ?_ GE217.out) | exact HB.out)); rintro e w43 ⟨rfl, hi, hb, hk⟩; refine ⟨_, rfl, ?_⟩; have n0_ := Aside0.mk (Kd.R_mono (Kd.R_keep (IsS67.apart (show IsS67 w0 _ g s0_0 x1001_1 from by repeat (first | (with_reducible first | exact HI0.out | apply IsS67.alloc | apply IsS67.drewN | apply IsS67.drew | apply IsS67.set_1 | refine IsS67.far ?_ NB0_212.out _ | refine IsS67.far ?_ NB0_217.out _) | exact HI0.out)) (kR_ HO_218001.out) (by decide)) hk (fun _ h => h.2)) (fun _ h => h.1)); have n1_ := Aside0.mk (Kd.R_mono (Kd.R_keep (IsS67.apart (show IsS67 w0 _ g s0_0 x1001_1 from by repeat (first | (with_reducible first | exact HI0.out | apply IsS67.alloc | apply IsS67.drewN | apply IsS67.drew | apply IsS67.set_1 | refine IsS67.far ?_ NB0_212.out _ | refine IsS67.far ?_ NB0_217.out _) | exact HI0.out)) (kR_ HO_218004.out) (by decide)) hk (fun _ h => h.2)) (fun _ h => h.1)); have n2_ := Aside0.mk (KeepBut.blk hk (g' := gb212) (o := .cells #[.int .i64 0, .slice none 0 0, .int .i64 0, .int .i64 0, .slice none 0 0] 25 (0, 0)) (kb_ BK212.out) NB212_0.out (by simp)); have n3_ := Aside0.mk (KeepBut.blk hk (g' := gb217) (o := .cells #[.int .i64 x218000_1, u218001, .int .i64 x218002_1, .int .i64 x218003_1, u218004] 25 (0, 0)) (kb_ BK217.out) NB217_0.out (by simp)); have n4_ := Aside0.mk (KeepBut.trans (by repeat (first | (with_reducible first | exact HK.out | apply KeepBut.set_ | apply keep_drewN | apply keep_drew | apply keep_alloc | refine keep_far ?_ GW212.out _ | refine keep_far ?_ GW217.out _) | exact HK.out)) hk (.inl rfl)); have n5_ := Aside0.mk (hb); have n6_ := Aside0.mk (hi); clear HO_218001; clear HO_218004; clear BK212; clear BK217; clear HK; clear HB; clear HI0; have HO_218001 := n0_; have HO_218004 := n1_; have BK212 := n2_; have BK217 := n3_; have HK := n4_; have HB := n5_; have HI0 := n6_; clear n0_ n1_ n2_ n3_ n4_ n5_ n6_; (try clear hb); (try clear hb2); (try clear hk); (try clear hi)))
            have n0_ := Aside0.mk (Kd.R_drew HO_218001.out)
            have n1_ := Aside0.mk (Kd.R_drew HO_218004.out)
            have n2_ := Aside0.mk (blk_drew BK212.out)
            have n3_ := Aside0.mk (blk_drew BK217.out)
            have n4_ := Aside0.mk (IsS67.drew HI0.out)
            have n5_ := Aside0.mk (keep_drew HK.out)
            have n6_ := Aside0.mk (below_drew1 HB.out)
            clear HO_218001
            clear HO_218004
            clear BK212
            clear BK217
            clear HI0
            clear HK
            clear HB
            have HO_218001 := n0_
            have HO_218004 := n1_
            have BK212 := n2_
            have BK217 := n3_
            have HI0 := n4_
            have HK := n5_
            have HB := n6_
            clear n0_ n1_ n2_ n3_ n4_ n5_ n6_
            refine start_ (n := 9) (S := fun w' => w'.cell? ⟨gb217, 0, none⟩ = some (.int .i64 x218000_1) ∧ w'.cell? ⟨gb217, 1, none⟩ = some (u218001) ∧ w'.cell? ⟨gb217, 2, none⟩ = some (.int .i64 x218002_1) ∧ w'.cell? ⟨gb217, 3, none⟩ = some (.int .i64 x218003_1) ∧ w'.cell? ⟨gb217, 4, none⟩ = some (u218004)) (ds := []) #[false, false, false, false, false, false, false, false, false] (by kernel_rfl) rfl rfl ⟨(blk_cell BK217.out 0).trans rfl, (blk_cell BK217.out 1).trans rfl, (blk_cell BK217.out 2).trans rfl, (blk_cell BK217.out 3).trans rfl, (blk_cell BK217.out 4).trans rfl⟩ (fun hHeld => ?_); refine with_tabW spec_l20Mouth.tab10 spec_l20Mouth.bits10 (fun HT_ HW_ => ?_)
            generalize w43.drew = w44 at HO_218001 HO_218004 BK212 BK217 HI0 HK HB hHeld ⊢
            refine pu_ (i := 0) (N := some 50) HT_ ?_
            refine pu_ (i := 2) (N := some 52) HT_ ?_
            refine pu_ (i := 3) (N := some 53) HT_ ?_
            refine tk_ (i := 1) (N := some 51) HT_ HW_ hHeld ?_
            refine tk_ (i := 4) (N := some 54) HT_ HW_ hHeld ?_
            refine pu_ (i := 5) (N := some 55) HT_ ?_
            refine on_ (i := 6) (N := some 56) HT_ (fun K hK => ?_)
            refine goes_ Try.func30 (by kernel_rfl) rfl #[.pointer (some ⟨g, 0, none⟩), .int .i64 (wrap64 (x218002_1 + 1))] (by rfl) rfl rfl ar_ ?_
            with_reducible refine (spec_l20Rd_pick.calls k1 g s0_0 t221 (wrap64 (x218002_1 + 1)) t237 t238 w0 _ ?side1 ?side2 A36.out).mono ?_
            (case side1 => repeat (first | (with_reducible first | exact HI0.out | apply IsS67.alloc | apply IsS67.drewN | apply IsS67.drew | apply IsS67.set_1 | refine IsS67.far ?_ NB0_212.out _ | refine IsS67.far ?_ NB0_217.out _) | exact HI0.out))
            (case side2 => repeat (first | (with_reducible first | exact HB.out | apply below_alloc | apply pw_below_drewN | apply below_drew1 | refine below_set ?_ (IsS67.ge HI0.out) | refine below_set ?_ GE212.out | refine below_set ?_ GE217.out) | exact HB.out))
            rintro e w45 ⟨rfl, hi, hb, hk⟩
            refine ⟨_, rfl, ?_⟩
            have n0_ := Aside0.mk (Kd.R_mono (Kd.R_keep (IsS67.apart (show IsS67 w0 _ g s0_0 t221 from by repeat (first | (with_reducible first | exact HI0.out | apply IsS67.alloc | apply IsS67.drewN | apply IsS67.drew | apply IsS67.set_1 | refine IsS67.far ?_ NB0_212.out _ | refine IsS67.far ?_ NB0_217.out _) | exact HI0.out)) (kR_ HO_218001.out) (by decide)) hk (fun _ h => h.2)) (fun _ h => h.1))
            have n1_ := Aside0.mk (Kd.R_mono (Kd.R_keep (IsS67.apart (show IsS67 w0 _ g s0_0 t221 from by repeat (first | (with_reducible first | exact HI0.out | apply IsS67.alloc | apply IsS67.drewN | apply IsS67.drew | apply IsS67.set_1 | refine IsS67.far ?_ NB0_212.out _ | refine IsS67.far ?_ NB0_217.out _) | exact HI0.out)) (kR_ HO_218004.out) (by decide)) hk (fun _ h => h.2)) (fun _ h => h.1))
            have n2_ := Aside0.mk (KeepBut.blk hk (g' := gb212) (o := .cells #[.int .i64 0, .slice none 0 0, .int .i64 0, .int .i64 0, .slice none 0 0] 25 (0, 0)) (kb_ BK212.out) NB212_0.out (by simp))
            have n3_ := Aside0.mk (KeepBut.blk hk (g' := gb217) (o := .cells #[.int .i64 x218000_1, u218001, .int .i64 x218002_1, .int .i64 x218003_1, u218004] 25 (0, 0)) (kb_ BK217.out) NB217_0.out (by simp))
            have n4_ := Aside0.mk (KeepBut.trans (by repeat (first | (with_reducible first | exact HK.out | apply KeepBut.set_ | apply keep_drewN | apply keep_drew | apply keep_alloc | refine keep_far ?_ GW212.out _ | refine keep_far ?_ GW217.out _) | exact HK.out)) hk (.inl rfl))
            have n5_ := Aside0.mk (hb)
            have n6_ := Aside0.mk (hi)
            clear HO_218001
            clear HO_218004
            clear BK212
            clear BK217
            clear HK
            clear HB
            clear HI0
            have HO_218001 := n0_
            have HO_218004 := n1_
            have BK212 := n2_
            have BK217 := n3_
            have HK := n4_
            have HB := n5_
            have HI0 := n6_
            clear n0_ n1_ n2_ n3_ n4_ n5_ n6_
            (try clear hb)
            (try clear hb2)
            (try clear hk)
            (try clear hi)
            refine hK.out _ _ ⟨(blk_cell BK217.out 0).trans rfl, (blk_cell BK217.out 1).trans rfl, (blk_cell BK217.out 2).trans rfl, (blk_cell BK217.out 3).trans rfl, (blk_cell BK217.out 4).trans rfl⟩ (fun hHeld => ?_)
            clear hK K
            refine nm_ 56 ?_
            refine pu_ (i := 7) (N := some 57) HT_ ?_
            refine pu_ (i := 8) (N := some 7) HT_ ?_
            refine done_ (done_of HT_.out (by kernel_rfl)) ?_
            try go_wp2
            have n0_ := Aside0.mk (Kd.R_drew HO_218001.out)
            have n1_ := Aside0.mk (Kd.R_drew HO_218004.out)
            have n2_ := Aside0.mk (blk_drew BK212.out)
            have n3_ := Aside0.mk (blk_drew BK217.out)
            have n4_ := Aside0.mk (IsS67.drew HI0.out)
            have n5_ := Aside0.mk (keep_drew HK.out)
            have n6_ := Aside0.mk (below_drew1 HB.out)
            clear HO_218001
            clear HO_218004
            clear BK212
            clear BK217
            clear HI0
            clear HK
            clear HB
            have HO_218001 := n0_
            have HO_218004 := n1_
            have BK212 := n2_
            have BK217 := n3_
            have HI0 := n4_
            have HK := n5_
            have HB := n6_
            clear n0_ n1_ n2_ n3_ n4_ n5_ n6_
            refine start_ (n := 32) (S := fun w' => w'.cell? ⟨gb217, 0, none⟩ = some (.int .i64 x218000_1) ∧ w'.cell? ⟨gb217, 1, none⟩ = some (u218001) ∧ w'.cell? ⟨gb217, 2, none⟩ = some (.int .i64 x218002_1) ∧ w'.cell? ⟨gb217, 3, none⟩ = some (.int .i64 x218003_1) ∧ w'.cell? ⟨gb217, 4, none⟩ = some (u218004)) (ds := [31]) #[false, false, false, false, false, false, false, false, false, false, false, false, false, false, false, false, false, false, false, false, false, false, false, false, false, false, false, false, false, false, false, false] (by kernel_rfl) rfl rfl ⟨(blk_cell BK217.out 0).trans rfl, (blk_cell BK217.out 1).trans rfl, (blk_cell BK217.out 2).trans rfl, (blk_cell BK217.out 3).trans rfl, (blk_cell BK217.out 4).trans rfl⟩ (fun hHeld => ?_); refine with_tabW spec_l20Mouth.tab11 spec_l20Mouth.bits11 (fun HT_ HW_ => ?_)
            generalize w45.drew = w46 at HO_218001 HO_218004 BK212 BK217 HI0 HK HB hHeld ⊢
            refine pu_ (i := 1) (N := some 60) HT_ ?_
            refine pu_ (i := 2) (N := some 61) HT_ ?_
            refine pu_ (i := 4) (N := some 63) HT_ ?_
            refine pu_ (i := 5) (N := some 64) HT_ ?_
            refine pu_ (i := 6) (N := some 65) HT_ ?_
            refine pu_ (i := 9) (N := some 68) HT_ ?_
            refine pu_ (i := 10) (N := some 69) HT_ ?_
            refine pu_ (i := 11) (N := some 70) HT_ ?_
            refine pu_ (i := 15) (N := some 74) HT_ ?_
            refine pu_ (i := 16) (N := some 75) HT_ ?_
            refine pu_ (i := 17) (N := some 76) HT_ ?_
            refine pu_ (i := 20) (N := some 79) HT_ ?_
            refine pu_ (i := 21) (N := some 80) HT_ ?_
            refine pu_ (i := 22) (N := some 81) HT_ ?_
            refine tk_ (i := 0) (N := some 59) HT_ HW_ hHeld ?_
            refine on_ (i := 3) (N := some 62) HT_ (fun K hK => ?_)
            refine goes_ Try.func30 (by kernel_rfl) rfl #[.pointer (some ⟨g, 0, none⟩), .int .i64 30] (by rfl) rfl rfl ar_ ?_
            with_reducible refine (spec_l20Rd_pick.calls k1 g s0_0 t238 30 t239 t240 w0 _ ?side1 ?side2 A37.out).mono ?_
            (case side1 => repeat (first | (with_reducible first | exact HI0.out | apply IsS67.alloc | apply IsS67.drewN | apply IsS67.drew | apply IsS67.set_1 | refine IsS67.far ?_ NB0_212.out _ | refine IsS67.far ?_ NB0_217.out _) | exact HI0.out))
            (case side2 => repeat (first | (with_reducible first | exact HB.out | apply below_alloc | apply pw_below_drewN | apply below_drew1 | refine below_set ?_ (IsS67.ge HI0.out) | refine below_set ?_ GE212.out | refine below_set ?_ GE217.out) | exact HB.out))
            rintro e w47 ⟨rfl, hi, hb, hk⟩
            refine ⟨_, rfl, ?_⟩
            have n0_ := Aside0.mk (Kd.R_mono (Kd.R_keep (IsS67.apart (show IsS67 w0 _ g s0_0 t238 from by repeat (first | (with_reducible first | exact HI0.out | apply IsS67.alloc | apply IsS67.drewN | apply IsS67.drew | apply IsS67.set_1 | refine IsS67.far ?_ NB0_212.out _ | refine IsS67.far ?_ NB0_217.out _) | exact HI0.out)) (kR_ HO_218001.out) (by decide)) hk (fun _ h => h.2)) (fun _ h => h.1))
            have n1_ := Aside0.mk (Kd.R_mono (Kd.R_keep (IsS67.apart (show IsS67 w0 _ g s0_0 t238 from by repeat (first | (with_reducible first | exact HI0.out | apply IsS67.alloc | apply IsS67.drewN | apply IsS67.drew | apply IsS67.set_1 | refine IsS67.far ?_ NB0_212.out _ | refine IsS67.far ?_ NB0_217.out _) | exact HI0.out)) (kR_ HO_218004.out) (by decide)) hk (fun _ h => h.2)) (fun _ h => h.1))
            have n2_ := Aside0.mk (KeepBut.blk hk (g' := gb212) (o := .cells #[.int .i64 0, .slice none 0 0, .int .i64 0, .int .i64 0, .slice none 0 0] 25 (0, 0)) (kb_ BK212.out) NB212_0.out (by simp))
            have n3_ := Aside0.mk (KeepBut.blk hk (g' := gb217) (o := .cells #[.int .i64 x218000_1, u218001, .int .i64 x218002_1, .int .i64 x218003_1, u218004] 25 (0, 0)) (kb_ BK217.out) NB217_0.out (by simp))
            have n4_ := Aside0.mk (KeepBut.trans (by repeat (first | (with_reducible first | exact HK.out | apply KeepBut.set_ | apply keep_drewN | apply keep_drew | apply keep_alloc | refine keep_far ?_ GW212.out _ | refine keep_far ?_ GW217.out _) | exact HK.out)) hk (.inl rfl))
            have n5_ := Aside0.mk (hb)
            have n6_ := Aside0.mk (hi)
            clear HO_218001
            clear HO_218004
            clear BK212
            clear BK217
            clear HK
            clear HB
            clear HI0
            have HO_218001 := n0_
            have HO_218004 := n1_
            have BK212 := n2_
            have BK217 := n3_
            have HK := n4_
            have HB := n5_
            have HI0 := n6_
            clear n0_ n1_ n2_ n3_ n4_ n5_ n6_
            (try clear hb)
            (try clear hb2)
            (try clear hk)
            (try clear hi)
            refine hK.out _ _ ⟨(blk_cell BK217.out 0).trans rfl, (blk_cell BK217.out 1).trans rfl, (blk_cell BK217.out 2).trans rfl, (blk_cell BK217.out 3).trans rfl, (blk_cell BK217.out 4).trans rfl⟩ (fun hHeld => ?_)
            clear hK K
            refine nm_ 62 ?_
            refine on_ (i := 7) (N := some 66) HT_ (fun K hK => ?_)
            refine goes_ Try.func30 (by kernel_rfl) rfl #[.pointer (some ⟨g, 0, none⟩), .int .i64 4] (by rfl) rfl rfl ar_ ?_
            with_reducible refine (spec_l20Rd_pick.calls k1 g s0_0 t240 4 t241 t242 w0 _ ?side1 ?side2 A38.out).mono ?_
            (case side1 => repeat (first | (with_reducible first | exact HI0.out | apply IsS67.alloc | apply IsS67.drewN | apply IsS67.drew | apply IsS67.set_1 | refine IsS67.far ?_ NB0_212.out _ | refine IsS67.far ?_ NB0_217.out _) | exact HI0.out))
            (case side2 => repeat (first | (with_reducible first | exact HB.out | apply below_alloc | apply pw_below_drewN | apply below_drew1 | refine below_set ?_ (IsS67.ge HI0.out) | refine below_set ?_ GE212.out | refine below_set ?_ GE217.out) | exact HB.out))
            rintro e w48 ⟨rfl, hi, hb, hk⟩
            refine ⟨_, rfl, ?_⟩
            have n0_ := Aside0.mk (Kd.R_mono (Kd.R_keep (IsS67.apart (show IsS67 w0 _ g s0_0 t240 from by repeat (first | (with_reducible first | exact HI0.out | apply IsS67.alloc | apply IsS67.drewN | apply IsS67.drew | apply IsS67.set_1 | refine IsS67.far ?_ NB0_212.out _ | refine IsS67.far ?_ NB0_217.out _) | exact HI0.out)) (kR_ HO_218001.out) (by decide)) hk (fun _ h => h.2)) (fun _ h => h.1))
            have n1_ := Aside0.mk (Kd.R_mono (Kd.R_keep (IsS67.apart (show IsS67 w0 _ g s0_0 t240 from by repeat (first | (with_reducible first | exact HI0.out | apply IsS67.alloc | apply IsS67.drewN | apply IsS67.drew | apply IsS67.set_1 | refine IsS67.far ?_ NB0_212.out _ | refine IsS67.far ?_ NB0_217.out _) | exact HI0.out)) (kR_ HO_218004.out) (by decide)) hk (fun _ h => h.2)) (fun _ h => h.1))
            have n2_ := Aside0.mk (KeepBut.blk hk (g' := gb212) (o := .cells #[.int .i64 0, .slice none 0 0, .int .i64 0, .int .i64 0, .slice none 0 0] 25 (0, 0)) (kb_ BK212.out) NB212_0.out (by simp))
            have n3_ := Aside0.mk (KeepBut.blk hk (g' := gb217) (o := .cells #[.int .i64 x218000_1, u218001, .int .i64 x218002_1, .int .i64 x218003_1, u218004] 25 (0, 0)) (kb_ BK217.out) NB217_0.out (by simp))
            have n4_ := Aside0.mk (KeepBut.trans (by repeat (first | (with_reducible first | exact HK.out | apply KeepBut.set_ | apply keep_drewN | apply keep_drew | apply keep_alloc | refine keep_far ?_ GW212.out _ | refine keep_far ?_ GW217.out _) | exact HK.out)) hk (.inl rfl))
            have n5_ := Aside0.mk (hb)
            have n6_ := Aside0.mk (hi)
            clear HO_218001
            clear HO_218004
            clear BK212
            clear BK217
            clear HK
            clear HB
            clear HI0
            have HO_218001 := n0_
            have HO_218004 := n1_
            have BK212 := n2_
            have BK217 := n3_
            have HK := n4_
            have HB := n5_
            have HI0 := n6_
            clear n0_ n1_ n2_ n3_ n4_ n5_ n6_
            (try clear hb)
            (try clear hb2)
            (try clear hk)
            (try clear hi)
            refine hK.out _ _ ⟨(blk_cell BK217.out 0).trans rfl, (blk_cell BK217.out 1).trans rfl, (blk_cell BK217.out 2).trans rfl, (blk_cell BK217.out 3).trans rfl, (blk_cell BK217.out 4).trans rfl⟩ (fun hHeld => ?_)
            clear hK K
            refine nm_ 66 ?_
            refine pu_ (i := 8) (N := some 67) HT_ ?_
            refine on_ (i := 12) (N := some 71) HT_ (fun K hK => ?_)
            refine goes_ Try.func30 (by kernel_rfl) rfl #[.pointer (some ⟨g, 0, none⟩), .int .i64 6] (by rfl) rfl rfl ar_ ?_
            with_reducible refine (spec_l20Rd_pick.calls k1 g s0_0 t242 6 t243 t244 w0 _ ?side1 ?side2 A39.out).mono ?_
            (case side1 => repeat (first | (with_reducible first | exact HI0.out | apply IsS67.alloc | apply IsS67.drewN | apply IsS67.drew | apply IsS67.set_1 | refine IsS67.far ?_ NB0_212.out _ | refine IsS67.far ?_ NB0_217.out _) | exact HI0.out))
            (case side2 => repeat (first | (with_reducible first | exact HB.out | apply below_alloc | apply pw_below_drewN | apply below_drew1 | refine below_set ?_ (IsS67.ge HI0.out) | refine below_set ?_ GE212.out | refine below_set ?_ GE217.out) | exact HB.out))
            rintro e w49 ⟨rfl, hi, hb, hk⟩
            refine ⟨_, rfl, ?_⟩
            have n0_ := Aside0.mk (Kd.R_mono (Kd.R_keep (IsS67.apart (show IsS67 w0 _ g s0_0 t242 from by repeat (first | (with_reducible first | exact HI0.out | apply IsS67.alloc | apply IsS67.drewN | apply IsS67.drew | apply IsS67.set_1 | refine IsS67.far ?_ NB0_212.out _ | refine IsS67.far ?_ NB0_217.out _) | exact HI0.out)) (kR_ HO_218001.out) (by decide)) hk (fun _ h => h.2)) (fun _ h => h.1))
            have n1_ := Aside0.mk (Kd.R_mono (Kd.R_keep (IsS67.apart (show IsS67 w0 _ g s0_0 t242 from by repeat (first | (with_reducible first | exact HI0.out | apply IsS67.alloc | apply IsS67.drewN | apply IsS67.drew | apply IsS67.set_1 | refine IsS67.far ?_ NB0_212.out _ | refine IsS67.far ?_ NB0_217.out _) | exact HI0.out)) (kR_ HO_218004.out) (by decide)) hk (fun _ h => h.2)) (fun _ h => h.1))
            have n2_ := Aside0.mk (KeepBut.blk hk (g' := gb212) (o := .cells #[.int .i64 0, .slice none 0 0, .int .i64 0, .int .i64 0, .slice none 0 0] 25 (0, 0)) (kb_ BK212.out) NB212_0.out (by simp))
            have n3_ := Aside0.mk (KeepBut.blk hk (g' := gb217) (o := .cells #[.int .i64 x218000_1, u218001, .int .i64 x218002_1, .int .i64 x218003_1, u218004] 25 (0, 0)) (kb_ BK217.out) NB217_0.out (by simp))
            have n4_ := Aside0.mk (KeepBut.trans (by repeat (first | (with_reducible first | exact HK.out | apply KeepBut.set_ | apply keep_drewN | apply keep_drew | apply keep_alloc | refine keep_far ?_ GW212.out _ | refine keep_far ?_ GW217.out _) | exact HK.out)) hk (.inl rfl))
            have n5_ := Aside0.mk (hb)
            have n6_ := Aside0.mk (hi)
            clear HO_218001
            clear HO_218004
            clear BK212
            clear BK217
            clear HK
            clear HB
            clear HI0
            have HO_218001 := n0_
            have HO_218004 := n1_
            have BK212 := n2_
            have BK217 := n3_
            have HK := n4_
            have HB := n5_
            have HI0 := n6_
            clear n0_ n1_ n2_ n3_ n4_ n5_ n6_
            (try clear hb)
            (try clear hb2)
            (try clear hk)
            (try clear hi)
            refine hK.out _ _ ⟨(blk_cell BK217.out 0).trans rfl, (blk_cell BK217.out 1).trans rfl, (blk_cell BK217.out 2).trans rfl, (blk_cell BK217.out 3).trans rfl, (blk_cell BK217.out 4).trans rfl⟩ (fun hHeld => ?_)
            clear hK K
            refine nm_ 71 ?_
            refine pu_ (i := 13) (N := some 72) HT_ ?_
            refine pu_ (i := 14) (N := some 73) HT_ ?_
            refine on_ (i := 18) (N := some 77) HT_ (fun K hK => ?_)
            refine goes_ Try.func30 (by kernel_rfl) rfl #[.pointer (some ⟨g, 0, none⟩), .int .i64 4] (by rfl) rfl rfl ar_ ?_
            with_reducible refine (spec_l20Rd_pick.calls k1 g s0_0 t244 4 t245 t246 w0 _ ?side1 ?side2 A40.out).mono ?_
            (case side1 => repeat (first | (with_reducible first | exact HI0.out | apply IsS67.alloc | apply IsS67.drewN | apply IsS67.drew | apply IsS67.set_1 | refine IsS67.far ?_ NB0_212.out _ | refine IsS67.far ?_ NB0_217.out _) | exact HI0.out))
            (case side2 => repeat (first | (with_reducible first | exact HB.out | apply below_alloc | apply pw_below_drewN | apply below_drew1 | refine below_set ?_ (IsS67.ge HI0.out) | refine below_set ?_ GE212.out | refine below_set ?_ GE217.out) | exact HB.out))
            rintro e w50 ⟨rfl, hi, hb, hk⟩
            refine ⟨_, rfl, ?_⟩
            have n0_ := Aside0.mk (Kd.R_mono (Kd.R_keep (IsS67.apart (show IsS67 w0 _ g s0_0 t244 from by repeat (first | (with_reducible first | exact HI0.out | apply IsS67.alloc | apply IsS67.drewN | apply IsS67.drew | apply IsS67.set_1 | refine IsS67.far ?_ NB0_212.out _ | refine IsS67.far ?_ NB0_217.out _) | exact HI0.out)) (kR_ HO_218001.out) (by decide)) hk (fun _ h => h.2)) (fun _ h => h.1))
            have n1_ := Aside0.mk (Kd.R_mono (Kd.R_keep (IsS67.apart (show IsS67 w0 _ g s0_0 t244 from by repeat (first | (with_reducible first | exact HI0.out | apply IsS67.alloc | apply IsS67.drewN | apply IsS67.drew | apply IsS67.set_1 | refine IsS67.far ?_ NB0_212.out _ | refine IsS67.far ?_ NB0_217.out _) | exact HI0.out)) (kR_ HO_218004.out) (by decide)) hk (fun _ h => h.2)) (fun _ h => h.1))
            have n2_ := Aside0.mk (KeepBut.blk hk (g' := gb212) (o := .cells #[.int .i64 0, .slice none 0 0, .int .i64 0, .int .i64 0, .slice none 0 0] 25 (0, 0)) (kb_ BK212.out) NB212_0.out (by simp))
            have n3_ := Aside0.mk (KeepBut.blk hk (g' := gb217) (o := .cells #[.int .i64 x218000_1, u218001, .int .i64 x218002_1, .int .i64 x218003_1, u218004] 25 (0, 0)) (kb_ BK217.out) NB217_0.out (by simp))
            have n4_ := Aside0.mk (KeepBut.trans (by repeat (first | (with_reducible first | exact HK.out | apply KeepBut.set_ | apply keep_drewN | apply keep_drew | apply keep_alloc | refine keep_far ?_ GW212.out _ | refine keep_far ?_ GW217.out _) | exact HK.out)) hk (.inl rfl))
            have n5_ := Aside0.mk (hb)
            have n6_ := Aside0.mk (hi)
            clear HO_218001
            clear HO_218004
            clear BK212
            clear BK217
            clear HK
            clear HB
            clear HI0
            have HO_218001 := n0_
            have HO_218004 := n1_
            have BK212 := n2_
            have BK217 := n3_
            have HK := n4_
            have HB := n5_
            have HI0 := n6_
            clear n0_ n1_ n2_ n3_ n4_ n5_ n6_
            (try clear hb)
            (try clear hb2)
            (try clear hk)
            (try clear hi)
            refine hK.out _ _ ⟨(blk_cell BK217.out 0).trans rfl, (blk_cell BK217.out 1).trans rfl, (blk_cell BK217.out 2).trans rfl, (blk_cell BK217.out 3).trans rfl, (blk_cell BK217.out 4).trans rfl⟩ (fun hHeld => ?_)
            clear hK K
            refine nm_ 77 ?_
            refine pu_ (i := 19) (N := some 78) HT_ ?_
            refine on_ (i := 23) (N := some 82) HT_ (fun K hK => ?_)
            refine goes_ Try.func30 (by kernel_rfl) rfl #[.pointer (some ⟨g, 0, none⟩), .int .i64 9] (by rfl) rfl rfl ar_ ?_
            with_reducible refine (spec_l20Rd_pick.calls k1 g s0_0 t246 9 t247 t248 w0 _ ?side1 ?side2 A41.out).mono ?_
            (case side1 => repeat (first | (with_reducible first | exact HI0.out | apply IsS67.alloc | apply IsS67.drewN | apply IsS67.drew | apply IsS67.set_1 | refine IsS67.far ?_ NB0_212.out _ | refine IsS67.far ?_ NB0_217.out _) | exact HI0.out))
            (case side2 => repeat (first | (with_reducible first | exact HB.out | apply below_alloc | apply pw_below_drewN | apply below_drew1 | refine below_set ?_ (IsS67.ge HI0.out) | refine below_set ?_ GE212.out | refine below_set ?_ GE217.out) | exact HB.out))
            rintro e w51 ⟨rfl, hi, hb, hk⟩
            refine ⟨_, rfl, ?_⟩
            have n0_ := Aside0.mk (Kd.R_mono (Kd.R_keep (IsS67.apart (show IsS67 w0 _ g s0_0 t246 from by repeat (first | (with_reducible first | exact HI0.out | apply IsS67.alloc | apply IsS67.drewN | apply IsS67.drew | apply IsS67.set_1 | refine IsS67.far ?_ NB0_212.out _ | refine IsS67.far ?_ NB0_217.out _) | exact HI0.out)) (kR_ HO_218001.out) (by decide)) hk (fun _ h => h.2)) (fun _ h => h.1))
            have n1_ := Aside0.mk (Kd.R_mono (Kd.R_keep (IsS67.apart (show IsS67 w0 _ g s0_0 t246 from by repeat (first | (with_reducible first | exact HI0.out | apply IsS67.alloc | apply IsS67.drewN | apply IsS67.drew | apply IsS67.set_1 | refine IsS67.far ?_ NB0_212.out _ | refine IsS67.far ?_ NB0_217.out _) | exact HI0.out)) (kR_ HO_218004.out) (by decide)) hk (fun _ h => h.2)) (fun _ h => h.1))
            have n2_ := Aside0.mk (KeepBut.blk hk (g' := gb212) (o := .cells #[.int .i64 0, .slice none 0 0, .int .i64 0, .int .i64 0, .slice none 0 0] 25 (0, 0)) (kb_ BK212.out) NB212_0.out (by simp))
            have n3_ := Aside0.mk (KeepBut.blk hk (g' := gb217) (o := .cells #[.int .i64 x218000_1, u218001, .int .i64 x218002_1, .int .i64 x218003_1, u218004] 25 (0, 0)) (kb_ BK217.out) NB217_0.out (by simp))
            have n4_ := Aside0.mk (KeepBut.trans (by repeat (first | (with_reducible first | exact HK.out | apply KeepBut.set_ | apply keep_drewN | apply keep_drew | apply keep_alloc | refine keep_far ?_ GW212.out _ | refine keep_far ?_ GW217.out _) | exact HK.out)) hk (.inl rfl))
            have n5_ := Aside0.mk (hb)
            have n6_ := Aside0.mk (hi)
            clear HO_218001
            clear HO_218004
            clear BK212
            clear BK217
            clear HK
            clear HB
            clear HI0
            have HO_218001 := n0_
            have HO_218004 := n1_
            have BK212 := n2_
            have BK217 := n3_
            have HK := n4_
            have HB := n5_
            have HI0 := n6_
            clear n0_ n1_ n2_ n3_ n4_ n5_ n6_
            (try clear hb)
            (try clear hb2)
            (try clear hk)
            (try clear hi)
            refine hK.out _ _ ⟨(blk_cell BK217.out 0).trans rfl, (blk_cell BK217.out 1).trans rfl, (blk_cell BK217.out 2).trans rfl, (blk_cell BK217.out 3).trans rfl, (blk_cell BK217.out 4).trans rfl⟩ (fun hHeld => ?_)
            clear hK K
            refine nm_ 82 ?_
            refine pu_ (i := 24) (N := some 83) HT_ ?_
            refine pu_ (i := 25) (N := some 84) HT_ ?_
            refine on_ (i := 26) (N := some 85) HT_ (fun K hK => ?_)
            refine Kd.R_lit_step k60 _ 60 ?hg (N := 85) ?hd (xs := ([(⟨wrap64 ((wrap64 ((wrap64 (x218000_1 + t237)) + 1)) + t241), wrap64 ((wrap64 ((wrap64 (x218000_1 + t237)) + 2)) + t243)⟩ : S60), (⟨wrap64 ((wrap64 ((wrap64 (x218000_1 + t237)) + 5)) + t245), wrap64 ((wrap64 ((wrap64 (x218000_1 + t237)) + 6)) + t247)⟩ : S60)] : List (S60))) (inner := [.int .i64 (wrap64 ((wrap64 ((wrap64 (x218000_1 + t237)) + 1)) + t241)), .int .i64 (wrap64 ((wrap64 ((wrap64 (x218000_1 + t237)) + 2)) + t243)), .int .i64 (wrap64 ((wrap64 ((wrap64 (x218000_1 + t237)) + 5)) + t245)), .int .i64 (wrap64 ((wrap64 ((wrap64 (x218000_1 + t237)) + 6)) + t247))]) (ok := fun _ => True) (okp := fun _ => True) ?hr ?hp (fun _ hk => hk) trivial (Below.refl _ _) (Nat.le_refl _) (by simp) ?_; (case hd => rfl); (case hg => rfl); (case hr => first | (go_simp; done) | (go_simp; rfl)); (case hp => exact (Reps.c2 (show Kd.M k60 _ _ _ (⟨wrap64 ((wrap64 ((wrap64 (x218000_1 + t237)) + 1)) + t241), wrap64 ((wrap64 ((wrap64 (x218000_1 + t237)) + 2)) + t243)⟩ : S60) [.int .i64 (wrap64 ((wrap64 ((wrap64 (x218000_1 + t237)) + 1)) + t241)), .int .i64 (wrap64 ((wrap64 ((wrap64 (x218000_1 + t237)) + 2)) + t243))] from (k60_mkM _ _ _ (⟨wrap64 ((wrap64 ((wrap64 (x218000_1 + t237)) + 1)) + t241), wrap64 ((wrap64 ((wrap64 (x218000_1 + t237)) + 2)) + t243)⟩ : S60) )) (Reps.c2 (show Kd.M k60 _ _ _ (⟨wrap64 ((wrap64 ((wrap64 (x218000_1 + t237)) + 5)) + t245), wrap64 ((wrap64 ((wrap64 (x218000_1 + t237)) + 6)) + t247)⟩ : S60) [.int .i64 (wrap64 ((wrap64 ((wrap64 (x218000_1 + t237)) + 5)) + t245)), .int .i64 (wrap64 ((wrap64 ((wrap64 (x218000_1 + t237)) + 6)) + t247))] from (k60_mkM _ _ _ (⟨wrap64 ((wrap64 ((wrap64 (x218000_1 + t237)) + 5)) + t245), wrap64 ((wrap64 ((wrap64 (x218000_1 + t237)) + 6)) + t247)⟩ : S60) )) (Reps.none _ _))))
            intro v250 w52 ho53 hb hg_ hnew_
            clear hg_ hnew_
            (first | rw [← Ny249.out] at ho53 | (simp only [Int.reduceToNat] at ho53; rw [← Ny249.out] at ho53))
            have n0_ := Aside0.mk (Kd.R_below (kR_ HO_218001.out) hb)
            have n1_ := Aside0.mk (Kd.R_elder' (kR_ HO_218004.out) (Kd.R_base ho53) hb)
            have n2_ := Aside0.mk (Kd.R_lower (Kd.R_new' ho53 (Kd.R_lt (kR_ HO_218004.out))) (keep_size (w := w) (g := g) (row := none) (by repeat (first | (with_reducible first | exact HK.out | apply KeepBut.set_ | apply keep_drewN | apply keep_drew | apply keep_alloc | refine keep_far ?_ GW212.out _ | refine keep_far ?_ GW217.out _) | exact HK.out))))
            have n3_ := Aside0.mk (blk_below (g := gb212) (o := .cells #[.int .i64 0, .slice none 0 0, .int .i64 0, .int .i64 0, .slice none 0 0] 25 (0, 0)) (kb_ BK212.out) hb)
            have n4_ := Aside0.mk (blk_below (g := gb217) (o := .cells #[.int .i64 x218000_1, u218001, .int .i64 x218002_1, .int .i64 x218003_1, u218004] 25 (0, 0)) (kb_ BK217.out) hb)
            have n5_ := Aside0.mk (IsS67.below (by repeat (first | (with_reducible first | exact HI0.out | apply IsS67.alloc | apply IsS67.drewN | apply IsS67.drew | apply IsS67.set_1 | refine IsS67.far ?_ NB0_212.out _ | refine IsS67.far ?_ NB0_217.out _) | exact HI0.out)) hb)
            have n6_ := Aside0.mk (KeepBut.trans (by repeat (first | (with_reducible first | exact HK.out | apply KeepBut.set_ | apply keep_drewN | apply keep_drew | apply keep_alloc | refine keep_far ?_ GW212.out _ | refine keep_far ?_ GW217.out _) | exact HK.out)) (KeepBut.of_below hb g none) (.inl rfl))
            have n7_ := Aside0.mk (below_step (by repeat (first | (with_reducible first | exact HB.out | apply below_alloc | apply pw_below_drewN | apply below_drew1 | refine below_set ?_ (IsS67.ge HI0.out) | refine below_set ?_ GE212.out | refine below_set ?_ GE217.out) | exact HB.out)) hb)
            clear HO_218001
            clear HO_218004
            clear BK212
            clear BK217
            clear HI0
            clear HK
            clear HB
            have HO_218001 := n0_
            have HO_218004 := n1_
            have HO251 := n2_
            have BK212 := n3_
            have BK217 := n4_
            have HI0 := n5_
            have HK := n6_
            have HB := n7_
            clear n0_ n1_ n2_ n3_ n4_ n5_ n6_ n7_
            clear hb ho53
            obtain ⟨Ao54, co54, eo54⟩ := Kd.R_slice HO_218001.out
            (first | subst eo54 | (injection eo54 with f1_ f2_ f3_; have f4_ := f1_.symm; have f5_ := f3_.symm; clear f1_ f2_ f3_; subst f4_; subst f5_))
            obtain ⟨Ao55, co55, eo55⟩ := Kd.R_slice HO_218004.out
            (first | subst eo55 | (injection eo55 with f1_ f2_ f3_; have f4_ := f1_.symm; have f5_ := f3_.symm; clear f1_ f2_ f3_; subst f4_; subst f5_))
            obtain ⟨Ao56, co56, eo56⟩ := Kd.R_slice HO251.out
            (first | subst eo56 | (injection eo56 with f1_ f2_ f3_; have f4_ := f1_.symm; have f5_ := f3_.symm; clear f1_ f2_ f3_; subst f4_; subst f5_))
            refine hK.out _ _ ⟨(blk_cell BK217.out 0).trans rfl, (blk_cell BK217.out 1).trans rfl, (blk_cell BK217.out 2).trans rfl, (blk_cell BK217.out 3).trans rfl, (blk_cell BK217.out 4).trans rfl⟩ (fun hHeld => ?_)
            clear hK K
            refine nm_ 85 ?_
            refine on_ (i := 27) (N := some 86) HT_ (fun K hK => ?_)
            refine goes_ Try.func15 (by kernel_rfl) rfl #[.agg #[.int .i64 x218000_1, .slice Ao54 x218001_1.length co54, .int .i64 x218002_1, .int .i64 x218003_1, .slice Ao55 x218004_1.length co55], .int .i64 (wrap64 (x218000_1 + t237)), .int .i64 t239, .slice Ao56 y249.length co56] (by rfl) rfl rfl ar_ ?_
            with_reducible refine (spec_MouthHear.calls k1 x218000_1 _ _ x218001_1 x218002_1 x218003_1 _ _ x218004_1 (wrap64 (x218000_1 + t237)) t239 _ _ y249 t252 t253 t256 t257 t258 t261 _ ?side1 ?side2 ?side3 ?side4 ?side5 ?side6 A42.out).mono ?_
            (case side1 => exact kC_ (Kd.R_reads' HO_218001.out).2.2)
            (case side2 => exact (Kd.R_reads' HO_218001.out).2.1)
            (case side3 => exact kC_ (Kd.R_reads' HO_218004.out).2.2)
            (case side4 => exact (Kd.R_reads' HO_218004.out).2.1)
            (case side5 => exact kC_ (Kd.R_reads' HO251.out).2.2)
            (case side6 => exact (Kd.R_reads' HO251.out).2.1)
            rintro e w57 ⟨v254, v259, rfl, ho0, ho1, hb⟩
            refine ⟨_, rfl, ?_⟩
            have n0_ := Aside0.mk (Kd.R_elder' (kR_ HO_218001.out) (Kd.R_base ho0) hb)
            have n1_ := Aside0.mk (Kd.R_elder' (kR_ HO_218004.out) (Kd.R_base ho1) hb)
            have n2_ := Aside0.mk (Kd.R_elder' (kR_ HO251.out) (Kd.R_base ho1) hb)
            have n3_ := Aside0.mk (Kd.R_lower (Kd.R_new' ho0 (Kd.R_lt (kR_ HO_218001.out))) (keep_size (w := w) (g := g) (row := none) (by repeat (first | (with_reducible first | exact HK.out | apply KeepBut.set_ | apply keep_drewN | apply keep_drew | apply keep_alloc | refine keep_far ?_ GW212.out _ | refine keep_far ?_ GW217.out _) | exact HK.out))))
            have n4_ := Aside0.mk (Kd.R_lower (Kd.R_new' (Kd.R_new' ho1 (Kd.R_lt (kR_ HO_218004.out))) (Kd.R_lt (kR_ HO251.out))) (keep_size (w := w) (g := g) (row := none) (by repeat (first | (with_reducible first | exact HK.out | apply KeepBut.set_ | apply keep_drewN | apply keep_drew | apply keep_alloc | refine keep_far ?_ GW212.out _ | refine keep_far ?_ GW217.out _) | exact HK.out))))
            have n5_ := Aside0.mk (blk_below (g := gb212) (o := .cells #[.int .i64 0, .slice none 0 0, .int .i64 0, .int .i64 0, .slice none 0 0] 25 (0, 0)) (kb_ BK212.out) hb)
            have n6_ := Aside0.mk (blk_below (g := gb217) (o := .cells #[.int .i64 x218000_1, .slice Ao54 x218001_1.length co54, .int .i64 x218002_1, .int .i64 x218003_1, .slice Ao55 x218004_1.length co55] 25 (0, 0)) (kb_ BK217.out) hb)
            have n7_ := Aside0.mk (IsS67.below (by repeat (first | (with_reducible first | exact HI0.out | apply IsS67.alloc | apply IsS67.drewN | apply IsS67.drew | apply IsS67.set_1 | refine IsS67.far ?_ NB0_212.out _ | refine IsS67.far ?_ NB0_217.out _) | exact HI0.out)) hb)
            have n8_ := Aside0.mk (KeepBut.trans (by repeat (first | (with_reducible first | exact HK.out | apply KeepBut.set_ | apply keep_drewN | apply keep_drew | apply keep_alloc | refine keep_far ?_ GW212.out _ | refine keep_far ?_ GW217.out _) | exact HK.out)) (KeepBut.of_below hb g none) (.inl rfl))
            have n9_ := Aside0.mk (below_step (by repeat (first | (with_reducible first | exact HB.out | apply below_alloc | apply pw_below_drewN | apply below_drew1 | refine below_set ?_ (IsS67.ge HI0.out) | refine below_set ?_ GE212.out | refine below_set ?_ GE217.out) | exact HB.out)) hb)
            clear HO_218001
            clear HO_218004
            clear HO251
            clear BK212
            clear BK217
            clear HI0
            clear HK
            clear HB
            have HO_218001 := n0_
            have HO_218004 := n1_
            have HO251 := n2_
            have HO255 := n3_
            have HO260 := n4_
            have BK212 := n5_
            have BK217 := n6_
            have HI0 := n7_
            have HK := n8_
            have HB := n9_
            clear n0_ n1_ n2_ n3_ n4_ n5_ n6_ n7_ n8_ n9_
            (try clear hb)
            (try clear hb2)
            (try clear hk)
            (try clear hi)
            (try clear ho0)
            (try clear ho1)
            obtain ⟨Ao59, co59, eo59⟩ := Kd.R_slice HO255.out
            (first | subst eo59 | (injection eo59 with f1_ f2_ f3_; have f4_ := f1_.symm; have f5_ := f3_.symm; clear f1_ f2_ f3_; subst f4_; subst f5_))
            obtain ⟨Ao63, co63, eo63⟩ := Kd.R_slice HO260.out
            (first | subst eo63 | (injection eo63 with f1_ f2_ f3_; have f4_ := f1_.symm; have f5_ := f3_.symm; clear f1_ f2_ f3_; subst f4_; subst f5_))
            refine hK.out _ _ ⟨(blk_cell BK217.out 0).trans rfl, (blk_cell BK217.out 1).trans rfl, (blk_cell BK217.out 2).trans rfl, (blk_cell BK217.out 3).trans rfl, (blk_cell BK217.out 4).trans rfl⟩ (fun hHeld => ?_)
            clear hK K
            refine nm_ 86 ?_
            refine pu_ (i := 28) (N := some 58) HT_ ?_
            refine pu_ (i := 29) (N := some 87) HT_ ?_
            refine pu_ (i := 30) (N := some 88) HT_ ?_
            refine last_ (i := 31) (N := none) #[true, true, true, true, true, true, true, true, true, true, true, true, true, true, true, true, true, true, true, true, true, true, true, true, true, true, true, true, true, true, true, true] rfl rfl (one_of HT_.out (by kernel_rfl)) (by decide) (fun K hK => ?_)
            have hs58 : w57.cell? ⟨gb217, 0, none⟩ = some (.int .i64 x218000_1) := (blk_cell BK217.out 0).trans rfl
            have hfs58 := blk_frozen BK217.out 0
            have hns58_0 := NB212_217.out
            have hms58_0 := NB217_212.out
            have hs60 : w57.cell? ⟨gb217, 1, none⟩ = some (.slice Ao54 x218001_1.length co54) := (blk_cell BK217.out 1).trans rfl
            have hfs60 := blk_frozen BK217.out 1
            have hns60_0 := NB212_217.out
            have hms60_0 := NB217_212.out
            have hs61 : w57.cell? ⟨gb217, 2, none⟩ = some (.int .i64 x218002_1) := (blk_cell BK217.out 2).trans rfl
            have hfs61 := blk_frozen BK217.out 2
            have hns61_0 := NB212_217.out
            have hms61_0 := NB217_212.out
            have hs62 : w57.cell? ⟨gb217, 3, none⟩ = some (.int .i64 x218003_1) := (blk_cell BK217.out 3).trans rfl
            have hfs62 := blk_frozen BK217.out 3
            have hns62_0 := NB212_217.out
            have hms62_0 := NB217_212.out
            have hs64 : w57.cell? ⟨gb217, 4, none⟩ = some (.slice Ao55 x218004_1.length co55) := (blk_cell BK217.out 4).trans rfl
            have hfs64 := blk_frozen BK217.out 4
            have hns64_0 := NB212_217.out
            have hms64_0 := NB217_212.out
            refine skip_ (w1 := ?_) (by rfl) rfl ?_ ?_
            rotate_left
            · go_simp
              rfl
            refine hK.out _ _ ?_
            clear hK K
            refine done_ (done_of HT_.out (by kernel_rfl)) ?_
            try go_wp2
            go_roundg k1
            case measure => have := HK1.out; omega
            case rel => exact ⟨(wrap64 (x6_1 - 1)), (t248), (t252), (t253), (t256), (t257), (t258), (.slice Ao59 t253.length co59), (.slice Ao63 t258.length co63), (by first | rfl | (simp; done) | (simp [*]; done)), H', ⟨by have := HK1.out; omega⟩, ⟨by refine kR_ ?_; exact Kd.R_mono (Kd.R_f gb217 4 (.slice Ao63 t258.length co63) (Kd.R_f gb217 3 (.int .i64 t257) (Kd.R_f gb217 2 (.int .i64 t256) (Kd.R_f gb217 1 (.slice Ao59 t253.length co59) (Kd.R_f gb217 0 (.int .i64 t252) (Kd.R_types HO255.out BK217.out (by decide))))))) (fun _ hk => trivial)⟩, ⟨by refine kR_ ?_; exact Kd.R_mono (Kd.R_f gb217 4 (.slice Ao63 t258.length co63) (Kd.R_f gb217 3 (.int .i64 t257) (Kd.R_f gb217 2 (.int .i64 t256) (Kd.R_f gb217 1 (.slice Ao59 t253.length co59) (Kd.R_f gb217 0 (.int .i64 t252) (Kd.R_types HO260.out BK217.out (by decide))))))) (fun _ hk => trivial)⟩, ⟨by refine kb_ ?_; refine blk_far ?_ NB212_217.out _; refine kb_ ?_; refine blk_far ?_ NB212_217.out _; refine kb_ ?_; refine blk_far ?_ NB212_217.out _; refine kb_ ?_; refine blk_far ?_ NB212_217.out _; refine kb_ ?_; refine blk_far ?_ NB212_217.out _; refine kb_ ?_; exact BK212.out⟩, ⟨by refine kb_ ?_; refine blk_put (cs := #[.int .i64 t252, .slice Ao59 t253.length co59, .int .i64 t256, .int .i64 t257, .slice Ao55 x218004_1.length co55]) ?_ 4 _ rfl; refine kb_ ?_; refine blk_put (cs := #[.int .i64 t252, .slice Ao59 t253.length co59, .int .i64 t256, .int .i64 x218003_1, .slice Ao55 x218004_1.length co55]) ?_ 3 _ rfl; refine kb_ ?_; refine blk_put (cs := #[.int .i64 t252, .slice Ao59 t253.length co59, .int .i64 x218002_1, .int .i64 x218003_1, .slice Ao55 x218004_1.length co55]) ?_ 2 _ rfl; refine kb_ ?_; refine blk_put (cs := #[.int .i64 t252, .slice Ao54 x218001_1.length co54, .int .i64 x218002_1, .int .i64 x218003_1, .slice Ao55 x218004_1.length co55]) ?_ 1 _ rfl; refine kb_ ?_; refine blk_put (cs := #[.int .i64 x218000_1, .slice Ao54 x218001_1.length co54, .int .i64 x218002_1, .int .i64 x218003_1, .slice Ao55 x218004_1.length co55]) ?_ 0 _ rfl; refine kb_ ?_; exact BK217.out⟩, ⟨by repeat (first | (with_reducible first | exact HI0.out | apply IsS67.alloc | apply IsS67.drewN | apply IsS67.drew | apply IsS67.set_1 | refine IsS67.far ?_ NB0_212.out _ | refine IsS67.far ?_ NB0_217.out _) | exact HI0.out)⟩, ⟨by repeat (first | (with_reducible first | exact HK.out | apply KeepBut.set_ | apply keep_drewN | apply keep_drew | apply keep_alloc | refine keep_far ?_ GW212.out _ | refine keep_far ?_ GW217.out _) | exact HK.out)⟩, ⟨by repeat (first | (with_reducible first | exact HB.out | apply below_alloc | apply pw_below_drewN | apply below_drew1 | refine below_set ?_ (IsS67.ge HI0.out) | refine below_set ?_ GE212.out | refine below_set ?_ GE217.out) | exact HB.out)⟩⟩
          · rw [if_neg c35] at H
            have c35b0 : (t220 == 1) = false := beq_eq_false_iff_ne.mpr c35
            have c35b1 : (t220 != 1) = true := bne_iff_ne.mpr c35
            replace H := Option.bind_eq_some_iff.mp H
            obtain ⟨⟨t262, t263⟩, A650, H⟩ := H
            replace H : ((spec_MouthNext.f k1 x218000_1 x218001_1 x218002_1 x218003_1 x218004_1 (wrap64 (1 + t262))).bind fun bt264 => (spec_l20Mouth.l0 k1 a1 (wrap64 (x6_1 - 1)) s0_0 t263 bt264.1 bt264.2.1 bt264.2.2.1 bt264.2.2.2.1 bt264.2.2.2.2.1)) = some (r1, r2, r3, r4, r5, r6) := H
            have A65 := Aside0.mk A650
            clear A650
            replace H := Option.bind_eq_some_iff.mp H
            obtain ⟨⟨t264, t265, t268, t269, t270, t273, t274⟩, A660, H⟩ := H
            replace H : (spec_l20Mouth.l0 k1 a1 (wrap64 (x6_1 - 1)) s0_0 t263 t264 t265 t268 t269 t270) = some (r1, r2, r3, r4, r5, r6) := H
            have A66 := Aside0.mk A660
            clear A660
            have H' := Aside0.mk H
            clear H
            try go_wp2_with (first | ((with_reducible refine gate_callee (f := 30) rfl ?_); refine goesL_ (some 22) rfl rfl Try.func30 (by kernel_rfl) rfl #[.pointer (some ⟨g, 0, none⟩), .int .i64 4] rfl ar_ ?_; (with_reducible refine (spec_l20Rd_pick.calls k1 g s0_0 x1001_1 4 t220 t221 w0 _ ?side1 ?side2 A15.out).mono ?_); (case side1 => repeat (first | (with_reducible first | exact HI0.out | apply IsS67.alloc | apply IsS67.drewN | apply IsS67.drew | apply IsS67.set_1 | refine IsS67.far ?_ NB0_212.out _ | refine IsS67.far ?_ NB0_217.out _) | exact HI0.out)); (case side2 => repeat (first | (with_reducible first | exact HB.out | apply below_alloc | apply pw_below_drewN | apply below_drew1 | refine below_set ?_ (IsS67.ge HI0.out) | refine below_set ?_ GE212.out | refine below_set ?_ GE217.out) | exact HB.out)); rintro e w67 ⟨rfl, hi, hb, hk⟩; refine ⟨_, rfl, ?_⟩; have n0_ := Aside0.mk (Kd.R_mono (Kd.R_keep (IsS67.apart (show IsS67 w0 _ g s0_0 x1001_1 from by repeat (first | (with_reducible first | exact HI0.out | apply IsS67.alloc | apply IsS67.drewN | apply IsS67.drew | apply IsS67.set_1 | refine IsS67.far ?_ NB0_212.out _ | refine IsS67.far ?_ NB0_217.out _) | exact HI0.out)) (kR_ HO_218001.out) (by decide)) hk (fun _ h => h.2)) (fun _ h => h.1)); have n1_ := Aside0.mk (Kd.R_mono (Kd.R_keep (IsS67.apart (show IsS67 w0 _ g s0_0 x1001_1 from by repeat (first | (with_reducible first | exact HI0.out | apply IsS67.alloc | apply IsS67.drewN | apply IsS67.drew | apply IsS67.set_1 | refine IsS67.far ?_ NB0_212.out _ | refine IsS67.far ?_ NB0_217.out _) | exact HI0.out)) (kR_ HO_218004.out) (by decide)) hk (fun _ h => h.2)) (fun _ h => h.1)); have n2_ := Aside0.mk (KeepBut.blk hk (g' := gb212) (o := .cells #[.int .i64 0, .slice none 0 0, .int .i64 0, .int .i64 0, .slice none 0 0] 25 (0, 0)) (kb_ BK212.out) NB212_0.out (by simp)); have n3_ := Aside0.mk (KeepBut.blk hk (g' := gb217) (o := .cells #[.int .i64 x218000_1, u218001, .int .i64 x218002_1, .int .i64 x218003_1, u218004] 25 (0, 0)) (kb_ BK217.out) NB217_0.out (by simp)); have n4_ := Aside0.mk (KeepBut.trans (by repeat (first | (with_reducible first | exact HK.out | apply KeepBut.set_ | apply keep_drewN | apply keep_drew | apply keep_alloc | refine keep_far ?_ GW212.out _ | refine keep_far ?_ GW217.out _) | exact HK.out)) hk (.inl rfl)); have n5_ := Aside0.mk (hb); have n6_ := Aside0.mk (hi); clear HO_218001; clear HO_218004; clear BK212; clear BK217; clear HK; clear HB; clear HI0; have HO_218001 := n0_; have HO_218004 := n1_; have BK212 := n2_; have BK217 := n3_; have HK := n4_; have HB := n5_; have HI0 := n6_; clear n0_ n1_ n2_ n3_ n4_ n5_ n6_; (try clear hb); (try clear hb2); (try clear hk); (try clear hi)))
            have n0_ := Aside0.mk (Kd.R_drew HO_218001.out)
            have n1_ := Aside0.mk (Kd.R_drew HO_218004.out)
            have n2_ := Aside0.mk (blk_drew BK212.out)
            have n3_ := Aside0.mk (blk_drew BK217.out)
            have n4_ := Aside0.mk (IsS67.drew HI0.out)
            have n5_ := Aside0.mk (keep_drew HK.out)
            have n6_ := Aside0.mk (below_drew1 HB.out)
            clear HO_218001
            clear HO_218004
            clear BK212
            clear BK217
            clear HI0
            clear HK
            clear HB
            have HO_218001 := n0_
            have HO_218004 := n1_
            have BK212 := n2_
            have BK217 := n3_
            have HI0 := n4_
            have HK := n5_
            have HB := n6_
            clear n0_ n1_ n2_ n3_ n4_ n5_ n6_
            refine start_ (n := 10) (S := fun w' => w'.cell? ⟨gb217, 0, none⟩ = some (.int .i64 x218000_1) ∧ w'.cell? ⟨gb217, 1, none⟩ = some (u218001) ∧ w'.cell? ⟨gb217, 2, none⟩ = some (.int .i64 x218002_1) ∧ w'.cell? ⟨gb217, 3, none⟩ = some (.int .i64 x218003_1) ∧ w'.cell? ⟨gb217, 4, none⟩ = some (u218004)) (ds := [9]) #[false, false, false, false, false, false, false, false, false, false] (by kernel_rfl) rfl rfl ⟨(blk_cell BK217.out 0).trans rfl, (blk_cell BK217.out 1).trans rfl, (blk_cell BK217.out 2).trans rfl, (blk_cell BK217.out 3).trans rfl, (blk_cell BK217.out 4).trans rfl⟩ (fun hHeld => ?_); refine with_tabW spec_l20Mouth.tab6 spec_l20Mouth.bits6 (fun HT_ HW_ => ?_)
            generalize w67.drew = w68 at HO_218001 HO_218004 BK212 BK217 HI0 HK HB hHeld ⊢
            refine pu_ (i := 1) (N := some 25) HT_ ?_
            refine tk_ (i := 0) (N := some 24) HT_ HW_ hHeld ?_
            refine on_ (i := 2) (N := some 26) HT_ (fun K hK => ?_)
            refine goes_ Try.func30 (by kernel_rfl) rfl #[.pointer (some ⟨g, 0, none⟩), .int .i64 8] (by rfl) rfl rfl ar_ ?_
            with_reducible refine (spec_l20Rd_pick.calls k1 g s0_0 t221 8 t262 t263 w0 _ ?side1 ?side2 A65.out).mono ?_
            (case side1 => repeat (first | (with_reducible first | exact HI0.out | apply IsS67.alloc | apply IsS67.drewN | apply IsS67.drew | apply IsS67.set_1 | refine IsS67.far ?_ NB0_212.out _ | refine IsS67.far ?_ NB0_217.out _) | exact HI0.out))
            (case side2 => repeat (first | (with_reducible first | exact HB.out | apply below_alloc | apply pw_below_drewN | apply below_drew1 | refine below_set ?_ (IsS67.ge HI0.out) | refine below_set ?_ GE212.out | refine below_set ?_ GE217.out) | exact HB.out))
            rintro e w69 ⟨rfl, hi, hb, hk⟩
            refine ⟨_, rfl, ?_⟩
            have n0_ := Aside0.mk (Kd.R_mono (Kd.R_keep (IsS67.apart (show IsS67 w0 _ g s0_0 t221 from by repeat (first | (with_reducible first | exact HI0.out | apply IsS67.alloc | apply IsS67.drewN | apply IsS67.drew | apply IsS67.set_1 | refine IsS67.far ?_ NB0_212.out _ | refine IsS67.far ?_ NB0_217.out _) | exact HI0.out)) (kR_ HO_218001.out) (by decide)) hk (fun _ h => h.2)) (fun _ h => h.1))
            have n1_ := Aside0.mk (Kd.R_mono (Kd.R_keep (IsS67.apart (show IsS67 w0 _ g s0_0 t221 from by repeat (first | (with_reducible first | exact HI0.out | apply IsS67.alloc | apply IsS67.drewN | apply IsS67.drew | apply IsS67.set_1 | refine IsS67.far ?_ NB0_212.out _ | refine IsS67.far ?_ NB0_217.out _) | exact HI0.out)) (kR_ HO_218004.out) (by decide)) hk (fun _ h => h.2)) (fun _ h => h.1))
            have n2_ := Aside0.mk (KeepBut.blk hk (g' := gb212) (o := .cells #[.int .i64 0, .slice none 0 0, .int .i64 0, .int .i64 0, .slice none 0 0] 25 (0, 0)) (kb_ BK212.out) NB212_0.out (by simp))
            have n3_ := Aside0.mk (KeepBut.blk hk (g' := gb217) (o := .cells #[.int .i64 x218000_1, u218001, .int .i64 x218002_1, .int .i64 x218003_1, u218004] 25 (0, 0)) (kb_ BK217.out) NB217_0.out (by simp))
            have n4_ := Aside0.mk (KeepBut.trans (by repeat (first | (with_reducible first | exact HK.out | apply KeepBut.set_ | apply keep_drewN | apply keep_drew | apply keep_alloc | refine keep_far ?_ GW212.out _ | refine keep_far ?_ GW217.out _) | exact HK.out)) hk (.inl rfl))
            have n5_ := Aside0.mk (hb)
            have n6_ := Aside0.mk (hi)
            clear HO_218001
            clear HO_218004
            clear BK212
            clear BK217
            clear HK
            clear HB
            clear HI0
            have HO_218001 := n0_
            have HO_218004 := n1_
            have BK212 := n2_
            have BK217 := n3_
            have HK := n4_
            have HB := n5_
            have HI0 := n6_
            clear n0_ n1_ n2_ n3_ n4_ n5_ n6_
            (try clear hb)
            (try clear hb2)
            (try clear hk)
            (try clear hi)
            obtain ⟨Ao70, co70, eo70⟩ := Kd.R_slice HO_218001.out
            (first | subst eo70 | (injection eo70 with f1_ f2_ f3_; have f4_ := f1_.symm; have f5_ := f3_.symm; clear f1_ f2_ f3_; subst f4_; subst f5_))
            obtain ⟨Ao71, co71, eo71⟩ := Kd.R_slice HO_218004.out
            (first | subst eo71 | (injection eo71 with f1_ f2_ f3_; have f4_ := f1_.symm; have f5_ := f3_.symm; clear f1_ f2_ f3_; subst f4_; subst f5_))
            refine hK.out _ _ ⟨(blk_cell BK217.out 0).trans rfl, (blk_cell BK217.out 1).trans rfl, (blk_cell BK217.out 2).trans rfl, (blk_cell BK217.out 3).trans rfl, (blk_cell BK217.out 4).trans rfl⟩ (fun hHeld => ?_)
            clear hK K
            refine nm_ 26 ?_
            refine pu_ (i := 3) (N := some 27) HT_ ?_
            refine on_ (i := 4) (N := some 28) HT_ (fun K hK => ?_)
            refine goes_ Try.func47 (by kernel_rfl) rfl #[.agg #[.int .i64 x218000_1, .slice Ao70 x218001_1.length co70, .int .i64 x218002_1, .int .i64 x218003_1, .slice Ao71 x218004_1.length co71], .int .i64 (wrap64 (1 + t262))] (by rfl) rfl rfl ar_ ?_
            with_reducible refine (spec_MouthNext.calls k1 x218000_1 _ _ x218001_1 x218002_1 x218003_1 _ _ x218004_1 (wrap64 (1 + t262)) t264 t265 t268 t269 t270 t273 t274 _ ?side1 ?side2 ?side3 ?side4 A66.out).mono ?_
            (case side1 => exact kC_ (Kd.R_reads' HO_218001.out).2.2)
            (case side2 => exact (Kd.R_reads' HO_218001.out).2.1)
            (case side3 => exact kC_ (Kd.R_reads' HO_218004.out).2.2)
            (case side4 => exact (Kd.R_reads' HO_218004.out).2.1)
            rintro e w72 ⟨v266, v271, v275, rfl, ho0, ho1, ho2, hb⟩
            refine ⟨_, rfl, ?_⟩
            have n0_ := Aside0.mk (Kd.R_mono (Kd.R_told (Kd.R_told (Kd.R_old (kR_ HO_218001.out) hb) (Kd.R_base ho0)) (Kd.R_base ho2)) (fun _ h_ => op1_ h_))
            have n1_ := Aside0.mk (Kd.R_elder' (kR_ HO_218004.out) (Kd.R_base ho1) hb)
            have n2_ := Aside0.mk (Kd.R_lower (Kd.R_new' ho0 (Kd.R_lt (kR_ HO_218001.out))) (keep_size (w := w) (g := g) (row := none) (by repeat (first | (with_reducible first | exact HK.out | apply KeepBut.set_ | apply keep_drewN | apply keep_drew | apply keep_alloc | refine keep_far ?_ GW212.out _ | refine keep_far ?_ GW217.out _) | exact HK.out))))
            have n3_ := Aside0.mk (Kd.R_lower (Kd.R_new' ho1 (Kd.R_lt (kR_ HO_218004.out))) (keep_size (w := w) (g := g) (row := none) (by repeat (first | (with_reducible first | exact HK.out | apply KeepBut.set_ | apply keep_drewN | apply keep_drew | apply keep_alloc | refine keep_far ?_ GW212.out _ | refine keep_far ?_ GW217.out _) | exact HK.out))))
            have n4_ := Aside0.mk (Kd.R_lower (Kd.R_new' ho2 (Kd.R_lt (kR_ HO_218001.out))) (keep_size (w := w) (g := g) (row := none) (by repeat (first | (with_reducible first | exact HK.out | apply KeepBut.set_ | apply keep_drewN | apply keep_drew | apply keep_alloc | refine keep_far ?_ GW212.out _ | refine keep_far ?_ GW217.out _) | exact HK.out))))
            have n5_ := Aside0.mk (blk_below (g := gb212) (o := .cells #[.int .i64 0, .slice none 0 0, .int .i64 0, .int .i64 0, .slice none 0 0] 25 (0, 0)) (kb_ BK212.out) hb)
            have n6_ := Aside0.mk (blk_below (g := gb217) (o := .cells #[.int .i64 x218000_1, .slice Ao70 x218001_1.length co70, .int .i64 x218002_1, .int .i64 x218003_1, .slice Ao71 x218004_1.length co71] 25 (0, 0)) (kb_ BK217.out) hb)
            have n7_ := Aside0.mk (IsS67.below (by repeat (first | (with_reducible first | exact HI0.out | apply IsS67.alloc | apply IsS67.drewN | apply IsS67.drew | apply IsS67.set_1 | refine IsS67.far ?_ NB0_212.out _ | refine IsS67.far ?_ NB0_217.out _) | exact HI0.out)) hb)
            have n8_ := Aside0.mk (KeepBut.trans (by repeat (first | (with_reducible first | exact HK.out | apply KeepBut.set_ | apply keep_drewN | apply keep_drew | apply keep_alloc | refine keep_far ?_ GW212.out _ | refine keep_far ?_ GW217.out _) | exact HK.out)) (KeepBut.of_below hb g none) (.inl rfl))
            have n9_ := Aside0.mk (below_step (by repeat (first | (with_reducible first | exact HB.out | apply below_alloc | apply pw_below_drewN | apply below_drew1 | refine below_set ?_ (IsS67.ge HI0.out) | refine below_set ?_ GE212.out | refine below_set ?_ GE217.out) | exact HB.out)) hb)
            clear HO_218001
            clear HO_218004
            clear BK212
            clear BK217
            clear HI0
            clear HK
            clear HB
            have HO_218001 := n0_
            have HO_218004 := n1_
            have HO267 := n2_
            have HO272 := n3_
            have HO276 := n4_
            have BK212 := n5_
            have BK217 := n6_
            have HI0 := n7_
            have HK := n8_
            have HB := n9_
            clear n0_ n1_ n2_ n3_ n4_ n5_ n6_ n7_ n8_ n9_
            (try clear hb)
            (try clear hb2)
            (try clear hk)
            (try clear hi)
            (try clear ho0)
            (try clear ho1)
            (try clear ho2)
            obtain ⟨Ao74, co74, eo74⟩ := Kd.R_slice HO267.out
            (first | subst eo74 | (injection eo74 with f1_ f2_ f3_; have f4_ := f1_.symm; have f5_ := f3_.symm; clear f1_ f2_ f3_; subst f4_; subst f5_))
            obtain ⟨Ao78, co78, eo78⟩ := Kd.R_slice HO272.out
            (first | subst eo78 | (injection eo78 with f1_ f2_ f3_; have f4_ := f1_.symm; have f5_ := f3_.symm; clear f1_ f2_ f3_; subst f4_; subst f5_))
            refine hK.out _ _ ⟨(blk_cell BK217.out 0).trans rfl, (blk_cell BK217.out 1).trans rfl, (blk_cell BK217.out 2).trans rfl, (blk_cell BK217.out 3).trans rfl, (blk_cell BK217.out 4).trans rfl⟩ (fun hHeld => ?_)
            clear hK K
            refine nm_ 28 ?_
            refine pu_ (i := 5) (N := some 23) HT_ ?_
            refine pu_ (i := 6) (N := some 29) HT_ ?_
            refine pu_ (i := 7) (N := some 30) HT_ ?_
            refine pu_ (i := 8) (N := some 31) HT_ ?_
            refine last_ (i := 9) (N := none) #[true, true, true, true, true, true, true, true, true, true] rfl rfl (one_of HT_.out (by kernel_rfl)) (by decide) (fun K hK => ?_)
            have hs73 : w72.cell? ⟨gb217, 0, none⟩ = some (.int .i64 x218000_1) := (blk_cell BK217.out 0).trans rfl
            have hfs73 := blk_frozen BK217.out 0
            have hns73_0 := NB212_217.out
            have hms73_0 := NB217_212.out
            have hs75 : w72.cell? ⟨gb217, 1, none⟩ = some (.slice Ao70 x218001_1.length co70) := (blk_cell BK217.out 1).trans rfl
            have hfs75 := blk_frozen BK217.out 1
            have hns75_0 := NB212_217.out
            have hms75_0 := NB217_212.out
            have hs76 : w72.cell? ⟨gb217, 2, none⟩ = some (.int .i64 x218002_1) := (blk_cell BK217.out 2).trans rfl
            have hfs76 := blk_frozen BK217.out 2
            have hns76_0 := NB212_217.out
            have hms76_0 := NB217_212.out
            have hs77 : w72.cell? ⟨gb217, 3, none⟩ = some (.int .i64 x218003_1) := (blk_cell BK217.out 3).trans rfl
            have hfs77 := blk_frozen BK217.out 3
            have hns77_0 := NB212_217.out
            have hms77_0 := NB217_212.out
            have hs79 : w72.cell? ⟨gb217, 4, none⟩ = some (.slice Ao71 x218004_1.length co71) := (blk_cell BK217.out 4).trans rfl
            have hfs79 := blk_frozen BK217.out 4
            have hns79_0 := NB212_217.out
            have hms79_0 := NB217_212.out
            refine skip_ (w1 := ?_) (by rfl) rfl ?_ ?_
            rotate_left
            · go_simp
              rfl
            refine hK.out _ _ ?_
            clear hK K
            refine done_ (done_of HT_.out (by kernel_rfl)) ?_
            try go_wp2
            go_roundg k1
            case measure => have := HK1.out; omega
            case rel => exact ⟨(wrap64 (x6_1 - 1)), (t263), (t264), (t265), (t268), (t269), (t270), (.slice Ao74 t265.length co74), (.slice Ao78 t270.length co78), (by first | rfl | (simp; done) | (simp [*]; done)), H', ⟨by have := HK1.out; omega⟩, ⟨by refine kR_ ?_; exact Kd.R_mono (Kd.R_f gb217 4 (.slice Ao78 t270.length co78) (Kd.R_f gb217 3 (.int .i64 t269) (Kd.R_f gb217 2 (.int .i64 t268) (Kd.R_f gb217 1 (.slice Ao74 t265.length co74) (Kd.R_f gb217 0 (.int .i64 t264) (Kd.R_types HO267.out BK217.out (by decide))))))) (fun _ hk => trivial)⟩, ⟨by refine kR_ ?_; exact Kd.R_mono (Kd.R_f gb217 4 (.slice Ao78 t270.length co78) (Kd.R_f gb217 3 (.int .i64 t269) (Kd.R_f gb217 2 (.int .i64 t268) (Kd.R_f gb217 1 (.slice Ao74 t265.length co74) (Kd.R_f gb217 0 (.int .i64 t264) (Kd.R_types HO272.out BK217.out (by decide))))))) (fun _ hk => trivial)⟩, ⟨by refine kb_ ?_; refine blk_far ?_ NB212_217.out _; refine kb_ ?_; refine blk_far ?_ NB212_217.out _; refine kb_ ?_; refine blk_far ?_ NB212_217.out _; refine kb_ ?_; refine blk_far ?_ NB212_217.out _; refine kb_ ?_; refine blk_far ?_ NB212_217.out _; refine kb_ ?_; exact BK212.out⟩, ⟨by refine kb_ ?_; refine blk_put (cs := #[.int .i64 t264, .slice Ao74 t265.length co74, .int .i64 t268, .int .i64 t269, .slice Ao71 x218004_1.length co71]) ?_ 4 _ rfl; refine kb_ ?_; refine blk_put (cs := #[.int .i64 t264, .slice Ao74 t265.length co74, .int .i64 t268, .int .i64 x218003_1, .slice Ao71 x218004_1.length co71]) ?_ 3 _ rfl; refine kb_ ?_; refine blk_put (cs := #[.int .i64 t264, .slice Ao74 t265.length co74, .int .i64 x218002_1, .int .i64 x218003_1, .slice Ao71 x218004_1.length co71]) ?_ 2 _ rfl; refine kb_ ?_; refine blk_put (cs := #[.int .i64 t264, .slice Ao70 x218001_1.length co70, .int .i64 x218002_1, .int .i64 x218003_1, .slice Ao71 x218004_1.length co71]) ?_ 1 _ rfl; refine kb_ ?_; refine blk_put (cs := #[.int .i64 x218000_1, .slice Ao70 x218001_1.length co70, .int .i64 x218002_1, .int .i64 x218003_1, .slice Ao71 x218004_1.length co71]) ?_ 0 _ rfl; refine kb_ ?_; exact BK217.out⟩, ⟨by repeat (first | (with_reducible first | exact HI0.out | apply IsS67.alloc | apply IsS67.drewN | apply IsS67.drew | apply IsS67.set_1 | refine IsS67.far ?_ NB0_212.out _ | refine IsS67.far ?_ NB0_217.out _) | exact HI0.out)⟩, ⟨by repeat (first | (with_reducible first | exact HK.out | apply KeepBut.set_ | apply keep_drewN | apply keep_drew | apply keep_alloc | refine keep_far ?_ GW212.out _ | refine keep_far ?_ GW217.out _) | exact HK.out)⟩, ⟨by repeat (first | (with_reducible first | exact HB.out | apply below_alloc | apply pw_below_drewN | apply below_drew1 | refine below_set ?_ (IsS67.ge HI0.out) | refine below_set ?_ GE212.out | refine below_set ?_ GE217.out) | exact HB.out)⟩⟩
      · rw [if_neg c14] at H
        have c14b0 : decide (0 < x6_1) = false := decide_eq_false c14
        clear c14
        replace H := Option.bind_eq_some_iff.mp H
        obtain ⟨⟨t277, t278⟩, A800, H⟩ := H
        replace H : (if t277 = true then ((spec_l20Rd_pick.f k1 s0_0 t278 4).bind fun bt279 => (if bt279.1 = 0 then ((spec_l20Rd_pick.f k1 s0_0 bt279.2 40).bind fun bt281 => (some (x218000_1, x218001_1, wrap64 (bt281.1 - 1), x218003_1, x218004_1, bt281.2))) else (if bt279.1 = 1 then ((spec_l20Rd_pick.f k1 s0_0 bt279.2 2).bind fun bt283 => (some (x218000_1, x218001_1, x218002_1, wrap64 (256 - (wrap64 (bt283.1 * 300))), x218004_1, bt283.2))) else (if bt279.1 = 2 then ((spec_l20Rd_pick.f k1 s0_0 bt279.2 9).bind fun bt285 => ((spec_l20Rd_pick.f k1 s0_0 bt285.2 12).bind fun bt287 => (if x218004_1.length < 8796093022208 then (some (x218000_1, x218001_1, x218002_1, x218003_1, (x218004_1 ++ [(⟨wrap64 (x218000_1 + bt285.1), wrap64 (x218000_1 + bt287.1)⟩ : S60)]), bt287.2)) else (none)))) else (if 33 ≤ 281474976710656 then (some (x218000_1, (List.replicate 33 0), x218002_1, x218003_1, x218004_1, bt279.2)) else (none)))))) else (some (x218000_1, x218001_1, x218002_1, x218003_1, x218004_1, t278))) = some (r1, r2, r3, r4, r5, r6) := H
        have A80 := Aside0.mk A800
        clear A800
        by_cases c81 : t277 = true
        · subst c81
          have H1 : ((spec_l20Rd_pick.f k1 s0_0 t278 4).bind fun bt279 => (if bt279.1 = 0 then ((spec_l20Rd_pick.f k1 s0_0 bt279.2 40).bind fun bt281 => (some (x218000_1, x218001_1, wrap64 (bt281.1 - 1), x218003_1, x218004_1, bt281.2))) else (if bt279.1 = 1 then ((spec_l20Rd_pick.f k1 s0_0 bt279.2 2).bind fun bt283 => (some (x218000_1, x218001_1, x218002_1, wrap64 (256 - (wrap64 (bt283.1 * 300))), x218004_1, bt283.2))) else (if bt279.1 = 2 then ((spec_l20Rd_pick.f k1 s0_0 bt279.2 9).bind fun bt285 => ((spec_l20Rd_pick.f k1 s0_0 bt285.2 12).bind fun bt287 => (if x218004_1.length < 8796093022208 then (some (x218000_1, x218001_1, x218002_1, x218003_1, (x218004_1 ++ [(⟨wrap64 (x218000_1 + bt285.1), wrap64 (x218000_1 + bt287.1)⟩ : S60)]), bt287.2)) else (none)))) else (if 33 ≤ 281474976710656 then (some (x218000_1, (List.replicate 33 0), x218002_1, x218003_1, x218004_1, bt279.2)) else (none)))))) = some (r1, r2, r3, r4, r5, r6) := by rw [if_pos rfl] at H; exact H
          clear H
          have H := H1
          clear H1
          replace H := Option.bind_eq_some_iff.mp H
          obtain ⟨⟨t279, t280⟩, A820, H⟩ := H
          replace H : (if t279 = 0 then ((spec_l20Rd_pick.f k1 s0_0 t280 40).bind fun bt281 => (some (x218000_1, x218001_1, wrap64 (bt281.1 - 1), x218003_1, x218004_1, bt281.2))) else (if t279 = 1 then ((spec_l20Rd_pick.f k1 s0_0 t280 2).bind fun bt283 => (some (x218000_1, x218001_1, x218002_1, wrap64 (256 - (wrap64 (bt283.1 * 300))), x218004_1, bt283.2))) else (if t279 = 2 then ((spec_l20Rd_pick.f k1 s0_0 t280 9).bind fun bt285 => ((spec_l20Rd_pick.f k1 s0_0 bt285.2 12).bind fun bt287 => (if x218004_1.length < 8796093022208 then (some (x218000_1, x218001_1, x218002_1, x218003_1, (x218004_1 ++ [(⟨wrap64 (x218000_1 + bt285.1), wrap64 (x218000_1 + bt287.1)⟩ : S60)]), bt287.2)) else (none)))) else (if 33 ≤ 281474976710656 then (some (x218000_1, (List.replicate 33 0), x218002_1, x218003_1, x218004_1, t280)) else (none))))) = some (r1, r2, r3, r4, r5, r6) := H
          have A82 := Aside0.mk A820
          clear A820
          by_cases c83 : t279 = 0
          · rw [if_pos c83] at H
            have c83b0 : (t279 == 0) = true := beq_iff_eq.mpr c83
            have c83b1 : (t279 != 0) = false := bne_eq_false_iff_eq.mpr c83
            clear c83
            replace H := Option.bind_eq_some_iff.mp H
            obtain ⟨⟨t281, t282⟩, A840, H⟩ := H
            replace H : (some (x218000_1, x218001_1, wrap64 (t281 - 1), x218003_1, x218004_1, t282)) = some (r1, r2, r3, r4, r5, r6) := H
            have A84 := Aside0.mk A840
            clear A840
            simp only [Option.some.injEq, Prod.mk.injEq] at H
            obtain ⟨rfl, rfl, rfl, rfl, rfl, rfl⟩ := H
            go_wp2_with (first | ((with_reducible refine gate_callee (f := 48) rfl ?_); refine goesL_ (some 91) rfl rfl Try.func48 (by kernel_rfl) rfl #[.pointer (some ⟨g, 0, none⟩), .int .i64 a1] rfl ar_ ?_; (with_reducible refine (spec_l20Rd_odd.calls k1 g s0_0 x1001_1 a1 true t278 w0 _ ?side1 ?side2 A80.out).mono ?_); (case side1 => repeat (first | (with_reducible first | exact HI0.out | apply IsS67.alloc | apply IsS67.drewN | apply IsS67.drew | apply IsS67.set_1 | refine IsS67.far ?_ NB0_212.out _ | refine IsS67.far ?_ NB0_217.out _) | exact HI0.out)); (case side2 => repeat (first | (with_reducible first | exact HB.out | apply below_alloc | apply pw_below_drewN | apply below_drew1 | refine below_set ?_ (IsS67.ge HI0.out) | refine below_set ?_ GE212.out | refine below_set ?_ GE217.out) | exact HB.out)); rintro e w85 ⟨rfl, hi, hb, hk⟩; refine ⟨_, rfl, ?_⟩; have n0_ := Aside0.mk (Kd.R_mono (Kd.R_keep (IsS67.apart (show IsS67 w0 _ g s0_0 x1001_1 from by repeat (first | (with_reducible first | exact HI0.out | apply IsS67.alloc | apply IsS67.drewN | apply IsS67.drew | apply IsS67.set_1 | refine IsS67.far ?_ NB0_212.out _ | refine IsS67.far ?_ NB0_217.out _) | exact HI0.out)) (kR_ HO_218001.out) (by decide)) hk (fun _ h => h.2)) (fun _ h => h.1)); have n1_ := Aside0.mk (Kd.R_mono (Kd.R_keep (IsS67.apart (show IsS67 w0 _ g s0_0 x1001_1 from by repeat (first | (with_reducible first | exact HI0.out | apply IsS67.alloc | apply IsS67.drewN | apply IsS67.drew | apply IsS67.set_1 | refine IsS67.far ?_ NB0_212.out _ | refine IsS67.far ?_ NB0_217.out _) | exact HI0.out)) (kR_ HO_218004.out) (by decide)) hk (fun _ h => h.2)) (fun _ h => h.1)); have n2_ := Aside0.mk (KeepBut.blk hk (g' := gb212) (o := .cells #[.int .i64 0, .slice none 0 0, .int .i64 0, .int .i64 0, .slice none 0 0] 25 (0, 0)) (kb_ BK212.out) NB212_0.out (by simp)); have n3_ := Aside0.mk (KeepBut.blk hk (g' := gb217) (o := .cells #[.int .i64 x218000_1, u218001, .int .i64 x218002_1, .int .i64 x218003_1, u218004] 25 (0, 0)) (kb_ BK217.out) NB217_0.out (by simp)); have n4_ := Aside0.mk (KeepBut.trans (by repeat (first | (with_reducible first | exact HK.out | apply KeepBut.set_ | apply keep_drewN | apply keep_drew | apply keep_alloc | refine keep_far ?_ GW212.out _ | refine keep_far ?_ GW217.out _) | exact HK.out)) hk (.inl rfl)); have n5_ := Aside0.mk (hb); have n6_ := Aside0.mk (hi); clear HO_218001; clear HO_218004; clear BK212; clear BK217; clear HK; clear HB; clear HI0; have HO_218001 := n0_; have HO_218004 := n1_; have BK212 := n2_; have BK217 := n3_; have HK := n4_; have HB := n5_; have HI0 := n6_; clear n0_ n1_ n2_ n3_ n4_ n5_ n6_; (try clear hb); (try clear hb2); (try clear hk); (try clear hi)) | ((with_reducible refine gate_callee (f := 30) rfl ?_); refine goesL_ (some 93) rfl rfl Try.func30 (by kernel_rfl) rfl #[.pointer (some ⟨g, 0, none⟩), .int .i64 4] rfl ar_ ?_; (with_reducible refine (spec_l20Rd_pick.calls k1 g s0_0 t278 4 t279 t280 w0 _ ?side1 ?side2 A82.out).mono ?_); (case side1 => repeat (first | (with_reducible first | exact HI0.out | apply IsS67.alloc | apply IsS67.drewN | apply IsS67.drew | apply IsS67.set_1 | refine IsS67.far ?_ NB0_212.out _ | refine IsS67.far ?_ NB0_217.out _) | exact HI0.out)); (case side2 => repeat (first | (with_reducible first | exact HB.out | apply below_alloc | apply pw_below_drewN | apply below_drew1 | refine below_set ?_ (IsS67.ge HI0.out) | refine below_set ?_ GE212.out | refine below_set ?_ GE217.out) | exact HB.out)); rintro e w86 ⟨rfl, hi, hb, hk⟩; refine ⟨_, rfl, ?_⟩; have n0_ := Aside0.mk (Kd.R_mono (Kd.R_keep (IsS67.apart (show IsS67 w0 _ g s0_0 t278 from by repeat (first | (with_reducible first | exact HI0.out | apply IsS67.alloc | apply IsS67.drewN | apply IsS67.drew | apply IsS67.set_1 | refine IsS67.far ?_ NB0_212.out _ | refine IsS67.far ?_ NB0_217.out _) | exact HI0.out)) (kR_ HO_218001.out) (by decide)) hk (fun _ h => h.2)) (fun _ h => h.1)); have n1_ := Aside0.mk (Kd.R_mono (Kd.R_keep (IsS67.apart (show IsS67 w0 _ g s0_0 t278 from by repeat (first | (with_reducible first | exact HI0.out | apply IsS67.alloc | apply IsS67.drewN | apply IsS67.drew | apply IsS67.set_1 | refine IsS67.far ?_ NB0_212.out _ | refine IsS67.far ?_ NB0_217.out _) | exact HI0.out)) (kR_ HO_218004.out) (by decide)) hk (fun _ h => h.2)) (fun _ h => h.1)); have n2_ := Aside0.mk (KeepBut.blk hk (g' := gb212) (o := .cells #[.int .i64 0, .slice none 0 0, .int .i64 0, .int .i64 0, .slice none 0 0] 25 (0, 0)) (kb_ BK212.out) NB212_0.out (by simp)); have n3_ := Aside0.mk (KeepBut.blk hk (g' := gb217) (o := .cells #[.int .i64 x218000_1, u218001, .int .i64 x218002_1, .int .i64 x218003_1, u218004] 25 (0, 0)) (kb_ BK217.out) NB217_0.out (by simp)); have n4_ := Aside0.mk (KeepBut.trans (by repeat (first | (with_reducible first | exact HK.out | apply KeepBut.set_ | apply keep_drewN | apply keep_drew | apply keep_alloc | refine keep_far ?_ GW212.out _ | refine keep_far ?_ GW217.out _) | exact HK.out)) hk (.inl rfl)); have n5_ := Aside0.mk (hb); have n6_ := Aside0.mk (hi); clear HO_218001; clear HO_218004; clear BK212; clear BK217; clear HK; clear HB; clear HI0; have HO_218001 := n0_; have HO_218004 := n1_; have BK212 := n2_; have BK217 := n3_; have HK := n4_; have HB := n5_; have HI0 := n6_; clear n0_ n1_ n2_ n3_ n4_ n5_ n6_; (try clear hb); (try clear hb2); (try clear hk); (try clear hi)) | ((with_reducible refine gate_callee (f := 30) rfl ?_); refine goesL_ (some 99) rfl rfl Try.func30 (by kernel_rfl) rfl #[.pointer (some ⟨g, 0, none⟩), .int .i64 40] rfl ar_ ?_; (with_reducible refine (spec_l20Rd_pick.calls k1 g s0_0 t280 40 t281 t282 w0 _ ?side1 ?side2 A84.out).mono ?_); (case side1 => repeat (first | (with_reducible first | exact HI0.out | apply IsS67.alloc | apply IsS67.drewN | apply IsS67.drew | apply IsS67.set_1 | refine IsS67.far ?_ NB0_212.out _ | refine IsS67.far ?_ NB0_217.out _) | exact HI0.out)); (case side2 => repeat (first | (with_reducible first | exact HB.out | apply below_alloc | apply pw_below_drewN | apply below_drew1 | refine below_set ?_ (IsS67.ge HI0.out) | refine below_set ?_ GE212.out | refine below_set ?_ GE217.out) | exact HB.out)); rintro e w87 ⟨rfl, hi, hb, hk⟩; refine ⟨_, rfl, ?_⟩; have n0_ := Aside0.mk (Kd.R_mono (Kd.R_keep (IsS67.apart (show IsS67 w0 _ g s0_0 t280 from by repeat (first | (with_reducible first | exact HI0.out | apply IsS67.alloc | apply IsS67.drewN | apply IsS67.drew | apply IsS67.set_1 | refine IsS67.far ?_ NB0_212.out _ | refine IsS67.far ?_ NB0_217.out _) | exact HI0.out)) (kR_ HO_218001.out) (by decide)) hk (fun _ h => h.2)) (fun _ h => h.1)); have n1_ := Aside0.mk (Kd.R_mono (Kd.R_keep (IsS67.apart (show IsS67 w0 _ g s0_0 t280 from by repeat (first | (with_reducible first | exact HI0.out | apply IsS67.alloc | apply IsS67.drewN | apply IsS67.drew | apply IsS67.set_1 | refine IsS67.far ?_ NB0_212.out _ | refine IsS67.far ?_ NB0_217.out _) | exact HI0.out)) (kR_ HO_218004.out) (by decide)) hk (fun _ h => h.2)) (fun _ h => h.1)); have n2_ := Aside0.mk (KeepBut.blk hk (g' := gb212) (o := .cells #[.int .i64 0, .slice none 0 0, .int .i64 0, .int .i64 0, .slice none 0 0] 25 (0, 0)) (kb_ BK212.out) NB212_0.out (by simp)); have n3_ := Aside0.mk (KeepBut.blk hk (g' := gb217) (o := .cells #[.int .i64 x218000_1, u218001, .int .i64 x218002_1, .int .i64 x218003_1, u218004] 25 (0, 0)) (kb_ BK217.out) NB217_0.out (by simp)); have n4_ := Aside0.mk (KeepBut.trans (by repeat (first | (with_reducible first | exact HK.out | apply KeepBut.set_ | apply keep_drewN | apply keep_drew | apply keep_alloc | refine keep_far ?_ GW212.out _ | refine keep_far ?_ GW217.out _) | exact HK.out)) hk (.inl rfl)); have n5_ := Aside0.mk (hb); have n6_ := Aside0.mk (hi); clear HO_218001; clear HO_218004; clear BK212; clear BK217; clear HK; clear HB; clear HI0; have HO_218001 := n0_; have HO_218004 := n1_; have BK212 := n2_; have BK217 := n3_; have HK := n4_; have HB := n5_; have HI0 := n6_; clear n0_ n1_ n2_ n3_ n4_ n5_ n6_; (try clear hb); (try clear hb2); (try clear hk); (try clear hi); have hnb88 := NB217_212.out; have hnc88 := NB212_217.out; have hnb89 := NB217_0.out; have hnc89 := NB0_217.out; have hcz90_0 : w87.cell? ⟨gb217, 0, none⟩ = some (.int .i64 x218000_1) := (blk_cell BK217.out 0).trans rfl; have hcz90_1 : w87.cell? ⟨gb217, 1, none⟩ = some (u218001) := (blk_cell BK217.out 1).trans rfl; have hcz90_2 : w87.cell? ⟨gb217, 2, none⟩ = some (.int .i64 x218002_1) := (blk_cell BK217.out 2).trans rfl; have hcz90_3 : w87.cell? ⟨gb217, 3, none⟩ = some (.int .i64 x218003_1) := (blk_cell BK217.out 3).trans rfl; have hcz90_4 : w87.cell? ⟨gb217, 4, none⟩ = some (u218004) := (blk_cell BK217.out 4).trans rfl; have hfz90_0 := blk_frozen BK217.out 0; have hfz90_1 := blk_frozen BK217.out 1; have hfz90_2 := blk_frozen BK217.out 2; have hfz90_3 := blk_frozen BK217.out 3; have hfz90_4 := blk_frozen BK217.out 4; have hnb91 := NB212_0.out; have hnc91 := NB0_212.out; have hcz92_0 : w87.cell? ⟨gb212, 0, none⟩ = some (.int .i64 0) := (blk_cell BK212.out 0).trans rfl; have hcz92_1 : w87.cell? ⟨gb212, 1, none⟩ = some (.slice none 0 0) := (blk_cell BK212.out 1).trans rfl; have hcz92_2 : w87.cell? ⟨gb212, 2, none⟩ = some (.int .i64 0) := (blk_cell BK212.out 2).trans rfl; have hcz92_3 : w87.cell? ⟨gb212, 3, none⟩ = some (.int .i64 0) := (blk_cell BK212.out 3).trans rfl; have hcz92_4 : w87.cell? ⟨gb212, 4, none⟩ = some (.slice none 0 0) := (blk_cell BK212.out 4).trans rfl; have hfz92_0 := blk_frozen BK212.out 0; have hfz92_1 := blk_frozen BK212.out 1; have hfz92_2 := blk_frozen BK212.out 2; have hfz92_3 := blk_frozen BK212.out 3; have hfz92_4 := blk_frozen BK212.out 4; obtain ⟨Ao93, co93, eo93⟩ := Kd.R_slice HO_218001.out; subst eo93; obtain ⟨Ao94, co94, eo94⟩ := Kd.R_slice HO_218004.out; subst eo94))
            refine bodyPost_ret (results_cell_row rfl _ _ gb212 25 #[.int .i64 x218000_1, .slice Ao93 x218001_1.length co93, .int .i64 (wrap64 (t281 - 1)), .int .i64 x218003_1, .slice Ao94 x218004_1.length co94] (0, 0) _ rfl (by refine kb_ ?_; refine blk_put (cs := #[.int .i64 x218000_1, .slice Ao93 x218001_1.length co93, .int .i64 (wrap64 (t281 - 1)), .int .i64 x218003_1, .slice none 0 0]) ?_ 4 _ rfl; refine kb_ ?_; refine blk_put (cs := #[.int .i64 x218000_1, .slice Ao93 x218001_1.length co93, .int .i64 (wrap64 (t281 - 1)), .int .i64 0, .slice none 0 0]) ?_ 3 _ rfl; refine kb_ ?_; refine blk_put (cs := #[.int .i64 x218000_1, .slice Ao93 x218001_1.length co93, .int .i64 0, .int .i64 0, .slice none 0 0]) ?_ 2 _ rfl; refine kb_ ?_; refine blk_put (cs := #[.int .i64 x218000_1, .slice none 0 0, .int .i64 0, .int .i64 0, .slice none 0 0]) ?_ 1 _ rfl; refine kb_ ?_; refine blk_put (cs := #[.int .i64 0, .slice none 0 0, .int .i64 0, .int .i64 0, .slice none 0 0]) ?_ 0 _ rfl; refine kb_ ?_; refine blk_far ?_ NB212_217.out _; refine kb_ ?_; exact BK212.out) Try.underlying25 rfl (by kernel_rfl)) rfl ?_
            exact ⟨_, _, by first | rfl | (simp [errW_none, errW_some] <;> rfl) | (simp [*, errW_none, errW_some] <;> rfl), by refine kR_ ?_; exact Kd.R_mono (Kd.R_f gb212 4 (.slice Ao94 x218004_1.length co94) (Kd.R_f gb212 3 (.int .i64 x218003_1) (Kd.R_f gb212 2 (.int .i64 (wrap64 (t281 - 1))) (Kd.R_f gb212 1 (.slice Ao93 x218001_1.length co93) (Kd.R_f gb212 0 (.int .i64 x218000_1) (Kd.R_far (p := ⟨gb217, 2, none⟩) (Kd.R_types (Kd.R_types HO_218001.out BK217.out (by decide)) BK212.out (by decide)) (fun _ hk => hk.1.2) (.int .i64 (wrap64 (t281 - 1))))))))) (fun _ hk => trivial), by refine kR_ ?_; exact Kd.R_mono (Kd.R_f gb212 4 (.slice Ao94 x218004_1.length co94) (Kd.R_f gb212 3 (.int .i64 x218003_1) (Kd.R_f gb212 2 (.int .i64 (wrap64 (t281 - 1))) (Kd.R_f gb212 1 (.slice Ao93 x218001_1.length co93) (Kd.R_f gb212 0 (.int .i64 x218000_1) (Kd.R_far (p := ⟨gb217, 2, none⟩) (Kd.R_types (Kd.R_types HO_218004.out BK217.out (by decide)) BK212.out (by decide)) (fun _ hk => hk.1.2) (.int .i64 (wrap64 (t281 - 1))))))))) (fun _ hk => trivial), by repeat (first | (with_reducible first | exact HI0.out | apply IsS67.alloc | apply IsS67.drewN | apply IsS67.drew | apply IsS67.set_1 | refine IsS67.far ?_ NB0_212.out _ | refine IsS67.far ?_ NB0_217.out _) | exact HI0.out), by repeat (first | (with_reducible first | exact HB.out | apply below_alloc | apply pw_below_drewN | apply below_drew1 | refine below_set ?_ (IsS67.ge HI0.out) | refine below_set ?_ GE212.out | refine below_set ?_ GE217.out) | exact HB.out), by repeat (first | (with_reducible first | exact HK.out | apply KeepBut.set_ | apply keep_drewN | apply keep_drew | apply keep_alloc | refine keep_far ?_ GW212.out _ | refine keep_far ?_ GW217.out _) | exact HK.out)⟩
          · rw [if_neg c83] at H
            have c83b0 : (t279 == 0) = false := beq_eq_false_iff_ne.mpr c83
            have c83b1 : (t279 != 0) = true := bne_iff_ne.mpr c83
            by_cases c95 : t279 = 1
            · rw [if_pos c95] at H
              have c95b0 : (t279 == 1) = true := beq_iff_eq.mpr c95
              have c95b1 : (t279 != 1) = false := bne_eq_false_iff_eq.mpr c95
              clear c95
              replace H := Option.bind_eq_some_iff.mp H
              obtain ⟨⟨t283, t284⟩, A960, H⟩ := H
              replace H : (some (x218000_1, x218001_1, x218002_1, wrap64 (256 - (wrap64 (t283 * 300))), x218004_1, t284)) = some (r1, r2, r3, r4, r5, r6) := H
              have A96 := Aside0.mk A960
              clear A960
              simp only [Option.some.injEq, Prod.mk.injEq] at H
              obtain ⟨rfl, rfl, rfl, rfl, rfl, rfl⟩ := H
              go_wp2_with (first | ((with_reducible refine gate_callee (f := 48) rfl ?_); refine goesL_ (some 91) rfl rfl Try.func48 (by kernel_rfl) rfl #[.pointer (some ⟨g, 0, none⟩), .int .i64 a1] rfl ar_ ?_; (with_reducible refine (spec_l20Rd_odd.calls k1 g s0_0 x1001_1 a1 true t278 w0 _ ?side1 ?side2 A80.out).mono ?_); (case side1 => repeat (first | (with_reducible first | exact HI0.out | apply IsS67.alloc | apply IsS67.drewN | apply IsS67.drew | apply IsS67.set_1 | refine IsS67.far ?_ NB0_212.out _ | refine IsS67.far ?_ NB0_217.out _) | exact HI0.out)); (case side2 => repeat (first | (with_reducible first | exact HB.out | apply below_alloc | apply pw_below_drewN | apply below_drew1 | refine below_set ?_ (IsS67.ge HI0.out) | refine below_set ?_ GE212.out | refine below_set ?_ GE217.out) | exact HB.out)); rintro e w97 ⟨rfl, hi, hb, hk⟩; refine ⟨_, rfl, ?_⟩; have n0_ := Aside0.mk (Kd.R_mono (Kd.R_keep (IsS67.apart (show IsS67 w0 _ g s0_0 x1001_1 from by repeat (first | (with_reducible first | exact HI0.out | apply IsS67.alloc | apply IsS67.drewN | apply IsS67.drew | apply IsS67.set_1 | refine IsS67.far ?_ NB0_212.out _ | refine IsS67.far ?_ NB0_217.out _) | exact HI0.out)) (kR_ HO_218001.out) (by decide)) hk (fun _ h => h.2)) (fun _ h => h.1)); have n1_ := Aside0.mk (Kd.R_mono (Kd.R_keep (IsS67.apart (show IsS67 w0 _ g s0_0 x1001_1 from by repeat (first | (with_reducible first | exact HI0.out | apply IsS67.alloc | apply IsS67.drewN | apply IsS67.drew | apply IsS67.set_1 | refine IsS67.far ?_ NB0_212.out _ | refine IsS67.far ?_ NB0_217.out _) | exact HI0.out)) (kR_ HO_218004.out) (by decide)) hk (fun _ h => h.2)) (fun _ h => h.1)); have n2_ := Aside0.mk (KeepBut.blk hk (g' := gb212) (o := .cells #[.int .i64 0, .slice none 0 0, .int .i64 0, .int .i64 0, .slice none 0 0] 25 (0, 0)) (kb_ BK212.out) NB212_0.out (by simp)); have n3_ := Aside0.mk (KeepBut.blk hk (g' := gb217) (o := .cells #[.int .i64 x218000_1, u218001, .int .i64 x218002_1, .int .i64 x218003_1, u218004] 25 (0, 0)) (kb_ BK217.out) NB217_0.out (by simp)); have n4_ := Aside0.mk (KeepBut.trans (by repeat (first | (with_reducible first | exact HK.out | apply KeepBut.set_ | apply keep_drewN | apply keep_drew | apply keep_alloc | refine keep_far ?_ GW212.out _ | refine keep_far ?_ GW217.out _) | exact HK.out)) hk (.inl rfl)); have n5_ := Aside0.mk (hb); have n6_ := Aside0.mk (hi); clear HO_218001; clear HO_218004; clear BK212; clear BK217; clear HK; clear HB; clear HI0; have HO_218001 := n0_; have HO_218004 := n1_; have BK212 := n2_; have BK217 := n3_; have HK := n4_; have HB := n5_; have HI0 := n6_; clear n0_ n1_ n2_ n3_ n4_ n5_ n6_; (try clear hb); (try clear hb2); (try clear hk); (try clear hi)) | ((with_reducible refine gate_callee (f := 30) rfl ?_); refine goesL_ (some 93) rfl rfl Try.func30 (by kernel_rfl) rfl #[.pointer (some ⟨g, 0, none⟩), .int .i64 4] rfl ar_ ?_; (with_reducible refine (spec_l20Rd_pick.calls k1 g s0_0 t278 4 t279 t280 w0 _ ?side1 ?side2 A82.out).mono ?_); (case side1 => repeat (first | (with_reducible first | exact HI0.out | apply IsS67.alloc | apply IsS67.drewN | apply IsS67.drew | apply IsS67.set_1 | refine IsS67.far ?_ NB0_212.out _ | refine IsS67.far ?_ NB0_217.out _) | exact HI0.out)); (case side2 => repeat (first | (with_reducible first | exact HB.out | apply below_alloc | apply pw_below_drewN | apply below_drew1 | refine below_set ?_ (IsS67.ge HI0.out) | refine below_set ?_ GE212.out | refine below_set ?_ GE217.out) | exact HB.out)); rintro e w98 ⟨rfl, hi, hb, hk⟩; refine ⟨_, rfl, ?_⟩; have n0_ := Aside0.mk (Kd.R_mono (Kd.R_keep (IsS67.apart (show IsS67 w0 _ g s0_0 t278 from by repeat (first | (with_reducible first | exact HI0.out | apply IsS67.alloc | apply IsS67.drewN | apply IsS67.drew | apply IsS67.set_1 | refine IsS67.far ?_ NB0_212.out _ | refine IsS67.far ?_ NB0_217.out _) | exact HI0.out)) (kR_ HO_218001.out) (by decide)) hk (fun _ h => h.2)) (fun _ h => h.1)); have n1_ := Aside0.mk (Kd.R_mono (Kd.R_keep (IsS67.apart (show IsS67 w0 _ g s0_0 t278 from by repeat (first | (with_reducible first | exact HI0.out | apply IsS67.alloc | apply IsS67.drewN | apply IsS67.drew | apply IsS67.set_1 | refine IsS67.far ?_ NB0_212.out _ | refine IsS67.far ?_ NB0_217.out _) | exact HI0.out)) (kR_ HO_218004.out) (by decide)) hk (fun _ h => h.2)) (fun _ h => h.1)); have n2_ := Aside0.mk (KeepBut.blk hk (g' := gb212) (o := .cells #[.int .i64 0, .slice none 0 0, .int .i64 0, .int .i64 0, .slice none 0 0] 25 (0, 0)) (kb_ BK212.out) NB212_0.out (by simp)); have n3_ := Aside0.mk (KeepBut.blk hk (g' := gb217) (o := .cells #[.int .i64 x218000_1, u218001, .int .i64 x218002_1, .int .i64 x218003_1, u218004] 25 (0, 0)) (kb_ BK217.out) NB217_0.out (by simp)); have n4_ := Aside0.mk (KeepBut.trans (by repeat (first | (with_reducible first | exact HK.out | apply KeepBut.set_ | apply keep_drewN | apply keep_drew | apply keep_alloc | refine keep_far ?_ GW212.out _ | refine keep_far ?_ GW217.out _) | exact HK.out)) hk (.inl rfl)); have n5_ := Aside0.mk (hb); have n6_ := Aside0.mk (hi); clear HO_218001; clear HO_218004; clear BK212; clear BK217; clear HK; clear HB; clear HI0; have HO_218001 := n0_; have HO_218004 := n1_; have BK212 := n2_; have BK217 := n3_; have HK := n4_; have HB := n5_; have HI0 := n6_; clear n0_ n1_ n2_ n3_ n4_ n5_ n6_; (try clear hb); (try clear hb2); (try clear hk); (try clear hi)) | ((with_reducible refine gate_callee (f := 30) rfl ?_); refine goesL_ (some 105) rfl rfl Try.func30 (by kernel_rfl) rfl #[.pointer (some ⟨g, 0, none⟩), .int .i64 2] rfl ar_ ?_; (with_reducible refine (spec_l20Rd_pick.calls k1 g s0_0 t280 2 t283 t284 w0 _ ?side1 ?side2 A96.out).mono ?_); (case side1 => repeat (first | (with_reducible first | exact HI0.out | apply IsS67.alloc | apply IsS67.drewN | apply IsS67.drew | apply IsS67.set_1 | refine IsS67.far ?_ NB0_212.out _ | refine IsS67.far ?_ NB0_217.out _) | exact HI0.out)); (case side2 => repeat (first | (with_reducible first | exact HB.out | apply below_alloc | apply pw_below_drewN | apply below_drew1 | refine below_set ?_ (IsS67.ge HI0.out) | refine below_set ?_ GE212.out | refine below_set ?_ GE217.out) | exact HB.out)); rintro e w99 ⟨rfl, hi, hb, hk⟩; refine ⟨_, rfl, ?_⟩; have n0_ := Aside0.mk (Kd.R_mono (Kd.R_keep (IsS67.apart (show IsS67 w0 _ g s0_0 t280 from by repeat (first | (with_reducible first | exact HI0.out | apply IsS67.alloc | apply IsS67.drewN | apply IsS67.drew | apply IsS67.set_1 | refine IsS67.far ?_ NB0_212.out _ | refine IsS67.far ?_ NB0_217.out _) | exact HI0.out)) (kR_ HO_218001.out) (by decide)) hk (fun _ h => h.2)) (fun _ h => h.1)); have n1_ := Aside0.mk (Kd.R_mono (Kd.R_keep (IsS67.apart (show IsS67 w0 _ g s0_0 t280 from by repeat (first | (with_reducible first | exact HI0.out | apply IsS67.alloc | apply IsS67.drewN | apply IsS67.drew | apply IsS67.set_1 | refine IsS67.far ?_ NB0_212.out _ | refine IsS67.far ?_ NB0_217.out _) | exact HI0.out)) (kR_ HO_218004.out) (by decide)) hk (fun _ h => h.2)) (fun _ h => h.1)); have n2_ := Aside0.mk (KeepBut.blk hk (g' := gb212) (o := .cells #[.int .i64 0, .slice none 0 0, .int .i64 0, .int .i64 0, .slice none 0 0] 25 (0, 0)) (kb_ BK212.out) NB212_0.out (by simp)); have n3_ := Aside0.mk (KeepBut.blk hk (g' := gb217) (o := .cells #[.int .i64 x218000_1, u218001, .int .i64 x218002_1, .int .i64 x218003_1, u218004] 25 (0, 0)) (kb_ BK217.out) NB217_0.out (by simp)); have n4_ := Aside0.mk (KeepBut.trans (by repeat (first | (with_reducible first | exact HK.out | apply KeepBut.set_ | apply keep_drewN | apply keep_drew | apply keep_alloc | refine keep_far ?_ GW212.out _ | refine keep_far ?_ GW217.out _) | exact HK.out)) hk (.inl rfl)); have n5_ := Aside0.mk (hb); have n6_ := Aside0.mk (hi); clear HO_218001; clear HO_218004; clear BK212; clear BK217; clear HK; clear HB; clear HI0; have HO_218001 := n0_; have HO_218004 := n1_; have BK212 := n2_; have BK217 := n3_; have HK := n4_; have HB := n5_; have HI0 := n6_; clear n0_ n1_ n2_ n3_ n4_ n5_ n6_; (try clear hb); (try clear hb2); (try clear hk); (try clear hi); have hnb100 := NB217_212.out; have hnc100 := NB212_217.out; have hnb101 := NB217_0.out; have hnc101 := NB0_217.out; have hcz102_0 : w99.cell? ⟨gb217, 0, none⟩ = some (.int .i64 x218000_1) := (blk_cell BK217.out 0).trans rfl; have hcz102_1 : w99.cell? ⟨gb217, 1, none⟩ = some (u218001) := (blk_cell BK217.out 1).trans rfl; have hcz102_2 : w99.cell? ⟨gb217, 2, none⟩ = some (.int .i64 x218002_1) := (blk_cell BK217.out 2).trans rfl; have hcz102_3 : w99.cell? ⟨gb217, 3, none⟩ = some (.int .i64 x218003_1) := (blk_cell BK217.out 3).trans rfl; have hcz102_4 : w99.cell? ⟨gb217, 4, none⟩ = some (u218004) := (blk_cell BK217.out 4).trans rfl; have hfz102_0 := blk_frozen BK217.out 0; have hfz102_1 := blk_frozen BK217.out 1; have hfz102_2 := blk_frozen BK217.out 2; have hfz102_3 := blk_frozen BK217.out 3; have hfz102_4 := blk_frozen BK217.out 4; have hnb103 := NB212_0.out; have hnc103 := NB0_212.out; have hcz104_0 : w99.cell? ⟨gb212, 0, none⟩ = some (.int .i64 0) := (blk_cell BK212.out 0).trans rfl; have hcz104_1 : w99.cell? ⟨gb212, 1, none⟩ = some (.slice none 0 0) := (blk_cell BK212.out 1).trans rfl; have hcz104_2 : w99.cell? ⟨gb212, 2, none⟩ = some (.int .i64 0) := (blk_cell BK212.out 2).trans rfl; have hcz104_3 : w99.cell? ⟨gb212, 3, none⟩ = some (.int .i64 0) := (blk_cell BK212.out 3).trans rfl; have hcz104_4 : w99.cell? ⟨gb212, 4, none⟩ = some (.slice none 0 0) := (blk_cell BK212.out 4).trans rfl; have hfz104_0 := blk_frozen BK212.out 0; have hfz104_1 := blk_frozen BK212.out 1; have hfz104_2 := blk_frozen BK212.out 2; have hfz104_3 := blk_frozen BK212.out 3; have hfz104_4 := blk_frozen BK212.out 4; obtain ⟨Ao105, co105, eo105⟩ := Kd.R_slice HO_218001.out; subst eo105; obtain ⟨Ao106, co106, eo106⟩ := Kd.R_slice HO_218004.out; subst eo106))
              refine bodyPost_ret (results_cell_row rfl _ _ gb212 25 #[.int .i64 x218000_1, .slice Ao105 x218001_1.length co105, .int .i64 x218002_1, .int .i64 (wrap64 (256 - (wrap64 (t283 * 300)))), .slice Ao106 x218004_1.length co106] (0, 0) _ rfl (by refine kb_ ?_; refine blk_put (cs := #[.int .i64 x218000_1, .slice Ao105 x218001_1.length co105, .int .i64 x218002_1, .int .i64 (wrap64 (256 - (wrap64 (t283 * 300)))), .slice none 0 0]) ?_ 4 _ rfl; refine kb_ ?_; refine blk_put (cs := #[.int .i64 x218000_1, .slice Ao105 x218001_1.length co105, .int .i64 x218002_1, .int .i64 0, .slice none 0 0]) ?_ 3 _ rfl; refine kb_ ?_; refine blk_put (cs := #[.int .i64 x218000_1, .slice Ao105 x218001_1.length co105, .int .i64 0, .int .i64 0, .slice none 0 0]) ?_ 2 _ rfl; refine kb_ ?_; refine blk_put (cs := #[.int .i64 x218000_1, .slice none 0 0, .int .i64 0, .int .i64 0, .slice none 0 0]) ?_ 1 _ rfl; refine kb_ ?_; refine blk_put (cs := #[.int .i64 0, .slice none 0 0, .int .i64 0, .int .i64 0, .slice none 0 0]) ?_ 0 _ rfl; refine kb_ ?_; refine blk_far ?_ NB212_217.out _; refine kb_ ?_; exact BK212.out) Try.underlying25 rfl (by kernel_rfl)) rfl ?_
              exact ⟨_, _, by first | rfl | (simp [errW_none, errW_some] <;> rfl) | (simp [*, errW_none, errW_some] <;> rfl), by refine kR_ ?_; exact Kd.R_mono (Kd.R_f gb212 4 (.slice Ao106 x218004_1.length co106) (Kd.R_f gb212 3 (.int .i64 (wrap64 (256 - (wrap64 (t283 * 300))))) (Kd.R_f gb212 2 (.int .i64 x218002_1) (Kd.R_f gb212 1 (.slice Ao105 x218001_1.length co105) (Kd.R_f gb212 0 (.int .i64 x218000_1) (Kd.R_far (p := ⟨gb217, 3, none⟩) (Kd.R_types (Kd.R_types HO_218001.out BK217.out (by decide)) BK212.out (by decide)) (fun _ hk => hk.1.2) (.int .i64 (wrap64 (256 - (wrap64 (t283 * 300))))))))))) (fun _ hk => trivial), by refine kR_ ?_; exact Kd.R_mono (Kd.R_f gb212 4 (.slice Ao106 x218004_1.length co106) (Kd.R_f gb212 3 (.int .i64 (wrap64 (256 - (wrap64 (t283 * 300))))) (Kd.R_f gb212 2 (.int .i64 x218002_1) (Kd.R_f gb212 1 (.slice Ao105 x218001_1.length co105) (Kd.R_f gb212 0 (.int .i64 x218000_1) (Kd.R_far (p := ⟨gb217, 3, none⟩) (Kd.R_types (Kd.R_types HO_218004.out BK217.out (by decide)) BK212.out (by decide)) (fun _ hk => hk.1.2) (.int .i64 (wrap64 (256 - (wrap64 (t283 * 300))))))))))) (fun _ hk => trivial), by repeat (first | (with_reducible first | exact HI0.out | apply IsS67.alloc | apply IsS67.drewN | apply IsS67.drew | apply IsS67.set_1 | refine IsS67.far ?_ NB0_212.out _ | refine IsS67.far ?_ NB0_217.out _) | exact HI0.out), by repeat (first | (with_reducible first | exact HB.out | apply below_alloc | apply pw_below_drewN | apply below_drew1 | refine below_set ?_ (IsS67.ge HI0.out) | refine below_set ?_ GE212.out | refine below_set ?_ GE217.out) | exact HB.out), by repeat (first | (with_reducible first | exact HK.out | apply KeepBut.set_ | apply keep_drewN | apply keep_drew | apply keep_alloc | refine keep_far ?_ GW212.out _ | refine keep_far ?_ GW217.out _) | exact HK.out)⟩
            · rw [if_neg c95] at H
              have c95b0 : (t279 == 1) = false := beq_eq_false_iff_ne.mpr c95
              have c95b1 : (t279 != 1) = true := bne_iff_ne.mpr c95
              by_cases c107 : t279 = 2
              · rw [if_pos c107] at H
                have c107b0 : (t279 == 2) = true := beq_iff_eq.mpr c107
                have c107b1 : (t279 != 2) = false := bne_eq_false_iff_eq.mpr c107
                clear c107
                replace H := Option.bind_eq_some_iff.mp H
                obtain ⟨⟨t285, t286⟩, A1080, H⟩ := H
                replace H : ((spec_l20Rd_pick.f k1 s0_0 t286 12).bind fun bt287 => (if x218004_1.length < 8796093022208 then (some (x218000_1, x218001_1, x218002_1, x218003_1, (x218004_1 ++ [(⟨wrap64 (x218000_1 + t285), wrap64 (x218000_1 + bt287.1)⟩ : S60)]), bt287.2)) else (none))) = some (r1, r2, r3, r4, r5, r6) := H
                have A108 := Aside0.mk A1080
                clear A1080
                replace H := Option.bind_eq_some_iff.mp H
                obtain ⟨⟨t287, t288⟩, A1090, H⟩ := H
                replace H : (if x218004_1.length < 8796093022208 then (some (x218000_1, x218001_1, x218002_1, x218003_1, (x218004_1 ++ [(⟨wrap64 (x218000_1 + t285), wrap64 (x218000_1 + t287)⟩ : S60)]), t288)) else (none)) = some (r1, r2, r3, r4, r5, r6) := H
                have A109 := Aside0.mk A1090
                clear A1090
                by_cases c110 : x218004_1.length < 8796093022208
                · rw [if_pos c110] at H
                  have LMc110 := Aside0.mk c110
                  clear c110
                  obtain ⟨y289, hy289⟩ : ∃ y_ : List (S60), y_ = (x218004_1 ++ [(⟨wrap64 (x218000_1 + t285), wrap64 (x218000_1 + t287)⟩ : S60)]) := ⟨_, rfl⟩
                  replace H : (some (x218000_1, x218001_1, x218002_1, x218003_1, y289, t288)) = some (r1, r2, r3, r4, r5, r6) := by first | (rw [hy289]; with_reducible exact H) | (have H2_ := (Option.bind_some _ _).symm.trans H; rw [hy289]; with_reducible exact H2_) | (have H2_ := (Option.bind_some _ _).symm.trans H; with_reducible exact H2_) | with_reducible exact H | (rw [hy289]; exact H) | exact H
                  have Ny289 := Aside0.mk hy289
                  clear hy289
                  simp only [Option.some.injEq, Prod.mk.injEq] at H
                  obtain ⟨rfl, rfl, rfl, rfl, rfl, rfl⟩ := H
                  try go_wp2_with (first | ((with_reducible refine gate_callee (f := 48) rfl ?_); refine goesL_ (some 91) rfl rfl Try.func48 (by kernel_rfl) rfl #[.pointer (some ⟨g, 0, none⟩), .int .i64 a1] rfl ar_ ?_; (with_reducible refine (spec_l20Rd_odd.calls k1 g s0_0 x1001_1 a1 true t278 w0 _ ?side1 ?side2 A80.out).mono ?_); (case side1 => repeat (first | (with_reducible first | exact HI0.out | apply IsS67.alloc | apply IsS67.drewN | apply IsS67.drew | apply IsS67.set_1 | refine IsS67.far ?_ NB0_212.out _ | refine IsS67.far ?_ NB0_217.out _) | exact HI0.out)); (case side2 => repeat (first | (with_reducible first | exact HB.out | apply below_alloc | apply pw_below_drewN | apply below_drew1 | refine below_set ?_ (IsS67.ge HI0.out) | refine below_set ?_ GE212.out | refine below_set ?_ GE217.out) | exact HB.out)); rintro e w111 ⟨rfl, hi, hb, hk⟩; refine ⟨_, rfl, ?_⟩; have n0_ := Aside0.mk (Kd.R_mono (Kd.R_keep (IsS67.apart (show IsS67 w0 _ g s0_0 x1001_1 from by repeat (first | (with_reducible first | exact HI0.out | apply IsS67.alloc | apply IsS67.drewN | apply IsS67.drew | apply IsS67.set_1 | refine IsS67.far ?_ NB0_212.out _ | refine IsS67.far ?_ NB0_217.out _) | exact HI0.out)) (kR_ HO_218001.out) (by decide)) hk (fun _ h => h.2)) (fun _ h => h.1)); have n1_ := Aside0.mk (Kd.R_mono (Kd.R_keep (IsS67.apart (show IsS67 w0 _ g s0_0 x1001_1 from by repeat (first | (with_reducible first | exact HI0.out | apply IsS67.alloc | apply IsS67.drewN | apply IsS67.drew | apply IsS67.set_1 | refine IsS67.far ?_ NB0_212.out _ | refine IsS67.far ?_ NB0_217.out _) | exact HI0.out)) (kR_ HO_218004.out) (by decide)) hk (fun _ h => h.2)) (fun _ h => h.1)); have n2_ := Aside0.mk (KeepBut.blk hk (g' := gb212) (o := .cells #[.int .i64 0, .slice none 0 0, .int .i64 0, .int .i64 0, .slice none 0 0] 25 (0, 0)) (kb_ BK212.out) NB212_0.out (by simp)); have n3_ := Aside0.mk (KeepBut.blk hk (g' := gb217) (o := .cells #[.int .i64 x218000_1, u218001, .int .i64 x218002_1, .int .i64 x218003_1, u218004] 25 (0, 0)) (kb_ BK217.out) NB217_0.out (by simp)); have n4_ := Aside0.mk (KeepBut.trans (by repeat (first | (with_reducible first | exact HK.out | apply KeepBut.set_ | apply keep_drewN | apply keep_drew | apply keep_alloc | refine keep_far ?_ GW212.out _ | refine keep_far ?_ GW217.out _) | exact HK.out)) hk (.inl rfl)); have n5_ := Aside0.mk (hb); have n6_ := Aside0.mk (hi); clear HO_218001; clear HO_218004; clear BK212; clear BK217; clear HK; clear HB; clear HI0; have HO_218001 := n0_; have HO_218004 := n1_; have BK212 := n2_; have BK217 := n3_; have HK := n4_; have HB := n5_; have HI0 := n6_; clear n0_ n1_ n2_ n3_ n4_ n5_ n6_; (try clear hb); (try clear hb2); (try clear hk); (try clear hi)) | ((with_reducible refine gate_callee (f := 30) rfl ?_); refine goesL_ (some 93) rfl rfl Try.func30 (by kernel_rfl) rfl #[.pointer (some ⟨g, 0, none⟩), .int .i64 4] rfl ar_ ?_; (with_reducible refine (spec_l20Rd_pick.calls k1 g s0_0 t278 4 t279 t280 w0 _ ?side1 ?side2 A82.out).mono ?_); (case side1 => repeat (first | (with_reducible first | exact HI0.out | apply IsS67.alloc | apply IsS67.drewN | apply IsS67.drew | apply IsS67.set_1 | refine IsS67.far ?_ NB0_212.out _ | refine IsS67.far ?_ NB0_217.out _) | exact HI0.out)); (case side2 => repeat (first | (with_reducible first | exact HB.out | apply below_alloc | apply pw_below_drewN | apply below_drew1 | refine below_set ?_ (IsS67.ge HI0.out) | refine below_set ?_ GE212.out | refine below_set ?_ GE217.out) | exact HB.out)); rintro e w112 ⟨rfl, hi, hb, hk⟩; refine ⟨_, rfl, ?_⟩; have n0_ := Aside0.mk (Kd.R_mono (Kd.R_keep (IsS67.apart (show IsS67 w0 _ g s0_0 t278 from by repeat (first | (with_reducible first | exact HI0.out | apply IsS67.alloc | apply IsS67.drewN | apply IsS67.drew | apply IsS67.set_1 | refine IsS67.far ?_ NB0_212.out _ | refine IsS67.far ?_ NB0_217.out _) | exact HI0.out)) (kR_ HO_218001.out) (by decide)) hk (fun _ h => h.2)) (fun _ h => h.1)); have n1_ := Aside0.mk (Kd.R_mono (Kd.R_keep (IsS67.apart (show IsS67 w0 _ g s0_0 t278 from by repeat (first | (with_reducible first | exact HI0.out | apply IsS67.alloc | apply IsS67.drewN | apply IsS67.drew | apply IsS67.set_1 | refine IsS67.far ?_ NB0_212.out _ | refine IsS67.far ?_ NB0_217.out _) | exact HI0.out)) (kR_ HO_218004.out) (by decide)) hk (fun _ h => h.2)) (fun _ h => h.1)); have n2_ := Aside0.mk (KeepBut.blk hk (g' := gb212) (o := .cells #[.int .i64 0, .slice none 0 0, .int .i64 0, .int .i64 0, .slice none 0 0] 25 (0, 0)) (kb_ BK212.out) NB212_0.out (by simp)); have n3_ := Aside0.mk (KeepBut.blk hk (g' := gb217) (o := .cells #[.int .i64 x218000_1, u218001, .int .i64 x218002_1, .int .i64 x218003_1, u218004] 25 (0, 0)) (kb_ BK217.out) NB217_0.out (by simp)); have n4_ := Aside0.mk (KeepBut.trans (by repeat (first | (with_reducible first | exact HK.out | apply KeepBut.set_ | apply keep_drewN | apply keep_drew | apply keep_alloc | refine keep_far ?_ GW212.out _ | refine keep_far ?_ GW217.out _) | exact HK.out)) hk (.inl rfl)); have n5_ := Aside0.mk (hb); have n6_ := Aside0.mk (hi); clear HO_218001; clear HO_218004; clear BK212; clear BK217; clear HK; clear HB; clear HI0; have HO_218001 := n0_; have HO_218004 := n1_; have BK212 := n2_; have BK217 := n3_; have HK := n4_; have HB := n5_; have HI0 := n6_; clear n0_ n1_ n2_ n3_ n4_ n5_ n6_; (try clear hb); (try clear hb2); (try clear hk); (try clear hi)))
                  have n0_ := Aside0.mk (Kd.R_drew HO_218001.out)
                  have n1_ := Aside0.mk (Kd.R_drew HO_218004.out)
                  have n2_ := Aside0.mk (blk_drew BK212.out)
                  have n3_ := Aside0.mk (blk_drew BK217.out)
                  have n4_ := Aside0.mk (IsS67.drew HI0.out)
                  have n5_ := Aside0.mk (keep_drew HK.out)
                  have n6_ := Aside0.mk (below_drew1 HB.out)
                  clear HO_218001
                  clear HO_218004
                  clear BK212
                  clear BK217
                  clear HI0
                  clear HK
                  clear HB
                  have HO_218001 := n0_
                  have HO_218004 := n1_
                  have BK212 := n2_
                  have BK217 := n3_
                  have HI0 := n4_
                  have HK := n5_
                  have HB := n6_
                  clear n0_ n1_ n2_ n3_ n4_ n5_ n6_
                  refine start_ (n := 17) (S := fun w' => w'.cell? ⟨gb217, 0, none⟩ = some (.int .i64 x218000_1) ∧ w'.cell? ⟨gb217, 1, none⟩ = some (u218001) ∧ w'.cell? ⟨gb217, 2, none⟩ = some (.int .i64 x218002_1) ∧ w'.cell? ⟨gb217, 3, none⟩ = some (.int .i64 x218003_1) ∧ w'.cell? ⟨gb217, 4, none⟩ = some (u218004)) (ds := [16]) #[false, false, false, false, false, false, false, false, false, false, false, false, false, false, false, false, false] (by kernel_rfl) rfl rfl ⟨(blk_cell BK217.out 0).trans rfl, (blk_cell BK217.out 1).trans rfl, (blk_cell BK217.out 2).trans rfl, (blk_cell BK217.out 3).trans rfl, (blk_cell BK217.out 4).trans rfl⟩ (fun hHeld => ?_); refine with_tabW spec_l20Mouth.tab20 spec_l20Mouth.bits20 (fun HT_ HW_ => ?_)
                  generalize w112.drew = w113 at HO_218001 HO_218004 BK212 BK217 HI0 HK HB hHeld ⊢
                  refine pu_ (i := 0) (N := some 111) HT_ ?_
                  refine pu_ (i := 2) (N := some 113) HT_ ?_
                  refine pu_ (i := 4) (N := some 115) HT_ ?_
                  refine pu_ (i := 7) (N := some 118) HT_ ?_
                  refine pu_ (i := 9) (N := some 120) HT_ ?_
                  refine tk_ (i := 1) (N := some 112) HT_ HW_ hHeld ?_
                  refine tk_ (i := 3) (N := some 114) HT_ HW_ hHeld ?_
                  refine tk_ (i := 8) (N := some 119) HT_ HW_ hHeld ?_
                  refine on_ (i := 5) (N := some 116) HT_ (fun K hK => ?_)
                  refine goes_ Try.func30 (by kernel_rfl) rfl #[.pointer (some ⟨g, 0, none⟩), .int .i64 9] (by rfl) rfl rfl ar_ ?_
                  with_reducible refine (spec_l20Rd_pick.calls k1 g s0_0 t280 9 t285 t286 w0 _ ?side1 ?side2 A108.out).mono ?_
                  (case side1 => repeat (first | (with_reducible first | exact HI0.out | apply IsS67.alloc | apply IsS67.drewN | apply IsS67.drew | apply IsS67.set_1 | refine IsS67.far ?_ NB0_212.out _ | refine IsS67.far ?_ NB0_217.out _) | exact HI0.out))
                  (case side2 => repeat (first | (with_reducible first | exact HB.out | apply below_alloc | apply pw_below_drewN | apply below_drew1 | refine below_set ?_ (IsS67.ge HI0.out) | refine below_set ?_ GE212.out | refine below_set ?_ GE217.out) | exact HB.out))
                  rintro e w114 ⟨rfl, hi, hb, hk⟩
                  refine ⟨_, rfl, ?_⟩
                  have n0_ := Aside0.mk (Kd.R_mono (Kd.R_keep (IsS67.apart (show IsS67 w0 _ g s0_0 t280 from by repeat (first | (with_reducible first | exact HI0.out | apply IsS67.alloc | apply IsS67.drewN | apply IsS67.drew | apply IsS67.set_1 | refine IsS67.far ?_ NB0_212.out _ | refine IsS67.far ?_ NB0_217.out _) | exact HI0.out)) (kR_ HO_218001.out) (by decide)) hk (fun _ h => h.2)) (fun _ h => h.1))
                  have n1_ := Aside0.mk (Kd.R_mono (Kd.R_keep (IsS67.apart (show IsS67 w0 _ g s0_0 t280 from by repeat (first | (with_reducible first | exact HI0.out | apply IsS67.alloc | apply IsS67.drewN | apply IsS67.drew | apply IsS67.set_1 | refine IsS67.far ?_ NB0_212.out _ | refine IsS67.far ?_ NB0_217.out _) | exact HI0.out)) (kR_ HO_218004.out) (by decide)) hk (fun _ h => h.2)) (fun _ h => h.1))
                  have n2_ := Aside0.mk (KeepBut.blk hk (g' := gb212) (o := .cells #[.int .i64 0, .slice none 0 0, .int .i64 0, .int .i64 0, .slice none 0 0] 25 (0, 0)) (kb_ BK212.out) NB212_0.out (by simp))
                  have n3_ := Aside0.mk (KeepBut.blk hk (g' := gb217) (o := .cells #[.int .i64 x218000_1, u218001, .int .i64 x218002_1, .int .i64 x218003_1, u218004] 25 (0, 0)) (kb_ BK217.out) NB217_0.out (by simp))
                  have n4_ := Aside0.mk (KeepBut.trans (by repeat (first | (with_reducible first | exact HK.out | apply KeepBut.set_ | apply keep_drewN | apply keep_drew | apply keep_alloc | refine keep_far ?_ GW212.out _ | refine keep_far ?_ GW217.out _) | exact HK.out)) hk (.inl rfl))
                  have n5_ := Aside0.mk (hb)
                  have n6_ := Aside0.mk (hi)
                  clear HO_218001
                  clear HO_218004
                  clear BK212
                  clear BK217
                  clear HK
                  clear HB
                  clear HI0
                  have HO_218001 := n0_
                  have HO_218004 := n1_
                  have BK212 := n2_
                  have BK217 := n3_
                  have HK := n4_
                  have HB := n5_
                  have HI0 := n6_
                  clear n0_ n1_ n2_ n3_ n4_ n5_ n6_
                  (try clear hb)
                  (try clear hb2)
                  (try clear hk)
                  (try clear hi)
                  refine hK.out _ _ ⟨(blk_cell BK217.out 0).trans rfl, (blk_cell BK217.out 1).trans rfl, (blk_cell BK217.out 2).trans rfl, (blk_cell BK217.out 3).trans rfl, (blk_cell BK217.out 4).trans rfl⟩ (fun hHeld => ?_)
                  clear hK K
                  refine nm_ 116 ?_
                  refine pu_ (i := 6) (N := some 117) HT_ ?_
                  refine on_ (i := 10) (N := some 121) HT_ (fun K hK => ?_)
                  refine goes_ Try.func30 (by kernel_rfl) rfl #[.pointer (some ⟨g, 0, none⟩), .int .i64 12] (by rfl) rfl rfl ar_ ?_
                  with_reducible refine (spec_l20Rd_pick.calls k1 g s0_0 t286 12 t287 t288 w0 _ ?side1 ?side2 A109.out).mono ?_
                  (case side1 => repeat (first | (with_reducible first | exact HI0.out | apply IsS67.alloc | apply IsS67.drewN | apply IsS67.drew | apply IsS67.set_1 | refine IsS67.far ?_ NB0_212.out _ | refine IsS67.far ?_ NB0_217.out _) | exact HI0.out))
                  (case side2 => repeat (first | (with_reducible first | exact HB.out | apply below_alloc | apply pw_below_drewN | apply below_drew1 | refine below_set ?_ (IsS67.ge HI0.out) | refine below_set ?_ GE212.out | refine below_set ?_ GE217.out) | exact HB.out))
                  rintro e w115 ⟨rfl, hi, hb, hk⟩
                  refine ⟨_, rfl, ?_⟩
                  have n0_ := Aside0.mk (Kd.R_mono (Kd.R_keep (IsS67.apart (show IsS67 w0 _ g s0_0 t286 from by repeat (first | (with_reducible first | exact HI0.out | apply IsS67.alloc | apply IsS67.drewN | apply IsS67.drew | apply IsS67.set_1 | refine IsS67.far ?_ NB0_212.out _ | refine IsS67.far ?_ NB0_217.out _) | exact HI0.out)) (kR_ HO_218001.out) (by decide)) hk (fun _ h => h.2)) (fun _ h => h.1))
                  have n1_ := Aside0.mk (Kd.R_mono (Kd.R_keep (IsS67.apart (show IsS67 w0 _ g s0_0 t286 from by repeat (first | (with_reducible first | exact HI0.out | apply IsS67.alloc | apply IsS67.drewN | apply IsS67.drew | apply IsS67.set_1 | refine IsS67.far ?_ NB0_212.out _ | refine IsS67.far ?_ NB0_217.out _) | exact HI0.out)) (kR_ HO_218004.out) (by decide)) hk (fun _ h => h.2)) (fun _ h => h.1))
                  have n2_ := Aside0.mk (KeepBut.blk hk (g' := gb212) (o := .cells #[.int .i64 0, .slice none 0 0, .int .i64 0, .int .i64 0, .slice none 0 0] 25 (0, 0)) (kb_ BK212.out) NB212_0.out (by simp))
                  have n3_ := Aside0.mk (KeepBut.blk hk (g' := gb217) (o := .cells #[.int .i64 x218000_1, u218001, .int .i64 x218002_1, .int .i64 x218003_1, u218004] 25 (0, 0)) (kb_ BK217.out) NB217_0.out (by simp))
                  have n4_ := Aside0.mk (KeepBut.trans (by repeat (first | (with_reducible first | exact HK.out | apply KeepBut.set_ | apply keep_drewN | apply keep_drew | apply keep_alloc | refine keep_far ?_ GW212.out _ | refine keep_far ?_ GW217.out _) | exact HK.out)) hk (.inl rfl))
                  have n5_ := Aside0.mk (hb)
                  have n6_ := Aside0.mk (hi)
                  clear HO_218001
                  clear HO_218004
                  clear BK212
                  clear BK217
                  clear HK
                  clear HB
                  clear HI0
                  have HO_218001 := n0_
                  have HO_218004 := n1_
                  have BK212 := n2_
                  have BK217 := n3_
                  have HK := n4_
                  have HB := n5_
                  have HI0 := n6_
                  clear n0_ n1_ n2_ n3_ n4_ n5_ n6_
                  (try clear hb)
                  (try clear hb2)
                  (try clear hk)
                  (try clear hi)
                  refine hK.out _ _ ⟨(blk_cell BK217.out 0).trans rfl, (blk_cell BK217.out 1).trans rfl, (blk_cell BK217.out 2).trans rfl, (blk_cell BK217.out 3).trans rfl, (blk_cell BK217.out 4).trans rfl⟩ (fun hHeld => ?_)
                  clear hK K
                  refine nm_ 121 ?_
                  refine pu_ (i := 11) (N := some 122) HT_ ?_
                  refine pu_ (i := 12) (N := some 123) HT_ ?_
                  refine on_ (i := 13) (N := some 124) HT_ (fun K hK => ?_)
                  refine value_ (w1 := ?_) (v := ?_) (by rfl) rfl ?_ ?_
                  rotate_left 2
                  · go_simp
                    constructor
                    · rfl
                    · rfl
                  refine hK.out _ _ ⟨(blk_cell (blk_alloc BK217.out _) 0).trans rfl, (blk_cell (blk_alloc BK217.out _) 1).trans rfl, (blk_cell (blk_alloc BK217.out _) 2).trans rfl, (blk_cell (blk_alloc BK217.out _) 3).trans rfl, (blk_cell (blk_alloc BK217.out _) 4).trans rfl⟩ (fun hHeld => ?_)
                  clear hK K
                  refine nm_ 124 ?_
                  refine on_ (i := 14) (N := some 125) HT_ (fun K hK => ?_)
                  refine Kd.R_append_step k60 w.heap.size (by rfl) (.tmp 112) (.tmp 124) 23 60 (.agg #[(.int .i64 0), (.int .i64 0)]) 16 rfl Try.underlying23 info60 rfl (by decide) (by omega) u218004 x218004_1 (⟨wrap64 (x218000_1 + t285), wrap64 (x218000_1 + t287)⟩ : S60) [.int .i64 (wrap64 (x218000_1 + t285)), .int .i64 (wrap64 (x218000_1 + t287))] (fun _ => True) (fun _ => False) rfl rfl ?aP (fun _ hk => hk.elim) ?aF ?aO (Below.refl _ _) ?aS ?aL ?_
                  (case aP => exact k60_mkM _ _ _ (⟨wrap64 (x218000_1 + t285), wrap64 (x218000_1 + t287)⟩ : S60))
                  (case aF => exact (fun _ _ => trivial))
                  (case aO => exact (kR_ HO_218004.out))
                  (case aS => exact (keep_size (w := w) (g := g) (row := none) (by repeat (first | (with_reducible first | exact HK.out | apply KeepBut.set_ | apply keep_drewN | apply keep_drew | apply keep_alloc | refine keep_far ?_ GW212.out _ | refine keep_far ?_ GW217.out _) | exact HK.out))))
                  (case aL => have := LMc110.out; omega)
                  intro v290 w116 ho hb hg hat
                  rw [← Ny289.out] at ho
                  have n0_ := Aside0.mk (Kd.R_over' (kR_ HO_218001.out) (Kd.R_typed (kR_ HO_218004.out)) (by decide) hg)
                  have n1_ := Aside0.mk (blk_grown (g := gb212) (o := .cells #[.int .i64 0, .slice none 0 0, .int .i64 0, .int .i64 0, .slice none 0 0] 25 (0, 0)) (kb_ BK212.out) hg (Kd.R_ne HO_218004.out BK212.out (by decide)))
                  have n2_ := Aside0.mk (blk_grown (g := gb217) (o := .cells #[.int .i64 x218000_1, u218001, .int .i64 x218002_1, .int .i64 x218003_1, u218004] 25 (0, 0)) (kb_ BK217.out) hg (Kd.R_ne HO_218004.out BK217.out (by decide)))
                  have n3_ := Aside0.mk (IsS67.grown (by repeat (first | (with_reducible first | exact HI0.out | apply IsS67.alloc | apply IsS67.drewN | apply IsS67.drew | apply IsS67.set_1 | refine IsS67.far ?_ NB0_212.out _ | refine IsS67.far ?_ NB0_217.out _) | exact HI0.out)) hg (IsS67.own_ne HI0.out HO_218004.out (by decide)))
                  have n4_ := Aside0.mk (below_weaken (by repeat (first | (with_reducible first | exact HB.out | apply below_alloc | apply pw_below_drewN | apply below_drew1 | refine below_set ?_ (IsS67.ge HI0.out) | refine below_set ?_ GE212.out | refine below_set ?_ GE217.out) | exact HB.out)) HL.out hb)
                  have n5_ := Aside0.mk (KeepBut.trans (by repeat (first | (with_reducible first | exact HK.out | apply KeepBut.set_ | apply keep_drewN | apply keep_drew | apply keep_alloc | refine keep_far ?_ GW212.out _ | refine keep_far ?_ GW217.out _) | exact HK.out)) (KeepBut.of_grown hg g) (Kd.R_base2 HO_218004.out))
                  have n6_ := Aside0.mk (ho)
                  clear HO_218001
                  clear BK212
                  clear BK217
                  clear HI0
                  clear HB
                  clear HK
                  clear HO_218004
                  have HO_218001 := n0_
                  have BK212 := n1_
                  have BK217 := n2_
                  have HI0 := n3_
                  have HB := n4_
                  have HK := n5_
                  have HO291 := n6_
                  clear n0_ n1_ n2_ n3_ n4_ n5_ n6_
                  clear ho hb hg hat
                  obtain ⟨Ao117, co117, eo117⟩ := Kd.R_slice HO291.out
                  (first | subst eo117 | (injection eo117 with f1_ f2_ f3_; have f4_ := f1_.symm; have f5_ := f3_.symm; clear f1_ f2_ f3_; subst f4_; subst f5_))
                  refine hK.out _ _ ⟨(blk_cell BK217.out 0).trans rfl, (blk_cell BK217.out 1).trans rfl, (blk_cell BK217.out 2).trans rfl, (blk_cell BK217.out 3).trans rfl, (blk_cell BK217.out 4).trans rfl⟩ (fun hHeld => ?_)
                  clear hK K
                  refine nm_ 125 ?_
                  refine pu_ (i := 15) (N := some 126) HT_ ?_
                  refine last_ (i := 16) (N := none) #[true, true, true, true, true, true, true, true, true, true, true, true, true, true, true, true, true] rfl rfl (one_of HT_.out (by kernel_rfl)) (by decide) (fun K hK => ?_)
                  have hs118 : w116.cell? ⟨gb217, 4, none⟩ = some (u218004) := (blk_cell BK217.out 4).trans rfl
                  have hfs118 := blk_frozen BK217.out 4
                  have hns118_0 := NB212_217.out
                  have hms118_0 := NB217_212.out
                  refine skip_ (w1 := ?_) (by rfl) rfl ?_ ?_
                  rotate_left
                  · go_simp
                    rfl
                  refine hK.out _ _ ?_
                  clear hK K
                  refine done_ (done_of HT_.out (by kernel_rfl)) ?_
                  have hnb119 := NB217_212.out
                  have hnc119 := NB212_217.out
                  have hnb120 := NB217_0.out
                  have hnc120 := NB0_217.out
                  have hcz121_0 : w116.cell? ⟨gb217, 0, none⟩ = some (.int .i64 x218000_1) := (blk_cell BK217.out 0).trans rfl
                  have hcz121_1 : w116.cell? ⟨gb217, 1, none⟩ = some (u218001) := (blk_cell BK217.out 1).trans rfl
                  have hcz121_2 : w116.cell? ⟨gb217, 2, none⟩ = some (.int .i64 x218002_1) := (blk_cell BK217.out 2).trans rfl
                  have hcz121_3 : w116.cell? ⟨gb217, 3, none⟩ = some (.int .i64 x218003_1) := (blk_cell BK217.out 3).trans rfl
                  have hcz121_4 : w116.cell? ⟨gb217, 4, none⟩ = some (u218004) := (blk_cell BK217.out 4).trans rfl
                  have hfz121_0 := blk_frozen BK217.out 0
                  have hfz121_1 := blk_frozen BK217.out 1
                  have hfz121_2 := blk_frozen BK217.out 2
                  have hfz121_3 := blk_frozen BK217.out 3
                  have hfz121_4 := blk_frozen BK217.out 4
                  have hnb122 := NB212_0.out
                  have hnc122 := NB0_212.out
                  have hcz123_0 : w116.cell? ⟨gb212, 0, none⟩ = some (.int .i64 0) := (blk_cell BK212.out 0).trans rfl
                  have hcz123_1 : w116.cell? ⟨gb212, 1, none⟩ = some (.slice none 0 0) := (blk_cell BK212.out 1).trans rfl
                  have hcz123_2 : w116.cell? ⟨gb212, 2, none⟩ = some (.int .i64 0) := (blk_cell BK212.out 2).trans rfl
                  have hcz123_3 : w116.cell? ⟨gb212, 3, none⟩ = some (.int .i64 0) := (blk_cell BK212.out 3).trans rfl
                  have hcz123_4 : w116.cell? ⟨gb212, 4, none⟩ = some (.slice none 0 0) := (blk_cell BK212.out 4).trans rfl
                  have hfz123_0 := blk_frozen BK212.out 0
                  have hfz123_1 := blk_frozen BK212.out 1
                  have hfz123_2 := blk_frozen BK212.out 2
                  have hfz123_3 := blk_frozen BK212.out 3
                  have hfz123_4 := blk_frozen BK212.out 4
                  obtain ⟨Ao124, co124, eo124⟩ := Kd.R_slice HO_218001.out
                  subst eo124
                  try go_wp2
                  refine bodyPost_ret (results_cell_row rfl _ _ gb212 25 #[.int .i64 x218000_1, .slice Ao124 x218001_1.length co124, .int .i64 x218002_1, .int .i64 x218003_1, .slice Ao117 y289.length co117] (0, 0) _ rfl (by refine kb_ ?_; refine blk_put (cs := #[.int .i64 x218000_1, .slice Ao124 x218001_1.length co124, .int .i64 x218002_1, .int .i64 x218003_1, .slice none 0 0]) ?_ 4 _ rfl; refine kb_ ?_; refine blk_put (cs := #[.int .i64 x218000_1, .slice Ao124 x218001_1.length co124, .int .i64 x218002_1, .int .i64 0, .slice none 0 0]) ?_ 3 _ rfl; refine kb_ ?_; refine blk_put (cs := #[.int .i64 x218000_1, .slice Ao124 x218001_1.length co124, .int .i64 0, .int .i64 0, .slice none 0 0]) ?_ 2 _ rfl; refine kb_ ?_; refine blk_put (cs := #[.int .i64 x218000_1, .slice none 0 0, .int .i64 0, .int .i64 0, .slice none 0 0]) ?_ 1 _ rfl; refine kb_ ?_; refine blk_put (cs := #[.int .i64 0, .slice none 0 0, .int .i64 0, .int .i64 0, .slice none 0 0]) ?_ 0 _ rfl; refine kb_ ?_; refine blk_far ?_ NB212_217.out _; refine kb_ ?_; exact BK212.out) Try.underlying25 rfl (by kernel_rfl)) rfl ?_
                  exact ⟨_, _, by first | rfl | (simp [errW_none, errW_some] <;> rfl) | (simp [*, errW_none, errW_some] <;> rfl), by refine kR_ ?_; exact Kd.R_mono (Kd.R_f gb212 4 (.slice Ao117 y289.length co117) (Kd.R_f gb212 3 (.int .i64 x218003_1) (Kd.R_f gb212 2 (.int .i64 x218002_1) (Kd.R_f gb212 1 (.slice Ao124 x218001_1.length co124) (Kd.R_f gb212 0 (.int .i64 x218000_1) (Kd.R_far (p := ⟨gb217, 4, none⟩) (Kd.R_types (Kd.R_types HO_218001.out BK217.out (by decide)) BK212.out (by decide)) (fun _ hk => hk.1.2) (.slice Ao117 y289.length co117))))))) (fun _ hk => trivial), by refine kR_ ?_; exact Kd.R_mono (Kd.R_f gb212 4 (.slice Ao117 y289.length co117) (Kd.R_f gb212 3 (.int .i64 x218003_1) (Kd.R_f gb212 2 (.int .i64 x218002_1) (Kd.R_f gb212 1 (.slice Ao124 x218001_1.length co124) (Kd.R_f gb212 0 (.int .i64 x218000_1) (Kd.R_far (p := ⟨gb217, 4, none⟩) (Kd.R_types (Kd.R_types HO291.out BK217.out (by decide)) BK212.out (by decide)) (fun _ hk => hk.1.2) (.slice Ao117 y289.length co117))))))) (fun _ hk => trivial), by repeat (first | (with_reducible first | exact HI0.out | apply IsS67.alloc | apply IsS67.drewN | apply IsS67.drew | apply IsS67.set_1 | refine IsS67.far ?_ NB0_212.out _ | refine IsS67.far ?_ NB0_217.out _) | exact HI0.out), by repeat (first | (with_reducible first | exact HB.out | apply below_alloc | apply pw_below_drewN | apply below_drew1 | refine below_set ?_ (IsS67.ge HI0.out) | refine below_set ?_ GE212.out | refine below_set ?_ GE217.out) | exact HB.out), by repeat (first | (with_reducible first | exact HK.out | apply KeepBut.set_ | apply keep_drewN | apply keep_drew | apply keep_alloc | refine keep_far ?_ GW212.out _ | refine keep_far ?_ GW217.out _) | exact HK.out)⟩
                · rw [if_neg c110] at H
                  exact absurd H (by simp)
              · rw [if_neg c107] at H
                have c107b0 : (t279 == 2) = false := beq_eq_false_iff_ne.mpr c107
                have c107b1 : (t279 != 2) = true := bne_iff_ne.mpr c107
                by_cases c125 : 33 ≤ 281474976710656
                · rw [if_pos c125] at H
                  have c125b0 := eq_true c125
                  have c125b1 : decide (33 ≤ 281474976710656) = true := decide_eq_true c125
                  clear c125
                  obtain ⟨y292, hy292⟩ : ∃ y_ : List Int, y_ = (List.replicate 33 0) := ⟨_, rfl⟩
                  replace H : (some (x218000_1, y292, x218002_1, x218003_1, x218004_1, t280)) = some (r1, r2, r3, r4, r5, r6) := by first | (rw [hy292]; with_reducible exact H) | (have H2_ := (Option.bind_some _ _).symm.trans H; rw [hy292]; with_reducible exact H2_) | (have H2_ := (Option.bind_some _ _).symm.trans H; with_reducible exact H2_) | with_reducible exact H | (rw [hy292]; exact H) | exact H
                  have Ny292 := Aside0.mk hy292
                  clear hy292
                  simp only [Option.some.injEq, Prod.mk.injEq] at H
                  obtain ⟨rfl, rfl, rfl, rfl, rfl, rfl⟩ := H
                  go_wp2_with (first | ((with_reducible refine gate_callee (f := 48) rfl ?_); refine goesL_ (some 91) rfl rfl Try.func48 (by kernel_rfl) rfl #[.pointer (some ⟨g, 0, none⟩), .int .i64 a1] rfl ar_ ?_; (with_reducible refine (spec_l20Rd_odd.calls k1 g s0_0 x1001_1 a1 true t278 w0 _ ?side1 ?side2 A80.out).mono ?_); (case side1 => repeat (first | (with_reducible first | exact HI0.out | apply IsS67.alloc | apply IsS67.drewN | apply IsS67.drew | apply IsS67.set_1 | refine IsS67.far ?_ NB0_212.out _ | refine IsS67.far ?_ NB0_217.out _) | exact HI0.out)); (case side2 => repeat (first | (with_reducible first | exact HB.out | apply below_alloc | apply pw_below_drewN | apply below_drew1 | refine below_set ?_ (IsS67.ge HI0.out) | refine below_set ?_ GE212.out | refine below_set ?_ GE217.out) | exact HB.out)); rintro e w126 ⟨rfl, hi, hb, hk⟩; refine ⟨_, rfl, ?_⟩; have n0_ := Aside0.mk (Kd.R_mono (Kd.R_keep (IsS67.apart (show IsS67 w0 _ g s0_0 x1001_1 from by repeat (first | (with_reducible first | exact HI0.out | apply IsS67.alloc | apply IsS67.drewN | apply IsS67.drew | apply IsS67.set_1 | refine IsS67.far ?_ NB0_212.out _ | refine IsS67.far ?_ NB0_217.out _) | exact HI0.out)) (kR_ HO_218001.out) (by decide)) hk (fun _ h => h.2)) (fun _ h => h.1)); have n1_ := Aside0.mk (Kd.R_mono (Kd.R_keep (IsS67.apart (show IsS67 w0 _ g s0_0 x1001_1 from by repeat (first | (with_reducible first | exact HI0.out | apply IsS67.alloc | apply IsS67.drewN | apply IsS67.drew | apply IsS67.set_1 | refine IsS67.far ?_ NB0_212.out _ | refine IsS67.far ?_ NB0_217.out _) | exact HI0.out)) (kR_ HO_218004.out) (by decide)) hk (fun _ h => h.2)) (fun _ h => h.1)); have n2_ := Aside0.mk (KeepBut.blk hk (g' := gb212) (o := .cells #[.int .i64 0, .slice none 0 0, .int .i64 0, .int .i64 0, .slice none 0 0] 25 (0, 0)) (kb_ BK212.out) NB212_0.out (by simp)); have n3_ := Aside0.mk (KeepBut.blk hk (g' := gb217) (o := .cells #[.int .i64 x218000_1, u218001, .int .i64 x218002_1, .int .i64 x218003_1, u218004] 25 (0, 0)) (kb_ BK217.out) NB217_0.out (by simp)); have n4_ := Aside0.mk (KeepBut.trans (by repeat (first | (with_reducible first | exact HK.out | apply KeepBut.set_ | apply keep_drewN | apply keep_drew | apply keep_alloc | refine keep_far ?_ GW212.out _ | refine keep_far ?_ GW217.out _) | exact HK.out)) hk (.inl rfl)); have n5_ := Aside0.mk (hb); have n6_ := Aside0.mk (hi); clear HO_218001; clear HO_218004; clear BK212; clear BK217; clear HK; clear HB; clear HI0; have HO_218001 := n0_; have HO_218004 := n1_; have BK212 := n2_; have BK217 := n3_; have HK := n4_; have HB := n5_; have HI0 := n6_; clear n0_ n1_ n2_ n3_ n4_ n5_ n6_; (try clear hb); (try clear hb2); (try clear hk); (try clear hi)) | ((with_reducible refine gate_callee (f := 30) rfl ?_); refine goesL_ (some 93) rfl rfl Try.func30 (by kernel_rfl) rfl #[.pointer (some ⟨g, 0, none⟩), .int .i64 4] rfl ar_ ?_; (with_reducible refine (spec_l20Rd_pick.calls k1 g s0_0 t278 4 t279 t280 w0 _ ?side1 ?side2 A82.out).mono ?_); (case side1 => repeat (first | (with_reducible first | exact HI0.out | apply IsS67.alloc | apply IsS67.drewN | apply IsS67.drew | apply IsS67.set_1 | refine IsS67.far ?_ NB0_212.out _ | refine IsS67.far ?_ NB0_217.out _) | exact HI0.out)); (case side2 => repeat (first | (with_reducible first | exact HB.out | apply below_alloc | apply pw_below_drewN | apply below_drew1 | refine below_set ?_ (IsS67.ge HI0.out) | refine below_set ?_ GE212.out | refine below_set ?_ GE217.out) | exact HB.out)); rintro e w127 ⟨rfl, hi, hb, hk⟩; refine ⟨_, rfl, ?_⟩; have n0_ := Aside0.mk (Kd.R_mono (Kd.R_keep (IsS67.apart (show IsS67 w0 _ g s0_0 t278 from by repeat (first | (with_reducible first | exact HI0.out | apply IsS67.alloc | apply IsS67.drewN | apply IsS67.drew | apply IsS67.set_1 | refine IsS67.far ?_ NB0_212.out _ | refine IsS67.far ?_ NB0_217.out _) | exact HI0.out)) (kR_ HO_218001.out) (by decide)) hk (fun _ h => h.2)) (fun _ h => h.1)); have n1_ := Aside0.mk (Kd.R_mono (Kd.R_keep (IsS67.apart (show IsS67 w0 _ g s0_0 t278 from by repeat (first | (with_reducible first | exact HI0.out | apply IsS67.alloc | apply IsS67.drewN | apply IsS67.drew | apply IsS67.set_1 | refine IsS67.far ?_ NB0_212.out _ | refine IsS67.far ?_ NB0_217.out _) | exact HI0.out)) (kR_ HO_218004.out) (by decide)) hk (fun _ h => h.2)) (fun _ h => h.1)); have n2_ := Aside0.mk (KeepBut.blk hk (g' := gb212) (o := .cells #[.int .i64 0, .slice none 0 0, .int .i64 0, .int .i64 0, .slice none 0 0] 25 (0, 0)) (kb_ BK212.out) NB212_0.out (by simp)); have n3_ := Aside0.mk (KeepBut.blk hk (g' := gb217) (o := .cells #[.int .i64 x218000_1, u218001, .int .i64 x218002_1, .int .i64 x218003_1, u218004] 25 (0, 0)) (kb_ BK217.out) NB217_0.out (by simp)); have n4_ := Aside0.mk (KeepBut.trans (by repeat (first | (with_reducible first | exact HK.out | apply KeepBut.set_ | apply keep_drewN | apply keep_drew | apply keep_alloc | refine keep_far ?_ GW212.out _ | refine keep_far ?_ GW217.out _) | exact HK.out)) hk (.inl rfl)); have n5_ := Aside0.mk (hb); have n6_ := Aside0.mk (hi); clear HO_218001; clear HO_218004; clear BK212; clear BK217; clear HK; clear HB; clear HI0; have HO_218001 := n0_; have HO_218004 := n1_; have BK212 := n2_; have BK217 := n3_; have HK := n4_; have HB := n5_; have HI0 := n6_; clear n0_ n1_ n2_ n3_ n4_ n5_ n6_; (try clear hb); (try clear hb2); (try clear hk); (try clear hi)) | ((with_reducible refine gate_dst (N := 94) rfl ?_); refine Kd.R_make (Kd.int .u8) _ 5 rfl (N := 94) rfl 22 _ _ rfl 33 rfl rfl Try.underlying22 (.int .u8 0) 1 info5 rfl (by decide) (by omega) 0 (ok := fun _ => True) (okp := fun _ => True) rfl (fun _ hk => hk) trivial (by omega) (by omega) (Below.refl _ _) (Nat.le_refl _) ?_; intro v293 w128 ho129 hb hg_ hnew_; clear hg_ hnew_; (first | rw [← Ny292.out] at ho129 | (simp only [Int.reduceToNat] at ho129; rw [← Ny292.out] at ho129)); have n0_ := Aside0.mk (Kd.R_elder' (kR_ HO_218001.out) (Kd.R_base ho129) hb); have n1_ := Aside0.mk (Kd.R_below (kR_ HO_218004.out) hb); have n2_ := Aside0.mk (Kd.R_lower (Kd.R_new' ho129 (Kd.R_lt (kR_ HO_218001.out))) (keep_size (w := w) (g := g) (row := none) (by repeat (first | (with_reducible first | exact HK.out | apply KeepBut.set_ | apply keep_drewN | apply keep_drew | apply keep_alloc | refine keep_far ?_ GW212.out _ | refine keep_far ?_ GW217.out _) | exact HK.out)))); have n3_ := Aside0.mk (blk_below (g := gb212) (o := .cells #[.int .i64 0, .slice none 0 0, .int .i64 0, .int .i64 0, .slice none 0 0] 25 (0, 0)) (kb_ BK212.out) hb); have n4_ := Aside0.mk (blk_below (g := gb217) (o := .cells #[.int .i64 x218000_1, u218001, .int .i64 x218002_1, .int .i64 x218003_1, u218004] 25 (0, 0)) (kb_ BK217.out) hb); have n5_ := Aside0.mk (IsS67.below (by repeat (first | (with_reducible first | exact HI0.out | apply IsS67.alloc | apply IsS67.drewN | apply IsS67.drew | apply IsS67.set_1 | refine IsS67.far ?_ NB0_212.out _ | refine IsS67.far ?_ NB0_217.out _) | exact HI0.out)) hb); have n6_ := Aside0.mk (KeepBut.trans (by repeat (first | (with_reducible first | exact HK.out | apply KeepBut.set_ | apply keep_drewN | apply keep_drew | apply keep_alloc | refine keep_far ?_ GW212.out _ | refine keep_far ?_ GW217.out _) | exact HK.out)) (KeepBut.of_below hb g none) (.inl rfl)); have n7_ := Aside0.mk (below_step (by repeat (first | (with_reducible first | exact HB.out | apply below_alloc | apply pw_below_drewN | apply below_drew1 | refine below_set ?_ (IsS67.ge HI0.out) | refine below_set ?_ GE212.out | refine below_set ?_ GE217.out) | exact HB.out)) hb); clear HO_218001; clear HO_218004; clear BK212; clear BK217; clear HI0; clear HK; clear HB; have HO_218001 := n0_; have HO_218004 := n1_; have HO294 := n2_; have BK212 := n3_; have BK217 := n4_; have HI0 := n5_; have HK := n6_; have HB := n7_; clear n0_ n1_ n2_ n3_ n4_ n5_ n6_ n7_; clear hb ho129; obtain ⟨Ao130, co130, eo130⟩ := Kd.R_slice HO294.out; subst eo130; have hnb131 := NB217_212.out; have hnc131 := NB212_217.out; have hnb132 := NB217_0.out; have hnc132 := NB0_217.out; have hcz133_0 : w128.cell? ⟨gb217, 0, none⟩ = some (.int .i64 x218000_1) := (blk_cell BK217.out 0).trans rfl; have hcz133_1 : w128.cell? ⟨gb217, 1, none⟩ = some (u218001) := (blk_cell BK217.out 1).trans rfl; have hcz133_2 : w128.cell? ⟨gb217, 2, none⟩ = some (.int .i64 x218002_1) := (blk_cell BK217.out 2).trans rfl; have hcz133_3 : w128.cell? ⟨gb217, 3, none⟩ = some (.int .i64 x218003_1) := (blk_cell BK217.out 3).trans rfl; have hcz133_4 : w128.cell? ⟨gb217, 4, none⟩ = some (u218004) := (blk_cell BK217.out 4).trans rfl; have hfz133_0 := blk_frozen BK217.out 0; have hfz133_1 := blk_frozen BK217.out 1; have hfz133_2 := blk_frozen BK217.out 2; have hfz133_3 := blk_frozen BK217.out 3; have hfz133_4 := blk_frozen BK217.out 4; have hnb134 := NB212_0.out; have hnc134 := NB0_212.out; have hcz135_0 : w128.cell? ⟨gb212, 0, none⟩ = some (.int .i64 0) := (blk_cell BK212.out 0).trans rfl; have hcz135_1 : w128.cell? ⟨gb212, 1, none⟩ = some (.slice none 0 0) := (blk_cell BK212.out 1).trans rfl; have hcz135_2 : w128.cell? ⟨gb212, 2, none⟩ = some (.int .i64 0) := (blk_cell BK212.out 2).trans rfl; have hcz135_3 : w128.cell? ⟨gb212, 3, none⟩ = some (.int .i64 0) := (blk_cell BK212.out 3).trans rfl; have hcz135_4 : w128.cell? ⟨gb212, 4, none⟩ = some (.slice none 0 0) := (blk_cell BK212.out 4).trans rfl; have hfz135_0 := blk_frozen BK212.out 0; have hfz135_1 := blk_frozen BK212.out 1; have hfz135_2 := blk_frozen BK212.out 2; have hfz135_3 := blk_frozen BK212.out 3; have hfz135_4 := blk_frozen BK212.out 4; obtain ⟨Ao136, co136, eo136⟩ := Kd.R_slice HO_218004.out; subst eo136))
                  refine bodyPost_ret (results_cell_row rfl _ _ gb212 25 #[.int .i64 x218000_1, .slice Ao130 y292.length co130, .int .i64 x218002_1, .int .i64 x218003_1, .slice Ao136 x218004_1.length co136] (0, 0) _ rfl (by refine kb_ ?_; refine blk_put (cs := #[.int .i64 x218000_1, .slice Ao130 y292.length co130, .int .i64 x218002_1, .int .i64 x218003_1, .slice none 0 0]) ?_ 4 _ rfl; refine kb_ ?_; refine blk_put (cs := #[.int .i64 x218000_1, .slice Ao130 y292.length co130, .int .i64 x218002_1, .int .i64 0, .slice none 0 0]) ?_ 3 _ rfl; refine kb_ ?_; refine blk_put (cs := #[.int .i64 x218000_1, .slice Ao130 y292.length co130, .int .i64 0, .int .i64 0, .slice none 0 0]) ?_ 2 _ rfl; refine kb_ ?_; refine blk_put (cs := #[.int .i64 x218000_1, .slice none 0 0, .int .i64 0, .int .i64 0, .slice none 0 0]) ?_ 1 _ rfl; refine kb_ ?_; refine blk_put (cs := #[.int .i64 0, .slice none 0 0, .int .i64 0, .int .i64 0, .slice none 0 0]) ?_ 0 _ rfl; refine kb_ ?_; refine blk_far ?_ NB212_217.out _; refine kb_ ?_; exact BK212.out) Try.underlying25 rfl (by kernel_rfl)) rfl ?_
                  exact ⟨_, _, by first | rfl | (simp [errW_none, errW_some] <;> rfl) | (simp [*, errW_none, errW_some] <;> rfl), by refine kR_ ?_; exact Kd.R_mono (Kd.R_f gb212 4 (.slice Ao136 x218004_1.length co136) (Kd.R_f gb212 3 (.int .i64 x218003_1) (Kd.R_f gb212 2 (.int .i64 x218002_1) (Kd.R_f gb212 1 (.slice Ao130 y292.length co130) (Kd.R_f gb212 0 (.int .i64 x218000_1) (Kd.R_far (p := ⟨gb217, 1, none⟩) (Kd.R_types (Kd.R_types HO294.out BK217.out (by decide)) BK212.out (by decide)) (fun _ hk => hk.1.2) (.slice Ao130 y292.length co130))))))) (fun _ hk => trivial), by refine kR_ ?_; exact Kd.R_mono (Kd.R_f gb212 4 (.slice Ao136 x218004_1.length co136) (Kd.R_f gb212 3 (.int .i64 x218003_1) (Kd.R_f gb212 2 (.int .i64 x218002_1) (Kd.R_f gb212 1 (.slice Ao130 y292.length co130) (Kd.R_f gb212 0 (.int .i64 x218000_1) (Kd.R_far (p := ⟨gb217, 1, none⟩) (Kd.R_types (Kd.R_types HO_218004.out BK217.out (by decide)) BK212.out (by decide)) (fun _ hk => hk.1.2) (.slice Ao130 y292.length co130))))))) (fun _ hk => trivial), by repeat (first | (with_reducible first | exact HI0.out | apply IsS67.alloc | apply IsS67.drewN | apply IsS67.drew | apply IsS67.set_1 | refine IsS67.far ?_ NB0_212.out _ | refine IsS67.far ?_ NB0_217.out _) | exact HI0.out), by repeat (first | (with_reducible first | exact HB.out | apply below_alloc | apply pw_below_drewN | apply below_drew1 | refine below_set ?_ (IsS67.ge HI0.out) | refine below_set ?_ GE212.out | refine below_set ?_ GE217.out) | exact HB.out), by repeat (first | (with_reducible first | exact HK.out | apply KeepBut.set_ | apply keep_drewN | apply keep_drew | apply keep_alloc | refine keep_far ?_ GW212.out _ | refine keep_far ?_ GW217.out _) | exact HK.out)⟩
                · rw [if_neg c125] at H
                  exact absurd H (by simp)
        · replace c81 := Bool.eq_false_iff.mpr c81
          subst c81
          have H1 : (some (x218000_1, x218001_1, x218002_1, x218003_1, x218004_1, t278)) = some (r1, r2, r3, r4, r5, r6) := by rw [if_neg (show ¬ (false = true) by decide)] at H; exact H
          clear H
          have H := H1
          clear H1
          simp only [Option.some.injEq, Prod.mk.injEq] at H
          obtain ⟨rfl, rfl, rfl, rfl, rfl, rfl⟩ := H
          go_wp2_with (first | ((with_reducible refine gate_callee (f := 48) rfl ?_); refine goesL_ (some 91) rfl rfl Try.func48 (by kernel_rfl) rfl #[.pointer (some ⟨g, 0, none⟩), .int .i64 a1] rfl ar_ ?_; (with_reducible refine (spec_l20Rd_odd.calls k1 g s0_0 x1001_1 a1 false t278 w0 _ ?side1 ?side2 A80.out).mono ?_); (case side1 => repeat (first | (with_reducible first | exact HI0.out | apply IsS67.alloc | apply IsS67.drewN | apply IsS67.drew | apply IsS67.set_1 | refine IsS67.far ?_ NB0_212.out _ | refine IsS67.far ?_ NB0_217.out _) | exact HI0.out)); (case side2 => repeat (first | (with_reducible first | exact HB.out | apply below_alloc | apply pw_below_drewN | apply below_drew1 | refine below_set ?_ (IsS67.ge HI0.out) | refine below_set ?_ GE212.out | refine below_set ?_ GE217.out) | exact HB.out)); rintro e w137 ⟨rfl, hi, hb, hk⟩; refine ⟨_, rfl, ?_⟩; have n0_ := Aside0.mk (Kd.R_mono (Kd.R_keep (IsS67.apart (show IsS67 w0 _ g s0_0 x1001_1 from by repeat (first | (with_reducible first | exact HI0.out | apply IsS67.alloc | apply IsS67.drewN | apply IsS67.drew | apply IsS67.set_1 | refine IsS67.far ?_ NB0_212.out _ | refine IsS67.far ?_ NB0_217.out _) | exact HI0.out)) (kR_ HO_218001.out) (by decide)) hk (fun _ h => h.2)) (fun _ h => h.1)); have n1_ := Aside0.mk (Kd.R_mono (Kd.R_keep (IsS67.apart (show IsS67 w0 _ g s0_0 x1001_1 from by repeat (first | (with_reducible first | exact HI0.out | apply IsS67.alloc | apply IsS67.drewN | apply IsS67.drew | apply IsS67.set_1 | refine IsS67.far ?_ NB0_212.out _ | refine IsS67.far ?_ NB0_217.out _) | exact HI0.out)) (kR_ HO_218004.out) (by decide)) hk (fun _ h => h.2)) (fun _ h => h.1)); have n2_ := Aside0.mk (KeepBut.blk hk (g' := gb212) (o := .cells #[.int .i64 0, .slice none 0 0, .int .i64 0, .int .i64 0, .slice none 0 0] 25 (0, 0)) (kb_ BK212.out) NB212_0.out (by simp)); have n3_ := Aside0.mk (KeepBut.blk hk (g' := gb217) (o := .cells #[.int .i64 x218000_1, u218001, .int .i64 x218002_1, .int .i64 x218003_1, u218004] 25 (0, 0)) (kb_ BK217.out) NB217_0.out (by simp)); have n4_ := Aside0.mk (KeepBut.trans (by repeat (first | (with_reducible first | exact HK.out | apply KeepBut.set_ | apply keep_drewN | apply keep_drew | apply keep_alloc | refine keep_far ?_ GW212.out _ | refine keep_far ?_ GW217.out _) | exact HK.out)) hk (.inl rfl)); have n5_ := Aside0.mk (hb); have n6_ := Aside0.mk (hi); clear HO_218001; clear HO_218004; clear BK212; clear BK217; clear HK; clear HB; clear HI0; have HO_218001 := n0_; have HO_218004 := n1_; have BK212 := n2_; have BK217 := n3_; have HK := n4_; have HB := n5_; have HI0 := n6_; clear n0_ n1_ n2_ n3_ n4_ n5_ n6_; (try clear hb); (try clear hb2); (try clear hk); (try clear hi); have hnb138 := NB217_212.out; have hnc138 := NB212_217.out; have hnb139 := NB217_0.out; have hnc139 := NB0_217.out; have hcz140_0 : w137.cell? ⟨gb217, 0, none⟩ = some (.int .i64 x218000_1) := (blk_cell BK217.out 0).trans rfl; have hcz140_1 : w137.cell? ⟨gb217, 1, none⟩ = some (u218001) := (blk_cell BK217.out 1).trans rfl; have hcz140_2 : w137.cell? ⟨gb217, 2, none⟩ = some (.int .i64 x218002_1) := (blk_cell BK217.out 2).trans rfl; have hcz140_3 : w137.cell? ⟨gb217, 3, none⟩ = some (.int .i64 x218003_1) := (blk_cell BK217.out 3).trans rfl; have hcz140_4 : w137.cell? ⟨gb217, 4, none⟩ = some (u218004) := (blk_cell BK217.out 4).trans rfl; have hfz140_0 := blk_frozen BK217.out 0; have hfz140_1 := blk_frozen BK217.out 1; have hfz140_2 := blk_frozen BK217.out 2; have hfz140_3 := blk_frozen BK217.out 3; have hfz140_4 := blk_frozen BK217.out 4; have hnb141 := NB212_0.out; have hnc141 := NB0_212.out; have hcz142_0 : w137.cell? ⟨gb212, 0, none⟩ = some (.int .i64 0) := (blk_cell BK212.out 0).trans rfl; have hcz142_1 : w137.cell? ⟨gb212, 1, none⟩ = some (.slice none 0 0) := (blk_cell BK212.out 1).trans rfl; have hcz142_2 : w137.cell? ⟨gb212, 2, none⟩ = some (.int .i64 0) := (blk_cell BK212.out 2).trans rfl; have hcz142_3 : w137.cell? ⟨gb212, 3, none⟩ = some (.int .i64 0) := (blk_cell BK212.out 3).trans rfl; have hcz142_4 : w137.cell? ⟨gb212, 4, none⟩ = some (.slice none 0 0) := (blk_cell BK212.out 4).trans rfl; have hfz142_0 := blk_frozen BK212.out 0; have hfz142_1 := blk_frozen BK212.out 1; have hfz142_2 := blk_frozen BK212.out 2; have hfz142_3 := blk_frozen BK212.out 3; have hfz142_4 := blk_frozen BK212.out 4; obtain ⟨Ao143, co143, eo143⟩ := Kd.R_slice HO_218001.out; subst eo143; obtain ⟨Ao144, co144, eo144⟩ := Kd.R_slice HO_218004.out; subst eo144))
          refine bodyPost_ret (results_cell_row rfl _ _ gb212 25 #[.int .i64 x218000_1, .slice Ao143 x218001_1.length co143, .int .i64 x218002_1, .int .i64 x218003_1, .slice Ao144 x218004_1.length co144] (0, 0) _ rfl (by refine kb_ ?_; refine blk_put (cs := #[.int .i64 x218000_1, .slice Ao143 x218001_1.length co143, .int .i64 x218002_1, .int .i64 x218003_1, .slice none 0 0]) ?_ 4 _ rfl; refine kb_ ?_; refine blk_put (cs := #[.int .i64 x218000_1, .slice Ao143 x218001_1.length co143, .int .i64 x218002_1, .int .i64 0, .slice none 0 0]) ?_ 3 _ rfl; refine kb_ ?_; refine blk_put (cs := #[.int .i64 x218000_1, .slice Ao143 x218001_1.length co143, .int .i64 0, .int .i64 0, .slice none 0 0]) ?_ 2 _ rfl; refine kb_ ?_; refine blk_put (cs := #[.int .i64 x218000_1, .slice none 0 0, .int .i64 0, .int .i64 0, .slice none 0 0]) ?_ 1 _ rfl; refine kb_ ?_; refine blk_put (cs := #[.int .i64 0, .slice none 0 0, .int .i64 0, .int .i64 0, .slice none 0 0]) ?_ 0 _ rfl; refine kb_ ?_; exact BK212.out) Try.underlying25 rfl (by kernel_rfl)) rfl ?_
          exact ⟨_, _, by first | rfl | (simp [errW_none, errW_some] <;> rfl) | (simp [*, errW_none, errW_some] <;> rfl), by refine kR_ ?_; exact Kd.R_mono (Kd.R_f gb212 4 (.slice Ao144 x218004_1.length co144) (Kd.R_f gb212 3 (.int .i64 x218003_1) (Kd.R_f gb212 2 (.int .i64 x218002_1) (Kd.R_f gb212 1 (.slice Ao143 x218001_1.length co143) (Kd.R_f gb212 0 (.int .i64 x218000_1) (Kd.R_types HO_218001.out BK212.out (by decide))))))) (fun _ hk => trivial), by refine kR_ ?_; exact Kd.R_mono (Kd.R_f gb212 4 (.slice Ao144 x218004_1.length co144) (Kd.R_f gb212 3 (.int .i64 x218003_1) (Kd.R_f gb212 2 (.int .i64 x218002_1) (Kd.R_f gb212 1 (.slice Ao143 x218001_1.length co143) (Kd.R_f gb212 0 (.int .i64 x218000_1) (Kd.R_types HO_218004.out BK212.out (by decide))))))) (fun _ hk => trivial), by repeat (first | (with_reducible first | exact HI0.out | apply IsS67.alloc | apply IsS67.drewN | apply IsS67.drew | apply IsS67.set_1 | refine IsS67.far ?_ NB0_212.out _ | refine IsS67.far ?_ NB0_217.out _) | exact HI0.out), by repeat (first | (with_reducible first | exact HB.out | apply below_alloc | apply pw_below_drewN | apply below_drew1 | refine below_set ?_ (IsS67.ge HI0.out) | refine below_set ?_ GE212.out | refine below_set ?_ GE217.out) | exact HB.out), by repeat (first | (with_reducible first | exact HK.out | apply KeepBut.set_ | apply keep_drewN | apply keep_drew | apply keep_alloc | refine keep_far ?_ GW212.out _ | refine keep_far ?_ GW217.out _) | exact HK.out)⟩

end Go.Proofs.Ytjiodkbbmhhccab.PFnMouthWrite
