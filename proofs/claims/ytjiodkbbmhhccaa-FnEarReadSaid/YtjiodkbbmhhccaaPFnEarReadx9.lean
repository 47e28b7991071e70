/- Printed by wip/xp/xprint.sh out of the translation, for this claim: what each function answers, as a plain function, and that the machine does just that. No condition. -/
import Derived.Test.YtjiodkbbmhhccaaPFnEarReadx0
import Derived.Test.YtjiodkbbmhhccaaPFnEarReadx5
import Derived.Test.YtjiodkbbmhhccaaPFnEarReadx6
import Derived.Test.YtjiodkbbmhhccaaPFnEarReadx7
import Derived.Test.YtjiodkbbmhhccaaPFnEarReadx8
namespace Go.Proofs.Ytjiodkbbmhhccaa.PFnEarRead
open Go.RowKit Go.Proofs.YtjiodkbbmhhccaaW.PrintWords Go.Proofs.YtjiodkbbmhhccaaW.PrintLast Go.Proofs.YtjiodkbbmhhccaaW.PrintMore
attribute [local go_sem] max2_int min2_int max_two min_two max_three min_three max_four min_four   -- for this text's walks alone
set_option linter.unusedVariables false
set_option linter.unusedSimpArgs false

/-! ### spec_l20Ear: function 40 -/
def spec_l20Ear.l0 : Nat → Int → Int → List Int → Int → Int → Int → List Int → List (S70) → Option (Int × Int × List Int × (List (S70)) × Int)
  | 0, _, _, _, _, _, _, _, _ => none
  | k + 1, x1, x6, x1000, x1001, x258000, x258001, x258002, x258003 => if x6 > 0 then ((spec_l20Rd_pick.f k x1000 x1001 14).bind fun bt260 => ((spec_l20Rd_pick.f k x1000 bt260.2 5).bind fun bt262 => ((spec_l20Heard.f k (wrap64 ((wrap64 (x258000 + bt260.1)) - 4)) bt262.1).bind fun t264 => ((spec_EarHear.f k x258000 x258001 x258002 x258003 (wrap64 ((wrap64 (x258000 + bt260.1)) - 4)) t264).bind fun bt267 => ((spec_l20Rd_pick.f k x1000 bt262.2 4).bind fun bt275 => (if bt275.1 = 0 then ((spec_l20Rd_pick.f k x1000 bt275.2 5).bind fun bt277 => ((spec_EarRead.f k bt267.1 bt267.2.1 bt267.2.2.1 bt267.2.2.2 bt277.1).bind fun bt279 => (spec_l20Ear.l0 k x1 (wrap64 (x6 - 1)) x1000 bt277.2 bt279.1 bt279.2.1 bt279.2.2.1 bt279.2.2.2.1))) else (spec_l20Ear.l0 k x1 (wrap64 (x6 - 1)) x1000 bt275.2 bt267.1 bt267.2.1 bt267.2.2.1 bt267.2.2.2))))))) else ((spec_l20Rd_odd.f k x1000 x1001 x1).bind fun bt290 => (if bt290.1 = true then ((spec_l20Rd_pick.f k x1000 bt290.2 4).bind fun bt292 => (if bt292.1 = 0 then ((spec_l20Rd_pick.f k x1000 bt292.2 2).bind fun bt294 => (some (x258000, wrap64 (bt294.1 * 33), x258002, x258003, bt294.2))) else (if bt292.1 = 1 then (some ((-1), x258001, x258002, x258003, bt292.2)) else (if bt292.1 = 2 then ((spec_l20Rd_pick.f k x1000 bt292.2 40).bind fun bt296 => (if x258003.length < 8796093022208 then (some (x258000, x258001, x258002, (x258003 ++ [(⟨wrap64 ((wrap64 (x258000 + bt296.1)) - 3), 0⟩ : S70)]), bt296.2)) else (none))) else (if x258002.length + 20 < 140737488355328 then (some (x258000, x258001, (x258002 ++ List.replicate 20 0), x258003, bt292.2)) else (none)))))) else (some (x258000, x258001, x258002, x258003, bt290.2))))
def spec_l20Ear.f (k : Nat) (s0_0 : List Int) (s0_1 : Int) (a1 : Int) : Option (Int × Int × List Int × (List (S70)) × Int) := (spec_l20Rd_pick.f k s0_0 s0_1 3).bind fun bt253 => ((spec_l20Rd_pick.f k s0_0 bt253.2 20).bind fun bt255 => ((spec_l20Rd_pick.f k s0_0 bt255.2 6).bind fun bt258 => (spec_l20Ear.l0 k a1 bt258.1 s0_0 bt258.2 (wrap64 (100 + (wrap64 (bt253.1 * 40)))) (wrap64 (4 + bt255.1)) ([] : List Int) ([] : List (S70)))))
theorem spec_l20Ear.mono_l : ∀ k, (∀ y0 y1 y2 y3 y4 y5 y6 y7, LeO (spec_l20Ear.l0 k y0 y1 y2 y3 y4 y5 y6 y7) (spec_l20Ear.l0 (k + 1) y0 y1 y2 y3 y4 y5 y6 y7))
  | 0 => fun _ _ _ _ _ _ _ _ r h => by simp [spec_l20Ear.l0] at h
  | k + 1 => by
    have ih0 := spec_l20Ear.mono_l k
    · intro y0 y1 y2 y3 y4 y5 y6 y7
      unfold spec_l20Ear.l0
      repeat' first
      | (with_reducible exact ih0 _ _ _ _ _ _ _ _)
      | (with_reducible exact spec_EarHear.mono _ _ _ _ _ _ _)
      | (with_reducible exact spec_EarRead.mono _ _ _ _ _ _)
      | (with_reducible exact spec_l20Heard.mono _ _ _)
      | (with_reducible exact spec_l20Rd_odd.mono _ _ _ _)
      | (with_reducible exact spec_l20Rd_pick.mono _ _ _ _)
      | (with_reducible exact LeO.refl _)
      | (with_reducible exact LeO.none _)
      | (with_reducible refine LeO.ite ?_ ?_)
      | (with_reducible refine LeO.bind ?_ (fun _ => ?_))
      | exact ih0 _ _ _ _ _ _ _ _
      | exact spec_EarHear.mono _ _ _ _ _ _ _
      | exact spec_EarRead.mono _ _ _ _ _ _
      | exact spec_l20Heard.mono _ _ _
      | exact spec_l20Rd_odd.mono _ _ _ _
      | exact spec_l20Rd_pick.mono _ _ _ _
      | exact LeO.none _
      | refine LeO.ite ?_ ?_
      | refine LeO.bind ?_ (fun _ => ?_)
theorem spec_l20Ear.mono : ∀ a0 a1 a2 k, LeO (spec_l20Ear.f k a0 a1 a2) (spec_l20Ear.f (k + 1) a0 a1 a2) := by
  intro a0 a1 a2 k
  have ih0 := spec_l20Ear.mono_l k
  unfold spec_l20Ear.f
  repeat' first
      | (with_reducible exact ih0 _ _ _ _ _ _ _ _)
      | (with_reducible exact spec_EarHear.mono _ _ _ _ _ _ _)
      | (with_reducible exact spec_EarRead.mono _ _ _ _ _ _)
      | (with_reducible exact spec_l20Heard.mono _ _ _)
      | (with_reducible exact spec_l20Rd_odd.mono _ _ _ _)
      | (with_reducible exact spec_l20Rd_pick.mono _ _ _ _)
      | (with_reducible exact LeO.refl _)
      | (with_reducible exact LeO.none _)
      | (with_reducible refine LeO.ite ?_ ?_)
      | (with_reducible refine LeO.bind ?_ (fun _ => ?_))
      | exact ih0 _ _ _ _ _ _ _ _
      | exact spec_EarHear.mono _ _ _ _ _ _ _
      | exact spec_EarRead.mono _ _ _ _ _ _
      | exact spec_l20Heard.mono _ _ _
      | exact spec_l20Rd_odd.mono _ _ _ _
      | exact spec_l20Rd_pick.mono _ _ _ _
      | exact LeO.none _
      | refine LeO.ite ?_ ?_
      | refine LeO.bind ?_ (fun _ => ?_)
def spec_l20Ear.T6 : Bool × List (List Nat × List Nat) := (true, [([], []), ([], []), ([], []), ([], []), ([3], [3]), ([2, 4, 4], [2, 4]), ([0, 1, 5, 5], [0, 1, 5]), ([6, 6, 0, 1, 2, 3, 4, 5, 6], [6])])
def spec_l20Ear.B6 : List Nat := [0, 0, 0, 0, 8, 28, 63, 127]
theorem spec_l20Ear.tab6 : rtab .any (opsOf Try.f40 6) = spec_l20Ear.T6 := by kernel_rfl
theorem spec_l20Ear.bits6 : waitsOk spec_l20Ear.T6.2 spec_l20Ear.B6 = true := by kernel_rfl
def spec_l20Ear.T8 : Bool × List (List Nat × List Nat) := (true, [([], []), ([], []), ([1], [1]), ([0, 2, 2], [0, 2]), ([3], [3]), ([4], [4]), ([4], [4]), ([5, 3, 0, 1, 2, 3, 4, 5], [5])])
def spec_l20Ear.B8 : List Nat := [0, 0, 2, 7, 15, 31, 31, 63]
theorem spec_l20Ear.tab8 : rtab .any (opsOf Try.f40 8) = spec_l20Ear.T8 := by kernel_rfl
theorem spec_l20Ear.bits8 : waitsOk spec_l20Ear.T8.2 spec_l20Ear.B8 = true := by kernel_rfl
def spec_l20Ear.T17 : Bool × List (List Nat × List Nat) := (true, [([], []), ([0], [0]), ([], []), ([2], [2]), ([], []), ([4], [4]), ([3, 5], [3, 5]), ([6], [6]), ([7], [7]), ([8], [8]), ([1, 9, 5], [1, 9]), ([0, 1, 2, 3, 4, 5, 6, 7, 8, 9, 10], []), ([11, 10, 10, 0, 1, 2, 3, 4, 5, 6, 7, 8, 9, 10], [10, 11])])
def spec_l20Ear.B17 : List Nat := [0, 1, 0, 4, 0, 16, 60, 124, 252, 508, 1023, 2047, 4095]
theorem spec_l20Ear.tab17 : rtab .any (opsOf Try.f40 17) = spec_l20Ear.T17 := by kernel_rfl
theorem spec_l20Ear.bits17 : waitsOk spec_l20Ear.T17.2 spec_l20Ear.B17 = true := by kernel_rfl
set_option maxHeartbeats 8000000 in
set_option maxRecDepth 100000 in
theorem spec_l20Ear.calls (k : Nat) (g : Nat) (s0_0 : List Int) (s0_1 : Int) (a1 : Int) (r1 : Int) (r2 : Int) (r3 : List Int) (r4 : List (S70)) (r5 : Int) (w0 w : World) (hI : IsS94 w0 w g s0_0 s0_1) (hB : Below w0.heap.size w0 w) (h : spec_l20Ear.f k s0_0 s0_1 a1 = some (r1, r2, r3, r4, r5)) :
    Calls Try.prog 40 #[.pointer (some ⟨g, 0, none⟩), .int .i64 a1] w fun e w' => ∃ v2_ v3_ : Value, e = .returned (.agg #[.int .i64 r1, .int .i64 r2, v2_, v3_]) ∧ Kd.R (Kd.int .u8) 5 w' w.heap.size (fun _ => True) v2_ r3 ∧ Kd.Q k70 70 w' w.heap.size (fun _ => True) v3_ r4 ∧ IsS94 w0 w' g s0_0 r5 ∧ Below w0.heap.size w0 w' ∧ KeepBut w w' g none := by
  have hu25 := Try.underlying25
  have hu70 := Try.underlying70
  have HI0 := Aside0.mk hI
  have HK := Aside0.mk (KeepBut.refl w g none)
  have HL := Aside0.mk hB.size
  clear hI
  have HW0 := Aside0.mk hB.size
  have HB := Aside0.mk hB
  clear hB
  have H : ((spec_l20Rd_pick.f k s0_0 s0_1 3).bind fun bt253 => ((spec_l20Rd_pick.f k s0_0 bt253.2 20).bind fun bt255 => ((spec_l20Rd_pick.f k s0_0 bt255.2 6).bind fun bt258 => (spec_l20Ear.l0 k a1 bt258.1 s0_0 bt258.2 (wrap64 (100 + (wrap64 (bt253.1 * 40)))) (wrap64 (4 + bt255.1)) ([] : List Int) ([] : List (S70)))))) = some (r1, r2, r3, r4, r5) := h
  clear h
  replace H := Option.bind_eq_some_iff.mp H
  obtain ⟨⟨t253, t254⟩, A30, H⟩ := H
  replace H : ((spec_l20Rd_pick.f k s0_0 t254 20).bind fun bt255 => ((spec_l20Rd_pick.f k s0_0 bt255.2 6).bind fun bt258 => (spec_l20Ear.l0 k a1 bt258.1 s0_0 bt258.2 (wrap64 (100 + (wrap64 (t253 * 40)))) (wrap64 (4 + bt255.1)) ([] : List Int) ([] : List (S70))))) = some (r1, r2, r3, r4, r5) := H
  have A3 := Aside0.mk A30
  clear A30
  replace H := Option.bind_eq_some_iff.mp H
  obtain ⟨⟨t255, t256⟩, A40, H⟩ := H
  replace H : ((spec_l20Rd_pick.f k s0_0 t256 6).bind fun bt258 => (spec_l20Ear.l0 k a1 bt258.1 s0_0 bt258.2 (wrap64 (100 + (wrap64 (t253 * 40)))) (wrap64 (4 + t255)) ([] : List Int) ([] : List (S70)))) = some (r1, r2, r3, r4, r5) := H
  have A4 := Aside0.mk A40
  clear A40
  replace H := Option.bind_eq_some_iff.mp H
  obtain ⟨⟨t258, t259⟩, A50, H⟩ := H
  replace H : (spec_l20Ear.l0 k a1 t258 s0_0 t259 (wrap64 (100 + (wrap64 (t253 * 40)))) (wrap64 (4 + t255)) ([] : List Int) ([] : List (S70))) = some (r1, r2, r3, r4, r5) := H
  have A5 := Aside0.mk A50
  clear A50
  have H' := Aside0.mk H
  clear H
  go_enter Try.func40, Try.ntmps40
  go_wp2_with (first | ((with_reducible refine gate_dst (N := 4) rfl ?_); refine box_event ?hg (N := 4) ?hd (cs := #[.int .i64 0, .int .i64 0, .slice none 0 0, .slice none 0 0]) (t := 25) ?hr ?_; (case hd => rfl); (case hg => rfl); (case hr => first | (go_simp; done) | (go_simp; rfl)); intro gb252 hg w6 hbox hb; have n0_ := Aside0.mk (IsS94.below (by repeat (first | (with_reducible first | exact HI0.out | apply IsS94.alloc | apply IsS94.drewN | apply IsS94.drew | apply IsS94.set_1) | exact HI0.out)) hb); have n1_ := Aside0.mk (KeepBut.trans (by repeat (first | (with_reducible first | exact HK.out | apply KeepBut.set_ | apply keep_drewN | apply keep_drew | apply keep_alloc) | exact HK.out)) (KeepBut.of_below hb g none) (.inl rfl)); have n2_ := Aside0.mk (below_step (by repeat (first | (with_reducible first | exact HB.out | apply below_alloc | apply pw_below_drewN | apply below_drew1 | refine below_set ?_ (IsS94.ge HI0.out)) | exact HB.out)) hb); have n3_ := Aside0.mk (hbox); have n4_ := Aside0.mk ((by rw [hg]; exact (keep_size (w := w) (g := g) (row := none) (by repeat (first | (with_reducible first | exact HK.out | apply KeepBut.set_ | apply keep_drewN | apply keep_drew | apply keep_alloc) | exact HK.out))) : w.heap.size ≤ gb252)); have n5_ := Aside0.mk ((Nat.le_trans HW0.out (by rw [hg]; exact (keep_size (w := w) (g := g) (row := none) (by repeat (first | (with_reducible first | exact HK.out | apply KeepBut.set_ | apply keep_drewN | apply keep_drew | apply keep_alloc) | exact HK.out))) : w.heap.size ≤ gb252) : w0.heap.size ≤ gb252)); have n6_ := Aside0.mk ((by rw [hg]; exact Nat.ne_of_lt (IsS94.lt (show IsS94 w0 _ g s0_0 s0_1 from by repeat (first | (with_reducible first | exact HI0.out | apply IsS94.alloc | apply IsS94.drewN | apply IsS94.drew | apply IsS94.set_1) | exact HI0.out))) : g ≠ gb252)); have n7_ := Aside0.mk ((by rw [hg]; exact Nat.ne_of_gt (IsS94.lt (show IsS94 w0 _ g s0_0 s0_1 from by repeat (first | (with_reducible first | exact HI0.out | apply IsS94.alloc | apply IsS94.drewN | apply IsS94.drew | apply IsS94.set_1) | exact HI0.out))) : gb252 ≠ g)); clear HI0; clear HK; clear HB; have HI0 := n0_; have HK := n1_; have HB := n2_; have BK252 := n3_; have GW252 := n4_; have GE252 := n5_; have NB0_252 := n6_; have NB252_0 := n7_; clear n0_ n1_ n2_ n3_ n4_ n5_ n6_ n7_; clear hb hbox hg) | ((with_reducible refine gate_callee (f := 48) rfl ?_); refine goesL_ (some 9) rfl rfl Try.func48 (by kernel_rfl) rfl #[.pointer (some ⟨g, 0, none⟩), .int .i64 3] rfl ar_ ?_; (with_reducible refine (spec_l20Rd_pick.calls k g s0_0 s0_1 3 t253 t254 w0 _ ?side1 ?side2 A3.out).mono ?_); (case side1 => repeat (first | (with_reducible first | exact HI0.out | apply IsS94.alloc | apply IsS94.drewN | apply IsS94.drew | apply IsS94.set_1 | refine IsS94.far ?_ NB0_252.out _) | exact HI0.out)); (case side2 => repeat (first | (with_reducible first | exact HB.out | apply below_alloc | apply pw_below_drewN | apply below_drew1 | refine below_set ?_ (IsS94.ge HI0.out) | refine below_set ?_ GE252.out) | exact HB.out)); rintro e w7 ⟨rfl, hi, hb, hk⟩; refine ⟨_, rfl, ?_⟩; have n0_ := Aside0.mk (KeepBut.blk hk (g' := gb252) (o := .cells #[.int .i64 0, .int .i64 0, .slice none 0 0, .slice none 0 0] 25 (0, 0)) (kb_ BK252.out) NB252_0.out (by simp)); have n1_ := Aside0.mk (KeepBut.trans (by repeat (first | (with_reducible first | exact HK.out | apply KeepBut.set_ | apply keep_drewN | apply keep_drew | apply keep_alloc | refine keep_far ?_ GW252.out _) | exact HK.out)) hk (.inl rfl)); have n2_ := Aside0.mk (hb); have n3_ := Aside0.mk (hi); clear BK252; clear HK; clear HB; clear HI0; have BK252 := n0_; have HK := n1_; have HB := n2_; have HI0 := n3_; clear n0_ n1_ n2_ n3_; (try clear hb); (try clear hb2); (try clear hk); (try clear hi)) | ((with_reducible refine gate_callee (f := 48) rfl ?_); refine goesL_ (some 13) rfl rfl Try.func48 (by kernel_rfl) rfl #[.pointer (some ⟨g, 0, none⟩), .int .i64 20] rfl ar_ ?_; (with_reducible refine (spec_l20Rd_pick.calls k g s0_0 t254 20 t255 t256 w0 _ ?side1 ?side2 A4.out).mono ?_); (case side1 => repeat (first | (with_reducible first | exact HI0.out | apply IsS94.alloc | apply IsS94.drewN | apply IsS94.drew | apply IsS94.set_1 | refine IsS94.far ?_ NB0_252.out _) | exact HI0.out)); (case side2 => repeat (first | (with_reducible first | exact HB.out | apply below_alloc | apply pw_below_drewN | apply below_drew1 | refine below_set ?_ (IsS94.ge HI0.out) | refine below_set ?_ GE252.out) | exact HB.out)); rintro e w8 ⟨rfl, hi, hb, hk⟩; refine ⟨_, rfl, ?_⟩; have n0_ := Aside0.mk (KeepBut.blk hk (g' := gb252) (o := .cells #[.int .i64 0, .int .i64 0, .slice none 0 0, .slice none 0 0] 25 (0, 0)) (kb_ BK252.out) NB252_0.out (by simp)); have n1_ := Aside0.mk (KeepBut.trans (by repeat (first | (with_reducible first | exact HK.out | apply KeepBut.set_ | apply keep_drewN | apply keep_drew | apply keep_alloc | refine keep_far ?_ GW252.out _) | exact HK.out)) hk (.inl rfl)); have n2_ := Aside0.mk (hb); have n3_ := Aside0.mk (hi); clear BK252; clear HK; clear HB; clear HI0; have BK252 := n0_; have HK := n1_; have HB := n2_; have HI0 := n3_; clear n0_ n1_ n2_ n3_; (try clear hb); (try clear hb2); (try clear hk); (try clear hi)) | ((with_reducible refine gate_dst (N := 5) rfl ?_); refine box_event ?hg (N := 5) ?hd (cs := #[.int .i64 0, .int .i64 0, .slice none 0 0, .slice none 0 0]) (t := 25) ?hr ?_; (case hd => rfl); (case hg => rfl); (case hr => first | (go_simp; done) | (go_simp; rfl)); intro gb257 hg w9 hbox hb; have n0_ := Aside0.mk (IsS94.below (by repeat (first | (with_reducible first | exact HI0.out | apply IsS94.alloc | apply IsS94.drewN | apply IsS94.drew | apply IsS94.set_1 | refine IsS94.far ?_ NB0_252.out _) | exact HI0.out)) hb); have n1_ := Aside0.mk (blk_below (g := gb252) (o := .cells #[.int .i64 0, .int .i64 0, .slice none 0 0, .slice none 0 0] 25 (0, 0)) (kb_ BK252.out) hb); have n2_ := Aside0.mk (KeepBut.trans (by repeat (first | (with_reducible first | exact HK.out | apply KeepBut.set_ | apply keep_drewN | apply keep_drew | apply keep_alloc | refine keep_far ?_ GW252.out _) | exact HK.out)) (KeepBut.of_below hb g none) (.inl rfl)); have n3_ := Aside0.mk (below_step (by repeat (first | (with_reducible first | exact HB.out | apply below_alloc | apply pw_below_drewN | apply below_drew1 | refine below_set ?_ (IsS94.ge HI0.out) | refine below_set ?_ GE252.out) | exact HB.out)) hb); have n4_ := Aside0.mk (hbox); have n5_ := Aside0.mk ((by rw [hg]; exact (keep_size (w := w) (g := g) (row := none) (by repeat (first | (with_reducible first | exact HK.out | apply KeepBut.set_ | apply keep_drewN | apply keep_drew | apply keep_alloc | refine keep_far ?_ GW252.out _) | exact HK.out))) : w.heap.size ≤ gb257)); have n6_ := Aside0.mk ((Nat.le_trans HW0.out (by rw [hg]; exact (keep_size (w := w) (g := g) (row := none) (by repeat (first | (with_reducible first | exact HK.out | apply KeepBut.set_ | apply keep_drewN | apply keep_drew | apply keep_alloc | refine keep_far ?_ GW252.out _) | exact HK.out))) : w.heap.size ≤ gb257) : w0.heap.size ≤ gb257)); have n7_ := Aside0.mk ((by rw [hg]; exact Nat.ne_of_lt (blk_lt (g := gb252) (o := .cells #[.int .i64 0, .int .i64 0, .slice none 0 0, .slice none 0 0] 25 (0, 0)) (kb_ BK252.out)) : gb252 ≠ gb257)); have n8_ := Aside0.mk ((by rw [hg]; exact Nat.ne_of_gt (blk_lt (g := gb252) (o := .cells #[.int .i64 0, .int .i64 0, .slice none 0 0, .slice none 0 0] 25 (0, 0)) (kb_ BK252.out)) : gb257 ≠ gb252)); have n9_ := Aside0.mk ((by rw [hg]; exact Nat.ne_of_lt (IsS94.lt (show IsS94 w0 _ g s0_0 t256 from by repeat (first | (with_reducible first | exact HI0.out | apply IsS94.alloc | apply IsS94.drewN | apply IsS94.drew | apply IsS94.set_1 | refine IsS94.far ?_ NB0_252.out _) | exact HI0.out))) : g ≠ gb257)); have n10_ := Aside0.mk ((by rw [hg]; exact Nat.ne_of_gt (IsS94.lt (show IsS94 w0 _ g s0_0 t256 from by repeat (first | (with_reducible first | exact HI0.out | apply IsS94.alloc | apply IsS94.drewN | apply IsS94.drew | apply IsS94.set_1 | refine IsS94.far ?_ NB0_252.out _) | exact HI0.out))) : gb257 ≠ g)); clear HI0; clear BK252; clear HK; clear HB; have HI0 := n0_; have BK252 := n1_; have HK := n2_; have HB := n3_; have BK257 := n4_; have GW257 := n5_; have GE257 := n6_; have NB252_257 := n7_; have NB257_252 := n8_; have NB0_257 := n9_; have NB257_0 := n10_; clear n0_ n1_ n2_ n3_ n4_ n5_ n6_ n7_ n8_ n9_ n10_; clear hb hbox hg; have hnb10 := NB257_252.out; have hnc10 := NB252_257.out; have hnb11 := NB257_0.out; have hnc11 := NB0_257.out; have hcz12_0 : w9.cell? ⟨gb257, 0, none⟩ = some (.int .i64 0) := (blk_cell BK257.out 0).trans rfl; have hcz12_1 : w9.cell? ⟨gb257, 1, none⟩ = some (.int .i64 0) := (blk_cell BK257.out 1).trans rfl; have hcz12_2 : w9.cell? ⟨gb257, 2, none⟩ = some (.slice none 0 0) := (blk_cell BK257.out 2).trans rfl; have hcz12_3 : w9.cell? ⟨gb257, 3, none⟩ = some (.slice none 0 0) := (blk_cell BK257.out 3).trans rfl; have hfz12_0 := blk_frozen BK257.out 0; have hfz12_1 := blk_frozen BK257.out 1; have hfz12_2 := blk_frozen BK257.out 2; have hfz12_3 := blk_frozen BK257.out 3) | ((with_reducible refine gate_callee (f := 48) rfl ?_); refine goesL_ (some 17) rfl rfl Try.func48 (by kernel_rfl) rfl #[.pointer (some ⟨g, 0, none⟩), .int .i64 6] rfl ar_ ?_; (with_reducible refine (spec_l20Rd_pick.calls k g s0_0 t256 6 t258 t259 w0 _ ?side1 ?side2 A5.out).mono ?_); (case side1 => repeat (first | (with_reducible first | exact HI0.out | apply IsS94.alloc | apply IsS94.drewN | apply IsS94.drew | apply IsS94.set_1 | refine IsS94.far ?_ NB0_252.out _ | refine IsS94.far ?_ NB0_257.out _) | exact HI0.out)); (case side2 => repeat (first | (with_reducible first | exact HB.out | apply below_alloc | apply pw_below_drewN | apply below_drew1 | refine below_set ?_ (IsS94.ge HI0.out) | refine below_set ?_ GE252.out | refine below_set ?_ GE257.out) | exact HB.out)); rintro e w13 ⟨rfl, hi, hb, hk⟩; refine ⟨_, rfl, ?_⟩; have n0_ := Aside0.mk (KeepBut.blk hk (g' := gb252) (o := .cells #[.int .i64 0, .int .i64 0, .slice none 0 0, .slice none 0 0] 25 (0, 0)) (by refine kb_ ?_; refine blk_far ?_ NB252_257.out _; refine kb_ ?_; refine blk_far ?_ NB252_257.out _; refine kb_ ?_; refine blk_far ?_ NB252_257.out _; refine kb_ ?_; refine blk_far ?_ NB252_257.out _; refine kb_ ?_; exact BK252.out) NB252_0.out (by simp)); have n1_ := Aside0.mk (KeepBut.blk hk (g' := gb257) (o := .cells #[.int .i64 (wrap64 (100 + (wrap64 (t253 * 40)))), .int .i64 (wrap64 (4 + t255)), .slice none 0 0, .slice none 0 0] 25 (0, 0)) (by refine kb_ ?_; refine blk_put (cs := #[.int .i64 (wrap64 (100 + (wrap64 (t253 * 40)))), .int .i64 (wrap64 (4 + t255)), .slice none 0 0, .slice none 0 0]) ?_ 3 _ rfl; refine kb_ ?_; refine blk_put (cs := #[.int .i64 (wrap64 (100 + (wrap64 (t253 * 40)))), .int .i64 (wrap64 (4 + t255)), .slice none 0 0, .slice none 0 0]) ?_ 2 _ rfl; refine kb_ ?_; refine blk_put (cs := #[.int .i64 (wrap64 (100 + (wrap64 (t253 * 40)))), .int .i64 0, .slice none 0 0, .slice none 0 0]) ?_ 1 _ rfl; refine kb_ ?_; refine blk_put (cs := #[.int .i64 0, .int .i64 0, .slice none 0 0, .slice none 0 0]) ?_ 0 _ rfl; refine kb_ ?_; exact BK257.out) NB257_0.out (by simp)); have n2_ := Aside0.mk (KeepBut.trans (by repeat (first | (with_reducible first | exact HK.out | apply KeepBut.set_ | apply keep_drewN | apply keep_drew | apply keep_alloc | refine keep_far ?_ GW252.out _ | refine keep_far ?_ GW257.out _) | exact HK.out)) hk (.inl rfl)); have n3_ := Aside0.mk (hb); have n4_ := Aside0.mk (hi); clear BK252; clear BK257; clear HK; clear HB; clear HI0; have BK252 := n0_; have BK257 := n1_; have HK := n2_; have HB := n3_; have HI0 := n4_; clear n0_ n1_ n2_ n3_ n4_; (try clear hb); (try clear hb2); (try clear hk); (try clear hi)))
  go_loopg [6] k (fun kq v6 w' => ∃ (x6_1 : Int) (x1001_1 : Int) (x258000_1 : Int) (x258001_1 : Int) (x258002_1 : List Int) (x258003_1 : List (S70)) (u258002 : Value) (u258003 : Value), v6 = .int .i64 x6_1 ∧ Aside0 (spec_l20Ear.l0 kq a1 x6_1 s0_0 x1001_1 x258000_1 x258001_1 x258002_1 x258003_1 = some (r1, r2, r3, r4, r5)) ∧ Aside0 (kq ≤ k) ∧ Aside0 (Kd.R (Kd.int .u8) 5 w' w.heap.size (fun _ => True) u258002 x258002_1) ∧ Aside0 (Kd.Q k70 70 w' w.heap.size (fun _ => True) u258003 x258003_1) ∧ Aside0 (w'.heap[gb252]? = some (.cells #[.int .i64 0, .int .i64 0, (.slice none 0 0), (.slice none 0 0)] 25 (0, 0))) ∧ Aside0 (w'.heap[gb257]? = some (.cells #[.int .i64 x258000_1, .int .i64 x258001_1, u258002, u258003] 25 (0, 0))) ∧ Aside0 (IsS94 w0 w' g s0_0 x1001_1) ∧ Aside0 (KeepBut w w' g none) ∧ Aside0 (Below w0.heap.size w0 w'))
  case atStart => exact ⟨(t258), (t259), (wrap64 (100 + (wrap64 (t253 * 40)))), (wrap64 (4 + t255)), (([] : List Int)), (([] : List (S70))), (.slice none 0 0), (.slice none 0 0), (by first | rfl | (simp; done) | (simp [*]; done)), H', ⟨Nat.le_refl _⟩, ⟨by first | exact Kd.R_nil _ _ _ _ _ | exact Kd.N_nil _ _ _ _ _ | exact Kd.V_nil _ _ _ _ _ | exact Kd.Q_nil _ _ _ _ _ | exact Kd.S_nil _ _ _ _ _⟩, ⟨Kd.Q_of_R (by first | exact Kd.R_nil _ _ _ _ _ | exact Kd.N_nil _ _ _ _ _ | exact Kd.V_nil _ _ _ _ _ | exact Kd.Q_nil _ _ _ _ _ | exact Kd.S_nil _ _ _ _ _)⟩, ⟨by refine kb_ ?_; exact BK252.out⟩, ⟨by refine kb_ ?_; exact BK257.out⟩, ⟨by repeat (first | (with_reducible first | exact HI0.out | apply IsS94.alloc | apply IsS94.drewN | apply IsS94.drew | apply IsS94.set_1 | refine IsS94.far ?_ NB0_252.out _ | refine IsS94.far ?_ NB0_257.out _) | exact HI0.out)⟩, ⟨by repeat (first | (with_reducible first | exact HK.out | apply KeepBut.set_ | apply keep_drewN | apply keep_drew | apply keep_alloc | refine keep_far ?_ GW252.out _ | refine keep_far ?_ GW257.out _) | exact HK.out)⟩, ⟨by repeat (first | (with_reducible first | exact HB.out | apply below_alloc | apply pw_below_drewN | apply below_drew1 | refine below_set ?_ (IsS94.ge HI0.out) | refine below_set ?_ GE252.out | refine below_set ?_ GE257.out) | exact HB.out)⟩⟩
  case round =>
    clear H'
    try clear c1
    try clear p2
    try clear c4
    try clear p6
    try clear c10
    try clear c11
    try clear hcz12_0
    try clear hcz12_1
    try clear hcz12_2
    try clear hcz12_3
    try clear hfz12_0
    try clear hfz12_1
    try clear hfz12_2
    try clear hfz12_3
    obtain ⟨x6_1, x1001_1, x258000_1, x258001_1, x258002_1, x258003_1, u258002, u258003, rfl, HA, HK1, HO_258002, HO_258003, BK252, BK257, HI0, HK, HB⟩ := hrel
    cases gk with
    | zero => exact absurd HA.out (by simp [spec_l20Ear.l0])
    | succ k1 =>
      have H := HA.out
      clear HA
      simp only [spec_l20Ear.l0] at H
      by_cases c14 : x6_1 > 0
      · rw [if_pos c14] at H
        have c14b0 : decide (0 < x6_1) = true := decide_eq_true c14
        clear c14
        replace H := Option.bind_eq_some_iff.mp H
        obtain ⟨⟨t260, t261⟩, A150, H⟩ := H
        replace H : ((spec_l20Rd_pick.f k1 s0_0 t261 5).bind fun bt262 => ((spec_l20Heard.f k1 (wrap64 ((wrap64 (x258000_1 + t260)) - 4)) bt262.1).bind fun t264 => ((spec_EarHear.f k1 x258000_1 x258001_1 x258002_1 x258003_1 (wrap64 ((wrap64 (x258000_1 + t260)) - 4)) t264).bind fun bt267 => ((spec_l20Rd_pick.f k1 s0_0 bt262.2 4).bind fun bt275 => (if bt275.1 = 0 then ((spec_l20Rd_pick.f k1 s0_0 bt275.2 5).bind fun bt277 => ((spec_EarRead.f k1 bt267.1 bt267.2.1 bt267.2.2.1 bt267.2.2.2 bt277.1).bind fun bt279 => (spec_l20Ear.l0 k1 a1 (wrap64 (x6_1 - 1)) s0_0 bt277.2 bt279.1 bt279.2.1 bt279.2.2.1 bt279.2.2.2.1))) else (spec_l20Ear.l0 k1 a1 (wrap64 (x6_1 - 1)) s0_0 bt275.2 bt267.1 bt267.2.1 bt267.2.2.1 bt267.2.2.2)))))) = some (r1, r2, r3, r4, r5) := H
        have A15 := Aside0.mk A150
        clear A150
        replace H := Option.bind_eq_some_iff.mp H
        obtain ⟨⟨t262, t263⟩, A160, H⟩ := H
        replace H : ((spec_l20Heard.f k1 (wrap64 ((wrap64 (x258000_1 + t260)) - 4)) t262).bind fun t264 => ((spec_EarHear.f k1 x258000_1 x258001_1 x258002_1 x258003_1 (wrap64 ((wrap64 (x258000_1 + t260)) - 4)) t264).bind fun bt267 => ((spec_l20Rd_pick.f k1 s0_0 t263 4).bind fun bt275 => (if bt275.1 = 0 then ((spec_l20Rd_pick.f k1 s0_0 bt275.2 5).bind fun bt277 => ((spec_EarRead.f k1 bt267.1 bt267.2.1 bt267.2.2.1 bt267.2.2.2 bt277.1).bind fun bt279 => (spec_l20Ear.l0 k1 a1 (wrap64 (x6_1 - 1)) s0_0 bt277.2 bt279.1 bt279.2.1 bt279.2.2.1 bt279.2.2.2.1))) else (spec_l20Ear.l0 k1 a1 (wrap64 (x6_1 - 1)) s0_0 bt275.2 bt267.1 bt267.2.1 bt267.2.2.1 bt267.2.2.2))))) = some (r1, r2, r3, r4, r5) := H
        have A16 := Aside0.mk A160
        clear A160
        replace H := Option.bind_eq_some_iff.mp H
        obtain ⟨t264, A170, H⟩ := H
        replace H : ((spec_EarHear.f k1 x258000_1 x258001_1 x258002_1 x258003_1 (wrap64 ((wrap64 (x258000_1 + t260)) - 4)) t264).bind fun bt267 => ((spec_l20Rd_pick.f k1 s0_0 t263 4).bind fun bt275 => (if bt275.1 = 0 then ((spec_l20Rd_pick.f k1 s0_0 bt275.2 5).bind fun bt277 => ((spec_EarRead.f k1 bt267.1 bt267.2.1 bt267.2.2.1 bt267.2.2.2 bt277.1).bind fun bt279 => (spec_l20Ear.l0 k1 a1 (wrap64 (x6_1 - 1)) s0_0 bt277.2 bt279.1 bt279.2.1 bt279.2.2.1 bt279.2.2.2.1))) else (spec_l20Ear.l0 k1 a1 (wrap64 (x6_1 - 1)) s0_0 bt275.2 bt267.1 bt267.2.1 bt267.2.2.1 bt267.2.2.2)))) = some (r1, r2, r3, r4, r5) := H
        have A17 := Aside0.mk A170
        clear A170
        replace H := Option.bind_eq_some_iff.mp H
        obtain ⟨⟨t267, t268, t269, t272⟩, A180, H⟩ := H
        replace H : ((spec_l20Rd_pick.f k1 s0_0 t263 4).bind fun bt275 => (if bt275.1 = 0 then ((spec_l20Rd_pick.f k1 s0_0 bt275.2 5).bind fun bt277 => ((spec_EarRead.f k1 t267 t268 t269 t272 bt277.1).bind fun bt279 => (spec_l20Ear.l0 k1 a1 (wrap64 (x6_1 - 1)) s0_0 bt277.2 bt279.1 bt279.2.1 bt279.2.2.1 bt279.2.2.2.1))) else (spec_l20Ear.l0 k1 a1 (wrap64 (x6_1 - 1)) s0_0 bt275.2 t267 t268 t269 t272))) = some (r1, r2, r3, r4, r5) := H
        have A18 := Aside0.mk A180
        clear A180
        replace H := Option.bind_eq_some_iff.mp H
        obtain ⟨⟨t275, t276⟩, A190, H⟩ := H
        replace H : (if t275 = 0 then ((spec_l20Rd_pick.f k1 s0_0 t276 5).bind fun bt277 => ((spec_EarRead.f k1 t267 t268 t269 t272 bt277.1).bind fun bt279 => (spec_l20Ear.l0 k1 a1 (wrap64 (x6_1 - 1)) s0_0 bt277.2 bt279.1 bt279.2.1 bt279.2.2.1 bt279.2.2.2.1))) else (spec_l20Ear.l0 k1 a1 (wrap64 (x6_1 - 1)) s0_0 t276 t267 t268 t269 t272)) = some (r1, r2, r3, r4, r5) := H
        have A19 := Aside0.mk A190
        clear A190
        by_cases c20 : t275 = 0
        · rw [if_pos c20] at H
          have c20b0 : (t275 == 0) = true := beq_iff_eq.mpr c20
          have c20b1 : (t275 != 0) = false := bne_eq_false_iff_eq.mpr c20
          clear c20
          replace H := Option.bind_eq_some_iff.mp H
          obtain ⟨⟨t277, t278⟩, A210, H⟩ := H
          replace H : ((spec_EarRead.f k1 t267 t268 t269 t272 t277).bind fun bt279 => (spec_l20Ear.l0 k1 a1 (wrap64 (x6_1 - 1)) s0_0 t278 bt279.1 bt279.2.1 bt279.2.2.1 bt279.2.2.2.1)) = some (r1, r2, r3, r4, r5) := H
          have A21 := Aside0.mk A210
          clear A210
          replace H := Option.bind_eq_some_iff.mp H
          obtain ⟨⟨t279, t280, t281, t284, t287⟩, A220, H⟩ := H
          replace H : (spec_l20Ear.l0 k1 a1 (wrap64 (x6_1 - 1)) s0_0 t278 t279 t280 t281 t284) = some (r1, r2, r3, r4, r5) := H
          have A22 := Aside0.mk A220
          clear A220
          have H' := Aside0.mk H
          clear H
          try go_wp2
          have n0_ := Aside0.mk (Kd.R_drew HO_258002.out)
          have n1_ := Aside0.mk (Kd.Q_drew HO_258003.out)
          have n2_ := Aside0.mk (blk_drew BK252.out)
          have n3_ := Aside0.mk (blk_drew BK257.out)
          have n4_ := Aside0.mk (IsS94.drew HI0.out)
          have n5_ := Aside0.mk (keep_drew HK.out)
          have n6_ := Aside0.mk (below_drew1 HB.out)
          clear HO_258002
          clear HO_258003
          clear BK252
          clear BK257
          clear HI0
          clear HK
          clear HB
          have HO_258002 := n0_
          have HO_258003 := n1_
          have BK252 := n2_
          have BK257 := n3_
          have HI0 := n4_
          have HK := n5_
          have HB := n6_
          clear n0_ n1_ n2_ n3_ n4_ n5_ n6_
          refine start_ (n := 7) (S := fun w' => w'.cell? ⟨gb257, 0, none⟩ = some (.int .i64 x258000_1) ∧ w'.cell? ⟨gb257, 1, none⟩ = some (.int .i64 x258001_1) ∧ w'.cell? ⟨gb257, 2, none⟩ = some (u258002) ∧ w'.cell? ⟨gb257, 3, none⟩ = some (u258003)) (ds := []) #[false, false, false, false, false, false, false] (by kernel_rfl) rfl rfl ⟨(blk_cell BK257.out 0).trans rfl, (blk_cell BK257.out 1).trans rfl, (blk_cell BK257.out 2).trans rfl, (blk_cell BK257.out 3).trans rfl⟩ (fun hHeld => ?_)
          generalize wr.drew = w23 at HO_258002 HO_258003 BK252 BK257 HI0 HK HB hHeld ⊢
          refine pure_ (i := 0) (N := some 22) (v := ?_) (a' := ?_) #[true, false, false, false, false, false, false] rfl rfl (by kernel_rfl) (fun _ _ _ h => h) (Or.inl ⟨by rfl, ?_⟩) ?_ ?_
          rotate_left
          · intro w'
            go_simp
            with_reducible rfl
          rotate_left
          · simp only [Act.put, List.setIfInBounds_toArray, List.set_cons_zero, List.set_cons_succ, i64_w, i32_w]
            rfl
          refine pure_ (i := 2) (N := some 24) (v := ?_) (a' := ?_) #[true, false, true, false, false, false, false] rfl rfl (by kernel_rfl) (fun _ _ _ h => h) (Or.inl ⟨by rfl, ?_⟩) ?_ ?_
          rotate_left
          · intro w'
            go_simp
            with_reducible rfl
          rotate_left
          · simp only [Act.put, List.setIfInBounds_toArray, List.set_cons_zero, List.set_cons_succ, i64_w, i32_w]
            rfl
          refine take_ (i := 1) (N := some 23) (v := ?_) (a' := ?_) #[true, true, true, false, false, false, false] rfl rfl (by kernel_rfl) (fun _ _ _ h => h) (Or.inl ⟨by rfl, ?_⟩) hHeld ?_ ?_
          rotate_left
          · rintro w' ⟨s0, s1, s2, s3⟩
            go_simp
            with_reducible rfl
          rotate_left
          · simp only [Act.put, List.setIfInBounds_toArray, List.set_cons_zero, List.set_cons_succ, i64_w, i32_w]
            rfl
          refine one_ (i := 3) (N := some 25) #[true, true, true, true, false, false, false] rfl rfl (by kernel_rfl) (by decide) (fun K hK => ?_)
          refine goes_ Try.func48 (by kernel_rfl) rfl #[.pointer (some ⟨g, 0, none⟩), .int .i64 14] (by rfl) rfl rfl ar_ ?_
          with_reducible refine (spec_l20Rd_pick.calls k1 g s0_0 x1001_1 14 t260 t261 w0 _ ?side1 ?side2 A15.out).mono ?_
          (case side1 => repeat (first | (with_reducible first | exact HI0.out | apply IsS94.alloc | apply IsS94.drewN | apply IsS94.drew | apply IsS94.set_1 | refine IsS94.far ?_ NB0_252.out _ | refine IsS94.far ?_ NB0_257.out _) | exact HI0.out))
          (case side2 => repeat (first | (with_reducible first | exact HB.out | apply below_alloc | apply pw_below_drewN | apply below_drew1 | refine below_set ?_ (IsS94.ge HI0.out) | refine below_set ?_ GE252.out | refine below_set ?_ GE257.out) | exact HB.out))
          rintro e w24 ⟨rfl, hi, hb, hk⟩
          refine ⟨_, rfl, ?_⟩
          have n0_ := Aside0.mk (Kd.R_mono (Kd.R_keep (IsS94.apart (show IsS94 w0 _ g s0_0 x1001_1 from by repeat (first | (with_reducible first | exact HI0.out | apply IsS94.alloc | apply IsS94.drewN | apply IsS94.drew | apply IsS94.set_1 | refine IsS94.far ?_ NB0_252.out _ | refine IsS94.far ?_ NB0_257.out _) | exact HI0.out)) (kR_ HO_258002.out) (by decide)) hk (fun _ h => h.2)) (fun _ h => h.1))
          have n1_ := Aside0.mk (Kd.Q_mono (Kd.Q_keep (IsS94.apartQ (show IsS94 w0 _ g s0_0 x1001_1 from by repeat (first | (with_reducible first | exact HI0.out | apply IsS94.alloc | apply IsS94.drewN | apply IsS94.drew | apply IsS94.set_1 | refine IsS94.far ?_ NB0_252.out _ | refine IsS94.far ?_ NB0_257.out _) | exact HI0.out)) (by (with_reducible repeat (first | apply Kd.Q_alloc | apply Kd.Q_drewN | apply Kd.Q_drew)); exact HO_258003.out) (by decide)) hk (fun _ h => h.2)) (fun _ h => h.1))
          have n2_ := Aside0.mk (KeepBut.blk hk (g' := gb252) (o := .cells #[.int .i64 0, .int .i64 0, .slice none 0 0, .slice none 0 0] 25 (0, 0)) (kb_ BK252.out) NB252_0.out (by simp))
          have n3_ := Aside0.mk (KeepBut.blk hk (g' := gb257) (o := .cells #[.int .i64 x258000_1, .int .i64 x258001_1, u258002, u258003] 25 (0, 0)) (kb_ BK257.out) NB257_0.out (by simp))
          have n4_ := Aside0.mk (KeepBut.trans (by repeat (first | (with_reducible first | exact HK.out | apply KeepBut.set_ | apply keep_drewN | apply keep_drew | apply keep_alloc | refine keep_far ?_ GW252.out _ | refine keep_far ?_ GW257.out _) | exact HK.out)) hk (.inl rfl))
          have n5_ := Aside0.mk (hb)
          have n6_ := Aside0.mk (hi)
          clear HO_258002
          clear HO_258003
          clear BK252
          clear BK257
          clear HK
          clear HB
          clear HI0
          have HO_258002 := n0_
          have HO_258003 := n1_
          have BK252 := n2_
          have BK257 := n3_
          have HK := n4_
          have HB := n5_
          have HI0 := n6_
          clear n0_ n1_ n2_ n3_ n4_ n5_ n6_
          (try clear hb)
          (try clear hb2)
          (try clear hk)
          (try clear hi)
          refine hK.out _ _ ⟨(blk_cell BK257.out 0).trans rfl, (blk_cell BK257.out 1).trans rfl, (blk_cell BK257.out 2).trans rfl, (blk_cell BK257.out 3).trans rfl⟩ (fun hHeld => ?_)
          clear hK K
          refine nm_ 25 ?_
          refine pure_ (i := 4) (N := some 26) (v := ?_) (a' := ?_) #[true, true, true, true, true, false, false] rfl rfl (by kernel_rfl) (fun _ _ _ h => h) (Or.inl ⟨by rfl, ?_⟩) ?_ ?_
          rotate_left
          · intro w'
            go_simp
            with_reducible rfl
          rotate_left
          · simp only [Act.put, List.setIfInBounds_toArray, List.set_cons_zero, List.set_cons_succ, i64_w, i32_w]
            rfl
          refine pure_ (i := 5) (N := some 27) (v := ?_) (a' := ?_) #[true, true, true, true, true, true, false] rfl rfl (by kernel_rfl) (fun _ _ _ h => h) (Or.inl ⟨by rfl, ?_⟩) ?_ ?_
          rotate_left
          · intro w'
            go_simp
            with_reducible rfl
          rotate_left
          · simp only [Act.put, List.setIfInBounds_toArray, List.set_cons_zero, List.set_cons_succ, i64_w, i32_w]
            rfl
          refine pure_ (i := 6) (N := some 7) (v := ?_) (a' := ?_) #[true, true, true, true, true, true, true] rfl rfl (by kernel_rfl) (fun _ _ _ h => h) (Or.inl ⟨by rfl, ?_⟩) ?_ ?_
          rotate_left
          · intro w'
            go_simp
            with_reducible rfl
          rotate_left
          · simp only [Act.put, List.setIfInBounds_toArray, List.set_cons_zero, List.set_cons_succ, i64_w, i32_w]
            rfl
          refine done_ (by kernel_rfl) ?_
          try go_wp2
          have n0_ := Aside0.mk (Kd.R_drew HO_258002.out)
          have n1_ := Aside0.mk (Kd.Q_drew HO_258003.out)
          have n2_ := Aside0.mk (blk_drew BK252.out)
          have n3_ := Aside0.mk (blk_drew BK257.out)
          have n4_ := Aside0.mk (IsS94.drew HI0.out)
          have n5_ := Aside0.mk (keep_drew HK.out)
          have n6_ := Aside0.mk (below_drew1 HB.out)
          clear HO_258002
          clear HO_258003
          clear BK252
          clear BK257
          clear HI0
          clear HK
          clear HB
          have HO_258002 := n0_
          have HO_258003 := n1_
          have BK252 := n2_
          have BK257 := n3_
          have HI0 := n4_
          have HK := n5_
          have HB := n6_
          clear n0_ n1_ n2_ n3_ n4_ n5_ n6_
          refine start_ (n := 8) (S := fun w' => w'.cell? ⟨gb257, 0, none⟩ = some (.int .i64 x258000_1) ∧ w'.cell? ⟨gb257, 1, none⟩ = some (.int .i64 x258001_1) ∧ w'.cell? ⟨gb257, 2, none⟩ = some (u258002) ∧ w'.cell? ⟨gb257, 3, none⟩ = some (u258003)) (ds := [7]) #[false, false, false, false, false, false, false, false] (by kernel_rfl) rfl rfl ⟨(blk_cell BK257.out 0).trans rfl, (blk_cell BK257.out 1).trans rfl, (blk_cell BK257.out 2).trans rfl, (blk_cell BK257.out 3).trans rfl⟩ (fun hHeld => ?_); refine with_tabW spec_l20Ear.tab6 spec_l20Ear.bits6 (fun HT_ HW_ => ?_)
          generalize w24.drew = w25 at HO_258002 HO_258003 BK252 BK257 HI0 HK HB hHeld ⊢
          refine pu_ (i := 1) (N := some 29) HT_ ?_
          refine pu_ (i := 2) (N := some 30) HT_ ?_
          refine pu_ (i := 3) (N := some 31) HT_ ?_
          refine tk_ (i := 0) (N := some 28) HT_ HW_ hHeld ?_
          refine on_ (i := 4) (N := some 32) HT_ (fun K hK => ?_)
          refine goes_ Try.func48 (by kernel_rfl) rfl #[.pointer (some ⟨g, 0, none⟩), .int .i64 5] (by rfl) rfl rfl ar_ ?_
          with_reducible refine (spec_l20Rd_pick.calls k1 g s0_0 t261 5 t262 t263 w0 _ ?side1 ?side2 A16.out).mono ?_
          (case side1 => repeat (first | (with_reducible first | exact HI0.out | apply IsS94.alloc | apply IsS94.drewN | apply IsS94.drew | apply IsS94.set_1 | refine IsS94.far ?_ NB0_252.out _ | refine IsS94.far ?_ NB0_257.out _) | exact HI0.out))
          (case side2 => repeat (first | (with_reducible first | exact HB.out | apply below_alloc | apply pw_below_drewN | apply below_drew1 | refine below_set ?_ (IsS94.ge HI0.out) | refine below_set ?_ GE252.out | refine below_set ?_ GE257.out) | exact HB.out))
          rintro e w26 ⟨rfl, hi, hb, hk⟩
          refine ⟨_, rfl, ?_⟩
          have n0_ := Aside0.mk (Kd.R_mono (Kd.R_keep (IsS94.apart (show IsS94 w0 _ g s0_0 t261 from by repeat (first | (with_reducible first | exact HI0.out | apply IsS94.alloc | apply IsS94.drewN | apply IsS94.drew | apply IsS94.set_1 | refine IsS94.far ?_ NB0_252.out _ | refine IsS94.far ?_ NB0_257.out _) | exact HI0.out)) (kR_ HO_258002.out) (by decide)) hk (fun _ h => h.2)) (fun _ h => h.1))
          have n1_ := Aside0.mk (Kd.Q_mono (Kd.Q_keep (IsS94.apartQ (show IsS94 w0 _ g s0_0 t261 from by repeat (first | (with_reducible first | exact HI0.out | apply IsS94.alloc | apply IsS94.drewN | apply IsS94.drew | apply IsS94.set_1 | refine IsS94.far ?_ NB0_252.out _ | refine IsS94.far ?_ NB0_257.out _) | exact HI0.out)) (by (with_reducible repeat (first | apply Kd.Q_alloc | apply Kd.Q_drewN | apply Kd.Q_drew)); exact HO_258003.out) (by decide)) hk (fun _ h => h.2)) (fun _ h => h.1))
          have n2_ := Aside0.mk (KeepBut.blk hk (g' := gb252) (o := .cells #[.int .i64 0, .int .i64 0, .slice none 0 0, .slice none 0 0] 25 (0, 0)) (kb_ BK252.out) NB252_0.out (by simp))
          have n3_ := Aside0.mk (KeepBut.blk hk (g' := gb257) (o := .cells #[.int .i64 x258000_1, .int .i64 x258001_1, u258002, u258003] 25 (0, 0)) (kb_ BK257.out) NB257_0.out (by simp))
          have n4_ := Aside0.mk (KeepBut.trans (by repeat (first | (with_reducible first | exact HK.out | apply KeepBut.set_ | apply keep_drewN | apply keep_drew | apply keep_alloc | refine keep_far ?_ GW252.out _ | refine keep_far ?_ GW257.out _) | exact HK.out)) hk (.inl rfl))
          have n5_ := Aside0.mk (hb)
          have n6_ := Aside0.mk (hi)
          clear HO_258002
          clear HO_258003
          clear BK252
          clear BK257
          clear HK
          clear HB
          clear HI0
          have HO_258002 := n0_
          have HO_258003 := n1_
          have BK252 := n2_
          have BK257 := n3_
          have HK := n4_
          have HB := n5_
          have HI0 := n6_
          clear n0_ n1_ n2_ n3_ n4_ n5_ n6_
          (try clear hb)
          (try clear hb2)
          (try clear hk)
          (try clear hi)
          refine hK.out _ _ ⟨(blk_cell BK257.out 0).trans rfl, (blk_cell BK257.out 1).trans rfl, (blk_cell BK257.out 2).trans rfl, (blk_cell BK257.out 3).trans rfl⟩ (fun hHeld => ?_)
          clear hK K
          refine nm_ 32 ?_
          refine on_ (i := 5) (N := some 33) HT_ (fun K hK => ?_)
          refine goes_ Try.func71 (by kernel_rfl) rfl #[.int .i64 (wrap64 ((wrap64 (x258000_1 + t260)) - 4)), .int .i64 t262] (by rfl) rfl rfl ar_ ?_
          with_reducible refine (spec_l20Heard.calls k1 (wrap64 ((wrap64 (x258000_1 + t260)) - 4)) t262 t264 _ A17.out).mono ?_
          rintro e w27 ⟨v265, rfl, ho0, hb⟩
          refine ⟨_, rfl, ?_⟩
          have n0_ := Aside0.mk (Kd.R_elder' (kR_ HO_258002.out) (Kd.R_base ho0) hb)
          have n1_ := Aside0.mk (Kd.Q_below (by (with_reducible repeat (first | apply Kd.Q_alloc | apply Kd.Q_drewN | apply Kd.Q_drew)); exact HO_258003.out) hb)
          have n2_ := Aside0.mk (Kd.R_lower (Kd.R_new' ho0 (Kd.R_lt (kR_ HO_258002.out))) (keep_size (w := w) (g := g) (row := none) (by repeat (first | (with_reducible first | exact HK.out | apply KeepBut.set_ | apply keep_drewN | apply keep_drew | apply keep_alloc | refine keep_far ?_ GW252.out _ | refine keep_far ?_ GW257.out _) | exact HK.out))))
          have n3_ := Aside0.mk (blk_below (g := gb252) (o := .cells #[.int .i64 0, .int .i64 0, .slice none 0 0, .slice none 0 0] 25 (0, 0)) (kb_ BK252.out) hb)
          have n4_ := Aside0.mk (blk_below (g := gb257) (o := .cells #[.int .i64 x258000_1, .int .i64 x258001_1, u258002, u258003] 25 (0, 0)) (kb_ BK257.out) hb)
          have n5_ := Aside0.mk (IsS94.below (by repeat (first | (with_reducible first | exact HI0.out | apply IsS94.alloc | apply IsS94.drewN | apply IsS94.drew | apply IsS94.set_1 | refine IsS94.far ?_ NB0_252.out _ | refine IsS94.far ?_ NB0_257.out _) | exact HI0.out)) hb)
          have n6_ := Aside0.mk (KeepBut.trans (by repeat (first | (with_reducible first | exact HK.out | apply KeepBut.set_ | apply keep_drewN | apply keep_drew | apply keep_alloc | refine keep_far ?_ GW252.out _ | refine keep_far ?_ GW257.out _) | exact HK.out)) (KeepBut.of_below hb g none) (.inl rfl))
          have n7_ := Aside0.mk (below_step (by repeat (first | (with_reducible first | exact HB.out | apply below_alloc | apply pw_below_drewN | apply below_drew1 | refine below_set ?_ (IsS94.ge HI0.out) | refine below_set ?_ GE252.out | refine below_set ?_ GE257.out) | exact HB.out)) hb)
          clear HO_258002
          clear HO_258003
          clear BK252
          clear BK257
          clear HI0
          clear HK
          clear HB
          have HO_258002 := n0_
          have HO_258003 := n1_
          have HO266 := n2_
          have BK252 := n3_
          have BK257 := n4_
          have HI0 := n5_
          have HK := n6_
          have HB := n7_
          clear n0_ n1_ n2_ n3_ n4_ n5_ n6_ n7_
          (try clear hb)
          (try clear hb2)
          (try clear hk)
          (try clear hi)
          (try clear ho0)
          obtain ⟨Ao28, co28, eo28⟩ := Kd.R_slice HO_258002.out
          (first | subst eo28 | (injection eo28 with f1_ f2_ f3_; have f4_ := f1_.symm; have f5_ := f3_.symm; clear f1_ f2_ f3_; subst f4_; subst f5_))
          obtain ⟨Ao29, co29, eo29, _⟩ := Kd.Q_slice HO_258003.out
          (first | subst eo29 | (injection eo29 with f1_ f2_ f3_; have f4_ := f1_.symm; have f5_ := f3_.symm; clear f1_ f2_ f3_; subst f4_; subst f5_))
          obtain ⟨Ao30, co30, eo30⟩ := Kd.R_slice HO266.out
          (first | subst eo30 | (injection eo30 with f1_ f2_ f3_; have f4_ := f1_.symm; have f5_ := f3_.symm; clear f1_ f2_ f3_; subst f4_; subst f5_))
          refine hK.out _ _ ⟨(blk_cell BK257.out 0).trans rfl, (blk_cell BK257.out 1).trans rfl, (blk_cell BK257.out 2).trans rfl, (blk_cell BK257.out 3).trans rfl⟩ (fun hHeld => ?_)
          clear hK K
          refine nm_ 33 ?_
          refine on_ (i := 6) (N := some 34) HT_ (fun K hK => ?_)
          refine goes_ Try.func70 (by kernel_rfl) rfl #[.agg #[.int .i64 x258000_1, .int .i64 x258001_1, .slice Ao28 x258002_1.length co28, .slice Ao29 x258003_1.length co29], .int .i64 (wrap64 ((wrap64 (x258000_1 + t260)) - 4)), .slice Ao30 t264.length co30] (by rfl) rfl rfl ar_ ?_
          with_reducible refine (spec_EarHear.calls k1 x258000_1 x258001_1 _ _ x258002_1 _ _ x258003_1 (wrap64 ((wrap64 (x258000_1 + t260)) - 4)) _ _ t264 t267 t268 t269 t272 _ ?side1 ?side2 ?side3 ?side4 ?side5 ?side6 A18.out).mono ?_
          (case side1 => exact kC_ (Kd.R_reads' HO_258002.out).2.2)
          (case side2 => exact (Kd.R_reads' HO_258002.out).2.1)
          (case side3 => exact kC_ (Kd.Q_reads' HO_258003.out).2.2)
          (case side4 => exact (Kd.Q_reads' HO_258003.out).2.1)
          (case side5 => exact kC_ (Kd.R_reads' HO266.out).2.2)
          (case side6 => exact (Kd.R_reads' HO266.out).2.1)
          rintro e w31 ⟨v270, v273, rfl, ho0, ho1, hb⟩
          refine ⟨_, rfl, ?_⟩
          have n0_ := Aside0.mk (Kd.R_elder' (kR_ HO_258002.out) (Kd.R_base ho0) hb)
          have n1_ := Aside0.mk (Kd.Q_elder' (by (with_reducible repeat (first | apply Kd.Q_alloc | apply Kd.Q_drewN | apply Kd.Q_drew)); exact HO_258003.out) (Kd.Q_base ho1) hb)
          have n2_ := Aside0.mk (Kd.R_elder' (kR_ HO266.out) (Kd.R_base ho0) hb)
          have n3_ := Aside0.mk (Kd.R_lower (Kd.R_new' (Kd.R_new' ho0 (Kd.R_lt (kR_ HO_258002.out))) (Kd.R_lt (kR_ HO266.out))) (keep_size (w := w) (g := g) (row := none) (by repeat (first | (with_reducible first | exact HK.out | apply KeepBut.set_ | apply keep_drewN | apply keep_drew | apply keep_alloc | refine keep_far ?_ GW252.out _ | refine keep_far ?_ GW257.out _) | exact HK.out))))
          have n4_ := Aside0.mk (Kd.Q_lower (Kd.Q_new' ho1 (Kd.Q_lt (by (with_reducible repeat (first | apply Kd.Q_alloc | apply Kd.Q_drewN | apply Kd.Q_drew)); exact HO_258003.out))) (keep_size (w := w) (g := g) (row := none) (by repeat (first | (with_reducible first | exact HK.out | apply KeepBut.set_ | apply keep_drewN | apply keep_drew | apply keep_alloc | refine keep_far ?_ GW252.out _ | refine keep_far ?_ GW257.out _) | exact HK.out))))
          have n5_ := Aside0.mk (blk_below (g := gb252) (o := .cells #[.int .i64 0, .int .i64 0, .slice none 0 0, .slice none 0 0] 25 (0, 0)) (kb_ BK252.out) hb)
          have n6_ := Aside0.mk (blk_below (g := gb257) (o := .cells #[.int .i64 x258000_1, .int .i64 x258001_1, .slice Ao28 x258002_1.length co28, .slice Ao29 x258003_1.length co29] 25 (0, 0)) (kb_ BK257.out) hb)
          have n7_ := Aside0.mk (IsS94.below (by repeat (first | (with_reducible first | exact HI0.out | apply IsS94.alloc | apply IsS94.drewN | apply IsS94.drew | apply IsS94.set_1 | refine IsS94.far ?_ NB0_252.out _ | refine IsS94.far ?_ NB0_257.out _) | exact HI0.out)) hb)
          have n8_ := Aside0.mk (KeepBut.trans (by repeat (first | (with_reducible first | exact HK.out | apply KeepBut.set_ | apply keep_drewN | apply keep_drew | apply keep_alloc | refine keep_far ?_ GW252.out _ | refine keep_far ?_ GW257.out _) | exact HK.out)) (KeepBut.of_below hb g none) (.inl rfl))
          have n9_ := Aside0.mk (below_step (by repeat (first | (with_reducible first | exact HB.out | apply below_alloc | apply pw_below_drewN | apply below_drew1 | refine below_set ?_ (IsS94.ge HI0.out) | refine below_set ?_ GE252.out | refine below_set ?_ GE257.out) | exact HB.out)) hb)
          clear HO_258002
          clear HO_258003
          clear HO266
          clear BK252
          clear BK257
          clear HI0
          clear HK
          clear HB
          have HO_258002 := n0_
          have HO_258003 := n1_
          have HO266 := n2_
          have HO271 := n3_
          have HO274 := n4_
          have BK252 := n5_
          have BK257 := n6_
          have HI0 := n7_
          have HK := n8_
          have HB := n9_
          clear n0_ n1_ n2_ n3_ n4_ n5_ n6_ n7_ n8_ n9_
          (try clear hb)
          (try clear hb2)
          (try clear hk)
          (try clear hi)
          (try clear ho0)
          (try clear ho1)
          obtain ⟨Ao34, co34, eo34⟩ := Kd.R_slice HO271.out
          (first | subst eo34 | (injection eo34 with f1_ f2_ f3_; have f4_ := f1_.symm; have f5_ := f3_.symm; clear f1_ f2_ f3_; subst f4_; subst f5_))
          obtain ⟨Ao36, co36, eo36, _⟩ := Kd.Q_slice HO274.out
          (first | subst eo36 | (injection eo36 with f1_ f2_ f3_; have f4_ := f1_.symm; have f5_ := f3_.symm; clear f1_ f2_ f3_; subst f4_; subst f5_))
          refine hK.out _ _ ⟨(blk_cell BK257.out 0).trans rfl, (blk_cell BK257.out 1).trans rfl, (blk_cell BK257.out 2).trans rfl, (blk_cell BK257.out 3).trans rfl⟩ (fun hHeld => ?_)
          clear hK K
          refine nm_ 34 ?_
          refine last_ (i := 7) (N := none) #[true, true, true, true, true, true, true, true] rfl rfl (one_of HT_.out (by kernel_rfl)) (by decide) (fun K hK => ?_)
          have hs32 : w31.cell? ⟨gb257, 0, none⟩ = some (.int .i64 x258000_1) := (blk_cell BK257.out 0).trans rfl
          have hfs32 := blk_frozen BK257.out 0
          have hns32_0 := NB252_257.out
          have hms32_0 := NB257_252.out
          have hs33 : w31.cell? ⟨gb257, 1, none⟩ = some (.int .i64 x258001_1) := (blk_cell BK257.out 1).trans rfl
          have hfs33 := blk_frozen BK257.out 1
          have hns33_0 := NB252_257.out
          have hms33_0 := NB257_252.out
          have hs35 : w31.cell? ⟨gb257, 2, none⟩ = some (.slice Ao28 x258002_1.length co28) := (blk_cell BK257.out 2).trans rfl
          have hfs35 := blk_frozen BK257.out 2
          have hns35_0 := NB252_257.out
          have hms35_0 := NB257_252.out
          have hs37 : w31.cell? ⟨gb257, 3, none⟩ = some (.slice Ao29 x258003_1.length co29) := (blk_cell BK257.out 3).trans rfl
          have hfs37 := blk_frozen BK257.out 3
          have hns37_0 := NB252_257.out
          have hms37_0 := NB257_252.out
          refine skip_ (w1 := ?_) (by rfl) rfl ?_ ?_
          rotate_left
          · go_simp
            rfl
          refine hK.out _ _ ?_
          clear hK K
          refine done_ (done_of HT_.out (by kernel_rfl)) ?_
          try go_wp2_with (first | ((with_reducible refine gate_callee (f := 48) rfl ?_); refine goesL_ (some 36) rfl rfl Try.func48 (by kernel_rfl) rfl #[.pointer (some ⟨g, 0, none⟩), .int .i64 4] rfl ar_ ?_; (with_reducible refine (spec_l20Rd_pick.calls k1 g s0_0 t263 4 t275 t276 w0 _ ?side1 ?side2 A19.out).mono ?_); (case side1 => repeat (first | (with_reducible first | exact HI0.out | apply IsS94.alloc | apply IsS94.drewN | apply IsS94.drew | apply IsS94.set_1 | refine IsS94.far ?_ NB0_252.out _ | refine IsS94.far ?_ NB0_257.out _) | exact HI0.out)); (case side2 => repeat (first | (with_reducible first | exact HB.out | apply below_alloc | apply pw_below_drewN | apply below_drew1 | refine below_set ?_ (IsS94.ge HI0.out) | refine below_set ?_ GE252.out | refine below_set ?_ GE257.out) | exact HB.out)); rintro e w38 ⟨rfl, hi, hb, hk⟩; refine ⟨_, rfl, ?_⟩; have n0_ := Aside0.mk (Kd.R_mono (Kd.R_keep (IsS94.apart (show IsS94 w0 _ g s0_0 t263 from by repeat (first | (with_reducible first | exact HI0.out | apply IsS94.alloc | apply IsS94.drewN | apply IsS94.drew | apply IsS94.set_1 | refine IsS94.far ?_ NB0_252.out _ | refine IsS94.far ?_ NB0_257.out _) | exact HI0.out)) (by refine kR_ ?_; exact (Kd.R_mono (Kd.R_f gb257 3 (.slice Ao36 t272.length co36) (Kd.R_f gb257 2 (.slice Ao34 t269.length co34) (Kd.R_f gb257 1 (.int .i64 t268) (Kd.R_f gb257 0 (.int .i64 t267) (Kd.R_types HO_258002.out BK257.out (by decide)))))) (fun _ h_ => op1_ h_))) (by decide)) hk (fun _ h => h.2)) (fun _ h => h.1)); have n1_ := Aside0.mk (Kd.Q_mono (Kd.Q_keep (IsS94.apartQ (show IsS94 w0 _ g s0_0 t263 from by repeat (first | (with_reducible first | exact HI0.out | apply IsS94.alloc | apply IsS94.drewN | apply IsS94.drew | apply IsS94.set_1 | refine IsS94.far ?_ NB0_252.out _ | refine IsS94.far ?_ NB0_257.out _) | exact HI0.out)) (by (with_reducible repeat (first | apply Kd.Q_alloc | apply Kd.Q_drewN | apply Kd.Q_drew)); exact (Kd.Q_mono (Kd.Q_far (p := ⟨gb257, 3, none⟩) (Kd.Q_far (p := ⟨gb257, 2, none⟩) (Kd.Q_far (p := ⟨gb257, 1, none⟩) (Kd.Q_far (p := ⟨gb257, 0, none⟩) (Kd.Q_types HO_258003.out BK257.out (by decide)) (fun _ hk => hk.2) (.int .i64 t267)) (fun _ hk => hk.2) (.int .i64 t268)) (fun _ hk => hk.2) (.slice Ao34 t269.length co34)) (fun _ hk => hk.2) (.slice Ao36 t272.length co36)) (fun _ h_ => op1_ h_))) (by decide)) hk (fun _ h => h.2)) (fun _ h => h.1)); have n2_ := Aside0.mk (KeepBut.blk hk (g' := gb252) (o := .cells #[.int .i64 0, .int .i64 0, .slice none 0 0, .slice none 0 0] 25 (0, 0)) (by refine kb_ ?_; refine blk_far ?_ NB252_257.out _; refine kb_ ?_; refine blk_far ?_ NB252_257.out _; refine kb_ ?_; refine blk_far ?_ NB252_257.out _; refine kb_ ?_; refine blk_far ?_ NB252_257.out _; refine kb_ ?_; exact BK252.out) NB252_0.out (by simp)); have n3_ := Aside0.mk (KeepBut.blk hk (g' := gb257) (o := .cells #[.int .i64 t267, .int .i64 t268, .slice Ao34 t269.length co34, .slice Ao36 t272.length co36] 25 (0, 0)) (by refine kb_ ?_; refine blk_put (cs := #[.int .i64 t267, .int .i64 t268, .slice Ao34 t269.length co34, .slice Ao29 x258003_1.length co29]) ?_ 3 _ rfl; refine kb_ ?_; refine blk_put (cs := #[.int .i64 t267, .int .i64 t268, .slice Ao28 x258002_1.length co28, .slice Ao29 x258003_1.length co29]) ?_ 2 _ rfl; refine kb_ ?_; refine blk_put (cs := #[.int .i64 t267, .int .i64 x258001_1, .slice Ao28 x258002_1.length co28, .slice Ao29 x258003_1.length co29]) ?_ 1 _ rfl; refine kb_ ?_; refine blk_put (cs := #[.int .i64 x258000_1, .int .i64 x258001_1, .slice Ao28 x258002_1.length co28, .slice Ao29 x258003_1.length co29]) ?_ 0 _ rfl; refine kb_ ?_; exact BK257.out) NB257_0.out (by simp)); have n4_ := Aside0.mk (Kd.R_mono (Kd.R_keep (IsS94.apart (show IsS94 w0 _ g s0_0 t263 from by repeat (first | (with_reducible first | exact HI0.out | apply IsS94.alloc | apply IsS94.drewN | apply IsS94.drew | apply IsS94.set_1 | refine IsS94.far ?_ NB0_252.out _ | refine IsS94.far ?_ NB0_257.out _) | exact HI0.out)) (by refine kR_ ?_; exact (Kd.R_mono (Kd.R_f gb257 3 (.slice Ao36 t272.length co36) (Kd.R_f gb257 2 (.slice Ao34 t269.length co34) (Kd.R_f gb257 1 (.int .i64 t268) (Kd.R_f gb257 0 (.int .i64 t267) (Kd.R_types HO266.out BK257.out (by decide)))))) (fun _ h_ => op1_ h_))) (by decide)) hk (fun _ h => h.2)) (fun _ h => h.1)); have n5_ := Aside0.mk (Kd.R_mono (Kd.R_keep (IsS94.apart (show IsS94 w0 _ g s0_0 t263 from by repeat (first | (with_reducible first | exact HI0.out | apply IsS94.alloc | apply IsS94.drewN | apply IsS94.drew | apply IsS94.set_1 | refine IsS94.far ?_ NB0_252.out _ | refine IsS94.far ?_ NB0_257.out _) | exact HI0.out)) (by refine kR_ ?_; exact (Kd.R_mono (Kd.R_f gb257 3 (.slice Ao36 t272.length co36) (Kd.R_f gb257 2 (.slice Ao34 t269.length co34) (Kd.R_f gb257 1 (.int .i64 t268) (Kd.R_f gb257 0 (.int .i64 t267) (Kd.R_types HO271.out BK257.out (by decide)))))) (fun _ h_ => op1_ h_))) (by decide)) hk (fun _ h => h.2)) (fun _ h => h.1)); have n6_ := Aside0.mk (Kd.Q_mono (Kd.Q_keep (IsS94.apartQ (show IsS94 w0 _ g s0_0 t263 from by repeat (first | (with_reducible first | exact HI0.out | apply IsS94.alloc | apply IsS94.drewN | apply IsS94.drew | apply IsS94.set_1 | refine IsS94.far ?_ NB0_252.out _ | refine IsS94.far ?_ NB0_257.out _) | exact HI0.out)) (by (with_reducible repeat (first | apply Kd.Q_alloc | apply Kd.Q_drewN | apply Kd.Q_drew)); exact (Kd.Q_mono (Kd.Q_far (p := ⟨gb257, 3, none⟩) (Kd.Q_far (p := ⟨gb257, 2, none⟩) (Kd.Q_far (p := ⟨gb257, 1, none⟩) (Kd.Q_far (p := ⟨gb257, 0, none⟩) (Kd.Q_types HO274.out BK257.out (by decide)) (fun _ hk => hk.2) (.int .i64 t267)) (fun _ hk => hk.2) (.int .i64 t268)) (fun _ hk => hk.2) (.slice Ao34 t269.length co34)) (fun _ hk => hk.2) (.slice Ao36 t272.length co36)) (fun _ h_ => op1_ h_))) (by decide)) hk (fun _ h => h.2)) (fun _ h => h.1)); have n7_ := Aside0.mk (KeepBut.trans (by repeat (first | (with_reducible first | exact HK.out | apply KeepBut.set_ | apply keep_drewN | apply keep_drew | apply keep_alloc | refine keep_far ?_ GW252.out _ | refine keep_far ?_ GW257.out _) | exact HK.out)) hk (.inl rfl)); have n8_ := Aside0.mk (hb); have n9_ := Aside0.mk (hi); clear HO_258002; clear HO_258003; clear BK252; clear BK257; clear HO266; clear HO271; clear HO274; clear HK; clear HB; clear HI0; have HO_258002 := n0_; have HO_258003 := n1_; have BK252 := n2_; have BK257 := n3_; have HO266 := n4_; have HO271 := n5_; have HO274 := n6_; have HK := n7_; have HB := n8_; have HI0 := n9_; clear n0_ n1_ n2_ n3_ n4_ n5_ n6_ n7_ n8_ n9_; (try clear hb); (try clear hb2); (try clear hk); (try clear hi)))
          have n0_ := Aside0.mk (Kd.R_drew HO_258002.out)
          have n1_ := Aside0.mk (Kd.Q_drew HO_258003.out)
          have n2_ := Aside0.mk (Kd.R_drew HO266.out)
          have n3_ := Aside0.mk (Kd.R_drew HO271.out)
          have n4_ := Aside0.mk (Kd.Q_drew HO274.out)
          have n5_ := Aside0.mk (blk_drew BK252.out)
          have n6_ := Aside0.mk (blk_drew BK257.out)
          have n7_ := Aside0.mk (IsS94.drew HI0.out)
          have n8_ := Aside0.mk (keep_drew HK.out)
          have n9_ := Aside0.mk (below_drew1 HB.out)
          clear HO_258002
          clear HO_258003
          clear HO266
          clear HO271
          clear HO274
          clear BK252
          clear BK257
          clear HI0
          clear HK
          clear HB
          have HO_258002 := n0_
          have HO_258003 := n1_
          have HO266 := n2_
          have HO271 := n3_
          have HO274 := n4_
          have BK252 := n5_
          have BK257 := n6_
          have HI0 := n7_
          have HK := n8_
          have HB := n9_
          clear n0_ n1_ n2_ n3_ n4_ n5_ n6_ n7_ n8_ n9_
          refine start_ (n := 8) (S := fun w' => w'.cell? ⟨gb257, 0, none⟩ = some (.int .i64 t267) ∧ w'.cell? ⟨gb257, 1, none⟩ = some (.int .i64 t268) ∧ w'.cell? ⟨gb257, 2, none⟩ = some (.slice Ao34 t269.length co34) ∧ w'.cell? ⟨gb257, 3, none⟩ = some (.slice Ao36 t272.length co36)) (ds := [7]) #[false, false, false, false, false, false, false, false] (by kernel_rfl) rfl rfl ⟨(blk_cell BK257.out 0).trans rfl, (blk_cell BK257.out 1).trans rfl, (blk_cell BK257.out 2).trans rfl, (blk_cell BK257.out 3).trans rfl⟩ (fun hHeld => ?_); refine with_tabW spec_l20Ear.tab8 spec_l20Ear.bits8 (fun HT_ HW_ => ?_)
          generalize w38.drew = w39 at HO_258002 HO_258003 HO266 HO271 HO274 BK252 BK257 HI0 HK HB hHeld ⊢
          refine pu_ (i := 1) (N := some 40) HT_ ?_
          refine tk_ (i := 0) (N := some 39) HT_ HW_ hHeld ?_
          refine on_ (i := 2) (N := some 41) HT_ (fun K hK => ?_)
          refine goes_ Try.func48 (by kernel_rfl) rfl #[.pointer (some ⟨g, 0, none⟩), .int .i64 5] (by rfl) rfl rfl ar_ ?_
          with_reducible refine (spec_l20Rd_pick.calls k1 g s0_0 t276 5 t277 t278 w0 _ ?side1 ?side2 A21.out).mono ?_
          (case side1 => repeat (first | (with_reducible first | exact HI0.out | apply IsS94.alloc | apply IsS94.drewN | apply IsS94.drew | apply IsS94.set_1 | refine IsS94.far ?_ NB0_252.out _ | refine IsS94.far ?_ NB0_257.out _) | exact HI0.out))
          (case side2 => repeat (first | (with_reducible first | exact HB.out | apply below_alloc | apply pw_below_drewN | apply below_drew1 | refine below_set ?_ (IsS94.ge HI0.out) | refine below_set ?_ GE252.out | refine below_set ?_ GE257.out) | exact HB.out))
          rintro e w40 ⟨rfl, hi, hb, hk⟩
          refine ⟨_, rfl, ?_⟩
          have n0_ := Aside0.mk (Kd.R_mono (Kd.R_keep (IsS94.apart (show IsS94 w0 _ g s0_0 t276 from by repeat (first | (with_reducible first | exact HI0.out | apply IsS94.alloc | apply IsS94.drewN | apply IsS94.drew | apply IsS94.set_1 | refine IsS94.far ?_ NB0_252.out _ | refine IsS94.far ?_ NB0_257.out _) | exact HI0.out)) (kR_ HO_258002.out) (by decide)) hk (fun _ h => h.2)) (fun _ h => h.1))
          have n1_ := Aside0.mk (Kd.Q_mono (Kd.Q_keep (IsS94.apartQ (show IsS94 w0 _ g s0_0 t276 from by repeat (first | (with_reducible first | exact HI0.out | apply IsS94.alloc | apply IsS94.drewN | apply IsS94.drew | apply IsS94.set_1 | refine IsS94.far ?_ NB0_252.out _ | refine IsS94.far ?_ NB0_257.out _) | exact HI0.out)) (by (with_reducible repeat (first | apply Kd.Q_alloc | apply Kd.Q_drewN | apply Kd.Q_drew)); exact HO_258003.out) (by decide)) hk (fun _ h => h.2)) (fun _ h => h.1))
          have n2_ := Aside0.mk (KeepBut.blk hk (g' := gb252) (o := .cells #[.int .i64 0, .int .i64 0, .slice none 0 0, .slice none 0 0] 25 (0, 0)) (kb_ BK252.out) NB252_0.out (by simp))
          have n3_ := Aside0.mk (KeepBut.blk hk (g' := gb257) (o := .cells #[.int .i64 t267, .int .i64 t268, .slice Ao34 t269.length co34, .slice Ao36 t272.length co36] 25 (0, 0)) (kb_ BK257.out) NB257_0.out (by simp))
          have n4_ := Aside0.mk (Kd.R_mono (Kd.R_keep (IsS94.apart (show IsS94 w0 _ g s0_0 t276 from by repeat (first | (with_reducible first | exact HI0.out | apply IsS94.alloc | apply IsS94.drewN | apply IsS94.drew | apply IsS94.set_1 | refine IsS94.far ?_ NB0_252.out _ | refine IsS94.far ?_ NB0_257.out _) | exact HI0.out)) (kR_ HO266.out) (by decide)) hk (fun _ h => h.2)) (fun _ h => h.1))
          have n5_ := Aside0.mk (Kd.R_mono (Kd.R_keep (IsS94.apart (show IsS94 w0 _ g s0_0 t276 from by repeat (first | (with_reducible first | exact HI0.out | apply IsS94.alloc | apply IsS94.drewN | apply IsS94.drew | apply IsS94.set_1 | refine IsS94.far ?_ NB0_252.out _ | refine IsS94.far ?_ NB0_257.out _) | exact HI0.out)) (kR_ HO271.out) (by decide)) hk (fun _ h => h.2)) (fun _ h => h.1))
          have n6_ := Aside0.mk (Kd.Q_mono (Kd.Q_keep (IsS94.apartQ (show IsS94 w0 _ g s0_0 t276 from by repeat (first | (with_reducible first | exact HI0.out | apply IsS94.alloc | apply IsS94.drewN | apply IsS94.drew | apply IsS94.set_1 | refine IsS94.far ?_ NB0_252.out _ | refine IsS94.far ?_ NB0_257.out _) | exact HI0.out)) (by (with_reducible repeat (first | apply Kd.Q_alloc | apply Kd.Q_drewN | apply Kd.Q_drew)); exact HO274.out) (by decide)) hk (fun _ h => h.2)) (fun _ h => h.1))
          have n7_ := Aside0.mk (KeepBut.trans (by repeat (first | (with_reducible first | exact HK.out | apply KeepBut.set_ | apply keep_drewN | apply keep_drew | apply keep_alloc | refine keep_far ?_ GW252.out _ | refine keep_far ?_ GW257.out _) | exact HK.out)) hk (.inl rfl))
          have n8_ := Aside0.mk (hb)
          have n9_ := Aside0.mk (hi)
          clear HO_258002
          clear HO_258003
          clear BK252
          clear BK257
          clear HO266
          clear HO271
          clear HO274
          clear HK
          clear HB
          clear HI0
          have HO_258002 := n0_
          have HO_258003 := n1_
          have BK252 := n2_
          have BK257 := n3_
          have HO266 := n4_
          have HO271 := n5_
          have HO274 := n6_
          have HK := n7_
          have HB := n8_
          have HI0 := n9_
          clear n0_ n1_ n2_ n3_ n4_ n5_ n6_ n7_ n8_ n9_
          (try clear hb)
          (try clear hb2)
          (try clear hk)
          (try clear hi)
          refine hK.out _ _ ⟨(blk_cell BK257.out 0).trans rfl, (blk_cell BK257.out 1).trans rfl, (blk_cell BK257.out 2).trans rfl, (blk_cell BK257.out 3).trans rfl⟩ (fun hHeld => ?_)
          clear hK K
          refine nm_ 41 ?_
          refine on_ (i := 3) (N := some 42) HT_ (fun K hK => ?_)
          refine goes_ Try.func16 (by kernel_rfl) rfl #[.agg #[.int .i64 t267, .int .i64 t268, .slice Ao34 t269.length co34, .slice Ao36 t272.length co36], .int .i64 t277] (by rfl) rfl rfl ar_ ?_
          with_reducible refine (spec_EarRead.calls k1 t267 t268 _ _ t269 _ _ t272 t277 t279 t280 t281 t284 t287 _ ?side1 ?side2 ?side3 ?side4 A22.out).mono ?_
          (case side1 => exact kC_ (Kd.R_reads' HO271.out).2.2)
          (case side2 => exact (Kd.R_reads' HO271.out).2.1)
          (case side3 => exact kC_ (Kd.Q_reads' HO274.out).2.2)
          (case side4 => exact (Kd.Q_reads' HO274.out).2.1)
          rintro e w41 ⟨v282, v285, v288, rfl, ho0, ho1, ho2, hb⟩
          refine ⟨_, rfl, ?_⟩
          have n0_ := Aside0.mk (Kd.R_mono (Kd.R_told (Kd.R_told (Kd.R_old (kR_ HO_258002.out) hb) (Kd.R_base ho0)) (Kd.R_base ho2)) (fun _ h_ => op1_ h_))
          have n1_ := Aside0.mk (Kd.Q_elder' (by (with_reducible repeat (first | apply Kd.Q_alloc | apply Kd.Q_drewN | apply Kd.Q_drew)); exact HO_258003.out) (Kd.R_base ho1) hb)
          have n2_ := Aside0.mk (Kd.R_mono (Kd.R_told (Kd.R_told (Kd.R_old (kR_ HO266.out) hb) (Kd.R_base ho0)) (Kd.R_base ho2)) (fun _ h_ => op1_ h_))
          have n3_ := Aside0.mk (Kd.R_mono (Kd.R_told (Kd.R_told (Kd.R_old (kR_ HO271.out) hb) (Kd.R_base ho0)) (Kd.R_base ho2)) (fun _ h_ => op1_ h_))
          have n4_ := Aside0.mk (Kd.Q_elder' (by (with_reducible repeat (first | apply Kd.Q_alloc | apply Kd.Q_drewN | apply Kd.Q_drew)); exact HO274.out) (Kd.R_base ho1) hb)
          have n5_ := Aside0.mk (Kd.R_lower (Kd.R_new' (Kd.R_new' (Kd.R_new' ho0 (Kd.R_lt (kR_ HO_258002.out))) (Kd.R_lt (kR_ HO266.out))) (Kd.R_lt (kR_ HO271.out))) (keep_size (w := w) (g := g) (row := none) (by repeat (first | (with_reducible first | exact HK.out | apply KeepBut.set_ | apply keep_drewN | apply keep_drew | apply keep_alloc | refine keep_far ?_ GW252.out _ | refine keep_far ?_ GW257.out _) | exact HK.out))))
          have n6_ := Aside0.mk (Kd.R_lower (Kd.R_new' (Kd.R_new' ho1 (Kd.Q_lt (by (with_reducible repeat (first | apply Kd.Q_alloc | apply Kd.Q_drewN | apply Kd.Q_drew)); exact HO_258003.out))) (Kd.Q_lt (by (with_reducible repeat (first | apply Kd.Q_alloc | apply Kd.Q_drewN | apply Kd.Q_drew)); exact HO274.out))) (keep_size (w := w) (g := g) (row := none) (by repeat (first | (with_reducible first | exact HK.out | apply KeepBut.set_ | apply keep_drewN | apply keep_drew | apply keep_alloc | refine keep_far ?_ GW252.out _ | refine keep_far ?_ GW257.out _) | exact HK.out))))
          have n7_ := Aside0.mk (Kd.R_lower (Kd.R_new' (Kd.R_new' (Kd.R_new' ho2 (Kd.R_lt (kR_ HO_258002.out))) (Kd.R_lt (kR_ HO266.out))) (Kd.R_lt (kR_ HO271.out))) (keep_size (w := w) (g := g) (row := none) (by repeat (first | (with_reducible first | exact HK.out | apply KeepBut.set_ | apply keep_drewN | apply keep_drew | apply keep_alloc | refine keep_far ?_ GW252.out _ | refine keep_far ?_ GW257.out _) | exact HK.out))))
          have n8_ := Aside0.mk (blk_below (g := gb252) (o := .cells #[.int .i64 0, .int .i64 0, .slice none 0 0, .slice none 0 0] 25 (0, 0)) (kb_ BK252.out) hb)
          have n9_ := Aside0.mk (blk_below (g := gb257) (o := .cells #[.int .i64 t267, .int .i64 t268, .slice Ao34 t269.length co34, .slice Ao36 t272.length co36] 25 (0, 0)) (kb_ BK257.out) hb)
          have n10_ := Aside0.mk (IsS94.below (by repeat (first | (with_reducible first | exact HI0.out | apply IsS94.alloc | apply IsS94.drewN | apply IsS94.drew | apply IsS94.set_1 | refine IsS94.far ?_ NB0_252.out _ | refine IsS94.far ?_ NB0_257.out _) | exact HI0.out)) hb)
          have n11_ := Aside0.mk (KeepBut.trans (by repeat (first | (with_reducible first | exact HK.out | apply KeepBut.set_ | apply keep_drewN | apply keep_drew | apply keep_alloc | refine keep_far ?_ GW252.out _ | refine keep_far ?_ GW257.out _) | exact HK.out)) (KeepBut.of_below hb g none) (.inl rfl))
          have n12_ := Aside0.mk (below_step (by repeat (first | (with_reducible first | exact HB.out | apply below_alloc | apply pw_below_drewN | apply below_drew1 | refine below_set ?_ (IsS94.ge HI0.out) | refine below_set ?_ GE252.out | refine below_set ?_ GE257.out) | exact HB.out)) hb)
          clear HO_258002
          clear HO_258003
          clear HO266
          clear HO271
          clear HO274
          clear BK252
          clear BK257
          clear HI0
          clear HK
          clear HB
          have HO_258002 := n0_
          have HO_258003 := n1_
          have HO266 := n2_
          have HO271 := n3_
          have HO274 := n4_
          have HO283 := n5_
          have HO286 := n6_
          have HO289 := n7_
          have BK252 := n8_
          have BK257 := n9_
          have HI0 := n10_
          have HK := n11_
          have HB := n12_
          clear n0_ n1_ n2_ n3_ n4_ n5_ n6_ n7_ n8_ n9_ n10_ n11_ n12_
          (try clear hb)
          (try clear hb2)
          (try clear hk)
          (try clear hi)
          (try clear ho0)
          (try clear ho1)
          (try clear ho2)
          obtain ⟨Ao44, co44, eo44⟩ := Kd.R_slice HO283.out
          (first | subst eo44 | (injection eo44 with f1_ f2_ f3_; have f4_ := f1_.symm; have f5_ := f3_.symm; clear f1_ f2_ f3_; subst f4_; subst f5_))
          obtain ⟨Ao46, co46, eo46⟩ := Kd.R_slice HO286.out
          (first | subst eo46 | (injection eo46 with f1_ f2_ f3_; have f4_ := f1_.symm; have f5_ := f3_.symm; clear f1_ f2_ f3_; subst f4_; subst f5_))
          refine hK.out _ _ ⟨(blk_cell BK257.out 0).trans rfl, (blk_cell BK257.out 1).trans rfl, (blk_cell BK257.out 2).trans rfl, (blk_cell BK257.out 3).trans rfl⟩ (fun hHeld => ?_)
          clear hK K
          refine nm_ 42 ?_
          refine pu_ (i := 4) (N := some 38) HT_ ?_
          refine pu_ (i := 5) (N := some 43) HT_ ?_
          refine pu_ (i := 6) (N := some 44) HT_ ?_
          refine last_ (i := 7) (N := none) #[true, true, true, true, true, true, true, true] rfl rfl (one_of HT_.out (by kernel_rfl)) (by decide) (fun K hK => ?_)
          have hs42 : w41.cell? ⟨gb257, 0, none⟩ = some (.int .i64 t267) := (blk_cell BK257.out 0).trans rfl
          have hfs42 := blk_frozen BK257.out 0
          have hns42_0 := NB252_257.out
          have hms42_0 := NB257_252.out
          have hs43 : w41.cell? ⟨gb257, 1, none⟩ = some (.int .i64 t268) := (blk_cell BK257.out 1).trans rfl
          have hfs43 := blk_frozen BK257.out 1
          have hns43_0 := NB252_257.out
          have hms43_0 := NB257_252.out
          have hs45 : w41.cell? ⟨gb257, 2, none⟩ = some (.slice Ao34 t269.length co34) := (blk_cell BK257.out 2).trans rfl
          have hfs45 := blk_frozen BK257.out 2
          have hns45_0 := NB252_257.out
          have hms45_0 := NB257_252.out
          have hs47 : w41.cell? ⟨gb257, 3, none⟩ = some (.slice Ao36 t272.length co36) := (blk_cell BK257.out 3).trans rfl
          have hfs47 := blk_frozen BK257.out 3
          have hns47_0 := NB252_257.out
          have hms47_0 := NB257_252.out
          refine skip_ (w1 := ?_) (by rfl) rfl ?_ ?_
          rotate_left
          · go_simp
            rfl
          refine hK.out _ _ ?_
          clear hK K
          refine done_ (done_of HT_.out (by kernel_rfl)) ?_
          try go_wp2
          go_roundg k1
          case measure => have := HK1.out; omega
          case rel => exact ⟨(wrap64 (x6_1 - 1)), (t278), (t279), (t280), (t281), (t284), (.slice Ao44 t281.length co44), (.slice Ao46 t284.length co46), (by first | rfl | (simp; done) | (simp [*]; done)), H', ⟨by have := HK1.out; omega⟩, ⟨by refine kR_ ?_; exact Kd.R_mono (Kd.R_f gb257 3 (.slice Ao46 t284.length co46) (Kd.R_f gb257 2 (.slice Ao44 t281.length co44) (Kd.R_f gb257 1 (.int .i64 t280) (Kd.R_f gb257 0 (.int .i64 t279) (Kd.R_types HO283.out BK257.out (by decide)))))) (fun _ hk => trivial)⟩, ⟨Kd.Q_of_R (by refine kR_ ?_; exact Kd.R_mono (Kd.R_f gb257 3 (.slice Ao46 t284.length co46) (Kd.R_f gb257 2 (.slice Ao44 t281.length co44) (Kd.R_f gb257 1 (.int .i64 t280) (Kd.R_f gb257 0 (.int .i64 t279) (Kd.R_types HO286.out BK257.out (by decide)))))) (fun _ hk => trivial))⟩, ⟨by refine kb_ ?_; refine blk_far ?_ NB252_257.out _; refine kb_ ?_; refine blk_far ?_ NB252_257.out _; refine kb_ ?_; refine blk_far ?_ NB252_257.out _; refine kb_ ?_; refine blk_far ?_ NB252_257.out _; refine kb_ ?_; exact BK252.out⟩, ⟨by refine kb_ ?_; refine blk_put (cs := #[.int .i64 t279, .int .i64 t280, .slice Ao44 t281.length co44, .slice Ao36 t272.length co36]) ?_ 3 _ rfl; refine kb_ ?_; refine blk_put (cs := #[.int .i64 t279, .int .i64 t280, .slice Ao34 t269.length co34, .slice Ao36 t272.length co36]) ?_ 2 _ rfl; refine kb_ ?_; refine blk_put (cs := #[.int .i64 t279, .int .i64 t268, .slice Ao34 t269.length co34, .slice Ao36 t272.length co36]) ?_ 1 _ rfl; refine kb_ ?_; refine blk_put (cs := #[.int .i64 t267, .int .i64 t268, .slice Ao34 t269.length co34, .slice Ao36 t272.length co36]) ?_ 0 _ rfl; refine kb_ ?_; exact BK257.out⟩, ⟨by repeat (first | (with_reducible first | exact HI0.out | apply IsS94.alloc | apply IsS94.drewN | apply IsS94.drew | apply IsS94.set_1 | refine IsS94.far ?_ NB0_252.out _ | refine IsS94.far ?_ NB0_257.out _) | exact HI0.out)⟩, ⟨by repeat (first | (with_reducible first | exact HK.out | apply KeepBut.set_ | apply keep_drewN | apply keep_drew | apply keep_alloc | refine keep_far ?_ GW252.out _ | refine keep_far ?_ GW257.out _) | exact HK.out)⟩, ⟨by repeat (first | (with_reducible first | exact HB.out | apply below_alloc | apply pw_below_drewN | apply below_drew1 | refine below_set ?_ (IsS94.ge HI0.out) | refine below_set ?_ GE252.out | refine below_set ?_ GE257.out) | exact HB.out)⟩⟩
        · rw [if_neg c20] at H
          have c20b0 : (t275 == 0) = false := beq_eq_false_iff_ne.mpr c20
          have c20b1 : (t275 != 0) = true := bne_iff_ne.mpr c20
          have H' := Aside0.mk H
          clear H
          try go_wp2
          have n0_ := Aside0.mk (Kd.R_drew HO_258002.out)
          have n1_ := Aside0.mk (Kd.Q_drew HO_258003.out)
          have n2_ := Aside0.mk (blk_drew BK252.out)
          have n3_ := Aside0.mk (blk_drew BK257.out)
          have n4_ := Aside0.mk (IsS94.drew HI0.out)
          have n5_ := Aside0.mk (keep_drew HK.out)
          have n6_ := Aside0.mk (below_drew1 HB.out)
          clear HO_258002
          clear HO_258003
          clear BK252
          clear BK257
          clear HI0
          clear HK
          clear HB
          have HO_258002 := n0_
          have HO_258003 := n1_
          have BK252 := n2_
          have BK257 := n3_
          have HI0 := n4_
          have HK := n5_
          have HB := n6_
          clear n0_ n1_ n2_ n3_ n4_ n5_ n6_
          refine start_ (n := 7) (S := fun w' => w'.cell? ⟨gb257, 0, none⟩ = some (.int .i64 x258000_1) ∧ w'.cell? ⟨gb257, 1, none⟩ = some (.int .i64 x258001_1) ∧ w'.cell? ⟨gb257, 2, none⟩ = some (u258002) ∧ w'.cell? ⟨gb257, 3, none⟩ = some (u258003)) (ds := []) #[false, false, false, false, false, false, false] (by kernel_rfl) rfl rfl ⟨(blk_cell BK257.out 0).trans rfl, (blk_cell BK257.out 1).trans rfl, (blk_cell BK257.out 2).trans rfl, (blk_cell BK257.out 3).trans rfl⟩ (fun hHeld => ?_)
          generalize wr.drew = w48 at HO_258002 HO_258003 BK252 BK257 HI0 HK HB hHeld ⊢
          refine pure_ (i := 0) (N := some 22) (v := ?_) (a' := ?_) #[true, false, false, false, false, false, false] rfl rfl (by kernel_rfl) (fun _ _ _ h => h) (Or.inl ⟨by rfl, ?_⟩) ?_ ?_
          rotate_left
          · intro w'
            go_simp
            with_reducible rfl
          rotate_left
          · simp only [Act.put, List.setIfInBounds_toArray, List.set_cons_zero, List.set_cons_succ, i64_w, i32_w]
            rfl
          refine pure_ (i := 2) (N := some 24) (v := ?_) (a' := ?_) #[true, false, true, false, false, false, false] rfl rfl (by kernel_rfl) (fun _ _ _ h => h) (Or.inl ⟨by rfl, ?_⟩) ?_ ?_
          rotate_left
          · intro w'
            go_simp
            with_reducible rfl
          rotate_left
          · simp only [Act.put, List.setIfInBounds_toArray, List.set_cons_zero, List.set_cons_succ, i64_w, i32_w]
            rfl
          refine take_ (i := 1) (N := some 23) (v := ?_) (a' := ?_) #[true, true, true, false, false, false, false] rfl rfl (by kernel_rfl) (fun _ _ _ h => h) (Or.inl ⟨by rfl, ?_⟩) hHeld ?_ ?_
          rotate_left
          · rintro w' ⟨s0, s1, s2, s3⟩
            go_simp
            with_reducible rfl
          rotate_left
          · simp only [Act.put, List.setIfInBounds_toArray, List.set_cons_zero, List.set_cons_succ, i64_w, i32_w]
            rfl
          refine one_ (i := 3) (N := some 25) #[true, true, true, true, false, false, false] rfl rfl (by kernel_rfl) (by decide) (fun K hK => ?_)
          refine goes_ Try.func48 (by kernel_rfl) rfl #[.pointer (some ⟨g, 0, none⟩), .int .i64 14] (by rfl) rfl rfl ar_ ?_
          with_reducible refine (spec_l20Rd_pick.calls k1 g s0_0 x1001_1 14 t260 t261 w0 _ ?side1 ?side2 A15.out).mono ?_
          (case side1 => repeat (first | (with_reducible first | exact HI0.out | apply IsS94.alloc | apply IsS94.drewN | apply IsS94.drew | apply IsS94.set_1 | refine IsS94.far ?_ NB0_252.out _ | refine IsS94.far ?_ NB0_257.out _) | exact HI0.out))
          (case side2 => repeat (first | (with_reducible first | exact HB.out | apply below_alloc | apply pw_below_drewN | apply below_drew1 | refine below_set ?_ (IsS94.ge HI0.out) | refine below_set ?_ GE252.out | refine below_set ?_ GE257.out) | exact HB.out))
          rintro e w49 ⟨rfl, hi, hb, hk⟩
          refine ⟨_, rfl, ?_⟩
          have n0_ := Aside0.mk (Kd.R_mono (Kd.R_keep (IsS94.apart (show IsS94 w0 _ g s0_0 x1001_1 from by repeat (first | (with_reducible first | exact HI0.out | apply IsS94.alloc | apply IsS94.drewN | apply IsS94.drew | apply IsS94.set_1 | refine IsS94.far ?_ NB0_252.out _ | refine IsS94.far ?_ NB0_257.out _) | exact HI0.out)) (kR_ HO_258002.out) (by decide)) hk (fun _ h => h.2)) (fun _ h => h.1))
          have n1_ := Aside0.mk (Kd.Q_mono (Kd.Q_keep (IsS94.apartQ (show IsS94 w0 _ g s0_0 x1001_1 from by repeat (first | (with_reducible first | exact HI0.out | apply IsS94.alloc | apply IsS94.drewN | apply IsS94.drew | apply IsS94.set_1 | refine IsS94.far ?_ NB0_252.out _ | refine IsS94.far ?_ NB0_257.out _) | exact HI0.out)) (by (with_reducible repeat (first | apply Kd.Q_alloc | apply Kd.Q_drewN | apply Kd.Q_drew)); exact HO_258003.out) (by decide)) hk (fun _ h => h.2)) (fun _ h => h.1))
          have n2_ := Aside0.mk (KeepBut.blk hk (g' := gb252) (o := .cells #[.int .i64 0, .int .i64 0, .slice none 0 0, .slice none 0 0] 25 (0, 0)) (kb_ BK252.out) NB252_0.out (by simp))
          have n3_ := Aside0.mk (KeepBut.blk hk (g' := gb257) (o := .cells #[.int .i64 x258000_1, .int .i64 x258001_1, u258002, u258003] 25 (0, 0)) (kb_ BK257.out) NB257_0.out (by simp))
          have n4_ := Aside0.mk (KeepBut.trans (by repeat (first | (with_reducible first | exact HK.out | apply KeepBut.set_ | apply keep_drewN | apply keep_drew | apply keep_alloc | refine keep_far ?_ GW252.out _ | refine keep_far ?_ GW257.out _) | exact HK.out)) hk (.inl rfl))
          have n5_ := Aside0.mk (hb)
          have n6_ := Aside0.mk (hi)
          clear HO_258002
          clear HO_258003
          clear BK252
          clear BK257
          clear HK
          clear HB
          clear HI0
          have HO_258002 := n0_
          have HO_258003 := n1_
          have BK252 := n2_
          have BK257 := n3_
          have HK := n4_
          have HB := n5_
          have HI0 := n6_
          clear n0_ n1_ n2_ n3_ n4_ n5_ n6_
          (try clear hb)
          (try clear hb2)
          (try clear hk)
          (try clear hi)
          refine hK.out _ _ ⟨(blk_cell BK257.out 0).trans rfl, (blk_cell BK257.out 1).trans rfl, (blk_cell BK257.out 2).trans rfl, (blk_cell BK257.out 3).trans rfl⟩ (fun hHeld => ?_)
          clear hK K
          refine nm_ 25 ?_
          refine pure_ (i := 4) (N := some 26) (v := ?_) (a' := ?_) #[true, true, true, true, true, false, false] rfl rfl (by kernel_rfl) (fun _ _ _ h => h) (Or.inl ⟨by rfl, ?_⟩) ?_ ?_
          rotate_left
          · intro w'
            go_simp
            with_reducible rfl
          rotate_left
          · simp only [Act.put, List.setIfInBounds_toArray, List.set_cons_zero, List.set_cons_succ, i64_w, i32_w]
            rfl
          refine pure_ (i := 5) (N := some 27) (v := ?_) (a' := ?_) #[true, true, true, true, true, true, false] rfl rfl (by kernel_rfl) (fun _ _ _ h => h) (Or.inl ⟨by rfl, ?_⟩) ?_ ?_
          rotate_left
          · intro w'
            go_simp
            with_reducible rfl
          rotate_left
          · simp only [Act.put, List.setIfInBounds_toArray, List.set_cons_zero, List.set_cons_succ, i64_w, i32_w]
            rfl
          refine pure_ (i := 6) (N := some 7) (v := ?_) (a' := ?_) #[true, true, true, true, true, true, true] rfl rfl (by kernel_rfl) (fun _ _ _ h => h) (Or.inl ⟨by rfl, ?_⟩) ?_ ?_
          rotate_left
          · intro w'
            go_simp
            with_reducible rfl
          rotate_left
          · simp only [Act.put, List.setIfInBounds_toArray, List.set_cons_zero, List.set_cons_succ, i64_w, i32_w]
            rfl
          refine done_ (by kernel_rfl) ?_
          try go_wp2
          have n0_ := Aside0.mk (Kd.R_drew HO_258002.out)
          have n1_ := Aside0.mk (Kd.Q_drew HO_258003.out)
          have n2_ := Aside0.mk (blk_drew BK252.out)
          have n3_ := Aside0.mk (blk_drew BK257.out)
          have n4_ := Aside0.mk (IsS94.drew HI0.out)
          have n5_ := Aside0.mk (keep_drew HK.out)
          have n6_ := Aside0.mk (below_drew1 HB.out)
          clear HO_258002
          clear HO_258003
          clear BK252
          clear BK257
          clear HI0
          clear HK
          clear HB
          have HO_258002 := n0_
          have HO_258003 := n1_
          have BK252 := n2_
          have BK257 := n3_
          have HI0 := n4_
          have HK := n5_
          have HB := n6_
          clear n0_ n1_ n2_ n3_ n4_ n5_ n6_
          refine start_ (n := 8) (S := fun w' => w'.cell? ⟨gb257, 0, none⟩ = some (.int .i64 x258000_1) ∧ w'.cell? ⟨gb257, 1, none⟩ = some (.int .i64 x258001_1) ∧ w'.cell? ⟨gb257, 2, none⟩ = some (u258002) ∧ w'.cell? ⟨gb257, 3, none⟩ = some (u258003)) (ds := [7]) #[false, false, false, false, false, false, false, false] (by kernel_rfl) rfl rfl ⟨(blk_cell BK257.out 0).trans rfl, (blk_cell BK257.out 1).trans rfl, (blk_cell BK257.out 2).trans rfl, (blk_cell BK257.out 3).trans rfl⟩ (fun hHeld => ?_); refine with_tabW spec_l20Ear.tab6 spec_l20Ear.bits6 (fun HT_ HW_ => ?_)
          generalize w49.drew = w50 at HO_258002 HO_258003 BK252 BK257 HI0 HK HB hHeld ⊢
          refine pu_ (i := 1) (N := some 29) HT_ ?_
          refine pu_ (i := 2) (N := some 30) HT_ ?_
          refine pu_ (i := 3) (N := some 31) HT_ ?_
          refine tk_ (i := 0) (N := some 28) HT_ HW_ hHeld ?_
          refine on_ (i := 4) (N := some 32) HT_ (fun K hK => ?_)
          refine goes_ Try.func48 (by kernel_rfl) rfl #[.pointer (some ⟨g, 0, none⟩), .int .i64 5] (by rfl) rfl rfl ar_ ?_
          with_reducible refine (spec_l20Rd_pick.calls k1 g s0_0 t261 5 t262 t263 w0 _ ?side1 ?side2 A16.out).mono ?_
          (case side1 => repeat (first | (with_reducible first | exact HI0.out | apply IsS94.alloc | apply IsS94.drewN | apply IsS94.drew | apply IsS94.set_1 | refine IsS94.far ?_ NB0_252.out _ | refine IsS94.far ?_ NB0_257.out _) | exact HI0.out))
          (case side2 => repeat (first | (with_reducible first | exact HB.out | apply below_alloc | apply pw_below_drewN | apply below_drew1 | refine below_set ?_ (IsS94.ge HI0.out) | refine below_set ?_ GE252.out | refine below_set ?_ GE257.out) | exact HB.out))
          rintro e w51 ⟨rfl, hi, hb, hk⟩
          refine ⟨_, rfl, ?_⟩
          have n0_ := Aside0.mk (Kd.R_mono (Kd.R_keep (IsS94.apart (show IsS94 w0 _ g s0_0 t261 from by repeat (first | (with_reducible first | exact HI0.out | apply IsS94.alloc | apply IsS94.drewN | apply IsS94.drew | apply IsS94.set_1 | refine IsS94.far ?_ NB0_252.out _ | refine IsS94.far ?_ NB0_257.out _) | exact HI0.out)) (kR_ HO_258002.out) (by decide)) hk (fun _ h => h.2)) (fun _ h => h.1))
          have n1_ := Aside0.mk (Kd.Q_mono (Kd.Q_keep (IsS94.apartQ (show IsS94 w0 _ g s0_0 t261 from by repeat (first | (with_reducible first | exact HI0.out | apply IsS94.alloc | apply IsS94.drewN | apply IsS94.drew | apply IsS94.set_1 | refine IsS94.far ?_ NB0_252.out _ | refine IsS94.far ?_ NB0_257.out _) | exact HI0.out)) (by (with_reducible repeat (first | apply Kd.Q_alloc | apply Kd.Q_drewN | apply Kd.Q_drew)); exact HO_258003.out) (by decide)) hk (fun _ h => h.2)) (fun _ h => h.1))
          have n2_ := Aside0.mk (KeepBut.blk hk (g' := gb252) (o := .cells #[.int .i64 0, .int .i64 0, .slice none 0 0, .slice none 0 0] 25 (0, 0)) (kb_ BK252.out) NB252_0.out (by simp))
          have n3_ := Aside0.mk (KeepBut.blk hk (g' := gb257) (o := .cells #[.int .i64 x258000_1, .int .i64 x258001_1, u258002, u258003] 25 (0, 0)) (kb_ BK257.out) NB257_0.out (by simp))
          have n4_ := Aside0.mk (KeepBut.trans (by repeat (first | (with_reducible first | exact HK.out | apply KeepBut.set_ | apply keep_drewN | apply keep_drew | apply keep_alloc | refine keep_far ?_ GW252.out _ | refine keep_far ?_ GW257.out _) | exact HK.out)) hk (.inl rfl))
          have n5_ := Aside0.mk (hb)
          have n6_ := Aside0.mk (hi)
          clear HO_258002
          clear HO_258003
          clear BK252
          clear BK257
          clear HK
          clear HB
          clear HI0
          have HO_258002 := n0_
          have HO_258003 := n1_
          have BK252 := n2_
          have BK257 := n3_
          have HK := n4_
          have HB := n5_
          have HI0 := n6_
          clear n0_ n1_ n2_ n3_ n4_ n5_ n6_
          (try clear hb)
          (try clear hb2)
          (try clear hk)
          (try clear hi)
          refine hK.out _ _ ⟨(blk_cell BK257.out 0).trans rfl, (blk_cell BK257.out 1).trans rfl, (blk_cell BK257.out 2).trans rfl, (blk_cell BK257.out 3).trans rfl⟩ (fun hHeld => ?_)
          clear hK K
          refine nm_ 32 ?_
          refine on_ (i := 5) (N := some 33) HT_ (fun K hK => ?_)
          refine goes_ Try.func71 (by kernel_rfl) rfl #[.int .i64 (wrap64 ((wrap64 (x258000_1 + t260)) - 4)), .int .i64 t262] (by rfl) rfl rfl ar_ ?_
          with_reducible refine (spec_l20Heard.calls k1 (wrap64 ((wrap64 (x258000_1 + t260)) - 4)) t262 t264 _ A17.out).mono ?_
          rintro e w52 ⟨v265, rfl, ho0, hb⟩
          refine ⟨_, rfl, ?_⟩
          have n0_ := Aside0.mk (Kd.R_elder' (kR_ HO_258002.out) (Kd.R_base ho0) hb)
          have n1_ := Aside0.mk (Kd.Q_below (by (with_reducible repeat (first | apply Kd.Q_alloc | apply Kd.Q_drewN | apply Kd.Q_drew)); exact HO_258003.out) hb)
          have n2_ := Aside0.mk (Kd.R_lower (Kd.R_new' ho0 (Kd.R_lt (kR_ HO_258002.out))) (keep_size (w := w) (g := g) (row := none) (by repeat (first | (with_reducible first | exact HK.out | apply KeepBut.set_ | apply keep_drewN | apply keep_drew | apply keep_alloc | refine keep_far ?_ GW252.out _ | refine keep_far ?_ GW257.out _) | exact HK.out))))
          have n3_ := Aside0.mk (blk_below (g := gb252) (o := .cells #[.int .i64 0, .int .i64 0, .slice none 0 0, .slice none 0 0] 25 (0, 0)) (kb_ BK252.out) hb)
          have n4_ := Aside0.mk (blk_below (g := gb257) (o := .cells #[.int .i64 x258000_1, .int .i64 x258001_1, u258002, u258003] 25 (0, 0)) (kb_ BK257.out) hb)
          have n5_ := Aside0.mk (IsS94.below (by repeat (first | (with_reducible first | exact HI0.out | apply IsS94.alloc | apply IsS94.drewN | apply IsS94.drew | apply IsS94.set_1 | refine IsS94.far ?_ NB0_252.out _ | refine IsS94.far ?_ NB0_257.out _) | exact HI0.out)) hb)
          have n6_ := Aside0.mk (KeepBut.trans (by repeat (first | (with_reducible first | exact HK.out | apply KeepBut.set_ | apply keep_drewN | apply keep_drew | apply keep_alloc | refine keep_far ?_ GW252.out _ | refine keep_far ?_ GW257.out _) | exact HK.out)) (KeepBut.of_below hb g none) (.inl rfl))
          have n7_ := Aside0.mk (below_step (by repeat (first | (with_reducible first | exact HB.out | apply below_alloc | apply pw_below_drewN | apply below_drew1 | refine below_set ?_ (IsS94.ge HI0.out) | refine below_set ?_ GE252.out | refine below_set ?_ GE257.out) | exact HB.out)) hb)
          clear HO_258002
          clear HO_258003
          clear BK252
          clear BK257
          clear HI0
          clear HK
          clear HB
          have HO_258002 := n0_
          have HO_258003 := n1_
          have HO266 := n2_
          have BK252 := n3_
          have BK257 := n4_
          have HI0 := n5_
          have HK := n6_
          have HB := n7_
          clear n0_ n1_ n2_ n3_ n4_ n5_ n6_ n7_
          (try clear hb)
          (try clear hb2)
          (try clear hk)
          (try clear hi)
          (try clear ho0)
          obtain ⟨Ao53, co53, eo53⟩ := Kd.R_slice HO_258002.out
          (first | subst eo53 | (injection eo53 with f1_ f2_ f3_; have f4_ := f1_.symm; have f5_ := f3_.symm; clear f1_ f2_ f3_; subst f4_; subst f5_))
          obtain ⟨Ao54, co54, eo54, _⟩ := Kd.Q_slice HO_258003.out
          (first | subst eo54 | (injection eo54 with f1_ f2_ f3_; have f4_ := f1_.symm; have f5_ := f3_.symm; clear f1_ f2_ f3_; subst f4_; subst f5_))
          obtain ⟨Ao55, co55, eo55⟩ := Kd.R_slice HO266.out
          (first | subst eo55 | (injection eo55 with f1_ f2_ f3_; have f4_ := f1_.symm; have f5_ := f3_.symm; clear f1_ f2_ f3_; subst f4_; subst f5_))
          refine hK.out _ _ ⟨(blk_cell BK257.out 0).trans rfl, (blk_cell BK257.out 1).trans rfl, (blk_cell BK257.out 2).trans rfl, (blk_cell BK257.out 3).trans rfl⟩ (fun hHeld => ?_)
          clear hK K
          refine nm_ 33 ?_
          refine on_ (i := 6) (N := some 34) HT_ (fun K hK => ?_)
          refine goes_ Try.func70 (by kernel_rfl) rfl #[.agg #[.int .i64 x258000_1, .int .i64 x258001_1, .slice Ao53 x258002_1.length co53, .slice Ao54 x258003_1.length co54], .int .i64 (wrap64 ((wrap64 (x258000_1 + t260)) - 4)), .slice Ao55 t264.length co55] (by rfl) rfl rfl ar_ ?_
          with_reducible refine (spec_EarHear.calls k1 x258000_1 x258001_1 _ _ x258002_1 _ _ x258003_1 (wrap64 ((wrap64 (x258000_1 + t260)) - 4)) _ _ t264 t267 t268 t269 t272 _ ?side1 ?side2 ?side3 ?side4 ?side5 ?side6 A18.out).mono ?_
          (case side1 => exact kC_ (Kd.R_reads' HO_258002.out).2.2)
          (case side2 => exact (Kd.R_reads' HO_258002.out).2.1)
          (case side3 => exact kC_ (Kd.Q_reads' HO_258003.out).2.2)
          (case side4 => exact (Kd.Q_reads' HO_258003.out).2.1)
          (case side5 => exact kC_ (Kd.R_reads' HO266.out).2.2)
          (case side6 => exact (Kd.R_reads' HO266.out).2.1)
          rintro e w56 ⟨v270, v273, rfl, ho0, ho1, hb⟩
          refine ⟨_, rfl, ?_⟩
          have n0_ := Aside0.mk (Kd.R_elder' (kR_ HO_258002.out) (Kd.R_base ho0) hb)
          have n1_ := Aside0.mk (Kd.Q_elder' (by (with_reducible repeat (first | apply Kd.Q_alloc | apply Kd.Q_drewN | apply Kd.Q_drew)); exact HO_258003.out) (Kd.Q_base ho1) hb)
          have n2_ := Aside0.mk (Kd.R_elder' (kR_ HO266.out) (Kd.R_base ho0) hb)
          have n3_ := Aside0.mk (Kd.R_lower (Kd.R_new' (Kd.R_new' ho0 (Kd.R_lt (kR_ HO_258002.out))) (Kd.R_lt (kR_ HO266.out))) (keep_size (w := w) (g := g) (row := none) (by repeat (first | (with_reducible first | exact HK.out | apply KeepBut.set_ | apply keep_drewN | apply keep_drew | apply keep_alloc | refine keep_far ?_ GW252.out _ | refine keep_far ?_ GW257.out _) | exact HK.out))))
          have n4_ := Aside0.mk (Kd.Q_lower (Kd.Q_new' ho1 (Kd.Q_lt (by (with_reducible repeat (first | apply Kd.Q_alloc | apply Kd.Q_drewN | apply Kd.Q_drew)); exact HO_258003.out))) (keep_size (w := w) (g := g) (row := none) (by repeat (first | (with_reducible first | exact HK.out | apply KeepBut.set_ | apply keep_drewN | apply keep_drew | apply keep_alloc | refine keep_far ?_ GW252.out _ | refine keep_far ?_ GW257.out _) | exact HK.out))))
          have n5_ := Aside0.mk (blk_below (g := gb252) (o := .cells #[.int .i64 0, .int .i64 0, .slice none 0 0, .slice none 0 0] 25 (0, 0)) (kb_ BK252.out) hb)
          have n6_ := Aside0.mk (blk_below (g := gb257) (o := .cells #[.int .i64 x258000_1, .int .i64 x258001_1, .slice Ao53 x258002_1.length co53, .slice Ao54 x258003_1.length co54] 25 (0, 0)) (kb_ BK257.out) hb)
          have n7_ := Aside0.mk (IsS94.below (by repeat (first | (with_reducible first | exact HI0.out | apply IsS94.alloc | apply IsS94.drewN | apply IsS94.drew | apply IsS94.set_1 | refine IsS94.far ?_ NB0_252.out _ | refine IsS94.far ?_ NB0_257.out _) | exact HI0.out)) hb)
          have n8_ := Aside0.mk (KeepBut.trans (by repeat (first | (with_reducible first | exact HK.out | apply KeepBut.set_ | apply keep_drewN | apply keep_drew | apply keep_alloc | refine keep_far ?_ GW252.out _ | refine keep_far ?_ GW257.out _) | exact HK.out)) (KeepBut.of_below hb g none) (.inl rfl))
          have n9_ := Aside0.mk (below_step (by repeat (first | (with_reducible first | exact HB.out | apply below_alloc | apply pw_below_drewN | apply below_drew1 | refine below_set ?_ (IsS94.ge HI0.out) | refine below_set ?_ GE252.out | refine below_set ?_ GE257.out) | exact HB.out)) hb)
          clear HO_258002
          clear HO_258003
          clear HO266
          clear BK252
          clear BK257
          clear HI0
          clear HK
          clear HB
          have HO_258002 := n0_
          have HO_258003 := n1_
          have HO266 := n2_
          have HO271 := n3_
          have HO274 := n4_
          have BK252 := n5_
          have BK257 := n6_
          have HI0 := n7_
          have HK := n8_
          have HB := n9_
          clear n0_ n1_ n2_ n3_ n4_ n5_ n6_ n7_ n8_ n9_
          (try clear hb)
          (try clear hb2)
          (try clear hk)
          (try clear hi)
          (try clear ho0)
          (try clear ho1)
          obtain ⟨Ao59, co59, eo59⟩ := Kd.R_slice HO271.out
          (first | subst eo59 | (injection eo59 with f1_ f2_ f3_; have f4_ := f1_.symm; have f5_ := f3_.symm; clear f1_ f2_ f3_; subst f4_; subst f5_))
          obtain ⟨Ao61, co61, eo61, _⟩ := Kd.Q_slice HO274.out
          (first | subst eo61 | (injection eo61 with f1_ f2_ f3_; have f4_ := f1_.symm; have f5_ := f3_.symm; clear f1_ f2_ f3_; subst f4_; subst f5_))
          refine hK.out _ _ ⟨(blk_cell BK257.out 0).trans rfl, (blk_cell BK257.out 1).trans rfl, (blk_cell BK257.out 2).trans rfl, (blk_cell BK257.out 3).trans rfl⟩ (fun hHeld => ?_)
          clear hK K
          refine nm_ 34 ?_
          refine last_ (i := 7) (N := none) #[true, true, true, true, true, true, true, true] rfl rfl (one_of HT_.out (by kernel_rfl)) (by decide) (fun K hK => ?_)
          have hs57 : w56.cell? ⟨gb257, 0, none⟩ = some (.int .i64 x258000_1) := (blk_cell BK257.out 0).trans rfl
          have hfs57 := blk_frozen BK257.out 0
          have hns57_0 := NB252_257.out
          have hms57_0 := NB257_252.out
          have hs58 : w56.cell? ⟨gb257, 1, none⟩ = some (.int .i64 x258001_1) := (blk_cell BK257.out 1).trans rfl
          have hfs58 := blk_frozen BK257.out 1
          have hns58_0 := NB252_257.out
          have hms58_0 := NB257_252.out
          have hs60 : w56.cell? ⟨gb257, 2, none⟩ = some (.slice Ao53 x258002_1.length co53) := (blk_cell BK257.out 2).trans rfl
          have hfs60 := blk_frozen BK257.out 2
          have hns60_0 := NB252_257.out
          have hms60_0 := NB257_252.out
          have hs62 : w56.cell? ⟨gb257, 3, none⟩ = some (.slice Ao54 x258003_1.length co54) := (blk_cell BK257.out 3).trans rfl
          have hfs62 := blk_frozen BK257.out 3
          have hns62_0 := NB252_257.out
          have hms62_0 := NB257_252.out
          refine skip_ (w1 := ?_) (by rfl) rfl ?_ ?_
          rotate_left
          · go_simp
            rfl
          refine hK.out _ _ ?_
          clear hK K
          refine done_ (done_of HT_.out (by kernel_rfl)) ?_
          try go_wp2_with (first | ((with_reducible refine gate_callee (f := 48) rfl ?_); refine goesL_ (some 36) rfl rfl Try.func48 (by kernel_rfl) rfl #[.pointer (some ⟨g, 0, none⟩), .int .i64 4] rfl ar_ ?_; (with_reducible refine (spec_l20Rd_pick.calls k1 g s0_0 t263 4 t275 t276 w0 _ ?side1 ?side2 A19.out).mono ?_); (case side1 => repeat (first | (with_reducible first | exact HI0.out | apply IsS94.alloc | apply IsS94.drewN | apply IsS94.drew | apply IsS94.set_1 | refine IsS94.far ?_ NB0_252.out _ | refine IsS94.far ?_ NB0_257.out _) | exact HI0.out)); (case side2 => repeat (first | (with_reducible first | exact HB.out | apply below_alloc | apply pw_below_drewN | apply below_drew1 | refine below_set ?_ (IsS94.ge HI0.out) | refine below_set ?_ GE252.out | refine below_set ?_ GE257.out) | exact HB.out)); rintro e w63 ⟨rfl, hi, hb, hk⟩; refine ⟨_, rfl, ?_⟩; have n0_ := Aside0.mk (Kd.R_mono (Kd.R_keep (IsS94.apart (show IsS94 w0 _ g s0_0 t263 from by repeat (first | (with_reducible first | exact HI0.out | apply IsS94.alloc | apply IsS94.drewN | apply IsS94.drew | apply IsS94.set_1 | refine IsS94.far ?_ NB0_252.out _ | refine IsS94.far ?_ NB0_257.out _) | exact HI0.out)) (by refine kR_ ?_; exact (Kd.R_mono (Kd.R_f gb257 3 (.slice Ao61 t272.length co61) (Kd.R_f gb257 2 (.slice Ao59 t269.length co59) (Kd.R_f gb257 1 (.int .i64 t268) (Kd.R_f gb257 0 (.int .i64 t267) (Kd.R_types HO_258002.out BK257.out (by decide)))))) (fun _ h_ => op1_ h_))) (by decide)) hk (fun _ h => h.2)) (fun _ h => h.1)); have n1_ := Aside0.mk (Kd.Q_mono (Kd.Q_keep (IsS94.apartQ (show IsS94 w0 _ g s0_0 t263 from by repeat (first | (with_reducible first | exact HI0.out | apply IsS94.alloc | apply IsS94.drewN | apply IsS94.drew | apply IsS94.set_1 | refine IsS94.far ?_ NB0_252.out _ | refine IsS94.far ?_ NB0_257.out _) | exact HI0.out)) (by (with_reducible repeat (first | apply Kd.Q_alloc | apply Kd.Q_drewN | apply Kd.Q_drew)); exact (Kd.Q_mono (Kd.Q_far (p := ⟨gb257, 3, none⟩) (Kd.Q_far (p := ⟨gb257, 2, none⟩) (Kd.Q_far (p := ⟨gb257, 1, none⟩) (Kd.Q_far (p := ⟨gb257, 0, none⟩) (Kd.Q_types HO_258003.out BK257.out (by decide)) (fun _ hk => hk.2) (.int .i64 t267)) (fun _ hk => hk.2) (.int .i64 t268)) (fun _ hk => hk.2) (.slice Ao59 t269.length co59)) (fun _ hk => hk.2) (.slice Ao61 t272.length co61)) (fun _ h_ => op1_ h_))) (by decide)) hk (fun _ h => h.2)) (fun _ h => h.1)); have n2_ := Aside0.mk (KeepBut.blk hk (g' := gb252) (o := .cells #[.int .i64 0, .int .i64 0, .slice none 0 0, .slice none 0 0] 25 (0, 0)) (by refine kb_ ?_; refine blk_far ?_ NB252_257.out _; refine kb_ ?_; refine blk_far ?_ NB252_257.out _; refine kb_ ?_; refine blk_far ?_ NB252_257.out _; refine kb_ ?_; refine blk_far ?_ NB252_257.out _; refine kb_ ?_; exact BK252.out) NB252_0.out (by simp)); have n3_ := Aside0.mk (KeepBut.blk hk (g' := gb257) (o := .cells #[.int .i64 t267, .int .i64 t268, .slice Ao59 t269.length co59, .slice Ao61 t272.length co61] 25 (0, 0)) (by refine kb_ ?_; refine blk_put (cs := #[.int .i64 t267, .int .i64 t268, .slice Ao59 t269.length co59, .slice Ao54 x258003_1.length co54]) ?_ 3 _ rfl; refine kb_ ?_; refine blk_put (cs := #[.int .i64 t267, .int .i64 t268, .slice Ao53 x258002_1.length co53, .slice Ao54 x258003_1.length co54]) ?_ 2 _ rfl; refine kb_ ?_; refine blk_put (cs := #[.int .i64 t267, .int .i64 x258001_1, .slice Ao53 x258002_1.length co53, .slice Ao54 x258003_1.length co54]) ?_ 1 _ rfl; refine kb_ ?_; refine blk_put (cs := #[.int .i64 x258000_1, .int .i64 x258001_1, .slice Ao53 x258002_1.length co53, .slice Ao54 x258003_1.length co54]) ?_ 0 _ rfl; refine kb_ ?_; exact BK257.out) NB257_0.out (by simp)); have n4_ := Aside0.mk (Kd.R_mono (Kd.R_keep (IsS94.apart (show IsS94 w0 _ g s0_0 t263 from by repeat (first | (with_reducible first | exact HI0.out | apply IsS94.alloc | apply IsS94.drewN | apply IsS94.drew | apply IsS94.set_1 | refine IsS94.far ?_ NB0_252.out _ | refine IsS94.far ?_ NB0_257.out _) | exact HI0.out)) (by refine kR_ ?_; exact (Kd.R_mono (Kd.R_f gb257 3 (.slice Ao61 t272.length co61) (Kd.R_f gb257 2 (.slice Ao59 t269.length co59) (Kd.R_f gb257 1 (.int .i64 t268) (Kd.R_f gb257 0 (.int .i64 t267) (Kd.R_types HO266.out BK257.out (by decide)))))) (fun _ h_ => op1_ h_))) (by decide)) hk (fun _ h => h.2)) (fun _ h => h.1)); have n5_ := Aside0.mk (Kd.R_mono (Kd.R_keep (IsS94.apart (show IsS94 w0 _ g s0_0 t263 from by repeat (first | (with_reducible first | exact HI0.out | apply IsS94.alloc | apply IsS94.drewN | apply IsS94.drew | apply IsS94.set_1 | refine IsS94.far ?_ NB0_252.out _ | refine IsS94.far ?_ NB0_257.out _) | exact HI0.out)) (by refine kR_ ?_; exact (Kd.R_mono (Kd.R_f gb257 3 (.slice Ao61 t272.length co61) (Kd.R_f gb257 2 (.slice Ao59 t269.length co59) (Kd.R_f gb257 1 (.int .i64 t268) (Kd.R_f gb257 0 (.int .i64 t267) (Kd.R_types HO271.out BK257.out (by decide)))))) (fun _ h_ => op1_ h_))) (by decide)) hk (fun _ h => h.2)) (fun _ h => h.1)); have n6_ := Aside0.mk (Kd.Q_mono (Kd.Q_keep (IsS94.apartQ (show IsS94 w0 _ g s0_0 t263 from by repeat (first | (with_reducible first | exact HI0.out | apply IsS94.alloc | apply IsS94.drewN | apply IsS94.drew | apply IsS94.set_1 | refine IsS94.far ?_ NB0_252.out _ | refine IsS94.far ?_ NB0_257.out _) | exact HI0.out)) (by (with_reducible repeat (first | apply Kd.Q_alloc | apply Kd.Q_drewN | apply Kd.Q_drew)); exact (Kd.Q_mono (Kd.Q_far (p := ⟨gb257, 3, none⟩) (Kd.Q_far (p := ⟨gb257, 2, none⟩) (Kd.Q_far (p := ⟨gb257, 1, none⟩) (Kd.Q_far (p := ⟨gb257, 0, none⟩) (Kd.Q_types HO274.out BK257.out (by decide)) (fun _ hk => hk.2) (.int .i64 t267)) (fun _ hk => hk.2) (.int .i64 t268)) (fun _ hk => hk.2) (.slice Ao59 t269.length co59)) (fun _ hk => hk.2) (.slice Ao61 t272.length co61)) (fun _ h_ => op1_ h_))) (by decide)) hk (fun _ h => h.2)) (fun _ h => h.1)); have n7_ := Aside0.mk (KeepBut.trans (by repeat (first | (with_reducible first | exact HK.out | apply KeepBut.set_ | apply keep_drewN | apply keep_drew | apply keep_alloc | refine keep_far ?_ GW252.out _ | refine keep_far ?_ GW257.out _) | exact HK.out)) hk (.inl rfl)); have n8_ := Aside0.mk (hb); have n9_ := Aside0.mk (hi); clear HO_258002; clear HO_258003; clear BK252; clear BK257; clear HO266; clear HO271; clear HO274; clear HK; clear HB; clear HI0; have HO_258002 := n0_; have HO_258003 := n1_; have BK252 := n2_; have BK257 := n3_; have HO266 := n4_; have HO271 := n5_; have HO274 := n6_; have HK := n7_; have HB := n8_; have HI0 := n9_; clear n0_ n1_ n2_ n3_ n4_ n5_ n6_ n7_ n8_ n9_; (try clear hb); (try clear hb2); (try clear hk); (try clear hi)))
          go_roundg k1
          case measure => have := HK1.out; omega
          case rel => exact ⟨(wrap64 (x6_1 - 1)), (t276), (t267), (t268), (t269), (t272), (.slice Ao59 t269.length co59), (.slice Ao61 t272.length co61), (by first | rfl | (simp; done) | (simp [*]; done)), H', ⟨by have := HK1.out; omega⟩, ⟨by refine kR_ ?_; exact Kd.R_mono HO271.out (fun _ hk => trivial)⟩, ⟨by (with_reducible repeat (first | apply Kd.Q_alloc | apply Kd.Q_drewN | apply Kd.Q_drew)); exact Kd.Q_mono HO274.out (fun _ hk => trivial)⟩, ⟨by refine kb_ ?_; exact BK252.out⟩, ⟨by refine kb_ ?_; exact BK257.out⟩, ⟨by repeat (first | (with_reducible first | exact HI0.out | apply IsS94.alloc | apply IsS94.drewN | apply IsS94.drew | apply IsS94.set_1 | refine IsS94.far ?_ NB0_252.out _ | refine IsS94.far ?_ NB0_257.out _) | exact HI0.out)⟩, ⟨by repeat (first | (with_reducible first | exact HK.out | apply KeepBut.set_ | apply keep_drewN | apply keep_drew | apply keep_alloc | refine keep_far ?_ GW252.out _ | refine keep_far ?_ GW257.out _) | exact HK.out)⟩, ⟨by repeat (first | (with_reducible first | exact HB.out | apply below_alloc | apply pw_below_drewN | apply below_drew1 | refine below_set ?_ (IsS94.ge HI0.out) | refine below_set ?_ GE252.out | refine below_set ?_ GE257.out) | exact HB.out)⟩⟩
      · rw [if_neg c14] at H
        have c14b0 : decide (0 < x6_1) = false := decide_eq_false c14
        clear c14
        replace H := Option.bind_eq_some_iff.mp H
        obtain ⟨⟨t290, t291⟩, A640, H⟩ := H
        replace H : (if t290 = true then ((spec_l20Rd_pick.f k1 s0_0 t291 4).bind fun bt292 => (if bt292.1 = 0 then ((spec_l20Rd_pick.f k1 s0_0 bt292.2 2).bind fun bt294 => (some (x258000_1, wrap64 (bt294.1 * 33), x258002_1, x258003_1, bt294.2))) else (if bt292.1 = 1 then (some ((-1), x258001_1, x258002_1, x258003_1, bt292.2)) else (if bt292.1 = 2 then ((spec_l20Rd_pick.f k1 s0_0 bt292.2 40).bind fun bt296 => (if x258003_1.length < 8796093022208 then (some (x258000_1, x258001_1, x258002_1, (x258003_1 ++ [(⟨wrap64 ((wrap64 (x258000_1 + bt296.1)) - 3), 0⟩ : S70)]), bt296.2)) else (none))) else (if x258002_1.length + 20 < 140737488355328 then (some (x258000_1, x258001_1, (x258002_1 ++ List.replicate 20 0), x258003_1, bt292.2)) else (none)))))) else (some (x258000_1, x258001_1, x258002_1, x258003_1, t291))) = some (r1, r2, r3, r4, r5) := H
        have A64 := Aside0.mk A640
        clear A640
        by_cases c65 : t290 = true
        · subst c65
          have H1 : ((spec_l20Rd_pick.f k1 s0_0 t291 4).bind fun bt292 => (if bt292.1 = 0 then ((spec_l20Rd_pick.f k1 s0_0 bt292.2 2).bind fun bt294 => (some (x258000_1, wrap64 (bt294.1 * 33), x258002_1, x258003_1, bt294.2))) else (if bt292.1 = 1 then (some ((-1), x258001_1, x258002_1, x258003_1, bt292.2)) else (if bt292.1 = 2 then ((spec_l20Rd_pick.f k1 s0_0 bt292.2 40).bind fun bt296 => (if x258003_1.length < 8796093022208 then (some (x258000_1, x258001_1, x258002_1, (x258003_1 ++ [(⟨wrap64 ((wrap64 (x258000_1 + bt296.1)) - 3), 0⟩ : S70)]), bt296.2)) else (none))) else (if x258002_1.length + 20 < 140737488355328 then (some (x258000_1, x258001_1, (x258002_1 ++ List.replicate 20 0), x258003_1, bt292.2)) else (none)))))) = some (r1, r2, r3, r4, r5) := by rw [if_pos rfl] at H; exact H
          clear H
          have H := H1
          clear H1
          replace H := Option.bind_eq_some_iff.mp H
          obtain ⟨⟨t292, t293⟩, A660, H⟩ := H
          replace H : (if t292 = 0 then ((spec_l20Rd_pick.f k1 s0_0 t293 2).bind fun bt294 => (some (x258000_1, wrap64 (bt294.1 * 33), x258002_1, x258003_1, bt294.2))) else (if t292 = 1 then (some ((-1), x258001_1, x258002_1, x258003_1, t293)) else (if t292 = 2 then ((spec_l20Rd_pick.f k1 s0_0 t293 40).bind fun bt296 => (if x258003_1.length < 8796093022208 then (some (x258000_1, x258001_1, x258002_1, (x258003_1 ++ [(⟨wrap64 ((wrap64 (x258000_1 + bt296.1)) - 3), 0⟩ : S70)]), bt296.2)) else (none))) else (if x258002_1.length + 20 < 140737488355328 then (some (x258000_1, x258001_1, (x258002_1 ++ List.replicate 20 0), x258003_1, t293)) else (none))))) = some (r1, r2, r3, r4, r5) := H
          have A66 := Aside0.mk A660
          clear A660
          by_cases c67 : t292 = 0
          · rw [if_pos c67] at H
            have c67b0 : (t292 == 0) = true := beq_iff_eq.mpr c67
            have c67b1 : (t292 != 0) = false := bne_eq_false_iff_eq.mpr c67
            clear c67
            replace H := Option.bind_eq_some_iff.mp H
            obtain ⟨⟨t294, t295⟩, A680, H⟩ := H
            replace H : (some (x258000_1, wrap64 (t294 * 33), x258002_1, x258003_1, t295)) = some (r1, r2, r3, r4, r5) := H
            have A68 := Aside0.mk A680
            clear A680
            simp only [Option.some.injEq, Prod.mk.injEq] at H
            obtain ⟨rfl, rfl, rfl, rfl, rfl⟩ := H
            go_wp2_with (first | ((with_reducible refine gate_callee (f := 72) rfl ?_); refine goesL_ (some 47) rfl rfl Try.func72 (by kernel_rfl) rfl #[.pointer (some ⟨g, 0, none⟩), .int .i64 a1] rfl ar_ ?_; (with_reducible refine (spec_l20Rd_odd.calls k1 g s0_0 x1001_1 a1 true t291 w0 _ ?side1 ?side2 A64.out).mono ?_); (case side1 => repeat (first | (with_reducible first | exact HI0.out | apply IsS94.alloc | apply IsS94.drewN | apply IsS94.drew | apply IsS94.set_1 | refine IsS94.far ?_ NB0_252.out _ | refine IsS94.far ?_ NB0_257.out _) | exact HI0.out)); (case side2 => repeat (first | (with_reducible first | exact HB.out | apply below_alloc | apply pw_below_drewN | apply below_drew1 | refine below_set ?_ (IsS94.ge HI0.out) | refine below_set ?_ GE252.out | refine below_set ?_ GE257.out) | exact HB.out)); rintro e w69 ⟨rfl, hi, hb, hk⟩; refine ⟨_, rfl, ?_⟩; have n0_ := Aside0.mk (Kd.R_mono (Kd.R_keep (IsS94.apart (show IsS94 w0 _ g s0_0 x1001_1 from by repeat (first | (with_reducible first | exact HI0.out | apply IsS94.alloc | apply IsS94.drewN | apply IsS94.drew | apply IsS94.set_1 | refine IsS94.far ?_ NB0_252.out _ | refine IsS94.far ?_ NB0_257.out _) | exact HI0.out)) (kR_ HO_258002.out) (by decide)) hk (fun _ h => h.2)) (fun _ h => h.1)); have n1_ := Aside0.mk (Kd.Q_mono (Kd.Q_keep (IsS94.apartQ (show IsS94 w0 _ g s0_0 x1001_1 from by repeat (first | (with_reducible first | exact HI0.out | apply IsS94.alloc | apply IsS94.drewN | apply IsS94.drew | apply IsS94.set_1 | refine IsS94.far ?_ NB0_252.out _ | refine IsS94.far ?_ NB0_257.out _) | exact HI0.out)) (by (with_reducible repeat (first | apply Kd.Q_alloc | apply Kd.Q_drewN | apply Kd.Q_drew)); exact HO_258003.out) (by decide)) hk (fun _ h => h.2)) (fun _ h => h.1)); have n2_ := Aside0.mk (KeepBut.blk hk (g' := gb252) (o := .cells #[.int .i64 0, .int .i64 0, .slice none 0 0, .slice none 0 0] 25 (0, 0)) (kb_ BK252.out) NB252_0.out (by simp)); have n3_ := Aside0.mk (KeepBut.blk hk (g' := gb257) (o := .cells #[.int .i64 x258000_1, .int .i64 x258001_1, u258002, u258003] 25 (0, 0)) (kb_ BK257.out) NB257_0.out (by simp)); have n4_ := Aside0.mk (KeepBut.trans (by repeat (first | (with_reducible first | exact HK.out | apply KeepBut.set_ | apply keep_drewN | apply keep_drew | apply keep_alloc | refine keep_far ?_ GW252.out _ | refine keep_far ?_ GW257.out _) | exact HK.out)) hk (.inl rfl)); have n5_ := Aside0.mk (hb); have n6_ := Aside0.mk (hi); clear HO_258002; clear HO_258003; clear BK252; clear BK257; clear HK; clear HB; clear HI0; have HO_258002 := n0_; have HO_258003 := n1_; have BK252 := n2_; have BK257 := n3_; have HK := n4_; have HB := n5_; have HI0 := n6_; clear n0_ n1_ n2_ n3_ n4_ n5_ n6_; (try clear hb); (try clear hb2); (try clear hk); (try clear hi)) | ((with_reducible refine gate_callee (f := 48) rfl ?_); refine goesL_ (some 49) rfl rfl Try.func48 (by kernel_rfl) rfl #[.pointer (some ⟨g, 0, none⟩), .int .i64 4] rfl ar_ ?_; (with_reducible refine (spec_l20Rd_pick.calls k1 g s0_0 t291 4 t292 t293 w0 _ ?side1 ?side2 A66.out).mono ?_); (case side1 => repeat (first | (with_reducible first | exact HI0.out | apply IsS94.alloc | apply IsS94.drewN | apply IsS94.drew | apply IsS94.set_1 | refine IsS94.far ?_ NB0_252.out _ | refine IsS94.far ?_ NB0_257.out _) | exact HI0.out)); (case side2 => repeat (first | (with_reducible first | exact HB.out | apply below_alloc | apply pw_below_drewN | apply below_drew1 | refine below_set ?_ (IsS94.ge HI0.out) | refine below_set ?_ GE252.out | refine below_set ?_ GE257.out) | exact HB.out)); rintro e w70 ⟨rfl, hi, hb, hk⟩; refine ⟨_, rfl, ?_⟩; have n0_ := Aside0.mk (Kd.R_mono (Kd.R_keep (IsS94.apart (show IsS94 w0 _ g s0_0 t291 from by repeat (first | (with_reducible first | exact HI0.out | apply IsS94.alloc | apply IsS94.drewN | apply IsS94.drew | apply IsS94.set_1 | refine IsS94.far ?_ NB0_252.out _ | refine IsS94.far ?_ NB0_257.out _) | exact HI0.out)) (kR_ HO_258002.out) (by decide)) hk (fun _ h => h.2)) (fun _ h => h.1)); have n1_ := Aside0.mk (Kd.Q_mono (Kd.Q_keep (IsS94.apartQ (show IsS94 w0 _ g s0_0 t291 from by repeat (first | (with_reducible first | exact HI0.out | apply IsS94.alloc | apply IsS94.drewN | apply IsS94.drew | apply IsS94.set_1 | refine IsS94.far ?_ NB0_252.out _ | refine IsS94.far ?_ NB0_257.out _) | exact HI0.out)) (by (with_reducible repeat (first | apply Kd.Q_alloc | apply Kd.Q_drewN | apply Kd.Q_drew)); exact HO_258003.out) (by decide)) hk (fun _ h => h.2)) (fun _ h => h.1)); have n2_ := Aside0.mk (KeepBut.blk hk (g' := gb252) (o := .cells #[.int .i64 0, .int .i64 0, .slice none 0 0, .slice none 0 0] 25 (0, 0)) (kb_ BK252.out) NB252_0.out (by simp)); have n3_ := Aside0.mk (KeepBut.blk hk (g' := gb257) (o := .cells #[.int .i64 x258000_1, .int .i64 x258001_1, u258002, u258003] 25 (0, 0)) (kb_ BK257.out) NB257_0.out (by simp)); have n4_ := Aside0.mk (KeepBut.trans (by repeat (first | (with_reducible first | exact HK.out | apply KeepBut.set_ | apply keep_drewN | apply keep_drew | apply keep_alloc | refine keep_far ?_ GW252.out _ | refine keep_far ?_ GW257.out _) | exact HK.out)) hk (.inl rfl)); have n5_ := Aside0.mk (hb); have n6_ := Aside0.mk (hi); clear HO_258002; clear HO_258003; clear BK252; clear BK257; clear HK; clear HB; clear HI0; have HO_258002 := n0_; have HO_258003 := n1_; have BK252 := n2_; have BK257 := n3_; have HK := n4_; have HB := n5_; have HI0 := n6_; clear n0_ n1_ n2_ n3_ n4_ n5_ n6_; (try clear hb); (try clear hb2); (try clear hk); (try clear hi)) | ((with_reducible refine gate_callee (f := 48) rfl ?_); refine goesL_ (some 57) rfl rfl Try.func48 (by kernel_rfl) rfl #[.pointer (some ⟨g, 0, none⟩), .int .i64 2] rfl ar_ ?_; (with_reducible refine (spec_l20Rd_pick.calls k1 g s0_0 t293 2 t294 t295 w0 _ ?side1 ?side2 A68.out).mono ?_); (case side1 => repeat (first | (with_reducible first | exact HI0.out | apply IsS94.alloc | apply IsS94.drewN | apply IsS94.drew | apply IsS94.set_1 | refine IsS94.far ?_ NB0_252.out _ | refine IsS94.far ?_ NB0_257.out _) | exact HI0.out)); (case side2 => repeat (first | (with_reducible first | exact HB.out | apply below_alloc | apply pw_below_drewN | apply below_drew1 | refine below_set ?_ (IsS94.ge HI0.out) | refine below_set ?_ GE252.out | refine below_set ?_ GE257.out) | exact HB.out)); rintro e w71 ⟨rfl, hi, hb, hk⟩; refine ⟨_, rfl, ?_⟩; have n0_ := Aside0.mk (Kd.R_mono (Kd.R_keep (IsS94.apart (show IsS94 w0 _ g s0_0 t293 from by repeat (first | (with_reducible first | exact HI0.out | apply IsS94.alloc | apply IsS94.drewN | apply IsS94.drew | apply IsS94.set_1 | refine IsS94.far ?_ NB0_252.out _ | refine IsS94.far ?_ NB0_257.out _) | exact HI0.out)) (kR_ HO_258002.out) (by decide)) hk (fun _ h => h.2)) (fun _ h => h.1)); have n1_ := Aside0.mk (Kd.Q_mono (Kd.Q_keep (IsS94.apartQ (show IsS94 w0 _ g s0_0 t293 from by repeat (first | (with_reducible first | exact HI0.out | apply IsS94.alloc | apply IsS94.drewN | apply IsS94.drew | apply IsS94.set_1 | refine IsS94.far ?_ NB0_252.out _ | refine IsS94.far ?_ NB0_257.out _) | exact HI0.out)) (by (with_reducible repeat (first | apply Kd.Q_alloc | apply Kd.Q_drewN | apply Kd.Q_drew)); exact HO_258003.out) (by decide)) hk (fun _ h => h.2)) (fun _ h => h.1)); have n2_ := Aside0.mk (KeepBut.blk hk (g' := gb252) (o := .cells #[.int .i64 0, .int .i64 0, .slice none 0 0, .slice none 0 0] 25 (0, 0)) (kb_ BK252.out) NB252_0.out (by simp)); have n3_ := Aside0.mk (KeepBut.blk hk (g' := gb257) (o := .cells #[.int .i64 x258000_1, .int .i64 x258001_1, u258002, u258003] 25 (0, 0)) (kb_ BK257.out) NB257_0.out (by simp)); have n4_ := Aside0.mk (KeepBut.trans (by repeat (first | (with_reducible first | exact HK.out | apply KeepBut.set_ | apply keep_drewN | apply keep_drew | apply keep_alloc | refine keep_far ?_ GW252.out _ | refine keep_far ?_ GW257.out _) | exact HK.out)) hk (.inl rfl)); have n5_ := Aside0.mk (hb); have n6_ := Aside0.mk (hi); clear HO_258002; clear HO_258003; clear BK252; clear BK257; clear HK; clear HB; clear HI0; have HO_258002 := n0_; have HO_258003 := n1_; have BK252 := n2_; have BK257 := n3_; have HK := n4_; have HB := n5_; have HI0 := n6_; clear n0_ n1_ n2_ n3_ n4_ n5_ n6_; (try clear hb); (try clear hb2); (try clear hk); (try clear hi); have hnb72 := NB257_252.out; have hnc72 := NB252_257.out; have hnb73 := NB257_0.out; have hnc73 := NB0_257.out; have hcz74_0 : w71.cell? ⟨gb257, 0, none⟩ = some (.int .i64 x258000_1) := (blk_cell BK257.out 0).trans rfl; have hcz74_1 : w71.cell? ⟨gb257, 1, none⟩ = some (.int .i64 x258001_1) := (blk_cell BK257.out 1).trans rfl; have hcz74_2 : w71.cell? ⟨gb257, 2, none⟩ = some (u258002) := (blk_cell BK257.out 2).trans rfl; have hcz74_3 : w71.cell? ⟨gb257, 3, none⟩ = some (u258003) := (blk_cell BK257.out 3).trans rfl; have hfz74_0 := blk_frozen BK257.out 0; have hfz74_1 := blk_frozen BK257.out 1; have hfz74_2 := blk_frozen BK257.out 2; have hfz74_3 := blk_frozen BK257.out 3; have hnb75 := NB252_0.out; have hnc75 := NB0_252.out; have hcz76_0 : w71.cell? ⟨gb252, 0, none⟩ = some (.int .i64 0) := (blk_cell BK252.out 0).trans rfl; have hcz76_1 : w71.cell? ⟨gb252, 1, none⟩ = some (.int .i64 0) := (blk_cell BK252.out 1).trans rfl; have hcz76_2 : w71.cell? ⟨gb252, 2, none⟩ = some (.slice none 0 0) := (blk_cell BK252.out 2).trans rfl; have hcz76_3 : w71.cell? ⟨gb252, 3, none⟩ = some (.slice none 0 0) := (blk_cell BK252.out 3).trans rfl; have hfz76_0 := blk_frozen BK252.out 0; have hfz76_1 := blk_frozen BK252.out 1; have hfz76_2 := blk_frozen BK252.out 2; have hfz76_3 := blk_frozen BK252.out 3; obtain ⟨Ao77, co77, eo77⟩ := Kd.R_slice HO_258002.out; subst eo77; obtain ⟨Ao78, co78, eo78, _⟩ := Kd.Q_slice HO_258003.out; subst eo78))
            refine bodyPost_ret (results_cell_row rfl _ _ gb252 25 #[.int .i64 x258000_1, .int .i64 (wrap64 (t294 * 33)), .slice Ao77 x258002_1.length co77, .slice Ao78 x258003_1.length co78] (0, 0) _ rfl (by refine kb_ ?_; refine blk_put (cs := #[.int .i64 x258000_1, .int .i64 (wrap64 (t294 * 33)), .slice Ao77 x258002_1.length co77, .slice none 0 0]) ?_ 3 _ rfl; refine kb_ ?_; refine blk_put (cs := #[.int .i64 x258000_1, .int .i64 (wrap64 (t294 * 33)), .slice none 0 0, .slice none 0 0]) ?_ 2 _ rfl; refine kb_ ?_; refine blk_put (cs := #[.int .i64 x258000_1, .int .i64 0, .slice none 0 0, .slice none 0 0]) ?_ 1 _ rfl; refine kb_ ?_; refine blk_put (cs := #[.int .i64 0, .int .i64 0, .slice none 0 0, .slice none 0 0]) ?_ 0 _ rfl; refine kb_ ?_; refine blk_far ?_ NB252_257.out _; refine kb_ ?_; exact BK252.out) Try.underlying25 rfl (by kernel_rfl)) rfl ?_
            exact ⟨_, _, by first | rfl | (simp [errW_none, errW_some] <;> rfl) | (simp [*, errW_none, errW_some] <;> rfl), by refine kR_ ?_; exact Kd.R_mono (Kd.R_f gb252 3 (.slice Ao78 x258003_1.length co78) (Kd.R_f gb252 2 (.slice Ao77 x258002_1.length co77) (Kd.R_f gb252 1 (.int .i64 (wrap64 (t294 * 33))) (Kd.R_f gb252 0 (.int .i64 x258000_1) (Kd.R_far (p := ⟨gb257, 1, none⟩) (Kd.R_types (Kd.R_types HO_258002.out BK257.out (by decide)) BK252.out (by decide)) (fun _ hk => hk.1.2) (.int .i64 (wrap64 (t294 * 33)))))))) (fun _ hk => trivial), by (with_reducible repeat (first | apply Kd.Q_alloc | apply Kd.Q_drewN | apply Kd.Q_drew)); exact Kd.Q_mono (Kd.Q_far (p := ⟨gb252, 3, none⟩) (Kd.Q_far (p := ⟨gb252, 2, none⟩) (Kd.Q_far (p := ⟨gb252, 1, none⟩) (Kd.Q_far (p := ⟨gb252, 0, none⟩) (Kd.Q_far (p := ⟨gb257, 1, none⟩) (Kd.Q_types (Kd.Q_types HO_258003.out BK257.out (by decide)) BK252.out (by decide)) (fun _ hk => hk.1.2) (.int .i64 (wrap64 (t294 * 33)))) (fun _ hk => hk.2) (.int .i64 x258000_1)) (fun _ hk => hk.2) (.int .i64 (wrap64 (t294 * 33)))) (fun _ hk => hk.2) (.slice Ao77 x258002_1.length co77)) (fun _ hk => hk.2) (.slice Ao78 x258003_1.length co78)) (fun _ hk => trivial), by repeat (first | (with_reducible first | exact HI0.out | apply IsS94.alloc | apply IsS94.drewN | apply IsS94.drew | apply IsS94.set_1 | refine IsS94.far ?_ NB0_252.out _ | refine IsS94.far ?_ NB0_257.out _) | exact HI0.out), by repeat (first | (with_reducible first | exact HB.out | apply below_alloc | apply pw_below_drewN | apply below_drew1 | refine below_set ?_ (IsS94.ge HI0.out) | refine below_set ?_ GE252.out | refine below_set ?_ GE257.out) | exact HB.out), by repeat (first | (with_reducible first | exact HK.out | apply KeepBut.set_ | apply keep_drewN | apply keep_drew | apply keep_alloc | refine keep_far ?_ GW252.out _ | refine keep_far ?_ GW257.out _) | exact HK.out)⟩
          · rw [if_neg c67] at H
            have c67b0 : (t292 == 0) = false := beq_eq_false_iff_ne.mpr c67
            have c67b1 : (t292 != 0) = true := bne_iff_ne.mpr c67
            by_cases c79 : t292 = 1
            · rw [if_pos c79] at H
              have c79b0 : (t292 == 1) = true := beq_iff_eq.mpr c79
              have c79b1 : (t292 != 1) = false := bne_eq_false_iff_eq.mpr c79
              clear c79
              simp only [Option.some.injEq, Prod.mk.injEq] at H
              obtain ⟨rfl, rfl, rfl, rfl, rfl⟩ := H
              go_wp2_with (first | ((with_reducible refine gate_callee (f := 72) rfl ?_); refine goesL_ (some 47) rfl rfl Try.func72 (by kernel_rfl) rfl #[.pointer (some ⟨g, 0, none⟩), .int .i64 a1] rfl ar_ ?_; (with_reducible refine (spec_l20Rd_odd.calls k1 g s0_0 x1001_1 a1 true t291 w0 _ ?side1 ?side2 A64.out).mono ?_); (case side1 => repeat (first | (with_reducible first | exact HI0.out | apply IsS94.alloc | apply IsS94.drewN | apply IsS94.drew | apply IsS94.set_1 | refine IsS94.far ?_ NB0_252.out _ | refine IsS94.far ?_ NB0_257.out _) | exact HI0.out)); (case side2 => repeat (first | (with_reducible first | exact HB.out | apply below_alloc | apply pw_below_drewN | apply below_drew1 | refine below_set ?_ (IsS94.ge HI0.out) | refine below_set ?_ GE252.out | refine below_set ?_ GE257.out) | exact HB.out)); rintro e w80 ⟨rfl, hi, hb, hk⟩; refine ⟨_, rfl, ?_⟩; have n0_ := Aside0.mk (Kd.R_mono (Kd.R_keep (IsS94.apart (show IsS94 w0 _ g s0_0 x1001_1 from by repeat (first | (with_reducible first | exact HI0.out | apply IsS94.alloc | apply IsS94.drewN | apply IsS94.drew | apply IsS94.set_1 | refine IsS94.far ?_ NB0_252.out _ | refine IsS94.far ?_ NB0_257.out _) | exact HI0.out)) (kR_ HO_258002.out) (by decide)) hk (fun _ h => h.2)) (fun _ h => h.1)); have n1_ := Aside0.mk (Kd.Q_mono (Kd.Q_keep (IsS94.apartQ (show IsS94 w0 _ g s0_0 x1001_1 from by repeat (first | (with_reducible first | exact HI0.out | apply IsS94.alloc | apply IsS94.drewN | apply IsS94.drew | apply IsS94.set_1 | refine IsS94.far ?_ NB0_252.out _ | refine IsS94.far ?_ NB0_257.out _) | exact HI0.out)) (by (with_reducible repeat (first | apply Kd.Q_alloc | apply Kd.Q_drewN | apply Kd.Q_drew)); exact HO_258003.out) (by decide)) hk (fun _ h => h.2)) (fun _ h => h.1)); have n2_ := Aside0.mk (KeepBut.blk hk (g' := gb252) (o := .cells #[.int .i64 0, .int .i64 0, .slice none 0 0, .slice none 0 0] 25 (0, 0)) (kb_ BK252.out) NB252_0.out (by simp)); have n3_ := Aside0.mk (KeepBut.blk hk (g' := gb257) (o := .cells #[.int .i64 x258000_1, .int .i64 x258001_1, u258002, u258003] 25 (0, 0)) (kb_ BK257.out) NB257_0.out (by simp)); have n4_ := Aside0.mk (KeepBut.trans (by repeat (first | (with_reducible first | exact HK.out | apply KeepBut.set_ | apply keep_drewN | apply keep_drew | apply keep_alloc | refine keep_far ?_ GW252.out _ | refine keep_far ?_ GW257.out _) | exact HK.out)) hk (.inl rfl)); have n5_ := Aside0.mk (hb); have n6_ := Aside0.mk (hi); clear HO_258002; clear HO_258003; clear BK252; clear BK257; clear HK; clear HB; clear HI0; have HO_258002 := n0_; have HO_258003 := n1_; have BK252 := n2_; have BK257 := n3_; have HK := n4_; have HB := n5_; have HI0 := n6_; clear n0_ n1_ n2_ n3_ n4_ n5_ n6_; (try clear hb); (try clear hb2); (try clear hk); (try clear hi)) | ((with_reducible refine gate_callee (f := 48) rfl ?_); refine goesL_ (some 49) rfl rfl Try.func48 (by kernel_rfl) rfl #[.pointer (some ⟨g, 0, none⟩), .int .i64 4] rfl ar_ ?_; (with_reducible refine (spec_l20Rd_pick.calls k1 g s0_0 t291 4 t292 t293 w0 _ ?side1 ?side2 A66.out).mono ?_); (case side1 => repeat (first | (with_reducible first | exact HI0.out | apply IsS94.alloc | apply IsS94.drewN | apply IsS94.drew | apply IsS94.set_1 | refine IsS94.far ?_ NB0_252.out _ | refine IsS94.far ?_ NB0_257.out _) | exact HI0.out)); (case side2 => repeat (first | (with_reducible first | exact HB.out | apply below_alloc | apply pw_below_drewN | apply below_drew1 | refine below_set ?_ (IsS94.ge HI0.out) | refine below_set ?_ GE252.out | refine below_set ?_ GE257.out) | exact HB.out)); rintro e w81 ⟨rfl, hi, hb, hk⟩; refine ⟨_, rfl, ?_⟩; have n0_ := Aside0.mk (Kd.R_mono (Kd.R_keep (IsS94.apart (show IsS94 w0 _ g s0_0 t291 from by repeat (first | (with_reducible first | exact HI0.out | apply IsS94.alloc | apply IsS94.drewN | apply IsS94.drew | apply IsS94.set_1 | refine IsS94.far ?_ NB0_252.out _ | refine IsS94.far ?_ NB0_257.out _) | exact HI0.out)) (kR_ HO_258002.out) (by decide)) hk (fun _ h => h.2)) (fun _ h => h.1)); have n1_ := Aside0.mk (Kd.Q_mono (Kd.Q_keep (IsS94.apartQ (show IsS94 w0 _ g s0_0 t291 from by repeat (first | (with_reducible first | exact HI0.out | apply IsS94.alloc | apply IsS94.drewN | apply IsS94.drew | apply IsS94.set_1 | refine IsS94.far ?_ NB0_252.out _ | refine IsS94.far ?_ NB0_257.out _) | exact HI0.out)) (by (with_reducible repeat (first | apply Kd.Q_alloc | apply Kd.Q_drewN | apply Kd.Q_drew)); exact HO_258003.out) (by decide)) hk (fun _ h => h.2)) (fun _ h => h.1)); have n2_ := Aside0.mk (KeepBut.blk hk (g' := gb252) (o := .cells #[.int .i64 0, .int .i64 0, .slice none 0 0, .slice none 0 0] 25 (0, 0)) (kb_ BK252.out) NB252_0.out (by simp)); have n3_ := Aside0.mk (KeepBut.blk hk (g' := gb257) (o := .cells #[.int .i64 x258000_1, .int .i64 x258001_1, u258002, u258003] 25 (0, 0)) (kb_ BK257.out) NB257_0.out (by simp)); have n4_ := Aside0.mk (KeepBut.trans (by repeat (first | (with_reducible first | exact HK.out | apply KeepBut.set_ | apply keep_drewN | apply keep_drew | apply keep_alloc | refine keep_far ?_ GW252.out _ | refine keep_far ?_ GW257.out _) | exact HK.out)) hk (.inl rfl)); have n5_ := Aside0.mk (hb); have n6_ := Aside0.mk (hi); clear HO_258002; clear HO_258003; clear BK252; clear BK257; clear HK; clear HB; clear HI0; have HO_258002 := n0_; have HO_258003 := n1_; have BK252 := n2_; have BK257 := n3_; have HK := n4_; have HB := n5_; have HI0 := n6_; clear n0_ n1_ n2_ n3_ n4_ n5_ n6_; (try clear hb); (try clear hb2); (try clear hk); (try clear hi); have hnb82 := NB257_252.out; have hnc82 := NB252_257.out; have hnb83 := NB257_0.out; have hnc83 := NB0_257.out; have hcz84_0 : w81.cell? ⟨gb257, 0, none⟩ = some (.int .i64 x258000_1) := (blk_cell BK257.out 0).trans rfl; have hcz84_1 : w81.cell? ⟨gb257, 1, none⟩ = some (.int .i64 x258001_1) := (blk_cell BK257.out 1).trans rfl; have hcz84_2 : w81.cell? ⟨gb257, 2, none⟩ = some (u258002) := (blk_cell BK257.out 2).trans rfl; have hcz84_3 : w81.cell? ⟨gb257, 3, none⟩ = some (u258003) := (blk_cell BK257.out 3).trans rfl; have hfz84_0 := blk_frozen BK257.out 0; have hfz84_1 := blk_frozen BK257.out 1; have hfz84_2 := blk_frozen BK257.out 2; have hfz84_3 := blk_frozen BK257.out 3; have hnb85 := NB252_0.out; have hnc85 := NB0_252.out; have hcz86_0 : w81.cell? ⟨gb252, 0, none⟩ = some (.int .i64 0) := (blk_cell BK252.out 0).trans rfl; have hcz86_1 : w81.cell? ⟨gb252, 1, none⟩ = some (.int .i64 0) := (blk_cell BK252.out 1).trans rfl; have hcz86_2 : w81.cell? ⟨gb252, 2, none⟩ = some (.slice none 0 0) := (blk_cell BK252.out 2).trans rfl; have hcz86_3 : w81.cell? ⟨gb252, 3, none⟩ = some (.slice none 0 0) := (blk_cell BK252.out 3).trans rfl; have hfz86_0 := blk_frozen BK252.out 0; have hfz86_1 := blk_frozen BK252.out 1; have hfz86_2 := blk_frozen BK252.out 2; have hfz86_3 := blk_frozen BK252.out 3; obtain ⟨Ao87, co87, eo87⟩ := Kd.R_slice HO_258002.out; subst eo87; obtain ⟨Ao88, co88, eo88, _⟩ := Kd.Q_slice HO_258003.out; subst eo88))
              refine bodyPost_ret (results_cell_row rfl _ _ gb252 25 #[.int .i64 (-1), .int .i64 x258001_1, .slice Ao87 x258002_1.length co87, .slice Ao88 x258003_1.length co88] (0, 0) _ rfl (by refine kb_ ?_; refine blk_put (cs := #[.int .i64 (-1), .int .i64 x258001_1, .slice Ao87 x258002_1.length co87, .slice none 0 0]) ?_ 3 _ rfl; refine kb_ ?_; refine blk_put (cs := #[.int .i64 (-1), .int .i64 x258001_1, .slice none 0 0, .slice none 0 0]) ?_ 2 _ rfl; refine kb_ ?_; refine blk_put (cs := #[.int .i64 (-1), .int .i64 0, .slice none 0 0, .slice none 0 0]) ?_ 1 _ rfl; refine kb_ ?_; refine blk_put (cs := #[.int .i64 0, .int .i64 0, .slice none 0 0, .slice none 0 0]) ?_ 0 _ rfl; refine kb_ ?_; refine blk_far ?_ NB252_257.out _; refine kb_ ?_; exact BK252.out) Try.underlying25 rfl (by kernel_rfl)) rfl ?_
              exact ⟨_, _, by first | rfl | (simp [errW_none, errW_some] <;> rfl) | (simp [*, errW_none, errW_some] <;> rfl), by refine kR_ ?_; exact Kd.R_mono (Kd.R_f gb252 3 (.slice Ao88 x258003_1.length co88) (Kd.R_f gb252 2 (.slice Ao87 x258002_1.length co87) (Kd.R_f gb252 1 (.int .i64 x258001_1) (Kd.R_f gb252 0 (.int .i64 (-1)) (Kd.R_far (p := ⟨gb257, 0, none⟩) (Kd.R_types (Kd.R_types HO_258002.out BK257.out (by decide)) BK252.out (by decide)) (fun _ hk => hk.1.2) (.int .i64 (-1))))))) (fun _ hk => trivial), by (with_reducible repeat (first | apply Kd.Q_alloc | apply Kd.Q_drewN | apply Kd.Q_drew)); exact Kd.Q_mono (Kd.Q_far (p := ⟨gb252, 3, none⟩) (Kd.Q_far (p := ⟨gb252, 2, none⟩) (Kd.Q_far (p := ⟨gb252, 1, none⟩) (Kd.Q_far (p := ⟨gb252, 0, none⟩) (Kd.Q_far (p := ⟨gb257, 0, none⟩) (Kd.Q_types (Kd.Q_types HO_258003.out BK257.out (by decide)) BK252.out (by decide)) (fun _ hk => hk.1.2) (.int .i64 (-1))) (fun _ hk => hk.2) (.int .i64 (-1))) (fun _ hk => hk.2) (.int .i64 x258001_1)) (fun _ hk => hk.2) (.slice Ao87 x258002_1.length co87)) (fun _ hk => hk.2) (.slice Ao88 x258003_1.length co88)) (fun _ hk => trivial), by repeat (first | (with_reducible first | exact HI0.out | apply IsS94.alloc | apply IsS94.drewN | apply IsS94.drew | apply IsS94.set_1 | refine IsS94.far ?_ NB0_252.out _ | refine IsS94.far ?_ NB0_257.out _) | exact HI0.out), by repeat (first | (with_reducible first | exact HB.out | apply below_alloc | apply pw_below_drewN | apply below_drew1 | refine below_set ?_ (IsS94.ge HI0.out) | refine below_set ?_ GE252.out | refine below_set ?_ GE257.out) | exact HB.out), by repeat (first | (with_reducible first | exact HK.out | apply KeepBut.set_ | apply keep_drewN | apply keep_drew | apply keep_alloc | refine keep_far ?_ GW252.out _ | refine keep_far ?_ GW257.out _) | exact HK.out)⟩
            · rw [if_neg c79] at H
              have c79b0 : (t292 == 1) = false := beq_eq_false_iff_ne.mpr c79
              have c79b1 : (t292 != 1) = true := bne_iff_ne.mpr c79
              by_cases c89 : t292 = 2
              · rw [if_pos c89] at H
                have c89b0 : (t292 == 2) = true := beq_iff_eq.mpr c89
                have c89b1 : (t292 != 2) = false := bne_eq_false_iff_eq.mpr c89
                clear c89
                replace H := Option.bind_eq_some_iff.mp H
                obtain ⟨⟨t296, t297⟩, A900, H⟩ := H
                replace H : (if x258003_1.length < 8796093022208 then (some (x258000_1, x258001_1, x258002_1, (x258003_1 ++ [(⟨wrap64 ((wrap64 (x258000_1 + t296)) - 3), 0⟩ : S70)]), t297)) else (none)) = some (r1, r2, r3, r4, r5) := H
                have A90 := Aside0.mk A900
                clear A900
                by_cases c91 : x258003_1.length < 8796093022208
                · rw [if_pos c91] at H
                  have LMc91 := Aside0.mk c91
                  clear c91
                  obtain ⟨y298, hy298⟩ : ∃ y_ : List (S70), y_ = (x258003_1 ++ [(⟨wrap64 ((wrap64 (x258000_1 + t296)) - 3), 0⟩ : S70)]) := ⟨_, rfl⟩
                  replace H : (some (x258000_1, x258001_1, x258002_1, y298, t297)) = some (r1, r2, r3, r4, r5) := by first | (rw [hy298]; with_reducible exact H) | (have H2_ := (Option.bind_some _ _).symm.trans H; rw [hy298]; with_reducible exact H2_) | (have H2_ := (Option.bind_some _ _).symm.trans H; with_reducible exact H2_) | with_reducible exact H | (rw [hy298]; exact H) | exact H
                  have Ny298 := Aside0.mk hy298
                  clear hy298
                  simp only [Option.some.injEq, Prod.mk.injEq] at H
                  obtain ⟨rfl, rfl, rfl, rfl, rfl⟩ := H
                  try go_wp2_with (first | ((with_reducible refine gate_callee (f := 72) rfl ?_); refine goesL_ (some 47) rfl rfl Try.func72 (by kernel_rfl) rfl #[.pointer (some ⟨g, 0, none⟩), .int .i64 a1] rfl ar_ ?_; (with_reducible refine (spec_l20Rd_odd.calls k1 g s0_0 x1001_1 a1 true t291 w0 _ ?side1 ?side2 A64.out).mono ?_); (case side1 => repeat (first | (with_reducible first | exact HI0.out | apply IsS94.alloc | apply IsS94.drewN | apply IsS94.drew | apply IsS94.set_1 | refine IsS94.far ?_ NB0_252.out _ | refine IsS94.far ?_ NB0_257.out _) | exact HI0.out)); (case side2 => repeat (first | (with_reducible first | exact HB.out | apply below_alloc | apply pw_below_drewN | apply below_drew1 | refine below_set ?_ (IsS94.ge HI0.out) | refine below_set ?_ GE252.out | refine below_set ?_ GE257.out) | exact HB.out)); rintro e w92 ⟨rfl, hi, hb, hk⟩; refine ⟨_, rfl, ?_⟩; have n0_ := Aside0.mk (Kd.R_mono (Kd.R_keep (IsS94.apart (show IsS94 w0 _ g s0_0 x1001_1 from by repeat (first | (with_reducible first | exact HI0.out | apply IsS94.alloc | apply IsS94.drewN | apply IsS94.drew | apply IsS94.set_1 | refine IsS94.far ?_ NB0_252.out _ | refine IsS94.far ?_ NB0_257.out _) | exact HI0.out)) (kR_ HO_258002.out) (by decide)) hk (fun _ h => h.2)) (fun _ h => h.1)); have n1_ := Aside0.mk (Kd.Q_mono (Kd.Q_keep (IsS94.apartQ (show IsS94 w0 _ g s0_0 x1001_1 from by repeat (first | (with_reducible first | exact HI0.out | apply IsS94.alloc | apply IsS94.drewN | apply IsS94.drew | apply IsS94.set_1 | refine IsS94.far ?_ NB0_252.out _ | refine IsS94.far ?_ NB0_257.out _) | exact HI0.out)) (by (with_reducible repeat (first | apply Kd.Q_alloc | apply Kd.Q_drewN | apply Kd.Q_drew)); exact HO_258003.out) (by decide)) hk (fun _ h => h.2)) (fun _ h => h.1)); have n2_ := Aside0.mk (KeepBut.blk hk (g' := gb252) (o := .cells #[.int .i64 0, .int .i64 0, .slice none 0 0, .slice none 0 0] 25 (0, 0)) (kb_ BK252.out) NB252_0.out (by simp)); have n3_ := Aside0.mk (KeepBut.blk hk (g' := gb257) (o := .cells #[.int .i64 x258000_1, .int .i64 x258001_1, u258002, u258003] 25 (0, 0)) (kb_ BK257.out) NB257_0.out (by simp)); have n4_ := Aside0.mk (KeepBut.trans (by repeat (first | (with_reducible first | exact HK.out | apply KeepBut.set_ | apply keep_drewN | apply keep_drew | apply keep_alloc | refine keep_far ?_ GW252.out _ | refine keep_far ?_ GW257.out _) | exact HK.out)) hk (.inl rfl)); have n5_ := Aside0.mk (hb); have n6_ := Aside0.mk (hi); clear HO_258002; clear HO_258003; clear BK252; clear BK257; clear HK; clear HB; clear HI0; have HO_258002 := n0_; have HO_258003 := n1_; have BK252 := n2_; have BK257 := n3_; have HK := n4_; have HB := n5_; have HI0 := n6_; clear n0_ n1_ n2_ n3_ n4_ n5_ n6_; (try clear hb); (try clear hb2); (try clear hk); (try clear hi)) | ((with_reducible refine gate_callee (f := 48) rfl ?_); refine goesL_ (some 49) rfl rfl Try.func48 (by kernel_rfl) rfl #[.pointer (some ⟨g, 0, none⟩), .int .i64 4] rfl ar_ ?_; (with_reducible refine (spec_l20Rd_pick.calls k1 g s0_0 t291 4 t292 t293 w0 _ ?side1 ?side2 A66.out).mono ?_); (case side1 => repeat (first | (with_reducible first | exact HI0.out | apply IsS94.alloc | apply IsS94.drewN | apply IsS94.drew | apply IsS94.set_1 | refine IsS94.far ?_ NB0_252.out _ | refine IsS94.far ?_ NB0_257.out _) | exact HI0.out)); (case side2 => repeat (first | (with_reducible first | exact HB.out | apply below_alloc | apply pw_below_drewN | apply below_drew1 | refine below_set ?_ (IsS94.ge HI0.out) | refine below_set ?_ GE252.out | refine below_set ?_ GE257.out) | exact HB.out)); rintro e w93 ⟨rfl, hi, hb, hk⟩; refine ⟨_, rfl, ?_⟩; have n0_ := Aside0.mk (Kd.R_mono (Kd.R_keep (IsS94.apart (show IsS94 w0 _ g s0_0 t291 from by repeat (first | (with_reducible first | exact HI0.out | apply IsS94.alloc | apply IsS94.drewN | apply IsS94.drew | apply IsS94.set_1 | refine IsS94.far ?_ NB0_252.out _ | refine IsS94.far ?_ NB0_257.out _) | exact HI0.out)) (kR_ HO_258002.out) (by decide)) hk (fun _ h => h.2)) (fun _ h => h.1)); have n1_ := Aside0.mk (Kd.Q_mono (Kd.Q_keep (IsS94.apartQ (show IsS94 w0 _ g s0_0 t291 from by repeat (first | (with_reducible first | exact HI0.out | apply IsS94.alloc | apply IsS94.drewN | apply IsS94.drew | apply IsS94.set_1 | refine IsS94.far ?_ NB0_252.out _ | refine IsS94.far ?_ NB0_257.out _) | exact HI0.out)) (by (with_reducible repeat (first | apply Kd.Q_alloc | apply Kd.Q_drewN | apply Kd.Q_drew)); exact HO_258003.out) (by decide)) hk (fun _ h => h.2)) (fun _ h => h.1)); have n2_ := Aside0.mk (KeepBut.blk hk (g' := gb252) (o := .cells #[.int .i64 0, .int .i64 0, .slice none 0 0, .slice none 0 0] 25 (0, 0)) (kb_ BK252.out) NB252_0.out (by simp)); have n3_ := Aside0.mk (KeepBut.blk hk (g' := gb257) (o := .cells #[.int .i64 x258000_1, .int .i64 x258001_1, u258002, u258003] 25 (0, 0)) (kb_ BK257.out) NB257_0.out (by simp)); have n4_ := Aside0.mk (KeepBut.trans (by repeat (first | (with_reducible first | exact HK.out | apply KeepBut.set_ | apply keep_drewN | apply keep_drew | apply keep_alloc | refine keep_far ?_ GW252.out _ | refine keep_far ?_ GW257.out _) | exact HK.out)) hk (.inl rfl)); have n5_ := Aside0.mk (hb); have n6_ := Aside0.mk (hi); clear HO_258002; clear HO_258003; clear BK252; clear BK257; clear HK; clear HB; clear HI0; have HO_258002 := n0_; have HO_258003 := n1_; have BK252 := n2_; have BK257 := n3_; have HK := n4_; have HB := n5_; have HI0 := n6_; clear n0_ n1_ n2_ n3_ n4_ n5_ n6_; (try clear hb); (try clear hb2); (try clear hk); (try clear hi)))
                  have n0_ := Aside0.mk (Kd.R_drew HO_258002.out)
                  have n1_ := Aside0.mk (Kd.Q_drew HO_258003.out)
                  have n2_ := Aside0.mk (blk_drew BK252.out)
                  have n3_ := Aside0.mk (blk_drew BK257.out)
                  have n4_ := Aside0.mk (IsS94.drew HI0.out)
                  have n5_ := Aside0.mk (keep_drew HK.out)
                  have n6_ := Aside0.mk (below_drew1 HB.out)
                  clear HO_258002
                  clear HO_258003
                  clear BK252
                  clear BK257
                  clear HI0
                  clear HK
                  clear HB
                  have HO_258002 := n0_
                  have HO_258003 := n1_
                  have BK252 := n2_
                  have BK257 := n3_
                  have HI0 := n4_
                  have HK := n5_
                  have HB := n6_
                  clear n0_ n1_ n2_ n3_ n4_ n5_ n6_
                  refine start_ (n := 13) (S := fun w' => w'.cell? ⟨gb257, 0, none⟩ = some (.int .i64 x258000_1) ∧ w'.cell? ⟨gb257, 1, none⟩ = some (.int .i64 x258001_1) ∧ w'.cell? ⟨gb257, 2, none⟩ = some (u258002) ∧ w'.cell? ⟨gb257, 3, none⟩ = some (u258003)) (ds := [12]) #[false, false, false, false, false, false, false, false, false, false, false, false, false] (by kernel_rfl) rfl rfl ⟨(blk_cell BK257.out 0).trans rfl, (blk_cell BK257.out 1).trans rfl, (blk_cell BK257.out 2).trans rfl, (blk_cell BK257.out 3).trans rfl⟩ (fun hHeld => ?_); refine with_tabW spec_l20Ear.tab17 spec_l20Ear.bits17 (fun HT_ HW_ => ?_)
                  generalize w93.drew = w94 at HO_258002 HO_258003 BK252 BK257 HI0 HK HB hHeld ⊢
                  refine pu_ (i := 0) (N := some 65) HT_ ?_
                  refine pu_ (i := 2) (N := some 67) HT_ ?_
                  refine pu_ (i := 4) (N := some 69) HT_ ?_
                  refine tk_ (i := 1) (N := some 66) HT_ HW_ hHeld ?_
                  refine tk_ (i := 3) (N := some 68) HT_ HW_ hHeld ?_
                  refine on_ (i := 5) (N := some 70) HT_ (fun K hK => ?_)
                  refine goes_ Try.func48 (by kernel_rfl) rfl #[.pointer (some ⟨g, 0, none⟩), .int .i64 40] (by rfl) rfl rfl ar_ ?_
                  with_reducible refine (spec_l20Rd_pick.calls k1 g s0_0 t293 40 t296 t297 w0 _ ?side1 ?side2 A90.out).mono ?_
                  (case side1 => repeat (first | (with_reducible first | exact HI0.out | apply IsS94.alloc | apply IsS94.drewN | apply IsS94.drew | apply IsS94.set_1 | refine IsS94.far ?_ NB0_252.out _ | refine IsS94.far ?_ NB0_257.out _) | exact HI0.out))
                  (case side2 => repeat (first | (with_reducible first | exact HB.out | apply below_alloc | apply pw_below_drewN | apply below_drew1 | refine below_set ?_ (IsS94.ge HI0.out) | refine below_set ?_ GE252.out | refine below_set ?_ GE257.out) | exact HB.out))
                  rintro e w95 ⟨rfl, hi, hb, hk⟩
                  refine ⟨_, rfl, ?_⟩
                  have n0_ := Aside0.mk (Kd.R_mono (Kd.R_keep (IsS94.apart (show IsS94 w0 _ g s0_0 t293 from by repeat (first | (with_reducible first | exact HI0.out | apply IsS94.alloc | apply IsS94.drewN | apply IsS94.drew | apply IsS94.set_1 | refine IsS94.far ?_ NB0_252.out _ | refine IsS94.far ?_ NB0_257.out _) | exact HI0.out)) (kR_ HO_258002.out) (by decide)) hk (fun _ h => h.2)) (fun _ h => h.1))
                  have n1_ := Aside0.mk (Kd.Q_mono (Kd.Q_keep (IsS94.apartQ (show IsS94 w0 _ g s0_0 t293 from by repeat (first | (with_reducible first | exact HI0.out | apply IsS94.alloc | apply IsS94.drewN | apply IsS94.drew | apply IsS94.set_1 | refine IsS94.far ?_ NB0_252.out _ | refine IsS94.far ?_ NB0_257.out _) | exact HI0.out)) (by (with_reducible repeat (first | apply Kd.Q_alloc | apply Kd.Q_drewN | apply Kd.Q_drew)); exact HO_258003.out) (by decide)) hk (fun _ h => h.2)) (fun _ h => h.1))
                  have n2_ := Aside0.mk (KeepBut.blk hk (g' := gb252) (o := .cells #[.int .i64 0, .int .i64 0, .slice none 0 0, .slice none 0 0] 25 (0, 0)) (kb_ BK252.out) NB252_0.out (by simp))
                  have n3_ := Aside0.mk (KeepBut.blk hk (g' := gb257) (o := .cells #[.int .i64 x258000_1, .int .i64 x258001_1, u258002, u258003] 25 (0, 0)) (kb_ BK257.out) NB257_0.out (by simp))
                  have n4_ := Aside0.mk (KeepBut.trans (by repeat (first | (with_reducible first | exact HK.out | apply KeepBut.set_ | apply keep_drewN | apply keep_drew | apply keep_alloc | refine keep_far ?_ GW252.out _ | refine keep_far ?_ GW257.out _) | exact HK.out)) hk (.inl rfl))
                  have n5_ := Aside0.mk (hb)
                  have n6_ := Aside0.mk (hi)
                  clear HO_258002
                  clear HO_258003
                  clear BK252
                  clear BK257
                  clear HK
                  clear HB
                  clear HI0
                  have HO_258002 := n0_
                  have HO_258003 := n1_
                  have BK252 := n2_
                  have BK257 := n3_
                  have HK := n4_
                  have HB := n5_
                  have HI0 := n6_
                  clear n0_ n1_ n2_ n3_ n4_ n5_ n6_
                  (try clear hb)
                  (try clear hb2)
                  (try clear hk)
                  (try clear hi)
                  refine hK.out _ _ ⟨(blk_cell BK257.out 0).trans rfl, (blk_cell BK257.out 1).trans rfl, (blk_cell BK257.out 2).trans rfl, (blk_cell BK257.out 3).trans rfl⟩ (fun hHeld => ?_)
                  clear hK K
                  refine nm_ 70 ?_
                  refine pu_ (i := 6) (N := some 71) HT_ ?_
                  refine pu_ (i := 7) (N := some 72) HT_ ?_
                  refine pu_ (i := 8) (N := some 73) HT_ ?_
                  refine on_ (i := 9) (N := some 74) HT_ (fun K hK => ?_)
                  refine value_ (w1 := ?_) (v := ?_) (by rfl) rfl ?_ ?_
                  rotate_left 2
                  · go_simp
                    constructor
                    · rfl
                    · rfl
                  refine hK.out _ _ ⟨(blk_cell (blk_alloc BK257.out _) 0).trans rfl, (blk_cell (blk_alloc BK257.out _) 1).trans rfl, (blk_cell (blk_alloc BK257.out _) 2).trans rfl, (blk_cell (blk_alloc BK257.out _) 3).trans rfl⟩ (fun hHeld => ?_)
                  clear hK K
                  refine nm_ 74 ?_
                  refine on_ (i := 10) (N := some 75) HT_ (fun K hK => ?_)
                  refine Kd.Q_append_step k70 w.heap.size (by rfl) (.tmp 66) (.tmp 74) 23 70 (.agg #[(.int .i64 0), (.int .u8 0)]) 16 rfl Try.underlying23 info70 rfl (by decide) (by omega) u258003 x258003_1 (⟨wrap64 ((wrap64 (x258000_1 + t296)) - 3), 0⟩ : S70) [.int .i64 (wrap64 ((wrap64 (x258000_1 + t296)) - 3)), .int .u8 0] (fun _ => True) (fun _ => False) rfl rfl ?aP (fun _ hk => hk.elim) ?aF ?aO (Below.refl _ _) ?aS ?aL ?_
                  (case aP => exact k70_mkM _ _ _ (⟨wrap64 ((wrap64 (x258000_1 + t296)) - 3), 0⟩ : S70))
                  (case aF => exact (fun _ _ => trivial))
                  (case aO => exact (by (with_reducible repeat (first | apply Kd.Q_alloc | apply Kd.Q_drewN | apply Kd.Q_drew)); exact HO_258003.out))
                  (case aS => exact (keep_size (w := w) (g := g) (row := none) (by repeat (first | (with_reducible first | exact HK.out | apply KeepBut.set_ | apply keep_drewN | apply keep_drew | apply keep_alloc | refine keep_far ?_ GW252.out _ | refine keep_far ?_ GW257.out _) | exact HK.out))))
                  (case aL => have := LMc91.out; omega)
                  intro v299 w96 ho hb hg hat
                  rw [← Ny298.out] at ho
                  have n0_ := Aside0.mk (Kd.R_over' (kR_ HO_258002.out) (Kd.Q_typed (by (with_reducible repeat (first | apply Kd.Q_alloc | apply Kd.Q_drewN | apply Kd.Q_drew)); exact HO_258003.out)) (by decide) hg)
                  have n1_ := Aside0.mk (blk_grown (g := gb252) (o := .cells #[.int .i64 0, .int .i64 0, .slice none 0 0, .slice none 0 0] 25 (0, 0)) (kb_ BK252.out) hg (Kd.Q_ne HO_258003.out BK252.out (by decide)))
                  have n2_ := Aside0.mk (blk_grown (g := gb257) (o := .cells #[.int .i64 x258000_1, .int .i64 x258001_1, u258002, u258003] 25 (0, 0)) (kb_ BK257.out) hg (Kd.Q_ne HO_258003.out BK257.out (by decide)))
                  have n3_ := Aside0.mk (IsS94.grown (by repeat (first | (with_reducible first | exact HI0.out | apply IsS94.alloc | apply IsS94.drewN | apply IsS94.drew | apply IsS94.set_1 | refine IsS94.far ?_ NB0_252.out _ | refine IsS94.far ?_ NB0_257.out _) | exact HI0.out)) hg (IsS94.own_neQ HI0.out HO_258003.out (by decide)))
                  have n4_ := Aside0.mk (below_weaken (by repeat (first | (with_reducible first | exact HB.out | apply below_alloc | apply pw_below_drewN | apply below_drew1 | refine below_set ?_ (IsS94.ge HI0.out) | refine below_set ?_ GE252.out | refine below_set ?_ GE257.out) | exact HB.out)) HL.out hb)
                  have n5_ := Aside0.mk (KeepBut.trans (by repeat (first | (with_reducible first | exact HK.out | apply KeepBut.set_ | apply keep_drewN | apply keep_drew | apply keep_alloc | refine keep_far ?_ GW252.out _ | refine keep_far ?_ GW257.out _) | exact HK.out)) (KeepBut.of_grown hg g) (Kd.Q_base2 HO_258003.out))
                  have n6_ := Aside0.mk (ho)
                  clear HO_258002
                  clear BK252
                  clear BK257
                  clear HI0
                  clear HB
                  clear HK
                  clear HO_258003
                  have HO_258002 := n0_
                  have BK252 := n1_
                  have BK257 := n2_
                  have HI0 := n3_
                  have HB := n4_
                  have HK := n5_
                  have HO300 := n6_
                  clear n0_ n1_ n2_ n3_ n4_ n5_ n6_
                  clear ho hb hg hat
                  obtain ⟨Ao97, co97, eo97, _⟩ := Kd.Q_slice HO300.out
                  (first | subst eo97 | (injection eo97 with f1_ f2_ f3_; have f4_ := f1_.symm; have f5_ := f3_.symm; clear f1_ f2_ f3_; subst f4_; subst f5_))
                  refine hK.out _ _ ⟨(blk_cell BK257.out 0).trans rfl, (blk_cell BK257.out 1).trans rfl, (blk_cell BK257.out 2).trans rfl, (blk_cell BK257.out 3).trans rfl⟩ (fun hHeld => ?_)
                  clear hK K
                  refine nm_ 75 ?_
                  refine pu_ (i := 11) (N := some 76) HT_ ?_
                  refine last_ (i := 12) (N := none) #[true, true, true, true, true, true, true, true, true, true, true, true, true] rfl rfl (one_of HT_.out (by kernel_rfl)) (by decide) (fun K hK => ?_)
                  have hs98 : w96.cell? ⟨gb257, 3, none⟩ = some (u258003) := (blk_cell BK257.out 3).trans rfl
                  have hfs98 := blk_frozen BK257.out 3
                  have hns98_0 := NB252_257.out
                  have hms98_0 := NB257_252.out
                  refine skip_ (w1 := ?_) (by rfl) rfl ?_ ?_
                  rotate_left
                  · go_simp
                    rfl
                  refine hK.out _ _ ?_
                  clear hK K
                  refine done_ (done_of HT_.out (by kernel_rfl)) ?_
                  have hnb99 := NB257_252.out
                  have hnc99 := NB252_257.out
                  have hnb100 := NB257_0.out
                  have hnc100 := NB0_257.out
                  have hcz101_0 : w96.cell? ⟨gb257, 0, none⟩ = some (.int .i64 x258000_1) := (blk_cell BK257.out 0).trans rfl
                  have hcz101_1 : w96.cell? ⟨gb257, 1, none⟩ = some (.int .i64 x258001_1) := (blk_cell BK257.out 1).trans rfl
                  have hcz101_2 : w96.cell? ⟨gb257, 2, none⟩ = some (u258002) := (blk_cell BK257.out 2).trans rfl
                  have hcz101_3 : w96.cell? ⟨gb257, 3, none⟩ = some (u258003) := (blk_cell BK257.out 3).trans rfl
                  have hfz101_0 := blk_frozen BK257.out 0
                  have hfz101_1 := blk_frozen BK257.out 1
                  have hfz101_2 := blk_frozen BK257.out 2
                  have hfz101_3 := blk_frozen BK257.out 3
                  have hnb102 := NB252_0.out
                  have hnc102 := NB0_252.out
                  have hcz103_0 : w96.cell? ⟨gb252, 0, none⟩ = some (.int .i64 0) := (blk_cell BK252.out 0).trans rfl
                  have hcz103_1 : w96.cell? ⟨gb252, 1, none⟩ = some (.int .i64 0) := (blk_cell BK252.out 1).trans rfl
                  have hcz103_2 : w96.cell? ⟨gb252, 2, none⟩ = some (.slice none 0 0) := (blk_cell BK252.out 2).trans rfl
                  have hcz103_3 : w96.cell? ⟨gb252, 3, none⟩ = some (.slice none 0 0) := (blk_cell BK252.out 3).trans rfl
                  have hfz103_0 := blk_frozen BK252.out 0
                  have hfz103_1 := blk_frozen BK252.out 1
                  have hfz103_2 := blk_frozen BK252.out 2
                  have hfz103_3 := blk_frozen BK252.out 3
                  obtain ⟨Ao104, co104, eo104⟩ := Kd.R_slice HO_258002.out
                  subst eo104
                  try go_wp2
                  refine bodyPost_ret (results_cell_row rfl _ _ gb252 25 #[.int .i64 x258000_1, .int .i64 x258001_1, .slice Ao104 x258002_1.length co104, .slice Ao97 y298.length co97] (0, 0) _ rfl (by refine kb_ ?_; refine blk_put (cs := #[.int .i64 x258000_1, .int .i64 x258001_1, .slice Ao104 x258002_1.length co104, .slice none 0 0]) ?_ 3 _ rfl; refine kb_ ?_; refine blk_put (cs := #[.int .i64 x258000_1, .int .i64 x258001_1, .slice none 0 0, .slice none 0 0]) ?_ 2 _ rfl; refine kb_ ?_; refine blk_put (cs := #[.int .i64 x258000_1, .int .i64 0, .slice none 0 0, .slice none 0 0]) ?_ 1 _ rfl; refine kb_ ?_; refine blk_put (cs := #[.int .i64 0, .int .i64 0, .slice none 0 0, .slice none 0 0]) ?_ 0 _ rfl; refine kb_ ?_; refine blk_far ?_ NB252_257.out _; refine kb_ ?_; exact BK252.out) Try.underlying25 rfl (by kernel_rfl)) rfl ?_
                  exact ⟨_, _, by first | rfl | (simp [errW_none, errW_some] <;> rfl) | (simp [*, errW_none, errW_some] <;> rfl), by refine kR_ ?_; exact Kd.R_mono (Kd.R_f gb252 3 (.slice Ao97 y298.length co97) (Kd.R_f gb252 2 (.slice Ao104 x258002_1.length co104) (Kd.R_f gb252 1 (.int .i64 x258001_1) (Kd.R_f gb252 0 (.int .i64 x258000_1) (Kd.R_far (p := ⟨gb257, 3, none⟩) (Kd.R_types (Kd.R_types HO_258002.out BK257.out (by decide)) BK252.out (by decide)) (fun _ hk => hk.1.2) (.slice Ao97 y298.length co97)))))) (fun _ hk => trivial), by (with_reducible repeat (first | apply Kd.Q_alloc | apply Kd.Q_drewN | apply Kd.Q_drew)); exact Kd.Q_mono (Kd.Q_far (p := ⟨gb252, 3, none⟩) (Kd.Q_far (p := ⟨gb252, 2, none⟩) (Kd.Q_far (p := ⟨gb252, 1, none⟩) (Kd.Q_far (p := ⟨gb252, 0, none⟩) (Kd.Q_far (p := ⟨gb257, 3, none⟩) (Kd.Q_types (Kd.Q_types HO300.out BK257.out (by decide)) BK252.out (by decide)) (fun _ hk => hk.1.2) (.slice Ao97 y298.length co97)) (fun _ hk => hk.2) (.int .i64 x258000_1)) (fun _ hk => hk.2) (.int .i64 x258001_1)) (fun _ hk => hk.2) (.slice Ao104 x258002_1.length co104)) (fun _ hk => hk.2) (.slice Ao97 y298.length co97)) (fun _ hk => trivial), by repeat (first | (with_reducible first | exact HI0.out | apply IsS94.alloc | apply IsS94.drewN | apply IsS94.drew | apply IsS94.set_1 | refine IsS94.far ?_ NB0_252.out _ | refine IsS94.far ?_ NB0_257.out _) | exact HI0.out), by repeat (first | (with_reducible first | exact HB.out | apply below_alloc | apply pw_below_drewN | apply below_drew1 | refine below_set ?_ (IsS94.ge HI0.out) | refine below_set ?_ GE252.out | refine below_set ?_ GE257.out) | exact HB.out), by repeat (first | (with_reducible first | exact HK.out | apply KeepBut.set_ | apply keep_drewN | apply keep_drew | apply keep_alloc | refine keep_far ?_ GW252.out _ | refine keep_far ?_ GW257.out _) | exact HK.out)⟩
                · rw [if_neg c91] at H
                  exact absurd H (by simp)
              · rw [if_neg c89] at H
                have c89b0 : (t292 == 2) = false := beq_eq_false_iff_ne.mpr c89
                have c89b1 : (t292 != 2) = true := bne_iff_ne.mpr c89
                by_cases c105 : x258002_1.length + 20 < 140737488355328
                · rw [if_pos c105] at H
                  have LMc105 := Aside0.mk c105
                  clear c105
                  obtain ⟨y301, hy301⟩ : ∃ y_ : List Int, y_ = (x258002_1 ++ List.replicate 20 0) := ⟨_, rfl⟩
                  replace H : (some (x258000_1, x258001_1, y301, x258003_1, t293)) = some (r1, r2, r3, r4, r5) := by first | (rw [hy301]; with_reducible exact H) | (have H2_ := (Option.bind_some _ _).symm.trans H; rw [hy301]; with_reducible exact H2_) | (have H2_ := (Option.bind_some _ _).symm.trans H; with_reducible exact H2_) | with_reducible exact H | (rw [hy301]; exact H) | exact H
                  have Ny301 := Aside0.mk hy301
                  clear hy301
                  simp only [Option.some.injEq, Prod.mk.injEq] at H
                  obtain ⟨rfl, rfl, rfl, rfl, rfl⟩ := H
                  go_wp2_with (first | ((with_reducible refine gate_callee (f := 72) rfl ?_); refine goesL_ (some 47) rfl rfl Try.func72 (by kernel_rfl) rfl #[.pointer (some ⟨g, 0, none⟩), .int .i64 a1] rfl ar_ ?_; (with_reducible refine (spec_l20Rd_odd.calls k1 g s0_0 x1001_1 a1 true t291 w0 _ ?side1 ?side2 A64.out).mono ?_); (case side1 => repeat (first | (with_reducible first | exact HI0.out | apply IsS94.alloc | apply IsS94.drewN | apply IsS94.drew | apply IsS94.set_1 | refine IsS94.far ?_ NB0_252.out _ | refine IsS94.far ?_ NB0_257.out _) | exact HI0.out)); (case side2 => repeat (first | (with_reducible first | exact HB.out | apply below_alloc | apply pw_below_drewN | apply below_drew1 | refine below_set ?_ (IsS94.ge HI0.out) | refine below_set ?_ GE252.out | refine below_set ?_ GE257.out) | exact HB.out)); rintro e w106 ⟨rfl, hi, hb, hk⟩; refine ⟨_, rfl, ?_⟩; have n0_ := Aside0.mk (Kd.R_mono (Kd.R_keep (IsS94.apart (show IsS94 w0 _ g s0_0 x1001_1 from by repeat (first | (with_reducible first | exact HI0.out | apply IsS94.alloc | apply IsS94.drewN | apply IsS94.drew | apply IsS94.set_1 | refine IsS94.far ?_ NB0_252.out _ | refine IsS94.far ?_ NB0_257.out _) | exact HI0.out)) (kR_ HO_258002.out) (by decide)) hk (fun _ h => h.2)) (fun _ h => h.1)); have n1_ := Aside0.mk (Kd.Q_mono (Kd.Q_keep (IsS94.apartQ (show IsS94 w0 _ g s0_0 x1001_1 from by repeat (first | (with_reducible first | exact HI0.out | apply IsS94.alloc | apply IsS94.drewN | apply IsS94.drew | apply IsS94.set_1 | refine IsS94.far ?_ NB0_252.out _ | refine IsS94.far ?_ NB0_257.out _) | exact HI0.out)) (by (with_reducible repeat (first | apply Kd.Q_alloc | apply Kd.Q_drewN | apply Kd.Q_drew)); exact HO_258003.out) (by decide)) hk (fun _ h => h.2)) (fun _ h => h.1)); have n2_ := Aside0.mk (KeepBut.blk hk (g' := gb252) (o := .cells #[.int .i64 0, .int .i64 0, .slice none 0 0, .slice none 0 0] 25 (0, 0)) (kb_ BK252.out) NB252_0.out (by simp)); have n3_ := Aside0.mk (KeepBut.blk hk (g' := gb257) (o := .cells #[.int .i64 x258000_1, .int .i64 x258001_1, u258002, u258003] 25 (0, 0)) (kb_ BK257.out) NB257_0.out (by simp)); have n4_ := Aside0.mk (KeepBut.trans (by repeat (first | (with_reducible first | exact HK.out | apply KeepBut.set_ | apply keep_drewN | apply keep_drew | apply keep_alloc | refine keep_far ?_ GW252.out _ | refine keep_far ?_ GW257.out _) | exact HK.out)) hk (.inl rfl)); have n5_ := Aside0.mk (hb); have n6_ := Aside0.mk (hi); clear HO_258002; clear HO_258003; clear BK252; clear BK257; clear HK; clear HB; clear HI0; have HO_258002 := n0_; have HO_258003 := n1_; have BK252 := n2_; have BK257 := n3_; have HK := n4_; have HB := n5_; have HI0 := n6_; clear n0_ n1_ n2_ n3_ n4_ n5_ n6_; (try clear hb); (try clear hb2); (try clear hk); (try clear hi)) | ((with_reducible refine gate_callee (f := 48) rfl ?_); refine goesL_ (some 49) rfl rfl Try.func48 (by kernel_rfl) rfl #[.pointer (some ⟨g, 0, none⟩), .int .i64 4] rfl ar_ ?_; (with_reducible refine (spec_l20Rd_pick.calls k1 g s0_0 t291 4 t292 t293 w0 _ ?side1 ?side2 A66.out).mono ?_); (case side1 => repeat (first | (with_reducible first | exact HI0.out | apply IsS94.alloc | apply IsS94.drewN | apply IsS94.drew | apply IsS94.set_1 | refine IsS94.far ?_ NB0_252.out _ | refine IsS94.far ?_ NB0_257.out _) | exact HI0.out)); (case side2 => repeat (first | (with_reducible first | exact HB.out | apply below_alloc | apply pw_below_drewN | apply below_drew1 | refine below_set ?_ (IsS94.ge HI0.out) | refine below_set ?_ GE252.out | refine below_set ?_ GE257.out) | exact HB.out)); rintro e w107 ⟨rfl, hi, hb, hk⟩; refine ⟨_, rfl, ?_⟩; have n0_ := Aside0.mk (Kd.R_mono (Kd.R_keep (IsS94.apart (show IsS94 w0 _ g s0_0 t291 from by repeat (first | (with_reducible first | exact HI0.out | apply IsS94.alloc | apply IsS94.drewN | apply IsS94.drew | apply IsS94.set_1 | refine IsS94.far ?_ NB0_252.out _ | refine IsS94.far ?_ NB0_257.out _) | exact HI0.out)) (kR_ HO_258002.out) (by decide)) hk (fun _ h => h.2)) (fun _ h => h.1)); have n1_ := Aside0.mk (Kd.Q_mono (Kd.Q_keep (IsS94.apartQ (show IsS94 w0 _ g s0_0 t291 from by repeat (first | (with_reducible first | exact HI0.out | apply IsS94.alloc | apply IsS94.drewN | apply IsS94.drew | apply IsS94.set_1 | refine IsS94.far ?_ NB0_252.out _ | refine IsS94.far ?_ NB0_257.out _) | exact HI0.out)) (by (with_reducible repeat (first | apply Kd.Q_alloc | apply Kd.Q_drewN | apply Kd.Q_drew)); exact HO_258003.out) (by decide)) hk (fun _ h => h.2)) (fun _ h => h.1)); have n2_ := Aside0.mk (KeepBut.blk hk (g' := gb252) (o := .cells #[.int .i64 0, .int .i64 0, .slice none 0 0, .slice none 0 0] 25 (0, 0)) (kb_ BK252.out) NB252_0.out (by simp)); have n3_ := Aside0.mk (KeepBut.blk hk (g' := gb257) (o := .cells #[.int .i64 x258000_1, .int .i64 x258001_1, u258002, u258003] 25 (0, 0)) (kb_ BK257.out) NB257_0.out (by simp)); have n4_ := Aside0.mk (KeepBut.trans (by repeat (first | (with_reducible first | exact HK.out | apply KeepBut.set_ | apply keep_drewN | apply keep_drew | apply keep_alloc | refine keep_far ?_ GW252.out _ | refine keep_far ?_ GW257.out _) | exact HK.out)) hk (.inl rfl)); have n5_ := Aside0.mk (hb); have n6_ := Aside0.mk (hi); clear HO_258002; clear HO_258003; clear BK252; clear BK257; clear HK; clear HB; clear HI0; have HO_258002 := n0_; have HO_258003 := n1_; have BK252 := n2_; have BK257 := n3_; have HK := n4_; have HB := n5_; have HI0 := n6_; clear n0_ n1_ n2_ n3_ n4_ n5_ n6_; (try clear hb); (try clear hb2); (try clear hk); (try clear hi); have hnb108 := NB257_252.out; have hnc108 := NB252_257.out; have hnb109 := NB257_0.out; have hnc109 := NB0_257.out; have hcz110_0 : w107.cell? ⟨gb257, 0, none⟩ = some (.int .i64 x258000_1) := (blk_cell BK257.out 0).trans rfl; have hcz110_1 : w107.cell? ⟨gb257, 1, none⟩ = some (.int .i64 x258001_1) := (blk_cell BK257.out 1).trans rfl; have hcz110_2 : w107.cell? ⟨gb257, 2, none⟩ = some (u258002) := (blk_cell BK257.out 2).trans rfl; have hcz110_3 : w107.cell? ⟨gb257, 3, none⟩ = some (u258003) := (blk_cell BK257.out 3).trans rfl; have hfz110_0 := blk_frozen BK257.out 0; have hfz110_1 := blk_frozen BK257.out 1; have hfz110_2 := blk_frozen BK257.out 2; have hfz110_3 := blk_frozen BK257.out 3) | (at_builtin; refine Kd.R_append_zeros (Kd.int .u8) w.heap.size rfl (.tmp 51) (.const (.int .i64 20)) 22 3 5 (.int .u8 0) 1 rfl Try.underlying22 Try.underlying3 info5 rfl (by decide) (by omega) u258002 x258002_1 0 (20 : Int) (fun _ => True) rfl rfl rfl ?aF ?aO (by omega) (Below.refl _ _) ?aS ?aL ?_; (case aF => exact (fun _ _ => trivial)); (case aO => exact (kR_ HO_258002.out)); (case aS => exact (keep_size (w := w) (g := g) (row := none) (by repeat (first | (with_reducible first | exact HK.out | apply KeepBut.set_ | apply keep_drewN | apply keep_drew | apply keep_alloc | refine keep_far ?_ GW252.out _ | refine keep_far ?_ GW257.out _) | exact HK.out)))); (case aL => have := LMc105.out; omega); intro v302 w111 ho hb hg hat; (first | (simp only [Int.reduceToNat] at ho; rw [← Ny301.out] at ho) | rw [← Ny301.out] at ho); have n0_ := Aside0.mk (Kd.Q_over' (by (with_reducible repeat (first | apply Kd.Q_alloc | apply Kd.Q_drewN | apply Kd.Q_drew)); exact HO_258003.out) (Kd.R_typed (kR_ HO_258002.out)) (by decide) hg); have n1_ := Aside0.mk (blk_grown (g := gb252) (o := .cells #[.int .i64 0, .int .i64 0, .slice none 0 0, .slice none 0 0] 25 (0, 0)) (kb_ BK252.out) hg (Kd.R_ne HO_258002.out BK252.out (by decide))); have n2_ := Aside0.mk (blk_grown (g := gb257) (o := .cells #[.int .i64 x258000_1, .int .i64 x258001_1, u258002, u258003] 25 (0, 0)) (kb_ BK257.out) hg (Kd.R_ne HO_258002.out BK257.out (by decide))); have n3_ := Aside0.mk (IsS94.grown (by repeat (first | (with_reducible first | exact HI0.out | apply IsS94.alloc | apply IsS94.drewN | apply IsS94.drew | apply IsS94.set_1 | refine IsS94.far ?_ NB0_252.out _ | refine IsS94.far ?_ NB0_257.out _) | exact HI0.out)) hg (IsS94.own_ne HI0.out HO_258002.out (by decide))); have n4_ := Aside0.mk (below_weaken (by repeat (first | (with_reducible first | exact HB.out | apply below_alloc | apply pw_below_drewN | apply below_drew1 | refine below_set ?_ (IsS94.ge HI0.out) | refine below_set ?_ GE252.out | refine below_set ?_ GE257.out) | exact HB.out)) HL.out hb); have n5_ := Aside0.mk (KeepBut.trans (by repeat (first | (with_reducible first | exact HK.out | apply KeepBut.set_ | apply keep_drewN | apply keep_drew | apply keep_alloc | refine keep_far ?_ GW252.out _ | refine keep_far ?_ GW257.out _) | exact HK.out)) (KeepBut.of_grown hg g) (Kd.R_base2 HO_258002.out)); have n6_ := Aside0.mk (ho); clear HO_258003; clear BK252; clear BK257; clear HI0; clear HB; clear HK; clear HO_258002; have HO_258003 := n0_; have BK252 := n1_; have BK257 := n2_; have HI0 := n3_; have HB := n4_; have HK := n5_; have HO303 := n6_; clear n0_ n1_ n2_ n3_ n4_ n5_ n6_; clear ho hb hg hat; obtain ⟨Ao112, co112, eo112⟩ := Kd.R_slice HO303.out; subst eo112; have hcz113_0 : w111.cell? ⟨gb257, 0, none⟩ = some (.int .i64 x258000_1) := (blk_cell BK257.out 0).trans rfl; have hcz113_1 : w111.cell? ⟨gb257, 1, none⟩ = some (.int .i64 x258001_1) := (blk_cell BK257.out 1).trans rfl; have hcz113_2 : w111.cell? ⟨gb257, 2, none⟩ = some (u258002) := (blk_cell BK257.out 2).trans rfl; have hcz113_3 : w111.cell? ⟨gb257, 3, none⟩ = some (u258003) := (blk_cell BK257.out 3).trans rfl; have hfz113_0 := blk_frozen BK257.out 0; have hfz113_1 := blk_frozen BK257.out 1; have hfz113_2 := blk_frozen BK257.out 2; have hfz113_3 := blk_frozen BK257.out 3; have hnb114 := NB252_0.out; have hnc114 := NB0_252.out; have hcz115_0 : w111.cell? ⟨gb252, 0, none⟩ = some (.int .i64 0) := (blk_cell BK252.out 0).trans rfl; have hcz115_1 : w111.cell? ⟨gb252, 1, none⟩ = some (.int .i64 0) := (blk_cell BK252.out 1).trans rfl; have hcz115_2 : w111.cell? ⟨gb252, 2, none⟩ = some (.slice none 0 0) := (blk_cell BK252.out 2).trans rfl; have hcz115_3 : w111.cell? ⟨gb252, 3, none⟩ = some (.slice none 0 0) := (blk_cell BK252.out 3).trans rfl; have hfz115_0 := blk_frozen BK252.out 0; have hfz115_1 := blk_frozen BK252.out 1; have hfz115_2 := blk_frozen BK252.out 2; have hfz115_3 := blk_frozen BK252.out 3; obtain ⟨Ao116, co116, eo116, _⟩ := Kd.Q_slice HO_258003.out; subst eo116))
                  refine bodyPost_ret (results_cell_row rfl _ _ gb252 25 #[.int .i64 x258000_1, .int .i64 x258001_1, .slice Ao112 y301.length co112, .slice Ao116 x258003_1.length co116] (0, 0) _ rfl (by refine kb_ ?_; refine blk_put (cs := #[.int .i64 x258000_1, .int .i64 x258001_1, .slice Ao112 y301.length co112, .slice none 0 0]) ?_ 3 _ rfl; refine kb_ ?_; refine blk_put (cs := #[.int .i64 x258000_1, .int .i64 x258001_1, .slice none 0 0, .slice none 0 0]) ?_ 2 _ rfl; refine kb_ ?_; refine blk_put (cs := #[.int .i64 x258000_1, .int .i64 0, .slice none 0 0, .slice none 0 0]) ?_ 1 _ rfl; refine kb_ ?_; refine blk_put (cs := #[.int .i64 0, .int .i64 0, .slice none 0 0, .slice none 0 0]) ?_ 0 _ rfl; refine kb_ ?_; refine blk_far ?_ NB252_257.out _; refine kb_ ?_; exact BK252.out) Try.underlying25 rfl (by kernel_rfl)) rfl ?_
                  exact ⟨_, _, by first | rfl | (simp [errW_none, errW_some] <;> rfl) | (simp [*, errW_none, errW_some] <;> rfl), by refine kR_ ?_; exact Kd.R_mono (Kd.R_f gb252 3 (.slice Ao116 x258003_1.length co116) (Kd.R_f gb252 2 (.slice Ao112 y301.length co112) (Kd.R_f gb252 1 (.int .i64 x258001_1) (Kd.R_f gb252 0 (.int .i64 x258000_1) (Kd.R_far (p := ⟨gb257, 2, none⟩) (Kd.R_types (Kd.R_types HO303.out BK257.out (by decide)) BK252.out (by decide)) (fun _ hk => hk.1.2) (.slice Ao112 y301.length co112)))))) (fun _ hk => trivial), by (with_reducible repeat (first | apply Kd.Q_alloc | apply Kd.Q_drewN | apply Kd.Q_drew)); exact Kd.Q_mono (Kd.Q_far (p := ⟨gb252, 3, none⟩) (Kd.Q_far (p := ⟨gb252, 2, none⟩) (Kd.Q_far (p := ⟨gb252, 1, none⟩) (Kd.Q_far (p := ⟨gb252, 0, none⟩) (Kd.Q_far (p := ⟨gb257, 2, none⟩) (Kd.Q_types (Kd.Q_types HO_258003.out BK257.out (by decide)) BK252.out (by decide)) (fun _ hk => hk.1.2) (.slice Ao112 y301.length co112)) (fun _ hk => hk.2) (.int .i64 x258000_1)) (fun _ hk => hk.2) (.int .i64 x258001_1)) (fun _ hk => hk.2) (.slice Ao112 y301.length co112)) (fun _ hk => hk.2) (.slice Ao116 x258003_1.length co116)) (fun _ hk => trivial), by repeat (first | (with_reducible first | exact HI0.out | apply IsS94.alloc | apply IsS94.drewN | apply IsS94.drew | apply IsS94.set_1 | refine IsS94.far ?_ NB0_252.out _ | refine IsS94.far ?_ NB0_257.out _) | exact HI0.out), by repeat (first | (with_reducible first | exact HB.out | apply below_alloc | apply pw_below_drewN | apply below_drew1 | refine below_set ?_ (IsS94.ge HI0.out) | refine below_set ?_ GE252.out | refine below_set ?_ GE257.out) | exact HB.out), by repeat (first | (with_reducible first | exact HK.out | apply KeepBut.set_ | apply keep_drewN | apply keep_drew | apply keep_alloc | refine keep_far ?_ GW252.out _ | refine keep_far ?_ GW257.out _) | exact HK.out)⟩
                · rw [if_neg c105] at H
                  exact absurd H (by simp)
        · replace c65 := Bool.eq_false_iff.mpr c65
          subst c65
          have H1 : (some (x258000_1, x258001_1, x258002_1, x258003_1, t291)) = some (r1, r2, r3, r4, r5) := by rw [if_neg (show ¬ (false = true) by decide)] at H; exact H
          clear H
          have H := H1
          clear H1
          simp only [Option.some.injEq, Prod.mk.injEq] at H
          obtain ⟨rfl, rfl, rfl, rfl, rfl⟩ := H
          go_wp2_with (first | ((with_reducible refine gate_callee (f := 72) rfl ?_); refine goesL_ (some 47) rfl rfl Try.func72 (by kernel_rfl) rfl #[.pointer (some ⟨g, 0, none⟩), .int .i64 a1] rfl ar_ ?_; (with_reducible refine (spec_l20Rd_odd.calls k1 g s0_0 x1001_1 a1 false t291 w0 _ ?side1 ?side2 A64.out).mono ?_); (case side1 => repeat (first | (with_reducible first | exact HI0.out | apply IsS94.alloc | apply IsS94.drewN | apply IsS94.drew | apply IsS94.set_1 | refine IsS94.far ?_ NB0_252.out _ | refine IsS94.far ?_ NB0_257.out _) | exact HI0.out)); (case side2 => repeat (first | (with_reducible first | exact HB.out | apply below_alloc | apply pw_below_drewN | apply below_drew1 | refine below_set ?_ (IsS94.ge HI0.out) | refine below_set ?_ GE252.out | refine below_set ?_ GE257.out) | exact HB.out)); rintro e w117 ⟨rfl, hi, hb, hk⟩; refine ⟨_, rfl, ?_⟩; have n0_ := Aside0.mk (Kd.R_mono (Kd.R_keep (IsS94.apart (show IsS94 w0 _ g s0_0 x1001_1 from by repeat (first | (with_reducible first | exact HI0.out | apply IsS94.alloc | apply IsS94.drewN | apply IsS94.drew | apply IsS94.set_1 | refine IsS94.far ?_ NB0_252.out _ | refine IsS94.far ?_ NB0_257.out _) | exact HI0.out)) (kR_ HO_258002.out) (by decide)) hk (fun _ h => h.2)) (fun _ h => h.1)); have n1_ := Aside0.mk (Kd.Q_mono (Kd.Q_keep (IsS94.apartQ (show IsS94 w0 _ g s0_0 x1001_1 from by repeat (first | (with_reducible first | exact HI0.out | apply IsS94.alloc | apply IsS94.drewN | apply IsS94.drew | apply IsS94.set_1 | refine IsS94.far ?_ NB0_252.out _ | refine IsS94.far ?_ NB0_257.out _) | exact HI0.out)) (by (with_reducible repeat (first | apply Kd.Q_alloc | apply Kd.Q_drewN | apply Kd.Q_drew)); exact HO_258003.out) (by decide)) hk (fun _ h => h.2)) (fun _ h => h.1)); have n2_ := Aside0.mk (KeepBut.blk hk (g' := gb252) (o := .cells #[.int .i64 0, .int .i64 0, .slice none 0 0, .slice none 0 0] 25 (0, 0)) (kb_ BK252.out) NB252_0.out (by simp)); have n3_ := Aside0.mk (KeepBut.blk hk (g' := gb257) (o := .cells #[.int .i64 x258000_1, .int .i64 x258001_1, u258002, u258003] 25 (0, 0)) (kb_ BK257.out) NB257_0.out (by simp)); have n4_ := Aside0.mk (KeepBut.trans (by repeat (first | (with_reducible first | exact HK.out | apply KeepBut.set_ | apply keep_drewN | apply keep_drew | apply keep_alloc | refine keep_far ?_ GW252.out _ | refine keep_far ?_ GW257.out _) | exact HK.out)) hk (.inl rfl)); have n5_ := Aside0.mk (hb); have n6_ := Aside0.mk (hi); clear HO_258002; clear HO_258003; clear BK252; clear BK257; clear HK; clear HB; clear HI0; have HO_258002 := n0_; have HO_258003 := n1_; have BK252 := n2_; have BK257 := n3_; have HK := n4_; have HB := n5_; have HI0 := n6_; clear n0_ n1_ n2_ n3_ n4_ n5_ n6_; (try clear hb); (try clear hb2); (try clear hk); (try clear hi); have hnb118 := NB257_252.out; have hnc118 := NB252_257.out; have hnb119 := NB257_0.out; have hnc119 := NB0_257.out; have hcz120_0 : w117.cell? ⟨gb257, 0, none⟩ = some (.int .i64 x258000_1) := (blk_cell BK257.out 0).trans rfl; have hcz120_1 : w117.cell? ⟨gb257, 1, none⟩ = some (.int .i64 x258001_1) := (blk_cell BK257.out 1).trans rfl; have hcz120_2 : w117.cell? ⟨gb257, 2, none⟩ = some (u258002) := (blk_cell BK257.out 2).trans rfl; have hcz120_3 : w117.cell? ⟨gb257, 3, none⟩ = some (u258003) := (blk_cell BK257.out 3).trans rfl; have hfz120_0 := blk_frozen BK257.out 0; have hfz120_1 := blk_frozen BK257.out 1; have hfz120_2 := blk_frozen BK257.out 2; have hfz120_3 := blk_frozen BK257.out 3; have hnb121 := NB252_0.out; have hnc121 := NB0_252.out; have hcz122_0 : w117.cell? ⟨gb252, 0, none⟩ = some (.int .i64 0) := (blk_cell BK252.out 0).trans rfl; have hcz122_1 : w117.cell? ⟨gb252, 1, none⟩ = some (.int .i64 0) := (blk_cell BK252.out 1).trans rfl; have hcz122_2 : w117.cell? ⟨gb252, 2, none⟩ = some (.slice none 0 0) := (blk_cell BK252.out 2).trans rfl; have hcz122_3 : w117.cell? ⟨gb252, 3, none⟩ = some (.slice none 0 0) := (blk_cell BK252.out 3).trans rfl; have hfz122_0 := blk_frozen BK252.out 0; have hfz122_1 := blk_frozen BK252.out 1; have hfz122_2 := blk_frozen BK252.out 2; have hfz122_3 := blk_frozen BK252.out 3; obtain ⟨Ao123, co123, eo123⟩ := Kd.R_slice HO_258002.out; subst eo123; obtain ⟨Ao124, co124, eo124, _⟩ := Kd.Q_slice HO_258003.out; subst eo124))
          refine bodyPost_ret (results_cell_row rfl _ _ gb252 25 #[.int .i64 x258000_1, .int .i64 x258001_1, .slice Ao123 x258002_1.length co123, .slice Ao124 x258003_1.length co124] (0, 0) _ rfl (by refine kb_ ?_; refine blk_put (cs := #[.int .i64 x258000_1, .int .i64 x258001_1, .slice Ao123 x258002_1.length co123, .slice none 0 0]) ?_ 3 _ rfl; refine kb_ ?_; refine blk_put (cs := #[.int .i64 x258000_1, .int .i64 x258001_1, .slice none 0 0, .slice none 0 0]) ?_ 2 _ rfl; refine kb_ ?_; refine blk_put (cs := #[.int .i64 x258000_1, .int .i64 0, .slice none 0 0, .slice none 0 0]) ?_ 1 _ rfl; refine kb_ ?_; refine blk_put (cs := #[.int .i64 0, .int .i64 0, .slice none 0 0, .slice none 0 0]) ?_ 0 _ rfl; refine kb_ ?_; exact BK252.out) Try.underlying25 rfl (by kernel_rfl)) rfl ?_
          exact ⟨_, _, by first | rfl | (simp [errW_none, errW_some] <;> rfl) | (simp [*, errW_none, errW_some] <;> rfl), by refine kR_ ?_; exact Kd.R_mono (Kd.R_f gb252 3 (.slice Ao124 x258003_1.length co124) (Kd.R_f gb252 2 (.slice Ao123 x258002_1.length co123) (Kd.R_f gb252 1 (.int .i64 x258001_1) (Kd.R_f gb252 0 (.int .i64 x258000_1) (Kd.R_types HO_258002.out BK252.out (by decide)))))) (fun _ hk => trivial), by (with_reducible repeat (first | apply Kd.Q_alloc | apply Kd.Q_drewN | apply Kd.Q_drew)); exact Kd.Q_mono (Kd.Q_far (p := ⟨gb252, 3, none⟩) (Kd.Q_far (p := ⟨gb252, 2, none⟩) (Kd.Q_far (p := ⟨gb252, 1, none⟩) (Kd.Q_far (p := ⟨gb252, 0, none⟩) (Kd.Q_types HO_258003.out BK252.out (by decide)) (fun _ hk => hk.2) (.int .i64 x258000_1)) (fun _ hk => hk.2) (.int .i64 x258001_1)) (fun _ hk => hk.2) (.slice Ao123 x258002_1.length co123)) (fun _ hk => hk.2) (.slice Ao124 x258003_1.length co124)) (fun _ hk => trivial), by repeat (first | (with_reducible first | exact HI0.out | apply IsS94.alloc | apply IsS94.drewN | apply IsS94.drew | apply IsS94.set_1 | refine IsS94.far ?_ NB0_252.out _ | refine IsS94.far ?_ NB0_257.out _) | exact HI0.out), by repeat (first | (with_reducible first | exact HB.out | apply below_alloc | apply pw_below_drewN | apply below_drew1 | refine below_set ?_ (IsS94.ge HI0.out) | refine below_set ?_ GE252.out | refine below_set ?_ GE257.out) | exact HB.out), by repeat (first | (with_reducible first | exact HK.out | apply KeepBut.set_ | apply keep_drewN | apply keep_drew | apply keep_alloc | refine keep_far ?_ GW252.out _ | refine keep_far ?_ GW257.out _) | exact HK.out)⟩

end Go.Proofs.Ytjiodkbbmhhccaa.PFnEarRead
