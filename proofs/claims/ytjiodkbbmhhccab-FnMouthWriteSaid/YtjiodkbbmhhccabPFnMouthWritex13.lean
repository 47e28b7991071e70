/- Printed by wip/xp/xprint.sh out of the translation, for this claim: what each function answers, as a plain function, and that the machine does just that. No condition. -/
import Derived.Test.YtjiodkbbmhhccabPFnMouthWritex0
import Derived.Test.YtjiodkbbmhhccabPFnMouthWritex4
import Derived.Test.YtjiodkbbmhhccabPFnMouthWritex9
import Derived.Test.YtjiodkbbmhhccabPFnMouthWritex10
import Derived.Test.YtjiodkbbmhhccabPFnMouthWritex11
import Derived.Test.YtjiodkbbmhhccabPFnMouthWritex12
namespace Go.Proofs.Ytjiodkbbmhhccab.PFnMouthWrite
open Go.RowKit Go.Proofs.YtjiodkbbmhhccabW.PrintWords Go.Proofs.YtjiodkbbmhhccabW.PrintLast Go.Proofs.YtjiodkbbmhhccabW.PrintMore
attribute [local go_sem] max2_int min2_int max_two min_two max_three min_three max_four min_four   -- for this text's walks alone
set_option linter.unusedVariables false
set_option linter.unusedSimpArgs false

/-! ### laws_FnMouthWrite: function 3 -/
def laws_FnMouthWrite.j0 : Nat → List Int → Int → Bool → Int → List Int → Int → Int → List (S60) → Int → List Int → Int → Int → List (S60) → Option (Bool)
  | 0, _, _, _, _, _, _, _, _, _, _, _, _, _ => none
  | k + 1, x4, x6, x37, x422000, x422001, x422002, x422003, x422004, x433000, x433001, x433002, x433003, x433004 => if x37 = true then (some false) else ((impl_MouthOk.f k x422000 x422001 x422002 x422003 x422004).bind fun t445 => (if t445 = true then ((impl_MouthOk.f k x433000 x433001 x433002 x433003 x433004).bind fun t447 => (if t447 = true then ((some (([] : List Int) : List Int)).bind fun y448 => (if y448.length + x422001.length < 140737488355328 then ((some (y448 ++ x422001 : List Int)).bind fun y451 => (if 0 ≤ x6 then (if x6 ≤ (x4.length : Int) then ((some (x4.take (x6 : Int).toNat : List Int)).bind fun y454 => (if y451.length + y454.length < 140737488355328 then ((laws_sameBytes.f x433001 (y451 ++ y454)).bind fun t461 => (if t461 = true then (if x6 = (x4.length : Int) then (some (x433002 == x422002)) else (if (x433001.length : Int) = 32 then (some (x433002 == x422002)) else (some false))) else (some false))) else (none))) else (none)) else (none))) else (none))) else (some false))) else (if x6 = 0 then ((laws_alive.f k).bind fun t446 => (some t446)) else (some false))))
def laws_FnMouthWrite.f (k : Nat) (l0 : List Int) : Option (Bool) := if (l0.length : Int) > 1048576 then (some true) else ((spec_DrawMouthWrite.f k l0).bind fun bt409 => ((impl_MouthWrite.f k bt409.1 bt409.2.1 bt409.2.2.1 bt409.2.2.2.1 bt409.2.2.2.2.1 bt409.2.2.2.2.2).bind fun bt422 => ((spec_MouthWrite.f k bt409.1 bt409.2.1 bt409.2.2.1 bt409.2.2.2.1 bt409.2.2.2.2.1 bt409.2.2.2.2.2).bind fun bt433 => (if bt422.2.2.2.2.2 = bt433.2.2.2.2.2 then ((laws_sameMouth.f k bt422.1 bt422.2.1 bt422.2.2.1 bt422.2.2.2.1 bt422.2.2.2.2.1 bt433.1 bt433.2.1 bt433.2.2.1 bt433.2.2.2.1 bt433.2.2.2.2.1).bind fun t444 => (laws_FnMouthWrite.j0 k bt409.2.2.2.2.2 bt422.2.2.2.2.2 (!t444) bt409.1 bt409.2.1 bt409.2.2.1 bt409.2.2.2.1 bt409.2.2.2.2.1 bt422.1 bt422.2.1 bt422.2.2.1 bt422.2.2.2.1 bt422.2.2.2.2.1)) else (laws_FnMouthWrite.j0 k bt409.2.2.2.2.2 bt422.2.2.2.2.2 true bt409.1 bt409.2.1 bt409.2.2.1 bt409.2.2.2.1 bt409.2.2.2.2.1 bt422.1 bt422.2.1 bt422.2.2.1 bt422.2.2.2.1 bt422.2.2.2.2.1)))))
theorem laws_FnMouthWrite.mono_l : ∀ k, (∀ y0 y1 y2 y3 y4 y5 y6 y7 y8 y9 y10 y11 y12, LeO (laws_FnMouthWrite.j0 k y0 y1 y2 y3 y4 y5 y6 y7 y8 y9 y10 y11 y12) (laws_FnMouthWrite.j0 (k + 1) y0 y1 y2 y3 y4 y5 y6 y7 y8 y9 y10 y11 y12))
  | 0 => fun _ _ _ _ _ _ _ _ _ _ _ _ _ r h => by simp [laws_FnMouthWrite.j0] at h
  | k + 1 => by
    have ih0 := laws_FnMouthWrite.mono_l k
    · intro y0 y1 y2 y3 y4 y5 y6 y7 y8 y9 y10 y11 y12
      unfold laws_FnMouthWrite.j0
      repeat' first
      | (with_reducible exact ih0 _ _ _ _ _ _ _ _ _ _ _ _ _)
      | (with_reducible exact impl_MouthOk.mono _ _ _ _ _ _)
      | (with_reducible exact impl_MouthWrite.mono _ _ _ _ _ _ _)
      | (with_reducible exact laws_alive.mono _)
      | (with_reducible exact laws_sameMouth.mono _ _ _ _ _ _ _ _ _ _ _)
      | (with_reducible exact spec_DrawMouthWrite.mono _ _)
      | (with_reducible exact spec_MouthWrite.mono _ _ _ _ _ _ _)
      | (with_reducible exact LeO.refl _)
      | (with_reducible exact LeO.none _)
      | (with_reducible refine LeO.ite ?_ ?_)
      | (with_reducible refine LeO.bind ?_ (fun _ => ?_))
      | exact ih0 _ _ _ _ _ _ _ _ _ _ _ _ _
      | exact impl_MouthOk.mono _ _ _ _ _ _
      | exact impl_MouthWrite.mono _ _ _ _ _ _ _
      | exact laws_alive.mono _
      | exact laws_sameMouth.mono _ _ _ _ _ _ _ _ _ _ _
      | exact spec_DrawMouthWrite.mono _ _
      | exact spec_MouthWrite.mono _ _ _ _ _ _ _
      | exact LeO.none _
      | refine LeO.ite ?_ ?_
      | refine LeO.bind ?_ (fun _ => ?_)
theorem laws_FnMouthWrite.mono : ∀ a0 k, LeO (laws_FnMouthWrite.f k a0) (laws_FnMouthWrite.f (k + 1) a0) := by
  intro a0 k
  have ih0 := laws_FnMouthWrite.mono_l k
  unfold laws_FnMouthWrite.f
  repeat' first
      | (with_reducible exact ih0 _ _ _ _ _ _ _ _ _ _ _ _ _)
      | (with_reducible exact impl_MouthOk.mono _ _ _ _ _ _)
      | (with_reducible exact impl_MouthWrite.mono _ _ _ _ _ _ _)
      | (with_reducible exact laws_alive.mono _)
      | (with_reducible exact laws_sameMouth.mono _ _ _ _ _ _ _ _ _ _ _)
      | (with_reducible exact spec_DrawMouthWrite.mono _ _)
      | (with_reducible exact spec_MouthWrite.mono _ _ _ _ _ _ _)
      | (with_reducible exact LeO.refl _)
      | (with_reducible exact LeO.none _)
      | (with_reducible refine LeO.ite ?_ ?_)
      | (with_reducible refine LeO.bind ?_ (fun _ => ?_))
      | exact ih0 _ _ _ _ _ _ _ _ _ _ _ _ _
      | exact impl_MouthOk.mono _ _ _ _ _ _
      | exact impl_MouthWrite.mono _ _ _ _ _ _ _
      | exact laws_alive.mono _
      | exact laws_sameMouth.mono _ _ _ _ _ _ _ _ _ _ _
      | exact spec_DrawMouthWrite.mono _ _
      | exact spec_MouthWrite.mono _ _ _ _ _ _ _
      | exact LeO.none _
      | refine LeO.ite ?_ ?_
      | refine LeO.bind ?_ (fun _ => ?_)
def laws_FnMouthWrite.T10 : Bool × List (List Nat × List Nat) := (true, [([], []), ([0], [0]), ([1, 1], [1]), ([2], [2]), ([3, 2], [2, 3]), ([2], [2]), ([2], [2]), ([6, 2], [2, 6]), ([5, 7, 2, 2], [2, 5, 7]), ([2], [2]), ([2], [2]), ([9, 10, 2], [2, 9, 10]), ([8, 11, 8, 2], [2, 8, 11]), ([4, 12, 12, 2], [2, 4, 12]), ([2, 13], [2, 13]), ([14, 13], [14]), ([15], [15]), ([15], [15]), ([17, 15], [15, 17]), ([16, 18, 15], [15, 16, 18]), ([19, 15, 15], [15, 19]), ([20], [20]), ([21, 20], [20, 21]), ([22, 20], [20, 22]), ([23, 20], [20, 23]), ([20, 24, 15], [15, 20, 24]), ([15, 25], [15, 25]), ([26, 20], [26]), ([27], [27]), ([28, 27], [27, 28]), ([27], [27]), ([30, 27], [27, 30]), ([29, 31, 27], [27, 29, 31]), ([27, 32], [27, 32]), ([33, 27, 0, 1, 2, 3, 4, 5, 6, 7, 8, 9, 10, 11, 12, 13, 14, 15, 16, 17, 18, 19, 20, 21, 22, 23, 24, 25, 26, 27, 28, 29, 30, 31, 32, 33], [33])])
def laws_FnMouthWrite.B10 : List Nat := [0, 1, 3, 7, 15, 7, 7, 71, 231, 7, 7, 1543, 4071, 8191, 16383, 32767, 65535, 65535, 196607, 524287, 1048575, 2097151, 4194303, 8388607, 16777215, 33554431, 67108863, 134217727, 268435455, 536870911, 268435455, 1342177279, 4294967295, 8589934591, 17179869183]
theorem laws_FnMouthWrite.tab10 : rtab .any (opsOf Try.f3 10) = laws_FnMouthWrite.T10 := by kernel_rfl
theorem laws_FnMouthWrite.bits10 : waitsOk laws_FnMouthWrite.T10.2 laws_FnMouthWrite.B10 = true := by kernel_rfl
set_option maxHeartbeats 8000000 in
set_option maxRecDepth 100000 in
theorem laws_FnMouthWrite.calls (k : Nat) (A0 : Option Addr) (c0 : Nat) (l0 : List Int) (r : Bool) (w : World) (hr0 : Kd.C (Kd.int .u8) w A0 l0.length l0) (hc0 : l0.length ≤ c0) (h : laws_FnMouthWrite.f k l0 = some r) (hlw : r = true) :
    Calls Try.prog 3 #[.slice A0 l0.length c0] w fun e w' => e = .returned (.bool r) ∧ Below w.heap.size w w' := by
  have hu25 := Try.underlying25
  have HLW := Aside0.mk hlw
  clear hlw
  have HR0 := Aside0.mk hr0
  have HC0 := Aside0.mk hc0
  clear hr0 hc0
  have HB := Aside0.mk (Below.refl w.heap.size w)
  have H : (if (l0.length : Int) > 1048576 then (some true) else ((spec_DrawMouthWrite.f k l0).bind fun bt409 => ((impl_MouthWrite.f k bt409.1 bt409.2.1 bt409.2.2.1 bt409.2.2.2.1 bt409.2.2.2.2.1 bt409.2.2.2.2.2).bind fun bt422 => ((spec_MouthWrite.f k bt409.1 bt409.2.1 bt409.2.2.1 bt409.2.2.2.1 bt409.2.2.2.2.1 bt409.2.2.2.2.2).bind fun bt433 => (if bt422.2.2.2.2.2 = bt433.2.2.2.2.2 then ((laws_sameMouth.f k bt422.1 bt422.2.1 bt422.2.2.1 bt422.2.2.2.1 bt422.2.2.2.2.1 bt433.1 bt433.2.1 bt433.2.2.1 bt433.2.2.2.1 bt433.2.2.2.2.1).bind fun t444 => (laws_FnMouthWrite.j0 k bt409.2.2.2.2.2 bt422.2.2.2.2.2 (!t444) bt409.1 bt409.2.1 bt409.2.2.1 bt409.2.2.2.1 bt409.2.2.2.2.1 bt422.1 bt422.2.1 bt422.2.2.1 bt422.2.2.2.1 bt422.2.2.2.2.1)) else (laws_FnMouthWrite.j0 k bt409.2.2.2.2.2 bt422.2.2.2.2.2 true bt409.1 bt409.2.1 bt409.2.2.1 bt409.2.2.2.1 bt409.2.2.2.2.1 bt422.1 bt422.2.1 bt422.2.2.1 bt422.2.2.2.1 bt422.2.2.2.2.1)))))) = some r := h
  clear h
  by_cases c2 : (l0.length : Int) > 1048576
  · rw [if_pos c2] at H
    have c2b0 : decide (1048576 < (l0.length : Int)) = true := decide_eq_true c2
    have c2b1 : decide (1048576 < l0.length) = true := decide_eq_true (by omega)
    clear c2
    obtain rfl := Option.some.inj H
    go_enter Try.func3, Try.ntmps3
    go_wp2
    go_ret
    exact ⟨by first | rfl | (simp [errW_none, errW_some] <;> rfl) | (simp [*, errW_none, errW_some] <;> rfl), by repeat (first | (with_reducible first | exact HB.out | apply below_alloc | apply pw_below_drewN | apply below_drew1) | exact HB.out)⟩
  · rw [if_neg c2] at H
    have c2b0 : decide (1048576 < (l0.length : Int)) = false := decide_eq_false c2
    have c2b1 : decide (1048576 < l0.length) = false := decide_eq_false (by omega)
    clear c2
    replace H := Option.bind_eq_some_iff.mp H
    obtain ⟨⟨t409, t410, t413, t414, t415, t418⟩, A30, H⟩ := H
    replace H : ((impl_MouthWrite.f k t409 t410 t413 t414 t415 t418).bind fun bt422 => ((spec_MouthWrite.f k t409 t410 t413 t414 t415 t418).bind fun bt433 => (if bt422.2.2.2.2.2 = bt433.2.2.2.2.2 then ((laws_sameMouth.f k bt422.1 bt422.2.1 bt422.2.2.1 bt422.2.2.2.1 bt422.2.2.2.2.1 bt433.1 bt433.2.1 bt433.2.2.1 bt433.2.2.2.1 bt433.2.2.2.2.1).bind fun t444 => (laws_FnMouthWrite.j0 k t418 bt422.2.2.2.2.2 (!t444) t409 t410 t413 t414 t415 bt422.1 bt422.2.1 bt422.2.2.1 bt422.2.2.2.1 bt422.2.2.2.2.1)) else (laws_FnMouthWrite.j0 k t418 bt422.2.2.2.2.2 true t409 t410 t413 t414 t415 bt422.1 bt422.2.1 bt422.2.2.1 bt422.2.2.2.1 bt422.2.2.2.2.1)))) = some r := H
    have A3 := Aside0.mk A30
    clear A30
    replace H := Option.bind_eq_some_iff.mp H
    obtain ⟨⟨t422, t423, t426, t427, t428, t431⟩, A40, H⟩ := H
    replace H : ((spec_MouthWrite.f k t409 t410 t413 t414 t415 t418).bind fun bt433 => (if t431 = bt433.2.2.2.2.2 then ((laws_sameMouth.f k t422 t423 t426 t427 t428 bt433.1 bt433.2.1 bt433.2.2.1 bt433.2.2.2.1 bt433.2.2.2.2.1).bind fun t444 => (laws_FnMouthWrite.j0 k t418 t431 (!t444) t409 t410 t413 t414 t415 t422 t423 t426 t427 t428)) else (laws_FnMouthWrite.j0 k t418 t431 true t409 t410 t413 t414 t415 t422 t423 t426 t427 t428))) = some r := H
    have A4 := Aside0.mk A40
    clear A40
    replace H := Option.bind_eq_some_iff.mp H
    obtain ⟨⟨t433, t434, t437, t438, t439, t442⟩, A50, H⟩ := H
    replace H : (if t431 = t442 then ((laws_sameMouth.f k t422 t423 t426 t427 t428 t433 t434 t437 t438 t439).bind fun t444 => (laws_FnMouthWrite.j0 k t418 t431 (!t444) t409 t410 t413 t414 t415 t422 t423 t426 t427 t428)) else (laws_FnMouthWrite.j0 k t418 t431 true t409 t410 t413 t414 t415 t422 t423 t426 t427 t428)) = some r := H
    have A5 := Aside0.mk A50
    clear A50
    have HC6 := Aside0.mk H
    clear H
    go_enter Try.func3, Try.ntmps3
    go_upto_region 6 with (first | ((with_reducible refine gate_callee (f := 6) rfl ?_); refine goesL_ (some 14) rfl rfl Try.func6 (by kernel_rfl) rfl #[.slice A0 l0.length c0] rfl ar_ ?_; (with_reducible refine (spec_DrawMouthWrite.calls k _ _ l0 t409 t410 t413 t414 t415 t418 _ ?side1 ?side2 A3.out).mono ?_); (case side1 => exact kC_ HR0.out); (case side2 => exact HC0.out); rintro e w7 ⟨v411, v416, v419, rfl, ho0, ho1, ho2, hb⟩; refine ⟨_, rfl, ?_⟩; have n0_ := Aside0.mk (Kd.R_lower ho0 (below_size (hb0_ HB.out))); have n1_ := Aside0.mk (Kd.R_lower ho1 (below_size (hb0_ HB.out))); have n2_ := Aside0.mk (Kd.R_lower ho2 (below_size (hb0_ HB.out))); have n3_ := Aside0.mk (below_step (hb0_ HB.out) hb); clear HB; have HO412 := n0_; have HO417 := n1_; have HO420 := n2_; have HB := n3_; clear n0_ n1_ n2_ n3_; (try clear hb); (try clear hb2); (try clear hk); (try clear hi); (try clear ho0); (try clear ho1); (try clear ho2)) | ((with_reducible refine gate_dst (N := 3) rfl ?_); (try (refine gate_guard (by rfl) ?_; dsimp only)); refine box_event ?hg (N := 3) ?hd (cs := #[.int .i64 0, .slice none 0 0, .int .i64 0, .int .i64 0, .slice none 0 0]) (t := 25) ?hr ?_; (case hd => rfl); (case hg => rfl); (case hr => first | (go_simp; done) | (go_simp; rfl)); intro gb421 hg w8 hbox hb; have n0_ := Aside0.mk (Kd.R_below (kR_ HO412.out) hb); have n1_ := Aside0.mk (Kd.R_below (kR_ HO417.out) hb); have n2_ := Aside0.mk (Kd.R_below (kR_ HO420.out) hb); have n3_ := Aside0.mk (below_step (hb0_ HB.out) hb); have n4_ := Aside0.mk (hbox); have n5_ := Aside0.mk ((by rw [hg]; exact (below_size (hb0_ HB.out)) : w.heap.size ≤ gb421)); have n6_ := Aside0.mk ((by rw [hg]; exact (below_size (hb0_ HB.out)) : w.heap.size ≤ gb421)); clear HO412; clear HO417; clear HO420; clear HB; have HO412 := n0_; have HO417 := n1_; have HO420 := n2_; have HB := n3_; have BK421 := n4_; have GW421 := n5_; have GE421 := n6_; clear n0_ n1_ n2_ n3_ n4_ n5_ n6_; clear hb hbox hg; have hcz9_0 : w8.cell? ⟨gb421, 0, none⟩ = some (.int .i64 0) := (blk_cell BK421.out 0).trans rfl; have hcz9_1 : w8.cell? ⟨gb421, 1, none⟩ = some (.slice none 0 0) := (blk_cell BK421.out 1).trans rfl; have hcz9_2 : w8.cell? ⟨gb421, 2, none⟩ = some (.int .i64 0) := (blk_cell BK421.out 2).trans rfl; have hcz9_3 : w8.cell? ⟨gb421, 3, none⟩ = some (.int .i64 0) := (blk_cell BK421.out 3).trans rfl; have hcz9_4 : w8.cell? ⟨gb421, 4, none⟩ = some (.slice none 0 0) := (blk_cell BK421.out 4).trans rfl; have hfz9_0 := blk_frozen BK421.out 0; have hfz9_1 := blk_frozen BK421.out 1; have hfz9_2 := blk_frozen BK421.out 2; have hfz9_3 := blk_frozen BK421.out 3; have hfz9_4 := blk_frozen BK421.out 4; obtain ⟨Ao10, co10, eo10⟩ := Kd.R_slice HO412.out; subst eo10; obtain ⟨Ao11, co11, eo11⟩ := Kd.R_slice HO417.out; subst eo11; obtain ⟨Ao12, co12, eo12⟩ := Kd.R_slice HO420.out; subst eo12) | ((with_reducible refine gate_callee (f := 7) rfl ?_); refine goesL_ (some 20) rfl rfl Try.func7 (by kernel_rfl) rfl #[.agg #[.int .i64 t409, .slice Ao10 t410.length co10, .int .i64 t413, .int .i64 t414, .slice Ao11 t415.length co11], .slice Ao12 t418.length co12] rfl ar_ ?_; (with_reducible refine (impl_MouthWrite.calls k t409 _ _ t410 t413 t414 _ _ t415 _ _ t418 t422 t423 t426 t427 t428 t431 _ ?side1 ?side2 ?side3 ?side4 ?side5 ?side6 A4.out).mono ?_); (case side1 => refine (Kd.R_reads' (e := 5) (base := w.heap.size) (ok := fun k_ => some k_ ≠ (.slice Ao12 t418.length co12 : Value).ownBlock) (n := t410.length) (c := co10) ?_).2.2; exact (by refine kR_ ?_; exact (Kd.R_mono (Kd.R_f gb421 4 (.slice Ao11 t415.length co11) (Kd.R_f gb421 3 (.int .i64 t414) (Kd.R_f gb421 2 (.int .i64 t413) (Kd.R_f gb421 1 (.slice Ao10 t410.length co10) (Kd.R_f gb421 0 (.int .i64 t409) (Kd.R_types HO412.out BK421.out (by decide))))))) (fun _ h_ => op1_ h_)))); (case side2 => exact (Kd.R_reads' HO412.out).2.1); (case side3 => refine (Kd.R_reads' (e := 60) (base := w.heap.size) (ok := fun k_ => True) (n := t415.length) (c := co11) ?_).2.2; exact (by refine kR_ ?_; exact (Kd.R_mono (Kd.R_f gb421 4 (.slice Ao11 t415.length co11) (Kd.R_f gb421 3 (.int .i64 t414) (Kd.R_f gb421 2 (.int .i64 t413) (Kd.R_f gb421 1 (.slice Ao10 t410.length co10) (Kd.R_f gb421 0 (.int .i64 t409) (Kd.R_types HO417.out BK421.out (by decide))))))) (fun _ h_ => op1_ h_)))); (case side4 => exact (Kd.R_reads' HO417.out).2.1); (case side5 => refine (Kd.R_reads' (e := 5) (base := w.heap.size) (ok := fun k_ => some k_ ≠ (.slice Ao10 t410.length co10 : Value).ownBlock) (n := t418.length) (c := co12) ?_).2.2; exact (by refine kR_ ?_; exact (Kd.R_mono (Kd.R_f gb421 4 (.slice Ao11 t415.length co11) (Kd.R_f gb421 3 (.int .i64 t414) (Kd.R_f gb421 2 (.int .i64 t413) (Kd.R_f gb421 1 (.slice Ao10 t410.length co10) (Kd.R_f gb421 0 (.int .i64 t409) (Kd.R_types HO420.out BK421.out (by decide))))))) (fun _ h_ => op1_ h_)))); (case side6 => exact (Kd.R_reads' HO420.out).2.1); rintro e w13 ⟨v424, v429, rfl, ho0, ho1, hb⟩; refine ⟨_, rfl, ?_⟩; have n0_ := Aside0.mk (Kd.R_elder' (by refine kR_ ?_; exact (Kd.R_mono (Kd.R_f gb421 4 (.slice Ao11 t415.length co11) (Kd.R_f gb421 3 (.int .i64 t414) (Kd.R_f gb421 2 (.int .i64 t413) (Kd.R_f gb421 1 (.slice Ao10 t410.length co10) (Kd.R_f gb421 0 (.int .i64 t409) (Kd.R_types HO412.out BK421.out (by decide))))))) (fun _ h_ => op1_ h_))) (Kd.R_base ho0) hb); have n1_ := Aside0.mk (Kd.R_elder' (by refine kR_ ?_; exact (Kd.R_mono (Kd.R_f gb421 4 (.slice Ao11 t415.length co11) (Kd.R_f gb421 3 (.int .i64 t414) (Kd.R_f gb421 2 (.int .i64 t413) (Kd.R_f gb421 1 (.slice Ao10 t410.length co10) (Kd.R_f gb421 0 (.int .i64 t409) (Kd.R_types HO417.out BK421.out (by decide))))))) (fun _ h_ => op1_ h_))) (Kd.R_base ho1) hb); have n2_ := Aside0.mk (Kd.R_elder' (by refine kR_ ?_; exact (Kd.R_mono (Kd.R_f gb421 4 (.slice Ao11 t415.length co11) (Kd.R_f gb421 3 (.int .i64 t414) (Kd.R_f gb421 2 (.int .i64 t413) (Kd.R_f gb421 1 (.slice Ao10 t410.length co10) (Kd.R_f gb421 0 (.int .i64 t409) (Kd.R_types HO420.out BK421.out (by decide))))))) (fun _ h_ => op1_ h_))) (Kd.R_base ho0) hb); have n3_ := Aside0.mk (Kd.R_lower (Kd.R_new' (Kd.R_new' ho0 (Kd.R_lt (by refine kR_ ?_; exact (Kd.R_mono (Kd.R_f gb421 4 (.slice Ao11 t415.length co11) (Kd.R_f gb421 3 (.int .i64 t414) (Kd.R_f gb421 2 (.int .i64 t413) (Kd.R_f gb421 1 (.slice Ao10 t410.length co10) (Kd.R_f gb421 0 (.int .i64 t409) (Kd.R_types HO412.out BK421.out (by decide))))))) (fun _ h_ => op1_ h_))))) (Kd.R_lt (by refine kR_ ?_; exact (Kd.R_mono (Kd.R_f gb421 4 (.slice Ao11 t415.length co11) (Kd.R_f gb421 3 (.int .i64 t414) (Kd.R_f gb421 2 (.int .i64 t413) (Kd.R_f gb421 1 (.slice Ao10 t410.length co10) (Kd.R_f gb421 0 (.int .i64 t409) (Kd.R_types HO420.out BK421.out (by decide))))))) (fun _ h_ => op1_ h_))))) (below_size (hb1_ HB.out GE421.out))); have n4_ := Aside0.mk (Kd.R_lower (Kd.R_new' ho1 (Kd.R_lt (by refine kR_ ?_; exact (Kd.R_mono (Kd.R_f gb421 4 (.slice Ao11 t415.length co11) (Kd.R_f gb421 3 (.int .i64 t414) (Kd.R_f gb421 2 (.int .i64 t413) (Kd.R_f gb421 1 (.slice Ao10 t410.length co10) (Kd.R_f gb421 0 (.int .i64 t409) (Kd.R_types HO417.out BK421.out (by decide))))))) (fun _ h_ => op1_ h_))))) (below_size (hb1_ HB.out GE421.out))); have n5_ := Aside0.mk (blk_below (g := gb421) (o := .cells #[.int .i64 t409, .slice Ao10 t410.length co10, .int .i64 t413, .int .i64 t414, .slice Ao11 t415.length co11] 25 (0, 0)) (by refine kb_ ?_; refine blk_put (cs := #[.int .i64 t409, .slice Ao10 t410.length co10, .int .i64 t413, .int .i64 t414, .slice none 0 0]) ?_ 4 _ rfl; refine kb_ ?_; refine blk_put (cs := #[.int .i64 t409, .slice Ao10 t410.length co10, .int .i64 t413, .int .i64 0, .slice none 0 0]) ?_ 3 _ rfl; refine kb_ ?_; refine blk_put (cs := #[.int .i64 t409, .slice Ao10 t410.length co10, .int .i64 0, .int .i64 0, .slice none 0 0]) ?_ 2 _ rfl; refine kb_ ?_; refine blk_put (cs := #[.int .i64 t409, .slice none 0 0, .int .i64 0, .int .i64 0, .slice none 0 0]) ?_ 1 _ rfl; refine kb_ ?_; refine blk_put (cs := #[.int .i64 0, .slice none 0 0, .int .i64 0, .int .i64 0, .slice none 0 0]) ?_ 0 _ rfl; refine kb_ ?_; exact BK421.out) hb); have n6_ := Aside0.mk (below_step (hb1_ HB.out GE421.out) hb); clear HO412; clear HO417; clear HO420; clear BK421; clear HB; have HO412 := n0_; have HO417 := n1_; have HO420 := n2_; have HO425 := n3_; have HO430 := n4_; have BK421 := n5_; have HB := n6_; clear n0_ n1_ n2_ n3_ n4_ n5_ n6_; (try clear hb); (try clear hb2); (try clear hk); (try clear hi); (try clear ho0); (try clear ho1)) | ((with_reducible refine gate_dst (N := 5) rfl ?_); (try (refine gate_guard (by rfl) ?_; dsimp only)); refine box_event ?hg (N := 5) ?hd (cs := #[.int .i64 0, .slice none 0 0, .int .i64 0, .int .i64 0, .slice none 0 0]) (t := 25) ?hr ?_; (case hd => rfl); (case hg => rfl); (case hr => first | (go_simp; done) | (go_simp; rfl)); intro gb432 hg w14 hbox hb; have n0_ := Aside0.mk (Kd.R_below (kR_ HO412.out) hb); have n1_ := Aside0.mk (Kd.R_below (kR_ HO417.out) hb); have n2_ := Aside0.mk (Kd.R_below (kR_ HO420.out) hb); have n3_ := Aside0.mk (Kd.R_below (kR_ HO425.out) hb); have n4_ := Aside0.mk (Kd.R_below (kR_ HO430.out) hb); have n5_ := Aside0.mk (blk_below (g := gb421) (o := .cells #[.int .i64 t409, .slice Ao10 t410.length co10, .int .i64 t413, .int .i64 t414, .slice Ao11 t415.length co11] 25 (0, 0)) (kb_ BK421.out) hb); have n6_ := Aside0.mk (below_step (hb1_ HB.out GE421.out) hb); have n7_ := Aside0.mk (hbox); have n8_ := Aside0.mk ((by rw [hg]; exact (below_size (hb1_ HB.out GE421.out)) : w.heap.size ≤ gb432)); have n9_ := Aside0.mk ((by rw [hg]; exact (below_size (hb1_ HB.out GE421.out)) : w.heap.size ≤ gb432)); have n10_ := Aside0.mk ((by rw [hg]; exact Nat.ne_of_lt (blk_lt (g := gb421) (o := .cells #[.int .i64 t409, .slice Ao10 t410.length co10, .int .i64 t413, .int .i64 t414, .slice Ao11 t415.length co11] 25 (0, 0)) (kb_ BK421.out)) : gb421 ≠ gb432)); have n11_ := Aside0.mk ((by rw [hg]; exact Nat.ne_of_gt (blk_lt (g := gb421) (o := .cells #[.int .i64 t409, .slice Ao10 t410.length co10, .int .i64 t413, .int .i64 t414, .slice Ao11 t415.length co11] 25 (0, 0)) (kb_ BK421.out)) : gb432 ≠ gb421)); clear HO412; clear HO417; clear HO420; clear HO425; clear HO430; clear BK421; clear HB; have HO412 := n0_; have HO417 := n1_; have HO420 := n2_; have HO425 := n3_; have HO430 := n4_; have BK421 := n5_; have HB := n6_; have BK432 := n7_; have GW432 := n8_; have GE432 := n9_; have NB421_432 := n10_; have NB432_421 := n11_; clear n0_ n1_ n2_ n3_ n4_ n5_ n6_ n7_ n8_ n9_ n10_ n11_; clear hb hbox hg; have hnb15 := NB432_421.out; have hnc15 := NB421_432.out; have hcz16_0 : w14.cell? ⟨gb432, 0, none⟩ = some (.int .i64 0) := (blk_cell BK432.out 0).trans rfl; have hcz16_1 : w14.cell? ⟨gb432, 1, none⟩ = some (.slice none 0 0) := (blk_cell BK432.out 1).trans rfl; have hcz16_2 : w14.cell? ⟨gb432, 2, none⟩ = some (.int .i64 0) := (blk_cell BK432.out 2).trans rfl; have hcz16_3 : w14.cell? ⟨gb432, 3, none⟩ = some (.int .i64 0) := (blk_cell BK432.out 3).trans rfl; have hcz16_4 : w14.cell? ⟨gb432, 4, none⟩ = some (.slice none 0 0) := (blk_cell BK432.out 4).trans rfl; have hfz16_0 := blk_frozen BK432.out 0; have hfz16_1 := blk_frozen BK432.out 1; have hfz16_2 := blk_frozen BK432.out 2; have hfz16_3 := blk_frozen BK432.out 3; have hfz16_4 := blk_frozen BK432.out 4; obtain ⟨Ao17, co17, eo17⟩ := Kd.R_slice HO425.out; subst eo17; obtain ⟨Ao18, co18, eo18⟩ := Kd.R_slice HO430.out; subst eo18; have hcz19_0 : w14.cell? ⟨gb421, 0, none⟩ = some (.int .i64 t409) := (blk_cell BK421.out 0).trans rfl; have hcz19_1 : w14.cell? ⟨gb421, 1, none⟩ = some (.slice Ao10 t410.length co10) := (blk_cell BK421.out 1).trans rfl; have hcz19_2 : w14.cell? ⟨gb421, 2, none⟩ = some (.int .i64 t413) := (blk_cell BK421.out 2).trans rfl; have hcz19_3 : w14.cell? ⟨gb421, 3, none⟩ = some (.int .i64 t414) := (blk_cell BK421.out 3).trans rfl; have hcz19_4 : w14.cell? ⟨gb421, 4, none⟩ = some (.slice Ao11 t415.length co11) := (blk_cell BK421.out 4).trans rfl; have hfz19_0 := blk_frozen BK421.out 0; have hfz19_1 := blk_frozen BK421.out 1; have hfz19_2 := blk_frozen BK421.out 2; have hfz19_3 := blk_frozen BK421.out 3; have hfz19_4 := blk_frozen BK421.out 4) | ((with_reducible refine gate_callee (f := 8) rfl ?_); refine goesL_ (some 26) rfl rfl Try.func8 (by kernel_rfl) rfl #[.agg #[.int .i64 t409, .slice Ao10 t410.length co10, .int .i64 t413, .int .i64 t414, .slice Ao11 t415.length co11], .slice Ao12 t418.length co12] rfl ar_ ?_; (with_reducible refine (spec_MouthWrite.calls k t409 _ _ t410 t413 t414 _ _ t415 _ _ t418 t433 t434 t437 t438 t439 t442 _ ?side1 ?side2 ?side3 ?side4 ?side5 ?side6 A5.out).mono ?_); (case side1 => refine (Kd.R_reads' (e := 5) (base := w.heap.size) (ok := fun k_ => (some k_ ≠ (.slice Ao12 t418.length co12 : Value).ownBlock ∧ some k_ ≠ (.slice Ao17 t423.length co17 : Value).ownBlock)) (n := t410.length) (c := co10) ?_).2.2; exact (by refine kR_ ?_; exact (Kd.R_mono (Kd.R_f gb432 4 (.slice Ao18 t428.length co18) (Kd.R_f gb432 3 (.int .i64 t427) (Kd.R_f gb432 2 (.int .i64 t426) (Kd.R_f gb432 1 (.slice Ao17 t423.length co17) (Kd.R_f gb432 0 (.int .i64 t422) (Kd.R_types HO412.out BK432.out (by decide))))))) (fun _ h_ => op1_ h_)))); (case side2 => exact (Kd.R_reads' HO412.out).2.1); (case side3 => refine (Kd.R_reads' (e := 60) (base := w.heap.size) (ok := fun k_ => (True ∧ some k_ ≠ (.slice Ao18 t428.length co18 : Value).ownBlock)) (n := t415.length) (c := co11) ?_).2.2; exact (by refine kR_ ?_; exact (Kd.R_mono (Kd.R_f gb432 4 (.slice Ao18 t428.length co18) (Kd.R_f gb432 3 (.int .i64 t427) (Kd.R_f gb432 2 (.int .i64 t426) (Kd.R_f gb432 1 (.slice Ao17 t423.length co17) (Kd.R_f gb432 0 (.int .i64 t422) (Kd.R_types HO417.out BK432.out (by decide))))))) (fun _ h_ => op1_ h_)))); (case side4 => exact (Kd.R_reads' HO417.out).2.1); (case side5 => refine (Kd.R_reads' (e := 5) (base := w.heap.size) (ok := fun k_ => (some k_ ≠ (.slice Ao10 t410.length co10 : Value).ownBlock ∧ some k_ ≠ (.slice Ao17 t423.length co17 : Value).ownBlock)) (n := t418.length) (c := co12) ?_).2.2; exact (by refine kR_ ?_; exact (Kd.R_mono (Kd.R_f gb432 4 (.slice Ao18 t428.length co18) (Kd.R_f gb432 3 (.int .i64 t427) (Kd.R_f gb432 2 (.int .i64 t426) (Kd.R_f gb432 1 (.slice Ao17 t423.length co17) (Kd.R_f gb432 0 (.int .i64 t422) (Kd.R_types HO420.out BK432.out (by decide))))))) (fun _ h_ => op1_ h_)))); (case side6 => exact (Kd.R_reads' HO420.out).2.1); rintro e w20 ⟨v435, v440, rfl, ho0, ho1, hb⟩; refine ⟨_, rfl, ?_⟩; have n0_ := Aside0.mk (Kd.R_elder' (by refine kR_ ?_; exact (Kd.R_mono (Kd.R_f gb432 4 (.slice Ao18 t428.length co18) (Kd.R_f gb432 3 (.int .i64 t427) (Kd.R_f gb432 2 (.int .i64 t426) (Kd.R_f gb432 1 (.slice Ao17 t423.length co17) (Kd.R_f gb432 0 (.int .i64 t422) (Kd.R_types HO412.out BK432.out (by decide))))))) (fun _ h_ => op1_ h_))) (Kd.R_base ho0) hb); have n1_ := Aside0.mk (Kd.R_elder' (by refine kR_ ?_; exact (Kd.R_mono (Kd.R_f gb432 4 (.slice Ao18 t428.length co18) (Kd.R_f gb432 3 (.int .i64 t427) (Kd.R_f gb432 2 (.int .i64 t426) (Kd.R_f gb432 1 (.slice Ao17 t423.length co17) (Kd.R_f gb432 0 (.int .i64 t422) (Kd.R_types HO417.out BK432.out (by decide))))))) (fun _ h_ => op1_ h_))) (Kd.R_base ho1) hb); have n2_ := Aside0.mk (Kd.R_elder' (by refine kR_ ?_; exact (Kd.R_mono (Kd.R_f gb432 4 (.slice Ao18 t428.length co18) (Kd.R_f gb432 3 (.int .i64 t427) (Kd.R_f gb432 2 (.int .i64 t426) (Kd.R_f gb432 1 (.slice Ao17 t423.length co17) (Kd.R_f gb432 0 (.int .i64 t422) (Kd.R_types HO420.out BK432.out (by decide))))))) (fun _ h_ => op1_ h_))) (Kd.R_base ho0) hb); have n3_ := Aside0.mk (Kd.R_elder' (by refine kR_ ?_; exact (Kd.R_mono (Kd.R_f gb432 4 (.slice Ao18 t428.length co18) (Kd.R_f gb432 3 (.int .i64 t427) (Kd.R_f gb432 2 (.int .i64 t426) (Kd.R_f gb432 1 (.slice Ao17 t423.length co17) (Kd.R_f gb432 0 (.int .i64 t422) (Kd.R_types HO425.out BK432.out (by decide))))))) (fun _ h_ => op1_ h_))) (Kd.R_base ho0) hb); have n4_ := Aside0.mk (Kd.R_elder' (by refine kR_ ?_; exact (Kd.R_mono (Kd.R_f gb432 4 (.slice Ao18 t428.length co18) (Kd.R_f gb432 3 (.int .i64 t427) (Kd.R_f gb432 2 (.int .i64 t426) (Kd.R_f gb432 1 (.slice Ao17 t423.length co17) (Kd.R_f gb432 0 (.int .i64 t422) (Kd.R_types HO430.out BK432.out (by decide))))))) (fun _ h_ => op1_ h_))) (Kd.R_base ho1) hb); have n5_ := Aside0.mk (Kd.R_lower (Kd.R_new' (Kd.R_new' (Kd.R_new' ho0 (Kd.R_lt (by refine kR_ ?_; exact (Kd.R_mono (Kd.R_f gb432 4 (.slice Ao18 t428.length co18) (Kd.R_f gb432 3 (.int .i64 t427) (Kd.R_f gb432 2 (.int .i64 t426) (Kd.R_f gb432 1 (.slice Ao17 t423.length co17) (Kd.R_f gb432 0 (.int .i64 t422) (Kd.R_types HO412.out BK432.out (by decide))))))) (fun _ h_ => op1_ h_))))) (Kd.R_lt (by refine kR_ ?_; exact (Kd.R_mono (Kd.R_f gb432 4 (.slice Ao18 t428.length co18) (Kd.R_f gb432 3 (.int .i64 t427) (Kd.R_f gb432 2 (.int .i64 t426) (Kd.R_f gb432 1 (.slice Ao17 t423.length co17) (Kd.R_f gb432 0 (.int .i64 t422) (Kd.R_types HO420.out BK432.out (by decide))))))) (fun _ h_ => op1_ h_))))) (Kd.R_lt (by refine kR_ ?_; exact (Kd.R_mono (Kd.R_f gb432 4 (.slice Ao18 t428.length co18) (Kd.R_f gb432 3 (.int .i64 t427) (Kd.R_f gb432 2 (.int .i64 t426) (Kd.R_f gb432 1 (.slice Ao17 t423.length co17) (Kd.R_f gb432 0 (.int .i64 t422) (Kd.R_types HO425.out BK432.out (by decide))))))) (fun _ h_ => op1_ h_))))) (below_size (hb2_ HB.out GE421.out GE432.out))); have n6_ := Aside0.mk (Kd.R_lower (Kd.R_new' (Kd.R_new' ho1 (Kd.R_lt (by refine kR_ ?_; exact (Kd.R_mono (Kd.R_f gb432 4 (.slice Ao18 t428.length co18) (Kd.R_f gb432 3 (.int .i64 t427) (Kd.R_f gb432 2 (.int .i64 t426) (Kd.R_f gb432 1 (.slice Ao17 t423.length co17) (Kd.R_f gb432 0 (.int .i64 t422) (Kd.R_types HO417.out BK432.out (by decide))))))) (fun _ h_ => op1_ h_))))) (Kd.R_lt (by refine kR_ ?_; exact (Kd.R_mono (Kd.R_f gb432 4 (.slice Ao18 t428.length co18) (Kd.R_f gb432 3 (.int .i64 t427) (Kd.R_f gb432 2 (.int .i64 t426) (Kd.R_f gb432 1 (.slice Ao17 t423.length co17) (Kd.R_f gb432 0 (.int .i64 t422) (Kd.R_types HO430.out BK432.out (by decide))))))) (fun _ h_ => op1_ h_))))) (below_size (hb2_ HB.out GE421.out GE432.out))); have n7_ := Aside0.mk (blk_below (g := gb421) (o := .cells #[.int .i64 t409, .slice Ao10 t410.length co10, .int .i64 t413, .int .i64 t414, .slice Ao11 t415.length co11] 25 (0, 0)) (by refine kb_ ?_; refine blk_far ?_ NB421_432.out _; refine kb_ ?_; refine blk_far ?_ NB421_432.out _; refine kb_ ?_; refine blk_far ?_ NB421_432.out _; refine kb_ ?_; refine blk_far ?_ NB421_432.out _; refine kb_ ?_; refine blk_far ?_ NB421_432.out _; refine kb_ ?_; exact BK421.out) hb); have n8_ := Aside0.mk (blk_below (g := gb432) (o := .cells #[.int .i64 t422, .slice Ao17 t423.length co17, .int .i64 t426, .int .i64 t427, .slice Ao18 t428.length co18] 25 (0, 0)) (by refine kb_ ?_; refine blk_put (cs := #[.int .i64 t422, .slice Ao17 t423.length co17, .int .i64 t426, .int .i64 t427, .slice none 0 0]) ?_ 4 _ rfl; refine kb_ ?_; refine blk_put (cs := #[.int .i64 t422, .slice Ao17 t423.length co17, .int .i64 t426, .int .i64 0, .slice none 0 0]) ?_ 3 _ rfl; refine kb_ ?_; refine blk_put (cs := #[.int .i64 t422, .slice Ao17 t423.length co17, .int .i64 0, .int .i64 0, .slice none 0 0]) ?_ 2 _ rfl; refine kb_ ?_; refine blk_put (cs := #[.int .i64 t422, .slice none 0 0, .int .i64 0, .int .i64 0, .slice none 0 0]) ?_ 1 _ rfl; refine kb_ ?_; refine blk_put (cs := #[.int .i64 0, .slice none 0 0, .int .i64 0, .int .i64 0, .slice none 0 0]) ?_ 0 _ rfl; refine kb_ ?_; exact BK432.out) hb); have n9_ := Aside0.mk (below_step (hb2_ HB.out GE421.out GE432.out) hb); clear HO412; clear HO417; clear HO420; clear HO425; clear HO430; clear BK421; clear BK432; clear HB; have HO412 := n0_; have HO417 := n1_; have HO420 := n2_; have HO425 := n3_; have HO430 := n4_; have HO436 := n5_; have HO441 := n6_; have BK421 := n7_; have BK432 := n8_; have HB := n9_; clear n0_ n1_ n2_ n3_ n4_ n5_ n6_ n7_ n8_ n9_; (try clear hb); (try clear hb2); (try clear hk); (try clear hi); (try clear ho0); (try clear ho1)) | ((with_reducible refine gate_dst (N := 7) rfl ?_); (try (refine gate_guard (by rfl) ?_; dsimp only)); refine box_event ?hg (N := 7) ?hd (cs := #[.int .i64 0, .slice none 0 0, .int .i64 0, .int .i64 0, .slice none 0 0]) (t := 25) ?hr ?_; (case hd => rfl); (case hg => rfl); (case hr => first | (go_simp; done) | (go_simp; rfl)); intro gb443 hg w21 hbox hb; have n0_ := Aside0.mk (Kd.R_below (kR_ HO412.out) hb); have n1_ := Aside0.mk (Kd.R_below (kR_ HO417.out) hb); have n2_ := Aside0.mk (Kd.R_below (kR_ HO420.out) hb); have n3_ := Aside0.mk (Kd.R_below (kR_ HO425.out) hb); have n4_ := Aside0.mk (Kd.R_below (kR_ HO430.out) hb); have n5_ := Aside0.mk (Kd.R_below (kR_ HO436.out) hb); have n6_ := Aside0.mk (Kd.R_below (kR_ HO441.out) hb); have n7_ := Aside0.mk (blk_below (g := gb421) (o := .cells #[.int .i64 t409, .slice Ao10 t410.length co10, .int .i64 t413, .int .i64 t414, .slice Ao11 t415.length co11] 25 (0, 0)) (kb_ BK421.out) hb); have n8_ := Aside0.mk (blk_below (g := gb432) (o := .cells #[.int .i64 t422, .slice Ao17 t423.length co17, .int .i64 t426, .int .i64 t427, .slice Ao18 t428.length co18] 25 (0, 0)) (kb_ BK432.out) hb); have n9_ := Aside0.mk (below_step (hb2_ HB.out GE421.out GE432.out) hb); have n10_ := Aside0.mk (hbox); have n11_ := Aside0.mk ((by rw [hg]; exact (below_size (hb2_ HB.out GE421.out GE432.out)) : w.heap.size ≤ gb443)); have n12_ := Aside0.mk ((by rw [hg]; exact (below_size (hb2_ HB.out GE421.out GE432.out)) : w.heap.size ≤ gb443)); have n13_ := Aside0.mk ((by rw [hg]; exact Nat.ne_of_lt (blk_lt (g := gb421) (o := .cells #[.int .i64 t409, .slice Ao10 t410.length co10, .int .i64 t413, .int .i64 t414, .slice Ao11 t415.length co11] 25 (0, 0)) (kb_ BK421.out)) : gb421 ≠ gb443)); have n14_ := Aside0.mk ((by rw [hg]; exact Nat.ne_of_gt (blk_lt (g := gb421) (o := .cells #[.int .i64 t409, .slice Ao10 t410.length co10, .int .i64 t413, .int .i64 t414, .slice Ao11 t415.length co11] 25 (0, 0)) (kb_ BK421.out)) : gb443 ≠ gb421)); have n15_ := Aside0.mk ((by rw [hg]; exact Nat.ne_of_lt (blk_lt (g := gb432) (o := .cells #[.int .i64 t422, .slice Ao17 t423.length co17, .int .i64 t426, .int .i64 t427, .slice Ao18 t428.length co18] 25 (0, 0)) (kb_ BK432.out)) : gb432 ≠ gb443)); have n16_ := Aside0.mk ((by rw [hg]; exact Nat.ne_of_gt (blk_lt (g := gb432) (o := .cells #[.int .i64 t422, .slice Ao17 t423.length co17, .int .i64 t426, .int .i64 t427, .slice Ao18 t428.length co18] 25 (0, 0)) (kb_ BK432.out)) : gb443 ≠ gb432)); clear HO412; clear HO417; clear HO420; clear HO425; clear HO430; clear HO436; clear HO441; clear BK421; clear BK432; clear HB; have HO412 := n0_; have HO417 := n1_; have HO420 := n2_; have HO425 := n3_; have HO430 := n4_; have HO436 := n5_; have HO441 := n6_; have BK421 := n7_; have BK432 := n8_; have HB := n9_; have BK443 := n10_; have GW443 := n11_; have GE443 := n12_; have NB421_443 := n13_; have NB443_421 := n14_; have NB432_443 := n15_; have NB443_432 := n16_; clear n0_ n1_ n2_ n3_ n4_ n5_ n6_ n7_ n8_ n9_ n10_ n11_ n12_ n13_ n14_ n15_ n16_; clear hb hbox hg; have hnb22 := NB443_421.out; have hnc22 := NB421_443.out; have hnb23 := NB443_432.out; have hnc23 := NB432_443.out; have hcz24_0 : w21.cell? ⟨gb443, 0, none⟩ = some (.int .i64 0) := (blk_cell BK443.out 0).trans rfl; have hcz24_1 : w21.cell? ⟨gb443, 1, none⟩ = some (.slice none 0 0) := (blk_cell BK443.out 1).trans rfl; have hcz24_2 : w21.cell? ⟨gb443, 2, none⟩ = some (.int .i64 0) := (blk_cell BK443.out 2).trans rfl; have hcz24_3 : w21.cell? ⟨gb443, 3, none⟩ = some (.int .i64 0) := (blk_cell BK443.out 3).trans rfl; have hcz24_4 : w21.cell? ⟨gb443, 4, none⟩ = some (.slice none 0 0) := (blk_cell BK443.out 4).trans rfl; have hfz24_0 := blk_frozen BK443.out 0; have hfz24_1 := blk_frozen BK443.out 1; have hfz24_2 := blk_frozen BK443.out 2; have hfz24_3 := blk_frozen BK443.out 3; have hfz24_4 := blk_frozen BK443.out 4; obtain ⟨Ao25, co25, eo25⟩ := Kd.R_slice HO436.out; subst eo25; obtain ⟨Ao26, co26, eo26⟩ := Kd.R_slice HO441.out; subst eo26))
    (try simp only [Act.put, List.setIfInBounds_toArray, List.set_cons_zero, List.set_cons_succ])
    go_cut [37] (fun v37 wc => ∃ (kq : Nat) (x37_5 : Bool), v37 = .bool x37_5 ∧ Aside0 (laws_FnMouthWrite.j0 kq t418 t431 x37_5 t409 t410 t413 t414 t415 t422 t423 t426 t427 t428 = some r) ∧ Aside0 (kq ≤ k) ∧ Aside0 (Kd.R (Kd.int .u8) 5 wc w.heap.size (fun k_ => some k_ ≠ ((.slice Ao10 t410.length co10) : Value).ownBlock ∧ some k_ ≠ ((.slice Ao17 t423.length co17) : Value).ownBlock ∧ some k_ ≠ ((.slice Ao25 t434.length co25) : Value).ownBlock) (.slice Ao12 t418.length co12) t418) ∧ Aside0 (Kd.R (Kd.int .u8) 5 wc w.heap.size (fun k_ => some k_ ≠ ((.slice Ao12 t418.length co12) : Value).ownBlock ∧ some k_ ≠ ((.slice Ao17 t423.length co17) : Value).ownBlock ∧ some k_ ≠ ((.slice Ao25 t434.length co25) : Value).ownBlock) (.slice Ao10 t410.length co10) t410) ∧ Aside0 (Kd.R k60 60 wc w.heap.size (fun k_ => some k_ ≠ ((.slice Ao18 t428.length co18) : Value).ownBlock ∧ some k_ ≠ ((.slice Ao26 t439.length co26) : Value).ownBlock) (.slice Ao11 t415.length co11) t415) ∧ Aside0 (Kd.R (Kd.int .u8) 5 wc w.heap.size (fun k_ => some k_ ≠ ((.slice Ao12 t418.length co12) : Value).ownBlock ∧ some k_ ≠ ((.slice Ao10 t410.length co10) : Value).ownBlock ∧ some k_ ≠ ((.slice Ao25 t434.length co25) : Value).ownBlock) (.slice Ao17 t423.length co17) t423) ∧ Aside0 (Kd.R k60 60 wc w.heap.size (fun k_ => some k_ ≠ ((.slice Ao11 t415.length co11) : Value).ownBlock ∧ some k_ ≠ ((.slice Ao26 t439.length co26) : Value).ownBlock) (.slice Ao18 t428.length co18) t428) ∧ Aside0 (Kd.R (Kd.int .u8) 5 wc w.heap.size (fun k_ => some k_ ≠ ((.slice Ao12 t418.length co12) : Value).ownBlock ∧ some k_ ≠ ((.slice Ao10 t410.length co10) : Value).ownBlock ∧ some k_ ≠ ((.slice Ao17 t423.length co17) : Value).ownBlock) (.slice Ao25 t434.length co25) t434) ∧ Aside0 (Kd.R k60 60 wc w.heap.size (fun k_ => some k_ ≠ ((.slice Ao11 t415.length co11) : Value).ownBlock ∧ some k_ ≠ ((.slice Ao18 t428.length co18) : Value).ownBlock) (.slice Ao26 t439.length co26) t439) ∧ Aside0 (wc.heap[gb421]? = some (.cells #[.int .i64 t409, (.slice Ao10 t410.length co10), .int .i64 t413, .int .i64 t414, (.slice Ao11 t415.length co11)] 25 (0, 0))) ∧ Aside0 (wc.heap[gb432]? = some (.cells #[.int .i64 t422, (.slice Ao17 t423.length co17), .int .i64 t426, .int .i64 t427, (.slice Ao18 t428.length co18)] 25 (0, 0))) ∧ Aside0 (wc.heap[gb443]? = some (.cells #[.int .i64 t433, (.slice Ao25 t434.length co25), .int .i64 t437, .int .i64 t438, (.slice Ao26 t439.length co26)] 25 (0, 0))) ∧ Aside0 (Below w.heap.size w wc))
    case first =>
      have H := HC6.out
      clear HC6
      by_cases c27 : t431 = t442
      · rw [if_pos c27] at H
        have c27b0 : (t431 == t442) = true := beq_iff_eq.mpr c27
        have c27b1 : (t431 != t442) = false := bne_eq_false_iff_eq.mpr c27
        clear c27
        (first | rw [c27b0] | (simp only [i64_w, i32_w]; rw [c27b0]) | skip)
        replace H := Option.bind_eq_some_iff.mp H
        obtain ⟨t444, A280, H⟩ := H
        replace H : (laws_FnMouthWrite.j0 k t418 t431 (!t444) t409 t410 t413 t414 t415 t422 t423 t426 t427 t428) = some r := H
        have A28 := Aside0.mk A280
        clear A280
        have H' := Aside0.mk H
        clear H
        have hnb29 := NB432_421.out
        have hnc29 := NB421_432.out
        have hnb30 := NB432_443.out
        have hnc30 := NB443_432.out
        have hcz31_0 : w21.cell? ⟨gb432, 0, none⟩ = some (.int .i64 t422) := (blk_cell BK432.out 0).trans rfl
        have hcz31_1 : w21.cell? ⟨gb432, 1, none⟩ = some (.slice Ao17 t423.length co17) := (blk_cell BK432.out 1).trans rfl
        have hcz31_2 : w21.cell? ⟨gb432, 2, none⟩ = some (.int .i64 t426) := (blk_cell BK432.out 2).trans rfl
        have hcz31_3 : w21.cell? ⟨gb432, 3, none⟩ = some (.int .i64 t427) := (blk_cell BK432.out 3).trans rfl
        have hcz31_4 : w21.cell? ⟨gb432, 4, none⟩ = some (.slice Ao18 t428.length co18) := (blk_cell BK432.out 4).trans rfl
        have hfz31_0 := blk_frozen BK432.out 0
        have hfz31_1 := blk_frozen BK432.out 1
        have hfz31_2 := blk_frozen BK432.out 2
        have hfz31_3 := blk_frozen BK432.out 3
        have hfz31_4 := blk_frozen BK432.out 4
        have hnb32 := NB443_421.out
        have hnc32 := NB421_443.out
        have hcz33_0 : w21.cell? ⟨gb443, 0, none⟩ = some (.int .i64 0) := (blk_cell BK443.out 0).trans rfl
        have hcz33_1 : w21.cell? ⟨gb443, 1, none⟩ = some (.slice none 0 0) := (blk_cell BK443.out 1).trans rfl
        have hcz33_2 : w21.cell? ⟨gb443, 2, none⟩ = some (.int .i64 0) := (blk_cell BK443.out 2).trans rfl
        have hcz33_3 : w21.cell? ⟨gb443, 3, none⟩ = some (.int .i64 0) := (blk_cell BK443.out 3).trans rfl
        have hcz33_4 : w21.cell? ⟨gb443, 4, none⟩ = some (.slice none 0 0) := (blk_cell BK443.out 4).trans rfl
        have hfz33_0 := blk_frozen BK443.out 0
        have hfz33_1 := blk_frozen BK443.out 1
        have hfz33_2 := blk_frozen BK443.out 2
        have hfz33_3 := blk_frozen BK443.out 3
        have hfz33_4 := blk_frozen BK443.out 4
        go_wp2_with (first | (go_at_call 9; (with_reducible refine (laws_sameMouth.calls k t422 _ _ t423 t426 t427 _ _ t428 t433 _ _ t434 t437 t438 _ _ t439 t444 _ ?side1 ?side2 ?side3 ?side4 ?side5 ?side6 ?side7 ?side8 A28.out).mono ?_); (case side1 => refine (Kd.R_reads' (e := 5) (base := w.heap.size) (ok := fun k_ => (((True ∧ some k_ ≠ (.slice Ao10 t410.length co10 : Value).ownBlock) ∧ some k_ ≠ (.slice Ao12 t418.length co12 : Value).ownBlock) ∧ some k_ ≠ (.slice Ao25 t434.length co25 : Value).ownBlock)) (n := t423.length) (c := co17) ?_).2.2; exact (by refine kR_ ?_; exact (Kd.R_mono (Kd.R_f gb443 4 (.slice Ao26 t439.length co26) (Kd.R_f gb443 3 (.int .i64 t438) (Kd.R_f gb443 2 (.int .i64 t437) (Kd.R_f gb443 1 (.slice Ao25 t434.length co25) (Kd.R_f gb443 0 (.int .i64 t433) (Kd.R_types HO425.out BK443.out (by decide))))))) (fun _ h_ => op1_ h_)))); (case side2 => exact (Kd.R_reads' HO425.out).2.1); (case side3 => refine (Kd.R_reads' (e := 60) (base := w.heap.size) (ok := fun k_ => ((True ∧ some k_ ≠ (.slice Ao11 t415.length co11 : Value).ownBlock) ∧ some k_ ≠ (.slice Ao26 t439.length co26 : Value).ownBlock)) (n := t428.length) (c := co18) ?_).2.2; exact (by refine kR_ ?_; exact (Kd.R_mono (Kd.R_f gb443 4 (.slice Ao26 t439.length co26) (Kd.R_f gb443 3 (.int .i64 t438) (Kd.R_f gb443 2 (.int .i64 t437) (Kd.R_f gb443 1 (.slice Ao25 t434.length co25) (Kd.R_f gb443 0 (.int .i64 t433) (Kd.R_types HO430.out BK443.out (by decide))))))) (fun _ h_ => op1_ h_)))); (case side4 => exact (Kd.R_reads' HO430.out).2.1); (case side5 => refine (Kd.R_reads' (e := 5) (base := w.heap.size) (ok := fun k_ => (((True ∧ some k_ ≠ (.slice Ao10 t410.length co10 : Value).ownBlock) ∧ some k_ ≠ (.slice Ao12 t418.length co12 : Value).ownBlock) ∧ some k_ ≠ (.slice Ao17 t423.length co17 : Value).ownBlock)) (n := t434.length) (c := co25) ?_).2.2; exact (by refine kR_ ?_; exact (Kd.R_mono (Kd.R_f gb443 4 (.slice Ao26 t439.length co26) (Kd.R_f gb443 3 (.int .i64 t438) (Kd.R_f gb443 2 (.int .i64 t437) (Kd.R_f gb443 1 (.slice Ao25 t434.length co25) (Kd.R_f gb443 0 (.int .i64 t433) (Kd.R_types HO436.out BK443.out (by decide))))))) (fun _ h_ => op1_ h_)))); (case side6 => exact (Kd.R_reads' HO436.out).2.1); (case side7 => refine (Kd.R_reads' (e := 60) (base := w.heap.size) (ok := fun k_ => ((True ∧ some k_ ≠ (.slice Ao11 t415.length co11 : Value).ownBlock) ∧ some k_ ≠ (.slice Ao18 t428.length co18 : Value).ownBlock)) (n := t439.length) (c := co26) ?_).2.2; exact (by refine kR_ ?_; exact (Kd.R_mono (Kd.R_f gb443 4 (.slice Ao26 t439.length co26) (Kd.R_f gb443 3 (.int .i64 t438) (Kd.R_f gb443 2 (.int .i64 t437) (Kd.R_f gb443 1 (.slice Ao25 t434.length co25) (Kd.R_f gb443 0 (.int .i64 t433) (Kd.R_types HO441.out BK443.out (by decide))))))) (fun _ h_ => op1_ h_)))); (case side8 => exact (Kd.R_reads' HO441.out).2.1); rintro e w34 ⟨rfl, hb⟩; have n0_ := Aside0.mk (Kd.R_below (by refine kR_ ?_; exact (Kd.R_mono (Kd.R_f gb443 4 (.slice Ao26 t439.length co26) (Kd.R_f gb443 3 (.int .i64 t438) (Kd.R_f gb443 2 (.int .i64 t437) (Kd.R_f gb443 1 (.slice Ao25 t434.length co25) (Kd.R_f gb443 0 (.int .i64 t433) (Kd.R_types HO412.out BK443.out (by decide))))))) (fun _ h_ => op1_ h_))) hb); have n1_ := Aside0.mk (Kd.R_below (by refine kR_ ?_; exact (Kd.R_mono (Kd.R_f gb443 4 (.slice Ao26 t439.length co26) (Kd.R_f gb443 3 (.int .i64 t438) (Kd.R_f gb443 2 (.int .i64 t437) (Kd.R_f gb443 1 (.slice Ao25 t434.length co25) (Kd.R_f gb443 0 (.int .i64 t433) (Kd.R_types HO417.out BK443.out (by decide))))))) (fun _ h_ => op1_ h_))) hb); have n2_ := Aside0.mk (Kd.R_below (by refine kR_ ?_; exact (Kd.R_mono (Kd.R_f gb443 4 (.slice Ao26 t439.length co26) (Kd.R_f gb443 3 (.int .i64 t438) (Kd.R_f gb443 2 (.int .i64 t437) (Kd.R_f gb443 1 (.slice Ao25 t434.length co25) (Kd.R_f gb443 0 (.int .i64 t433) (Kd.R_types HO420.out BK443.out (by decide))))))) (fun _ h_ => op1_ h_))) hb); have n3_ := Aside0.mk (Kd.R_below (by refine kR_ ?_; exact (Kd.R_mono (Kd.R_f gb443 4 (.slice Ao26 t439.length co26) (Kd.R_f gb443 3 (.int .i64 t438) (Kd.R_f gb443 2 (.int .i64 t437) (Kd.R_f gb443 1 (.slice Ao25 t434.length co25) (Kd.R_f gb443 0 (.int .i64 t433) (Kd.R_types HO425.out BK443.out (by decide))))))) (fun _ h_ => op1_ h_))) hb); have n4_ := Aside0.mk (Kd.R_below (by refine kR_ ?_; exact (Kd.R_mono (Kd.R_f gb443 4 (.slice Ao26 t439.length co26) (Kd.R_f gb443 3 (.int .i64 t438) (Kd.R_f gb443 2 (.int .i64 t437) (Kd.R_f gb443 1 (.slice Ao25 t434.length co25) (Kd.R_f gb443 0 (.int .i64 t433) (Kd.R_types HO430.out BK443.out (by decide))))))) (fun _ h_ => op1_ h_))) hb); have n5_ := Aside0.mk (Kd.R_below (by refine kR_ ?_; exact (Kd.R_mono (Kd.R_f gb443 4 (.slice Ao26 t439.length co26) (Kd.R_f gb443 3 (.int .i64 t438) (Kd.R_f gb443 2 (.int .i64 t437) (Kd.R_f gb443 1 (.slice Ao25 t434.length co25) (Kd.R_f gb443 0 (.int .i64 t433) (Kd.R_types HO436.out BK443.out (by decide))))))) (fun _ h_ => op1_ h_))) hb); have n6_ := Aside0.mk (Kd.R_below (by refine kR_ ?_; exact (Kd.R_mono (Kd.R_f gb443 4 (.slice Ao26 t439.length co26) (Kd.R_f gb443 3 (.int .i64 t438) (Kd.R_f gb443 2 (.int .i64 t437) (Kd.R_f gb443 1 (.slice Ao25 t434.length co25) (Kd.R_f gb443 0 (.int .i64 t433) (Kd.R_types HO441.out BK443.out (by decide))))))) (fun _ h_ => op1_ h_))) hb); have n7_ := Aside0.mk (blk_below (g := gb421) (o := .cells #[.int .i64 t409, .slice Ao10 t410.length co10, .int .i64 t413, .int .i64 t414, .slice Ao11 t415.length co11] 25 (0, 0)) (by refine kb_ ?_; refine blk_far ?_ NB421_443.out _; refine kb_ ?_; refine blk_far ?_ NB421_443.out _; refine kb_ ?_; refine blk_far ?_ NB421_443.out _; refine kb_ ?_; refine blk_far ?_ NB421_443.out _; refine kb_ ?_; refine blk_far ?_ NB421_443.out _; refine kb_ ?_; exact BK421.out) hb); have n8_ := Aside0.mk (blk_below (g := gb432) (o := .cells #[.int .i64 t422, .slice Ao17 t423.length co17, .int .i64 t426, .int .i64 t427, .slice Ao18 t428.length co18] 25 (0, 0)) (by refine kb_ ?_; refine blk_far ?_ NB432_443.out _; refine kb_ ?_; refine blk_far ?_ NB432_443.out _; refine kb_ ?_; refine blk_far ?_ NB432_443.out _; refine kb_ ?_; refine blk_far ?_ NB432_443.out _; refine kb_ ?_; refine blk_far ?_ NB432_443.out _; refine kb_ ?_; exact BK432.out) hb); have n9_ := Aside0.mk (blk_below (g := gb443) (o := .cells #[.int .i64 t433, .slice Ao25 t434.length co25, .int .i64 t437, .int .i64 t438, .slice Ao26 t439.length co26] 25 (0, 0)) (by refine kb_ ?_; refine blk_put (cs := #[.int .i64 t433, .slice Ao25 t434.length co25, .int .i64 t437, .int .i64 t438, .slice none 0 0]) ?_ 4 _ rfl; refine kb_ ?_; refine blk_put (cs := #[.int .i64 t433, .slice Ao25 t434.length co25, .int .i64 t437, .int .i64 0, .slice none 0 0]) ?_ 3 _ rfl; refine kb_ ?_; refine blk_put (cs := #[.int .i64 t433, .slice Ao25 t434.length co25, .int .i64 0, .int .i64 0, .slice none 0 0]) ?_ 2 _ rfl; refine kb_ ?_; refine blk_put (cs := #[.int .i64 t433, .slice none 0 0, .int .i64 0, .int .i64 0, .slice none 0 0]) ?_ 1 _ rfl; refine kb_ ?_; refine blk_put (cs := #[.int .i64 0, .slice none 0 0, .int .i64 0, .int .i64 0, .slice none 0 0]) ?_ 0 _ rfl; refine kb_ ?_; exact BK443.out) hb); have n10_ := Aside0.mk (below_step (hb3_ HB.out GE421.out GE432.out GE443.out) hb); clear HO412; clear HO417; clear HO420; clear HO425; clear HO430; clear HO436; clear HO441; clear BK421; clear BK432; clear BK443; clear HB; have HO412 := n0_; have HO417 := n1_; have HO420 := n2_; have HO425 := n3_; have HO430 := n4_; have HO436 := n5_; have HO441 := n6_; have BK421 := n7_; have BK432 := n8_; have BK443 := n9_; have HB := n10_; clear n0_ n1_ n2_ n3_ n4_ n5_ n6_ n7_ n8_ n9_ n10_; (try clear hb); (try clear hb2); (try clear hk); (try clear hi)))
        go_meet
        case rel => exact ⟨_, (!t444), (by first | rfl | (simp; done) | (simp [*]; done)), H', ⟨by first | omega | exact Nat.le_refl _⟩, ⟨by refine kR_ ?_; exact Kd.R_mono HO420.out (fun _ hk => op2_ hk)⟩, ⟨by refine kR_ ?_; exact Kd.R_mono HO412.out (fun _ hk => op2_ hk)⟩, ⟨by refine kR_ ?_; exact Kd.R_mono HO417.out (fun _ hk => op2_ hk)⟩, ⟨by refine kR_ ?_; exact Kd.R_mono HO425.out (fun _ hk => op2_ hk)⟩, ⟨by refine kR_ ?_; exact Kd.R_mono HO430.out (fun _ hk => op2_ hk)⟩, ⟨by refine kR_ ?_; exact Kd.R_mono HO436.out (fun _ hk => op2_ hk)⟩, ⟨by refine kR_ ?_; exact Kd.R_mono HO441.out (fun _ hk => op2_ hk)⟩, ⟨by refine kb_ ?_; exact BK421.out⟩, ⟨by refine kb_ ?_; exact BK432.out⟩, ⟨by refine kb_ ?_; exact BK443.out⟩, ⟨by repeat (first | (with_reducible first | exact HB.out | apply below_alloc | apply pw_below_drewN | apply below_drew1 | refine below_set ?_ GE421.out | refine below_set ?_ GE432.out | refine below_set ?_ GE443.out) | exact HB.out)⟩⟩
      · rw [if_neg c27] at H
        have c27b0 : (t431 == t442) = false := beq_eq_false_iff_ne.mpr c27
        have c27b1 : (t431 != t442) = true := bne_iff_ne.mpr c27
        (first | rw [c27b0] | (simp only [i64_w, i32_w]; rw [c27b0]) | skip)
        have H' := Aside0.mk H
        clear H
        go_wp2
        go_meet
        case rel => exact ⟨_, (true), (by first | rfl | (simp; done) | (simp [*]; done)), H', ⟨by first | omega | exact Nat.le_refl _⟩, ⟨by refine kR_ ?_; exact Kd.R_mono (Kd.R_f gb443 4 (.slice Ao26 t439.length co26) (Kd.R_f gb443 3 (.int .i64 t438) (Kd.R_f gb443 2 (.int .i64 t437) (Kd.R_f gb443 1 (.slice Ao25 t434.length co25) (Kd.R_f gb443 0 (.int .i64 t433) (Kd.R_types HO420.out BK443.out (by decide))))))) (fun _ hk => ⟨hk.1.1.1, ⟨hk.1.1.2, hk.1.2⟩⟩)⟩, ⟨by refine kR_ ?_; exact Kd.R_mono (Kd.R_f gb443 4 (.slice Ao26 t439.length co26) (Kd.R_f gb443 3 (.int .i64 t438) (Kd.R_f gb443 2 (.int .i64 t437) (Kd.R_f gb443 1 (.slice Ao25 t434.length co25) (Kd.R_f gb443 0 (.int .i64 t433) (Kd.R_types HO412.out BK443.out (by decide))))))) (fun _ hk => ⟨hk.1.1.1, ⟨hk.1.1.2, hk.1.2⟩⟩)⟩, ⟨by refine kR_ ?_; exact Kd.R_mono (Kd.R_f gb443 4 (.slice Ao26 t439.length co26) (Kd.R_f gb443 3 (.int .i64 t438) (Kd.R_f gb443 2 (.int .i64 t437) (Kd.R_f gb443 1 (.slice Ao25 t434.length co25) (Kd.R_f gb443 0 (.int .i64 t433) (Kd.R_types HO417.out BK443.out (by decide))))))) (fun _ hk => ⟨hk.1.1.2, hk.1.2⟩)⟩, ⟨by refine kR_ ?_; exact Kd.R_mono (Kd.R_f gb443 4 (.slice Ao26 t439.length co26) (Kd.R_f gb443 3 (.int .i64 t438) (Kd.R_f gb443 2 (.int .i64 t437) (Kd.R_f gb443 1 (.slice Ao25 t434.length co25) (Kd.R_f gb443 0 (.int .i64 t433) (Kd.R_types HO425.out BK443.out (by decide))))))) (fun _ hk => ⟨hk.1.1.2, ⟨hk.1.1.1.2, hk.1.2⟩⟩)⟩, ⟨by refine kR_ ?_; exact Kd.R_mono (Kd.R_f gb443 4 (.slice Ao26 t439.length co26) (Kd.R_f gb443 3 (.int .i64 t438) (Kd.R_f gb443 2 (.int .i64 t437) (Kd.R_f gb443 1 (.slice Ao25 t434.length co25) (Kd.R_f gb443 0 (.int .i64 t433) (Kd.R_types HO430.out BK443.out (by decide))))))) (fun _ hk => ⟨hk.1.1.2, hk.1.2⟩)⟩, ⟨by refine kR_ ?_; exact Kd.R_mono (Kd.R_f gb443 4 (.slice Ao26 t439.length co26) (Kd.R_f gb443 3 (.int .i64 t438) (Kd.R_f gb443 2 (.int .i64 t437) (Kd.R_f gb443 1 (.slice Ao25 t434.length co25) (Kd.R_f gb443 0 (.int .i64 t433) (Kd.R_types HO436.out BK443.out (by decide))))))) (fun _ hk => ⟨hk.1.1.2, ⟨hk.1.1.1.2, hk.1.2⟩⟩)⟩, ⟨by refine kR_ ?_; exact Kd.R_mono (Kd.R_f gb443 4 (.slice Ao26 t439.length co26) (Kd.R_f gb443 3 (.int .i64 t438) (Kd.R_f gb443 2 (.int .i64 t437) (Kd.R_f gb443 1 (.slice Ao25 t434.length co25) (Kd.R_f gb443 0 (.int .i64 t433) (Kd.R_types HO441.out BK443.out (by decide))))))) (fun _ hk => ⟨hk.1.1.2, hk.1.2⟩)⟩, ⟨by refine kb_ ?_; refine blk_far ?_ NB421_443.out _; refine kb_ ?_; refine blk_far ?_ NB421_443.out _; refine kb_ ?_; refine blk_far ?_ NB421_443.out _; refine kb_ ?_; refine blk_far ?_ NB421_443.out _; refine kb_ ?_; refine blk_far ?_ NB421_443.out _; refine kb_ ?_; exact BK421.out⟩, ⟨by refine kb_ ?_; refine blk_far ?_ NB432_443.out _; refine kb_ ?_; refine blk_far ?_ NB432_443.out _; refine kb_ ?_; refine blk_far ?_ NB432_443.out _; refine kb_ ?_; refine blk_far ?_ NB432_443.out _; refine kb_ ?_; refine blk_far ?_ NB432_443.out _; refine kb_ ?_; exact BK432.out⟩, ⟨by refine kb_ ?_; refine blk_put (cs := #[.int .i64 t433, .slice Ao25 t434.length co25, .int .i64 t437, .int .i64 t438, .slice none 0 0]) ?_ 4 _ rfl; refine kb_ ?_; refine blk_put (cs := #[.int .i64 t433, .slice Ao25 t434.length co25, .int .i64 t437, .int .i64 0, .slice none 0 0]) ?_ 3 _ rfl; refine kb_ ?_; refine blk_put (cs := #[.int .i64 t433, .slice Ao25 t434.length co25, .int .i64 0, .int .i64 0, .slice none 0 0]) ?_ 2 _ rfl; refine kb_ ?_; refine blk_put (cs := #[.int .i64 t433, .slice none 0 0, .int .i64 0, .int .i64 0, .slice none 0 0]) ?_ 1 _ rfl; refine kb_ ?_; refine blk_put (cs := #[.int .i64 0, .slice none 0 0, .int .i64 0, .int .i64 0, .slice none 0 0]) ?_ 0 _ rfl; refine kb_ ?_; exact BK443.out⟩, ⟨by repeat (first | (with_reducible first | exact HB.out | apply below_alloc | apply pw_below_drewN | apply below_drew1 | refine below_set ?_ GE421.out | refine below_set ?_ GE432.out | refine below_set ?_ GE443.out) | exact HB.out)⟩⟩
    case rest =>
      clear HC6
      try clear c1
      try clear c2
      try clear c2b0
      try clear c2b1
      try clear p2
      try clear c3
      try clear c6
      try clear c7
      try clear c8
      try clear c15
      try clear c22
      try clear c23
      try clear c27
      try clear c27b0
      try clear c27b1
      try clear c29
      try clear c30
      try clear c32
      try clear hcz16_0
      try clear hcz16_1
      try clear hcz16_2
      try clear hcz16_3
      try clear hcz16_4
      try clear hcz19_0
      try clear hcz19_1
      try clear hcz19_2
      try clear hcz19_3
      try clear hcz19_4
      try clear hcz24_0
      try clear hcz24_1
      try clear hcz24_2
      try clear hcz24_3
      try clear hcz24_4
      try clear hcz31_0
      try clear hcz31_1
      try clear hcz31_2
      try clear hcz31_3
      try clear hcz31_4
      try clear hcz33_0
      try clear hcz33_1
      try clear hcz33_2
      try clear hcz33_3
      try clear hcz33_4
      try clear hcz9_0
      try clear hcz9_1
      try clear hcz9_2
      try clear hcz9_3
      try clear hcz9_4
      try clear hfz16_0
      try clear hfz16_1
      try clear hfz16_2
      try clear hfz16_3
      try clear hfz16_4
      try clear hfz19_0
      try clear hfz19_1
      try clear hfz19_2
      try clear hfz19_3
      try clear hfz19_4
      try clear hfz24_0
      try clear hfz24_1
      try clear hfz24_2
      try clear hfz24_3
      try clear hfz24_4
      try clear hfz31_0
      try clear hfz31_1
      try clear hfz31_2
      try clear hfz31_3
      try clear hfz31_4
      try clear hfz33_0
      try clear hfz33_1
      try clear hfz33_2
      try clear hfz33_3
      try clear hfz33_4
      try clear hfz9_0
      try clear hfz9_1
      try clear hfz9_2
      try clear hfz9_3
      try clear hfz9_4
      obtain ⟨kq, x37_5, rfl, HA, HJ5, HO_4, HO_422001, HO_422004, HO_433001, HO_433004, HO_444001, HO_444004, BK421, BK432, BK443, HB⟩ := hcut
      cases kq with
      | zero => exact absurd HA.out (by simp [laws_FnMouthWrite.j0])
      | succ kj5 =>
        have H := HA.out
        clear HA
        simp only [laws_FnMouthWrite.j0] at H
        by_cases c35 : x37_5 = true
        · subst c35
          have H1 : (some false) = some r := by rw [if_pos rfl] at H; exact H
          clear H
          have H := H1
          clear H1
          exact absurd (Option.some.inj H) (by rw [HLW.out]; exact Bool.false_ne_true)
        · replace c35 := Bool.eq_false_iff.mpr c35
          subst c35
          have H1 : ((impl_MouthOk.f kj5 t409 t410 t413 t414 t415).bind fun t445 => (if t445 = true then ((impl_MouthOk.f kj5 t422 t423 t426 t427 t428).bind fun t447 => (if t447 = true then ((some (([] : List Int) : List Int)).bind fun y448 => (if y448.length + t410.length < 140737488355328 then ((some (y448 ++ t410 : List Int)).bind fun y451 => (if 0 ≤ t431 then (if t431 ≤ (t418.length : Int) then ((some (t418.take (t431 : Int).toNat : List Int)).bind fun y454 => (if y451.length + y454.length < 140737488355328 then ((laws_sameBytes.f t423 (y451 ++ y454)).bind fun t461 => (if t461 = true then (if t431 = (t418.length : Int) then (some (t426 == t413)) else (if (t423.length : Int) = 32 then (some (t426 == t413)) else (some false))) else (some false))) else (none))) else (none)) else (none))) else (none))) else (some false))) else (if t431 = 0 then ((laws_alive.f kj5).bind fun t446 => (some t446)) else (some false)))) = some r := by rw [if_neg (show ¬ (false = true) by decide)] at H; exact H
          clear H
          have H := H1
          clear H1
          replace H := Option.bind_eq_some_iff.mp H
          obtain ⟨t445, A360, H⟩ := H
          replace H : (if t445 = true then ((impl_MouthOk.f kj5 t422 t423 t426 t427 t428).bind fun t447 => (if t447 = true then ((some (([] : List Int) : List Int)).bind fun y448 => (if y448.length + t410.length < 140737488355328 then ((some (y448 ++ t410 : List Int)).bind fun y451 => (if 0 ≤ t431 then (if t431 ≤ (t418.length : Int) then ((some (t418.take (t431 : Int).toNat : List Int)).bind fun y454 => (if y451.length + y454.length < 140737488355328 then ((laws_sameBytes.f t423 (y451 ++ y454)).bind fun t461 => (if t461 = true then (if t431 = (t418.length : Int) then (some (t426 == t413)) else (if (t423.length : Int) = 32 then (some (t426 == t413)) else (some false))) else (some false))) else (none))) else (none)) else (none))) else (none))) else (some false))) else (if t431 = 0 then ((laws_alive.f kj5).bind fun t446 => (some t446)) else (some false))) = some r := H
          have A36 := Aside0.mk A360
          clear A360
          by_cases c37 : t445 = true
          · subst c37
            have H1 : ((impl_MouthOk.f kj5 t422 t423 t426 t427 t428).bind fun t447 => (if t447 = true then ((some (([] : List Int) : List Int)).bind fun y448 => (if y448.length + t410.length < 140737488355328 then ((some (y448 ++ t410 : List Int)).bind fun y451 => (if 0 ≤ t431 then (if t431 ≤ (t418.length : Int) then ((some (t418.take (t431 : Int).toNat : List Int)).bind fun y454 => (if y451.length + y454.length < 140737488355328 then ((laws_sameBytes.f t423 (y451 ++ y454)).bind fun t461 => (if t461 = true then (if t431 = (t418.length : Int) then (some (t426 == t413)) else (if (t423.length : Int) = 32 then (some (t426 == t413)) else (some false))) else (some false))) else (none))) else (none)) else (none))) else (none))) else (some false))) = some r := by rw [if_pos rfl] at H; exact H
            clear H
            have H := H1
            clear H1
            replace H := Option.bind_eq_some_iff.mp H
            obtain ⟨t447, A380, H⟩ := H
            replace H : (if t447 = true then ((some (([] : List Int) : List Int)).bind fun y448 => (if y448.length + t410.length < 140737488355328 then ((some (y448 ++ t410 : List Int)).bind fun y451 => (if 0 ≤ t431 then (if t431 ≤ (t418.length : Int) then ((some (t418.take (t431 : Int).toNat : List Int)).bind fun y454 => (if y451.length + y454.length < 140737488355328 then ((laws_sameBytes.f t423 (y451 ++ y454)).bind fun t461 => (if t461 = true then (if t431 = (t418.length : Int) then (some (t426 == t413)) else (if (t423.length : Int) = 32 then (some (t426 == t413)) else (some false))) else (some false))) else (none))) else (none)) else (none))) else (none))) else (some false)) = some r := H
            have A38 := Aside0.mk A380
            clear A380
            by_cases c39 : t447 = true
            · subst c39
              have H1 : ((some (([] : List Int) : List Int)).bind fun y448 => (if y448.length + t410.length < 140737488355328 then ((some (y448 ++ t410 : List Int)).bind fun y451 => (if 0 ≤ t431 then (if t431 ≤ (t418.length : Int) then ((some (t418.take (t431 : Int).toNat : List Int)).bind fun y454 => (if y451.length + y454.length < 140737488355328 then ((laws_sameBytes.f t423 (y451 ++ y454)).bind fun t461 => (if t461 = true then (if t431 = (t418.length : Int) then (some (t426 == t413)) else (if (t423.length : Int) = 32 then (some (t426 == t413)) else (some false))) else (some false))) else (none))) else (none)) else (none))) else (none))) = some r := by rw [if_pos rfl] at H; exact H
              clear H
              have H := H1
              clear H1
              obtain ⟨y448, hy448⟩ : ∃ y_ : List Int, y_ = (([] : List Int)) := ⟨_, rfl⟩
              replace H : (if y448.length + t410.length < 140737488355328 then ((some (y448 ++ t410 : List Int)).bind fun y451 => (if 0 ≤ t431 then (if t431 ≤ (t418.length : Int) then ((some (t418.take (t431 : Int).toNat : List Int)).bind fun y454 => (if y451.length + y454.length < 140737488355328 then ((laws_sameBytes.f t423 (y451 ++ y454)).bind fun t461 => (if t461 = true then (if t431 = (t418.length : Int) then (some (t426 == t413)) else (if (t423.length : Int) = 32 then (some (t426 == t413)) else (some false))) else (some false))) else (none))) else (none)) else (none))) else (none)) = some r := by first | (rw [hy448]; with_reducible exact H) | (have H2_ := (Option.bind_some _ _).symm.trans H; rw [hy448]; with_reducible exact H2_) | (have H2_ := (Option.bind_some _ _).symm.trans H; with_reducible exact H2_) | with_reducible exact H | (rw [hy448]; exact H) | exact H
              have Ny448 := Aside0.mk hy448
              clear hy448
              by_cases c40 : y448.length + t410.length < 140737488355328
              · rw [if_pos c40] at H
                have LMc40 := Aside0.mk c40
                clear c40
                obtain ⟨y451, hy451⟩ : ∃ y_ : List Int, y_ = (y448 ++ t410) := ⟨_, rfl⟩
                replace H : (if 0 ≤ t431 then (if t431 ≤ (t418.length : Int) then ((some (t418.take (t431 : Int).toNat : List Int)).bind fun y454 => (if y451.length + y454.length < 140737488355328 then ((laws_sameBytes.f t423 (y451 ++ y454)).bind fun t461 => (if t461 = true then (if t431 = (t418.length : Int) then (some (t426 == t413)) else (if (t423.length : Int) = 32 then (some (t426 == t413)) else (some false))) else (some false))) else (none))) else (none)) else (none)) = some r := by first | (rw [hy451]; with_reducible exact H) | (have H2_ := (Option.bind_some _ _).symm.trans H; rw [hy451]; with_reducible exact H2_) | (have H2_ := (Option.bind_some _ _).symm.trans H; with_reducible exact H2_) | with_reducible exact H | (rw [hy451]; exact H) | exact H
                have Ny451 := Aside0.mk hy451
                clear hy451
                by_cases c41 : 0 ≤ t431
                · rw [if_pos c41] at H
                  have c41b0 := eq_true c41
                  have c41b1 : decide (0 ≤ t431) = true := decide_eq_true c41
                  clear c41
                  by_cases c42 : t431 ≤ (t418.length : Int)
                  · rw [if_pos c42] at H
                    have c42b0 := eq_true c42
                    have c42b1 : decide (t431 ≤ (t418.length : Int)) = true := decide_eq_true c42
                    clear c42
                    obtain ⟨y454, hy454⟩ : ∃ y_ : List Int, y_ = (t418.take (t431 : Int).toNat) := ⟨_, rfl⟩
                    replace H : (if y451.length + y454.length < 140737488355328 then ((laws_sameBytes.f t423 (y451 ++ y454)).bind fun t461 => (if t461 = true then (if t431 = (t418.length : Int) then (some (t426 == t413)) else (if (t423.length : Int) = 32 then (some (t426 == t413)) else (some false))) else (some false))) else (none)) = some r := by first | (rw [hy454]; with_reducible exact H) | (have H2_ := (Option.bind_some _ _).symm.trans H; rw [hy454]; with_reducible exact H2_) | (have H2_ := (Option.bind_some _ _).symm.trans H; with_reducible exact H2_) | with_reducible exact H | (rw [hy454]; exact H) | exact H
                    have Ny454 := Aside0.mk hy454
                    clear hy454
                    by_cases c43 : y451.length + y454.length < 140737488355328
                    · rw [if_pos c43] at H
                      have LMc43 := Aside0.mk c43
                      clear c43
                      obtain ⟨y458, hy458⟩ : ∃ y_ : List Int, y_ = (y451 ++ y454) := ⟨_, rfl⟩
                      replace H : ((laws_sameBytes.f t423 y458).bind fun t461 => (if t461 = true then (if t431 = (t418.length : Int) then (some (t426 == t413)) else (if (t423.length : Int) = 32 then (some (t426 == t413)) else (some false))) else (some false))) = some r := by first | (rw [hy458]; with_reducible exact H) | (have H2_ := (Option.bind_some _ _).symm.trans H; rw [hy458]; with_reducible exact H2_) | (have H2_ := (Option.bind_some _ _).symm.trans H; with_reducible exact H2_) | with_reducible exact H | (rw [hy458]; exact H) | exact H
                      have Ny458 := Aside0.mk hy458
                      clear hy458
                      replace H := Option.bind_eq_some_iff.mp H
                      obtain ⟨t461, A440, H⟩ := H
                      replace H : (if t461 = true then (if t431 = (t418.length : Int) then (some (t426 == t413)) else (if (t423.length : Int) = 32 then (some (t426 == t413)) else (some false))) else (some false)) = some r := H
                      have A44 := Aside0.mk A440
                      clear A440
                      by_cases c45 : t461 = true
                      · subst c45
                        have H1 : (if t431 = (t418.length : Int) then (some (t426 == t413)) else (if (t423.length : Int) = 32 then (some (t426 == t413)) else (some false))) = some r := by rw [if_pos rfl] at H; exact H
                        clear H
                        have H := H1
                        clear H1
                        by_cases c46 : t431 = (t418.length : Int)
                        · rw [if_pos c46] at H
                          have c46b0 : (t431 == (t418.length : Int)) = true := beq_iff_eq.mpr c46
                          have c46b1 : (t431 != (t418.length : Int)) = false := bne_eq_false_iff_eq.mpr c46
                          clear c46
                          obtain rfl := Option.some.inj H
                          have hnb47 := NB421_432.out
                          have hnc47 := NB432_421.out
                          have hnb48 := NB421_443.out
                          have hnc48 := NB443_421.out
                          have hcz49_0 : wc.cell? ⟨gb421, 0, none⟩ = some (.int .i64 t409) := (blk_cell BK421.out 0).trans rfl
                          have hcz49_1 : wc.cell? ⟨gb421, 1, none⟩ = some (.slice Ao10 t410.length co10) := (blk_cell BK421.out 1).trans rfl
                          have hcz49_2 : wc.cell? ⟨gb421, 2, none⟩ = some (.int .i64 t413) := (blk_cell BK421.out 2).trans rfl
                          have hcz49_3 : wc.cell? ⟨gb421, 3, none⟩ = some (.int .i64 t414) := (blk_cell BK421.out 3).trans rfl
                          have hcz49_4 : wc.cell? ⟨gb421, 4, none⟩ = some (.slice Ao11 t415.length co11) := (blk_cell BK421.out 4).trans rfl
                          have hfz49_0 := blk_frozen BK421.out 0
                          have hfz49_1 := blk_frozen BK421.out 1
                          have hfz49_2 := blk_frozen BK421.out 2
                          have hfz49_3 := blk_frozen BK421.out 3
                          have hfz49_4 := blk_frozen BK421.out 4
                          try go_wp2_with (first | ((with_reducible refine gate_callee (f := 10) rfl ?_); refine goesL_ (some 39) rfl rfl Try.func10 (by kernel_rfl) rfl #[.agg #[.int .i64 t409, .slice Ao10 t410.length co10, .int .i64 t413, .int .i64 t414, .slice Ao11 t415.length co11]] rfl ar_ ?_; (with_reducible refine (impl_MouthOk.calls kj5 t409 _ _ t410 t413 t414 _ _ t415 true _ ?side1 ?side2 ?side3 ?side4 A36.out).mono ?_); (case side1 => exact kC_ (Kd.R_reads' HO_422001.out).2.2); (case side2 => exact (Kd.R_reads' HO_422001.out).2.1); (case side3 => exact kC_ (Kd.R_reads' HO_422004.out).2.2); (case side4 => exact (Kd.R_reads' HO_422004.out).2.1); rintro e w50 ⟨rfl, hb⟩; refine ⟨_, rfl, ?_⟩; have n0_ := Aside0.mk (Kd.R_below (kR_ HO_4.out) hb); have n1_ := Aside0.mk (Kd.R_below (kR_ HO_422001.out) hb); have n2_ := Aside0.mk (Kd.R_below (kR_ HO_422004.out) hb); have n3_ := Aside0.mk (Kd.R_below (kR_ HO_433001.out) hb); have n4_ := Aside0.mk (Kd.R_below (kR_ HO_433004.out) hb); have n5_ := Aside0.mk (Kd.R_below (kR_ HO_444001.out) hb); have n6_ := Aside0.mk (Kd.R_below (kR_ HO_444004.out) hb); have n7_ := Aside0.mk (blk_below (g := gb421) (o := .cells #[.int .i64 t409, .slice Ao10 t410.length co10, .int .i64 t413, .int .i64 t414, .slice Ao11 t415.length co11] 25 (0, 0)) (kb_ BK421.out) hb); have n8_ := Aside0.mk (blk_below (g := gb432) (o := .cells #[.int .i64 t422, .slice Ao17 t423.length co17, .int .i64 t426, .int .i64 t427, .slice Ao18 t428.length co18] 25 (0, 0)) (kb_ BK432.out) hb); have n9_ := Aside0.mk (blk_below (g := gb443) (o := .cells #[.int .i64 t433, .slice Ao25 t434.length co25, .int .i64 t437, .int .i64 t438, .slice Ao26 t439.length co26] 25 (0, 0)) (kb_ BK443.out) hb); have n10_ := Aside0.mk (below_step (hb3_ HB.out GE421.out GE432.out GE443.out) hb); clear HO_4; clear HO_422001; clear HO_422004; clear HO_433001; clear HO_433004; clear HO_444001; clear HO_444004; clear BK421; clear BK432; clear BK443; clear HB; have HO_4 := n0_; have HO_422001 := n1_; have HO_422004 := n2_; have HO_433001 := n3_; have HO_433004 := n4_; have HO_444001 := n5_; have HO_444004 := n6_; have BK421 := n7_; have BK432 := n8_; have BK443 := n9_; have HB := n10_; clear n0_ n1_ n2_ n3_ n4_ n5_ n6_ n7_ n8_ n9_ n10_; (try clear hb); (try clear hb2); (try clear hk); (try clear hi)))
                          have n0_ := Aside0.mk (Kd.R_drew HO_4.out)
                          have n1_ := Aside0.mk (Kd.R_drew HO_422001.out)
                          have n2_ := Aside0.mk (Kd.R_drew HO_422004.out)
                          have n3_ := Aside0.mk (Kd.R_drew HO_433001.out)
                          have n4_ := Aside0.mk (Kd.R_drew HO_433004.out)
                          have n5_ := Aside0.mk (Kd.R_drew HO_444001.out)
                          have n6_ := Aside0.mk (Kd.R_drew HO_444004.out)
                          have n7_ := Aside0.mk (blk_drew BK421.out)
                          have n8_ := Aside0.mk (blk_drew BK432.out)
                          have n9_ := Aside0.mk (blk_drew BK443.out)
                          have n10_ := Aside0.mk (below_drew1 HB.out)
                          clear HO_4
                          clear HO_422001
                          clear HO_422004
                          clear HO_433001
                          clear HO_433004
                          clear HO_444001
                          clear HO_444004
                          clear BK421
                          clear BK432
                          clear BK443
                          clear HB
                          have HO_4 := n0_
                          have HO_422001 := n1_
                          have HO_422004 := n2_
                          have HO_433001 := n3_
                          have HO_433004 := n4_
                          have HO_444001 := n5_
                          have HO_444004 := n6_
                          have BK421 := n7_
                          have BK432 := n8_
                          have BK443 := n9_
                          have HB := n10_
                          clear n0_ n1_ n2_ n3_ n4_ n5_ n6_ n7_ n8_ n9_ n10_
                          refine start_ (n := 35) (S := fun w' => w'.cell? ⟨gb432, 0, none⟩ = some (.int .i64 t422) ∧ w'.cell? ⟨gb432, 1, none⟩ = some (.slice Ao17 t423.length co17) ∧ w'.cell? ⟨gb432, 2, none⟩ = some (.int .i64 t426) ∧ w'.cell? ⟨gb432, 3, none⟩ = some (.int .i64 t427) ∧ w'.cell? ⟨gb432, 4, none⟩ = some (.slice Ao18 t428.length co18) ∧ w'.cell? ⟨gb421, 0, none⟩ = some (.int .i64 t409) ∧ w'.cell? ⟨gb421, 1, none⟩ = some (.slice Ao10 t410.length co10) ∧ w'.cell? ⟨gb421, 2, none⟩ = some (.int .i64 t413) ∧ w'.cell? ⟨gb421, 3, none⟩ = some (.int .i64 t414) ∧ w'.cell? ⟨gb421, 4, none⟩ = some (.slice Ao11 t415.length co11)) (ds := []) #[false, false, false, false, false, false, false, false, false, false, false, false, false, false, false, false, false, false, false, false, false, false, false, false, false, false, false, false, false, false, false, false, false, false, false] (by kernel_rfl) rfl rfl ⟨(blk_cell BK432.out 0).trans rfl, (blk_cell BK432.out 1).trans rfl, (blk_cell BK432.out 2).trans rfl, (blk_cell BK432.out 3).trans rfl, (blk_cell BK432.out 4).trans rfl, (blk_cell BK421.out 0).trans rfl, (blk_cell BK421.out 1).trans rfl, (blk_cell BK421.out 2).trans rfl, (blk_cell BK421.out 3).trans rfl, (blk_cell BK421.out 4).trans rfl⟩ (fun hHeld => ?_); refine with_tabW laws_FnMouthWrite.tab10 laws_FnMouthWrite.bits10 (fun HT_ HW_ => ?_)
                          generalize w50.drew = w51 at HO_4 HO_422001 HO_422004 HO_433001 HO_433004 HO_444001 HO_444004 BK421 BK432 BK443 HB hHeld ⊢
                          refine tk_ (i := 0) (N := some 46) HT_ HW_ hHeld ?_
                          refine on_ (i := 1) (N := some 47) HT_ (fun K hK => ?_)
                          refine goes_ Try.func10 (by kernel_rfl) rfl #[.agg #[.int .i64 t422, .slice Ao17 t423.length co17, .int .i64 t426, .int .i64 t427, .slice Ao18 t428.length co18]] (by rfl) rfl rfl ar_ ?_
                          with_reducible refine (impl_MouthOk.calls kj5 t422 _ _ t423 t426 t427 _ _ t428 true _ ?side1 ?side2 ?side3 ?side4 A38.out).mono ?_
                          (case side1 => exact kC_ (Kd.R_reads' HO_433001.out).2.2)
                          (case side2 => exact (Kd.R_reads' HO_433001.out).2.1)
                          (case side3 => exact kC_ (Kd.R_reads' HO_433004.out).2.2)
                          (case side4 => exact (Kd.R_reads' HO_433004.out).2.1)
                          rintro e w52 ⟨rfl, hb⟩
                          refine ⟨_, rfl, ?_⟩
                          have n0_ := Aside0.mk (Kd.R_below (kR_ HO_4.out) hb)
                          have n1_ := Aside0.mk (Kd.R_below (kR_ HO_422001.out) hb)
                          have n2_ := Aside0.mk (Kd.R_below (kR_ HO_422004.out) hb)
                          have n3_ := Aside0.mk (Kd.R_below (kR_ HO_433001.out) hb)
                          have n4_ := Aside0.mk (Kd.R_below (kR_ HO_433004.out) hb)
                          have n5_ := Aside0.mk (Kd.R_below (kR_ HO_444001.out) hb)
                          have n6_ := Aside0.mk (Kd.R_below (kR_ HO_444004.out) hb)
                          have n7_ := Aside0.mk (blk_below (g := gb421) (o := .cells #[.int .i64 t409, .slice Ao10 t410.length co10, .int .i64 t413, .int .i64 t414, .slice Ao11 t415.length co11] 25 (0, 0)) (kb_ BK421.out) hb)
                          have n8_ := Aside0.mk (blk_below (g := gb432) (o := .cells #[.int .i64 t422, .slice Ao17 t423.length co17, .int .i64 t426, .int .i64 t427, .slice Ao18 t428.length co18] 25 (0, 0)) (kb_ BK432.out) hb)
                          have n9_ := Aside0.mk (blk_below (g := gb443) (o := .cells #[.int .i64 t433, .slice Ao25 t434.length co25, .int .i64 t437, .int .i64 t438, .slice Ao26 t439.length co26] 25 (0, 0)) (kb_ BK443.out) hb)
                          have n10_ := Aside0.mk (below_step (hb3_ HB.out GE421.out GE432.out GE443.out) hb)
                          clear HO_4
                          clear HO_422001
                          clear HO_422004
                          clear HO_433001
                          clear HO_433004
                          clear HO_444001
                          clear HO_444004
                          clear BK421
                          clear BK432
                          clear BK443
                          clear HB
                          have HO_4 := n0_
                          have HO_422001 := n1_
                          have HO_422004 := n2_
                          have HO_433001 := n3_
                          have HO_433004 := n4_
                          have HO_444001 := n5_
                          have HO_444004 := n6_
                          have BK421 := n7_
                          have BK432 := n8_
                          have BK443 := n9_
                          have HB := n10_
                          clear n0_ n1_ n2_ n3_ n4_ n5_ n6_ n7_ n8_ n9_ n10_
                          (try clear hb)
                          (try clear hb2)
                          (try clear hk)
                          (try clear hi)
                          refine hK.out _ _ ⟨(blk_cell BK432.out 0).trans rfl, (blk_cell BK432.out 1).trans rfl, (blk_cell BK432.out 2).trans rfl, (blk_cell BK432.out 3).trans rfl, (blk_cell BK432.out 4).trans rfl, (blk_cell BK421.out 0).trans rfl, (blk_cell BK421.out 1).trans rfl, (blk_cell BK421.out 2).trans rfl, (blk_cell BK421.out 3).trans rfl, (blk_cell BK421.out 4).trans rfl⟩ (fun hHeld => ?_)
                          clear hK K
                          refine nm_ 47 ?_
                          refine pu_ (i := 2) (N := some 48) HT_ ?_
                          refine pu_ (i := 3) (N := some 49) HT_ ?_
                          refine pu_ (i := 6) (N := some 52) HT_ ?_
                          refine pu_ (i := 9) (N := some 55) HT_ ?_
                          refine pu_ (i := 10) (N := some 56) HT_ ?_
                          have q56 : (t431 : Int) ≤ ((t418.length : Int) : Int) := of_decide_eq_true (by first | (with_reducible assumption) | assumption)
                          obtain ⟨i056, hi056, _, hsz56, _⟩ := info_parts info5
                          have hroom56 : t418.length ≤ co12 := (Kd.R_reads' HO_4.out).2.1
                          have hcut56 := cut_to (P := Try.prog) 22 5 .i64 Try.underlying22 hi056 Ao12 t418.length co12 t431 (of_decide_eq_true (by first | (with_reducible assumption) | assumption)) q56 hroom56
                          have hy56 : y454.length = (t431 : Int).toNat := (by rw [Ny454.out, List.length_take]; omega)
                          rw [← hy56] at hcut56
                          refine pu_ (i := 11) (N := some 57) HT_ ?_
                          refine tk_ (i := 4) (N := some 50) HT_ HW_ hHeld ?_
                          refine tk_ (i := 7) (N := some 53) HT_ HW_ hHeld ?_
                          refine on_ (i := 5) (N := some 51) HT_ (fun K hK => ?_)
                          refine Kd.R_lit_step (Kd.int .u8) _ 5 ?hg (N := 51) ?hd (xs := ([] : List Int)) (inner := []) (ok := fun _ => True) (okp := fun _ => True) ?hr ?hp (fun _ hk => hk) trivial (Below.refl _ _) (Nat.le_refl _) (by simp) ?_; (case hd => rfl); (case hg => rfl); (case hr => first | (go_simp; done) | (go_simp; rfl)); (case hp => exact (Reps.none _ _))
                          intro v449 w53 ho54 hb hg_ hnew_
                          clear hg_ hnew_
                          (first | rw [← Ny448.out] at ho54 | (simp only [Int.reduceToNat] at ho54; rw [← Ny448.out] at ho54))
                          have n0_ := Aside0.mk (Kd.R_elder' (kR_ HO_4.out) (Kd.R_base ho54) hb)
                          have n1_ := Aside0.mk (Kd.R_elder' (kR_ HO_422001.out) (Kd.R_base ho54) hb)
                          have n2_ := Aside0.mk (Kd.R_below (kR_ HO_422004.out) hb)
                          have n3_ := Aside0.mk (Kd.R_elder' (kR_ HO_433001.out) (Kd.R_base ho54) hb)
                          have n4_ := Aside0.mk (Kd.R_below (kR_ HO_433004.out) hb)
                          have n5_ := Aside0.mk (Kd.R_elder' (kR_ HO_444001.out) (Kd.R_base ho54) hb)
                          have n6_ := Aside0.mk (Kd.R_below (kR_ HO_444004.out) hb)
                          have n7_ := Aside0.mk (Kd.R_lower (Kd.R_new' (Kd.R_new' (Kd.R_new' (Kd.R_new' ho54 (Kd.R_lt (kR_ HO_4.out))) (Kd.R_lt (kR_ HO_422001.out))) (Kd.R_lt (kR_ HO_433001.out))) (Kd.R_lt (kR_ HO_444001.out))) (below_size (hb3_ HB.out GE421.out GE432.out GE443.out)))
                          have n8_ := Aside0.mk (blk_below (g := gb421) (o := .cells #[.int .i64 t409, .slice Ao10 t410.length co10, .int .i64 t413, .int .i64 t414, .slice Ao11 t415.length co11] 25 (0, 0)) (kb_ BK421.out) hb)
                          have n9_ := Aside0.mk (blk_below (g := gb432) (o := .cells #[.int .i64 t422, .slice Ao17 t423.length co17, .int .i64 t426, .int .i64 t427, .slice Ao18 t428.length co18] 25 (0, 0)) (kb_ BK432.out) hb)
                          have n10_ := Aside0.mk (blk_below (g := gb443) (o := .cells #[.int .i64 t433, .slice Ao25 t434.length co25, .int .i64 t437, .int .i64 t438, .slice Ao26 t439.length co26] 25 (0, 0)) (kb_ BK443.out) hb)
                          have n11_ := Aside0.mk (below_step (hb3_ HB.out GE421.out GE432.out GE443.out) hb)
                          clear HO_4
                          clear HO_422001
                          clear HO_422004
                          clear HO_433001
                          clear HO_433004
                          clear HO_444001
                          clear HO_444004
                          clear BK421
                          clear BK432
                          clear BK443
                          clear HB
                          have HO_4 := n0_
                          have HO_422001 := n1_
                          have HO_422004 := n2_
                          have HO_433001 := n3_
                          have HO_433004 := n4_
                          have HO_444001 := n5_
                          have HO_444004 := n6_
                          have HO450 := n7_
                          have BK421 := n8_
                          have BK432 := n9_
                          have BK443 := n10_
                          have HB := n11_
                          clear n0_ n1_ n2_ n3_ n4_ n5_ n6_ n7_ n8_ n9_ n10_ n11_
                          clear hb ho54
                          refine hK.out _ _ ⟨(blk_cell BK432.out 0).trans rfl, (blk_cell BK432.out 1).trans rfl, (blk_cell BK432.out 2).trans rfl, (blk_cell BK432.out 3).trans rfl, (blk_cell BK432.out 4).trans rfl, (blk_cell BK421.out 0).trans rfl, (blk_cell BK421.out 1).trans rfl, (blk_cell BK421.out 2).trans rfl, (blk_cell BK421.out 3).trans rfl, (blk_cell BK421.out 4).trans rfl⟩ (fun hHeld => ?_)
                          clear hK K
                          refine nm_ 51 ?_
                          refine on_ (i := 8) (N := some 54) HT_ (fun K hK => ?_)
                          refine Kd.R_append_rows_step (Kd.int .u8) (w0 := w) w.heap.size (by rfl) (.tmp 51) (.tmp 53) 22 5 (.int .u8 0) 1 rfl Try.underlying22 info5 rfl (by decide) (by omega) v449 y448 t410 _ _ _ (fun k_ => some k_ ≠ (.slice Ao12 t418.length co12 : Value).ownBlock ∧ some k_ ≠ (.slice Ao10 t410.length co10 : Value).ownBlock ∧ some k_ ≠ (.slice Ao17 t423.length co17 : Value).ownBlock ∧ some k_ ≠ (.slice Ao25 t434.length co25 : Value).ownBlock) (fun _ => False) rfl rfl ?aO ?aR (fun _ _ h => h) (fun _ h => h.elim) ?aF ?aB ?aS ?aL ?_
                          (case aR => exact kC_ (Kd.R_reads' HO_422001.out).2.2)
                          (case aB => exact (hb3_ HB.out GE421.out GE432.out GE443.out))
                          (case aF => exact (fun k_ hk => ⟨Kd.fresh' (Kd.R_lt (kR_ HO_4.out)) k_ hk, Kd.fresh' (Kd.R_lt (kR_ HO_422001.out)) k_ hk, Kd.fresh' (Kd.R_lt (kR_ HO_433001.out)) k_ hk, Kd.fresh' (Kd.R_lt (kR_ HO_444001.out)) k_ hk⟩))
                          (case aO => exact (by refine kR_ ?_; exact Kd.R_mono HO450.out (fun _ hk => op2_ hk)))
                          (case aS => exact (below_size (hb3_ HB.out GE421.out GE432.out GE443.out)))
                          (case aL => have := LMc40.out; omega)
                          intro v452 w55 ho hb hg hat
                          rw [← Ny451.out] at ho
                          have n0_ := Aside0.mk (Kd.R_after (ok := (fun k_ => some k_ ≠ (.slice Ao10 t410.length co10 : Value).ownBlock ∧ some k_ ≠ (.slice Ao17 t423.length co17 : Value).ownBlock ∧ some k_ ≠ (.slice Ao25 t434.length co25 : Value).ownBlock)) (kR_ HO_4.out) hg hat)
                          have n1_ := Aside0.mk (Kd.R_after (ok := (fun k_ => some k_ ≠ (.slice Ao12 t418.length co12 : Value).ownBlock ∧ some k_ ≠ (.slice Ao17 t423.length co17 : Value).ownBlock ∧ some k_ ≠ (.slice Ao25 t434.length co25 : Value).ownBlock)) (kR_ HO_422001.out) hg hat)
                          have n2_ := Aside0.mk (Kd.R_over' (kR_ HO_422004.out) (Kd.R_typed (kR_ HO450.out)) (by decide) hg)
                          have n3_ := Aside0.mk (Kd.R_after (ok := (fun k_ => some k_ ≠ (.slice Ao12 t418.length co12 : Value).ownBlock ∧ some k_ ≠ (.slice Ao10 t410.length co10 : Value).ownBlock ∧ some k_ ≠ (.slice Ao25 t434.length co25 : Value).ownBlock)) (kR_ HO_433001.out) hg hat)
                          have n4_ := Aside0.mk (Kd.R_over' (kR_ HO_433004.out) (Kd.R_typed (kR_ HO450.out)) (by decide) hg)
                          have n5_ := Aside0.mk (Kd.R_after (ok := (fun k_ => some k_ ≠ (.slice Ao12 t418.length co12 : Value).ownBlock ∧ some k_ ≠ (.slice Ao10 t410.length co10 : Value).ownBlock ∧ some k_ ≠ (.slice Ao17 t423.length co17 : Value).ownBlock)) (kR_ HO_444001.out) hg hat)
                          have n6_ := Aside0.mk (Kd.R_over' (kR_ HO_444004.out) (Kd.R_typed (kR_ HO450.out)) (by decide) hg)
                          have n7_ := Aside0.mk (blk_grown (g := gb421) (o := .cells #[.int .i64 t409, .slice Ao10 t410.length co10, .int .i64 t413, .int .i64 t414, .slice Ao11 t415.length co11] 25 (0, 0)) (kb_ BK421.out) hg (Kd.R_ne HO450.out BK421.out (by decide)))
                          have n8_ := Aside0.mk (blk_grown (g := gb432) (o := .cells #[.int .i64 t422, .slice Ao17 t423.length co17, .int .i64 t426, .int .i64 t427, .slice Ao18 t428.length co18] 25 (0, 0)) (kb_ BK432.out) hg (Kd.R_ne HO450.out BK432.out (by decide)))
                          have n9_ := Aside0.mk (blk_grown (g := gb443) (o := .cells #[.int .i64 t433, .slice Ao25 t434.length co25, .int .i64 t437, .int .i64 t438, .slice Ao26 t439.length co26] 25 (0, 0)) (kb_ BK443.out) hg (Kd.R_ne HO450.out BK443.out (by decide)))
                          have n10_ := Aside0.mk (hb)
                          have n11_ := Aside0.mk (ho)
                          clear HO_4
                          clear HO_422001
                          clear HO_422004
                          clear HO_433001
                          clear HO_433004
                          clear HO_444001
                          clear HO_444004
                          clear BK421
                          clear BK432
                          clear BK443
                          clear HB
                          clear HO450
                          have HO_4 := n0_
                          have HO_422001 := n1_
                          have HO_422004 := n2_
                          have HO_433001 := n3_
                          have HO_433004 := n4_
                          have HO_444001 := n5_
                          have HO_444004 := n6_
                          have BK421 := n7_
                          have BK432 := n8_
                          have BK443 := n9_
                          have HB := n10_
                          have HO453 := n11_
                          clear n0_ n1_ n2_ n3_ n4_ n5_ n6_ n7_ n8_ n9_ n10_ n11_
                          clear ho hb hg hat
                          have q56 : (t431 : Int) ≤ ((t418.length : Int) : Int) := of_decide_eq_true (by first | (with_reducible assumption) | assumption)
                          obtain ⟨i056, hi056, _, hsz56, _⟩ := info_parts info5
                          have hroom56 : t418.length ≤ co12 := (Kd.R_reads' HO_4.out).2.1
                          have hC56 : Kd.C (Kd.int .u8) _ Ao12 t418.length t418 := (Kd.R_reads' HO_4.out).2.2
                          have hcut56 := cut_to (P := Try.prog) 22 5 .i64 Try.underlying22 hi056 Ao12 t418.length co12 t431 (of_decide_eq_true (by first | (with_reducible assumption) | assumption)) q56 hroom56
                          have hr56 := Kd.C_take (m := (t431 : Int).toNat) hC56 (by omega)
                          have hy56 : y454.length = (t431 : Int).toNat := (by rw [Ny454.out, List.length_take]; omega)
                          rw [← Ny454.out] at hr56
                          rw [← hy56] at hcut56
                          have HR457 := Aside0.mk hr56
                          have HC457 := Aside0.mk (show y454.length ≤ co12 from by omega)
                          clear hr56 hC56 hroom56 hi056 hsz56
                          have KY56 := Aside0.mk hy56
                          clear hy56
                          have KL56 := Aside0.mk (show (t431 : Int).toNat ≤ t418.length from by omega)
                          replace q56 := eq_true q56
                          refine hK.out _ _ ⟨(blk_cell BK432.out 0).trans rfl, (blk_cell BK432.out 1).trans rfl, (blk_cell BK432.out 2).trans rfl, (blk_cell BK432.out 3).trans rfl, (blk_cell BK432.out 4).trans rfl, (blk_cell BK421.out 0).trans rfl, (blk_cell BK421.out 1).trans rfl, (blk_cell BK421.out 2).trans rfl, (blk_cell BK421.out 3).trans rfl, (blk_cell BK421.out 4).trans rfl⟩ (fun hHeld => ?_)
                          clear hK K
                          refine nm_ 54 ?_
                          refine on_ (i := 12) (N := some 58) HT_ (fun K hK => ?_)
                          refine Kd.R_append_rows_step (Kd.int .u8) (w0 := w) w.heap.size (by rfl) (.tmp 54) (.tmp 57) 22 5 (.int .u8 0) 1 rfl Try.underlying22 info5 rfl (by decide) (by omega) v452 y451 y454 _ _ _ (fun k_ => some k_ ≠ (.slice Ao12 t418.length co12 : Value).ownBlock ∧ some k_ ≠ (.slice Ao10 t410.length co10 : Value).ownBlock ∧ some k_ ≠ (.slice Ao17 t423.length co17 : Value).ownBlock ∧ some k_ ≠ (.slice Ao25 t434.length co25 : Value).ownBlock) (fun _ => False) rfl rfl ?aO ?aR (fun _ _ h => h) (fun _ h => h.elim) ?aF ?aB ?aS ?aL ?_
                          (case aR => exact len2_ (kC_ (by repeat (first | (with_reducible exact HR457.out) | (with_reducible exact Kd.C_drewN HR457.out _) | (with_reducible refine Kd.C_alloc ?_ _) | (with_reducible refine Kd.C_drewN ?_ _) | (with_reducible refine Kd.C_drew ?_) | exact HR457.out))) (by first | rfl | exact KY56.out))
                          (case aB => exact (hb3_ HB.out GE421.out GE432.out GE443.out))
                          (case aF => exact (fun k_ hk => ⟨Kd.fresh' (Kd.R_lt (kR_ HO_4.out)) k_ hk, Kd.fresh' (Kd.R_lt (kR_ HO_422001.out)) k_ hk, Kd.fresh' (Kd.R_lt (kR_ HO_433001.out)) k_ hk, Kd.fresh' (Kd.R_lt (kR_ HO_444001.out)) k_ hk⟩))
                          (case aO => exact (kR_ HO453.out))
                          (case aS => exact (below_size (hb3_ HB.out GE421.out GE432.out GE443.out)))
                          (case aL => have := LMc43.out; omega)
                          intro v459 w57 ho hb hg hat
                          rw [← Ny458.out] at ho
                          have n0_ := Aside0.mk (Kd.R_after (ok := (fun k_ => some k_ ≠ (.slice Ao10 t410.length co10 : Value).ownBlock ∧ some k_ ≠ (.slice Ao17 t423.length co17 : Value).ownBlock ∧ some k_ ≠ (.slice Ao25 t434.length co25 : Value).ownBlock)) (kR_ HO_4.out) hg hat)
                          have n1_ := Aside0.mk (Kd.R_after (ok := (fun k_ => some k_ ≠ (.slice Ao12 t418.length co12 : Value).ownBlock ∧ some k_ ≠ (.slice Ao17 t423.length co17 : Value).ownBlock ∧ some k_ ≠ (.slice Ao25 t434.length co25 : Value).ownBlock)) (kR_ HO_422001.out) hg hat)
                          have n2_ := Aside0.mk (Kd.R_over' (kR_ HO_422004.out) (Kd.R_typed (kR_ HO453.out)) (by decide) hg)
                          have n3_ := Aside0.mk (Kd.R_after (ok := (fun k_ => some k_ ≠ (.slice Ao12 t418.length co12 : Value).ownBlock ∧ some k_ ≠ (.slice Ao10 t410.length co10 : Value).ownBlock ∧ some k_ ≠ (.slice Ao25 t434.length co25 : Value).ownBlock)) (kR_ HO_433001.out) hg hat)
                          have n4_ := Aside0.mk (Kd.R_over' (kR_ HO_433004.out) (Kd.R_typed (kR_ HO453.out)) (by decide) hg)
                          have n5_ := Aside0.mk (Kd.R_after (ok := (fun k_ => some k_ ≠ (.slice Ao12 t418.length co12 : Value).ownBlock ∧ some k_ ≠ (.slice Ao10 t410.length co10 : Value).ownBlock ∧ some k_ ≠ (.slice Ao17 t423.length co17 : Value).ownBlock)) (kR_ HO_444001.out) hg hat)
                          have n6_ := Aside0.mk (Kd.R_over' (kR_ HO_444004.out) (Kd.R_typed (kR_ HO453.out)) (by decide) hg)
                          have n7_ := Aside0.mk (blk_grown (g := gb421) (o := .cells #[.int .i64 t409, .slice Ao10 t410.length co10, .int .i64 t413, .int .i64 t414, .slice Ao11 t415.length co11] 25 (0, 0)) (kb_ BK421.out) hg (Kd.R_ne HO453.out BK421.out (by decide)))
                          have n8_ := Aside0.mk (blk_grown (g := gb432) (o := .cells #[.int .i64 t422, .slice Ao17 t423.length co17, .int .i64 t426, .int .i64 t427, .slice Ao18 t428.length co18] 25 (0, 0)) (kb_ BK432.out) hg (Kd.R_ne HO453.out BK432.out (by decide)))
                          have n9_ := Aside0.mk (blk_grown (g := gb443) (o := .cells #[.int .i64 t433, .slice Ao25 t434.length co25, .int .i64 t437, .int .i64 t438, .slice Ao26 t439.length co26] 25 (0, 0)) (kb_ BK443.out) hg (Kd.R_ne HO453.out BK443.out (by decide)))
                          have n10_ := Aside0.mk (hb)
                          have n11_ := Aside0.mk ((show Kd.C (Kd.int .u8) w57 Ao12 y454.length y454 from by rw [Ny454.out]; exact Kd.C_take (m := (t431 : Int).toNat) ((Kd.R_reads' (Kd.R_after (ok := (fun k_ => some k_ ≠ (.slice Ao10 t410.length co10 : Value).ownBlock ∧ some k_ ≠ (.slice Ao17 t423.length co17 : Value).ownBlock ∧ some k_ ≠ (.slice Ao25 t434.length co25 : Value).ownBlock)) (kR_ HO_4.out) hg hat)).2.2) KL56.out))
                          have n12_ := Aside0.mk (ho)
                          clear HO_4
                          clear HO_422001
                          clear HO_422004
                          clear HO_433001
                          clear HO_433004
                          clear HO_444001
                          clear HO_444004
                          clear BK421
                          clear BK432
                          clear BK443
                          clear HB
                          clear HR457
                          clear HO453
                          have HO_4 := n0_
                          have HO_422001 := n1_
                          have HO_422004 := n2_
                          have HO_433001 := n3_
                          have HO_433004 := n4_
                          have HO_444001 := n5_
                          have HO_444004 := n6_
                          have BK421 := n7_
                          have BK432 := n8_
                          have BK443 := n9_
                          have HB := n10_
                          have HR457 := n11_
                          have HO460 := n12_
                          clear n0_ n1_ n2_ n3_ n4_ n5_ n6_ n7_ n8_ n9_ n10_ n11_ n12_
                          clear ho hb hg hat
                          obtain ⟨Ao58, co58, eo58⟩ := Kd.R_slice HO460.out
                          (first | subst eo58 | (injection eo58 with f1_ f2_ f3_; have f4_ := f1_.symm; have f5_ := f3_.symm; clear f1_ f2_ f3_; subst f4_; subst f5_))
                          refine hK.out _ _ ⟨(blk_cell BK432.out 0).trans rfl, (blk_cell BK432.out 1).trans rfl, (blk_cell BK432.out 2).trans rfl, (blk_cell BK432.out 3).trans rfl, (blk_cell BK432.out 4).trans rfl, (blk_cell BK421.out 0).trans rfl, (blk_cell BK421.out 1).trans rfl, (blk_cell BK421.out 2).trans rfl, (blk_cell BK421.out 3).trans rfl, (blk_cell BK421.out 4).trans rfl⟩ (fun hHeld => ?_)
                          clear hK K
                          refine nm_ 58 ?_
                          refine on_ (i := 13) (N := some 59) HT_ (fun K hK => ?_)
                          refine goes_ Try.func12 (by kernel_rfl) rfl #[.slice Ao17 t423.length co17, .slice Ao58 y458.length co58] (by rfl) rfl rfl ar_ ?_
                          with_reducible refine (laws_sameBytes.calls _ _ t423 _ _ y458 true _ ?side1 ?side2 ?side3 ?side4 A44.out).mono ?_
                          (case side1 => exact kC_ (Kd.R_reads' HO_433001.out).2.2)
                          (case side2 => exact (Kd.R_reads' HO_433001.out).2.1)
                          (case side3 => exact kC_ (Kd.R_reads' HO460.out).2.2)
                          (case side4 => exact (Kd.R_reads' HO460.out).2.1)
                          rintro e w' ⟨rfl, ⟨nd, rfl⟩⟩
                          refine ⟨_, rfl, ?_⟩
                          refine hK.out _ _ ⟨(blk_cell BK432.out 0).trans rfl, (blk_cell BK432.out 1).trans rfl, (blk_cell BK432.out 2).trans rfl, (blk_cell BK432.out 3).trans rfl, (blk_cell BK432.out 4).trans rfl, (blk_cell BK421.out 0).trans rfl, (blk_cell BK421.out 1).trans rfl, (blk_cell BK421.out 2).trans rfl, (blk_cell BK421.out 3).trans rfl, (blk_cell BK421.out 4).trans rfl⟩ (fun hHeld => ?_)
                          clear hK K
                          refine nm_ 59 ?_
                          refine pu_ (i := 14) (N := some 60) HT_ ?_
                          refine pu_ (i := 15) (N := some 61) HT_ ?_
                          refine pu_ (i := 16) (N := some 62) HT_ ?_
                          refine pu_ (i := 17) (N := some 63) HT_ ?_
                          refine pu_ (i := 18) (N := some 64) HT_ ?_
                          refine pu_ (i := 19) (N := some 65) HT_ ?_
                          refine pu_ (i := 20) (N := some 66) HT_ ?_
                          refine pn_ (i := 21) (N := some 67) HT_ ?_
                          refine pn_ (i := 22) (N := some 68) HT_ ?_
                          refine pn_ (i := 23) (N := some 69) HT_ ?_
                          refine pn_ (i := 24) (N := some 70) HT_ ?_
                          refine pu_ (i := 25) (N := some 71) HT_ ?_
                          refine pu_ (i := 26) (N := some 72) HT_ ?_
                          refine pu_ (i := 27) (N := some 73) HT_ ?_
                          refine pu_ (i := 28) (N := some 74) HT_ ?_
                          refine pu_ (i := 30) (N := some 76) HT_ ?_
                          refine tk_ (i := 29) (N := some 75) HT_ HW_ hHeld ?_
                          refine tk_ (i := 31) (N := some 77) HT_ HW_ hHeld ?_
                          refine pu_ (i := 32) (N := some 78) HT_ ?_
                          refine pu_ (i := 33) (N := some 79) HT_ ?_
                          refine pu_ (i := 34) (N := some 2) HT_ ?_
                          refine done_ (done_of HT_.out (by kernel_rfl)) ?_
                          try go_wp2
                          go_ret
                          exact ⟨by first | rfl | (simp [errW_none, errW_some] <;> rfl) | (simp [*, errW_none, errW_some] <;> rfl), by repeat (first | (with_reducible first | exact HB.out | apply below_alloc | apply pw_below_drewN | apply below_drew1 | refine below_set ?_ GE421.out | refine below_set ?_ GE432.out | refine below_set ?_ GE443.out) | exact HB.out)⟩
                        · rw [if_neg c46] at H
                          have c46b0 : (t431 == (t418.length : Int)) = false := beq_eq_false_iff_ne.mpr c46
                          have c46b1 : (t431 != (t418.length : Int)) = true := bne_iff_ne.mpr c46
                          by_cases c59 : (t423.length : Int) = 32
                          · rw [if_pos c59] at H
                            have c59b0 : ((t423.length : Int) == 32) = true := beq_iff_eq.mpr c59
                            have c59b1 : ((t423.length : Int) != 32) = false := bne_eq_false_iff_eq.mpr c59
                            clear c59
                            obtain rfl := Option.some.inj H
                            have hnb60 := NB421_432.out
                            have hnc60 := NB432_421.out
                            have hnb61 := NB421_443.out
                            have hnc61 := NB443_421.out
                            have hcz62_0 : wc.cell? ⟨gb421, 0, none⟩ = some (.int .i64 t409) := (blk_cell BK421.out 0).trans rfl
                            have hcz62_1 : wc.cell? ⟨gb421, 1, none⟩ = some (.slice Ao10 t410.length co10) := (blk_cell BK421.out 1).trans rfl
                            have hcz62_2 : wc.cell? ⟨gb421, 2, none⟩ = some (.int .i64 t413) := (blk_cell BK421.out 2).trans rfl
                            have hcz62_3 : wc.cell? ⟨gb421, 3, none⟩ = some (.int .i64 t414) := (blk_cell BK421.out 3).trans rfl
                            have hcz62_4 : wc.cell? ⟨gb421, 4, none⟩ = some (.slice Ao11 t415.length co11) := (blk_cell BK421.out 4).trans rfl
                            have hfz62_0 := blk_frozen BK421.out 0
                            have hfz62_1 := blk_frozen BK421.out 1
                            have hfz62_2 := blk_frozen BK421.out 2
                            have hfz62_3 := blk_frozen BK421.out 3
                            have hfz62_4 := blk_frozen BK421.out 4
                            try go_wp2_with (first | ((with_reducible refine gate_callee (f := 10) rfl ?_); refine goesL_ (some 39) rfl rfl Try.func10 (by kernel_rfl) rfl #[.agg #[.int .i64 t409, .slice Ao10 t410.length co10, .int .i64 t413, .int .i64 t414, .slice Ao11 t415.length co11]] rfl ar_ ?_; (with_reducible refine (impl_MouthOk.calls kj5 t409 _ _ t410 t413 t414 _ _ t415 true _ ?side1 ?side2 ?side3 ?side4 A36.out).mono ?_); (case side1 => exact kC_ (Kd.R_reads' HO_422001.out).2.2); (case side2 => exact (Kd.R_reads' HO_422001.out).2.1); (case side3 => exact kC_ (Kd.R_reads' HO_422004.out).2.2); (case side4 => exact (Kd.R_reads' HO_422004.out).2.1); rintro e w63 ⟨rfl, hb⟩; refine ⟨_, rfl, ?_⟩; have n0_ := Aside0.mk (Kd.R_below (kR_ HO_4.out) hb); have n1_ := Aside0.mk (Kd.R_below (kR_ HO_422001.out) hb); have n2_ := Aside0.mk (Kd.R_below (kR_ HO_422004.out) hb); have n3_ := Aside0.mk (Kd.R_below (kR_ HO_433001.out) hb); have n4_ := Aside0.mk (Kd.R_below (kR_ HO_433004.out) hb); have n5_ := Aside0.mk (Kd.R_below (kR_ HO_444001.out) hb); have n6_ := Aside0.mk (Kd.R_below (kR_ HO_444004.out) hb); have n7_ := Aside0.mk (blk_below (g := gb421) (o := .cells #[.int .i64 t409, .slice Ao10 t410.length co10, .int .i64 t413, .int .i64 t414, .slice Ao11 t415.length co11] 25 (0, 0)) (kb_ BK421.out) hb); have n8_ := Aside0.mk (blk_below (g := gb432) (o := .cells #[.int .i64 t422, .slice Ao17 t423.length co17, .int .i64 t426, .int .i64 t427, .slice Ao18 t428.length co18] 25 (0, 0)) (kb_ BK432.out) hb); have n9_ := Aside0.mk (blk_below (g := gb443) (o := .cells #[.int .i64 t433, .slice Ao25 t434.length co25, .int .i64 t437, .int .i64 t438, .slice Ao26 t439.length co26] 25 (0, 0)) (kb_ BK443.out) hb); have n10_ := Aside0.mk (below_step (hb3_ HB.out GE421.out GE432.out GE443.out) hb); clear HO_4; clear HO_422001; clear HO_422004; clear HO_433001; clear HO_433004; clear HO_444001; clear HO_444004; clear BK421; clear BK432; clear BK443; clear HB; have HO_4 := n0_; have HO_422001 := n1_; have HO_422004 := n2_; have HO_433001 := n3_; have HO_433004 := n4_; have HO_444001 := n5_; have HO_444004 := n6_; have BK421 := n7_; have BK432 := n8_; have BK443 := n9_; have HB := n10_; clear n0_ n1_ n2_ n3_ n4_ n5_ n6_ n7_ n8_ n9_ n10_; (try clear hb); (try clear hb2); (try clear hk); (try clear hi)))
                            have n0_ := Aside0.mk (Kd.R_drew HO_4.out)
                            have n1_ := Aside0.mk (Kd.R_drew HO_422001.out)
                            have n2_ := Aside0.mk (Kd.R_drew HO_422004.out)
                            have n3_ := Aside0.mk (Kd.R_drew HO_433001.out)
                            have n4_ := Aside0.mk (Kd.R_drew HO_433004.out)
                            have n5_ := Aside0.mk (Kd.R_drew HO_444001.out)
                            have n6_ := Aside0.mk (Kd.R_drew HO_444004.out)
                            have n7_ := Aside0.mk (blk_drew BK421.out)
                            have n8_ := Aside0.mk (blk_drew BK432.out)
                            have n9_ := Aside0.mk (blk_drew BK443.out)
                            have n10_ := Aside0.mk (below_drew1 HB.out)
                            clear HO_4
                            clear HO_422001
                            clear HO_422004
                            clear HO_433001
                            clear HO_433004
                            clear HO_444001
                            clear HO_444004
                            clear BK421
                            clear BK432
                            clear BK443
                            clear HB
                            have HO_4 := n0_
                            have HO_422001 := n1_
                            have HO_422004 := n2_
                            have HO_433001 := n3_
                            have HO_433004 := n4_
                            have HO_444001 := n5_
                            have HO_444004 := n6_
                            have BK421 := n7_
                            have BK432 := n8_
                            have BK443 := n9_
                            have HB := n10_
                            clear n0_ n1_ n2_ n3_ n4_ n5_ n6_ n7_ n8_ n9_ n10_
                            refine start_ (n := 35) (S := fun w' => w'.cell? ⟨gb432, 0, none⟩ = some (.int .i64 t422) ∧ w'.cell? ⟨gb432, 1, none⟩ = some (.slice Ao17 t423.length co17) ∧ w'.cell? ⟨gb432, 2, none⟩ = some (.int .i64 t426) ∧ w'.cell? ⟨gb432, 3, none⟩ = some (.int .i64 t427) ∧ w'.cell? ⟨gb432, 4, none⟩ = some (.slice Ao18 t428.length co18) ∧ w'.cell? ⟨gb421, 0, none⟩ = some (.int .i64 t409) ∧ w'.cell? ⟨gb421, 1, none⟩ = some (.slice Ao10 t410.length co10) ∧ w'.cell? ⟨gb421, 2, none⟩ = some (.int .i64 t413) ∧ w'.cell? ⟨gb421, 3, none⟩ = some (.int .i64 t414) ∧ w'.cell? ⟨gb421, 4, none⟩ = some (.slice Ao11 t415.length co11)) (ds := []) #[false, false, false, false, false, false, false, false, false, false, false, false, false, false, false, false, false, false, false, false, false, false, false, false, false, false, false, false, false, false, false, false, false, false, false] (by kernel_rfl) rfl rfl ⟨(blk_cell BK432.out 0).trans rfl, (blk_cell BK432.out 1).trans rfl, (blk_cell BK432.out 2).trans rfl, (blk_cell BK432.out 3).trans rfl, (blk_cell BK432.out 4).trans rfl, (blk_cell BK421.out 0).trans rfl, (blk_cell BK421.out 1).trans rfl, (blk_cell BK421.out 2).trans rfl, (blk_cell BK421.out 3).trans rfl, (blk_cell BK421.out 4).trans rfl⟩ (fun hHeld => ?_); refine with_tabW laws_FnMouthWrite.tab10 laws_FnMouthWrite.bits10 (fun HT_ HW_ => ?_)
                            generalize w63.drew = w64 at HO_4 HO_422001 HO_422004 HO_433001 HO_433004 HO_444001 HO_444004 BK421 BK432 BK443 HB hHeld ⊢
                            refine tk_ (i := 0) (N := some 46) HT_ HW_ hHeld ?_
                            refine on_ (i := 1) (N := some 47) HT_ (fun K hK => ?_)
                            refine goes_ Try.func10 (by kernel_rfl) rfl #[.agg #[.int .i64 t422, .slice Ao17 t423.length co17, .int .i64 t426, .int .i64 t427, .slice Ao18 t428.length co18]] (by rfl) rfl rfl ar_ ?_
                            with_reducible refine (impl_MouthOk.calls kj5 t422 _ _ t423 t426 t427 _ _ t428 true _ ?side1 ?side2 ?side3 ?side4 A38.out).mono ?_
                            (case side1 => exact kC_ (Kd.R_reads' HO_433001.out).2.2)
                            (case side2 => exact (Kd.R_reads' HO_433001.out).2.1)
                            (case side3 => exact kC_ (Kd.R_reads' HO_433004.out).2.2)
                            (case side4 => exact (Kd.R_reads' HO_433004.out).2.1)
                            rintro e w65 ⟨rfl, hb⟩
                            refine ⟨_, rfl, ?_⟩
                            have n0_ := Aside0.mk (Kd.R_below (kR_ HO_4.out) hb)
                            have n1_ := Aside0.mk (Kd.R_below (kR_ HO_422001.out) hb)
                            have n2_ := Aside0.mk (Kd.R_below (kR_ HO_422004.out) hb)
                            have n3_ := Aside0.mk (Kd.R_below (kR_ HO_433001.out) hb)
                            have n4_ := Aside0.mk (Kd.R_below (kR_ HO_433004.out) hb)
                            have n5_ := Aside0.mk (Kd.R_below (kR_ HO_444001.out) hb)
                            have n6_ := Aside0.mk (Kd.R_below (kR_ HO_444004.out) hb)
                            have n7_ := Aside0.mk (blk_below (g := gb421) (o := .cells #[.int .i64 t409, .slice Ao10 t410.length co10, .int .i64 t413, .int .i64 t414, .slice Ao11 t415.length co11] 25 (0, 0)) (kb_ BK421.out) hb)
                            have n8_ := Aside0.mk (blk_below (g := gb432) (o := .cells #[.int .i64 t422, .slice Ao17 t423.length co17, .int .i64 t426, .int .i64 t427, .slice Ao18 t428.length co18] 25 (0, 0)) (kb_ BK432.out) hb)
                            have n9_ := Aside0.mk (blk_below (g := gb443) (o := .cells #[.int .i64 t433, .slice Ao25 t434.length co25, .int .i64 t437, .int .i64 t438, .slice Ao26 t439.length co26] 25 (0, 0)) (kb_ BK443.out) hb)
                            have n10_ := Aside0.mk (below_step (hb3_ HB.out GE421.out GE432.out GE443.out) hb)
                            clear HO_4
                            clear HO_422001
                            clear HO_422004
                            clear HO_433001
                            clear HO_433004
                            clear HO_444001
                            clear HO_444004
                            clear BK421
                            clear BK432
                            clear BK443
                            clear HB
                            have HO_4 := n0_
                            have HO_422001 := n1_
                            have HO_422004 := n2_
                            have HO_433001 := n3_
                            have HO_433004 := n4_
                            have HO_444001 := n5_
                            have HO_444004 := n6_
                            have BK421 := n7_
                            have BK432 := n8_
                            have BK443 := n9_
                            have HB := n10_
                            clear n0_ n1_ n2_ n3_ n4_ n5_ n6_ n7_ n8_ n9_ n10_
                            (try clear hb)
                            (try clear hb2)
                            (try clear hk)
                            (try clear hi)
                            refine hK.out _ _ ⟨(blk_cell BK432.out 0).trans rfl, (blk_cell BK432.out 1).trans rfl, (blk_cell BK432.out 2).trans rfl, (blk_cell BK432.out 3).trans rfl, (blk_cell BK432.out 4).trans rfl, (blk_cell BK421.out 0).trans rfl, (blk_cell BK421.out 1).trans rfl, (blk_cell BK421.out 2).trans rfl, (blk_cell BK421.out 3).trans rfl, (blk_cell BK421.out 4).trans rfl⟩ (fun hHeld => ?_)
                            clear hK K
                            refine nm_ 47 ?_
                            refine pu_ (i := 2) (N := some 48) HT_ ?_
                            refine pu_ (i := 3) (N := some 49) HT_ ?_
                            refine pu_ (i := 6) (N := some 52) HT_ ?_
                            refine pu_ (i := 9) (N := some 55) HT_ ?_
                            refine pu_ (i := 10) (N := some 56) HT_ ?_
                            have q69 : (t431 : Int) ≤ ((t418.length : Int) : Int) := of_decide_eq_true (by first | (with_reducible assumption) | assumption)
                            obtain ⟨i069, hi069, _, hsz69, _⟩ := info_parts info5
                            have hroom69 : t418.length ≤ co12 := (Kd.R_reads' HO_4.out).2.1
                            have hcut69 := cut_to (P := Try.prog) 22 5 .i64 Try.underlying22 hi069 Ao12 t418.length co12 t431 (of_decide_eq_true (by first | (with_reducible assumption) | assumption)) q69 hroom69
                            have hy69 : y454.length = (t431 : Int).toNat := (by rw [Ny454.out, List.length_take]; omega)
                            rw [← hy69] at hcut69
                            refine pu_ (i := 11) (N := some 57) HT_ ?_
                            refine tk_ (i := 4) (N := some 50) HT_ HW_ hHeld ?_
                            refine tk_ (i := 7) (N := some 53) HT_ HW_ hHeld ?_
                            refine on_ (i := 5) (N := some 51) HT_ (fun K hK => ?_)
                            refine Kd.R_lit_step (Kd.int .u8) _ 5 ?hg (N := 51) ?hd (xs := ([] : List Int)) (inner := []) (ok := fun _ => True) (okp := fun _ => True) ?hr ?hp (fun _ hk => hk) trivial (Below.refl _ _) (Nat.le_refl _) (by simp) ?_; (case hd => rfl); (case hg => rfl); (case hr => first | (go_simp; done) | (go_simp; rfl)); (case hp => exact (Reps.none _ _))
                            intro v449 w66 ho67 hb hg_ hnew_
                            clear hg_ hnew_
                            (first | rw [← Ny448.out] at ho67 | (simp only [Int.reduceToNat] at ho67; rw [← Ny448.out] at ho67))
                            have n0_ := Aside0.mk (Kd.R_elder' (kR_ HO_4.out) (Kd.R_base ho67) hb)
                            have n1_ := Aside0.mk (Kd.R_elder' (kR_ HO_422001.out) (Kd.R_base ho67) hb)
                            have n2_ := Aside0.mk (Kd.R_below (kR_ HO_422004.out) hb)
                            have n3_ := Aside0.mk (Kd.R_elder' (kR_ HO_433001.out) (Kd.R_base ho67) hb)
                            have n4_ := Aside0.mk (Kd.R_below (kR_ HO_433004.out) hb)
                            have n5_ := Aside0.mk (Kd.R_elder' (kR_ HO_444001.out) (Kd.R_base ho67) hb)
                            have n6_ := Aside0.mk (Kd.R_below (kR_ HO_444004.out) hb)
                            have n7_ := Aside0.mk (Kd.R_lower (Kd.R_new' (Kd.R_new' (Kd.R_new' (Kd.R_new' ho67 (Kd.R_lt (kR_ HO_4.out))) (Kd.R_lt (kR_ HO_422001.out))) (Kd.R_lt (kR_ HO_433001.out))) (Kd.R_lt (kR_ HO_444001.out))) (below_size (hb3_ HB.out GE421.out GE432.out GE443.out)))
                            have n8_ := Aside0.mk (blk_below (g := gb421) (o := .cells #[.int .i64 t409, .slice Ao10 t410.length co10, .int .i64 t413, .int .i64 t414, .slice Ao11 t415.length co11] 25 (0, 0)) (kb_ BK421.out) hb)
                            have n9_ := Aside0.mk (blk_below (g := gb432) (o := .cells #[.int .i64 t422, .slice Ao17 t423.length co17, .int .i64 t426, .int .i64 t427, .slice Ao18 t428.length co18] 25 (0, 0)) (kb_ BK432.out) hb)
                            have n10_ := Aside0.mk (blk_below (g := gb443) (o := .cells #[.int .i64 t433, .slice Ao25 t434.length co25, .int .i64 t437, .int .i64 t438, .slice Ao26 t439.length co26] 25 (0, 0)) (kb_ BK443.out) hb)
                            have n11_ := Aside0.mk (below_step (hb3_ HB.out GE421.out GE432.out GE443.out) hb)
                            clear HO_4
                            clear HO_422001
                            clear HO_422004
                            clear HO_433001
                            clear HO_433004
                            clear HO_444001
                            clear HO_444004
                            clear BK421
                            clear BK432
                            clear BK443
                            clear HB
                            have HO_4 := n0_
                            have HO_422001 := n1_
                            have HO_422004 := n2_
                            have HO_433001 := n3_
                            have HO_433004 := n4_
                            have HO_444001 := n5_
                            have HO_444004 := n6_
                            have HO450 := n7_
                            have BK421 := n8_
                            have BK432 := n9_
                            have BK443 := n10_
                            have HB := n11_
                            clear n0_ n1_ n2_ n3_ n4_ n5_ n6_ n7_ n8_ n9_ n10_ n11_
                            clear hb ho67
                            refine hK.out _ _ ⟨(blk_cell BK432.out 0).trans rfl, (blk_cell BK432.out 1).trans rfl, (blk_cell BK432.out 2).trans rfl, (blk_cell BK432.out 3).trans rfl, (blk_cell BK432.out 4).trans rfl, (blk_cell BK421.out 0).trans rfl, (blk_cell BK421.out 1).trans rfl, (blk_cell BK421.out 2).trans rfl, (blk_cell BK421.out 3).trans rfl, (blk_cell BK421.out 4).trans rfl⟩ (fun hHeld => ?_)
                            clear hK K
                            refine nm_ 51 ?_
                            refine on_ (i := 8) (N := some 54) HT_ (fun K hK => ?_)
                            refine Kd.R_append_rows_step (Kd.int .u8) (w0 := w) w.heap.size (by rfl) (.tmp 51) (.tmp 53) 22 5 (.int .u8 0) 1 rfl Try.underlying22 info5 rfl (by decide) (by omega) v449 y448 t410 _ _ _ (fun k_ => some k_ ≠ (.slice Ao12 t418.length co12 : Value).ownBlock ∧ some k_ ≠ (.slice Ao10 t410.length co10 : Value).ownBlock ∧ some k_ ≠ (.slice Ao17 t423.length co17 : Value).ownBlock ∧ some k_ ≠ (.slice Ao25 t434.length co25 : Value).ownBlock) (fun _ => False) rfl rfl ?aO ?aR (fun _ _ h => h) (fun _ h => h.elim) ?aF ?aB ?aS ?aL ?_
                            (case aR => exact kC_ (Kd.R_reads' HO_422001.out).2.2)
                            (case aB => exact (hb3_ HB.out GE421.out GE432.out GE443.out))
                            (case aF => exact (fun k_ hk => ⟨Kd.fresh' (Kd.R_lt (kR_ HO_4.out)) k_ hk, Kd.fresh' (Kd.R_lt (kR_ HO_422001.out)) k_ hk, Kd.fresh' (Kd.R_lt (kR_ HO_433001.out)) k_ hk, Kd.fresh' (Kd.R_lt (kR_ HO_444001.out)) k_ hk⟩))
                            (case aO => exact (by refine kR_ ?_; exact Kd.R_mono HO450.out (fun _ hk => op2_ hk)))
                            (case aS => exact (below_size (hb3_ HB.out GE421.out GE432.out GE443.out)))
                            (case aL => have := LMc40.out; omega)
                            intro v452 w68 ho hb hg hat
                            rw [← Ny451.out] at ho
                            have n0_ := Aside0.mk (Kd.R_after (ok := (fun k_ => some k_ ≠ (.slice Ao10 t410.length co10 : Value).ownBlock ∧ some k_ ≠ (.slice Ao17 t423.length co17 : Value).ownBlock ∧ some k_ ≠ (.slice Ao25 t434.length co25 : Value).ownBlock)) (kR_ HO_4.out) hg hat)
                            have n1_ := Aside0.mk (Kd.R_after (ok := (fun k_ => some k_ ≠ (.slice Ao12 t418.length co12 : Value).ownBlock ∧ some k_ ≠ (.slice Ao17 t423.length co17 : Value).ownBlock ∧ some k_ ≠ (.slice Ao25 t434.length co25 : Value).ownBlock)) (kR_ HO_422001.out) hg hat)
                            have n2_ := Aside0.mk (Kd.R_over' (kR_ HO_422004.out) (Kd.R_typed (kR_ HO450.out)) (by decide) hg)
                            have n3_ := Aside0.mk (Kd.R_after (ok := (fun k_ => some k_ ≠ (.slice Ao12 t418.length co12 : Value).ownBlock ∧ some k_ ≠ (.slice Ao10 t410.length co10 : Value).ownBlock ∧ some k_ ≠ (.slice Ao25 t434.length co25 : Value).ownBlock)) (kR_ HO_433001.out) hg hat)
                            have n4_ := Aside0.mk (Kd.R_over' (kR_ HO_433004.out) (Kd.R_typed (kR_ HO450.out)) (by decide) hg)
                            have n5_ := Aside0.mk (Kd.R_after (ok := (fun k_ => some k_ ≠ (.slice Ao12 t418.length co12 : Value).ownBlock ∧ some k_ ≠ (.slice Ao10 t410.length co10 : Value).ownBlock ∧ some k_ ≠ (.slice Ao17 t423.length co17 : Value).ownBlock)) (kR_ HO_444001.out) hg hat)
                            have n6_ := Aside0.mk (Kd.R_over' (kR_ HO_444004.out) (Kd.R_typed (kR_ HO450.out)) (by decide) hg)
                            have n7_ := Aside0.mk (blk_grown (g := gb421) (o := .cells #[.int .i64 t409, .slice Ao10 t410.length co10, .int .i64 t413, .int .i64 t414, .slice Ao11 t415.length co11] 25 (0, 0)) (kb_ BK421.out) hg (Kd.R_ne HO450.out BK421.out (by decide)))
                            have n8_ := Aside0.mk (blk_grown (g := gb432) (o := .cells #[.int .i64 t422, .slice Ao17 t423.length co17, .int .i64 t426, .int .i64 t427, .slice Ao18 t428.length co18] 25 (0, 0)) (kb_ BK432.out) hg (Kd.R_ne HO450.out BK432.out (by decide)))
                            have n9_ := Aside0.mk (blk_grown (g := gb443) (o := .cells #[.int .i64 t433, .slice Ao25 t434.length co25, .int .i64 t437, .int .i64 t438, .slice Ao26 t439.length co26] 25 (0, 0)) (kb_ BK443.out) hg (Kd.R_ne HO450.out BK443.out (by decide)))
                            have n10_ := Aside0.mk (hb)
                            have n11_ := Aside0.mk (ho)
                            clear HO_4
                            clear HO_422001
                            clear HO_422004
                            clear HO_433001
                            clear HO_433004
                            clear HO_444001
                            clear HO_444004
                            clear BK421
                            clear BK432
                            clear BK443
                            clear HB
                            clear HO450
                            have HO_4 := n0_
                            have HO_422001 := n1_
                            have HO_422004 := n2_
                            have HO_433001 := n3_
                            have HO_433004 := n4_
                            have HO_444001 := n5_
                            have HO_444004 := n6_
                            have BK421 := n7_
                            have BK432 := n8_
                            have BK443 := n9_
                            have HB := n10_
                            have HO453 := n11_
                            clear n0_ n1_ n2_ n3_ n4_ n5_ n6_ n7_ n8_ n9_ n10_ n11_
                            clear ho hb hg hat
                            have q69 : (t431 : Int) ≤ ((t418.length : Int) : Int) := of_decide_eq_true (by first | (with_reducible assumption) | assumption)
                            obtain ⟨i069, hi069, _, hsz69, _⟩ := info_parts info5
                            have hroom69 : t418.length ≤ co12 := (Kd.R_reads' HO_4.out).2.1
                            have hC69 : Kd.C (Kd.int .u8) _ Ao12 t418.length t418 := (Kd.R_reads' HO_4.out).2.2
                            have hcut69 := cut_to (P := Try.prog) 22 5 .i64 Try.underlying22 hi069 Ao12 t418.length co12 t431 (of_decide_eq_true (by first | (with_reducible assumption) | assumption)) q69 hroom69
                            have hr69 := Kd.C_take (m := (t431 : Int).toNat) hC69 (by omega)
                            have hy69 : y454.length = (t431 : Int).toNat := (by rw [Ny454.out, List.length_take]; omega)
                            rw [← Ny454.out] at hr69
                            rw [← hy69] at hcut69
                            have HR457 := Aside0.mk hr69
                            have HC457 := Aside0.mk (show y454.length ≤ co12 from by omega)
                            clear hr69 hC69 hroom69 hi069 hsz69
                            have KY69 := Aside0.mk hy69
                            clear hy69
                            have KL69 := Aside0.mk (show (t431 : Int).toNat ≤ t418.length from by omega)
                            replace q69 := eq_true q69
                            refine hK.out _ _ ⟨(blk_cell BK432.out 0).trans rfl, (blk_cell BK432.out 1).trans rfl, (blk_cell BK432.out 2).trans rfl, (blk_cell BK432.out 3).trans rfl, (blk_cell BK432.out 4).trans rfl, (blk_cell BK421.out 0).trans rfl, (blk_cell BK421.out 1).trans rfl, (blk_cell BK421.out 2).trans rfl, (blk_cell BK421.out 3).trans rfl, (blk_cell BK421.out 4).trans rfl⟩ (fun hHeld => ?_)
                            clear hK K
                            refine nm_ 54 ?_
                            refine on_ (i := 12) (N := some 58) HT_ (fun K hK => ?_)
                            refine Kd.R_append_rows_step (Kd.int .u8) (w0 := w) w.heap.size (by rfl) (.tmp 54) (.tmp 57) 22 5 (.int .u8 0) 1 rfl Try.underlying22 info5 rfl (by decide) (by omega) v452 y451 y454 _ _ _ (fun k_ => some k_ ≠ (.slice Ao12 t418.length co12 : Value).ownBlock ∧ some k_ ≠ (.slice Ao10 t410.length co10 : Value).ownBlock ∧ some k_ ≠ (.slice Ao17 t423.length co17 : Value).ownBlock ∧ some k_ ≠ (.slice Ao25 t434.length co25 : Value).ownBlock) (fun _ => False) rfl rfl ?aO ?aR (fun _ _ h => h) (fun _ h => h.elim) ?aF ?aB ?aS ?aL ?_
                            (case aR => exact len2_ (kC_ (by repeat (first | (with_reducible exact HR457.out) | (with_reducible exact Kd.C_drewN HR457.out _) | (with_reducible refine Kd.C_alloc ?_ _) | (with_reducible refine Kd.C_drewN ?_ _) | (with_reducible refine Kd.C_drew ?_) | exact HR457.out))) (by first | rfl | exact KY69.out))
                            (case aB => exact (hb3_ HB.out GE421.out GE432.out GE443.out))
                            (case aF => exact (fun k_ hk => ⟨Kd.fresh' (Kd.R_lt (kR_ HO_4.out)) k_ hk, Kd.fresh' (Kd.R_lt (kR_ HO_422001.out)) k_ hk, Kd.fresh' (Kd.R_lt (kR_ HO_433001.out)) k_ hk, Kd.fresh' (Kd.R_lt (kR_ HO_444001.out)) k_ hk⟩))
                            (case aO => exact (kR_ HO453.out))
                            (case aS => exact (below_size (hb3_ HB.out GE421.out GE432.out GE443.out)))
                            (case aL => have := LMc43.out; omega)
                            intro v459 w70 ho hb hg hat
                            rw [← Ny458.out] at ho
                            have n0_ := Aside0.mk (Kd.R_after (ok := (fun k_ => some k_ ≠ (.slice Ao10 t410.length co10 : Value).ownBlock ∧ some k_ ≠ (.slice Ao17 t423.length co17 : Value).ownBlock ∧ some k_ ≠ (.slice Ao25 t434.length co25 : Value).ownBlock)) (kR_ HO_4.out) hg hat)
                            have n1_ := Aside0.mk (Kd.R_after (ok := (fun k_ => some k_ ≠ (.slice Ao12 t418.length co12 : Value).ownBlock ∧ some k_ ≠ (.slice Ao17 t423.length co17 : Value).ownBlock ∧ some k_ ≠ (.slice Ao25 t434.length co25 : Value).ownBlock)) (kR_ HO_422001.out) hg hat)
                            have n2_ := Aside0.mk (Kd.R_over' (kR_ HO_422004.out) (Kd.R_typed (kR_ HO453.out)) (by decide) hg)
                            have n3_ := Aside0.mk (Kd.R_after (ok := (fun k_ => some k_ ≠ (.slice Ao12 t418.length co12 : Value).ownBlock ∧ some k_ ≠ (.slice Ao10 t410.length co10 : Value).ownBlock ∧ some k_ ≠ (.slice Ao25 t434.length co25 : Value).ownBlock)) (kR_ HO_433001.out) hg hat)
                            have n4_ := Aside0.mk (Kd.R_over' (kR_ HO_433004.out) (Kd.R_typed (kR_ HO453.out)) (by decide) hg)
                            have n5_ := Aside0.mk (Kd.R_after (ok := (fun k_ => some k_ ≠ (.slice Ao12 t418.length co12 : Value).ownBlock ∧ some k_ ≠ (.slice Ao10 t410.length co10 : Value).ownBlock ∧ some k_ ≠ (.slice Ao17 t423.length co17 : Value).ownBlock)) (kR_ HO_444001.out) hg hat)
                            have n6_ := Aside0.mk (Kd.R_over' (kR_ HO_444004.out) (Kd.R_typed (kR_ HO453.out)) (by decide) hg)
                            have n7_ := Aside0.mk (blk_grown (g := gb421) (o := .cells #[.int .i64 t409, .slice Ao10 t410.length co10, .int .i64 t413, .int .i64 t414, .slice Ao11 t415.length co11] 25 (0, 0)) (kb_ BK421.out) hg (Kd.R_ne HO453.out BK421.out (by decide)))
                            have n8_ := Aside0.mk (blk_grown (g := gb432) (o := .cells #[.int .i64 t422, .slice Ao17 t423.length co17, .int .i64 t426, .int .i64 t427, .slice Ao18 t428.length co18] 25 (0, 0)) (kb_ BK432.out) hg (Kd.R_ne HO453.out BK432.out (by decide)))
                            have n9_ := Aside0.mk (blk_grown (g := gb443) (o := .cells #[.int .i64 t433, .slice Ao25 t434.length co25, .int .i64 t437, .int .i64 t438, .slice Ao26 t439.length co26] 25 (0, 0)) (kb_ BK443.out) hg (Kd.R_ne HO453.out BK443.out (by decide)))
                            have n10_ := Aside0.mk (hb)
                            have n11_ := Aside0.mk ((show Kd.C (Kd.int .u8) w70 Ao12 y454.length y454 from by rw [Ny454.out]; exact Kd.C_take (m := (t431 : Int).toNat) ((Kd.R_reads' (Kd.R_after (ok := (fun k_ => some k_ ≠ (.slice Ao10 t410.length co10 : Value).ownBlock ∧ some k_ ≠ (.slice Ao17 t423.length co17 : Value).ownBlock ∧ some k_ ≠ (.slice Ao25 t434.length co25 : Value).ownBlock)) (kR_ HO_4.out) hg hat)).2.2) KL69.out))
                            have n12_ := Aside0.mk (ho)
                            clear HO_4
                            clear HO_422001
                            clear HO_422004
                            clear HO_433001
                            clear HO_433004
                            clear HO_444001
                            clear HO_444004
                            clear BK421
                            clear BK432
                            clear BK443
                            clear HB
                            clear HR457
                            clear HO453
                            have HO_4 := n0_
                            have HO_422001 := n1_
                            have HO_422004 := n2_
                            have HO_433001 := n3_
                            have HO_433004 := n4_
                            have HO_444001 := n5_
                            have HO_444004 := n6_
                            have BK421 := n7_
                            have BK432 := n8_
                            have BK443 := n9_
                            have HB := n10_
                            have HR457 := n11_
                            have HO460 := n12_
                            clear n0_ n1_ n2_ n3_ n4_ n5_ n6_ n7_ n8_ n9_ n10_ n11_ n12_
                            clear ho hb hg hat
                            obtain ⟨Ao71, co71, eo71⟩ := Kd.R_slice HO460.out
                            (first | subst eo71 | (injection eo71 with f1_ f2_ f3_; have f4_ := f1_.symm; have f5_ := f3_.symm; clear f1_ f2_ f3_; subst f4_; subst f5_))
                            refine hK.out _ _ ⟨(blk_cell BK432.out 0).trans rfl, (blk_cell BK432.out 1).trans rfl, (blk_cell BK432.out 2).trans rfl, (blk_cell BK432.out 3).trans rfl, (blk_cell BK432.out 4).trans rfl, (blk_cell BK421.out 0).trans rfl, (blk_cell BK421.out 1).trans rfl, (blk_cell BK421.out 2).trans rfl, (blk_cell BK421.out 3).trans rfl, (blk_cell BK421.out 4).trans rfl⟩ (fun hHeld => ?_)
                            clear hK K
                            refine nm_ 58 ?_
                            refine on_ (i := 13) (N := some 59) HT_ (fun K hK => ?_)
                            refine goes_ Try.func12 (by kernel_rfl) rfl #[.slice Ao17 t423.length co17, .slice Ao71 y458.length co71] (by rfl) rfl rfl ar_ ?_
                            with_reducible refine (laws_sameBytes.calls _ _ t423 _ _ y458 true _ ?side1 ?side2 ?side3 ?side4 A44.out).mono ?_
                            (case side1 => exact kC_ (Kd.R_reads' HO_433001.out).2.2)
                            (case side2 => exact (Kd.R_reads' HO_433001.out).2.1)
                            (case side3 => exact kC_ (Kd.R_reads' HO460.out).2.2)
                            (case side4 => exact (Kd.R_reads' HO460.out).2.1)
                            rintro e w' ⟨rfl, ⟨nd, rfl⟩⟩
                            refine ⟨_, rfl, ?_⟩
                            refine hK.out _ _ ⟨(blk_cell BK432.out 0).trans rfl, (blk_cell BK432.out 1).trans rfl, (blk_cell BK432.out 2).trans rfl, (blk_cell BK432.out 3).trans rfl, (blk_cell BK432.out 4).trans rfl, (blk_cell BK421.out 0).trans rfl, (blk_cell BK421.out 1).trans rfl, (blk_cell BK421.out 2).trans rfl, (blk_cell BK421.out 3).trans rfl, (blk_cell BK421.out 4).trans rfl⟩ (fun hHeld => ?_)
                            clear hK K
                            refine nm_ 59 ?_
                            refine pu_ (i := 14) (N := some 60) HT_ ?_
                            refine pu_ (i := 15) (N := some 61) HT_ ?_
                            refine pu_ (i := 16) (N := some 62) HT_ ?_
                            refine pu_ (i := 17) (N := some 63) HT_ ?_
                            refine pu_ (i := 18) (N := some 64) HT_ ?_
                            refine pu_ (i := 19) (N := some 65) HT_ ?_
                            refine pu_ (i := 20) (N := some 66) HT_ ?_
                            refine pu_ (i := 21) (N := some 67) HT_ ?_
                            refine tk_ (i := 22) (N := some 68) HT_ HW_ hHeld ?_
                            refine pu_ (i := 23) (N := some 69) HT_ ?_
                            refine pu_ (i := 24) (N := some 70) HT_ ?_
                            refine pu_ (i := 25) (N := some 71) HT_ ?_
                            refine pu_ (i := 26) (N := some 72) HT_ ?_
                            refine pu_ (i := 27) (N := some 73) HT_ ?_
                            refine pu_ (i := 28) (N := some 74) HT_ ?_
                            refine pu_ (i := 30) (N := some 76) HT_ ?_
                            refine tk_ (i := 29) (N := some 75) HT_ HW_ hHeld ?_
                            refine tk_ (i := 31) (N := some 77) HT_ HW_ hHeld ?_
                            refine pu_ (i := 32) (N := some 78) HT_ ?_
                            refine pu_ (i := 33) (N := some 79) HT_ ?_
                            refine pu_ (i := 34) (N := some 2) HT_ ?_
                            refine done_ (done_of HT_.out (by kernel_rfl)) ?_
                            try go_wp2
                            go_ret
                            exact ⟨by first | rfl | (simp [errW_none, errW_some] <;> rfl) | (simp [*, errW_none, errW_some] <;> rfl), by repeat (first | (with_reducible first | exact HB.out | apply below_alloc | apply pw_below_drewN | apply below_drew1 | refine below_set ?_ GE421.out | refine below_set ?_ GE432.out | refine below_set ?_ GE443.out) | exact HB.out)⟩
                          · rw [if_neg c59] at H
                            have c59b0 : ((t423.length : Int) == 32) = false := beq_eq_false_iff_ne.mpr c59
                            have c59b1 : ((t423.length : Int) != 32) = true := bne_iff_ne.mpr c59
                            exact absurd (Option.some.inj H) (by rw [HLW.out]; exact Bool.false_ne_true)
                      · replace c45 := Bool.eq_false_iff.mpr c45
                        subst c45
                        have H1 : (some false) = some r := by rw [if_neg (show ¬ (false = true) by decide)] at H; exact H
                        clear H
                        have H := H1
                        clear H1
                        exact absurd (Option.some.inj H) (by rw [HLW.out]; exact Bool.false_ne_true)
                    · rw [if_neg c43] at H
                      exact absurd H (by simp)
                  · rw [if_neg c42] at H
                    exact absurd H (by simp)
                · rw [if_neg c41] at H
                  exact absurd H (by simp)
              · rw [if_neg c40] at H
                exact absurd H (by simp)
            · replace c39 := Bool.eq_false_iff.mpr c39
              subst c39
              have H1 : (some false) = some r := by rw [if_neg (show ¬ (false = true) by decide)] at H; exact H
              clear H
              have H := H1
              clear H1
              exact absurd (Option.some.inj H) (by rw [HLW.out]; exact Bool.false_ne_true)
          · replace c37 := Bool.eq_false_iff.mpr c37
            subst c37
            have H1 : (if t431 = 0 then ((laws_alive.f kj5).bind fun t446 => (some t446)) else (some false)) = some r := by rw [if_neg (show ¬ (false = true) by decide)] at H; exact H
            clear H
            have H := H1
            clear H1
            by_cases c72 : t431 = 0
            · rw [if_pos c72] at H
              have c72b0 : (t431 == 0) = true := beq_iff_eq.mpr c72
              have c72b1 : (t431 != 0) = false := bne_eq_false_iff_eq.mpr c72
              clear c72
              replace H := Option.bind_eq_some_iff.mp H
              obtain ⟨t446, A730, H⟩ := H
              replace H : (some t446) = some r := H
              have A73 := Aside0.mk A730
              clear A730
              obtain rfl := Option.some.inj H
              have hnb74 := NB421_432.out
              have hnc74 := NB432_421.out
              have hnb75 := NB421_443.out
              have hnc75 := NB443_421.out
              have hcz76_0 : wc.cell? ⟨gb421, 0, none⟩ = some (.int .i64 t409) := (blk_cell BK421.out 0).trans rfl
              have hcz76_1 : wc.cell? ⟨gb421, 1, none⟩ = some (.slice Ao10 t410.length co10) := (blk_cell BK421.out 1).trans rfl
              have hcz76_2 : wc.cell? ⟨gb421, 2, none⟩ = some (.int .i64 t413) := (blk_cell BK421.out 2).trans rfl
              have hcz76_3 : wc.cell? ⟨gb421, 3, none⟩ = some (.int .i64 t414) := (blk_cell BK421.out 3).trans rfl
              have hcz76_4 : wc.cell? ⟨gb421, 4, none⟩ = some (.slice Ao11 t415.length co11) := (blk_cell BK421.out 4).trans rfl
              have hfz76_0 := blk_frozen BK421.out 0
              have hfz76_1 := blk_frozen BK421.out 1
              have hfz76_2 := blk_frozen BK421.out 2
              have hfz76_3 := blk_frozen BK421.out 3
              have hfz76_4 := blk_frozen BK421.out 4
              go_wp2_with (first | ((with_reducible refine gate_callee (f := 10) rfl ?_); refine goesL_ (some 39) rfl rfl Try.func10 (by kernel_rfl) rfl #[.agg #[.int .i64 t409, .slice Ao10 t410.length co10, .int .i64 t413, .int .i64 t414, .slice Ao11 t415.length co11]] rfl ar_ ?_; (with_reducible refine (impl_MouthOk.calls kj5 t409 _ _ t410 t413 t414 _ _ t415 false _ ?side1 ?side2 ?side3 ?side4 A36.out).mono ?_); (case side1 => exact kC_ (Kd.R_reads' HO_422001.out).2.2); (case side2 => exact (Kd.R_reads' HO_422001.out).2.1); (case side3 => exact kC_ (Kd.R_reads' HO_422004.out).2.2); (case side4 => exact (Kd.R_reads' HO_422004.out).2.1); rintro e w77 ⟨rfl, hb⟩; refine ⟨_, rfl, ?_⟩; have n0_ := Aside0.mk (Kd.R_below (kR_ HO_4.out) hb); have n1_ := Aside0.mk (Kd.R_below (kR_ HO_422001.out) hb); have n2_ := Aside0.mk (Kd.R_below (kR_ HO_422004.out) hb); have n3_ := Aside0.mk (Kd.R_below (kR_ HO_433001.out) hb); have n4_ := Aside0.mk (Kd.R_below (kR_ HO_433004.out) hb); have n5_ := Aside0.mk (Kd.R_below (kR_ HO_444001.out) hb); have n6_ := Aside0.mk (Kd.R_below (kR_ HO_444004.out) hb); have n7_ := Aside0.mk (blk_below (g := gb421) (o := .cells #[.int .i64 t409, .slice Ao10 t410.length co10, .int .i64 t413, .int .i64 t414, .slice Ao11 t415.length co11] 25 (0, 0)) (kb_ BK421.out) hb); have n8_ := Aside0.mk (blk_below (g := gb432) (o := .cells #[.int .i64 t422, .slice Ao17 t423.length co17, .int .i64 t426, .int .i64 t427, .slice Ao18 t428.length co18] 25 (0, 0)) (kb_ BK432.out) hb); have n9_ := Aside0.mk (blk_below (g := gb443) (o := .cells #[.int .i64 t433, .slice Ao25 t434.length co25, .int .i64 t437, .int .i64 t438, .slice Ao26 t439.length co26] 25 (0, 0)) (kb_ BK443.out) hb); have n10_ := Aside0.mk (below_step (hb3_ HB.out GE421.out GE432.out GE443.out) hb); clear HO_4; clear HO_422001; clear HO_422004; clear HO_433001; clear HO_433004; clear HO_444001; clear HO_444004; clear BK421; clear BK432; clear BK443; clear HB; have HO_4 := n0_; have HO_422001 := n1_; have HO_422004 := n2_; have HO_433001 := n3_; have HO_433004 := n4_; have HO_444001 := n5_; have HO_444004 := n6_; have BK421 := n7_; have BK432 := n8_; have BK443 := n9_; have HB := n10_; clear n0_ n1_ n2_ n3_ n4_ n5_ n6_ n7_ n8_ n9_ n10_; (try clear hb); (try clear hb2); (try clear hk); (try clear hi)) | (go_at_call 11; (with_reducible refine (laws_alive.calls kj5  t446 _ A73.out).mono ?_); rintro e w78 ⟨rfl, hb⟩; have n0_ := Aside0.mk (Kd.R_below (kR_ HO_4.out) hb); have n1_ := Aside0.mk (Kd.R_below (kR_ HO_422001.out) hb); have n2_ := Aside0.mk (Kd.R_below (kR_ HO_422004.out) hb); have n3_ := Aside0.mk (Kd.R_below (kR_ HO_433001.out) hb); have n4_ := Aside0.mk (Kd.R_below (kR_ HO_433004.out) hb); have n5_ := Aside0.mk (Kd.R_below (kR_ HO_444001.out) hb); have n6_ := Aside0.mk (Kd.R_below (kR_ HO_444004.out) hb); have n7_ := Aside0.mk (blk_below (g := gb421) (o := .cells #[.int .i64 t409, .slice Ao10 t410.length co10, .int .i64 t413, .int .i64 t414, .slice Ao11 t415.length co11] 25 (0, 0)) (kb_ BK421.out) hb); have n8_ := Aside0.mk (blk_below (g := gb432) (o := .cells #[.int .i64 t422, .slice Ao17 t423.length co17, .int .i64 t426, .int .i64 t427, .slice Ao18 t428.length co18] 25 (0, 0)) (kb_ BK432.out) hb); have n9_ := Aside0.mk (blk_below (g := gb443) (o := .cells #[.int .i64 t433, .slice Ao25 t434.length co25, .int .i64 t437, .int .i64 t438, .slice Ao26 t439.length co26] 25 (0, 0)) (kb_ BK443.out) hb); have n10_ := Aside0.mk (below_step (hb3_ HB.out GE421.out GE432.out GE443.out) hb); clear HO_4; clear HO_422001; clear HO_422004; clear HO_433001; clear HO_433004; clear HO_444001; clear HO_444004; clear BK421; clear BK432; clear BK443; clear HB; have HO_4 := n0_; have HO_422001 := n1_; have HO_422004 := n2_; have HO_433001 := n3_; have HO_433004 := n4_; have HO_444001 := n5_; have HO_444004 := n6_; have BK421 := n7_; have BK432 := n8_; have BK443 := n9_; have HB := n10_; clear n0_ n1_ n2_ n3_ n4_ n5_ n6_ n7_ n8_ n9_ n10_; (try clear hb); (try clear hb2); (try clear hk); (try clear hi)))
              go_ret
              exact ⟨by first | rfl | (simp [errW_none, errW_some] <;> rfl) | (simp [*, errW_none, errW_some] <;> rfl), by repeat (first | (with_reducible first | exact HB.out | apply below_alloc | apply pw_below_drewN | apply below_drew1 | refine below_set ?_ GE421.out | refine below_set ?_ GE432.out | refine below_set ?_ GE443.out) | exact HB.out)⟩
            · rw [if_neg c72] at H
              have c72b0 : (t431 == 0) = false := beq_eq_false_iff_ne.mpr c72
              have c72b1 : (t431 != 0) = true := bne_iff_ne.mpr c72
              exact absurd (Option.some.inj H) (by rw [HLW.out]; exact Bool.false_ne_true)

/-- THE ONE PURE STATEMENT of laws_FnMouthWrite: yours. -/
def laws_FnMouthWrite.Pure : Prop := ∀ (l0 : List Int), l0.length ≤ maxLen → l0.length * 1 ≤ 140737488351232 → (∀ x ∈ l0, (Lit.int .u8 x).wf = true) → ∃ k, laws_FnMouthWrite.f k l0 = some true
theorem laws_FnMouthWrite.walk (P : laws_FnMouthWrite.Pure) (a0 : Option Addr) (len0 cap0 : Nat) (z0 : List Int) (w : World) (w0 : (a0 = none ∧ len0 = 0 ∧ cap0 = 0 ∧ z0 = []) ∨ ∃ x, a0 = some x ∧ len0 ≤ cap0 ∧ cap0 ≤ maxLen ∧ z0.length = cap0 ∧ (∀ i, i < z0.length → w.cell? (x.add i) = some (.int .u8 (z0.getD i 0))) ∧ ∀ n ∈ z0, (Lit.int .u8 n).wf = true) (y0 : len0 * 1 ≤ 140737488351232) :
    Calls Try.prog 3 #[.slice a0 len0 cap0] w fun e w' => e = .returned (.bool true) ∧ Below w.heap.size w w' := by
  obtain ⟨l0, rfl, hr0, hm0, hw0, hc0⟩ := ReadsInt.ofRowC w0
  obtain ⟨k, h⟩ := P l0 hm0 y0 hw0
  refine (laws_FnMouthWrite.calls k _ _ l0 true w (Kd.C_of_reads (d := (0 : Int)) (h1 := fun _ => rfl) hr0) hc0 h rfl).mono ?_
  rintro e w' ⟨rfl, hd⟩
  exact ⟨rfl, hd⟩

end Go.Proofs.Ytjiodkbbmhhccab.PFnMouthWrite
