/- Printed by wip/xp/xprint.sh out of the translation, for this claim: what each function answers, as a plain function, and that the machine does just that. No condition. -/
import Derived.Test.YtjiodkbbmhhccabPFnMouthWritex0
import Derived.Test.YtjiodkbbmhhccabPFnMouthWritex9
namespace Go.Proofs.Ytjiodkbbmhhccab.PFnMouthWrite
open Go.RowKit Go.Proofs.YtjiodkbbmhhccabW.PrintWords Go.Proofs.YtjiodkbbmhhccabW.PrintLast Go.Proofs.YtjiodkbbmhhccabW.PrintMore
attribute [local go_sem] max2_int min2_int max_two min_two max_three min_three max_four min_four   -- for this text's walks alone
set_option linter.unusedVariables false
set_option linter.unusedSimpArgs false

/-! ### impl_MouthOk: function 10 -/
def impl_MouthOk.f (k : Nat) (a0_0 : Int) (l0_1 : List Int) (a0_2 : Int) (a0_3 : Int) (l0_4 : List (S60)) : Option (Bool) := (impl_in.f a0_0 0 1000000).bind fun t341 => (if t341 = true then (if (l0_1.length : Int) ≤ 32 then ((impl_in.f a0_2 0 (l0_1.length : Int)).bind fun t342 => (if t342 = true then ((impl_in.f a0_3 0 255).bind fun t343 => (if t343 = true then (if (l0_4.length : Int) ≤ 2 then ((impl_rangesOk.f k l0_4 a0_0 (wrap64 (a0_0 + a0_2))).bind fun t344 => ((impl_Range_37.f k t344 l0_4).bind fun t347 => (some t347))) else (some false)) else (some false))) else (some false))) else (some false)) else (some false))
theorem impl_MouthOk.mono : ∀ a0 a1 a2 a3 a4 k, LeO (impl_MouthOk.f k a0 a1 a2 a3 a4) (impl_MouthOk.f (k + 1) a0 a1 a2 a3 a4) := by
  intro a0 a1 a2 a3 a4 k
  unfold impl_MouthOk.f
  repeat' first
      | (with_reducible exact impl_Range_37.mono _ _ _)
      | (with_reducible exact impl_rangesOk.mono _ _ _ _)
      | (with_reducible exact LeO.refl _)
      | (with_reducible exact LeO.none _)
      | (with_reducible refine LeO.ite ?_ ?_)
      | (with_reducible refine LeO.bind ?_ (fun _ => ?_))
      | exact impl_Range_37.mono _ _ _
      | exact impl_rangesOk.mono _ _ _ _
      | exact LeO.none _
      | refine LeO.ite ?_ ?_
      | refine LeO.bind ?_ (fun _ => ?_)
def impl_MouthOk.T1 : Bool × List (List Nat × List Nat) := (true, [([], []), ([0], [0]), ([1], [1]), ([2, 2], [2]), ([3], [3]), ([4, 3], [3, 4]), ([5, 3], [3, 5]), ([6, 3], [3, 6]), ([3, 7], [3, 7]), ([8, 3], [8]), ([9], [9]), ([10, 9], [9, 10]), ([9], [9]), ([12, 9], [9, 12]), ([13, 9], [9, 13]), ([11, 14, 9, 9], [9, 11, 14]), ([9, 15], [9, 15]), ([16, 15], [16]), ([17], [17]), ([18, 17], [17, 18]), ([19, 17, 17], [17, 19]), ([17, 20], [17, 20]), ([21, 20], [21]), ([22], [22]), ([23, 22], [22, 23]), ([24, 22], [22, 24]), ([25, 22], [22, 25]), ([22, 26], [22, 26]), ([27, 22], [27]), ([28], [28]), ([29, 28], [28, 29]), ([28], [28]), ([31, 28], [28, 31]), ([28], [28]), ([33, 28], [28, 33]), ([28], [28]), ([35, 28], [28, 35]), ([34, 36, 28], [28, 34, 36]), ([30, 32, 37, 28, 28], [28, 30, 32, 37]), ([28], [28]), ([39, 28], [28, 39]), ([38, 40, 38, 28], [28, 38, 40]), ([28, 41], [28, 41]), ([42, 41, 0, 1, 2, 3, 4, 5, 6, 7, 8, 9, 10, 11, 12, 13, 14, 15, 16, 17, 18, 19, 20, 21, 22, 23, 24, 25, 26, 27, 28, 29, 30, 31, 32, 33, 34, 35, 36, 37, 38, 39, 40, 41, 42], [42])])
def impl_MouthOk.B1 : List Nat := [0, 1, 3, 7, 15, 31, 63, 127, 255, 511, 1023, 2047, 1023, 5119, 13311, 32767, 65535, 131071, 262143, 524287, 1048575, 2097151, 4194303, 8388607, 16777215, 33554431, 67108863, 134217727, 268435455, 536870911, 1073741823, 536870911, 2684354559, 536870911, 9126805503, 536870911, 34896609279, 129385889791, 274877906943, 536870911, 550292684799, 2199023255551, 4398046511103, 8796093022207]
theorem impl_MouthOk.tab1 : rtab .any (opsOf Try.f10 1) = impl_MouthOk.T1 := by kernel_rfl
theorem impl_MouthOk.bits1 : waitsOk impl_MouthOk.T1.2 impl_MouthOk.B1 = true := by kernel_rfl
set_option maxHeartbeats 8000000 in
set_option maxRecDepth 100000 in
theorem impl_MouthOk.calls (k : Nat) (a0_0 : Int) (A0_1 : Option Addr) (c0_1 : Nat) (l0_1 : List Int) (a0_2 : Int) (a0_3 : Int) (A0_4 : Option Addr) (c0_4 : Nat) (l0_4 : List (S60)) (r : Bool) (w : World) (hr0_1 : Kd.C (Kd.int .u8) w A0_1 l0_1.length l0_1) (hc0_1 : l0_1.length ≤ c0_1) (hr0_4 : Kd.C k60 w A0_4 l0_4.length l0_4) (hc0_4 : l0_4.length ≤ c0_4) (h : impl_MouthOk.f k a0_0 l0_1 a0_2 a0_3 l0_4 = some r) :
    Calls Try.prog 10 #[.agg #[.int .i64 a0_0, .slice A0_1 l0_1.length c0_1, .int .i64 a0_2, .int .i64 a0_3, .slice A0_4 l0_4.length c0_4]] w fun e w' => e = .returned (.bool r) ∧ Below w.heap.size w w' := by
  have hu25 := Try.underlying25
  have HR0_1 := Aside0.mk hr0_1
  have HC0_1 := Aside0.mk hc0_1
  clear hr0_1 hc0_1
  have HR0_4 := Aside0.mk hr0_4
  have HC0_4 := Aside0.mk hc0_4
  clear hr0_4 hc0_4
  have HB := Aside0.mk (Below.refl w.heap.size w)
  have H : ((impl_in.f a0_0 0 1000000).bind fun t341 => (if t341 = true then (if (l0_1.length : Int) ≤ 32 then ((impl_in.f a0_2 0 (l0_1.length : Int)).bind fun t342 => (if t342 = true then ((impl_in.f a0_3 0 255).bind fun t343 => (if t343 = true then (if (l0_4.length : Int) ≤ 2 then ((impl_rangesOk.f k l0_4 a0_0 (wrap64 (a0_0 + a0_2))).bind fun t344 => ((impl_Range_37.f k t344 l0_4).bind fun t347 => (some t347))) else (some false)) else (some false))) else (some false))) else (some false)) else (some false))) = some r := h
  clear h
  replace H := Option.bind_eq_some_iff.mp H
  obtain ⟨t341, A20, H⟩ := H
  replace H : (if t341 = true then (if (l0_1.length : Int) ≤ 32 then ((impl_in.f a0_2 0 (l0_1.length : Int)).bind fun t342 => (if t342 = true then ((impl_in.f a0_3 0 255).bind fun t343 => (if t343 = true then (if (l0_4.length : Int) ≤ 2 then ((impl_rangesOk.f k l0_4 a0_0 (wrap64 (a0_0 + a0_2))).bind fun t344 => ((impl_Range_37.f k t344 l0_4).bind fun t347 => (some t347))) else (some false)) else (some false))) else (some false))) else (some false)) else (some false)) = some r := H
  have A2 := Aside0.mk A20
  clear A20
  by_cases c3 : t341 = true
  · subst c3
    have H1 : (if (l0_1.length : Int) ≤ 32 then ((impl_in.f a0_2 0 (l0_1.length : Int)).bind fun t342 => (if t342 = true then ((impl_in.f a0_3 0 255).bind fun t343 => (if t343 = true then (if (l0_4.length : Int) ≤ 2 then ((impl_rangesOk.f k l0_4 a0_0 (wrap64 (a0_0 + a0_2))).bind fun t344 => ((impl_Range_37.f k t344 l0_4).bind fun t347 => (some t347))) else (some false)) else (some false))) else (some false))) else (some false)) = some r := by rw [if_pos rfl] at H; exact H
    clear H
    have H := H1
    clear H1
    by_cases c4 : (l0_1.length : Int) ≤ 32
    · rw [if_pos c4] at H
      have c4b0 : decide ((l0_1.length : Int) ≤ 32) = true := decide_eq_true c4
      have c4b1 : decide (l0_1.length ≤ 32) = true := decide_eq_true (by omega)
      clear c4
      replace H := Option.bind_eq_some_iff.mp H
      obtain ⟨t342, A50, H⟩ := H
      replace H : (if t342 = true then ((impl_in.f a0_3 0 255).bind fun t343 => (if t343 = true then (if (l0_4.length : Int) ≤ 2 then ((impl_rangesOk.f k l0_4 a0_0 (wrap64 (a0_0 + a0_2))).bind fun t344 => ((impl_Range_37.f k t344 l0_4).bind fun t347 => (some t347))) else (some false)) else (some false))) else (some false)) = some r := H
      have A5 := Aside0.mk A50
      clear A50
      by_cases c6 : t342 = true
      · subst c6
        have H1 : ((impl_in.f a0_3 0 255).bind fun t343 => (if t343 = true then (if (l0_4.length : Int) ≤ 2 then ((impl_rangesOk.f k l0_4 a0_0 (wrap64 (a0_0 + a0_2))).bind fun t344 => ((impl_Range_37.f k t344 l0_4).bind fun t347 => (some t347))) else (some false)) else (some false))) = some r := by rw [if_pos rfl] at H; exact H
        clear H
        have H := H1
        clear H1
        replace H := Option.bind_eq_some_iff.mp H
        obtain ⟨t343, A70, H⟩ := H
        replace H : (if t343 = true then (if (l0_4.length : Int) ≤ 2 then ((impl_rangesOk.f k l0_4 a0_0 (wrap64 (a0_0 + a0_2))).bind fun t344 => ((impl_Range_37.f k t344 l0_4).bind fun t347 => (some t347))) else (some false)) else (some false)) = some r := H
        have A7 := Aside0.mk A70
        clear A70
        by_cases c8 : t343 = true
        · subst c8
          have H1 : (if (l0_4.length : Int) ≤ 2 then ((impl_rangesOk.f k l0_4 a0_0 (wrap64 (a0_0 + a0_2))).bind fun t344 => ((impl_Range_37.f k t344 l0_4).bind fun t347 => (some t347))) else (some false)) = some r := by rw [if_pos rfl] at H; exact H
          clear H
          have H := H1
          clear H1
          by_cases c9 : (l0_4.length : Int) ≤ 2
          · rw [if_pos c9] at H
            have c9b0 : decide ((l0_4.length : Int) ≤ 2) = true := decide_eq_true c9
            have c9b1 : decide (l0_4.length ≤ 2) = true := decide_eq_true (by omega)
            clear c9
            replace H := Option.bind_eq_some_iff.mp H
            obtain ⟨t344, A100, H⟩ := H
            replace H : ((impl_Range_37.f k t344 l0_4).bind fun t347 => (some t347)) = some r := H
            have A10 := Aside0.mk A100
            clear A100
            replace H := Option.bind_eq_some_iff.mp H
            obtain ⟨t347, A110, H⟩ := H
            replace H : (some t347) = some r := H
            have A11 := Aside0.mk A110
            clear A110
            obtain rfl := Option.some.inj H
            go_enter Try.func10, Try.ntmps10
            try go_wp2_with (first | ((with_reducible refine gate_dst (N := 1) rfl ?_); (try (refine gate_guard (by rfl) ?_; dsimp only)); refine box_event ?hg (N := 1) ?hd (cs := #[.int .i64 a0_0, .slice A0_1 l0_1.length c0_1, .int .i64 a0_2, .int .i64 a0_3, .slice A0_4 l0_4.length c0_4]) (t := 25) ?hr ?_; (case hd => rfl); (case hg => rfl); (case hr => first | (go_simp; done) | (go_simp; rfl)); intro gb340 hg w12 hbox hb; have n0_ := Aside0.mk (below_step (hb0_ HB.out) hb); have n1_ := Aside0.mk (hbox); have n2_ := Aside0.mk ((by rw [hg]; exact (below_size (hb0_ HB.out)) : w.heap.size ≤ gb340)); have n3_ := Aside0.mk ((by rw [hg]; exact (below_size (hb0_ HB.out)) : w.heap.size ≤ gb340)); clear HB; have HB := n0_; have BK340 := n1_; have GW340 := n2_; have GE340 := n3_; clear n0_ n1_ n2_ n3_; clear hb hbox hg))
            have n0_ := Aside0.mk (blk_drew BK340.out)
            have n1_ := Aside0.mk (below_drew1 HB.out)
            clear BK340
            clear HB
            have BK340 := n0_
            have HB := n1_
            clear n0_ n1_
            refine start_ (n := 44) (S := fun w' => w'.cell? ⟨gb340, 0, none⟩ = some (.int .i64 a0_0) ∧ w'.cell? ⟨gb340, 1, none⟩ = some (.slice A0_1 l0_1.length c0_1) ∧ w'.cell? ⟨gb340, 2, none⟩ = some (.int .i64 a0_2) ∧ w'.cell? ⟨gb340, 3, none⟩ = some (.int .i64 a0_3) ∧ w'.cell? ⟨gb340, 4, none⟩ = some (.slice A0_4 l0_4.length c0_4)) (ds := []) #[false, false, false, false, false, false, false, false, false, false, false, false, false, false, false, false, false, false, false, false, false, false, false, false, false, false, false, false, false, false, false, false, false, false, false, false, false, false, false, false, false, false, false, false] (by kernel_rfl) rfl rfl ⟨(blk_cell BK340.out 0).trans rfl, (blk_cell BK340.out 1).trans rfl, (blk_cell BK340.out 2).trans rfl, (blk_cell BK340.out 3).trans rfl, (blk_cell BK340.out 4).trans rfl⟩ (fun hHeld => ?_); refine with_tabW impl_MouthOk.tab1 impl_MouthOk.bits1 (fun HT_ HW_ => ?_)
            generalize w12.drew = w13 at BK340 HB hHeld ⊢
            refine pu_ (i := 0) (N := some 3) HT_ ?_
            refine tk_ (i := 1) (N := some 4) HT_ HW_ hHeld ?_
            refine on_ (i := 2) (N := some 5) HT_ (fun K hK => ?_)
            refine goes_ Try.func36 (by kernel_rfl) rfl #[.int .i64 a0_0, .int .i64 0, .int .i64 1000000] (by rfl) rfl rfl ar_ ?_
            with_reducible refine (impl_in.calls a0_0 0 1000000 true _ A2.out).mono ?_
            rintro e w' ⟨rfl, ⟨nd, rfl⟩⟩
            refine ⟨_, rfl, ?_⟩
            refine hK.out _ _ ⟨(blk_cell BK340.out 0).trans rfl, (blk_cell BK340.out 1).trans rfl, (blk_cell BK340.out 2).trans rfl, (blk_cell BK340.out 3).trans rfl, (blk_cell BK340.out 4).trans rfl⟩ (fun hHeld => ?_)
            clear hK K
            refine nm_ 5 ?_
            refine pu_ (i := 3) (N := some 6) HT_ ?_
            refine pu_ (i := 4) (N := some 7) HT_ ?_
            refine tk_ (i := 5) (N := some 8) HT_ HW_ hHeld ?_
            refine pu_ (i := 6) (N := some 9) HT_ ?_
            refine pu_ (i := 7) (N := some 10) HT_ ?_
            refine pu_ (i := 8) (N := some 11) HT_ ?_
            refine pu_ (i := 9) (N := some 12) HT_ ?_
            refine pu_ (i := 10) (N := some 13) HT_ ?_
            refine pu_ (i := 12) (N := some 15) HT_ ?_
            refine tk_ (i := 11) (N := some 14) HT_ HW_ hHeld ?_
            refine tk_ (i := 13) (N := some 16) HT_ HW_ hHeld ?_
            refine pu_ (i := 14) (N := some 17) HT_ ?_
            refine on_ (i := 15) (N := some 18) HT_ (fun K hK => ?_)
            refine goes_ Try.func36 (by kernel_rfl) rfl #[.int .i64 a0_2, .int .i64 0, .int .i64 (l0_1.length : Int)] (by rfl) rfl rfl ar_ ?_
            with_reducible refine (impl_in.calls a0_2 0 (l0_1.length : Int) true _ A5.out).mono ?_
            rintro e w' ⟨rfl, ⟨nd, rfl⟩⟩
            refine ⟨_, rfl, ?_⟩
            refine hK.out _ _ ⟨(blk_cell BK340.out 0).trans rfl, (blk_cell BK340.out 1).trans rfl, (blk_cell BK340.out 2).trans rfl, (blk_cell BK340.out 3).trans rfl, (blk_cell BK340.out 4).trans rfl⟩ (fun hHeld => ?_)
            clear hK K
            refine nm_ 18 ?_
            refine pu_ (i := 16) (N := some 19) HT_ ?_
            refine pu_ (i := 17) (N := some 20) HT_ ?_
            refine pu_ (i := 18) (N := some 21) HT_ ?_
            refine tk_ (i := 19) (N := some 22) HT_ HW_ hHeld ?_
            refine on_ (i := 20) (N := some 23) HT_ (fun K hK => ?_)
            refine goes_ Try.func36 (by kernel_rfl) rfl #[.int .i64 a0_3, .int .i64 0, .int .i64 255] (by rfl) rfl rfl ar_ ?_
            with_reducible refine (impl_in.calls a0_3 0 255 true _ A7.out).mono ?_
            rintro e w' ⟨rfl, ⟨nd, rfl⟩⟩
            refine ⟨_, rfl, ?_⟩
            refine hK.out _ _ ⟨(blk_cell BK340.out 0).trans rfl, (blk_cell BK340.out 1).trans rfl, (blk_cell BK340.out 2).trans rfl, (blk_cell BK340.out 3).trans rfl, (blk_cell BK340.out 4).trans rfl⟩ (fun hHeld => ?_)
            clear hK K
            refine nm_ 23 ?_
            refine pu_ (i := 21) (N := some 24) HT_ ?_
            refine pu_ (i := 22) (N := some 25) HT_ ?_
            refine pu_ (i := 23) (N := some 26) HT_ ?_
            refine tk_ (i := 24) (N := some 27) HT_ HW_ hHeld ?_
            refine pu_ (i := 25) (N := some 28) HT_ ?_
            refine pu_ (i := 26) (N := some 29) HT_ ?_
            refine pu_ (i := 27) (N := some 30) HT_ ?_
            refine pu_ (i := 28) (N := some 31) HT_ ?_
            refine pu_ (i := 29) (N := some 32) HT_ ?_
            refine pu_ (i := 31) (N := some 34) HT_ ?_
            refine pu_ (i := 33) (N := some 36) HT_ ?_
            refine pu_ (i := 35) (N := some 38) HT_ ?_
            refine pu_ (i := 39) (N := some 42) HT_ ?_
            refine tk_ (i := 30) (N := some 33) HT_ HW_ hHeld ?_
            refine tk_ (i := 32) (N := some 35) HT_ HW_ hHeld ?_
            refine tk_ (i := 34) (N := some 37) HT_ HW_ hHeld ?_
            refine tk_ (i := 36) (N := some 39) HT_ HW_ hHeld ?_
            refine pu_ (i := 37) (N := some 40) HT_ ?_
            refine tk_ (i := 40) (N := some 43) HT_ HW_ hHeld ?_
            refine on_ (i := 38) (N := some 41) HT_ (fun K hK => ?_)
            refine goes_ Try.func38 (by kernel_rfl) rfl #[.slice A0_4 l0_4.length c0_4, .int .i64 a0_0, .int .i64 (wrap64 (a0_0 + a0_2))] (by rfl) rfl rfl ar_ ?_
            with_reducible refine (impl_rangesOk.calls k _ _ l0_4 a0_0 (wrap64 (a0_0 + a0_2)) t344 _ ?side1 ?side2 A10.out).mono ?_
            (case side1 => exact kC_ (Kd.C_below HR0_4.out (hb1_ HB.out GE340.out)))
            (case side2 => exact HC0_4.out)
            rintro e w14 ⟨v345, rfl, ho0, hb⟩
            refine ⟨_, rfl, ?_⟩
            have n0_ := Aside0.mk (Kd.R_lower ho0 (below_size (hb1_ HB.out GE340.out)))
            have n1_ := Aside0.mk (blk_below (g := gb340) (o := .cells #[.int .i64 a0_0, .slice A0_1 l0_1.length c0_1, .int .i64 a0_2, .int .i64 a0_3, .slice A0_4 l0_4.length c0_4] 25 (0, 0)) (kb_ BK340.out) hb)
            have n2_ := Aside0.mk (below_step (hb1_ HB.out GE340.out) hb)
            clear BK340
            clear HB
            have HO346 := n0_
            have BK340 := n1_
            have HB := n2_
            clear n0_ n1_ n2_
            (try clear hb)
            (try clear hb2)
            (try clear hk)
            (try clear hi)
            (try clear ho0)
            obtain ⟨Ao15, co15, eo15⟩ := Kd.R_slice HO346.out
            (first | subst eo15 | (injection eo15 with f1_ f2_ f3_; have f4_ := f1_.symm; have f5_ := f3_.symm; clear f1_ f2_ f3_; subst f4_; subst f5_))
            refine hK.out _ _ ⟨(blk_cell BK340.out 0).trans rfl, (blk_cell BK340.out 1).trans rfl, (blk_cell BK340.out 2).trans rfl, (blk_cell BK340.out 3).trans rfl, (blk_cell BK340.out 4).trans rfl⟩ (fun hHeld => ?_)
            clear hK K
            refine nm_ 41 ?_
            refine on_ (i := 41) (N := some 44) HT_ (fun K hK => ?_)
            refine goes_ Try.func37 (by kernel_rfl) rfl #[.slice Ao15 t344.length co15, .slice A0_4 l0_4.length c0_4] (by rfl) rfl rfl ar_ ?_
            with_reducible refine (impl_Range_37.calls k _ _ t344 _ _ l0_4 t347 _ ?side1 ?side2 ?side3 ?side4 A11.out).mono ?_
            (case side1 => exact kC_ (Kd.R_reads' HO346.out).2.2)
            (case side2 => exact (Kd.R_reads' HO346.out).2.1)
            (case side3 => exact kC_ (Kd.C_below HR0_4.out HB.out))
            (case side4 => exact HC0_4.out)
            rintro e w' ⟨rfl, ⟨nd, rfl⟩⟩
            refine ⟨_, rfl, ?_⟩
            refine hK.out _ _ ⟨(blk_cell BK340.out 0).trans rfl, (blk_cell BK340.out 1).trans rfl, (blk_cell BK340.out 2).trans rfl, (blk_cell BK340.out 3).trans rfl, (blk_cell BK340.out 4).trans rfl⟩ (fun hHeld => ?_)
            clear hK K
            refine nm_ 44 ?_
            refine pu_ (i := 42) (N := some 45) HT_ ?_
            refine pu_ (i := 43) (N := some 2) HT_ ?_
            refine done_ (done_of HT_.out (by kernel_rfl)) ?_
            try go_wp2
            go_ret
            exact ⟨by first | rfl | (simp [errW_none, errW_some] <;> rfl) | (simp [*, errW_none, errW_some] <;> rfl), by repeat (first | (with_reducible first | exact HB.out | apply below_alloc | apply pw_below_drewN | apply below_drew1 | refine below_set ?_ GE340.out) | exact HB.out)⟩
          · rw [if_neg c9] at H
            have c9b0 : decide ((l0_4.length : Int) ≤ 2) = false := decide_eq_false c9
            have c9b1 : decide (l0_4.length ≤ 2) = false := decide_eq_false (by omega)
            clear c9
            obtain rfl := Option.some.inj H
            go_enter Try.func10, Try.ntmps10
            try go_wp2_with (first | ((with_reducible refine gate_dst (N := 1) rfl ?_); (try (refine gate_guard (by rfl) ?_; dsimp only)); refine box_event ?hg (N := 1) ?hd (cs := #[.int .i64 a0_0, .slice A0_1 l0_1.length c0_1, .int .i64 a0_2, .int .i64 a0_3, .slice A0_4 l0_4.length c0_4]) (t := 25) ?hr ?_; (case hd => rfl); (case hg => rfl); (case hr => first | (go_simp; done) | (go_simp; rfl)); intro gb340 hg w16 hbox hb; have n0_ := Aside0.mk (below_step (hb0_ HB.out) hb); have n1_ := Aside0.mk (hbox); have n2_ := Aside0.mk ((by rw [hg]; exact (below_size (hb0_ HB.out)) : w.heap.size ≤ gb340)); have n3_ := Aside0.mk ((by rw [hg]; exact (below_size (hb0_ HB.out)) : w.heap.size ≤ gb340)); clear HB; have HB := n0_; have BK340 := n1_; have GW340 := n2_; have GE340 := n3_; clear n0_ n1_ n2_ n3_; clear hb hbox hg))
            have n0_ := Aside0.mk (blk_drew BK340.out)
            have n1_ := Aside0.mk (below_drew1 HB.out)
            clear BK340
            clear HB
            have BK340 := n0_
            have HB := n1_
            clear n0_ n1_
            refine start_ (n := 44) (S := fun w' => w'.cell? ⟨gb340, 0, none⟩ = some (.int .i64 a0_0) ∧ w'.cell? ⟨gb340, 1, none⟩ = some (.slice A0_1 l0_1.length c0_1) ∧ w'.cell? ⟨gb340, 2, none⟩ = some (.int .i64 a0_2) ∧ w'.cell? ⟨gb340, 3, none⟩ = some (.int .i64 a0_3) ∧ w'.cell? ⟨gb340, 4, none⟩ = some (.slice A0_4 l0_4.length c0_4)) (ds := []) #[false, false, false, false, false, false, false, false, false, false, false, false, false, false, false, false, false, false, false, false, false, false, false, false, false, false, false, false, false, false, false, false, false, false, false, false, false, false, false, false, false, false, false, false] (by kernel_rfl) rfl rfl ⟨(blk_cell BK340.out 0).trans rfl, (blk_cell BK340.out 1).trans rfl, (blk_cell BK340.out 2).trans rfl, (blk_cell BK340.out 3).trans rfl, (blk_cell BK340.out 4).trans rfl⟩ (fun hHeld => ?_); refine with_tabW impl_MouthOk.tab1 impl_MouthOk.bits1 (fun HT_ HW_ => ?_)
            generalize w16.drew = w17 at BK340 HB hHeld ⊢
            refine pu_ (i := 0) (N := some 3) HT_ ?_
            refine tk_ (i := 1) (N := some 4) HT_ HW_ hHeld ?_
            refine on_ (i := 2) (N := some 5) HT_ (fun K hK => ?_)
            refine goes_ Try.func36 (by kernel_rfl) rfl #[.int .i64 a0_0, .int .i64 0, .int .i64 1000000] (by rfl) rfl rfl ar_ ?_
            with_reducible refine (impl_in.calls a0_0 0 1000000 true _ A2.out).mono ?_
            rintro e w' ⟨rfl, ⟨nd, rfl⟩⟩
            refine ⟨_, rfl, ?_⟩
            refine hK.out _ _ ⟨(blk_cell BK340.out 0).trans rfl, (blk_cell BK340.out 1).trans rfl, (blk_cell BK340.out 2).trans rfl, (blk_cell BK340.out 3).trans rfl, (blk_cell BK340.out 4).trans rfl⟩ (fun hHeld => ?_)
            clear hK K
            refine nm_ 5 ?_
            refine pu_ (i := 3) (N := some 6) HT_ ?_
            refine pu_ (i := 4) (N := some 7) HT_ ?_
            refine tk_ (i := 5) (N := some 8) HT_ HW_ hHeld ?_
            refine pu_ (i := 6) (N := some 9) HT_ ?_
            refine pu_ (i := 7) (N := some 10) HT_ ?_
            refine pu_ (i := 8) (N := some 11) HT_ ?_
            refine pu_ (i := 9) (N := some 12) HT_ ?_
            refine pu_ (i := 10) (N := some 13) HT_ ?_
            refine pu_ (i := 12) (N := some 15) HT_ ?_
            refine tk_ (i := 11) (N := some 14) HT_ HW_ hHeld ?_
            refine tk_ (i := 13) (N := some 16) HT_ HW_ hHeld ?_
            refine pu_ (i := 14) (N := some 17) HT_ ?_
            refine on_ (i := 15) (N := some 18) HT_ (fun K hK => ?_)
            refine goes_ Try.func36 (by kernel_rfl) rfl #[.int .i64 a0_2, .int .i64 0, .int .i64 (l0_1.length : Int)] (by rfl) rfl rfl ar_ ?_
            with_reducible refine (impl_in.calls a0_2 0 (l0_1.length : Int) true _ A5.out).mono ?_
            rintro e w' ⟨rfl, ⟨nd, rfl⟩⟩
            refine ⟨_, rfl, ?_⟩
            refine hK.out _ _ ⟨(blk_cell BK340.out 0).trans rfl, (blk_cell BK340.out 1).trans rfl, (blk_cell BK340.out 2).trans rfl, (blk_cell BK340.out 3).trans rfl, (blk_cell BK340.out 4).trans rfl⟩ (fun hHeld => ?_)
            clear hK K
            refine nm_ 18 ?_
            refine pu_ (i := 16) (N := some 19) HT_ ?_
            refine pu_ (i := 17) (N := some 20) HT_ ?_
            refine pu_ (i := 18) (N := some 21) HT_ ?_
            refine tk_ (i := 19) (N := some 22) HT_ HW_ hHeld ?_
            refine on_ (i := 20) (N := some 23) HT_ (fun K hK => ?_)
            refine goes_ Try.func36 (by kernel_rfl) rfl #[.int .i64 a0_3, .int .i64 0, .int .i64 255] (by rfl) rfl rfl ar_ ?_
            with_reducible refine (impl_in.calls a0_3 0 255 true _ A7.out).mono ?_
            rintro e w' ⟨rfl, ⟨nd, rfl⟩⟩
            refine ⟨_, rfl, ?_⟩
            refine hK.out _ _ ⟨(blk_cell BK340.out 0).trans rfl, (blk_cell BK340.out 1).trans rfl, (blk_cell BK340.out 2).trans rfl, (blk_cell BK340.out 3).trans rfl, (blk_cell BK340.out 4).trans rfl⟩ (fun hHeld => ?_)
            clear hK K
            refine nm_ 23 ?_
            refine pu_ (i := 21) (N := some 24) HT_ ?_
            refine pu_ (i := 22) (N := some 25) HT_ ?_
            refine pu_ (i := 23) (N := some 26) HT_ ?_
            refine tk_ (i := 24) (N := some 27) HT_ HW_ hHeld ?_
            refine pu_ (i := 25) (N := some 28) HT_ ?_
            refine pu_ (i := 26) (N := some 29) HT_ ?_
            refine pu_ (i := 27) (N := some 30) HT_ ?_
            refine pu_ (i := 28) (N := some 31) HT_ ?_
            refine pn_ (i := 29) (N := some 32) HT_ ?_
            refine pn_ (i := 30) (N := some 33) HT_ ?_
            refine pn_ (i := 31) (N := some 34) HT_ ?_
            refine pn_ (i := 32) (N := some 35) HT_ ?_
            refine pn_ (i := 33) (N := some 36) HT_ ?_
            refine pn_ (i := 34) (N := some 37) HT_ ?_
            refine pn_ (i := 35) (N := some 38) HT_ ?_
            refine pn_ (i := 36) (N := some 39) HT_ ?_
            refine pn_ (i := 37) (N := some 40) HT_ ?_
            refine pn_ (i := 38) (N := some 41) HT_ ?_
            refine pn_ (i := 39) (N := some 42) HT_ ?_
            refine pn_ (i := 40) (N := some 43) HT_ ?_
            refine pn_ (i := 41) (N := some 44) HT_ ?_
            refine pu_ (i := 42) (N := some 45) HT_ ?_
            refine pu_ (i := 43) (N := some 2) HT_ ?_
            refine done_ (done_of HT_.out (by kernel_rfl)) ?_
            try go_wp2
            go_ret
            exact ⟨by first | rfl | (simp [errW_none, errW_some] <;> rfl) | (simp [*, errW_none, errW_some] <;> rfl), by repeat (first | (with_reducible first | exact HB.out | apply below_alloc | apply pw_below_drewN | apply below_drew1 | refine below_set ?_ GE340.out) | exact HB.out)⟩
        · replace c8 := Bool.eq_false_iff.mpr c8
          subst c8
          have H1 : (some false) = some r := by rw [if_neg (show ¬ (false = true) by decide)] at H; exact H
          clear H
          have H := H1
          clear H1
          obtain rfl := Option.some.inj H
          go_enter Try.func10, Try.ntmps10
          try go_wp2_with (first | ((with_reducible refine gate_dst (N := 1) rfl ?_); (try (refine gate_guard (by rfl) ?_; dsimp only)); refine box_event ?hg (N := 1) ?hd (cs := #[.int .i64 a0_0, .slice A0_1 l0_1.length c0_1, .int .i64 a0_2, .int .i64 a0_3, .slice A0_4 l0_4.length c0_4]) (t := 25) ?hr ?_; (case hd => rfl); (case hg => rfl); (case hr => first | (go_simp; done) | (go_simp; rfl)); intro gb340 hg w18 hbox hb; have n0_ := Aside0.mk (below_step (hb0_ HB.out) hb); have n1_ := Aside0.mk (hbox); have n2_ := Aside0.mk ((by rw [hg]; exact (below_size (hb0_ HB.out)) : w.heap.size ≤ gb340)); have n3_ := Aside0.mk ((by rw [hg]; exact (below_size (hb0_ HB.out)) : w.heap.size ≤ gb340)); clear HB; have HB := n0_; have BK340 := n1_; have GW340 := n2_; have GE340 := n3_; clear n0_ n1_ n2_ n3_; clear hb hbox hg))
          have n0_ := Aside0.mk (blk_drew BK340.out)
          have n1_ := Aside0.mk (below_drew1 HB.out)
          clear BK340
          clear HB
          have BK340 := n0_
          have HB := n1_
          clear n0_ n1_
          refine start_ (n := 44) (S := fun w' => w'.cell? ⟨gb340, 0, none⟩ = some (.int .i64 a0_0) ∧ w'.cell? ⟨gb340, 1, none⟩ = some (.slice A0_1 l0_1.length c0_1) ∧ w'.cell? ⟨gb340, 2, none⟩ = some (.int .i64 a0_2) ∧ w'.cell? ⟨gb340, 3, none⟩ = some (.int .i64 a0_3) ∧ w'.cell? ⟨gb340, 4, none⟩ = some (.slice A0_4 l0_4.length c0_4)) (ds := []) #[false, false, false, false, false, false, false, false, false, false, false, false, false, false, false, false, false, false, false, false, false, false, false, false, false, false, false, false, false, false, false, false, false, false, false, false, false, false, false, false, false, false, false, false] (by kernel_rfl) rfl rfl ⟨(blk_cell BK340.out 0).trans rfl, (blk_cell BK340.out 1).trans rfl, (blk_cell BK340.out 2).trans rfl, (blk_cell BK340.out 3).trans rfl, (blk_cell BK340.out 4).trans rfl⟩ (fun hHeld => ?_); refine with_tabW impl_MouthOk.tab1 impl_MouthOk.bits1 (fun HT_ HW_ => ?_)
          generalize w18.drew = w19 at BK340 HB hHeld ⊢
          refine pu_ (i := 0) (N := some 3) HT_ ?_
          refine tk_ (i := 1) (N := some 4) HT_ HW_ hHeld ?_
          refine on_ (i := 2) (N := some 5) HT_ (fun K hK => ?_)
          refine goes_ Try.func36 (by kernel_rfl) rfl #[.int .i64 a0_0, .int .i64 0, .int .i64 1000000] (by rfl) rfl rfl ar_ ?_
          with_reducible refine (impl_in.calls a0_0 0 1000000 true _ A2.out).mono ?_
          rintro e w' ⟨rfl, ⟨nd, rfl⟩⟩
          refine ⟨_, rfl, ?_⟩
          refine hK.out _ _ ⟨(blk_cell BK340.out 0).trans rfl, (blk_cell BK340.out 1).trans rfl, (blk_cell BK340.out 2).trans rfl, (blk_cell BK340.out 3).trans rfl, (blk_cell BK340.out 4).trans rfl⟩ (fun hHeld => ?_)
          clear hK K
          refine nm_ 5 ?_
          refine pu_ (i := 3) (N := some 6) HT_ ?_
          refine pu_ (i := 4) (N := some 7) HT_ ?_
          refine tk_ (i := 5) (N := some 8) HT_ HW_ hHeld ?_
          refine pu_ (i := 6) (N := some 9) HT_ ?_
          refine pu_ (i := 7) (N := some 10) HT_ ?_
          refine pu_ (i := 8) (N := some 11) HT_ ?_
          refine pu_ (i := 9) (N := some 12) HT_ ?_
          refine pu_ (i := 10) (N := some 13) HT_ ?_
          refine pu_ (i := 12) (N := some 15) HT_ ?_
          refine tk_ (i := 11) (N := some 14) HT_ HW_ hHeld ?_
          refine tk_ (i := 13) (N := some 16) HT_ HW_ hHeld ?_
          refine pu_ (i := 14) (N := some 17) HT_ ?_
          refine on_ (i := 15) (N := some 18) HT_ (fun K hK => ?_)
          refine goes_ Try.func36 (by kernel_rfl) rfl #[.int .i64 a0_2, .int .i64 0, .int .i64 (l0_1.length : Int)] (by rfl) rfl rfl ar_ ?_
          with_reducible refine (impl_in.calls a0_2 0 (l0_1.length : Int) true _ A5.out).mono ?_
          rintro e w' ⟨rfl, ⟨nd, rfl⟩⟩
          refine ⟨_, rfl, ?_⟩
          refine hK.out _ _ ⟨(blk_cell BK340.out 0).trans rfl, (blk_cell BK340.out 1).trans rfl, (blk_cell BK340.out 2).trans rfl, (blk_cell BK340.out 3).trans rfl, (blk_cell BK340.out 4).trans rfl⟩ (fun hHeld => ?_)
          clear hK K
          refine nm_ 18 ?_
          refine pu_ (i := 16) (N := some 19) HT_ ?_
          refine pu_ (i := 17) (N := some 20) HT_ ?_
          refine pu_ (i := 18) (N := some 21) HT_ ?_
          refine tk_ (i := 19) (N := some 22) HT_ HW_ hHeld ?_
          refine on_ (i := 20) (N := some 23) HT_ (fun K hK => ?_)
          refine goes_ Try.func36 (by kernel_rfl) rfl #[.int .i64 a0_3, .int .i64 0, .int .i64 255] (by rfl) rfl rfl ar_ ?_
          with_reducible refine (impl_in.calls a0_3 0 255 false _ A7.out).mono ?_
          rintro e w' ⟨rfl, ⟨nd, rfl⟩⟩
          refine ⟨_, rfl, ?_⟩
          refine hK.out _ _ ⟨(blk_cell BK340.out 0).trans rfl, (blk_cell BK340.out 1).trans rfl, (blk_cell BK340.out 2).trans rfl, (blk_cell BK340.out 3).trans rfl, (blk_cell BK340.out 4).trans rfl⟩ (fun hHeld => ?_)
          clear hK K
          refine nm_ 23 ?_
          refine pu_ (i := 21) (N := some 24) HT_ ?_
          refine pu_ (i := 22) (N := some 25) HT_ ?_
          refine pn_ (i := 23) (N := some 26) HT_ ?_
          refine pn_ (i := 24) (N := some 27) HT_ ?_
          refine pn_ (i := 25) (N := some 28) HT_ ?_
          refine pn_ (i := 26) (N := some 29) HT_ ?_
          refine pu_ (i := 27) (N := some 30) HT_ ?_
          refine pu_ (i := 28) (N := some 31) HT_ ?_
          refine pn_ (i := 29) (N := some 32) HT_ ?_
          refine pn_ (i := 30) (N := some 33) HT_ ?_
          refine pn_ (i := 31) (N := some 34) HT_ ?_
          refine pn_ (i := 32) (N := some 35) HT_ ?_
          refine pn_ (i := 33) (N := some 36) HT_ ?_
          refine pn_ (i := 34) (N := some 37) HT_ ?_
          refine pn_ (i := 35) (N := some 38) HT_ ?_
          refine pn_ (i := 36) (N := some 39) HT_ ?_
          refine pn_ (i := 37) (N := some 40) HT_ ?_
          refine pn_ (i := 38) (N := some 41) HT_ ?_
          refine pn_ (i := 39) (N := some 42) HT_ ?_
          refine pn_ (i := 40) (N := some 43) HT_ ?_
          refine pn_ (i := 41) (N := some 44) HT_ ?_
          refine pu_ (i := 42) (N := some 45) HT_ ?_
          refine pu_ (i := 43) (N := some 2) HT_ ?_
          refine done_ (done_of HT_.out (by kernel_rfl)) ?_
          try go_wp2
          go_ret
          exact ⟨by first | rfl | (simp [errW_none, errW_some] <;> rfl) | (simp [*, errW_none, errW_some] <;> rfl), by repeat (first | (with_reducible first | exact HB.out | apply below_alloc | apply pw_below_drewN | apply below_drew1 | refine below_set ?_ GE340.out) | exact HB.out)⟩
      · replace c6 := Bool.eq_false_iff.mpr c6
        subst c6
        have H1 : (some false) = some r := by rw [if_neg (show ¬ (false = true) by decide)] at H; exact H
        clear H
        have H := H1
        clear H1
        obtain rfl := Option.some.inj H
        go_enter Try.func10, Try.ntmps10
        try go_wp2_with (first | ((with_reducible refine gate_dst (N := 1) rfl ?_); (try (refine gate_guard (by rfl) ?_; dsimp only)); refine box_event ?hg (N := 1) ?hd (cs := #[.int .i64 a0_0, .slice A0_1 l0_1.length c0_1, .int .i64 a0_2, .int .i64 a0_3, .slice A0_4 l0_4.length c0_4]) (t := 25) ?hr ?_; (case hd => rfl); (case hg => rfl); (case hr => first | (go_simp; done) | (go_simp; rfl)); intro gb340 hg w20 hbox hb; have n0_ := Aside0.mk (below_step (hb0_ HB.out) hb); have n1_ := Aside0.mk (hbox); have n2_ := Aside0.mk ((by rw [hg]; exact (below_size (hb0_ HB.out)) : w.heap.size ≤ gb340)); have n3_ := Aside0.mk ((by rw [hg]; exact (below_size (hb0_ HB.out)) : w.heap.size ≤ gb340)); clear HB; have HB := n0_; have BK340 := n1_; have GW340 := n2_; have GE340 := n3_; clear n0_ n1_ n2_ n3_; clear hb hbox hg))
        have n0_ := Aside0.mk (blk_drew BK340.out)
        have n1_ := Aside0.mk (below_drew1 HB.out)
        clear BK340
        clear HB
        have BK340 := n0_
        have HB := n1_
        clear n0_ n1_
        refine start_ (n := 44) (S := fun w' => w'.cell? ⟨gb340, 0, none⟩ = some (.int .i64 a0_0) ∧ w'.cell? ⟨gb340, 1, none⟩ = some (.slice A0_1 l0_1.length c0_1) ∧ w'.cell? ⟨gb340, 2, none⟩ = some (.int .i64 a0_2) ∧ w'.cell? ⟨gb340, 3, none⟩ = some (.int .i64 a0_3) ∧ w'.cell? ⟨gb340, 4, none⟩ = some (.slice A0_4 l0_4.length c0_4)) (ds := []) #[false, false, false, false, false, false, false, false, false, false, false, false, false, false, false, false, false, false, false, false, false, false, false, false, false, false, false, false, false, false, false, false, false, false, false, false, false, false, false, false, false, false, false, false] (by kernel_rfl) rfl rfl ⟨(blk_cell BK340.out 0).trans rfl, (blk_cell BK340.out 1).trans rfl, (blk_cell BK340.out 2).trans rfl, (blk_cell BK340.out 3).trans rfl, (blk_cell BK340.out 4).trans rfl⟩ (fun hHeld => ?_); refine with_tabW impl_MouthOk.tab1 impl_MouthOk.bits1 (fun HT_ HW_ => ?_)
        generalize w20.drew = w21 at BK340 HB hHeld ⊢
        refine pu_ (i := 0) (N := some 3) HT_ ?_
        refine tk_ (i := 1) (N := some 4) HT_ HW_ hHeld ?_
        refine on_ (i := 2) (N := some 5) HT_ (fun K hK => ?_)
        refine goes_ Try.func36 (by kernel_rfl) rfl #[.int .i64 a0_0, .int .i64 0, .int .i64 1000000] (by rfl) rfl rfl ar_ ?_
        with_reducible refine (impl_in.calls a0_0 0 1000000 true _ A2.out).mono ?_
        rintro e w' ⟨rfl, ⟨nd, rfl⟩⟩
        refine ⟨_, rfl, ?_⟩
        refine hK.out _ _ ⟨(blk_cell BK340.out 0).trans rfl, (blk_cell BK340.out 1).trans rfl, (blk_cell BK340.out 2).trans rfl, (blk_cell BK340.out 3).trans rfl, (blk_cell BK340.out 4).trans rfl⟩ (fun hHeld => ?_)
        clear hK K
        refine nm_ 5 ?_
        refine pu_ (i := 3) (N := some 6) HT_ ?_
        refine pu_ (i := 4) (N := some 7) HT_ ?_
        refine tk_ (i := 5) (N := some 8) HT_ HW_ hHeld ?_
        refine pu_ (i := 6) (N := some 9) HT_ ?_
        refine pu_ (i := 7) (N := some 10) HT_ ?_
        refine pu_ (i := 8) (N := some 11) HT_ ?_
        refine pu_ (i := 9) (N := some 12) HT_ ?_
        refine pu_ (i := 10) (N := some 13) HT_ ?_
        refine pu_ (i := 12) (N := some 15) HT_ ?_
        refine tk_ (i := 11) (N := some 14) HT_ HW_ hHeld ?_
        refine tk_ (i := 13) (N := some 16) HT_ HW_ hHeld ?_
        refine pu_ (i := 14) (N := some 17) HT_ ?_
        refine on_ (i := 15) (N := some 18) HT_ (fun K hK => ?_)
        refine goes_ Try.func36 (by kernel_rfl) rfl #[.int .i64 a0_2, .int .i64 0, .int .i64 (l0_1.length : Int)] (by rfl) rfl rfl ar_ ?_
        with_reducible refine (impl_in.calls a0_2 0 (l0_1.length : Int) false _ A5.out).mono ?_
        rintro e w' ⟨rfl, ⟨nd, rfl⟩⟩
        refine ⟨_, rfl, ?_⟩
        refine hK.out _ _ ⟨(blk_cell BK340.out 0).trans rfl, (blk_cell BK340.out 1).trans rfl, (blk_cell BK340.out 2).trans rfl, (blk_cell BK340.out 3).trans rfl, (blk_cell BK340.out 4).trans rfl⟩ (fun hHeld => ?_)
        clear hK K
        refine nm_ 18 ?_
        refine pu_ (i := 16) (N := some 19) HT_ ?_
        refine pu_ (i := 17) (N := some 20) HT_ ?_
        refine pn_ (i := 18) (N := some 21) HT_ ?_
        refine pn_ (i := 19) (N := some 22) HT_ ?_
        refine pn_ (i := 20) (N := some 23) HT_ ?_
        refine pu_ (i := 21) (N := some 24) HT_ ?_
        refine pu_ (i := 22) (N := some 25) HT_ ?_
        refine pn_ (i := 23) (N := some 26) HT_ ?_
        refine pn_ (i := 24) (N := some 27) HT_ ?_
        refine pn_ (i := 25) (N := some 28) HT_ ?_
        refine pn_ (i := 26) (N := some 29) HT_ ?_
        refine pu_ (i := 27) (N := some 30) HT_ ?_
        refine pu_ (i := 28) (N := some 31) HT_ ?_
        refine pn_ (i := 29) (N := some 32) HT_ ?_
        refine pn_ (i := 30) (N := some 33) HT_ ?_
        refine pn_ (i := 31) (N := some 34) HT_ ?_
        refine pn_ (i := 32) (N := some 35) HT_ ?_
        refine pn_ (i := 33) (N := some 36) HT_ ?_
        refine pn_ (i := 34) (N := some 37) HT_ ?_
        refine pn_ (i := 35) (N := some 38) HT_ ?_
        refine pn_ (i := 36) (N := some 39) HT_ ?_
        refine pn_ (i := 37) (N := some 40) HT_ ?_
        refine pn_ (i := 38) (N := some 41) HT_ ?_
        refine pn_ (i := 39) (N := some 42) HT_ ?_
        refine pn_ (i := 40) (N := some 43) HT_ ?_
        refine pn_ (i := 41) (N := some 44) HT_ ?_
        refine pu_ (i := 42) (N := some 45) HT_ ?_
        refine pu_ (i := 43) (N := some 2) HT_ ?_
        refine done_ (done_of HT_.out (by kernel_rfl)) ?_
        try go_wp2
        go_ret
        exact ⟨by first | rfl | (simp [errW_none, errW_some] <;> rfl) | (simp [*, errW_none, errW_some] <;> rfl), by repeat (first | (with_reducible first | exact HB.out | apply below_alloc | apply pw_below_drewN | apply below_drew1 | refine below_set ?_ GE340.out) | exact HB.out)⟩
    · rw [if_neg c4] at H
      have c4b0 : decide ((l0_1.length : Int) ≤ 32) = false := decide_eq_false c4
      have c4b1 : decide (l0_1.length ≤ 32) = false := decide_eq_false (by omega)
      clear c4
      obtain rfl := Option.some.inj H
      go_enter Try.func10, Try.ntmps10
      try go_wp2_with (first | ((with_reducible refine gate_dst (N := 1) rfl ?_); (try (refine gate_guard (by rfl) ?_; dsimp only)); refine box_event ?hg (N := 1) ?hd (cs := #[.int .i64 a0_0, .slice A0_1 l0_1.length c0_1, .int .i64 a0_2, .int .i64 a0_3, .slice A0_4 l0_4.length c0_4]) (t := 25) ?hr ?_; (case hd => rfl); (case hg => rfl); (case hr => first | (go_simp; done) | (go_simp; rfl)); intro gb340 hg w22 hbox hb; have n0_ := Aside0.mk (below_step (hb0_ HB.out) hb); have n1_ := Aside0.mk (hbox); have n2_ := Aside0.mk ((by rw [hg]; exact (below_size (hb0_ HB.out)) : w.heap.size ≤ gb340)); have n3_ := Aside0.mk ((by rw [hg]; exact (below_size (hb0_ HB.out)) : w.heap.size ≤ gb340)); clear HB; have HB := n0_; have BK340 := n1_; have GW340 := n2_; have GE340 := n3_; clear n0_ n1_ n2_ n3_; clear hb hbox hg))
      have n0_ := Aside0.mk (blk_drew BK340.out)
      have n1_ := Aside0.mk (below_drew1 HB.out)
      clear BK340
      clear HB
      have BK340 := n0_
      have HB := n1_
      clear n0_ n1_
      refine start_ (n := 44) (S := fun w' => w'.cell? ⟨gb340, 0, none⟩ = some (.int .i64 a0_0) ∧ w'.cell? ⟨gb340, 1, none⟩ = some (.slice A0_1 l0_1.length c0_1) ∧ w'.cell? ⟨gb340, 2, none⟩ = some (.int .i64 a0_2) ∧ w'.cell? ⟨gb340, 3, none⟩ = some (.int .i64 a0_3) ∧ w'.cell? ⟨gb340, 4, none⟩ = some (.slice A0_4 l0_4.length c0_4)) (ds := []) #[false, false, false, false, false, false, false, false, false, false, false, false, false, false, false, false, false, false, false, false, false, false, false, false, false, false, false, false, false, false, false, false, false, false, false, false, false, false, false, false, false, false, false, false] (by kernel_rfl) rfl rfl ⟨(blk_cell BK340.out 0).trans rfl, (blk_cell BK340.out 1).trans rfl, (blk_cell BK340.out 2).trans rfl, (blk_cell BK340.out 3).trans rfl, (blk_cell BK340.out 4).trans rfl⟩ (fun hHeld => ?_); refine with_tabW impl_MouthOk.tab1 impl_MouthOk.bits1 (fun HT_ HW_ => ?_)
      generalize w22.drew = w23 at BK340 HB hHeld ⊢
      refine pu_ (i := 0) (N := some 3) HT_ ?_
      refine tk_ (i := 1) (N := some 4) HT_ HW_ hHeld ?_
      refine on_ (i := 2) (N := some 5) HT_ (fun K hK => ?_)
      refine goes_ Try.func36 (by kernel_rfl) rfl #[.int .i64 a0_0, .int .i64 0, .int .i64 1000000] (by rfl) rfl rfl ar_ ?_
      with_reducible refine (impl_in.calls a0_0 0 1000000 true _ A2.out).mono ?_
      rintro e w' ⟨rfl, ⟨nd, rfl⟩⟩
      refine ⟨_, rfl, ?_⟩
      refine hK.out _ _ ⟨(blk_cell BK340.out 0).trans rfl, (blk_cell BK340.out 1).trans rfl, (blk_cell BK340.out 2).trans rfl, (blk_cell BK340.out 3).trans rfl, (blk_cell BK340.out 4).trans rfl⟩ (fun hHeld => ?_)
      clear hK K
      refine nm_ 5 ?_
      refine pu_ (i := 3) (N := some 6) HT_ ?_
      refine pu_ (i := 4) (N := some 7) HT_ ?_
      refine tk_ (i := 5) (N := some 8) HT_ HW_ hHeld ?_
      refine pu_ (i := 6) (N := some 9) HT_ ?_
      refine pu_ (i := 7) (N := some 10) HT_ ?_
      refine pu_ (i := 8) (N := some 11) HT_ ?_
      refine pu_ (i := 9) (N := some 12) HT_ ?_
      refine pn_ (i := 10) (N := some 13) HT_ ?_
      refine pn_ (i := 11) (N := some 14) HT_ ?_
      refine pn_ (i := 12) (N := some 15) HT_ ?_
      refine pn_ (i := 13) (N := some 16) HT_ ?_
      refine pn_ (i := 14) (N := some 17) HT_ ?_
      refine pn_ (i := 15) (N := some 18) HT_ ?_
      refine pu_ (i := 16) (N := some 19) HT_ ?_
      refine pu_ (i := 17) (N := some 20) HT_ ?_
      refine pn_ (i := 18) (N := some 21) HT_ ?_
      refine pn_ (i := 19) (N := some 22) HT_ ?_
      refine pn_ (i := 20) (N := some 23) HT_ ?_
      refine pu_ (i := 21) (N := some 24) HT_ ?_
      refine pu_ (i := 22) (N := some 25) HT_ ?_
      refine pn_ (i := 23) (N := some 26) HT_ ?_
      refine pn_ (i := 24) (N := some 27) HT_ ?_
      refine pn_ (i := 25) (N := some 28) HT_ ?_
      refine pn_ (i := 26) (N := some 29) HT_ ?_
      refine pu_ (i := 27) (N := some 30) HT_ ?_
      refine pu_ (i := 28) (N := some 31) HT_ ?_
      refine pn_ (i := 29) (N := some 32) HT_ ?_
      refine pn_ (i := 30) (N := some 33) HT_ ?_
      refine pn_ (i := 31) (N := some 34) HT_ ?_
      refine pn_ (i := 32) (N := some 35) HT_ ?_
      refine pn_ (i := 33) (N := some 36) HT_ ?_
      refine pn_ (i := 34) (N := some 37) HT_ ?_
      refine pn_ (i := 35) (N := some 38) HT_ ?_
      refine pn_ (i := 36) (N := some 39) HT_ ?_
      refine pn_ (i := 37) (N := some 40) HT_ ?_
      refine pn_ (i := 38) (N := some 41) HT_ ?_
      refine pn_ (i := 39) (N := some 42) HT_ ?_
      refine pn_ (i := 40) (N := some 43) HT_ ?_
      refine pn_ (i := 41) (N := some 44) HT_ ?_
      refine pu_ (i := 42) (N := some 45) HT_ ?_
      refine pu_ (i := 43) (N := some 2) HT_ ?_
      refine done_ (done_of HT_.out (by kernel_rfl)) ?_
      try go_wp2
      go_ret
      exact ⟨by first | rfl | (simp [errW_none, errW_some] <;> rfl) | (simp [*, errW_none, errW_some] <;> rfl), by repeat (first | (with_reducible first | exact HB.out | apply below_alloc | apply pw_below_drewN | apply below_drew1 | refine below_set ?_ GE340.out) | exact HB.out)⟩
  · replace c3 := Bool.eq_false_iff.mpr c3
    subst c3
    have H1 : (some false) = some r := by rw [if_neg (show ¬ (false = true) by decide)] at H; exact H
    clear H
    have H := H1
    clear H1
    obtain rfl := Option.some.inj H
    go_enter Try.func10, Try.ntmps10
    try go_wp2_with (first | ((with_reducible refine gate_dst (N := 1) rfl ?_); (try (refine gate_guard (by rfl) ?_; dsimp only)); refine box_event ?hg (N := 1) ?hd (cs := #[.int .i64 a0_0, .slice A0_1 l0_1.length c0_1, .int .i64 a0_2, .int .i64 a0_3, .slice A0_4 l0_4.length c0_4]) (t := 25) ?hr ?_; (case hd => rfl); (case hg => rfl); (case hr => first | (go_simp; done) | (go_simp; rfl)); intro gb340 hg w24 hbox hb; have n0_ := Aside0.mk (below_step (hb0_ HB.out) hb); have n1_ := Aside0.mk (hbox); have n2_ := Aside0.mk ((by rw [hg]; exact (below_size (hb0_ HB.out)) : w.heap.size ≤ gb340)); have n3_ := Aside0.mk ((by rw [hg]; exact (below_size (hb0_ HB.out)) : w.heap.size ≤ gb340)); clear HB; have HB := n0_; have BK340 := n1_; have GW340 := n2_; have GE340 := n3_; clear n0_ n1_ n2_ n3_; clear hb hbox hg))
    have n0_ := Aside0.mk (blk_drew BK340.out)
    have n1_ := Aside0.mk (below_drew1 HB.out)
    clear BK340
    clear HB
    have BK340 := n0_
    have HB := n1_
    clear n0_ n1_
    refine start_ (n := 44) (S := fun w' => w'.cell? ⟨gb340, 0, none⟩ = some (.int .i64 a0_0) ∧ w'.cell? ⟨gb340, 1, none⟩ = some (.slice A0_1 l0_1.length c0_1) ∧ w'.cell? ⟨gb340, 2, none⟩ = some (.int .i64 a0_2) ∧ w'.cell? ⟨gb340, 3, none⟩ = some (.int .i64 a0_3) ∧ w'.cell? ⟨gb340, 4, none⟩ = some (.slice A0_4 l0_4.length c0_4)) (ds := []) #[false, false, false, false, false, false, false, false, false, false, false, false, false, false, false, false, false, false, false, false, false, false, false, false, false, false, false, false, false, false, false, false, false, false, false, false, false, false, false, false, false, false, false, false] (by kernel_rfl) rfl rfl ⟨(blk_cell BK340.out 0).trans rfl, (blk_cell BK340.out 1).trans rfl, (blk_cell BK340.out 2).trans rfl, (blk_cell BK340.out 3).trans rfl, (blk_cell BK340.out 4).trans rfl⟩ (fun hHeld => ?_); refine with_tabW impl_MouthOk.tab1 impl_MouthOk.bits1 (fun HT_ HW_ => ?_)
    generalize w24.drew = w25 at BK340 HB hHeld ⊢
    refine pu_ (i := 0) (N := some 3) HT_ ?_
    refine tk_ (i := 1) (N := some 4) HT_ HW_ hHeld ?_
    refine on_ (i := 2) (N := some 5) HT_ (fun K hK => ?_)
    refine goes_ Try.func36 (by kernel_rfl) rfl #[.int .i64 a0_0, .int .i64 0, .int .i64 1000000] (by rfl) rfl rfl ar_ ?_
    with_reducible refine (impl_in.calls a0_0 0 1000000 false _ A2.out).mono ?_
    rintro e w' ⟨rfl, ⟨nd, rfl⟩⟩
    refine ⟨_, rfl, ?_⟩
    refine hK.out _ _ ⟨(blk_cell BK340.out 0).trans rfl, (blk_cell BK340.out 1).trans rfl, (blk_cell BK340.out 2).trans rfl, (blk_cell BK340.out 3).trans rfl, (blk_cell BK340.out 4).trans rfl⟩ (fun hHeld => ?_)
    clear hK K
    refine nm_ 5 ?_
    refine pu_ (i := 3) (N := some 6) HT_ ?_
    refine pn_ (i := 4) (N := some 7) HT_ ?_
    refine pn_ (i := 5) (N := some 8) HT_ ?_
    refine pn_ (i := 6) (N := some 9) HT_ ?_
    refine pn_ (i := 7) (N := some 10) HT_ ?_
    refine pu_ (i := 8) (N := some 11) HT_ ?_
    refine pu_ (i := 9) (N := some 12) HT_ ?_
    refine pn_ (i := 10) (N := some 13) HT_ ?_
    refine pn_ (i := 11) (N := some 14) HT_ ?_
    refine pn_ (i := 12) (N := some 15) HT_ ?_
    refine pn_ (i := 13) (N := some 16) HT_ ?_
    refine pn_ (i := 14) (N := some 17) HT_ ?_
    refine pn_ (i := 15) (N := some 18) HT_ ?_
    refine pu_ (i := 16) (N := some 19) HT_ ?_
    refine pu_ (i := 17) (N := some 20) HT_ ?_
    refine pn_ (i := 18) (N := some 21) HT_ ?_
    refine pn_ (i := 19) (N := some 22) HT_ ?_
    refine pn_ (i := 20) (N := some 23) HT_ ?_
    refine pu_ (i := 21) (N := some 24) HT_ ?_
    refine pu_ (i := 22) (N := some 25) HT_ ?_
    refine pn_ (i := 23) (N := some 26) HT_ ?_
    refine pn_ (i := 24) (N := some 27) HT_ ?_
    refine pn_ (i := 25) (N := some 28) HT_ ?_
    refine pn_ (i := 26) (N := some 29) HT_ ?_
    refine pu_ (i := 27) (N := some 30) HT_ ?_
    refine pu_ (i := 28) (N := some 31) HT_ ?_
    refine pn_ (i := 29) (N := some 32) HT_ ?_
    refine pn_ (i := 30) (N := some 33) HT_ ?_
    refine pn_ (i := 31) (N := some 34) HT_ ?_
    refine pn_ (i := 32) (N := some 35) HT_ ?_
    refine pn_ (i := 33) (N := some 36) HT_ ?_
    refine pn_ (i := 34) (N := some 37) HT_ ?_
    refine pn_ (i := 35) (N := some 38) HT_ ?_
    refine pn_ (i := 36) (N := some 39) HT_ ?_
    refine pn_ (i := 37) (N := some 40) HT_ ?_
    refine pn_ (i := 38) (N := some 41) HT_ ?_
    refine pn_ (i := 39) (N := some 42) HT_ ?_
    refine pn_ (i := 40) (N := some 43) HT_ ?_
    refine pn_ (i := 41) (N := some 44) HT_ ?_
    refine pu_ (i := 42) (N := some 45) HT_ ?_
    refine pu_ (i := 43) (N := some 2) HT_ ?_
    refine done_ (done_of HT_.out (by kernel_rfl)) ?_
    try go_wp2
    go_ret
    exact ⟨by first | rfl | (simp [errW_none, errW_some] <;> rfl) | (simp [*, errW_none, errW_some] <;> rfl), by repeat (first | (with_reducible first | exact HB.out | apply below_alloc | apply pw_below_drewN | apply below_drew1 | refine below_set ?_ GE340.out) | exact HB.out)⟩

/-! ### slices_Grow_byte_byte: function 49, by hand -/
def slices_Grow_byte_byte.f (l0 : List Int) (a1 : Int) : Option (List Int) := if l0.length = 0 ∧ 0 ≤ a1 ∧ a1.toNat * 1 ≤ 140737488355328 then some [] else none
theorem slices_Grow_byte_byte.calls (A0 : Option Addr) (c0 : Nat) (l0 : List Int) (a1 : Int) (r : List Int) (w : World) (hr0 : Kd.C (Kd.int .u8) w A0 l0.length l0) (hc0 : A0 = none ∧ c0 = 0) (h : slices_Grow_byte_byte.f l0 a1 = some r) :
    Calls Try.prog 49 #[.slice A0 l0.length c0, .int .i64 a1] w fun e w' => ∃ v0_ : Value, e = .returned (v0_) ∧ Kd.R (Kd.int .u8) 5 w' w.heap.size (fun _ => True) v0_ r ∧ Below w.heap.size w w' := by
  obtain ⟨⟨hl0, h0, hle⟩, rfl⟩ : (l0.length = 0 ∧ 0 ≤ a1 ∧ a1.toNat * 1 ≤ 140737488355328) ∧ [] = r := by
    unfold slices_Grow_byte_byte.f at h; split at h
    · exact ⟨by assumption, Option.some.inj h⟩
    · cases h
  obtain rfl : l0 = [] := List.eq_nil_of_length_eq_zero hl0
  obtain ⟨rfl, rfl⟩ := hc0
  clear h hl0 hr0
  have hb : a1 ≤ 140737488355328 := by omega
  have HLE := Aside0.mk hle; clear hle
  have hneg : decide (a1 < 0) = false := decide_eq_false (by omega)
  by_cases hz : a1 = 0
  · subst hz
    clear hneg
    go_enter Try.func49, Try.ntmps49
    go_wp2
    go_ret
    exact ⟨_, rfl, Kd.R_nil _ _ _ _ _, Below.refl _ _⟩
  · have hp : decide (a1 > 0) = true := decide_eq_true (by omega)
    have hp2 : decide (0 < a1) = true := decide_eq_true (by omega)
    clear hz
    go_enter Try.func49, Try.ntmps49
    go_wp2_with (first
      | ((with_reducible refine gate_dst (N := 22) rfl ?_); refine Kd.R_append_zeros (Kd.int .u8) w.heap.size rfl _ _ 22 3 5 (.int .u8 0) 1 rfl Try.underlying22 Try.underlying3 info5 rfl (by decide) (by decide) (.slice none 0 0) [] 0 a1 (fun _ => True) rfl rfl (rfl) (fun _ _ => trivial) (Kd.R_nil _ _ _ _ _) h0 (Below.refl _ _) (Nat.le_refl _) (by simpa using HLE.out) ?_; intro v1 w1 ho hb1 hg hat; obtain ⟨A1, c1, hv1, hc1, _⟩ := Kd.R_reads ho; have HO := Aside0.mk ho; clear ho hat hg; have HB := Aside0.mk hb1; clear hb1; subst hv1))
    go_ret
    refine ⟨_, rfl, ?_, HB.out⟩
    have h2 := Kd.R_take (m := 0) HO.out (Nat.zero_le _)
    simpa using h2

/-! ### slices_Concat_byte_byte: function 31 -/
mutual
def slices_Concat_byte_byte.l0 : Nat → List (List Int) → Int → List (List Int) → Int → Int → Option (List Int)
  | 0, _, _, _, _, _ => none
  | k + 1, x0, x3, x9, x10, x11 => if x11 < x10 then (if 0 ≤ x11 then (if x11 < (x9.length : Int) then (if (wrap64 (x3 + ((rd_L3 x9 x11).length : Int))) < 0 then (none) else (slices_Concat_byte_byte.l0 k x0 (wrap64 (x3 + ((rd_L3 x9 x11).length : Int))) x9 x10 (wrap64 (x11 + 1)))) else (none)) else (none)) else ((slices_Grow_byte_byte.f ([] : List Int) x3).bind fun t349 => (slices_Concat_byte_byte.l1 k t349 x0 (x0.length : Int) 0))
def slices_Concat_byte_byte.l1 : Nat → List Int → List (List Int) → Int → Int → Option (List Int)
  | 0, _, _, _, _ => none
  | k + 1, x6, x25, x26, x27 => if x27 < x26 then (if 0 ≤ x27 then (if x27 < (x25.length : Int) then (if x6.length + (rd_L3 x25 x27).length < 140737488355328 then (slices_Concat_byte_byte.l1 k (x6 ++ (rd_L3 x25 x27)) x25 x26 (wrap64 (x27 + 1))) else (none)) else (none)) else (none)) else (some x6)
end
def slices_Concat_byte_byte.f (k : Nat) (l0 : List (List Int)) : Option (List Int) := slices_Concat_byte_byte.l0 k l0 0 l0 (l0.length : Int) 0
theorem slices_Concat_byte_byte.mono_l : ∀ k, (∀ y0 y1 y2 y3 y4, LeO (slices_Concat_byte_byte.l0 k y0 y1 y2 y3 y4) (slices_Concat_byte_byte.l0 (k + 1) y0 y1 y2 y3 y4)) ∧ (∀ y0 y1 y2 y3, LeO (slices_Concat_byte_byte.l1 k y0 y1 y2 y3) (slices_Concat_byte_byte.l1 (k + 1) y0 y1 y2 y3))
  | 0 => ⟨fun _ _ _ _ _ r h => by simp [slices_Concat_byte_byte.l0] at h, fun _ _ _ _ r h => by simp [slices_Concat_byte_byte.l1] at h⟩
  | k + 1 => by
    obtain ⟨ih0, ih1⟩ := slices_Concat_byte_byte.mono_l k
    refine ⟨?_, ?_⟩
    · intro y0 y1 y2 y3 y4
      unfold slices_Concat_byte_byte.l0
      repeat' first
      | (with_reducible exact ih0 _ _ _ _ _)
      | (with_reducible exact ih1 _ _ _ _)
      | (with_reducible exact LeO.refl _)
      | (with_reducible exact LeO.none _)
      | (with_reducible refine LeO.ite ?_ ?_)
      | (with_reducible refine LeO.bind ?_ (fun _ => ?_))
      | exact ih0 _ _ _ _ _
      | exact ih1 _ _ _ _
      | exact LeO.none _
      | refine LeO.ite ?_ ?_
      | refine LeO.bind ?_ (fun _ => ?_)
    · intro y0 y1 y2 y3
      unfold slices_Concat_byte_byte.l1
      repeat' first
      | (with_reducible exact ih0 _ _ _ _ _)
      | (with_reducible exact ih1 _ _ _ _)
      | (with_reducible exact LeO.refl _)
      | (with_reducible exact LeO.none _)
      | (with_reducible refine LeO.ite ?_ ?_)
      | (with_reducible refine LeO.bind ?_ (fun _ => ?_))
      | exact ih0 _ _ _ _ _
      | exact ih1 _ _ _ _
      | exact LeO.none _
      | refine LeO.ite ?_ ?_
      | refine LeO.bind ?_ (fun _ => ?_)
theorem slices_Concat_byte_byte.mono : ∀ a0 k, LeO (slices_Concat_byte_byte.f k a0) (slices_Concat_byte_byte.f (k + 1) a0) := by
  intro a0 k
  obtain ⟨ih0, ih1⟩ := slices_Concat_byte_byte.mono_l k
  unfold slices_Concat_byte_byte.f
  repeat' first
      | (with_reducible exact ih0 _ _ _ _ _)
      | (with_reducible exact ih1 _ _ _ _)
      | (with_reducible exact LeO.refl _)
      | (with_reducible exact LeO.none _)
      | (with_reducible refine LeO.ite ?_ ?_)
      | (with_reducible refine LeO.bind ?_ (fun _ => ?_))
      | exact ih0 _ _ _ _ _
      | exact ih1 _ _ _ _
      | exact LeO.none _
      | refine LeO.ite ?_ ?_
      | refine LeO.bind ?_ (fun _ => ?_)
set_option maxHeartbeats 8000000 in
set_option maxRecDepth 100000 in
theorem slices_Concat_byte_byte.calls (k : Nat) (A0 : Option Addr) (c0 : Nat) (l0 : List (List Int)) (r : List Int) (w : World) (hr0 : Kd.C (Kd.slice 5 (Kd.int .u8)) w A0 l0.length l0) (hc0 : l0.length ≤ c0) (h : slices_Concat_byte_byte.f k l0 = some r) :
    Calls Try.prog 31 #[.slice A0 l0.length c0] w fun e w' => ∃ v0_ : Value, e = .returned (v0_) ∧ Kd.R (Kd.int .u8) 5 w' w.heap.size (fun _ => True) v0_ r ∧ Below w.heap.size w w' := by
  have HR0 := Aside0.mk hr0
  have HC0 := Aside0.mk hc0
  clear hr0 hc0
  have HB := Aside0.mk (Below.refl w.heap.size w)
  have H : (slices_Concat_byte_byte.l0 k l0 0 l0 (l0.length : Int) 0) = some r := h
  clear h
  have H' := Aside0.mk H
  clear H
  go_enter Try.func31, Try.ntmps31
  go_wp2
  go_loopg [3, 11] k (fun kq v3 v11 w' => ∃ (x3_1 : Int) (x11_1 : Int), v3 = .int .i64 x3_1 ∧ v11 = .int .i64 x11_1 ∧ Aside0 (slices_Concat_byte_byte.l0 kq l0 x3_1 l0 (l0.length : Int) x11_1 = some r) ∧ Aside0 (kq ≤ k) ∧ Aside0 (Below w.heap.size w w'))
  case atStart => exact ⟨(0), (0), (by first | rfl | (simp; done) | (simp [*]; done)), (by first | rfl | (simp; done) | (simp [*]; done)), H', ⟨Nat.le_refl _⟩, ⟨by repeat (first | (with_reducible first | exact HB.out | apply below_alloc | apply pw_below_drewN | apply below_drew1) | exact HB.out)⟩⟩
  case round =>
    clear H'
    obtain ⟨x3_1, x11_1, rfl, rfl, HA, HK1, HB⟩ := hrel
    cases gk with
    | zero => exact absurd HA.out (by simp [slices_Concat_byte_byte.l0])
    | succ k1 =>
      have H := HA.out
      clear HA
      simp only [slices_Concat_byte_byte.l0] at H
      by_cases c2 : x11_1 < (l0.length : Int)
      · rw [if_pos c2] at H
        have c2b0 : decide (x11_1 < (l0.length : Int)) = true := decide_eq_true c2
        clear c2
        by_cases c3 : 0 ≤ x11_1
        · rw [if_pos c3] at H
          have c3b0 : decide (0 ≤ x11_1) = true := decide_eq_true c3
          clear c3
          by_cases c4 : x11_1 < (l0.length : Int)
          · rw [if_pos c4] at H
            have c4b0 : decide (x11_1 < (l0.length : Int)) = true := decide_eq_true c4
            clear c4
            by_cases c5 : (wrap64 (x3_1 + ((rd_L3 l0 x11_1).length : Int))) < 0
            · rw [if_pos c5] at H
              exact absurd H (by simp)
            · rw [if_neg c5] at H
              have c5b0 : decide ((wrap64 (x3_1 + ((rd_L3 l0 x11_1).length : Int))) < 0) = false := decide_eq_false c5
              clear c5
              have H' := Aside0.mk H
              clear H
              have p348 : 0 ≤ (x11_1 : Int) := of_decide_eq_true (by first | (with_reducible assumption) | assumption)
              have q348 : x11_1 < (l0.length : Int) := of_decide_eq_true (by first | (with_reducible assumption) | assumption)
              obtain ⟨ad348, A348_0, c348_0, e348, hx348_0, hl348_0, hi348_0⟩ := at_L3 HR0.out x11_1 p348 q348
              cases e348
              replace hx348_0 := (HB.out.cell (World.block_lt_of_cell? w _ hx348_0)).trans hx348_0
              have HR348_0 := Aside0.mk hi348_0
              have HC348_0 := Aside0.mk hl348_0
              clear hi348_0 hl348_0
              replace p348 := eq_true p348
              replace q348 := eq_true q348
              go_wp2
              go_roundg k1
              case measure => have := HK1.out; omega
              case rel => exact ⟨(wrap64 (x3_1 + ((rd_L3 l0 x11_1).length : Int))), (wrap64 (x11_1 + 1)), (by first | rfl | (simp; done) | (simp [*]; done)), (by first | rfl | (simp; done) | (simp [*]; done)), H', ⟨by have := HK1.out; omega⟩, ⟨by repeat (first | (with_reducible first | exact HB.out | apply below_alloc | apply pw_below_drewN | apply below_drew1) | exact HB.out)⟩⟩
          · rw [if_neg c4] at H
            exact absurd H (by simp)
        · rw [if_neg c3] at H
          exact absurd H (by simp)
      · rw [if_neg c2] at H
        have c2b0 : decide (x11_1 < (l0.length : Int)) = false := decide_eq_false c2
        clear c2
        replace H := Option.bind_eq_some_iff.mp H
        obtain ⟨t349, A60, H⟩ := H
        replace H : (slices_Concat_byte_byte.l1 k1 t349 l0 (l0.length : Int) 0) = some r := H
        have A6 := Aside0.mk A60
        clear A60
        have H' := Aside0.mk H
        clear H
        go_wp2_with (first | ((with_reducible refine gate_callee (f := 49) rfl ?_); refine goesL_ (some 24) rfl rfl Try.func49 (by kernel_rfl) rfl #[.slice none 0 0, .int .i64 x3_1] rfl ar_ ?_; (refine (slices_Grow_byte_byte.calls _ _ ([] : List Int) x3_1 t349 _ ?side1 ?side2 A6.out).mono ?_); (case side1 => exact Kd.C_nil _ _); (case side2 => first | exact Nat.le_refl _ | exact ⟨rfl, rfl⟩); rintro e w7 ⟨v350, rfl, ho0, hb⟩; refine ⟨_, rfl, ?_⟩; have n0_ := Aside0.mk (Kd.R_lower ho0 (below_size (hb0_ HB.out))); have n1_ := Aside0.mk (below_step (hb0_ HB.out) hb); clear HB; have HO351 := n0_; have HB := n1_; clear n0_ n1_; (try clear hb); (try clear hb2); (try clear hk); (try clear hi); (try clear ho0)))
        go_loopg [6, 27] k1 (fun kq v6 v27 w' => ∃ (x6_2 : List Int) (x27_2 : Int), v27 = .int .i64 x27_2 ∧ Aside0 (slices_Concat_byte_byte.l1 kq x6_2 l0 (l0.length : Int) x27_2 = some r) ∧ Aside0 (kq ≤ k1) ∧ Aside0 (Kd.R (Kd.int .u8) 5 w' w.heap.size (fun _ => True) v6 x6_2) ∧ Aside0 (Below w.heap.size w w'))
        case atStart => exact ⟨(t349), (0), (by first | rfl | (simp; done) | (simp [*]; done)), H', ⟨Nat.le_refl _⟩, ⟨kR_ HO351.out⟩, ⟨by repeat (first | (with_reducible first | exact HB.out | apply below_alloc | apply pw_below_drewN | apply below_drew1) | exact HB.out)⟩⟩
        case round =>
          clear H'
          try clear c2
          try clear c2b0
          try clear p2
          try clear c3
          try clear c3b0
          try clear p3
          try clear q3
          try clear hx3
          try clear c4
          try clear c4b0
          try clear c5
          try clear c5b0
          try clear p6
          try clear hx348_0
          try clear p348
          try clear q348
          obtain ⟨x6_2, x27_2, rfl, HA, HK2, HO_6, HB⟩ := hrel
          cases gk with
          | zero => exact absurd HA.out (by simp [slices_Concat_byte_byte.l1])
          | succ k2 =>
            have H := HA.out
            clear HA
            simp only [slices_Concat_byte_byte.l1] at H
            by_cases c8 : x27_2 < (l0.length : Int)
            · rw [if_pos c8] at H
              have c8b0 : decide (x27_2 < (l0.length : Int)) = true := decide_eq_true c8
              clear c8
              by_cases c9 : 0 ≤ x27_2
              · rw [if_pos c9] at H
                have c9b0 : decide (0 ≤ x27_2) = true := decide_eq_true c9
                clear c9
                by_cases c10 : x27_2 < (l0.length : Int)
                · rw [if_pos c10] at H
                  have c10b0 : decide (x27_2 < (l0.length : Int)) = true := decide_eq_true c10
                  clear c10
                  by_cases c11 : x6_2.length + (rd_L3 l0 x27_2).length < 140737488355328
                  · rw [if_pos c11] at H
                    have LMc11 := Aside0.mk c11
                    clear c11
                    obtain ⟨y353, hy353⟩ : ∃ y_ : List Int, y_ = (x6_2 ++ (rd_L3 l0 x27_2)) := ⟨_, rfl⟩
                    replace H : (slices_Concat_byte_byte.l1 k2 y353 l0 (l0.length : Int) (wrap64 (x27_2 + 1))) = some r := by first | (rw [hy353]; with_reducible exact H) | (have H2_ := (Option.bind_some _ _).symm.trans H; rw [hy353]; with_reducible exact H2_) | (have H2_ := (Option.bind_some _ _).symm.trans H; with_reducible exact H2_) | with_reducible exact H | (rw [hy353]; exact H) | exact H
                    have Ny353 := Aside0.mk hy353
                    clear hy353
                    have H' := Aside0.mk H
                    clear H
                    have p352 : 0 ≤ (x27_2 : Int) := of_decide_eq_true (by first | (with_reducible assumption) | assumption)
                    have q352 : x27_2 < (l0.length : Int) := of_decide_eq_true (by first | (with_reducible assumption) | assumption)
                    obtain ⟨ad352, A352_0, c352_0, e352, hx352_0, hl352_0, hi352_0⟩ := at_L3 HR0.out x27_2 p352 q352
                    cases e352
                    replace hx352_0 := (HB.out.cell (World.block_lt_of_cell? w _ hx352_0)).trans hx352_0
                    have HR352_0 := Aside0.mk hi352_0
                    have HC352_0 := Aside0.mk hl352_0
                    clear hi352_0 hl352_0
                    replace p352 := eq_true p352
                    replace q352 := eq_true q352
                    go_wp2_with (first | ((with_reducible refine gate_builtin (b := .append) (xs := #[.tmp 31, .tmp 32]) rfl ?_); at_builtin; refine Kd.R_append_rows (Kd.int .u8) (w0 := w) w.heap.size rfl (.tmp 31) (.tmp 32) 22 5 (.int .u8 0) 1 rfl Try.underlying22 info5 rfl (by decide) (by omega) u6 x6_2 (rd_L3 l0 x27_2) _ _ _ (fun _ => True) (fun _ => False) rfl rfl ?aO ?aR (fun _ _ h => h) (fun _ h => h.elim) ?aF ?aB ?aS ?aL ?_; (case aR => exact kC_ (Kd.C_below HR352_0.out HB.out)); (case aB => exact (hb0_ HB.out)); (case aF => exact (fun _ _ => trivial)); (case aO => exact (kR_ HO_6.out)); (case aS => exact (below_size (hb0_ HB.out))); (case aL => have := LMc11.out; omega); intro v354 w12 ho hb hg hat; rw [← Ny353.out] at ho; have n0_ := Aside0.mk (hb); have n1_ := Aside0.mk (ho); clear HB; clear HO_6; have HB := n0_; have HO355 := n1_; clear n0_ n1_; clear ho hb hg hat))
                    go_roundg k2
                    case measure => have := HK1.out; have := HK2.out; omega
                    case rel => exact ⟨(y353), (wrap64 (x27_2 + 1)), (by first | rfl | (simp; done) | (simp [*]; done)), H', ⟨by have := HK1.out; have := HK2.out; omega⟩, ⟨kR_ HO355.out⟩, ⟨by repeat (first | (with_reducible first | exact HB.out | apply below_alloc | apply pw_below_drewN | apply below_drew1) | exact HB.out)⟩⟩
                  · rw [if_neg c11] at H
                    exact absurd H (by simp)
                · rw [if_neg c10] at H
                  exact absurd H (by simp)
              · rw [if_neg c9] at H
                exact absurd H (by simp)
            · rw [if_neg c8] at H
              have c8b0 : decide (x27_2 < (l0.length : Int)) = false := decide_eq_false c8
              clear c8
              obtain rfl := Option.some.inj H
              go_wp2
              go_ret
              exact ⟨_, by first | rfl | (simp [errW_none, errW_some] <;> rfl) | (simp [*, errW_none, errW_some] <;> rfl), kR_ HO_6.out, by repeat (first | (with_reducible first | exact HB.out | apply below_alloc | apply pw_below_drewN | apply below_drew1) | exact HB.out)⟩

/-! ### slices_Clip_byte_byte: function 54, by hand -/
theorem slices_Clip_byte_byte.calls (A0 : Option Addr) (c0 n0 : Nat) (w : World) (hc : n0 ≤ c0) : Calls Try.prog 54 #[.slice A0 n0 c0] w fun e w' => e = .returned (.slice A0 n0 n0) ∧ w' = w := by
  go_enter Try.func54, Try.ntmps54
  go_wp2
  go_ret
  exact ⟨rfl, rfl⟩

/-! ### impl_clone_byte: function 50, by hand -/
def impl_clone_byte.f (l0 : List Int) : Option (List Int) := if l0.length * 1 ≤ 140737488355328 then some l0 else none
theorem impl_clone_byte.calls (A0 : Option Addr) (c0 : Nat) (l0 : List Int) (r : List Int) (w : World) (hr0 : Kd.C (Kd.int .u8) w A0 l0.length l0) (hc0 : l0.length ≤ c0) (h : impl_clone_byte.f l0 = some r) :
    Calls Try.prog 50 #[.slice A0 l0.length c0] w fun e w' => ∃ v0_ : Value, e = .returned (v0_) ∧ Kd.R (Kd.int .u8) 5 w' w.heap.size (fun _ => True) v0_ r ∧ Below w.heap.size w w' := by
  obtain ⟨hle, rfl⟩ : l0.length * 1 ≤ 140737488355328 ∧ l0 = r := by
    unfold impl_clone_byte.f at h; split at h
    · exact ⟨by assumption, Option.some.inj h⟩
    · cases h
  have hm := hr0.2.1
  have HR := Aside0.mk hr0; clear hr0 h
  by_cases h0 : l0.length = 0
  · have hb : ((l0.length : Int) == 0) = true := by simp [h0]
    have HL : Aside0 (l0 = []) := ⟨List.eq_nil_of_length_eq_zero h0⟩
    clear h0
    go_enter Try.func50, Try.ntmps50
    go_wp2
    go_ret
    refine ⟨_, rfl, ?_, Below.refl _ _⟩
    rw [HL.out]; exact Kd.R_nil _ _ _ _ _
  · have hb : ((l0.length : Int) == 0) = false := by simp; intro hh; exact h0 (by simp [hh])
    clear h0
    go_enter Try.func50, Try.ntmps50
    go_wp2_with (first
      | ((with_reducible refine gate_dst (N := 7) rfl ?_); refine Kd.R_append_rows (Kd.int .u8) (Rr := (Kd.int .u8).K w) w.heap.size rfl _ _ 22 5 (.int .u8 0) 1 rfl Try.underlying22 info5 rfl (by decide) (by decide) (.slice none 0 0) [] l0 A0 l0.length c0 (fun _ => True) (fun _ => True) rfl rfl (Kd.R_nil _ _ _ _ _) HR.out (fun x cs h => h) (fun k _ => ⟨trivial, by simp [Value.ownBlock]⟩) (fun _ _ => trivial) (Below.refl _ _) (Nat.le_refl _) (by simpa using hle) ?_; intro v1 w1 ho hb1 hg hat; rw [List.nil_append] at ho; obtain ⟨A1, c1, hv1, hc1, _⟩ := Kd.R_reads ho; have HO := Aside0.mk ho; clear ho hat hg; have HB := Aside0.mk hb1; clear hb1; subst hv1)
      | (go_at_call 54; (with_reducible refine (slices_Clip_byte_byte.calls _ _ _ _ hc1).mono ?_); rintro e w' ⟨rfl, rfl⟩))
    go_ret
    exact ⟨_, rfl, Kd.R_clip HO.out (Nat.le_refl _) hc1, HB.out⟩

end Go.Proofs.Ytjiodkbbmhhccab.PFnMouthWrite
