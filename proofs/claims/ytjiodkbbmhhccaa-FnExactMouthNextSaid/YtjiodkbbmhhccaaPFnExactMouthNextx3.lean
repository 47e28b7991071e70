/- Printed by wip/xp/xprint.sh out of the translation, for this claim: what each function answers, as a plain function, and that the machine does just that. No condition. -/
import Derived.Test.YtjiodkbbmhhccaaPFnExactMouthNextx0
import Derived.Test.YtjiodkbbmhhccaaPFnExactMouthNextx2
namespace Go.Proofs.Ytjiodkbbmhhccaa.PFnExactMouthNext
open Go.RowKit Go.Proofs.YtjiodkbbmhhccaaW.PrintWords Go.Proofs.YtjiodkbbmhhccaaW.PrintLast Go.Proofs.YtjiodkbbmhhccaaW.PrintMore
attribute [local go_sem] max2_int min2_int max_two min_two max_three min_three max_four min_four   -- for this text's walks alone
set_option linter.unusedVariables false
set_option linter.unusedSimpArgs false

/-! ### impl_MouthOk: function 31 -/
def impl_MouthOk.f (k : Nat) (a0_0 : Int) (l0_1 : List Int) (a0_2 : Int) (a0_3 : Int) (l0_4 : List (S86)) : Option (Bool) := (impl_in.f a0_0 0 1000000).bind fun t116 => (if t116 = true then (if (l0_1.length : Int) ≤ 32 then ((impl_in.f a0_2 0 (l0_1.length : Int)).bind fun t117 => (if t117 = true then ((impl_in.f a0_3 0 255).bind fun t118 => (if t118 = true then (if (l0_4.length : Int) ≤ 2 then ((impl_rangesOk.f k l0_4 a0_0 (wrap64 (a0_0 + a0_2))).bind fun t119 => ((impl_Range_63.f k t119 l0_4).bind fun t122 => (some t122))) else (some false)) else (some false))) else (some false))) else (some false)) else (some false))
theorem impl_MouthOk.mono : ∀ a0 a1 a2 a3 a4 k, LeO (impl_MouthOk.f k a0 a1 a2 a3 a4) (impl_MouthOk.f (k + 1) a0 a1 a2 a3 a4) := by
 intro a0 a1 a2 a3 a4 k
 unfold impl_MouthOk.f
 repeat' first
   | (with_reducible exact impl_Range_63.mono _ _ _)
   | (with_reducible exact impl_rangesOk.mono _ _ _ _)
   | (with_reducible exact LeO.refl _)
   | (with_reducible exact LeO.none _)
   | (with_reducible refine LeO.ite ?_ ?_)
   | (with_reducible refine LeO.bind ?_ (fun _ => ?_))
   | exact impl_Range_63.mono _ _ _
   | exact impl_rangesOk.mono _ _ _ _
   | exact LeO.none _
   | refine LeO.ite ?_ ?_
   | refine LeO.bind ?_ (fun _ => ?_)
def impl_MouthOk.T1 : Bool × List (List Nat × List Nat) := (true, [([], []), ([0], [0]), ([1], [1]), ([2, 2], [2]), ([3], [3]), ([4, 3], [3, 4]), ([5, 3], [3, 5]), ([6, 3], [3, 6]), ([3, 7], [3, 7]), ([8, 3], [8]), ([9], [9]), ([10, 9], [9, 10]), ([9], [9]), ([12, 9], [9, 12]), ([13, 9], [9, 13]), ([11, 14, 9, 9], [9, 11, 14]), ([9, 15], [9, 15]), ([16, 15], [16]), ([17], [17]), ([18, 17], [17, 18]), ([19, 17, 17], [17, 19]), ([17, 20], [17, 20]), ([21, 20], [21]), ([22], [22]), ([23, 22], [22, 23]), ([24, 22], [22, 24]), ([25, 22], [22, 25]), ([22, 26], [22, 26]), ([27, 22], [27]), ([28], [28]), ([29, 28], [28, 29]), ([28], [28]), ([31, 28], [28, 31]), ([28], [28]), ([33, 28], [28, 33]), ([28], [28]), ([35, 28], [28, 35]), ([34, 36, 28], [28, 34, 36]), ([30, 32, 37, 28, 28], [28, 30, 32, 37]), ([28], [28]), ([39, 28], [28, 39]), ([38, 40, 38, 28], [28, 38, 40]), ([28, 41], [28, 41]), ([42, 41, 0, 1, 2, 3, 4, 5, 6, 7, 8, 9, 10, 11, 12, 13, 14, 15, 16, 17, 18, 19, 20, 21, 22, 23, 24, 25, 26, 27, 28, 29, 30, 31, 32, 33, 34, 35, 36, 37, 38, 39, 40, 41, 42], [42])])
def impl_MouthOk.B1 : List Nat := [0, 1, 3, 7, 15, 31, 63, 127, 255, 511, 1023, 2047, 1023, 5119, 13311, 32767, 65535, 131071, 262143, 524287, 1048575, 2097151, 4194303, 8388607, 16777215, 33554431, 67108863, 134217727, 268435455, 536870911, 1073741823, 536870911, 2684354559, 536870911, 9126805503, 536870911, 34896609279, 129385889791, 274877906943, 536870911, 550292684799, 2199023255551, 4398046511103, 8796093022207]
theorem impl_MouthOk.tab1 : rtab .any (opsOf Try.f31 1) = impl_MouthOk.T1 := by kernel_rfl
theorem impl_MouthOk.bits1 : waitsOk impl_MouthOk.T1.2 impl_MouthOk.B1 = true := by kernel_rfl
set_option maxHeartbeats 8000000 in
set_option maxRecDepth 100000 in
theorem impl_MouthOk.calls (k : Nat) (a0_0 : Int) (A0_1 : Option Addr) (c0_1 : Nat) (l0_1 : List Int) (a0_2 : Int) (a0_3 : Int) (A0_4 : Option Addr) (c0_4 : Nat) (l0_4 : List (S86)) (r : Bool) (w : World) (hr0_1 : Kd.C (Kd.int .u8) w A0_1 l0_1.length l0_1) (hc0_1 : l0_1.length ≤ c0_1) (hr0_4 : Kd.C k86 w A0_4 l0_4.length l0_4) (hc0_4 : l0_4.length ≤ c0_4) (h : impl_MouthOk.f k a0_0 l0_1 a0_2 a0_3 l0_4 = some r) :
  Calls Try.prog 31 #[.agg #[.int .i64 a0_0, .slice A0_1 l0_1.length c0_1, .int .i64 a0_2, .int .i64 a0_3, .slice A0_4 l0_4.length c0_4]] w fun e w' => e = .returned (.bool r) ∧ Below w.heap.size w w' := by
 have hu47 := Try.underlying47; have HR0_1 := Aside0.mk hr0_1; have HC0_1 := Aside0.mk hc0_1; clear hr0_1 hc0_1; have HR0_4 := Aside0.mk hr0_4; have HC0_4 := Aside0.mk hc0_4; clear hr0_4 hc0_4
 have HB := Aside0.mk (Below.refl w.heap.size w)
 have H : ((impl_in.f a0_0 0 1000000).bind fun t116 => (if t116 = true then (if (l0_1.length : Int) ≤ 32 then ((impl_in.f a0_2 0 (l0_1.length : Int)).bind fun t117 => (if t117 = true then ((impl_in.f a0_3 0 255).bind fun t118 => (if t118 = true then (if (l0_4.length : Int) ≤ 2 then ((impl_rangesOk.f k l0_4 a0_0 (wrap64 (a0_0 + a0_2))).bind fun t119 => ((impl_Range_63.f k t119 l0_4).bind fun t122 => (some t122))) else (some false)) else (some false))) else (some false))) else (some false)) else (some false))) = some r := h
 clear h
 replace H := Option.bind_eq_some_iff.mp H
 obtain ⟨t116, A20, H⟩ := H
 replace H : (if t116 = true then (if (l0_1.length : Int) ≤ 32 then ((impl_in.f a0_2 0 (l0_1.length : Int)).bind fun t117 => (if t117 = true then ((impl_in.f a0_3 0 255).bind fun t118 => (if t118 = true then (if (l0_4.length : Int) ≤ 2 then ((impl_rangesOk.f k l0_4 a0_0 (wrap64 (a0_0 + a0_2))).bind fun t119 => ((impl_Range_63.f k t119 l0_4).bind fun t122 => (some t122))) else (some false)) else (some false))) else (some false))) else (some false)) else (some false)) = some r := H
 have A2 := Aside0.mk A20; clear A20
 by_cases c3 : t116 = true
 ·subst c3
  have H1 : (if (l0_1.length : Int) ≤ 32 then ((impl_in.f a0_2 0 (l0_1.length : Int)).bind fun t117 => (if t117 = true then ((impl_in.f a0_3 0 255).bind fun t118 => (if t118 = true then (if (l0_4.length : Int) ≤ 2 then ((impl_rangesOk.f k l0_4 a0_0 (wrap64 (a0_0 + a0_2))).bind fun t119 => ((impl_Range_63.f k t119 l0_4).bind fun t122 => (some t122))) else (some false)) else (some false))) else (some false))) else (some false)) = some r := by rw [if_pos rfl] at H; exact H
  clear H; have H := H1; clear H1
  by_cases c4 : (l0_1.length : Int) ≤ 32
  ·rw [if_pos c4] at H
   have c4b0 : decide ((l0_1.length : Int) ≤ 32) = true := decide_eq_true c4
   have c4b1 : decide (l0_1.length ≤ 32) = true := decide_eq_true (by omega)
   clear c4
   replace H := Option.bind_eq_some_iff.mp H
   obtain ⟨t117, A50, H⟩ := H
   replace H : (if t117 = true then ((impl_in.f a0_3 0 255).bind fun t118 => (if t118 = true then (if (l0_4.length : Int) ≤ 2 then ((impl_rangesOk.f k l0_4 a0_0 (wrap64 (a0_0 + a0_2))).bind fun t119 => ((impl_Range_63.f k t119 l0_4).bind fun t122 => (some t122))) else (some false)) else (some false))) else (some false)) = some r := H
   have A5 := Aside0.mk A50; clear A50
   by_cases c6 : t117 = true
   ·subst c6
    have H1 : ((impl_in.f a0_3 0 255).bind fun t118 => (if t118 = true then (if (l0_4.length : Int) ≤ 2 then ((impl_rangesOk.f k l0_4 a0_0 (wrap64 (a0_0 + a0_2))).bind fun t119 => ((impl_Range_63.f k t119 l0_4).bind fun t122 => (some t122))) else (some false)) else (some false))) = some r := by rw [if_pos rfl] at H; exact H
    clear H; have H := H1; clear H1
    replace H := Option.bind_eq_some_iff.mp H
    obtain ⟨t118, A70, H⟩ := H
    replace H : (if t118 = true then (if (l0_4.length : Int) ≤ 2 then ((impl_rangesOk.f k l0_4 a0_0 (wrap64 (a0_0 + a0_2))).bind fun t119 => ((impl_Range_63.f k t119 l0_4).bind fun t122 => (some t122))) else (some false)) else (some false)) = some r := H
    have A7 := Aside0.mk A70; clear A70
    by_cases c8 : t118 = true
    ·subst c8
     have H1 : (if (l0_4.length : Int) ≤ 2 then ((impl_rangesOk.f k l0_4 a0_0 (wrap64 (a0_0 + a0_2))).bind fun t119 => ((impl_Range_63.f k t119 l0_4).bind fun t122 => (some t122))) else (some false)) = some r := by rw [if_pos rfl] at H; exact H
     clear H; have H := H1; clear H1
     by_cases c9 : (l0_4.length : Int) ≤ 2
     ·rw [if_pos c9] at H
      have c9b0 : decide ((l0_4.length : Int) ≤ 2) = true := decide_eq_true c9
      have c9b1 : decide (l0_4.length ≤ 2) = true := decide_eq_true (by omega)
      clear c9
      replace H := Option.bind_eq_some_iff.mp H
      obtain ⟨t119, A100, H⟩ := H
      replace H : ((impl_Range_63.f k t119 l0_4).bind fun t122 => (some t122)) = some r := H
      have A10 := Aside0.mk A100; clear A100
      replace H := Option.bind_eq_some_iff.mp H
      obtain ⟨t122, A110, H⟩ := H
      replace H : (some t122) = some r := H
      have A11 := Aside0.mk A110; clear A110
      obtain rfl := Option.some.inj H
      go_enter Try.func31, Try.ntmps31
      try go_wp2_with (first | ((with_reducible refine gate_dst (N := 1) rfl ?_); (try (refine gate_guard (by rfl) ?_; dsimp only)); refine box_event ?hg (N := 1) ?hd (cs := #[.int .i64 a0_0, .slice A0_1 l0_1.length c0_1, .int .i64 a0_2, .int .i64 a0_3, .slice A0_4 l0_4.length c0_4]) (t := 47) ?hr ?_; (case hd => rfl); (case hg => rfl); (case hr => first | (go_simp; done) | (go_simp; rfl)); intro gb115 hg w12 hbox hb; have n0_ := Aside0.mk (below_step (hb0_ HB.out) hb); have n1_ := Aside0.mk (hbox); have n2_ := Aside0.mk ((by rw [hg]; exact (below_size (hb0_ HB.out)) : w.heap.size ≤ gb115)); have n3_ := Aside0.mk ((by rw [hg]; exact (below_size (hb0_ HB.out)) : w.heap.size ≤ gb115)); clear HB; have HB := n0_; have BK115 := n1_; have GW115 := n2_; have GE115 := n3_; clear n0_ n1_ n2_ n3_; clear hb hbox hg))
      have n0_ := Aside0.mk (blk_drew BK115.out); have n1_ := Aside0.mk (below_drew1 HB.out); clear BK115 HB; have BK115 := n0_; have HB := n1_; clear n0_ n1_
      refine start_ (n := 44) (S := fun w' => w'.cell? ⟨gb115, 0, none⟩ = some (.int .i64 a0_0) ∧ w'.cell? ⟨gb115, 1, none⟩ = some (.slice A0_1 l0_1.length c0_1) ∧ w'.cell? ⟨gb115, 2, none⟩ = some (.int .i64 a0_2) ∧ w'.cell? ⟨gb115, 3, none⟩ = some (.int .i64 a0_3) ∧ w'.cell? ⟨gb115, 4, none⟩ = some (.slice A0_4 l0_4.length c0_4)) (ds := []) #[false, false, false, false, false, false, false, false, false, false, false, false, false, false, false, false, false, false, false, false, false, false, false, false, false, false, false, false, false, false, false, false, false, false, false, false, false, false, false, false, false, false, false, false] (by kernel_rfl) rfl rfl ⟨(blk_cell BK115.out 0).trans rfl, (blk_cell BK115.out 1).trans rfl, (blk_cell BK115.out 2).trans rfl, (blk_cell BK115.out 3).trans rfl, (blk_cell BK115.out 4).trans rfl⟩ (fun hHeld => ?_); refine with_tabW impl_MouthOk.tab1 impl_MouthOk.bits1 (fun HT_ HW_ => ?_)
      generalize w12.drew = w13 at BK115 HB hHeld ⊢
      refine pu_ (i := 0) (N := some 3) HT_ ?_; refine tk_ (i := 1) (N := some 4) HT_ HW_ hHeld ?_
      refine on_ (i := 2) (N := some 5) HT_ (fun K hK => ?_)
      refine goes_ Try.func44 (by kernel_rfl) rfl #[.int .i64 a0_0, .int .i64 0, .int .i64 1000000] (by rfl) rfl rfl ar_ ?_
      with_reducible refine (impl_in.calls a0_0 0 1000000 true _ A2.out).mono ?_
      rintro e w' ⟨rfl, ⟨nd, rfl⟩⟩
      refine ⟨_, rfl, ?_⟩
      refine hK.out _ _ ⟨(blk_cell BK115.out 0).trans rfl, (blk_cell BK115.out 1).trans rfl, (blk_cell BK115.out 2).trans rfl, (blk_cell BK115.out 3).trans rfl, (blk_cell BK115.out 4).trans rfl⟩ (fun hHeld => ?_)
      clear hK K; refine nm_ 5 ?_; refine pu_ (i := 3) (N := some 6) HT_ ?_; refine pu_ (i := 4) (N := some 7) HT_ ?_; refine tk_ (i := 5) (N := some 8) HT_ HW_ hHeld ?_; refine pu_ (i := 6) (N := some 9) HT_ ?_; refine pu_ (i := 7) (N := some 10) HT_ ?_; refine pu_ (i := 8) (N := some 11) HT_ ?_; refine pu_ (i := 9) (N := some 12) HT_ ?_; refine pu_ (i := 10) (N := some 13) HT_ ?_; refine pu_ (i := 12) (N := some 15) HT_ ?_; refine tk_ (i := 11) (N := some 14) HT_ HW_ hHeld ?_; refine tk_ (i := 13) (N := some 16) HT_ HW_ hHeld ?_; refine pu_ (i := 14) (N := some 17) HT_ ?_
      refine on_ (i := 15) (N := some 18) HT_ (fun K hK => ?_)
      refine goes_ Try.func44 (by kernel_rfl) rfl #[.int .i64 a0_2, .int .i64 0, .int .i64 (l0_1.length : Int)] (by rfl) rfl rfl ar_ ?_
      with_reducible refine (impl_in.calls a0_2 0 (l0_1.length : Int) true _ A5.out).mono ?_
      rintro e w' ⟨rfl, ⟨nd, rfl⟩⟩
      refine ⟨_, rfl, ?_⟩
      refine hK.out _ _ ⟨(blk_cell BK115.out 0).trans rfl, (blk_cell BK115.out 1).trans rfl, (blk_cell BK115.out 2).trans rfl, (blk_cell BK115.out 3).trans rfl, (blk_cell BK115.out 4).trans rfl⟩ (fun hHeld => ?_)
      clear hK K; refine nm_ 18 ?_; refine pu_ (i := 16) (N := some 19) HT_ ?_; refine pu_ (i := 17) (N := some 20) HT_ ?_; refine pu_ (i := 18) (N := some 21) HT_ ?_; refine tk_ (i := 19) (N := some 22) HT_ HW_ hHeld ?_
      refine on_ (i := 20) (N := some 23) HT_ (fun K hK => ?_)
      refine goes_ Try.func44 (by kernel_rfl) rfl #[.int .i64 a0_3, .int .i64 0, .int .i64 255] (by rfl) rfl rfl ar_ ?_
      with_reducible refine (impl_in.calls a0_3 0 255 true _ A7.out).mono ?_
      rintro e w' ⟨rfl, ⟨nd, rfl⟩⟩
      refine ⟨_, rfl, ?_⟩
      refine hK.out _ _ ⟨(blk_cell BK115.out 0).trans rfl, (blk_cell BK115.out 1).trans rfl, (blk_cell BK115.out 2).trans rfl, (blk_cell BK115.out 3).trans rfl, (blk_cell BK115.out 4).trans rfl⟩ (fun hHeld => ?_)
      clear hK K; refine nm_ 23 ?_; refine pu_ (i := 21) (N := some 24) HT_ ?_; refine pu_ (i := 22) (N := some 25) HT_ ?_; refine pu_ (i := 23) (N := some 26) HT_ ?_; refine tk_ (i := 24) (N := some 27) HT_ HW_ hHeld ?_; refine pu_ (i := 25) (N := some 28) HT_ ?_; refine pu_ (i := 26) (N := some 29) HT_ ?_; refine pu_ (i := 27) (N := some 30) HT_ ?_; refine pu_ (i := 28) (N := some 31) HT_ ?_; refine pu_ (i := 29) (N := some 32) HT_ ?_; refine pu_ (i := 31) (N := some 34) HT_ ?_; refine pu_ (i := 33) (N := some 36) HT_ ?_; refine pu_ (i := 35) (N := some 38) HT_ ?_; refine pu_ (i := 39) (N := some 42) HT_ ?_; refine tk_ (i := 30) (N := some 33) HT_ HW_ hHeld ?_; refine tk_ (i := 32) (N := some 35) HT_ HW_ hHeld ?_; refine tk_ (i := 34) (N := some 37) HT_ HW_ hHeld ?_; refine tk_ (i := 36) (N := some 39) HT_ HW_ hHeld ?_; refine pu_ (i := 37) (N := some 40) HT_ ?_; refine tk_ (i := 40) (N := some 43) HT_ HW_ hHeld ?_
      refine on_ (i := 38) (N := some 41) HT_ (fun K hK => ?_)
      refine goes_ Try.func64 (by kernel_rfl) rfl #[.slice A0_4 l0_4.length c0_4, .int .i64 a0_0, .int .i64 (wrap64 (a0_0 + a0_2))] (by rfl) rfl rfl ar_ ?_
      with_reducible refine (impl_rangesOk.calls k _ _ l0_4 a0_0 (wrap64 (a0_0 + a0_2)) t119 _ ?side1 ?side2 A10.out).mono ?_
      (case side1 => exact kC_ (Kd.C_below HR0_4.out (hb1_ HB.out GE115.out)))
      (case side2 => exact HC0_4.out)
      rintro e w14 ⟨v120, rfl, ho0, hb⟩
      refine ⟨_, rfl, ?_⟩
      have n0_ := Aside0.mk (Kd.R_lower ho0 (below_size (hb1_ HB.out GE115.out))); have n1_ := Aside0.mk (blk_below (g := gb115) (o := .cells #[.int .i64 a0_0, .slice A0_1 l0_1.length c0_1, .int .i64 a0_2, .int .i64 a0_3, .slice A0_4 l0_4.length c0_4] 47 (0, 0)) (kb_ BK115.out) hb); have n2_ := Aside0.mk (below_step (hb1_ HB.out GE115.out) hb); clear BK115 HB; have HO121 := n0_; have BK115 := n1_; have HB := n2_; clear n0_ n1_ n2_; (try clear hb); (try clear hb2); (try clear hk); (try clear hi); (try clear ho0)
      obtain ⟨Ao15, co15, eo15⟩ := Kd.R_slice HO121.out
      (first | subst eo15 | (injection eo15 with f1_ f2_ f3_; have f4_ := f1_.symm; have f5_ := f3_.symm; clear f1_ f2_ f3_; subst f4_; subst f5_))
      refine hK.out _ _ ⟨(blk_cell BK115.out 0).trans rfl, (blk_cell BK115.out 1).trans rfl, (blk_cell BK115.out 2).trans rfl, (blk_cell BK115.out 3).trans rfl, (blk_cell BK115.out 4).trans rfl⟩ (fun hHeld => ?_)
      clear hK K; refine nm_ 41 ?_
      refine on_ (i := 41) (N := some 44) HT_ (fun K hK => ?_)
      refine goes_ Try.func63 (by kernel_rfl) rfl #[.slice Ao15 t119.length co15, .slice A0_4 l0_4.length c0_4] (by rfl) rfl rfl ar_ ?_
      with_reducible refine (impl_Range_63.calls k _ _ t119 _ _ l0_4 t122 _ ?side1 ?side2 ?side3 ?side4 A11.out).mono ?_
      (case side1 => exact kC_ (Kd.R_reads' HO121.out).2.2)
      (case side2 => exact (Kd.R_reads' HO121.out).2.1)
      (case side3 => exact kC_ (Kd.C_below HR0_4.out HB.out))
      (case side4 => exact HC0_4.out)
      rintro e w' ⟨rfl, ⟨nd, rfl⟩⟩
      refine ⟨_, rfl, ?_⟩
      refine hK.out _ _ ⟨(blk_cell BK115.out 0).trans rfl, (blk_cell BK115.out 1).trans rfl, (blk_cell BK115.out 2).trans rfl, (blk_cell BK115.out 3).trans rfl, (blk_cell BK115.out 4).trans rfl⟩ (fun hHeld => ?_)
      clear hK K; refine nm_ 44 ?_; refine pu_ (i := 42) (N := some 45) HT_ ?_; refine pu_ (i := 43) (N := some 2) HT_ ?_
      refine done_ (done_of HT_.out (by kernel_rfl)) ?_
      try go_wp2
      go_ret
      exact ⟨by first | rfl | (simp [errW_none, errW_some] <;> rfl) | (simp [*, errW_none, errW_some] <;> rfl), by repeat (first | (with_reducible first | exact HB.out | apply below_alloc | apply pw_below_drewN | apply below_drew1 | refine below_set ?_ GE115.out) | exact HB.out)⟩
     ·rw [if_neg c9] at H
      have c9b0 : decide ((l0_4.length : Int) ≤ 2) = false := decide_eq_false c9
      have c9b1 : decide (l0_4.length ≤ 2) = false := decide_eq_false (by omega)
      clear c9
      obtain rfl := Option.some.inj H
      go_enter Try.func31, Try.ntmps31
      try go_wp2_with (first | ((with_reducible refine gate_dst (N := 1) rfl ?_); (try (refine gate_guard (by rfl) ?_; dsimp only)); refine box_event ?hg (N := 1) ?hd (cs := #[.int .i64 a0_0, .slice A0_1 l0_1.length c0_1, .int .i64 a0_2, .int .i64 a0_3, .slice A0_4 l0_4.length c0_4]) (t := 47) ?hr ?_; (case hd => rfl); (case hg => rfl); (case hr => first | (go_simp; done) | (go_simp; rfl)); intro gb115 hg w16 hbox hb; have n0_ := Aside0.mk (below_step (hb0_ HB.out) hb); have n1_ := Aside0.mk (hbox); have n2_ := Aside0.mk ((by rw [hg]; exact (below_size (hb0_ HB.out)) : w.heap.size ≤ gb115)); have n3_ := Aside0.mk ((by rw [hg]; exact (below_size (hb0_ HB.out)) : w.heap.size ≤ gb115)); clear HB; have HB := n0_; have BK115 := n1_; have GW115 := n2_; have GE115 := n3_; clear n0_ n1_ n2_ n3_; clear hb hbox hg))
      have n0_ := Aside0.mk (blk_drew BK115.out); have n1_ := Aside0.mk (below_drew1 HB.out); clear BK115 HB; have BK115 := n0_; have HB := n1_; clear n0_ n1_
      refine start_ (n := 44) (S := fun w' => w'.cell? ⟨gb115, 0, none⟩ = some (.int .i64 a0_0) ∧ w'.cell? ⟨gb115, 1, none⟩ = some (.slice A0_1 l0_1.length c0_1) ∧ w'.cell? ⟨gb115, 2, none⟩ = some (.int .i64 a0_2) ∧ w'.cell? ⟨gb115, 3, none⟩ = some (.int .i64 a0_3) ∧ w'.cell? ⟨gb115, 4, none⟩ = some (.slice A0_4 l0_4.length c0_4)) (ds := []) #[false, false, false, false, false, false, false, false, false, false, false, false, false, false, false, false, false, false, false, false, false, false, false, false, false, false, false, false, false, false, false, false, false, false, false, false, false, false, false, false, false, false, false, false] (by kernel_rfl) rfl rfl ⟨(blk_cell BK115.out 0).trans rfl, (blk_cell BK115.out 1).trans rfl, (blk_cell BK115.out 2).trans rfl, (blk_cell BK115.out 3).trans rfl, (blk_cell BK115.out 4).trans rfl⟩ (fun hHeld => ?_); refine with_tabW impl_MouthOk.tab1 impl_MouthOk.bits1 (fun HT_ HW_ => ?_)
      generalize w16.drew = w17 at BK115 HB hHeld ⊢
      refine pu_ (i := 0) (N := some 3) HT_ ?_; refine tk_ (i := 1) (N := some 4) HT_ HW_ hHeld ?_
      refine on_ (i := 2) (N := some 5) HT_ (fun K hK => ?_)
      refine goes_ Try.func44 (by kernel_rfl) rfl #[.int .i64 a0_0, .int .i64 0, .int .i64 1000000] (by rfl) rfl rfl ar_ ?_
      with_reducible refine (impl_in.calls a0_0 0 1000000 true _ A2.out).mono ?_
      rintro e w' ⟨rfl, ⟨nd, rfl⟩⟩
      refine ⟨_, rfl, ?_⟩
      refine hK.out _ _ ⟨(blk_cell BK115.out 0).trans rfl, (blk_cell BK115.out 1).trans rfl, (blk_cell BK115.out 2).trans rfl, (blk_cell BK115.out 3).trans rfl, (blk_cell BK115.out 4).trans rfl⟩ (fun hHeld => ?_)
      clear hK K; refine nm_ 5 ?_; refine pu_ (i := 3) (N := some 6) HT_ ?_; refine pu_ (i := 4) (N := some 7) HT_ ?_; refine tk_ (i := 5) (N := some 8) HT_ HW_ hHeld ?_; refine pu_ (i := 6) (N := some 9) HT_ ?_; refine pu_ (i := 7) (N := some 10) HT_ ?_; refine pu_ (i := 8) (N := some 11) HT_ ?_; refine pu_ (i := 9) (N := some 12) HT_ ?_; refine pu_ (i := 10) (N := some 13) HT_ ?_; refine pu_ (i := 12) (N := some 15) HT_ ?_; refine tk_ (i := 11) (N := some 14) HT_ HW_ hHeld ?_; refine tk_ (i := 13) (N := some 16) HT_ HW_ hHeld ?_; refine pu_ (i := 14) (N := some 17) HT_ ?_
      refine on_ (i := 15) (N := some 18) HT_ (fun K hK => ?_)
      refine goes_ Try.func44 (by kernel_rfl) rfl #[.int .i64 a0_2, .int .i64 0, .int .i64 (l0_1.length : Int)] (by rfl) rfl rfl ar_ ?_
      with_reducible refine (impl_in.calls a0_2 0 (l0_1.length : Int) true _ A5.out).mono ?_
      rintro e w' ⟨rfl, ⟨nd, rfl⟩⟩
      refine ⟨_, rfl, ?_⟩
      refine hK.out _ _ ⟨(blk_cell BK115.out 0).trans rfl, (blk_cell BK115.out 1).trans rfl, (blk_cell BK115.out 2).trans rfl, (blk_cell BK115.out 3).trans rfl, (blk_cell BK115.out 4).trans rfl⟩ (fun hHeld => ?_)
      clear hK K; refine nm_ 18 ?_; refine pu_ (i := 16) (N := some 19) HT_ ?_; refine pu_ (i := 17) (N := some 20) HT_ ?_; refine pu_ (i := 18) (N := some 21) HT_ ?_; refine tk_ (i := 19) (N := some 22) HT_ HW_ hHeld ?_
      refine on_ (i := 20) (N := some 23) HT_ (fun K hK => ?_)
      refine goes_ Try.func44 (by kernel_rfl) rfl #[.int .i64 a0_3, .int .i64 0, .int .i64 255] (by rfl) rfl rfl ar_ ?_
      with_reducible refine (impl_in.calls a0_3 0 255 true _ A7.out).mono ?_
      rintro e w' ⟨rfl, ⟨nd, rfl⟩⟩
      refine ⟨_, rfl, ?_⟩
      refine hK.out _ _ ⟨(blk_cell BK115.out 0).trans rfl, (blk_cell BK115.out 1).trans rfl, (blk_cell BK115.out 2).trans rfl, (blk_cell BK115.out 3).trans rfl, (blk_cell BK115.out 4).trans rfl⟩ (fun hHeld => ?_)
      clear hK K; refine nm_ 23 ?_; refine pu_ (i := 21) (N := some 24) HT_ ?_; refine pu_ (i := 22) (N := some 25) HT_ ?_; refine pu_ (i := 23) (N := some 26) HT_ ?_; refine tk_ (i := 24) (N := some 27) HT_ HW_ hHeld ?_; refine pu_ (i := 25) (N := some 28) HT_ ?_; refine pu_ (i := 26) (N := some 29) HT_ ?_; refine pu_ (i := 27) (N := some 30) HT_ ?_; refine pu_ (i := 28) (N := some 31) HT_ ?_; refine pn_ (i := 29) (N := some 32) HT_ ?_; refine pn_ (i := 30) (N := some 33) HT_ ?_; refine pn_ (i := 31) (N := some 34) HT_ ?_; refine pn_ (i := 32) (N := some 35) HT_ ?_; refine pn_ (i := 33) (N := some 36) HT_ ?_; refine pn_ (i := 34) (N := some 37) HT_ ?_; refine pn_ (i := 35) (N := some 38) HT_ ?_; refine pn_ (i := 36) (N := some 39) HT_ ?_; refine pn_ (i := 37) (N := some 40) HT_ ?_; refine pn_ (i := 38) (N := some 41) HT_ ?_; refine pn_ (i := 39) (N := some 42) HT_ ?_; refine pn_ (i := 40) (N := some 43) HT_ ?_; refine pn_ (i := 41) (N := some 44) HT_ ?_; refine pu_ (i := 42) (N := some 45) HT_ ?_; refine pu_ (i := 43) (N := some 2) HT_ ?_
      refine done_ (done_of HT_.out (by kernel_rfl)) ?_
      try go_wp2
      go_ret
      exact ⟨by first | rfl | (simp [errW_none, errW_some] <;> rfl) | (simp [*, errW_none, errW_some] <;> rfl), by repeat (first | (with_reducible first | exact HB.out | apply below_alloc | apply pw_below_drewN | apply below_drew1 | refine below_set ?_ GE115.out) | exact HB.out)⟩
    ·replace c8 := Bool.eq_false_iff.mpr c8
     subst c8
     have H1 : (some false) = some r := by rw [if_neg (show ¬ (false = true) by decide)] at H; exact H
     clear H; have H := H1; clear H1
     obtain rfl := Option.some.inj H
     go_enter Try.func31, Try.ntmps31
     try go_wp2_with (first | ((with_reducible refine gate_dst (N := 1) rfl ?_); (try (refine gate_guard (by rfl) ?_; dsimp only)); refine box_event ?hg (N := 1) ?hd (cs := #[.int .i64 a0_0, .slice A0_1 l0_1.length c0_1, .int .i64 a0_2, .int .i64 a0_3, .slice A0_4 l0_4.length c0_4]) (t := 47) ?hr ?_; (case hd => rfl); (case hg => rfl); (case hr => first | (go_simp; done) | (go_simp; rfl)); intro gb115 hg w18 hbox hb; have n0_ := Aside0.mk (below_step (hb0_ HB.out) hb); have n1_ := Aside0.mk (hbox); have n2_ := Aside0.mk ((by rw [hg]; exact (below_size (hb0_ HB.out)) : w.heap.size ≤ gb115)); have n3_ := Aside0.mk ((by rw [hg]; exact (below_size (hb0_ HB.out)) : w.heap.size ≤ gb115)); clear HB; have HB := n0_; have BK115 := n1_; have GW115 := n2_; have GE115 := n3_; clear n0_ n1_ n2_ n3_; clear hb hbox hg))
     have n0_ := Aside0.mk (blk_drew BK115.out); have n1_ := Aside0.mk (below_drew1 HB.out); clear BK115 HB; have BK115 := n0_; have HB := n1_; clear n0_ n1_
     refine start_ (n := 44) (S := fun w' => w'.cell? ⟨gb115, 0, none⟩ = some (.int .i64 a0_0) ∧ w'.cell? ⟨gb115, 1, none⟩ = some (.slice A0_1 l0_1.length c0_1) ∧ w'.cell? ⟨gb115, 2, none⟩ = some (.int .i64 a0_2) ∧ w'.cell? ⟨gb115, 3, none⟩ = some (.int .i64 a0_3) ∧ w'.cell? ⟨gb115, 4, none⟩ = some (.slice A0_4 l0_4.length c0_4)) (ds := []) #[false, false, false, false, false, false, false, false, false, false, false, false, false, false, false, false, false, false, false, false, false, false, false, false, false, false, false, false, false, false, false, false, false, false, false, false, false, false, false, false, false, false, false, false] (by kernel_rfl) rfl rfl ⟨(blk_cell BK115.out 0).trans rfl, (blk_cell BK115.out 1).trans rfl, (blk_cell BK115.out 2).trans rfl, (blk_cell BK115.out 3).trans rfl, (blk_cell BK115.out 4).trans rfl⟩ (fun hHeld => ?_); refine with_tabW impl_MouthOk.tab1 impl_MouthOk.bits1 (fun HT_ HW_ => ?_)
     generalize w18.drew = w19 at BK115 HB hHeld ⊢
     refine pu_ (i := 0) (N := some 3) HT_ ?_; refine tk_ (i := 1) (N := some 4) HT_ HW_ hHeld ?_
     refine on_ (i := 2) (N := some 5) HT_ (fun K hK => ?_)
     refine goes_ Try.func44 (by kernel_rfl) rfl #[.int .i64 a0_0, .int .i64 0, .int .i64 1000000] (by rfl) rfl rfl ar_ ?_
     with_reducible refine (impl_in.calls a0_0 0 1000000 true _ A2.out).mono ?_
     rintro e w' ⟨rfl, ⟨nd, rfl⟩⟩
     refine ⟨_, rfl, ?_⟩
     refine hK.out _ _ ⟨(blk_cell BK115.out 0).trans rfl, (blk_cell BK115.out 1).trans rfl, (blk_cell BK115.out 2).trans rfl, (blk_cell BK115.out 3).trans rfl, (blk_cell BK115.out 4).trans rfl⟩ (fun hHeld => ?_)
     clear hK K; refine nm_ 5 ?_; refine pu_ (i := 3) (N := some 6) HT_ ?_; refine pu_ (i := 4) (N := some 7) HT_ ?_; refine tk_ (i := 5) (N := some 8) HT_ HW_ hHeld ?_; refine pu_ (i := 6) (N := some 9) HT_ ?_; refine pu_ (i := 7) (N := some 10) HT_ ?_; refine pu_ (i := 8) (N := some 11) HT_ ?_; refine pu_ (i := 9) (N := some 12) HT_ ?_; refine pu_ (i := 10) (N := some 13) HT_ ?_; refine pu_ (i := 12) (N := some 15) HT_ ?_; refine tk_ (i := 11) (N := some 14) HT_ HW_ hHeld ?_; refine tk_ (i := 13) (N := some 16) HT_ HW_ hHeld ?_; refine pu_ (i := 14) (N := some 17) HT_ ?_
     refine on_ (i := 15) (N := some 18) HT_ (fun K hK => ?_)
     refine goes_ Try.func44 (by kernel_rfl) rfl #[.int .i64 a0_2, .int .i64 0, .int .i64 (l0_1.length : Int)] (by rfl) rfl rfl ar_ ?_
     with_reducible refine (impl_in.calls a0_2 0 (l0_1.length : Int) true _ A5.out).mono ?_
     rintro e w' ⟨rfl, ⟨nd, rfl⟩⟩
     refine ⟨_, rfl, ?_⟩
     refine hK.out _ _ ⟨(blk_cell BK115.out 0).trans rfl, (blk_cell BK115.out 1).trans rfl, (blk_cell BK115.out 2).trans rfl, (blk_cell BK115.out 3).trans rfl, (blk_cell BK115.out 4).trans rfl⟩ (fun hHeld => ?_)
     clear hK K; refine nm_ 18 ?_; refine pu_ (i := 16) (N := some 19) HT_ ?_; refine pu_ (i := 17) (N := some 20) HT_ ?_; refine pu_ (i := 18) (N := some 21) HT_ ?_; refine tk_ (i := 19) (N := some 22) HT_ HW_ hHeld ?_
     refine on_ (i := 20) (N := some 23) HT_ (fun K hK => ?_)
     refine goes_ Try.func44 (by kernel_rfl) rfl #[.int .i64 a0_3, .int .i64 0, .int .i64 255] (by rfl) rfl rfl ar_ ?_
     with_reducible refine (impl_in.calls a0_3 0 255 false _ A7.out).mono ?_
     rintro e w' ⟨rfl, ⟨nd, rfl⟩⟩
     refine ⟨_, rfl, ?_⟩
     refine hK.out _ _ ⟨(blk_cell BK115.out 0).trans rfl, (blk_cell BK115.out 1).trans rfl, (blk_cell BK115.out 2).trans rfl, (blk_cell BK115.out 3).trans rfl, (blk_cell BK115.out 4).trans rfl⟩ (fun hHeld => ?_)
     clear hK K; refine nm_ 23 ?_; refine pu_ (i := 21) (N := some 24) HT_ ?_; refine pu_ (i := 22) (N := some 25) HT_ ?_; refine pn_ (i := 23) (N := some 26) HT_ ?_; refine pn_ (i := 24) (N := some 27) HT_ ?_; refine pn_ (i := 25) (N := some 28) HT_ ?_; refine pn_ (i := 26) (N := some 29) HT_ ?_; refine pu_ (i := 27) (N := some 30) HT_ ?_; refine pu_ (i := 28) (N := some 31) HT_ ?_; refine pn_ (i := 29) (N := some 32) HT_ ?_; refine pn_ (i := 30) (N := some 33) HT_ ?_; refine pn_ (i := 31) (N := some 34) HT_ ?_; refine pn_ (i := 32) (N := some 35) HT_ ?_; refine pn_ (i := 33) (N := some 36) HT_ ?_; refine pn_ (i := 34) (N := some 37) HT_ ?_; refine pn_ (i := 35) (N := some 38) HT_ ?_; refine pn_ (i := 36) (N := some 39) HT_ ?_; refine pn_ (i := 37) (N := some 40) HT_ ?_; refine pn_ (i := 38) (N := some 41) HT_ ?_; refine pn_ (i := 39) (N := some 42) HT_ ?_; refine pn_ (i := 40) (N := some 43) HT_ ?_; refine pn_ (i := 41) (N := some 44) HT_ ?_; refine pu_ (i := 42) (N := some 45) HT_ ?_; refine pu_ (i := 43) (N := some 2) HT_ ?_
     refine done_ (done_of HT_.out (by kernel_rfl)) ?_
     try go_wp2
     go_ret
     exact ⟨by first | rfl | (simp [errW_none, errW_some] <;> rfl) | (simp [*, errW_none, errW_some] <;> rfl), by repeat (first | (with_reducible first | exact HB.out | apply below_alloc | apply pw_below_drewN | apply below_drew1 | refine below_set ?_ GE115.out) | exact HB.out)⟩
   ·replace c6 := Bool.eq_false_iff.mpr c6
    subst c6
    have H1 : (some false) = some r := by rw [if_neg (show ¬ (false = true) by decide)] at H; exact H
    clear H; have H := H1; clear H1
    obtain rfl := Option.some.inj H
    go_enter Try.func31, Try.ntmps31
    try go_wp2_with (first | ((with_reducible refine gate_dst (N := 1) rfl ?_); (try (refine gate_guard (by rfl) ?_; dsimp only)); refine box_event ?hg (N := 1) ?hd (cs := #[.int .i64 a0_0, .slice A0_1 l0_1.length c0_1, .int .i64 a0_2, .int .i64 a0_3, .slice A0_4 l0_4.length c0_4]) (t := 47) ?hr ?_; (case hd => rfl); (case hg => rfl); (case hr => first | (go_simp; done) | (go_simp; rfl)); intro gb115 hg w20 hbox hb; have n0_ := Aside0.mk (below_step (hb0_ HB.out) hb); have n1_ := Aside0.mk (hbox); have n2_ := Aside0.mk ((by rw [hg]; exact (below_size (hb0_ HB.out)) : w.heap.size ≤ gb115)); have n3_ := Aside0.mk ((by rw [hg]; exact (below_size (hb0_ HB.out)) : w.heap.size ≤ gb115)); clear HB; have HB := n0_; have BK115 := n1_; have GW115 := n2_; have GE115 := n3_; clear n0_ n1_ n2_ n3_; clear hb hbox hg))
    have n0_ := Aside0.mk (blk_drew BK115.out); have n1_ := Aside0.mk (below_drew1 HB.out); clear BK115 HB; have BK115 := n0_; have HB := n1_; clear n0_ n1_
    refine start_ (n := 44) (S := fun w' => w'.cell? ⟨gb115, 0, none⟩ = some (.int .i64 a0_0) ∧ w'.cell? ⟨gb115, 1, none⟩ = some (.slice A0_1 l0_1.length c0_1) ∧ w'.cell? ⟨gb115, 2, none⟩ = some (.int .i64 a0_2) ∧ w'.cell? ⟨gb115, 3, none⟩ = some (.int .i64 a0_3) ∧ w'.cell? ⟨gb115, 4, none⟩ = some (.slice A0_4 l0_4.length c0_4)) (ds := []) #[false, false, false, false, false, false, false, false, false, false, false, false, false, false, false, false, false, false, false, false, false, false, false, false, false, false, false, false, false, false, false, false, false, false, false, false, false, false, false, false, false, false, false, false] (by kernel_rfl) rfl rfl ⟨(blk_cell BK115.out 0).trans rfl, (blk_cell BK115.out 1).trans rfl, (blk_cell BK115.out 2).trans rfl, (blk_cell BK115.out 3).trans rfl, (blk_cell BK115.out 4).trans rfl⟩ (fun hHeld => ?_); refine with_tabW impl_MouthOk.tab1 impl_MouthOk.bits1 (fun HT_ HW_ => ?_)
    generalize w20.drew = w21 at BK115 HB hHeld ⊢
    refine pu_ (i := 0) (N := some 3) HT_ ?_; refine tk_ (i := 1) (N := some 4) HT_ HW_ hHeld ?_
    refine on_ (i := 2) (N := some 5) HT_ (fun K hK => ?_)
    refine goes_ Try.func44 (by kernel_rfl) rfl #[.int .i64 a0_0, .int .i64 0, .int .i64 1000000] (by rfl) rfl rfl ar_ ?_
    with_reducible refine (impl_in.calls a0_0 0 1000000 true _ A2.out).mono ?_
    rintro e w' ⟨rfl, ⟨nd, rfl⟩⟩
    refine ⟨_, rfl, ?_⟩
    refine hK.out _ _ ⟨(blk_cell BK115.out 0).trans rfl, (blk_cell BK115.out 1).trans rfl, (blk_cell BK115.out 2).trans rfl, (blk_cell BK115.out 3).trans rfl, (blk_cell BK115.out 4).trans rfl⟩ (fun hHeld => ?_)
    clear hK K; refine nm_ 5 ?_; refine pu_ (i := 3) (N := some 6) HT_ ?_; refine pu_ (i := 4) (N := some 7) HT_ ?_; refine tk_ (i := 5) (N := some 8) HT_ HW_ hHeld ?_; refine pu_ (i := 6) (N := some 9) HT_ ?_; refine pu_ (i := 7) (N := some 10) HT_ ?_; refine pu_ (i := 8) (N := some 11) HT_ ?_; refine pu_ (i := 9) (N := some 12) HT_ ?_; refine pu_ (i := 10) (N := some 13) HT_ ?_; refine pu_ (i := 12) (N := some 15) HT_ ?_; refine tk_ (i := 11) (N := some 14) HT_ HW_ hHeld ?_; refine tk_ (i := 13) (N := some 16) HT_ HW_ hHeld ?_; refine pu_ (i := 14) (N := some 17) HT_ ?_
    refine on_ (i := 15) (N := some 18) HT_ (fun K hK => ?_)
    refine goes_ Try.func44 (by kernel_rfl) rfl #[.int .i64 a0_2, .int .i64 0, .int .i64 (l0_1.length : Int)] (by rfl) rfl rfl ar_ ?_
    with_reducible refine (impl_in.calls a0_2 0 (l0_1.length : Int) false _ A5.out).mono ?_
    rintro e w' ⟨rfl, ⟨nd, rfl⟩⟩
    refine ⟨_, rfl, ?_⟩
    refine hK.out _ _ ⟨(blk_cell BK115.out 0).trans rfl, (blk_cell BK115.out 1).trans rfl, (blk_cell BK115.out 2).trans rfl, (blk_cell BK115.out 3).trans rfl, (blk_cell BK115.out 4).trans rfl⟩ (fun hHeld => ?_)
    clear hK K; refine nm_ 18 ?_; refine pu_ (i := 16) (N := some 19) HT_ ?_; refine pu_ (i := 17) (N := some 20) HT_ ?_; refine pn_ (i := 18) (N := some 21) HT_ ?_; refine pn_ (i := 19) (N := some 22) HT_ ?_; refine pn_ (i := 20) (N := some 23) HT_ ?_; refine pu_ (i := 21) (N := some 24) HT_ ?_; refine pu_ (i := 22) (N := some 25) HT_ ?_; refine pn_ (i := 23) (N := some 26) HT_ ?_; refine pn_ (i := 24) (N := some 27) HT_ ?_; refine pn_ (i := 25) (N := some 28) HT_ ?_; refine pn_ (i := 26) (N := some 29) HT_ ?_; refine pu_ (i := 27) (N := some 30) HT_ ?_; refine pu_ (i := 28) (N := some 31) HT_ ?_; refine pn_ (i := 29) (N := some 32) HT_ ?_; refine pn_ (i := 30) (N := some 33) HT_ ?_; refine pn_ (i := 31) (N := some 34) HT_ ?_; refine pn_ (i := 32) (N := some 35) HT_ ?_; refine pn_ (i := 33) (N := some 36) HT_ ?_; refine pn_ (i := 34) (N := some 37) HT_ ?_; refine pn_ (i := 35) (N := some 38) HT_ ?_; refine pn_ (i := 36) (N := some 39) HT_ ?_; refine pn_ (i := 37) (N := some 40) HT_ ?_; refine pn_ (i := 38) (N := some 41) HT_ ?_; refine pn_ (i := 39) (N := some 42) HT_ ?_; refine pn_ (i := 40) (N := some 43) HT_ ?_; refine pn_ (i := 41) (N := some 44) HT_ ?_; refine pu_ (i := 42) (N := some 45) HT_ ?_; refine pu_ (i := 43) (N := some 2) HT_ ?_
    refine done_ (done_of HT_.out (by kernel_rfl)) ?_
    try go_wp2
    go_ret
    exact ⟨by first | rfl | (simp [errW_none, errW_some] <;> rfl) | (simp [*, errW_none, errW_some] <;> rfl), by repeat (first | (with_reducible first | exact HB.out | apply below_alloc | apply pw_below_drewN | apply below_drew1 | refine below_set ?_ GE115.out) | exact HB.out)⟩
  ·rw [if_neg c4] at H
   have c4b0 : decide ((l0_1.length : Int) ≤ 32) = false := decide_eq_false c4
   have c4b1 : decide (l0_1.length ≤ 32) = false := decide_eq_false (by omega)
   clear c4
   obtain rfl := Option.some.inj H
   go_enter Try.func31, Try.ntmps31
   try go_wp2_with (first | ((with_reducible refine gate_dst (N := 1) rfl ?_); (try (refine gate_guard (by rfl) ?_; dsimp only)); refine box_event ?hg (N := 1) ?hd (cs := #[.int .i64 a0_0, .slice A0_1 l0_1.length c0_1, .int .i64 a0_2, .int .i64 a0_3, .slice A0_4 l0_4.length c0_4]) (t := 47) ?hr ?_; (case hd => rfl); (case hg => rfl); (case hr => first | (go_simp; done) | (go_simp; rfl)); intro gb115 hg w22 hbox hb; have n0_ := Aside0.mk (below_step (hb0_ HB.out) hb); have n1_ := Aside0.mk (hbox); have n2_ := Aside0.mk ((by rw [hg]; exact (below_size (hb0_ HB.out)) : w.heap.size ≤ gb115)); have n3_ := Aside0.mk ((by rw [hg]; exact (below_size (hb0_ HB.out)) : w.heap.size ≤ gb115)); clear HB; have HB := n0_; have BK115 := n1_; have GW115 := n2_; have GE115 := n3_; clear n0_ n1_ n2_ n3_; clear hb hbox hg))
   have n0_ := Aside0.mk (blk_drew BK115.out); have n1_ := Aside0.mk (below_drew1 HB.out); clear BK115 HB; have BK115 := n0_; have HB := n1_; clear n0_ n1_
   refine start_ (n := 44) (S := fun w' => w'.cell? ⟨gb115, 0, none⟩ = some (.int .i64 a0_0) ∧ w'.cell? ⟨gb115, 1, none⟩ = some (.slice A0_1 l0_1.length c0_1) ∧ w'.cell? ⟨gb115, 2, none⟩ = some (.int .i64 a0_2) ∧ w'.cell? ⟨gb115, 3, none⟩ = some (.int .i64 a0_3) ∧ w'.cell? ⟨gb115, 4, none⟩ = some (.slice A0_4 l0_4.length c0_4)) (ds := []) #[false, false, false, false, false, false, false, false, false, false, false, false, false, false, false, false, false, false, false, false, false, false, false, false, false, false, false, false, false, false, false, false, false, false, false, false, false, false, false, false, false, false, false, false] (by kernel_rfl) rfl rfl ⟨(blk_cell BK115.out 0).trans rfl, (blk_cell BK115.out 1).trans rfl, (blk_cell BK115.out 2).trans rfl, (blk_cell BK115.out 3).trans rfl, (blk_cell BK115.out 4).trans rfl⟩ (fun hHeld => ?_); refine with_tabW impl_MouthOk.tab1 impl_MouthOk.bits1 (fun HT_ HW_ => ?_)
   generalize w22.drew = w23 at BK115 HB hHeld ⊢
   refine pu_ (i := 0) (N := some 3) HT_ ?_; refine tk_ (i := 1) (N := some 4) HT_ HW_ hHeld ?_
   refine on_ (i := 2) (N := some 5) HT_ (fun K hK => ?_)
   refine goes_ Try.func44 (by kernel_rfl) rfl #[.int .i64 a0_0, .int .i64 0, .int .i64 1000000] (by rfl) rfl rfl ar_ ?_
   with_reducible refine (impl_in.calls a0_0 0 1000000 true _ A2.out).mono ?_
   rintro e w' ⟨rfl, ⟨nd, rfl⟩⟩
   refine ⟨_, rfl, ?_⟩
   refine hK.out _ _ ⟨(blk_cell BK115.out 0).trans rfl, (blk_cell BK115.out 1).trans rfl, (blk_cell BK115.out 2).trans rfl, (blk_cell BK115.out 3).trans rfl, (blk_cell BK115.out 4).trans rfl⟩ (fun hHeld => ?_)
   clear hK K; refine nm_ 5 ?_; refine pu_ (i := 3) (N := some 6) HT_ ?_; refine pu_ (i := 4) (N := some 7) HT_ ?_; refine tk_ (i := 5) (N := some 8) HT_ HW_ hHeld ?_; refine pu_ (i := 6) (N := some 9) HT_ ?_; refine pu_ (i := 7) (N := some 10) HT_ ?_; refine pu_ (i := 8) (N := some 11) HT_ ?_; refine pu_ (i := 9) (N := some 12) HT_ ?_; refine pn_ (i := 10) (N := some 13) HT_ ?_; refine pn_ (i := 11) (N := some 14) HT_ ?_; refine pn_ (i := 12) (N := some 15) HT_ ?_; refine pn_ (i := 13) (N := some 16) HT_ ?_; refine pn_ (i := 14) (N := some 17) HT_ ?_; refine pn_ (i := 15) (N := some 18) HT_ ?_; refine pu_ (i := 16) (N := some 19) HT_ ?_; refine pu_ (i := 17) (N := some 20) HT_ ?_; refine pn_ (i := 18) (N := some 21) HT_ ?_; refine pn_ (i := 19) (N := some 22) HT_ ?_; refine pn_ (i := 20) (N := some 23) HT_ ?_; refine pu_ (i := 21) (N := some 24) HT_ ?_; refine pu_ (i := 22) (N := some 25) HT_ ?_; refine pn_ (i := 23) (N := some 26) HT_ ?_; refine pn_ (i := 24) (N := some 27) HT_ ?_; refine pn_ (i := 25) (N := some 28) HT_ ?_; refine pn_ (i := 26) (N := some 29) HT_ ?_; refine pu_ (i := 27) (N := some 30) HT_ ?_; refine pu_ (i := 28) (N := some 31) HT_ ?_; refine pn_ (i := 29) (N := some 32) HT_ ?_; refine pn_ (i := 30) (N := some 33) HT_ ?_; refine pn_ (i := 31) (N := some 34) HT_ ?_; refine pn_ (i := 32) (N := some 35) HT_ ?_; refine pn_ (i := 33) (N := some 36) HT_ ?_; refine pn_ (i := 34) (N := some 37) HT_ ?_; refine pn_ (i := 35) (N := some 38) HT_ ?_; refine pn_ (i := 36) (N := some 39) HT_ ?_; refine pn_ (i := 37) (N := some 40) HT_ ?_; refine pn_ (i := 38) (N := some 41) HT_ ?_; refine pn_ (i := 39) (N := some 42) HT_ ?_; refine pn_ (i := 40) (N := some 43) HT_ ?_; refine pn_ (i := 41) (N := some 44) HT_ ?_; refine pu_ (i := 42) (N := some 45) HT_ ?_; refine pu_ (i := 43) (N := some 2) HT_ ?_
   refine done_ (done_of HT_.out (by kernel_rfl)) ?_
   try go_wp2
   go_ret
   exact ⟨by first | rfl | (simp [errW_none, errW_some] <;> rfl) | (simp [*, errW_none, errW_some] <;> rfl), by repeat (first | (with_reducible first | exact HB.out | apply below_alloc | apply pw_below_drewN | apply below_drew1 | refine below_set ?_ GE115.out) | exact HB.out)⟩
 ·replace c3 := Bool.eq_false_iff.mpr c3
  subst c3
  have H1 : (some false) = some r := by rw [if_neg (show ¬ (false = true) by decide)] at H; exact H
  clear H; have H := H1; clear H1
  obtain rfl := Option.some.inj H
  go_enter Try.func31, Try.ntmps31
  try go_wp2_with (first | ((with_reducible refine gate_dst (N := 1) rfl ?_); (try (refine gate_guard (by rfl) ?_; dsimp only)); refine box_event ?hg (N := 1) ?hd (cs := #[.int .i64 a0_0, .slice A0_1 l0_1.length c0_1, .int .i64 a0_2, .int .i64 a0_3, .slice A0_4 l0_4.length c0_4]) (t := 47) ?hr ?_; (case hd => rfl); (case hg => rfl); (case hr => first | (go_simp; done) | (go_simp; rfl)); intro gb115 hg w24 hbox hb; have n0_ := Aside0.mk (below_step (hb0_ HB.out) hb); have n1_ := Aside0.mk (hbox); have n2_ := Aside0.mk ((by rw [hg]; exact (below_size (hb0_ HB.out)) : w.heap.size ≤ gb115)); have n3_ := Aside0.mk ((by rw [hg]; exact (below_size (hb0_ HB.out)) : w.heap.size ≤ gb115)); clear HB; have HB := n0_; have BK115 := n1_; have GW115 := n2_; have GE115 := n3_; clear n0_ n1_ n2_ n3_; clear hb hbox hg))
  have n0_ := Aside0.mk (blk_drew BK115.out); have n1_ := Aside0.mk (below_drew1 HB.out); clear BK115 HB; have BK115 := n0_; have HB := n1_; clear n0_ n1_
  refine start_ (n := 44) (S := fun w' => w'.cell? ⟨gb115, 0, none⟩ = some (.int .i64 a0_0) ∧ w'.cell? ⟨gb115, 1, none⟩ = some (.slice A0_1 l0_1.length c0_1) ∧ w'.cell? ⟨gb115, 2, none⟩ = some (.int .i64 a0_2) ∧ w'.cell? ⟨gb115, 3, none⟩ = some (.int .i64 a0_3) ∧ w'.cell? ⟨gb115, 4, none⟩ = some (.slice A0_4 l0_4.length c0_4)) (ds := []) #[false, false, false, false, false, false, false, false, false, false, false, false, false, false, false, false, false, false, false, false, false, false, false, false, false, false, false, false, false, false, false, false, false, false, false, false, false, false, false, false, false, false, false, false] (by kernel_rfl) rfl rfl ⟨(blk_cell BK115.out 0).trans rfl, (blk_cell BK115.out 1).trans rfl, (blk_cell BK115.out 2).trans rfl, (blk_cell BK115.out 3).trans rfl, (blk_cell BK115.out 4).trans rfl⟩ (fun hHeld => ?_); refine with_tabW impl_MouthOk.tab1 impl_MouthOk.bits1 (fun HT_ HW_ => ?_)
  generalize w24.drew = w25 at BK115 HB hHeld ⊢
  refine pu_ (i := 0) (N := some 3) HT_ ?_; refine tk_ (i := 1) (N := some 4) HT_ HW_ hHeld ?_
  refine on_ (i := 2) (N := some 5) HT_ (fun K hK => ?_)
  refine goes_ Try.func44 (by kernel_rfl) rfl #[.int .i64 a0_0, .int .i64 0, .int .i64 1000000] (by rfl) rfl rfl ar_ ?_
  with_reducible refine (impl_in.calls a0_0 0 1000000 false _ A2.out).mono ?_
  rintro e w' ⟨rfl, ⟨nd, rfl⟩⟩
  refine ⟨_, rfl, ?_⟩
  refine hK.out _ _ ⟨(blk_cell BK115.out 0).trans rfl, (blk_cell BK115.out 1).trans rfl, (blk_cell BK115.out 2).trans rfl, (blk_cell BK115.out 3).trans rfl, (blk_cell BK115.out 4).trans rfl⟩ (fun hHeld => ?_)
  clear hK K; refine nm_ 5 ?_; refine pu_ (i := 3) (N := some 6) HT_ ?_; refine pn_ (i := 4) (N := some 7) HT_ ?_; refine pn_ (i := 5) (N := some 8) HT_ ?_; refine pn_ (i := 6) (N := some 9) HT_ ?_; refine pn_ (i := 7) (N := some 10) HT_ ?_; refine pu_ (i := 8) (N := some 11) HT_ ?_; refine pu_ (i := 9) (N := some 12) HT_ ?_; refine pn_ (i := 10) (N := some 13) HT_ ?_; refine pn_ (i := 11) (N := some 14) HT_ ?_; refine pn_ (i := 12) (N := some 15) HT_ ?_; refine pn_ (i := 13) (N := some 16) HT_ ?_; refine pn_ (i := 14) (N := some 17) HT_ ?_; refine pn_ (i := 15) (N := some 18) HT_ ?_; refine pu_ (i := 16) (N := some 19) HT_ ?_; refine pu_ (i := 17) (N := some 20) HT_ ?_; refine pn_ (i := 18) (N := some 21) HT_ ?_; refine pn_ (i := 19) (N := some 22) HT_ ?_; refine pn_ (i := 20) (N := some 23) HT_ ?_; refine pu_ (i := 21) (N := some 24) HT_ ?_; refine pu_ (i := 22) (N := some 25) HT_ ?_; refine pn_ (i := 23) (N := some 26) HT_ ?_; refine pn_ (i := 24) (N := some 27) HT_ ?_; refine pn_ (i := 25) (N := some 28) HT_ ?_; refine pn_ (i := 26) (N := some 29) HT_ ?_; refine pu_ (i := 27) (N := some 30) HT_ ?_; refine pu_ (i := 28) (N := some 31) HT_ ?_; refine pn_ (i := 29) (N := some 32) HT_ ?_; refine pn_ (i := 30) (N := some 33) HT_ ?_; refine pn_ (i := 31) (N := some 34) HT_ ?_; refine pn_ (i := 32) (N := some 35) HT_ ?_; refine pn_ (i := 33) (N := some 36) HT_ ?_; refine pn_ (i := 34) (N := some 37) HT_ ?_; refine pn_ (i := 35) (N := some 38) HT_ ?_; refine pn_ (i := 36) (N := some 39) HT_ ?_; refine pn_ (i := 37) (N := some 40) HT_ ?_; refine pn_ (i := 38) (N := some 41) HT_ ?_; refine pn_ (i := 39) (N := some 42) HT_ ?_; refine pn_ (i := 40) (N := some 43) HT_ ?_; refine pn_ (i := 41) (N := some 44) HT_ ?_; refine pu_ (i := 42) (N := some 45) HT_ ?_; refine pu_ (i := 43) (N := some 2) HT_ ?_
  refine done_ (done_of HT_.out (by kernel_rfl)) ?_
  try go_wp2
  go_ret
  exact ⟨by first | rfl | (simp [errW_none, errW_some] <;> rfl) | (simp [*, errW_none, errW_some] <;> rfl), by repeat (first | (with_reducible first | exact HB.out | apply below_alloc | apply pw_below_drewN | apply below_drew1 | refine below_set ?_ GE115.out) | exact HB.out)⟩

/-! ### slices_Clip_byte_byte: function 75, by hand -/
theorem slices_Clip_byte_byte.calls (A0 : Option Addr) (c0 n0 : Nat) (w : World) (hc : n0 ≤ c0) : Calls Try.prog 75 #[.slice A0 n0 c0] w fun e w' => e = .returned (.slice A0 n0 n0) ∧ w' = w := by
  go_enter Try.func75, Try.ntmps75
  go_wp2
  go_ret
  exact ⟨rfl, rfl⟩

/-! ### impl_clone_byte: function 47, by hand -/
def impl_clone_byte.f (l0 : List Int) : Option (List Int) := if l0.length * 1 ≤ 140737488355328 then some l0 else none
theorem impl_clone_byte.calls (A0 : Option Addr) (c0 : Nat) (l0 : List Int) (r : List Int) (w : World) (hr0 : Kd.C (Kd.int .u8) w A0 l0.length l0) (hc0 : l0.length ≤ c0) (h : impl_clone_byte.f l0 = some r) :
    Calls Try.prog 47 #[.slice A0 l0.length c0] w fun e w' => ∃ v0_ : Value, e = .returned (v0_) ∧ Kd.R (Kd.int .u8) 5 w' w.heap.size (fun _ => True) v0_ r ∧ Below w.heap.size w w' := by
  obtain ⟨hle, rfl⟩ : l0.length * 1 ≤ 140737488355328 ∧ l0 = r := by
    unfold impl_clone_byte.f at h; split at h
    · exact ⟨by assumption, Option.some.inj h⟩
    · cases h
  have hm := hr0.2.1
  have HR := Aside0.mk hr0; clear hr0 h
  by_cases h0 : l0.length = 0
  · have hb : ((l0.length : Int) == 0) = true := by simp [h0]
    have HL : Aside0 (l0 = []) := ⟨List.eq_nil_of_length_eq_zero h0⟩
    clear h0
    go_enter Try.func47, Try.ntmps47
    go_wp2
    go_ret
    refine ⟨_, rfl, ?_, Below.refl _ _⟩
    rw [HL.out]; exact Kd.R_nil _ _ _ _ _
  · have hb : ((l0.length : Int) == 0) = false := by simp; intro hh; exact h0 (by simp [hh])
    clear h0
    go_enter Try.func47, Try.ntmps47
    go_wp2_with (first
      | ((with_reducible refine gate_dst (N := 7) rfl ?_); refine Kd.R_append_rows (Kd.int .u8) (Rr := (Kd.int .u8).K w) w.heap.size rfl _ _ 22 5 (.int .u8 0) 1 rfl Try.underlying22 info5 rfl (by decide) (by decide) (.slice none 0 0) [] l0 A0 l0.length c0 (fun _ => True) (fun _ => True) rfl rfl (Kd.R_nil _ _ _ _ _) HR.out (fun x cs h => h) (fun k _ => ⟨trivial, by simp [Value.ownBlock]⟩) (fun _ _ => trivial) (Below.refl _ _) (Nat.le_refl _) (by simpa using hle) ?_; intro v1 w1 ho hb1 hg hat; rw [List.nil_append] at ho; obtain ⟨A1, c1, hv1, hc1, _⟩ := Kd.R_reads ho; have HO := Aside0.mk ho; clear ho hat hg; have HB := Aside0.mk hb1; clear hb1; subst hv1)
      | (go_at_call 75; (with_reducible refine (slices_Clip_byte_byte.calls _ _ _ _ hc1).mono ?_); rintro e w' ⟨rfl, rfl⟩))
    go_ret
    exact ⟨_, rfl, Kd.R_clip HO.out (Nat.le_refl _) hc1, HB.out⟩

/-! ### impl_Mouth_copy: function 57 -/
def impl_Mouth_copy.f (a0_0 : Int) (l0_1 : List Int) (a0_2 : Int) (a0_3 : Int) (l0_4 : List (S86)) : Option (Int × List Int × Int × Int × (List (S86))) := (impl_clone_byte.f l0_1).bind fun t125 => ((impl_Range_79.f l0_4).bind fun t128 => (some (a0_0, t125, a0_2, a0_3, t128)))
def impl_Mouth_copy.T1 : Bool × List (List Nat × List Nat) := (true, [([], []), ([0], [0]), ([1], [1]), ([], []), ([3], [3]), ([4, 2], [4]), ([0, 1, 2, 3, 4], []), ([6, 2, 5, 0, 1, 2, 3, 4], [2, 6]), ([0, 1, 2, 3, 4, 5, 6, 7], []), ([8, 5, 7, 0, 1, 2, 3, 4, 5, 6, 7], [5, 8])])
def impl_Mouth_copy.B1 : List Nat := [0, 1, 3, 0, 8, 31, 31, 127, 255, 511]
theorem impl_Mouth_copy.tab1 : rtab .any (opsOf Try.f57 1) = impl_Mouth_copy.T1 := by kernel_rfl
theorem impl_Mouth_copy.bits1 : waitsOk impl_Mouth_copy.T1.2 impl_Mouth_copy.B1 = true := by kernel_rfl
set_option maxHeartbeats 8000000 in
set_option maxRecDepth 100000 in
theorem impl_Mouth_copy.calls (a0_0 : Int) (A0_1 : Option Addr) (c0_1 : Nat) (l0_1 : List Int) (a0_2 : Int) (a0_3 : Int) (A0_4 : Option Addr) (c0_4 : Nat) (l0_4 : List (S86)) (r1 : Int) (r2 : List Int) (r3 : Int) (r4 : Int) (r5 : List (S86)) (w : World) (hr0_1 : Kd.C (Kd.int .u8) w A0_1 l0_1.length l0_1) (hc0_1 : l0_1.length ≤ c0_1) (hr0_4 : Kd.C k86 w A0_4 l0_4.length l0_4) (hc0_4 : l0_4.length ≤ c0_4) (h : impl_Mouth_copy.f a0_0 l0_1 a0_2 a0_3 l0_4 = some (r1, r2, r3, r4, r5)) :
  Calls Try.prog 57 #[.agg #[.int .i64 a0_0, .slice A0_1 l0_1.length c0_1, .int .i64 a0_2, .int .i64 a0_3, .slice A0_4 l0_4.length c0_4]] w fun e w' => ∃ v1_ v4_ : Value, e = .returned (.agg #[.int .i64 r1, v1_, .int .i64 r3, .int .i64 r4, v4_]) ∧ Kd.R (Kd.int .u8) 5 w' w.heap.size (fun _ => True) v1_ r2 ∧ Kd.R k86 86 w' w.heap.size (fun _ => True) v4_ r5 ∧ Below w.heap.size w w' := by
 have hu47 := Try.underlying47; have HR0_1 := Aside0.mk hr0_1; have HC0_1 := Aside0.mk hc0_1; clear hr0_1 hc0_1; have HR0_4 := Aside0.mk hr0_4; have HC0_4 := Aside0.mk hc0_4; clear hr0_4 hc0_4
 have HB := Aside0.mk (Below.refl w.heap.size w)
 have H : ((impl_clone_byte.f l0_1).bind fun t125 => ((impl_Range_79.f l0_4).bind fun t128 => (some (a0_0, t125, a0_2, a0_3, t128)))) = some (r1, r2, r3, r4, r5) := h
 clear h
 replace H := Option.bind_eq_some_iff.mp H
 obtain ⟨t125, A20, H⟩ := H
 replace H : ((impl_Range_79.f l0_4).bind fun t128 => (some (a0_0, t125, a0_2, a0_3, t128))) = some (r1, r2, r3, r4, r5) := H
 have A2 := Aside0.mk A20; clear A20
 replace H := Option.bind_eq_some_iff.mp H
 obtain ⟨t128, A30, H⟩ := H
 replace H : (some (a0_0, t125, a0_2, a0_3, t128)) = some (r1, r2, r3, r4, r5) := H
 have A3 := Aside0.mk A30; clear A30
 simp only [Option.some.injEq, Prod.mk.injEq] at H
 obtain ⟨rfl, rfl, rfl, rfl, rfl⟩ := H
 go_enter Try.func57, Try.ntmps57
 try go_wp2_with (first | ((with_reducible refine gate_dst (N := 1) rfl ?_); refine box_event ?hg (N := 1) ?hd (cs := #[.int .i64 a0_0, .slice A0_1 l0_1.length c0_1, .int .i64 a0_2, .int .i64 a0_3, .slice A0_4 l0_4.length c0_4]) (t := 47) ?hr ?_; (case hd => rfl); (case hg => rfl); (case hr => first | (go_simp; done) | (go_simp; rfl)); intro gb123 hg w4 hbox hb; have n0_ := Aside0.mk (below_step (hb0_ HB.out) hb); have n1_ := Aside0.mk (hbox); have n2_ := Aside0.mk ((by rw [hg]; exact (below_size (hb0_ HB.out)) : w.heap.size ≤ gb123)); have n3_ := Aside0.mk ((by rw [hg]; exact (below_size (hb0_ HB.out)) : w.heap.size ≤ gb123)); clear HB; have HB := n0_; have BK123 := n1_; have GW123 := n2_; have GE123 := n3_; clear n0_ n1_ n2_ n3_; clear hb hbox hg) | ((with_reducible refine gate_dst (N := 2) rfl ?_); refine box_event ?hg (N := 2) ?hd (cs := #[.int .i64 0, .slice none 0 0, .int .i64 0, .int .i64 0, .slice none 0 0]) (t := 47) ?hr ?_; (case hd => rfl); (case hg => rfl); (case hr => first | (go_simp; done) | (go_simp; rfl)); intro gb124 hg w5 hbox hb; have n0_ := Aside0.mk (blk_below (g := gb123) (o := .cells #[.int .i64 a0_0, .slice A0_1 l0_1.length c0_1, .int .i64 a0_2, .int .i64 a0_3, .slice A0_4 l0_4.length c0_4] 47 (0, 0)) (kb_ BK123.out) hb); have n1_ := Aside0.mk (below_step (hb1_ HB.out GE123.out) hb); have n2_ := Aside0.mk (hbox); have n3_ := Aside0.mk ((by rw [hg]; exact (below_size (hb1_ HB.out GE123.out)) : w.heap.size ≤ gb124)); have n4_ := Aside0.mk ((by rw [hg]; exact (below_size (hb1_ HB.out GE123.out)) : w.heap.size ≤ gb124)); have n5_ := Aside0.mk ((by rw [hg]; exact Nat.ne_of_lt (blk_lt (g := gb123) (o := .cells #[.int .i64 a0_0, .slice A0_1 l0_1.length c0_1, .int .i64 a0_2, .int .i64 a0_3, .slice A0_4 l0_4.length c0_4] 47 (0, 0)) (kb_ BK123.out)) : gb123 ≠ gb124)); have n6_ := Aside0.mk ((by rw [hg]; exact Nat.ne_of_gt (blk_lt (g := gb123) (o := .cells #[.int .i64 a0_0, .slice A0_1 l0_1.length c0_1, .int .i64 a0_2, .int .i64 a0_3, .slice A0_4 l0_4.length c0_4] 47 (0, 0)) (kb_ BK123.out)) : gb124 ≠ gb123)); clear BK123; clear HB; have BK123 := n0_; have HB := n1_; have BK124 := n2_; have GW124 := n3_; have GE124 := n4_; have NB123_124 := n5_; have NB124_123 := n6_; clear n0_ n1_ n2_ n3_ n4_ n5_ n6_; clear hb hbox hg))
 have n0_ := Aside0.mk (blk_drew BK123.out); have n1_ := Aside0.mk (blk_drew BK124.out); have n2_ := Aside0.mk (below_drew1 HB.out); clear BK123 BK124 HB; have BK123 := n0_; have BK124 := n1_; have HB := n2_; clear n0_ n1_ n2_
 refine start_ (n := 10) (S := fun w' => w'.cell? ⟨gb123, 0, none⟩ = some (.int .i64 a0_0) ∧ w'.cell? ⟨gb123, 1, none⟩ = some (.slice A0_1 l0_1.length c0_1) ∧ w'.cell? ⟨gb123, 2, none⟩ = some (.int .i64 a0_2) ∧ w'.cell? ⟨gb123, 3, none⟩ = some (.int .i64 a0_3) ∧ w'.cell? ⟨gb123, 4, none⟩ = some (.slice A0_4 l0_4.length c0_4)) (ds := [7, 9]) #[false, false, false, false, false, false, false, false, false, false] (by kernel_rfl) rfl rfl ⟨(blk_cell BK123.out 0).trans rfl, (blk_cell BK123.out 1).trans rfl, (blk_cell BK123.out 2).trans rfl, (blk_cell BK123.out 3).trans rfl, (blk_cell BK123.out 4).trans rfl⟩ (fun hHeld => ?_); refine with_tabW impl_Mouth_copy.tab1 impl_Mouth_copy.bits1 (fun HT_ HW_ => ?_)
 generalize w5.drew = w6 at BK123 BK124 HB hHeld ⊢
 refine pu_ (i := 0) (N := some 3) HT_ ?_; refine pu_ (i := 3) (N := some 6) HT_ ?_; refine tk_ (i := 1) (N := some 4) HT_ HW_ hHeld ?_; refine tk_ (i := 4) (N := some 7) HT_ HW_ hHeld ?_
 refine on_ (i := 2) (N := some 5) HT_ (fun K hK => ?_)
 refine goes_ Try.func47 (by kernel_rfl) rfl #[.slice A0_1 l0_1.length c0_1] (by rfl) rfl rfl ar_ ?_
 with_reducible refine (impl_clone_byte.calls _ _ l0_1 t125 _ ?side1 ?side2 A2.out).mono ?_
 (case side1 => exact kC_ (Kd.C_below HR0_1.out HB.out))
 (case side2 => exact HC0_1.out)
 rintro e w7 ⟨v126, rfl, ho0, hb⟩
 refine ⟨_, rfl, ?_⟩
 have n0_ := Aside0.mk (Kd.R_lower ho0 (below_size (hb2_ HB.out GE123.out GE124.out))); have n1_ := Aside0.mk (blk_below (g := gb123) (o := .cells #[.int .i64 a0_0, .slice A0_1 l0_1.length c0_1, .int .i64 a0_2, .int .i64 a0_3, .slice A0_4 l0_4.length c0_4] 47 (0, 0)) (kb_ BK123.out) hb); have n2_ := Aside0.mk (blk_below (g := gb124) (o := .cells #[.int .i64 0, .slice none 0 0, .int .i64 0, .int .i64 0, .slice none 0 0] 47 (0, 0)) (kb_ BK124.out) hb); have n3_ := Aside0.mk (below_step (hb2_ HB.out GE123.out GE124.out) hb); clear BK123 BK124 HB; have HO127 := n0_; have BK123 := n1_; have BK124 := n2_; have HB := n3_; clear n0_ n1_ n2_ n3_; (try clear hb); (try clear hb2); (try clear hk); (try clear hi); (try clear ho0)
 refine hK.out _ _ ⟨(blk_cell BK123.out 0).trans rfl, (blk_cell BK123.out 1).trans rfl, (blk_cell BK123.out 2).trans rfl, (blk_cell BK123.out 3).trans rfl, (blk_cell BK123.out 4).trans rfl⟩ (fun hHeld => ?_)
 clear hK K; refine nm_ 5 ?_; refine pu_ (i := 6) (N := some 9) HT_ ?_
 refine on_ (i := 5) (N := some 8) HT_ (fun K hK => ?_)
 refine goes_ Try.func79 (by kernel_rfl) rfl #[.slice A0_4 l0_4.length c0_4] (by rfl) rfl rfl ar_ ?_
 with_reducible refine (impl_Range_79.calls _ _ l0_4 t128 _ ?side1 ?side2 A3.out).mono ?_
 (case side1 => exact kC_ (Kd.C_below HR0_4.out HB.out))
 (case side2 => exact HC0_4.out)
 rintro e w8 ⟨v129, rfl, ho0, hb⟩
 refine ⟨_, rfl, ?_⟩
 have n0_ := Aside0.mk (Kd.R_below (kR_ HO127.out) hb); have n1_ := Aside0.mk (Kd.R_lower ho0 (below_size (hb2_ HB.out GE123.out GE124.out))); have n2_ := Aside0.mk (blk_below (g := gb123) (o := .cells #[.int .i64 a0_0, .slice A0_1 l0_1.length c0_1, .int .i64 a0_2, .int .i64 a0_3, .slice A0_4 l0_4.length c0_4] 47 (0, 0)) (kb_ BK123.out) hb); have n3_ := Aside0.mk (blk_below (g := gb124) (o := .cells #[.int .i64 0, .slice none 0 0, .int .i64 0, .int .i64 0, .slice none 0 0] 47 (0, 0)) (kb_ BK124.out) hb); have n4_ := Aside0.mk (below_step (hb2_ HB.out GE123.out GE124.out) hb); clear HO127 BK123 BK124 HB; have HO127 := n0_; have HO130 := n1_; have BK123 := n2_; have BK124 := n3_; have HB := n4_; clear n0_ n1_ n2_ n3_ n4_; (try clear hb); (try clear hb2); (try clear hk); (try clear hi); (try clear ho0)
 obtain ⟨Ao9, co9, eo9⟩ := Kd.R_slice HO127.out
 (first | subst eo9 | (injection eo9 with f1_ f2_ f3_; have f4_ := f1_.symm; have f5_ := f3_.symm; clear f1_ f2_ f3_; subst f4_; subst f5_))
 obtain ⟨Ao11, co11, eo11⟩ := Kd.R_slice HO130.out
 (first | subst eo11 | (injection eo11 with f1_ f2_ f3_; have f4_ := f1_.symm; have f5_ := f3_.symm; clear f1_ f2_ f3_; subst f4_; subst f5_))
 refine hK.out _ _ ⟨(blk_cell BK123.out 0).trans rfl, (blk_cell BK123.out 1).trans rfl, (blk_cell BK123.out 2).trans rfl, (blk_cell BK123.out 3).trans rfl, (blk_cell BK123.out 4).trans rfl⟩ (fun hHeld => ?_)
 clear hK K; refine nm_ 8 ?_
 refine last_ (i := 7) (N := none) #[true, true, true, true, true, true, true, true, false, false] rfl rfl (one_of HT_.out (by kernel_rfl)) (by decide) (fun K hK => ?_)
 have hs10 : w8.cell? ⟨gb123, 1, none⟩ = some (.slice A0_1 l0_1.length c0_1) := (blk_cell BK123.out 1).trans rfl
 have hfs10 := blk_frozen BK123.out 1
 have hns10_1 := NB124_123.out; have hms10_1 := NB123_124.out
 refine skip_ (w1 := ?_) (by rfl) rfl ?_ ?_
 rotate_left
 ·go_simp
  rfl
 refine hK.out _ _ ?_
 clear hK K; refine pu_ (i := 8) (N := some 10) HT_ ?_
 refine last_ (i := 9) (N := none) #[true, true, true, true, true, true, true, true, true, true] rfl rfl (one_of HT_.out (by kernel_rfl)) (by decide) (fun K hK => ?_)
 have hs12 : w8.cell? ⟨gb123, 4, none⟩ = some (.slice A0_4 l0_4.length c0_4) := (blk_cell BK123.out 4).trans rfl
 have hfs12 := blk_frozen BK123.out 4
 have hns12_1 := NB124_123.out; have hms12_1 := NB123_124.out
 refine skip_ (w1 := ?_) (by rfl) rfl ?_ ?_
 rotate_left
 ·go_simp
  rfl
 refine hK.out _ _ ?_
 clear hK K
 refine done_ (done_of HT_.out (by kernel_rfl)) ?_
 have hnb13 := NB123_124.out; have hnc13 := NB124_123.out; have hcz14_0 : w8.cell? ⟨gb123, 0, none⟩ = some (.int .i64 a0_0) := (blk_cell BK123.out 0).trans rfl; have hcz14_1 : w8.cell? ⟨gb123, 1, none⟩ = some (.slice A0_1 l0_1.length c0_1) := (blk_cell BK123.out 1).trans rfl; have hcz14_2 : w8.cell? ⟨gb123, 2, none⟩ = some (.int .i64 a0_2) := (blk_cell BK123.out 2).trans rfl; have hcz14_3 : w8.cell? ⟨gb123, 3, none⟩ = some (.int .i64 a0_3) := (blk_cell BK123.out 3).trans rfl; have hcz14_4 : w8.cell? ⟨gb123, 4, none⟩ = some (.slice A0_4 l0_4.length c0_4) := (blk_cell BK123.out 4).trans rfl; have hfz14_0 := blk_frozen BK123.out 0; have hfz14_1 := blk_frozen BK123.out 1; have hfz14_2 := blk_frozen BK123.out 2; have hfz14_3 := blk_frozen BK123.out 3; have hfz14_4 := blk_frozen BK123.out 4; have hcz15_0 : w8.cell? ⟨gb124, 0, none⟩ = some (.int .i64 0) := (blk_cell BK124.out 0).trans rfl; have hcz15_1 : w8.cell? ⟨gb124, 1, none⟩ = some (.slice none 0 0) := (blk_cell BK124.out 1).trans rfl; have hcz15_2 : w8.cell? ⟨gb124, 2, none⟩ = some (.int .i64 0) := (blk_cell BK124.out 2).trans rfl; have hcz15_3 : w8.cell? ⟨gb124, 3, none⟩ = some (.int .i64 0) := (blk_cell BK124.out 3).trans rfl; have hcz15_4 : w8.cell? ⟨gb124, 4, none⟩ = some (.slice none 0 0) := (blk_cell BK124.out 4).trans rfl; have hfz15_0 := blk_frozen BK124.out 0; have hfz15_1 := blk_frozen BK124.out 1; have hfz15_2 := blk_frozen BK124.out 2; have hfz15_3 := blk_frozen BK124.out 3; have hfz15_4 := blk_frozen BK124.out 4
 try go_wp2
 refine bodyPost_ret (results_cell_row rfl _ _ gb124 47 #[.int .i64 a0_0, .slice Ao9 t125.length co9, .int .i64 a0_2, .int .i64 a0_3, .slice Ao11 t128.length co11] (0, 0) _ rfl (by refine kb_ ?_; refine blk_put (cs := #[.int .i64 a0_0, .slice Ao9 t125.length co9, .int .i64 a0_2, .int .i64 a0_3, .slice none 0 0]) ?_ 4 _ rfl; refine kb_ ?_; refine blk_put (cs := #[.int .i64 a0_0, .slice Ao9 t125.length co9, .int .i64 a0_2, .int .i64 0, .slice none 0 0]) ?_ 3 _ rfl; refine kb_ ?_; refine blk_put (cs := #[.int .i64 a0_0, .slice Ao9 t125.length co9, .int .i64 0, .int .i64 0, .slice none 0 0]) ?_ 2 _ rfl; refine kb_ ?_; refine blk_put (cs := #[.int .i64 a0_0, .slice none 0 0, .int .i64 0, .int .i64 0, .slice none 0 0]) ?_ 1 _ rfl; refine kb_ ?_; refine blk_put (cs := #[.int .i64 0, .slice none 0 0, .int .i64 0, .int .i64 0, .slice none 0 0]) ?_ 0 _ rfl; refine kb_ ?_; refine blk_far ?_ NB124_123.out _; refine kb_ ?_; refine blk_far ?_ NB124_123.out _; refine kb_ ?_; exact BK124.out) Try.underlying47 rfl (by kernel_rfl)) rfl ?_
 exact ⟨_, _, by first | rfl | (simp [errW_none, errW_some] <;> rfl) | (simp [*, errW_none, errW_some] <;> rfl), by refine kR_ ?_; exact Kd.R_mono (Kd.R_f gb124 4 (.slice Ao11 t128.length co11) (Kd.R_f gb124 3 (.int .i64 a0_3) (Kd.R_f gb124 2 (.int .i64 a0_2) (Kd.R_f gb124 1 (.slice Ao9 t125.length co9) (Kd.R_f gb124 0 (.int .i64 a0_0) (Kd.R_far (p := ⟨gb123, 4, none⟩) (Kd.R_far (p := ⟨gb123, 1, none⟩) (Kd.R_types (Kd.R_types HO127.out BK123.out (by decide)) BK124.out (by decide)) (fun _ hk => hk.1.2) (.slice Ao9 t125.length co9)) (fun _ hk => hk.1.2) (.slice Ao11 t128.length co11))))))) (fun _ hk => trivial), by refine kR_ ?_; exact Kd.R_mono (Kd.R_f gb124 4 (.slice Ao11 t128.length co11) (Kd.R_f gb124 3 (.int .i64 a0_3) (Kd.R_f gb124 2 (.int .i64 a0_2) (Kd.R_f gb124 1 (.slice Ao9 t125.length co9) (Kd.R_f gb124 0 (.int .i64 a0_0) (Kd.R_far (p := ⟨gb123, 4, none⟩) (Kd.R_far (p := ⟨gb123, 1, none⟩) (Kd.R_types (Kd.R_types HO130.out BK123.out (by decide)) BK124.out (by decide)) (fun _ hk => hk.1.2) (.slice Ao9 t125.length co9)) (fun _ hk => hk.1.2) (.slice Ao11 t128.length co11))))))) (fun _ hk => trivial), by repeat (first | (with_reducible first | exact HB.out | apply below_alloc | apply pw_below_drewN | apply below_drew1 | refine below_set ?_ GE123.out | refine below_set ?_ GE124.out) | exact HB.out)⟩

/-! ### impl_Mouth_next: function 58, by hand -/
def impl_Mouth_next.f (a0 : Int) (l1 : List Int) (a2 : Int) (a3 : Int) (l4 : List (S86)) (a5 : Int) : Option (Int × List Int × Int) :=
  if mn (mn a5 (wrap64 ((l1.length : Int) - a2))) (wrap64 (a3 - a2)) ≤ 0 then some (wrap64 (a0 + a2), [], a2)
  else if 0 ≤ a2 then (if a2 ≤ wrap64 (a2 + mn (mn a5 (wrap64 ((l1.length : Int) - a2))) (wrap64 (a3 - a2))) then (if wrap64 (a2 + mn (mn a5 (wrap64 ((l1.length : Int) - a2))) (wrap64 (a3 - a2))) ≤ (l1.length : Int) then
    (impl_clone_byte.f ((l1.take (wrap64 (a2 + mn (mn a5 (wrap64 ((l1.length : Int) - a2))) (wrap64 (a3 - a2)))).toNat).drop a2.toNat)).bind fun y => some (wrap64 (a0 + a2), y, wrap64 (a2 + mn (mn a5 (wrap64 ((l1.length : Int) - a2))) (wrap64 (a3 - a2)))) else none) else none) else none
theorem impl_Mouth_next.set_same {w : World} {g i : Nat} {t : TypeId} {cs : Array Value} {v : Value} (hb : w.heap[g]? = some (.cells cs t (0, 0))) (hv : cs[i]? = some v) : w.setCell ⟨g, i, none⟩ v = w := by
  have h1 : cs.setIfInBounds i v = cs := by
    apply Array.ext_getElem?
    intro k
    rw [Array.getElem?_setIfInBounds]
    split
    · rename_i e; subst e; split
      · exact hv.symm
      · rename_i hn; rw [Array.getElem?_eq_none (by omega)]
    · rfl
  have h2 : ∀ f : Obj → Obj, (∀ o, w.heap[g]? = some o → f o = o) → w.heap.modify g f = w.heap := by
    intro f hf
    apply Array.ext_getElem?
    intro k
    rw [Array.getElem?_modify]
    split
    · rename_i e; subst e
      cases ho : w.heap[g]? with
      | none => rfl
      | some o => simp only [Option.map_some]; rw [hf o ho]
    · rfl
  have h3 : (w.setCell ⟨g, i, none⟩ v).heap = w.heap := by
    unfold World.setCell
    dsimp only
    refine h2 _ ?_
    intro o ho
    rw [hb] at ho
    cases ho
    show Obj.cells (cs.setIfInBounds i v) t (0, 0) = _
    rw [h1]
  calc w.setCell ⟨g, i, none⟩ v = { w with heap := (w.setCell ⟨g, i, none⟩ v).heap } := rfl
    _ = { w with heap := w.heap } := by rw [h3]
    _ = w := rfl
theorem impl_Mouth_next.calls (a0 : Int) (A1 : Option Addr) (c1 : Nat) (l1 : List Int) (a2 : Int) (a3 : Int) (A4 : Option Addr) (c4 : Nat) (l4 : List (S86)) (a5 : Int) (r1 : Int) (r2 : List Int) (r3 : Int) (w : World) (hr1 : Kd.C (Kd.int .u8) w A1 l1.length l1) (hc1 : l1.length ≤ c1) (hr4 : Kd.C k86 w A4 l4.length l4) (hc4 : l4.length ≤ c4) (h : impl_Mouth_next.f a0 l1 a2 a3 l4 a5 = some (r1, r2, r3)) {g : Nat} (hb : w.heap[g]? = some (.cells #[.int .i64 a0, .slice A1 l1.length c1, .int .i64 a2, .int .i64 a3, .slice A4 l4.length c4] 47 (0, 0))) :
    Calls Try.prog 58 #[.pointer (some ⟨g, 0, none⟩), .int .i64 a5] w fun e w' => ∃ (w1 : World) (v1_ : Value), e = .returned (.tuple #[.int .i64 r1, v1_]) ∧ Kd.R (Kd.int .u8) 5 w1 w.heap.size (fun _ => True) v1_ r2 ∧ Below w.heap.size w w1 ∧ w' = w1.setCell ⟨g, 2, none⟩ (.int .i64 r3) := by
  unfold impl_Mouth_next.f at h
  have HR1 := Aside0.mk hr1; clear hr1
  have HC1 := Aside0.mk hc1; clear hc1
  clear hr4 hc4
  have BK := Aside0.mk hb; clear hb
  obtain ⟨j, hj⟩ : ∃ j : Int, mn a5 (wrap64 ((l1.length : Int) - a2)) = j := ⟨_, rfl⟩
  rw [hj] at h
  obtain ⟨n, hn⟩ : ∃ n : Int, mn j (wrap64 (a3 - a2)) = n := ⟨_, rfl⟩
  rw [hn] at h
  have hj_ : (if wrap64 ((l1.length : Int) - a2) < a5 then wrap64 ((l1.length : Int) - a2) else a5) = j := hj
  have hn_ : (if wrap64 (a3 - a2) < j then wrap64 (a3 - a2) else j) = n := hn
  clear hj hn
  have hcz0 : w.cell? ⟨g, 0, none⟩ = some (.int .i64 a0) := (blk_cell BK.out 0).trans rfl
  have hcz1 : w.cell? ⟨g, 1, none⟩ = some (.slice A1 l1.length c1) := (blk_cell BK.out 1).trans rfl
  have hcz2 : w.cell? ⟨g, 2, none⟩ = some (.int .i64 a2) := (blk_cell BK.out 2).trans rfl
  have hcz3 : w.cell? ⟨g, 3, none⟩ = some (.int .i64 a3) := (blk_cell BK.out 3).trans rfl
  by_cases k1 : n ≤ 0
  · rw [if_pos k1] at h
    simp only [Option.some.injEq, Prod.mk.injEq] at h
    obtain ⟨rfl, rfl, rfl⟩ := h
    have cb : decide (n ≤ 0) = true := decide_eq_true k1
    clear k1
    go_enter Try.func58, Try.ntmps58
    go_wp2
    repeat (go_quiet (fail); try go_wp2)
    go_ret2
    refine ⟨_, _, rfl, Kd.R_nil _ _ _ _ _, pw_below_drewN (Below.refl _ _) _, (impl_Mouth_next.set_same (v := .int .i64 a2) (i := 2) (cs := #[.int .i64 a0, .slice A1 l1.length c1, .int .i64 a2, .int .i64 a3, .slice A4 l4.length c4]) (t := 47) (show (w.drewN _).heap[g]? = _ from BK.out) rfl).symm⟩
  · rw [if_neg k1] at h
    have cb : decide (n ≤ 0) = false := decide_eq_false k1
    by_cases k2 : 0 ≤ a2
    · rw [if_pos k2] at h
      by_cases k3 : a2 ≤ wrap64 (a2 + n)
      · rw [if_pos k3] at h
        by_cases k4 : wrap64 (a2 + n) ≤ (l1.length : Int)
        · rw [if_pos k4] at h
          replace h := Option.bind_eq_some_iff.mp h
          obtain ⟨y, hA, h⟩ := h
          have A2 := Aside0.mk hA; clear hA
          simp only [Option.some.injEq, Prod.mk.injEq] at h
          obtain ⟨rfl, rfl, rfl⟩ := h
          clear k1
          go_enter Try.func58, Try.ntmps58
          go_wp2
          repeat (go_quiet (fail); try go_wp2)
          obtain ⟨i0, hi0, _, hsz, _⟩ := info_parts info5
          obtain ⟨A9, hcut, hA9, hC9⟩ := print_mid_of (P := Try.prog) (Value.int .u8) 0 22 5 .i64 .i64 Try.underlying22 hi0 hsz A1 c1 l1 a2 (wrap64 (a2 + n)) k2 k3 k4 HC1.out
          generalize List.drop a2.toNat (List.take (wrap64 (a2 + n)).toNat l1) = yy at hcut hA9 hC9 A2
          have HR9 := Aside0.mk (Kd.C_of_reads (h1 := fun _ => rfl) (hA9 _ (Kd.reads_of_C HR1.out)))
          clear hi0 hsz hA9
          refine start_ (n := 17) (S := fun w' => w'.cell? ⟨g, 1, none⟩ = some (.slice A1 l1.length c1) ∧ w'.cell? ⟨g, 2, none⟩ = some (.int .i64 a2)) (ds := []) #[false, false, false, false, false, false, false, false, false, false, false, false, false, false, false, false, false] (by kernel_rfl) rfl rfl ⟨hcz1, hcz2⟩ (fun hHeld => ?_)
          refine pure_ (i := 0) (N := some 42) (v := ?_) (a' := ?_) #[true, false, false, false, false, false, false, false, false, false, false, false, false, false, false, false, false] rfl rfl (by kernel_rfl) (fun _ _ _ h => h) (Or.inl ⟨by rfl, ?_⟩) ?_ ?_
          rotate_left
          · intro w'
            go_simp
            with_reducible rfl
          rotate_left
          · simp only [Act.put, List.setIfInBounds_toArray, List.set_cons_zero, List.set_cons_succ, i64_w, i32_w]
            rfl
          refine pure_ (i := 1) (N := some 43) (v := ?_) (a' := ?_) #[true, true, false, false, false, false, false, false, false, false, false, false, false, false, false, false, false] rfl rfl (by kernel_rfl) (fun _ _ _ h => h) (Or.inl ⟨by rfl, ?_⟩) ?_ ?_
          rotate_left
          · intro w'
            go_simp
            with_reducible rfl
          rotate_left
          · simp only [Act.put, List.setIfInBounds_toArray, List.set_cons_zero, List.set_cons_succ, i64_w, i32_w]
            rfl
          refine pure_ (i := 2) (N := some 44) (v := ?_) (a' := ?_) #[true, true, true, false, false, false, false, false, false, false, false, false, false, false, false, false, false] rfl rfl (by kernel_rfl) (fun _ _ _ h => h) (Or.inl ⟨by rfl, ?_⟩) ?_ ?_
          rotate_left
          · intro w'
            go_simp
            with_reducible rfl
          rotate_left
          · simp only [Act.put, List.setIfInBounds_toArray, List.set_cons_zero, List.set_cons_succ, i64_w, i32_w]
            rfl
          refine pure_ (i := 4) (N := some 46) (v := ?_) (a' := ?_) #[true, true, true, false, true, false, false, false, false, false, false, false, false, false, false, false, false] rfl rfl (by kernel_rfl) (fun _ _ _ h => h) (Or.inl ⟨by rfl, ?_⟩) ?_ ?_
          rotate_left
          · intro w'
            go_simp
            with_reducible rfl
          rotate_left
          · simp only [Act.put, List.setIfInBounds_toArray, List.set_cons_zero, List.set_cons_succ, i64_w, i32_w]
            rfl
          refine pure_ (i := 5) (N := some 47) (v := ?_) (a' := ?_) #[true, true, true, false, true, true, false, false, false, false, false, false, false, false, false, false, false] rfl rfl (by kernel_rfl) (fun _ _ _ h => h) (Or.inl ⟨by rfl, ?_⟩) ?_ ?_
          rotate_left
          · intro w'
            go_simp
            with_reducible rfl
          rotate_left
          · simp only [Act.put, List.setIfInBounds_toArray, List.set_cons_zero, List.set_cons_succ, i64_w, i32_w]
            rfl
          refine pure_ (i := 6) (N := some 48) (v := ?_) (a' := ?_) #[true, true, true, false, true, true, true, false, false, false, false, false, false, false, false, false, false] rfl rfl (by kernel_rfl) (fun _ _ _ h => h) (Or.inl ⟨by rfl, ?_⟩) ?_ ?_
          rotate_left
          · intro w'
            go_simp
            with_reducible rfl
          rotate_left
          · simp only [Act.put, List.setIfInBounds_toArray, List.set_cons_zero, List.set_cons_succ, i64_w, i32_w]
            rfl
          refine pure_ (i := 8) (N := some 50) (v := ?_) (a' := ?_) #[true, true, true, false, true, true, true, false, true, false, false, false, false, false, false, false, false] rfl rfl (by kernel_rfl) (fun _ _ _ h => h) (Or.inl ⟨by rfl, ?_⟩) ?_ ?_
          rotate_left
          · intro w'
            go_simp
            with_reducible rfl
          rotate_left
          · simp only [Act.put, List.setIfInBounds_toArray, List.set_cons_zero, List.set_cons_succ, i64_w, i32_w]
            rfl
          refine pure_ (i := 9) (N := some 51) (v := ?_) (a' := ?_) #[true, true, true, false, true, true, true, false, true, true, false, false, false, false, false, false, false] rfl rfl (by kernel_rfl) (fun _ _ _ h => h) (Or.inl ⟨by rfl, ?_⟩) ?_ ?_
          rotate_left
          · intro w'
            go_simp
            with_reducible rfl
          rotate_left
          · simp only [Act.put, List.setIfInBounds_toArray, List.set_cons_zero, List.set_cons_succ, i64_w, i32_w]
            rfl
          refine pure_ (i := 10) (N := some 52) (v := ?_) (a' := ?_) #[true, true, true, false, true, true, true, false, true, true, true, false, false, false, false, false, false] rfl rfl (by kernel_rfl) (fun _ _ _ h => h) (Or.inl ⟨by rfl, ?_⟩) ?_ ?_
          rotate_left
          · intro w'
            go_simp
            with_reducible rfl
          rotate_left
          · simp only [Act.put, List.setIfInBounds_toArray, List.set_cons_zero, List.set_cons_succ, i64_w, i32_w]
            rfl
          refine pure_ (i := 12) (N := some 54) (v := ?_) (a' := ?_) #[true, true, true, false, true, true, true, false, true, true, true, false, true, false, false, false, false] rfl rfl (by kernel_rfl) (fun _ _ _ h => h) (Or.inl ⟨by rfl, ?_⟩) ?_ ?_
          rotate_left
          · intro w'
            go_simp
            with_reducible rfl
          rotate_left
          · simp only [Act.put, List.setIfInBounds_toArray, List.set_cons_zero, List.set_cons_succ, i64_w, i32_w]
            rfl
          refine take_ (i := 3) (N := some 45) (v := ?_) (a' := ?_) #[true, true, true, true, true, true, true, false, true, true, true, false, true, false, false, false, false] rfl rfl (by kernel_rfl) (fun _ _ _ h => h) (Or.inl ⟨by rfl, ?_⟩) hHeld ?_ ?_
          rotate_left
          · rintro w' ⟨s0, s1⟩
            go_simp
            with_reducible rfl
          rotate_left
          · simp only [Act.put, List.setIfInBounds_toArray, List.set_cons_zero, List.set_cons_succ, i64_w, i32_w]
            rfl
          refine take_ (i := 7) (N := some 49) (v := ?_) (a' := ?_) #[true, true, true, true, true, true, true, true, true, true, true, false, true, false, false, false, false] rfl rfl (by kernel_rfl) (fun _ _ _ h => h) (Or.inl ⟨by rfl, ?_⟩) hHeld ?_ ?_
          rotate_left
          · rintro w' ⟨s0, s1⟩
            go_simp
            with_reducible rfl
          rotate_left
          · simp only [Act.put, List.setIfInBounds_toArray, List.set_cons_zero, List.set_cons_succ, i64_w, i32_w]
            rfl
          refine take_ (i := 11) (N := some 53) (v := ?_) (a' := ?_) #[true, true, true, true, true, true, true, true, true, true, true, true, true, false, false, false, false] rfl rfl (by kernel_rfl) (fun _ _ _ h => h) (Or.inl ⟨by rfl, ?_⟩) hHeld ?_ ?_
          rotate_left
          · rintro w' ⟨s0, s1⟩
            go_simp
            with_reducible rfl
          rotate_left
          · simp only [Act.put, List.setIfInBounds_toArray, List.set_cons_zero, List.set_cons_succ, i64_w, i32_w]
            rfl
          refine pure_ (i := 13) (N := some 55) (v := ?_) (a' := ?_) #[true, true, true, true, true, true, true, true, true, true, true, true, true, true, false, false, false] rfl rfl (by kernel_rfl) (fun _ _ _ h => h) (Or.inl ⟨by rfl, ?_⟩) ?_ ?_
          rotate_left
          · intro w'
            go_simp
            with_reducible rfl
          rotate_left
          · simp only [Act.put, List.setIfInBounds_toArray, List.set_cons_zero, List.set_cons_succ, i64_w, i32_w]
            rfl
          refine pure_ (i := 14) (N := some 56) (v := ?_) (a' := ?_) #[true, true, true, true, true, true, true, true, true, true, true, true, true, true, true, false, false] rfl rfl (by kernel_rfl) (fun _ _ _ h => h) (Or.inl ⟨by rfl, ?_⟩) ?_ ?_
          rotate_left
          · intro w'
            go_simp
            with_reducible rfl
          rotate_left
          · simp only [Act.put, List.setIfInBounds_toArray, List.set_cons_zero, List.set_cons_succ, i64_w, i32_w]
            rfl
          refine one_ (i := 15) (N := some 57) #[true, true, true, true, true, true, true, true, true, true, true, true, true, true, true, true, false] rfl rfl (by kernel_rfl) (by decide) (fun K hK => ?_)
          refine goes_ Try.func47 (by kernel_rfl) rfl #[.slice A9 yy.length (c1 - a2.toNat)] (by rfl) rfl rfl (by simp only [List.map_toArray, List.map_cons, List.map_nil]; rfl) ?_
          with_reducible refine (impl_clone_byte.calls _ _ _ y _ ?side1 ?side2 A2.out).mono ?_
          (case side1 => exact kC_ HR9.out)
          (case side2 => exact hC9)
          rintro e w3 ⟨v3, rfl, ho, hb3⟩
          refine ⟨_, rfl, ?_⟩
          have BK3 := Aside0.mk (blk_below (g := g) (o := .cells #[.int .i64 a0, .slice A1 l1.length c1, .int .i64 a2, .int .i64 a3, .slice A4 l4.length c4] 47 (0, 0)) (by first | exact kb_ BK.out | exact BK.out) hb3)
          refine hK.out _ _ ⟨(blk_cell BK3.out 1).trans rfl, (blk_cell BK3.out 2).trans rfl⟩ (fun hHeld => ?_)
          clear hK K
          refine nm_ 57 ?_
          refine pure_ (i := 16) (N := some 8) (v := ?_) (a' := ?_) #[true, true, true, true, true, true, true, true, true, true, true, true, true, true, true, true, true] rfl rfl (by kernel_rfl) (fun _ _ _ h => h) (Or.inl ⟨by rfl, ?_⟩) ?_ ?_
          rotate_left
          · intro w'
            go_simp
            with_reducible rfl
          rotate_left
          · simp only [Act.put, List.setIfInBounds_toArray, List.set_cons_zero, List.set_cons_succ, i64_w, i32_w]
            rfl
          refine done_ (by kernel_rfl) ?_
          have hcy2 : w3.cell? ⟨g, 2, none⟩ = some (.int .i64 a2) := (blk_cell BK3.out 2).trans rfl
          have hfz2 := blk_frozen BK3.out 2
          go_wp2
          go_ret2
          exact ⟨w3, v3, rfl, ho, ⟨hb3.os, hb3.tape, hb3.output, hb3.size, hb3.block⟩, rfl⟩
        · rw [if_neg k4] at h; cases h
      · rw [if_neg k3] at h; cases h
    · rw [if_neg k2] at h; cases h

/-! ### impl_MouthNext: function 28 -/
def impl_MouthNext.j0 : Nat → Int → Bool → Int → List Int → Int → Int → List (S86) → Option (Int × List Int × Int × Int × (List (S86)) × Int × List Int)
 | 0, _, _, _, _, _, _, _ => none
 | k + 1, x1, x17, x132000, x132001, x132002, x132003, x132004 => if x17 = true then (some (0, ([] : List Int), 0, 0, ([] : List (S86)), 0, ([] : List Int))) else ((impl_Mouth_copy.f x132000 x132001 x132002 x132003 x132004).bind fun bt135 => ((impl_Mouth_next.f bt135.1 bt135.2.1 bt135.2.2.1 bt135.2.2.2.1 bt135.2.2.2.2 x1).bind fun bt145 => (some (bt135.1, bt135.2.1, bt145.2.2, bt135.2.2.2.1, bt135.2.2.2.2, bt145.1, bt145.2.1))))
def impl_MouthNext.f (k : Nat) (a0_0 : Int) (l0_1 : List Int) (a0_2 : Int) (a0_3 : Int) (l0_4 : List (S86)) (a1 : Int) : Option (Int × List Int × Int × Int × (List (S86)) × Int × List Int) := (impl_MouthOk.f k a0_0 l0_1 a0_2 a0_3 l0_4).bind fun t133 => (if t133 = true then ((impl_in.f a1 1 12).bind fun t134 => (impl_MouthNext.j0 k a1 (!t134) a0_0 l0_1 a0_2 a0_3 l0_4)) else (impl_MouthNext.j0 k a1 true a0_0 l0_1 a0_2 a0_3 l0_4))
theorem impl_MouthNext.mono_l : ∀ k, (∀ y0 y1 y2 y3 y4 y5 y6, LeO (impl_MouthNext.j0 k y0 y1 y2 y3 y4 y5 y6) (impl_MouthNext.j0 (k + 1) y0 y1 y2 y3 y4 y5 y6))
 | 0 => fun _ _ _ _ _ _ _ r h => by simp [impl_MouthNext.j0] at h
 | k + 1 => by
  have ih0 := impl_MouthNext.mono_l k
  ·intro y0 y1 y2 y3 y4 y5 y6
   unfold impl_MouthNext.j0
   repeat' first
   | (with_reducible exact ih0 _ _ _ _ _ _ _)
   | (with_reducible exact impl_MouthOk.mono _ _ _ _ _ _)
   | (with_reducible exact LeO.refl _)
   | (with_reducible exact LeO.none _)
   | (with_reducible refine LeO.ite ?_ ?_)
   | (with_reducible refine LeO.bind ?_ (fun _ => ?_))
   | exact ih0 _ _ _ _ _ _ _
   | exact impl_MouthOk.mono _ _ _ _ _ _
   | exact LeO.none _
   | refine LeO.ite ?_ ?_
   | refine LeO.bind ?_ (fun _ => ?_)
theorem impl_MouthNext.mono : ∀ a0 a1 a2 a3 a4 a5 k, LeO (impl_MouthNext.f k a0 a1 a2 a3 a4 a5) (impl_MouthNext.f (k + 1) a0 a1 a2 a3 a4 a5) := by
 intro a0 a1 a2 a3 a4 a5 k
 have ih0 := impl_MouthNext.mono_l k
 unfold impl_MouthNext.f
 repeat' first
   | (with_reducible exact ih0 _ _ _ _ _ _ _)
   | (with_reducible exact impl_MouthOk.mono _ _ _ _ _ _)
   | (with_reducible exact LeO.refl _)
   | (with_reducible exact LeO.none _)
   | (with_reducible refine LeO.ite ?_ ?_)
   | (with_reducible refine LeO.bind ?_ (fun _ => ?_))
   | exact ih0 _ _ _ _ _ _ _
   | exact impl_MouthOk.mono _ _ _ _ _ _
   | exact LeO.none _
   | refine LeO.ite ?_ ?_
   | refine LeO.bind ?_ (fun _ => ?_)
set_option maxHeartbeats 8000000 in
set_option maxRecDepth 100000 in
theorem impl_MouthNext.calls (k : Nat) (a0_0 : Int) (A0_1 : Option Addr) (c0_1 : Nat) (l0_1 : List Int) (a0_2 : Int) (a0_3 : Int) (A0_4 : Option Addr) (c0_4 : Nat) (l0_4 : List (S86)) (a1 : Int) (r1 : Int) (r2 : List Int) (r3 : Int) (r4 : Int) (r5 : List (S86)) (r6 : Int) (r7 : List Int) (w : World) (hr0_1 : Kd.C (Kd.int .u8) w A0_1 l0_1.length l0_1) (hc0_1 : l0_1.length ≤ c0_1) (hr0_4 : Kd.C k86 w A0_4 l0_4.length l0_4) (hc0_4 : l0_4.length ≤ c0_4) (h : impl_MouthNext.f k a0_0 l0_1 a0_2 a0_3 l0_4 a1 = some (r1, r2, r3, r4, r5, r6, r7)) :
  Calls Try.prog 28 #[.agg #[.int .i64 a0_0, .slice A0_1 l0_1.length c0_1, .int .i64 a0_2, .int .i64 a0_3, .slice A0_4 l0_4.length c0_4], .int .i64 a1] w fun e w' => ∃ v1_ v4_ v6_ : Value, e = .returned (.tuple #[.agg #[.int .i64 r1, v1_, .int .i64 r3, .int .i64 r4, v4_], .int .i64 r6, v6_]) ∧ Kd.R (Kd.int .u8) 5 w' w.heap.size (fun k_ => some k_ ≠ (v6_ : Value).ownBlock) v1_ r2 ∧ Kd.R k86 86 w' w.heap.size (fun _ => True) v4_ r5 ∧ Kd.R (Kd.int .u8) 5 w' w.heap.size (fun k_ => some k_ ≠ (v1_ : Value).ownBlock) v6_ r7 ∧ Below w.heap.size w w' := by
 have hu47 := Try.underlying47; have HR0_1 := Aside0.mk hr0_1; have HC0_1 := Aside0.mk hc0_1; clear hr0_1 hc0_1; have HR0_4 := Aside0.mk hr0_4; have HC0_4 := Aside0.mk hc0_4; clear hr0_4 hc0_4
 have HB := Aside0.mk (Below.refl w.heap.size w)
 have H : ((impl_MouthOk.f k a0_0 l0_1 a0_2 a0_3 l0_4).bind fun t133 => (if t133 = true then ((impl_in.f a1 1 12).bind fun t134 => (impl_MouthNext.j0 k a1 (!t134) a0_0 l0_1 a0_2 a0_3 l0_4)) else (impl_MouthNext.j0 k a1 true a0_0 l0_1 a0_2 a0_3 l0_4))) = some (r1, r2, r3, r4, r5, r6, r7) := h
 clear h; have HC3 := Aside0.mk H; clear H
 go_enter Try.func28, Try.ntmps28
 go_upto_region 1 with (first | ((with_reducible refine gate_dst (N := 2) rfl ?_); refine box_event ?hg (N := 2) ?hd (cs := #[.int .i64 a0_0, .slice A0_1 l0_1.length c0_1, .int .i64 a0_2, .int .i64 a0_3, .slice A0_4 l0_4.length c0_4]) (t := 47) ?hr ?_; (case hd => rfl); (case hg => rfl); (case hr => first | (go_simp; done) | (go_simp; rfl)); intro gb131 hg w4 hbox hb; have n0_ := Aside0.mk (below_step (hb0_ HB.out) hb); have n1_ := Aside0.mk (hbox); have n2_ := Aside0.mk ((by rw [hg]; exact (below_size (hb0_ HB.out)) : w.heap.size ≤ gb131)); have n3_ := Aside0.mk ((by rw [hg]; exact (below_size (hb0_ HB.out)) : w.heap.size ≤ gb131)); clear HB; have HB := n0_; have BK131 := n1_; have GW131 := n2_; have GE131 := n3_; clear n0_ n1_ n2_ n3_; clear hb hbox hg) | ((with_reducible refine gate_dst (N := 4) rfl ?_); refine box_event ?hg (N := 4) ?hd (cs := #[.int .i64 0, .slice none 0 0, .int .i64 0, .int .i64 0, .slice none 0 0]) (t := 47) ?hr ?_; (case hd => rfl); (case hg => rfl); (case hr => first | (go_simp; done) | (go_simp; rfl)); intro gb132 hg w5 hbox hb; have n0_ := Aside0.mk (blk_below (g := gb131) (o := .cells #[.int .i64 a0_0, .slice A0_1 l0_1.length c0_1, .int .i64 a0_2, .int .i64 a0_3, .slice A0_4 l0_4.length c0_4] 47 (0, 0)) (kb_ BK131.out) hb); have n1_ := Aside0.mk (below_step (hb1_ HB.out GE131.out) hb); have n2_ := Aside0.mk (hbox); have n3_ := Aside0.mk ((by rw [hg]; exact (below_size (hb1_ HB.out GE131.out)) : w.heap.size ≤ gb132)); have n4_ := Aside0.mk ((by rw [hg]; exact (below_size (hb1_ HB.out GE131.out)) : w.heap.size ≤ gb132)); have n5_ := Aside0.mk ((by rw [hg]; exact Nat.ne_of_lt (blk_lt (g := gb131) (o := .cells #[.int .i64 a0_0, .slice A0_1 l0_1.length c0_1, .int .i64 a0_2, .int .i64 a0_3, .slice A0_4 l0_4.length c0_4] 47 (0, 0)) (kb_ BK131.out)) : gb131 ≠ gb132)); have n6_ := Aside0.mk ((by rw [hg]; exact Nat.ne_of_gt (blk_lt (g := gb131) (o := .cells #[.int .i64 a0_0, .slice A0_1 l0_1.length c0_1, .int .i64 a0_2, .int .i64 a0_3, .slice A0_4 l0_4.length c0_4] 47 (0, 0)) (kb_ BK131.out)) : gb132 ≠ gb131)); clear BK131; clear HB; have BK131 := n0_; have HB := n1_; have BK132 := n2_; have GW132 := n3_; have GE132 := n4_; have NB131_132 := n5_; have NB132_131 := n6_; clear n0_ n1_ n2_ n3_ n4_ n5_ n6_; clear hb hbox hg))
 (try simp only [Act.put, List.setIfInBounds_toArray, List.set_cons_zero, List.set_cons_succ])
 go_cut [17] (fun v17 wc => ∃ (kq : Nat) (x17_2 : Bool), v17 = .bool x17_2 ∧ Aside0 (impl_MouthNext.j0 kq a1 x17_2 a0_0 l0_1 a0_2 a0_3 l0_4 = some (r1, r2, r3, r4, r5, r6, r7)) ∧ Aside0 (kq ≤ k) ∧ Aside0 (wc.heap[gb131]? = some (.cells #[.int .i64 a0_0, (.slice A0_1 l0_1.length c0_1), .int .i64 a0_2, .int .i64 a0_3, (.slice A0_4 l0_4.length c0_4)] 47 (0, 0))) ∧ Aside0 (wc.heap[gb132]? = some (.cells #[.int .i64 0, (.slice none 0 0), .int .i64 0, .int .i64 0, (.slice none 0 0)] 47 (0, 0))) ∧ Aside0 (Below w.heap.size w wc))
 case first =>
  have H := HC3.out; clear HC3
  replace H := Option.bind_eq_some_iff.mp H
  obtain ⟨t133, A60, H⟩ := H
  replace H : (if t133 = true then ((impl_in.f a1 1 12).bind fun t134 => (impl_MouthNext.j0 k a1 (!t134) a0_0 l0_1 a0_2 a0_3 l0_4)) else (impl_MouthNext.j0 k a1 true a0_0 l0_1 a0_2 a0_3 l0_4)) = some (r1, r2, r3, r4, r5, r6, r7) := H
  have A6 := Aside0.mk A60; clear A60
  by_cases c7 : t133 = true
  ·subst c7
   have H1 : ((impl_in.f a1 1 12).bind fun t134 => (impl_MouthNext.j0 k a1 (!t134) a0_0 l0_1 a0_2 a0_3 l0_4)) = some (r1, r2, r3, r4, r5, r6, r7) := by rw [if_pos rfl] at H; exact H
   clear H; have H := H1; clear H1
   replace H := Option.bind_eq_some_iff.mp H
   obtain ⟨t134, A80, H⟩ := H
   replace H : (impl_MouthNext.j0 k a1 (!t134) a0_0 l0_1 a0_2 a0_3 l0_4) = some (r1, r2, r3, r4, r5, r6, r7) := H
   have A8 := Aside0.mk A80; clear A80
   have H' := Aside0.mk H
   clear H; have hnb9 := NB131_132.out; have hnc9 := NB132_131.out; have hcz10_0 : w5.cell? ⟨gb131, 0, none⟩ = some (.int .i64 a0_0) := (blk_cell BK131.out 0).trans rfl; have hcz10_1 : w5.cell? ⟨gb131, 1, none⟩ = some (.slice A0_1 l0_1.length c0_1) := (blk_cell BK131.out 1).trans rfl; have hcz10_2 : w5.cell? ⟨gb131, 2, none⟩ = some (.int .i64 a0_2) := (blk_cell BK131.out 2).trans rfl; have hcz10_3 : w5.cell? ⟨gb131, 3, none⟩ = some (.int .i64 a0_3) := (blk_cell BK131.out 3).trans rfl; have hcz10_4 : w5.cell? ⟨gb131, 4, none⟩ = some (.slice A0_4 l0_4.length c0_4) := (blk_cell BK131.out 4).trans rfl; have hfz10_0 := blk_frozen BK131.out 0; have hfz10_1 := blk_frozen BK131.out 1; have hfz10_2 := blk_frozen BK131.out 2; have hfz10_3 := blk_frozen BK131.out 3; have hfz10_4 := blk_frozen BK131.out 4
   go_wp2_with (first | ((with_reducible refine gate_callee (f := 31) rfl ?_); refine goesL_ (some 11) rfl rfl Try.func31 (by kernel_rfl) rfl #[.agg #[.int .i64 a0_0, .slice A0_1 l0_1.length c0_1, .int .i64 a0_2, .int .i64 a0_3, .slice A0_4 l0_4.length c0_4]] rfl ar_ ?_; (with_reducible refine (impl_MouthOk.calls k a0_0 _ _ l0_1 a0_2 a0_3 _ _ l0_4 true _ ?side1 ?side2 ?side3 ?side4 A6.out).mono ?_); (case side1 => exact kC_ (Kd.C_below HR0_1.out HB.out)); (case side2 => exact HC0_1.out); (case side3 => exact kC_ (Kd.C_below HR0_4.out HB.out)); (case side4 => exact HC0_4.out); rintro e w11 ⟨rfl, hb⟩; refine ⟨_, rfl, ?_⟩; have n0_ := Aside0.mk (blk_below (g := gb131) (o := .cells #[.int .i64 a0_0, .slice A0_1 l0_1.length c0_1, .int .i64 a0_2, .int .i64 a0_3, .slice A0_4 l0_4.length c0_4] 47 (0, 0)) (kb_ BK131.out) hb); have n1_ := Aside0.mk (blk_below (g := gb132) (o := .cells #[.int .i64 0, .slice none 0 0, .int .i64 0, .int .i64 0, .slice none 0 0] 47 (0, 0)) (kb_ BK132.out) hb); have n2_ := Aside0.mk (below_step (hb2_ HB.out GE131.out GE132.out) hb); clear BK131; clear BK132; clear HB; have BK131 := n0_; have BK132 := n1_; have HB := n2_; clear n0_ n1_ n2_; (try clear hb); (try clear hb2); (try clear hk); (try clear hi)) | (go_at_call 44; (with_reducible refine (impl_in.calls a1 1 12 t134 _ A8.out).mono ?_); rintro e w' ⟨rfl, ⟨nd, rfl⟩⟩))
   go_meet
   case rel => exact ⟨_, (!t134), (by first | rfl | (simp; done) | (simp [*]; done)), H', ⟨by first | omega | exact Nat.le_refl _⟩, ⟨by refine kb_ ?_; exact BK131.out⟩, ⟨by refine kb_ ?_; exact BK132.out⟩, ⟨by repeat (first | (with_reducible first | exact HB.out | apply below_alloc | apply pw_below_drewN | apply below_drew1 | refine below_set ?_ GE131.out | refine below_set ?_ GE132.out) | exact HB.out)⟩⟩
  ·replace c7 := Bool.eq_false_iff.mpr c7
   subst c7
   have H1 : (impl_MouthNext.j0 k a1 true a0_0 l0_1 a0_2 a0_3 l0_4) = some (r1, r2, r3, r4, r5, r6, r7) := by rw [if_neg (show ¬ (false = true) by decide)] at H; exact H
   clear H; have H := H1; clear H1
   have H' := Aside0.mk H
   clear H; have hnb12 := NB131_132.out; have hnc12 := NB132_131.out; have hcz13_0 : w5.cell? ⟨gb131, 0, none⟩ = some (.int .i64 a0_0) := (blk_cell BK131.out 0).trans rfl; have hcz13_1 : w5.cell? ⟨gb131, 1, none⟩ = some (.slice A0_1 l0_1.length c0_1) := (blk_cell BK131.out 1).trans rfl; have hcz13_2 : w5.cell? ⟨gb131, 2, none⟩ = some (.int .i64 a0_2) := (blk_cell BK131.out 2).trans rfl; have hcz13_3 : w5.cell? ⟨gb131, 3, none⟩ = some (.int .i64 a0_3) := (blk_cell BK131.out 3).trans rfl; have hcz13_4 : w5.cell? ⟨gb131, 4, none⟩ = some (.slice A0_4 l0_4.length c0_4) := (blk_cell BK131.out 4).trans rfl; have hfz13_0 := blk_frozen BK131.out 0; have hfz13_1 := blk_frozen BK131.out 1; have hfz13_2 := blk_frozen BK131.out 2; have hfz13_3 := blk_frozen BK131.out 3; have hfz13_4 := blk_frozen BK131.out 4
   go_wp2_with (first | ((with_reducible refine gate_callee (f := 31) rfl ?_); refine goesL_ (some 11) rfl rfl Try.func31 (by kernel_rfl) rfl #[.agg #[.int .i64 a0_0, .slice A0_1 l0_1.length c0_1, .int .i64 a0_2, .int .i64 a0_3, .slice A0_4 l0_4.length c0_4]] rfl ar_ ?_; (with_reducible refine (impl_MouthOk.calls k a0_0 _ _ l0_1 a0_2 a0_3 _ _ l0_4 false _ ?side1 ?side2 ?side3 ?side4 A6.out).mono ?_); (case side1 => exact kC_ (Kd.C_below HR0_1.out HB.out)); (case side2 => exact HC0_1.out); (case side3 => exact kC_ (Kd.C_below HR0_4.out HB.out)); (case side4 => exact HC0_4.out); rintro e w14 ⟨rfl, hb⟩; refine ⟨_, rfl, ?_⟩; have n0_ := Aside0.mk (blk_below (g := gb131) (o := .cells #[.int .i64 a0_0, .slice A0_1 l0_1.length c0_1, .int .i64 a0_2, .int .i64 a0_3, .slice A0_4 l0_4.length c0_4] 47 (0, 0)) (kb_ BK131.out) hb); have n1_ := Aside0.mk (blk_below (g := gb132) (o := .cells #[.int .i64 0, .slice none 0 0, .int .i64 0, .int .i64 0, .slice none 0 0] 47 (0, 0)) (kb_ BK132.out) hb); have n2_ := Aside0.mk (below_step (hb2_ HB.out GE131.out GE132.out) hb); clear BK131; clear BK132; clear HB; have BK131 := n0_; have BK132 := n1_; have HB := n2_; clear n0_ n1_ n2_; (try clear hb); (try clear hb2); (try clear hk); (try clear hi)))
   go_meet
   case rel => exact ⟨_, (true), (by first | rfl | (simp; done) | (simp [*]; done)), H', ⟨by first | omega | exact Nat.le_refl _⟩, ⟨by refine kb_ ?_; exact BK131.out⟩, ⟨by refine kb_ ?_; exact BK132.out⟩, ⟨by repeat (first | (with_reducible first | exact HB.out | apply below_alloc | apply pw_below_drewN | apply below_drew1 | refine below_set ?_ GE131.out | refine below_set ?_ GE132.out) | exact HB.out)⟩⟩
 case rest =>
  clear HC3; (try clear c1); (try clear c2); (try clear p2); (try clear c3); (try clear c7); (try clear c9); (try clear c12); (try clear hcz10_0); (try clear hcz10_1); (try clear hcz10_2); (try clear hcz10_3); (try clear hcz10_4); (try clear hcz13_0); (try clear hcz13_1); (try clear hcz13_2); (try clear hcz13_3); (try clear hcz13_4); (try clear hfz10_0); (try clear hfz10_1); (try clear hfz10_2); (try clear hfz10_3); (try clear hfz10_4); (try clear hfz13_0); (try clear hfz13_1); (try clear hfz13_2); (try clear hfz13_3); (try clear hfz13_4)
  obtain ⟨kq, x17_2, rfl, HA, HJ2, BK131, BK132, HB⟩ := hcut
  cases kq with
  | zero => exact absurd HA.out (by simp [impl_MouthNext.j0])
  | succ kj2 =>
   have H := HA.out; clear HA
   simp only [impl_MouthNext.j0] at H
   by_cases c15 : x17_2 = true
   ·subst c15
    have H1 : (some (0, ([] : List Int), 0, 0, ([] : List (S86)), 0, ([] : List Int))) = some (r1, r2, r3, r4, r5, r6, r7) := by rw [if_pos rfl] at H; exact H
    clear H; have H := H1; clear H1
    simp only [Option.some.injEq, Prod.mk.injEq] at H
    obtain ⟨rfl, rfl, rfl, rfl, rfl, rfl, rfl⟩ := H
    have hnb16 := NB132_131.out; have hnc16 := NB131_132.out; have hcz17_0 : wc.cell? ⟨gb132, 0, none⟩ = some (.int .i64 0) := (blk_cell BK132.out 0).trans rfl; have hcz17_1 : wc.cell? ⟨gb132, 1, none⟩ = some (.slice none 0 0) := (blk_cell BK132.out 1).trans rfl; have hcz17_2 : wc.cell? ⟨gb132, 2, none⟩ = some (.int .i64 0) := (blk_cell BK132.out 2).trans rfl; have hcz17_3 : wc.cell? ⟨gb132, 3, none⟩ = some (.int .i64 0) := (blk_cell BK132.out 3).trans rfl; have hcz17_4 : wc.cell? ⟨gb132, 4, none⟩ = some (.slice none 0 0) := (blk_cell BK132.out 4).trans rfl; have hfz17_0 := blk_frozen BK132.out 0; have hfz17_1 := blk_frozen BK132.out 1; have hfz17_2 := blk_frozen BK132.out 2; have hfz17_3 := blk_frozen BK132.out 3; have hfz17_4 := blk_frozen BK132.out 4
    go_wp2
    refine bodyPost_ret (results_ctt rfl _ _ gb132 47 #[.int .i64 0, .slice none 0 0, .int .i64 0, .int .i64 0, .slice none 0 0] (0, 0) _ rfl (by refine kb_ ?_; refine blk_put (cs := #[.int .i64 0, .slice none 0 0, .int .i64 0, .int .i64 0, .slice none 0 0]) ?_ 4 _ rfl; refine kb_ ?_; refine blk_put (cs := #[.int .i64 0, .slice none 0 0, .int .i64 0, .int .i64 0, .slice none 0 0]) ?_ 3 _ rfl; refine kb_ ?_; refine blk_put (cs := #[.int .i64 0, .slice none 0 0, .int .i64 0, .int .i64 0, .slice none 0 0]) ?_ 2 _ rfl; refine kb_ ?_; refine blk_put (cs := #[.int .i64 0, .slice none 0 0, .int .i64 0, .int .i64 0, .slice none 0 0]) ?_ 1 _ rfl; refine kb_ ?_; refine blk_put (cs := #[.int .i64 0, .slice none 0 0, .int .i64 0, .int .i64 0, .slice none 0 0]) ?_ 0 _ rfl; refine kb_ ?_; exact BK132.out) Try.underlying47 rfl (by kernel_rfl)) rfl ?_
    exact ⟨_, _, _, by first | rfl | (simp [errW_none, errW_some] <;> rfl) | (simp [*, errW_none, errW_some] <;> rfl), by first | exact Kd.R_nil _ _ _ _ _ | exact Kd.N_nil _ _ _ _ _ | exact Kd.V_nil _ _ _ _ _ | exact Kd.Q_nil _ _ _ _ _ | exact Kd.S_nil _ _ _ _ _, by first | exact Kd.R_nil _ _ _ _ _ | exact Kd.N_nil _ _ _ _ _ | exact Kd.V_nil _ _ _ _ _ | exact Kd.Q_nil _ _ _ _ _ | exact Kd.S_nil _ _ _ _ _, by first | exact Kd.R_nil _ _ _ _ _ | exact Kd.N_nil _ _ _ _ _ | exact Kd.V_nil _ _ _ _ _ | exact Kd.Q_nil _ _ _ _ _ | exact Kd.S_nil _ _ _ _ _, by repeat (first | (with_reducible first | exact HB.out | apply below_alloc | apply pw_below_drewN | apply below_drew1 | refine below_set ?_ GE131.out | refine below_set ?_ GE132.out) | exact HB.out)⟩
   ·replace c15 := Bool.eq_false_iff.mpr c15
    subst c15
    have H1 : ((impl_Mouth_copy.f a0_0 l0_1 a0_2 a0_3 l0_4).bind fun bt135 => ((impl_Mouth_next.f bt135.1 bt135.2.1 bt135.2.2.1 bt135.2.2.2.1 bt135.2.2.2.2 a1).bind fun bt145 => (some (bt135.1, bt135.2.1, bt145.2.2, bt135.2.2.2.1, bt135.2.2.2.2, bt145.1, bt145.2.1)))) = some (r1, r2, r3, r4, r5, r6, r7) := by rw [if_neg (show ¬ (false = true) by decide)] at H; exact H
    clear H; have H := H1; clear H1
    replace H := Option.bind_eq_some_iff.mp H
    obtain ⟨⟨t135, t136, t139, t140, t141⟩, A180, H⟩ := H
    replace H : ((impl_Mouth_next.f t135 t136 t139 t140 t141 a1).bind fun bt145 => (some (t135, t136, bt145.2.2, t140, t141, bt145.1, bt145.2.1))) = some (r1, r2, r3, r4, r5, r6, r7) := H
    have A18 := Aside0.mk A180; clear A180
    replace H := Option.bind_eq_some_iff.mp H
    obtain ⟨⟨t145, t146, t147⟩, A190, H⟩ := H
    replace H : (some (t135, t136, t147, t140, t141, t145, t146)) = some (r1, r2, r3, r4, r5, r6, r7) := H
    have A19 := Aside0.mk A190; clear A190
    simp only [Option.some.injEq, Prod.mk.injEq] at H
    obtain ⟨rfl, rfl, rfl, rfl, rfl, rfl, rfl⟩ := H
    have hnb20 := NB131_132.out; have hnc20 := NB132_131.out; have hcz21_0 : wc.cell? ⟨gb131, 0, none⟩ = some (.int .i64 a0_0) := (blk_cell BK131.out 0).trans rfl; have hcz21_1 : wc.cell? ⟨gb131, 1, none⟩ = some (.slice A0_1 l0_1.length c0_1) := (blk_cell BK131.out 1).trans rfl; have hcz21_2 : wc.cell? ⟨gb131, 2, none⟩ = some (.int .i64 a0_2) := (blk_cell BK131.out 2).trans rfl; have hcz21_3 : wc.cell? ⟨gb131, 3, none⟩ = some (.int .i64 a0_3) := (blk_cell BK131.out 3).trans rfl; have hcz21_4 : wc.cell? ⟨gb131, 4, none⟩ = some (.slice A0_4 l0_4.length c0_4) := (blk_cell BK131.out 4).trans rfl; have hfz21_0 := blk_frozen BK131.out 0; have hfz21_1 := blk_frozen BK131.out 1; have hfz21_2 := blk_frozen BK131.out 2; have hfz21_3 := blk_frozen BK131.out 3; have hfz21_4 := blk_frozen BK131.out 4
    go_wp2_with (first | ((with_reducible refine gate_callee (f := 57) rfl ?_); refine goesL_ (some 20) rfl rfl Try.func57 (by kernel_rfl) rfl #[.agg #[.int .i64 a0_0, .slice A0_1 l0_1.length c0_1, .int .i64 a0_2, .int .i64 a0_3, .slice A0_4 l0_4.length c0_4]] rfl ar_ ?_; (with_reducible refine (impl_Mouth_copy.calls a0_0 _ _ l0_1 a0_2 a0_3 _ _ l0_4 t135 t136 t139 t140 t141 _ ?side1 ?side2 ?side3 ?side4 A18.out).mono ?_); (case side1 => exact kC_ (Kd.C_below HR0_1.out HB.out)); (case side2 => exact HC0_1.out); (case side3 => exact kC_ (Kd.C_below HR0_4.out HB.out)); (case side4 => exact HC0_4.out); rintro e w22 ⟨v137, v142, rfl, ho0, ho1, hb⟩; refine ⟨_, rfl, ?_⟩; have n0_ := Aside0.mk (Kd.R_lower ho0 (below_size (hb2_ HB.out GE131.out GE132.out))); have n1_ := Aside0.mk (Kd.R_lower ho1 (below_size (hb2_ HB.out GE131.out GE132.out))); have n2_ := Aside0.mk (blk_below (g := gb131) (o := .cells #[.int .i64 a0_0, .slice A0_1 l0_1.length c0_1, .int .i64 a0_2, .int .i64 a0_3, .slice A0_4 l0_4.length c0_4] 47 (0, 0)) (kb_ BK131.out) hb); have n3_ := Aside0.mk (blk_below (g := gb132) (o := .cells #[.int .i64 0, .slice none 0 0, .int .i64 0, .int .i64 0, .slice none 0 0] 47 (0, 0)) (kb_ BK132.out) hb); have n4_ := Aside0.mk (below_step (hb2_ HB.out GE131.out GE132.out) hb); clear BK131; clear BK132; clear HB; have HO138 := n0_; have HO143 := n1_; have BK131 := n2_; have BK132 := n3_; have HB := n4_; clear n0_ n1_ n2_ n3_ n4_; (try clear hb); (try clear hb2); (try clear hk); (try clear hi); (try clear ho0); (try clear ho1)) | ((with_reducible refine gate_dst (N := 7) rfl ?_); refine box_event ?hg (N := 7) ?hd (cs := #[.int .i64 0, .slice none 0 0, .int .i64 0, .int .i64 0, .slice none 0 0]) (t := 47) ?hr ?_; (case hd => rfl); (case hg => rfl); (case hr => first | (go_simp; done) | (go_simp; rfl)); intro gb144 hg w23 hbox hb; have n0_ := Aside0.mk (Kd.R_below (kR_ HO138.out) hb); have n1_ := Aside0.mk (Kd.R_below (kR_ HO143.out) hb); have n2_ := Aside0.mk (blk_below (g := gb131) (o := .cells #[.int .i64 a0_0, .slice A0_1 l0_1.length c0_1, .int .i64 a0_2, .int .i64 a0_3, .slice A0_4 l0_4.length c0_4] 47 (0, 0)) (kb_ BK131.out) hb); have n3_ := Aside0.mk (blk_below (g := gb132) (o := .cells #[.int .i64 0, .slice none 0 0, .int .i64 0, .int .i64 0, .slice none 0 0] 47 (0, 0)) (kb_ BK132.out) hb); have n4_ := Aside0.mk (below_step (hb2_ HB.out GE131.out GE132.out) hb); have n5_ := Aside0.mk (hbox); have n6_ := Aside0.mk ((by rw [hg]; exact (below_size (hb2_ HB.out GE131.out GE132.out)) : w.heap.size ≤ gb144)); have n7_ := Aside0.mk ((by rw [hg]; exact (below_size (hb2_ HB.out GE131.out GE132.out)) : w.heap.size ≤ gb144)); have n8_ := Aside0.mk ((by rw [hg]; exact Nat.ne_of_lt (blk_lt (g := gb131) (o := .cells #[.int .i64 a0_0, .slice A0_1 l0_1.length c0_1, .int .i64 a0_2, .int .i64 a0_3, .slice A0_4 l0_4.length c0_4] 47 (0, 0)) (kb_ BK131.out)) : gb131 ≠ gb144)); have n9_ := Aside0.mk ((by rw [hg]; exact Nat.ne_of_gt (blk_lt (g := gb131) (o := .cells #[.int .i64 a0_0, .slice A0_1 l0_1.length c0_1, .int .i64 a0_2, .int .i64 a0_3, .slice A0_4 l0_4.length c0_4] 47 (0, 0)) (kb_ BK131.out)) : gb144 ≠ gb131)); have n10_ := Aside0.mk ((by rw [hg]; exact Nat.ne_of_lt (blk_lt (g := gb132) (o := .cells #[.int .i64 0, .slice none 0 0, .int .i64 0, .int .i64 0, .slice none 0 0] 47 (0, 0)) (kb_ BK132.out)) : gb132 ≠ gb144)); have n11_ := Aside0.mk ((by rw [hg]; exact Nat.ne_of_gt (blk_lt (g := gb132) (o := .cells #[.int .i64 0, .slice none 0 0, .int .i64 0, .int .i64 0, .slice none 0 0] 47 (0, 0)) (kb_ BK132.out)) : gb144 ≠ gb132)); clear HO138; clear HO143; clear BK131; clear BK132; clear HB; have HO138 := n0_; have HO143 := n1_; have BK131 := n2_; have BK132 := n3_; have HB := n4_; have BK144 := n5_; have GW144 := n6_; have GE144 := n7_; have NB131_144 := n8_; have NB144_131 := n9_; have NB132_144 := n10_; have NB144_132 := n11_; clear n0_ n1_ n2_ n3_ n4_ n5_ n6_ n7_ n8_ n9_ n10_ n11_; clear hb hbox hg; have hnb24 := NB144_131.out; have hnc24 := NB131_144.out; have hnb25 := NB144_132.out; have hnc25 := NB132_144.out; have hcz26_0 : w23.cell? ⟨gb144, 0, none⟩ = some (.int .i64 0) := (blk_cell BK144.out 0).trans rfl; have hcz26_1 : w23.cell? ⟨gb144, 1, none⟩ = some (.slice none 0 0) := (blk_cell BK144.out 1).trans rfl; have hcz26_2 : w23.cell? ⟨gb144, 2, none⟩ = some (.int .i64 0) := (blk_cell BK144.out 2).trans rfl; have hcz26_3 : w23.cell? ⟨gb144, 3, none⟩ = some (.int .i64 0) := (blk_cell BK144.out 3).trans rfl; have hcz26_4 : w23.cell? ⟨gb144, 4, none⟩ = some (.slice none 0 0) := (blk_cell BK144.out 4).trans rfl; have hfz26_0 := blk_frozen BK144.out 0; have hfz26_1 := blk_frozen BK144.out 1; have hfz26_2 := blk_frozen BK144.out 2; have hfz26_3 := blk_frozen BK144.out 3; have hfz26_4 := blk_frozen BK144.out 4; obtain ⟨Ao27, co27, eo27⟩ := Kd.R_slice HO138.out; subst eo27; obtain ⟨Ao28, co28, eo28⟩ := Kd.R_slice HO143.out; subst eo28) | ((with_reducible refine gate_callee (f := 58) rfl ?_); refine goesL_ (some 23) rfl rfl Try.func58 (by kernel_rfl) rfl #[.pointer (some ⟨gb144, 0, none⟩), .int .i64 a1] rfl ar_ ?_; (with_reducible refine (impl_Mouth_next.calls t135 Ao27 co27 t136 t139 t140 Ao28 co28 t141 a1 t145 t146 t147 _ ?side1 ?side2 ?side3 ?side4 A19.out ?hbx).mono ?_); (case side1 => refine (Kd.R_reads' (e := 5) (base := w.heap.size) (ok := fun k_ => True) (n := t136.length) (c := co27) ?_).2.2; exact (by refine kR_ ?_; exact (Kd.R_mono (Kd.R_f gb144 4 (.slice Ao28 t141.length co28) (Kd.R_f gb144 3 (.int .i64 t140) (Kd.R_f gb144 2 (.int .i64 t139) (Kd.R_f gb144 1 (.slice Ao27 t136.length co27) (Kd.R_f gb144 0 (.int .i64 t135) (Kd.R_types HO138.out BK144.out (by decide))))))) (fun _ h_ => op1_ h_)))); (case side2 => exact (Kd.R_reads' HO138.out).2.1); (case side3 => refine (Kd.R_reads' (e := 86) (base := w.heap.size) (ok := fun k_ => True) (n := t141.length) (c := co28) ?_).2.2; exact (by refine kR_ ?_; exact (Kd.R_mono (Kd.R_f gb144 4 (.slice Ao28 t141.length co28) (Kd.R_f gb144 3 (.int .i64 t140) (Kd.R_f gb144 2 (.int .i64 t139) (Kd.R_f gb144 1 (.slice Ao27 t136.length co27) (Kd.R_f gb144 0 (.int .i64 t135) (Kd.R_types HO143.out BK144.out (by decide))))))) (fun _ h_ => op1_ h_)))); (case side4 => exact (Kd.R_reads' HO143.out).2.1); (case hbx => exact (by refine kb_ ?_; refine blk_put (cs := #[.int .i64 t135, .slice Ao27 t136.length co27, .int .i64 t139, .int .i64 t140, .slice none 0 0]) ?_ 4 _ rfl; refine kb_ ?_; refine blk_put (cs := #[.int .i64 t135, .slice Ao27 t136.length co27, .int .i64 t139, .int .i64 0, .slice none 0 0]) ?_ 3 _ rfl; refine kb_ ?_; refine blk_put (cs := #[.int .i64 t135, .slice Ao27 t136.length co27, .int .i64 0, .int .i64 0, .slice none 0 0]) ?_ 2 _ rfl; refine kb_ ?_; refine blk_put (cs := #[.int .i64 t135, .slice none 0 0, .int .i64 0, .int .i64 0, .slice none 0 0]) ?_ 1 _ rfl; refine kb_ ?_; refine blk_put (cs := #[.int .i64 0, .slice none 0 0, .int .i64 0, .int .i64 0, .slice none 0 0]) ?_ 0 _ rfl; refine kb_ ?_; exact BK144.out)); rintro e w_ ⟨w29, v148, rfl, ho0, hb, rfl⟩; refine ⟨_, rfl, ?_⟩; have n0_ := Aside0.mk (Kd.R_elder' (by refine kR_ ?_; exact (Kd.R_mono (Kd.R_f gb144 4 (.slice Ao28 t141.length co28) (Kd.R_f gb144 3 (.int .i64 t140) (Kd.R_f gb144 2 (.int .i64 t139) (Kd.R_f gb144 1 (.slice Ao27 t136.length co27) (Kd.R_f gb144 0 (.int .i64 t135) (Kd.R_types HO138.out BK144.out (by decide))))))) (fun _ h_ => op1_ h_))) (Kd.R_base ho0) hb); have n1_ := Aside0.mk (Kd.R_below (by refine kR_ ?_; exact (Kd.R_mono (Kd.R_f gb144 4 (.slice Ao28 t141.length co28) (Kd.R_f gb144 3 (.int .i64 t140) (Kd.R_f gb144 2 (.int .i64 t139) (Kd.R_f gb144 1 (.slice Ao27 t136.length co27) (Kd.R_f gb144 0 (.int .i64 t135) (Kd.R_types HO143.out BK144.out (by decide))))))) (fun _ h_ => op1_ h_))) hb); have n2_ := Aside0.mk (Kd.R_lower (Kd.R_new' ho0 (Kd.R_lt (by refine kR_ ?_; exact (Kd.R_mono (Kd.R_f gb144 4 (.slice Ao28 t141.length co28) (Kd.R_f gb144 3 (.int .i64 t140) (Kd.R_f gb144 2 (.int .i64 t139) (Kd.R_f gb144 1 (.slice Ao27 t136.length co27) (Kd.R_f gb144 0 (.int .i64 t135) (Kd.R_types HO138.out BK144.out (by decide))))))) (fun _ h_ => op1_ h_))))) (below_size (hb3_ HB.out GE131.out GE132.out GE144.out))); have n3_ := Aside0.mk (blk_below (g := gb131) (o := .cells #[.int .i64 a0_0, .slice A0_1 l0_1.length c0_1, .int .i64 a0_2, .int .i64 a0_3, .slice A0_4 l0_4.length c0_4] 47 (0, 0)) (by refine kb_ ?_; refine blk_far ?_ NB131_144.out _; refine kb_ ?_; refine blk_far ?_ NB131_144.out _; refine kb_ ?_; refine blk_far ?_ NB131_144.out _; refine kb_ ?_; refine blk_far ?_ NB131_144.out _; refine kb_ ?_; refine blk_far ?_ NB131_144.out _; refine kb_ ?_; exact BK131.out) hb); have n4_ := Aside0.mk (blk_below (g := gb132) (o := .cells #[.int .i64 0, .slice none 0 0, .int .i64 0, .int .i64 0, .slice none 0 0] 47 (0, 0)) (by refine kb_ ?_; refine blk_far ?_ NB132_144.out _; refine kb_ ?_; refine blk_far ?_ NB132_144.out _; refine kb_ ?_; refine blk_far ?_ NB132_144.out _; refine kb_ ?_; refine blk_far ?_ NB132_144.out _; refine kb_ ?_; refine blk_far ?_ NB132_144.out _; refine kb_ ?_; exact BK132.out) hb); have n5_ := Aside0.mk (blk_below (g := gb144) (o := .cells #[.int .i64 t135, .slice Ao27 t136.length co27, .int .i64 t139, .int .i64 t140, .slice Ao28 t141.length co28] 47 (0, 0)) (by refine kb_ ?_; refine blk_put (cs := #[.int .i64 t135, .slice Ao27 t136.length co27, .int .i64 t139, .int .i64 t140, .slice none 0 0]) ?_ 4 _ rfl; refine kb_ ?_; refine blk_put (cs := #[.int .i64 t135, .slice Ao27 t136.length co27, .int .i64 t139, .int .i64 0, .slice none 0 0]) ?_ 3 _ rfl; refine kb_ ?_; refine blk_put (cs := #[.int .i64 t135, .slice Ao27 t136.length co27, .int .i64 0, .int .i64 0, .slice none 0 0]) ?_ 2 _ rfl; refine kb_ ?_; refine blk_put (cs := #[.int .i64 t135, .slice none 0 0, .int .i64 0, .int .i64 0, .slice none 0 0]) ?_ 1 _ rfl; refine kb_ ?_; refine blk_put (cs := #[.int .i64 0, .slice none 0 0, .int .i64 0, .int .i64 0, .slice none 0 0]) ?_ 0 _ rfl; refine kb_ ?_; exact BK144.out) hb); have n6_ := Aside0.mk (below_step (hb3_ HB.out GE131.out GE132.out GE144.out) hb); clear HO138; clear HO143; clear BK131; clear BK132; clear BK144; clear HB; have HO138 := n0_; have HO143 := n1_; have HO149 := n2_; have BK131 := n3_; have BK132 := n4_; have BK144 := n5_; have HB := n6_; clear n0_ n1_ n2_ n3_ n4_ n5_ n6_; (try clear hb); (try clear hb2); (try clear hk); (try clear hi); (try clear ho0); have hcz30_0 : w29.cell? ⟨gb144, 0, none⟩ = some (.int .i64 t135) := (blk_cell BK144.out 0).trans rfl; have hcz30_1 : w29.cell? ⟨gb144, 1, none⟩ = some (.slice Ao27 t136.length co27) := (blk_cell BK144.out 1).trans rfl; have hcz30_2 : w29.cell? ⟨gb144, 2, none⟩ = some (.int .i64 t139) := (blk_cell BK144.out 2).trans rfl; have hcz30_3 : w29.cell? ⟨gb144, 3, none⟩ = some (.int .i64 t140) := (blk_cell BK144.out 3).trans rfl; have hcz30_4 : w29.cell? ⟨gb144, 4, none⟩ = some (.slice Ao28 t141.length co28) := (blk_cell BK144.out 4).trans rfl; have hfz30_0 := blk_frozen BK144.out 0; have hfz30_1 := blk_frozen BK144.out 1; have hfz30_2 := blk_frozen BK144.out 2; have hfz30_3 := blk_frozen BK144.out 3; have hfz30_4 := blk_frozen BK144.out 4; have hcz31_0 : w29.cell? ⟨gb132, 0, none⟩ = some (.int .i64 0) := (blk_cell BK132.out 0).trans rfl; have hcz31_1 : w29.cell? ⟨gb132, 1, none⟩ = some (.slice none 0 0) := (blk_cell BK132.out 1).trans rfl; have hcz31_2 : w29.cell? ⟨gb132, 2, none⟩ = some (.int .i64 0) := (blk_cell BK132.out 2).trans rfl; have hcz31_3 : w29.cell? ⟨gb132, 3, none⟩ = some (.int .i64 0) := (blk_cell BK132.out 3).trans rfl; have hcz31_4 : w29.cell? ⟨gb132, 4, none⟩ = some (.slice none 0 0) := (blk_cell BK132.out 4).trans rfl; have hfz31_0 := blk_frozen BK132.out 0; have hfz31_1 := blk_frozen BK132.out 1; have hfz31_2 := blk_frozen BK132.out 2; have hfz31_3 := blk_frozen BK132.out 3; have hfz31_4 := blk_frozen BK132.out 4))
    refine bodyPost_ret (results_ctt rfl _ _ gb132 47 #[.int .i64 t135, .slice Ao27 t136.length co27, .int .i64 t147, .int .i64 t140, .slice Ao28 t141.length co28] (0, 0) _ rfl (by refine kb_ ?_; refine blk_put (cs := #[.int .i64 t135, .slice Ao27 t136.length co27, .int .i64 t147, .int .i64 t140, .slice none 0 0]) ?_ 4 _ rfl; refine kb_ ?_; refine blk_put (cs := #[.int .i64 t135, .slice Ao27 t136.length co27, .int .i64 t147, .int .i64 0, .slice none 0 0]) ?_ 3 _ rfl; refine kb_ ?_; refine blk_put (cs := #[.int .i64 t135, .slice Ao27 t136.length co27, .int .i64 0, .int .i64 0, .slice none 0 0]) ?_ 2 _ rfl; refine kb_ ?_; refine blk_put (cs := #[.int .i64 t135, .slice none 0 0, .int .i64 0, .int .i64 0, .slice none 0 0]) ?_ 1 _ rfl; refine kb_ ?_; refine blk_put (cs := #[.int .i64 0, .slice none 0 0, .int .i64 0, .int .i64 0, .slice none 0 0]) ?_ 0 _ rfl; refine kb_ ?_; refine blk_far ?_ NB132_144.out _; refine kb_ ?_; exact BK132.out) Try.underlying47 rfl (by kernel_rfl)) rfl ?_
    exact ⟨_, _, _, by first | rfl | (simp [errW_none, errW_some] <;> rfl) | (simp [*, errW_none, errW_some] <;> rfl), by refine kR_ ?_; exact Kd.R_mono (Kd.R_f gb132 4 (.slice Ao28 t141.length co28) (Kd.R_f gb132 3 (.int .i64 t140) (Kd.R_f gb132 2 (.int .i64 t147) (Kd.R_f gb132 1 (.slice Ao27 t136.length co27) (Kd.R_f gb132 0 (.int .i64 t135) (Kd.R_far (p := ⟨gb144, 2, none⟩) (Kd.R_types (Kd.R_types HO138.out BK144.out (by decide)) BK132.out (by decide)) (fun _ hk => hk.1.2) (.int .i64 t147))))))) (fun _ hk => hk.1.1.2), by refine kR_ ?_; exact Kd.R_mono (Kd.R_f gb132 4 (.slice Ao28 t141.length co28) (Kd.R_f gb132 3 (.int .i64 t140) (Kd.R_f gb132 2 (.int .i64 t147) (Kd.R_f gb132 1 (.slice Ao27 t136.length co27) (Kd.R_f gb132 0 (.int .i64 t135) (Kd.R_far (p := ⟨gb144, 2, none⟩) (Kd.R_types (Kd.R_types HO143.out BK144.out (by decide)) BK132.out (by decide)) (fun _ hk => hk.1.2) (.int .i64 t147))))))) (fun _ hk => trivial), by refine kR_ ?_; exact Kd.R_mono (Kd.R_f gb132 4 (.slice Ao28 t141.length co28) (Kd.R_f gb132 3 (.int .i64 t140) (Kd.R_f gb132 2 (.int .i64 t147) (Kd.R_f gb132 1 (.slice Ao27 t136.length co27) (Kd.R_f gb132 0 (.int .i64 t135) (Kd.R_far (p := ⟨gb144, 2, none⟩) (Kd.R_types (Kd.R_types HO149.out BK144.out (by decide)) BK132.out (by decide)) (fun _ hk => hk.1.2) (.int .i64 t147))))))) (fun _ hk => hk.1.1.2), by repeat (first | (with_reducible first | exact HB.out | apply below_alloc | apply pw_below_drewN | apply below_drew1 | refine below_set ?_ GE131.out | refine below_set ?_ GE132.out | refine below_set ?_ GE144.out) | exact HB.out)⟩

/-! ### spec_l1In: function 60 -/
def spec_l1In.f (a0 : Int) (a1 : Int) (a2 : Int) : Option (Bool) := if a0 ≥ a1 then (some (decide (a0 ≤ a2))) else (some false)
set_option maxHeartbeats 8000000 in
set_option maxRecDepth 100000 in
theorem spec_l1In.calls (a0 : Int) (a1 : Int) (a2 : Int) (r : Bool) (w : World) (h : spec_l1In.f a0 a1 a2 = some r) :
  Calls Try.prog 60 #[.int .i64 a0, .int .i64 a1, .int .i64 a2] w fun e w' => e = .returned (.bool r) ∧ Drawn0 w w' := by
 have H : (if a0 ≥ a1 then (some (decide (a0 ≤ a2))) else (some false)) = some r := h
 clear h
 by_cases c4 : a0 ≥ a1
 ·rw [if_pos c4] at H
  have c4b0 : decide (a1 ≤ a0) = true := decide_eq_true c4
  clear c4
  obtain rfl := Option.some.inj H
  go_enter Try.func60, Try.ntmps60
  go_wp2
  go_ret
  exact ⟨by first | rfl | (simp; done) | (simp [*]; done), by repeat (first | exact Drawn0.refl _ | apply Drawn0.step)⟩
 ·rw [if_neg c4] at H
  have c4b0 : decide (a1 ≤ a0) = false := decide_eq_false c4
  clear c4
  obtain rfl := Option.some.inj H
  go_enter Try.func60, Try.ntmps60
  go_wp2
  go_ret
  exact ⟨by first | rfl | (simp; done) | (simp [*]; done), by repeat (first | exact Drawn0.refl _ | apply Drawn0.step)⟩

end Go.Proofs.Ytjiodkbbmhhccaa.PFnExactMouthNext
