/- Printed by wip/xp/xprint.sh out of the translation, for this claim: what each function answers, as a plain function, and that the machine does just that. No condition. -/
import Derived.Test.YtjiodkbbmhhccabPFnExactMouthWritex0
import Derived.Test.YtjiodkbbmhhccabPFnExactMouthWritex5
namespace Go.Proofs.Ytjiodkbbmhhccab.PFnExactMouthWrite
open Go.RowKit Go.Proofs.YtjiodkbbmhhccabW.PrintWords Go.Proofs.YtjiodkbbmhhccabW.PrintLast Go.Proofs.YtjiodkbbmhhccabW.PrintMore
attribute [local go_sem] max2_int min2_int max_two min_two max_three min_three max_four min_four   -- for this text's walks alone
set_option linter.unusedVariables false
set_option linter.unusedSimpArgs false

/-! ### spec_l13Copy: function 34 -/
def spec_l13Copy.f (a0_0 : Int) (l0_1 : List Int) (a0_2 : Int) (a0_3 : Int) (l0_4 : List (S60)) : Option (Int × List Int × Int × Int × (List (S60))) := (some (([] : List Int) : List Int)).bind fun y169 => (if y169.length + l0_1.length < 140737488355328 then ((some (([] : List (S60)) : List (S60))).bind fun y175 => (if y175.length + l0_4.length < 8796093022208 then (some (a0_0, (y169 ++ l0_1), a0_2, a0_3, (y175 ++ l0_4))) else (none))) else (none))
set_option maxHeartbeats 8000000 in
set_option maxRecDepth 100000 in
theorem spec_l13Copy.calls (a0_0 : Int) (A0_1 : Option Addr) (c0_1 : Nat) (l0_1 : List Int) (a0_2 : Int) (a0_3 : Int) (A0_4 : Option Addr) (c0_4 : Nat) (l0_4 : List (S60)) (r1 : Int) (r2 : List Int) (r3 : Int) (r4 : Int) (r5 : List (S60)) (w : World) (hr0_1 : Kd.C (Kd.int .u8) w A0_1 l0_1.length l0_1) (hc0_1 : l0_1.length ≤ c0_1) (hr0_4 : Kd.C k60 w A0_4 l0_4.length l0_4) (hc0_4 : l0_4.length ≤ c0_4) (h : spec_l13Copy.f a0_0 l0_1 a0_2 a0_3 l0_4 = some (r1, r2, r3, r4, r5)) :
    Calls Try.prog 34 #[.agg #[.int .i64 a0_0, .slice A0_1 l0_1.length c0_1, .int .i64 a0_2, .int .i64 a0_3, .slice A0_4 l0_4.length c0_4]] w fun e w' => ∃ v1_ v4_ : Value, e = .returned (.agg #[.int .i64 r1, v1_, .int .i64 r3, .int .i64 r4, v4_]) ∧ Kd.R (Kd.int .u8) 5 w' w.heap.size (fun _ => True) v1_ r2 ∧ Kd.R k60 60 w' w.heap.size (fun _ => True) v4_ r5 ∧ Below w.heap.size w w' := by
  have hu25 := Try.underlying25
  have HR0_1 := Aside0.mk hr0_1
  have HC0_1 := Aside0.mk hc0_1
  clear hr0_1 hc0_1
  have HR0_4 := Aside0.mk hr0_4
  have HC0_4 := Aside0.mk hc0_4
  clear hr0_4 hc0_4
  have HB := Aside0.mk (Below.refl w.heap.size w)
  have H : ((some (([] : List Int) : List Int)).bind fun y169 => (if y169.length + l0_1.length < 140737488355328 then ((some (([] : List (S60)) : List (S60))).bind fun y175 => (if y175.length + l0_4.length < 8796093022208 then (some (a0_0, (y169 ++ l0_1), a0_2, a0_3, (y175 ++ l0_4))) else (none))) else (none))) = some (r1, r2, r3, r4, r5) := h
  clear h
  obtain ⟨y169, hy169⟩ : ∃ y_ : List Int, y_ = (([] : List Int)) := ⟨_, rfl⟩
  replace H : (if y169.length + l0_1.length < 140737488355328 then ((some (([] : List (S60)) : List (S60))).bind fun y175 => (if y175.length + l0_4.length < 8796093022208 then (some (a0_0, (y169 ++ l0_1), a0_2, a0_3, (y175 ++ l0_4))) else (none))) else (none)) = some (r1, r2, r3, r4, r5) := by first | (rw [hy169]; with_reducible exact H) | (have H2_ := (Option.bind_some _ _).symm.trans H; rw [hy169]; with_reducible exact H2_) | (have H2_ := (Option.bind_some _ _).symm.trans H; with_reducible exact H2_) | with_reducible exact H | (rw [hy169]; exact H) | exact H
  have Ny169 := Aside0.mk hy169
  clear hy169
  by_cases c2 : y169.length + l0_1.length < 140737488355328
  · rw [if_pos c2] at H
    have LMc2 := Aside0.mk c2
    clear c2
    obtain ⟨y172, hy172⟩ : ∃ y_ : List Int, y_ = (y169 ++ l0_1) := ⟨_, rfl⟩
    replace H : ((some (([] : List (S60)) : List (S60))).bind fun y175 => (if y175.length + l0_4.length < 8796093022208 then (some (a0_0, y172, a0_2, a0_3, (y175 ++ l0_4))) else (none))) = some (r1, r2, r3, r4, r5) := by first | (rw [hy172]; with_reducible exact H) | (have H2_ := (Option.bind_some _ _).symm.trans H; rw [hy172]; with_reducible exact H2_) | (have H2_ := (Option.bind_some _ _).symm.trans H; with_reducible exact H2_) | with_reducible exact H | (rw [hy172]; exact H) | exact H
    have Ny172 := Aside0.mk hy172
    clear hy172
    obtain ⟨y175, hy175⟩ : ∃ y_ : List (S60), y_ = (([] : List (S60))) := ⟨_, rfl⟩
    replace H : (if y175.length + l0_4.length < 8796093022208 then (some (a0_0, y172, a0_2, a0_3, (y175 ++ l0_4))) else (none)) = some (r1, r2, r3, r4, r5) := by first | (rw [hy175]; with_reducible exact H) | (have H2_ := (Option.bind_some _ _).symm.trans H; rw [hy175]; with_reducible exact H2_) | (have H2_ := (Option.bind_some _ _).symm.trans H; with_reducible exact H2_) | with_reducible exact H | (rw [hy175]; exact H) | exact H
    have Ny175 := Aside0.mk hy175
    clear hy175
    by_cases c3 : y175.length + l0_4.length < 8796093022208
    · rw [if_pos c3] at H
      have LMc3 := Aside0.mk c3
      clear c3
      obtain ⟨y178, hy178⟩ : ∃ y_ : List (S60), y_ = (y175 ++ l0_4) := ⟨_, rfl⟩
      replace H : (some (a0_0, y172, a0_2, a0_3, y178)) = some (r1, r2, r3, r4, r5) := by first | (rw [hy178]; with_reducible exact H) | (have H2_ := (Option.bind_some _ _).symm.trans H; rw [hy178]; with_reducible exact H2_) | (have H2_ := (Option.bind_some _ _).symm.trans H; with_reducible exact H2_) | with_reducible exact H | (rw [hy178]; exact H) | exact H
      have Ny178 := Aside0.mk hy178
      clear hy178
      simp only [Option.some.injEq, Prod.mk.injEq] at H
      obtain ⟨rfl, rfl, rfl, rfl, rfl⟩ := H
      go_enter Try.func34, Try.ntmps34
      go_wp2_with (first | ((with_reducible refine gate_dst (N := 1) rfl ?_); refine box_event ?hg (N := 1) ?hd (cs := #[.int .i64 a0_0, .slice A0_1 l0_1.length c0_1, .int .i64 a0_2, .int .i64 a0_3, .slice A0_4 l0_4.length c0_4]) (t := 25) ?hr ?_; (case hd => rfl); (case hg => rfl); (case hr => first | (go_simp; done) | (go_simp; rfl)); intro gb166 hg w4 hbox hb; have n0_ := Aside0.mk (below_step (hb0_ HB.out) hb); have n1_ := Aside0.mk (hbox); have n2_ := Aside0.mk ((by rw [hg]; exact (below_size (hb0_ HB.out)) : w.heap.size ≤ gb166)); have n3_ := Aside0.mk ((by rw [hg]; exact (below_size (hb0_ HB.out)) : w.heap.size ≤ gb166)); clear HB; have HB := n0_; have BK166 := n1_; have GW166 := n2_; have GE166 := n3_; clear n0_ n1_ n2_ n3_; clear hb hbox hg) | ((with_reducible refine gate_dst (N := 2) rfl ?_); refine box_event ?hg (N := 2) ?hd (cs := #[.int .i64 0, .slice none 0 0, .int .i64 0, .int .i64 0, .slice none 0 0]) (t := 25) ?hr ?_; (case hd => rfl); (case hg => rfl); (case hr => first | (go_simp; done) | (go_simp; rfl)); intro gb167 hg w5 hbox hb; have n0_ := Aside0.mk (blk_below (g := gb166) (o := .cells #[.int .i64 a0_0, .slice A0_1 l0_1.length c0_1, .int .i64 a0_2, .int .i64 a0_3, .slice A0_4 l0_4.length c0_4] 25 (0, 0)) (kb_ BK166.out) hb); have n1_ := Aside0.mk (below_step (hb1_ HB.out GE166.out) hb); have n2_ := Aside0.mk (hbox); have n3_ := Aside0.mk ((by rw [hg]; exact (below_size (hb1_ HB.out GE166.out)) : w.heap.size ≤ gb167)); have n4_ := Aside0.mk ((by rw [hg]; exact (below_size (hb1_ HB.out GE166.out)) : w.heap.size ≤ gb167)); have n5_ := Aside0.mk ((by rw [hg]; exact Nat.ne_of_lt (blk_lt (g := gb166) (o := .cells #[.int .i64 a0_0, .slice A0_1 l0_1.length c0_1, .int .i64 a0_2, .int .i64 a0_3, .slice A0_4 l0_4.length c0_4] 25 (0, 0)) (kb_ BK166.out)) : gb166 ≠ gb167)); have n6_ := Aside0.mk ((by rw [hg]; exact Nat.ne_of_gt (blk_lt (g := gb166) (o := .cells #[.int .i64 a0_0, .slice A0_1 l0_1.length c0_1, .int .i64 a0_2, .int .i64 a0_3, .slice A0_4 l0_4.length c0_4] 25 (0, 0)) (kb_ BK166.out)) : gb167 ≠ gb166)); clear BK166; clear HB; have BK166 := n0_; have HB := n1_; have BK167 := n2_; have GW167 := n3_; have GE167 := n4_; have NB166_167 := n5_; have NB167_166 := n6_; clear n0_ n1_ n2_ n3_ n4_ n5_ n6_; clear hb hbox hg; have hnb6 := NB166_167.out; have hnc6 := NB167_166.out; have hcz7_0 : w5.cell? ⟨gb166, 0, none⟩ = some (.int .i64 a0_0) := (blk_cell BK166.out 0).trans rfl; have hcz7_1 : w5.cell? ⟨gb166, 1, none⟩ = some (.slice A0_1 l0_1.length c0_1) := (blk_cell BK166.out 1).trans rfl; have hcz7_2 : w5.cell? ⟨gb166, 2, none⟩ = some (.int .i64 a0_2) := (blk_cell BK166.out 2).trans rfl; have hcz7_3 : w5.cell? ⟨gb166, 3, none⟩ = some (.int .i64 a0_3) := (blk_cell BK166.out 3).trans rfl; have hcz7_4 : w5.cell? ⟨gb166, 4, none⟩ = some (.slice A0_4 l0_4.length c0_4) := (blk_cell BK166.out 4).trans rfl; have hfz7_0 := blk_frozen BK166.out 0; have hfz7_1 := blk_frozen BK166.out 1; have hfz7_2 := blk_frozen BK166.out 2; have hfz7_3 := blk_frozen BK166.out 3; have hfz7_4 := blk_frozen BK166.out 4) | ((with_reducible refine gate_dst (N := 3) rfl ?_); refine box_event ?hg (N := 3) ?hd (cs := #[.int .i64 0, .slice none 0 0, .int .i64 0, .int .i64 0, .slice none 0 0]) (t := 25) ?hr ?_; (case hd => rfl); (case hg => rfl); (case hr => first | (go_simp; done) | (go_simp; rfl)); intro gb168 hg w8 hbox hb; have n0_ := Aside0.mk (blk_below (g := gb166) (o := .cells #[.int .i64 a0_0, .slice A0_1 l0_1.length c0_1, .int .i64 a0_2, .int .i64 a0_3, .slice A0_4 l0_4.length c0_4] 25 (0, 0)) (kb_ BK166.out) hb); have n1_ := Aside0.mk (blk_below (g := gb167) (o := .cells #[.int .i64 0, .slice none 0 0, .int .i64 0, .int .i64 0, .slice none 0 0] 25 (0, 0)) (kb_ BK167.out) hb); have n2_ := Aside0.mk (below_step (hb2_ HB.out GE166.out GE167.out) hb); have n3_ := Aside0.mk (hbox); have n4_ := Aside0.mk ((by rw [hg]; exact (below_size (hb2_ HB.out GE166.out GE167.out)) : w.heap.size ≤ gb168)); have n5_ := Aside0.mk ((by rw [hg]; exact (below_size (hb2_ HB.out GE166.out GE167.out)) : w.heap.size ≤ gb168)); have n6_ := Aside0.mk ((by rw [hg]; exact Nat.ne_of_lt (blk_lt (g := gb166) (o := .cells #[.int .i64 a0_0, .slice A0_1 l0_1.length c0_1, .int .i64 a0_2, .int .i64 a0_3, .slice A0_4 l0_4.length c0_4] 25 (0, 0)) (kb_ BK166.out)) : gb166 ≠ gb168)); have n7_ := Aside0.mk ((by rw [hg]; exact Nat.ne_of_gt (blk_lt (g := gb166) (o := .cells #[.int .i64 a0_0, .slice A0_1 l0_1.length c0_1, .int .i64 a0_2, .int .i64 a0_3, .slice A0_4 l0_4.length c0_4] 25 (0, 0)) (kb_ BK166.out)) : gb168 ≠ gb166)); have n8_ := Aside0.mk ((by rw [hg]; exact Nat.ne_of_lt (blk_lt (g := gb167) (o := .cells #[.int .i64 0, .slice none 0 0, .int .i64 0, .int .i64 0, .slice none 0 0] 25 (0, 0)) (kb_ BK167.out)) : gb167 ≠ gb168)); have n9_ := Aside0.mk ((by rw [hg]; exact Nat.ne_of_gt (blk_lt (g := gb167) (o := .cells #[.int .i64 0, .slice none 0 0, .int .i64 0, .int .i64 0, .slice none 0 0] 25 (0, 0)) (kb_ BK167.out)) : gb168 ≠ gb167)); clear BK166; clear BK167; clear HB; have BK166 := n0_; have BK167 := n1_; have HB := n2_; have BK168 := n3_; have GW168 := n4_; have GE168 := n5_; have NB166_168 := n6_; have NB168_166 := n7_; have NB167_168 := n8_; have NB168_167 := n9_; clear n0_ n1_ n2_ n3_ n4_ n5_ n6_ n7_ n8_ n9_; clear hb hbox hg; have hnb9 := NB168_166.out; have hnc9 := NB166_168.out; have hnb10 := NB168_167.out; have hnc10 := NB167_168.out; have hcz11_0 : w8.cell? ⟨gb168, 0, none⟩ = some (.int .i64 0) := (blk_cell BK168.out 0).trans rfl; have hcz11_1 : w8.cell? ⟨gb168, 1, none⟩ = some (.slice none 0 0) := (blk_cell BK168.out 1).trans rfl; have hcz11_2 : w8.cell? ⟨gb168, 2, none⟩ = some (.int .i64 0) := (blk_cell BK168.out 2).trans rfl; have hcz11_3 : w8.cell? ⟨gb168, 3, none⟩ = some (.int .i64 0) := (blk_cell BK168.out 3).trans rfl; have hcz11_4 : w8.cell? ⟨gb168, 4, none⟩ = some (.slice none 0 0) := (blk_cell BK168.out 4).trans rfl; have hfz11_0 := blk_frozen BK168.out 0; have hfz11_1 := blk_frozen BK168.out 1; have hfz11_2 := blk_frozen BK168.out 2; have hfz11_3 := blk_frozen BK168.out 3; have hfz11_4 := blk_frozen BK168.out 4) | ((with_reducible refine gate_dst (N := 5) rfl ?_); refine Kd.R_lit (Kd.int .u8) _ 5 ?hg (N := 5) ?hd (xs := ([] : List Int)) (inner := []) (ok := fun _ => True) (okp := fun _ => True) ?hr ?hp (fun _ hk => hk) trivial (Below.refl _ _) (Nat.le_refl _) (by simp) ?_; (case hd => rfl); (case hg => rfl); (case hr => first | (go_simp; done) | (go_simp; rfl)); (case hp => exact (Reps.none _ _)); intro v170 w12 ho13 hb hg_ hnew_; clear hg_ hnew_; (first | rw [← Ny169.out] at ho13 | (simp only [Int.reduceToNat] at ho13; rw [← Ny169.out] at ho13)); have n0_ := Aside0.mk (Kd.R_lower ho13 (below_size (hb3_ HB.out GE166.out GE167.out GE168.out))); have n1_ := Aside0.mk (blk_below (g := gb166) (o := .cells #[.int .i64 a0_0, .slice A0_1 l0_1.length c0_1, .int .i64 a0_2, .int .i64 a0_3, .slice A0_4 l0_4.length c0_4] 25 (0, 0)) (by refine kb_ ?_; refine blk_far ?_ NB166_168.out _; refine kb_ ?_; refine blk_far ?_ NB166_168.out _; refine kb_ ?_; refine blk_far ?_ NB166_168.out _; refine kb_ ?_; refine blk_far ?_ NB166_168.out _; refine kb_ ?_; refine blk_far ?_ NB166_168.out _; refine kb_ ?_; exact BK166.out) hb); have n2_ := Aside0.mk (blk_below (g := gb167) (o := .cells #[.int .i64 0, .slice none 0 0, .int .i64 0, .int .i64 0, .slice none 0 0] 25 (0, 0)) (by refine kb_ ?_; refine blk_far ?_ NB167_168.out _; refine kb_ ?_; refine blk_far ?_ NB167_168.out _; refine kb_ ?_; refine blk_far ?_ NB167_168.out _; refine kb_ ?_; refine blk_far ?_ NB167_168.out _; refine kb_ ?_; refine blk_far ?_ NB167_168.out _; refine kb_ ?_; exact BK167.out) hb); have n3_ := Aside0.mk (blk_below (g := gb168) (o := .cells #[.int .i64 a0_0, .slice A0_1 l0_1.length c0_1, .int .i64 a0_2, .int .i64 a0_3, .slice A0_4 l0_4.length c0_4] 25 (0, 0)) (by refine kb_ ?_; refine blk_put (cs := #[.int .i64 a0_0, .slice A0_1 l0_1.length c0_1, .int .i64 a0_2, .int .i64 a0_3, .slice none 0 0]) ?_ 4 _ rfl; refine kb_ ?_; refine blk_put (cs := #[.int .i64 a0_0, .slice A0_1 l0_1.length c0_1, .int .i64 a0_2, .int .i64 0, .slice none 0 0]) ?_ 3 _ rfl; refine kb_ ?_; refine blk_put (cs := #[.int .i64 a0_0, .slice A0_1 l0_1.length c0_1, .int .i64 0, .int .i64 0, .slice none 0 0]) ?_ 2 _ rfl; refine kb_ ?_; refine blk_put (cs := #[.int .i64 a0_0, .slice none 0 0, .int .i64 0, .int .i64 0, .slice none 0 0]) ?_ 1 _ rfl; refine kb_ ?_; refine blk_put (cs := #[.int .i64 0, .slice none 0 0, .int .i64 0, .int .i64 0, .slice none 0 0]) ?_ 0 _ rfl; refine kb_ ?_; exact BK168.out) hb); have n4_ := Aside0.mk (below_step (hb3_ HB.out GE166.out GE167.out GE168.out) hb); clear BK166; clear BK167; clear BK168; clear HB; have HO171 := n0_; have BK166 := n1_; have BK167 := n2_; have BK168 := n3_; have HB := n4_; clear n0_ n1_ n2_ n3_ n4_; clear hb ho13; have hcz14_0 : w12.cell? ⟨gb166, 0, none⟩ = some (.int .i64 a0_0) := (blk_cell BK166.out 0).trans rfl; have hcz14_1 : w12.cell? ⟨gb166, 1, none⟩ = some (.slice A0_1 l0_1.length c0_1) := (blk_cell BK166.out 1).trans rfl; have hcz14_2 : w12.cell? ⟨gb166, 2, none⟩ = some (.int .i64 a0_2) := (blk_cell BK166.out 2).trans rfl; have hcz14_3 : w12.cell? ⟨gb166, 3, none⟩ = some (.int .i64 a0_3) := (blk_cell BK166.out 3).trans rfl; have hcz14_4 : w12.cell? ⟨gb166, 4, none⟩ = some (.slice A0_4 l0_4.length c0_4) := (blk_cell BK166.out 4).trans rfl; have hfz14_0 := blk_frozen BK166.out 0; have hfz14_1 := blk_frozen BK166.out 1; have hfz14_2 := blk_frozen BK166.out 2; have hfz14_3 := blk_frozen BK166.out 3; have hfz14_4 := blk_frozen BK166.out 4) | ((with_reducible refine gate_builtin (b := .append) (xs := #[.tmp 5, .tmp 7]) rfl ?_); at_builtin; refine Kd.R_append_rows (Kd.int .u8) (w0 := w) w.heap.size rfl (.tmp 5) (.tmp 7) 22 5 (.int .u8 0) 1 rfl Try.underlying22 info5 rfl (by decide) (by omega) v170 y169 l0_1 _ _ _ (fun _ => True) (fun _ => False) rfl rfl ?aO ?aR (fun _ _ h => h) (fun _ h => h.elim) ?aF ?aB ?aS ?aL ?_; (case aR => exact kC_ (Kd.C_below HR0_1.out HB.out)); (case aB => exact (hb3_ HB.out GE166.out GE167.out GE168.out)); (case aF => exact (fun _ _ => trivial)); (case aO => exact (kR_ HO171.out)); (case aS => exact (below_size (hb3_ HB.out GE166.out GE167.out GE168.out))); (case aL => have := LMc2.out; omega); intro v173 w15 ho hb hg hat; rw [← Ny172.out] at ho; have n0_ := Aside0.mk (blk_grown (g := gb166) (o := .cells #[.int .i64 a0_0, .slice A0_1 l0_1.length c0_1, .int .i64 a0_2, .int .i64 a0_3, .slice A0_4 l0_4.length c0_4] 25 (0, 0)) (kb_ BK166.out) hg (Kd.R_ne HO171.out BK166.out (by decide))); have n1_ := Aside0.mk (blk_grown (g := gb167) (o := .cells #[.int .i64 0, .slice none 0 0, .int .i64 0, .int .i64 0, .slice none 0 0] 25 (0, 0)) (kb_ BK167.out) hg (Kd.R_ne HO171.out BK167.out (by decide))); have n2_ := Aside0.mk (blk_grown (g := gb168) (o := .cells #[.int .i64 a0_0, .slice A0_1 l0_1.length c0_1, .int .i64 a0_2, .int .i64 a0_3, .slice A0_4 l0_4.length c0_4] 25 (0, 0)) (kb_ BK168.out) hg (Kd.R_ne HO171.out BK168.out (by decide))); have n3_ := Aside0.mk (hb); have n4_ := Aside0.mk (ho); clear BK166; clear BK167; clear BK168; clear HB; clear HO171; have BK166 := n0_; have BK167 := n1_; have BK168 := n2_; have HB := n3_; have HO174 := n4_; clear n0_ n1_ n2_ n3_ n4_; clear ho hb hg hat; obtain ⟨Ao16, co16, eo16⟩ := Kd.R_slice HO174.out; subst eo16; have hcz17_0 : w15.cell? ⟨gb168, 0, none⟩ = some (.int .i64 a0_0) := (blk_cell BK168.out 0).trans rfl; have hcz17_1 : w15.cell? ⟨gb168, 1, none⟩ = some (.slice A0_1 l0_1.length c0_1) := (blk_cell BK168.out 1).trans rfl; have hcz17_2 : w15.cell? ⟨gb168, 2, none⟩ = some (.int .i64 a0_2) := (blk_cell BK168.out 2).trans rfl; have hcz17_3 : w15.cell? ⟨gb168, 3, none⟩ = some (.int .i64 a0_3) := (blk_cell BK168.out 3).trans rfl; have hcz17_4 : w15.cell? ⟨gb168, 4, none⟩ = some (.slice A0_4 l0_4.length c0_4) := (blk_cell BK168.out 4).trans rfl; have hfz17_0 := blk_frozen BK168.out 0; have hfz17_1 := blk_frozen BK168.out 1; have hfz17_2 := blk_frozen BK168.out 2; have hfz17_3 := blk_frozen BK168.out 3; have hfz17_4 := blk_frozen BK168.out 4) | ((with_reducible refine gate_dst (N := 10) rfl ?_); refine Kd.R_lit k60 _ 60 ?hg (N := 10) ?hd (xs := ([] : List (S60))) (inner := []) (ok := fun _ => True) (okp := fun _ => True) ?hr ?hp (fun _ hk => hk) trivial (Below.refl _ _) (Nat.le_refl _) (by simp) ?_; (case hd => rfl); (case hg => rfl); (case hr => first | (go_simp; done) | (go_simp; rfl)); (case hp => exact (Reps.none _ _)); intro v176 w18 ho19 hb hg_ hnew_; clear hg_ hnew_; (first | rw [← Ny175.out] at ho19 | (simp only [Int.reduceToNat] at ho19; rw [← Ny175.out] at ho19)); have n0_ := Aside0.mk (Kd.R_below (by refine kR_ ?_; exact (Kd.R_mono (Kd.R_f gb168 1 (.slice Ao16 y172.length co16) (Kd.R_types HO174.out BK168.out (by decide))) (fun _ h_ => op1_ h_))) hb); have n1_ := Aside0.mk (Kd.R_lower ho19 (below_size (hb3_ HB.out GE166.out GE167.out GE168.out))); have n2_ := Aside0.mk (blk_below (g := gb166) (o := .cells #[.int .i64 a0_0, .slice A0_1 l0_1.length c0_1, .int .i64 a0_2, .int .i64 a0_3, .slice A0_4 l0_4.length c0_4] 25 (0, 0)) (by refine kb_ ?_; refine blk_far ?_ NB166_168.out _; refine kb_ ?_; exact BK166.out) hb); have n3_ := Aside0.mk (blk_below (g := gb167) (o := .cells #[.int .i64 0, .slice none 0 0, .int .i64 0, .int .i64 0, .slice none 0 0] 25 (0, 0)) (by refine kb_ ?_; refine blk_far ?_ NB167_168.out _; refine kb_ ?_; exact BK167.out) hb); have n4_ := Aside0.mk (blk_below (g := gb168) (o := .cells #[.int .i64 a0_0, .slice Ao16 y172.length co16, .int .i64 a0_2, .int .i64 a0_3, .slice A0_4 l0_4.length c0_4] 25 (0, 0)) (by refine kb_ ?_; refine blk_put (cs := #[.int .i64 a0_0, .slice A0_1 l0_1.length c0_1, .int .i64 a0_2, .int .i64 a0_3, .slice A0_4 l0_4.length c0_4]) ?_ 1 _ rfl; refine kb_ ?_; exact BK168.out) hb); have n5_ := Aside0.mk (below_step (hb3_ HB.out GE166.out GE167.out GE168.out) hb); clear HO174; clear BK166; clear BK167; clear BK168; clear HB; have HO174 := n0_; have HO177 := n1_; have BK166 := n2_; have BK167 := n3_; have BK168 := n4_; have HB := n5_; clear n0_ n1_ n2_ n3_ n4_ n5_; clear hb ho19; have hcz20_0 : w18.cell? ⟨gb166, 0, none⟩ = some (.int .i64 a0_0) := (blk_cell BK166.out 0).trans rfl; have hcz20_1 : w18.cell? ⟨gb166, 1, none⟩ = some (.slice A0_1 l0_1.length c0_1) := (blk_cell BK166.out 1).trans rfl; have hcz20_2 : w18.cell? ⟨gb166, 2, none⟩ = some (.int .i64 a0_2) := (blk_cell BK166.out 2).trans rfl; have hcz20_3 : w18.cell? ⟨gb166, 3, none⟩ = some (.int .i64 a0_3) := (blk_cell BK166.out 3).trans rfl; have hcz20_4 : w18.cell? ⟨gb166, 4, none⟩ = some (.slice A0_4 l0_4.length c0_4) := (blk_cell BK166.out 4).trans rfl; have hfz20_0 := blk_frozen BK166.out 0; have hfz20_1 := blk_frozen BK166.out 1; have hfz20_2 := blk_frozen BK166.out 2; have hfz20_3 := blk_frozen BK166.out 3; have hfz20_4 := blk_frozen BK166.out 4) | ((with_reducible refine gate_builtin (b := .append) (xs := #[.tmp 10, .tmp 12]) rfl ?_); at_builtin; refine Kd.R_append_rows k60 (w0 := w) w.heap.size rfl (.tmp 10) (.tmp 12) 23 60 (.agg #[(.int .i64 0), (.int .i64 0)]) 16 rfl Try.underlying23 info60 rfl (by decide) (by omega) v176 y175 l0_4 _ _ _ (fun _ => True) (fun _ => False) rfl rfl ?aO ?aR (fun _ _ h => h) (fun _ h => h.elim) ?aF ?aB ?aS ?aL ?_; (case aR => exact kC_ (Kd.C_below HR0_4.out HB.out)); (case aB => exact (hb3_ HB.out GE166.out GE167.out GE168.out)); (case aF => exact (fun _ _ => trivial)); (case aO => exact (kR_ HO177.out)); (case aS => exact (below_size (hb3_ HB.out GE166.out GE167.out GE168.out))); (case aL => have := LMc3.out; omega); intro v179 w21 ho hb hg hat; rw [← Ny178.out] at ho; have n0_ := Aside0.mk (blk_grown (g := gb166) (o := .cells #[.int .i64 a0_0, .slice A0_1 l0_1.length c0_1, .int .i64 a0_2, .int .i64 a0_3, .slice A0_4 l0_4.length c0_4] 25 (0, 0)) (kb_ BK166.out) hg (Kd.R_ne HO177.out BK166.out (by decide))); have n1_ := Aside0.mk (blk_grown (g := gb167) (o := .cells #[.int .i64 0, .slice none 0 0, .int .i64 0, .int .i64 0, .slice none 0 0] 25 (0, 0)) (kb_ BK167.out) hg (Kd.R_ne HO177.out BK167.out (by decide))); have n2_ := Aside0.mk (blk_grown (g := gb168) (o := .cells #[.int .i64 a0_0, .slice Ao16 y172.length co16, .int .i64 a0_2, .int .i64 a0_3, .slice A0_4 l0_4.length c0_4] 25 (0, 0)) (kb_ BK168.out) hg (Kd.R_ne HO177.out BK168.out (by decide))); have n3_ := Aside0.mk (Kd.R_over' (kR_ HO174.out) (Kd.R_typed (kR_ HO177.out)) (by decide) hg); have n4_ := Aside0.mk (hb); have n5_ := Aside0.mk (ho); clear BK166; clear BK167; clear BK168; clear HO174; clear HB; clear HO177; have BK166 := n0_; have BK167 := n1_; have BK168 := n2_; have HO174 := n3_; have HB := n4_; have HO180 := n5_; clear n0_ n1_ n2_ n3_ n4_ n5_; clear ho hb hg hat; obtain ⟨Ao22, co22, eo22⟩ := Kd.R_slice HO180.out; subst eo22; have hcz23_0 : w21.cell? ⟨gb168, 0, none⟩ = some (.int .i64 a0_0) := (blk_cell BK168.out 0).trans rfl; have hcz23_1 : w21.cell? ⟨gb168, 1, none⟩ = some (.slice Ao16 y172.length co16) := (blk_cell BK168.out 1).trans rfl; have hcz23_2 : w21.cell? ⟨gb168, 2, none⟩ = some (.int .i64 a0_2) := (blk_cell BK168.out 2).trans rfl; have hcz23_3 : w21.cell? ⟨gb168, 3, none⟩ = some (.int .i64 a0_3) := (blk_cell BK168.out 3).trans rfl; have hcz23_4 : w21.cell? ⟨gb168, 4, none⟩ = some (.slice A0_4 l0_4.length c0_4) := (blk_cell BK168.out 4).trans rfl; have hfz23_0 := blk_frozen BK168.out 0; have hfz23_1 := blk_frozen BK168.out 1; have hfz23_2 := blk_frozen BK168.out 2; have hfz23_3 := blk_frozen BK168.out 3; have hfz23_4 := blk_frozen BK168.out 4; have hcz24_0 : w21.cell? ⟨gb167, 0, none⟩ = some (.int .i64 0) := (blk_cell BK167.out 0).trans rfl; have hcz24_1 : w21.cell? ⟨gb167, 1, none⟩ = some (.slice none 0 0) := (blk_cell BK167.out 1).trans rfl; have hcz24_2 : w21.cell? ⟨gb167, 2, none⟩ = some (.int .i64 0) := (blk_cell BK167.out 2).trans rfl; have hcz24_3 : w21.cell? ⟨gb167, 3, none⟩ = some (.int .i64 0) := (blk_cell BK167.out 3).trans rfl; have hcz24_4 : w21.cell? ⟨gb167, 4, none⟩ = some (.slice none 0 0) := (blk_cell BK167.out 4).trans rfl; have hfz24_0 := blk_frozen BK167.out 0; have hfz24_1 := blk_frozen BK167.out 1; have hfz24_2 := blk_frozen BK167.out 2; have hfz24_3 := blk_frozen BK167.out 3; have hfz24_4 := blk_frozen BK167.out 4))
      refine bodyPost_ret (results_cell_row rfl _ _ gb167 25 #[.int .i64 a0_0, .slice Ao16 y172.length co16, .int .i64 a0_2, .int .i64 a0_3, .slice Ao22 y178.length co22] (0, 0) _ rfl (by refine kb_ ?_; refine blk_put (cs := #[.int .i64 a0_0, .slice Ao16 y172.length co16, .int .i64 a0_2, .int .i64 a0_3, .slice none 0 0]) ?_ 4 _ rfl; refine kb_ ?_; refine blk_put (cs := #[.int .i64 a0_0, .slice Ao16 y172.length co16, .int .i64 a0_2, .int .i64 0, .slice none 0 0]) ?_ 3 _ rfl; refine kb_ ?_; refine blk_put (cs := #[.int .i64 a0_0, .slice Ao16 y172.length co16, .int .i64 0, .int .i64 0, .slice none 0 0]) ?_ 2 _ rfl; refine kb_ ?_; refine blk_put (cs := #[.int .i64 a0_0, .slice none 0 0, .int .i64 0, .int .i64 0, .slice none 0 0]) ?_ 1 _ rfl; refine kb_ ?_; refine blk_put (cs := #[.int .i64 0, .slice none 0 0, .int .i64 0, .int .i64 0, .slice none 0 0]) ?_ 0 _ rfl; refine kb_ ?_; refine blk_far ?_ NB167_168.out _; refine kb_ ?_; exact BK167.out) Try.underlying25 rfl (by kernel_rfl)) rfl ?_
      exact ⟨_, _, by first | rfl | (simp [errW_none, errW_some] <;> rfl) | (simp [*, errW_none, errW_some] <;> rfl), by refine kR_ ?_; exact Kd.R_mono (Kd.R_f gb167 4 (.slice Ao22 y178.length co22) (Kd.R_f gb167 3 (.int .i64 a0_3) (Kd.R_f gb167 2 (.int .i64 a0_2) (Kd.R_f gb167 1 (.slice Ao16 y172.length co16) (Kd.R_f gb167 0 (.int .i64 a0_0) (Kd.R_far (p := ⟨gb168, 4, none⟩) (Kd.R_types (Kd.R_types HO174.out BK168.out (by decide)) BK167.out (by decide)) (fun _ hk => hk.1.2) (.slice Ao22 y178.length co22))))))) (fun _ hk => trivial), by refine kR_ ?_; exact Kd.R_mono (Kd.R_f gb167 4 (.slice Ao22 y178.length co22) (Kd.R_f gb167 3 (.int .i64 a0_3) (Kd.R_f gb167 2 (.int .i64 a0_2) (Kd.R_f gb167 1 (.slice Ao16 y172.length co16) (Kd.R_f gb167 0 (.int .i64 a0_0) (Kd.R_far (p := ⟨gb168, 4, none⟩) (Kd.R_types (Kd.R_types HO180.out BK168.out (by decide)) BK167.out (by decide)) (fun _ hk => hk.1.2) (.slice Ao22 y178.length co22))))))) (fun _ hk => trivial), by repeat (first | (with_reducible first | exact HB.out | apply below_alloc | apply pw_below_drewN | apply below_drew1 | refine below_set ?_ GE166.out | refine below_set ?_ GE167.out | refine below_set ?_ GE168.out) | exact HB.out)⟩
    · rw [if_neg c3] at H
      exact absurd H (by simp)
  · rw [if_neg c2] at H
    exact absurd H (by simp)

/-! ### spec_MouthWrite: function 8 -/
def spec_MouthWrite.f (k : Nat) (a0_0 : Int) (l0_1 : List Int) (a0_2 : Int) (a0_3 : Int) (l0_4 : List (S60)) (l1 : List Int) : Option (Int × List Int × Int × Int × (List (S60)) × Int) := (spec_MouthOk.f k a0_0 l0_1 a0_2 a0_3 l0_4).bind fun t183 => (if t183 = true then ((spec_l13Copy.f a0_0 l0_1 a0_2 a0_3 l0_4).bind fun bt184 => (if 0 ≤ (mn (l1.length : Int) (wrap64 (32 - (l0_1.length : Int)))) then (if (mn (l1.length : Int) (wrap64 (32 - (l0_1.length : Int)))) ≤ (l1.length : Int) then (if bt184.2.1.length + (l1.take ((mn (l1.length : Int) (wrap64 (32 - (l0_1.length : Int)))) : Int).toNat).length < 140737488355328 then (some (bt184.1, (bt184.2.1 ++ (l1.take ((mn (l1.length : Int) (wrap64 (32 - (l0_1.length : Int)))) : Int).toNat)), bt184.2.2.1, bt184.2.2.2.1, bt184.2.2.2.2, mn (l1.length : Int) (wrap64 (32 - (l0_1.length : Int))))) else (none)) else (none)) else (none))) else (some (0, ([] : List Int), 0, 0, ([] : List (S60)), 0)))
theorem spec_MouthWrite.mono : ∀ a0 a1 a2 a3 a4 a5 k, LeO (spec_MouthWrite.f k a0 a1 a2 a3 a4 a5) (spec_MouthWrite.f (k + 1) a0 a1 a2 a3 a4 a5) := by
  intro a0 a1 a2 a3 a4 a5 k
  unfold spec_MouthWrite.f
  repeat' first
      | (with_reducible exact spec_MouthOk.mono _ _ _ _ _ _)
      | (with_reducible exact LeO.refl _)
      | (with_reducible exact LeO.none _)
      | (with_reducible refine LeO.ite ?_ ?_)
      | (with_reducible refine LeO.bind ?_ (fun _ => ?_))
      | exact spec_MouthOk.mono _ _ _ _ _ _
      | exact LeO.none _
      | refine LeO.ite ?_ ?_
      | refine LeO.bind ?_ (fun _ => ?_)
def spec_MouthWrite.T5 : Bool × List (List Nat × List Nat) := (true, [([], []), ([0], [0]), ([], []), ([], []), ([2, 3], [2, 3]), ([1, 4], [1, 4]), ([0, 1, 2, 3, 4, 5], []), ([6, 5, 5, 0, 1, 2, 3, 4, 5], [5, 6])])
def spec_MouthWrite.B5 : List Nat := [0, 1, 0, 0, 12, 31, 63, 127]
theorem spec_MouthWrite.tab5 : rtab .any (opsOf Try.f8 5) = spec_MouthWrite.T5 := by kernel_rfl
theorem spec_MouthWrite.bits5 : waitsOk spec_MouthWrite.T5.2 spec_MouthWrite.B5 = true := by kernel_rfl
set_option maxHeartbeats 8000000 in
set_option maxRecDepth 100000 in
theorem spec_MouthWrite.calls (k : Nat) (a0_0 : Int) (A0_1 : Option Addr) (c0_1 : Nat) (l0_1 : List Int) (a0_2 : Int) (a0_3 : Int) (A0_4 : Option Addr) (c0_4 : Nat) (l0_4 : List (S60)) (A1 : Option Addr) (c1 : Nat) (l1 : List Int) (r1 : Int) (r2 : List Int) (r3 : Int) (r4 : Int) (r5 : List (S60)) (r6 : Int) (w : World) (hr0_1 : Kd.C (Kd.int .u8) w A0_1 l0_1.length l0_1) (hc0_1 : l0_1.length ≤ c0_1) (hr0_4 : Kd.C k60 w A0_4 l0_4.length l0_4) (hc0_4 : l0_4.length ≤ c0_4) (hr1 : Kd.C (Kd.int .u8) w A1 l1.length l1) (hc1 : l1.length ≤ c1) (h : spec_MouthWrite.f k a0_0 l0_1 a0_2 a0_3 l0_4 l1 = some (r1, r2, r3, r4, r5, r6)) :
    Calls Try.prog 8 #[.agg #[.int .i64 a0_0, .slice A0_1 l0_1.length c0_1, .int .i64 a0_2, .int .i64 a0_3, .slice A0_4 l0_4.length c0_4], .slice A1 l1.length c1] w fun e w' => ∃ v1_ v4_ : Value, e = .returned (.tuple #[.agg #[.int .i64 r1, v1_, .int .i64 r3, .int .i64 r4, v4_], .int .i64 r6]) ∧ Kd.R (Kd.int .u8) 5 w' w.heap.size (fun _ => True) v1_ r2 ∧ Kd.R k60 60 w' w.heap.size (fun _ => True) v4_ r5 ∧ Below w.heap.size w w' := by
  have hu25 := Try.underlying25
  have HR0_1 := Aside0.mk hr0_1
  have HC0_1 := Aside0.mk hc0_1
  clear hr0_1 hc0_1
  have HR0_4 := Aside0.mk hr0_4
  have HC0_4 := Aside0.mk hc0_4
  clear hr0_4 hc0_4
  have HR1 := Aside0.mk hr1
  have HC1 := Aside0.mk hc1
  clear hr1 hc1
  have HB := Aside0.mk (Below.refl w.heap.size w)
  have H : ((spec_MouthOk.f k a0_0 l0_1 a0_2 a0_3 l0_4).bind fun t183 => (if t183 = true then ((spec_l13Copy.f a0_0 l0_1 a0_2 a0_3 l0_4).bind fun bt184 => (if 0 ≤ (mn (l1.length : Int) (wrap64 (32 - (l0_1.length : Int)))) then (if (mn (l1.length : Int) (wrap64 (32 - (l0_1.length : Int)))) ≤ (l1.length : Int) then (if bt184.2.1.length + (l1.take ((mn (l1.length : Int) (wrap64 (32 - (l0_1.length : Int)))) : Int).toNat).length < 140737488355328 then (some (bt184.1, (bt184.2.1 ++ (l1.take ((mn (l1.length : Int) (wrap64 (32 - (l0_1.length : Int)))) : Int).toNat)), bt184.2.2.1, bt184.2.2.2.1, bt184.2.2.2.2, mn (l1.length : Int) (wrap64 (32 - (l0_1.length : Int))))) else (none)) else (none)) else (none))) else (some (0, ([] : List Int), 0, 0, ([] : List (S60)), 0)))) = some (r1, r2, r3, r4, r5, r6) := h
  clear h
  replace H := Option.bind_eq_some_iff.mp H
  obtain ⟨t183, A30, H⟩ := H
  replace H : (if t183 = true then ((spec_l13Copy.f a0_0 l0_1 a0_2 a0_3 l0_4).bind fun bt184 => (if 0 ≤ (mn (l1.length : Int) (wrap64 (32 - (l0_1.length : Int)))) then (if (mn (l1.length : Int) (wrap64 (32 - (l0_1.length : Int)))) ≤ (l1.length : Int) then (if bt184.2.1.length + (l1.take ((mn (l1.length : Int) (wrap64 (32 - (l0_1.length : Int)))) : Int).toNat).length < 140737488355328 then (some (bt184.1, (bt184.2.1 ++ (l1.take ((mn (l1.length : Int) (wrap64 (32 - (l0_1.length : Int)))) : Int).toNat)), bt184.2.2.1, bt184.2.2.2.1, bt184.2.2.2.2, mn (l1.length : Int) (wrap64 (32 - (l0_1.length : Int))))) else (none)) else (none)) else (none))) else (some (0, ([] : List Int), 0, 0, ([] : List (S60)), 0))) = some (r1, r2, r3, r4, r5, r6) := H
  have A3 := Aside0.mk A30
  clear A30
  by_cases c4 : t183 = true
  · subst c4
    have H1 : ((spec_l13Copy.f a0_0 l0_1 a0_2 a0_3 l0_4).bind fun bt184 => (if 0 ≤ (mn (l1.length : Int) (wrap64 (32 - (l0_1.length : Int)))) then (if (mn (l1.length : Int) (wrap64 (32 - (l0_1.length : Int)))) ≤ (l1.length : Int) then (if bt184.2.1.length + (l1.take ((mn (l1.length : Int) (wrap64 (32 - (l0_1.length : Int)))) : Int).toNat).length < 140737488355328 then (some (bt184.1, (bt184.2.1 ++ (l1.take ((mn (l1.length : Int) (wrap64 (32 - (l0_1.length : Int)))) : Int).toNat)), bt184.2.2.1, bt184.2.2.2.1, bt184.2.2.2.2, mn (l1.length : Int) (wrap64 (32 - (l0_1.length : Int))))) else (none)) else (none)) else (none))) = some (r1, r2, r3, r4, r5, r6) := by rw [if_pos rfl] at H; exact H
    clear H
    have H := H1
    clear H1
    replace H := Option.bind_eq_some_iff.mp H
    obtain ⟨⟨t184, t185, t188, t189, t190⟩, A50, H⟩ := H
    replace H : (if 0 ≤ (mn (l1.length : Int) (wrap64 (32 - (l0_1.length : Int)))) then (if (mn (l1.length : Int) (wrap64 (32 - (l0_1.length : Int)))) ≤ (l1.length : Int) then (if t185.length + (l1.take ((mn (l1.length : Int) (wrap64 (32 - (l0_1.length : Int)))) : Int).toNat).length < 140737488355328 then (some (t184, (t185 ++ (l1.take ((mn (l1.length : Int) (wrap64 (32 - (l0_1.length : Int)))) : Int).toNat)), t188, t189, t190, mn (l1.length : Int) (wrap64 (32 - (l0_1.length : Int))))) else (none)) else (none)) else (none)) = some (r1, r2, r3, r4, r5, r6) := H
    have A5 := Aside0.mk A50
    clear A50
    obtain ⟨ji6, hji6⟩ : ∃ j_ : Int, (mn (l1.length : Int) (wrap64 (32 - (l0_1.length : Int)))) = j_ := ⟨_, rfl⟩
    replace H : (if 0 ≤ (ji6) then (if (ji6) ≤ (l1.length : Int) then (if t185.length + (l1.take ((ji6) : Int).toNat).length < 140737488355328 then (some (t184, (t185 ++ (l1.take ((ji6) : Int).toNat)), t188, t189, t190, ji6)) else (none)) else (none)) else (none)) = some (r1, r2, r3, r4, r5, r6) := by first | (rw [hji6] at H; exact H) | (simp only [hji6] at H ⊢; exact H)
    (try rw [hji6] at A3)
    (try rw [hji6] at A5)
    have hji6_ : (if (wrap64 (32 - (l0_1.length : Int))) < (l1.length : Int) then (wrap64 (32 - (l0_1.length : Int))) else (l1.length : Int)) = ji6 := hji6
    by_cases c7 : 0 ≤ (ji6)
    · rw [if_pos c7] at H
      have c7b0 := eq_true c7
      have c7b1 : decide (0 ≤ (ji6)) = true := decide_eq_true c7
      clear c7
      by_cases c8 : (ji6) ≤ (l1.length : Int)
      · rw [if_pos c8] at H
        have c8b0 := eq_true c8
        have c8b1 : decide ((ji6) ≤ (l1.length : Int)) = true := decide_eq_true c8
        clear c8
        by_cases c9 : t185.length + (l1.take ((ji6) : Int).toNat).length < 140737488355328
        · rw [if_pos c9] at H
          have LMc9 := Aside0.mk c9
          clear c9
          obtain ⟨y195, hy195⟩ : ∃ y_ : List Int, y_ = (t185 ++ (l1.take ((ji6) : Int).toNat)) := ⟨_, rfl⟩
          replace H : (some (t184, y195, t188, t189, t190, ji6)) = some (r1, r2, r3, r4, r5, r6) := by first | (rw [hy195]; with_reducible exact H) | (have H2_ := (Option.bind_some _ _).symm.trans H; rw [hy195]; with_reducible exact H2_) | (have H2_ := (Option.bind_some _ _).symm.trans H; with_reducible exact H2_) | with_reducible exact H | (rw [hy195]; exact H) | exact H
          have Ny195 := Aside0.mk hy195
          clear hy195
          simp only [Option.some.injEq, Prod.mk.injEq] at H
          obtain ⟨rfl, rfl, rfl, rfl, rfl, rfl⟩ := H
          go_enter Try.func8, Try.ntmps8
          try go_wp2_with (first | ((with_reducible refine gate_dst (N := 2) rfl ?_); refine box_event ?hg (N := 2) ?hd (cs := #[.int .i64 a0_0, .slice A0_1 l0_1.length c0_1, .int .i64 a0_2, .int .i64 a0_3, .slice A0_4 l0_4.length c0_4]) (t := 25) ?hr ?_; (case hd => rfl); (case hg => rfl); (case hr => first | (go_simp; done) | (go_simp; rfl)); intro gb181 hg w10 hbox hb; have n0_ := Aside0.mk (below_step (hb0_ HB.out) hb); have n1_ := Aside0.mk (hbox); have n2_ := Aside0.mk ((by rw [hg]; exact (below_size (hb0_ HB.out)) : w.heap.size ≤ gb181)); have n3_ := Aside0.mk ((by rw [hg]; exact (below_size (hb0_ HB.out)) : w.heap.size ≤ gb181)); clear HB; have HB := n0_; have BK181 := n1_; have GW181 := n2_; have GE181 := n3_; clear n0_ n1_ n2_ n3_; clear hb hbox hg) | ((with_reducible refine gate_dst (N := 4) rfl ?_); refine box_event ?hg (N := 4) ?hd (cs := #[.int .i64 0, .slice none 0 0, .int .i64 0, .int .i64 0, .slice none 0 0]) (t := 25) ?hr ?_; (case hd => rfl); (case hg => rfl); (case hr => first | (go_simp; done) | (go_simp; rfl)); intro gb182 hg w11 hbox hb; have n0_ := Aside0.mk (blk_below (g := gb181) (o := .cells #[.int .i64 a0_0, .slice A0_1 l0_1.length c0_1, .int .i64 a0_2, .int .i64 a0_3, .slice A0_4 l0_4.length c0_4] 25 (0, 0)) (kb_ BK181.out) hb); have n1_ := Aside0.mk (below_step (hb1_ HB.out GE181.out) hb); have n2_ := Aside0.mk (hbox); have n3_ := Aside0.mk ((by rw [hg]; exact (below_size (hb1_ HB.out GE181.out)) : w.heap.size ≤ gb182)); have n4_ := Aside0.mk ((by rw [hg]; exact (below_size (hb1_ HB.out GE181.out)) : w.heap.size ≤ gb182)); have n5_ := Aside0.mk ((by rw [hg]; exact Nat.ne_of_lt (blk_lt (g := gb181) (o := .cells #[.int .i64 a0_0, .slice A0_1 l0_1.length c0_1, .int .i64 a0_2, .int .i64 a0_3, .slice A0_4 l0_4.length c0_4] 25 (0, 0)) (kb_ BK181.out)) : gb181 ≠ gb182)); have n6_ := Aside0.mk ((by rw [hg]; exact Nat.ne_of_gt (blk_lt (g := gb181) (o := .cells #[.int .i64 a0_0, .slice A0_1 l0_1.length c0_1, .int .i64 a0_2, .int .i64 a0_3, .slice A0_4 l0_4.length c0_4] 25 (0, 0)) (kb_ BK181.out)) : gb182 ≠ gb181)); clear BK181; clear HB; have BK181 := n0_; have HB := n1_; have BK182 := n2_; have GW182 := n3_; have GE182 := n4_; have NB181_182 := n5_; have NB182_181 := n6_; clear n0_ n1_ n2_ n3_ n4_ n5_ n6_; clear hb hbox hg; have hnb12 := NB181_182.out; have hnc12 := NB182_181.out; have hcz13_0 : w11.cell? ⟨gb181, 0, none⟩ = some (.int .i64 a0_0) := (blk_cell BK181.out 0).trans rfl; have hcz13_1 : w11.cell? ⟨gb181, 1, none⟩ = some (.slice A0_1 l0_1.length c0_1) := (blk_cell BK181.out 1).trans rfl; have hcz13_2 : w11.cell? ⟨gb181, 2, none⟩ = some (.int .i64 a0_2) := (blk_cell BK181.out 2).trans rfl; have hcz13_3 : w11.cell? ⟨gb181, 3, none⟩ = some (.int .i64 a0_3) := (blk_cell BK181.out 3).trans rfl; have hcz13_4 : w11.cell? ⟨gb181, 4, none⟩ = some (.slice A0_4 l0_4.length c0_4) := (blk_cell BK181.out 4).trans rfl; have hfz13_0 := blk_frozen BK181.out 0; have hfz13_1 := blk_frozen BK181.out 1; have hfz13_2 := blk_frozen BK181.out 2; have hfz13_3 := blk_frozen BK181.out 3; have hfz13_4 := blk_frozen BK181.out 4) | ((with_reducible refine gate_callee (f := 33) rfl ?_); refine goesL_ (some 9) rfl rfl Try.func33 (by kernel_rfl) rfl #[.agg #[.int .i64 a0_0, .slice A0_1 l0_1.length c0_1, .int .i64 a0_2, .int .i64 a0_3, .slice A0_4 l0_4.length c0_4]] rfl ar_ ?_; (with_reducible refine (spec_MouthOk.calls k a0_0 _ _ l0_1 a0_2 a0_3 _ _ l0_4 true _ ?side1 ?side2 ?side3 ?side4 A3.out).mono ?_); (case side1 => exact kC_ (Kd.C_below HR0_1.out HB.out)); (case side2 => exact HC0_1.out); (case side3 => exact kC_ (Kd.C_below HR0_4.out HB.out)); (case side4 => exact HC0_4.out); rintro e w14 ⟨rfl, hb⟩; refine ⟨_, rfl, ?_⟩; have n0_ := Aside0.mk (blk_below (g := gb181) (o := .cells #[.int .i64 a0_0, .slice A0_1 l0_1.length c0_1, .int .i64 a0_2, .int .i64 a0_3, .slice A0_4 l0_4.length c0_4] 25 (0, 0)) (kb_ BK181.out) hb); have n1_ := Aside0.mk (blk_below (g := gb182) (o := .cells #[.int .i64 0, .slice none 0 0, .int .i64 0, .int .i64 0, .slice none 0 0] 25 (0, 0)) (kb_ BK182.out) hb); have n2_ := Aside0.mk (below_step (hb2_ HB.out GE181.out GE182.out) hb); clear BK181; clear BK182; clear HB; have BK181 := n0_; have BK182 := n1_; have HB := n2_; clear n0_ n1_ n2_; (try clear hb); (try clear hb2); (try clear hk); (try clear hi); have hcz15_0 : w14.cell? ⟨gb181, 0, none⟩ = some (.int .i64 a0_0) := (blk_cell BK181.out 0).trans rfl; have hcz15_1 : w14.cell? ⟨gb181, 1, none⟩ = some (.slice A0_1 l0_1.length c0_1) := (blk_cell BK181.out 1).trans rfl; have hcz15_2 : w14.cell? ⟨gb181, 2, none⟩ = some (.int .i64 a0_2) := (blk_cell BK181.out 2).trans rfl; have hcz15_3 : w14.cell? ⟨gb181, 3, none⟩ = some (.int .i64 a0_3) := (blk_cell BK181.out 3).trans rfl; have hcz15_4 : w14.cell? ⟨gb181, 4, none⟩ = some (.slice A0_4 l0_4.length c0_4) := (blk_cell BK181.out 4).trans rfl; have hfz15_0 := blk_frozen BK181.out 0; have hfz15_1 := blk_frozen BK181.out 1; have hfz15_2 := blk_frozen BK181.out 2; have hfz15_3 := blk_frozen BK181.out 3; have hfz15_4 := blk_frozen BK181.out 4) | ((with_reducible refine gate_callee (f := 34) rfl ?_); refine goesL_ (some 13) rfl rfl Try.func34 (by kernel_rfl) rfl #[.agg #[.int .i64 a0_0, .slice A0_1 l0_1.length c0_1, .int .i64 a0_2, .int .i64 a0_3, .slice A0_4 l0_4.length c0_4]] rfl ar_ ?_; (with_reducible refine (spec_l13Copy.calls a0_0 _ _ l0_1 a0_2 a0_3 _ _ l0_4 t184 t185 t188 t189 t190 _ ?side1 ?side2 ?side3 ?side4 A5.out).mono ?_); (case side1 => exact kC_ (Kd.C_below HR0_1.out HB.out)); (case side2 => exact HC0_1.out); (case side3 => exact kC_ (Kd.C_below HR0_4.out HB.out)); (case side4 => exact HC0_4.out); rintro e w16 ⟨v186, v191, rfl, ho0, ho1, hb⟩; refine ⟨_, rfl, ?_⟩; have n0_ := Aside0.mk (Kd.R_lower ho0 (below_size (hb2_ HB.out GE181.out GE182.out))); have n1_ := Aside0.mk (Kd.R_lower ho1 (below_size (hb2_ HB.out GE181.out GE182.out))); have n2_ := Aside0.mk (blk_below (g := gb181) (o := .cells #[.int .i64 a0_0, .slice A0_1 l0_1.length c0_1, .int .i64 a0_2, .int .i64 a0_3, .slice A0_4 l0_4.length c0_4] 25 (0, 0)) (kb_ BK181.out) hb); have n3_ := Aside0.mk (blk_below (g := gb182) (o := .cells #[.int .i64 0, .slice none 0 0, .int .i64 0, .int .i64 0, .slice none 0 0] 25 (0, 0)) (kb_ BK182.out) hb); have n4_ := Aside0.mk (below_step (hb2_ HB.out GE181.out GE182.out) hb); clear BK181; clear BK182; clear HB; have HO187 := n0_; have HO192 := n1_; have BK181 := n2_; have BK182 := n3_; have HB := n4_; clear n0_ n1_ n2_ n3_ n4_; (try clear hb); (try clear hb2); (try clear hk); (try clear hi); (try clear ho0); (try clear ho1)) | ((with_reducible refine gate_dst (N := 6) rfl ?_); refine box_event ?hg (N := 6) ?hd (cs := #[.int .i64 0, .slice none 0 0, .int .i64 0, .int .i64 0, .slice none 0 0]) (t := 25) ?hr ?_; (case hd => rfl); (case hg => rfl); (case hr => first | (go_simp; done) | (go_simp; rfl)); intro gb193 hg w17 hbox hb; have n0_ := Aside0.mk (Kd.R_below (kR_ HO187.out) hb); have n1_ := Aside0.mk (Kd.R_below (kR_ HO192.out) hb); have n2_ := Aside0.mk (blk_below (g := gb181) (o := .cells #[.int .i64 a0_0, .slice A0_1 l0_1.length c0_1, .int .i64 a0_2, .int .i64 a0_3, .slice A0_4 l0_4.length c0_4] 25 (0, 0)) (kb_ BK181.out) hb); have n3_ := Aside0.mk (blk_below (g := gb182) (o := .cells #[.int .i64 0, .slice none 0 0, .int .i64 0, .int .i64 0, .slice none 0 0] 25 (0, 0)) (kb_ BK182.out) hb); have n4_ := Aside0.mk (below_step (hb2_ HB.out GE181.out GE182.out) hb); have n5_ := Aside0.mk (hbox); have n6_ := Aside0.mk ((by rw [hg]; exact (below_size (hb2_ HB.out GE181.out GE182.out)) : w.heap.size ≤ gb193)); have n7_ := Aside0.mk ((by rw [hg]; exact (below_size (hb2_ HB.out GE181.out GE182.out)) : w.heap.size ≤ gb193)); have n8_ := Aside0.mk ((by rw [hg]; exact Nat.ne_of_lt (blk_lt (g := gb181) (o := .cells #[.int .i64 a0_0, .slice A0_1 l0_1.length c0_1, .int .i64 a0_2, .int .i64 a0_3, .slice A0_4 l0_4.length c0_4] 25 (0, 0)) (kb_ BK181.out)) : gb181 ≠ gb193)); have n9_ := Aside0.mk ((by rw [hg]; exact Nat.ne_of_gt (blk_lt (g := gb181) (o := .cells #[.int .i64 a0_0, .slice A0_1 l0_1.length c0_1, .int .i64 a0_2, .int .i64 a0_3, .slice A0_4 l0_4.length c0_4] 25 (0, 0)) (kb_ BK181.out)) : gb193 ≠ gb181)); have n10_ := Aside0.mk ((by rw [hg]; exact Nat.ne_of_lt (blk_lt (g := gb182) (o := .cells #[.int .i64 0, .slice none 0 0, .int .i64 0, .int .i64 0, .slice none 0 0] 25 (0, 0)) (kb_ BK182.out)) : gb182 ≠ gb193)); have n11_ := Aside0.mk ((by rw [hg]; exact Nat.ne_of_gt (blk_lt (g := gb182) (o := .cells #[.int .i64 0, .slice none 0 0, .int .i64 0, .int .i64 0, .slice none 0 0] 25 (0, 0)) (kb_ BK182.out)) : gb193 ≠ gb182)); clear HO187; clear HO192; clear BK181; clear BK182; clear HB; have HO187 := n0_; have HO192 := n1_; have BK181 := n2_; have BK182 := n3_; have HB := n4_; have BK193 := n5_; have GW193 := n6_; have GE193 := n7_; have NB181_193 := n8_; have NB193_181 := n9_; have NB182_193 := n10_; have NB193_182 := n11_; clear n0_ n1_ n2_ n3_ n4_ n5_ n6_ n7_ n8_ n9_ n10_ n11_; clear hb hbox hg; have hnb18 := NB193_181.out; have hnc18 := NB181_193.out; have hnb19 := NB193_182.out; have hnc19 := NB182_193.out; have hcz20_0 : w17.cell? ⟨gb193, 0, none⟩ = some (.int .i64 0) := (blk_cell BK193.out 0).trans rfl; have hcz20_1 : w17.cell? ⟨gb193, 1, none⟩ = some (.slice none 0 0) := (blk_cell BK193.out 1).trans rfl; have hcz20_2 : w17.cell? ⟨gb193, 2, none⟩ = some (.int .i64 0) := (blk_cell BK193.out 2).trans rfl; have hcz20_3 : w17.cell? ⟨gb193, 3, none⟩ = some (.int .i64 0) := (blk_cell BK193.out 3).trans rfl; have hcz20_4 : w17.cell? ⟨gb193, 4, none⟩ = some (.slice none 0 0) := (blk_cell BK193.out 4).trans rfl; have hfz20_0 := blk_frozen BK193.out 0; have hfz20_1 := blk_frozen BK193.out 1; have hfz20_2 := blk_frozen BK193.out 2; have hfz20_3 := blk_frozen BK193.out 3; have hfz20_4 := blk_frozen BK193.out 4; obtain ⟨Ao21, co21, eo21⟩ := Kd.R_slice HO187.out; subst eo21; obtain ⟨Ao22, co22, eo22⟩ := Kd.R_slice HO192.out; subst eo22; have hcz23_0 : w17.cell? ⟨gb181, 0, none⟩ = some (.int .i64 a0_0) := (blk_cell BK181.out 0).trans rfl; have hcz23_1 : w17.cell? ⟨gb181, 1, none⟩ = some (.slice A0_1 l0_1.length c0_1) := (blk_cell BK181.out 1).trans rfl; have hcz23_2 : w17.cell? ⟨gb181, 2, none⟩ = some (.int .i64 a0_2) := (blk_cell BK181.out 2).trans rfl; have hcz23_3 : w17.cell? ⟨gb181, 3, none⟩ = some (.int .i64 a0_3) := (blk_cell BK181.out 3).trans rfl; have hcz23_4 : w17.cell? ⟨gb181, 4, none⟩ = some (.slice A0_4 l0_4.length c0_4) := (blk_cell BK181.out 4).trans rfl; have hfz23_0 := blk_frozen BK181.out 0; have hfz23_1 := blk_frozen BK181.out 1; have hfz23_2 := blk_frozen BK181.out 2; have hfz23_3 := blk_frozen BK181.out 3; have hfz23_4 := blk_frozen BK181.out 4))
          have n0_ : Aside0 (Kd.R (Kd.int .u8) 5 (((((w17.setCell ⟨gb193, 0, none⟩ (.int .i64 t184)).setCell ⟨gb193, 1, none⟩ (.slice Ao21 t185.length co21)).setCell ⟨gb193, 2, none⟩ (.int .i64 t188)).setCell ⟨gb193, 3, none⟩ (.int .i64 t189)).setCell ⟨gb193, 4, none⟩ (.slice Ao22 t190.length co22)) w.heap.size (fun _ => True) (.slice Ao21 t185.length co21) t185) := ⟨by refine kR_ ?_; exact Kd.R_mono (Kd.R_f gb193 4 (.slice Ao22 t190.length co22) (Kd.R_f gb193 3 (.int .i64 t189) (Kd.R_f gb193 2 (.int .i64 t188) (Kd.R_f gb193 1 (.slice Ao21 t185.length co21) (Kd.R_f gb193 0 (.int .i64 t184) (Kd.R_types HO187.out BK193.out (by decide))))))) (fun _ hk => trivial)⟩
          have n1_ : Aside0 (Kd.R k60 60 (((((w17.setCell ⟨gb193, 0, none⟩ (.int .i64 t184)).setCell ⟨gb193, 1, none⟩ (.slice Ao21 t185.length co21)).setCell ⟨gb193, 2, none⟩ (.int .i64 t188)).setCell ⟨gb193, 3, none⟩ (.int .i64 t189)).setCell ⟨gb193, 4, none⟩ (.slice Ao22 t190.length co22)) w.heap.size (fun _ => True) (.slice Ao22 t190.length co22) t190) := ⟨by refine kR_ ?_; exact Kd.R_mono (Kd.R_f gb193 4 (.slice Ao22 t190.length co22) (Kd.R_f gb193 3 (.int .i64 t189) (Kd.R_f gb193 2 (.int .i64 t188) (Kd.R_f gb193 1 (.slice Ao21 t185.length co21) (Kd.R_f gb193 0 (.int .i64 t184) (Kd.R_types HO192.out BK193.out (by decide))))))) (fun _ hk => trivial)⟩
          have n2_ : Aside0 ((((((w17.setCell ⟨gb193, 0, none⟩ (.int .i64 t184)).setCell ⟨gb193, 1, none⟩ (.slice Ao21 t185.length co21)).setCell ⟨gb193, 2, none⟩ (.int .i64 t188)).setCell ⟨gb193, 3, none⟩ (.int .i64 t189)).setCell ⟨gb193, 4, none⟩ (.slice Ao22 t190.length co22)).heap[gb181]? = some (.cells #[.int .i64 a0_0, .slice A0_1 l0_1.length c0_1, .int .i64 a0_2, .int .i64 a0_3, .slice A0_4 l0_4.length c0_4] 25 (0, 0))) := ⟨by refine kb_ ?_; refine blk_far ?_ NB181_193.out _; refine kb_ ?_; refine blk_far ?_ NB181_193.out _; refine kb_ ?_; refine blk_far ?_ NB181_193.out _; refine kb_ ?_; refine blk_far ?_ NB181_193.out _; refine kb_ ?_; refine blk_far ?_ NB181_193.out _; refine kb_ ?_; exact BK181.out⟩
          have n3_ : Aside0 ((((((w17.setCell ⟨gb193, 0, none⟩ (.int .i64 t184)).setCell ⟨gb193, 1, none⟩ (.slice Ao21 t185.length co21)).setCell ⟨gb193, 2, none⟩ (.int .i64 t188)).setCell ⟨gb193, 3, none⟩ (.int .i64 t189)).setCell ⟨gb193, 4, none⟩ (.slice Ao22 t190.length co22)).heap[gb182]? = some (.cells #[.int .i64 0, .slice none 0 0, .int .i64 0, .int .i64 0, .slice none 0 0] 25 (0, 0))) := ⟨by refine kb_ ?_; refine blk_far ?_ NB182_193.out _; refine kb_ ?_; refine blk_far ?_ NB182_193.out _; refine kb_ ?_; refine blk_far ?_ NB182_193.out _; refine kb_ ?_; refine blk_far ?_ NB182_193.out _; refine kb_ ?_; refine blk_far ?_ NB182_193.out _; refine kb_ ?_; exact BK182.out⟩
          have n4_ : Aside0 ((((((w17.setCell ⟨gb193, 0, none⟩ (.int .i64 t184)).setCell ⟨gb193, 1, none⟩ (.slice Ao21 t185.length co21)).setCell ⟨gb193, 2, none⟩ (.int .i64 t188)).setCell ⟨gb193, 3, none⟩ (.int .i64 t189)).setCell ⟨gb193, 4, none⟩ (.slice Ao22 t190.length co22)).heap[gb193]? = some (.cells #[.int .i64 t184, .slice Ao21 t185.length co21, .int .i64 t188, .int .i64 t189, .slice Ao22 t190.length co22] 25 (0, 0))) := ⟨by refine kb_ ?_; refine blk_put (cs := #[.int .i64 t184, .slice Ao21 t185.length co21, .int .i64 t188, .int .i64 t189, .slice none 0 0]) ?_ 4 _ rfl; refine kb_ ?_; refine blk_put (cs := #[.int .i64 t184, .slice Ao21 t185.length co21, .int .i64 t188, .int .i64 0, .slice none 0 0]) ?_ 3 _ rfl; refine kb_ ?_; refine blk_put (cs := #[.int .i64 t184, .slice Ao21 t185.length co21, .int .i64 0, .int .i64 0, .slice none 0 0]) ?_ 2 _ rfl; refine kb_ ?_; refine blk_put (cs := #[.int .i64 t184, .slice none 0 0, .int .i64 0, .int .i64 0, .slice none 0 0]) ?_ 1 _ rfl; refine kb_ ?_; refine blk_put (cs := #[.int .i64 0, .slice none 0 0, .int .i64 0, .int .i64 0, .slice none 0 0]) ?_ 0 _ rfl; refine kb_ ?_; exact BK193.out⟩
          have n5_ : Aside0 (Below w.heap.size w (((((w17.setCell ⟨gb193, 0, none⟩ (.int .i64 t184)).setCell ⟨gb193, 1, none⟩ (.slice Ao21 t185.length co21)).setCell ⟨gb193, 2, none⟩ (.int .i64 t188)).setCell ⟨gb193, 3, none⟩ (.int .i64 t189)).setCell ⟨gb193, 4, none⟩ (.slice Ao22 t190.length co22))) := ⟨by repeat (first | (with_reducible first | exact HB.out | apply below_alloc | apply pw_below_drewN | apply below_drew1 | refine below_set ?_ GE181.out | refine below_set ?_ GE182.out | refine below_set ?_ GE193.out) | exact HB.out)⟩
          (try clear HO187)
          (try clear HO192)
          (try clear BK181)
          (try clear BK182)
          (try clear BK193)
          (try clear HB)
          generalize (((((w17.setCell ⟨gb193, 0, none⟩ (.int .i64 t184)).setCell ⟨gb193, 1, none⟩ (.slice Ao21 t185.length co21)).setCell ⟨gb193, 2, none⟩ (.int .i64 t188)).setCell ⟨gb193, 3, none⟩ (.int .i64 t189)).setCell ⟨gb193, 4, none⟩ (.slice Ao22 t190.length co22)) = w24 at n0_ n1_ n2_ n3_ n4_ n5_ ⊢
          have HO187 := n0_
          have HO192 := n1_
          have BK181 := n2_
          have BK182 := n3_
          have BK193 := n4_
          have HB := n5_
          clear n0_ n1_ n2_ n3_ n4_ n5_
          have n0_ := Aside0.mk (Kd.R_drew HO187.out)
          have n1_ := Aside0.mk (Kd.R_drew HO192.out)
          have n2_ := Aside0.mk (blk_drew BK181.out)
          have n3_ := Aside0.mk (blk_drew BK182.out)
          have n4_ := Aside0.mk (blk_drew BK193.out)
          have n5_ := Aside0.mk (below_drew1 HB.out)
          clear HO187
          clear HO192
          clear BK181
          clear BK182
          clear BK193
          clear HB
          have HO187 := n0_
          have HO192 := n1_
          have BK181 := n2_
          have BK182 := n3_
          have BK193 := n4_
          have HB := n5_
          clear n0_ n1_ n2_ n3_ n4_ n5_
          obtain ⟨i026, hi026, _, hsz26, _⟩ := info_parts info5
          obtain ⟨hcut26, hA26, hC26⟩ := print_take_of (P := Try.prog) (Value.int .u8) 0 22 5 .i64 Try.underlying22 hi026 hsz26 A1 c1 l1 (ji6) (of_decide_eq_true (by first | (with_reducible assumption) | assumption)) (of_decide_eq_true (by first | (with_reducible assumption) | assumption)) HC1.out
          have HR194 := Aside0.mk (Kd.C_of_reads (h1 := fun _ => rfl) (hA26 _ (Kd.reads_of_C HR1.out)))
          have HC194 := Aside0.mk hC26
          clear hA26 hC26 hi026 hsz26
          refine start_ (n := 8) (S := fun w' => w'.cell? ⟨gb193, 0, none⟩ = some (.int .i64 t184) ∧ w'.cell? ⟨gb193, 1, none⟩ = some (.slice Ao21 t185.length co21) ∧ w'.cell? ⟨gb193, 2, none⟩ = some (.int .i64 t188) ∧ w'.cell? ⟨gb193, 3, none⟩ = some (.int .i64 t189) ∧ w'.cell? ⟨gb193, 4, none⟩ = some (.slice Ao22 t190.length co22)) (ds := [7]) #[false, false, false, false, false, false, false, false] (by kernel_rfl) rfl rfl ⟨(blk_cell BK193.out 0).trans rfl, (blk_cell BK193.out 1).trans rfl, (blk_cell BK193.out 2).trans rfl, (blk_cell BK193.out 3).trans rfl, (blk_cell BK193.out 4).trans rfl⟩ (fun hHeld => ?_); refine with_tabW spec_MouthWrite.tab5 spec_MouthWrite.bits5 (fun HT_ HW_ => ?_)
          generalize w24.drew = w25 at HO187 HO192 BK181 BK182 BK193 HB HR194 hHeld ⊢
          refine pure_ (i := 0) (N := some 21) (v := ?_) (a' := ?_) #[true, false, false, false, false, false, false, false] rfl rfl (any_of HT_.out (by kernel_rfl)) (fun _ _ _ h => h) (Or.inl ⟨by rfl, ?_⟩) ?_ ?_
          rotate_left
          · intro w'
            go_simp
            with_reducible rfl
          rotate_left
          · simp only [Act.put, List.setIfInBounds_toArray, List.set_cons_zero, List.set_cons_succ, i64_w, i32_w]
            rfl
          refine pure_ (i := 2) (N := some 23) (v := ?_) (a' := ?_) #[true, false, true, false, false, false, false, false] rfl rfl (any_of HT_.out (by kernel_rfl)) (fun _ _ _ h => h) (Or.inl ⟨by rfl, ?_⟩) ?_ ?_
          rotate_left
          · intro w'
            go_simp
            with_reducible rfl
          rotate_left
          · simp only [Act.put, List.setIfInBounds_toArray, List.set_cons_zero, List.set_cons_succ, i64_w, i32_w]
            rfl
          refine pure_ (i := 3) (N := some 24) (v := ?_) (a' := ?_) #[true, false, true, true, false, false, false, false] rfl rfl (any_of HT_.out (by kernel_rfl)) (fun _ _ _ h => h) (Or.inl ⟨by rfl, ?_⟩) ?_ ?_
          rotate_left
          · intro w'
            go_simp
            with_reducible rfl
          rotate_left
          · simp only [Act.put, List.setIfInBounds_toArray, List.set_cons_zero, List.set_cons_succ, i64_w, i32_w]
            rfl
          refine pure_ (i := 4) (N := some 25) (v := ?_) (a' := ?_) #[true, false, true, true, true, false, false, false] rfl rfl (any_of HT_.out (by kernel_rfl)) (fun _ _ _ h => h) (Or.inl ⟨by rfl, ?_⟩) ?_ ?_
          rotate_left
          · intro w'
            go_simp
            with_reducible rfl
          rotate_left
          · simp only [Act.put, List.setIfInBounds_toArray, List.set_cons_zero, List.set_cons_succ, i64_w, i32_w]
            rfl
          refine take_ (i := 1) (N := some 22) (v := ?_) (a' := ?_) #[true, true, true, true, true, false, false, false] rfl rfl (take_ofW HT_.out HW_.out (by kernel_rfl)) (fun _ _ _ h => h) (Or.inl ⟨by rfl, ?_⟩) hHeld ?_ ?_
          rotate_left
          · rintro w' ⟨s0, s1, s2, s3, s4⟩
            go_simp
            with_reducible rfl
          rotate_left
          · simp only [Act.put, List.setIfInBounds_toArray, List.set_cons_zero, List.set_cons_succ, i64_w, i32_w]
            rfl
          refine one_ (i := 5) (N := some 26) #[true, true, true, true, true, true, false, false] rfl rfl (one_of HT_.out (by kernel_rfl)) (by decide) (fun K hK => ?_)
          refine Kd.R_append_rows_step (Kd.int .u8) (w0 := w) w.heap.size (by rfl) (.tmp 22) (.tmp 25) 22 5 (.int .u8 0) 1 rfl Try.underlying22 info5 rfl (by decide) (by omega) (.slice Ao21 t185.length co21) t185 (l1.take ((ji6) : Int).toNat) _ _ _ (fun _ => True) (fun _ => False) rfl rfl ?aO ?aR (fun _ _ h => h) (fun _ h => h.elim) ?aF ?aB ?aS ?aL ?_
          (case aR => first | (refine len_ (show (l1.take ((ji6) : Int).toNat).length = (ji6).toNat from (by rw [List.length_take]; have h_ : ((ji6) : Int) ≤ (l1.length : Int) := of_decide_eq_true (by first | (with_reducible assumption) | assumption); omega)) ?_; repeat (first | exact (Kd.C_below HR194.out HB.out) | (with_reducible refine Kd.C_alloc ?_ _) | (with_reducible refine Kd.C_drewN ?_ _) | (with_reducible refine Kd.C_drew ?_)); done) | (repeat (first | exact (Kd.C_below HR194.out HB.out) | (with_reducible refine Kd.C_alloc ?_ _) | (with_reducible refine Kd.C_drewN ?_ _) | (with_reducible refine Kd.C_drew ?_))))
          (case aB => exact (hb3_ HB.out GE181.out GE182.out GE193.out))
          (case aF => exact (fun _ _ => trivial))
          (case aO => exact (kR_ HO187.out))
          (case aS => exact (below_size (hb3_ HB.out GE181.out GE182.out GE193.out)))
          (case aL => have := LMc9.out; have hlx_ := (show (l1.take ((ji6) : Int).toNat).length = (ji6).toNat from (by rw [List.length_take]; have h_ : ((ji6) : Int) ≤ (l1.length : Int) := of_decide_eq_true (by first | (with_reducible assumption) | assumption); omega)); omega)
          intro v196 w27 ho hb hg hat
          rw [← Ny195.out] at ho
          have n0_ := Aside0.mk (blk_grown (g := gb181) (o := .cells #[.int .i64 a0_0, .slice A0_1 l0_1.length c0_1, .int .i64 a0_2, .int .i64 a0_3, .slice A0_4 l0_4.length c0_4] 25 (0, 0)) (kb_ BK181.out) hg (Kd.R_ne HO187.out BK181.out (by decide)))
          have n1_ := Aside0.mk (blk_grown (g := gb182) (o := .cells #[.int .i64 0, .slice none 0 0, .int .i64 0, .int .i64 0, .slice none 0 0] 25 (0, 0)) (kb_ BK182.out) hg (Kd.R_ne HO187.out BK182.out (by decide)))
          have n2_ := Aside0.mk (Kd.R_over' (kR_ HO192.out) (Kd.R_typed (kR_ HO187.out)) (by decide) hg)
          have n3_ := Aside0.mk (blk_grown (g := gb193) (o := .cells #[.int .i64 t184, .slice Ao21 t185.length co21, .int .i64 t188, .int .i64 t189, .slice Ao22 t190.length co22] 25 (0, 0)) (kb_ BK193.out) hg (Kd.R_ne HO187.out BK193.out (by decide)))
          have n4_ := Aside0.mk (hb)
          have n5_ := Aside0.mk (ho)
          clear BK181
          clear BK182
          clear HO192
          clear BK193
          clear HB
          clear HO187
          have BK181 := n0_
          have BK182 := n1_
          have HO192 := n2_
          have BK193 := n3_
          have HB := n4_
          have HO197 := n5_
          clear n0_ n1_ n2_ n3_ n4_ n5_
          clear ho hb hg hat
          obtain ⟨Ao28, co28, eo28⟩ := Kd.R_slice HO197.out
          (first | subst eo28 | (injection eo28 with f1_ f2_ f3_; have f4_ := f1_.symm; have f5_ := f3_.symm; clear f1_ f2_ f3_; subst f4_; subst f5_))
          refine hK.out _ _ ⟨(blk_cell BK193.out 0).trans rfl, (blk_cell BK193.out 1).trans rfl, (blk_cell BK193.out 2).trans rfl, (blk_cell BK193.out 3).trans rfl, (blk_cell BK193.out 4).trans rfl⟩ (fun hHeld => ?_)
          clear hK K
          refine norm_ (a' := ?_) ?_ ?_
          rotate_left
          · show Act.put _ (some 26) _ = _
            simp only [Act.put, List.setIfInBounds_toArray, List.set_cons_zero, List.set_cons_succ, i64_w, i32_w]
            rfl
          refine pure_ (i := 6) (N := some 27) (v := ?_) (a' := ?_) #[true, true, true, true, true, true, true, false] rfl rfl (any_of HT_.out (by kernel_rfl)) (fun _ _ _ h => h) (Or.inl ⟨by rfl, ?_⟩) ?_ ?_
          rotate_left
          · intro w'
            go_simp
            with_reducible rfl
          rotate_left
          · simp only [Act.put, List.setIfInBounds_toArray, List.set_cons_zero, List.set_cons_succ, i64_w, i32_w]
            rfl
          refine last_ (i := 7) (N := none) #[true, true, true, true, true, true, true, true] rfl rfl (one_of HT_.out (by kernel_rfl)) (by decide) (fun K hK => ?_)
          have hs29 : w27.cell? ⟨gb193, 1, none⟩ = some (.slice Ao21 t185.length co21) := (blk_cell BK193.out 1).trans rfl
          have hfs29 := blk_frozen BK193.out 1
          have hns29_0 := NB181_193.out
          have hns29_1 := NB182_193.out
          have hms29_0 := NB193_181.out
          have hms29_1 := NB193_182.out
          refine skip_ (w1 := ?_) (by rfl) rfl ?_ ?_
          rotate_left
          · go_simp
            rfl
          refine hK.out _ _ ?_
          clear hK K
          refine done_ (done_of HT_.out (by kernel_rfl)) ?_
          have hcz30_0 : w27.cell? ⟨gb193, 0, none⟩ = some (.int .i64 t184) := (blk_cell BK193.out 0).trans rfl
          have hcz30_1 : w27.cell? ⟨gb193, 1, none⟩ = some (.slice Ao21 t185.length co21) := (blk_cell BK193.out 1).trans rfl
          have hcz30_2 : w27.cell? ⟨gb193, 2, none⟩ = some (.int .i64 t188) := (blk_cell BK193.out 2).trans rfl
          have hcz30_3 : w27.cell? ⟨gb193, 3, none⟩ = some (.int .i64 t189) := (blk_cell BK193.out 3).trans rfl
          have hcz30_4 : w27.cell? ⟨gb193, 4, none⟩ = some (.slice Ao22 t190.length co22) := (blk_cell BK193.out 4).trans rfl
          have hfz30_0 := blk_frozen BK193.out 0
          have hfz30_1 := blk_frozen BK193.out 1
          have hfz30_2 := blk_frozen BK193.out 2
          have hfz30_3 := blk_frozen BK193.out 3
          have hfz30_4 := blk_frozen BK193.out 4
          have hcz31_0 : w27.cell? ⟨gb182, 0, none⟩ = some (.int .i64 0) := (blk_cell BK182.out 0).trans rfl
          have hcz31_1 : w27.cell? ⟨gb182, 1, none⟩ = some (.slice none 0 0) := (blk_cell BK182.out 1).trans rfl
          have hcz31_2 : w27.cell? ⟨gb182, 2, none⟩ = some (.int .i64 0) := (blk_cell BK182.out 2).trans rfl
          have hcz31_3 : w27.cell? ⟨gb182, 3, none⟩ = some (.int .i64 0) := (blk_cell BK182.out 3).trans rfl
          have hcz31_4 : w27.cell? ⟨gb182, 4, none⟩ = some (.slice none 0 0) := (blk_cell BK182.out 4).trans rfl
          have hfz31_0 := blk_frozen BK182.out 0
          have hfz31_1 := blk_frozen BK182.out 1
          have hfz31_2 := blk_frozen BK182.out 2
          have hfz31_3 := blk_frozen BK182.out 3
          have hfz31_4 := blk_frozen BK182.out 4
          try go_wp2
          refine bodyPost_ret (results_ct rfl _ _ gb182 25 #[.int .i64 t184, .slice Ao28 y195.length co28, .int .i64 t188, .int .i64 t189, .slice Ao22 t190.length co22] (0, 0) _ rfl (by refine kb_ ?_; refine blk_put (cs := #[.int .i64 t184, .slice Ao28 y195.length co28, .int .i64 t188, .int .i64 t189, .slice none 0 0]) ?_ 4 _ rfl; refine kb_ ?_; refine blk_put (cs := #[.int .i64 t184, .slice Ao28 y195.length co28, .int .i64 t188, .int .i64 0, .slice none 0 0]) ?_ 3 _ rfl; refine kb_ ?_; refine blk_put (cs := #[.int .i64 t184, .slice Ao28 y195.length co28, .int .i64 0, .int .i64 0, .slice none 0 0]) ?_ 2 _ rfl; refine kb_ ?_; refine blk_put (cs := #[.int .i64 t184, .slice none 0 0, .int .i64 0, .int .i64 0, .slice none 0 0]) ?_ 1 _ rfl; refine kb_ ?_; refine blk_put (cs := #[.int .i64 0, .slice none 0 0, .int .i64 0, .int .i64 0, .slice none 0 0]) ?_ 0 _ rfl; refine kb_ ?_; refine blk_far ?_ NB182_193.out _; refine kb_ ?_; exact BK182.out) Try.underlying25 rfl (by kernel_rfl)) rfl ?_
          exact ⟨_, _, by first | rfl | (simp [errW_none, errW_some] <;> rfl) | (simp only [← hji6]; first | rfl | (simp [errW_none, errW_some] <;> rfl)) | (simp [*, errW_none, errW_some] <;> rfl), by refine kR_ ?_; exact Kd.R_mono (Kd.R_f gb182 4 (.slice Ao22 t190.length co22) (Kd.R_f gb182 3 (.int .i64 t189) (Kd.R_f gb182 2 (.int .i64 t188) (Kd.R_f gb182 1 (.slice Ao28 y195.length co28) (Kd.R_f gb182 0 (.int .i64 t184) (Kd.R_far (p := ⟨gb193, 1, none⟩) (Kd.R_types (Kd.R_types HO197.out BK193.out (by decide)) BK182.out (by decide)) (fun _ hk => hk.1.2) (.slice Ao28 y195.length co28))))))) (fun _ hk => trivial), by refine kR_ ?_; exact Kd.R_mono (Kd.R_f gb182 4 (.slice Ao22 t190.length co22) (Kd.R_f gb182 3 (.int .i64 t189) (Kd.R_f gb182 2 (.int .i64 t188) (Kd.R_f gb182 1 (.slice Ao28 y195.length co28) (Kd.R_f gb182 0 (.int .i64 t184) (Kd.R_far (p := ⟨gb193, 1, none⟩) (Kd.R_types (Kd.R_types HO192.out BK193.out (by decide)) BK182.out (by decide)) (fun _ hk => hk.1.2) (.slice Ao28 y195.length co28))))))) (fun _ hk => trivial), by repeat (first | (with_reducible first | exact HB.out | apply below_alloc | apply pw_below_drewN | apply below_drew1 | refine below_set ?_ GE181.out | refine below_set ?_ GE182.out | refine below_set ?_ GE193.out) | exact HB.out)⟩
        · rw [if_neg c9] at H
          exact absurd H (by simp)
      · rw [if_neg c8] at H
        exact absurd H (by simp)
    · rw [if_neg c7] at H
      exact absurd H (by simp)
  · replace c4 := Bool.eq_false_iff.mpr c4
    subst c4
    have H1 : (some (0, ([] : List Int), 0, 0, ([] : List (S60)), 0)) = some (r1, r2, r3, r4, r5, r6) := by rw [if_neg (show ¬ (false = true) by decide)] at H; exact H
    clear H
    have H := H1
    clear H1
    simp only [Option.some.injEq, Prod.mk.injEq] at H
    obtain ⟨rfl, rfl, rfl, rfl, rfl, rfl⟩ := H
    go_enter Try.func8, Try.ntmps8
    go_wp2_with (first | ((with_reducible refine gate_dst (N := 2) rfl ?_); refine box_event ?hg (N := 2) ?hd (cs := #[.int .i64 a0_0, .slice A0_1 l0_1.length c0_1, .int .i64 a0_2, .int .i64 a0_3, .slice A0_4 l0_4.length c0_4]) (t := 25) ?hr ?_; (case hd => rfl); (case hg => rfl); (case hr => first | (go_simp; done) | (go_simp; rfl)); intro gb181 hg w32 hbox hb; have n0_ := Aside0.mk (below_step (hb0_ HB.out) hb); have n1_ := Aside0.mk (hbox); have n2_ := Aside0.mk ((by rw [hg]; exact (below_size (hb0_ HB.out)) : w.heap.size ≤ gb181)); have n3_ := Aside0.mk ((by rw [hg]; exact (below_size (hb0_ HB.out)) : w.heap.size ≤ gb181)); clear HB; have HB := n0_; have BK181 := n1_; have GW181 := n2_; have GE181 := n3_; clear n0_ n1_ n2_ n3_; clear hb hbox hg) | ((with_reducible refine gate_dst (N := 4) rfl ?_); refine box_event ?hg (N := 4) ?hd (cs := #[.int .i64 0, .slice none 0 0, .int .i64 0, .int .i64 0, .slice none 0 0]) (t := 25) ?hr ?_; (case hd => rfl); (case hg => rfl); (case hr => first | (go_simp; done) | (go_simp; rfl)); intro gb182 hg w33 hbox hb; have n0_ := Aside0.mk (blk_below (g := gb181) (o := .cells #[.int .i64 a0_0, .slice A0_1 l0_1.length c0_1, .int .i64 a0_2, .int .i64 a0_3, .slice A0_4 l0_4.length c0_4] 25 (0, 0)) (kb_ BK181.out) hb); have n1_ := Aside0.mk (below_step (hb1_ HB.out GE181.out) hb); have n2_ := Aside0.mk (hbox); have n3_ := Aside0.mk ((by rw [hg]; exact (below_size (hb1_ HB.out GE181.out)) : w.heap.size ≤ gb182)); have n4_ := Aside0.mk ((by rw [hg]; exact (below_size (hb1_ HB.out GE181.out)) : w.heap.size ≤ gb182)); have n5_ := Aside0.mk ((by rw [hg]; exact Nat.ne_of_lt (blk_lt (g := gb181) (o := .cells #[.int .i64 a0_0, .slice A0_1 l0_1.length c0_1, .int .i64 a0_2, .int .i64 a0_3, .slice A0_4 l0_4.length c0_4] 25 (0, 0)) (kb_ BK181.out)) : gb181 ≠ gb182)); have n6_ := Aside0.mk ((by rw [hg]; exact Nat.ne_of_gt (blk_lt (g := gb181) (o := .cells #[.int .i64 a0_0, .slice A0_1 l0_1.length c0_1, .int .i64 a0_2, .int .i64 a0_3, .slice A0_4 l0_4.length c0_4] 25 (0, 0)) (kb_ BK181.out)) : gb182 ≠ gb181)); clear BK181; clear HB; have BK181 := n0_; have HB := n1_; have BK182 := n2_; have GW182 := n3_; have GE182 := n4_; have NB181_182 := n5_; have NB182_181 := n6_; clear n0_ n1_ n2_ n3_ n4_ n5_ n6_; clear hb hbox hg; have hnb34 := NB181_182.out; have hnc34 := NB182_181.out; have hcz35_0 : w33.cell? ⟨gb181, 0, none⟩ = some (.int .i64 a0_0) := (blk_cell BK181.out 0).trans rfl; have hcz35_1 : w33.cell? ⟨gb181, 1, none⟩ = some (.slice A0_1 l0_1.length c0_1) := (blk_cell BK181.out 1).trans rfl; have hcz35_2 : w33.cell? ⟨gb181, 2, none⟩ = some (.int .i64 a0_2) := (blk_cell BK181.out 2).trans rfl; have hcz35_3 : w33.cell? ⟨gb181, 3, none⟩ = some (.int .i64 a0_3) := (blk_cell BK181.out 3).trans rfl; have hcz35_4 : w33.cell? ⟨gb181, 4, none⟩ = some (.slice A0_4 l0_4.length c0_4) := (blk_cell BK181.out 4).trans rfl; have hfz35_0 := blk_frozen BK181.out 0; have hfz35_1 := blk_frozen BK181.out 1; have hfz35_2 := blk_frozen BK181.out 2; have hfz35_3 := blk_frozen BK181.out 3; have hfz35_4 := blk_frozen BK181.out 4) | ((with_reducible refine gate_callee (f := 33) rfl ?_); refine goesL_ (some 9) rfl rfl Try.func33 (by kernel_rfl) rfl #[.agg #[.int .i64 a0_0, .slice A0_1 l0_1.length c0_1, .int .i64 a0_2, .int .i64 a0_3, .slice A0_4 l0_4.length c0_4]] rfl ar_ ?_; (with_reducible refine (spec_MouthOk.calls k a0_0 _ _ l0_1 a0_2 a0_3 _ _ l0_4 false _ ?side1 ?side2 ?side3 ?side4 A3.out).mono ?_); (case side1 => exact kC_ (Kd.C_below HR0_1.out HB.out)); (case side2 => exact HC0_1.out); (case side3 => exact kC_ (Kd.C_below HR0_4.out HB.out)); (case side4 => exact HC0_4.out); rintro e w36 ⟨rfl, hb⟩; refine ⟨_, rfl, ?_⟩; have n0_ := Aside0.mk (blk_below (g := gb181) (o := .cells #[.int .i64 a0_0, .slice A0_1 l0_1.length c0_1, .int .i64 a0_2, .int .i64 a0_3, .slice A0_4 l0_4.length c0_4] 25 (0, 0)) (kb_ BK181.out) hb); have n1_ := Aside0.mk (blk_below (g := gb182) (o := .cells #[.int .i64 0, .slice none 0 0, .int .i64 0, .int .i64 0, .slice none 0 0] 25 (0, 0)) (kb_ BK182.out) hb); have n2_ := Aside0.mk (below_step (hb2_ HB.out GE181.out GE182.out) hb); clear BK181; clear BK182; clear HB; have BK181 := n0_; have BK182 := n1_; have HB := n2_; clear n0_ n1_ n2_; (try clear hb); (try clear hb2); (try clear hk); (try clear hi); have hcz37_0 : w36.cell? ⟨gb182, 0, none⟩ = some (.int .i64 0) := (blk_cell BK182.out 0).trans rfl; have hcz37_1 : w36.cell? ⟨gb182, 1, none⟩ = some (.slice none 0 0) := (blk_cell BK182.out 1).trans rfl; have hcz37_2 : w36.cell? ⟨gb182, 2, none⟩ = some (.int .i64 0) := (blk_cell BK182.out 2).trans rfl; have hcz37_3 : w36.cell? ⟨gb182, 3, none⟩ = some (.int .i64 0) := (blk_cell BK182.out 3).trans rfl; have hcz37_4 : w36.cell? ⟨gb182, 4, none⟩ = some (.slice none 0 0) := (blk_cell BK182.out 4).trans rfl; have hfz37_0 := blk_frozen BK182.out 0; have hfz37_1 := blk_frozen BK182.out 1; have hfz37_2 := blk_frozen BK182.out 2; have hfz37_3 := blk_frozen BK182.out 3; have hfz37_4 := blk_frozen BK182.out 4))
    refine bodyPost_ret (results_ct rfl _ _ gb182 25 #[.int .i64 0, .slice none 0 0, .int .i64 0, .int .i64 0, .slice none 0 0] (0, 0) _ rfl (by refine kb_ ?_; refine blk_put (cs := #[.int .i64 0, .slice none 0 0, .int .i64 0, .int .i64 0, .slice none 0 0]) ?_ 4 _ rfl; refine kb_ ?_; refine blk_put (cs := #[.int .i64 0, .slice none 0 0, .int .i64 0, .int .i64 0, .slice none 0 0]) ?_ 3 _ rfl; refine kb_ ?_; refine blk_put (cs := #[.int .i64 0, .slice none 0 0, .int .i64 0, .int .i64 0, .slice none 0 0]) ?_ 2 _ rfl; refine kb_ ?_; refine blk_put (cs := #[.int .i64 0, .slice none 0 0, .int .i64 0, .int .i64 0, .slice none 0 0]) ?_ 1 _ rfl; refine kb_ ?_; refine blk_put (cs := #[.int .i64 0, .slice none 0 0, .int .i64 0, .int .i64 0, .slice none 0 0]) ?_ 0 _ rfl; refine kb_ ?_; exact BK182.out) Try.underlying25 rfl (by kernel_rfl)) rfl ?_
    exact ⟨_, _, by first | rfl | (simp [errW_none, errW_some] <;> rfl) | (simp [*, errW_none, errW_some] <;> rfl), by first | exact Kd.R_nil _ _ _ _ _ | exact Kd.N_nil _ _ _ _ _ | exact Kd.V_nil _ _ _ _ _ | exact Kd.Q_nil _ _ _ _ _ | exact Kd.S_nil _ _ _ _ _, by first | exact Kd.R_nil _ _ _ _ _ | exact Kd.N_nil _ _ _ _ _ | exact Kd.V_nil _ _ _ _ _ | exact Kd.Q_nil _ _ _ _ _ | exact Kd.S_nil _ _ _ _ _, by repeat (first | (with_reducible first | exact HB.out | apply below_alloc | apply pw_below_drewN | apply below_drew1 | refine below_set ?_ GE181.out | refine below_set ?_ GE182.out) | exact HB.out)⟩

/-! ### laws_szRangeS: function 14 -/
def laws_szRangeS.f (l0 : List (S64)) (a1 : Int) : Option (Int) := if (wrap64 (a1 - (l0.length : Int))) < 0 then (some (-1)) else (some (wrap64 (a1 - (l0.length : Int))))
set_option maxHeartbeats 8000000 in
set_option maxRecDepth 100000 in
theorem laws_szRangeS.calls (A0 : Option Addr) (c0 : Nat) (l0 : List (S64)) (a1 : Int) (r : Int) (w : World) (hr0 : Kd.C k64 w A0 l0.length l0) (hc0 : l0.length ≤ c0) (h : laws_szRangeS.f l0 a1 = some r) :
    Calls Try.prog 14 #[.slice A0 l0.length c0, .int .i64 a1] w fun e w' => e = .returned (.int .i64 r) ∧ Drawn0 w w' := by
  have HR0 := Aside0.mk hr0
  have HC0 := Aside0.mk hc0
  clear hr0 hc0
  have H : (if (wrap64 (a1 - (l0.length : Int))) < 0 then (some (-1)) else (some (wrap64 (a1 - (l0.length : Int))))) = some r := h
  clear h
  by_cases c3 : (wrap64 (a1 - (l0.length : Int))) < 0
  · rw [if_pos c3] at H
    have c3b0 : decide ((wrap64 (a1 - (l0.length : Int))) < 0) = true := decide_eq_true c3
    clear c3
    obtain rfl := Option.some.inj H
    go_enter Try.func14, Try.ntmps14
    go_wp2
    go_ret
    exact ⟨by first | rfl | (simp; done) | (simp [*]; done), by repeat (first | exact Drawn0.refl _ | apply Drawn0.step)⟩
  · rw [if_neg c3] at H
    have c3b0 : decide ((wrap64 (a1 - (l0.length : Int))) < 0) = false := decide_eq_false c3
    clear c3
    obtain rfl := Option.some.inj H
    go_enter Try.func14, Try.ntmps14
    go_wp2
    go_ret
    exact ⟨by first | rfl | (simp; done) | (simp [*]; done), by repeat (first | exact Drawn0.refl _ | apply Drawn0.step)⟩

/-! ### laws_szByteS: function 40 -/
def laws_szByteS.f (l0 : List Int) (a1 : Int) : Option (Int) := if (wrap64 (a1 - (l0.length : Int))) < 0 then (some (-1)) else (some (wrap64 (a1 - (l0.length : Int))))
set_option maxHeartbeats 8000000 in
set_option maxRecDepth 100000 in
theorem laws_szByteS.calls (A0 : Option Addr) (c0 : Nat) (l0 : List Int) (a1 : Int) (r : Int) (w : World) (hr0 : Kd.C (Kd.int .u8) w A0 l0.length l0) (hc0 : l0.length ≤ c0) (h : laws_szByteS.f l0 a1 = some r) :
    Calls Try.prog 40 #[.slice A0 l0.length c0, .int .i64 a1] w fun e w' => e = .returned (.int .i64 r) ∧ Drawn0 w w' := by
  have HR0 := Aside0.mk hr0
  have HC0 := Aside0.mk hc0
  clear hr0 hc0
  have H : (if (wrap64 (a1 - (l0.length : Int))) < 0 then (some (-1)) else (some (wrap64 (a1 - (l0.length : Int))))) = some r := h
  clear h
  by_cases c3 : (wrap64 (a1 - (l0.length : Int))) < 0
  · rw [if_pos c3] at H
    have c3b0 : decide ((wrap64 (a1 - (l0.length : Int))) < 0) = true := decide_eq_true c3
    clear c3
    obtain rfl := Option.some.inj H
    go_enter Try.func40, Try.ntmps40
    go_wp2
    go_ret
    exact ⟨by first | rfl | (simp; done) | (simp [*]; done), by repeat (first | exact Drawn0.refl _ | apply Drawn0.step)⟩
  · rw [if_neg c3] at H
    have c3b0 : decide ((wrap64 (a1 - (l0.length : Int))) < 0) = false := decide_eq_false c3
    clear c3
    obtain rfl := Option.some.inj H
    go_enter Try.func40, Try.ntmps40
    go_wp2
    go_ret
    exact ⟨by first | rfl | (simp; done) | (simp [*]; done), by repeat (first | exact Drawn0.refl _ | apply Drawn0.step)⟩

/-! ### laws_szMouth: function 13 -/
def laws_szMouth.f (a0_0 : Int) (l0_1 : List Int) (a0_2 : Int) (a0_3 : Int) (l0_4 : List (S64)) (a1 : Int) : Option (Int) := (laws_szByteS.f l0_1 a1).bind fun t199 => (if t199 < 0 then (some (-1)) else ((laws_szRangeS.f l0_4 t199).bind fun t200 => (if t200 < 0 then (some (-1)) else (some t200))))
set_option maxHeartbeats 8000000 in
set_option maxRecDepth 100000 in
theorem laws_szMouth.calls (a0_0 : Int) (A0_1 : Option Addr) (c0_1 : Nat) (l0_1 : List Int) (a0_2 : Int) (a0_3 : Int) (A0_4 : Option Addr) (c0_4 : Nat) (l0_4 : List (S64)) (a1 : Int) (r : Int) (w : World) (hr0_1 : Kd.C (Kd.int .u8) w A0_1 l0_1.length l0_1) (hc0_1 : l0_1.length ≤ c0_1) (hr0_4 : Kd.C k64 w A0_4 l0_4.length l0_4) (hc0_4 : l0_4.length ≤ c0_4) (h : laws_szMouth.f a0_0 l0_1 a0_2 a0_3 l0_4 a1 = some r) :
    Calls Try.prog 13 #[.agg #[.int .i64 a0_0, .slice A0_1 l0_1.length c0_1, .int .i64 a0_2, .int .i64 a0_3, .slice A0_4 l0_4.length c0_4], .int .i64 a1] w fun e w' => e = .returned (.int .i64 r) ∧ Below w.heap.size w w' := by
  have hu37 := Try.underlying37
  have HR0_1 := Aside0.mk hr0_1
  have HC0_1 := Aside0.mk hc0_1
  clear hr0_1 hc0_1
  have HR0_4 := Aside0.mk hr0_4
  have HC0_4 := Aside0.mk hc0_4
  clear hr0_4 hc0_4
  have HB := Aside0.mk (Below.refl w.heap.size w)
  have H : ((laws_szByteS.f l0_1 a1).bind fun t199 => (if t199 < 0 then (some (-1)) else ((laws_szRangeS.f l0_4 t199).bind fun t200 => (if t200 < 0 then (some (-1)) else (some t200))))) = some r := h
  clear h
  replace H := Option.bind_eq_some_iff.mp H
  obtain ⟨t199, A30, H⟩ := H
  replace H : (if t199 < 0 then (some (-1)) else ((laws_szRangeS.f l0_4 t199).bind fun t200 => (if t200 < 0 then (some (-1)) else (some t200)))) = some r := H
  have A3 := Aside0.mk A30
  clear A30
  by_cases c4 : t199 < 0
  · rw [if_pos c4] at H
    have c4b0 : decide (t199 < 0) = true := decide_eq_true c4
    clear c4
    obtain rfl := Option.some.inj H
    go_enter Try.func13, Try.ntmps13
    go_wp2_with (first | ((with_reducible refine gate_dst (N := 2) rfl ?_); refine box_event ?hg (N := 2) ?hd (cs := #[.int .i64 a0_0, .slice A0_1 l0_1.length c0_1, .int .i64 a0_2, .int .i64 a0_3, .slice A0_4 l0_4.length c0_4]) (t := 37) ?hr ?_; (case hd => rfl); (case hg => rfl); (case hr => first | (go_simp; done) | (go_simp; rfl)); intro gb198 hg w5 hbox hb; have n0_ := Aside0.mk (below_step (hb0_ HB.out) hb); have n1_ := Aside0.mk (hbox); have n2_ := Aside0.mk ((by rw [hg]; exact (below_size (hb0_ HB.out)) : w.heap.size ≤ gb198)); have n3_ := Aside0.mk ((by rw [hg]; exact (below_size (hb0_ HB.out)) : w.heap.size ≤ gb198)); clear HB; have HB := n0_; have BK198 := n1_; have GW198 := n2_; have GE198 := n3_; clear n0_ n1_ n2_ n3_; clear hb hbox hg; have hcz6_0 : w5.cell? ⟨gb198, 0, none⟩ = some (.int .i64 a0_0) := (blk_cell BK198.out 0).trans rfl; have hcz6_1 : w5.cell? ⟨gb198, 1, none⟩ = some (.slice A0_1 l0_1.length c0_1) := (blk_cell BK198.out 1).trans rfl; have hcz6_2 : w5.cell? ⟨gb198, 2, none⟩ = some (.int .i64 a0_2) := (blk_cell BK198.out 2).trans rfl; have hcz6_3 : w5.cell? ⟨gb198, 3, none⟩ = some (.int .i64 a0_3) := (blk_cell BK198.out 3).trans rfl; have hcz6_4 : w5.cell? ⟨gb198, 4, none⟩ = some (.slice A0_4 l0_4.length c0_4) := (blk_cell BK198.out 4).trans rfl; have hfz6_0 := blk_frozen BK198.out 0; have hfz6_1 := blk_frozen BK198.out 1; have hfz6_2 := blk_frozen BK198.out 2; have hfz6_3 := blk_frozen BK198.out 3; have hfz6_4 := blk_frozen BK198.out 4) | ((with_reducible refine gate_callee (f := 40) rfl ?_); refine goesL_ (some 8) rfl rfl Try.func40 (by kernel_rfl) rfl #[.slice A0_1 l0_1.length c0_1, .int .i64 a1] rfl ar_ ?_; (with_reducible refine (laws_szByteS.calls _ _ l0_1 a1 t199 _ ?side1 ?side2 A3.out).mono ?_); (case side1 => exact kC_ (Kd.C_below HR0_1.out HB.out)); (case side2 => exact HC0_1.out); rintro e w' ⟨rfl, ⟨nd, rfl⟩⟩; refine ⟨_, rfl, ?_⟩))
    go_ret
    exact ⟨by first | rfl | (simp [errW_none, errW_some] <;> rfl) | (simp [*, errW_none, errW_some] <;> rfl), by repeat (first | (with_reducible first | exact HB.out | apply below_alloc | apply pw_below_drewN | apply below_drew1 | refine below_set ?_ GE198.out) | exact HB.out)⟩
  · rw [if_neg c4] at H
    have c4b0 : decide (t199 < 0) = false := decide_eq_false c4
    clear c4
    replace H := Option.bind_eq_some_iff.mp H
    obtain ⟨t200, A70, H⟩ := H
    replace H : (if t200 < 0 then (some (-1)) else (some t200)) = some r := H
    have A7 := Aside0.mk A70
    clear A70
    by_cases c8 : t200 < 0
    · rw [if_pos c8] at H
      have c8b0 : decide (t200 < 0) = true := decide_eq_true c8
      clear c8
      obtain rfl := Option.some.inj H
      go_enter Try.func13, Try.ntmps13
      go_wp2_with (first | ((with_reducible refine gate_dst (N := 2) rfl ?_); refine box_event ?hg (N := 2) ?hd (cs := #[.int .i64 a0_0, .slice A0_1 l0_1.length c0_1, .int .i64 a0_2, .int .i64 a0_3, .slice A0_4 l0_4.length c0_4]) (t := 37) ?hr ?_; (case hd => rfl); (case hg => rfl); (case hr => first | (go_simp; done) | (go_simp; rfl)); intro gb198 hg w9 hbox hb; have n0_ := Aside0.mk (below_step (hb0_ HB.out) hb); have n1_ := Aside0.mk (hbox); have n2_ := Aside0.mk ((by rw [hg]; exact (below_size (hb0_ HB.out)) : w.heap.size ≤ gb198)); have n3_ := Aside0.mk ((by rw [hg]; exact (below_size (hb0_ HB.out)) : w.heap.size ≤ gb198)); clear HB; have HB := n0_; have BK198 := n1_; have GW198 := n2_; have GE198 := n3_; clear n0_ n1_ n2_ n3_; clear hb hbox hg; have hcz10_0 : w9.cell? ⟨gb198, 0, none⟩ = some (.int .i64 a0_0) := (blk_cell BK198.out 0).trans rfl; have hcz10_1 : w9.cell? ⟨gb198, 1, none⟩ = some (.slice A0_1 l0_1.length c0_1) := (blk_cell BK198.out 1).trans rfl; have hcz10_2 : w9.cell? ⟨gb198, 2, none⟩ = some (.int .i64 a0_2) := (blk_cell BK198.out 2).trans rfl; have hcz10_3 : w9.cell? ⟨gb198, 3, none⟩ = some (.int .i64 a0_3) := (blk_cell BK198.out 3).trans rfl; have hcz10_4 : w9.cell? ⟨gb198, 4, none⟩ = some (.slice A0_4 l0_4.length c0_4) := (blk_cell BK198.out 4).trans rfl; have hfz10_0 := blk_frozen BK198.out 0; have hfz10_1 := blk_frozen BK198.out 1; have hfz10_2 := blk_frozen BK198.out 2; have hfz10_3 := blk_frozen BK198.out 3; have hfz10_4 := blk_frozen BK198.out 4) | ((with_reducible refine gate_callee (f := 40) rfl ?_); refine goesL_ (some 8) rfl rfl Try.func40 (by kernel_rfl) rfl #[.slice A0_1 l0_1.length c0_1, .int .i64 a1] rfl ar_ ?_; (with_reducible refine (laws_szByteS.calls _ _ l0_1 a1 t199 _ ?side1 ?side2 A3.out).mono ?_); (case side1 => exact kC_ (Kd.C_below HR0_1.out HB.out)); (case side2 => exact HC0_1.out); rintro e w' ⟨rfl, ⟨nd, rfl⟩⟩; refine ⟨_, rfl, ?_⟩) | ((with_reducible refine gate_callee (f := 14) rfl ?_); refine goesL_ (some 14) rfl rfl Try.func14 (by kernel_rfl) rfl #[.slice A0_4 l0_4.length c0_4, .int .i64 t199] rfl ar_ ?_; (with_reducible refine (laws_szRangeS.calls _ _ l0_4 t199 t200 _ ?side1 ?side2 A7.out).mono ?_); (case side1 => exact kC_ (Kd.C_below HR0_4.out (hb1_ HB.out GE198.out))); (case side2 => exact HC0_4.out); rintro e w' ⟨rfl, ⟨nd, rfl⟩⟩; refine ⟨_, rfl, ?_⟩))
      go_ret
      exact ⟨by first | rfl | (simp [errW_none, errW_some] <;> rfl) | (simp [*, errW_none, errW_some] <;> rfl), by repeat (first | (with_reducible first | exact HB.out | apply below_alloc | apply pw_below_drewN | apply below_drew1 | refine below_set ?_ GE198.out) | exact HB.out)⟩
    · rw [if_neg c8] at H
      have c8b0 : decide (t200 < 0) = false := decide_eq_false c8
      clear c8
      obtain rfl := Option.some.inj H
      go_enter Try.func13, Try.ntmps13
      go_wp2_with (first | ((with_reducible refine gate_dst (N := 2) rfl ?_); refine box_event ?hg (N := 2) ?hd (cs := #[.int .i64 a0_0, .slice A0_1 l0_1.length c0_1, .int .i64 a0_2, .int .i64 a0_3, .slice A0_4 l0_4.length c0_4]) (t := 37) ?hr ?_; (case hd => rfl); (case hg => rfl); (case hr => first | (go_simp; done) | (go_simp; rfl)); intro gb198 hg w11 hbox hb; have n0_ := Aside0.mk (below_step (hb0_ HB.out) hb); have n1_ := Aside0.mk (hbox); have n2_ := Aside0.mk ((by rw [hg]; exact (below_size (hb0_ HB.out)) : w.heap.size ≤ gb198)); have n3_ := Aside0.mk ((by rw [hg]; exact (below_size (hb0_ HB.out)) : w.heap.size ≤ gb198)); clear HB; have HB := n0_; have BK198 := n1_; have GW198 := n2_; have GE198 := n3_; clear n0_ n1_ n2_ n3_; clear hb hbox hg; have hcz12_0 : w11.cell? ⟨gb198, 0, none⟩ = some (.int .i64 a0_0) := (blk_cell BK198.out 0).trans rfl; have hcz12_1 : w11.cell? ⟨gb198, 1, none⟩ = some (.slice A0_1 l0_1.length c0_1) := (blk_cell BK198.out 1).trans rfl; have hcz12_2 : w11.cell? ⟨gb198, 2, none⟩ = some (.int .i64 a0_2) := (blk_cell BK198.out 2).trans rfl; have hcz12_3 : w11.cell? ⟨gb198, 3, none⟩ = some (.int .i64 a0_3) := (blk_cell BK198.out 3).trans rfl; have hcz12_4 : w11.cell? ⟨gb198, 4, none⟩ = some (.slice A0_4 l0_4.length c0_4) := (blk_cell BK198.out 4).trans rfl; have hfz12_0 := blk_frozen BK198.out 0; have hfz12_1 := blk_frozen BK198.out 1; have hfz12_2 := blk_frozen BK198.out 2; have hfz12_3 := blk_frozen BK198.out 3; have hfz12_4 := blk_frozen BK198.out 4) | ((with_reducible refine gate_callee (f := 40) rfl ?_); refine goesL_ (some 8) rfl rfl Try.func40 (by kernel_rfl) rfl #[.slice A0_1 l0_1.length c0_1, .int .i64 a1] rfl ar_ ?_; (with_reducible refine (laws_szByteS.calls _ _ l0_1 a1 t199 _ ?side1 ?side2 A3.out).mono ?_); (case side1 => exact kC_ (Kd.C_below HR0_1.out HB.out)); (case side2 => exact HC0_1.out); rintro e w' ⟨rfl, ⟨nd, rfl⟩⟩; refine ⟨_, rfl, ?_⟩) | ((with_reducible refine gate_callee (f := 14) rfl ?_); refine goesL_ (some 14) rfl rfl Try.func14 (by kernel_rfl) rfl #[.slice A0_4 l0_4.length c0_4, .int .i64 t199] rfl ar_ ?_; (with_reducible refine (laws_szRangeS.calls _ _ l0_4 t199 t200 _ ?side1 ?side2 A7.out).mono ?_); (case side1 => exact kC_ (Kd.C_below HR0_4.out (hb1_ HB.out GE198.out))); (case side2 => exact HC0_4.out); rintro e w' ⟨rfl, ⟨nd, rfl⟩⟩; refine ⟨_, rfl, ?_⟩))
      go_ret
      exact ⟨by first | rfl | (simp [errW_none, errW_some] <;> rfl) | (simp [*, errW_none, errW_some] <;> rfl), by repeat (first | (with_reducible first | exact HB.out | apply below_alloc | apply pw_below_drewN | apply below_drew1 | refine below_set ?_ GE198.out) | exact HB.out)⟩

/-! ### laws_toRange: function 42 -/
def laws_toRange.f (a0_0 : Int) (a0_1 : Int) : Option (Int × Int) := some (a0_0, a0_1)
set_option maxHeartbeats 8000000 in
set_option maxRecDepth 100000 in
theorem laws_toRange.calls (a0_0 : Int) (a0_1 : Int) (r1 : Int) (r2 : Int) (w : World) (h : laws_toRange.f a0_0 a0_1 = some (r1, r2)) :
    Calls Try.prog 42 #[.agg #[.int .i64 a0_0, .int .i64 a0_1]] w fun e w' => e = .returned (.agg #[.int .i64 r1, .int .i64 r2]) ∧ Below w.heap.size w w' := by
  have hu64 := Try.underlying64
  have hu60 := Try.underlying60
  have HB := Aside0.mk (Below.refl w.heap.size w)
  have H : (some (a0_0, a0_1)) = some (r1, r2) := h
  clear h
  simp only [Option.some.injEq, Prod.mk.injEq] at H
  obtain ⟨rfl, rfl⟩ := H
  go_enter Try.func42, Try.ntmps42
  go_wp2_with (first | ((with_reducible refine gate_dst (N := 1) rfl ?_); refine box_event ?hg (N := 1) ?hd (cs := #[.int .i64 a0_0, .int .i64 a0_1]) (t := 64) ?hr ?_; (case hd => rfl); (case hg => rfl); (case hr => first | (go_simp; done) | (go_simp; rfl)); intro gb201 hg w2 hbox hb; have n0_ := Aside0.mk (below_step (hb0_ HB.out) hb); have n1_ := Aside0.mk (hbox); have n2_ := Aside0.mk ((by rw [hg]; exact (below_size (hb0_ HB.out)) : w.heap.size ≤ gb201)); have n3_ := Aside0.mk ((by rw [hg]; exact (below_size (hb0_ HB.out)) : w.heap.size ≤ gb201)); clear HB; have HB := n0_; have BK201 := n1_; have GW201 := n2_; have GE201 := n3_; clear n0_ n1_ n2_ n3_; clear hb hbox hg) | ((with_reducible refine gate_dst (N := 2) rfl ?_); refine box_event ?hg (N := 2) ?hd (cs := #[.int .i64 0, .int .i64 0]) (t := 60) ?hr ?_; (case hd => rfl); (case hg => rfl); (case hr => first | (go_simp; done) | (go_simp; rfl)); intro gb202 hg w3 hbox hb; have n0_ := Aside0.mk (blk_below (g := gb201) (o := .cells #[.int .i64 a0_0, .int .i64 a0_1] 64 (0, 0)) (kb_ BK201.out) hb); have n1_ := Aside0.mk (below_step (hb1_ HB.out GE201.out) hb); have n2_ := Aside0.mk (hbox); have n3_ := Aside0.mk ((by rw [hg]; exact (below_size (hb1_ HB.out GE201.out)) : w.heap.size ≤ gb202)); have n4_ := Aside0.mk ((by rw [hg]; exact (below_size (hb1_ HB.out GE201.out)) : w.heap.size ≤ gb202)); have n5_ := Aside0.mk ((by rw [hg]; exact Nat.ne_of_lt (blk_lt (g := gb201) (o := .cells #[.int .i64 a0_0, .int .i64 a0_1] 64 (0, 0)) (kb_ BK201.out)) : gb201 ≠ gb202)); have n6_ := Aside0.mk ((by rw [hg]; exact Nat.ne_of_gt (blk_lt (g := gb201) (o := .cells #[.int .i64 a0_0, .int .i64 a0_1] 64 (0, 0)) (kb_ BK201.out)) : gb202 ≠ gb201)); clear BK201; clear HB; have BK201 := n0_; have HB := n1_; have BK202 := n2_; have GW202 := n3_; have GE202 := n4_; have NB201_202 := n5_; have NB202_201 := n6_; clear n0_ n1_ n2_ n3_ n4_ n5_ n6_; clear hb hbox hg) | ((with_reducible refine gate_dst (N := 3) rfl ?_); refine box_event ?hg (N := 3) ?hd (cs := #[.int .i64 0, .int .i64 0]) (t := 60) ?hr ?_; (case hd => rfl); (case hg => rfl); (case hr => first | (go_simp; done) | (go_simp; rfl)); intro gb203 hg w4 hbox hb; have n0_ := Aside0.mk (blk_below (g := gb201) (o := .cells #[.int .i64 a0_0, .int .i64 a0_1] 64 (0, 0)) (kb_ BK201.out) hb); have n1_ := Aside0.mk (blk_below (g := gb202) (o := .cells #[.int .i64 0, .int .i64 0] 60 (0, 0)) (kb_ BK202.out) hb); have n2_ := Aside0.mk (below_step (hb2_ HB.out GE201.out GE202.out) hb); have n3_ := Aside0.mk (hbox); have n4_ := Aside0.mk ((by rw [hg]; exact (below_size (hb2_ HB.out GE201.out GE202.out)) : w.heap.size ≤ gb203)); have n5_ := Aside0.mk ((by rw [hg]; exact (below_size (hb2_ HB.out GE201.out GE202.out)) : w.heap.size ≤ gb203)); have n6_ := Aside0.mk ((by rw [hg]; exact Nat.ne_of_lt (blk_lt (g := gb201) (o := .cells #[.int .i64 a0_0, .int .i64 a0_1] 64 (0, 0)) (kb_ BK201.out)) : gb201 ≠ gb203)); have n7_ := Aside0.mk ((by rw [hg]; exact Nat.ne_of_gt (blk_lt (g := gb201) (o := .cells #[.int .i64 a0_0, .int .i64 a0_1] 64 (0, 0)) (kb_ BK201.out)) : gb203 ≠ gb201)); have n8_ := Aside0.mk ((by rw [hg]; exact Nat.ne_of_lt (blk_lt (g := gb202) (o := .cells #[.int .i64 0, .int .i64 0] 60 (0, 0)) (kb_ BK202.out)) : gb202 ≠ gb203)); have n9_ := Aside0.mk ((by rw [hg]; exact Nat.ne_of_gt (blk_lt (g := gb202) (o := .cells #[.int .i64 0, .int .i64 0] 60 (0, 0)) (kb_ BK202.out)) : gb203 ≠ gb202)); clear BK201; clear BK202; clear HB; have BK201 := n0_; have BK202 := n1_; have HB := n2_; have BK203 := n3_; have GW203 := n4_; have GE203 := n5_; have NB201_203 := n6_; have NB203_201 := n7_; have NB202_203 := n8_; have NB203_202 := n9_; clear n0_ n1_ n2_ n3_ n4_ n5_ n6_ n7_ n8_ n9_; clear hb hbox hg; have hnb5 := NB201_202.out; have hnc5 := NB202_201.out; have hnb6 := NB201_203.out; have hnc6 := NB203_201.out; have hcz7_0 : w4.cell? ⟨gb201, 0, none⟩ = some (.int .i64 a0_0) := (blk_cell BK201.out 0).trans rfl; have hcz7_1 : w4.cell? ⟨gb201, 1, none⟩ = some (.int .i64 a0_1) := (blk_cell BK201.out 1).trans rfl; have hfz7_0 := blk_frozen BK201.out 0; have hfz7_1 := blk_frozen BK201.out 1; have hnb8 := NB203_202.out; have hnc8 := NB202_203.out; have hcz9_0 : w4.cell? ⟨gb203, 0, none⟩ = some (.int .i64 0) := (blk_cell BK203.out 0).trans rfl; have hcz9_1 : w4.cell? ⟨gb203, 1, none⟩ = some (.int .i64 0) := (blk_cell BK203.out 1).trans rfl; have hfz9_0 := blk_frozen BK203.out 0; have hfz9_1 := blk_frozen BK203.out 1; have hcz10_0 : w4.cell? ⟨gb202, 0, none⟩ = some (.int .i64 0) := (blk_cell BK202.out 0).trans rfl; have hcz10_1 : w4.cell? ⟨gb202, 1, none⟩ = some (.int .i64 0) := (blk_cell BK202.out 1).trans rfl; have hfz10_0 := blk_frozen BK202.out 0; have hfz10_1 := blk_frozen BK202.out 1))
  refine bodyPost_ret (results_cell_row rfl _ _ gb202 60 #[.int .i64 a0_0, .int .i64 a0_1] (0, 0) _ rfl (by refine kb_ ?_; refine blk_put (cs := #[.int .i64 a0_0, .int .i64 0]) ?_ 1 _ rfl; refine kb_ ?_; refine blk_put (cs := #[.int .i64 0, .int .i64 0]) ?_ 0 _ rfl; refine kb_ ?_; refine blk_far ?_ NB202_203.out _; refine kb_ ?_; refine blk_far ?_ NB202_203.out _; refine kb_ ?_; exact BK202.out) Try.underlying60 rfl (by kernel_rfl)) rfl ?_
  exact ⟨by first | rfl | (simp [errW_none, errW_some] <;> rfl) | (simp [*, errW_none, errW_some] <;> rfl), by repeat (first | (with_reducible first | exact HB.out | apply below_alloc | apply pw_below_drewN | apply below_drew1 | refine below_set ?_ GE201.out | refine below_set ?_ GE202.out | refine below_set ?_ GE203.out) | exact HB.out)⟩

/-! ### laws_toRangeS: function 17 -/
def laws_toRangeS.l0 : Nat → List (S64) → List (S60) → Int → Option ((List (S60)))
  | 0, _, _, _ => none
  | k + 1, x0, x3, x4 => if x4 < (x0.length : Int) then (if 0 ≤ x4 then ((laws_toRange.f ((rd_T64 x0 x4).f0) ((rd_T64 x0 x4).f1)).bind fun bt208 => (if x4 < (x3.length : Int) then (laws_toRangeS.l0 k x0 (x3.set (x4 : Int).toNat (⟨bt208.1, bt208.2⟩ : S60)) (wrap64 (x4 + 1))) else (none))) else (none)) else (some x3)
def laws_toRangeS.f (k : Nat) (l0 : List (S64)) : Option ((List (S60))) := if 0 ≤ (l0.length : Int) then (if ((l0.length : Int) : Int).toNat ≤ 17592186044416 then (laws_toRangeS.l0 k l0 (List.replicate ((l0.length : Int) : Int).toNat z60) 0) else (none)) else (none)
theorem laws_toRangeS.mono_l : ∀ k, (∀ y0 y1 y2, LeO (laws_toRangeS.l0 k y0 y1 y2) (laws_toRangeS.l0 (k + 1) y0 y1 y2))
  | 0 => fun _ _ _ r h => by simp [laws_toRangeS.l0] at h
  | k + 1 => by
    have ih0 := laws_toRangeS.mono_l k
    · intro y0 y1 y2
      unfold laws_toRangeS.l0
      repeat' first
      | (with_reducible exact ih0 _ _ _)
      | (with_reducible exact LeO.refl _)
      | (with_reducible exact LeO.none _)
      | (with_reducible refine LeO.ite ?_ ?_)
      | (with_reducible refine LeO.bind ?_ (fun _ => ?_))
      | exact ih0 _ _ _
      | exact LeO.none _
      | refine LeO.ite ?_ ?_
      | refine LeO.bind ?_ (fun _ => ?_)
theorem laws_toRangeS.mono : ∀ a0 k, LeO (laws_toRangeS.f k a0) (laws_toRangeS.f (k + 1) a0) := by
  intro a0 k
  have ih0 := laws_toRangeS.mono_l k
  unfold laws_toRangeS.f
  repeat' first
      | (with_reducible exact ih0 _ _ _)
      | (with_reducible exact LeO.refl _)
      | (with_reducible exact LeO.none _)
      | (with_reducible refine LeO.ite ?_ ?_)
      | (with_reducible refine LeO.bind ?_ (fun _ => ?_))
      | exact ih0 _ _ _
      | exact LeO.none _
      | refine LeO.ite ?_ ?_
      | refine LeO.bind ?_ (fun _ => ?_)
set_option maxHeartbeats 8000000 in
set_option maxRecDepth 100000 in
theorem laws_toRangeS.calls (k : Nat) (A0 : Option Addr) (c0 : Nat) (l0 : List (S64)) (r : List (S60)) (w : World) (hr0 : Kd.C k64 w A0 l0.length l0) (hc0 : l0.length ≤ c0) (h : laws_toRangeS.f k l0 = some r) :
    Calls Try.prog 17 #[.slice A0 l0.length c0] w fun e w' => ∃ v0_ : Value, e = .returned (v0_) ∧ Kd.R k60 60 w' w.heap.size (fun _ => True) v0_ r ∧ Below w.heap.size w w' := by
  have hu64 := Try.underlying64
  have hu60 := Try.underlying60
  have HR0 := Aside0.mk hr0
  have HC0 := Aside0.mk hc0
  clear hr0 hc0
  have HB := Aside0.mk (Below.refl w.heap.size w)
  have H : (if 0 ≤ (l0.length : Int) then (if ((l0.length : Int) : Int).toNat ≤ 17592186044416 then (laws_toRangeS.l0 k l0 (List.replicate ((l0.length : Int) : Int).toNat z60) 0) else (none)) else (none)) = some r := h
  clear h
  by_cases c2 : 0 ≤ (l0.length : Int)
  · rw [if_pos c2] at H
    have c2b0 := eq_true c2
    have c2b1 : decide (0 ≤ (l0.length : Int)) = true := decide_eq_true c2
    clear c2
    by_cases c3 : ((l0.length : Int) : Int).toNat ≤ 17592186044416
    · rw [if_pos c3] at H
      have c3b0 := eq_true c3
      have c3b1 : decide (((l0.length : Int) : Int).toNat ≤ 17592186044416) = true := decide_eq_true c3
      clear c3
      obtain ⟨y204, hy204⟩ : ∃ y_ : List (S60), y_ = (List.replicate ((l0.length : Int) : Int).toNat z60) := ⟨_, rfl⟩
      replace H : (laws_toRangeS.l0 k l0 y204 0) = some r := by first | (rw [hy204]; with_reducible exact H) | (have H2_ := (Option.bind_some _ _).symm.trans H; rw [hy204]; with_reducible exact H2_) | (have H2_ := (Option.bind_some _ _).symm.trans H; with_reducible exact H2_) | with_reducible exact H | (rw [hy204]; exact H) | exact H
      have Ny204 := Aside0.mk hy204
      clear hy204
      have H' := Aside0.mk H
      clear H
      go_enter Try.func17, Try.ntmps17
      go_wp2_with (first | ((with_reducible refine gate_dst (N := 7) rfl ?_); refine Kd.R_make k60 _ 60 rfl (N := 7) rfl 23 _ _ rfl (l0.length : Int) rfl rfl Try.underlying23 (.agg #[(.int .i64 0), (.int .i64 0)]) 16 info60 rfl (by decide) (by omega) z60 (ok := fun _ => True) (okp := fun _ => True) (k60_mkM _ _ _ z60 ) (fun _ hk => hk) trivial (of_decide_eq_true (by first | (with_reducible assumption) | assumption)) (Nat.le_trans (Nat.mul_le_mul_right _ (of_decide_eq_true (by first | (with_reducible assumption) | assumption) : (l0.length : Int).toNat ≤ 17592186044416)) (by omega)) (Below.refl _ _) (Nat.le_refl _) ?_; intro v205 w4 ho5 hb hg_ hnew_; clear hg_ hnew_; (first | rw [← Ny204.out] at ho5 | (simp only [Int.reduceToNat] at ho5; rw [← Ny204.out] at ho5)); have n0_ := Aside0.mk (Kd.R_lower ho5 (below_size (hb0_ HB.out))); have n1_ := Aside0.mk (below_step (hb0_ HB.out) hb); clear HB; have HO206 := n0_; have HB := n1_; clear n0_ n1_; clear hb ho5))
      go_loopg [4] k (fun kq v4 w' => ∃ (x3_1 : List (S60)) (x4_1 : Int), v4 = .int .i64 x4_1 ∧ Aside0 (laws_toRangeS.l0 kq l0 x3_1 x4_1 = some r) ∧ Aside0 (kq ≤ k) ∧ Aside0 (Kd.R k60 60 w' w.heap.size (fun _ => True) v205 x3_1) ∧ Aside0 (Below w.heap.size w w'))
      case atStart => exact ⟨(y204), (0), (by first | rfl | (simp; done) | (simp [*]; done)), H', ⟨Nat.le_refl _⟩, ⟨kR_ HO206.out⟩, ⟨by repeat (first | (with_reducible first | exact HB.out | apply below_alloc | apply pw_below_drewN | apply below_drew1) | exact HB.out)⟩⟩
      case round =>
        clear H'
        try clear c1
        try clear c2
        try clear c2b0
        try clear c2b1
        try clear p2
        try clear c3
        try clear c3b0
        try clear c3b1
        obtain ⟨x3_1, x4_1, rfl, HA, HK1, HO_3, HB⟩ := hrel
        cases gk with
        | zero => exact absurd HA.out (by simp [laws_toRangeS.l0])
        | succ k1 =>
          have H := HA.out
          clear HA
          simp only [laws_toRangeS.l0] at H
          by_cases c6 : x4_1 < (l0.length : Int)
          · rw [if_pos c6] at H
            have c6b0 : decide (x4_1 < (l0.length : Int)) = true := decide_eq_true c6
            clear c6
            by_cases c7 : 0 ≤ x4_1
            · rw [if_pos c7] at H
              have c7b0 : decide (0 ≤ x4_1) = true := decide_eq_true c7
              clear c7
              replace H := Option.bind_eq_some_iff.mp H
              obtain ⟨⟨t208, t209⟩, A80, H⟩ := H
              replace H : (if x4_1 < (x3_1.length : Int) then (laws_toRangeS.l0 k1 l0 (x3_1.set (x4_1 : Int).toNat (⟨t208, t209⟩ : S60)) (wrap64 (x4_1 + 1))) else (none)) = some r := H
              have A8 := Aside0.mk A80
              clear A80
              by_cases c9 : x4_1 < (x3_1.length : Int)
              · rw [if_pos c9] at H
                have c9b0 : decide (x4_1 < (x3_1.length : Int)) = true := decide_eq_true c9
                clear c9
                obtain ⟨y210, hy210⟩ : ∃ y_ : List (S60), y_ = (x3_1.set (x4_1 : Int).toNat (⟨t208, t209⟩ : S60)) := ⟨_, rfl⟩
                replace H : (laws_toRangeS.l0 k1 l0 y210 (wrap64 (x4_1 + 1))) = some r := by first | (rw [hy210]; with_reducible exact H) | (have H2_ := (Option.bind_some _ _).symm.trans H; rw [hy210]; with_reducible exact H2_) | (have H2_ := (Option.bind_some _ _).symm.trans H; with_reducible exact H2_) | with_reducible exact H | (rw [hy210]; exact H) | exact H
                have Ny210 := Aside0.mk hy210
                clear hy210
                have H' := Aside0.mk H
                clear H
                have p207 : 0 ≤ (x4_1 : Int) := of_decide_eq_true (by first | (with_reducible assumption) | assumption)
                have q207 : x4_1 < (l0.length : Int) := of_decide_eq_true (by first | (with_reducible assumption) | assumption)
                obtain ⟨ad207, e207, hx207_0, hx207_1⟩ := at_T64 HR0.out x4_1 p207 q207
                cases e207
                replace hx207_0 := (HB.out.cell (World.block_lt_of_cell? w _ hx207_0)).trans hx207_0
                replace hx207_1 := (HB.out.cell (World.block_lt_of_cell? w _ hx207_1)).trans hx207_1
                replace p207 := eq_true p207
                replace q207 := eq_true q207
                go_wp2_with (first | ((with_reducible refine gate_callee (f := 42) rfl ?_); refine goesL_ (some 20) rfl rfl Try.func42 (by kernel_rfl) rfl #[.agg #[.int .i64 ((rd_T64 l0 x4_1).f0), .int .i64 ((rd_T64 l0 x4_1).f1)]] rfl ar_ ?_; (with_reducible refine (laws_toRange.calls ((rd_T64 l0 x4_1).f0) ((rd_T64 l0 x4_1).f1) t208 t209 _ A8.out).mono ?_); rintro e w11 ⟨rfl, hb⟩; refine ⟨_, rfl, ?_⟩; have n0_ := Aside0.mk (Kd.R_below (kR_ HO_3.out) hb); have n1_ := Aside0.mk (below_step (hb0_ HB.out) hb); clear HO_3; clear HB; have HO_3 := n0_; have HB := n1_; clear n0_ n1_; (try clear hb); (try clear hb2); (try clear hk); (try clear hi); have p10 : 0 ≤ (x4_1 : Int) := of_decide_eq_true (by first | (with_reducible assumption) | assumption); have q10 : (x4_1 : Int) < ((x3_1.length : Int) : Int) := of_decide_eq_true (by first | (with_reducible assumption) | assumption); obtain ⟨go10, co10, eo10, gb10, gl10, cl10, HG10⟩ := Kd.R_form HO_3.out (by omega); (first | cases eo10 | (injection eo10 with ea_ en_ ec_; (first | subst ea_ | (injection ea_ with ea_; subst ea_)); subst ec_; clear en_)); have GB10 := Aside0.mk gb10; have GG10 := Aside0.mk HG10; clear gb10 gl10 HG10; obtain ⟨ce10, hcl10, hM10, hcc10, hfr10⟩ := Kd.R_elem HO_3.out z60 (x4_1 : Int) p10 q10; obtain rfl := k60_openM hM10; have hx10_0 : w11.cell? ⟨go10, (x4_1 : Int).toNat * 2, none⟩ = some (.int .i64 ((rd_T60 x3_1 x4_1).f0)) := hcc10 0 _ rfl; have hx10_1 : w11.cell? ⟨go10, (x4_1 : Int).toNat * 2 + 1, none⟩ = some (.int .i64 ((rd_T60 x3_1 x4_1).f1)) := hcc10 1 _ rfl; have hf10_0 : w11.frozen? ⟨go10, (x4_1 : Int).toNat * 2, none⟩ = false := hfr10 0; have hf10_1 : w11.frozen? ⟨go10, (x4_1 : Int).toNat * 2 + 1, none⟩ = false := hfr10 1; clear hcl10 hcc10 hfr10 hM10; replace p10 := eq_true p10; replace q10 := eq_true q10; have HX12 := Aside0.mk (show Kd.R k60 60 w11 w.heap.size (fun _ => True) (.slice (some ⟨go10, 0, none⟩) x3_1.length co10) x3_1 from (kR_ HO_3.out)); obtain ⟨ce12, hcl12, hM12, hcc12, hfr12⟩ := Kd.R_elem HX12.out z60 (x4_1 : Int) (of_decide_eq_true (by first | (with_reducible assumption) | assumption)) (by have h_ : (x4_1 : Int) < ((x3_1.length : Int) : Int) := of_decide_eq_true (by first | (with_reducible assumption) | assumption); first | exact h_ | (have e_ := (Kd.R_reads' HO_3.out).1; omega) | simpa using h_); obtain rfl := k60_openM hM12; have HP12 := Kd.R_seg HX12.out (x4_1 : Int) (of_decide_eq_true (by first | (with_reducible assumption) | assumption)) (by have h_ : (x4_1 : Int) < ((x3_1.length : Int) : Int) := of_decide_eq_true (by first | (with_reducible assumption) | assumption); first | exact h_ | (have e_ := (Kd.R_reads' HO_3.out).1; omega) | simpa using h_) (seg := [.int .i64 t208, .int .i64 t209]) (j := 0) hcl12 hcc12 (show 2 ≤ 2 from by decide) (x' := (⟨t208, t209⟩ : S60)) (k60_mkM _ _ _ (⟨t208, t209⟩ : S60) ) (fun _ hk => hk); have hx12_0 := hcc12 0 _ rfl; (try simp only [show (k60).sz = 2 from rfl, Nat.mul_one, Nat.add_zero] at hx12_0); have hf12_0 := hfr12 0; (try simp only [show (k60).sz = 2 from rfl, Nat.mul_one, Nat.add_zero] at hf12_0); have hx12_1 := hcc12 1 _ rfl; (try simp only [show (k60).sz = 2 from rfl, Nat.mul_one, Nat.add_zero] at hx12_1); have hf12_1 := hfr12 1; (try simp only [show (k60).sz = 2 from rfl, Nat.mul_one, Nat.add_zero] at hf12_1); clear hcl12 hcc12 hfr12 hM12) | ((with_reducible refine gate_store (t := 60) (p := 21) rfl ?_); refine store_event (t := 60) (p := 21) (v := ?vo_w13) (w1 := ((w11.setCell ⟨go10, (x4_1 : Int).toNat * 2, none⟩ (.int .i64 t208)).setCell ⟨go10, (x4_1 : Int).toNat * 2 + 1, none⟩ (.int .i64 t209))) ?hg ?ho ?hn ?hr ?_; (case ho => rfl); (case hg => rfl); (case hn => rfl); (case hr => first | (go_simp; done) | (go_simp; rfl)); intro w13 hw; have hg : w11.grownBy w13 (some go10) := (by rw [hw]; exact HP12.2); have hp_ : Kd.R k60 60 w13 w.heap.size (fun _ => True) (.slice (some ⟨go10, 0, none⟩) x3_1.length co10) y210 := (by rw [hw, Ny210.out]; exact HP12.1); clear HP12; have n0_ := Aside0.mk (hp_); have n1_ := Aside0.mk ((by rw [hw]; exact below_set (below_set (HB.out) GB10.out) GB10.out : Below w.heap.size w w13)); clear HO_3; clear HB; have HO_3 := n0_; have HB := n1_; clear n0_ n1_; clear hg hw hp_))
                go_roundg k1
                case measure => have := HK1.out; omega
                case rel => exact ⟨(y210), (wrap64 (x4_1 + 1)), (by first | rfl | (simp; done) | (simp [*]; done)), H', ⟨by have := HK1.out; omega⟩, ⟨kR_ HO_3.out⟩, ⟨by repeat (first | (with_reducible first | exact HB.out | apply below_alloc | apply pw_below_drewN | apply below_drew1) | exact HB.out)⟩⟩
              · rw [if_neg c9] at H
                exact absurd H (by simp)
            · rw [if_neg c7] at H
              exact absurd H (by simp)
          · rw [if_neg c6] at H
            have c6b0 : decide (x4_1 < (l0.length : Int)) = false := decide_eq_false c6
            clear c6
            obtain rfl := Option.some.inj H
            go_wp2
            go_ret
            exact ⟨_, by first | rfl | (simp [errW_none, errW_some] <;> rfl) | (simp [*, errW_none, errW_some] <;> rfl), kR_ HO_3.out, by repeat (first | (with_reducible first | exact HB.out | apply below_alloc | apply pw_below_drewN | apply below_drew1) | exact HB.out)⟩
    · rw [if_neg c3] at H
      exact absurd H (by simp)
  · rw [if_neg c2] at H
    exact absurd H (by simp)

/-! ### laws_toByteS: function 24 -/
def laws_toByteS.l0 : Nat → List Int → List Int → Int → Option (List Int)
  | 0, _, _, _ => none
  | k + 1, x0, x3, x4 => if x4 < (x0.length : Int) then (if 0 ≤ x4 then (if x4 < (x3.length : Int) then (laws_toByteS.l0 k x0 (x3.set (x4 : Int).toNat (rd x0 x4)) (wrap64 (x4 + 1))) else (none)) else (none)) else (some x3)
def laws_toByteS.f (k : Nat) (l0 : List Int) : Option (List Int) := if 0 ≤ (l0.length : Int) then (if ((l0.length : Int) : Int).toNat ≤ 281474976710656 then (laws_toByteS.l0 k l0 (List.replicate ((l0.length : Int) : Int).toNat 0) 0) else (none)) else (none)
theorem laws_toByteS.mono_l : ∀ k, (∀ y0 y1 y2, LeO (laws_toByteS.l0 k y0 y1 y2) (laws_toByteS.l0 (k + 1) y0 y1 y2))
  | 0 => fun _ _ _ r h => by simp [laws_toByteS.l0] at h
  | k + 1 => by
    have ih0 := laws_toByteS.mono_l k
    · intro y0 y1 y2
      unfold laws_toByteS.l0
      repeat' first
      | (with_reducible exact ih0 _ _ _)
      | (with_reducible exact LeO.refl _)
      | (with_reducible exact LeO.none _)
      | (with_reducible refine LeO.ite ?_ ?_)
      | (with_reducible refine LeO.bind ?_ (fun _ => ?_))
      | exact ih0 _ _ _
      | exact LeO.none _
      | refine LeO.ite ?_ ?_
      | refine LeO.bind ?_ (fun _ => ?_)
theorem laws_toByteS.mono : ∀ a0 k, LeO (laws_toByteS.f k a0) (laws_toByteS.f (k + 1) a0) := by
  intro a0 k
  have ih0 := laws_toByteS.mono_l k
  unfold laws_toByteS.f
  repeat' first
      | (with_reducible exact ih0 _ _ _)
      | (with_reducible exact LeO.refl _)
      | (with_reducible exact LeO.none _)
      | (with_reducible refine LeO.ite ?_ ?_)
      | (with_reducible refine LeO.bind ?_ (fun _ => ?_))
      | exact ih0 _ _ _
      | exact LeO.none _
      | refine LeO.ite ?_ ?_
      | refine LeO.bind ?_ (fun _ => ?_)
set_option maxHeartbeats 8000000 in
set_option maxRecDepth 100000 in
theorem laws_toByteS.calls (k : Nat) (A0 : Option Addr) (c0 : Nat) (l0 : List Int) (r : List Int) (w : World) (hr0 : Kd.C (Kd.int .u8) w A0 l0.length l0) (hc0 : l0.length ≤ c0) (h : laws_toByteS.f k l0 = some r) :
    Calls Try.prog 24 #[.slice A0 l0.length c0] w fun e w' => ∃ v0_ : Value, e = .returned (v0_) ∧ Kd.R (Kd.int .u8) 5 w' w.heap.size (fun _ => True) v0_ r ∧ Below w.heap.size w w' := by
  have HR0 := Aside0.mk hr0
  have HC0 := Aside0.mk hc0
  clear hr0 hc0
  have HB := Aside0.mk (Below.refl w.heap.size w)
  have H : (if 0 ≤ (l0.length : Int) then (if ((l0.length : Int) : Int).toNat ≤ 281474976710656 then (laws_toByteS.l0 k l0 (List.replicate ((l0.length : Int) : Int).toNat 0) 0) else (none)) else (none)) = some r := h
  clear h
  by_cases c2 : 0 ≤ (l0.length : Int)
  · rw [if_pos c2] at H
    have c2b0 := eq_true c2
    have c2b1 : decide (0 ≤ (l0.length : Int)) = true := decide_eq_true c2
    clear c2
    by_cases c3 : ((l0.length : Int) : Int).toNat ≤ 281474976710656
    · rw [if_pos c3] at H
      have c3b0 := eq_true c3
      have c3b1 : decide (((l0.length : Int) : Int).toNat ≤ 281474976710656) = true := decide_eq_true c3
      clear c3
      obtain ⟨y211, hy211⟩ : ∃ y_ : List Int, y_ = (List.replicate ((l0.length : Int) : Int).toNat 0) := ⟨_, rfl⟩
      replace H : (laws_toByteS.l0 k l0 y211 0) = some r := by first | (rw [hy211]; with_reducible exact H) | (have H2_ := (Option.bind_some _ _).symm.trans H; rw [hy211]; with_reducible exact H2_) | (have H2_ := (Option.bind_some _ _).symm.trans H; with_reducible exact H2_) | with_reducible exact H | (rw [hy211]; exact H) | exact H
      have Ny211 := Aside0.mk hy211
      clear hy211
      have H' := Aside0.mk H
      clear H
      go_enter Try.func24, Try.ntmps24
      go_wp2_with (first | ((with_reducible refine gate_dst (N := 7) rfl ?_); refine Kd.R_make (Kd.int .u8) _ 5 rfl (N := 7) rfl 22 _ _ rfl (l0.length : Int) rfl rfl Try.underlying22 (.int .u8 0) 1 info5 rfl (by decide) (by omega) 0 (ok := fun _ => True) (okp := fun _ => True) rfl (fun _ hk => hk) trivial (of_decide_eq_true (by first | (with_reducible assumption) | assumption)) (Nat.le_trans (Nat.mul_le_mul_right _ (of_decide_eq_true (by first | (with_reducible assumption) | assumption) : (l0.length : Int).toNat ≤ 281474976710656)) (by omega)) (Below.refl _ _) (Nat.le_refl _) ?_; intro v212 w4 ho5 hb hg_ hnew_; clear hg_ hnew_; (first | rw [← Ny211.out] at ho5 | (simp only [Int.reduceToNat] at ho5; rw [← Ny211.out] at ho5)); have n0_ := Aside0.mk (Kd.R_lower ho5 (below_size (hb0_ HB.out))); have n1_ := Aside0.mk (below_step (hb0_ HB.out) hb); clear HB; have HO213 := n0_; have HB := n1_; clear n0_ n1_; clear hb ho5))
      go_loopg [4] k (fun kq v4 w' => ∃ (x3_1 : List Int) (x4_1 : Int), v4 = .int .i64 x4_1 ∧ Aside0 (laws_toByteS.l0 kq l0 x3_1 x4_1 = some r) ∧ Aside0 (kq ≤ k) ∧ Aside0 (Kd.R (Kd.int .u8) 5 w' w.heap.size (fun _ => True) v212 x3_1) ∧ Aside0 (Below w.heap.size w w'))
      case atStart => exact ⟨(y211), (0), (by first | rfl | (simp; done) | (simp [*]; done)), H', ⟨Nat.le_refl _⟩, ⟨kR_ HO213.out⟩, ⟨by repeat (first | (with_reducible first | exact HB.out | apply below_alloc | apply pw_below_drewN | apply below_drew1) | exact HB.out)⟩⟩
      case round =>
        clear H'
        try clear c2
        try clear c2b0
        try clear c2b1
        try clear p2
        try clear c3
        try clear c3b0
        try clear c3b1
        obtain ⟨x3_1, x4_1, rfl, HA, HK1, HO_3, HB⟩ := hrel
        cases gk with
        | zero => exact absurd HA.out (by simp [laws_toByteS.l0])
        | succ k1 =>
          have H := HA.out
          clear HA
          simp only [laws_toByteS.l0] at H
          by_cases c6 : x4_1 < (l0.length : Int)
          · rw [if_pos c6] at H
            have c6b0 : decide (x4_1 < (l0.length : Int)) = true := decide_eq_true c6
            clear c6
            by_cases c7 : 0 ≤ x4_1
            · rw [if_pos c7] at H
              have c7b0 : decide (0 ≤ x4_1) = true := decide_eq_true c7
              clear c7
              by_cases c8 : x4_1 < (x3_1.length : Int)
              · rw [if_pos c8] at H
                have c8b0 : decide (x4_1 < (x3_1.length : Int)) = true := decide_eq_true c8
                clear c8
                obtain ⟨y215, hy215⟩ : ∃ y_ : List Int, y_ = (x3_1.set (x4_1 : Int).toNat (rd l0 x4_1)) := ⟨_, rfl⟩
                replace H : (laws_toByteS.l0 k1 l0 y215 (wrap64 (x4_1 + 1))) = some r := by first | (rw [hy215]; with_reducible exact H) | (have H2_ := (Option.bind_some _ _).symm.trans H; rw [hy215]; with_reducible exact H2_) | (have H2_ := (Option.bind_some _ _).symm.trans H; with_reducible exact H2_) | with_reducible exact H | (rw [hy215]; exact H) | exact H
                have Ny215 := Aside0.mk hy215
                clear hy215
                have H' := Aside0.mk H
                clear H
                have p214 : 0 ≤ (x4_1 : Int) := of_decide_eq_true (by first | (with_reducible assumption) | assumption)
                have q214 : x4_1 < (l0.length : Int) := of_decide_eq_true (by first | (with_reducible assumption) | assumption)
                obtain ⟨ad214, e214, hx214_0⟩ := Kd.at_int HR0.out x4_1 p214 q214
                cases e214
                replace hx214_0 := (HB.out.cell (World.block_lt_of_cell? w _ hx214_0)).trans hx214_0
                replace p214 := eq_true p214
                replace q214 := eq_true q214
                have p9 : 0 ≤ (x4_1 : Int) := of_decide_eq_true (by first | (with_reducible assumption) | assumption)
                have q9 : (x4_1 : Int) < ((x3_1.length : Int) : Int) := of_decide_eq_true (by first | (with_reducible assumption) | assumption)
                obtain ⟨go9, co9, eo9, gb9, gl9, cl9, HG9⟩ := Kd.R_form HO_3.out (by omega)
                (first | cases eo9 | (injection eo9 with ea_ en_ ec_; (first | subst ea_ | (injection ea_ with ea_; subst ea_)); subst ec_; clear en_))
                have GB9 := Aside0.mk gb9
                have GG9 := Aside0.mk HG9
                clear gb9 gl9 HG9
                obtain ⟨hx9_0, hf9_0⟩ := Kd.R_celln 0 HO_3.out (x4_1 : Int) p9 q9
                replace p9 := eq_true p9
                replace q9 := eq_true q9
                have HP10 := Kd.R_putg HO_3.out (x4_1 : Int) (rd l0 x4_1)
                go_wp2_with (first | ((with_reducible refine gate_store (t := 5) (p := 20) rfl ?_); refine store_event (t := 5) (p := 20) (v := ?vo_w11) (w1 := (wr.setCell ⟨go9, (x4_1 : Int).toNat, none⟩ (.int .u8 (rd l0 x4_1)))) ?hg ?ho ?hn ?hr ?_; (case ho => rfl); (case hg => rfl); (case hn => rfl); (case hr => first | (go_simp; done) | (go_simp; rfl)); intro w11 hw; have hg : wr.grownBy w11 (some go9) := (by rw [hw]; exact HP10.2); have hp_ : Kd.R (Kd.int .u8) 5 w11 w.heap.size (fun _ => True) (.slice (some ⟨go9, 0, none⟩) x3_1.length co9) y215 := (by rw [hw, Ny215.out]; exact HP10.1); clear HP10; have n0_ := Aside0.mk (hp_); have n1_ := Aside0.mk ((by rw [hw]; exact below_set (HB.out) GB9.out : Below w.heap.size w w11)); clear HO_3; clear HB; have HO_3 := n0_; have HB := n1_; clear n0_ n1_; clear hg hw hp_))
                go_roundg k1
                case measure => have := HK1.out; omega
                case rel => exact ⟨(y215), (wrap64 (x4_1 + 1)), (by first | rfl | (simp; done) | (simp [*]; done)), H', ⟨by have := HK1.out; omega⟩, ⟨kR_ HO_3.out⟩, ⟨by repeat (first | (with_reducible first | exact HB.out | apply below_alloc | apply pw_below_drewN | apply below_drew1) | exact HB.out)⟩⟩
              · rw [if_neg c8] at H
                exact absurd H (by simp)
            · rw [if_neg c7] at H
              exact absurd H (by simp)
          · rw [if_neg c6] at H
            have c6b0 : decide (x4_1 < (l0.length : Int)) = false := decide_eq_false c6
            clear c6
            obtain rfl := Option.some.inj H
            go_wp2
            go_ret
            exact ⟨_, by first | rfl | (simp [errW_none, errW_some] <;> rfl) | (simp [*, errW_none, errW_some] <;> rfl), kR_ HO_3.out, by repeat (first | (with_reducible first | exact HB.out | apply below_alloc | apply pw_below_drewN | apply below_drew1) | exact HB.out)⟩
    · rw [if_neg c3] at H
      exact absurd H (by simp)
  · rw [if_neg c2] at H
    exact absurd H (by simp)

/-! ### laws_toMouth: function 16 -/
def laws_toMouth.f (k : Nat) (a0_0 : Int) (l0_1 : List Int) (a0_2 : Int) (a0_3 : Int) (l0_4 : List (S64)) : Option (Int × List Int × Int × Int × (List (S60))) := (laws_toByteS.f k l0_1).bind fun t219 => ((laws_toRangeS.f k l0_4).bind fun t222 => (some (a0_0, t219, a0_2, a0_3, t222)))
theorem laws_toMouth.mono : ∀ a0 a1 a2 a3 a4 k, LeO (laws_toMouth.f k a0 a1 a2 a3 a4) (laws_toMouth.f (k + 1) a0 a1 a2 a3 a4) := by
  intro a0 a1 a2 a3 a4 k
  unfold laws_toMouth.f
  repeat' first
      | (with_reducible exact laws_toByteS.mono _ _)
      | (with_reducible exact laws_toRangeS.mono _ _)
      | (with_reducible exact LeO.refl _)
      | (with_reducible exact LeO.none _)
      | (with_reducible refine LeO.ite ?_ ?_)
      | (with_reducible refine LeO.bind ?_ (fun _ => ?_))
      | exact laws_toByteS.mono _ _
      | exact laws_toRangeS.mono _ _
      | exact LeO.none _
      | refine LeO.ite ?_ ?_
      | refine LeO.bind ?_ (fun _ => ?_)
set_option maxHeartbeats 8000000 in
set_option maxRecDepth 100000 in
theorem laws_toMouth.calls (k : Nat) (a0_0 : Int) (A0_1 : Option Addr) (c0_1 : Nat) (l0_1 : List Int) (a0_2 : Int) (a0_3 : Int) (A0_4 : Option Addr) (c0_4 : Nat) (l0_4 : List (S64)) (r1 : Int) (r2 : List Int) (r3 : Int) (r4 : Int) (r5 : List (S60)) (w : World) (hr0_1 : Kd.C (Kd.int .u8) w A0_1 l0_1.length l0_1) (hc0_1 : l0_1.length ≤ c0_1) (hr0_4 : Kd.C k64 w A0_4 l0_4.length l0_4) (hc0_4 : l0_4.length ≤ c0_4) (h : laws_toMouth.f k a0_0 l0_1 a0_2 a0_3 l0_4 = some (r1, r2, r3, r4, r5)) :
    Calls Try.prog 16 #[.agg #[.int .i64 a0_0, .slice A0_1 l0_1.length c0_1, .int .i64 a0_2, .int .i64 a0_3, .slice A0_4 l0_4.length c0_4]] w fun e w' => ∃ v1_ v4_ : Value, e = .returned (.agg #[.int .i64 r1, v1_, .int .i64 r3, .int .i64 r4, v4_]) ∧ Kd.R (Kd.int .u8) 5 w' w.heap.size (fun _ => True) v1_ r2 ∧ Kd.R k60 60 w' w.heap.size (fun _ => True) v4_ r5 ∧ Below w.heap.size w w' := by
  have hu37 := Try.underlying37
  have hu25 := Try.underlying25
  have HR0_1 := Aside0.mk hr0_1
  have HC0_1 := Aside0.mk hc0_1
  clear hr0_1 hc0_1
  have HR0_4 := Aside0.mk hr0_4
  have HC0_4 := Aside0.mk hc0_4
  clear hr0_4 hc0_4
  have HB := Aside0.mk (Below.refl w.heap.size w)
  have H : ((laws_toByteS.f k l0_1).bind fun t219 => ((laws_toRangeS.f k l0_4).bind fun t222 => (some (a0_0, t219, a0_2, a0_3, t222)))) = some (r1, r2, r3, r4, r5) := h
  clear h
  replace H := Option.bind_eq_some_iff.mp H
  obtain ⟨t219, A20, H⟩ := H
  replace H : ((laws_toRangeS.f k l0_4).bind fun t222 => (some (a0_0, t219, a0_2, a0_3, t222))) = some (r1, r2, r3, r4, r5) := H
  have A2 := Aside0.mk A20
  clear A20
  replace H := Option.bind_eq_some_iff.mp H
  obtain ⟨t222, A30, H⟩ := H
  replace H : (some (a0_0, t219, a0_2, a0_3, t222)) = some (r1, r2, r3, r4, r5) := H
  have A3 := Aside0.mk A30
  clear A30
  simp only [Option.some.injEq, Prod.mk.injEq] at H
  obtain ⟨rfl, rfl, rfl, rfl, rfl⟩ := H
  go_enter Try.func16, Try.ntmps16
  go_wp2_with (first | ((with_reducible refine gate_dst (N := 1) rfl ?_); refine box_event ?hg (N := 1) ?hd (cs := #[.int .i64 a0_0, .slice A0_1 l0_1.length c0_1, .int .i64 a0_2, .int .i64 a0_3, .slice A0_4 l0_4.length c0_4]) (t := 37) ?hr ?_; (case hd => rfl); (case hg => rfl); (case hr => first | (go_simp; done) | (go_simp; rfl)); intro gb216 hg w4 hbox hb; have n0_ := Aside0.mk (below_step (hb0_ HB.out) hb); have n1_ := Aside0.mk (hbox); have n2_ := Aside0.mk ((by rw [hg]; exact (below_size (hb0_ HB.out)) : w.heap.size ≤ gb216)); have n3_ := Aside0.mk ((by rw [hg]; exact (below_size (hb0_ HB.out)) : w.heap.size ≤ gb216)); clear HB; have HB := n0_; have BK216 := n1_; have GW216 := n2_; have GE216 := n3_; clear n0_ n1_ n2_ n3_; clear hb hbox hg) | ((with_reducible refine gate_dst (N := 2) rfl ?_); refine box_event ?hg (N := 2) ?hd (cs := #[.int .i64 0, .slice none 0 0, .int .i64 0, .int .i64 0, .slice none 0 0]) (t := 25) ?hr ?_; (case hd => rfl); (case hg => rfl); (case hr => first | (go_simp; done) | (go_simp; rfl)); intro gb217 hg w5 hbox hb; have n0_ := Aside0.mk (blk_below (g := gb216) (o := .cells #[.int .i64 a0_0, .slice A0_1 l0_1.length c0_1, .int .i64 a0_2, .int .i64 a0_3, .slice A0_4 l0_4.length c0_4] 37 (0, 0)) (kb_ BK216.out) hb); have n1_ := Aside0.mk (below_step (hb1_ HB.out GE216.out) hb); have n2_ := Aside0.mk (hbox); have n3_ := Aside0.mk ((by rw [hg]; exact (below_size (hb1_ HB.out GE216.out)) : w.heap.size ≤ gb217)); have n4_ := Aside0.mk ((by rw [hg]; exact (below_size (hb1_ HB.out GE216.out)) : w.heap.size ≤ gb217)); have n5_ := Aside0.mk ((by rw [hg]; exact Nat.ne_of_lt (blk_lt (g := gb216) (o := .cells #[.int .i64 a0_0, .slice A0_1 l0_1.length c0_1, .int .i64 a0_2, .int .i64 a0_3, .slice A0_4 l0_4.length c0_4] 37 (0, 0)) (kb_ BK216.out)) : gb216 ≠ gb217)); have n6_ := Aside0.mk ((by rw [hg]; exact Nat.ne_of_gt (blk_lt (g := gb216) (o := .cells #[.int .i64 a0_0, .slice A0_1 l0_1.length c0_1, .int .i64 a0_2, .int .i64 a0_3, .slice A0_4 l0_4.length c0_4] 37 (0, 0)) (kb_ BK216.out)) : gb217 ≠ gb216)); clear BK216; clear HB; have BK216 := n0_; have HB := n1_; have BK217 := n2_; have GW217 := n3_; have GE217 := n4_; have NB216_217 := n5_; have NB217_216 := n6_; clear n0_ n1_ n2_ n3_ n4_ n5_ n6_; clear hb hbox hg) | ((with_reducible refine gate_dst (N := 3) rfl ?_); refine box_event ?hg (N := 3) ?hd (cs := #[.int .i64 0, .slice none 0 0, .int .i64 0, .int .i64 0, .slice none 0 0]) (t := 25) ?hr ?_; (case hd => rfl); (case hg => rfl); (case hr => first | (go_simp; done) | (go_simp; rfl)); intro gb218 hg w6 hbox hb; have n0_ := Aside0.mk (blk_below (g := gb216) (o := .cells #[.int .i64 a0_0, .slice A0_1 l0_1.length c0_1, .int .i64 a0_2, .int .i64 a0_3, .slice A0_4 l0_4.length c0_4] 37 (0, 0)) (kb_ BK216.out) hb); have n1_ := Aside0.mk (blk_below (g := gb217) (o := .cells #[.int .i64 0, .slice none 0 0, .int .i64 0, .int .i64 0, .slice none 0 0] 25 (0, 0)) (kb_ BK217.out) hb); have n2_ := Aside0.mk (below_step (hb2_ HB.out GE216.out GE217.out) hb); have n3_ := Aside0.mk (hbox); have n4_ := Aside0.mk ((by rw [hg]; exact (below_size (hb2_ HB.out GE216.out GE217.out)) : w.heap.size ≤ gb218)); have n5_ := Aside0.mk ((by rw [hg]; exact (below_size (hb2_ HB.out GE216.out GE217.out)) : w.heap.size ≤ gb218)); have n6_ := Aside0.mk ((by rw [hg]; exact Nat.ne_of_lt (blk_lt (g := gb216) (o := .cells #[.int .i64 a0_0, .slice A0_1 l0_1.length c0_1, .int .i64 a0_2, .int .i64 a0_3, .slice A0_4 l0_4.length c0_4] 37 (0, 0)) (kb_ BK216.out)) : gb216 ≠ gb218)); have n7_ := Aside0.mk ((by rw [hg]; exact Nat.ne_of_gt (blk_lt (g := gb216) (o := .cells #[.int .i64 a0_0, .slice A0_1 l0_1.length c0_1, .int .i64 a0_2, .int .i64 a0_3, .slice A0_4 l0_4.length c0_4] 37 (0, 0)) (kb_ BK216.out)) : gb218 ≠ gb216)); have n8_ := Aside0.mk ((by rw [hg]; exact Nat.ne_of_lt (blk_lt (g := gb217) (o := .cells #[.int .i64 0, .slice none 0 0, .int .i64 0, .int .i64 0, .slice none 0 0] 25 (0, 0)) (kb_ BK217.out)) : gb217 ≠ gb218)); have n9_ := Aside0.mk ((by rw [hg]; exact Nat.ne_of_gt (blk_lt (g := gb217) (o := .cells #[.int .i64 0, .slice none 0 0, .int .i64 0, .int .i64 0, .slice none 0 0] 25 (0, 0)) (kb_ BK217.out)) : gb218 ≠ gb217)); clear BK216; clear BK217; clear HB; have BK216 := n0_; have BK217 := n1_; have HB := n2_; have BK218 := n3_; have GW218 := n4_; have GE218 := n5_; have NB216_218 := n6_; have NB218_216 := n7_; have NB217_218 := n8_; have NB218_217 := n9_; clear n0_ n1_ n2_ n3_ n4_ n5_ n6_ n7_ n8_ n9_; clear hb hbox hg; have hnb7 := NB216_217.out; have hnc7 := NB217_216.out; have hnb8 := NB216_218.out; have hnc8 := NB218_216.out; have hcz9_0 : w6.cell? ⟨gb216, 0, none⟩ = some (.int .i64 a0_0) := (blk_cell BK216.out 0).trans rfl; have hcz9_1 : w6.cell? ⟨gb216, 1, none⟩ = some (.slice A0_1 l0_1.length c0_1) := (blk_cell BK216.out 1).trans rfl; have hcz9_2 : w6.cell? ⟨gb216, 2, none⟩ = some (.int .i64 a0_2) := (blk_cell BK216.out 2).trans rfl; have hcz9_3 : w6.cell? ⟨gb216, 3, none⟩ = some (.int .i64 a0_3) := (blk_cell BK216.out 3).trans rfl; have hcz9_4 : w6.cell? ⟨gb216, 4, none⟩ = some (.slice A0_4 l0_4.length c0_4) := (blk_cell BK216.out 4).trans rfl; have hfz9_0 := blk_frozen BK216.out 0; have hfz9_1 := blk_frozen BK216.out 1; have hfz9_2 := blk_frozen BK216.out 2; have hfz9_3 := blk_frozen BK216.out 3; have hfz9_4 := blk_frozen BK216.out 4; have hnb10 := NB218_217.out; have hnc10 := NB217_218.out; have hcz11_0 : w6.cell? ⟨gb218, 0, none⟩ = some (.int .i64 0) := (blk_cell BK218.out 0).trans rfl; have hcz11_1 : w6.cell? ⟨gb218, 1, none⟩ = some (.slice none 0 0) := (blk_cell BK218.out 1).trans rfl; have hcz11_2 : w6.cell? ⟨gb218, 2, none⟩ = some (.int .i64 0) := (blk_cell BK218.out 2).trans rfl; have hcz11_3 : w6.cell? ⟨gb218, 3, none⟩ = some (.int .i64 0) := (blk_cell BK218.out 3).trans rfl; have hcz11_4 : w6.cell? ⟨gb218, 4, none⟩ = some (.slice none 0 0) := (blk_cell BK218.out 4).trans rfl; have hfz11_0 := blk_frozen BK218.out 0; have hfz11_1 := blk_frozen BK218.out 1; have hfz11_2 := blk_frozen BK218.out 2; have hfz11_3 := blk_frozen BK218.out 3; have hfz11_4 := blk_frozen BK218.out 4) | ((with_reducible refine gate_callee (f := 24) rfl ?_); refine goesL_ (some 9) rfl rfl Try.func24 (by kernel_rfl) rfl #[.slice A0_1 l0_1.length c0_1] rfl ar_ ?_; (with_reducible refine (laws_toByteS.calls k _ _ l0_1 t219 _ ?side1 ?side2 A2.out).mono ?_); (case side1 => exact Kd.C_below HR0_1.out (hb3_ HB.out GE216.out GE217.out GE218.out)); (case side2 => exact HC0_1.out); rintro e w12 ⟨v220, rfl, ho0, hb⟩; refine ⟨_, rfl, ?_⟩; have n0_ := Aside0.mk (Kd.R_lower ho0 (below_size (hb3_ HB.out GE216.out GE217.out GE218.out))); have n1_ := Aside0.mk (blk_below (g := gb216) (o := .cells #[.int .i64 a0_0, .slice A0_1 l0_1.length c0_1, .int .i64 a0_2, .int .i64 a0_3, .slice A0_4 l0_4.length c0_4] 37 (0, 0)) (by refine kb_ ?_; refine blk_far ?_ NB216_218.out _; refine kb_ ?_; exact BK216.out) hb); have n2_ := Aside0.mk (blk_below (g := gb217) (o := .cells #[.int .i64 0, .slice none 0 0, .int .i64 0, .int .i64 0, .slice none 0 0] 25 (0, 0)) (by refine kb_ ?_; refine blk_far ?_ NB217_218.out _; refine kb_ ?_; exact BK217.out) hb); have n3_ := Aside0.mk (blk_below (g := gb218) (o := .cells #[.int .i64 a0_0, .slice none 0 0, .int .i64 0, .int .i64 0, .slice none 0 0] 25 (0, 0)) (by refine kb_ ?_; refine blk_put (cs := #[.int .i64 0, .slice none 0 0, .int .i64 0, .int .i64 0, .slice none 0 0]) ?_ 0 _ rfl; refine kb_ ?_; exact BK218.out) hb); have n4_ := Aside0.mk (below_step (hb3_ HB.out GE216.out GE217.out GE218.out) hb); clear BK216; clear BK217; clear BK218; clear HB; have HO221 := n0_; have BK216 := n1_; have BK217 := n2_; have BK218 := n3_; have HB := n4_; clear n0_ n1_ n2_ n3_ n4_; (try clear hb); (try clear hb2); (try clear hk); (try clear hi); (try clear ho0); obtain ⟨Ao13, co13, eo13⟩ := Kd.R_slice HO221.out; subst eo13; have hcz14_0 : w12.cell? ⟨gb218, 0, none⟩ = some (.int .i64 a0_0) := (blk_cell BK218.out 0).trans rfl; have hcz14_1 : w12.cell? ⟨gb218, 1, none⟩ = some (.slice none 0 0) := (blk_cell BK218.out 1).trans rfl; have hcz14_2 : w12.cell? ⟨gb218, 2, none⟩ = some (.int .i64 0) := (blk_cell BK218.out 2).trans rfl; have hcz14_3 : w12.cell? ⟨gb218, 3, none⟩ = some (.int .i64 0) := (blk_cell BK218.out 3).trans rfl; have hcz14_4 : w12.cell? ⟨gb218, 4, none⟩ = some (.slice none 0 0) := (blk_cell BK218.out 4).trans rfl; have hfz14_0 := blk_frozen BK218.out 0; have hfz14_1 := blk_frozen BK218.out 1; have hfz14_2 := blk_frozen BK218.out 2; have hfz14_3 := blk_frozen BK218.out 3; have hfz14_4 := blk_frozen BK218.out 4; have hcz15_0 : w12.cell? ⟨gb216, 0, none⟩ = some (.int .i64 a0_0) := (blk_cell BK216.out 0).trans rfl; have hcz15_1 : w12.cell? ⟨gb216, 1, none⟩ = some (.slice A0_1 l0_1.length c0_1) := (blk_cell BK216.out 1).trans rfl; have hcz15_2 : w12.cell? ⟨gb216, 2, none⟩ = some (.int .i64 a0_2) := (blk_cell BK216.out 2).trans rfl; have hcz15_3 : w12.cell? ⟨gb216, 3, none⟩ = some (.int .i64 a0_3) := (blk_cell BK216.out 3).trans rfl; have hcz15_4 : w12.cell? ⟨gb216, 4, none⟩ = some (.slice A0_4 l0_4.length c0_4) := (blk_cell BK216.out 4).trans rfl; have hfz15_0 := blk_frozen BK216.out 0; have hfz15_1 := blk_frozen BK216.out 1; have hfz15_2 := blk_frozen BK216.out 2; have hfz15_3 := blk_frozen BK216.out 3; have hfz15_4 := blk_frozen BK216.out 4) | ((with_reducible refine gate_callee (f := 17) rfl ?_); refine goesL_ (some 19) rfl rfl Try.func17 (by kernel_rfl) rfl #[.slice A0_4 l0_4.length c0_4] rfl ar_ ?_; (with_reducible refine (laws_toRangeS.calls k _ _ l0_4 t222 _ ?side1 ?side2 A3.out).mono ?_); (case side1 => exact Kd.C_below HR0_4.out (hb3_ HB.out GE216.out GE217.out GE218.out)); (case side2 => exact HC0_4.out); rintro e w16 ⟨v223, rfl, ho0, hb⟩; refine ⟨_, rfl, ?_⟩; have n0_ := Aside0.mk (Kd.R_below (by refine kR_ ?_; exact (Kd.R_mono (Kd.R_f gb218 3 (.int .i64 a0_3) (Kd.R_f gb218 2 (.int .i64 a0_2) (Kd.R_f gb218 1 (.slice Ao13 t219.length co13) (Kd.R_types HO221.out BK218.out (by decide))))) (fun _ h_ => op1_ h_))) hb); have n1_ := Aside0.mk (Kd.R_lower ho0 (below_size (hb3_ HB.out GE216.out GE217.out GE218.out))); have n2_ := Aside0.mk (blk_below (g := gb216) (o := .cells #[.int .i64 a0_0, .slice A0_1 l0_1.length c0_1, .int .i64 a0_2, .int .i64 a0_3, .slice A0_4 l0_4.length c0_4] 37 (0, 0)) (by refine kb_ ?_; refine blk_far ?_ NB216_218.out _; refine kb_ ?_; refine blk_far ?_ NB216_218.out _; refine kb_ ?_; refine blk_far ?_ NB216_218.out _; refine kb_ ?_; exact BK216.out) hb); have n3_ := Aside0.mk (blk_below (g := gb217) (o := .cells #[.int .i64 0, .slice none 0 0, .int .i64 0, .int .i64 0, .slice none 0 0] 25 (0, 0)) (by refine kb_ ?_; refine blk_far ?_ NB217_218.out _; refine kb_ ?_; refine blk_far ?_ NB217_218.out _; refine kb_ ?_; refine blk_far ?_ NB217_218.out _; refine kb_ ?_; exact BK217.out) hb); have n4_ := Aside0.mk (blk_below (g := gb218) (o := .cells #[.int .i64 a0_0, .slice Ao13 t219.length co13, .int .i64 a0_2, .int .i64 a0_3, .slice none 0 0] 25 (0, 0)) (by refine kb_ ?_; refine blk_put (cs := #[.int .i64 a0_0, .slice Ao13 t219.length co13, .int .i64 a0_2, .int .i64 0, .slice none 0 0]) ?_ 3 _ rfl; refine kb_ ?_; refine blk_put (cs := #[.int .i64 a0_0, .slice Ao13 t219.length co13, .int .i64 0, .int .i64 0, .slice none 0 0]) ?_ 2 _ rfl; refine kb_ ?_; refine blk_put (cs := #[.int .i64 a0_0, .slice none 0 0, .int .i64 0, .int .i64 0, .slice none 0 0]) ?_ 1 _ rfl; refine kb_ ?_; exact BK218.out) hb); have n5_ := Aside0.mk (below_step (hb3_ HB.out GE216.out GE217.out GE218.out) hb); clear HO221; clear BK216; clear BK217; clear BK218; clear HB; have HO221 := n0_; have HO224 := n1_; have BK216 := n2_; have BK217 := n3_; have BK218 := n4_; have HB := n5_; clear n0_ n1_ n2_ n3_ n4_ n5_; (try clear hb); (try clear hb2); (try clear hk); (try clear hi); (try clear ho0); obtain ⟨Ao17, co17, eo17⟩ := Kd.R_slice HO224.out; subst eo17; have hcz18_0 : w16.cell? ⟨gb218, 0, none⟩ = some (.int .i64 a0_0) := (blk_cell BK218.out 0).trans rfl; have hcz18_1 : w16.cell? ⟨gb218, 1, none⟩ = some (.slice Ao13 t219.length co13) := (blk_cell BK218.out 1).trans rfl; have hcz18_2 : w16.cell? ⟨gb218, 2, none⟩ = some (.int .i64 a0_2) := (blk_cell BK218.out 2).trans rfl; have hcz18_3 : w16.cell? ⟨gb218, 3, none⟩ = some (.int .i64 a0_3) := (blk_cell BK218.out 3).trans rfl; have hcz18_4 : w16.cell? ⟨gb218, 4, none⟩ = some (.slice none 0 0) := (blk_cell BK218.out 4).trans rfl; have hfz18_0 := blk_frozen BK218.out 0; have hfz18_1 := blk_frozen BK218.out 1; have hfz18_2 := blk_frozen BK218.out 2; have hfz18_3 := blk_frozen BK218.out 3; have hfz18_4 := blk_frozen BK218.out 4; have hcz19_0 : w16.cell? ⟨gb217, 0, none⟩ = some (.int .i64 0) := (blk_cell BK217.out 0).trans rfl; have hcz19_1 : w16.cell? ⟨gb217, 1, none⟩ = some (.slice none 0 0) := (blk_cell BK217.out 1).trans rfl; have hcz19_2 : w16.cell? ⟨gb217, 2, none⟩ = some (.int .i64 0) := (blk_cell BK217.out 2).trans rfl; have hcz19_3 : w16.cell? ⟨gb217, 3, none⟩ = some (.int .i64 0) := (blk_cell BK217.out 3).trans rfl; have hcz19_4 : w16.cell? ⟨gb217, 4, none⟩ = some (.slice none 0 0) := (blk_cell BK217.out 4).trans rfl; have hfz19_0 := blk_frozen BK217.out 0; have hfz19_1 := blk_frozen BK217.out 1; have hfz19_2 := blk_frozen BK217.out 2; have hfz19_3 := blk_frozen BK217.out 3; have hfz19_4 := blk_frozen BK217.out 4))
  refine bodyPost_ret (results_cell_row rfl _ _ gb217 25 #[.int .i64 a0_0, .slice Ao13 t219.length co13, .int .i64 a0_2, .int .i64 a0_3, .slice Ao17 t222.length co17] (0, 0) _ rfl (by refine kb_ ?_; refine blk_put (cs := #[.int .i64 a0_0, .slice Ao13 t219.length co13, .int .i64 a0_2, .int .i64 a0_3, .slice none 0 0]) ?_ 4 _ rfl; refine kb_ ?_; refine blk_put (cs := #[.int .i64 a0_0, .slice Ao13 t219.length co13, .int .i64 a0_2, .int .i64 0, .slice none 0 0]) ?_ 3 _ rfl; refine kb_ ?_; refine blk_put (cs := #[.int .i64 a0_0, .slice Ao13 t219.length co13, .int .i64 0, .int .i64 0, .slice none 0 0]) ?_ 2 _ rfl; refine kb_ ?_; refine blk_put (cs := #[.int .i64 a0_0, .slice none 0 0, .int .i64 0, .int .i64 0, .slice none 0 0]) ?_ 1 _ rfl; refine kb_ ?_; refine blk_put (cs := #[.int .i64 0, .slice none 0 0, .int .i64 0, .int .i64 0, .slice none 0 0]) ?_ 0 _ rfl; refine kb_ ?_; refine blk_far ?_ NB217_218.out _; refine kb_ ?_; exact BK217.out) Try.underlying25 rfl (by kernel_rfl)) rfl ?_
  exact ⟨_, _, by first | rfl | (simp [errW_none, errW_some] <;> rfl) | (simp [*, errW_none, errW_some] <;> rfl), by refine kR_ ?_; exact Kd.R_mono (Kd.R_f gb217 4 (.slice Ao17 t222.length co17) (Kd.R_f gb217 3 (.int .i64 a0_3) (Kd.R_f gb217 2 (.int .i64 a0_2) (Kd.R_f gb217 1 (.slice Ao13 t219.length co13) (Kd.R_f gb217 0 (.int .i64 a0_0) (Kd.R_far (p := ⟨gb218, 4, none⟩) (Kd.R_types (Kd.R_types HO221.out BK218.out (by decide)) BK217.out (by decide)) (fun _ hk => hk.1.2) (.slice Ao17 t222.length co17))))))) (fun _ hk => trivial), by refine kR_ ?_; exact Kd.R_mono (Kd.R_f gb217 4 (.slice Ao17 t222.length co17) (Kd.R_f gb217 3 (.int .i64 a0_3) (Kd.R_f gb217 2 (.int .i64 a0_2) (Kd.R_f gb217 1 (.slice Ao13 t219.length co13) (Kd.R_f gb217 0 (.int .i64 a0_0) (Kd.R_far (p := ⟨gb218, 4, none⟩) (Kd.R_types (Kd.R_types HO224.out BK218.out (by decide)) BK217.out (by decide)) (fun _ hk => hk.1.2) (.slice Ao17 t222.length co17))))))) (fun _ hk => trivial), by repeat (first | (with_reducible first | exact HB.out | apply below_alloc | apply pw_below_drewN | apply below_drew1 | refine below_set ?_ GE216.out | refine below_set ?_ GE217.out | refine below_set ?_ GE218.out) | exact HB.out)⟩

/-! ### laws_eqRange: function 43 -/
def laws_eqRange.f (a0_0 : Int) (a0_1 : Int) (a1_0 : Int) (a1_1 : Int) : Option (Bool) := if a0_0 = a1_0 then (if a0_1 = a1_1 then (some true) else (some false)) else (some false)
set_option maxHeartbeats 8000000 in
set_option maxRecDepth 100000 in
theorem laws_eqRange.calls (a0_0 : Int) (a0_1 : Int) (a1_0 : Int) (a1_1 : Int) (r : Bool) (w : World) (h : laws_eqRange.f a0_0 a0_1 a1_0 a1_1 = some r) :
    Calls Try.prog 43 #[.agg #[.int .i64 a0_0, .int .i64 a0_1], .agg #[.int .i64 a1_0, .int .i64 a1_1]] w fun e w' => e = .returned (.bool r) ∧ Below w.heap.size w w' := by
  have hu60 := Try.underlying60
  have HB := Aside0.mk (Below.refl w.heap.size w)
  have H : (if a0_0 = a1_0 then (if a0_1 = a1_1 then (some true) else (some false)) else (some false)) = some r := h
  clear h
  by_cases c3 : a0_0 = a1_0
  · rw [if_pos c3] at H
    have c3b0 : (a0_0 == a1_0) = true := beq_iff_eq.mpr c3
    have c3b1 : (a0_0 != a1_0) = false := bne_eq_false_iff_eq.mpr c3
    clear c3
    by_cases c4 : a0_1 = a1_1
    · rw [if_pos c4] at H
      have c4b0 : (a0_1 == a1_1) = true := beq_iff_eq.mpr c4
      have c4b1 : (a0_1 != a1_1) = false := bne_eq_false_iff_eq.mpr c4
      clear c4
      obtain rfl := Option.some.inj H
      go_enter Try.func43, Try.ntmps43
      go_wp2_with (first | ((with_reducible refine gate_dst (N := 2) rfl ?_); refine box_event ?hg (N := 2) ?hd (cs := #[.int .i64 a0_0, .int .i64 a0_1]) (t := 60) ?hr ?_; (case hd => rfl); (case hg => rfl); (case hr => first | (go_simp; done) | (go_simp; rfl)); intro gb225 hg w5 hbox hb; have n0_ := Aside0.mk (below_step (hb0_ HB.out) hb); have n1_ := Aside0.mk (hbox); have n2_ := Aside0.mk ((by rw [hg]; exact (below_size (hb0_ HB.out)) : w.heap.size ≤ gb225)); have n3_ := Aside0.mk ((by rw [hg]; exact (below_size (hb0_ HB.out)) : w.heap.size ≤ gb225)); clear HB; have HB := n0_; have BK225 := n1_; have GW225 := n2_; have GE225 := n3_; clear n0_ n1_ n2_ n3_; clear hb hbox hg) | ((with_reducible refine gate_dst (N := 3) rfl ?_); refine box_event ?hg (N := 3) ?hd (cs := #[.int .i64 a1_0, .int .i64 a1_1]) (t := 60) ?hr ?_; (case hd => rfl); (case hg => rfl); (case hr => first | (go_simp; done) | (go_simp; rfl)); intro gb226 hg w6 hbox hb; have n0_ := Aside0.mk (blk_below (g := gb225) (o := .cells #[.int .i64 a0_0, .int .i64 a0_1] 60 (0, 0)) (kb_ BK225.out) hb); have n1_ := Aside0.mk (below_step (hb1_ HB.out GE225.out) hb); have n2_ := Aside0.mk (hbox); have n3_ := Aside0.mk ((by rw [hg]; exact (below_size (hb1_ HB.out GE225.out)) : w.heap.size ≤ gb226)); have n4_ := Aside0.mk ((by rw [hg]; exact (below_size (hb1_ HB.out GE225.out)) : w.heap.size ≤ gb226)); have n5_ := Aside0.mk ((by rw [hg]; exact Nat.ne_of_lt (blk_lt (g := gb225) (o := .cells #[.int .i64 a0_0, .int .i64 a0_1] 60 (0, 0)) (kb_ BK225.out)) : gb225 ≠ gb226)); have n6_ := Aside0.mk ((by rw [hg]; exact Nat.ne_of_gt (blk_lt (g := gb225) (o := .cells #[.int .i64 a0_0, .int .i64 a0_1] 60 (0, 0)) (kb_ BK225.out)) : gb226 ≠ gb225)); clear BK225; clear HB; have BK225 := n0_; have HB := n1_; have BK226 := n2_; have GW226 := n3_; have GE226 := n4_; have NB225_226 := n5_; have NB226_225 := n6_; clear n0_ n1_ n2_ n3_ n4_ n5_ n6_; clear hb hbox hg; have hnb7 := NB225_226.out; have hnc7 := NB226_225.out; have hcz8_0 : w6.cell? ⟨gb225, 0, none⟩ = some (.int .i64 a0_0) := (blk_cell BK225.out 0).trans rfl; have hcz8_1 : w6.cell? ⟨gb225, 1, none⟩ = some (.int .i64 a0_1) := (blk_cell BK225.out 1).trans rfl; have hfz8_0 := blk_frozen BK225.out 0; have hfz8_1 := blk_frozen BK225.out 1; have hcz9_0 : w6.cell? ⟨gb226, 0, none⟩ = some (.int .i64 a1_0) := (blk_cell BK226.out 0).trans rfl; have hcz9_1 : w6.cell? ⟨gb226, 1, none⟩ = some (.int .i64 a1_1) := (blk_cell BK226.out 1).trans rfl; have hfz9_0 := blk_frozen BK226.out 0; have hfz9_1 := blk_frozen BK226.out 1))
      go_ret
      exact ⟨by first | rfl | (simp [errW_none, errW_some] <;> rfl) | (simp [*, errW_none, errW_some] <;> rfl), by repeat (first | (with_reducible first | exact HB.out | apply below_alloc | apply pw_below_drewN | apply below_drew1 | refine below_set ?_ GE225.out | refine below_set ?_ GE226.out) | exact HB.out)⟩
    · rw [if_neg c4] at H
      have c4b0 : (a0_1 == a1_1) = false := beq_eq_false_iff_ne.mpr c4
      have c4b1 : (a0_1 != a1_1) = true := bne_iff_ne.mpr c4
      obtain rfl := Option.some.inj H
      go_enter Try.func43, Try.ntmps43
      go_wp2_with (first | ((with_reducible refine gate_dst (N := 2) rfl ?_); refine box_event ?hg (N := 2) ?hd (cs := #[.int .i64 a0_0, .int .i64 a0_1]) (t := 60) ?hr ?_; (case hd => rfl); (case hg => rfl); (case hr => first | (go_simp; done) | (go_simp; rfl)); intro gb225 hg w10 hbox hb; have n0_ := Aside0.mk (below_step (hb0_ HB.out) hb); have n1_ := Aside0.mk (hbox); have n2_ := Aside0.mk ((by rw [hg]; exact (below_size (hb0_ HB.out)) : w.heap.size ≤ gb225)); have n3_ := Aside0.mk ((by rw [hg]; exact (below_size (hb0_ HB.out)) : w.heap.size ≤ gb225)); clear HB; have HB := n0_; have BK225 := n1_; have GW225 := n2_; have GE225 := n3_; clear n0_ n1_ n2_ n3_; clear hb hbox hg) | ((with_reducible refine gate_dst (N := 3) rfl ?_); refine box_event ?hg (N := 3) ?hd (cs := #[.int .i64 a1_0, .int .i64 a1_1]) (t := 60) ?hr ?_; (case hd => rfl); (case hg => rfl); (case hr => first | (go_simp; done) | (go_simp; rfl)); intro gb226 hg w11 hbox hb; have n0_ := Aside0.mk (blk_below (g := gb225) (o := .cells #[.int .i64 a0_0, .int .i64 a0_1] 60 (0, 0)) (kb_ BK225.out) hb); have n1_ := Aside0.mk (below_step (hb1_ HB.out GE225.out) hb); have n2_ := Aside0.mk (hbox); have n3_ := Aside0.mk ((by rw [hg]; exact (below_size (hb1_ HB.out GE225.out)) : w.heap.size ≤ gb226)); have n4_ := Aside0.mk ((by rw [hg]; exact (below_size (hb1_ HB.out GE225.out)) : w.heap.size ≤ gb226)); have n5_ := Aside0.mk ((by rw [hg]; exact Nat.ne_of_lt (blk_lt (g := gb225) (o := .cells #[.int .i64 a0_0, .int .i64 a0_1] 60 (0, 0)) (kb_ BK225.out)) : gb225 ≠ gb226)); have n6_ := Aside0.mk ((by rw [hg]; exact Nat.ne_of_gt (blk_lt (g := gb225) (o := .cells #[.int .i64 a0_0, .int .i64 a0_1] 60 (0, 0)) (kb_ BK225.out)) : gb226 ≠ gb225)); clear BK225; clear HB; have BK225 := n0_; have HB := n1_; have BK226 := n2_; have GW226 := n3_; have GE226 := n4_; have NB225_226 := n5_; have NB226_225 := n6_; clear n0_ n1_ n2_ n3_ n4_ n5_ n6_; clear hb hbox hg; have hnb12 := NB225_226.out; have hnc12 := NB226_225.out; have hcz13_0 : w11.cell? ⟨gb225, 0, none⟩ = some (.int .i64 a0_0) := (blk_cell BK225.out 0).trans rfl; have hcz13_1 : w11.cell? ⟨gb225, 1, none⟩ = some (.int .i64 a0_1) := (blk_cell BK225.out 1).trans rfl; have hfz13_0 := blk_frozen BK225.out 0; have hfz13_1 := blk_frozen BK225.out 1; have hcz14_0 : w11.cell? ⟨gb226, 0, none⟩ = some (.int .i64 a1_0) := (blk_cell BK226.out 0).trans rfl; have hcz14_1 : w11.cell? ⟨gb226, 1, none⟩ = some (.int .i64 a1_1) := (blk_cell BK226.out 1).trans rfl; have hfz14_0 := blk_frozen BK226.out 0; have hfz14_1 := blk_frozen BK226.out 1))
      go_ret
      exact ⟨by first | rfl | (simp [errW_none, errW_some] <;> rfl) | (simp [*, errW_none, errW_some] <;> rfl), by repeat (first | (with_reducible first | exact HB.out | apply below_alloc | apply pw_below_drewN | apply below_drew1 | refine below_set ?_ GE225.out | refine below_set ?_ GE226.out) | exact HB.out)⟩
  · rw [if_neg c3] at H
    have c3b0 : (a0_0 == a1_0) = false := beq_eq_false_iff_ne.mpr c3
    have c3b1 : (a0_0 != a1_0) = true := bne_iff_ne.mpr c3
    obtain rfl := Option.some.inj H
    go_enter Try.func43, Try.ntmps43
    go_wp2_with (first | ((with_reducible refine gate_dst (N := 2) rfl ?_); refine box_event ?hg (N := 2) ?hd (cs := #[.int .i64 a0_0, .int .i64 a0_1]) (t := 60) ?hr ?_; (case hd => rfl); (case hg => rfl); (case hr => first | (go_simp; done) | (go_simp; rfl)); intro gb225 hg w15 hbox hb; have n0_ := Aside0.mk (below_step (hb0_ HB.out) hb); have n1_ := Aside0.mk (hbox); have n2_ := Aside0.mk ((by rw [hg]; exact (below_size (hb0_ HB.out)) : w.heap.size ≤ gb225)); have n3_ := Aside0.mk ((by rw [hg]; exact (below_size (hb0_ HB.out)) : w.heap.size ≤ gb225)); clear HB; have HB := n0_; have BK225 := n1_; have GW225 := n2_; have GE225 := n3_; clear n0_ n1_ n2_ n3_; clear hb hbox hg) | ((with_reducible refine gate_dst (N := 3) rfl ?_); refine box_event ?hg (N := 3) ?hd (cs := #[.int .i64 a1_0, .int .i64 a1_1]) (t := 60) ?hr ?_; (case hd => rfl); (case hg => rfl); (case hr => first | (go_simp; done) | (go_simp; rfl)); intro gb226 hg w16 hbox hb; have n0_ := Aside0.mk (blk_below (g := gb225) (o := .cells #[.int .i64 a0_0, .int .i64 a0_1] 60 (0, 0)) (kb_ BK225.out) hb); have n1_ := Aside0.mk (below_step (hb1_ HB.out GE225.out) hb); have n2_ := Aside0.mk (hbox); have n3_ := Aside0.mk ((by rw [hg]; exact (below_size (hb1_ HB.out GE225.out)) : w.heap.size ≤ gb226)); have n4_ := Aside0.mk ((by rw [hg]; exact (below_size (hb1_ HB.out GE225.out)) : w.heap.size ≤ gb226)); have n5_ := Aside0.mk ((by rw [hg]; exact Nat.ne_of_lt (blk_lt (g := gb225) (o := .cells #[.int .i64 a0_0, .int .i64 a0_1] 60 (0, 0)) (kb_ BK225.out)) : gb225 ≠ gb226)); have n6_ := Aside0.mk ((by rw [hg]; exact Nat.ne_of_gt (blk_lt (g := gb225) (o := .cells #[.int .i64 a0_0, .int .i64 a0_1] 60 (0, 0)) (kb_ BK225.out)) : gb226 ≠ gb225)); clear BK225; clear HB; have BK225 := n0_; have HB := n1_; have BK226 := n2_; have GW226 := n3_; have GE226 := n4_; have NB225_226 := n5_; have NB226_225 := n6_; clear n0_ n1_ n2_ n3_ n4_ n5_ n6_; clear hb hbox hg; have hnb17 := NB225_226.out; have hnc17 := NB226_225.out; have hcz18_0 : w16.cell? ⟨gb225, 0, none⟩ = some (.int .i64 a0_0) := (blk_cell BK225.out 0).trans rfl; have hcz18_1 : w16.cell? ⟨gb225, 1, none⟩ = some (.int .i64 a0_1) := (blk_cell BK225.out 1).trans rfl; have hfz18_0 := blk_frozen BK225.out 0; have hfz18_1 := blk_frozen BK225.out 1; have hcz19_0 : w16.cell? ⟨gb226, 0, none⟩ = some (.int .i64 a1_0) := (blk_cell BK226.out 0).trans rfl; have hcz19_1 : w16.cell? ⟨gb226, 1, none⟩ = some (.int .i64 a1_1) := (blk_cell BK226.out 1).trans rfl; have hfz19_0 := blk_frozen BK226.out 0; have hfz19_1 := blk_frozen BK226.out 1))
    go_ret
    exact ⟨by first | rfl | (simp [errW_none, errW_some] <;> rfl) | (simp [*, errW_none, errW_some] <;> rfl), by repeat (first | (with_reducible first | exact HB.out | apply below_alloc | apply pw_below_drewN | apply below_drew1 | refine below_set ?_ GE225.out | refine below_set ?_ GE226.out) | exact HB.out)⟩

end Go.Proofs.Ytjiodkbbmhhccab.PFnExactMouthWrite
