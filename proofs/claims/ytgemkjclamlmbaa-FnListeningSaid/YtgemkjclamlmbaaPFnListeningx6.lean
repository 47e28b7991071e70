/- Printed by wip/xp/xprint.sh out of the translation, for this claim: what each function answers, as a plain function, and that the machine does just that. No condition. -/
import Derived.Test.YtgemkjclamlmbaaPFnListeningx0
import Derived.Test.YtgemkjclamlmbaaPFnListeningx2
import Derived.Test.YtgemkjclamlmbaaPFnListeningx3
import Derived.Test.YtgemkjclamlmbaaPFnListeningx4
namespace Go.Proofs.Ytgemkjclamlmbaa.PFnListening
open Go.RowKit Go.Proofs.YtgemkjclamlmbaaW.PrintWords Go.Proofs.YtgemkjclamlmbaaW.PrintLast Go.Proofs.YtgemkjclamlmbaaW.PrintMore
attribute [local go_sem] max2_int min2_int max_two min_two max_three min_three max_four min_four   -- for this text's walks alone
set_option linter.unusedVariables false
set_option linter.unusedSimpArgs false
def impl_EarRead.j0 : Nat → Int → Bool → Int → Int → List Int → List (S50) → Option (Int × Int × List Int × (List (S50)) × List Int)
 | 0, _, _, _, _, _, _ => none
 | k + 1, x1, x14, x281000, x281001, x281002, x281003 => if x14 = true then (some (0, 0, ([] : List Int), ([] : List (S50)), ([] : List Int))) else (if 0 ≤ (mn x1 (x281002.length : Int)) then (if (mn x1 (x281002.length : Int)) ≤ (x281002.length : Int) then ((impl_Ear_copy.f x281000 x281001 (x281002.drop ((mn x1 (x281002.length : Int)) : Int).toNat) x281003).bind fun bt285 => ((impl_clone_byte.f (x281002.take ((mn x1 (x281002.length : Int)) : Int).toNat)).bind fun t294 => (some (bt285.1, bt285.2.1, bt285.2.2.1, bt285.2.2.2, t294)))) else (none)) else (none))
def impl_EarRead.f (k : Nat) (a0_0 : Int) (a0_1 : Int) (l0_2 : List Int) (l0_3 : List (S50)) (a1 : Int) : Option (Int × Int × List Int × (List (S50)) × List Int) := (impl_EarOk.f k a0_0 a0_1 l0_2 l0_3).bind fun t282 => (if t282 = true then (impl_EarRead.j0 k a1 (decide (a1 < 0)) a0_0 a0_1 l0_2 l0_3) else (impl_EarRead.j0 k a1 true a0_0 a0_1 l0_2 l0_3))
theorem impl_EarRead.mono_l : ∀ k, (∀ y0 y1 y2 y3 y4 y5, LeO (impl_EarRead.j0 k y0 y1 y2 y3 y4 y5) (impl_EarRead.j0 (k + 1) y0 y1 y2 y3 y4 y5))
 | 0 => fun _ _ _ _ _ _ r h => by simp [impl_EarRead.j0] at h
 | k + 1 => by
  have ih0 := impl_EarRead.mono_l k
  ·intro y0 y1 y2 y3 y4 y5
   unfold impl_EarRead.j0
   repeat' first | (with_reducible first | apply ih0 | apply impl_EarOk.mono | exact LeO.refl _ | exact LeO.none _ | refine LeO.ite ?_ ?_ | refine LeO.bind ?_ fun _ => ?_) | apply ih0 | apply impl_EarOk.mono | exact LeO.none _ | refine LeO.ite ?_ ?_ | refine LeO.bind ?_ fun _ => ?_
theorem impl_EarRead.mono : ∀ a0 a1 a2 a3 a4 k, LeO (impl_EarRead.f k a0 a1 a2 a3 a4) (impl_EarRead.f (k + 1) a0 a1 a2 a3 a4) := by
 intro a0 a1 a2 a3 a4 k
 have ih0 := impl_EarRead.mono_l k
 unfold impl_EarRead.f
 repeat' first | (with_reducible first | apply ih0 | apply impl_EarOk.mono | exact LeO.refl _ | exact LeO.none _ | refine LeO.ite ?_ ?_ | refine LeO.bind ?_ fun _ => ?_) | apply ih0 | apply impl_EarOk.mono | exact LeO.none _ | refine LeO.ite ?_ ?_ | refine LeO.bind ?_ fun _ => ?_
def impl_EarRead.T6 : Bool × List (List Nat × List Nat) := (true, [([], []), ([0], [0]), ([], []), ([2], [2]), ([], []), ([3, 4], [3, 4]), ([5, 1], [5]), ([1, 6, 0, 1], [1]), ([6, 7, 0, 1, 2, 3, 4, 5, 6, 7], [6])])
def impl_EarRead.B6 : List Nat := [0, 1, 0, 4, 0, 28, 63, 127, 255]
theorem impl_EarRead.tab6 : rtab .any (opsOf Try.f9 6) = impl_EarRead.T6 := by kernel_rfl
theorem impl_EarRead.bits6 : waitsOk impl_EarRead.T6.2 impl_EarRead.B6 = true := by kernel_rfl
set_option maxHeartbeats 8000000 in
set_option maxRecDepth 100000 in
theorem impl_EarRead.calls (k : Nat) (a0_0 : Int) (a0_1 : Int) (A0_2 : Option Addr) (c0_2 : Nat) (l0_2 : List Int) (A0_3 : Option Addr) (c0_3 : Nat) (l0_3 : List (S50)) (a1 : Int) (r1 : Int) (r2 : Int) (r3 : List Int) (r4 : List (S50)) (r5 : List Int) (w : World) (hr0_2 : Kd.C (Kd.int .u8) w A0_2 l0_2.length l0_2) (hc0_2 : l0_2.length ≤ c0_2) (hr0_3 : Kd.C k50 w A0_3 l0_3.length l0_3) (hc0_3 : l0_3.length ≤ c0_3) (h : impl_EarRead.f k a0_0 a0_1 l0_2 l0_3 a1 = some (r1, r2, r3, r4, r5)) :
  Calls Try.prog 9 #[.agg #[.int .i64 a0_0, .int .i64 a0_1, .slice A0_2 l0_2.length c0_2, .slice A0_3 l0_3.length c0_3], .int .i64 a1] w fun e w' => ∃ v2_ v3_ v4_ : Value, e = .returned (.tuple #[.agg #[.int .i64 r1, .int .i64 r2, v2_, v3_], v4_]) ∧ Kd.R (Kd.int .u8) 5 w' w.heap.size (fun k_ => some k_ ≠ (v4_ : Value).ownBlock) v2_ r3 ∧ Kd.R k50 50 w' w.heap.size (fun _ => True) v3_ r4 ∧ Kd.R (Kd.int .u8) 5 w' w.heap.size (fun k_ => some k_ ≠ (v2_ : Value).ownBlock) v4_ r5 ∧ Below w.heap.size w w' := by
 have hu29 := Try.underlying29; have HR0_2 := Aside0.mk hr0_2; have HC0_2 := Aside0.mk hc0_2; clear hr0_2 hc0_2; have HR0_3 := Aside0.mk hr0_3; have HC0_3 := Aside0.mk hc0_3; clear hr0_3 hc0_3
 have HB := Aside0.mk (Below.refl w.heap.size w)
 have H : ((impl_EarOk.f k a0_0 a0_1 l0_2 l0_3).bind fun t282 => (if t282 = true then (impl_EarRead.j0 k a1 (decide (a1 < 0)) a0_0 a0_1 l0_2 l0_3) else (impl_EarRead.j0 k a1 true a0_0 a0_1 l0_2 l0_3))) = some (r1, r2, r3, r4, r5) := h
 clear h; have HC3 := Aside0.mk H; clear H
 go_enter Try.func9, Try.ntmps9
 go_upto_region 1 with (first | ((with_reducible refine gate_dst (N := 2) rfl ?_); refine box_ (N := 2) (cs := #[.int .i64 a0_0, .int .i64 a0_1, .slice A0_2 l0_2.length c0_2, .slice A0_3 l0_3.length c0_3]) (t := 29) (fun gb280 hg w4 hbox hb => ?_); have BK280 := Aside0.mk (hbox); have GW280 := ge_ hg HB; have GE280 := ge_ hg HB; replace HB := (bs_ HB hb); clear hb hbox hg) | ((with_reducible refine gate_dst (N := 4) rfl ?_); refine box_ (N := 4) (cs := #[.int .i64 0, .int .i64 0, .slice none 0 0, .slice none 0 0]) (t := 29) (fun gb281 hg w5 hbox hb => ?_); have BK281 := Aside0.mk (hbox); have GW281 := ge_ hg HB; have GE281 := ge_ hg HB; replace HB := (bs_ HB hb); have NB280_281 := nl_ hg BK280; have NB281_280 := ng_ hg BK280; replace BK280 := (bbA_ BK280 hb); clear hb hbox hg))
 (try simp only [Act.put, List.setIfInBounds_toArray, List.set_cons_zero, List.set_cons_succ])
 go_cut [14] (fun v14 wc => ∃ (kq : Nat) (x14_2 : Bool), v14 = .bool x14_2 ∧ Aside0 (impl_EarRead.j0 kq a1 x14_2 a0_0 a0_1 l0_2 l0_3 = some (r1, r2, r3, r4, r5)) ∧ Aside0 (kq ≤ k) ∧ Aside0 (wc.heap[gb280]? = some (.cells #[.int .i64 a0_0, .int .i64 a0_1, (.slice A0_2 l0_2.length c0_2), (.slice A0_3 l0_3.length c0_3)] 29 (0, 0))) ∧ Aside0 (wc.heap[gb281]? = some (.cells #[.int .i64 0, .int .i64 0, (.slice none 0 0), (.slice none 0 0)] 29 (0, 0))) ∧ Aside0 (Below w.heap.size w wc))
 case first =>
  have H := HC3.out; clear HC3
  replace H := Option.bind_eq_some_iff.mp H
  obtain ⟨t282, A60, H⟩ := H
  (try dsimp only at H)
  have A6 := Aside0.mk A60; clear A60
  by_cases c7 : t282 = true
  ·subst c7
   rw [if_pos rfl] at H
   have H' := Aside0.mk H
   clear H; have hnb8 := NB280_281.out; have hnc8 := NB281_280.out; have Z9 := zz4 BK280
   go_wp2_with (first | ((with_reducible refine gate_callee (f := 11) rfl ?_); refine goesL_ (some 9) rfl rfl Try.func11 (by kernel_rfl) rfl #[.agg #[.int .i64 a0_0, .int .i64 a0_1, .slice A0_2 l0_2.length c0_2, .slice A0_3 l0_3.length c0_3]] rfl ar_ ?_; (with_reducible refine (impl_EarOk.calls k a0_0 a0_1 _ _ l0_2 _ _ l0_3 true _ ?side1 ?side2 ?side3 ?side4 A6.out).mono ?_); (case side1 => exact kC_ (Kd.C_below HR0_2.out HB.out)); (case side2 => exact HC0_2.out); (case side3 => exact kC_ (Kd.C_below HR0_3.out HB.out)); (case side4 => exact HC0_3.out); rintro e w10 ⟨rfl, hb⟩; refine ⟨_, rfl, ?_⟩; replace BK280 := (bbA_ BK280 hb); replace BK281 := (bbA_ BK281 hb); replace HB := (bs_ HB hb); (try clear hb); (try clear hb2); (try clear hk); (try clear hi)))
   go_meet
   case rel => exact ⟨_, (decide (a1 < 0)), (by first | rfl | (simp; done) | (simp [*]; done)), H', ⟨by first | omega | exact Nat.le_refl _⟩, ⟨by refine kb_ ?_; exact BK280.out⟩, ⟨by refine kb_ ?_; exact BK281.out⟩, ⟨hbA_ HB.out⟩⟩
  ·replace c7 := Bool.eq_false_iff.mpr c7
   subst c7
   rw [if_neg (show ¬ (false = true) by decide)] at H
   have H' := Aside0.mk H
   clear H; have hnb11 := NB280_281.out; have hnc11 := NB281_280.out; have Z12 := zz4 BK280
   go_wp2_with (first | ((with_reducible refine gate_callee (f := 11) rfl ?_); refine goesL_ (some 9) rfl rfl Try.func11 (by kernel_rfl) rfl #[.agg #[.int .i64 a0_0, .int .i64 a0_1, .slice A0_2 l0_2.length c0_2, .slice A0_3 l0_3.length c0_3]] rfl ar_ ?_; (with_reducible refine (impl_EarOk.calls k a0_0 a0_1 _ _ l0_2 _ _ l0_3 false _ ?side1 ?side2 ?side3 ?side4 A6.out).mono ?_); (case side1 => exact kC_ (Kd.C_below HR0_2.out HB.out)); (case side2 => exact HC0_2.out); (case side3 => exact kC_ (Kd.C_below HR0_3.out HB.out)); (case side4 => exact HC0_3.out); rintro e w13 ⟨rfl, hb⟩; refine ⟨_, rfl, ?_⟩; replace BK280 := (bbA_ BK280 hb); replace BK281 := (bbA_ BK281 hb); replace HB := (bs_ HB hb); (try clear hb); (try clear hb2); (try clear hk); (try clear hi)))
   go_meet
   case rel => exact ⟨_, (true), (by first | rfl | (simp; done) | (simp [*]; done)), H', ⟨by first | omega | exact Nat.le_refl _⟩, ⟨by refine kb_ ?_; exact BK280.out⟩, ⟨by refine kb_ ?_; exact BK281.out⟩, ⟨hbA_ HB.out⟩⟩
 case rest =>
  clear HC3; (try clear c1); (try clear p2); (try clear c7); (try clear c8); (try clear c9); (try clear c11); (try clear Z12); (try clear Z9)
  obtain ⟨kq, x14_2, rfl, HA, HJ2, BK280, BK281, HB⟩ := hcut
  cases kq with
  | zero => exact absurd HA.out (by simp [impl_EarRead.j0])
  | succ kj2 =>
   have H := HA.out; clear HA
   simp only [impl_EarRead.j0] at H
   by_cases c14 : x14_2 = true
   ·subst c14
    rw [if_pos rfl] at H
    simp only [Option.some.injEq, Prod.mk.injEq] at H
    obtain ⟨rfl, rfl, rfl, rfl, rfl⟩ := H
    have hnb15 := NB281_280.out; have hnc15 := NB280_281.out; have Z16 := zz4 BK281
    go_wp2
    refine bodyPost_ret (results_ct rfl _ _ gb281 29 #[.int .i64 0, .int .i64 0, .slice none 0 0, .slice none 0 0] (0, 0) _ rfl (by refine kb_ ?_; refine pz4 (cs := #[.int .i64 0, .int .i64 0, .slice none 0 0, .slice none 0 0]) ?_; refine kb_ ?_; exact BK281.out) Try.underlying29 rfl (by kernel_rfl)) rfl ?_
    exact ⟨_, _, _, by first | rfl | (simp [errW_none, errW_some] <;> rfl) | (simp [*, errW_none, errW_some] <;> rfl), by first | exact Kd.R_nil _ _ _ _ _ | exact Kd.N_nil _ _ _ _ _ | exact Kd.V_nil _ _ _ _ _ | exact Kd.Q_nil _ _ _ _ _ | exact Kd.S_nil _ _ _ _ _, by first | exact Kd.R_nil _ _ _ _ _ | exact Kd.N_nil _ _ _ _ _ | exact Kd.V_nil _ _ _ _ _ | exact Kd.Q_nil _ _ _ _ _ | exact Kd.S_nil _ _ _ _ _, by first | exact Kd.R_nil _ _ _ _ _ | exact Kd.N_nil _ _ _ _ _ | exact Kd.V_nil _ _ _ _ _ | exact Kd.Q_nil _ _ _ _ _ | exact Kd.S_nil _ _ _ _ _, hbA_ HB.out⟩
   ·replace c14 := Bool.eq_false_iff.mpr c14
    subst c14
    rw [if_neg (show ¬ (false = true) by decide)] at H
    obtain ⟨ji17, hji17⟩ : ∃ j_ : Int, (mn a1 (l0_2.length : Int)) = j_ := ⟨_, rfl⟩
    (first | rw [hji17] at H | simp only [hji17] at H)
    have hji17_ : (if (l0_2.length : Int) < a1 then (l0_2.length : Int) else a1) = ji17 := hji17
    by_cases c18 : 0 ≤ (ji17)
    ·rw [if_pos c18] at H
     have c18b0 := eq_true c18
     have c18b1 : decide (0 ≤ (ji17)) = true := decide_eq_true c18
     clear c18
     by_cases c19 : (ji17) ≤ (l0_2.length : Int)
     ·rw [if_pos c19] at H
      have c19b0 := eq_true c19
      have c19b1 : decide ((ji17) ≤ (l0_2.length : Int)) = true := decide_eq_true c19
      clear c19
      replace H := Option.bind_eq_some_iff.mp H
      obtain ⟨⟨t285, t286, t287, t290⟩, A200, H⟩ := H
      (try dsimp only at H)
      have A20 := Aside0.mk A200; clear A200
      have c21b0 := eq_true (of_decide_eq_true (by first | (with_reducible assumption) | assumption) : 0 ≤ (ji17))
      have c22b0 := eq_true (of_decide_eq_true (by first | (with_reducible assumption) | assumption) : (ji17) ≤ (l0_2.length : Int))
      replace H := Option.bind_eq_some_iff.mp H
      obtain ⟨t294, A230, H⟩ := H
      (try dsimp only at H)
      have A23 := Aside0.mk A230; clear A230
      simp only [Option.some.injEq, Prod.mk.injEq] at H
      obtain ⟨rfl, rfl, rfl, rfl, rfl⟩ := H
      have hnb24 := NB280_281.out; have hnc24 := NB281_280.out; have Z25 := zz4 BK280
      try go_wp2_with (first | ((with_reducible refine gate_dst (N := 7) rfl ?_); refine box_ (N := 7) (cs := #[.int .i64 0, .int .i64 0, .slice none 0 0, .slice none 0 0]) (t := 29) (fun gb283 hg w26 hbox hb => ?_); have BK283 := Aside0.mk (hbox); have GW283 := ge_ hg HB; have GE283 := ge_ hg HB; replace HB := (bs_ HB hb); have NB280_283 := nl_ hg BK280; have NB283_280 := ng_ hg BK280; replace BK280 := (bbA_ BK280 hb); have NB281_283 := nl_ hg BK281; have NB283_281 := ng_ hg BK281; replace BK281 := (bbA_ BK281 hb); clear hb hbox hg; have hnb27 := NB283_280.out; have hnc27 := NB280_283.out; have hnb28 := NB283_281.out; have hnc28 := NB281_283.out; have Z29 := zz4 BK283; have Z30 := zz4 BK280; obtain ⟨i031, hi031, _, hsz31, _⟩ := info_parts info5; obtain ⟨A31, hcut31, hA31, hC31⟩ := print_drop_of (P := Try.prog) (Value.int .u8) 0 22 5 .i64 Try.underlying22 hi031 hsz31 A0_2 c0_2 l0_2 (ji17) (of_decide_eq_true (by first | (with_reducible assumption) | assumption)) (of_decide_eq_true (by first | (with_reducible assumption) | assumption)) HC0_2.out; have HR284 := Aside0.mk (Kd.C_of_reads (h1 := fun _ => rfl) (hA31 _ (Kd.reads_of_C HR0_2.out))); have HC284 := Aside0.mk hC31; clear hA31 hC31 hi031 hsz31))
      (try simp only [← List.length_drop])
      obtain ⟨w32, h_w32⟩ : ∃ w_, (((((w26.setCell ⟨gb283, 0, none⟩ (.int .i64 a0_0)).setCell ⟨gb283, 1, none⟩ (.int .i64 a0_1)).setCell ⟨gb283, 2, none⟩ (.slice A0_2 l0_2.length c0_2)).setCell ⟨gb283, 3, none⟩ (.slice A0_3 l0_3.length c0_3)).setCell ⟨gb283, 2, none⟩ (.slice A31 (l0_2.drop ((ji17) : Int).toNat).length (c0_2 - (ji17).toNat))) = w_ := ⟨_, rfl⟩
      have n0_ : Aside0 (w32.heap[gb280]? = some (.cells #[.int .i64 a0_0, .int .i64 a0_1, .slice A0_2 l0_2.length c0_2, .slice A0_3 l0_3.length c0_3] 29 (0, 0))) := ⟨by subst h_w32; exact kf_ BK280.out⟩
      have n1_ : Aside0 (w32.heap[gb281]? = some (.cells #[.int .i64 0, .int .i64 0, .slice none 0 0, .slice none 0 0] 29 (0, 0))) := ⟨by subst h_w32; exact kf_ BK281.out⟩
      have n2_ : Aside0 (w32.heap[gb283]? = some (.cells #[.int .i64 a0_0, .int .i64 a0_1, .slice A31 (l0_2.drop ((ji17) : Int).toNat).length (c0_2 - (ji17).toNat), .slice A0_3 l0_3.length c0_3] 29 (0, 0))) := ⟨by subst h_w32; refine kb_ ?_; refine blk_put (cs := #[.int .i64 a0_0, .int .i64 a0_1, .slice A0_2 l0_2.length c0_2, .slice A0_3 l0_3.length c0_3]) ?_ 2 _ rfl; refine kb_ ?_; refine pz4 (cs := #[.int .i64 0, .int .i64 0, .slice none 0 0, .slice none 0 0]) ?_; refine kb_ ?_; exact BK283.out⟩
      have n3_ : Aside0 (Below w.heap.size w w32) := ⟨by subst h_w32; exact hbA_ HB.out⟩
      (try clear BK280); (try clear BK281); (try clear BK283); (try clear HB)
      (try rw [h_w32]); clear h_w32
      have BK280 := n0_; have BK281 := n1_; have BK283 := n2_; have HB := n3_; clear n0_ n1_ n2_ n3_; replace BK280 := Aside0.mk (blk_drew BK280.out); replace BK281 := Aside0.mk (blk_drew BK281.out); replace BK283 := Aside0.mk (blk_drew BK283.out); replace HB := (bd_ HB)
      obtain ⟨i034, hi034, _, hsz34, _⟩ := info_parts info5
      obtain ⟨hcut34, hA34, hC34⟩ := print_take_of (P := Try.prog) (Value.int .u8) 0 22 5 .i64 Try.underlying22 hi034 hsz34 A0_2 c0_2 l0_2 (ji17) (of_decide_eq_true (by first | (with_reducible assumption) | assumption)) (of_decide_eq_true (by first | (with_reducible assumption) | assumption)) HC0_2.out
      have HR293 := Aside0.mk (Kd.C_of_reads (h1 := fun _ => rfl) (hA34 _ (Kd.reads_of_C HR0_2.out)))
      have HC293 := Aside0.mk hC34; clear hA34 hC34 hi034 hsz34
      refine start_ (n := 9) (S := fun w' => w'.cell? ⟨gb283, 0, none⟩ = some (.int .i64 a0_0) ∧ w'.cell? ⟨gb283, 1, none⟩ = some (.int .i64 a0_1) ∧ w'.cell? ⟨gb283, 2, none⟩ = some (.slice A31 (l0_2.drop ((ji17) : Int).toNat).length (c0_2 - (ji17).toNat)) ∧ w'.cell? ⟨gb283, 3, none⟩ = some (.slice A0_3 l0_3.length c0_3) ∧ w'.cell? ⟨gb280, 0, none⟩ = some (.int .i64 a0_0) ∧ w'.cell? ⟨gb280, 1, none⟩ = some (.int .i64 a0_1) ∧ w'.cell? ⟨gb280, 2, none⟩ = some (.slice A0_2 l0_2.length c0_2) ∧ w'.cell? ⟨gb280, 3, none⟩ = some (.slice A0_3 l0_3.length c0_3)) (ds := []) #[false, false, false, false, false, false, false, false, false] (by kernel_rfl) rfl rfl ⟨bc_ BK283 0, bc_ BK283 1, bc_ BK283 2, bc_ BK283 3, bc_ BK280 0, bc_ BK280 1, bc_ BK280 2, bc_ BK280 3⟩ (fun hHeld => ?_); refine with_tabW impl_EarRead.tab6 impl_EarRead.bits6 (fun HT_ HW_ => ?_)
      generalize w32.drew = w33 at BK280 BK281 BK283 HB HR293 hHeld ⊢
      refine pu_ (i := 2) (N := some 29) HT_ ?_; refine pu_ (i := 4) (N := some 31) HT_ ?_; refine tk_ (i := 0) (N := some 27) HT_ HW_ hHeld ?_; refine tk_ (i := 3) (N := some 30) HT_ HW_ hHeld ?_; refine pu_ (i := 5) (N := some 32) HT_ ?_
      refine on_ (i := 1) (N := some 28) HT_ (fun K hK => ?_)
      refine goes_ Try.func24 (by kernel_rfl) rfl #[.agg #[.int .i64 a0_0, .int .i64 a0_1, .slice A31 (l0_2.drop ((ji17) : Int).toNat).length (c0_2 - (ji17).toNat), .slice A0_3 l0_3.length c0_3]] (by rfl) rfl rfl (by (try simp only [List.map_toArray, List.map_cons, List.map_nil]); first | done | (rw [show (l0_2.drop ((ji17) : Int).toNat).length = (l0_2.length - (ji17).toNat) from List.length_drop] <;> rfl) | (simp only [hji17]; rfl) | rfl | (simp only [List.length_drop, List.length_take]; rfl)) ?_
      with_reducible refine (impl_Ear_copy.calls a0_0 a0_1 _ _ (l0_2.drop ((ji17) : Int).toNat) _ _ l0_3 t285 t286 t287 t290 _ ?side1 ?side2 ?side3 ?side4 A20.out).mono ?_
      (case side1 => exact kC_ (Kd.C_below HR284.out HB.out))
      (case side2 => exact HC284.out)
      (case side3 => exact kC_ (Kd.C_below HR0_3.out HB.out))
      (case side4 => exact HC0_3.out)
      rintro e w35 ⟨v288, v291, rfl, ho0, ho1, hb⟩
      refine ⟨_, rfl, ?_⟩
      have HO289 := Aside0.mk (Kd.R_lower ho0 (below_size (hbA_ HB.out))); have HO292 := Aside0.mk (Kd.R_lower ho1 (below_size (hbA_ HB.out))); replace BK280 := (bbA_ BK280 hb); replace BK281 := (bbA_ BK281 hb); replace BK283 := (bbA_ BK283 hb); replace HB := (bs_ HB hb); (try clear hb); (try clear hb2); (try clear hk); (try clear hi); (try clear ho0); (try clear ho1)
      refine hK.out _ _ ⟨bc_ BK283 0, bc_ BK283 1, bc_ BK283 2, bc_ BK283 3, bc_ BK280 0, bc_ BK280 1, bc_ BK280 2, bc_ BK280 3⟩ (fun hHeld => ?_)
      clear hK K; refine nm_ 28 ?_
      refine on_ (i := 6) (N := some 33) HT_ (fun K hK => ?_)
      refine goes_ Try.func25 (by kernel_rfl) rfl #[.slice A0_2 (l0_2.take ((ji17) : Int).toNat).length c0_2] (by rfl) rfl rfl (by (try simp only [List.map_toArray, List.map_cons, List.map_nil]); first | done | (rw [show (l0_2.take ((ji17) : Int).toNat).length = (ji17).toNat from (by rw [List.length_take]; have h_ : ((ji17) : Int) ≤ (l0_2.length : Int) := of_decide_eq_true (by first | (with_reducible assumption) | assumption); omega)] <;> rfl) | (simp only [hji17]; rfl) | rfl | (simp only [List.length_drop, List.length_take]; rfl)) ?_
      with_reducible refine (impl_clone_byte.calls _ _ (l0_2.take ((ji17) : Int).toNat) t294 _ ?side1 ?side2 A23.out).mono ?_
      (case side1 => exact kC_ (Kd.C_below HR293.out HB.out))
      (case side2 => exact HC293.out)
      rintro e w36 ⟨v295, rfl, ho0, hb⟩
      refine ⟨_, rfl, ?_⟩
      replace HO292 := Aside0.mk (Kd.R_below (kR_ HO292.out) hb); have HO296 := Aside0.mk (Kd.R_lower (Kd.R_new' ho0 (Kd.R_lt (kR_ HO289.out))) (below_size (hbA_ HB.out))); replace HO289 := Aside0.mk (Kd.R_elder' (kR_ HO289.out) (Kd.R_base ho0) hb); replace BK280 := (bbA_ BK280 hb); replace BK281 := (bbA_ BK281 hb); replace BK283 := (bbA_ BK283 hb); replace HB := (bs_ HB hb); (try clear hb); (try clear hb2); (try clear hk); (try clear hi); (try clear ho0)
      obtain ⟨Ao39, co39, eo39⟩ := Kd.R_slice HO289.out
      (first | subst eo39 | (injection eo39 with f1_ f2_ f3_; have f4_ := f1_.symm; have f5_ := f3_.symm; clear f1_ f2_ f3_; subst f4_; subst f5_))
      obtain ⟨Ao41, co41, eo41⟩ := Kd.R_slice HO292.out
      (first | subst eo41 | (injection eo41 with f1_ f2_ f3_; have f4_ := f1_.symm; have f5_ := f3_.symm; clear f1_ f2_ f3_; subst f4_; subst f5_))
      refine hK.out _ _ ⟨bc_ BK283 0, bc_ BK283 1, bc_ BK283 2, bc_ BK283 3, bc_ BK280 0, bc_ BK280 1, bc_ BK280 2, bc_ BK280 3⟩ (fun hHeld => ?_)
      clear hK K; refine nm_ 33 ?_
      refine on_ (i := 7) (N := none) HT_ (fun K hK => ?_)
      have hs37 : w36.cell? ⟨gb281, 0, none⟩ = some (.int .i64 0) := bc_ BK281 0
      have hfs37 := blk_frozen BK281.out 0
      have hns37_0 := NB280_281.out; have hns37_2 := NB283_281.out; have hms37_0 := NB281_280.out; have hms37_2 := NB281_283.out
      have hs38 : w36.cell? ⟨gb281, 1, none⟩ = some (.int .i64 0) := bc_ BK281 1
      have hfs38 := blk_frozen BK281.out 1
      have hns38_0 := NB280_281.out; have hns38_2 := NB283_281.out; have hms38_0 := NB281_280.out; have hms38_2 := NB281_283.out
      have hs40 : w36.cell? ⟨gb281, 2, none⟩ = some (.slice none 0 0) := bc_ BK281 2
      have hfs40 := blk_frozen BK281.out 2
      have hns40_0 := NB280_281.out; have hns40_2 := NB283_281.out; have hms40_0 := NB281_280.out; have hms40_2 := NB281_283.out
      have hs42 : w36.cell? ⟨gb281, 3, none⟩ = some (.slice none 0 0) := bc_ BK281 3
      have hfs42 := blk_frozen BK281.out 3
      have hns42_0 := NB280_281.out; have hns42_2 := NB283_281.out; have hms42_0 := NB281_280.out; have hms42_2 := NB281_283.out
      refine skip_ (w1 := ?_) (by rfl) rfl ?_ ?_
      rotate_left
      ·go_simp
       rfl
      refine hK.out _ _ ⟨((cell_far (p := ⟨gb281, _, none⟩) NB283_281.out _).trans (((cell_far (p := ⟨gb281, _, none⟩) NB283_281.out _).trans (((cell_far (p := ⟨gb281, _, none⟩) NB283_281.out _).trans (((cell_far (p := ⟨gb281, _, none⟩) NB283_281.out _).trans (hHeld.1)))))))), ((cell_far (p := ⟨gb281, _, none⟩) NB283_281.out _).trans (((cell_far (p := ⟨gb281, _, none⟩) NB283_281.out _).trans (((cell_far (p := ⟨gb281, _, none⟩) NB283_281.out _).trans (((cell_far (p := ⟨gb281, _, none⟩) NB283_281.out _).trans (hHeld.2.1)))))))), ((cell_far (p := ⟨gb281, _, none⟩) NB283_281.out _).trans (((cell_far (p := ⟨gb281, _, none⟩) NB283_281.out _).trans (((cell_far (p := ⟨gb281, _, none⟩) NB283_281.out _).trans (((cell_far (p := ⟨gb281, _, none⟩) NB283_281.out _).trans (hHeld.2.2.1)))))))), ((cell_far (p := ⟨gb281, _, none⟩) NB283_281.out _).trans (((cell_far (p := ⟨gb281, _, none⟩) NB283_281.out _).trans (((cell_far (p := ⟨gb281, _, none⟩) NB283_281.out _).trans (((cell_far (p := ⟨gb281, _, none⟩) NB283_281.out _).trans (hHeld.2.2.2.1)))))))), ((cell_far (p := ⟨gb281, _, none⟩) NB280_281.out _).trans (((cell_far (p := ⟨gb281, _, none⟩) NB280_281.out _).trans (((cell_far (p := ⟨gb281, _, none⟩) NB280_281.out _).trans (((cell_far (p := ⟨gb281, _, none⟩) NB280_281.out _).trans (hHeld.2.2.2.2.1)))))))), ((cell_far (p := ⟨gb281, _, none⟩) NB280_281.out _).trans (((cell_far (p := ⟨gb281, _, none⟩) NB280_281.out _).trans (((cell_far (p := ⟨gb281, _, none⟩) NB280_281.out _).trans (((cell_far (p := ⟨gb281, _, none⟩) NB280_281.out _).trans (hHeld.2.2.2.2.2.1)))))))), ((cell_far (p := ⟨gb281, _, none⟩) NB280_281.out _).trans (((cell_far (p := ⟨gb281, _, none⟩) NB280_281.out _).trans (((cell_far (p := ⟨gb281, _, none⟩) NB280_281.out _).trans (((cell_far (p := ⟨gb281, _, none⟩) NB280_281.out _).trans (hHeld.2.2.2.2.2.2.1)))))))), ((cell_far (p := ⟨gb281, _, none⟩) NB280_281.out _).trans (((cell_far (p := ⟨gb281, _, none⟩) NB280_281.out _).trans (((cell_far (p := ⟨gb281, _, none⟩) NB280_281.out _).trans (((cell_far (p := ⟨gb281, _, none⟩) NB280_281.out _).trans (hHeld.2.2.2.2.2.2.2))))))))⟩ (fun hHeld => ?_)
      clear hK K; refine pu_ (i := 8) (N := some 5) HT_ ?_
      refine done_ (done_of HT_.out (by kernel_rfl)) ?_
      try go_wp2
      refine bodyPost_ret (results_ct rfl _ _ gb281 29 #[.int .i64 t285, .int .i64 t286, .slice Ao39 t287.length co39, .slice Ao41 t290.length co41] (0, 0) _ rfl (by refine kb_ ?_; refine pz4 (cs := #[.int .i64 0, .int .i64 0, .slice none 0 0, .slice none 0 0]) ?_; refine kb_ ?_; exact BK281.out) Try.underlying29 rfl (by kernel_rfl)) rfl ?_
      exact ⟨_, _, _, by first | rfl | (simp [errW_none, errW_some] <;> rfl) | (simp only [← hji17]; first | rfl | (simp [errW_none, errW_some] <;> rfl)) | (simp [*, errW_none, errW_some] <;> rfl), by refine kR_ ?_; exact rfm_ ((Kd.R_types HO289.out BK281.out (by decide))) (fun _ hk => hk.1.2), by refine kR_ ?_; exact rfm_ ((Kd.R_types HO292.out BK281.out (by decide))) (fun _ hk => trivial), by refine kR_ ?_; exact rfm_ ((Kd.R_types HO296.out BK281.out (by decide))) (fun _ hk => hk.1.2), hbA_ HB.out⟩
     ·rw [if_neg c19] at H
      exact absurd H (by simp)
    ·rw [if_neg c18] at H
     exact absurd H (by simp)
def spec_EarRead.f (k : Nat) (a0_0 : Int) (a0_1 : Int) (l0_2 : List Int) (l0_3 : List (S50)) (a1 : Int) : Option (Int × Int × List Int × (List (S50)) × List Int) := (spec_EarOk.f k a0_0 a0_1 l0_2 l0_3).bind fun t299 => (if t299 = true then (if a1 < 0 then (some (0, 0, ([] : List Int), ([] : List (S50)), (([] : List Int)))) else ((some (([] : List Int) : List Int)).bind fun y303 => (if 0 ≤ (mn a1 (l0_2.length : Int)) then (if (mn a1 (l0_2.length : Int)) ≤ (l0_2.length : Int) then (if y303.length + (l0_2.drop ((mn a1 (l0_2.length : Int)) : Int).toNat).length < 140737488355328 then ((some (([] : List (S50)) : List (S50))).bind fun y310 => (if y310.length + l0_3.length < 8796093022208 then ((some (([] : List Int) : List Int)).bind fun y317 => (if y317.length + (l0_2.take ((mn a1 (l0_2.length : Int)) : Int).toNat).length < 140737488355328 then (some (a0_0, a0_1, (y303 ++ (l0_2.drop ((mn a1 (l0_2.length : Int)) : Int).toNat)), (y310 ++ l0_3), (y317 ++ (l0_2.take ((mn a1 (l0_2.length : Int)) : Int).toNat)))) else (none))) else (none))) else (none)) else (none)) else (none)))) else (some (0, 0, ([] : List Int), ([] : List (S50)), (([] : List Int)))))
theorem spec_EarRead.mono : ∀ a0 a1 a2 a3 a4 k, LeO (spec_EarRead.f k a0 a1 a2 a3 a4) (spec_EarRead.f (k + 1) a0 a1 a2 a3 a4) := by
 intro a0 a1 a2 a3 a4 k
 unfold spec_EarRead.f
 repeat' first | (with_reducible first | apply spec_EarOk.mono | exact LeO.refl _ | exact LeO.none _ | refine LeO.ite ?_ ?_ | refine LeO.bind ?_ fun _ => ?_) | apply spec_EarOk.mono | exact LeO.none _ | refine LeO.ite ?_ ?_ | refine LeO.bind ?_ fun _ => ?_
def spec_EarRead.T4 : Bool × List (List Nat × List Nat) := (true, [([], []), ([0], [0]), ([], []), ([2], [2]), ([], []), ([], []), ([5], [5]), ([], []), ([6, 7], [6, 7]), ([4, 8], [4, 8]), ([], []), ([], []), ([11], [11]), ([10, 12, 9], [10, 12]), ([1, 3, 9, 13], [1, 3, 9, 13]), ([], []), ([15, 14, 13, 0, 1, 2, 3, 4, 5, 6, 7, 8, 9, 10, 11, 12, 13, 14, 15], [14, 15])])
def spec_EarRead.B4 : List Nat := [0, 1, 0, 4, 0, 0, 32, 0, 224, 496, 0, 0, 2048, 8176, 16383, 0, 65535]
theorem spec_EarRead.tab4 : rtab .any (opsOf Try.f10 4) = spec_EarRead.T4 := by kernel_rfl
theorem spec_EarRead.bits4 : waitsOk spec_EarRead.T4.2 spec_EarRead.B4 = true := by kernel_rfl
def spec_EarRead.T5 : Bool × List (List Nat × List Nat) := (true, [([], []), ([], []), ([], []), ([2], [2]), ([], []), ([3, 4], [3, 4]), ([1, 5], [1, 5]), ([0, 6, 0], [0]), ([6, 7, 0, 1, 2, 3, 4, 5, 6, 7], [6])])
def spec_EarRead.B5 : List Nat := [0, 0, 0, 4, 0, 28, 62, 127, 255]
theorem spec_EarRead.tab5 : rtab .any (opsOf Try.f10 5) = spec_EarRead.T5 := by kernel_rfl
theorem spec_EarRead.bits5 : waitsOk spec_EarRead.T5.2 spec_EarRead.B5 = true := by kernel_rfl
set_option maxHeartbeats 8000000 in
set_option maxRecDepth 100000 in
theorem spec_EarRead.calls (k : Nat) (a0_0 : Int) (a0_1 : Int) (A0_2 : Option Addr) (c0_2 : Nat) (l0_2 : List Int) (A0_3 : Option Addr) (c0_3 : Nat) (l0_3 : List (S50)) (a1 : Int) (r1 : Int) (r2 : Int) (r3 : List Int) (r4 : List (S50)) (r5 : List Int) (w : World) (hr0_2 : Kd.C (Kd.int .u8) w A0_2 l0_2.length l0_2) (hc0_2 : l0_2.length ≤ c0_2) (hr0_3 : Kd.C k50 w A0_3 l0_3.length l0_3) (hc0_3 : l0_3.length ≤ c0_3) (h : spec_EarRead.f k a0_0 a0_1 l0_2 l0_3 a1 = some (r1, r2, r3, r4, r5)) :
  Calls Try.prog 10 #[.agg #[.int .i64 a0_0, .int .i64 a0_1, .slice A0_2 l0_2.length c0_2, .slice A0_3 l0_3.length c0_3], .int .i64 a1] w fun e w' => ∃ v2_ v3_ v4_ : Value, e = .returned (.tuple #[.agg #[.int .i64 r1, .int .i64 r2, v2_, v3_], v4_]) ∧ Kd.R (Kd.int .u8) 5 w' w.heap.size (fun k_ => some k_ ≠ (v4_ : Value).ownBlock) v2_ r3 ∧ Kd.R k50 50 w' w.heap.size (fun _ => True) v3_ r4 ∧ Kd.R (Kd.int .u8) 5 w' w.heap.size (fun k_ => some k_ ≠ (v2_ : Value).ownBlock) v4_ r5 ∧ Below w.heap.size w w' := by
 have hu29 := Try.underlying29; have HR0_2 := Aside0.mk hr0_2; have HC0_2 := Aside0.mk hc0_2; clear hr0_2 hc0_2; have HR0_3 := Aside0.mk hr0_3; have HC0_3 := Aside0.mk hc0_3; clear hr0_3 hc0_3
 have HB := Aside0.mk (Below.refl w.heap.size w)
 have H : ((spec_EarOk.f k a0_0 a0_1 l0_2 l0_3).bind fun t299 => (if t299 = true then (if a1 < 0 then (some (0, 0, ([] : List Int), ([] : List (S50)), (([] : List Int)))) else ((some (([] : List Int) : List Int)).bind fun y303 => (if 0 ≤ (mn a1 (l0_2.length : Int)) then (if (mn a1 (l0_2.length : Int)) ≤ (l0_2.length : Int) then (if y303.length + (l0_2.drop ((mn a1 (l0_2.length : Int)) : Int).toNat).length < 140737488355328 then ((some (([] : List (S50)) : List (S50))).bind fun y310 => (if y310.length + l0_3.length < 8796093022208 then ((some (([] : List Int) : List Int)).bind fun y317 => (if y317.length + (l0_2.take ((mn a1 (l0_2.length : Int)) : Int).toNat).length < 140737488355328 then (some (a0_0, a0_1, (y303 ++ (l0_2.drop ((mn a1 (l0_2.length : Int)) : Int).toNat)), (y310 ++ l0_3), (y317 ++ (l0_2.take ((mn a1 (l0_2.length : Int)) : Int).toNat)))) else (none))) else (none))) else (none)) else (none)) else (none)))) else (some (0, 0, ([] : List Int), ([] : List (S50)), (([] : List Int)))))) = some (r1, r2, r3, r4, r5) := h
 clear h
 replace H := Option.bind_eq_some_iff.mp H
 obtain ⟨t299, A30, H⟩ := H
 (try dsimp only at H)
 have A3 := Aside0.mk A30; clear A30
 by_cases c4 : t299 = true
 ·subst c4
  rw [if_pos rfl] at H
  by_cases c5 : a1 < 0
  ·rw [if_pos c5] at H
   have c5b0 : decide (a1 < 0) = true := decide_eq_true c5
   clear c5
   obtain ⟨y300, hy300⟩ : ∃ y_ : List Int, y_ = (([] : List Int)) := ⟨_, rfl⟩
   (first | replace H := sb_ hy300 H | rw [← hy300] at H)
   have Ny300 := Aside0.mk hy300; clear hy300
   simp only [Option.some.injEq, Prod.mk.injEq] at H
   obtain ⟨rfl, rfl, rfl, rfl, rfl⟩ := H
   go_enter Try.func10, Try.ntmps10
   go_wp2_with (first | ((with_reducible refine gate_dst (N := 2) rfl ?_); refine box_ (N := 2) (cs := #[.int .i64 a0_0, .int .i64 a0_1, .slice A0_2 l0_2.length c0_2, .slice A0_3 l0_3.length c0_3]) (t := 29) (fun gb297 hg w6 hbox hb => ?_); have BK297 := Aside0.mk (hbox); have GW297 := ge_ hg HB; have GE297 := ge_ hg HB; replace HB := (bs_ HB hb); clear hb hbox hg) | ((with_reducible refine gate_dst (N := 4) rfl ?_); refine box_ (N := 4) (cs := #[.int .i64 0, .int .i64 0, .slice none 0 0, .slice none 0 0]) (t := 29) (fun gb298 hg w7 hbox hb => ?_); have BK298 := Aside0.mk (hbox); have GW298 := ge_ hg HB; have GE298 := ge_ hg HB; replace HB := (bs_ HB hb); have NB297_298 := nl_ hg BK297; have NB298_297 := ng_ hg BK297; replace BK297 := (bbA_ BK297 hb); clear hb hbox hg; have hnb8 := NB297_298.out; have hnc8 := NB298_297.out; have Z9 := zz4 BK297) | ((with_reducible refine gate_callee (f := 20) rfl ?_); refine goesL_ (some 9) rfl rfl Try.func20 (by kernel_rfl) rfl #[.agg #[.int .i64 a0_0, .int .i64 a0_1, .slice A0_2 l0_2.length c0_2, .slice A0_3 l0_3.length c0_3]] rfl ar_ ?_; (with_reducible refine (spec_EarOk.calls k a0_0 a0_1 _ _ l0_2 _ _ l0_3 true _ ?side1 ?side2 ?side3 ?side4 A3.out).mono ?_); (case side1 => exact kC_ (Kd.C_below HR0_2.out HB.out)); (case side2 => exact HC0_2.out); (case side3 => exact kC_ (Kd.C_below HR0_3.out HB.out)); (case side4 => exact HC0_3.out); rintro e w10 ⟨rfl, hb⟩; refine ⟨_, rfl, ?_⟩; replace BK297 := (bbA_ BK297 hb); replace BK298 := (bbA_ BK298 hb); replace HB := (bs_ HB hb); (try clear hb); (try clear hb2); (try clear hk); (try clear hi)) | ((with_reducible refine gate_dst (N := 16) rfl ?_); refine Kd.R_lit (Kd.int .u8) _ 5 ?hg (N := 16) ?hd (xs := ([] : List Int)) (inner := []) (ok := fun _ => True) (okp := fun _ => True) ?hr ?hp (fun _ hk => hk) trivial (Below.refl _ _) (Nat.le_refl _) (by simp) ?_; (case hd => rfl); (case hg => rfl); (case hr => first | (go_simp; done) | (go_simp; rfl)); (case hp => exact (Reps.none _ _)); intro v301 w11 ho12 hb hg_ hnew_; clear hg_ hnew_; (first | rw [← Ny300.out] at ho12 | (simp only [Int.reduceToNat] at ho12; rw [← Ny300.out] at ho12)); have HO302 := Aside0.mk (Kd.R_lower ho12 (below_size (hbA_ HB.out))); replace BK297 := (bbA_ BK297 hb); replace BK298 := (bbA_ BK298 hb); replace HB := (bs_ HB hb); clear hb ho12; have Z13 := zz4 BK298))
   refine bodyPost_ret (results_ct rfl _ _ gb298 29 #[.int .i64 0, .int .i64 0, .slice none 0 0, .slice none 0 0] (0, 0) _ rfl (by refine kb_ ?_; refine pz4 (cs := #[.int .i64 0, .int .i64 0, .slice none 0 0, .slice none 0 0]) ?_; refine kb_ ?_; exact BK298.out) Try.underlying29 rfl (by kernel_rfl)) rfl ?_
   exact ⟨_, _, _, by first | rfl | (simp [errW_none, errW_some] <;> rfl) | (simp [*, errW_none, errW_some] <;> rfl), by (try rw [Ny300.out]); first | exact Kd.R_nil _ _ _ _ _ | exact Kd.N_nil _ _ _ _ _ | exact Kd.V_nil _ _ _ _ _ | exact Kd.Q_nil _ _ _ _ _ | exact Kd.S_nil _ _ _ _ _, by (try rw [Ny300.out]); first | exact Kd.R_nil _ _ _ _ _ | exact Kd.N_nil _ _ _ _ _ | exact Kd.V_nil _ _ _ _ _ | exact Kd.Q_nil _ _ _ _ _ | exact Kd.S_nil _ _ _ _ _, by refine kR_ ?_; exact rfm_ ((Kd.R_types HO302.out BK298.out (by decide))) (fun _ hk => (by simp [Value.ownBlock])), hbA_ HB.out⟩
  ·rw [if_neg c5] at H
   have c5b0 : decide (a1 < 0) = false := decide_eq_false c5
   clear c5
   obtain ⟨ji14, hji14⟩ : ∃ j_ : Int, (mn a1 (l0_2.length : Int)) = j_ := ⟨_, rfl⟩
   (first | rw [hji14] at H | simp only [hji14] at H)
   (try rw [hji14] at A3)
   have hji14_ : (if (l0_2.length : Int) < a1 then (l0_2.length : Int) else a1) = ji14 := hji14
   obtain ⟨y303, hy303⟩ : ∃ y_ : List Int, y_ = (([] : List Int)) := ⟨_, rfl⟩
   (first | replace H := sb_ hy303 H | rw [← hy303] at H)
   have Ny303 := Aside0.mk hy303; clear hy303
   by_cases c15 : 0 ≤ (ji14)
   ·rw [if_pos c15] at H
    have c15b0 := eq_true c15
    have c15b1 : decide (0 ≤ (ji14)) = true := decide_eq_true c15
    clear c15
    by_cases c16 : (ji14) ≤ (l0_2.length : Int)
    ·rw [if_pos c16] at H
     have c16b0 := eq_true c16
     have c16b1 : decide ((ji14) ≤ (l0_2.length : Int)) = true := decide_eq_true c16
     clear c16
     by_cases c17 : y303.length + (l0_2.drop ((ji14) : Int).toNat).length < 140737488355328
     ·rw [if_pos c17] at H
      have LMc17 := Aside0.mk c17; clear c17
      obtain ⟨y307, hy307⟩ : ∃ y_ : List Int, y_ = (y303 ++ (l0_2.drop ((ji14) : Int).toNat)) := ⟨_, rfl⟩
      (first | replace H := sb_ hy307 H | rw [← hy307] at H)
      have Ny307 := Aside0.mk hy307; clear hy307
      obtain ⟨y310, hy310⟩ : ∃ y_ : List (S50), y_ = (([] : List (S50))) := ⟨_, rfl⟩
      (first | replace H := sb_ hy310 H | rw [← hy310] at H)
      have Ny310 := Aside0.mk hy310; clear hy310
      by_cases c18 : y310.length + l0_3.length < 8796093022208
      ·rw [if_pos c18] at H
       have LMc18 := Aside0.mk c18; clear c18
       obtain ⟨y313, hy313⟩ : ∃ y_ : List (S50), y_ = (y310 ++ l0_3) := ⟨_, rfl⟩
       (first | replace H := sb_ hy313 H | rw [← hy313] at H)
       have Ny313 := Aside0.mk hy313; clear hy313
       obtain ⟨y317, hy317⟩ : ∃ y_ : List Int, y_ = (([] : List Int)) := ⟨_, rfl⟩
       (first | replace H := sb_ hy317 H | rw [← hy317] at H)
       have Ny317 := Aside0.mk hy317; clear hy317
       have c19b0 := eq_true (of_decide_eq_true (by first | (with_reducible assumption) | assumption) : 0 ≤ (ji14))
       have c20b0 := eq_true (of_decide_eq_true (by first | (with_reducible assumption) | assumption) : (ji14) ≤ (l0_2.length : Int))
       by_cases c21 : y317.length + (l0_2.take ((ji14) : Int).toNat).length < 140737488355328
       ·rw [if_pos c21] at H
        have LMc21 := Aside0.mk c21; clear c21
        obtain ⟨y321, hy321⟩ : ∃ y_ : List Int, y_ = (y317 ++ (l0_2.take ((ji14) : Int).toNat)) := ⟨_, rfl⟩
        (first | replace H := sb_ hy321 H | rw [← hy321] at H)
        have Ny321 := Aside0.mk hy321; clear hy321
        simp only [Option.some.injEq, Prod.mk.injEq] at H
        obtain ⟨rfl, rfl, rfl, rfl, rfl⟩ := H
        go_enter Try.func10, Try.ntmps10
        try go_wp2_with (first | ((with_reducible refine gate_dst (N := 2) rfl ?_); refine box_ (N := 2) (cs := #[.int .i64 a0_0, .int .i64 a0_1, .slice A0_2 l0_2.length c0_2, .slice A0_3 l0_3.length c0_3]) (t := 29) (fun gb297 hg w22 hbox hb => ?_); have BK297 := Aside0.mk (hbox); have GW297 := ge_ hg HB; have GE297 := ge_ hg HB; replace HB := (bs_ HB hb); clear hb hbox hg) | ((with_reducible refine gate_dst (N := 4) rfl ?_); refine box_ (N := 4) (cs := #[.int .i64 0, .int .i64 0, .slice none 0 0, .slice none 0 0]) (t := 29) (fun gb298 hg w23 hbox hb => ?_); have BK298 := Aside0.mk (hbox); have GW298 := ge_ hg HB; have GE298 := ge_ hg HB; replace HB := (bs_ HB hb); have NB297_298 := nl_ hg BK297; have NB298_297 := ng_ hg BK297; replace BK297 := (bbA_ BK297 hb); clear hb hbox hg; have hnb24 := NB297_298.out; have hnc24 := NB298_297.out; have Z25 := zz4 BK297) | ((with_reducible refine gate_callee (f := 20) rfl ?_); refine goesL_ (some 9) rfl rfl Try.func20 (by kernel_rfl) rfl #[.agg #[.int .i64 a0_0, .int .i64 a0_1, .slice A0_2 l0_2.length c0_2, .slice A0_3 l0_3.length c0_3]] rfl ar_ ?_; (with_reducible refine (spec_EarOk.calls k a0_0 a0_1 _ _ l0_2 _ _ l0_3 true _ ?side1 ?side2 ?side3 ?side4 A3.out).mono ?_); (case side1 => exact kC_ (Kd.C_below HR0_2.out HB.out)); (case side2 => exact HC0_2.out); (case side3 => exact kC_ (Kd.C_below HR0_3.out HB.out)); (case side4 => exact HC0_3.out); rintro e w26 ⟨rfl, hb⟩; refine ⟨_, rfl, ?_⟩; replace BK297 := (bbA_ BK297 hb); replace BK298 := (bbA_ BK298 hb); replace HB := (bs_ HB hb); (try clear hb); (try clear hb2); (try clear hk); (try clear hi); have Z27 := zz4 BK297))
        replace BK297 := Aside0.mk (blk_drew BK297.out); replace BK298 := Aside0.mk (blk_drew BK298.out); replace HB := (bd_ HB)
        obtain ⟨i029, hi029, _, hsz29, _⟩ := info_parts info5
        obtain ⟨A29, hcut29, hA29, hC29⟩ := print_drop_of (P := Try.prog) (Value.int .u8) 0 22 5 .i64 Try.underlying22 hi029 hsz29 A0_2 c0_2 l0_2 (ji14) (of_decide_eq_true (by first | (with_reducible assumption) | assumption)) (of_decide_eq_true (by first | (with_reducible assumption) | assumption)) HC0_2.out
        have HR306 := Aside0.mk (Kd.C_of_reads (h1 := fun _ => rfl) (hA29 _ (Kd.reads_of_C HR0_2.out)))
        have HC306 := Aside0.mk hC29; clear hA29 hC29 hi029 hsz29
        refine start_ (n := 17) (S := fun w' => w'.cell? ⟨gb297, 0, none⟩ = some (.int .i64 a0_0) ∧ w'.cell? ⟨gb297, 1, none⟩ = some (.int .i64 a0_1) ∧ w'.cell? ⟨gb297, 2, none⟩ = some (.slice A0_2 l0_2.length c0_2) ∧ w'.cell? ⟨gb297, 3, none⟩ = some (.slice A0_3 l0_3.length c0_3)) (ds := []) #[false, false, false, false, false, false, false, false, false, false, false, false, false, false, false, false, false] (by kernel_rfl) rfl rfl (cz4 BK297.out) (fun hHeld => ?_); refine with_tabW spec_EarRead.tab4 spec_EarRead.bits4 (fun HT_ HW_ => ?_)
        generalize w26.drew = w28 at BK297 BK298 HB HR306 hHeld ⊢
        refine pu_ (i := 0) (N := some 22) HT_ ?_; refine pu_ (i := 2) (N := some 24) HT_ ?_; refine pu_ (i := 5) (N := some 27) HT_ ?_; refine pu_ (i := 7) (N := some 29) HT_ ?_; refine pu_ (i := 11) (N := some 33) HT_ ?_; refine tk_ (i := 1) (N := some 23) HT_ HW_ hHeld ?_; refine tk_ (i := 3) (N := some 25) HT_ HW_ hHeld ?_; refine tk_ (i := 6) (N := some 28) HT_ HW_ hHeld ?_; refine pu_ (i := 8) (N := some 30) HT_ ?_; refine tk_ (i := 12) (N := some 34) HT_ HW_ hHeld ?_
        refine join_ (σ := Value × Value × Value × Value × Nat) 1 #[true, true, true, true, true, true, true, true, true, true, true, true, true, true, true, true, false] (fun s_ => [(26, s_.1), (31, s_.2.1), (32, s_.2.2.1), (35, s_.2.2.2.1), (7, .pointer (some ⟨s_.2.2.2.2, 0, none⟩)), (36, .agg #[.int .i64 a0_0, .int .i64 a0_1, s_.2.1, s_.2.2.2.1])]) (fun s_ w' => (w'.cell? ⟨gb297, 0, none⟩ = some (.int .i64 a0_0) ∧ w'.cell? ⟨gb297, 1, none⟩ = some (.int .i64 a0_1) ∧ w'.cell? ⟨gb297, 2, none⟩ = some (.slice A0_2 l0_2.length c0_2) ∧ w'.cell? ⟨gb297, 3, none⟩ = some (.slice A0_3 l0_3.length c0_3)) ∧ (Kd.R (Kd.int .u8) 5 w' w.heap.size (fun _ => True) s_.2.1 y307) ∧ (Kd.R k50 50 w' w.heap.size (fun _ => True) s_.2.2.2.1 y313) ∧ (w'.heap[gb297]? = some (.cells #[.int .i64 a0_0, .int .i64 a0_1, .slice A0_2 l0_2.length c0_2, .slice A0_3 l0_3.length c0_3] 29 (0, 0))) ∧ (w'.heap[gb298]? = some (.cells #[.int .i64 0, .int .i64 0, .slice none 0 0, .slice none 0 0] 29 (0, 0))) ∧ (w'.heap[s_.2.2.2.2]? = some (.cells #[.int .i64 0, .int .i64 0, .slice none 0 0, .slice none 0 0] 29 (0, 0))) ∧ (w.heap.size ≤ s_.2.2.2.2) ∧ (w.heap.size ≤ s_.2.2.2.2) ∧ (gb297 ≠ s_.2.2.2.2) ∧ (s_.2.2.2.2 ≠ gb297) ∧ (gb298 ≠ s_.2.2.2.2) ∧ (s_.2.2.2.2 ≠ gb298) ∧ (Below w.heap.size w w')) ?_ ?_
        rotate_left
        ·intro hJ4_9_10_13_15
         refine join_ (σ := Value × Value × Value × Value) 2 #[true, true, true, true, true, true, true, true, true, true, true, true, true, true, true, false, false] (fun s_ => [(26, s_.1), (31, s_.2.1), (32, s_.2.2.1), (35, s_.2.2.2), (36, .agg #[.int .i64 a0_0, .int .i64 a0_1, s_.2.1, s_.2.2.2])]) (fun s_ w' => (w'.cell? ⟨gb297, 0, none⟩ = some (.int .i64 a0_0) ∧ w'.cell? ⟨gb297, 1, none⟩ = some (.int .i64 a0_1) ∧ w'.cell? ⟨gb297, 2, none⟩ = some (.slice A0_2 l0_2.length c0_2) ∧ w'.cell? ⟨gb297, 3, none⟩ = some (.slice A0_3 l0_3.length c0_3)) ∧ (Kd.R (Kd.int .u8) 5 w' w.heap.size (fun _ => True) s_.2.1 y307) ∧ (Kd.R k50 50 w' w.heap.size (fun _ => True) s_.2.2.2 y313) ∧ (w'.heap[gb297]? = some (.cells #[.int .i64 a0_0, .int .i64 a0_1, .slice A0_2 l0_2.length c0_2, .slice A0_3 l0_3.length c0_3] 29 (0, 0))) ∧ (w'.heap[gb298]? = some (.cells #[.int .i64 0, .int .i64 0, .slice none 0 0, .slice none 0 0] 29 (0, 0))) ∧ (Below w.heap.size w w')) ?_ ?_
         rotate_left
         ·intro hJ4_9_10_13
          refine join_ (σ := Value × Value × Value × Nat) 3 #[true, true, true, true, true, true, true, true, true, true, true, true, true, false, false, true, false] (fun s_ => [(26, s_.1), (31, s_.2.1), (32, s_.2.2.1), (7, .pointer (some ⟨s_.2.2.2, 0, none⟩))]) (fun s_ w' => (w'.cell? ⟨gb297, 0, none⟩ = some (.int .i64 a0_0) ∧ w'.cell? ⟨gb297, 1, none⟩ = some (.int .i64 a0_1) ∧ w'.cell? ⟨gb297, 2, none⟩ = some (.slice A0_2 l0_2.length c0_2) ∧ w'.cell? ⟨gb297, 3, none⟩ = some (.slice A0_3 l0_3.length c0_3)) ∧ (Kd.R (Kd.int .u8) 5 w' w.heap.size (fun _ => True) s_.2.1 y307) ∧ (Kd.R k50 50 w' w.heap.size (fun _ => True) s_.2.2.1 y310) ∧ (w'.heap[gb297]? = some (.cells #[.int .i64 a0_0, .int .i64 a0_1, .slice A0_2 l0_2.length c0_2, .slice A0_3 l0_3.length c0_3] 29 (0, 0))) ∧ (w'.heap[gb298]? = some (.cells #[.int .i64 0, .int .i64 0, .slice none 0 0, .slice none 0 0] 29 (0, 0))) ∧ (w'.heap[s_.2.2.2]? = some (.cells #[.int .i64 0, .int .i64 0, .slice none 0 0, .slice none 0 0] 29 (0, 0))) ∧ (w.heap.size ≤ s_.2.2.2) ∧ (w.heap.size ≤ s_.2.2.2) ∧ (gb297 ≠ s_.2.2.2) ∧ (s_.2.2.2 ≠ gb297) ∧ (gb298 ≠ s_.2.2.2) ∧ (s_.2.2.2 ≠ gb298) ∧ (Below w.heap.size w w')) ?_ ?_
          rotate_left
          ·intro hJ4_9_10_15
           refine join_ (σ := Value × Value × Value) 4 #[true, true, true, true, true, true, true, true, true, true, true, true, true, false, false, false, false] (fun s_ => [(26, s_.1), (31, s_.2.1), (32, s_.2.2)]) (fun s_ w' => (w'.cell? ⟨gb297, 0, none⟩ = some (.int .i64 a0_0) ∧ w'.cell? ⟨gb297, 1, none⟩ = some (.int .i64 a0_1) ∧ w'.cell? ⟨gb297, 2, none⟩ = some (.slice A0_2 l0_2.length c0_2) ∧ w'.cell? ⟨gb297, 3, none⟩ = some (.slice A0_3 l0_3.length c0_3)) ∧ (Kd.R (Kd.int .u8) 5 w' w.heap.size (fun _ => True) s_.2.1 y307) ∧ (Kd.R k50 50 w' w.heap.size (fun _ => True) s_.2.2 y310) ∧ (w'.heap[gb297]? = some (.cells #[.int .i64 a0_0, .int .i64 a0_1, .slice A0_2 l0_2.length c0_2, .slice A0_3 l0_3.length c0_3] 29 (0, 0))) ∧ (w'.heap[gb298]? = some (.cells #[.int .i64 0, .int .i64 0, .slice none 0 0, .slice none 0 0] 29 (0, 0))) ∧ (Below w.heap.size w w')) ?_ ?_
           rotate_left
           ·intro hJ4_9_10
            refine join_ (σ := Value × Value × Nat) 4 #[true, true, true, true, true, true, true, true, true, true, false, true, true, false, false, true, false] (fun s_ => [(26, s_.1), (31, s_.2.1), (7, .pointer (some ⟨s_.2.2, 0, none⟩))]) (fun s_ w' => (w'.cell? ⟨gb297, 0, none⟩ = some (.int .i64 a0_0) ∧ w'.cell? ⟨gb297, 1, none⟩ = some (.int .i64 a0_1) ∧ w'.cell? ⟨gb297, 2, none⟩ = some (.slice A0_2 l0_2.length c0_2) ∧ w'.cell? ⟨gb297, 3, none⟩ = some (.slice A0_3 l0_3.length c0_3)) ∧ (Kd.R (Kd.int .u8) 5 w' w.heap.size (fun _ => True) s_.2.1 y307) ∧ (w'.heap[gb297]? = some (.cells #[.int .i64 a0_0, .int .i64 a0_1, .slice A0_2 l0_2.length c0_2, .slice A0_3 l0_3.length c0_3] 29 (0, 0))) ∧ (w'.heap[gb298]? = some (.cells #[.int .i64 0, .int .i64 0, .slice none 0 0, .slice none 0 0] 29 (0, 0))) ∧ (w'.heap[s_.2.2]? = some (.cells #[.int .i64 0, .int .i64 0, .slice none 0 0, .slice none 0 0] 29 (0, 0))) ∧ (w.heap.size ≤ s_.2.2) ∧ (w.heap.size ≤ s_.2.2) ∧ (gb297 ≠ s_.2.2) ∧ (s_.2.2 ≠ gb297) ∧ (gb298 ≠ s_.2.2) ∧ (s_.2.2 ≠ gb298) ∧ (Below w.heap.size w w')) ?_ ?_
            rotate_left
            ·intro hJ4_9_15
             refine join_ (σ := Value × Value × Nat) 4 #[true, true, true, true, true, true, true, true, true, false, true, true, true, false, false, true, false] (fun s_ => [(26, s_.1), (32, s_.2.1), (7, .pointer (some ⟨s_.2.2, 0, none⟩))]) (fun s_ w' => (w'.cell? ⟨gb297, 0, none⟩ = some (.int .i64 a0_0) ∧ w'.cell? ⟨gb297, 1, none⟩ = some (.int .i64 a0_1) ∧ w'.cell? ⟨gb297, 2, none⟩ = some (.slice A0_2 l0_2.length c0_2) ∧ w'.cell? ⟨gb297, 3, none⟩ = some (.slice A0_3 l0_3.length c0_3)) ∧ (Kd.R (Kd.int .u8) 5 w' w.heap.size (fun _ => True) s_.1 y303) ∧ (Kd.R k50 50 w' w.heap.size (fun _ => True) s_.2.1 y310) ∧ (w'.heap[gb297]? = some (.cells #[.int .i64 a0_0, .int .i64 a0_1, .slice A0_2 l0_2.length c0_2, .slice A0_3 l0_3.length c0_3] 29 (0, 0))) ∧ (w'.heap[gb298]? = some (.cells #[.int .i64 0, .int .i64 0, .slice none 0 0, .slice none 0 0] 29 (0, 0))) ∧ (w'.heap[s_.2.2]? = some (.cells #[.int .i64 0, .int .i64 0, .slice none 0 0, .slice none 0 0] 29 (0, 0))) ∧ (w.heap.size ≤ s_.2.2) ∧ (w.heap.size ≤ s_.2.2) ∧ (gb297 ≠ s_.2.2) ∧ (s_.2.2 ≠ gb297) ∧ (gb298 ≠ s_.2.2) ∧ (s_.2.2 ≠ gb298) ∧ (Below w.heap.size w w')) ?_ ?_
             rotate_left
             ·intro hJ4_10_15
              refine join_ (σ := Value × Value) 5 #[true, true, true, true, true, true, true, true, true, true, false, true, true, false, false, false, false] (fun s_ => [(26, s_.1), (31, s_.2)]) (fun s_ w' => (w'.cell? ⟨gb297, 0, none⟩ = some (.int .i64 a0_0) ∧ w'.cell? ⟨gb297, 1, none⟩ = some (.int .i64 a0_1) ∧ w'.cell? ⟨gb297, 2, none⟩ = some (.slice A0_2 l0_2.length c0_2) ∧ w'.cell? ⟨gb297, 3, none⟩ = some (.slice A0_3 l0_3.length c0_3)) ∧ (Kd.R (Kd.int .u8) 5 w' w.heap.size (fun _ => True) s_.2 y307) ∧ (w'.heap[gb297]? = some (.cells #[.int .i64 a0_0, .int .i64 a0_1, .slice A0_2 l0_2.length c0_2, .slice A0_3 l0_3.length c0_3] 29 (0, 0))) ∧ (w'.heap[gb298]? = some (.cells #[.int .i64 0, .int .i64 0, .slice none 0 0, .slice none 0 0] 29 (0, 0))) ∧ (Below w.heap.size w w')) ?_ ?_
              rotate_left
              ·intro hJ4_9
               refine join_ (σ := Value × Value) 5 #[true, true, true, true, true, true, true, true, true, false, true, true, true, false, false, false, false] (fun s_ => [(26, s_.1), (32, s_.2)]) (fun s_ w' => (w'.cell? ⟨gb297, 0, none⟩ = some (.int .i64 a0_0) ∧ w'.cell? ⟨gb297, 1, none⟩ = some (.int .i64 a0_1) ∧ w'.cell? ⟨gb297, 2, none⟩ = some (.slice A0_2 l0_2.length c0_2) ∧ w'.cell? ⟨gb297, 3, none⟩ = some (.slice A0_3 l0_3.length c0_3)) ∧ (Kd.R (Kd.int .u8) 5 w' w.heap.size (fun _ => True) s_.1 y303) ∧ (Kd.R k50 50 w' w.heap.size (fun _ => True) s_.2 y310) ∧ (w'.heap[gb297]? = some (.cells #[.int .i64 a0_0, .int .i64 a0_1, .slice A0_2 l0_2.length c0_2, .slice A0_3 l0_3.length c0_3] 29 (0, 0))) ∧ (w'.heap[gb298]? = some (.cells #[.int .i64 0, .int .i64 0, .slice none 0 0, .slice none 0 0] 29 (0, 0))) ∧ (Below w.heap.size w w')) ?_ ?_
               rotate_left
               ·intro hJ4_10
                refine join_ (σ := Value × Nat) 5 #[true, true, true, true, true, true, true, true, true, false, false, true, true, false, false, true, false] (fun s_ => [(26, s_.1), (7, .pointer (some ⟨s_.2, 0, none⟩))]) (fun s_ w' => (w'.cell? ⟨gb297, 0, none⟩ = some (.int .i64 a0_0) ∧ w'.cell? ⟨gb297, 1, none⟩ = some (.int .i64 a0_1) ∧ w'.cell? ⟨gb297, 2, none⟩ = some (.slice A0_2 l0_2.length c0_2) ∧ w'.cell? ⟨gb297, 3, none⟩ = some (.slice A0_3 l0_3.length c0_3)) ∧ (Kd.R (Kd.int .u8) 5 w' w.heap.size (fun _ => True) s_.1 y303) ∧ (w'.heap[gb297]? = some (.cells #[.int .i64 a0_0, .int .i64 a0_1, .slice A0_2 l0_2.length c0_2, .slice A0_3 l0_3.length c0_3] 29 (0, 0))) ∧ (w'.heap[gb298]? = some (.cells #[.int .i64 0, .int .i64 0, .slice none 0 0, .slice none 0 0] 29 (0, 0))) ∧ (w'.heap[s_.2]? = some (.cells #[.int .i64 0, .int .i64 0, .slice none 0 0, .slice none 0 0] 29 (0, 0))) ∧ (w.heap.size ≤ s_.2) ∧ (w.heap.size ≤ s_.2) ∧ (gb297 ≠ s_.2) ∧ (s_.2 ≠ gb297) ∧ (gb298 ≠ s_.2) ∧ (s_.2 ≠ gb298) ∧ (Below w.heap.size w w')) ?_ ?_
                rotate_left
                ·intro hJ4_15
                 refine join_ (σ := Value × Nat) 5 #[true, true, true, true, false, true, true, true, true, false, true, true, true, false, false, true, false] (fun s_ => [(32, s_.1), (7, .pointer (some ⟨s_.2, 0, none⟩))]) (fun s_ w' => (w'.cell? ⟨gb297, 0, none⟩ = some (.int .i64 a0_0) ∧ w'.cell? ⟨gb297, 1, none⟩ = some (.int .i64 a0_1) ∧ w'.cell? ⟨gb297, 2, none⟩ = some (.slice A0_2 l0_2.length c0_2) ∧ w'.cell? ⟨gb297, 3, none⟩ = some (.slice A0_3 l0_3.length c0_3)) ∧ (Kd.R k50 50 w' w.heap.size (fun _ => True) s_.1 y310) ∧ (w'.heap[gb297]? = some (.cells #[.int .i64 a0_0, .int .i64 a0_1, .slice A0_2 l0_2.length c0_2, .slice A0_3 l0_3.length c0_3] 29 (0, 0))) ∧ (w'.heap[gb298]? = some (.cells #[.int .i64 0, .int .i64 0, .slice none 0 0, .slice none 0 0] 29 (0, 0))) ∧ (w'.heap[s_.2]? = some (.cells #[.int .i64 0, .int .i64 0, .slice none 0 0, .slice none 0 0] 29 (0, 0))) ∧ (w.heap.size ≤ s_.2) ∧ (w.heap.size ≤ s_.2) ∧ (gb297 ≠ s_.2) ∧ (s_.2 ≠ gb297) ∧ (gb298 ≠ s_.2) ∧ (s_.2 ≠ gb298) ∧ (Below w.heap.size w w')) ?_ ?_
                 rotate_left
                 ·intro hJ10_15
                  refine join_ (σ := Value) 6 #[true, true, true, true, true, true, true, true, true, false, false, true, true, false, false, false, false] (fun s_ => [(26, s_)]) (fun s_ w' => (w'.cell? ⟨gb297, 0, none⟩ = some (.int .i64 a0_0) ∧ w'.cell? ⟨gb297, 1, none⟩ = some (.int .i64 a0_1) ∧ w'.cell? ⟨gb297, 2, none⟩ = some (.slice A0_2 l0_2.length c0_2) ∧ w'.cell? ⟨gb297, 3, none⟩ = some (.slice A0_3 l0_3.length c0_3)) ∧ (Kd.R (Kd.int .u8) 5 w' w.heap.size (fun _ => True) s_ y303) ∧ (w'.heap[gb297]? = some (.cells #[.int .i64 a0_0, .int .i64 a0_1, .slice A0_2 l0_2.length c0_2, .slice A0_3 l0_3.length c0_3] 29 (0, 0))) ∧ (w'.heap[gb298]? = some (.cells #[.int .i64 0, .int .i64 0, .slice none 0 0, .slice none 0 0] 29 (0, 0))) ∧ (Below w.heap.size w w')) ?_ ?_
                  rotate_left
                  ·intro hJ4
                   refine join_ (σ := Value) 6 #[true, true, true, true, false, true, true, true, true, false, true, true, true, false, false, false, false] (fun s_ => [(32, s_)]) (fun s_ w' => (w'.cell? ⟨gb297, 0, none⟩ = some (.int .i64 a0_0) ∧ w'.cell? ⟨gb297, 1, none⟩ = some (.int .i64 a0_1) ∧ w'.cell? ⟨gb297, 2, none⟩ = some (.slice A0_2 l0_2.length c0_2) ∧ w'.cell? ⟨gb297, 3, none⟩ = some (.slice A0_3 l0_3.length c0_3)) ∧ (Kd.R k50 50 w' w.heap.size (fun _ => True) s_ y310) ∧ (w'.heap[gb297]? = some (.cells #[.int .i64 a0_0, .int .i64 a0_1, .slice A0_2 l0_2.length c0_2, .slice A0_3 l0_3.length c0_3] 29 (0, 0))) ∧ (w'.heap[gb298]? = some (.cells #[.int .i64 0, .int .i64 0, .slice none 0 0, .slice none 0 0] 29 (0, 0))) ∧ (Below w.heap.size w w')) ?_ ?_
                   rotate_left
                   ·intro hJ10
                    refine join_ (σ := Nat) 6 #[true, true, true, true, false, true, true, true, true, false, false, true, true, false, false, true, false] (fun s_ => [(7, .pointer (some ⟨s_, 0, none⟩))]) (fun s_ w' => (w'.cell? ⟨gb297, 0, none⟩ = some (.int .i64 a0_0) ∧ w'.cell? ⟨gb297, 1, none⟩ = some (.int .i64 a0_1) ∧ w'.cell? ⟨gb297, 2, none⟩ = some (.slice A0_2 l0_2.length c0_2) ∧ w'.cell? ⟨gb297, 3, none⟩ = some (.slice A0_3 l0_3.length c0_3)) ∧ (w'.heap[gb297]? = some (.cells #[.int .i64 a0_0, .int .i64 a0_1, .slice A0_2 l0_2.length c0_2, .slice A0_3 l0_3.length c0_3] 29 (0, 0))) ∧ (w'.heap[gb298]? = some (.cells #[.int .i64 0, .int .i64 0, .slice none 0 0, .slice none 0 0] 29 (0, 0))) ∧ (w'.heap[s_]? = some (.cells #[.int .i64 0, .int .i64 0, .slice none 0 0, .slice none 0 0] 29 (0, 0))) ∧ (w.heap.size ≤ s_) ∧ (w.heap.size ≤ s_) ∧ (gb297 ≠ s_) ∧ (s_ ≠ gb297) ∧ (gb298 ≠ s_) ∧ (s_ ≠ gb298) ∧ (Below w.heap.size w w')) ?_ ?_
                    rotate_left
                    ·intro hJ15
                     refine three_ (i := 4) (j := 10) (k := 15) (Ni := some 26) (Nj := some 32) (Nk := some 7) #[true, true, true, true, true, true, true, true, true, false, false, true, true, false, false, false, false] #[true, true, true, true, false, true, true, true, true, false, true, true, true, false, false, false, false] #[true, true, true, true, false, true, true, true, true, false, false, true, true, false, false, true, false] rfl rfl rfl rfl rfl rfl (three_of HT_.out (by kernel_rfl)) (by decide) (by decide) (by decide) (fun K hK => ?_) (fun K hK => ?_) (fun K hK => ?_)
                     ·skip
                      refine Kd.R_lit_step (Kd.int .u8) _ 5 ?hg (N := 26) ?hd (xs := ([] : List Int)) (inner := []) (ok := fun _ => True) (okp := fun _ => True) ?hr ?hp (fun _ hk => hk) trivial (Below.refl _ _) (Nat.le_refl _) (by simp) ?_; (case hd => rfl); (case hg => rfl); (case hr => first | (go_simp; done) | (go_simp; rfl)); (case hp => exact (Reps.none _ _))
                      intro v304 w30 ho31 hb hg_ hnew_
                      clear hg_ hnew_
                      (first | rw [← Ny303.out] at ho31 | (simp only [Int.reduceToNat] at ho31; rw [← Ny303.out] at ho31))
                      have n0_ := Aside0.mk (Kd.R_lower ho31 (below_size (hbA_ HB.out))); have n1_ := (bbA_ BK297 hb); have n2_ := (bbA_ BK298 hb); have n3_ := (bs_ HB hb); clear BK297 BK298 HB; have HO305 := n0_; have BK297 := n1_; have BK298 := n2_; have HB := n3_; clear n0_ n1_ n2_ n3_ hb ho31
                      refine hK.out _ _ (cz4 BK297.out) (fun hHeld => ?_)
                      clear hK K; refine nm_ 26 ?_
                      exact norm_ (by first | (simp only [putAll, Act.put, List.setIfInBounds_toArray, List.set_cons_zero, List.set_cons_succ]; done) | (simp only [putAll, Act.put, List.setIfInBounds_toArray, List.set_cons_zero, List.set_cons_succ]; rfl)) (hJ4 (v304) _ ⟨hHeld, (kR_ HO305.out), (kb_ BK297.out), (kb_ BK298.out), (hbA_ HB.out)⟩)
                     ·skip
                      refine Kd.R_lit_step k50 _ 50 ?hg (N := 32) ?hd (xs := ([] : List (S50))) (inner := []) (ok := fun _ => True) (okp := fun _ => True) ?hr ?hp (fun _ hk => hk) trivial (Below.refl _ _) (Nat.le_refl _) (by simp) ?_; (case hd => rfl); (case hg => rfl); (case hr => first | (go_simp; done) | (go_simp; rfl)); (case hp => exact (Reps.none _ _))
                      intro v311 w30 ho31 hb hg_ hnew_
                      clear hg_ hnew_
                      (first | rw [← Ny310.out] at ho31 | (simp only [Int.reduceToNat] at ho31; rw [← Ny310.out] at ho31))
                      have n0_ := Aside0.mk (Kd.R_lower ho31 (below_size (hbA_ HB.out))); have n1_ := (bbA_ BK297 hb); have n2_ := (bbA_ BK298 hb); have n3_ := (bs_ HB hb); clear BK297 BK298 HB; have HO312 := n0_; have BK297 := n1_; have BK298 := n2_; have HB := n3_; clear n0_ n1_ n2_ n3_ hb ho31
                      refine hK.out _ _ (cz4 BK297.out) (fun hHeld => ?_)
                      clear hK K; refine nm_ 32 ?_
                      exact norm_ (by first | (simp only [putAll, Act.put, List.setIfInBounds_toArray, List.set_cons_zero, List.set_cons_succ]; done) | (simp only [putAll, Act.put, List.setIfInBounds_toArray, List.set_cons_zero, List.set_cons_succ]; rfl)) (hJ10 (v311) _ ⟨hHeld, (kR_ HO312.out), (kb_ BK297.out), (kb_ BK298.out), (hbA_ HB.out)⟩)
                     ·skip
                      refine box_step ?hg (N := 7) ?hd (cs := #[.int .i64 0, .int .i64 0, .slice none 0 0, .slice none 0 0]) (t := 29) ?hr ?_; (case hd => rfl); (case hg => rfl); (case hr => first | (go_simp; done) | (go_simp; rfl))
                      intro gb316 hg w30 hbox hb
                      have n0_ := (bbA_ BK297 hb); have n1_ := (bbA_ BK298 hb); have n2_ := (bs_ HB hb); have n3_ := Aside0.mk (hbox); have n4_ := ge_ hg HB; have n5_ := ge_ hg HB; have n6_ := nl_ hg BK297; have n7_ := ng_ hg BK297; have n8_ := nl_ hg BK298; have n9_ := ng_ hg BK298; clear BK297 BK298 HB; have BK297 := n0_; have BK298 := n1_; have HB := n2_; have BK316 := n3_; have GW316 := n4_; have GE316 := n5_; have NB297_316 := n6_; have NB316_297 := n7_; have NB298_316 := n8_; have NB316_298 := n9_; clear n0_ n1_ n2_ n3_ n4_ n5_ n6_ n7_ n8_ n9_ hb hbox hg
                      refine hK.out _ _ (cz4 BK297.out) (fun hHeld => ?_)
                      clear hK K; refine nm_ 7 ?_
                      exact norm_ (by first | (simp only [putAll, Act.put, List.setIfInBounds_toArray, List.set_cons_zero, List.set_cons_succ]; done) | (simp only [putAll, Act.put, List.setIfInBounds_toArray, List.set_cons_zero, List.set_cons_succ]; rfl)) (hJ15 (gb316) _ ⟨hHeld, (kb_ BK297.out), (kb_ BK298.out), (kb_ BK316.out), GW316.out, GE316.out, NB297_316.out, NB316_297.out, NB298_316.out, NB316_298.out, (hbA_ HB.out)⟩)
                    ·skip
                     rintro gb316 w31 ⟨hS_, h0_, h1_, h2_, h3_, h4_, h5_, h6_, h7_, h8_, h9_⟩
                     have n0_ : Aside0 (w31.heap[gb297]? = some (.cells #[.int .i64 a0_0, .int .i64 a0_1, .slice A0_2 l0_2.length c0_2, .slice A0_3 l0_3.length c0_3] 29 (0, 0))) := ⟨h0_⟩
                     have n1_ : Aside0 (w31.heap[gb298]? = some (.cells #[.int .i64 0, .int .i64 0, .slice none 0 0, .slice none 0 0] 29 (0, 0))) := ⟨h1_⟩
                     have n2_ : Aside0 (w31.heap[gb316]? = some (.cells #[.int .i64 0, .int .i64 0, .slice none 0 0, .slice none 0 0] 29 (0, 0))) := ⟨h2_⟩
                     have n3_ : Aside0 (w.heap.size ≤ gb316) := ⟨h3_⟩
                     have n4_ : Aside0 (w.heap.size ≤ gb316) := ⟨h4_⟩
                     have n5_ : Aside0 (gb297 ≠ gb316) := ⟨h5_⟩
                     have n6_ : Aside0 (gb316 ≠ gb297) := ⟨h6_⟩
                     have n7_ : Aside0 (gb298 ≠ gb316) := ⟨h7_⟩
                     have n8_ : Aside0 (gb316 ≠ gb298) := ⟨h8_⟩
                     have n9_ : Aside0 (Below w.heap.size w w31) := ⟨h9_⟩
                     clear BK297 BK298 HB h0_ h1_ h2_ h3_ h4_ h5_ h6_ h7_ h8_ h9_; have BK297 := n0_; have BK298 := n1_; have BK316 := n2_; have GW316 := n3_; have GE316 := n4_; have NB297_316 := n5_; have NB316_297 := n6_; have NB298_316 := n7_; have NB316_298 := n8_; have HB := n9_; clear n0_ n1_ n2_ n3_ n4_ n5_ n6_ n7_ n8_ n9_
                     have hHeld : w31.cell? ⟨gb297, 0, none⟩ = some (.int .i64 a0_0) ∧ w31.cell? ⟨gb297, 1, none⟩ = some (.int .i64 a0_1) ∧ w31.cell? ⟨gb297, 2, none⟩ = some (.slice A0_2 l0_2.length c0_2) ∧ w31.cell? ⟨gb297, 3, none⟩ = some (.slice A0_3 l0_3.length c0_3) := hS_
                     refine norm_ (a' := ?_) ?_ ?_
                     rotate_left
                     ·simp only [putAll, Act.put, List.setIfInBounds_toArray, List.set_cons_zero, List.set_cons_succ]
                      rfl
                     refine two_ (i := 4) (j := 10) (Ni := some 26) (Nj := some 32) #[true, true, true, true, true, true, true, true, true, false, false, true, true, false, false, true, false] #[true, true, true, true, false, true, true, true, true, false, true, true, true, false, false, true, false] rfl rfl rfl rfl (two_of HT_.out (by kernel_rfl)) (by decide) (by decide) (fun K hK => ?_) (fun K hK => ?_)
                     ·skip
                      refine Kd.R_lit_step (Kd.int .u8) _ 5 ?hg (N := 26) ?hd (xs := ([] : List Int)) (inner := []) (ok := fun _ => True) (okp := fun _ => True) ?hr ?hp (fun _ hk => hk) trivial (Below.refl _ _) (Nat.le_refl _) (by simp) ?_; (case hd => rfl); (case hg => rfl); (case hr => first | (go_simp; done) | (go_simp; rfl)); (case hp => exact (Reps.none _ _))
                      intro v304 w32 ho33 hb hg_ hnew_
                      clear hg_ hnew_
                      (first | rw [← Ny303.out] at ho33 | (simp only [Int.reduceToNat] at ho33; rw [← Ny303.out] at ho33))
                      have n0_ := Aside0.mk (Kd.R_lower ho33 (below_size (hbA_ HB.out))); have n1_ := (bbA_ BK297 hb); have n2_ := (bbA_ BK298 hb); have n3_ := (bbA_ BK316 hb); have n4_ := (bs_ HB hb); clear BK297 BK298 BK316 HB; have HO305 := n0_; have BK297 := n1_; have BK298 := n2_; have BK316 := n3_; have HB := n4_; clear n0_ n1_ n2_ n3_ n4_ hb ho33
                      refine hK.out _ _ (cz4 BK297.out) (fun hHeld => ?_)
                      clear hK K; refine nm_ 26 ?_
                      exact norm_ (by first | (simp only [putAll, Act.put, List.setIfInBounds_toArray, List.set_cons_zero, List.set_cons_succ]; done) | (simp only [putAll, Act.put, List.setIfInBounds_toArray, List.set_cons_zero, List.set_cons_succ]; rfl)) (hJ4_15 (v304, gb316) _ ⟨hHeld, (kR_ HO305.out), (kb_ BK297.out), (kb_ BK298.out), (kb_ BK316.out), GW316.out, GE316.out, NB297_316.out, NB316_297.out, NB298_316.out, NB316_298.out, (hbA_ HB.out)⟩)
                     ·skip
                      refine Kd.R_lit_step k50 _ 50 ?hg (N := 32) ?hd (xs := ([] : List (S50))) (inner := []) (ok := fun _ => True) (okp := fun _ => True) ?hr ?hp (fun _ hk => hk) trivial (Below.refl _ _) (Nat.le_refl _) (by simp) ?_; (case hd => rfl); (case hg => rfl); (case hr => first | (go_simp; done) | (go_simp; rfl)); (case hp => exact (Reps.none _ _))
                      intro v311 w32 ho33 hb hg_ hnew_
                      clear hg_ hnew_
                      (first | rw [← Ny310.out] at ho33 | (simp only [Int.reduceToNat] at ho33; rw [← Ny310.out] at ho33))
                      have n0_ := Aside0.mk (Kd.R_lower ho33 (below_size (hbA_ HB.out))); have n1_ := (bbA_ BK297 hb); have n2_ := (bbA_ BK298 hb); have n3_ := (bbA_ BK316 hb); have n4_ := (bs_ HB hb); clear BK297 BK298 BK316 HB; have HO312 := n0_; have BK297 := n1_; have BK298 := n2_; have BK316 := n3_; have HB := n4_; clear n0_ n1_ n2_ n3_ n4_ hb ho33
                      refine hK.out _ _ (cz4 BK297.out) (fun hHeld => ?_)
                      clear hK K; refine nm_ 32 ?_
                      exact norm_ (by first | (simp only [putAll, Act.put, List.setIfInBounds_toArray, List.set_cons_zero, List.set_cons_succ]; done) | (simp only [putAll, Act.put, List.setIfInBounds_toArray, List.set_cons_zero, List.set_cons_succ]; rfl)) (hJ10_15 (v311, gb316) _ ⟨hHeld, (kR_ HO312.out), (kb_ BK297.out), (kb_ BK298.out), (kb_ BK316.out), GW316.out, GE316.out, NB297_316.out, NB316_297.out, NB298_316.out, NB316_298.out, (hbA_ HB.out)⟩)
                   ·skip
                    rintro v311 w32 ⟨hS_, h0_, h1_, h2_, h3_⟩
                    have n0_ : Aside0 (Kd.R k50 50 w32 w.heap.size (fun _ => True) v311 y310) := ⟨h0_⟩
                    have n1_ : Aside0 (w32.heap[gb297]? = some (.cells #[.int .i64 a0_0, .int .i64 a0_1, .slice A0_2 l0_2.length c0_2, .slice A0_3 l0_3.length c0_3] 29 (0, 0))) := ⟨h1_⟩
                    have n2_ : Aside0 (w32.heap[gb298]? = some (.cells #[.int .i64 0, .int .i64 0, .slice none 0 0, .slice none 0 0] 29 (0, 0))) := ⟨h2_⟩
                    have n3_ : Aside0 (Below w.heap.size w w32) := ⟨h3_⟩
                    clear BK297 BK298 HB h0_ h1_ h2_ h3_; have HO312 := n0_; have BK297 := n1_; have BK298 := n2_; have HB := n3_; clear n0_ n1_ n2_ n3_
                    have hHeld : w32.cell? ⟨gb297, 0, none⟩ = some (.int .i64 a0_0) ∧ w32.cell? ⟨gb297, 1, none⟩ = some (.int .i64 a0_1) ∧ w32.cell? ⟨gb297, 2, none⟩ = some (.slice A0_2 l0_2.length c0_2) ∧ w32.cell? ⟨gb297, 3, none⟩ = some (.slice A0_3 l0_3.length c0_3) := hS_
                    refine norm_ (a' := ?_) ?_ ?_
                    rotate_left
                    ·simp only [putAll, Act.put, List.setIfInBounds_toArray, List.set_cons_zero, List.set_cons_succ]
                     rfl
                    refine two_ (i := 4) (j := 15) (Ni := some 26) (Nj := some 7) #[true, true, true, true, true, true, true, true, true, false, true, true, true, false, false, false, false] #[true, true, true, true, false, true, true, true, true, false, true, true, true, false, false, true, false] rfl rfl rfl rfl (two_of HT_.out (by kernel_rfl)) (by decide) (by decide) (fun K hK => ?_) (fun K hK => ?_)
                    ·skip
                     refine Kd.R_lit_step (Kd.int .u8) _ 5 ?hg (N := 26) ?hd (xs := ([] : List Int)) (inner := []) (ok := fun _ => True) (okp := fun _ => True) ?hr ?hp (fun _ hk => hk) trivial (Below.refl _ _) (Nat.le_refl _) (by simp) ?_; (case hd => rfl); (case hg => rfl); (case hr => first | (go_simp; done) | (go_simp; rfl)); (case hp => exact (Reps.none _ _))
                     intro v304 w33 ho34 hb hg_ hnew_
                     clear hg_ hnew_
                     (first | rw [← Ny303.out] at ho34 | (simp only [Int.reduceToNat] at ho34; rw [← Ny303.out] at ho34))
                     have n0_ := Aside0.mk (Kd.R_below (kR_ HO312.out) hb); have n1_ := Aside0.mk (Kd.R_lower ho34 (below_size (hbA_ HB.out))); have n2_ := (bbA_ BK297 hb); have n3_ := (bbA_ BK298 hb); have n4_ := (bs_ HB hb); clear HO312 BK297 BK298 HB; have HO312 := n0_; have HO305 := n1_; have BK297 := n2_; have BK298 := n3_; have HB := n4_; clear n0_ n1_ n2_ n3_ n4_ hb ho34
                     refine hK.out _ _ (cz4 BK297.out) (fun hHeld => ?_)
                     clear hK K; refine nm_ 26 ?_
                     exact norm_ (by first | (simp only [putAll, Act.put, List.setIfInBounds_toArray, List.set_cons_zero, List.set_cons_succ]; done) | (simp only [putAll, Act.put, List.setIfInBounds_toArray, List.set_cons_zero, List.set_cons_succ]; rfl)) (hJ4_10 (v304, v311) _ ⟨hHeld, (kR_ HO305.out), (kR_ HO312.out), (kb_ BK297.out), (kb_ BK298.out), (hbA_ HB.out)⟩)
                    ·skip
                     refine box_step ?hg (N := 7) ?hd (cs := #[.int .i64 0, .int .i64 0, .slice none 0 0, .slice none 0 0]) (t := 29) ?hr ?_; (case hd => rfl); (case hg => rfl); (case hr => first | (go_simp; done) | (go_simp; rfl))
                     intro gb316 hg w33 hbox hb
                     have n0_ := Aside0.mk (Kd.R_below (kR_ HO312.out) hb); have n1_ := (bbA_ BK297 hb); have n2_ := (bbA_ BK298 hb); have n3_ := (bs_ HB hb); have n4_ := Aside0.mk (hbox); have n5_ := ge_ hg HB; have n6_ := ge_ hg HB; have n7_ := nl_ hg BK297; have n8_ := ng_ hg BK297; have n9_ := nl_ hg BK298; have n10_ := ng_ hg BK298; clear HO312 BK297 BK298 HB; have HO312 := n0_; have BK297 := n1_; have BK298 := n2_; have HB := n3_; have BK316 := n4_; have GW316 := n5_; have GE316 := n6_; have NB297_316 := n7_; have NB316_297 := n8_; have NB298_316 := n9_; have NB316_298 := n10_; clear n0_ n1_ n2_ n3_ n4_ n5_ n6_ n7_ n8_ n9_ n10_ hb hbox hg
                     refine hK.out _ _ (cz4 BK297.out) (fun hHeld => ?_)
                     clear hK K; refine nm_ 7 ?_
                     exact norm_ (by first | (simp only [putAll, Act.put, List.setIfInBounds_toArray, List.set_cons_zero, List.set_cons_succ]; done) | (simp only [putAll, Act.put, List.setIfInBounds_toArray, List.set_cons_zero, List.set_cons_succ]; rfl)) (hJ10_15 (v311, gb316) _ ⟨hHeld, (kR_ HO312.out), (kb_ BK297.out), (kb_ BK298.out), (kb_ BK316.out), GW316.out, GE316.out, NB297_316.out, NB316_297.out, NB298_316.out, NB316_298.out, (hbA_ HB.out)⟩)
                  ·skip
                   rintro v304 w32 ⟨hS_, h0_, h1_, h2_, h3_⟩
                   have n0_ : Aside0 (Kd.R (Kd.int .u8) 5 w32 w.heap.size (fun _ => True) v304 y303) := ⟨h0_⟩
                   have n1_ : Aside0 (w32.heap[gb297]? = some (.cells #[.int .i64 a0_0, .int .i64 a0_1, .slice A0_2 l0_2.length c0_2, .slice A0_3 l0_3.length c0_3] 29 (0, 0))) := ⟨h1_⟩
                   have n2_ : Aside0 (w32.heap[gb298]? = some (.cells #[.int .i64 0, .int .i64 0, .slice none 0 0, .slice none 0 0] 29 (0, 0))) := ⟨h2_⟩
                   have n3_ : Aside0 (Below w.heap.size w w32) := ⟨h3_⟩
                   clear BK297 BK298 HB h0_ h1_ h2_ h3_; have HO305 := n0_; have BK297 := n1_; have BK298 := n2_; have HB := n3_; clear n0_ n1_ n2_ n3_
                   have hHeld : w32.cell? ⟨gb297, 0, none⟩ = some (.int .i64 a0_0) ∧ w32.cell? ⟨gb297, 1, none⟩ = some (.int .i64 a0_1) ∧ w32.cell? ⟨gb297, 2, none⟩ = some (.slice A0_2 l0_2.length c0_2) ∧ w32.cell? ⟨gb297, 3, none⟩ = some (.slice A0_3 l0_3.length c0_3) := hS_
                   refine norm_ (a' := ?_) ?_ ?_
                   rotate_left
                   ·simp only [putAll, Act.put, List.setIfInBounds_toArray, List.set_cons_zero, List.set_cons_succ]
                    rfl
                   refine three_ (i := 9) (j := 10) (k := 15) (Ni := some 31) (Nj := some 32) (Nk := some 7) #[true, true, true, true, true, true, true, true, true, true, false, true, true, false, false, false, false] #[true, true, true, true, true, true, true, true, true, false, true, true, true, false, false, false, false] #[true, true, true, true, true, true, true, true, true, false, false, true, true, false, false, true, false] rfl rfl rfl rfl rfl rfl (three_of HT_.out (by kernel_rfl)) (by decide) (by decide) (by decide) (fun K hK => ?_) (fun K hK => ?_) (fun K hK => ?_)
                   ·skip
                    refine Kd.R_append_rows_step (Kd.int .u8) (w0 := w) w.heap.size (by rfl) (.tmp 26) (.tmp 30) 22 5 (.int .u8 0) 1 rfl Try.underlying22 info5 rfl (by decide) (by omega) v304 y303 (l0_2.drop ((ji14) : Int).toNat) _ _ _ (fun _ => True) (fun _ => False) rfl rfl ?aO ?aR (fun _ _ h => h) (fun _ h => h.elim) ?aF ?aB ?aS ?aL ?_
                    (case aR => first | (refine len_ (show (l0_2.drop ((ji14) : Int).toNat).length = (l0_2.length - (ji14).toNat) from List.length_drop) ?_; repeat (first | exact (Kd.C_below HR306.out HB.out) | (with_reducible refine Kd.C_alloc ?_ _) | (with_reducible refine Kd.C_drewN ?_ _) | (with_reducible refine Kd.C_drew ?_)); done) | (repeat (first | exact (Kd.C_below HR306.out HB.out) | (with_reducible refine Kd.C_alloc ?_ _) | (with_reducible refine Kd.C_drewN ?_ _) | (with_reducible refine Kd.C_drew ?_))))
                    (case aB => exact (hbA_ HB.out))
                    (case aF => exact (fun _ _ => trivial))
                    (case aO => exact (kR_ HO305.out))
                    (case aS => exact (below_size (hbA_ HB.out)))
                    (case aL => have := LMc17.out; have hlx_ := (show (l0_2.drop ((ji14) : Int).toNat).length = (l0_2.length - (ji14).toNat) from List.length_drop); omega)
                    intro v308 w33 ho hb hg hat
                    rw [← Ny307.out] at ho
                    have n0_ := (bgA_ BK297 hg (Kd.R_ne HO305.out BK297.out (by decide))); have n1_ := (bgA_ BK298 hg (Kd.R_ne HO305.out BK298.out (by decide))); have n2_ := Aside0.mk (hb); have n3_ := Aside0.mk (ho); clear BK297 BK298 HB HO305; have BK297 := n0_; have BK298 := n1_; have HB := n2_; have HO309 := n3_; clear n0_ n1_ n2_ n3_ ho hb hg hat
                    refine hK.out _ _ (cz4 BK297.out) (fun hHeld => ?_)
                    clear hK K; refine nm_ 31 ?_
                    exact norm_ (by first | (simp only [putAll, Act.put, List.setIfInBounds_toArray, List.set_cons_zero, List.set_cons_succ]; done) | (simp only [putAll, Act.put, List.setIfInBounds_toArray, List.set_cons_zero, List.set_cons_succ]; rfl)) (hJ4_9 (v304, v308) _ ⟨hHeld, (kR_ HO309.out), (kb_ BK297.out), (kb_ BK298.out), (hbA_ HB.out)⟩)
                   ·skip
                    refine Kd.R_lit_step k50 _ 50 ?hg (N := 32) ?hd (xs := ([] : List (S50))) (inner := []) (ok := fun _ => True) (okp := fun _ => True) ?hr ?hp (fun _ hk => hk) trivial (Below.refl _ _) (Nat.le_refl _) (by simp) ?_; (case hd => rfl); (case hg => rfl); (case hr => first | (go_simp; done) | (go_simp; rfl)); (case hp => exact (Reps.none _ _))
                    intro v311 w33 ho34 hb hg_ hnew_
                    clear hg_ hnew_
                    (first | rw [← Ny310.out] at ho34 | (simp only [Int.reduceToNat] at ho34; rw [← Ny310.out] at ho34))
                    have n0_ := Aside0.mk (Kd.R_below (kR_ HO305.out) hb); have n1_ := Aside0.mk (Kd.R_lower ho34 (below_size (hbA_ HB.out))); have n2_ := (bbA_ BK297 hb); have n3_ := (bbA_ BK298 hb); have n4_ := (bs_ HB hb); clear HO305 BK297 BK298 HB; have HO305 := n0_; have HO312 := n1_; have BK297 := n2_; have BK298 := n3_; have HB := n4_; clear n0_ n1_ n2_ n3_ n4_ hb ho34
                    refine hK.out _ _ (cz4 BK297.out) (fun hHeld => ?_)
                    clear hK K; refine nm_ 32 ?_
                    exact norm_ (by first | (simp only [putAll, Act.put, List.setIfInBounds_toArray, List.set_cons_zero, List.set_cons_succ]; done) | (simp only [putAll, Act.put, List.setIfInBounds_toArray, List.set_cons_zero, List.set_cons_succ]; rfl)) (hJ4_10 (v304, v311) _ ⟨hHeld, (kR_ HO305.out), (kR_ HO312.out), (kb_ BK297.out), (kb_ BK298.out), (hbA_ HB.out)⟩)
                   ·skip
                    refine box_step ?hg (N := 7) ?hd (cs := #[.int .i64 0, .int .i64 0, .slice none 0 0, .slice none 0 0]) (t := 29) ?hr ?_; (case hd => rfl); (case hg => rfl); (case hr => first | (go_simp; done) | (go_simp; rfl))
                    intro gb316 hg w33 hbox hb
                    have n0_ := Aside0.mk (Kd.R_below (kR_ HO305.out) hb); have n1_ := (bbA_ BK297 hb); have n2_ := (bbA_ BK298 hb); have n3_ := (bs_ HB hb); have n4_ := Aside0.mk (hbox); have n5_ := ge_ hg HB; have n6_ := ge_ hg HB; have n7_ := nl_ hg BK297; have n8_ := ng_ hg BK297; have n9_ := nl_ hg BK298; have n10_ := ng_ hg BK298; clear HO305 BK297 BK298 HB; have HO305 := n0_; have BK297 := n1_; have BK298 := n2_; have HB := n3_; have BK316 := n4_; have GW316 := n5_; have GE316 := n6_; have NB297_316 := n7_; have NB316_297 := n8_; have NB298_316 := n9_; have NB316_298 := n10_; clear n0_ n1_ n2_ n3_ n4_ n5_ n6_ n7_ n8_ n9_ n10_ hb hbox hg
                    refine hK.out _ _ (cz4 BK297.out) (fun hHeld => ?_)
                    clear hK K; refine nm_ 7 ?_
                    exact norm_ (by first | (simp only [putAll, Act.put, List.setIfInBounds_toArray, List.set_cons_zero, List.set_cons_succ]; done) | (simp only [putAll, Act.put, List.setIfInBounds_toArray, List.set_cons_zero, List.set_cons_succ]; rfl)) (hJ4_15 (v304, gb316) _ ⟨hHeld, (kR_ HO305.out), (kb_ BK297.out), (kb_ BK298.out), (kb_ BK316.out), GW316.out, GE316.out, NB297_316.out, NB316_297.out, NB298_316.out, NB316_298.out, (hbA_ HB.out)⟩)
                 ·skip
                  rintro ⟨v311, gb316⟩ w33 ⟨hS_, h0_, h1_, h2_, h3_, h4_, h5_, h6_, h7_, h8_, h9_, h10_⟩
                  have n0_ : Aside0 (Kd.R k50 50 w33 w.heap.size (fun _ => True) v311 y310) := ⟨h0_⟩
                  have n1_ : Aside0 (w33.heap[gb297]? = some (.cells #[.int .i64 a0_0, .int .i64 a0_1, .slice A0_2 l0_2.length c0_2, .slice A0_3 l0_3.length c0_3] 29 (0, 0))) := ⟨h1_⟩
                  have n2_ : Aside0 (w33.heap[gb298]? = some (.cells #[.int .i64 0, .int .i64 0, .slice none 0 0, .slice none 0 0] 29 (0, 0))) := ⟨h2_⟩
                  have n3_ : Aside0 (w33.heap[gb316]? = some (.cells #[.int .i64 0, .int .i64 0, .slice none 0 0, .slice none 0 0] 29 (0, 0))) := ⟨h3_⟩
                  have n4_ : Aside0 (w.heap.size ≤ gb316) := ⟨h4_⟩
                  have n5_ : Aside0 (w.heap.size ≤ gb316) := ⟨h5_⟩
                  have n6_ : Aside0 (gb297 ≠ gb316) := ⟨h6_⟩
                  have n7_ : Aside0 (gb316 ≠ gb297) := ⟨h7_⟩
                  have n8_ : Aside0 (gb298 ≠ gb316) := ⟨h8_⟩
                  have n9_ : Aside0 (gb316 ≠ gb298) := ⟨h9_⟩
                  have n10_ : Aside0 (Below w.heap.size w w33) := ⟨h10_⟩
                  clear BK297 BK298 HB h0_ h1_ h2_ h3_ h4_ h5_ h6_ h7_ h8_ h9_ h10_; have HO312 := n0_; have BK297 := n1_; have BK298 := n2_; have BK316 := n3_; have GW316 := n4_; have GE316 := n5_; have NB297_316 := n6_; have NB316_297 := n7_; have NB298_316 := n8_; have NB316_298 := n9_; have HB := n10_; clear n0_ n1_ n2_ n3_ n4_ n5_ n6_ n7_ n8_ n9_ n10_
                  have hHeld : w33.cell? ⟨gb297, 0, none⟩ = some (.int .i64 a0_0) ∧ w33.cell? ⟨gb297, 1, none⟩ = some (.int .i64 a0_1) ∧ w33.cell? ⟨gb297, 2, none⟩ = some (.slice A0_2 l0_2.length c0_2) ∧ w33.cell? ⟨gb297, 3, none⟩ = some (.slice A0_3 l0_3.length c0_3) := hS_
                  refine norm_ (a' := ?_) ?_ ?_
                  rotate_left
                  ·simp only [putAll, Act.put, List.setIfInBounds_toArray, List.set_cons_zero, List.set_cons_succ]
                   rfl
                  refine on_ (i := 4) (N := some 26) HT_ (fun K hK => ?_)
                  refine Kd.R_lit_step (Kd.int .u8) _ 5 ?hg (N := 26) ?hd (xs := ([] : List Int)) (inner := []) (ok := fun _ => True) (okp := fun _ => True) ?hr ?hp (fun _ hk => hk) trivial (Below.refl _ _) (Nat.le_refl _) (by simp) ?_; (case hd => rfl); (case hg => rfl); (case hr => first | (go_simp; done) | (go_simp; rfl)); (case hp => exact (Reps.none _ _))
                  intro v304 w34 ho35 hb hg_ hnew_
                  clear hg_ hnew_
                  (first | rw [← Ny303.out] at ho35 | (simp only [Int.reduceToNat] at ho35; rw [← Ny303.out] at ho35))
                  have n0_ := Aside0.mk (Kd.R_below (kR_ HO312.out) hb); have n1_ := Aside0.mk (Kd.R_lower ho35 (below_size (hbA_ HB.out))); have n2_ := (bbA_ BK297 hb); have n3_ := (bbA_ BK298 hb); have n4_ := (bbA_ BK316 hb); have n5_ := (bs_ HB hb); clear HO312 BK297 BK298 BK316 HB; have HO312 := n0_; have HO305 := n1_; have BK297 := n2_; have BK298 := n3_; have BK316 := n4_; have HB := n5_; clear n0_ n1_ n2_ n3_ n4_ n5_ hb ho35
                  refine hK.out _ _ (cz4 BK297.out) (fun hHeld => ?_)
                  clear hK K; refine nm_ 26 ?_
                  exact norm_ (by first | (simp only [putAll, Act.put, List.setIfInBounds_toArray, List.set_cons_zero, List.set_cons_succ]; done) | (simp only [putAll, Act.put, List.setIfInBounds_toArray, List.set_cons_zero, List.set_cons_succ]; rfl)) (hJ4_10_15 (v304, v311, gb316) _ ⟨hHeld, (kR_ HO305.out), (kR_ HO312.out), (kb_ BK297.out), (kb_ BK298.out), (kb_ BK316.out), GW316.out, GE316.out, NB297_316.out, NB316_297.out, NB298_316.out, NB316_298.out, (hbA_ HB.out)⟩)
                ·skip
                 rintro ⟨v304, gb316⟩ w33 ⟨hS_, h0_, h1_, h2_, h3_, h4_, h5_, h6_, h7_, h8_, h9_, h10_⟩
                 have n0_ : Aside0 (Kd.R (Kd.int .u8) 5 w33 w.heap.size (fun _ => True) v304 y303) := ⟨h0_⟩
                 have n1_ : Aside0 (w33.heap[gb297]? = some (.cells #[.int .i64 a0_0, .int .i64 a0_1, .slice A0_2 l0_2.length c0_2, .slice A0_3 l0_3.length c0_3] 29 (0, 0))) := ⟨h1_⟩
                 have n2_ : Aside0 (w33.heap[gb298]? = some (.cells #[.int .i64 0, .int .i64 0, .slice none 0 0, .slice none 0 0] 29 (0, 0))) := ⟨h2_⟩
                 have n3_ : Aside0 (w33.heap[gb316]? = some (.cells #[.int .i64 0, .int .i64 0, .slice none 0 0, .slice none 0 0] 29 (0, 0))) := ⟨h3_⟩
                 have n4_ : Aside0 (w.heap.size ≤ gb316) := ⟨h4_⟩
                 have n5_ : Aside0 (w.heap.size ≤ gb316) := ⟨h5_⟩
                 have n6_ : Aside0 (gb297 ≠ gb316) := ⟨h6_⟩
                 have n7_ : Aside0 (gb316 ≠ gb297) := ⟨h7_⟩
                 have n8_ : Aside0 (gb298 ≠ gb316) := ⟨h8_⟩
                 have n9_ : Aside0 (gb316 ≠ gb298) := ⟨h9_⟩
                 have n10_ : Aside0 (Below w.heap.size w w33) := ⟨h10_⟩
                 clear BK297 BK298 HB h0_ h1_ h2_ h3_ h4_ h5_ h6_ h7_ h8_ h9_ h10_; have HO305 := n0_; have BK297 := n1_; have BK298 := n2_; have BK316 := n3_; have GW316 := n4_; have GE316 := n5_; have NB297_316 := n6_; have NB316_297 := n7_; have NB298_316 := n8_; have NB316_298 := n9_; have HB := n10_; clear n0_ n1_ n2_ n3_ n4_ n5_ n6_ n7_ n8_ n9_ n10_
                 have hHeld : w33.cell? ⟨gb297, 0, none⟩ = some (.int .i64 a0_0) ∧ w33.cell? ⟨gb297, 1, none⟩ = some (.int .i64 a0_1) ∧ w33.cell? ⟨gb297, 2, none⟩ = some (.slice A0_2 l0_2.length c0_2) ∧ w33.cell? ⟨gb297, 3, none⟩ = some (.slice A0_3 l0_3.length c0_3) := hS_
                 refine norm_ (a' := ?_) ?_ ?_
                 rotate_left
                 ·simp only [putAll, Act.put, List.setIfInBounds_toArray, List.set_cons_zero, List.set_cons_succ]
                  rfl
                 refine two_ (i := 9) (j := 10) (Ni := some 31) (Nj := some 32) #[true, true, true, true, true, true, true, true, true, true, false, true, true, false, false, true, false] #[true, true, true, true, true, true, true, true, true, false, true, true, true, false, false, true, false] rfl rfl rfl rfl (two_of HT_.out (by kernel_rfl)) (by decide) (by decide) (fun K hK => ?_) (fun K hK => ?_)
                 ·skip
                  refine Kd.R_append_rows_step (Kd.int .u8) (w0 := w) w.heap.size (by rfl) (.tmp 26) (.tmp 30) 22 5 (.int .u8 0) 1 rfl Try.underlying22 info5 rfl (by decide) (by omega) v304 y303 (l0_2.drop ((ji14) : Int).toNat) _ _ _ (fun _ => True) (fun _ => False) rfl rfl ?aO ?aR (fun _ _ h => h) (fun _ h => h.elim) ?aF ?aB ?aS ?aL ?_
                  (case aR => first | (refine len_ (show (l0_2.drop ((ji14) : Int).toNat).length = (l0_2.length - (ji14).toNat) from List.length_drop) ?_; repeat (first | exact (Kd.C_below HR306.out HB.out) | (with_reducible refine Kd.C_alloc ?_ _) | (with_reducible refine Kd.C_drewN ?_ _) | (with_reducible refine Kd.C_drew ?_)); done) | (repeat (first | exact (Kd.C_below HR306.out HB.out) | (with_reducible refine Kd.C_alloc ?_ _) | (with_reducible refine Kd.C_drewN ?_ _) | (with_reducible refine Kd.C_drew ?_))))
                  (case aB => exact (hbA_ HB.out))
                  (case aF => exact (fun _ _ => trivial))
                  (case aO => exact (kR_ HO305.out))
                  (case aS => exact (below_size (hbA_ HB.out)))
                  (case aL => have := LMc17.out; have hlx_ := (show (l0_2.drop ((ji14) : Int).toNat).length = (l0_2.length - (ji14).toNat) from List.length_drop); omega)
                  intro v308 w34 ho hb hg hat
                  rw [← Ny307.out] at ho
                  have n0_ := (bgA_ BK297 hg (Kd.R_ne HO305.out BK297.out (by decide))); have n1_ := (bgA_ BK298 hg (Kd.R_ne HO305.out BK298.out (by decide))); have n2_ := (bgA_ BK316 hg (Kd.R_ne HO305.out BK316.out (by decide))); have n3_ := Aside0.mk (hb); have n4_ := Aside0.mk (ho); clear BK297 BK298 BK316 HB HO305; have BK297 := n0_; have BK298 := n1_; have BK316 := n2_; have HB := n3_; have HO309 := n4_; clear n0_ n1_ n2_ n3_ n4_ ho hb hg hat
                  refine hK.out _ _ (cz4 BK297.out) (fun hHeld => ?_)
                  clear hK K; refine nm_ 31 ?_
                  exact norm_ (by first | (simp only [putAll, Act.put, List.setIfInBounds_toArray, List.set_cons_zero, List.set_cons_succ]; done) | (simp only [putAll, Act.put, List.setIfInBounds_toArray, List.set_cons_zero, List.set_cons_succ]; rfl)) (hJ4_9_15 (v304, v308, gb316) _ ⟨hHeld, (kR_ HO309.out), (kb_ BK297.out), (kb_ BK298.out), (kb_ BK316.out), GW316.out, GE316.out, NB297_316.out, NB316_297.out, NB298_316.out, NB316_298.out, (hbA_ HB.out)⟩)
                 ·skip
                  refine Kd.R_lit_step k50 _ 50 ?hg (N := 32) ?hd (xs := ([] : List (S50))) (inner := []) (ok := fun _ => True) (okp := fun _ => True) ?hr ?hp (fun _ hk => hk) trivial (Below.refl _ _) (Nat.le_refl _) (by simp) ?_; (case hd => rfl); (case hg => rfl); (case hr => first | (go_simp; done) | (go_simp; rfl)); (case hp => exact (Reps.none _ _))
                  intro v311 w34 ho35 hb hg_ hnew_
                  clear hg_ hnew_
                  (first | rw [← Ny310.out] at ho35 | (simp only [Int.reduceToNat] at ho35; rw [← Ny310.out] at ho35))
                  have n0_ := Aside0.mk (Kd.R_below (kR_ HO305.out) hb); have n1_ := Aside0.mk (Kd.R_lower ho35 (below_size (hbA_ HB.out))); have n2_ := (bbA_ BK297 hb); have n3_ := (bbA_ BK298 hb); have n4_ := (bbA_ BK316 hb); have n5_ := (bs_ HB hb); clear HO305 BK297 BK298 BK316 HB; have HO305 := n0_; have HO312 := n1_; have BK297 := n2_; have BK298 := n3_; have BK316 := n4_; have HB := n5_; clear n0_ n1_ n2_ n3_ n4_ n5_ hb ho35
                  refine hK.out _ _ (cz4 BK297.out) (fun hHeld => ?_)
                  clear hK K; refine nm_ 32 ?_
                  exact norm_ (by first | (simp only [putAll, Act.put, List.setIfInBounds_toArray, List.set_cons_zero, List.set_cons_succ]; done) | (simp only [putAll, Act.put, List.setIfInBounds_toArray, List.set_cons_zero, List.set_cons_succ]; rfl)) (hJ4_10_15 (v304, v311, gb316) _ ⟨hHeld, (kR_ HO305.out), (kR_ HO312.out), (kb_ BK297.out), (kb_ BK298.out), (kb_ BK316.out), GW316.out, GE316.out, NB297_316.out, NB316_297.out, NB298_316.out, NB316_298.out, (hbA_ HB.out)⟩)
               ·skip
                rintro ⟨v304, v311⟩ w34 ⟨hS_, h0_, h1_, h2_, h3_, h4_⟩
                have n0_ : Aside0 (Kd.R (Kd.int .u8) 5 w34 w.heap.size (fun _ => True) v304 y303) := ⟨h0_⟩
                have n1_ : Aside0 (Kd.R k50 50 w34 w.heap.size (fun _ => True) v311 y310) := ⟨h1_⟩
                have n2_ : Aside0 (w34.heap[gb297]? = some (.cells #[.int .i64 a0_0, .int .i64 a0_1, .slice A0_2 l0_2.length c0_2, .slice A0_3 l0_3.length c0_3] 29 (0, 0))) := ⟨h2_⟩
                have n3_ : Aside0 (w34.heap[gb298]? = some (.cells #[.int .i64 0, .int .i64 0, .slice none 0 0, .slice none 0 0] 29 (0, 0))) := ⟨h3_⟩
                have n4_ : Aside0 (Below w.heap.size w w34) := ⟨h4_⟩
                clear BK297 BK298 HB h0_ h1_ h2_ h3_ h4_; have HO305 := n0_; have HO312 := n1_; have BK297 := n2_; have BK298 := n3_; have HB := n4_; clear n0_ n1_ n2_ n3_ n4_
                have hHeld : w34.cell? ⟨gb297, 0, none⟩ = some (.int .i64 a0_0) ∧ w34.cell? ⟨gb297, 1, none⟩ = some (.int .i64 a0_1) ∧ w34.cell? ⟨gb297, 2, none⟩ = some (.slice A0_2 l0_2.length c0_2) ∧ w34.cell? ⟨gb297, 3, none⟩ = some (.slice A0_3 l0_3.length c0_3) := hS_
                refine norm_ (a' := ?_) ?_ ?_
                rotate_left
                ·simp only [putAll, Act.put, List.setIfInBounds_toArray, List.set_cons_zero, List.set_cons_succ]
                 rfl
                refine two_ (i := 9) (j := 15) (Ni := some 31) (Nj := some 7) #[true, true, true, true, true, true, true, true, true, true, true, true, true, false, false, false, false] #[true, true, true, true, true, true, true, true, true, false, true, true, true, false, false, true, false] rfl rfl rfl rfl (two_of HT_.out (by kernel_rfl)) (by decide) (by decide) (fun K hK => ?_) (fun K hK => ?_)
                ·skip
                 refine Kd.R_append_rows_step (Kd.int .u8) (w0 := w) w.heap.size (by rfl) (.tmp 26) (.tmp 30) 22 5 (.int .u8 0) 1 rfl Try.underlying22 info5 rfl (by decide) (by omega) v304 y303 (l0_2.drop ((ji14) : Int).toNat) _ _ _ (fun _ => True) (fun _ => False) rfl rfl ?aO ?aR (fun _ _ h => h) (fun _ h => h.elim) ?aF ?aB ?aS ?aL ?_
                 (case aR => first | (refine len_ (show (l0_2.drop ((ji14) : Int).toNat).length = (l0_2.length - (ji14).toNat) from List.length_drop) ?_; repeat (first | exact (Kd.C_below HR306.out HB.out) | (with_reducible refine Kd.C_alloc ?_ _) | (with_reducible refine Kd.C_drewN ?_ _) | (with_reducible refine Kd.C_drew ?_)); done) | (repeat (first | exact (Kd.C_below HR306.out HB.out) | (with_reducible refine Kd.C_alloc ?_ _) | (with_reducible refine Kd.C_drewN ?_ _) | (with_reducible refine Kd.C_drew ?_))))
                 (case aB => exact (hbA_ HB.out))
                 (case aF => exact (fun _ _ => trivial))
                 (case aO => exact (kR_ HO305.out))
                 (case aS => exact (below_size (hbA_ HB.out)))
                 (case aL => have := LMc17.out; have hlx_ := (show (l0_2.drop ((ji14) : Int).toNat).length = (l0_2.length - (ji14).toNat) from List.length_drop); omega)
                 intro v308 w35 ho hb hg hat
                 rw [← Ny307.out] at ho
                 have n0_ := (bgA_ BK297 hg (Kd.R_ne HO305.out BK297.out (by decide))); have n1_ := (bgA_ BK298 hg (Kd.R_ne HO305.out BK298.out (by decide))); have n2_ := Aside0.mk (Kd.R_over' (kR_ HO312.out) (Kd.R_typed (kR_ HO305.out)) (by decide) hg); have n3_ := Aside0.mk (hb); have n4_ := Aside0.mk (ho); clear BK297 BK298 HO312 HB HO305; have BK297 := n0_; have BK298 := n1_; have HO312 := n2_; have HB := n3_; have HO309 := n4_; clear n0_ n1_ n2_ n3_ n4_ ho hb hg hat
                 refine hK.out _ _ (cz4 BK297.out) (fun hHeld => ?_)
                 clear hK K; refine nm_ 31 ?_
                 exact norm_ (by first | (simp only [putAll, Act.put, List.setIfInBounds_toArray, List.set_cons_zero, List.set_cons_succ]; done) | (simp only [putAll, Act.put, List.setIfInBounds_toArray, List.set_cons_zero, List.set_cons_succ]; rfl)) (hJ4_9_10 (v304, v308, v311) _ ⟨hHeld, (kR_ HO309.out), (kR_ HO312.out), (kb_ BK297.out), (kb_ BK298.out), (hbA_ HB.out)⟩)
                ·skip
                 refine box_step ?hg (N := 7) ?hd (cs := #[.int .i64 0, .int .i64 0, .slice none 0 0, .slice none 0 0]) (t := 29) ?hr ?_; (case hd => rfl); (case hg => rfl); (case hr => first | (go_simp; done) | (go_simp; rfl))
                 intro gb316 hg w35 hbox hb
                 have n0_ := Aside0.mk (Kd.R_below (kR_ HO305.out) hb); have n1_ := Aside0.mk (Kd.R_below (kR_ HO312.out) hb); have n2_ := (bbA_ BK297 hb); have n3_ := (bbA_ BK298 hb); have n4_ := (bs_ HB hb); have n5_ := Aside0.mk (hbox); have n6_ := ge_ hg HB; have n7_ := ge_ hg HB; have n8_ := nl_ hg BK297; have n9_ := ng_ hg BK297; have n10_ := nl_ hg BK298; have n11_ := ng_ hg BK298; clear HO305 HO312 BK297 BK298 HB; have HO305 := n0_; have HO312 := n1_; have BK297 := n2_; have BK298 := n3_; have HB := n4_; have BK316 := n5_; have GW316 := n6_; have GE316 := n7_; have NB297_316 := n8_; have NB316_297 := n9_; have NB298_316 := n10_; have NB316_298 := n11_; clear n0_ n1_ n2_ n3_ n4_ n5_ n6_ n7_ n8_ n9_ n10_ n11_ hb hbox hg
                 refine hK.out _ _ (cz4 BK297.out) (fun hHeld => ?_)
                 clear hK K; refine nm_ 7 ?_
                 exact norm_ (by first | (simp only [putAll, Act.put, List.setIfInBounds_toArray, List.set_cons_zero, List.set_cons_succ]; done) | (simp only [putAll, Act.put, List.setIfInBounds_toArray, List.set_cons_zero, List.set_cons_succ]; rfl)) (hJ4_10_15 (v304, v311, gb316) _ ⟨hHeld, (kR_ HO305.out), (kR_ HO312.out), (kb_ BK297.out), (kb_ BK298.out), (kb_ BK316.out), GW316.out, GE316.out, NB297_316.out, NB316_297.out, NB298_316.out, NB316_298.out, (hbA_ HB.out)⟩)
              ·skip
               rintro ⟨v304, v308⟩ w33 ⟨hS_, h0_, h1_, h2_, h3_⟩
               have n0_ : Aside0 (Kd.R (Kd.int .u8) 5 w33 w.heap.size (fun _ => True) v308 y307) := ⟨h0_⟩
               have n1_ : Aside0 (w33.heap[gb297]? = some (.cells #[.int .i64 a0_0, .int .i64 a0_1, .slice A0_2 l0_2.length c0_2, .slice A0_3 l0_3.length c0_3] 29 (0, 0))) := ⟨h1_⟩
               have n2_ : Aside0 (w33.heap[gb298]? = some (.cells #[.int .i64 0, .int .i64 0, .slice none 0 0, .slice none 0 0] 29 (0, 0))) := ⟨h2_⟩
               have n3_ : Aside0 (Below w.heap.size w w33) := ⟨h3_⟩
               clear BK297 BK298 HB h0_ h1_ h2_ h3_; have HO309 := n0_; have BK297 := n1_; have BK298 := n2_; have HB := n3_; clear n0_ n1_ n2_ n3_
               have hHeld : w33.cell? ⟨gb297, 0, none⟩ = some (.int .i64 a0_0) ∧ w33.cell? ⟨gb297, 1, none⟩ = some (.int .i64 a0_1) ∧ w33.cell? ⟨gb297, 2, none⟩ = some (.slice A0_2 l0_2.length c0_2) ∧ w33.cell? ⟨gb297, 3, none⟩ = some (.slice A0_3 l0_3.length c0_3) := hS_
               refine norm_ (a' := ?_) ?_ ?_
               rotate_left
               ·simp only [putAll, Act.put, List.setIfInBounds_toArray, List.set_cons_zero, List.set_cons_succ]
                rfl
               refine two_ (i := 10) (j := 15) (Ni := some 32) (Nj := some 7) #[true, true, true, true, true, true, true, true, true, true, true, true, true, false, false, false, false] #[true, true, true, true, true, true, true, true, true, true, false, true, true, false, false, true, false] rfl rfl rfl rfl (two_of HT_.out (by kernel_rfl)) (by decide) (by decide) (fun K hK => ?_) (fun K hK => ?_)
               ·skip
                refine Kd.R_lit_step k50 _ 50 ?hg (N := 32) ?hd (xs := ([] : List (S50))) (inner := []) (ok := fun _ => True) (okp := fun _ => True) ?hr ?hp (fun _ hk => hk) trivial (Below.refl _ _) (Nat.le_refl _) (by simp) ?_; (case hd => rfl); (case hg => rfl); (case hr => first | (go_simp; done) | (go_simp; rfl)); (case hp => exact (Reps.none _ _))
                intro v311 w34 ho35 hb hg_ hnew_
                clear hg_ hnew_
                (first | rw [← Ny310.out] at ho35 | (simp only [Int.reduceToNat] at ho35; rw [← Ny310.out] at ho35))
                have n0_ := Aside0.mk (Kd.R_below (kR_ HO309.out) hb); have n1_ := Aside0.mk (Kd.R_lower ho35 (below_size (hbA_ HB.out))); have n2_ := (bbA_ BK297 hb); have n3_ := (bbA_ BK298 hb); have n4_ := (bs_ HB hb); clear HO309 BK297 BK298 HB; have HO309 := n0_; have HO312 := n1_; have BK297 := n2_; have BK298 := n3_; have HB := n4_; clear n0_ n1_ n2_ n3_ n4_ hb ho35
                refine hK.out _ _ (cz4 BK297.out) (fun hHeld => ?_)
                clear hK K; refine nm_ 32 ?_
                exact norm_ (by first | (simp only [putAll, Act.put, List.setIfInBounds_toArray, List.set_cons_zero, List.set_cons_succ]; done) | (simp only [putAll, Act.put, List.setIfInBounds_toArray, List.set_cons_zero, List.set_cons_succ]; rfl)) (hJ4_9_10 (v304, v308, v311) _ ⟨hHeld, (kR_ HO309.out), (kR_ HO312.out), (kb_ BK297.out), (kb_ BK298.out), (hbA_ HB.out)⟩)
               ·skip
                refine box_step ?hg (N := 7) ?hd (cs := #[.int .i64 0, .int .i64 0, .slice none 0 0, .slice none 0 0]) (t := 29) ?hr ?_; (case hd => rfl); (case hg => rfl); (case hr => first | (go_simp; done) | (go_simp; rfl))
                intro gb316 hg w34 hbox hb
                have n0_ := Aside0.mk (Kd.R_below (kR_ HO309.out) hb); have n1_ := (bbA_ BK297 hb); have n2_ := (bbA_ BK298 hb); have n3_ := (bs_ HB hb); have n4_ := Aside0.mk (hbox); have n5_ := ge_ hg HB; have n6_ := ge_ hg HB; have n7_ := nl_ hg BK297; have n8_ := ng_ hg BK297; have n9_ := nl_ hg BK298; have n10_ := ng_ hg BK298; clear HO309 BK297 BK298 HB; have HO309 := n0_; have BK297 := n1_; have BK298 := n2_; have HB := n3_; have BK316 := n4_; have GW316 := n5_; have GE316 := n6_; have NB297_316 := n7_; have NB316_297 := n8_; have NB298_316 := n9_; have NB316_298 := n10_; clear n0_ n1_ n2_ n3_ n4_ n5_ n6_ n7_ n8_ n9_ n10_ hb hbox hg
                refine hK.out _ _ (cz4 BK297.out) (fun hHeld => ?_)
                clear hK K; refine nm_ 7 ?_
                exact norm_ (by first | (simp only [putAll, Act.put, List.setIfInBounds_toArray, List.set_cons_zero, List.set_cons_succ]; done) | (simp only [putAll, Act.put, List.setIfInBounds_toArray, List.set_cons_zero, List.set_cons_succ]; rfl)) (hJ4_9_15 (v304, v308, gb316) _ ⟨hHeld, (kR_ HO309.out), (kb_ BK297.out), (kb_ BK298.out), (kb_ BK316.out), GW316.out, GE316.out, NB297_316.out, NB316_297.out, NB298_316.out, NB316_298.out, (hbA_ HB.out)⟩)
             ·skip
              rintro ⟨v304, v311, gb316⟩ w35 ⟨hS_, h0_, h1_, h2_, h3_, h4_, h5_, h6_, h7_, h8_, h9_, h10_, h11_⟩
              have n0_ : Aside0 (Kd.R (Kd.int .u8) 5 w35 w.heap.size (fun _ => True) v304 y303) := ⟨h0_⟩
              have n1_ : Aside0 (Kd.R k50 50 w35 w.heap.size (fun _ => True) v311 y310) := ⟨h1_⟩
              have n2_ : Aside0 (w35.heap[gb297]? = some (.cells #[.int .i64 a0_0, .int .i64 a0_1, .slice A0_2 l0_2.length c0_2, .slice A0_3 l0_3.length c0_3] 29 (0, 0))) := ⟨h2_⟩
              have n3_ : Aside0 (w35.heap[gb298]? = some (.cells #[.int .i64 0, .int .i64 0, .slice none 0 0, .slice none 0 0] 29 (0, 0))) := ⟨h3_⟩
              have n4_ : Aside0 (w35.heap[gb316]? = some (.cells #[.int .i64 0, .int .i64 0, .slice none 0 0, .slice none 0 0] 29 (0, 0))) := ⟨h4_⟩
              have n5_ : Aside0 (w.heap.size ≤ gb316) := ⟨h5_⟩
              have n6_ : Aside0 (w.heap.size ≤ gb316) := ⟨h6_⟩
              have n7_ : Aside0 (gb297 ≠ gb316) := ⟨h7_⟩
              have n8_ : Aside0 (gb316 ≠ gb297) := ⟨h8_⟩
              have n9_ : Aside0 (gb298 ≠ gb316) := ⟨h9_⟩
              have n10_ : Aside0 (gb316 ≠ gb298) := ⟨h10_⟩
              have n11_ : Aside0 (Below w.heap.size w w35) := ⟨h11_⟩
              clear BK297 BK298 HB h0_ h1_ h2_ h3_ h4_ h5_ h6_ h7_ h8_ h9_ h10_ h11_; have HO305 := n0_; have HO312 := n1_; have BK297 := n2_; have BK298 := n3_; have BK316 := n4_; have GW316 := n5_; have GE316 := n6_; have NB297_316 := n7_; have NB316_297 := n8_; have NB298_316 := n9_; have NB316_298 := n10_; have HB := n11_; clear n0_ n1_ n2_ n3_ n4_ n5_ n6_ n7_ n8_ n9_ n10_ n11_
              have hHeld : w35.cell? ⟨gb297, 0, none⟩ = some (.int .i64 a0_0) ∧ w35.cell? ⟨gb297, 1, none⟩ = some (.int .i64 a0_1) ∧ w35.cell? ⟨gb297, 2, none⟩ = some (.slice A0_2 l0_2.length c0_2) ∧ w35.cell? ⟨gb297, 3, none⟩ = some (.slice A0_3 l0_3.length c0_3) := hS_
              refine norm_ (a' := ?_) ?_ ?_
              rotate_left
              ·simp only [putAll, Act.put, List.setIfInBounds_toArray, List.set_cons_zero, List.set_cons_succ]
               rfl
              refine on_ (i := 9) (N := some 31) HT_ (fun K hK => ?_)
              refine Kd.R_append_rows_step (Kd.int .u8) (w0 := w) w.heap.size (by rfl) (.tmp 26) (.tmp 30) 22 5 (.int .u8 0) 1 rfl Try.underlying22 info5 rfl (by decide) (by omega) v304 y303 (l0_2.drop ((ji14) : Int).toNat) _ _ _ (fun _ => True) (fun _ => False) rfl rfl ?aO ?aR (fun _ _ h => h) (fun _ h => h.elim) ?aF ?aB ?aS ?aL ?_
              (case aR => first | (refine len_ (show (l0_2.drop ((ji14) : Int).toNat).length = (l0_2.length - (ji14).toNat) from List.length_drop) ?_; repeat (first | exact (Kd.C_below HR306.out HB.out) | (with_reducible refine Kd.C_alloc ?_ _) | (with_reducible refine Kd.C_drewN ?_ _) | (with_reducible refine Kd.C_drew ?_)); done) | (repeat (first | exact (Kd.C_below HR306.out HB.out) | (with_reducible refine Kd.C_alloc ?_ _) | (with_reducible refine Kd.C_drewN ?_ _) | (with_reducible refine Kd.C_drew ?_))))
              (case aB => exact (hbA_ HB.out))
              (case aF => exact (fun _ _ => trivial))
              (case aO => exact (kR_ HO305.out))
              (case aS => exact (below_size (hbA_ HB.out)))
              (case aL => have := LMc17.out; have hlx_ := (show (l0_2.drop ((ji14) : Int).toNat).length = (l0_2.length - (ji14).toNat) from List.length_drop); omega)
              intro v308 w36 ho hb hg hat
              rw [← Ny307.out] at ho
              have n0_ := (bgA_ BK297 hg (Kd.R_ne HO305.out BK297.out (by decide))); have n1_ := (bgA_ BK298 hg (Kd.R_ne HO305.out BK298.out (by decide))); have n2_ := Aside0.mk (Kd.R_over' (kR_ HO312.out) (Kd.R_typed (kR_ HO305.out)) (by decide) hg); have n3_ := (bgA_ BK316 hg (Kd.R_ne HO305.out BK316.out (by decide))); have n4_ := Aside0.mk (hb); have n5_ := Aside0.mk (ho); clear BK297 BK298 HO312 BK316 HB HO305; have BK297 := n0_; have BK298 := n1_; have HO312 := n2_; have BK316 := n3_; have HB := n4_; have HO309 := n5_; clear n0_ n1_ n2_ n3_ n4_ n5_ ho hb hg hat
              refine hK.out _ _ (cz4 BK297.out) (fun hHeld => ?_)
              clear hK K; refine nm_ 31 ?_
              exact norm_ (by first | (simp only [putAll, Act.put, List.setIfInBounds_toArray, List.set_cons_zero, List.set_cons_succ]; done) | (simp only [putAll, Act.put, List.setIfInBounds_toArray, List.set_cons_zero, List.set_cons_succ]; rfl)) (hJ4_9_10_15 (v304, v308, v311, gb316) _ ⟨hHeld, (kR_ HO309.out), (kR_ HO312.out), (kb_ BK297.out), (kb_ BK298.out), (kb_ BK316.out), GW316.out, GE316.out, NB297_316.out, NB316_297.out, NB298_316.out, NB316_298.out, (hbA_ HB.out)⟩)
            ·skip
             rintro ⟨v304, v308, gb316⟩ w34 ⟨hS_, h0_, h1_, h2_, h3_, h4_, h5_, h6_, h7_, h8_, h9_, h10_⟩
             have n0_ : Aside0 (Kd.R (Kd.int .u8) 5 w34 w.heap.size (fun _ => True) v308 y307) := ⟨h0_⟩
             have n1_ : Aside0 (w34.heap[gb297]? = some (.cells #[.int .i64 a0_0, .int .i64 a0_1, .slice A0_2 l0_2.length c0_2, .slice A0_3 l0_3.length c0_3] 29 (0, 0))) := ⟨h1_⟩
             have n2_ : Aside0 (w34.heap[gb298]? = some (.cells #[.int .i64 0, .int .i64 0, .slice none 0 0, .slice none 0 0] 29 (0, 0))) := ⟨h2_⟩
             have n3_ : Aside0 (w34.heap[gb316]? = some (.cells #[.int .i64 0, .int .i64 0, .slice none 0 0, .slice none 0 0] 29 (0, 0))) := ⟨h3_⟩
             have n4_ : Aside0 (w.heap.size ≤ gb316) := ⟨h4_⟩
             have n5_ : Aside0 (w.heap.size ≤ gb316) := ⟨h5_⟩
             have n6_ : Aside0 (gb297 ≠ gb316) := ⟨h6_⟩
             have n7_ : Aside0 (gb316 ≠ gb297) := ⟨h7_⟩
             have n8_ : Aside0 (gb298 ≠ gb316) := ⟨h8_⟩
             have n9_ : Aside0 (gb316 ≠ gb298) := ⟨h9_⟩
             have n10_ : Aside0 (Below w.heap.size w w34) := ⟨h10_⟩
             clear BK297 BK298 HB h0_ h1_ h2_ h3_ h4_ h5_ h6_ h7_ h8_ h9_ h10_; have HO309 := n0_; have BK297 := n1_; have BK298 := n2_; have BK316 := n3_; have GW316 := n4_; have GE316 := n5_; have NB297_316 := n6_; have NB316_297 := n7_; have NB298_316 := n8_; have NB316_298 := n9_; have HB := n10_; clear n0_ n1_ n2_ n3_ n4_ n5_ n6_ n7_ n8_ n9_ n10_
             have hHeld : w34.cell? ⟨gb297, 0, none⟩ = some (.int .i64 a0_0) ∧ w34.cell? ⟨gb297, 1, none⟩ = some (.int .i64 a0_1) ∧ w34.cell? ⟨gb297, 2, none⟩ = some (.slice A0_2 l0_2.length c0_2) ∧ w34.cell? ⟨gb297, 3, none⟩ = some (.slice A0_3 l0_3.length c0_3) := hS_
             refine norm_ (a' := ?_) ?_ ?_
             rotate_left
             ·simp only [putAll, Act.put, List.setIfInBounds_toArray, List.set_cons_zero, List.set_cons_succ]
              rfl
             refine on_ (i := 10) (N := some 32) HT_ (fun K hK => ?_)
             refine Kd.R_lit_step k50 _ 50 ?hg (N := 32) ?hd (xs := ([] : List (S50))) (inner := []) (ok := fun _ => True) (okp := fun _ => True) ?hr ?hp (fun _ hk => hk) trivial (Below.refl _ _) (Nat.le_refl _) (by simp) ?_; (case hd => rfl); (case hg => rfl); (case hr => first | (go_simp; done) | (go_simp; rfl)); (case hp => exact (Reps.none _ _))
             intro v311 w35 ho36 hb hg_ hnew_
             clear hg_ hnew_
             (first | rw [← Ny310.out] at ho36 | (simp only [Int.reduceToNat] at ho36; rw [← Ny310.out] at ho36))
             have n0_ := Aside0.mk (Kd.R_below (kR_ HO309.out) hb); have n1_ := Aside0.mk (Kd.R_lower ho36 (below_size (hbA_ HB.out))); have n2_ := (bbA_ BK297 hb); have n3_ := (bbA_ BK298 hb); have n4_ := (bbA_ BK316 hb); have n5_ := (bs_ HB hb); clear HO309 BK297 BK298 BK316 HB; have HO309 := n0_; have HO312 := n1_; have BK297 := n2_; have BK298 := n3_; have BK316 := n4_; have HB := n5_; clear n0_ n1_ n2_ n3_ n4_ n5_ hb ho36
             refine hK.out _ _ (cz4 BK297.out) (fun hHeld => ?_)
             clear hK K; refine nm_ 32 ?_
             exact norm_ (by first | (simp only [putAll, Act.put, List.setIfInBounds_toArray, List.set_cons_zero, List.set_cons_succ]; done) | (simp only [putAll, Act.put, List.setIfInBounds_toArray, List.set_cons_zero, List.set_cons_succ]; rfl)) (hJ4_9_10_15 (v304, v308, v311, gb316) _ ⟨hHeld, (kR_ HO309.out), (kR_ HO312.out), (kb_ BK297.out), (kb_ BK298.out), (kb_ BK316.out), GW316.out, GE316.out, NB297_316.out, NB316_297.out, NB298_316.out, NB316_298.out, (hbA_ HB.out)⟩)
           ·skip
            rintro ⟨v304, v308, v311⟩ w35 ⟨hS_, h0_, h1_, h2_, h3_, h4_⟩
            have n0_ : Aside0 (Kd.R (Kd.int .u8) 5 w35 w.heap.size (fun _ => True) v308 y307) := ⟨h0_⟩
            have n1_ : Aside0 (Kd.R k50 50 w35 w.heap.size (fun _ => True) v311 y310) := ⟨h1_⟩
            have n2_ : Aside0 (w35.heap[gb297]? = some (.cells #[.int .i64 a0_0, .int .i64 a0_1, .slice A0_2 l0_2.length c0_2, .slice A0_3 l0_3.length c0_3] 29 (0, 0))) := ⟨h2_⟩
            have n3_ : Aside0 (w35.heap[gb298]? = some (.cells #[.int .i64 0, .int .i64 0, .slice none 0 0, .slice none 0 0] 29 (0, 0))) := ⟨h3_⟩
            have n4_ : Aside0 (Below w.heap.size w w35) := ⟨h4_⟩
            clear BK297 BK298 HB h0_ h1_ h2_ h3_ h4_; have HO309 := n0_; have HO312 := n1_; have BK297 := n2_; have BK298 := n3_; have HB := n4_; clear n0_ n1_ n2_ n3_ n4_
            have hHeld : w35.cell? ⟨gb297, 0, none⟩ = some (.int .i64 a0_0) ∧ w35.cell? ⟨gb297, 1, none⟩ = some (.int .i64 a0_1) ∧ w35.cell? ⟨gb297, 2, none⟩ = some (.slice A0_2 l0_2.length c0_2) ∧ w35.cell? ⟨gb297, 3, none⟩ = some (.slice A0_3 l0_3.length c0_3) := hS_
            refine norm_ (a' := ?_) ?_ ?_
            rotate_left
            ·simp only [putAll, Act.put, List.setIfInBounds_toArray, List.set_cons_zero, List.set_cons_succ]
             rfl
            refine two_ (i := 13) (j := 15) (Ni := some 35) (Nj := some 7) #[true, true, true, true, true, true, true, true, true, true, true, true, true, true, false, false, false] #[true, true, true, true, true, true, true, true, true, true, true, true, true, false, false, true, false] rfl rfl rfl rfl (two_of HT_.out (by kernel_rfl)) (by decide) (by decide) (fun K hK => ?_) (fun K hK => ?_)
            ·skip
             refine Kd.R_append_rows_step k50 (w0 := w) w.heap.size (by rfl) (.tmp 32) (.tmp 34) 27 50 (.agg #[(.int .i64 0), (.int .u8 0)]) 16 rfl Try.underlying27 info50 rfl (by decide) (by omega) v311 y310 l0_3 _ _ _ (fun _ => True) (fun _ => False) rfl rfl ?aO ?aR (fun _ _ h => h) (fun _ h => h.elim) ?aF ?aB ?aS ?aL ?_
             (case aR => exact kC_ (Kd.C_below HR0_3.out HB.out))
             (case aB => exact (hbA_ HB.out))
             (case aF => exact (fun _ _ => trivial))
             (case aO => exact (kR_ HO312.out))
             (case aS => exact (below_size (hbA_ HB.out)))
             (case aL => have := LMc18.out; omega)
             intro v314 w36 ho hb hg hat
             rw [← Ny313.out] at ho
             have n0_ := (bgA_ BK297 hg (Kd.R_ne HO312.out BK297.out (by decide))); have n1_ := (bgA_ BK298 hg (Kd.R_ne HO312.out BK298.out (by decide))); have n2_ := Aside0.mk (Kd.R_over' (kR_ HO309.out) (Kd.R_typed (kR_ HO312.out)) (by decide) hg); have n3_ := Aside0.mk (hb); have n4_ := Aside0.mk (ho); clear BK297 BK298 HO309 HB HO312; have BK297 := n0_; have BK298 := n1_; have HO309 := n2_; have HB := n3_; have HO315 := n4_; clear n0_ n1_ n2_ n3_ n4_ ho hb hg hat
             obtain ⟨Ao37, co37, eo37⟩ := Kd.R_slice HO315.out
             (first | subst eo37 | (injection eo37 with f1_ f2_ f3_; have f4_ := f1_.symm; have f5_ := f3_.symm; clear f1_ f2_ f3_; subst f4_; subst f5_))
             obtain ⟨Ao38, co38, eo38⟩ := Kd.R_slice HO309.out
             (first | subst eo38 | (injection eo38 with f1_ f2_ f3_; have f4_ := f1_.symm; have f5_ := f3_.symm; clear f1_ f2_ f3_; subst f4_; subst f5_))
             refine hK.out _ _ (cz4 BK297.out) (fun hHeld => ?_)
             clear hK K; refine nm_ 35 ?_; refine pu_ (i := 14) (N := some 36) HT_ ?_
             exact norm_ (by first | (simp only [putAll, Act.put, List.setIfInBounds_toArray, List.set_cons_zero, List.set_cons_succ]; done) | (simp only [putAll, Act.put, List.setIfInBounds_toArray, List.set_cons_zero, List.set_cons_succ]; rfl)) (hJ4_9_10_13 (v304, .slice Ao38 y307.length co38, v311, .slice Ao37 y313.length co37) _ ⟨hHeld, (kR_ HO309.out), (kR_ HO315.out), (kb_ BK297.out), (kb_ BK298.out), (hbA_ HB.out)⟩)
            ·skip
             refine box_step ?hg (N := 7) ?hd (cs := #[.int .i64 0, .int .i64 0, .slice none 0 0, .slice none 0 0]) (t := 29) ?hr ?_; (case hd => rfl); (case hg => rfl); (case hr => first | (go_simp; done) | (go_simp; rfl))
             intro gb316 hg w36 hbox hb
             have n0_ := Aside0.mk (Kd.R_below (kR_ HO309.out) hb); have n1_ := Aside0.mk (Kd.R_below (kR_ HO312.out) hb); have n2_ := (bbA_ BK297 hb); have n3_ := (bbA_ BK298 hb); have n4_ := (bs_ HB hb); have n5_ := Aside0.mk (hbox); have n6_ := ge_ hg HB; have n7_ := ge_ hg HB; have n8_ := nl_ hg BK297; have n9_ := ng_ hg BK297; have n10_ := nl_ hg BK298; have n11_ := ng_ hg BK298; clear HO309 HO312 BK297 BK298 HB; have HO309 := n0_; have HO312 := n1_; have BK297 := n2_; have BK298 := n3_; have HB := n4_; have BK316 := n5_; have GW316 := n6_; have GE316 := n7_; have NB297_316 := n8_; have NB316_297 := n9_; have NB298_316 := n10_; have NB316_298 := n11_; clear n0_ n1_ n2_ n3_ n4_ n5_ n6_ n7_ n8_ n9_ n10_ n11_ hb hbox hg
             refine hK.out _ _ (cz4 BK297.out) (fun hHeld => ?_)
             clear hK K; refine nm_ 7 ?_
             exact norm_ (by first | (simp only [putAll, Act.put, List.setIfInBounds_toArray, List.set_cons_zero, List.set_cons_succ]; done) | (simp only [putAll, Act.put, List.setIfInBounds_toArray, List.set_cons_zero, List.set_cons_succ]; rfl)) (hJ4_9_10_15 (v304, v308, v311, gb316) _ ⟨hHeld, (kR_ HO309.out), (kR_ HO312.out), (kb_ BK297.out), (kb_ BK298.out), (kb_ BK316.out), GW316.out, GE316.out, NB297_316.out, NB316_297.out, NB298_316.out, NB316_298.out, (hbA_ HB.out)⟩)
          ·skip
           rintro ⟨v304, v308, v311, gb316⟩ w36 ⟨hS_, h0_, h1_, h2_, h3_, h4_, h5_, h6_, h7_, h8_, h9_, h10_, h11_⟩
           have n0_ : Aside0 (Kd.R (Kd.int .u8) 5 w36 w.heap.size (fun _ => True) v308 y307) := ⟨h0_⟩
           have n1_ : Aside0 (Kd.R k50 50 w36 w.heap.size (fun _ => True) v311 y310) := ⟨h1_⟩
           have n2_ : Aside0 (w36.heap[gb297]? = some (.cells #[.int .i64 a0_0, .int .i64 a0_1, .slice A0_2 l0_2.length c0_2, .slice A0_3 l0_3.length c0_3] 29 (0, 0))) := ⟨h2_⟩
           have n3_ : Aside0 (w36.heap[gb298]? = some (.cells #[.int .i64 0, .int .i64 0, .slice none 0 0, .slice none 0 0] 29 (0, 0))) := ⟨h3_⟩
           have n4_ : Aside0 (w36.heap[gb316]? = some (.cells #[.int .i64 0, .int .i64 0, .slice none 0 0, .slice none 0 0] 29 (0, 0))) := ⟨h4_⟩
           have n5_ : Aside0 (w.heap.size ≤ gb316) := ⟨h5_⟩
           have n6_ : Aside0 (w.heap.size ≤ gb316) := ⟨h6_⟩
           have n7_ : Aside0 (gb297 ≠ gb316) := ⟨h7_⟩
           have n8_ : Aside0 (gb316 ≠ gb297) := ⟨h8_⟩
           have n9_ : Aside0 (gb298 ≠ gb316) := ⟨h9_⟩
           have n10_ : Aside0 (gb316 ≠ gb298) := ⟨h10_⟩
           have n11_ : Aside0 (Below w.heap.size w w36) := ⟨h11_⟩
           clear BK297 BK298 HB h0_ h1_ h2_ h3_ h4_ h5_ h6_ h7_ h8_ h9_ h10_ h11_; have HO309 := n0_; have HO312 := n1_; have BK297 := n2_; have BK298 := n3_; have BK316 := n4_; have GW316 := n5_; have GE316 := n6_; have NB297_316 := n7_; have NB316_297 := n8_; have NB298_316 := n9_; have NB316_298 := n10_; have HB := n11_; clear n0_ n1_ n2_ n3_ n4_ n5_ n6_ n7_ n8_ n9_ n10_ n11_
           have hHeld : w36.cell? ⟨gb297, 0, none⟩ = some (.int .i64 a0_0) ∧ w36.cell? ⟨gb297, 1, none⟩ = some (.int .i64 a0_1) ∧ w36.cell? ⟨gb297, 2, none⟩ = some (.slice A0_2 l0_2.length c0_2) ∧ w36.cell? ⟨gb297, 3, none⟩ = some (.slice A0_3 l0_3.length c0_3) := hS_
           refine norm_ (a' := ?_) ?_ ?_
           rotate_left
           ·simp only [putAll, Act.put, List.setIfInBounds_toArray, List.set_cons_zero, List.set_cons_succ]
            rfl
           refine on_ (i := 13) (N := some 35) HT_ (fun K hK => ?_)
           refine Kd.R_append_rows_step k50 (w0 := w) w.heap.size (by rfl) (.tmp 32) (.tmp 34) 27 50 (.agg #[(.int .i64 0), (.int .u8 0)]) 16 rfl Try.underlying27 info50 rfl (by decide) (by omega) v311 y310 l0_3 _ _ _ (fun _ => True) (fun _ => False) rfl rfl ?aO ?aR (fun _ _ h => h) (fun _ h => h.elim) ?aF ?aB ?aS ?aL ?_
           (case aR => exact kC_ (Kd.C_below HR0_3.out HB.out))
           (case aB => exact (hbA_ HB.out))
           (case aF => exact (fun _ _ => trivial))
           (case aO => exact (kR_ HO312.out))
           (case aS => exact (below_size (hbA_ HB.out)))
           (case aL => have := LMc18.out; omega)
           intro v314 w37 ho hb hg hat
           rw [← Ny313.out] at ho
           have n0_ := (bgA_ BK297 hg (Kd.R_ne HO312.out BK297.out (by decide))); have n1_ := (bgA_ BK298 hg (Kd.R_ne HO312.out BK298.out (by decide))); have n2_ := Aside0.mk (Kd.R_over' (kR_ HO309.out) (Kd.R_typed (kR_ HO312.out)) (by decide) hg); have n3_ := (bgA_ BK316 hg (Kd.R_ne HO312.out BK316.out (by decide))); have n4_ := Aside0.mk (hb); have n5_ := Aside0.mk (ho); clear BK297 BK298 HO309 BK316 HB HO312; have BK297 := n0_; have BK298 := n1_; have HO309 := n2_; have BK316 := n3_; have HB := n4_; have HO315 := n5_; clear n0_ n1_ n2_ n3_ n4_ n5_ ho hb hg hat
           obtain ⟨Ao38, co38, eo38⟩ := Kd.R_slice HO315.out
           (first | subst eo38 | (injection eo38 with f1_ f2_ f3_; have f4_ := f1_.symm; have f5_ := f3_.symm; clear f1_ f2_ f3_; subst f4_; subst f5_))
           obtain ⟨Ao39, co39, eo39⟩ := Kd.R_slice HO309.out
           (first | subst eo39 | (injection eo39 with f1_ f2_ f3_; have f4_ := f1_.symm; have f5_ := f3_.symm; clear f1_ f2_ f3_; subst f4_; subst f5_))
           refine hK.out _ _ (cz4 BK297.out) (fun hHeld => ?_)
           clear hK K; refine nm_ 35 ?_; refine pu_ (i := 14) (N := some 36) HT_ ?_
           exact norm_ (by first | (simp only [putAll, Act.put, List.setIfInBounds_toArray, List.set_cons_zero, List.set_cons_succ]; done) | (simp only [putAll, Act.put, List.setIfInBounds_toArray, List.set_cons_zero, List.set_cons_succ]; rfl)) (hJ4_9_10_13_15 (v304, .slice Ao39 y307.length co39, v311, .slice Ao38 y313.length co38, gb316) _ ⟨hHeld, (kR_ HO309.out), (kR_ HO315.out), (kb_ BK297.out), (kb_ BK298.out), (kb_ BK316.out), GW316.out, GE316.out, NB297_316.out, NB316_297.out, NB298_316.out, NB316_298.out, (hbA_ HB.out)⟩)
         ·skip
          rintro ⟨v304, v308, v311, v314⟩ w38 ⟨hS_, h0_, h1_, h2_, h3_, h4_⟩
          have n0_ : Aside0 (Kd.R (Kd.int .u8) 5 w38 w.heap.size (fun _ => True) v308 y307) := ⟨h0_⟩
          have n1_ : Aside0 (Kd.R k50 50 w38 w.heap.size (fun _ => True) v314 y313) := ⟨h1_⟩
          have n2_ : Aside0 (w38.heap[gb297]? = some (.cells #[.int .i64 a0_0, .int .i64 a0_1, .slice A0_2 l0_2.length c0_2, .slice A0_3 l0_3.length c0_3] 29 (0, 0))) := ⟨h2_⟩
          have n3_ : Aside0 (w38.heap[gb298]? = some (.cells #[.int .i64 0, .int .i64 0, .slice none 0 0, .slice none 0 0] 29 (0, 0))) := ⟨h3_⟩
          have n4_ : Aside0 (Below w.heap.size w w38) := ⟨h4_⟩
          clear BK297 BK298 HB h0_ h1_ h2_ h3_ h4_; have HO309 := n0_; have HO315 := n1_; have BK297 := n2_; have BK298 := n3_; have HB := n4_; clear n0_ n1_ n2_ n3_ n4_
          have hHeld : w38.cell? ⟨gb297, 0, none⟩ = some (.int .i64 a0_0) ∧ w38.cell? ⟨gb297, 1, none⟩ = some (.int .i64 a0_1) ∧ w38.cell? ⟨gb297, 2, none⟩ = some (.slice A0_2 l0_2.length c0_2) ∧ w38.cell? ⟨gb297, 3, none⟩ = some (.slice A0_3 l0_3.length c0_3) := hS_
          obtain ⟨Ao39, co39, eo39⟩ := Kd.R_slice HO315.out
          (first | subst eo39 | (injection eo39 with f1_ f2_ f3_; have f4_ := f1_.symm; have f5_ := f3_.symm; clear f1_ f2_ f3_; subst f4_; subst f5_))
          obtain ⟨Ao40, co40, eo40⟩ := Kd.R_slice HO309.out
          (first | subst eo40 | (injection eo40 with f1_ f2_ f3_; have f4_ := f1_.symm; have f5_ := f3_.symm; clear f1_ f2_ f3_; subst f4_; subst f5_))
          refine norm_ (a' := ?_) ?_ ?_
          rotate_left
          ·simp only [putAll, Act.put, List.setIfInBounds_toArray, List.set_cons_zero, List.set_cons_succ]
           rfl
          refine on_ (i := 15) (N := some 7) HT_ (fun K hK => ?_)
          refine box_step ?hg (N := 7) ?hd (cs := #[.int .i64 0, .int .i64 0, .slice none 0 0, .slice none 0 0]) (t := 29) ?hr ?_; (case hd => rfl); (case hg => rfl); (case hr => first | (go_simp; done) | (go_simp; rfl))
          intro gb316 hg w41 hbox hb
          have n0_ := Aside0.mk (Kd.R_below (kR_ HO309.out) hb); have n1_ := Aside0.mk (Kd.R_below (kR_ HO315.out) hb); have n2_ := (bbA_ BK297 hb); have n3_ := (bbA_ BK298 hb); have n4_ := (bs_ HB hb); have n5_ := Aside0.mk (hbox); have n6_ := ge_ hg HB; have n7_ := ge_ hg HB; have n8_ := nl_ hg BK297; have n9_ := ng_ hg BK297; have n10_ := nl_ hg BK298; have n11_ := ng_ hg BK298; clear HO309 HO315 BK297 BK298 HB; have HO309 := n0_; have HO315 := n1_; have BK297 := n2_; have BK298 := n3_; have HB := n4_; have BK316 := n5_; have GW316 := n6_; have GE316 := n7_; have NB297_316 := n8_; have NB316_297 := n9_; have NB298_316 := n10_; have NB316_298 := n11_; clear n0_ n1_ n2_ n3_ n4_ n5_ n6_ n7_ n8_ n9_ n10_ n11_ hb hbox hg
          refine hK.out _ _ (cz4 BK297.out) (fun hHeld => ?_)
          clear hK K; refine nm_ 7 ?_
          exact norm_ (by first | (simp only [putAll, Act.put, List.setIfInBounds_toArray, List.set_cons_zero, List.set_cons_succ]; done) | (simp only [putAll, Act.put, List.setIfInBounds_toArray, List.set_cons_zero, List.set_cons_succ]; rfl)) (hJ4_9_10_13_15 (v304, .slice Ao40 y307.length co40, v311, .slice Ao39 y313.length co39, gb316) _ ⟨hHeld, (kR_ HO309.out), (kR_ HO315.out), (kb_ BK297.out), (kb_ BK298.out), (kb_ BK316.out), GW316.out, GE316.out, NB297_316.out, NB316_297.out, NB298_316.out, NB316_298.out, (hbA_ HB.out)⟩)
        rintro ⟨v304, v308, v311, v314, gb316⟩ w39 ⟨hS_, h0_, h1_, h2_, h3_, h4_, h5_, h6_, h7_, h8_, h9_, h10_, h11_⟩
        have n0_ : Aside0 (Kd.R (Kd.int .u8) 5 w39 w.heap.size (fun _ => True) v308 y307) := ⟨h0_⟩
        have n1_ : Aside0 (Kd.R k50 50 w39 w.heap.size (fun _ => True) v314 y313) := ⟨h1_⟩
        have n2_ : Aside0 (w39.heap[gb297]? = some (.cells #[.int .i64 a0_0, .int .i64 a0_1, .slice A0_2 l0_2.length c0_2, .slice A0_3 l0_3.length c0_3] 29 (0, 0))) := ⟨h2_⟩
        have n3_ : Aside0 (w39.heap[gb298]? = some (.cells #[.int .i64 0, .int .i64 0, .slice none 0 0, .slice none 0 0] 29 (0, 0))) := ⟨h3_⟩
        have n4_ : Aside0 (w39.heap[gb316]? = some (.cells #[.int .i64 0, .int .i64 0, .slice none 0 0, .slice none 0 0] 29 (0, 0))) := ⟨h4_⟩
        have n5_ : Aside0 (w.heap.size ≤ gb316) := ⟨h5_⟩
        have n6_ : Aside0 (w.heap.size ≤ gb316) := ⟨h6_⟩
        have n7_ : Aside0 (gb297 ≠ gb316) := ⟨h7_⟩
        have n8_ : Aside0 (gb316 ≠ gb297) := ⟨h8_⟩
        have n9_ : Aside0 (gb298 ≠ gb316) := ⟨h9_⟩
        have n10_ : Aside0 (gb316 ≠ gb298) := ⟨h10_⟩
        have n11_ : Aside0 (Below w.heap.size w w39) := ⟨h11_⟩
        clear BK297 BK298 HB h0_ h1_ h2_ h3_ h4_ h5_ h6_ h7_ h8_ h9_ h10_ h11_; have HO309 := n0_; have HO315 := n1_; have BK297 := n2_; have BK298 := n3_; have BK316 := n4_; have GW316 := n5_; have GE316 := n6_; have NB297_316 := n7_; have NB316_297 := n8_; have NB298_316 := n9_; have NB316_298 := n10_; have HB := n11_; clear n0_ n1_ n2_ n3_ n4_ n5_ n6_ n7_ n8_ n9_ n10_ n11_
        have hHeld : w39.cell? ⟨gb297, 0, none⟩ = some (.int .i64 a0_0) ∧ w39.cell? ⟨gb297, 1, none⟩ = some (.int .i64 a0_1) ∧ w39.cell? ⟨gb297, 2, none⟩ = some (.slice A0_2 l0_2.length c0_2) ∧ w39.cell? ⟨gb297, 3, none⟩ = some (.slice A0_3 l0_3.length c0_3) := hS_
        obtain ⟨Ao40, co40, eo40⟩ := Kd.R_slice HO315.out
        (first | subst eo40 | (injection eo40 with f1_ f2_ f3_; have f4_ := f1_.symm; have f5_ := f3_.symm; clear f1_ f2_ f3_; subst f4_; subst f5_))
        obtain ⟨Ao41, co41, eo41⟩ := Kd.R_slice HO309.out
        (first | subst eo41 | (injection eo41 with f1_ f2_ f3_; have f4_ := f1_.symm; have f5_ := f3_.symm; clear f1_ f2_ f3_; subst f4_; subst f5_))
        refine norm_ (a' := ?_) ?_ ?_
        rotate_left
        ·simp only [putAll, Act.put, List.setIfInBounds_toArray, List.set_cons_zero, List.set_cons_succ]
         rfl
        refine on_ (i := 16) (N := none) HT_ (fun K hK => ?_)
        have hs42 : w39.cell? ⟨gb316, 0, none⟩ = some (.int .i64 0) := bc_ BK316 0
        have hfs42 := blk_frozen BK316.out 0
        have hns42_0 := NB297_316.out; have hns42_1 := NB298_316.out; have hms42_0 := NB316_297.out; have hms42_1 := NB316_298.out
        have hs43 : w39.cell? ⟨gb316, 1, none⟩ = some (.int .i64 0) := bc_ BK316 1
        have hfs43 := blk_frozen BK316.out 1
        have hns43_0 := NB297_316.out; have hns43_1 := NB298_316.out; have hms43_0 := NB316_297.out; have hms43_1 := NB316_298.out
        have hs44 : w39.cell? ⟨gb316, 2, none⟩ = some (.slice none 0 0) := bc_ BK316 2
        have hfs44 := blk_frozen BK316.out 2
        have hns44_0 := NB297_316.out; have hns44_1 := NB298_316.out; have hms44_0 := NB316_297.out; have hms44_1 := NB316_298.out
        have hs45 : w39.cell? ⟨gb316, 3, none⟩ = some (.slice none 0 0) := bc_ BK316 3
        have hfs45 := blk_frozen BK316.out 3
        have hns45_0 := NB297_316.out; have hns45_1 := NB298_316.out; have hms45_0 := NB316_297.out; have hms45_1 := NB316_298.out
        refine skip_ (w1 := ?_) (by rfl) rfl ?_ ?_
        rotate_left
        ·go_simp
         rfl
        refine hK.out _ _ ⟨((cell_far (p := ⟨gb316, _, none⟩) NB297_316.out _).trans (((cell_far (p := ⟨gb316, _, none⟩) NB297_316.out _).trans (((cell_far (p := ⟨gb316, _, none⟩) NB297_316.out _).trans (((cell_far (p := ⟨gb316, _, none⟩) NB297_316.out _).trans (hHeld.1)))))))), ((cell_far (p := ⟨gb316, _, none⟩) NB297_316.out _).trans (((cell_far (p := ⟨gb316, _, none⟩) NB297_316.out _).trans (((cell_far (p := ⟨gb316, _, none⟩) NB297_316.out _).trans (((cell_far (p := ⟨gb316, _, none⟩) NB297_316.out _).trans (hHeld.2.1)))))))), ((cell_far (p := ⟨gb316, _, none⟩) NB297_316.out _).trans (((cell_far (p := ⟨gb316, _, none⟩) NB297_316.out _).trans (((cell_far (p := ⟨gb316, _, none⟩) NB297_316.out _).trans (((cell_far (p := ⟨gb316, _, none⟩) NB297_316.out _).trans (hHeld.2.2.1)))))))), ((cell_far (p := ⟨gb316, _, none⟩) NB297_316.out _).trans (((cell_far (p := ⟨gb316, _, none⟩) NB297_316.out _).trans (((cell_far (p := ⟨gb316, _, none⟩) NB297_316.out _).trans (((cell_far (p := ⟨gb316, _, none⟩) NB297_316.out _).trans (hHeld.2.2.2))))))))⟩ (fun hHeld => ?_)
        clear hK K
        refine done_ (done_of HT_.out (by kernel_rfl)) ?_
        try go_wp2
        obtain ⟨w46, h_w46⟩ : ∃ w_, ((((w39.setCell ⟨gb316, 0, none⟩ (.int .i64 a0_0)).setCell ⟨gb316, 1, none⟩ (.int .i64 a0_1)).setCell ⟨gb316, 2, none⟩ (.slice Ao41 y307.length co41)).setCell ⟨gb316, 3, none⟩ (.slice Ao40 y313.length co40)) = w_ := ⟨_, rfl⟩
        have n0_ : Aside0 (Kd.R (Kd.int .u8) 5 w46 w.heap.size (fun _ => True) (.slice Ao41 y307.length co41) y307) := ⟨by subst h_w46; refine kR_ ?_; exact rfm_ ((Kd.R_types HO309.out BK316.out (by decide))) (fun _ hk => trivial)⟩
        have n1_ : Aside0 (Kd.R k50 50 w46 w.heap.size (fun _ => True) (.slice Ao40 y313.length co40) y313) := ⟨by subst h_w46; refine kR_ ?_; exact rfm_ ((Kd.R_types HO315.out BK316.out (by decide))) (fun _ hk => trivial)⟩
        have n2_ : Aside0 (w46.heap[gb297]? = some (.cells #[.int .i64 a0_0, .int .i64 a0_1, .slice A0_2 l0_2.length c0_2, .slice A0_3 l0_3.length c0_3] 29 (0, 0))) := ⟨by subst h_w46; exact kf_ BK297.out⟩
        have n3_ : Aside0 (w46.heap[gb298]? = some (.cells #[.int .i64 0, .int .i64 0, .slice none 0 0, .slice none 0 0] 29 (0, 0))) := ⟨by subst h_w46; exact kf_ BK298.out⟩
        have n4_ : Aside0 (w46.heap[gb316]? = some (.cells #[.int .i64 a0_0, .int .i64 a0_1, .slice Ao41 y307.length co41, .slice Ao40 y313.length co40] 29 (0, 0))) := ⟨by subst h_w46; refine kb_ ?_; refine pz4 (cs := #[.int .i64 0, .int .i64 0, .slice none 0 0, .slice none 0 0]) ?_; refine kb_ ?_; exact BK316.out⟩
        have n5_ : Aside0 (Below w.heap.size w w46) := ⟨by subst h_w46; exact hbA_ HB.out⟩
        (try clear HO309); (try clear HO315); (try clear BK297); (try clear BK298); (try clear BK316); (try clear HB)
        (try rw [h_w46]); clear h_w46
        have HO309 := n0_; have HO315 := n1_; have BK297 := n2_; have BK298 := n3_; have BK316 := n4_; have HB := n5_; clear n0_ n1_ n2_ n3_ n4_ n5_; replace HO309 := Aside0.mk (Kd.R_drew HO309.out); replace HO315 := Aside0.mk (Kd.R_drew HO315.out); replace BK297 := Aside0.mk (blk_drew BK297.out); replace BK298 := Aside0.mk (blk_drew BK298.out); replace BK316 := Aside0.mk (blk_drew BK316.out); replace HB := (bd_ HB)
        obtain ⟨i048, hi048, _, hsz48, _⟩ := info_parts info5
        obtain ⟨hcut48, hA48, hC48⟩ := print_take_of (P := Try.prog) (Value.int .u8) 0 22 5 .i64 Try.underlying22 hi048 hsz48 A0_2 c0_2 l0_2 (ji14) (of_decide_eq_true (by first | (with_reducible assumption) | assumption)) (of_decide_eq_true (by first | (with_reducible assumption) | assumption)) HC0_2.out
        have HR320 := Aside0.mk (Kd.C_of_reads (h1 := fun _ => rfl) (hA48 _ (Kd.reads_of_C HR0_2.out)))
        have HC320 := Aside0.mk hC48; clear hA48 hC48 hi048 hsz48
        refine start_ (n := 9) (S := fun w' => w'.cell? ⟨gb316, 0, none⟩ = some (.int .i64 a0_0) ∧ w'.cell? ⟨gb316, 1, none⟩ = some (.int .i64 a0_1) ∧ w'.cell? ⟨gb316, 2, none⟩ = some (.slice Ao41 y307.length co41) ∧ w'.cell? ⟨gb316, 3, none⟩ = some (.slice Ao40 y313.length co40) ∧ w'.cell? ⟨gb297, 0, none⟩ = some (.int .i64 a0_0) ∧ w'.cell? ⟨gb297, 1, none⟩ = some (.int .i64 a0_1) ∧ w'.cell? ⟨gb297, 2, none⟩ = some (.slice A0_2 l0_2.length c0_2) ∧ w'.cell? ⟨gb297, 3, none⟩ = some (.slice A0_3 l0_3.length c0_3)) (ds := []) #[false, false, false, false, false, false, false, false, false] (by kernel_rfl) rfl rfl ⟨bc_ BK316 0, bc_ BK316 1, bc_ BK316 2, bc_ BK316 3, bc_ BK297 0, bc_ BK297 1, bc_ BK297 2, bc_ BK297 3⟩ (fun hHeld => ?_); refine with_tabW spec_EarRead.tab5 spec_EarRead.bits5 (fun HT_ HW_ => ?_)
        generalize w46.drew = w47 at HO309 HO315 BK297 BK298 BK316 HB HR320 hHeld ⊢
        refine pu_ (i := 2) (N := some 39) HT_ ?_; refine pu_ (i := 4) (N := some 41) HT_ ?_; refine tk_ (i := 0) (N := some 37) HT_ HW_ hHeld ?_; refine tk_ (i := 3) (N := some 40) HT_ HW_ hHeld ?_; refine pu_ (i := 5) (N := some 42) HT_ ?_
        refine on_ (i := 1) (N := some 38) HT_ (fun K hK => ?_)
        refine Kd.R_lit_step (Kd.int .u8) _ 5 ?hg (N := 38) ?hd (xs := ([] : List Int)) (inner := []) (ok := fun _ => True) (okp := fun _ => True) ?hr ?hp (fun _ hk => hk) trivial (Below.refl _ _) (Nat.le_refl _) (by simp) ?_; (case hd => rfl); (case hg => rfl); (case hr => first | (go_simp; done) | (go_simp; rfl)); (case hp => exact (Reps.none _ _))
        intro v318 w49 ho50 hb hg_ hnew_
        clear hg_ hnew_
        (first | rw [← Ny317.out] at ho50 | (simp only [Int.reduceToNat] at ho50; rw [← Ny317.out] at ho50))
        have n0_ := Aside0.mk (Kd.R_elder' (kR_ HO309.out) (Kd.R_base ho50) hb); have n1_ := Aside0.mk (Kd.R_below (kR_ HO315.out) hb); have n2_ := Aside0.mk (Kd.R_lower (Kd.R_new' ho50 (Kd.R_lt (kR_ HO309.out))) (below_size (hbA_ HB.out))); have n3_ := (bbA_ BK297 hb); have n4_ := (bbA_ BK298 hb); have n5_ := (bbA_ BK316 hb); have n6_ := (bs_ HB hb); clear HO309 HO315 BK297 BK298 BK316 HB; have HO309 := n0_; have HO315 := n1_; have HO319 := n2_; have BK297 := n3_; have BK298 := n4_; have BK316 := n5_; have HB := n6_; clear n0_ n1_ n2_ n3_ n4_ n5_ n6_ hb ho50
        refine hK.out _ _ ⟨bc_ BK316 0, bc_ BK316 1, bc_ BK316 2, bc_ BK316 3, bc_ BK297 0, bc_ BK297 1, bc_ BK297 2, bc_ BK297 3⟩ (fun hHeld => ?_)
        clear hK K; refine nm_ 38 ?_
        refine on_ (i := 6) (N := some 43) HT_ (fun K hK => ?_)
        refine Kd.R_append_rows_step (Kd.int .u8) (w0 := w) w.heap.size (by rfl) (.tmp 38) (.tmp 42) 22 5 (.int .u8 0) 1 rfl Try.underlying22 info5 rfl (by decide) (by omega) v318 y317 (l0_2.take ((ji14) : Int).toNat) _ _ _ (fun k_ => some k_ ≠ (.slice Ao41 y307.length co41 : Value).ownBlock) (fun _ => False) rfl rfl ?aO ?aR (fun _ _ h => h) (fun _ h => h.elim) ?aF ?aB ?aS ?aL ?_
        (case aR => first | (refine len_ (show (l0_2.take ((ji14) : Int).toNat).length = (ji14).toNat from (by rw [List.length_take]; have h_ : ((ji14) : Int) ≤ (l0_2.length : Int) := of_decide_eq_true (by first | (with_reducible assumption) | assumption); omega)) ?_; repeat (first | exact (Kd.C_below HR320.out HB.out) | (with_reducible refine Kd.C_alloc ?_ _) | (with_reducible refine Kd.C_drewN ?_ _) | (with_reducible refine Kd.C_drew ?_)); done) | (repeat (first | exact (Kd.C_below HR320.out HB.out) | (with_reducible refine Kd.C_alloc ?_ _) | (with_reducible refine Kd.C_drewN ?_ _) | (with_reducible refine Kd.C_drew ?_))))
        (case aB => exact (hbA_ HB.out))
        (case aF => exact (fun k_ hk => Kd.fresh' (Kd.R_lt (kR_ HO309.out)) k_ hk))
        (case aO => exact (by refine kR_ ?_; first | exact Kd.R_mono HO319.out (fun _ hk => hk.2) | exact Kd.R_mono HO319.out (fun _ _ => trivial)))
        (case aS => exact (below_size (hbA_ HB.out)))
        (case aL => have := LMc21.out; have hlx_ := (show (l0_2.take ((ji14) : Int).toNat).length = (ji14).toNat from (by rw [List.length_take]; have h_ : ((ji14) : Int) ≤ (l0_2.length : Int) := of_decide_eq_true (by first | (with_reducible assumption) | assumption); omega)); omega)
        intro v322 w51 ho hb hg hat
        rw [← Ny321.out] at ho
        have n0_ := (bgA_ BK297 hg (Kd.R_ne HO319.out BK297.out (by decide))); have n1_ := (bgA_ BK298 hg (Kd.R_ne HO319.out BK298.out (by decide))); have n2_ := Aside0.mk (Kd.R_after (ok := (fun _ => True)) (kR_ HO309.out) hg hat); have n3_ := Aside0.mk (Kd.R_over' (kR_ HO315.out) (Kd.R_typed (kR_ HO319.out)) (by decide) hg); have n4_ := (bgA_ BK316 hg (Kd.R_ne HO319.out BK316.out (by decide))); have n5_ := Aside0.mk (hb); have n6_ := Aside0.mk (ho); clear BK297 BK298 HO309 HO315 BK316 HB HO319; have BK297 := n0_; have BK298 := n1_; have HO309 := n2_; have HO315 := n3_; have BK316 := n4_; have HB := n5_; have HO323 := n6_; clear n0_ n1_ n2_ n3_ n4_ n5_ n6_ ho hb hg hat
        refine hK.out _ _ ⟨bc_ BK316 0, bc_ BK316 1, bc_ BK316 2, bc_ BK316 3, bc_ BK297 0, bc_ BK297 1, bc_ BK297 2, bc_ BK297 3⟩ (fun hHeld => ?_)
        clear hK K; refine nm_ 43 ?_
        refine on_ (i := 7) (N := none) HT_ (fun K hK => ?_)
        have hs52 : w51.cell? ⟨gb298, 0, none⟩ = some (.int .i64 0) := bc_ BK298 0
        have hfs52 := blk_frozen BK298.out 0
        have hns52_0 := NB297_298.out; have hns52_2 := NB316_298.out; have hms52_0 := NB298_297.out; have hms52_2 := NB298_316.out
        have hs53 : w51.cell? ⟨gb298, 1, none⟩ = some (.int .i64 0) := bc_ BK298 1
        have hfs53 := blk_frozen BK298.out 1
        have hns53_0 := NB297_298.out; have hns53_2 := NB316_298.out; have hms53_0 := NB298_297.out; have hms53_2 := NB298_316.out
        have hs54 : w51.cell? ⟨gb298, 2, none⟩ = some (.slice none 0 0) := bc_ BK298 2
        have hfs54 := blk_frozen BK298.out 2
        have hns54_0 := NB297_298.out; have hns54_2 := NB316_298.out; have hms54_0 := NB298_297.out; have hms54_2 := NB298_316.out
        have hs55 : w51.cell? ⟨gb298, 3, none⟩ = some (.slice none 0 0) := bc_ BK298 3
        have hfs55 := blk_frozen BK298.out 3
        have hns55_0 := NB297_298.out; have hns55_2 := NB316_298.out; have hms55_0 := NB298_297.out; have hms55_2 := NB298_316.out
        refine skip_ (w1 := ?_) (by rfl) rfl ?_ ?_
        rotate_left
        ·go_simp
         rfl
        refine hK.out _ _ ⟨((cell_far (p := ⟨gb298, _, none⟩) NB316_298.out _).trans (((cell_far (p := ⟨gb298, _, none⟩) NB316_298.out _).trans (((cell_far (p := ⟨gb298, _, none⟩) NB316_298.out _).trans (((cell_far (p := ⟨gb298, _, none⟩) NB316_298.out _).trans (hHeld.1)))))))), ((cell_far (p := ⟨gb298, _, none⟩) NB316_298.out _).trans (((cell_far (p := ⟨gb298, _, none⟩) NB316_298.out _).trans (((cell_far (p := ⟨gb298, _, none⟩) NB316_298.out _).trans (((cell_far (p := ⟨gb298, _, none⟩) NB316_298.out _).trans (hHeld.2.1)))))))), ((cell_far (p := ⟨gb298, _, none⟩) NB316_298.out _).trans (((cell_far (p := ⟨gb298, _, none⟩) NB316_298.out _).trans (((cell_far (p := ⟨gb298, _, none⟩) NB316_298.out _).trans (((cell_far (p := ⟨gb298, _, none⟩) NB316_298.out _).trans (hHeld.2.2.1)))))))), ((cell_far (p := ⟨gb298, _, none⟩) NB316_298.out _).trans (((cell_far (p := ⟨gb298, _, none⟩) NB316_298.out _).trans (((cell_far (p := ⟨gb298, _, none⟩) NB316_298.out _).trans (((cell_far (p := ⟨gb298, _, none⟩) NB316_298.out _).trans (hHeld.2.2.2.1)))))))), ((cell_far (p := ⟨gb298, _, none⟩) NB297_298.out _).trans (((cell_far (p := ⟨gb298, _, none⟩) NB297_298.out _).trans (((cell_far (p := ⟨gb298, _, none⟩) NB297_298.out _).trans (((cell_far (p := ⟨gb298, _, none⟩) NB297_298.out _).trans (hHeld.2.2.2.2.1)))))))), ((cell_far (p := ⟨gb298, _, none⟩) NB297_298.out _).trans (((cell_far (p := ⟨gb298, _, none⟩) NB297_298.out _).trans (((cell_far (p := ⟨gb298, _, none⟩) NB297_298.out _).trans (((cell_far (p := ⟨gb298, _, none⟩) NB297_298.out _).trans (hHeld.2.2.2.2.2.1)))))))), ((cell_far (p := ⟨gb298, _, none⟩) NB297_298.out _).trans (((cell_far (p := ⟨gb298, _, none⟩) NB297_298.out _).trans (((cell_far (p := ⟨gb298, _, none⟩) NB297_298.out _).trans (((cell_far (p := ⟨gb298, _, none⟩) NB297_298.out _).trans (hHeld.2.2.2.2.2.2.1)))))))), ((cell_far (p := ⟨gb298, _, none⟩) NB297_298.out _).trans (((cell_far (p := ⟨gb298, _, none⟩) NB297_298.out _).trans (((cell_far (p := ⟨gb298, _, none⟩) NB297_298.out _).trans (((cell_far (p := ⟨gb298, _, none⟩) NB297_298.out _).trans (hHeld.2.2.2.2.2.2.2))))))))⟩ (fun hHeld => ?_)
        clear hK K; refine pu_ (i := 8) (N := some 5) HT_ ?_
        refine done_ (done_of HT_.out (by kernel_rfl)) ?_
        try go_wp2
        refine bodyPost_ret (results_ct rfl _ _ gb298 29 #[.int .i64 a0_0, .int .i64 a0_1, .slice Ao41 y307.length co41, .slice Ao40 y313.length co40] (0, 0) _ rfl (by refine kb_ ?_; refine pz4 (cs := #[.int .i64 0, .int .i64 0, .slice none 0 0, .slice none 0 0]) ?_; refine kb_ ?_; exact BK298.out) Try.underlying29 rfl (by kernel_rfl)) rfl ?_
        exact ⟨_, _, _, by first | rfl | (simp [errW_none, errW_some] <;> rfl) | (simp only [← hji14]; first | rfl | (simp [errW_none, errW_some] <;> rfl)) | (simp [*, errW_none, errW_some] <;> rfl), by refine kR_ ?_; exact rfm_ ((Kd.R_types HO309.out BK298.out (by decide))) (fun _ hk => hk.1.2), by refine kR_ ?_; exact rfm_ ((Kd.R_types HO315.out BK298.out (by decide))) (fun _ hk => trivial), by refine kR_ ?_; exact rfm_ ((Kd.R_types HO323.out BK298.out (by decide))) (fun _ hk => hk.1), hbA_ HB.out⟩
       ·rw [if_neg c21] at H
        exact absurd H (by simp)
      ·rw [if_neg c18] at H
       exact absurd H (by simp)
     ·rw [if_neg c17] at H
      exact absurd H (by simp)
    ·rw [if_neg c16] at H
     exact absurd H (by simp)
   ·rw [if_neg c15] at H
    exact absurd H (by simp)
 ·replace c4 := Bool.eq_false_iff.mpr c4
  subst c4
  rw [if_neg (show ¬ (false = true) by decide)] at H
  obtain ⟨y324, hy324⟩ : ∃ y_ : List Int, y_ = (([] : List Int)) := ⟨_, rfl⟩
  (first | replace H := sb_ hy324 H | rw [← hy324] at H)
  have Ny324 := Aside0.mk hy324; clear hy324
  simp only [Option.some.injEq, Prod.mk.injEq] at H
  obtain ⟨rfl, rfl, rfl, rfl, rfl⟩ := H
  go_enter Try.func10, Try.ntmps10
  go_wp2_with (first | ((with_reducible refine gate_dst (N := 2) rfl ?_); refine box_ (N := 2) (cs := #[.int .i64 a0_0, .int .i64 a0_1, .slice A0_2 l0_2.length c0_2, .slice A0_3 l0_3.length c0_3]) (t := 29) (fun gb297 hg w56 hbox hb => ?_); have BK297 := Aside0.mk (hbox); have GW297 := ge_ hg HB; have GE297 := ge_ hg HB; replace HB := (bs_ HB hb); clear hb hbox hg) | ((with_reducible refine gate_dst (N := 4) rfl ?_); refine box_ (N := 4) (cs := #[.int .i64 0, .int .i64 0, .slice none 0 0, .slice none 0 0]) (t := 29) (fun gb298 hg w57 hbox hb => ?_); have BK298 := Aside0.mk (hbox); have GW298 := ge_ hg HB; have GE298 := ge_ hg HB; replace HB := (bs_ HB hb); have NB297_298 := nl_ hg BK297; have NB298_297 := ng_ hg BK297; replace BK297 := (bbA_ BK297 hb); clear hb hbox hg; have hnb58 := NB297_298.out; have hnc58 := NB298_297.out; have Z59 := zz4 BK297) | ((with_reducible refine gate_callee (f := 20) rfl ?_); refine goesL_ (some 9) rfl rfl Try.func20 (by kernel_rfl) rfl #[.agg #[.int .i64 a0_0, .int .i64 a0_1, .slice A0_2 l0_2.length c0_2, .slice A0_3 l0_3.length c0_3]] rfl ar_ ?_; (with_reducible refine (spec_EarOk.calls k a0_0 a0_1 _ _ l0_2 _ _ l0_3 false _ ?side1 ?side2 ?side3 ?side4 A3.out).mono ?_); (case side1 => exact kC_ (Kd.C_below HR0_2.out HB.out)); (case side2 => exact HC0_2.out); (case side3 => exact kC_ (Kd.C_below HR0_3.out HB.out)); (case side4 => exact HC0_3.out); rintro e w60 ⟨rfl, hb⟩; refine ⟨_, rfl, ?_⟩; replace BK297 := (bbA_ BK297 hb); replace BK298 := (bbA_ BK298 hb); replace HB := (bs_ HB hb); (try clear hb); (try clear hb2); (try clear hk); (try clear hi)) | ((with_reducible refine gate_dst (N := 16) rfl ?_); refine Kd.R_lit (Kd.int .u8) _ 5 ?hg (N := 16) ?hd (xs := ([] : List Int)) (inner := []) (ok := fun _ => True) (okp := fun _ => True) ?hr ?hp (fun _ hk => hk) trivial (Below.refl _ _) (Nat.le_refl _) (by simp) ?_; (case hd => rfl); (case hg => rfl); (case hr => first | (go_simp; done) | (go_simp; rfl)); (case hp => exact (Reps.none _ _)); intro v325 w61 ho62 hb hg_ hnew_; clear hg_ hnew_; (first | rw [← Ny324.out] at ho62 | (simp only [Int.reduceToNat] at ho62; rw [← Ny324.out] at ho62)); have HO326 := Aside0.mk (Kd.R_lower ho62 (below_size (hbA_ HB.out))); replace BK297 := (bbA_ BK297 hb); replace BK298 := (bbA_ BK298 hb); replace HB := (bs_ HB hb); clear hb ho62; have Z63 := zz4 BK298))
  refine bodyPost_ret (results_ct rfl _ _ gb298 29 #[.int .i64 0, .int .i64 0, .slice none 0 0, .slice none 0 0] (0, 0) _ rfl (by refine kb_ ?_; refine pz4 (cs := #[.int .i64 0, .int .i64 0, .slice none 0 0, .slice none 0 0]) ?_; refine kb_ ?_; exact BK298.out) Try.underlying29 rfl (by kernel_rfl)) rfl ?_
  exact ⟨_, _, _, by first | rfl | (simp [errW_none, errW_some] <;> rfl) | (simp [*, errW_none, errW_some] <;> rfl), by (try rw [Ny324.out]); first | exact Kd.R_nil _ _ _ _ _ | exact Kd.N_nil _ _ _ _ _ | exact Kd.V_nil _ _ _ _ _ | exact Kd.Q_nil _ _ _ _ _ | exact Kd.S_nil _ _ _ _ _, by (try rw [Ny324.out]); first | exact Kd.R_nil _ _ _ _ _ | exact Kd.N_nil _ _ _ _ _ | exact Kd.V_nil _ _ _ _ _ | exact Kd.Q_nil _ _ _ _ _ | exact Kd.S_nil _ _ _ _ _, by refine kR_ ?_; exact rfm_ ((Kd.R_types HO326.out BK298.out (by decide))) (fun _ hk => (by simp [Value.ownBlock])), hbA_ HB.out⟩
def laws_sameBytes.f (l0 : List Int) (l1 : List Int) : Option (Bool) := some ((strOfNums l0).toList == (strOfNums l1).toList)
set_option maxHeartbeats 8000000 in
set_option maxRecDepth 100000 in
theorem laws_sameBytes.calls (A0 : Option Addr) (c0 : Nat) (l0 : List Int) (A1 : Option Addr) (c1 : Nat) (l1 : List Int) (r : Bool) (w : World) (hr0 : Kd.C (Kd.int .u8) w A0 l0.length l0) (hc0 : l0.length ≤ c0) (hr1 : Kd.C (Kd.int .u8) w A1 l1.length l1) (hc1 : l1.length ≤ c1) (h : laws_sameBytes.f l0 l1 = some r) :
  Calls Try.prog 13 #[.slice A0 l0.length c0, .slice A1 l1.length c1] w fun e w' => e = .returned (.bool r) ∧ Drawn0 w w' := by
 have HR0 := Aside0.mk hr0; have HC0 := Aside0.mk hc0; clear hr0 hc0; have HR1 := Aside0.mk hr1; have HC1 := Aside0.mk hc1; clear hr1 hc1
 have H : (some ((strOfNums l0).toList == (strOfNums l1).toList)) = some r := h
 clear h
 obtain rfl := Option.some.inj H
 have hcv3 := Kd.C_string (P := Try.prog) (A := A0) (c := c0) Try.underlying22 Try.underlying5 Try.underlying9 HR0.out
 have hcv4 := Kd.C_string (P := Try.prog) (A := A1) (c := c1) Try.underlying22 Try.underlying5 Try.underlying9 HR1.out
 go_enter Try.func13, Try.ntmps13
 go_wp2
 go_ret
 exact ⟨by first | rfl | (simp; done) | (simp [*]; done), by repeat (first | exact Drawn0.refl _ | apply Drawn0.step)⟩
end Go.Proofs.Ytgemkjclamlmbaa.PFnListening
