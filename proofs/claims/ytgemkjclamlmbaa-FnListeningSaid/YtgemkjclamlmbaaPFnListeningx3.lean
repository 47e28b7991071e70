/- Printed by wip/xp/xprint.sh out of the translation, for this claim: what each function answers, as a plain function, and that the machine does just that. No condition. -/
import Derived.Test.YtgemkjclamlmbaaPFnListeningx0
namespace Go.Proofs.Ytgemkjclamlmbaa.PFnListening
open Go.RowKit Go.Proofs.YtgemkjclamlmbaaW.PrintWords Go.Proofs.YtgemkjclamlmbaaW.PrintLast Go.Proofs.YtgemkjclamlmbaaW.PrintMore
attribute [local go_sem] max2_int min2_int max_two min_two max_three min_three max_four min_four   -- for this text's walks alone
set_option linter.unusedVariables false
set_option linter.unusedSimpArgs false
theorem slices_Clip_byte_byte.calls (A0 : Option Addr) (c0 n0 : Nat) (w : World) (hc : n0 ≤ c0) : Calls Try.prog 33 #[.slice A0 n0 c0] w fun e w' => e = .returned (.slice A0 n0 n0) ∧ w' = w := by
  go_enter Try.func33, Try.ntmps33
  go_wp2
  go_ret
  exact ⟨rfl, rfl⟩
def impl_clone_byte.f (l0 : List Int) : Option (List Int) := if l0.length * 1 ≤ 140737488355328 then some l0 else none
theorem impl_clone_byte.calls (A0 : Option Addr) (c0 : Nat) (l0 : List Int) (r : List Int) (w : World) (hr0 : Kd.C (Kd.int .u8) w A0 l0.length l0) (hc0 : l0.length ≤ c0) (h : impl_clone_byte.f l0 = some r) :
    Calls Try.prog 25 #[.slice A0 l0.length c0] w fun e w' => ∃ v0_ : Value, e = .returned (v0_) ∧ Kd.R (Kd.int .u8) 5 w' w.heap.size (fun _ => True) v0_ r ∧ Below w.heap.size w w' := by
  obtain ⟨hle, rfl⟩ : l0.length * 1 ≤ 140737488355328 ∧ l0 = r := by
    unfold impl_clone_byte.f at h; split at h
    · exact ⟨by assumption, Option.some.inj h⟩
    · cases h
  have hm := hr0.2.1
  have HR := Aside0.mk hr0; clear hr0 h
  by_cases h0 : l0.length = 0
  · have hb : ((l0.length : Int) == 0) = true := by simp [h0]
    have HL : Aside0 (l0 = []) := ⟨List.eq_nil_of_length_eq_zero h0⟩
    clear h0
    go_enter Try.func25, Try.ntmps25
    go_wp2
    go_ret
    refine ⟨_, rfl, ?_, Below.refl _ _⟩
    rw [HL.out]; exact Kd.R_nil _ _ _ _ _
  · have hb : ((l0.length : Int) == 0) = false := by simp; intro hh; exact h0 (by simp [hh])
    clear h0
    go_enter Try.func25, Try.ntmps25
    go_wp2_with (first
      | ((with_reducible refine gate_dst (N := 7) rfl ?_); refine Kd.R_append_rows (Kd.int .u8) (Rr := (Kd.int .u8).K w) w.heap.size rfl _ _ 22 5 (.int .u8 0) 1 rfl Try.underlying22 info5 rfl (by decide) (by decide) (.slice none 0 0) [] l0 A0 l0.length c0 (fun _ => True) (fun _ => True) rfl rfl (Kd.R_nil _ _ _ _ _) HR.out (fun x cs h => h) (fun k _ => ⟨trivial, by simp [Value.ownBlock]⟩) (fun _ _ => trivial) (Below.refl _ _) (Nat.le_refl _) (by simpa using hle) ?_; intro v1 w1 ho hb1 hg hat; rw [List.nil_append] at ho; obtain ⟨A1, c1, hv1, hc1, _⟩ := Kd.R_reads ho; have HO := Aside0.mk ho; clear ho hat hg; have HB := Aside0.mk hb1; clear hb1; subst hv1)
      | (go_at_call 33; (with_reducible refine (slices_Clip_byte_byte.calls _ _ _ _ hc1).mono ?_); rintro e w' ⟨rfl, rfl⟩))
    go_ret
    exact ⟨_, rfl, Kd.R_clip HO.out (Nat.le_refl _) hc1, HB.out⟩
theorem impl_Early_37.calls (A0 : Option Addr) (c0 n0 : Nat) (w : World) (hc : n0 ≤ c0) : Calls Try.prog 37 #[.slice A0 n0 c0] w fun e w' => e = .returned (.slice A0 n0 n0) ∧ w' = w := by
  go_enter Try.func37, Try.ntmps37
  go_wp2
  go_ret
  exact ⟨rfl, rfl⟩
def impl_Early_32.f (l0 : List (S50)) : Option ((List (S50))) := if l0.length * 16 ≤ 140737488355328 then some l0 else none
theorem impl_Early_32.calls (A0 : Option Addr) (c0 : Nat) (l0 : List (S50)) (r : List (S50)) (w : World) (hr0 : Kd.C k50 w A0 l0.length l0) (hc0 : l0.length ≤ c0) (h : impl_Early_32.f l0 = some r) :
    Calls Try.prog 32 #[.slice A0 l0.length c0] w fun e w' => ∃ v0_ : Value, e = .returned (v0_) ∧ Kd.R k50 50 w' w.heap.size (fun _ => True) v0_ r ∧ Below w.heap.size w w' := by
  obtain ⟨hle, rfl⟩ : l0.length * 16 ≤ 140737488355328 ∧ l0 = r := by
    unfold impl_Early_32.f at h; split at h
    · exact ⟨by assumption, Option.some.inj h⟩
    · cases h
  have hm := hr0.2.1
  have HR := Aside0.mk hr0; clear hr0 h
  by_cases h0 : l0.length = 0
  · have hb : ((l0.length : Int) == 0) = true := by simp [h0]
    have HL : Aside0 (l0 = []) := ⟨List.eq_nil_of_length_eq_zero h0⟩
    clear h0
    go_enter Try.func32, Try.ntmps32
    go_wp2
    go_ret
    refine ⟨_, rfl, ?_, Below.refl _ _⟩
    rw [HL.out]; exact Kd.R_nil _ _ _ _ _
  · have hb : ((l0.length : Int) == 0) = false := by simp; intro hh; exact h0 (by simp [hh])
    clear h0
    go_enter Try.func32, Try.ntmps32
    go_wp2_with (first
      | ((with_reducible refine gate_dst (N := 7) rfl ?_); refine Kd.R_append_rows k50 (Rr := k50.K w) w.heap.size rfl _ _ 27 50 (.agg #[(.int .i64 0), (.int .u8 0)]) 16 rfl Try.underlying27 info50 rfl (by decide) (by decide) (.slice none 0 0) [] l0 A0 l0.length c0 (fun _ => True) (fun _ => True) rfl rfl (Kd.R_nil _ _ _ _ _) HR.out (fun x cs h => by rw [k50_open h]; exact k50_mkM _ _ _ _) (fun k _ => ⟨trivial, by simp [Value.ownBlock]⟩) (fun _ _ => trivial) (Below.refl _ _) (Nat.le_refl _) (by simpa using hle) ?_; intro v1 w1 ho hb1 hg hat; rw [List.nil_append] at ho; obtain ⟨A1, c1, hv1, hc1, _⟩ := Kd.R_reads ho; have HO := Aside0.mk ho; clear ho hat hg; have HB := Aside0.mk hb1; clear hb1; subst hv1)
      | (go_at_call 37; (with_reducible refine (impl_Early_37.calls _ _ _ _ hc1).mono ?_); rintro e w' ⟨rfl, rfl⟩))
    go_ret
    exact ⟨_, rfl, Kd.R_clip HO.out (Nat.le_refl _) hc1, HB.out⟩
def impl_Ear_copy.f (a0_0 : Int) (a0_1 : Int) (l0_2 : List Int) (l0_3 : List (S50)) : Option (Int × Int × List Int × (List (S50))) := (impl_clone_byte.f l0_2).bind fun t155 => ((impl_Early_32.f l0_3).bind fun t158 => (some (a0_0, a0_1, t155, t158)))
def impl_Ear_copy.T1 : Bool × List (List Nat × List Nat) := (true, [([], []), ([0], [0]), ([1], [1]), ([], []), ([3], [3]), ([4, 2], [4]), ([0, 1, 2, 3, 4], []), ([6, 2, 5, 0, 1, 2, 3, 4], [2, 6]), ([0, 1, 2, 3, 4, 5, 6, 7], []), ([8, 5, 7, 0, 1, 2, 3, 4, 5, 6, 7], [5, 8])])
def impl_Ear_copy.B1 : List Nat := [0, 1, 3, 0, 8, 31, 31, 127, 255, 511]
theorem impl_Ear_copy.tab1 : rtab .any (opsOf Try.f24 1) = impl_Ear_copy.T1 := by kernel_rfl
theorem impl_Ear_copy.bits1 : waitsOk impl_Ear_copy.T1.2 impl_Ear_copy.B1 = true := by kernel_rfl
set_option maxHeartbeats 8000000 in
set_option maxRecDepth 100000 in
theorem impl_Ear_copy.calls (a0_0 : Int) (a0_1 : Int) (A0_2 : Option Addr) (c0_2 : Nat) (l0_2 : List Int) (A0_3 : Option Addr) (c0_3 : Nat) (l0_3 : List (S50)) (r1 : Int) (r2 : Int) (r3 : List Int) (r4 : List (S50)) (w : World) (hr0_2 : Kd.C (Kd.int .u8) w A0_2 l0_2.length l0_2) (hc0_2 : l0_2.length ≤ c0_2) (hr0_3 : Kd.C k50 w A0_3 l0_3.length l0_3) (hc0_3 : l0_3.length ≤ c0_3) (h : impl_Ear_copy.f a0_0 a0_1 l0_2 l0_3 = some (r1, r2, r3, r4)) :
  Calls Try.prog 24 #[.agg #[.int .i64 a0_0, .int .i64 a0_1, .slice A0_2 l0_2.length c0_2, .slice A0_3 l0_3.length c0_3]] w fun e w' => ∃ v2_ v3_ : Value, e = .returned (.agg #[.int .i64 r1, .int .i64 r2, v2_, v3_]) ∧ Kd.R (Kd.int .u8) 5 w' w.heap.size (fun _ => True) v2_ r3 ∧ Kd.R k50 50 w' w.heap.size (fun _ => True) v3_ r4 ∧ Below w.heap.size w w' := by
 have hu29 := Try.underlying29; have HR0_2 := Aside0.mk hr0_2; have HC0_2 := Aside0.mk hc0_2; clear hr0_2 hc0_2; have HR0_3 := Aside0.mk hr0_3; have HC0_3 := Aside0.mk hc0_3; clear hr0_3 hc0_3
 have HB := Aside0.mk (Below.refl w.heap.size w)
 have H : ((impl_clone_byte.f l0_2).bind fun t155 => ((impl_Early_32.f l0_3).bind fun t158 => (some (a0_0, a0_1, t155, t158)))) = some (r1, r2, r3, r4) := h
 clear h
 replace H := Option.bind_eq_some_iff.mp H
 obtain ⟨t155, A20, H⟩ := H
 (try dsimp only at H)
 have A2 := Aside0.mk A20; clear A20
 replace H := Option.bind_eq_some_iff.mp H
 obtain ⟨t158, A30, H⟩ := H
 (try dsimp only at H)
 have A3 := Aside0.mk A30; clear A30
 simp only [Option.some.injEq, Prod.mk.injEq] at H
 obtain ⟨rfl, rfl, rfl, rfl⟩ := H
 go_enter Try.func24, Try.ntmps24
 try go_wp2_with (first | ((with_reducible refine gate_dst (N := 1) rfl ?_); refine box_ (N := 1) (cs := #[.int .i64 a0_0, .int .i64 a0_1, .slice A0_2 l0_2.length c0_2, .slice A0_3 l0_3.length c0_3]) (t := 29) (fun gb153 hg w4 hbox hb => ?_); have BK153 := Aside0.mk (hbox); have GW153 := ge_ hg HB; have GE153 := ge_ hg HB; replace HB := (bs_ HB hb); clear hb hbox hg) | ((with_reducible refine gate_dst (N := 2) rfl ?_); refine box_ (N := 2) (cs := #[.int .i64 0, .int .i64 0, .slice none 0 0, .slice none 0 0]) (t := 29) (fun gb154 hg w5 hbox hb => ?_); have BK154 := Aside0.mk (hbox); have GW154 := ge_ hg HB; have GE154 := ge_ hg HB; replace HB := (bs_ HB hb); have NB153_154 := nl_ hg BK153; have NB154_153 := ng_ hg BK153; replace BK153 := (bbA_ BK153 hb); clear hb hbox hg))
 replace BK153 := Aside0.mk (blk_drew BK153.out); replace BK154 := Aside0.mk (blk_drew BK154.out); replace HB := (bd_ HB)
 refine start_ (n := 10) (S := fun w' => w'.cell? ⟨gb153, 0, none⟩ = some (.int .i64 a0_0) ∧ w'.cell? ⟨gb153, 1, none⟩ = some (.int .i64 a0_1) ∧ w'.cell? ⟨gb153, 2, none⟩ = some (.slice A0_2 l0_2.length c0_2) ∧ w'.cell? ⟨gb153, 3, none⟩ = some (.slice A0_3 l0_3.length c0_3)) (ds := [7, 9]) #[false, false, false, false, false, false, false, false, false, false] (by kernel_rfl) rfl rfl (cz4 BK153.out) (fun hHeld => ?_); refine with_tabW impl_Ear_copy.tab1 impl_Ear_copy.bits1 (fun HT_ HW_ => ?_)
 generalize w5.drew = w6 at BK153 BK154 HB hHeld ⊢
 refine pu_ (i := 0) (N := some 3) HT_ ?_; refine pu_ (i := 3) (N := some 6) HT_ ?_; refine tk_ (i := 1) (N := some 4) HT_ HW_ hHeld ?_; refine tk_ (i := 4) (N := some 7) HT_ HW_ hHeld ?_
 refine on_ (i := 2) (N := some 5) HT_ (fun K hK => ?_)
 refine goes_ Try.func25 (by kernel_rfl) rfl #[.slice A0_2 l0_2.length c0_2] (by rfl) rfl rfl ar_ ?_
 with_reducible refine (impl_clone_byte.calls _ _ l0_2 t155 _ ?side1 ?side2 A2.out).mono ?_
 (case side1 => exact kC_ (Kd.C_below HR0_2.out HB.out))
 (case side2 => exact HC0_2.out)
 rintro e w7 ⟨v156, rfl, ho0, hb⟩
 refine ⟨_, rfl, ?_⟩
 have HO157 := Aside0.mk (Kd.R_lower ho0 (below_size (hbA_ HB.out))); replace BK153 := (bbA_ BK153 hb); replace BK154 := (bbA_ BK154 hb); replace HB := (bs_ HB hb); (try clear hb); (try clear hb2); (try clear hk); (try clear hi); (try clear ho0)
 refine hK.out _ _ (cz4 BK153.out) (fun hHeld => ?_)
 clear hK K; refine nm_ 5 ?_; refine pu_ (i := 6) (N := some 9) HT_ ?_
 refine on_ (i := 5) (N := some 8) HT_ (fun K hK => ?_)
 refine goes_ Try.func32 (by kernel_rfl) rfl #[.slice A0_3 l0_3.length c0_3] (by rfl) rfl rfl ar_ ?_
 with_reducible refine (impl_Early_32.calls _ _ l0_3 t158 _ ?side1 ?side2 A3.out).mono ?_
 (case side1 => exact kC_ (Kd.C_below HR0_3.out HB.out))
 (case side2 => exact HC0_3.out)
 rintro e w8 ⟨v159, rfl, ho0, hb⟩
 refine ⟨_, rfl, ?_⟩
 replace HO157 := Aside0.mk (Kd.R_below (kR_ HO157.out) hb); have HO160 := Aside0.mk (Kd.R_lower ho0 (below_size (hbA_ HB.out))); replace BK153 := (bbA_ BK153 hb); replace BK154 := (bbA_ BK154 hb); replace HB := (bs_ HB hb); (try clear hb); (try clear hb2); (try clear hk); (try clear hi); (try clear ho0)
 obtain ⟨Ao9, co9, eo9⟩ := Kd.R_slice HO157.out
 (first | subst eo9 | (injection eo9 with f1_ f2_ f3_; have f4_ := f1_.symm; have f5_ := f3_.symm; clear f1_ f2_ f3_; subst f4_; subst f5_))
 obtain ⟨Ao11, co11, eo11⟩ := Kd.R_slice HO160.out
 (first | subst eo11 | (injection eo11 with f1_ f2_ f3_; have f4_ := f1_.symm; have f5_ := f3_.symm; clear f1_ f2_ f3_; subst f4_; subst f5_))
 refine hK.out _ _ (cz4 BK153.out) (fun hHeld => ?_)
 clear hK K; refine nm_ 8 ?_
 refine last_ (i := 7) (N := none) #[true, true, true, true, true, true, true, true, false, false] rfl rfl (one_of HT_.out (by kernel_rfl)) (by decide) (fun K hK => ?_)
 have hs10 : w8.cell? ⟨gb153, 2, none⟩ = some (.slice A0_2 l0_2.length c0_2) := bc_ BK153 2
 have hfs10 := blk_frozen BK153.out 2
 have hns10_1 := NB154_153.out; have hms10_1 := NB153_154.out
 refine skip_ (w1 := ?_) (by rfl) rfl ?_ ?_
 rotate_left
 ·go_simp
  rfl
 refine hK.out _ _ ?_
 clear hK K; refine pu_ (i := 8) (N := some 10) HT_ ?_
 refine last_ (i := 9) (N := none) #[true, true, true, true, true, true, true, true, true, true] rfl rfl (one_of HT_.out (by kernel_rfl)) (by decide) (fun K hK => ?_)
 have hs12 : w8.cell? ⟨gb153, 3, none⟩ = some (.slice A0_3 l0_3.length c0_3) := bc_ BK153 3
 have hfs12 := blk_frozen BK153.out 3
 have hns12_1 := NB154_153.out; have hms12_1 := NB153_154.out
 refine skip_ (w1 := ?_) (by rfl) rfl ?_ ?_
 rotate_left
 ·go_simp
  rfl
 refine hK.out _ _ ?_
 clear hK K
 refine done_ (done_of HT_.out (by kernel_rfl)) ?_
 have hnb13 := NB153_154.out; have hnc13 := NB154_153.out; have Z14 := zz4 BK153; have Z15 := zz4 BK154
 try go_wp2
 refine bodyPost_ret (results_cell_row rfl _ _ gb154 29 #[.int .i64 a0_0, .int .i64 a0_1, .slice Ao9 t155.length co9, .slice Ao11 t158.length co11] (0, 0) _ rfl (by refine kb_ ?_; refine pz4 (cs := #[.int .i64 0, .int .i64 0, .slice none 0 0, .slice none 0 0]) ?_; exact kf_ BK154.out) Try.underlying29 rfl (by kernel_rfl)) rfl ?_
 exact ⟨_, _, by first | rfl | (simp [errW_none, errW_some] <;> rfl) | (simp [*, errW_none, errW_some] <;> rfl), by refine kR_ ?_; exact rfm_ ((Kd.R_far (p := ⟨gb153, 3, none⟩) (Kd.R_far (p := ⟨gb153, 2, none⟩) (Kd.R_types (Kd.R_types HO157.out BK153.out (by decide)) BK154.out (by decide)) (fun _ hk => hk.1.2) (.slice Ao9 t155.length co9)) (fun _ hk => hk.1.2) (.slice Ao11 t158.length co11))) (fun _ hk => trivial), by refine kR_ ?_; exact rfm_ ((Kd.R_far (p := ⟨gb153, 3, none⟩) (Kd.R_far (p := ⟨gb153, 2, none⟩) (Kd.R_types (Kd.R_types HO160.out BK153.out (by decide)) BK154.out (by decide)) (fun _ hk => hk.1.2) (.slice Ao9 t155.length co9)) (fun _ hk => hk.1.2) (.slice Ao11 t158.length co11))) (fun _ hk => trivial), hbA_ HB.out⟩
def impl_Ear_hear_1.f (a0_0 : Int) (a0_1 : Int) (a1 : Int) : Option (Int) := some (wrap64 (a0_0 - a1))
set_option maxHeartbeats 8000000 in
set_option maxRecDepth 100000 in
theorem impl_Ear_hear_1.calls (a0_0 : Int) (a0_1 : Int) (a1 : Int) (r : Int) (w : World) (h : impl_Ear_hear_1.f a0_0 a0_1 a1 = some r) :
  Calls Try.prog 30 #[.agg #[.int .i64 a0_0, .int .u8 a0_1], .int .i64 a1] w fun e w' => e = .returned (.int .i64 r) ∧ Below w.heap.size w w' := by
 have hu50 := Try.underlying50
 have HB := Aside0.mk (Below.refl w.heap.size w)
 have H : (some (wrap64 (a0_0 - a1))) = some r := h
 clear h
 obtain rfl := Option.some.inj H
 go_enter Try.func30, Try.ntmps30
 go_wp2_with (first | ((with_reducible refine gate_dst (N := 2) rfl ?_); refine box_ (N := 2) (cs := #[.int .i64 a0_0, .int .u8 a0_1]) (t := 50) (fun gb161 hg w3 hbox hb => ?_); have BK161 := Aside0.mk (hbox); have GW161 := ge_ hg HB; have GE161 := ge_ hg HB; replace HB := (bs_ HB hb); clear hb hbox hg; have Z4 := zz2 BK161))
 go_ret
 exact ⟨by first | rfl | (simp [errW_none, errW_some] <;> rfl) | (simp [*, errW_none, errW_some] <;> rfl), hbA_ HB.out⟩
def impl_Early_int.l0 : Nat → List (S50) → Int → Int → Int → Int → Option (Int × Bool)
 | 0, _, _, _, _, _ => none
 | k + 1, x0, x1, x8, x9, x10 => if x9 < x10 then (if 0 ≤ (wrap64 ((IntKind.u64.wrap (wrap64 (x9 + x10))) / 2)) then (if (wrap64 ((IntKind.u64.wrap (wrap64 (x9 + x10))) / 2)) < (x0.length : Int) then ((impl_Ear_hear_1.f ((rd_T50 x0 (wrap64 ((IntKind.u64.wrap (wrap64 (x9 + x10))) / 2))).f0) ((rd_T50 x0 (wrap64 ((IntKind.u64.wrap (wrap64 (x9 + x10))) / 2))).f1) x1).bind fun t165 => (if t165 < 0 then (impl_Early_int.l0 k x0 x1 x8 (wrap64 ((wrap64 ((IntKind.u64.wrap (wrap64 (x9 + x10))) / 2)) + 1)) x10) else (impl_Early_int.l0 k x0 x1 x8 x9 (wrap64 ((IntKind.u64.wrap (wrap64 (x9 + x10))) / 2))))) else (none)) else (none)) else (if x9 < x8 then (if 0 ≤ x9 then (if x9 < (x0.length : Int) then ((impl_Ear_hear_1.f ((rd_T50 x0 x9).f0) ((rd_T50 x0 x9).f1) x1).bind fun t163 => (some (x9, (t163 == 0)))) else (none)) else (none)) else (some (x9, false)))
def impl_Early_int.f (k : Nat) (l0 : List (S50)) (a1 : Int) : Option (Int × Bool) := impl_Early_int.l0 k l0 a1 (l0.length : Int) 0 (l0.length : Int)
theorem impl_Early_int.mono_l : ∀ k, (∀ y0 y1 y2 y3 y4, LeO (impl_Early_int.l0 k y0 y1 y2 y3 y4) (impl_Early_int.l0 (k + 1) y0 y1 y2 y3 y4))
 | 0 => fun _ _ _ _ _ r h => by simp [impl_Early_int.l0] at h
 | k + 1 => by
  have ih0 := impl_Early_int.mono_l k
  ·intro y0 y1 y2 y3 y4
   unfold impl_Early_int.l0
   repeat' first | (with_reducible first | apply ih0 | exact LeO.refl _ | exact LeO.none _ | refine LeO.ite ?_ ?_ | refine LeO.bind ?_ fun _ => ?_) | apply ih0 | exact LeO.none _ | refine LeO.ite ?_ ?_ | refine LeO.bind ?_ fun _ => ?_
theorem impl_Early_int.mono : ∀ a0 a1 k, LeO (impl_Early_int.f k a0 a1) (impl_Early_int.f (k + 1) a0 a1) := by
 intro a0 a1 k
 have ih0 := impl_Early_int.mono_l k
 unfold impl_Early_int.f
 repeat' first | (with_reducible first | apply ih0 | exact LeO.refl _ | exact LeO.none _ | refine LeO.ite ?_ ?_ | refine LeO.bind ?_ fun _ => ?_) | apply ih0 | exact LeO.none _ | refine LeO.ite ?_ ?_ | refine LeO.bind ?_ fun _ => ?_
set_option maxHeartbeats 8000000 in
set_option maxRecDepth 100000 in
theorem impl_Early_int.calls (k : Nat) (A0 : Option Addr) (c0 : Nat) (l0 : List (S50)) (a1 : Int) (r1 : Int) (r2 : Bool) (w : World) (hr0 : Kd.C k50 w A0 l0.length l0) (hc0 : l0.length ≤ c0) (h : impl_Early_int.f k l0 a1 = some (r1, r2)) :
  Calls Try.prog 29 #[.slice A0 l0.length c0, .int .i64 a1, .func (.func 30) #[] #[]] w fun e w' => e = .returned (.tuple #[.int .i64 r1, .bool r2]) ∧ Below w.heap.size w w' := by
 have hu50 := Try.underlying50; have HR0 := Aside0.mk hr0; have HC0 := Aside0.mk hc0; clear hr0 hc0
 have HB := Aside0.mk (Below.refl w.heap.size w)
 have H : (impl_Early_int.l0 k l0 a1 (l0.length : Int) 0 (l0.length : Int)) = some (r1, r2) := h
 clear h
 have H' := Aside0.mk H
 clear H
 go_enter Try.func29, Try.ntmps29
 go_wp2
 go_loopg [9, 10] k (fun kq v9 v10 w' => ∃ (x9_1 : Int) (x10_1 : Int), v9 = .int .i64 x9_1 ∧ v10 = .int .i64 x10_1 ∧ Aside0 (impl_Early_int.l0 kq l0 a1 (l0.length : Int) x9_1 x10_1 = some (r1, r2)) ∧ Aside0 (kq ≤ k) ∧ Aside0 (Below w.heap.size w w'))
 case atStart => exact ⟨(0), ((l0.length : Int)), (by first | rfl | (simp; done) | (simp [*]; done)), (by first | rfl | (simp; done) | (simp [*]; done)), H', ⟨Nat.le_refl _⟩, ⟨hbA_ HB.out⟩⟩
 case round =>
  clear H'; (try clear c2); (try clear p2)
  obtain ⟨x9_1, x10_1, rfl, rfl, HA, HK1, HB⟩ := hrel
  cases gk with
  | zero => exact absurd HA.out (by simp [impl_Early_int.l0])
  | succ k1 =>
   have H := HA.out; clear HA
   simp only [impl_Early_int.l0] at H
   by_cases c3 : x9_1 < x10_1
   ·rw [if_pos c3] at H
    have c3b0 : decide (x9_1 < x10_1) = true := decide_eq_true c3
    clear c3
    obtain ⟨ji4, hji4⟩ : ∃ j_ : Int, (wrap64 ((IntKind.u64.wrap (wrap64 (x9_1 + x10_1))) / 2)) = j_ := ⟨_, rfl⟩
    (first | rw [hji4] at H | simp only [hji4] at H)
    have hji4w : (IntKind.i64.wrap ((IntKind.u64.wrap (wrap64 (x9_1 + x10_1))) / 2)) = ji4 := (i64_w _).trans hji4
    by_cases c5 : 0 ≤ (ji4)
    ·rw [if_pos c5] at H
     have c5b0 : decide (0 ≤ (ji4)) = true := decide_eq_true c5
     clear c5
     by_cases c6 : (ji4) < (l0.length : Int)
     ·rw [if_pos c6] at H
      have c6b0 : decide ((ji4) < (l0.length : Int)) = true := decide_eq_true c6
      clear c6
      replace H := Option.bind_eq_some_iff.mp H
      obtain ⟨t165, A70, H⟩ := H
      (try dsimp only at H)
      have A7 := Aside0.mk A70; clear A70
      by_cases c8 : t165 < 0
      ·rw [if_pos c8] at H
       have c8b0 : decide (t165 < 0) = true := decide_eq_true c8
       clear c8
       have H' := Aside0.mk H
       clear H
       have p164 : 0 ≤ ((ji4) : Int) := of_decide_eq_true (by first | (with_reducible assumption) | assumption)
       have q164 : (ji4) < (l0.length : Int) := of_decide_eq_true (by first | (with_reducible assumption) | assumption)
       obtain ⟨ad164, e164, hx164_0, hx164_1⟩ := at_T50 HR0.out (ji4) p164 q164
       cases e164
       replace hx164_0 := cc_ HB hx164_0
       replace hx164_1 := cc_ HB hx164_1
       replace p164 := eq_true p164
       replace q164 := eq_true q164
       go_wp2_with (first | ((with_reducible refine gateT_ (u := 24) rfl ?_); refine goesT_ (u := 24) (some 30) rfl rfl Try.func30 (by kernel_rfl) rfl #[.agg #[.int .i64 ((rd_T50 l0 (ji4)).f0), .int .u8 ((rd_T50 l0 (ji4)).f1)], .int .i64 a1] rfl rfl (by (try simp only [List.map_toArray, List.map_cons, List.map_nil]); first | done | (simp only [hji4]; rfl) | rfl | (simp only [List.length_drop, List.length_take]; rfl)) ?_; (with_reducible refine (impl_Ear_hear_1.calls ((rd_T50 l0 (ji4)).f0) ((rd_T50 l0 (ji4)).f1) a1 t165 _ A7.out).mono ?_); rintro e w9 ⟨rfl, hb⟩; refine ⟨_, rfl, ?_⟩; replace HB := (bs_ HB hb); (try clear hb); (try clear hb2); (try clear hk); (try clear hi)))
       go_roundg k1
       case measure => have := HK1.out; omega
       case rel => exact ⟨(wrap64 ((ji4) + 1)), (x10_1), (by first | rfl | (simp; done) | (simp only [← hji4] <;> (first | rfl | simp)) | (simp [*]; done)), (by first | rfl | (simp; done) | (simp [*]; done)), H', ⟨by have := HK1.out; omega⟩, ⟨hbA_ HB.out⟩⟩
      ·rw [if_neg c8] at H
       have c8b0 : decide (t165 < 0) = false := decide_eq_false c8
       clear c8
       have H' := Aside0.mk H
       clear H
       have p164 : 0 ≤ ((ji4) : Int) := of_decide_eq_true (by first | (with_reducible assumption) | assumption)
       have q164 : (ji4) < (l0.length : Int) := of_decide_eq_true (by first | (with_reducible assumption) | assumption)
       obtain ⟨ad164, e164, hx164_0, hx164_1⟩ := at_T50 HR0.out (ji4) p164 q164
       cases e164
       replace hx164_0 := cc_ HB hx164_0
       replace hx164_1 := cc_ HB hx164_1
       replace p164 := eq_true p164
       replace q164 := eq_true q164
       go_wp2_with (first | ((with_reducible refine gateT_ (u := 24) rfl ?_); refine goesT_ (u := 24) (some 30) rfl rfl Try.func30 (by kernel_rfl) rfl #[.agg #[.int .i64 ((rd_T50 l0 (ji4)).f0), .int .u8 ((rd_T50 l0 (ji4)).f1)], .int .i64 a1] rfl rfl (by (try simp only [List.map_toArray, List.map_cons, List.map_nil]); first | done | (simp only [hji4]; rfl) | rfl | (simp only [List.length_drop, List.length_take]; rfl)) ?_; (with_reducible refine (impl_Ear_hear_1.calls ((rd_T50 l0 (ji4)).f0) ((rd_T50 l0 (ji4)).f1) a1 t165 _ A7.out).mono ?_); rintro e w10 ⟨rfl, hb⟩; refine ⟨_, rfl, ?_⟩; replace HB := (bs_ HB hb); (try clear hb); (try clear hb2); (try clear hk); (try clear hi)))
       go_roundg k1
       case measure => have := HK1.out; omega
       case rel => exact ⟨(x9_1), (ji4), (by first | rfl | (simp; done) | (simp [*]; done)), (by first | rfl | (simp; done) | (simp only [← hji4] <;> (first | rfl | simp)) | (simp [*]; done)), H', ⟨by have := HK1.out; omega⟩, ⟨hbA_ HB.out⟩⟩
     ·rw [if_neg c6] at H
      exact absurd H (by simp)
    ·rw [if_neg c5] at H
     exact absurd H (by simp)
   ·rw [if_neg c3] at H
    have c3b0 : decide (x9_1 < x10_1) = false := decide_eq_false c3
    clear c3
    by_cases c11 : x9_1 < (l0.length : Int)
    ·rw [if_pos c11] at H
     have c11b0 : decide (x9_1 < (l0.length : Int)) = true := decide_eq_true c11
     clear c11
     by_cases c12 : 0 ≤ x9_1
     ·rw [if_pos c12] at H
      have c12b0 : decide (0 ≤ x9_1) = true := decide_eq_true c12
      clear c12
      by_cases c13 : x9_1 < (l0.length : Int)
      ·rw [if_pos c13] at H
       have c13b0 : decide (x9_1 < (l0.length : Int)) = true := decide_eq_true c13
       clear c13
       replace H := Option.bind_eq_some_iff.mp H
       obtain ⟨t163, A140, H⟩ := H
       (try dsimp only at H)
       have A14 := Aside0.mk A140; clear A140
       simp only [Option.some.injEq, Prod.mk.injEq] at H
       obtain ⟨rfl, rfl⟩ := H
       have p162 : 0 ≤ (x9_1 : Int) := of_decide_eq_true (by first | (with_reducible assumption) | assumption)
       have q162 : x9_1 < (l0.length : Int) := of_decide_eq_true (by first | (with_reducible assumption) | assumption)
       obtain ⟨ad162, e162, hx162_0, hx162_1⟩ := at_T50 HR0.out x9_1 p162 q162
       cases e162
       replace hx162_0 := cc_ HB hx162_0
       replace hx162_1 := cc_ HB hx162_1
       replace p162 := eq_true p162
       replace q162 := eq_true q162
       go_wp2_with (first | (go_at_call 30; (with_reducible refine (impl_Ear_hear_1.calls ((rd_T50 l0 x9_1).f0) ((rd_T50 l0 x9_1).f1) a1 t163 _ A14.out).mono ?_); rintro e w15 ⟨rfl, hb⟩; replace HB := (bs_ HB hb); (try clear hb); (try clear hb2); (try clear hk); (try clear hi)))
       go_ret2
       exact ⟨by first | rfl | (simp [errW_none, errW_some] <;> rfl) | (simp [*, errW_none, errW_some] <;> rfl), hbA_ HB.out⟩
      ·rw [if_neg c13] at H
       exact absurd H (by simp)
     ·rw [if_neg c12] at H
      exact absurd H (by simp)
    ·rw [if_neg c11] at H
     have c11b0 : decide (x9_1 < (l0.length : Int)) = false := decide_eq_false c11
     clear c11
     simp only [Option.some.injEq, Prod.mk.injEq] at H
     obtain ⟨rfl, rfl⟩ := H
     go_wp2
     go_ret2
     exact ⟨by first | rfl | (simp [errW_none, errW_some] <;> rfl) | (simp [*, errW_none, errW_some] <;> rfl), hbA_ HB.out⟩
theorem ins_copy_sz {P : Program} (w : World) (dT sT ty elem : TypeId) (g o dLen dCap : Nat) (a : Addr) (sLen sCap : Nat) (cur : Array Value) (t : TypeId) (cs : List Value) (size m : Nat)
    (hu : P.underlying dT = some (.slice elem)) (hs : (P.info? elem).map (·.size) = some size)
    (hg : w.heap[g]? = some (.cells cur t (0, 0))) (hm : Nat.min sLen dLen = m) (hn : cs.length = m * size)
    (hsrc : ∀ j v, cs[j]? = some v → w.cell? (a.add j) = some v) (hfit : o + cs.length ≤ cur.size) (h1 : ∀ v ∈ cs, v.oneCell' = true) :
    (Builtin.copy_ #[dT, sT] ty #[.slice (some ⟨g, o, none⟩) dLen dCap, .slice (some a) sLen sCap]).run P w =
      .ok (goInt m) (w.setRow g (cur.toList.take o ++ cs ++ cur.toList.drop (o + cs.length)).toArray) := by
  have hl := run_loadCells_list (P := P) w a cs hsrc
  have hst := run_storeCells_at P g o t cs 0 cur w hg (by simpa using hfit) h1
  cases hq : P.info? elem with
  | none => simp [hq] at hs
  | some i =>
    have hi : i.size = size := by simpa [hq] using hs
    simp [Builtin.copy_, run_underlying hu, Builtin.lenOf, Builtin.firstCells, sizeOf, typeInfo, hq, hi, hm, ← hn, hl, hst]
theorem ins_zeros_grow {P : Program} (w : World) (t ti ty e : TypeId) (i : TypeInfo) (z : Value) (size bytes : Nat) (ht : P.underlying t = some (.slice e)) {k : IntKind} (hti : P.underlying ti = some (.int k)) (hi : P.info? e = some i) (hz : i.zero = some z)
    (hsize : i.size = size) (hby : i.bytes = bytes) (hzs : z.cells.size = size) (hsz : 0 < size) (hb0 : 0 < bytes) (kx : IntKind) (n m cap : Nat) (A : Option Addr) (xs : List Value) (hm0 : 0 < m)
    (hbytes : (n + m) * bytes ≤ 140737488355328) (hcap : cap < n + m) (hfo : (Builtin.firstCells i.size n (.slice A n cap)).run P w.drew = .ok xs.toArray w.drew) :
    (Builtin.append_ #[t, ti] ty #[.slice A n cap, .int kx m]).run P w =
      .ok (.slice (some ⟨w.heap.size, 0, none⟩) (n + m) (grownCap w (n + m) cap e)) (w.drew.alloc (.cells (xs.toArray ++ Builtin.zeroCells z.cells m ++ Builtin.zeroCells z.cells (grownCap w (n + m) cap e - (n + m))) e)) := by
  subst hsize
  subst hby
  have hle : n + m ≤ 140737488355328 := Nat.le_trans (Nat.le_mul_of_pos_right _ hb0) hbytes
  have hw : IntKind.i64.wrap (m : Int) = m := by rw [IntKind.wrap_i64]; omega
  have hneg : ¬ ((m : Int) < 0) := by omega
  have hmb : m * i.bytes ≤ 140737488355328 := Nat.le_trans (Nat.mul_le_mul_right _ (Nat.le_add_left m n)) hbytes
  have hbig : ¬ (281474976710656 < (m : Int) * (i.bytes : Int)) := by
    rw [← Int.natCast_mul]
    omega
  have hn : ¬ (n + m ≤ cap) := by omega
  have h63' : ¬ (9223372036854775807 < ((n : Int) + (m : Int))) := by omega
  have hfit := growslice_fits hcap hbytes
  have h48' : ¬ (281474976710656 < Builtin.nextslicecap (n + m) cap * i.bytes) := by omega
  have hmz : ¬ (m * i.size = 0) := Nat.mul_ne_zero (by omega) (by omega)
  simp [Builtin.append_, run_underlying ht, run_underlying hti, sizeOf, typeInfo, zeroValue, hi, hz, asInt, asIntOf, hw, hneg, hbig, hn, h63', h48', Question.forced, hfo, newRow, grownCap, hmz]
theorem ins_list {α : Type} (pre xs post vs : List α) (k s : Nat) (hk : k ≤ xs.length) (hs : vs.length = s) (hp : s ≤ post.length) (L L1 : List α) (hL : L = pre ++ xs ++ post)
    (hL1 : L1 = L.take (pre.length + k + s) ++ xs.drop k ++ L.drop (pre.length + k + s + (xs.drop k).length)) :
    L1.take (pre.length + k) ++ vs ++ L1.drop (pre.length + k + vs.length) = pre ++ xs.take k ++ vs ++ xs.drop k ++ post.drop s ∧ L1.length = L.length := by
  obtain ⟨x1, x2, rfl, rfl⟩ : ∃ x1 x2, xs = x1 ++ x2 ∧ x1.length = k := ⟨xs.take k, xs.drop k, (List.take_append_drop k xs).symm, by rw [List.length_take]; omega⟩
  obtain ⟨p1, p2, rfl, rfl⟩ : ∃ p1 p2, post = p1 ++ p2 ∧ p1.length = s := ⟨post.take s, post.drop s, (List.take_append_drop s post).symm, by rw [List.length_take]; omega⟩
  rw [List.drop_left, List.take_left] at *
  have hLx : L = (pre ++ x1) ++ (x2 ++ p1) ++ p2 := by rw [hL]; simp [List.append_assoc]
  have e3 : L.drop (pre.length + x1.length + p1.length + x2.length) = p2 := by
    rw [hLx, List.drop_left' (by simp; omega)]
  obtain ⟨y, hy, hyl⟩ : ∃ y, L.take (pre.length + x1.length + p1.length) = pre ++ x1 ++ y ∧ y.length = p1.length := by
    refine ⟨(x2 ++ p1).take p1.length, ?_, by rw [List.length_take, List.length_append]; omega⟩
    rw [hLx, List.append_assoc, List.take_append, List.take_of_length_le (by simp), List.length_append, show pre.length + x1.length + p1.length - (pre.length + x1.length) = p1.length by omega, List.take_append_of_le_length (by simp)]
  rw [hy, e3] at hL1
  refine ⟨?_, by rw [hL1, hL]; simp [hyl]; omega⟩
  rw [hL1, hs]
  have t1 : (pre ++ x1 ++ y ++ x2 ++ p2).take (pre.length + x1.length) = pre ++ x1 := by
    rw [show pre ++ x1 ++ y ++ x2 ++ p2 = (pre ++ x1) ++ (y ++ x2 ++ p2) by simp [List.append_assoc]]
    exact List.take_left' (by simp)
  have t2 : (pre ++ x1 ++ y ++ x2 ++ p2).drop (pre.length + x1.length + p1.length) = x2 ++ p2 := by
    rw [show pre ++ x1 ++ y ++ x2 ++ p2 = (pre ++ x1 ++ y) ++ (x2 ++ p2) by simp [List.append_assoc]]
    exact List.drop_left' (by simp [hyl]; omega)
  rw [t1, t2, List.drop_left]
  simp [List.append_assoc]
theorem ins_inserted {α : Type} {d : Kd α} {e : Nat} {W w1 : World} {base i : Nat} {ok okp : Nat → Prop} {v v1 : Value} {xs : List α} {p : α} {inner cs : List Value} (h0 : ∀ k, v.ownBlock = some k → ok k) (hr : Reps (d.M W base (fun k => ok k ∧ some k ≠ v.ownBlock)) d.sz xs inner)
    (hp : d.M W base okp p cs) (hokp : ∀ k, okp k → ok k ∧ some k ≠ v.ownBlock) (hfresh : ∀ k, W.heap.size ≤ k → ok k) (hi : i ≤ xs.length)
    (hown : QRow w1 base e d.sz v1 (xs.length + 1) (inner.take (i * d.sz) ++ cs ++ inner.drop (i * d.sz))) (hg : W.grownBy w1 v.ownBlock) (hat : v1.ownBlock = v.ownBlock ∨ ∃ b, v1.ownBlock = some b ∧ W.heap.size ≤ b) :
    d.Q e w1 base ok v1 (xs.take i ++ [p] ++ xs.drop i) := by
  have hne : ∀ k, some k ≠ v.ownBlock → k < W.heap.size → some k ≠ v1.ownBlock := by
    intro k hk hlt
    rcases hat with hat | ⟨b, hb, hle⟩
    · rw [hat]; exact hk
    · rw [hb]; intro he; injection he with he; omega
  have step : ∀ {q : α} {c : List Value} {o : Nat → Prop}, d.M W base o q c → (∀ k, o k → ok k ∧ some k ≠ v.ownBlock) → d.M w1 base (fun k => ok k ∧ some k ≠ v1.ownBlock) q c := by
    intro q c o hq ho
    have h1 := d.M_move (w1 := w1) (fun k hk => hg.block k hk.2.2.1 (ho k hk.1).2) (d.M_bound hq)
    exact d.M_mono (fun k hk => ⟨(ho k hk.1).1, hne k (ho k hk.1).2 hk.2.2.1⟩) h1
  have hr' := hr.imp_ (R' := d.M w1 base (fun k => ok k ∧ some k ≠ v1.ownBlock)) (fun _ _ hq => step hq (fun _ hk => hk))
  refine ⟨fun k hk => ?_, _, by rw [show (xs.take i ++ [p] ++ xs.drop i).length = xs.length + 1 by simp; omega]; exact hown, ?_⟩
  · rcases hat with hat | ⟨b, hb, hle⟩
    · exact h0 k (hat ▸ hk)
    · rw [hb] at hk; injection hk with hk; exact hfresh k (by omega)
  · exact Kd.reps_append ((Kd.reps_take hr' hi).snoc (step hp hokp) (d.K_len (d.K_of_M hp))) (Kd.reps_drop hr')
set_option maxHeartbeats 4000000 in
set_option maxRecDepth 100000 in
theorem impl_Early_31.shift (b off n c i vb voff m vc : Nat) (cur vcur : Array Value) (cs vs : List Value) (w : World) (hi : i < n) (hm : 0 < m) (hroom : n + m ≤ c) (hc63 : c ≤ 9223372036854775807) (hvb : vb ≠ b)
    (hg : w.heap[b]? = some (.cells cur 50 (0, 0))) (hv : w.heap[vb]? = some (.cells vcur 50 (0, 0))) (hcur : off + c * 2 ≤ cur.size) (hcs : (cur.toList.drop off).take (n * 2) = cs) (hvl : vs.length = m * 2)
    (hvs : ∀ j v, vs[j]? = some v → w.cell? ⟨vb, voff + j, none⟩ = some v) (h1c : ∀ v ∈ cs, v.oneCell' = true) (h1v : ∀ v ∈ vs, v.oneCell' = true) :
    Calls Try.prog 31 #[.slice (some ⟨b, off, none⟩) n c, .int .i64 i, .slice (some ⟨vb, voff, none⟩) m vc] w fun e w' =>
      e = .returned (.slice (some ⟨b, off, none⟩) (n + m) c) ∧ ∃ A : Array Value, w' = w.drew.setRow b A ∧ A.size = cur.size ∧ A.toList = cur.toList.take off ++ cs.take (i * 2) ++ vs ++ cs.drop (i * 2) ++ (cur.toList.drop (off + n * 2)).drop (m * 2) := by
  have t46 := Try.underlying27
  obtain ⟨i0, hi0, hz0, hz1, hz2⟩ := info_parts info50
  have hsz : (Try.prog.info? 50).map (·.size) = some 2 := by rw [hi0]; simp [hz1]
  have hso : ∀ w, (sizeOf 50).run Try.prog w = .ok 2 w := fun w => by simp [sizeOf, typeInfo, hi0, hz1]
  have hcsl : cs.length = n * 2 := by rw [← hcs, List.length_take, List.length_drop, Array.length_toList]; omega
  have hp1 : ¬ ((m : Int) = 0) := by omega
  have hp2 : ¬ ((i : Int) = (n : Int)) := by omega
  have hov : ∀ lb cb, (callFunc 35 #[.slice (some ⟨vb, voff, none⟩) m vc, .slice (some ⟨b, off + (i + m) * 2, none⟩) lb cb]).run Try.prog w = .ok (.value (.bool false)) w := fun lb cb => by
    rw [run_callFunc_extern Try.func35 (by kernel_rfl) (by kernel_rfl) (by kernel_rfl) (e := Extern.SlicesOverlaps.overlaps #[27, 27] #[4]) (by kernel_rfl),
      Lib.run_overlaps_apart w 27 4 50 t46 2 hso ⟨vb, voff, none⟩ ⟨b, off + (i + m) * 2, none⟩ m vc lb cb hvb 50 50 vcur.size cur.size (by simp [World.shape?, hv]) (by simp [World.shape?, hg]) (by omega) (blk_frozen hv _) (blk_frozen hv _)]
    rfl
  have hdl : (cs.drop (i * 2)).length = (n - i) * 2 := by rw [List.length_drop, hcsl, Nat.sub_mul]
  have hgd : w.drew.heap[b]? = some (.cells cur 50 (0, 0)) := hg
  obtain ⟨A1, hA1⟩ : ∃ A1 : Array Value, A1 = (cur.toList.take (off + (i + m) * 2) ++ cs.drop (i * 2) ++ cur.toList.drop (off + (i + m) * 2 + (cs.drop (i * 2)).length)).toArray := ⟨_, rfl⟩
  have hsrc : ∀ j v, (cs.drop (i * 2))[j]? = some v → w.drew.cell? ((⟨b, off + i * 2, none⟩ : Addr).add j) = some v := fun j v hj => by
    rw [Addr.add_lit, cell_of_row w.drew b _ cur 50 (0, 0) hgd]
    rw [List.getElem?_drop, ← hcs] at hj
    have hlt : i * 2 + j < n * 2 := by
      have := (List.getElem?_eq_some_iff.1 hj).1
      rw [List.length_take] at this; omega
    rw [List.getElem?_take_of_lt hlt, List.getElem?_drop] at hj
    rw [← Array.getElem?_toList, show off + i * 2 + j = off + (i * 2 + j) by omega]
    exact hj
  have hcp1 : ∀ ty dc sc, (Builtin.copy_ #[27, 27] ty #[.slice (some ⟨b, off + (i + m) * 2, none⟩) (n + m - (i + m)) dc, .slice (some ⟨b, off + i * 2, none⟩) (n + m - i) sc]).run Try.prog w.drew = .ok (goInt ((n - i : Nat) : Int)) (w.drew.setRow b A1) := fun ty dc sc => by
    rw [hA1]
    exact ins_copy_sz w.drew 27 27 ty 50 b (off + (i + m) * 2) (n + m - (i + m)) dc ⟨b, off + i * 2, none⟩ (n + m - i) sc cur 50 (cs.drop (i * 2)) 2 (n - i) t46 hsz hgd (by simp only [Nat.min_def]; split <;> omega) hdl hsrc (by rw [hdl]; omega) (fun v hv => h1c v (List.mem_of_mem_drop hv))
  obtain ⟨hl2, hl1⟩ := ins_list (cur.toList.take off) cs (cur.toList.drop (off + n * 2)) vs (i * 2) (m * 2) (by omega) hvl (by rw [List.length_drop, Array.length_toList]; omega) cur.toList A1.toList
    (by rw [← hcs, ← List.drop_drop, List.append_assoc, List.take_append_drop, List.take_append_drop]) (by
      have hpl : (cur.toList.take off).length = off := by rw [List.length_take, Array.length_toList]; omega
      rw [hA1, hpl, show off + i * 2 + m * 2 = off + (i + m) * 2 by omega])
  have hpl : (cur.toList.take off).length = off := by rw [List.length_take, Array.length_toList]; omega
  rw [hpl] at hl2
  have hg1 : (w.drew.setRow b A1).heap[b]? = some (.cells A1 50 (0, 0)) := setRow_heap w.drew b cur A1 50 (0, 0) hgd
  obtain ⟨A2, hA2⟩ : ∃ A2 : Array Value, A2 = (A1.toList.take (off + i * 2) ++ vs ++ A1.toList.drop (off + i * 2 + vs.length)).toArray := ⟨_, rfl⟩
  have hcp2 : ∀ ty dc, (Builtin.copy_ #[27, 27] ty #[.slice (some ⟨b, off + i * 2, none⟩) (n + m - i) dc, .slice (some ⟨vb, voff, none⟩) m vc]).run Try.prog (w.drew.setRow b A1) = .ok (goInt (m : Int)) ((w.drew.setRow b A1).setRow b A2) := fun ty dc => by
    rw [hA2]
    exact ins_copy_sz _ 27 27 ty 50 b (off + i * 2) (n + m - i) dc ⟨vb, voff, none⟩ m vc A1 50 vs 2 m t46 hsz hg1 (by simp only [Nat.min_def]; split <;> omega) hvl
      (fun j v hj => by
        rw [Addr.add_lit]
        refine Eq.trans ?_ (hvs j v hj)
        show World.cell? (w.drew.setRow b A1) ⟨vb, voff + j, none⟩ = _
        unfold World.cell? World.setRow
        simp [Array.getElem?_modify, Ne.symm hvb]
        rfl) (by rw [hvl]; have : A1.size = cur.size := by simpa using hl1
                 omega) h1v
  have hfin : A2.size = cur.size := by
    have h1 : A1.size = cur.size := by simpa using hl1
    rw [hA2]; simp; omega
  have hfin2 : A2.toList = cur.toList.take off ++ cs.take (i * 2) ++ vs ++ cs.drop (i * 2) ++ (cur.toList.drop (off + n * 2)).drop (m * 2) := by rw [hA2]; exact hl2
  have HF := Aside0.mk hfin
  have HF2 := Aside0.mk hfin2
  have hw1 : IntKind.i64.wrap ((i : Int) + (m : Int)) = (i : Int) + (m : Int) := by rw [IntKind.wrap_i64]; omega
  have hb1 : (0 : Int) ≤ (i : Int) + (m : Int) := by omega
  have hin : i ≤ n := by omega
  have htn : ((i : Int) + (m : Int)).toNat = i + m := by omega
  have hb2 : ¬ (c = i + m) := by omega
  have hb3 : (i : Int) ≤ (n : Int) + (m : Int) := by omega
  have hb4 : ¬ (c = i) := by omega
  clear hfin hfin2 hl1 hl2 hg1 hgd hsrc hg hv hcur hcs hvl hvs h1c h1v hA1 hA2 hdl hcsl hpl hso hsz
  go_enter Try.func31, Try.ntmps31
  go_wp2_with (simp only [hov])
  go_region_law (refine step_copy_runI rfl _ _ 27 27 rfl _ _ (by simp [Act.eval, Act.put]) (by simp [Act.eval, Act.put]) (hcp1 _ _ _) ?_)
  go_wp2_with (at_builtin; refine wpList_copy_runI _ rfl _ _ 27 27 rfl _ _ rfl rfl (hcp2 _ _) ?_)
  go_ret
  exact ⟨rfl, A2, by rw [setRow_setRow], HF.out, HF2.out⟩
set_option maxHeartbeats 4000000 in
set_option maxRecDepth 100000 in
theorem impl_Early_31.grow (b off n c i vb voff m vc : Nat) (cur vcur : Array Value) (cs vs : List Value) (w : World) (hi : i < n) (hm : 0 < m) (hnc : n ≤ c) (hroom : c < n + m) (hbig : (n + m) * 16 ≤ 140737488355328)
    (hg : w.heap[b]? = some (.cells cur 50 (0, 0))) (hv : w.heap[vb]? = some (.cells vcur 50 (0, 0))) (hcur : off + c * 2 ≤ cur.size) (hcs : (cur.toList.drop off).take (n * 2) = cs) (hvl : vs.length = m * 2)
    (hvs : ∀ j v, vs[j]? = some v → w.cell? ⟨vb, voff + j, none⟩ = some v) (h1c : ∀ v ∈ cs, v.oneCell' = true) (h1v : ∀ v ∈ vs, v.oneCell' = true) :
    Calls Try.prog 31 #[.slice (some ⟨b, off, none⟩) n c, .int .i64 i, .slice (some ⟨vb, voff, none⟩) m vc] w fun e w' =>
      ∃ (N cap : Nat) (A0 A : Array Value), e = .returned (.slice (some ⟨N, 0, none⟩) (n + m) cap) ∧ N = w.heap.size ∧ w' = ((w.alloc (.cells A0 50)).drew.drew.setRow N A) ∧ n + m ≤ cap ∧ cap ≤ maxLen ∧ A.size = cap * 2 ∧ A.toList.take ((n + m) * 2) = cs.take (i * 2) ++ vs ++ cs.drop (i * 2) := by
  have t46 := Try.underlying27
  have t3 := Try.underlying3
  obtain ⟨i0, hi0, hz0, hz1, hz2⟩ := info_parts info50
  have hsz : (Try.prog.info? 50).map (·.size) = some 2 := by rw [hi0]; simp [hz1]
  have hcsl : cs.length = n * 2 := by rw [← hcs, List.length_take, List.length_drop, Array.length_toList]; omega
  have hp1 : ¬ ((m : Int) = 0) := by omega
  have hp2 : ¬ ((i : Int) = (n : Int)) := by omega
  have hp3 : ¬ ((n : Int) + (m : Int) ≤ (c : Int)) := by omega
  have hp4 : (c : Int) < (n : Int) + (m : Int) := by omega
  obtain ⟨k, hik⟩ : ∃ k, i + k = n + m := ⟨n + m - i, by omega⟩
  have hk0 : 0 < k := by omega
  have hkI : (n : Int) + (m : Int) - (i : Int) = (k : Int) := by omega
  have hgd : w.drew.heap[b]? = some (.cells cur 50 (0, 0)) := hg
  have cellb : ∀ (W : World), W.heap[b]? = some (.cells cur 50 (0, 0)) → ∀ j v, cs[j]? = some v → W.cell? ⟨b, off + j, none⟩ = some v := fun W hW j v hj => by
    rw [cell_of_row W b _ cur 50 (0, 0) hW]
    rw [← hcs] at hj
    have hlt : j < n * 2 := by
      have := (List.getElem?_eq_some_iff.1 hj).1
      rw [List.length_take] at this; omega
    rw [List.getElem?_take_of_lt hlt, List.getElem?_drop] at hj
    rw [← Array.getElem?_toList]
    exact hj
  obtain ⟨N, hN⟩ : ∃ N, N = w.heap.size := ⟨_, rfl⟩
  have hbN : b ≠ N := by have := (Array.getElem?_eq_some_iff.1 hg).1; omega
  have hvN : vb ≠ N := by have := (Array.getElem?_eq_some_iff.1 hv).1; omega
  obtain ⟨cap, hcap⟩ : ∃ cap, cap = grownCap w (i + k) c 50 := ⟨_, rfl⟩
  have hcge : n + m ≤ cap := by rw [hcap, ← hik]; exact grownCap_ge w (i + k) c 50
  have hcmx : cap ≤ maxLen := by rw [hcap]; exact grownCap_le_maxLen w (i + k) c 50 (by rw [hik]; simp only [maxLen]; omega)
  obtain ⟨z, hz⟩ : ∃ z : Value, z = (.agg #[(.int .i64 0), (.int .u8 0)]) := ⟨_, rfl⟩
  rw [← hz] at hz0
  obtain ⟨A0, hA0⟩ : ∃ A0, A0 = (cs.take (i * 2)).toArray ++ Builtin.zeroCells z.cells k ++ Builtin.zeroCells z.cells (cap - (i + k)) := ⟨_, rfl⟩
  have hzs : z.cells.size = 2 := by rw [hz]; rfl
  have hA0s : A0.size = cap * 2 := by
    rw [hA0]; simp only [Array.size_append, List.size_toArray, List.length_take, hcsl, size_zeroCells, hzs]; omega
  have hap : ∀ ty kx, (Builtin.append_ #[27, 3] ty #[.slice (some ⟨b, off, none⟩) i c, .int kx (k : Int)]).run Try.prog w = .ok (.slice (some ⟨N, 0, none⟩) (n + m) cap) (w.alloc (.cells A0 50)).drew := fun ty kx => by
    refine Eq.trans ?_ (show _ = Result.ok (Value.slice (some ⟨N, 0, none⟩) (n + m) cap) (w.drew.alloc (.cells A0 50)) from rfl)
    rw [ins_zeros_grow w 27 3 ty 50 i0 z 2 16 t46 t3 hi0 hz0 hz1 hz2 hzs (by omega) (by omega) kx i k c (some ⟨b, off, none⟩) (cs.take (i * 2)) hk0 (by rw [hik]; exact hbig) (by omega)
      (by rw [hz1]; exact run_firstCells_some (P := Try.prog) w.drew 2 i _ i c (cs.take (i * 2)) (by rw [List.length_take]; omega) (fun j v hj => by
        rw [Addr.add_lit]
        refine cellb w.drew hgd j v ?_
        rw [List.getElem?_take] at hj; split at hj
        · exact hj
        · cases hj)), ← hcap, ← hA0, ← hN, hik]
  have ha0 : ((w.alloc (.cells A0 50)).drew).heap[N]? = some (.cells A0 50 (0, 0)) := by rw [hN]; exact heap_alloc_new w _
  have haOld : ∀ k', k' ≠ N → k' < w.heap.size → (w.alloc (.cells A0 50)).drew.heap[k']? = w.heap[k']? := fun k' hk' hlt => heap_alloc_old w _ hlt
  have hbl : b < w.heap.size := (Array.getElem?_eq_some_iff.1 hg).1
  have hvl' : vb < w.heap.size := (Array.getElem?_eq_some_iff.1 hv).1
  obtain ⟨A1, hA1⟩ : ∃ A1 : Array Value, A1 = (A0.toList.take (i * 2) ++ vs ++ A0.toList.drop (i * 2 + vs.length)).toArray := ⟨_, rfl⟩
  have hcp1 : ∀ ty dc, (Builtin.copy_ #[27, 27] ty #[.slice (some ⟨N, i * 2, none⟩) (n + m - i) dc, .slice (some ⟨vb, voff, none⟩) m vc]).run Try.prog (w.alloc (.cells A0 50)).drew = .ok (goInt (m : Int)) ((w.alloc (.cells A0 50)).drew.setRow N A1) := fun ty dc => by
    rw [hA1]
    exact ins_copy_sz _ 27 27 ty 50 N (i * 2) (n + m - i) dc ⟨vb, voff, none⟩ m vc A0 50 vs 2 m t46 hsz ha0 (by simp only [Nat.min_def]; split <;> omega) hvl
      (fun j v hj => by
        rw [Addr.add_lit]
        refine Eq.trans ?_ (hvs j v hj)
        unfold World.cell?
        rw [haOld vb hvN hvl']) (by rw [hvl, hA0s]; omega) h1v
  have hA1s : A1.size = cap * 2 := by rw [hA1]; simp [hA0s, hvl]; omega
  have ha1 : (((w.alloc (.cells A0 50)).drew.setRow N A1).drew).heap[N]? = some (.cells A1 50 (0, 0)) := setRow_heap _ N A0 A1 50 (0, 0) ha0
  have haB : (((w.alloc (.cells A0 50)).drew.setRow N A1).drew).heap[b]? = some (.cells cur 50 (0, 0)) := by
    show ((w.alloc (.cells A0 50)).drew.setRow N A1).heap[b]? = _
    unfold World.setRow
    simp only [Array.getElem?_modify, if_neg (Ne.symm hbN)]
    rw [haOld b hbN hbl]; exact hg
  have hdl : (cs.drop (i * 2)).length = (n - i) * 2 := by rw [List.length_drop, hcsl, Nat.sub_mul]
  obtain ⟨A2, hA2⟩ : ∃ A2 : Array Value, A2 = (A1.toList.take ((i + m) * 2) ++ cs.drop (i * 2) ++ A1.toList.drop ((i + m) * 2 + (cs.drop (i * 2)).length)).toArray := ⟨_, rfl⟩
  have hcp2 : ∀ ty dc sc, (Builtin.copy_ #[27, 27] ty #[.slice (some ⟨N, (i + m) * 2, none⟩) (n + m - (i + m)) dc, .slice (some ⟨b, off + i * 2, none⟩) (n - i) sc]).run Try.prog ((w.alloc (.cells A0 50)).drew.setRow N A1).drew = .ok (goInt ((n - i : Nat) : Int)) (((w.alloc (.cells A0 50)).drew.setRow N A1).drew.setRow N A2) := fun ty dc sc => by
    rw [hA2]
    exact ins_copy_sz _ 27 27 ty 50 N ((i + m) * 2) (n + m - (i + m)) dc ⟨b, off + i * 2, none⟩ (n - i) sc A1 50 (cs.drop (i * 2)) 2 (n - i) t46 hsz ha1 (by simp only [Nat.min_def]; split <;> omega) hdl
      (fun j v hj => by
        rw [Addr.add_lit, Nat.add_assoc]
        exact cellb _ haB (i * 2 + j) v (by rwa [List.getElem?_drop] at hj)) (by rw [hdl, hA1s]; omega) (fun v hv => h1c v (List.mem_of_mem_drop hv))
  have hfin : A2.size = cap * 2 := by rw [hA2]; simp [hA1s, hdl]; omega
  have hfin2 : A2.toList.take ((n + m) * 2) = cs.take (i * 2) ++ vs ++ cs.drop (i * 2) := by
    have e0 : A0.toList.take (i * 2) = cs.take (i * 2) := by
      rw [hA0]; simp only [Array.toList_append, List.append_assoc]
      exact List.take_left' (by rw [List.length_take]; omega)
    have e1 : A1.toList.take ((i + m) * 2) = cs.take (i * 2) ++ vs := by
      rw [hA1, e0]
      exact List.take_left' (by rw [List.length_append, List.length_take, hvl]; omega)
    rw [hA2, e1]
    exact List.take_left' (by rw [List.length_append, List.length_append, List.length_take, hvl, hdl]; omega)
  have HF := Aside0.mk hfin
  have HF2 := Aside0.mk hfin2
  have HC := Aside0.mk hcge
  have HCM := Aside0.mk hcmx
  have HN := Aside0.mk hN
  have hw1 : IntKind.i64.wrap ((i : Int) + (m : Int)) = (i : Int) + (m : Int) := by rw [IntKind.wrap_i64]; omega
  have hb1 : (0 : Int) ≤ (i : Int) + (m : Int) := by omega
  have hin : i ≤ n := by omega
  have hinm : i ≤ n + m := by omega
  have hic : i ≤ c := by omega
  have htn : ((i : Int) + (m : Int)).toNat = i + m := by omega
  have hb2 : ¬ (cap = i + m) := by omega
  have hb3 : (i : Int) + (m : Int) ≤ (n : Int) + (m : Int) := by omega
  have hb4 : ¬ (c = i) := by omega
  have hb5 : ¬ (cap = i) := by omega
  have hb6 : (i : Int) ≤ (n : Int) + (m : Int) := by omega
  have hb7 : (n : Int) + (m : Int) ≤ (cap : Int) := by omega
  clear hfin hfin2 hg hv hcur hcs hvl hvs h1c h1v hA1 hA2 hA0 hdl hcsl hsz ha0 ha1 haB haOld hbl hvl' hcge hcmx hA0s hA1s hN hcap hz hz0 hzs hgd cellb hik hk0
  go_enter Try.func31, Try.ntmps31
  go_wp2_with (first | (at_builtin; refine Lib.wpList_append_run _ rfl _ _ 27 3 rfl _ _ rfl rfl _ _ (hap _ _) ?_) | (refine wpList_copy_runI _ rfl _ _ 27 27 rfl _ _ rfl rfl (hcp1 _ _) ?_))
  go_region_law (refine step_copy_runI rfl _ _ 27 27 rfl _ _ (by simp [Act.eval, Act.put]) (by simp [Act.eval, Act.put]) (hcp2 _ _ _) ?_)
  go_wp2
  go_ret
  exact ⟨N, cap, A0, A2, rfl, HN.out, (setRow_setRow ((w.alloc (.cells A0 50)).drew.drew) N A1 A2), HC.out, HCM.out, HF.out, HF2.out⟩
set_option maxHeartbeats 4000000 in
set_option maxRecDepth 100000 in
theorem impl_Early_31.last (A : Option Addr) (n c vb vc : Nat) (w w1 : World) (v1 : Value) (hnc : n ≤ c)
    (hap : ∀ ty, (Builtin.append_ #[27, 27] ty #[.slice A n c, .slice (some ⟨vb, 0, none⟩) 1 vc]).run Try.prog w = .ok v1 w1) :
    Calls Try.prog 31 #[.slice A n c, .int .i64 n, .slice (some ⟨vb, 0, none⟩) 1 vc] w fun e w' => e = .returned v1 ∧ w' = w1 := by
  have t46 := Try.underlying27
  obtain ⟨i0, hi0, hz0, hz1, hz2⟩ := info_parts info50
  rcases A with _ | ⟨b, off, pth⟩ <;> (by_cases hcn : c = n)
  all_goals (try subst hcn)
  all_goals go_enter Try.func31, Try.ntmps31
  all_goals go_wp2_with (first | (at_builtin; refine Lib.wpList_append_run _ rfl _ _ 27 27 rfl _ _ rfl rfl _ _ (hap _) ?_))
  all_goals go_ret
  all_goals exact ⟨rfl, rfl⟩
set_option maxHeartbeats 1000000 in
theorem impl_Early_31.Q {α : Type} (d : Kd α) (hd : d.sz = 2) {w0 W : World} (base : Nat) (v : Value) (xs : List α) (p : α) (cs : List Value) (ok okp : Nat → Prop) (i : Nat) (hi : i ≤ xs.length) (hp : d.M W base okp p cs) (hokp : ∀ k, okp k → ok k ∧ some k ≠ v.ownBlock) (hfresh : ∀ k, W.heap.size ≤ k → ok k)
    (HO : d.Q 50 W base ok v xs) (HB : Below base w0 W) (hbase : base ≤ W.heap.size) (hl : (xs.length + 1) * 16 ≤ 140737488355328) :
    Calls Try.prog 31 #[v, .int .i64 i, .slice (some ⟨W.heap.size, 0, none⟩) 1 1] (W.alloc (.cells cs.toArray 50)) fun e w' =>
      ∃ v1, e = .returned v1 ∧ d.Q 50 w' base ok v1 (xs.take i ++ [p] ++ xs.drop i) ∧ Below base w0 w' ∧ W.grownBy w' v.ownBlock ∧ (v1.ownBlock = v.ownBlock ∨ ∃ b, v1.ownBlock = some b ∧ W.heap.size ≤ b) := by
  have hqb : ∀ k, v.ownBlock = some k → base ≤ k := Kd.Q_base HO
  by_cases hin : i < xs.length
  · have HO' := HO
    obtain ⟨h0, inner, hown, hr⟩ := HO
    have hcl : cs.length = 1 * 2 := by rw [d.K_len (d.K_of_M hp), hd]
    have h1s := d.K_one (d.K_of_M hp)
    have h1c : ∀ u ∈ inner, u.oneCell' = true := Kd.reps_one hr (by omega) (fun _ _ h => d.K_one (d.K_of_M h))
    rw [hd] at hown
    have hown' := hown
    rcases hown.2 with ⟨hn0, _⟩ | ⟨g, off, cap, cur, rfl, hb, hh, hnc, hmx, hsz, htk⟩
    · omega
    have hgl := blk_lt hh
    have hne : W.heap.size ≠ g := by omega
    have hh2 : (W.alloc (.cells cs.toArray 50)).heap[g]? = some (.cells cur 50 (0, 0)) := by rw [heap_alloc_old W _ hgl]; exact hh
    have hv2 : (W.alloc (.cells cs.toArray 50)).heap[W.heap.size]? = some (.cells cs.toArray 50 (0, 0)) := heap_alloc_new W _
    have hvs : ∀ j u, cs[j]? = some u → (W.alloc (.cells cs.toArray 50)).cell? ⟨W.heap.size, 0 + j, none⟩ = some u := fun j u hj => by
      rw [cell_of_row _ _ _ _ _ _ hv2, ← Array.getElem?_toList, Nat.zero_add]; exact hj
    have hmx' : off + cap ≤ 9223372036854775807 := by have := hmx; simp only [maxLen] at this; omega
    by_cases hroom : xs.length + 1 ≤ cap
    · have hc := impl_Early_31.shift g (off * 2) xs.length cap i W.heap.size 0 1 1 cur cs.toArray inner cs (W.alloc (.cells cs.toArray 50)) hin (by omega) hroom (by omega) hne hh2 hv2 (by omega) htk hcl hvs h1c h1s
      refine Calls.mono hc ?_
      rintro e w' ⟨rfl, A, rfl, hA1, hA2⟩
      have hg : W.grownBy ((W.alloc (.cells cs.toArray 50)).drew.setRow g A) (Value.slice (some ⟨g, off * 2, none⟩) xs.length cap).ownBlock := by
        refine ⟨rfl, rfl, rfl, ?_, fun k hk hkne => ?_⟩
        · show W.heap.size ≤ ((W.alloc (.cells cs.toArray 50)).heap.modify g _).size
          rw [Array.size_modify]; exact Nat.le_trans (Nat.le_succ _) (Nat.le_of_eq (World.size_alloc W _).symm)
        · have hkg : ¬ g = k := fun he => hkne (by rw [he]; rfl)
          show ((W.alloc (.cells cs.toArray 50)).heap.modify g _)[k]? = _
          rw [Array.getElem?_modify, if_neg hkg]
          exact heap_alloc_old W _ hk
      refine ⟨_, rfl, ?_, HB.grown hg hbase (fun k hk => hqb k hk), hg, .inl rfl⟩
      refine ins_inserted h0 hr hp hokp hfresh hi ?_ hg (.inl rfl)
      rw [hd]
      refine ⟨by simp [hown.1, hcl]; omega, .inr ⟨g, off, cap, A, rfl, hb, setRow_heap _ g cur A 50 (0, 0) hh2, hroom, hmx, by omega, ?_⟩⟩
      have hpl : (cur.toList.take (off * 2)).length = off * 2 := by rw [List.length_take, Array.length_toList]; omega
      have hil := hown.1
      rw [hA2, List.append_assoc, List.append_assoc, List.append_assoc, List.drop_left' hpl, ← List.append_assoc, ← List.append_assoc]
      exact List.take_left' (by simp [hil, hcl]; omega)
    · have hc := impl_Early_31.grow g (off * 2) xs.length cap i W.heap.size 0 1 1 cur cs.toArray inner cs (W.alloc (.cells cs.toArray 50)) hin (by omega) hnc (by omega) hl hh2 hv2 (by omega) htk hcl hvs h1c h1s
      refine Calls.mono hc ?_
      rintro e w' ⟨N, cp, A0, A, rfl, hN, rfl, hcp1, hcp2, hA1, hA2⟩
      have hNs : N = W.heap.size + 1 := by rw [hN]; exact World.size_alloc W _
      have hNh : ((W.alloc (.cells cs.toArray 50)).alloc (.cells A0 50)).heap[N]? = some (.cells A0 50 (0, 0)) := by rw [hN]; exact heap_alloc_new _ _
      have hg : W.grownBy (((W.alloc (.cells cs.toArray 50)).alloc (.cells A0 50)).drew.drew.setRow N A) (Value.slice (some ⟨g, off * 2, none⟩) xs.length cap).ownBlock := by
        refine ⟨rfl, rfl, rfl, ?_, fun k hk hkne => ?_⟩
        · show W.heap.size ≤ (((W.alloc (.cells cs.toArray 50)).alloc (.cells A0 50)).heap.modify N _).size
          rw [Array.size_modify, World.size_alloc, World.size_alloc]; omega
        · have hkN : ¬ N = k := by omega
          show (((W.alloc (.cells cs.toArray 50)).alloc (.cells A0 50)).heap.modify N _)[k]? = _
          rw [Array.getElem?_modify, if_neg hkN, heap_alloc_old (W.alloc (.cells cs.toArray 50)) _ (by rw [World.size_alloc]; omega)]
          exact heap_alloc_old W _ hk
      have hat : (Value.slice (some ⟨N, 0, none⟩) (xs.length + 1) cp).ownBlock = (Value.slice (some ⟨g, off * 2, none⟩) xs.length cap).ownBlock ∨ ∃ b, (Value.slice (some ⟨N, 0, none⟩) (xs.length + 1) cp).ownBlock = some b ∧ W.heap.size ≤ b := .inr ⟨N, rfl, by omega⟩
      refine ⟨_, rfl, ?_, HB.grown hg hbase (fun k hk => hqb k hk), hg, hat⟩
      refine ins_inserted h0 hr hp hokp hfresh hi ?_ hg hat
      rw [hd]
      refine ⟨by simp [hown.1, hcl]; omega, .inr ⟨N, 0, cp, A, by rw [Nat.zero_mul], by omega, setRow_heap _ N A0 A 50 (0, 0) hNh, hcp1, by rw [Nat.zero_add]; exact hcp2, by rw [Nat.zero_add, hA1]; omega, ?_⟩⟩
      rw [Nat.zero_mul, List.drop_zero, hA2]
  · obtain rfl : i = xs.length := by omega
    obtain ⟨A, c, rfl, hxc⟩ := Kd.Q_slice HO
    have hA : A = none → xs.length = c := by
      intro hAn
      obtain ⟨h0, inner, hown, hr⟩ := HO
      rcases hown.2 with ⟨hn0, A', he, _⟩ | ⟨g, off, cap, cur, he, _⟩
      · simp only [Value.slice.injEq] at he; omega
      · simp only [Value.slice.injEq] at he; rw [hAn] at he; exact absurd he.1 (by simp)
    have hinfo : (Try.prog.info? 50).map (fun i => (i.zero, i.size, i.bytes)) = some (some ((.agg #[(.int .i64 0), (.int .u8 0)])), d.sz, 16) := by rw [hd]; exact info50
    obtain ⟨v1, w1, hr, h1, h2, h3, h4⟩ := Kd.Q_run (P := Try.prog) d base 27 27 50 _ 16 Try.underlying27 hinfo (by rw [hd]; rfl) (by omega) (by omega) _ xs p cs ok okp hp hokp hfresh HO HB hbase hl
    refine Calls.mono (impl_Early_31.last A xs.length c W.heap.size 1 _ w1 v1 hxc (fun ty => ?_)) ?_
    · obtain ⟨v1', w1', hr', _⟩ := Kd.Q_run (P := Try.prog) d base 27 ty 50 _ 16 Try.underlying27 hinfo (by rw [hd]; rfl) (by omega) (by omega) _ xs p cs ok okp hp hokp hfresh HO HB hbase hl
      exact hr
    · rintro e w' ⟨rfl, rfl⟩
      refine ⟨_, rfl, ?_, h2, h3, h4⟩
      rw [List.take_of_length_le (Nat.le_refl _), List.drop_of_length_le (Nat.le_refl _), List.append_nil]
      exact h1
theorem impl_Early_31.calls {α : Type} (d : Kd α) (hd : d.sz = 2) {w0 W : World} (base : Nat) (v : Value) (xs : List α) (p : α) (cs : List Value) (ok okp : Nat → Prop) (ix : Int) (h0 : 0 ≤ ix) (h1 : ix ≤ (xs.length : Int)) (hp : d.M W base okp p cs) (hokp : ∀ k, okp k → ok k ∧ some k ≠ v.ownBlock) (hfresh : ∀ k, W.heap.size ≤ k → ok k)
    (HO : d.Q 50 W base ok v xs) (HB : Below base w0 W) (hbase : base ≤ W.heap.size) (hl : (xs.length + 1) * 16 ≤ 140737488355328) :
    Calls Try.prog 31 #[v, .int .i64 ix, .slice (some ⟨W.heap.size, 0, none⟩) 1 1] (W.alloc (.cells cs.toArray 50)) fun e w' =>
      ∃ v1, e = .returned v1 ∧ d.Q 50 w' base ok v1 (xs.take ix.toNat ++ [p] ++ xs.drop ix.toNat) ∧ Below base w0 w' ∧ W.grownBy w' v.ownBlock ∧ (v1.ownBlock = v.ownBlock ∨ ∃ b, v1.ownBlock = some b ∧ W.heap.size ≤ b) := by
  obtain ⟨i, rfl⟩ := Int.eq_ofNat_of_zero_le h0
  exact impl_Early_31.Q d hd base v xs p cs ok okp i (by omega) hp hokp hfresh HO HB hbase hl
end Go.Proofs.Ytgemkjclamlmbaa.PFnListening
