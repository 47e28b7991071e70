/- Printed by wip/xp/xprint.sh out of the translation, for this claim: what each function answers, as a plain function, and that the machine does just that. No condition. -/
import Derived.Test.YtpbeljcgcdilnaaPFnSegmentFromx0
import Derived.Test.YtpbeljcgcdilnaaPFnSegmentFromx7
namespace Go.Proofs.Ytpbeljcgcdilnaa.PFnSegmentFrom
open Go.RowKit Go.Proofs.YtpbeljcgcdilnaaW.PrintWords Go.Proofs.YtpbeljcgcdilnaaW.PrintLast Go.Proofs.YtpbeljcgcdilnaaW.PrintMore
attribute [local go_sem] max2_int min2_int max_two min_two max_three min_three max_four min_four   -- for this text's walks alone
set_option linter.unusedVariables false
set_option linter.unusedSimpArgs false
def impl_Segment_copy.f (a0_0 : Int) (a0_1 : Int) (a0_2 : Int) (a0_3 : Int) (a0_4 : Int) (a0_5 : Bool) (a0_6 : Bool) (a0_7 : Bool) (a0_8 : Bool) (l0_9 : List (S90)) (l0_10 : List Int) : Option (Int × Int × Int × Int × Int × Bool × Bool × Bool × Bool × (List (S90)) × List Int) := (impl_Range_92.f l0_9).bind fun t305 => ((impl_clone_byte.f l0_10).bind fun t308 => (some (a0_0, a0_1, a0_2, a0_3, a0_4, a0_5, a0_6, a0_7, a0_8, t305, t308)))
def impl_Segment_copy.T1 : Bool × List (List Nat × List Nat) := (true, [([], []), ([0], [0]), ([1], [1]), ([], []), ([3], [3]), ([4, 2], [4]), ([0, 1, 2, 3, 4], []), ([6, 2, 5, 0, 1, 2, 3, 4], [2, 6]), ([0, 1, 2, 3, 4, 5, 6, 7], []), ([8, 5, 7, 0, 1, 2, 3, 4, 5, 6, 7], [5, 8])])
def impl_Segment_copy.B1 : List Nat := [0, 1, 3, 0, 8, 31, 31, 127, 255, 511]
theorem impl_Segment_copy.tab1 : rtab .any (opsOf Try.f63 1) = impl_Segment_copy.T1 := by kernel_rfl
theorem impl_Segment_copy.bits1 : waitsOk impl_Segment_copy.T1.2 impl_Segment_copy.B1 = true := by kernel_rfl
set_option maxHeartbeats 8000000 in
set_option maxRecDepth 100000 in
theorem impl_Segment_copy.calls (a0_0 : Int) (a0_1 : Int) (a0_2 : Int) (a0_3 : Int) (a0_4 : Int) (a0_5 : Bool) (a0_6 : Bool) (a0_7 : Bool) (a0_8 : Bool) (A0_9 : Option Addr) (c0_9 : Nat) (l0_9 : List (S90)) (A0_10 : Option Addr) (c0_10 : Nat) (l0_10 : List Int) (r1 : Int) (r2 : Int) (r3 : Int) (r4 : Int) (r5 : Int) (r6 : Bool) (r7 : Bool) (r8 : Bool) (r9 : Bool) (r10 : List (S90)) (r11 : List Int) (w : World) (hr0_9 : Kd.C k90 w A0_9 l0_9.length l0_9) (hc0_9 : l0_9.length ≤ c0_9) (hr0_10 : Kd.C (Kd.int .u8) w A0_10 l0_10.length l0_10) (hc0_10 : l0_10.length ≤ c0_10) (h : impl_Segment_copy.f a0_0 a0_1 a0_2 a0_3 a0_4 a0_5 a0_6 a0_7 a0_8 l0_9 l0_10 = some (r1, r2, r3, r4, r5, r6, r7, r8, r9, r10, r11)) :
  Calls Try.prog 63 #[.agg #[.int .i64 a0_0, .int .i64 a0_1, .int .i64 a0_2, .int .i64 a0_3, .int .i64 a0_4, .bool a0_5, .bool a0_6, .bool a0_7, .bool a0_8, .slice A0_9 l0_9.length c0_9, .slice A0_10 l0_10.length c0_10]] w fun e w' => ∃ v9_ v10_ : Value, e = .returned (.agg #[.int .i64 r1, .int .i64 r2, .int .i64 r3, .int .i64 r4, .int .i64 r5, .bool r6, .bool r7, .bool r8, .bool r9, v9_, v10_]) ∧ Kd.R k90 90 w' w.heap.size (fun _ => True) v9_ r10 ∧ Kd.R (Kd.int .u8) 5 w' w.heap.size (fun _ => True) v10_ r11 ∧ Below w.heap.size w w' := by
 have hu52 := Try.underlying52; have HR0_9 := Aside0.mk hr0_9; have HC0_9 := Aside0.mk hc0_9; clear hr0_9 hc0_9; have HR0_10 := Aside0.mk hr0_10; have HC0_10 := Aside0.mk hc0_10; clear hr0_10 hc0_10
 have HB := Aside0.mk (Below.refl w.heap.size w)
 have H : ((impl_Range_92.f l0_9).bind fun t305 => ((impl_clone_byte.f l0_10).bind fun t308 => (some (a0_0, a0_1, a0_2, a0_3, a0_4, a0_5, a0_6, a0_7, a0_8, t305, t308)))) = some (r1, r2, r3, r4, r5, r6, r7, r8, r9, r10, r11) := h
 clear h
 replace H := Option.bind_eq_some_iff.mp H
 obtain ⟨t305, A20, H⟩ := H
 (try dsimp only at H)
 have A2 := Aside0.mk A20; clear A20
 replace H := Option.bind_eq_some_iff.mp H
 obtain ⟨t308, A30, H⟩ := H
 (try dsimp only at H)
 have A3 := Aside0.mk A30; clear A30
 simp only [Option.some.injEq, Prod.mk.injEq] at H
 obtain ⟨rfl, rfl, rfl, rfl, rfl, rfl, rfl, rfl, rfl, rfl, rfl⟩ := H
 go_enter Try.func63, Try.ntmps63
 try go_wp2_with (first | ((with_reducible refine gate_dst (N := 1) rfl ?_); refine box_ (N := 1) (cs := #[.int .i64 a0_0, .int .i64 a0_1, .int .i64 a0_2, .int .i64 a0_3, .int .i64 a0_4, .bool a0_5, .bool a0_6, .bool a0_7, .bool a0_8, .slice A0_9 l0_9.length c0_9, .slice A0_10 l0_10.length c0_10]) (t := 52) (fun gb303 hg w4 hbox hb => ?_); have BK303 := Aside0.mk (hbox); have GW303 := ge_ hg HB; have GE303 := ge_ hg HB; replace HB := (bs_ HB hb); clear hb hbox hg) | ((with_reducible refine gate_dst (N := 2) rfl ?_); refine box_ (N := 2) (cs := #[.int .i64 0, .int .i64 0, .int .i64 0, .int .i64 0, .int .i64 0, .bool false, .bool false, .bool false, .bool false, .slice none 0 0, .slice none 0 0]) (t := 52) (fun gb304 hg w5 hbox hb => ?_); have BK304 := Aside0.mk (hbox); have GW304 := ge_ hg HB; have GE304 := ge_ hg HB; replace HB := (bs_ HB hb); have NB303_304 := nl_ hg BK303; have NB304_303 := ng_ hg BK303; replace BK303 := (bbA_ BK303 hb); clear hb hbox hg))
 replace BK303 := Aside0.mk (blk_drew BK303.out); replace BK304 := Aside0.mk (blk_drew BK304.out); replace HB := (bd_ HB)
 refine start_ (n := 10) (S := fun w' => w'.cell? ⟨gb303, 0, none⟩ = some (.int .i64 a0_0) ∧ w'.cell? ⟨gb303, 1, none⟩ = some (.int .i64 a0_1) ∧ w'.cell? ⟨gb303, 2, none⟩ = some (.int .i64 a0_2) ∧ w'.cell? ⟨gb303, 3, none⟩ = some (.int .i64 a0_3) ∧ w'.cell? ⟨gb303, 4, none⟩ = some (.int .i64 a0_4) ∧ w'.cell? ⟨gb303, 5, none⟩ = some (.bool a0_5) ∧ w'.cell? ⟨gb303, 6, none⟩ = some (.bool a0_6) ∧ w'.cell? ⟨gb303, 7, none⟩ = some (.bool a0_7) ∧ w'.cell? ⟨gb303, 8, none⟩ = some (.bool a0_8) ∧ w'.cell? ⟨gb303, 9, none⟩ = some (.slice A0_9 l0_9.length c0_9) ∧ w'.cell? ⟨gb303, 10, none⟩ = some (.slice A0_10 l0_10.length c0_10)) (ds := [7, 9]) #[false, false, false, false, false, false, false, false, false, false] (by kernel_rfl) rfl rfl (cz11 BK303.out) (fun hHeld => ?_); refine with_tabW impl_Segment_copy.tab1 impl_Segment_copy.bits1 (fun HT_ HW_ => ?_)
 generalize w5.drew = w6 at BK303 BK304 HB hHeld ⊢
 refine pu_ (i := 0) (N := some 3) HT_ ?_; refine pu_ (i := 3) (N := some 6) HT_ ?_; refine tk_ (i := 1) (N := some 4) HT_ HW_ hHeld ?_; refine tk_ (i := 4) (N := some 7) HT_ HW_ hHeld ?_
 refine on_ (i := 2) (N := some 5) HT_ (fun K hK => ?_)
 refine goes_ Try.func92 (by kernel_rfl) rfl #[.slice A0_9 l0_9.length c0_9] (by rfl) rfl rfl ar_ ?_
 with_reducible refine (impl_Range_92.calls _ _ l0_9 t305 _ ?side1 ?side2 A2.out).mono ?_
 (case side1 => exact kC_ (Kd.C_below HR0_9.out HB.out))
 (case side2 => exact HC0_9.out)
 rintro e w7 ⟨v306, rfl, ho0, hb⟩
 refine ⟨_, rfl, ?_⟩
 have HO307 := Aside0.mk (Kd.R_lower ho0 (below_size (hbA_ HB.out))); replace BK303 := (bbA_ BK303 hb); replace BK304 := (bbA_ BK304 hb); replace HB := (bs_ HB hb); (try clear hb); (try clear hb2); (try clear hk); (try clear hi); (try clear ho0)
 refine hK.out _ _ (cz11 BK303.out) (fun hHeld => ?_)
 clear hK K; refine nm_ 5 ?_; refine pu_ (i := 6) (N := some 9) HT_ ?_
 refine on_ (i := 5) (N := some 8) HT_ (fun K hK => ?_)
 refine goes_ Try.func93 (by kernel_rfl) rfl #[.slice A0_10 l0_10.length c0_10] (by rfl) rfl rfl ar_ ?_
 with_reducible refine (impl_clone_byte.calls _ _ l0_10 t308 _ ?side1 ?side2 A3.out).mono ?_
 (case side1 => exact kC_ (Kd.C_below HR0_10.out HB.out))
 (case side2 => exact HC0_10.out)
 rintro e w8 ⟨v309, rfl, ho0, hb⟩
 refine ⟨_, rfl, ?_⟩
 replace HO307 := Aside0.mk (Kd.R_below (kR_ HO307.out) hb); have HO310 := Aside0.mk (Kd.R_lower ho0 (below_size (hbA_ HB.out))); replace BK303 := (bbA_ BK303 hb); replace BK304 := (bbA_ BK304 hb); replace HB := (bs_ HB hb); (try clear hb); (try clear hb2); (try clear hk); (try clear hi); (try clear ho0)
 obtain ⟨Ao9, co9, eo9⟩ := Kd.R_slice HO307.out
 (first | subst eo9 | (injection eo9 with f1_ f2_ f3_; have f4_ := f1_.symm; have f5_ := f3_.symm; clear f1_ f2_ f3_; subst f4_; subst f5_))
 obtain ⟨Ao11, co11, eo11⟩ := Kd.R_slice HO310.out
 (first | subst eo11 | (injection eo11 with f1_ f2_ f3_; have f4_ := f1_.symm; have f5_ := f3_.symm; clear f1_ f2_ f3_; subst f4_; subst f5_))
 refine hK.out _ _ (cz11 BK303.out) (fun hHeld => ?_)
 clear hK K; refine nm_ 8 ?_
 refine last_ (i := 7) (N := none) #[true, true, true, true, true, true, true, true, false, false] rfl rfl (one_of HT_.out (by kernel_rfl)) (by decide) (fun K hK => ?_)
 have hs10 : w8.cell? ⟨gb303, 9, none⟩ = some (.slice A0_9 l0_9.length c0_9) := bc_ BK303 9
 have hfs10 := blk_frozen BK303.out 9
 have hns10_1 := NB304_303.out; have hms10_1 := NB303_304.out
 refine skip_ (w1 := ?_) (by rfl) rfl ?_ ?_
 rotate_left
 ·go_simp
  rfl
 refine hK.out _ _ ?_
 clear hK K; refine pu_ (i := 8) (N := some 10) HT_ ?_
 refine last_ (i := 9) (N := none) #[true, true, true, true, true, true, true, true, true, true] rfl rfl (one_of HT_.out (by kernel_rfl)) (by decide) (fun K hK => ?_)
 have hs12 : w8.cell? ⟨gb303, 10, none⟩ = some (.slice A0_10 l0_10.length c0_10) := bc_ BK303 10
 have hfs12 := blk_frozen BK303.out 10
 have hns12_1 := NB304_303.out; have hms12_1 := NB303_304.out
 refine skip_ (w1 := ?_) (by rfl) rfl ?_ ?_
 rotate_left
 ·go_simp
  rfl
 refine hK.out _ _ ?_
 clear hK K
 refine done_ (done_of HT_.out (by kernel_rfl)) ?_
 have hnb13 := NB303_304.out; have hnc13 := NB304_303.out; have Z14 := zz11 BK303; have Z15 := zz11 BK304
 try go_wp2
 refine bodyPost_ret (results_cell_row rfl _ _ gb304 52 #[.int .i64 a0_0, .int .i64 a0_1, .int .i64 a0_2, .int .i64 a0_3, .int .i64 a0_4, .bool a0_5, .bool a0_6, .bool a0_7, .bool a0_8, .slice Ao9 t305.length co9, .slice Ao11 t308.length co11] (0, 0) _ rfl (by refine kb_ ?_; refine pz11 (cs := #[.int .i64 0, .int .i64 0, .int .i64 0, .int .i64 0, .int .i64 0, .bool false, .bool false, .bool false, .bool false, .slice none 0 0, .slice none 0 0]) ?_; exact kf_ BK304.out) Try.underlying52 rfl (by kernel_rfl)) rfl ?_
 exact ⟨_, _, by first | rfl | (simp [errW_none, errW_some] <;> rfl) | (simp [*, errW_none, errW_some] <;> rfl), by refine kR_ ?_; exact rfm_ ((Kd.R_far (p := ⟨gb303, 10, none⟩) (Kd.R_far (p := ⟨gb303, 9, none⟩) (Kd.R_types (Kd.R_types HO307.out BK303.out (by decide)) BK304.out (by decide)) (fun _ hk => hk.1.2) (.slice Ao9 t305.length co9)) (fun _ hk => hk.1.2) (.slice Ao11 t308.length co11))) (fun _ hk => trivial), by refine kR_ ?_; exact rfm_ ((Kd.R_far (p := ⟨gb303, 10, none⟩) (Kd.R_far (p := ⟨gb303, 9, none⟩) (Kd.R_types (Kd.R_types HO310.out BK303.out (by decide)) BK304.out (by decide)) (fun _ hk => hk.1.2) (.slice Ao9 t305.length co9)) (fun _ hk => hk.1.2) (.slice Ao11 t308.length co11))) (fun _ hk => trivial), hbA_ HB.out⟩
mutual
def impl_SegmentFrom.j0 : Nat → List Int → Int → Int → Bool → Option (Int × Int × Int × Int × Int × Bool × Bool × Bool × Bool × (List (S90)) × List Int × Bool)
 | 0, _, _, _, _ => none
 | k + 1, x0, x1, x2, x24 => if x24 = true then (some (0, 0, 0, 0, 0, false, false, false, false, ([] : List (S90)), ([] : List Int), false)) else (if 7 < (x0.length : Int) then (if 0 < (x0.length : Int) then (if 1 < (x0.length : Int) then ((impl_NumberAt.f k x0 2 2).bind fun t316 => ((impl_NumberAt.f k x0 4 2).bind fun t317 => (if 6 < (x0.length : Int) then (if 8 < (x0.length : Int) then (impl_SegmentFrom.l0 k x0 x1 x2 9 (wrap64 (rd x0 8)) 0 (wrap64 (rd x0 0)) (wrap64 (rd x0 1)) t316 t317 (wrap64 (rd x0 6)) ((Go.bits .and .u8 (rd x0 7) 1) != 0) ((Go.bits .and .u8 (rd x0 7) 2) != 0) ((Go.bits .and .u8 (rd x0 7) 4) != 0) ((Go.bits .and .u8 (rd x0 7) 8) != 0) ([] : List (S90))) else (none)) else (none)))) else (none)) else (none)) else (none))
def impl_SegmentFrom.l0 : Nat → List Int → Int → Int → Int → Int → Int → Int → Int → Int → Int → Int → Bool → Bool → Bool → Bool → List (S90) → Option (Int × Int × Int × Int × Int × Bool × Bool × Bool × Bool × (List (S90)) × List Int × Bool)
 | 0, _, _, _, _, _, _, _, _, _, _, _, _, _, _, _, _ => none
 | k + 1, x0, x1, x2, x10, x61, x62, x320000, x320001, x320002, x320003, x320004, x320005, x320006, x320007, x320008, x320009 => if x62 < x61 then ((impl_NumberAt.f k x0 x10 2).bind fun t321 => ((impl_NumberAt.f k x0 (wrap64 (x10 + 2)) 2).bind fun t322 => (if x320009.length < 8796093022208 then (impl_SegmentFrom.l0 k x0 x1 x2 (wrap64 (x10 + 4)) x61 (wrap64 (x62 + 1)) x320000 x320001 x320002 x320003 x320004 x320005 x320006 x320007 x320008 (x320009 ++ [(⟨t321, t322⟩ : S90)])) else (none)))) else (if 0 ≤ (wrap64 (x10 + 1)) then (if (wrap64 (x10 + 1)) ≤ (wrap64 ((x0.length : Int) - 2)) then (if (wrap64 ((x0.length : Int) - 2)) ≤ (x0.length : Int) then ((impl_SegmentBytes.f k x320000 x320001 x320002 x320003 x320004 x320005 x320006 x320007 x320008 x320009 ((x0.take ((wrap64 ((x0.length : Int) - 2)) : Int).toNat).drop ((wrap64 (x10 + 1)) : Int).toNat) x1 x2).bind fun t327 => ((slices_Equal_byte_byte.f k t327 x0).bind fun t330 => (if t330 = true then ((impl_Segment_copy.f x320000 x320001 x320002 x320003 x320004 x320005 x320006 x320007 x320008 x320009 ((x0.take ((wrap64 ((x0.length : Int) - 2)) : Int).toNat).drop ((wrap64 (x10 + 1)) : Int).toNat)).bind fun bt331 => (some (bt331.1, bt331.2.1, bt331.2.2.1, bt331.2.2.2.1, bt331.2.2.2.2.1, bt331.2.2.2.2.2.1, bt331.2.2.2.2.2.2.1, bt331.2.2.2.2.2.2.2.1, bt331.2.2.2.2.2.2.2.2.1, bt331.2.2.2.2.2.2.2.2.2.1, bt331.2.2.2.2.2.2.2.2.2.2, true))) else (some (0, 0, 0, 0, 0, false, false, false, false, ([] : List (S90)), ([] : List Int), false))))) else (none)) else (none)) else (none))
end
def impl_SegmentFrom.f (k : Nat) (l0 : List Int) (a1 : Int) (a2 : Int) : Option (Int × Int × Int × Int × Int × Bool × Bool × Bool × Bool × (List (S90)) × List Int × Bool) := if (l0.length : Int) < 12 then (impl_SegmentFrom.j0 k l0 a1 a2 true) else (if 8 < (l0.length : Int) then (impl_SegmentFrom.j0 k l0 a1 a2 (decide ((l0.length : Int) < (wrap64 (12 + (wrap64 (4 * (wrap64 (rd l0 8))))))))) else (none))
theorem impl_SegmentFrom.mono_l : ∀ k, (∀ y0 y1 y2 y3, LeO (impl_SegmentFrom.j0 k y0 y1 y2 y3) (impl_SegmentFrom.j0 (k + 1) y0 y1 y2 y3)) ∧ (∀ y0 y1 y2 y3 y4 y5 y6 y7 y8 y9 y10 y11 y12 y13 y14 y15, LeO (impl_SegmentFrom.l0 k y0 y1 y2 y3 y4 y5 y6 y7 y8 y9 y10 y11 y12 y13 y14 y15) (impl_SegmentFrom.l0 (k + 1) y0 y1 y2 y3 y4 y5 y6 y7 y8 y9 y10 y11 y12 y13 y14 y15))
 | 0 => ⟨fun _ _ _ _ r h => by simp [impl_SegmentFrom.j0] at h, fun _ _ _ _ _ _ _ _ _ _ _ _ _ _ _ _ r h => by simp [impl_SegmentFrom.l0] at h⟩
 | k + 1 => by
  obtain ⟨ih0, ih1⟩ := impl_SegmentFrom.mono_l k
  refine ⟨?_, ?_⟩
  ·intro y0 y1 y2 y3
   unfold impl_SegmentFrom.j0
   repeat' first | (with_reducible first | apply ih0 | apply ih1 | apply impl_NumberAt.mono | apply impl_SegmentBytes.mono | apply slices_Equal_byte_byte.mono | exact LeO.refl _ | exact LeO.none _ | refine LeO.ite ?_ ?_ | refine LeO.bind ?_ fun _ => ?_) | apply ih0 | apply ih1 | apply impl_NumberAt.mono | apply impl_SegmentBytes.mono | apply slices_Equal_byte_byte.mono | exact LeO.none _ | refine LeO.ite ?_ ?_ | refine LeO.bind ?_ fun _ => ?_
  ·intro y0 y1 y2 y3 y4 y5 y6 y7 y8 y9 y10 y11 y12 y13 y14 y15
   unfold impl_SegmentFrom.l0
   repeat' first | (with_reducible first | apply ih0 | apply ih1 | apply impl_NumberAt.mono | apply impl_SegmentBytes.mono | apply slices_Equal_byte_byte.mono | exact LeO.refl _ | exact LeO.none _ | refine LeO.ite ?_ ?_ | refine LeO.bind ?_ fun _ => ?_) | apply ih0 | apply ih1 | apply impl_NumberAt.mono | apply impl_SegmentBytes.mono | apply slices_Equal_byte_byte.mono | exact LeO.none _ | refine LeO.ite ?_ ?_ | refine LeO.bind ?_ fun _ => ?_
theorem impl_SegmentFrom.mono : ∀ a0 a1 a2 k, LeO (impl_SegmentFrom.f k a0 a1 a2) (impl_SegmentFrom.f (k + 1) a0 a1 a2) := by
 intro a0 a1 a2 k
 obtain ⟨ih0, ih1⟩ := impl_SegmentFrom.mono_l k
 unfold impl_SegmentFrom.f
 repeat' first | (with_reducible first | apply ih0 | apply ih1 | apply impl_NumberAt.mono | apply impl_SegmentBytes.mono | apply slices_Equal_byte_byte.mono | exact LeO.refl _ | exact LeO.none _ | refine LeO.ite ?_ ?_ | refine LeO.bind ?_ fun _ => ?_) | apply ih0 | apply ih1 | apply impl_NumberAt.mono | apply impl_SegmentBytes.mono | apply slices_Equal_byte_byte.mono | exact LeO.none _ | refine LeO.ite ?_ ?_ | refine LeO.bind ?_ fun _ => ?_
def impl_SegmentFrom.T4 : Bool × List (List Nat × List Nat) := (true, [([], []), ([0], [0]), ([1], [1]), ([2], [2]), ([], []), ([4], [4]), ([5], [5]), ([6], [6]), ([], []), ([8], [8]), ([], []), ([10, 9], [10]), ([], []), ([12], [12]), ([13], [13]), ([14], [14]), ([], []), ([16], [16]), ([17], [17]), ([], []), ([19], [19]), ([20], [20]), ([], []), ([22], [22]), ([23], [23]), ([], []), ([25], [25]), ([26], [26]), ([3, 7, 9, 11, 15, 18, 21, 24, 27], [3, 7, 9, 11, 15, 18, 21, 24, 27]), ([], []), ([29, 28, 11, 0, 1, 2, 3, 4, 5, 6, 7, 8, 9, 10, 11, 12, 13, 14, 15, 16, 17, 18, 19, 20, 21, 22, 23, 24, 25, 26, 27, 28, 29], [28, 29])])
def impl_SegmentFrom.B4 : List Nat := [0, 1, 3, 7, 0, 16, 48, 112, 0, 256, 0, 1792, 0, 4096, 12288, 28672, 0, 65536, 196608, 0, 524288, 1572864, 0, 4194304, 12582912, 0, 33554432, 100663296, 268435455, 0, 1073741823]
theorem impl_SegmentFrom.tab4 : rtab .any (opsOf Try.f27 4) = impl_SegmentFrom.T4 := by kernel_rfl
theorem impl_SegmentFrom.bits4 : waitsOk impl_SegmentFrom.T4.2 impl_SegmentFrom.B4 = true := by kernel_rfl
def impl_SegmentFrom.T8 : Bool × List (List Nat × List Nat) := (true, [([], []), ([0], [0]), ([], []), ([], []), ([2, 3], [2, 3]), ([], []), ([], []), ([6], [6]), ([5, 7, 4], [5, 7]), ([4, 8], [4, 8]), ([9], [9]), ([1, 10, 8], [1, 10]), ([0, 1, 2, 3, 4, 5, 6, 7, 8, 9, 10, 11], []), ([12, 11, 11, 0, 1, 2, 3, 4, 5, 6, 7, 8, 9, 10, 11], [11, 12])])
def impl_SegmentFrom.B8 : List Nat := [0, 1, 0, 0, 12, 0, 0, 64, 252, 508, 1020, 2047, 4095, 8191]
theorem impl_SegmentFrom.tab8 : rtab .any (opsOf Try.f27 8) = impl_SegmentFrom.T8 := by kernel_rfl
theorem impl_SegmentFrom.bits8 : waitsOk impl_SegmentFrom.T8.2 impl_SegmentFrom.B8 = true := by kernel_rfl
set_option maxHeartbeats 8000000 in
set_option maxRecDepth 100000 in
theorem impl_SegmentFrom.calls (k : Nat) (A0 : Option Addr) (c0 : Nat) (l0 : List Int) (a1 : Int) (a2 : Int) (r1 : Int) (r2 : Int) (r3 : Int) (r4 : Int) (r5 : Int) (r6 : Bool) (r7 : Bool) (r8 : Bool) (r9 : Bool) (r10 : List (S90)) (r11 : List Int) (r12 : Bool) (w : World) (hr0 : Kd.C (Kd.int .u8) w A0 l0.length l0) (hc0 : l0.length ≤ c0) (h : impl_SegmentFrom.f k l0 a1 a2 = some (r1, r2, r3, r4, r5, r6, r7, r8, r9, r10, r11, r12)) :
  Calls Try.prog 27 #[.slice A0 l0.length c0, .int .i64 a1, .int .i64 a2] w fun e w' => ∃ v9_ v10_ : Value, e = .returned (.tuple #[.agg #[.int .i64 r1, .int .i64 r2, .int .i64 r3, .int .i64 r4, .int .i64 r5, .bool r6, .bool r7, .bool r8, .bool r9, v9_, v10_], .bool r12]) ∧ Kd.R k90 90 w' w.heap.size (fun _ => True) v9_ r10 ∧ Kd.R (Kd.int .u8) 5 w' w.heap.size (fun _ => True) v10_ r11 ∧ Below w.heap.size w w' := by
 have hu52 := Try.underlying52; have hu90 := Try.underlying90; have HR0 := Aside0.mk hr0; have HC0 := Aside0.mk hc0; clear hr0 hc0
 have HB := Aside0.mk (Below.refl w.heap.size w)
 have H : (if (l0.length : Int) < 12 then (impl_SegmentFrom.j0 k l0 a1 a2 true) else (if 8 < (l0.length : Int) then (impl_SegmentFrom.j0 k l0 a1 a2 (decide ((l0.length : Int) < (wrap64 (12 + (wrap64 (4 * (wrap64 (rd l0 8))))))))) else (none))) = some (r1, r2, r3, r4, r5, r6, r7, r8, r9, r10, r11, r12) := h
 clear h; have HC4 := Aside0.mk H; clear H
 go_enter Try.func27, Try.ntmps27
 go_upto_region 1 with (first | ((with_reducible refine gate_dst (N := 6) rfl ?_); (try (refine gate_guard (by rfl) ?_; dsimp only)); refine box_ (N := 6) (cs := #[.int .i64 0, .int .i64 0, .int .i64 0, .int .i64 0, .int .i64 0, .bool false, .bool false, .bool false, .bool false, .slice none 0 0, .slice none 0 0]) (t := 52) (fun gb311 hg w5 hbox hb => ?_); have BK311 := Aside0.mk (hbox); have GW311 := ge_ hg HB; have GE311 := ge_ hg HB; replace HB := (bs_ HB hb); clear hb hbox hg))
 (try simp only [Act.put, List.setIfInBounds_toArray, List.set_cons_zero, List.set_cons_succ])
 go_cut [24] (fun v24 wc => ∃ (kq : Nat) (x24_3 : Bool), v24 = .bool x24_3 ∧ Aside0 (impl_SegmentFrom.j0 kq l0 a1 a2 x24_3 = some (r1, r2, r3, r4, r5, r6, r7, r8, r9, r10, r11, r12)) ∧ Aside0 (kq ≤ k) ∧ Aside0 (wc.heap[gb311]? = some (.cells #[.int .i64 0, .int .i64 0, .int .i64 0, .int .i64 0, .int .i64 0, .bool false, .bool false, .bool false, .bool false, (.slice none 0 0), (.slice none 0 0)] 52 (0, 0))) ∧ Aside0 (Below w.heap.size w wc))
 case first =>
  have H := HC4.out; clear HC4
  by_cases c6 : (l0.length : Int) < 12
  ·rw [if_pos c6] at H
   have c6b0 : decide ((l0.length : Int) < 12) = true := decide_eq_true c6
   have c6b1 : decide (l0.length < 12) = true := decide_eq_true (by omega)
   clear c6
   (first | rw [c6b0] | (simp only [i64_w, i32_w]; rw [c6b0]) | skip)
   have H' := Aside0.mk H
   clear H
   go_wp2
   go_meet
   case rel => exact ⟨_, (true), (by first | rfl | (simp; done) | (simp [*]; done)), H', ⟨by first | omega | exact Nat.le_refl _⟩, ⟨by refine kb_ ?_; exact BK311.out⟩, ⟨hbA_ HB.out⟩⟩
  ·rw [if_neg c6] at H
   have c6b0 : decide ((l0.length : Int) < 12) = false := decide_eq_false c6
   have c6b1 : decide (l0.length < 12) = false := decide_eq_false (by omega)
   clear c6
   (first | rw [c6b0] | (simp only [i64_w, i32_w]; rw [c6b0]) | skip)
   by_cases c7 : 8 < (l0.length : Int)
   ·rw [if_pos c7] at H
    have c7b0 : decide (8 < (l0.length : Int)) = true := decide_eq_true c7
    have c7b1 : decide (8 < l0.length) = true := decide_eq_true (by omega)
    clear c7
    have H' := Aside0.mk H
    clear H
    have p312 : 0 ≤ (8 : Int) := (by omega)
    have q312 : 8 < (l0.length : Int) := of_decide_eq_true (by first | (with_reducible assumption) | assumption)
    obtain ⟨ad312, e312, hx312_0⟩ := Kd.at_int HR0.out 8 p312 q312
    cases e312
    (try simp only [show (8 : Int).toNat = 8 from rfl, Nat.reduceMul, Nat.reduceEqDiff, Go.Addr.add, ↓reduceIte] at hx312_0)
    have qi312 : (8 < l0.length) = True := eq_true (by omega)
    (try rw [show ((8 : Int)).toNat = 8 from rfl] at hx312_0)
    replace hx312_0 := cc_ HB hx312_0
    replace p312 := eq_true p312
    replace q312 := eq_true q312
    go_wp2
    go_meet
    case rel => exact ⟨_, (decide ((l0.length : Int) < (wrap64 (12 + (wrap64 (4 * (wrap64 (rd l0 8)))))))), (by first | rfl | (simp; done) | (simp [*]; done)), H', ⟨by first | omega | exact Nat.le_refl _⟩, ⟨by refine kb_ ?_; exact BK311.out⟩, ⟨hbA_ HB.out⟩⟩
   ·rw [if_neg c7] at H
    exact absurd H (by simp)
 case rest =>
  clear HC4; (try clear c2); (try clear p2); (try clear p3); (try clear q3); (try clear hx3); (try clear qi3); (try clear c6); (try clear c6b0); (try clear c6b1); (try clear p6); (try clear c7); (try clear c7b0); (try clear c7b1); (try clear hx312_0); (try clear p312); (try clear q312)
  obtain ⟨kq, x24_3, rfl, HA, HJ3, BK311, HB⟩ := hcut
  cases kq with
  | zero => exact absurd HA.out (by simp [impl_SegmentFrom.j0])
  | succ kj3 =>
   have H := HA.out; clear HA
   simp only [impl_SegmentFrom.j0] at H
   by_cases c8 : x24_3 = true
   ·subst c8
    rw [if_pos rfl] at H
    simp only [Option.some.injEq, Prod.mk.injEq] at H
    obtain ⟨rfl, rfl, rfl, rfl, rfl, rfl, rfl, rfl, rfl, rfl, rfl, rfl⟩ := H
    have Z9 := zz11 BK311
    go_wp2
    refine bodyPost_ret (results_ct rfl _ _ gb311 52 #[.int .i64 0, .int .i64 0, .int .i64 0, .int .i64 0, .int .i64 0, .bool false, .bool false, .bool false, .bool false, .slice none 0 0, .slice none 0 0] (0, 0) _ rfl (by refine kb_ ?_; refine pz11 (cs := #[.int .i64 0, .int .i64 0, .int .i64 0, .int .i64 0, .int .i64 0, .bool false, .bool false, .bool false, .bool false, .slice none 0 0, .slice none 0 0]) ?_; refine kb_ ?_; exact BK311.out) Try.underlying52 rfl (by kernel_rfl)) rfl ?_
    exact ⟨_, _, by first | rfl | (simp [errW_none, errW_some] <;> rfl) | (simp [*, errW_none, errW_some] <;> rfl), by first | exact Kd.R_nil _ _ _ _ _ | exact Kd.N_nil _ _ _ _ _ | exact Kd.V_nil _ _ _ _ _ | exact Kd.Q_nil _ _ _ _ _ | exact Kd.S_nil _ _ _ _ _, by first | exact Kd.R_nil _ _ _ _ _ | exact Kd.N_nil _ _ _ _ _ | exact Kd.V_nil _ _ _ _ _ | exact Kd.Q_nil _ _ _ _ _ | exact Kd.S_nil _ _ _ _ _, hbA_ HB.out⟩
   ·replace c8 := Bool.eq_false_iff.mpr c8
    subst c8
    rw [if_neg (show ¬ (false = true) by decide)] at H
    by_cases c10 : 7 < (l0.length : Int)
    ·rw [if_pos c10] at H
     have c10b0 : decide (7 < (l0.length : Int)) = true := decide_eq_true c10
     have c10b1 : decide (7 < l0.length) = true := decide_eq_true (by omega)
     clear c10
     by_cases c11 : 0 < (l0.length : Int)
     ·rw [if_pos c11] at H
      have c11b0 : decide (0 < (l0.length : Int)) = true := decide_eq_true c11
      have c11b1 : decide (0 < l0.length) = true := decide_eq_true (by omega)
      clear c11
      by_cases c12 : 1 < (l0.length : Int)
      ·rw [if_pos c12] at H
       have c12b0 : decide (1 < (l0.length : Int)) = true := decide_eq_true c12
       have c12b1 : decide (1 < l0.length) = true := decide_eq_true (by omega)
       clear c12
       replace H := Option.bind_eq_some_iff.mp H
       obtain ⟨t316, A130, H⟩ := H
       (try dsimp only at H)
       have A13 := Aside0.mk A130; clear A130
       replace H := Option.bind_eq_some_iff.mp H
       obtain ⟨t317, A140, H⟩ := H
       (try dsimp only at H)
       have A14 := Aside0.mk A140; clear A140
       by_cases c15 : 6 < (l0.length : Int)
       ·rw [if_pos c15] at H
        have c15b0 : decide (6 < (l0.length : Int)) = true := decide_eq_true c15
        have c15b1 : decide (6 < l0.length) = true := decide_eq_true (by omega)
        clear c15
        by_cases c16 : 8 < (l0.length : Int)
        ·rw [if_pos c16] at H
         have c16b0 : decide (8 < (l0.length : Int)) = true := decide_eq_true c16
         have c16b1 : decide (8 < l0.length) = true := decide_eq_true (by omega)
         clear c16
         have H' := Aside0.mk H
         clear H
         have p313 : 0 ≤ (7 : Int) := (by omega)
         have q313 : 7 < (l0.length : Int) := of_decide_eq_true (by first | (with_reducible assumption) | assumption)
         obtain ⟨ad313, e313, hx313_0⟩ := Kd.at_int HR0.out 7 p313 q313
         cases e313
         (try simp only [show (7 : Int).toNat = 7 from rfl, Nat.reduceMul, Nat.reduceEqDiff, Go.Addr.add, ↓reduceIte] at hx313_0)
         have qi313 : (7 < l0.length) = True := eq_true (by omega)
         (try rw [show ((7 : Int)).toNat = 7 from rfl] at hx313_0)
         replace hx313_0 := cc_ HB hx313_0
         replace p313 := eq_true p313
         replace q313 := eq_true q313
         try go_wp2
         replace BK311 := Aside0.mk (blk_drew BK311.out); replace HB := (bd_ HB)
         have p314 : 0 ≤ (0 : Int) := (by omega)
         have q314 : 0 < (l0.length : Int) := of_decide_eq_true (by first | (with_reducible assumption) | assumption)
         obtain ⟨ad314, e314, hx314_0⟩ := Kd.at_int HR0.out 0 p314 q314
         have hw314_0 := hx314_0
         (try rw [show ((0 : Int)).toNat = 0 from rfl] at hw314_0)
         (try rw [show 0 * 1 = 0 from rfl] at hw314_0)
         (try rw [Addr.add_zero'] at hw314_0)
         obtain rfl : ad313 = ad314 := (by injection e314)
         have qi314 : (0 < l0.length) = True := eq_true (by omega)
         (try rw [show ((0 : Int)).toNat = 0 from rfl] at hx314_0)
         (try rw [Addr.add_zero'] at hx314_0)
         replace hx314_0 := cc_ HB hx314_0
         replace p314 := eq_true p314
         replace q314 := eq_true q314
         have p315 : 0 ≤ (1 : Int) := (by omega)
         have q315 : 1 < (l0.length : Int) := of_decide_eq_true (by first | (with_reducible assumption) | assumption)
         obtain ⟨ad315, e315, hx315_0⟩ := Kd.at_int HR0.out 1 p315 q315
         have hw315_0 := hx315_0
         (try rw [show ((1 : Int)).toNat = 1 from rfl] at hw315_0)
         (try rw [show 1 * 1 = 1 from rfl] at hw315_0)
         (try simp only [Nat.reduceMul, Nat.reduceEqDiff, Go.Addr.add, ↓reduceIte] at hw315_0)
         obtain rfl : ad313 = ad315 := (by injection e315)
         (try simp only [show (1 : Int).toNat = 1 from rfl, Nat.reduceMul, Nat.reduceEqDiff, Go.Addr.add, ↓reduceIte] at hx315_0)
         have qi315 : (1 < l0.length) = True := eq_true (by omega)
         (try rw [show ((1 : Int)).toNat = 1 from rfl] at hx315_0)
         replace hx315_0 := cc_ HB hx315_0
         replace p315 := eq_true p315
         replace q315 := eq_true q315
         have p318 : 0 ≤ (6 : Int) := (by omega)
         have q318 : 6 < (l0.length : Int) := of_decide_eq_true (by first | (with_reducible assumption) | assumption)
         obtain ⟨ad318, e318, hx318_0⟩ := Kd.at_int HR0.out 6 p318 q318
         have hw318_0 := hx318_0
         (try rw [show ((6 : Int)).toNat = 6 from rfl] at hw318_0)
         (try rw [show 6 * 1 = 6 from rfl] at hw318_0)
         (try simp only [Nat.reduceMul, Nat.reduceEqDiff, Go.Addr.add, ↓reduceIte] at hw318_0)
         obtain rfl : ad313 = ad318 := (by injection e318)
         (try simp only [show (6 : Int).toNat = 6 from rfl, Nat.reduceMul, Nat.reduceEqDiff, Go.Addr.add, ↓reduceIte] at hx318_0)
         have qi318 : (6 < l0.length) = True := eq_true (by omega)
         (try rw [show ((6 : Int)).toNat = 6 from rfl] at hx318_0)
         replace hx318_0 := cc_ HB hx318_0
         replace p318 := eq_true p318
         replace q318 := eq_true q318
         refine start_ (n := 31) (S := fun w' => w'.cell? ad313 = some (.int .u8 (rd l0 0)) ∧ w'.cell? ⟨ad313.block, ad313.off + 1, none⟩ = some (.int .u8 (rd l0 1)) ∧ w'.cell? ⟨ad313.block, ad313.off + 6, none⟩ = some (.int .u8 (rd l0 6))) (ds := []) #[false, false, false, false, false, false, false, false, false, false, false, false, false, false, false, false, false, false, false, false, false, false, false, false, false, false, false, false, false, false, false] (by kernel_rfl) rfl rfl ⟨(cc_ HB hw314_0), (cc_ HB hw315_0), (cc_ HB hw318_0)⟩ (fun hHeld => ?_); refine with_tabW impl_SegmentFrom.tab4 impl_SegmentFrom.bits4 (fun HT_ HW_ => ?_)
         generalize wc.drew = w17 at BK311 HB hx314_0 hx315_0 hx318_0 hHeld ⊢
         refine pu_ (i := 0) (N := some 29) HT_ ?_; refine pu_ (i := 1) (N := some 30) HT_ ?_; refine pu_ (i := 4) (N := some 33) HT_ ?_; refine pu_ (i := 5) (N := some 34) HT_ ?_; refine pu_ (i := 8) (N := some 37) HT_ ?_; refine pu_ (i := 10) (N := some 39) HT_ ?_; refine pu_ (i := 12) (N := some 41) HT_ ?_; refine pu_ (i := 13) (N := some 42) HT_ ?_; refine pu_ (i := 16) (N := some 45) HT_ ?_; refine pu_ (i := 17) (N := some 46) HT_ ?_; refine pu_ (i := 18) (N := some 47) HT_ ?_; refine pu_ (i := 19) (N := some 48) HT_ ?_; refine pu_ (i := 20) (N := some 49) HT_ ?_; refine pu_ (i := 21) (N := some 50) HT_ ?_; refine pu_ (i := 22) (N := some 51) HT_ ?_; refine pu_ (i := 23) (N := some 52) HT_ ?_; refine pu_ (i := 24) (N := some 53) HT_ ?_; refine pu_ (i := 25) (N := some 54) HT_ ?_; refine pu_ (i := 26) (N := some 55) HT_ ?_; refine pu_ (i := 27) (N := some 56) HT_ ?_; refine tk_ (i := 2) (N := some 31) HT_ HW_ hHeld ?_; refine pu_ (i := 3) (N := some 32) HT_ ?_; refine tk_ (i := 6) (N := some 35) HT_ HW_ hHeld ?_; refine pu_ (i := 7) (N := some 36) HT_ ?_; refine tk_ (i := 14) (N := some 43) HT_ HW_ hHeld ?_; refine pu_ (i := 15) (N := some 44) HT_ ?_
         refine join_ (σ := Nat) 1 #[true, true, true, true, true, true, true, true, true, true, true, true, true, true, true, true, true, true, true, true, true, true, true, true, true, true, true, true, true, true, false] (fun s_ => [(38, .int .i64 t316), (40, .int .i64 t317), (9, .pointer (some ⟨s_, 0, none⟩)), (57, .agg #[.int .i64 (wrap64 (rd l0 0)), .int .i64 (wrap64 (rd l0 1)), .int .i64 t316, .int .i64 t317, .int .i64 (wrap64 (rd l0 6)), .bool ((Go.bits .and .u8 (rd l0 7) 1) != 0), .bool ((Go.bits .and .u8 (rd l0 7) 2) != 0), .bool ((Go.bits .and .u8 (rd l0 7) 4) != 0), .bool ((Go.bits .and .u8 (rd l0 7) 8) != 0), .slice none 0 0, .slice none 0 0])]) (fun s_ w' => (w'.cell? ad313 = some (.int .u8 (rd l0 0)) ∧ w'.cell? ⟨ad313.block, ad313.off + 1, none⟩ = some (.int .u8 (rd l0 1)) ∧ w'.cell? ⟨ad313.block, ad313.off + 6, none⟩ = some (.int .u8 (rd l0 6))) ∧ (w'.heap[gb311]? = some (.cells #[.int .i64 0, .int .i64 0, .int .i64 0, .int .i64 0, .int .i64 0, .bool false, .bool false, .bool false, .bool false, .slice none 0 0, .slice none 0 0] 52 (0, 0))) ∧ (w'.heap[s_]? = some (.cells #[.int .i64 0, .int .i64 0, .int .i64 0, .int .i64 0, .int .i64 0, .bool false, .bool false, .bool false, .bool false, .slice none 0 0, .slice none 0 0] 52 (0, 0))) ∧ (w.heap.size ≤ s_) ∧ (w.heap.size ≤ s_) ∧ (gb311 ≠ s_) ∧ (s_ ≠ gb311) ∧ (Below w.heap.size w w')) ?_ ?_
         rotate_left
         ·intro hCont
          refine two_ (i := 9) (j := 29) (Ni := some 38) (Nj := some 9) #[true, true, true, true, true, true, true, true, true, true, true, false, true, true, true, true, true, true, true, true, true, true, true, true, true, true, true, true, false, false, false] #[true, true, true, true, true, true, true, true, true, false, true, false, true, true, true, true, true, true, true, true, true, true, true, true, true, true, true, true, false, true, false] rfl rfl rfl rfl (two_of HT_.out (by kernel_rfl)) (by decide) (by decide) (fun K hK => ?_) (fun K hK => ?_)
          ·skip
           refine goes_ Try.func61 (by kernel_rfl) rfl #[.slice (some ad313) l0.length c0, .int .i64 2, .int .i64 2] (by rfl) rfl rfl ar_ ?_
           with_reducible refine (impl_NumberAt.calls kj3 _ _ l0 2 2 t316 _ ?side1 ?side2 A13.out).mono ?_
           (case side1 => exact kC_ (Kd.C_below HR0.out HB.out))
           (case side2 => exact HC0.out)
           rintro e w' ⟨rfl, ⟨nd, rfl⟩⟩
           refine ⟨_, rfl, ?_⟩
           refine hK.out _ _ ⟨(by first | exact cc_ HB hw314_0 | exact cc_ ⟨hbA_ HB.out⟩ hw314_0), (by first | exact cc_ HB hw315_0 | exact cc_ ⟨hbA_ HB.out⟩ hw315_0), (by first | exact cc_ HB hw318_0 | exact cc_ ⟨hbA_ HB.out⟩ hw318_0)⟩ (fun hHeld => ?_)
           clear hK K; refine nm_ 38 ?_
           refine two_ (i := 11) (j := 29) (Ni := some 40) (Nj := some 9) #[true, true, true, true, true, true, true, true, true, true, true, true, true, true, true, true, true, true, true, true, true, true, true, true, true, true, true, true, false, false, false] #[true, true, true, true, true, true, true, true, true, true, true, false, true, true, true, true, true, true, true, true, true, true, true, true, true, true, true, true, false, true, false] rfl rfl rfl rfl (two_of HT_.out (by kernel_rfl)) (by decide) (by decide) (fun K hK => ?_) (fun K hK => ?_)
           ·skip
            refine goes_ Try.func61 (by kernel_rfl) rfl #[.slice (some ad313) l0.length c0, .int .i64 4, .int .i64 2] (by rfl) rfl rfl ar_ ?_
            with_reducible refine (impl_NumberAt.calls kj3 _ _ l0 4 2 t317 _ ?side1 ?side2 A14.out).mono ?_
            (case side1 => exact kC_ (Kd.C_below HR0.out (hbA_ HB.out)))
            (case side2 => exact HC0.out)
            rintro e w' ⟨rfl, ⟨nd, rfl⟩⟩
            refine ⟨_, rfl, ?_⟩
            refine hK.out _ _ ⟨(by first | exact cc_ HB hw314_0 | exact cc_ ⟨hbA_ HB.out⟩ hw314_0), (by first | exact cc_ HB hw315_0 | exact cc_ ⟨hbA_ HB.out⟩ hw315_0), (by first | exact cc_ HB hw318_0 | exact cc_ ⟨hbA_ HB.out⟩ hw318_0)⟩ (fun hHeld => ?_)
            clear hK K; refine nm_ 40 ?_; refine pu_ (i := 28) (N := some 57) HT_ ?_
            refine on_ (i := 29) (N := some 9) HT_ (fun K hK => ?_)
            refine box_step ?hg (N := 9) ?hd (cs := #[.int .i64 0, .int .i64 0, .int .i64 0, .int .i64 0, .int .i64 0, .bool false, .bool false, .bool false, .bool false, .slice none 0 0, .slice none 0 0]) (t := 52) ?hr ?_; (case hd => rfl); (case hg => rfl); (case hr => first | (go_simp; done) | (go_simp; rfl))
            intro gb319 hg w18 hbox hb
            have n0_ := (bbA_ BK311 hb); have n1_ := (bs_ HB hb); have n2_ := Aside0.mk (hbox); have n3_ := ge_ hg HB; have n4_ := ge_ hg HB; have n5_ := nl_ hg BK311; have n6_ := ng_ hg BK311; clear BK311 HB; have BK311 := n0_; have HB := n1_; have BK319 := n2_; have GW319 := n3_; have GE319 := n4_; have NB311_319 := n5_; have NB319_311 := n6_; clear n0_ n1_ n2_ n3_ n4_ n5_ n6_ hb hbox hg
            refine hK.out _ _ ⟨(by first | exact cc_ HB hw314_0 | exact cc_ ⟨hbA_ HB.out⟩ hw314_0), (by first | exact cc_ HB hw315_0 | exact cc_ ⟨hbA_ HB.out⟩ hw315_0), (by first | exact cc_ HB hw318_0 | exact cc_ ⟨hbA_ HB.out⟩ hw318_0)⟩ (fun hHeld => ?_)
            clear hK K; refine nm_ 9 ?_
            exact norm_ (by simp only [putAll, Act.put, List.setIfInBounds_toArray, List.set_cons_zero, List.set_cons_succ]) (hCont (gb319) _ ⟨hHeld, (kb_ BK311.out), (kb_ BK319.out), GW319.out, GE319.out, NB311_319.out, NB319_311.out, (hbA_ HB.out)⟩)
           ·skip
            refine box_step ?hg (N := 9) ?hd (cs := #[.int .i64 0, .int .i64 0, .int .i64 0, .int .i64 0, .int .i64 0, .bool false, .bool false, .bool false, .bool false, .slice none 0 0, .slice none 0 0]) (t := 52) ?hr ?_; (case hd => rfl); (case hg => rfl); (case hr => first | (go_simp; done) | (go_simp; rfl))
            intro gb319 hg w18 hbox hb
            have n0_ := (bbA_ BK311 hb); have n1_ := (bs_ HB hb); have n2_ := Aside0.mk (hbox); have n3_ := ge_ hg HB; have n4_ := ge_ hg HB; have n5_ := nl_ hg BK311; have n6_ := ng_ hg BK311; clear BK311 HB; have BK311 := n0_; have HB := n1_; have BK319 := n2_; have GW319 := n3_; have GE319 := n4_; have NB311_319 := n5_; have NB319_311 := n6_; clear n0_ n1_ n2_ n3_ n4_ n5_ n6_ hb hbox hg
            refine hK.out _ _ ⟨(by first | exact cc_ HB hw314_0 | exact cc_ ⟨hbA_ HB.out⟩ hw314_0), (by first | exact cc_ HB hw315_0 | exact cc_ ⟨hbA_ HB.out⟩ hw315_0), (by first | exact cc_ HB hw318_0 | exact cc_ ⟨hbA_ HB.out⟩ hw318_0)⟩ (fun hHeld => ?_)
            clear hK K; refine nm_ 9 ?_
            refine on_ (i := 11) (N := some 40) HT_ (fun K hK => ?_)
            refine goes_ Try.func61 (by kernel_rfl) rfl #[.slice (some ad313) l0.length c0, .int .i64 4, .int .i64 2] (by rfl) rfl rfl ar_ ?_
            with_reducible refine (impl_NumberAt.calls kj3 _ _ l0 4 2 t317 _ ?side1 ?side2 A14.out).mono ?_
            (case side1 => exact kC_ (Kd.C_below HR0.out HB.out))
            (case side2 => exact HC0.out)
            rintro e w' ⟨rfl, ⟨nd, rfl⟩⟩
            refine ⟨_, rfl, ?_⟩
            refine hK.out _ _ ⟨(by first | exact cc_ HB hw314_0 | exact cc_ ⟨hbA_ HB.out⟩ hw314_0), (by first | exact cc_ HB hw315_0 | exact cc_ ⟨hbA_ HB.out⟩ hw315_0), (by first | exact cc_ HB hw318_0 | exact cc_ ⟨hbA_ HB.out⟩ hw318_0)⟩ (fun hHeld => ?_)
            clear hK K; refine nm_ 40 ?_; refine pu_ (i := 28) (N := some 57) HT_ ?_
            exact norm_ (by simp only [putAll, Act.put, List.setIfInBounds_toArray, List.set_cons_zero, List.set_cons_succ]) (hCont (gb319) _ ⟨hHeld, (kb_ BK311.out), (kb_ BK319.out), GW319.out, GE319.out, NB311_319.out, NB319_311.out, (hbA_ HB.out)⟩)
          ·skip
           refine box_step ?hg (N := 9) ?hd (cs := #[.int .i64 0, .int .i64 0, .int .i64 0, .int .i64 0, .int .i64 0, .bool false, .bool false, .bool false, .bool false, .slice none 0 0, .slice none 0 0]) (t := 52) ?hr ?_; (case hd => rfl); (case hg => rfl); (case hr => first | (go_simp; done) | (go_simp; rfl))
           intro gb319 hg w18 hbox hb
           have n0_ := (bbA_ BK311 hb); have n1_ := (bs_ HB hb); have n2_ := Aside0.mk (hbox); have n3_ := ge_ hg HB; have n4_ := ge_ hg HB; have n5_ := nl_ hg BK311; have n6_ := ng_ hg BK311; clear BK311 HB; have BK311 := n0_; have HB := n1_; have BK319 := n2_; have GW319 := n3_; have GE319 := n4_; have NB311_319 := n5_; have NB319_311 := n6_; clear n0_ n1_ n2_ n3_ n4_ n5_ n6_ hb hbox hg
           refine hK.out _ _ ⟨(by first | exact cc_ HB hw314_0 | exact cc_ ⟨hbA_ HB.out⟩ hw314_0), (by first | exact cc_ HB hw315_0 | exact cc_ ⟨hbA_ HB.out⟩ hw315_0), (by first | exact cc_ HB hw318_0 | exact cc_ ⟨hbA_ HB.out⟩ hw318_0)⟩ (fun hHeld => ?_)
           clear hK K; refine nm_ 9 ?_
           refine on_ (i := 9) (N := some 38) HT_ (fun K hK => ?_)
           refine goes_ Try.func61 (by kernel_rfl) rfl #[.slice (some ad313) l0.length c0, .int .i64 2, .int .i64 2] (by rfl) rfl rfl ar_ ?_
           with_reducible refine (impl_NumberAt.calls kj3 _ _ l0 2 2 t316 _ ?side1 ?side2 A13.out).mono ?_
           (case side1 => exact kC_ (Kd.C_below HR0.out HB.out))
           (case side2 => exact HC0.out)
           rintro e w' ⟨rfl, ⟨nd, rfl⟩⟩
           refine ⟨_, rfl, ?_⟩
           refine hK.out _ _ ⟨(by first | exact cc_ HB hw314_0 | exact cc_ ⟨hbA_ HB.out⟩ hw314_0), (by first | exact cc_ HB hw315_0 | exact cc_ ⟨hbA_ HB.out⟩ hw315_0), (by first | exact cc_ HB hw318_0 | exact cc_ ⟨hbA_ HB.out⟩ hw318_0)⟩ (fun hHeld => ?_)
           clear hK K; refine nm_ 38 ?_
           refine on_ (i := 11) (N := some 40) HT_ (fun K hK => ?_)
           refine goes_ Try.func61 (by kernel_rfl) rfl #[.slice (some ad313) l0.length c0, .int .i64 4, .int .i64 2] (by rfl) rfl rfl ar_ ?_
           with_reducible refine (impl_NumberAt.calls kj3 _ _ l0 4 2 t317 _ ?side1 ?side2 A14.out).mono ?_
           (case side1 => exact kC_ (Kd.C_below HR0.out (hbA_ HB.out)))
           (case side2 => exact HC0.out)
           rintro e w' ⟨rfl, ⟨nd, rfl⟩⟩
           refine ⟨_, rfl, ?_⟩
           refine hK.out _ _ ⟨(by first | exact cc_ HB hw314_0 | exact cc_ ⟨hbA_ HB.out⟩ hw314_0), (by first | exact cc_ HB hw315_0 | exact cc_ ⟨hbA_ HB.out⟩ hw315_0), (by first | exact cc_ HB hw318_0 | exact cc_ ⟨hbA_ HB.out⟩ hw318_0)⟩ (fun hHeld => ?_)
           clear hK K; refine nm_ 40 ?_; refine pu_ (i := 28) (N := some 57) HT_ ?_
           exact norm_ (by simp only [putAll, Act.put, List.setIfInBounds_toArray, List.set_cons_zero, List.set_cons_succ]) (hCont (gb319) _ ⟨hHeld, (kb_ BK311.out), (kb_ BK319.out), GW319.out, GE319.out, NB311_319.out, NB319_311.out, (hbA_ HB.out)⟩)
         rintro gb319 w19 ⟨hS_, h0_, h1_, h2_, h3_, h4_, h5_, h6_⟩
         have n0_ : Aside0 (w19.heap[gb311]? = some (.cells #[.int .i64 0, .int .i64 0, .int .i64 0, .int .i64 0, .int .i64 0, .bool false, .bool false, .bool false, .bool false, .slice none 0 0, .slice none 0 0] 52 (0, 0))) := ⟨h0_⟩
         have n1_ : Aside0 (w19.heap[gb319]? = some (.cells #[.int .i64 0, .int .i64 0, .int .i64 0, .int .i64 0, .int .i64 0, .bool false, .bool false, .bool false, .bool false, .slice none 0 0, .slice none 0 0] 52 (0, 0))) := ⟨h1_⟩
         have n2_ : Aside0 (w.heap.size ≤ gb319) := ⟨h2_⟩
         have n3_ : Aside0 (w.heap.size ≤ gb319) := ⟨h3_⟩
         have n4_ : Aside0 (gb311 ≠ gb319) := ⟨h4_⟩
         have n5_ : Aside0 (gb319 ≠ gb311) := ⟨h5_⟩
         have n6_ : Aside0 (Below w.heap.size w w19) := ⟨h6_⟩
         clear BK311 HB h0_ h1_ h2_ h3_ h4_ h5_ h6_; have BK311 := n0_; have BK319 := n1_; have GW319 := n2_; have GE319 := n3_; have NB311_319 := n4_; have NB319_311 := n5_; have HB := n6_; clear n0_ n1_ n2_ n3_ n4_ n5_ n6_
         have hHeld : w19.cell? ad313 = some (.int .u8 (rd l0 0)) ∧ w19.cell? ⟨ad313.block, ad313.off + 1, none⟩ = some (.int .u8 (rd l0 1)) ∧ w19.cell? ⟨ad313.block, ad313.off + 6, none⟩ = some (.int .u8 (rd l0 6)) := hS_
         refine norm_ (a' := ?_) ?_ ?_
         rotate_left
         ·simp only [putAll, Act.put, List.setIfInBounds_toArray, List.set_cons_zero, List.set_cons_succ]
          rfl
         refine on_ (i := 30) (N := none) HT_ (fun K hK => ?_)
         have hs20 : w19.cell? ⟨gb319, 0, none⟩ = some (.int .i64 0) := bc_ BK319 0
         have hfs20 := blk_frozen BK319.out 0
         have hns20_0 := NB311_319.out; have hms20_0 := NB319_311.out
         have hs21 : w19.cell? ⟨gb319, 1, none⟩ = some (.int .i64 0) := bc_ BK319 1
         have hfs21 := blk_frozen BK319.out 1
         have hns21_0 := NB311_319.out; have hms21_0 := NB319_311.out
         have hs22 : w19.cell? ⟨gb319, 2, none⟩ = some (.int .i64 0) := bc_ BK319 2
         have hfs22 := blk_frozen BK319.out 2
         have hns22_0 := NB311_319.out; have hms22_0 := NB319_311.out
         have hs23 : w19.cell? ⟨gb319, 3, none⟩ = some (.int .i64 0) := bc_ BK319 3
         have hfs23 := blk_frozen BK319.out 3
         have hns23_0 := NB311_319.out; have hms23_0 := NB319_311.out
         have hs24 : w19.cell? ⟨gb319, 4, none⟩ = some (.int .i64 0) := bc_ BK319 4
         have hfs24 := blk_frozen BK319.out 4
         have hns24_0 := NB311_319.out; have hms24_0 := NB319_311.out
         have hs25 : w19.cell? ⟨gb319, 5, none⟩ = some (.bool false) := bc_ BK319 5
         have hfs25 := blk_frozen BK319.out 5
         have hns25_0 := NB311_319.out; have hms25_0 := NB319_311.out
         have hs26 : w19.cell? ⟨gb319, 6, none⟩ = some (.bool false) := bc_ BK319 6
         have hfs26 := blk_frozen BK319.out 6
         have hns26_0 := NB311_319.out; have hms26_0 := NB319_311.out
         have hs27 : w19.cell? ⟨gb319, 7, none⟩ = some (.bool false) := bc_ BK319 7
         have hfs27 := blk_frozen BK319.out 7
         have hns27_0 := NB311_319.out; have hms27_0 := NB319_311.out
         have hs28 : w19.cell? ⟨gb319, 8, none⟩ = some (.bool false) := bc_ BK319 8
         have hfs28 := blk_frozen BK319.out 8
         have hns28_0 := NB311_319.out; have hms28_0 := NB319_311.out
         have hs29 : w19.cell? ⟨gb319, 9, none⟩ = some (.slice none 0 0) := bc_ BK319 9
         have hfs29 := blk_frozen BK319.out 9
         have hns29_0 := NB311_319.out; have hms29_0 := NB319_311.out
         have hs30 : w19.cell? ⟨gb319, 10, none⟩ = some (.slice none 0 0) := bc_ BK319 10
         have hfs30 := blk_frozen BK319.out 10
         have hns30_0 := NB311_319.out; have hms30_0 := NB319_311.out
         refine skip_ (w1 := ?_) (by rfl) rfl ?_ ?_
         rotate_left
         ·go_simp
          rfl
         refine hK.out _ _ ⟨((cell_far (p := ⟨gb319, _, none⟩) (by first | exact Nat.ne_of_lt (Nat.lt_of_lt_of_le (by have := World.block_lt_of_cell? _ _ hw314_0; first | rwa [add_block] at this | exact this) GW319.out) | (rw [add_block]; exact Nat.ne_of_lt (Nat.lt_of_lt_of_le (by have := World.block_lt_of_cell? _ _ hw314_0; first | rwa [add_block] at this | exact this) GW319.out)) | (show (Addr.add _ _).block ≠ _; rw [add_block]; exact Nat.ne_of_lt (Nat.lt_of_lt_of_le (by have := World.block_lt_of_cell? _ _ hw314_0; first | rwa [add_block] at this | exact this) GW319.out)) | (dsimp only; exact Nat.ne_of_lt (Nat.lt_of_lt_of_le (by have := World.block_lt_of_cell? _ _ hw314_0; first | rwa [add_block] at this | exact this) GW319.out))) _).trans (((cell_far (p := ⟨gb319, _, none⟩) (by first | exact Nat.ne_of_lt (Nat.lt_of_lt_of_le (by have := World.block_lt_of_cell? _ _ hw314_0; first | rwa [add_block] at this | exact this) GW319.out) | (rw [add_block]; exact Nat.ne_of_lt (Nat.lt_of_lt_of_le (by have := World.block_lt_of_cell? _ _ hw314_0; first | rwa [add_block] at this | exact this) GW319.out)) | (show (Addr.add _ _).block ≠ _; rw [add_block]; exact Nat.ne_of_lt (Nat.lt_of_lt_of_le (by have := World.block_lt_of_cell? _ _ hw314_0; first | rwa [add_block] at this | exact this) GW319.out)) | (dsimp only; exact Nat.ne_of_lt (Nat.lt_of_lt_of_le (by have := World.block_lt_of_cell? _ _ hw314_0; first | rwa [add_block] at this | exact this) GW319.out))) _).trans (((cell_far (p := ⟨gb319, _, none⟩) (by first | exact Nat.ne_of_lt (Nat.lt_of_lt_of_le (by have := World.block_lt_of_cell? _ _ hw314_0; first | rwa [add_block] at this | exact this) GW319.out) | (rw [add_block]; exact Nat.ne_of_lt (Nat.lt_of_lt_of_le (by have := World.block_lt_of_cell? _ _ hw314_0; first | rwa [add_block] at this | exact this) GW319.out)) | (show (Addr.add _ _).block ≠ _; rw [add_block]; exact Nat.ne_of_lt (Nat.lt_of_lt_of_le (by have := World.block_lt_of_cell? _ _ hw314_0; first | rwa [add_block] at this | exact this) GW319.out)) | (dsimp only; exact Nat.ne_of_lt (Nat.lt_of_lt_of_le (by have := World.block_lt_of_cell? _ _ hw314_0; first | rwa [add_block] at this | exact this) GW319.out))) _).trans (((cell_far (p := ⟨gb319, _, none⟩) (by first | exact Nat.ne_of_lt (Nat.lt_of_lt_of_le (by have := World.block_lt_of_cell? _ _ hw314_0; first | rwa [add_block] at this | exact this) GW319.out) | (rw [add_block]; exact Nat.ne_of_lt (Nat.lt_of_lt_of_le (by have := World.block_lt_of_cell? _ _ hw314_0; first | rwa [add_block] at this | exact this) GW319.out)) | (show (Addr.add _ _).block ≠ _; rw [add_block]; exact Nat.ne_of_lt (Nat.lt_of_lt_of_le (by have := World.block_lt_of_cell? _ _ hw314_0; first | rwa [add_block] at this | exact this) GW319.out)) | (dsimp only; exact Nat.ne_of_lt (Nat.lt_of_lt_of_le (by have := World.block_lt_of_cell? _ _ hw314_0; first | rwa [add_block] at this | exact this) GW319.out))) _).trans (((cell_far (p := ⟨gb319, _, none⟩) (by first | exact Nat.ne_of_lt (Nat.lt_of_lt_of_le (by have := World.block_lt_of_cell? _ _ hw314_0; first | rwa [add_block] at this | exact this) GW319.out) | (rw [add_block]; exact Nat.ne_of_lt (Nat.lt_of_lt_of_le (by have := World.block_lt_of_cell? _ _ hw314_0; first | rwa [add_block] at this | exact this) GW319.out)) | (show (Addr.add _ _).block ≠ _; rw [add_block]; exact Nat.ne_of_lt (Nat.lt_of_lt_of_le (by have := World.block_lt_of_cell? _ _ hw314_0; first | rwa [add_block] at this | exact this) GW319.out)) | (dsimp only; exact Nat.ne_of_lt (Nat.lt_of_lt_of_le (by have := World.block_lt_of_cell? _ _ hw314_0; first | rwa [add_block] at this | exact this) GW319.out))) _).trans (((cell_far (p := ⟨gb319, _, none⟩) (by first | exact Nat.ne_of_lt (Nat.lt_of_lt_of_le (by have := World.block_lt_of_cell? _ _ hw314_0; first | rwa [add_block] at this | exact this) GW319.out) | (rw [add_block]; exact Nat.ne_of_lt (Nat.lt_of_lt_of_le (by have := World.block_lt_of_cell? _ _ hw314_0; first | rwa [add_block] at this | exact this) GW319.out)) | (show (Addr.add _ _).block ≠ _; rw [add_block]; exact Nat.ne_of_lt (Nat.lt_of_lt_of_le (by have := World.block_lt_of_cell? _ _ hw314_0; first | rwa [add_block] at this | exact this) GW319.out)) | (dsimp only; exact Nat.ne_of_lt (Nat.lt_of_lt_of_le (by have := World.block_lt_of_cell? _ _ hw314_0; first | rwa [add_block] at this | exact this) GW319.out))) _).trans (((cell_far (p := ⟨gb319, _, none⟩) (by first | exact Nat.ne_of_lt (Nat.lt_of_lt_of_le (by have := World.block_lt_of_cell? _ _ hw314_0; first | rwa [add_block] at this | exact this) GW319.out) | (rw [add_block]; exact Nat.ne_of_lt (Nat.lt_of_lt_of_le (by have := World.block_lt_of_cell? _ _ hw314_0; first | rwa [add_block] at this | exact this) GW319.out)) | (show (Addr.add _ _).block ≠ _; rw [add_block]; exact Nat.ne_of_lt (Nat.lt_of_lt_of_le (by have := World.block_lt_of_cell? _ _ hw314_0; first | rwa [add_block] at this | exact this) GW319.out)) | (dsimp only; exact Nat.ne_of_lt (Nat.lt_of_lt_of_le (by have := World.block_lt_of_cell? _ _ hw314_0; first | rwa [add_block] at this | exact this) GW319.out))) _).trans (((cell_far (p := ⟨gb319, _, none⟩) (by first | exact Nat.ne_of_lt (Nat.lt_of_lt_of_le (by have := World.block_lt_of_cell? _ _ hw314_0; first | rwa [add_block] at this | exact this) GW319.out) | (rw [add_block]; exact Nat.ne_of_lt (Nat.lt_of_lt_of_le (by have := World.block_lt_of_cell? _ _ hw314_0; first | rwa [add_block] at this | exact this) GW319.out)) | (show (Addr.add _ _).block ≠ _; rw [add_block]; exact Nat.ne_of_lt (Nat.lt_of_lt_of_le (by have := World.block_lt_of_cell? _ _ hw314_0; first | rwa [add_block] at this | exact this) GW319.out)) | (dsimp only; exact Nat.ne_of_lt (Nat.lt_of_lt_of_le (by have := World.block_lt_of_cell? _ _ hw314_0; first | rwa [add_block] at this | exact this) GW319.out))) _).trans (((cell_far (p := ⟨gb319, _, none⟩) (by first | exact Nat.ne_of_lt (Nat.lt_of_lt_of_le (by have := World.block_lt_of_cell? _ _ hw314_0; first | rwa [add_block] at this | exact this) GW319.out) | (rw [add_block]; exact Nat.ne_of_lt (Nat.lt_of_lt_of_le (by have := World.block_lt_of_cell? _ _ hw314_0; first | rwa [add_block] at this | exact this) GW319.out)) | (show (Addr.add _ _).block ≠ _; rw [add_block]; exact Nat.ne_of_lt (Nat.lt_of_lt_of_le (by have := World.block_lt_of_cell? _ _ hw314_0; first | rwa [add_block] at this | exact this) GW319.out)) | (dsimp only; exact Nat.ne_of_lt (Nat.lt_of_lt_of_le (by have := World.block_lt_of_cell? _ _ hw314_0; first | rwa [add_block] at this | exact this) GW319.out))) _).trans (((cell_far (p := ⟨gb319, _, none⟩) (by first | exact Nat.ne_of_lt (Nat.lt_of_lt_of_le (by have := World.block_lt_of_cell? _ _ hw314_0; first | rwa [add_block] at this | exact this) GW319.out) | (rw [add_block]; exact Nat.ne_of_lt (Nat.lt_of_lt_of_le (by have := World.block_lt_of_cell? _ _ hw314_0; first | rwa [add_block] at this | exact this) GW319.out)) | (show (Addr.add _ _).block ≠ _; rw [add_block]; exact Nat.ne_of_lt (Nat.lt_of_lt_of_le (by have := World.block_lt_of_cell? _ _ hw314_0; first | rwa [add_block] at this | exact this) GW319.out)) | (dsimp only; exact Nat.ne_of_lt (Nat.lt_of_lt_of_le (by have := World.block_lt_of_cell? _ _ hw314_0; first | rwa [add_block] at this | exact this) GW319.out))) _).trans (((cell_far (p := ⟨gb319, _, none⟩) (by first | exact Nat.ne_of_lt (Nat.lt_of_lt_of_le (by have := World.block_lt_of_cell? _ _ hw314_0; first | rwa [add_block] at this | exact this) GW319.out) | (rw [add_block]; exact Nat.ne_of_lt (Nat.lt_of_lt_of_le (by have := World.block_lt_of_cell? _ _ hw314_0; first | rwa [add_block] at this | exact this) GW319.out)) | (show (Addr.add _ _).block ≠ _; rw [add_block]; exact Nat.ne_of_lt (Nat.lt_of_lt_of_le (by have := World.block_lt_of_cell? _ _ hw314_0; first | rwa [add_block] at this | exact this) GW319.out)) | (dsimp only; exact Nat.ne_of_lt (Nat.lt_of_lt_of_le (by have := World.block_lt_of_cell? _ _ hw314_0; first | rwa [add_block] at this | exact this) GW319.out))) _).trans (hHeld.1)))))))))))))))))))))), ((cell_far (p := ⟨gb319, _, none⟩) (by first | exact Nat.ne_of_lt (Nat.lt_of_lt_of_le (by have := World.block_lt_of_cell? _ _ hw315_0; first | rwa [add_block] at this | exact this) GW319.out) | (rw [add_block]; exact Nat.ne_of_lt (Nat.lt_of_lt_of_le (by have := World.block_lt_of_cell? _ _ hw315_0; first | rwa [add_block] at this | exact this) GW319.out)) | (show (Addr.add _ _).block ≠ _; rw [add_block]; exact Nat.ne_of_lt (Nat.lt_of_lt_of_le (by have := World.block_lt_of_cell? _ _ hw315_0; first | rwa [add_block] at this | exact this) GW319.out)) | (dsimp only; exact Nat.ne_of_lt (Nat.lt_of_lt_of_le (by have := World.block_lt_of_cell? _ _ hw315_0; first | rwa [add_block] at this | exact this) GW319.out))) _).trans (((cell_far (p := ⟨gb319, _, none⟩) (by first | exact Nat.ne_of_lt (Nat.lt_of_lt_of_le (by have := World.block_lt_of_cell? _ _ hw315_0; first | rwa [add_block] at this | exact this) GW319.out) | (rw [add_block]; exact Nat.ne_of_lt (Nat.lt_of_lt_of_le (by have := World.block_lt_of_cell? _ _ hw315_0; first | rwa [add_block] at this | exact this) GW319.out)) | (show (Addr.add _ _).block ≠ _; rw [add_block]; exact Nat.ne_of_lt (Nat.lt_of_lt_of_le (by have := World.block_lt_of_cell? _ _ hw315_0; first | rwa [add_block] at this | exact this) GW319.out)) | (dsimp only; exact Nat.ne_of_lt (Nat.lt_of_lt_of_le (by have := World.block_lt_of_cell? _ _ hw315_0; first | rwa [add_block] at this | exact this) GW319.out))) _).trans (((cell_far (p := ⟨gb319, _, none⟩) (by first | exact Nat.ne_of_lt (Nat.lt_of_lt_of_le (by have := World.block_lt_of_cell? _ _ hw315_0; first | rwa [add_block] at this | exact this) GW319.out) | (rw [add_block]; exact Nat.ne_of_lt (Nat.lt_of_lt_of_le (by have := World.block_lt_of_cell? _ _ hw315_0; first | rwa [add_block] at this | exact this) GW319.out)) | (show (Addr.add _ _).block ≠ _; rw [add_block]; exact Nat.ne_of_lt (Nat.lt_of_lt_of_le (by have := World.block_lt_of_cell? _ _ hw315_0; first | rwa [add_block] at this | exact this) GW319.out)) | (dsimp only; exact Nat.ne_of_lt (Nat.lt_of_lt_of_le (by have := World.block_lt_of_cell? _ _ hw315_0; first | rwa [add_block] at this | exact this) GW319.out))) _).trans (((cell_far (p := ⟨gb319, _, none⟩) (by first | exact Nat.ne_of_lt (Nat.lt_of_lt_of_le (by have := World.block_lt_of_cell? _ _ hw315_0; first | rwa [add_block] at this | exact this) GW319.out) | (rw [add_block]; exact Nat.ne_of_lt (Nat.lt_of_lt_of_le (by have := World.block_lt_of_cell? _ _ hw315_0; first | rwa [add_block] at this | exact this) GW319.out)) | (show (Addr.add _ _).block ≠ _; rw [add_block]; exact Nat.ne_of_lt (Nat.lt_of_lt_of_le (by have := World.block_lt_of_cell? _ _ hw315_0; first | rwa [add_block] at this | exact this) GW319.out)) | (dsimp only; exact Nat.ne_of_lt (Nat.lt_of_lt_of_le (by have := World.block_lt_of_cell? _ _ hw315_0; first | rwa [add_block] at this | exact this) GW319.out))) _).trans (((cell_far (p := ⟨gb319, _, none⟩) (by first | exact Nat.ne_of_lt (Nat.lt_of_lt_of_le (by have := World.block_lt_of_cell? _ _ hw315_0; first | rwa [add_block] at this | exact this) GW319.out) | (rw [add_block]; exact Nat.ne_of_lt (Nat.lt_of_lt_of_le (by have := World.block_lt_of_cell? _ _ hw315_0; first | rwa [add_block] at this | exact this) GW319.out)) | (show (Addr.add _ _).block ≠ _; rw [add_block]; exact Nat.ne_of_lt (Nat.lt_of_lt_of_le (by have := World.block_lt_of_cell? _ _ hw315_0; first | rwa [add_block] at this | exact this) GW319.out)) | (dsimp only; exact Nat.ne_of_lt (Nat.lt_of_lt_of_le (by have := World.block_lt_of_cell? _ _ hw315_0; first | rwa [add_block] at this | exact this) GW319.out))) _).trans (((cell_far (p := ⟨gb319, _, none⟩) (by first | exact Nat.ne_of_lt (Nat.lt_of_lt_of_le (by have := World.block_lt_of_cell? _ _ hw315_0; first | rwa [add_block] at this | exact this) GW319.out) | (rw [add_block]; exact Nat.ne_of_lt (Nat.lt_of_lt_of_le (by have := World.block_lt_of_cell? _ _ hw315_0; first | rwa [add_block] at this | exact this) GW319.out)) | (show (Addr.add _ _).block ≠ _; rw [add_block]; exact Nat.ne_of_lt (Nat.lt_of_lt_of_le (by have := World.block_lt_of_cell? _ _ hw315_0; first | rwa [add_block] at this | exact this) GW319.out)) | (dsimp only; exact Nat.ne_of_lt (Nat.lt_of_lt_of_le (by have := World.block_lt_of_cell? _ _ hw315_0; first | rwa [add_block] at this | exact this) GW319.out))) _).trans (((cell_far (p := ⟨gb319, _, none⟩) (by first | exact Nat.ne_of_lt (Nat.lt_of_lt_of_le (by have := World.block_lt_of_cell? _ _ hw315_0; first | rwa [add_block] at this | exact this) GW319.out) | (rw [add_block]; exact Nat.ne_of_lt (Nat.lt_of_lt_of_le (by have := World.block_lt_of_cell? _ _ hw315_0; first | rwa [add_block] at this | exact this) GW319.out)) | (show (Addr.add _ _).block ≠ _; rw [add_block]; exact Nat.ne_of_lt (Nat.lt_of_lt_of_le (by have := World.block_lt_of_cell? _ _ hw315_0; first | rwa [add_block] at this | exact this) GW319.out)) | (dsimp only; exact Nat.ne_of_lt (Nat.lt_of_lt_of_le (by have := World.block_lt_of_cell? _ _ hw315_0; first | rwa [add_block] at this | exact this) GW319.out))) _).trans (((cell_far (p := ⟨gb319, _, none⟩) (by first | exact Nat.ne_of_lt (Nat.lt_of_lt_of_le (by have := World.block_lt_of_cell? _ _ hw315_0; first | rwa [add_block] at this | exact this) GW319.out) | (rw [add_block]; exact Nat.ne_of_lt (Nat.lt_of_lt_of_le (by have := World.block_lt_of_cell? _ _ hw315_0; first | rwa [add_block] at this | exact this) GW319.out)) | (show (Addr.add _ _).block ≠ _; rw [add_block]; exact Nat.ne_of_lt (Nat.lt_of_lt_of_le (by have := World.block_lt_of_cell? _ _ hw315_0; first | rwa [add_block] at this | exact this) GW319.out)) | (dsimp only; exact Nat.ne_of_lt (Nat.lt_of_lt_of_le (by have := World.block_lt_of_cell? _ _ hw315_0; first | rwa [add_block] at this | exact this) GW319.out))) _).trans (((cell_far (p := ⟨gb319, _, none⟩) (by first | exact Nat.ne_of_lt (Nat.lt_of_lt_of_le (by have := World.block_lt_of_cell? _ _ hw315_0; first | rwa [add_block] at this | exact this) GW319.out) | (rw [add_block]; exact Nat.ne_of_lt (Nat.lt_of_lt_of_le (by have := World.block_lt_of_cell? _ _ hw315_0; first | rwa [add_block] at this | exact this) GW319.out)) | (show (Addr.add _ _).block ≠ _; rw [add_block]; exact Nat.ne_of_lt (Nat.lt_of_lt_of_le (by have := World.block_lt_of_cell? _ _ hw315_0; first | rwa [add_block] at this | exact this) GW319.out)) | (dsimp only; exact Nat.ne_of_lt (Nat.lt_of_lt_of_le (by have := World.block_lt_of_cell? _ _ hw315_0; first | rwa [add_block] at this | exact this) GW319.out))) _).trans (((cell_far (p := ⟨gb319, _, none⟩) (by first | exact Nat.ne_of_lt (Nat.lt_of_lt_of_le (by have := World.block_lt_of_cell? _ _ hw315_0; first | rwa [add_block] at this | exact this) GW319.out) | (rw [add_block]; exact Nat.ne_of_lt (Nat.lt_of_lt_of_le (by have := World.block_lt_of_cell? _ _ hw315_0; first | rwa [add_block] at this | exact this) GW319.out)) | (show (Addr.add _ _).block ≠ _; rw [add_block]; exact Nat.ne_of_lt (Nat.lt_of_lt_of_le (by have := World.block_lt_of_cell? _ _ hw315_0; first | rwa [add_block] at this | exact this) GW319.out)) | (dsimp only; exact Nat.ne_of_lt (Nat.lt_of_lt_of_le (by have := World.block_lt_of_cell? _ _ hw315_0; first | rwa [add_block] at this | exact this) GW319.out))) _).trans (((cell_far (p := ⟨gb319, _, none⟩) (by first | exact Nat.ne_of_lt (Nat.lt_of_lt_of_le (by have := World.block_lt_of_cell? _ _ hw315_0; first | rwa [add_block] at this | exact this) GW319.out) | (rw [add_block]; exact Nat.ne_of_lt (Nat.lt_of_lt_of_le (by have := World.block_lt_of_cell? _ _ hw315_0; first | rwa [add_block] at this | exact this) GW319.out)) | (show (Addr.add _ _).block ≠ _; rw [add_block]; exact Nat.ne_of_lt (Nat.lt_of_lt_of_le (by have := World.block_lt_of_cell? _ _ hw315_0; first | rwa [add_block] at this | exact this) GW319.out)) | (dsimp only; exact Nat.ne_of_lt (Nat.lt_of_lt_of_le (by have := World.block_lt_of_cell? _ _ hw315_0; first | rwa [add_block] at this | exact this) GW319.out))) _).trans (hHeld.2.1)))))))))))))))))))))), ((cell_far (p := ⟨gb319, _, none⟩) (by first | exact Nat.ne_of_lt (Nat.lt_of_lt_of_le (by have := World.block_lt_of_cell? _ _ hw318_0; first | rwa [add_block] at this | exact this) GW319.out) | (rw [add_block]; exact Nat.ne_of_lt (Nat.lt_of_lt_of_le (by have := World.block_lt_of_cell? _ _ hw318_0; first | rwa [add_block] at this | exact this) GW319.out)) | (show (Addr.add _ _).block ≠ _; rw [add_block]; exact Nat.ne_of_lt (Nat.lt_of_lt_of_le (by have := World.block_lt_of_cell? _ _ hw318_0; first | rwa [add_block] at this | exact this) GW319.out)) | (dsimp only; exact Nat.ne_of_lt (Nat.lt_of_lt_of_le (by have := World.block_lt_of_cell? _ _ hw318_0; first | rwa [add_block] at this | exact this) GW319.out))) _).trans (((cell_far (p := ⟨gb319, _, none⟩) (by first | exact Nat.ne_of_lt (Nat.lt_of_lt_of_le (by have := World.block_lt_of_cell? _ _ hw318_0; first | rwa [add_block] at this | exact this) GW319.out) | (rw [add_block]; exact Nat.ne_of_lt (Nat.lt_of_lt_of_le (by have := World.block_lt_of_cell? _ _ hw318_0; first | rwa [add_block] at this | exact this) GW319.out)) | (show (Addr.add _ _).block ≠ _; rw [add_block]; exact Nat.ne_of_lt (Nat.lt_of_lt_of_le (by have := World.block_lt_of_cell? _ _ hw318_0; first | rwa [add_block] at this | exact this) GW319.out)) | (dsimp only; exact Nat.ne_of_lt (Nat.lt_of_lt_of_le (by have := World.block_lt_of_cell? _ _ hw318_0; first | rwa [add_block] at this | exact this) GW319.out))) _).trans (((cell_far (p := ⟨gb319, _, none⟩) (by first | exact Nat.ne_of_lt (Nat.lt_of_lt_of_le (by have := World.block_lt_of_cell? _ _ hw318_0; first | rwa [add_block] at this | exact this) GW319.out) | (rw [add_block]; exact Nat.ne_of_lt (Nat.lt_of_lt_of_le (by have := World.block_lt_of_cell? _ _ hw318_0; first | rwa [add_block] at this | exact this) GW319.out)) | (show (Addr.add _ _).block ≠ _; rw [add_block]; exact Nat.ne_of_lt (Nat.lt_of_lt_of_le (by have := World.block_lt_of_cell? _ _ hw318_0; first | rwa [add_block] at this | exact this) GW319.out)) | (dsimp only; exact Nat.ne_of_lt (Nat.lt_of_lt_of_le (by have := World.block_lt_of_cell? _ _ hw318_0; first | rwa [add_block] at this | exact this) GW319.out))) _).trans (((cell_far (p := ⟨gb319, _, none⟩) (by first | exact Nat.ne_of_lt (Nat.lt_of_lt_of_le (by have := World.block_lt_of_cell? _ _ hw318_0; first | rwa [add_block] at this | exact this) GW319.out) | (rw [add_block]; exact Nat.ne_of_lt (Nat.lt_of_lt_of_le (by have := World.block_lt_of_cell? _ _ hw318_0; first | rwa [add_block] at this | exact this) GW319.out)) | (show (Addr.add _ _).block ≠ _; rw [add_block]; exact Nat.ne_of_lt (Nat.lt_of_lt_of_le (by have := World.block_lt_of_cell? _ _ hw318_0; first | rwa [add_block] at this | exact this) GW319.out)) | (dsimp only; exact Nat.ne_of_lt (Nat.lt_of_lt_of_le (by have := World.block_lt_of_cell? _ _ hw318_0; first | rwa [add_block] at this | exact this) GW319.out))) _).trans (((cell_far (p := ⟨gb319, _, none⟩) (by first | exact Nat.ne_of_lt (Nat.lt_of_lt_of_le (by have := World.block_lt_of_cell? _ _ hw318_0; first | rwa [add_block] at this | exact this) GW319.out) | (rw [add_block]; exact Nat.ne_of_lt (Nat.lt_of_lt_of_le (by have := World.block_lt_of_cell? _ _ hw318_0; first | rwa [add_block] at this | exact this) GW319.out)) | (show (Addr.add _ _).block ≠ _; rw [add_block]; exact Nat.ne_of_lt (Nat.lt_of_lt_of_le (by have := World.block_lt_of_cell? _ _ hw318_0; first | rwa [add_block] at this | exact this) GW319.out)) | (dsimp only; exact Nat.ne_of_lt (Nat.lt_of_lt_of_le (by have := World.block_lt_of_cell? _ _ hw318_0; first | rwa [add_block] at this | exact this) GW319.out))) _).trans (((cell_far (p := ⟨gb319, _, none⟩) (by first | exact Nat.ne_of_lt (Nat.lt_of_lt_of_le (by have := World.block_lt_of_cell? _ _ hw318_0; first | rwa [add_block] at this | exact this) GW319.out) | (rw [add_block]; exact Nat.ne_of_lt (Nat.lt_of_lt_of_le (by have := World.block_lt_of_cell? _ _ hw318_0; first | rwa [add_block] at this | exact this) GW319.out)) | (show (Addr.add _ _).block ≠ _; rw [add_block]; exact Nat.ne_of_lt (Nat.lt_of_lt_of_le (by have := World.block_lt_of_cell? _ _ hw318_0; first | rwa [add_block] at this | exact this) GW319.out)) | (dsimp only; exact Nat.ne_of_lt (Nat.lt_of_lt_of_le (by have := World.block_lt_of_cell? _ _ hw318_0; first | rwa [add_block] at this | exact this) GW319.out))) _).trans (((cell_far (p := ⟨gb319, _, none⟩) (by first | exact Nat.ne_of_lt (Nat.lt_of_lt_of_le (by have := World.block_lt_of_cell? _ _ hw318_0; first | rwa [add_block] at this | exact this) GW319.out) | (rw [add_block]; exact Nat.ne_of_lt (Nat.lt_of_lt_of_le (by have := World.block_lt_of_cell? _ _ hw318_0; first | rwa [add_block] at this | exact this) GW319.out)) | (show (Addr.add _ _).block ≠ _; rw [add_block]; exact Nat.ne_of_lt (Nat.lt_of_lt_of_le (by have := World.block_lt_of_cell? _ _ hw318_0; first | rwa [add_block] at this | exact this) GW319.out)) | (dsimp only; exact Nat.ne_of_lt (Nat.lt_of_lt_of_le (by have := World.block_lt_of_cell? _ _ hw318_0; first | rwa [add_block] at this | exact this) GW319.out))) _).trans (((cell_far (p := ⟨gb319, _, none⟩) (by first | exact Nat.ne_of_lt (Nat.lt_of_lt_of_le (by have := World.block_lt_of_cell? _ _ hw318_0; first | rwa [add_block] at this | exact this) GW319.out) | (rw [add_block]; exact Nat.ne_of_lt (Nat.lt_of_lt_of_le (by have := World.block_lt_of_cell? _ _ hw318_0; first | rwa [add_block] at this | exact this) GW319.out)) | (show (Addr.add _ _).block ≠ _; rw [add_block]; exact Nat.ne_of_lt (Nat.lt_of_lt_of_le (by have := World.block_lt_of_cell? _ _ hw318_0; first | rwa [add_block] at this | exact this) GW319.out)) | (dsimp only; exact Nat.ne_of_lt (Nat.lt_of_lt_of_le (by have := World.block_lt_of_cell? _ _ hw318_0; first | rwa [add_block] at this | exact this) GW319.out))) _).trans (((cell_far (p := ⟨gb319, _, none⟩) (by first | exact Nat.ne_of_lt (Nat.lt_of_lt_of_le (by have := World.block_lt_of_cell? _ _ hw318_0; first | rwa [add_block] at this | exact this) GW319.out) | (rw [add_block]; exact Nat.ne_of_lt (Nat.lt_of_lt_of_le (by have := World.block_lt_of_cell? _ _ hw318_0; first | rwa [add_block] at this | exact this) GW319.out)) | (show (Addr.add _ _).block ≠ _; rw [add_block]; exact Nat.ne_of_lt (Nat.lt_of_lt_of_le (by have := World.block_lt_of_cell? _ _ hw318_0; first | rwa [add_block] at this | exact this) GW319.out)) | (dsimp only; exact Nat.ne_of_lt (Nat.lt_of_lt_of_le (by have := World.block_lt_of_cell? _ _ hw318_0; first | rwa [add_block] at this | exact this) GW319.out))) _).trans (((cell_far (p := ⟨gb319, _, none⟩) (by first | exact Nat.ne_of_lt (Nat.lt_of_lt_of_le (by have := World.block_lt_of_cell? _ _ hw318_0; first | rwa [add_block] at this | exact this) GW319.out) | (rw [add_block]; exact Nat.ne_of_lt (Nat.lt_of_lt_of_le (by have := World.block_lt_of_cell? _ _ hw318_0; first | rwa [add_block] at this | exact this) GW319.out)) | (show (Addr.add _ _).block ≠ _; rw [add_block]; exact Nat.ne_of_lt (Nat.lt_of_lt_of_le (by have := World.block_lt_of_cell? _ _ hw318_0; first | rwa [add_block] at this | exact this) GW319.out)) | (dsimp only; exact Nat.ne_of_lt (Nat.lt_of_lt_of_le (by have := World.block_lt_of_cell? _ _ hw318_0; first | rwa [add_block] at this | exact this) GW319.out))) _).trans (((cell_far (p := ⟨gb319, _, none⟩) (by first | exact Nat.ne_of_lt (Nat.lt_of_lt_of_le (by have := World.block_lt_of_cell? _ _ hw318_0; first | rwa [add_block] at this | exact this) GW319.out) | (rw [add_block]; exact Nat.ne_of_lt (Nat.lt_of_lt_of_le (by have := World.block_lt_of_cell? _ _ hw318_0; first | rwa [add_block] at this | exact this) GW319.out)) | (show (Addr.add _ _).block ≠ _; rw [add_block]; exact Nat.ne_of_lt (Nat.lt_of_lt_of_le (by have := World.block_lt_of_cell? _ _ hw318_0; first | rwa [add_block] at this | exact this) GW319.out)) | (dsimp only; exact Nat.ne_of_lt (Nat.lt_of_lt_of_le (by have := World.block_lt_of_cell? _ _ hw318_0; first | rwa [add_block] at this | exact this) GW319.out))) _).trans (hHeld.2.2))))))))))))))))))))))⟩ (fun hHeld => ?_)
         clear hK K
         refine done_ (done_of HT_.out (by kernel_rfl)) ?_
         obtain ⟨w31, h_w31⟩ : ∃ w_, (((((((((((w19.setCell ⟨gb319, 0, none⟩ (.int .i64 (wrap64 (rd l0 0)))).setCell ⟨gb319, 1, none⟩ (.int .i64 (wrap64 (rd l0 1)))).setCell ⟨gb319, 2, none⟩ (.int .i64 t316)).setCell ⟨gb319, 3, none⟩ (.int .i64 t317)).setCell ⟨gb319, 4, none⟩ (.int .i64 (wrap64 (rd l0 6)))).setCell ⟨gb319, 5, none⟩ (.bool ((Go.bits .and .u8 (rd l0 7) 1) != 0))).setCell ⟨gb319, 6, none⟩ (.bool ((Go.bits .and .u8 (rd l0 7) 2) != 0))).setCell ⟨gb319, 7, none⟩ (.bool ((Go.bits .and .u8 (rd l0 7) 4) != 0))).setCell ⟨gb319, 8, none⟩ (.bool ((Go.bits .and .u8 (rd l0 7) 8) != 0))).setCell ⟨gb319, 9, none⟩ (.slice none 0 0)).setCell ⟨gb319, 10, none⟩ (.slice none 0 0)) = w_ := ⟨_, rfl⟩
         have n0_ : Aside0 (w31.heap[gb311]? = some (.cells #[.int .i64 0, .int .i64 0, .int .i64 0, .int .i64 0, .int .i64 0, .bool false, .bool false, .bool false, .bool false, .slice none 0 0, .slice none 0 0] 52 (0, 0))) := ⟨by subst h_w31; exact kf_ BK311.out⟩
         have n1_ : Aside0 (w31.heap[gb319]? = some (.cells #[.int .i64 (wrap64 (rd l0 0)), .int .i64 (wrap64 (rd l0 1)), .int .i64 t316, .int .i64 t317, .int .i64 (wrap64 (rd l0 6)), .bool ((Go.bits .and .u8 (rd l0 7) 1) != 0), .bool ((Go.bits .and .u8 (rd l0 7) 2) != 0), .bool ((Go.bits .and .u8 (rd l0 7) 4) != 0), .bool ((Go.bits .and .u8 (rd l0 7) 8) != 0), .slice none 0 0, .slice none 0 0] 52 (0, 0))) := ⟨by subst h_w31; refine kb_ ?_; refine pz11 (cs := #[.int .i64 0, .int .i64 0, .int .i64 0, .int .i64 0, .int .i64 0, .bool false, .bool false, .bool false, .bool false, .slice none 0 0, .slice none 0 0]) ?_; refine kb_ ?_; exact BK319.out⟩
         have n2_ : Aside0 (Below w.heap.size w w31) := ⟨by subst h_w31; exact hbA_ HB.out⟩
         (try clear BK311); (try clear BK319); (try clear HB)
         (try rw [h_w31]); clear h_w31
         have BK311 := n0_; have BK319 := n1_; have HB := n2_; clear n0_ n1_ n2_
         have p320 : 0 ≤ (8 : Int) := (by omega)
         have q320 : 8 < (l0.length : Int) := of_decide_eq_true (by first | (with_reducible assumption) | assumption)
         obtain ⟨ad320, e320, hx320_0⟩ := Kd.at_int HR0.out 8 p320 q320
         obtain rfl : ad313 = ad320 := (by injection e320)
         (try simp only [show (8 : Int).toNat = 8 from rfl, Nat.reduceMul, Nat.reduceEqDiff, Go.Addr.add, ↓reduceIte] at hx320_0)
         have qi320 : (8 < l0.length) = True := eq_true (by omega)
         (try rw [show ((8 : Int)).toNat = 8 from rfl] at hx320_0)
         replace hx320_0 := cc_ HB hx320_0
         replace p320 := eq_true p320
         replace q320 := eq_true q320
         try go_wp2
         go_loopg [10, 62] kj3 (fun kq v10 v62 w' => ∃ (x10_2 : Int) (x62_2 : Int) (x320009_2 : List (S90)) (u320009 : Value), v10 = .int .i64 x10_2 ∧ v62 = .int .i64 x62_2 ∧ Aside0 (impl_SegmentFrom.l0 kq l0 a1 a2 x10_2 (wrap64 (rd l0 8)) x62_2 (wrap64 (rd l0 0)) (wrap64 (rd l0 1)) t316 t317 (wrap64 (rd l0 6)) ((Go.bits .and .u8 (rd l0 7) 1) != 0) ((Go.bits .and .u8 (rd l0 7) 2) != 0) ((Go.bits .and .u8 (rd l0 7) 4) != 0) ((Go.bits .and .u8 (rd l0 7) 8) != 0) x320009_2 = some (r1, r2, r3, r4, r5, r6, r7, r8, r9, r10, r11, r12)) ∧ Aside0 (kq ≤ kj3) ∧ Aside0 (Kd.R k90 90 w' w.heap.size (fun _ => True) u320009 x320009_2) ∧ Aside0 (w'.heap[gb311]? = some (.cells #[.int .i64 0, .int .i64 0, .int .i64 0, .int .i64 0, .int .i64 0, .bool false, .bool false, .bool false, .bool false, (.slice none 0 0), (.slice none 0 0)] 52 (0, 0))) ∧ Aside0 (w'.heap[gb319]? = some (.cells #[.int .i64 (wrap64 (rd l0 0)), .int .i64 (wrap64 (rd l0 1)), .int .i64 t316, .int .i64 t317, .int .i64 (wrap64 (rd l0 6)), .bool ((Go.bits .and .u8 (rd l0 7) 1) != 0), .bool ((Go.bits .and .u8 (rd l0 7) 2) != 0), .bool ((Go.bits .and .u8 (rd l0 7) 4) != 0), .bool ((Go.bits .and .u8 (rd l0 7) 8) != 0), u320009, (.slice none 0 0)] 52 (0, 0))) ∧ Aside0 (Below w.heap.size w w'))
         case atStart => exact ⟨(9), (0), (([] : List (S90))), (.slice none 0 0), (by first | rfl | (simp; done) | (simp [*]; done)), (by first | rfl | (simp; done) | (simp [*]; done)), H', ⟨Nat.le_refl _⟩, ⟨by first | exact Kd.R_nil _ _ _ _ _ | exact Kd.N_nil _ _ _ _ _ | exact Kd.V_nil _ _ _ _ _ | exact Kd.Q_nil _ _ _ _ _ | exact Kd.S_nil _ _ _ _ _⟩, ⟨by refine kb_ ?_; exact BK311.out⟩, ⟨by refine kb_ ?_; exact BK319.out⟩, ⟨hbA_ HB.out⟩⟩
         case round =>
          clear H'; (try clear c1); (try clear p2); (try clear p3); (try clear q3); (try clear hx3); (try clear qi3); (try clear c6); (try clear p6); (try clear c8); (try clear c10); (try clear c10b0); (try clear c10b1); (try clear c11); (try clear c11b0); (try clear c11b1); (try clear c12); (try clear c12b0); (try clear c12b1); (try clear c15); (try clear c15b0); (try clear c15b1); (try clear c16); (try clear c16b0); (try clear c16b1); (try clear p31); (try clear q31); (try clear hx31); (try clear qi31); (try clear hx313_0); (try clear hx314_0); (try clear hx315_0); (try clear hx318_0); (try clear hx320_0); (try clear p313); (try clear p314); (try clear p315); (try clear p318); (try clear p320); (try clear q313); (try clear q314); (try clear q315); (try clear q318); (try clear q320)
          obtain ⟨x10_2, x62_2, x320009_2, u320009, rfl, rfl, HA, HK2, HO_320009, BK311, BK319, HB⟩ := hrel
          cases gk with
          | zero => exact absurd HA.out (by simp [impl_SegmentFrom.l0])
          | succ k2 =>
           have H := HA.out; clear HA
           simp only [impl_SegmentFrom.l0] at H
           by_cases c32 : x62_2 < (wrap64 (rd l0 8))
           ·rw [if_pos c32] at H
            have c32b0 : decide (x62_2 < (wrap64 (rd l0 8))) = true := decide_eq_true c32
            clear c32
            replace H := Option.bind_eq_some_iff.mp H
            obtain ⟨t321, A330, H⟩ := H
            (try dsimp only at H)
            have A33 := Aside0.mk A330; clear A330
            replace H := Option.bind_eq_some_iff.mp H
            obtain ⟨t322, A340, H⟩ := H
            (try dsimp only at H)
            have A34 := Aside0.mk A340; clear A340
            by_cases c35 : x320009_2.length < 8796093022208
            ·rw [if_pos c35] at H
             have LMc35 := Aside0.mk c35; clear c35
             obtain ⟨y323, hy323⟩ : ∃ y_ : List (S90), y_ = (x320009_2 ++ [(⟨t321, t322⟩ : S90)]) := ⟨_, rfl⟩
             (first | replace H := sb_ hy323 H | rw [← hy323] at H)
             have Ny323 := Aside0.mk hy323; clear hy323
             have H' := Aside0.mk H
             clear H
             try go_wp2
             replace HO_320009 := Aside0.mk (Kd.R_drew HO_320009.out); replace BK311 := Aside0.mk (blk_drew BK311.out); replace BK319 := Aside0.mk (blk_drew BK319.out); replace HB := (bd_ HB)
             refine start_ (n := 14) (S := fun w' => w'.cell? ⟨gb319, 0, none⟩ = some (.int .i64 (wrap64 (rd l0 0))) ∧ w'.cell? ⟨gb319, 1, none⟩ = some (.int .i64 (wrap64 (rd l0 1))) ∧ w'.cell? ⟨gb319, 2, none⟩ = some (.int .i64 t316) ∧ w'.cell? ⟨gb319, 3, none⟩ = some (.int .i64 t317) ∧ w'.cell? ⟨gb319, 4, none⟩ = some (.int .i64 (wrap64 (rd l0 6))) ∧ w'.cell? ⟨gb319, 5, none⟩ = some (.bool ((Go.bits .and .u8 (rd l0 7) 1) != 0)) ∧ w'.cell? ⟨gb319, 6, none⟩ = some (.bool ((Go.bits .and .u8 (rd l0 7) 2) != 0)) ∧ w'.cell? ⟨gb319, 7, none⟩ = some (.bool ((Go.bits .and .u8 (rd l0 7) 4) != 0)) ∧ w'.cell? ⟨gb319, 8, none⟩ = some (.bool ((Go.bits .and .u8 (rd l0 7) 8) != 0)) ∧ w'.cell? ⟨gb319, 9, none⟩ = some (u320009) ∧ w'.cell? ⟨gb319, 10, none⟩ = some (.slice none 0 0)) (ds := [13]) #[false, false, false, false, false, false, false, false, false, false, false, false, false, false] (by kernel_rfl) rfl rfl (cz11 BK319.out) (fun hHeld => ?_); refine with_tabW impl_SegmentFrom.tab8 impl_SegmentFrom.bits8 (fun HT_ HW_ => ?_)
             generalize wr.drew = w36 at HO_320009 BK311 BK319 HB hHeld ⊢
             refine pu_ (i := 0) (N := some 64) HT_ ?_; refine pu_ (i := 2) (N := some 66) HT_ ?_; refine pu_ (i := 3) (N := some 67) HT_ ?_; refine pu_ (i := 5) (N := some 69) HT_ ?_; refine pu_ (i := 6) (N := some 70) HT_ ?_; refine pu_ (i := 7) (N := some 71) HT_ ?_; refine tk_ (i := 1) (N := some 65) HT_ HW_ hHeld ?_
             refine on_ (i := 4) (N := some 68) HT_ (fun K hK => ?_)
             refine goes_ Try.func61 (by kernel_rfl) rfl #[.slice (some ad313) l0.length c0, .int .i64 x10_2, .int .i64 2] (by rfl) rfl rfl ar_ ?_
             with_reducible refine (impl_NumberAt.calls k2 _ _ l0 x10_2 2 t321 _ ?side1 ?side2 A33.out).mono ?_
             (case side1 => exact kC_ (Kd.C_below HR0.out HB.out))
             (case side2 => exact HC0.out)
             rintro e w' ⟨rfl, ⟨nd, rfl⟩⟩
             refine ⟨_, rfl, ?_⟩
             refine hK.out _ _ (cz11 BK319.out) (fun hHeld => ?_)
             clear hK K; refine nm_ 68 ?_
             refine on_ (i := 8) (N := some 72) HT_ (fun K hK => ?_)
             refine goes_ Try.func61 (by kernel_rfl) rfl #[.slice (some ad313) l0.length c0, .int .i64 (wrap64 (x10_2 + 2)), .int .i64 2] (by rfl) rfl rfl ar_ ?_
             with_reducible refine (impl_NumberAt.calls k2 _ _ l0 (wrap64 (x10_2 + 2)) 2 t322 _ ?side1 ?side2 A34.out).mono ?_
             (case side1 => exact kC_ (Kd.C_below HR0.out (hbA_ HB.out)))
             (case side2 => exact HC0.out)
             rintro e w' ⟨rfl, ⟨nd, rfl⟩⟩
             refine ⟨_, rfl, ?_⟩
             refine hK.out _ _ (cz11 BK319.out) (fun hHeld => ?_)
             clear hK K; refine nm_ 72 ?_; refine pu_ (i := 9) (N := some 73) HT_ ?_
             refine on_ (i := 10) (N := some 74) HT_ (fun K hK => ?_)
             refine value_ (w1 := ?_) (v := ?_) (by rfl) rfl ?_ ?_
             rotate_left 2
             ·go_simp
              constructor
              ·rfl
              ·rfl
             refine hK.out _ _ ⟨(blk_cell (blk_alloc BK319.out _) 0).trans rfl, (blk_cell (blk_alloc BK319.out _) 1).trans rfl, (blk_cell (blk_alloc BK319.out _) 2).trans rfl, (blk_cell (blk_alloc BK319.out _) 3).trans rfl, (blk_cell (blk_alloc BK319.out _) 4).trans rfl, (blk_cell (blk_alloc BK319.out _) 5).trans rfl, (blk_cell (blk_alloc BK319.out _) 6).trans rfl, (blk_cell (blk_alloc BK319.out _) 7).trans rfl, (blk_cell (blk_alloc BK319.out _) 8).trans rfl, (blk_cell (blk_alloc BK319.out _) 9).trans rfl, (blk_cell (blk_alloc BK319.out _) 10).trans rfl⟩ (fun hHeld => ?_)
             clear hK K; refine nm_ 74 ?_
             refine on_ (i := 11) (N := some 75) HT_ (fun K hK => ?_)
             refine Kd.R_append_step k90 (w0 := w) w.heap.size (by rfl) (.tmp 65) (.tmp 74) 50 90 (.agg #[(.int .i64 0), (.int .i64 0)]) 16 rfl Try.underlying50 info90 rfl (by decide) (by omega) u320009 x320009_2 (⟨t321, t322⟩ : S90) [.int .i64 t321, .int .i64 t322] (fun _ => True) (fun _ => False) rfl rfl ?aP (fun _ hk => hk.elim) ?aF ?aO ?aB ?aS ?aL ?_
             (case aP => exact k90_mkM _ _ _ (⟨t321, t322⟩ : S90))
             (case aB => exact (hbA_ HB.out))
             (case aF => exact (fun _ _ => trivial))
             (case aO => exact (kR_ HO_320009.out))
             (case aS => exact (below_size (hbA_ HB.out)))
             (case aL => have := LMc35.out; omega)
             intro v324 w37 ho hb hg hat
             rw [← Ny323.out] at ho
             have n0_ := (bgA_ BK311 hg (Kd.R_ne HO_320009.out BK311.out (by decide))); have n1_ := (bgA_ BK319 hg (Kd.R_ne HO_320009.out BK319.out (by decide))); have n2_ := Aside0.mk (hb); have n3_ := Aside0.mk (ho); clear BK311 BK319 HB HO_320009; have BK311 := n0_; have BK319 := n1_; have HB := n2_; have HO325 := n3_; clear n0_ n1_ n2_ n3_ ho hb hg hat
             obtain ⟨Ao38, co38, eo38⟩ := Kd.R_slice HO325.out
             (first | subst eo38 | (injection eo38 with f1_ f2_ f3_; have f4_ := f1_.symm; have f5_ := f3_.symm; clear f1_ f2_ f3_; subst f4_; subst f5_))
             refine hK.out _ _ (cz11 BK319.out) (fun hHeld => ?_)
             clear hK K; refine nm_ 75 ?_; refine pu_ (i := 12) (N := some 76) HT_ ?_
             refine last_ (i := 13) (N := none) #[true, true, true, true, true, true, true, true, true, true, true, true, true, true] rfl rfl (one_of HT_.out (by kernel_rfl)) (by decide) (fun K hK => ?_)
             have hs39 : w37.cell? ⟨gb319, 9, none⟩ = some (u320009) := bc_ BK319 9
             have hfs39 := blk_frozen BK319.out 9
             have hns39_0 := NB311_319.out; have hms39_0 := NB319_311.out
             refine skip_ (w1 := ?_) (by rfl) rfl ?_ ?_
             rotate_left
             ·go_simp
              rfl
             refine hK.out _ _ ?_
             clear hK K
             refine done_ (done_of HT_.out (by kernel_rfl)) ?_
             try go_wp2
             go_roundg k2
             case measure => have := HJ3.out; have := HK2.out; omega
             case rel => exact ⟨(wrap64 (x10_2 + 4)), (wrap64 (x62_2 + 1)), (y323), (.slice Ao38 y323.length co38), (by first | rfl | (simp; done) | (simp [*]; done)), (by first | rfl | (simp; done) | (simp [*]; done)), H', ⟨by have := HJ3.out; have := HK2.out; omega⟩, ⟨by refine kR_ ?_; exact Kd.R_mono (Kd.R_f gb319 9 (.slice Ao38 y323.length co38) (Kd.R_types HO325.out BK319.out (by decide))) (fun _ hk => trivial)⟩, ⟨by exact kf_ BK311.out⟩, ⟨by refine kb_ ?_; refine blk_put (cs := #[.int .i64 (wrap64 (rd l0 0)), .int .i64 (wrap64 (rd l0 1)), .int .i64 t316, .int .i64 t317, .int .i64 (wrap64 (rd l0 6)), .bool ((Go.bits .and .u8 (rd l0 7) 1) != 0), .bool ((Go.bits .and .u8 (rd l0 7) 2) != 0), .bool ((Go.bits .and .u8 (rd l0 7) 4) != 0), .bool ((Go.bits .and .u8 (rd l0 7) 8) != 0), u320009, .slice none 0 0]) ?_ 9 _ rfl; refine kb_ ?_; exact BK319.out⟩, ⟨hbA_ HB.out⟩⟩
            ·rw [if_neg c35] at H
             exact absurd H (by simp)
           ·rw [if_neg c32] at H
            have c32b0 : decide (x62_2 < (wrap64 (rd l0 8))) = false := decide_eq_false c32
            clear c32
            obtain ⟨ji40, hji40⟩ : ∃ j_ : Int, (wrap64 (x10_2 + 1)) = j_ := ⟨_, rfl⟩
            (first | rw [hji40] at H | simp only [hji40] at H)
            have hji40w : (IntKind.i64.wrap (x10_2 + 1)) = ji40 := (i64_w _).trans hji40
            by_cases c41 : 0 ≤ (ji40)
            ·rw [if_pos c41] at H
             have c41b0 := eq_true c41
             have c41b1 : decide (0 ≤ (ji40)) = true := decide_eq_true c41
             clear c41
             by_cases c42 : (ji40) ≤ (wrap64 ((l0.length : Int) - 2))
             ·rw [if_pos c42] at H
              have c42b0 := eq_true c42
              have c42b1 : decide ((ji40) ≤ (wrap64 ((l0.length : Int) - 2))) = true := decide_eq_true c42
              clear c42
              by_cases c43 : (wrap64 ((l0.length : Int) - 2)) ≤ (l0.length : Int)
              ·rw [if_pos c43] at H
               have c43b0 := eq_true c43
               have c43b1 : decide ((wrap64 ((l0.length : Int) - 2)) ≤ (l0.length : Int)) = true := decide_eq_true c43
               clear c43
               replace H := Option.bind_eq_some_iff.mp H
               obtain ⟨t327, A440, H⟩ := H
               (try dsimp only at H)
               have A44 := Aside0.mk A440; clear A440
               replace H := Option.bind_eq_some_iff.mp H
               obtain ⟨t330, A450, H⟩ := H
               (try dsimp only at H)
               have A45 := Aside0.mk A450; clear A450
               by_cases c46 : t330 = true
               ·subst c46
                rw [if_pos rfl] at H
                replace H := Option.bind_eq_some_iff.mp H
                obtain ⟨⟨t331, t332, t333, t334, t335, t336, t337, t338, t339, t340, t343⟩, A470, H⟩ := H
                (try dsimp only at H)
                have A47 := Aside0.mk A470; clear A470
                simp only [Option.some.injEq, Prod.mk.injEq] at H
                obtain ⟨rfl, rfl, rfl, rfl, rfl, rfl, rfl, rfl, rfl, rfl, rfl, rfl⟩ := H
                obtain ⟨i048, hi048, _, hsz48, _⟩ := info_parts info5
                obtain ⟨A48, hcut48, hA48, hC48⟩ := print_mid_of (P := Try.prog) (Value.int .u8) 0 22 5 .i64 .i64 Try.underlying22 hi048 hsz48 (some ad313) c0 l0 (ji40) (wrap64 ((l0.length : Int) - 2)) (of_decide_eq_true (by first | (with_reducible assumption) | assumption)) (by first | omega | exact of_decide_eq_true (by first | (with_reducible assumption) | assumption)) (of_decide_eq_true (by first | (with_reducible assumption) | assumption)) HC0.out
                have HR326 := Aside0.mk (Kd.C_of_reads (h1 := fun _ => rfl) (hA48 _ (Kd.reads_of_C HR0.out)))
                have HC326 := Aside0.mk hC48; clear hA48 hC48 hi048 hsz48; generalize hcx48 : ((l0.take ((wrap64 ((l0.length : Int) - 2)) : Int).toNat).drop ((ji40) : Int).toNat) = cx48 at *; clear hcx48; have hnb49 := NB319_311.out; have hnc49 := NB311_319.out; have Z50 := zz11 BK319
                obtain ⟨Ao51, co51, eo51⟩ := Kd.R_slice HO_320009.out
                subst eo51
                go_wp2_with (first | ((with_reducible refine gate_callee (f := 36) rfl ?_); refine goesL_ (some 91) rfl rfl Try.func36 (by kernel_rfl) rfl #[.agg #[.int .i64 (wrap64 (rd l0 0)), .int .i64 (wrap64 (rd l0 1)), .int .i64 t316, .int .i64 t317, .int .i64 (wrap64 (rd l0 6)), .bool ((Go.bits .and .u8 (rd l0 7) 1) != 0), .bool ((Go.bits .and .u8 (rd l0 7) 2) != 0), .bool ((Go.bits .and .u8 (rd l0 7) 4) != 0), .bool ((Go.bits .and .u8 (rd l0 7) 8) != 0), .slice Ao51 x320009_2.length co51, .slice A48 cx48.length (c0 - (ji40).toNat)], .int .i64 a1, .int .i64 a2] rfl (by (try simp only [List.map_toArray, List.map_cons, List.map_nil]); first | done | (rw [show cx48.length = ((wrap64 ((l0.length : Int) - 2)).toNat - (ji40).toNat) from (by rw [List.length_drop, List.length_take]; have h_ : ((wrap64 ((l0.length : Int) - 2)) : Int) ≤ (l0.length : Int) := of_decide_eq_true (by first | (with_reducible assumption) | assumption); omega)] <;> rfl) | (simp only [hji40]; rfl) | rfl | (simp only [List.length_drop, List.length_take]; rfl)) ?_; (with_reducible refine (impl_SegmentBytes.calls k2 (wrap64 (rd l0 0)) (wrap64 (rd l0 1)) t316 t317 (wrap64 (rd l0 6)) ((Go.bits .and .u8 (rd l0 7) 1) != 0) ((Go.bits .and .u8 (rd l0 7) 2) != 0) ((Go.bits .and .u8 (rd l0 7) 4) != 0) ((Go.bits .and .u8 (rd l0 7) 8) != 0) _ _ x320009_2 _ _ cx48 a1 a2 t327 _ ?side1 ?side2 ?side3 ?side4 A44.out).mono ?_); (case side1 => refine (Kd.R_reads' (e := 90) (base := w.heap.size) (ok := fun k_ => True) (n := x320009_2.length) (c := co51) ?_).2.2; exact (by refine kR_ ?_; exact (Kd.R_mono (Kd.R_f gb319 10 _ (Kd.R_types HO_320009.out BK319.out (by decide))) (fun _ h_ => op1_ h_)))); (case side2 => exact (Kd.R_reads' HO_320009.out).2.1); (case side3 => exact Kd.C_below HR326.out (hbA_ HB.out)); (case side4 => exact HC326.out); rintro e w52 ⟨v328, rfl, ho0, hb⟩; refine ⟨_, rfl, ?_⟩; replace HO_320009 := Aside0.mk (Kd.R_below (by refine kR_ ?_; exact (Kd.R_mono (Kd.R_f gb319 10 _ (Kd.R_types HO_320009.out BK319.out (by decide))) (fun _ h_ => op1_ h_))) hb); have HO329 := Aside0.mk (Kd.R_lower ho0 (below_size (hbA_ HB.out))); replace BK311 := Aside0.mk (blk_below (g := gb311) (o := .cells #[.int .i64 0, .int .i64 0, .int .i64 0, .int .i64 0, .int .i64 0, .bool false, .bool false, .bool false, .bool false, .slice none 0 0, .slice none 0 0] 52 (0, 0)) (by exact kf_ BK311.out) hb); replace BK319 := Aside0.mk (blk_below (g := gb319) (o := .cells #[.int .i64 (wrap64 (rd l0 0)), .int .i64 (wrap64 (rd l0 1)), .int .i64 t316, .int .i64 t317, .int .i64 (wrap64 (rd l0 6)), .bool ((Go.bits .and .u8 (rd l0 7) 1) != 0), .bool ((Go.bits .and .u8 (rd l0 7) 2) != 0), .bool ((Go.bits .and .u8 (rd l0 7) 4) != 0), .bool ((Go.bits .and .u8 (rd l0 7) 8) != 0), .slice Ao51 x320009_2.length co51, .slice A48 cx48.length (c0 - (ji40).toNat)] 52 (0, 0)) (by refine kb_ ?_; refine blk_put (cs := #[.int .i64 (wrap64 (rd l0 0)), .int .i64 (wrap64 (rd l0 1)), .int .i64 t316, .int .i64 t317, .int .i64 (wrap64 (rd l0 6)), .bool ((Go.bits .and .u8 (rd l0 7) 1) != 0), .bool ((Go.bits .and .u8 (rd l0 7) 2) != 0), .bool ((Go.bits .and .u8 (rd l0 7) 4) != 0), .bool ((Go.bits .and .u8 (rd l0 7) 8) != 0), .slice Ao51 x320009_2.length co51, .slice none 0 0]) ?_ 10 _ rfl; refine kb_ ?_; exact BK319.out) hb); replace HB := (bs_ HB hb); (try clear hb); (try clear hb2); (try clear hk); (try clear hi); (try clear ho0); obtain ⟨Ao53, co53, eo53⟩ := Kd.R_slice HO329.out; subst eo53) | ((with_reducible refine gate_callee (f := 62) rfl ?_); refine goesL_ (some 93) rfl rfl Try.func62 (by kernel_rfl) rfl #[.slice Ao53 t327.length co53, .slice (some ad313) l0.length c0] rfl ar_ ?_; (with_reducible refine (slices_Equal_byte_byte.calls k2 _ _ t327 _ _ l0 true _ ?side1 ?side2 ?side3 ?side4 A45.out).mono ?_); (case side1 => exact kC_ (Kd.R_reads' HO329.out).2.2); (case side2 => exact (Kd.R_reads' HO329.out).2.1); (case side3 => exact kC_ (Kd.C_below HR0.out HB.out)); (case side4 => exact HC0.out); rintro e w' ⟨rfl, ⟨nd, rfl⟩⟩; refine ⟨_, rfl, ?_⟩; (try ((try simp only [World.drewN_drewN]); rw [drewN_self w52]; generalize hq_ : World.drewN w52 _ = w52; have n0_ : Aside0 (Kd.R (Kd.int .u8) 5 w52 w.heap.size (fun _ => True) (.slice Ao53 t327.length co53) t327) := ⟨by rw [← hq_]; exact (kR_ HO329.out)⟩; have n1_ : Aside0 (Kd.R k90 90 w52 w.heap.size (fun _ => True) (.slice Ao51 x320009_2.length co51) x320009_2) := ⟨by rw [← hq_]; exact (kR_ HO_320009.out)⟩; have n2_ : Aside0 (w52.heap[gb311]? = some (.cells #[.int .i64 0, .int .i64 0, .int .i64 0, .int .i64 0, .int .i64 0, .bool false, .bool false, .bool false, .bool false, .slice none 0 0, .slice none 0 0] 52 (0, 0))) := ⟨by rw [← hq_]; exact (kb_ BK311.out)⟩; have n3_ : Aside0 (w52.heap[gb319]? = some (.cells #[.int .i64 (wrap64 (rd l0 0)), .int .i64 (wrap64 (rd l0 1)), .int .i64 t316, .int .i64 t317, .int .i64 (wrap64 (rd l0 6)), .bool ((Go.bits .and .u8 (rd l0 7) 1) != 0), .bool ((Go.bits .and .u8 (rd l0 7) 2) != 0), .bool ((Go.bits .and .u8 (rd l0 7) 4) != 0), .bool ((Go.bits .and .u8 (rd l0 7) 8) != 0), .slice Ao51 x320009_2.length co51, .slice A48 cx48.length (c0 - (ji40).toNat)] 52 (0, 0))) := ⟨by rw [← hq_]; exact (kb_ BK319.out)⟩; have n4_ : Aside0 (Below w.heap.size w w52) := ⟨by rw [← hq_]; exact (hbA_ HB.out)⟩; clear HO329 HO_320009 BK311 BK319 HB hq_; have HO329 := n0_; have HO_320009 := n1_; have BK311 := n2_; have BK319 := n3_; have HB := n4_; clear n0_ n1_ n2_ n3_ n4_)); have Z54 := zz11 BK319) | ((with_reducible refine gate_callee (f := 63) rfl ?_); refine goesL_ (some 97) rfl rfl Try.func63 (by kernel_rfl) rfl #[.agg #[.int .i64 (wrap64 (rd l0 0)), .int .i64 (wrap64 (rd l0 1)), .int .i64 t316, .int .i64 t317, .int .i64 (wrap64 (rd l0 6)), .bool ((Go.bits .and .u8 (rd l0 7) 1) != 0), .bool ((Go.bits .and .u8 (rd l0 7) 2) != 0), .bool ((Go.bits .and .u8 (rd l0 7) 4) != 0), .bool ((Go.bits .and .u8 (rd l0 7) 8) != 0), .slice Ao51 x320009_2.length co51, .slice A48 cx48.length (c0 - (ji40).toNat)]] rfl (by (try simp only [List.map_toArray, List.map_cons, List.map_nil]); first | done | (rw [show cx48.length = ((wrap64 ((l0.length : Int) - 2)).toNat - (ji40).toNat) from (by rw [List.length_drop, List.length_take]; have h_ : ((wrap64 ((l0.length : Int) - 2)) : Int) ≤ (l0.length : Int) := of_decide_eq_true (by first | (with_reducible assumption) | assumption); omega)] <;> rfl) | (simp only [hji40]; rfl) | rfl | (simp only [List.length_drop, List.length_take]; rfl)) ?_; (with_reducible refine (impl_Segment_copy.calls (wrap64 (rd l0 0)) (wrap64 (rd l0 1)) t316 t317 (wrap64 (rd l0 6)) ((Go.bits .and .u8 (rd l0 7) 1) != 0) ((Go.bits .and .u8 (rd l0 7) 2) != 0) ((Go.bits .and .u8 (rd l0 7) 4) != 0) ((Go.bits .and .u8 (rd l0 7) 8) != 0) _ _ x320009_2 _ _ cx48 t331 t332 t333 t334 t335 t336 t337 t338 t339 t340 t343 _ ?side1 ?side2 ?side3 ?side4 A47.out).mono ?_); (case side1 => exact kC_ (Kd.R_reads' HO_320009.out).2.2); (case side2 => exact (Kd.R_reads' HO_320009.out).2.1); (case side3 => exact kC_ (Kd.C_below HR326.out HB.out)); (case side4 => exact HC326.out); rintro e w55 ⟨v341, v344, rfl, ho0, ho1, hb⟩; refine ⟨_, rfl, ?_⟩; have HO342 := Aside0.mk (Kd.R_lower (Kd.R_new' ho0 (Kd.R_lt (kR_ HO_320009.out))) (below_size (hbA_ HB.out))); replace HO_320009 := Aside0.mk (Kd.R_elder' (kR_ HO_320009.out) (Kd.R_base ho0) hb); have HO345 := Aside0.mk (Kd.R_lower (Kd.R_new' ho1 (Kd.R_lt (kR_ HO329.out))) (below_size (hbA_ HB.out))); replace HO329 := Aside0.mk (Kd.R_elder' (kR_ HO329.out) (Kd.R_base ho1) hb); replace BK311 := (bbA_ BK311 hb); replace BK319 := (bbA_ BK319 hb); replace HB := (bs_ HB hb); (try clear hb); (try clear hb2); (try clear hk); (try clear hi); (try clear ho0); (try clear ho1); have Z56 := zz11 BK311; obtain ⟨Ao57, co57, eo57⟩ := Kd.R_slice HO342.out; subst eo57; obtain ⟨Ao58, co58, eo58⟩ := Kd.R_slice HO345.out; subst eo58))
                refine bodyPost_ret (results_ct rfl _ _ gb311 52 #[.int .i64 t331, .int .i64 t332, .int .i64 t333, .int .i64 t334, .int .i64 t335, .bool t336, .bool t337, .bool t338, .bool t339, .slice Ao57 t340.length co57, .slice Ao58 t343.length co58] (0, 0) _ rfl (by refine kb_ ?_; refine pz11 (cs := #[.int .i64 0, .int .i64 0, .int .i64 0, .int .i64 0, .int .i64 0, .bool false, .bool false, .bool false, .bool false, .slice none 0 0, .slice none 0 0]) ?_; refine kb_ ?_; exact BK311.out) Try.underlying52 rfl (by kernel_rfl)) rfl ?_
                exact ⟨_, _, by first | rfl | (simp [errW_none, errW_some] <;> rfl) | (simp only [← hji40]; first | rfl | (simp [errW_none, errW_some] <;> rfl)) | (simp [*, errW_none, errW_some] <;> rfl), by refine kR_ ?_; exact rfm_ ((Kd.R_types HO342.out BK311.out (by decide))) (fun _ hk => trivial), by refine kR_ ?_; exact rfm_ ((Kd.R_types HO345.out BK311.out (by decide))) (fun _ hk => trivial), hbA_ HB.out⟩
               ·replace c46 := Bool.eq_false_iff.mpr c46
                subst c46
                rw [if_neg (show ¬ (false = true) by decide)] at H
                simp only [Option.some.injEq, Prod.mk.injEq] at H
                obtain ⟨rfl, rfl, rfl, rfl, rfl, rfl, rfl, rfl, rfl, rfl, rfl, rfl⟩ := H
                obtain ⟨i059, hi059, _, hsz59, _⟩ := info_parts info5
                obtain ⟨A59, hcut59, hA59, hC59⟩ := print_mid_of (P := Try.prog) (Value.int .u8) 0 22 5 .i64 .i64 Try.underlying22 hi059 hsz59 (some ad313) c0 l0 (ji40) (wrap64 ((l0.length : Int) - 2)) (of_decide_eq_true (by first | (with_reducible assumption) | assumption)) (by first | omega | exact of_decide_eq_true (by first | (with_reducible assumption) | assumption)) (of_decide_eq_true (by first | (with_reducible assumption) | assumption)) HC0.out
                have HR326 := Aside0.mk (Kd.C_of_reads (h1 := fun _ => rfl) (hA59 _ (Kd.reads_of_C HR0.out)))
                have HC326 := Aside0.mk hC59; clear hA59 hC59 hi059 hsz59; generalize hcx59 : ((l0.take ((wrap64 ((l0.length : Int) - 2)) : Int).toNat).drop ((ji40) : Int).toNat) = cx59 at *; clear hcx59; have hnb60 := NB319_311.out; have hnc60 := NB311_319.out; have Z61 := zz11 BK319
                obtain ⟨Ao62, co62, eo62⟩ := Kd.R_slice HO_320009.out
                subst eo62
                go_wp2_with (first | ((with_reducible refine gate_callee (f := 36) rfl ?_); refine goesL_ (some 91) rfl rfl Try.func36 (by kernel_rfl) rfl #[.agg #[.int .i64 (wrap64 (rd l0 0)), .int .i64 (wrap64 (rd l0 1)), .int .i64 t316, .int .i64 t317, .int .i64 (wrap64 (rd l0 6)), .bool ((Go.bits .and .u8 (rd l0 7) 1) != 0), .bool ((Go.bits .and .u8 (rd l0 7) 2) != 0), .bool ((Go.bits .and .u8 (rd l0 7) 4) != 0), .bool ((Go.bits .and .u8 (rd l0 7) 8) != 0), .slice Ao62 x320009_2.length co62, .slice A59 cx59.length (c0 - (ji40).toNat)], .int .i64 a1, .int .i64 a2] rfl (by (try simp only [List.map_toArray, List.map_cons, List.map_nil]); first | done | (rw [show cx59.length = ((wrap64 ((l0.length : Int) - 2)).toNat - (ji40).toNat) from (by rw [List.length_drop, List.length_take]; have h_ : ((wrap64 ((l0.length : Int) - 2)) : Int) ≤ (l0.length : Int) := of_decide_eq_true (by first | (with_reducible assumption) | assumption); omega)] <;> rfl) | (simp only [hji40]; rfl) | rfl | (simp only [List.length_drop, List.length_take]; rfl)) ?_; (with_reducible refine (impl_SegmentBytes.calls k2 (wrap64 (rd l0 0)) (wrap64 (rd l0 1)) t316 t317 (wrap64 (rd l0 6)) ((Go.bits .and .u8 (rd l0 7) 1) != 0) ((Go.bits .and .u8 (rd l0 7) 2) != 0) ((Go.bits .and .u8 (rd l0 7) 4) != 0) ((Go.bits .and .u8 (rd l0 7) 8) != 0) _ _ x320009_2 _ _ cx59 a1 a2 t327 _ ?side1 ?side2 ?side3 ?side4 A44.out).mono ?_); (case side1 => refine (Kd.R_reads' (e := 90) (base := w.heap.size) (ok := fun k_ => True) (n := x320009_2.length) (c := co62) ?_).2.2; exact (by refine kR_ ?_; exact (Kd.R_mono (Kd.R_f gb319 10 _ (Kd.R_types HO_320009.out BK319.out (by decide))) (fun _ h_ => op1_ h_)))); (case side2 => exact (Kd.R_reads' HO_320009.out).2.1); (case side3 => exact Kd.C_below HR326.out (hbA_ HB.out)); (case side4 => exact HC326.out); rintro e w63 ⟨v328, rfl, ho0, hb⟩; refine ⟨_, rfl, ?_⟩; replace HO_320009 := Aside0.mk (Kd.R_below (by refine kR_ ?_; exact (Kd.R_mono (Kd.R_f gb319 10 _ (Kd.R_types HO_320009.out BK319.out (by decide))) (fun _ h_ => op1_ h_))) hb); have HO329 := Aside0.mk (Kd.R_lower ho0 (below_size (hbA_ HB.out))); replace BK311 := Aside0.mk (blk_below (g := gb311) (o := .cells #[.int .i64 0, .int .i64 0, .int .i64 0, .int .i64 0, .int .i64 0, .bool false, .bool false, .bool false, .bool false, .slice none 0 0, .slice none 0 0] 52 (0, 0)) (by exact kf_ BK311.out) hb); replace BK319 := Aside0.mk (blk_below (g := gb319) (o := .cells #[.int .i64 (wrap64 (rd l0 0)), .int .i64 (wrap64 (rd l0 1)), .int .i64 t316, .int .i64 t317, .int .i64 (wrap64 (rd l0 6)), .bool ((Go.bits .and .u8 (rd l0 7) 1) != 0), .bool ((Go.bits .and .u8 (rd l0 7) 2) != 0), .bool ((Go.bits .and .u8 (rd l0 7) 4) != 0), .bool ((Go.bits .and .u8 (rd l0 7) 8) != 0), .slice Ao62 x320009_2.length co62, .slice A59 cx59.length (c0 - (ji40).toNat)] 52 (0, 0)) (by refine kb_ ?_; refine blk_put (cs := #[.int .i64 (wrap64 (rd l0 0)), .int .i64 (wrap64 (rd l0 1)), .int .i64 t316, .int .i64 t317, .int .i64 (wrap64 (rd l0 6)), .bool ((Go.bits .and .u8 (rd l0 7) 1) != 0), .bool ((Go.bits .and .u8 (rd l0 7) 2) != 0), .bool ((Go.bits .and .u8 (rd l0 7) 4) != 0), .bool ((Go.bits .and .u8 (rd l0 7) 8) != 0), .slice Ao62 x320009_2.length co62, .slice none 0 0]) ?_ 10 _ rfl; refine kb_ ?_; exact BK319.out) hb); replace HB := (bs_ HB hb); (try clear hb); (try clear hb2); (try clear hk); (try clear hi); (try clear ho0); obtain ⟨Ao64, co64, eo64⟩ := Kd.R_slice HO329.out; subst eo64) | ((with_reducible refine gate_callee (f := 62) rfl ?_); refine goesL_ (some 93) rfl rfl Try.func62 (by kernel_rfl) rfl #[.slice Ao64 t327.length co64, .slice (some ad313) l0.length c0] rfl ar_ ?_; (with_reducible refine (slices_Equal_byte_byte.calls k2 _ _ t327 _ _ l0 false _ ?side1 ?side2 ?side3 ?side4 A45.out).mono ?_); (case side1 => exact kC_ (Kd.R_reads' HO329.out).2.2); (case side2 => exact (Kd.R_reads' HO329.out).2.1); (case side3 => exact kC_ (Kd.C_below HR0.out HB.out)); (case side4 => exact HC0.out); rintro e w' ⟨rfl, ⟨nd, rfl⟩⟩; refine ⟨_, rfl, ?_⟩; (try ((try simp only [World.drewN_drewN]); rw [drewN_self w63]; generalize hq_ : World.drewN w63 _ = w63; have n0_ : Aside0 (Kd.R (Kd.int .u8) 5 w63 w.heap.size (fun _ => True) (.slice Ao64 t327.length co64) t327) := ⟨by rw [← hq_]; exact (kR_ HO329.out)⟩; have n1_ : Aside0 (Kd.R k90 90 w63 w.heap.size (fun _ => True) (.slice Ao62 x320009_2.length co62) x320009_2) := ⟨by rw [← hq_]; exact (kR_ HO_320009.out)⟩; have n2_ : Aside0 (w63.heap[gb311]? = some (.cells #[.int .i64 0, .int .i64 0, .int .i64 0, .int .i64 0, .int .i64 0, .bool false, .bool false, .bool false, .bool false, .slice none 0 0, .slice none 0 0] 52 (0, 0))) := ⟨by rw [← hq_]; exact (kb_ BK311.out)⟩; have n3_ : Aside0 (w63.heap[gb319]? = some (.cells #[.int .i64 (wrap64 (rd l0 0)), .int .i64 (wrap64 (rd l0 1)), .int .i64 t316, .int .i64 t317, .int .i64 (wrap64 (rd l0 6)), .bool ((Go.bits .and .u8 (rd l0 7) 1) != 0), .bool ((Go.bits .and .u8 (rd l0 7) 2) != 0), .bool ((Go.bits .and .u8 (rd l0 7) 4) != 0), .bool ((Go.bits .and .u8 (rd l0 7) 8) != 0), .slice Ao62 x320009_2.length co62, .slice A59 cx59.length (c0 - (ji40).toNat)] 52 (0, 0))) := ⟨by rw [← hq_]; exact (kb_ BK319.out)⟩; have n4_ : Aside0 (Below w.heap.size w w63) := ⟨by rw [← hq_]; exact (hbA_ HB.out)⟩; clear HO329 HO_320009 BK311 BK319 HB hq_; have HO329 := n0_; have HO_320009 := n1_; have BK311 := n2_; have BK319 := n3_; have HB := n4_; clear n0_ n1_ n2_ n3_ n4_)); have Z65 := zz11 BK311))
                refine bodyPost_ret (results_ct rfl _ _ gb311 52 #[.int .i64 0, .int .i64 0, .int .i64 0, .int .i64 0, .int .i64 0, .bool false, .bool false, .bool false, .bool false, .slice none 0 0, .slice none 0 0] (0, 0) _ rfl (by refine kb_ ?_; refine pz11 (cs := #[.int .i64 0, .int .i64 0, .int .i64 0, .int .i64 0, .int .i64 0, .bool false, .bool false, .bool false, .bool false, .slice none 0 0, .slice none 0 0]) ?_; refine kb_ ?_; exact BK311.out) Try.underlying52 rfl (by kernel_rfl)) rfl ?_
                exact ⟨_, _, by first | rfl | (simp [errW_none, errW_some] <;> rfl) | (simp only [← hji40]; first | rfl | (simp [errW_none, errW_some] <;> rfl)) | (simp [*, errW_none, errW_some] <;> rfl), by first | exact Kd.R_nil _ _ _ _ _ | exact Kd.N_nil _ _ _ _ _ | exact Kd.V_nil _ _ _ _ _ | exact Kd.Q_nil _ _ _ _ _ | exact Kd.S_nil _ _ _ _ _, by first | exact Kd.R_nil _ _ _ _ _ | exact Kd.N_nil _ _ _ _ _ | exact Kd.V_nil _ _ _ _ _ | exact Kd.Q_nil _ _ _ _ _ | exact Kd.S_nil _ _ _ _ _, hbA_ HB.out⟩
              ·rw [if_neg c43] at H
               exact absurd H (by simp)
             ·rw [if_neg c42] at H
              exact absurd H (by simp)
            ·rw [if_neg c41] at H
             exact absurd H (by simp)
        ·rw [if_neg c16] at H
         exact absurd H (by simp)
       ·rw [if_neg c15] at H
        exact absurd H (by simp)
      ·rw [if_neg c12] at H
       exact absurd H (by simp)
     ·rw [if_neg c11] at H
      exact absurd H (by simp)
    ·rw [if_neg c10] at H
     exact absurd H (by simp)
mutual
def spec_l11Marks.j0 : Nat → Int → Int → Int → Int → Int → Int → Bool → Bool → Bool → Bool → List (S90) → List Int → Option (Int)
 | 0, _, _, _, _, _, _, _, _, _, _, _, _ => none
 | k + 1, x3, x347000, x347001, x347002, x347003, x347004, x347005, x347006, x347007, x347008, x347009, x347010 => if x347006 = true then (spec_l11Marks.j1 k (wrap64 (x3 + 2)) x347000 x347001 x347002 x347003 x347004 x347005 x347006 x347007 x347008 x347009 x347010) else (spec_l11Marks.j1 k x3 x347000 x347001 x347002 x347003 x347004 x347005 x347006 x347007 x347008 x347009 x347010)
def spec_l11Marks.j1 : Nat → Int → Int → Int → Int → Int → Int → Bool → Bool → Bool → Bool → List (S90) → List Int → Option (Int)
 | 0, _, _, _, _, _, _, _, _, _, _, _, _ => none
 | k + 1, x3, x347000, x347001, x347002, x347003, x347004, x347005, x347006, x347007, x347008, x347009, x347010 => if x347007 = true then (spec_l11Marks.j2 k (wrap64 (x3 + 4)) x347000 x347001 x347002 x347003 x347004 x347005 x347006 x347007 x347008 x347009 x347010) else (spec_l11Marks.j2 k x3 x347000 x347001 x347002 x347003 x347004 x347005 x347006 x347007 x347008 x347009 x347010)
def spec_l11Marks.j2 : Nat → Int → Int → Int → Int → Int → Int → Bool → Bool → Bool → Bool → List (S90) → List Int → Option (Int)
 | 0, _, _, _, _, _, _, _, _, _, _, _, _ => none
 | k + 1, x3, x347000, x347001, x347002, x347003, x347004, x347005, x347006, x347007, x347008, x347009, x347010 => if x347008 = true then (some (wrap64 (x3 + 8))) else (some x3)
end
def spec_l11Marks.f (k : Nat) (a0_0 : Int) (a0_1 : Int) (a0_2 : Int) (a0_3 : Int) (a0_4 : Int) (a0_5 : Bool) (a0_6 : Bool) (a0_7 : Bool) (a0_8 : Bool) (l0_9 : List (S90)) (l0_10 : List Int) : Option (Int) := if a0_5 = true then (spec_l11Marks.j0 k (0 + 1) a0_0 a0_1 a0_2 a0_3 a0_4 a0_5 a0_6 a0_7 a0_8 l0_9 l0_10) else (spec_l11Marks.j0 k 0 a0_0 a0_1 a0_2 a0_3 a0_4 a0_5 a0_6 a0_7 a0_8 l0_9 l0_10)
theorem spec_l11Marks.mono_l : ∀ k, (∀ y0 y1 y2 y3 y4 y5 y6 y7 y8 y9 y10 y11, LeO (spec_l11Marks.j0 k y0 y1 y2 y3 y4 y5 y6 y7 y8 y9 y10 y11) (spec_l11Marks.j0 (k + 1) y0 y1 y2 y3 y4 y5 y6 y7 y8 y9 y10 y11)) ∧ (∀ y0 y1 y2 y3 y4 y5 y6 y7 y8 y9 y10 y11, LeO (spec_l11Marks.j1 k y0 y1 y2 y3 y4 y5 y6 y7 y8 y9 y10 y11) (spec_l11Marks.j1 (k + 1) y0 y1 y2 y3 y4 y5 y6 y7 y8 y9 y10 y11)) ∧ (∀ y0 y1 y2 y3 y4 y5 y6 y7 y8 y9 y10 y11, LeO (spec_l11Marks.j2 k y0 y1 y2 y3 y4 y5 y6 y7 y8 y9 y10 y11) (spec_l11Marks.j2 (k + 1) y0 y1 y2 y3 y4 y5 y6 y7 y8 y9 y10 y11))
 | 0 => ⟨fun _ _ _ _ _ _ _ _ _ _ _ _ r h => by simp [spec_l11Marks.j0] at h, fun _ _ _ _ _ _ _ _ _ _ _ _ r h => by simp [spec_l11Marks.j1] at h, fun _ _ _ _ _ _ _ _ _ _ _ _ r h => by simp [spec_l11Marks.j2] at h⟩
 | k + 1 => by
  obtain ⟨ih0, ih1, ih2⟩ := spec_l11Marks.mono_l k
  refine ⟨?_, ?_, ?_⟩
  ·intro y0 y1 y2 y3 y4 y5 y6 y7 y8 y9 y10 y11
   unfold spec_l11Marks.j0
   repeat' first | (with_reducible first | apply ih0 | apply ih1 | apply ih2 | exact LeO.refl _ | exact LeO.none _ | refine LeO.ite ?_ ?_ | refine LeO.bind ?_ fun _ => ?_) | apply ih0 | apply ih1 | apply ih2 | exact LeO.none _ | refine LeO.ite ?_ ?_ | refine LeO.bind ?_ fun _ => ?_
  ·intro y0 y1 y2 y3 y4 y5 y6 y7 y8 y9 y10 y11
   unfold spec_l11Marks.j1
   repeat' first | (with_reducible first | apply ih0 | apply ih1 | apply ih2 | exact LeO.refl _ | exact LeO.none _ | refine LeO.ite ?_ ?_ | refine LeO.bind ?_ fun _ => ?_) | apply ih0 | apply ih1 | apply ih2 | exact LeO.none _ | refine LeO.ite ?_ ?_ | refine LeO.bind ?_ fun _ => ?_
  ·intro y0 y1 y2 y3 y4 y5 y6 y7 y8 y9 y10 y11
   unfold spec_l11Marks.j2
   repeat' first | (with_reducible first | apply ih0 | apply ih1 | apply ih2 | exact LeO.refl _ | exact LeO.none _ | refine LeO.ite ?_ ?_ | refine LeO.bind ?_ fun _ => ?_) | apply ih0 | apply ih1 | apply ih2 | exact LeO.none _ | refine LeO.ite ?_ ?_ | refine LeO.bind ?_ fun _ => ?_
theorem spec_l11Marks.mono : ∀ a0 a1 a2 a3 a4 a5 a6 a7 a8 a9 a10 k, LeO (spec_l11Marks.f k a0 a1 a2 a3 a4 a5 a6 a7 a8 a9 a10) (spec_l11Marks.f (k + 1) a0 a1 a2 a3 a4 a5 a6 a7 a8 a9 a10) := by
 intro a0 a1 a2 a3 a4 a5 a6 a7 a8 a9 a10 k
 obtain ⟨ih0, ih1, ih2⟩ := spec_l11Marks.mono_l k
 unfold spec_l11Marks.f
 repeat' first | (with_reducible first | apply ih0 | apply ih1 | apply ih2 | exact LeO.refl _ | exact LeO.none _ | refine LeO.ite ?_ ?_ | refine LeO.bind ?_ fun _ => ?_) | apply ih0 | apply ih1 | apply ih2 | exact LeO.none _ | refine LeO.ite ?_ ?_ | refine LeO.bind ?_ fun _ => ?_
set_option maxHeartbeats 8000000 in
set_option maxRecDepth 100000 in
theorem spec_l11Marks.calls (k : Nat) (a0_0 : Int) (a0_1 : Int) (a0_2 : Int) (a0_3 : Int) (a0_4 : Int) (a0_5 : Bool) (a0_6 : Bool) (a0_7 : Bool) (a0_8 : Bool) (A0_9 : Option Addr) (c0_9 : Nat) (l0_9 : List (S90)) (A0_10 : Option Addr) (c0_10 : Nat) (l0_10 : List Int) (r : Int) (w : World) (hr0_9 : Kd.C k90 w A0_9 l0_9.length l0_9) (hc0_9 : l0_9.length ≤ c0_9) (hr0_10 : Kd.C (Kd.int .u8) w A0_10 l0_10.length l0_10) (hc0_10 : l0_10.length ≤ c0_10) (h : spec_l11Marks.f k a0_0 a0_1 a0_2 a0_3 a0_4 a0_5 a0_6 a0_7 a0_8 l0_9 l0_10 = some r) :
  Calls Try.prog 76 #[.agg #[.int .i64 a0_0, .int .i64 a0_1, .int .i64 a0_2, .int .i64 a0_3, .int .i64 a0_4, .bool a0_5, .bool a0_6, .bool a0_7, .bool a0_8, .slice A0_9 l0_9.length c0_9, .slice A0_10 l0_10.length c0_10]] w fun e w' => e = .returned (.int .i64 r) ∧ Below w.heap.size w w' := by
 have hu52 := Try.underlying52; have HR0_9 := Aside0.mk hr0_9; have HC0_9 := Aside0.mk hc0_9; clear hr0_9 hc0_9; have HR0_10 := Aside0.mk hr0_10; have HC0_10 := Aside0.mk hc0_10; clear hr0_10 hc0_10
 have HB := Aside0.mk (Below.refl w.heap.size w)
 have H : (if a0_5 = true then (spec_l11Marks.j0 k (0 + 1) a0_0 a0_1 a0_2 a0_3 a0_4 a0_5 a0_6 a0_7 a0_8 l0_9 l0_10) else (spec_l11Marks.j0 k 0 a0_0 a0_1 a0_2 a0_3 a0_4 a0_5 a0_6 a0_7 a0_8 l0_9 l0_10)) = some r := h
 clear h; have HC2 := Aside0.mk H; clear H
 go_enter Try.func76, Try.ntmps76
 go_upto_if 5 with (first | ((with_reducible refine gate_dst (N := 1) rfl ?_); refine box_ (N := 1) (cs := #[.int .i64 a0_0, .int .i64 a0_1, .int .i64 a0_2, .int .i64 a0_3, .int .i64 a0_4, .bool a0_5, .bool a0_6, .bool a0_7, .bool a0_8, .slice A0_9 l0_9.length c0_9, .slice A0_10 l0_10.length c0_10]) (t := 52) (fun gb346 hg w3 hbox hb => ?_); have BK346 := Aside0.mk (hbox); have GW346 := ge_ hg HB; have GE346 := ge_ hg HB; replace HB := (bs_ HB hb); clear hb hbox hg; have Z4 := zz11 BK346))
 (try simp only [Act.put, List.setIfInBounds_toArray, List.set_cons_zero, List.set_cons_succ])
 go_cut [3] (fun v3 wc => ∃ (kq : Nat) (x3_1 : Int), v3 = .int .i64 x3_1 ∧ Aside0 (spec_l11Marks.j0 kq x3_1 a0_0 a0_1 a0_2 a0_3 a0_4 a0_5 a0_6 a0_7 a0_8 l0_9 l0_10 = some r) ∧ Aside0 (kq ≤ k) ∧ Aside0 (wc.heap[gb346]? = some (.cells #[.int .i64 a0_0, .int .i64 a0_1, .int .i64 a0_2, .int .i64 a0_3, .int .i64 a0_4, .bool a0_5, .bool a0_6, .bool a0_7, .bool a0_8, (.slice A0_9 l0_9.length c0_9), (.slice A0_10 l0_10.length c0_10)] 52 (0, 0))) ∧ Aside0 (Below w.heap.size w wc))
 case first =>
  have H := HC2.out; clear HC2
  by_cases c5 : a0_5 = true
  ·subst c5
   rw [if_pos rfl] at H
   have H' := Aside0.mk H
   clear H
   go_wp2
   go_meet
   case rel => exact ⟨_, (0 + 1), (by first | rfl | (simp; done) | (simp [*]; done)), H', ⟨by first | omega | exact Nat.le_refl _⟩, ⟨by refine kb_ ?_; exact BK346.out⟩, ⟨hbA_ HB.out⟩⟩
  ·replace c5 := Bool.eq_false_iff.mpr c5
   subst c5
   rw [if_neg (show ¬ (false = true) by decide)] at H
   have H' := Aside0.mk H
   clear H
   go_wp2
   go_meet
   case rel => exact ⟨_, (0), (by first | rfl | (simp; done) | (simp [*]; done)), H', ⟨by first | omega | exact Nat.le_refl _⟩, ⟨by refine kb_ ?_; exact BK346.out⟩, ⟨hbA_ HB.out⟩⟩
 case rest =>
  clear HC2; (try clear p2); (try clear c5); (try clear Z4)
  obtain ⟨kq, x3_1, rfl, HA, HJ1, BK346, HB⟩ := hcut
  cases kq with
  | zero => exact absurd HA.out (by simp [spec_l11Marks.j0])
  | succ kj1 =>
   have H := HA.out; clear HA
   simp only [spec_l11Marks.j0] at H
   have HC6 := Aside0.mk H; clear H; have Z7 := zz11 BK346
   go_upto_if 9 with (fail)
   go_cut [3] (fun v3 wc => ∃ (kq : Nat) (x3_5 : Int), v3 = .int .i64 x3_5 ∧ Aside0 (spec_l11Marks.j1 kq x3_5 a0_0 a0_1 a0_2 a0_3 a0_4 a0_5 a0_6 a0_7 a0_8 l0_9 l0_10 = some r) ∧ Aside0 (kq ≤ kj1) ∧ Aside0 (wc.heap[gb346]? = some (.cells #[.int .i64 a0_0, .int .i64 a0_1, .int .i64 a0_2, .int .i64 a0_3, .int .i64 a0_4, .bool a0_5, .bool a0_6, .bool a0_7, .bool a0_8, (.slice A0_9 l0_9.length c0_9), (.slice A0_10 l0_10.length c0_10)] 52 (0, 0))) ∧ Aside0 (Below w.heap.size w wc))
   case first =>
    have H := HC6.out; clear HC6
    by_cases c8 : a0_6 = true
    ·subst c8
     rw [if_pos rfl] at H
     have H' := Aside0.mk H
     clear H
     go_wp2
     go_meet
     case rel => exact ⟨_, (wrap64 (x3_1 + 2)), (by first | rfl | (simp; done) | (simp [*]; done)), H', ⟨by have := HJ1.out; first | omega | exact Nat.le_refl _⟩, ⟨by refine kb_ ?_; exact BK346.out⟩, ⟨hbA_ HB.out⟩⟩
    ·replace c8 := Bool.eq_false_iff.mpr c8
     subst c8
     rw [if_neg (show ¬ (false = true) by decide)] at H
     have H' := Aside0.mk H
     clear H
     go_wp2
     go_meet
     case rel => exact ⟨_, (x3_1), (by first | rfl | (simp; done) | (simp [*]; done)), H', ⟨by have := HJ1.out; first | omega | exact Nat.le_refl _⟩, ⟨by refine kb_ ?_; exact BK346.out⟩, ⟨hbA_ HB.out⟩⟩
   case rest =>
    clear HC6; (try clear p2); (try clear c5); (try clear p6); (try clear c7); (try clear c8); (try clear Z4); (try clear Z7); (try clear p2)
    obtain ⟨kq, x3_5, rfl, HA, HJ5, BK346, HB⟩ := hcut
    cases kq with
    | zero => exact absurd HA.out (by simp [spec_l11Marks.j1])
    | succ kj5 =>
     have H := HA.out; clear HA
     simp only [spec_l11Marks.j1] at H
     have HC9 := Aside0.mk H; clear H; have Z10 := zz11 BK346
     go_upto_if 13 with (fail)
     go_cut [3] (fun v3 wc => ∃ (kq : Nat) (x3_8 : Int), v3 = .int .i64 x3_8 ∧ Aside0 (spec_l11Marks.j2 kq x3_8 a0_0 a0_1 a0_2 a0_3 a0_4 a0_5 a0_6 a0_7 a0_8 l0_9 l0_10 = some r) ∧ Aside0 (kq ≤ kj5) ∧ Aside0 (wc.heap[gb346]? = some (.cells #[.int .i64 a0_0, .int .i64 a0_1, .int .i64 a0_2, .int .i64 a0_3, .int .i64 a0_4, .bool a0_5, .bool a0_6, .bool a0_7, .bool a0_8, (.slice A0_9 l0_9.length c0_9), (.slice A0_10 l0_10.length c0_10)] 52 (0, 0))) ∧ Aside0 (Below w.heap.size w wc))
     case first =>
      have H := HC9.out; clear HC9
      by_cases c11 : a0_7 = true
      ·subst c11
       rw [if_pos rfl] at H
       have H' := Aside0.mk H
       clear H
       go_wp2
       go_meet
       case rel => exact ⟨_, (wrap64 (x3_5 + 4)), (by first | rfl | (simp; done) | (simp [*]; done)), H', ⟨by have := HJ1.out; have := HJ5.out; first | omega | exact Nat.le_refl _⟩, ⟨by refine kb_ ?_; exact BK346.out⟩, ⟨hbA_ HB.out⟩⟩
      ·replace c11 := Bool.eq_false_iff.mpr c11
       subst c11
       rw [if_neg (show ¬ (false = true) by decide)] at H
       have H' := Aside0.mk H
       clear H
       go_wp2
       go_meet
       case rel => exact ⟨_, (x3_5), (by first | rfl | (simp; done) | (simp [*]; done)), H', ⟨by have := HJ1.out; have := HJ5.out; first | omega | exact Nat.le_refl _⟩, ⟨by refine kb_ ?_; exact BK346.out⟩, ⟨hbA_ HB.out⟩⟩
     case rest =>
      clear HC9; (try clear c1); (try clear p2); (try clear c5); (try clear p6); (try clear c7); (try clear c8); (try clear c11); (try clear Z10); (try clear Z4); (try clear Z7); (try clear p2); (try clear p6)
      obtain ⟨kq, x3_8, rfl, HA, HJ8, BK346, HB⟩ := hcut
      cases kq with
      | zero => exact absurd HA.out (by simp [spec_l11Marks.j2])
      | succ kj8 =>
       have H := HA.out; clear HA
       simp only [spec_l11Marks.j2] at H
       by_cases c12 : a0_8 = true
       ·subst c12
        rw [if_pos rfl] at H
        obtain rfl := Option.some.inj H
        have Z13 := zz11 BK346
        go_wp2
        go_ret
        exact ⟨by first | rfl | (simp [errW_none, errW_some] <;> rfl) | (simp [*, errW_none, errW_some] <;> rfl), hbA_ HB.out⟩
       ·replace c12 := Bool.eq_false_iff.mpr c12
        subst c12
        rw [if_neg (show ¬ (false = true) by decide)] at H
        obtain rfl := Option.some.inj H
        have Z14 := zz11 BK346
        go_wp2
        go_ret
        exact ⟨by first | rfl | (simp [errW_none, errW_some] <;> rfl) | (simp [*, errW_none, errW_some] <;> rfl), hbA_ HB.out⟩
end Go.Proofs.Ytpbeljcgcdilnaa.PFnSegmentFrom
