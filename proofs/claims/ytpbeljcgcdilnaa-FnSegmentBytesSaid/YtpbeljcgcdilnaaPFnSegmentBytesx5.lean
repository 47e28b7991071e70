/- Printed by wip/xp/xprint.sh out of the translation, for this claim: what each function answers, as a plain function, and that the machine does just that. No condition. -/
import Derived.Test.YtpbeljcgcdilnaaPFnSegmentBytesx0
import Derived.Test.YtpbeljcgcdilnaaPFnSegmentBytesx1
import Derived.Test.YtpbeljcgcdilnaaPFnSegmentBytesx4
namespace Go.Proofs.Ytpbeljcgcdilnaa.PFnSegmentBytes
open Go.RowKit Go.Proofs.YtpbeljcgcdilnaaW.PrintWords Go.Proofs.YtpbeljcgcdilnaaW.PrintLast Go.Proofs.YtpbeljcgcdilnaaW.PrintMore
attribute [local go_sem] max2_int min2_int max_two min_two max_three min_three max_four min_four   -- for this text's walks alone
set_option linter.unusedVariables false
set_option linter.unusedSimpArgs false
attribute [local go_sem high] eqA90
def impl_Segment_copy.f (a0_0 : Int) (a0_1 : Int) (a0_2 : Int) (a0_3 : Int) (a0_4 : Int) (a0_5 : Bool) (a0_6 : Bool) (a0_7 : Bool) (a0_8 : Bool) (l0_9 : List (S90)) (l0_10 : List Int) : Option (Int × Int × Int × Int × Int × Bool × Bool × Bool × Bool × (List (S90)) × List Int) := (impl_Range_92.f l0_9).bind fun t231 => ((impl_clone_byte.f l0_10).bind fun t234 => (some (a0_0, a0_1, a0_2, a0_3, a0_4, a0_5, a0_6, a0_7, a0_8, t231, t234)))
def impl_Segment_copy.T1 : Bool × List (List Nat × List Nat) := (true, [([], []), ([0], [0]), ([1], [1]), ([], []), ([3], [3]), ([4, 2], [4]), ([0, 1, 2, 3, 4], []), ([6, 2, 5, 0, 1, 2, 3, 4], [2, 6]), ([0, 1, 2, 3, 4, 5, 6, 7], []), ([8, 5, 7, 0, 1, 2, 3, 4, 5, 6, 7], [5, 8])])
def impl_Segment_copy.B1 : List Nat := [0, 1, 3, 0, 8, 31, 31, 127, 255, 511]
theorem impl_Segment_copy.tab1 : rtab .any (opsOf Try.f63 1) = impl_Segment_copy.T1 := by kernel_rfl
theorem impl_Segment_copy.bits1 : waitsOk impl_Segment_copy.T1.2 impl_Segment_copy.B1 = true := by kernel_rfl
set_option maxHeartbeats 8000000 in
set_option maxRecDepth 100000 in
theorem impl_Segment_copy.calls (a0_0 : Int) (a0_1 : Int) (a0_2 : Int) (a0_3 : Int) (a0_4 : Int) (a0_5 : Bool) (a0_6 : Bool) (a0_7 : Bool) (a0_8 : Bool) (A0_9 : Option Addr) (c0_9 : Nat) (l0_9 : List (S90)) (A0_10 : Option Addr) (c0_10 : Nat) (l0_10 : List Int) (r1 : Int) (r2 : Int) (r3 : Int) (r4 : Int) (r5 : Int) (r6 : Bool) (r7 : Bool) (r8 : Bool) (r9 : Bool) (r10 : List (S90)) (r11 : List Int) (w : World) (hr0_9 : Kd.C k90 w A0_9 l0_9.length l0_9) (hc0_9 : l0_9.length ≤ c0_9) (hr0_10 : Kd.C (Kd.int .u8) w A0_10 l0_10.length l0_10) (hc0_10 : l0_10.length ≤ c0_10) (h : impl_Segment_copy.f a0_0 a0_1 a0_2 a0_3 a0_4 a0_5 a0_6 a0_7 a0_8 l0_9 l0_10 = some (r1, r2, r3, r4, r5, r6, r7, r8, r9, r10, r11)) :
  Calls Try.prog 63 #[.agg #[.int .i64 a0_0, .int .i64 a0_1, .int .i64 a0_2, .int .i64 a0_3, .int .i64 a0_4, .bool a0_5, .bool a0_6, .bool a0_7, .bool a0_8, .slice A0_9 l0_9.length c0_9, .slice A0_10 l0_10.length c0_10]] w fun e w' => ∃ v9_ v10_ : Value, e = .returned (.agg #[.int .i64 r1, .int .i64 r2, .int .i64 r3, .int .i64 r4, .int .i64 r5, .bool r6, .bool r7, .bool r8, .bool r9, v9_, v10_]) ∧ Kd.R k90 90 w' w.heap.size (fun _ => True) v9_ r10 ∧ Kd.R (Kd.int .u8) 5 w' w.heap.size (fun _ => True) v10_ r11 ∧ Below w.heap.size w w' := by
 have hu52 := Try.underlying52; have HR0_9 := Aside0.mk hr0_9; have HC0_9 := Aside0.mk hc0_9; clear hr0_9 hc0_9; have HR0_10 := Aside0.mk hr0_10; have HC0_10 := Aside0.mk hc0_10; clear hr0_10 hc0_10
 have HB := Aside0.mk (Below.refl w.heap.size w)
 have H : ((impl_Range_92.f l0_9).bind fun t231 => ((impl_clone_byte.f l0_10).bind fun t234 => (some (a0_0, a0_1, a0_2, a0_3, a0_4, a0_5, a0_6, a0_7, a0_8, t231, t234)))) = some (r1, r2, r3, r4, r5, r6, r7, r8, r9, r10, r11) := h
 clear h
 replace H := Option.bind_eq_some_iff.mp H
 obtain ⟨t231, A20, H⟩ := H
 (try dsimp only at H)
 have A2 := Aside0.mk A20; clear A20
 replace H := Option.bind_eq_some_iff.mp H
 obtain ⟨t234, A30, H⟩ := H
 (try dsimp only at H)
 have A3 := Aside0.mk A30; clear A30
 simp only [Option.some.injEq, Prod.mk.injEq] at H
 obtain ⟨rfl, rfl, rfl, rfl, rfl, rfl, rfl, rfl, rfl, rfl, rfl⟩ := H
 go_enter Try.func63, Try.ntmps63
 try go_wp2_with (first | ((with_reducible refine gate_dst (N := 1) rfl ?_); refine box_ (N := 1) (cs := #[.int .i64 a0_0, .int .i64 a0_1, .int .i64 a0_2, .int .i64 a0_3, .int .i64 a0_4, .bool a0_5, .bool a0_6, .bool a0_7, .bool a0_8, .slice A0_9 l0_9.length c0_9, .slice A0_10 l0_10.length c0_10]) (t := 52) (fun gb229 hg w4 hbox hb => ?_); have BK229 := Aside0.mk (hbox); have GW229 := ge_ hg HB; have GE229 := ge_ hg HB; replace HB := (bs_ HB hb); clear hb hbox hg) | ((with_reducible refine gate_dst (N := 2) rfl ?_); refine box_ (N := 2) (cs := #[.int .i64 0, .int .i64 0, .int .i64 0, .int .i64 0, .int .i64 0, .bool false, .bool false, .bool false, .bool false, .slice none 0 0, .slice none 0 0]) (t := 52) (fun gb230 hg w5 hbox hb => ?_); have BK230 := Aside0.mk (hbox); have GW230 := ge_ hg HB; have GE230 := ge_ hg HB; replace HB := (bs_ HB hb); have NB229_230 := nl_ hg BK229; have NB230_229 := ng_ hg BK229; replace BK229 := (bbA_ BK229 hb); clear hb hbox hg))
 replace BK229 := Aside0.mk (blk_drew BK229.out); replace BK230 := Aside0.mk (blk_drew BK230.out); replace HB := (bd_ HB)
 refine start_ (n := 10) (S := fun w' => w'.cell? ⟨gb229, 0, none⟩ = some (.int .i64 a0_0) ∧ w'.cell? ⟨gb229, 1, none⟩ = some (.int .i64 a0_1) ∧ w'.cell? ⟨gb229, 2, none⟩ = some (.int .i64 a0_2) ∧ w'.cell? ⟨gb229, 3, none⟩ = some (.int .i64 a0_3) ∧ w'.cell? ⟨gb229, 4, none⟩ = some (.int .i64 a0_4) ∧ w'.cell? ⟨gb229, 5, none⟩ = some (.bool a0_5) ∧ w'.cell? ⟨gb229, 6, none⟩ = some (.bool a0_6) ∧ w'.cell? ⟨gb229, 7, none⟩ = some (.bool a0_7) ∧ w'.cell? ⟨gb229, 8, none⟩ = some (.bool a0_8) ∧ w'.cell? ⟨gb229, 9, none⟩ = some (.slice A0_9 l0_9.length c0_9) ∧ w'.cell? ⟨gb229, 10, none⟩ = some (.slice A0_10 l0_10.length c0_10)) (ds := [7, 9]) #[false, false, false, false, false, false, false, false, false, false] (by kernel_rfl) rfl rfl (cz11 BK229.out) (fun hHeld => ?_); refine with_tabW impl_Segment_copy.tab1 impl_Segment_copy.bits1 (fun HT_ HW_ => ?_)
 generalize w5.drew = w6 at BK229 BK230 HB hHeld ⊢
 refine pu_ (i := 0) (N := some 3) HT_ ?_; refine pu_ (i := 3) (N := some 6) HT_ ?_; refine tk_ (i := 1) (N := some 4) HT_ HW_ hHeld ?_; refine tk_ (i := 4) (N := some 7) HT_ HW_ hHeld ?_
 refine on_ (i := 2) (N := some 5) HT_ (fun K hK => ?_)
 refine goes_ Try.func92 (by kernel_rfl) rfl #[.slice A0_9 l0_9.length c0_9] (by rfl) rfl rfl ar_ ?_
 with_reducible refine (impl_Range_92.calls _ _ l0_9 t231 _ ?side1 ?side2 A2.out).mono ?_
 (case side1 => exact kC_ (Kd.C_below HR0_9.out HB.out))
 (case side2 => exact HC0_9.out)
 rintro e w7 ⟨v232, rfl, ho0, hb⟩
 refine ⟨_, rfl, ?_⟩
 have HO233 := Aside0.mk (Kd.R_lower ho0 (below_size (hbA_ HB.out))); replace BK229 := (bbA_ BK229 hb); replace BK230 := (bbA_ BK230 hb); replace HB := (bs_ HB hb); (try clear hb); (try clear hb2); (try clear hk); (try clear hi); (try clear ho0)
 refine hK.out _ _ (cz11 BK229.out) (fun hHeld => ?_)
 clear hK K; refine nm_ 5 ?_; refine pu_ (i := 6) (N := some 9) HT_ ?_
 refine on_ (i := 5) (N := some 8) HT_ (fun K hK => ?_)
 refine goes_ Try.func93 (by kernel_rfl) rfl #[.slice A0_10 l0_10.length c0_10] (by rfl) rfl rfl ar_ ?_
 with_reducible refine (impl_clone_byte.calls _ _ l0_10 t234 _ ?side1 ?side2 A3.out).mono ?_
 (case side1 => exact kC_ (Kd.C_below HR0_10.out HB.out))
 (case side2 => exact HC0_10.out)
 rintro e w8 ⟨v235, rfl, ho0, hb⟩
 refine ⟨_, rfl, ?_⟩
 replace HO233 := Aside0.mk (Kd.R_below (kR_ HO233.out) hb); have HO236 := Aside0.mk (Kd.R_lower ho0 (below_size (hbA_ HB.out))); replace BK229 := (bbA_ BK229 hb); replace BK230 := (bbA_ BK230 hb); replace HB := (bs_ HB hb); (try clear hb); (try clear hb2); (try clear hk); (try clear hi); (try clear ho0)
 obtain ⟨Ao9, co9, eo9⟩ := Kd.R_slice HO233.out
 (first | subst eo9 | (injection eo9 with f1_ f2_ f3_; have f4_ := f1_.symm; have f5_ := f3_.symm; clear f1_ f2_ f3_; subst f4_; subst f5_))
 obtain ⟨Ao11, co11, eo11⟩ := Kd.R_slice HO236.out
 (first | subst eo11 | (injection eo11 with f1_ f2_ f3_; have f4_ := f1_.symm; have f5_ := f3_.symm; clear f1_ f2_ f3_; subst f4_; subst f5_))
 refine hK.out _ _ (cz11 BK229.out) (fun hHeld => ?_)
 clear hK K; refine nm_ 8 ?_
 refine last_ (i := 7) (N := none) #[true, true, true, true, true, true, true, true, false, false] rfl rfl (one_of HT_.out (by kernel_rfl)) (by decide) (fun K hK => ?_)
 have hs10 : w8.cell? ⟨gb229, 9, none⟩ = some (.slice A0_9 l0_9.length c0_9) := bc_ BK229 9
 have hfs10 := blk_frozen BK229.out 9
 have hns10_1 := NB230_229.out; have hms10_1 := NB229_230.out
 refine skip_ (w1 := ?_) (by rfl) rfl ?_ ?_
 rotate_left
 ·go_simp
  rfl
 refine hK.out _ _ ?_
 clear hK K; refine pu_ (i := 8) (N := some 10) HT_ ?_
 refine last_ (i := 9) (N := none) #[true, true, true, true, true, true, true, true, true, true] rfl rfl (one_of HT_.out (by kernel_rfl)) (by decide) (fun K hK => ?_)
 have hs12 : w8.cell? ⟨gb229, 10, none⟩ = some (.slice A0_10 l0_10.length c0_10) := bc_ BK229 10
 have hfs12 := blk_frozen BK229.out 10
 have hns12_1 := NB230_229.out; have hms12_1 := NB229_230.out
 refine skip_ (w1 := ?_) (by rfl) rfl ?_ ?_
 rotate_left
 ·go_simp
  rfl
 refine hK.out _ _ ?_
 clear hK K
 refine done_ (done_of HT_.out (by kernel_rfl)) ?_
 have hnb13 := NB229_230.out; have hnc13 := NB230_229.out; have Z14 := zz11 BK229; have Z15 := zz11 BK230
 try go_wp2
 refine bodyPost_ret (results_cell_row rfl _ _ gb230 52 #[.int .i64 a0_0, .int .i64 a0_1, .int .i64 a0_2, .int .i64 a0_3, .int .i64 a0_4, .bool a0_5, .bool a0_6, .bool a0_7, .bool a0_8, .slice Ao9 t231.length co9, .slice Ao11 t234.length co11] (0, 0) _ rfl (by refine kb_ ?_; refine pz11 (cs := #[.int .i64 0, .int .i64 0, .int .i64 0, .int .i64 0, .int .i64 0, .bool false, .bool false, .bool false, .bool false, .slice none 0 0, .slice none 0 0]) ?_; exact kf_ BK230.out) Try.underlying52 rfl (by kernel_rfl)) rfl ?_
 exact ⟨_, _, by first | rfl | (simp [errW_none, errW_some] <;> rfl) | (simp [*, errW_none, errW_some] <;> rfl), by refine kR_ ?_; exact rfm_ ((Kd.R_far (p := ⟨gb229, 10, none⟩) (Kd.R_far (p := ⟨gb229, 9, none⟩) (Kd.R_types (Kd.R_types HO233.out BK229.out (by decide)) BK230.out (by decide)) (fun _ hk => hk.1.2) (.slice Ao9 t231.length co9)) (fun _ hk => hk.1.2) (.slice Ao11 t234.length co11))) (fun _ hk => trivial), by refine kR_ ?_; exact rfm_ ((Kd.R_far (p := ⟨gb229, 10, none⟩) (Kd.R_far (p := ⟨gb229, 9, none⟩) (Kd.R_types (Kd.R_types HO236.out BK229.out (by decide)) BK230.out (by decide)) (fun _ hk => hk.1.2) (.slice Ao9 t231.length co9)) (fun _ hk => hk.1.2) (.slice Ao11 t234.length co11))) (fun _ hk => trivial), hbA_ HB.out⟩
mutual
def impl_SegmentFrom.j0 : Nat → List Int → Int → Int → Bool → Option (Int × Int × Int × Int × Int × Bool × Bool × Bool × Bool × (List (S90)) × List Int × Bool)
 | 0, _, _, _, _ => none
 | k + 1, x0, x1, x2, x24 => if x24 = true then (some (0, 0, 0, 0, 0, false, false, false, false, ([] : List (S90)), ([] : List Int), false)) else (if 7 < (x0.length : Int) then (if 0 < (x0.length : Int) then (if 1 < (x0.length : Int) then ((impl_NumberAt.f k x0 2 2).bind fun t242 => ((impl_NumberAt.f k x0 4 2).bind fun t243 => (if 6 < (x0.length : Int) then (if 8 < (x0.length : Int) then (impl_SegmentFrom.l0 k x0 x1 x2 9 (wrap64 (rd x0 8)) 0 (wrap64 (rd x0 0)) (wrap64 (rd x0 1)) t242 t243 (wrap64 (rd x0 6)) ((Go.bits .and .u8 (rd x0 7) 1) != 0) ((Go.bits .and .u8 (rd x0 7) 2) != 0) ((Go.bits .and .u8 (rd x0 7) 4) != 0) ((Go.bits .and .u8 (rd x0 7) 8) != 0) ([] : List (S90))) else (none)) else (none)))) else (none)) else (none)) else (none))
def impl_SegmentFrom.l0 : Nat → List Int → Int → Int → Int → Int → Int → Int → Int → Int → Int → Int → Bool → Bool → Bool → Bool → List (S90) → Option (Int × Int × Int × Int × Int × Bool × Bool × Bool × Bool × (List (S90)) × List Int × Bool)
 | 0, _, _, _, _, _, _, _, _, _, _, _, _, _, _, _, _ => none
 | k + 1, x0, x1, x2, x10, x61, x62, x246000, x246001, x246002, x246003, x246004, x246005, x246006, x246007, x246008, x246009 => if x62 < x61 then ((impl_NumberAt.f k x0 x10 2).bind fun t247 => ((impl_NumberAt.f k x0 (wrap64 (x10 + 2)) 2).bind fun t248 => (if x246009.length < 8796093022208 then (impl_SegmentFrom.l0 k x0 x1 x2 (wrap64 (x10 + 4)) x61 (wrap64 (x62 + 1)) x246000 x246001 x246002 x246003 x246004 x246005 x246006 x246007 x246008 (x246009 ++ [(⟨t247, t248⟩ : S90)])) else (none)))) else (if 0 ≤ (wrap64 (x10 + 1)) then (if (wrap64 (x10 + 1)) ≤ (wrap64 ((x0.length : Int) - 2)) then (if (wrap64 ((x0.length : Int) - 2)) ≤ (x0.length : Int) then ((impl_SegmentBytes.f k x246000 x246001 x246002 x246003 x246004 x246005 x246006 x246007 x246008 x246009 ((x0.take ((wrap64 ((x0.length : Int) - 2)) : Int).toNat).drop ((wrap64 (x10 + 1)) : Int).toNat) x1 x2).bind fun t253 => ((slices_Equal_byte_byte.f k t253 x0).bind fun t256 => (if t256 = true then ((impl_Segment_copy.f x246000 x246001 x246002 x246003 x246004 x246005 x246006 x246007 x246008 x246009 ((x0.take ((wrap64 ((x0.length : Int) - 2)) : Int).toNat).drop ((wrap64 (x10 + 1)) : Int).toNat)).bind fun bt257 => (some (bt257.1, bt257.2.1, bt257.2.2.1, bt257.2.2.2.1, bt257.2.2.2.2.1, bt257.2.2.2.2.2.1, bt257.2.2.2.2.2.2.1, bt257.2.2.2.2.2.2.2.1, bt257.2.2.2.2.2.2.2.2.1, bt257.2.2.2.2.2.2.2.2.2.1, bt257.2.2.2.2.2.2.2.2.2.2, true))) else (some (0, 0, 0, 0, 0, false, false, false, false, ([] : List (S90)), ([] : List Int), false))))) else (none)) else (none)) else (none))
end
def impl_SegmentFrom.f (k : Nat) (l0 : List Int) (a1 : Int) (a2 : Int) : Option (Int × Int × Int × Int × Int × Bool × Bool × Bool × Bool × (List (S90)) × List Int × Bool) := if (l0.length : Int) < 12 then (impl_SegmentFrom.j0 k l0 a1 a2 true) else (if 8 < (l0.length : Int) then (impl_SegmentFrom.j0 k l0 a1 a2 (decide ((l0.length : Int) < (wrap64 (12 + (wrap64 (4 * (wrap64 (rd l0 8))))))))) else (none))
theorem impl_SegmentFrom.mono_l : ∀ k, (∀ y0 y1 y2 y3, LeO (impl_SegmentFrom.j0 k y0 y1 y2 y3) (impl_SegmentFrom.j0 (k + 1) y0 y1 y2 y3)) ∧ (∀ y0 y1 y2 y3 y4 y5 y6 y7 y8 y9 y10 y11 y12 y13 y14 y15, LeO (impl_SegmentFrom.l0 k y0 y1 y2 y3 y4 y5 y6 y7 y8 y9 y10 y11 y12 y13 y14 y15) (impl_SegmentFrom.l0 (k + 1) y0 y1 y2 y3 y4 y5 y6 y7 y8 y9 y10 y11 y12 y13 y14 y15))
 | 0 => ⟨fun _ _ _ _ r h => by simp [impl_SegmentFrom.j0] at h, fun _ _ _ _ _ _ _ _ _ _ _ _ _ _ _ _ r h => by simp [impl_SegmentFrom.l0] at h⟩
 | k + 1 => by
  obtain ⟨ih0, ih1⟩ := impl_SegmentFrom.mono_l k
  refine ⟨?_, ?_⟩
  ·intro y0 y1 y2 y3
   unfold impl_SegmentFrom.j0
   repeat' first | (with_reducible first | apply ih0 | apply ih1 | apply impl_NumberAt.mono | apply impl_SegmentBytes.mono | apply slices_Equal_byte_byte.mono | exact LeO.refl _ | exact LeO.none _ | refine LeO.ite ?_ ?_ | refine LeO.bind ?_ fun _ => ?_) | apply ih0 | apply ih1 | apply impl_NumberAt.mono | apply impl_SegmentBytes.mono | apply slices_Equal_byte_byte.mono | exact LeO.none _ | refine LeO.ite ?_ ?_ | refine LeO.bind ?_ fun _ => ?_
  ·intro y0 y1 y2 y3 y4 y5 y6 y7 y8 y9 y10 y11 y12 y13 y14 y15
   unfold impl_SegmentFrom.l0
   repeat' first | (with_reducible first | apply ih0 | apply ih1 | apply impl_NumberAt.mono | apply impl_SegmentBytes.mono | apply slices_Equal_byte_byte.mono | exact LeO.refl _ | exact LeO.none _ | refine LeO.ite ?_ ?_ | refine LeO.bind ?_ fun _ => ?_) | apply ih0 | apply ih1 | apply impl_NumberAt.mono | apply impl_SegmentBytes.mono | apply slices_Equal_byte_byte.mono | exact LeO.none _ | refine LeO.ite ?_ ?_ | refine LeO.bind ?_ fun _ => ?_
theorem impl_SegmentFrom.mono : ∀ a0 a1 a2 k, LeO (impl_SegmentFrom.f k a0 a1 a2) (impl_SegmentFrom.f (k + 1) a0 a1 a2) := by
 intro a0 a1 a2 k
 obtain ⟨ih0, ih1⟩ := impl_SegmentFrom.mono_l k
 unfold impl_SegmentFrom.f
 repeat' first | (with_reducible first | apply ih0 | apply ih1 | apply impl_NumberAt.mono | apply impl_SegmentBytes.mono | apply slices_Equal_byte_byte.mono | exact LeO.refl _ | exact LeO.none _ | refine LeO.ite ?_ ?_ | refine LeO.bind ?_ fun _ => ?_) | apply ih0 | apply ih1 | apply impl_NumberAt.mono | apply impl_SegmentBytes.mono | apply slices_Equal_byte_byte.mono | exact LeO.none _ | refine LeO.ite ?_ ?_ | refine LeO.bind ?_ fun _ => ?_
def impl_SegmentFrom.T4 : Bool × List (List Nat × List Nat) := (true, [([], []), ([0], [0]), ([1], [1]), ([2], [2]), ([], []), ([4], [4]), ([5], [5]), ([6], [6]), ([], []), ([8], [8]), ([], []), ([10, 9], [10]), ([], []), ([12], [12]), ([13], [13]), ([14], [14]), ([], []), ([16], [16]), ([17], [17]), ([], []), ([19], [19]), ([20], [20]), ([], []), ([22], [22]), ([23], [23]), ([], []), ([25], [25]), ([26], [26]), ([3, 7, 9, 11, 15, 18, 21, 24, 27], [3, 7, 9, 11, 15, 18, 21, 24, 27]), ([], []), ([29, 28, 11, 0, 1, 2, 3, 4, 5, 6, 7, 8, 9, 10, 11, 12, 13, 14, 15, 16, 17, 18, 19, 20, 21, 22, 23, 24, 25, 26, 27, 28, 29], [28, 29])])
def impl_SegmentFrom.B4 : List Nat := [0, 1, 3, 7, 0, 16, 48, 112, 0, 256, 0, 1792, 0, 4096, 12288, 28672, 0, 65536, 196608, 0, 524288, 1572864, 0, 4194304, 12582912, 0, 33554432, 100663296, 268435455, 0, 1073741823]
theorem impl_SegmentFrom.tab4 : rtab .any (opsOf Try.f27 4) = impl_SegmentFrom.T4 := by kernel_rfl
theorem impl_SegmentFrom.bits4 : waitsOk impl_SegmentFrom.T4.2 impl_SegmentFrom.B4 = true := by kernel_rfl
def impl_SegmentFrom.T8 : Bool × List (List Nat × List Nat) := (true, [([], []), ([0], [0]), ([], []), ([], []), ([2, 3], [2, 3]), ([], []), ([], []), ([6], [6]), ([5, 7, 4], [5, 7]), ([4, 8], [4, 8]), ([9], [9]), ([1, 10, 8], [1, 10]), ([0, 1, 2, 3, 4, 5, 6, 7, 8, 9, 10, 11], []), ([12, 11, 11, 0, 1, 2, 3, 4, 5, 6, 7, 8, 9, 10, 11], [11, 12])])
def impl_SegmentFrom.B8 : List Nat := [0, 1, 0, 0, 12, 0, 0, 64, 252, 508, 1020, 2047, 4095, 8191]
theorem impl_SegmentFrom.tab8 : rtab .any (opsOf Try.f27 8) = impl_SegmentFrom.T8 := by kernel_rfl
theorem impl_SegmentFrom.bits8 : waitsOk impl_SegmentFrom.T8.2 impl_SegmentFrom.B8 = true := by kernel_rfl
set_option maxHeartbeats 8000000 in
set_option maxRecDepth 100000 in
theorem impl_SegmentFrom.calls (k : Nat) (A0 : Option Addr) (c0 : Nat) (l0 : List Int) (a1 : Int) (a2 : Int) (r1 : Int) (r2 : Int) (r3 : Int) (r4 : Int) (r5 : Int) (r6 : Bool) (r7 : Bool) (r8 : Bool) (r9 : Bool) (r10 : List (S90)) (r11 : List Int) (r12 : Bool) (w : World) (hr0 : Kd.C (Kd.int .u8) w A0 l0.length l0) (hc0 : l0.length ≤ c0) (h : impl_SegmentFrom.f k l0 a1 a2 = some (r1, r2, r3, r4, r5, r6, r7, r8, r9, r10, r11, r12)) :
  Calls Try.prog 27 #[.slice A0 l0.length c0, .int .i64 a1, .int .i64 a2] w fun e w' => ∃ v9_ v10_ : Value, e = .returned (.tuple #[.agg #[.int .i64 r1, .int .i64 r2, .int .i64 r3, .int .i64 r4, .int .i64 r5, .bool r6, .bool r7, .bool r8, .bool r9, v9_, v10_], .bool r12]) ∧ Kd.R k90 90 w' w.heap.size (fun _ => True) v9_ r10 ∧ Kd.R (Kd.int .u8) 5 w' w.heap.size (fun _ => True) v10_ r11 ∧ Below w.heap.size w w' := by
 have hu52 := Try.underlying52; have hu90 := Try.underlying90; have HR0 := Aside0.mk hr0; have HC0 := Aside0.mk hc0; clear hr0 hc0
 have HB := Aside0.mk (Below.refl w.heap.size w)
 have H : (if (l0.length : Int) < 12 then (impl_SegmentFrom.j0 k l0 a1 a2 true) else (if 8 < (l0.length : Int) then (impl_SegmentFrom.j0 k l0 a1 a2 (decide ((l0.length : Int) < (wrap64 (12 + (wrap64 (4 * (wrap64 (rd l0 8))))))))) else (none))) = some (r1, r2, r3, r4, r5, r6, r7, r8, r9, r10, r11, r12) := h
 clear h; have HC4 := Aside0.mk H; clear H
 go_enter Try.func27, Try.ntmps27
 go_upto_region 1 with (first | ((with_reducible refine gate_dst (N := 6) rfl ?_); (try (refine gate_guard (by rfl) ?_; dsimp only)); refine box_ (N := 6) (cs := #[.int .i64 0, .int .i64 0, .int .i64 0, .int .i64 0, .int .i64 0, .bool false, .bool false, .bool false, .bool false, .slice none 0 0, .slice none 0 0]) (t := 52) (fun gb237 hg w5 hbox hb => ?_); have BK237 := Aside0.mk (hbox); have GW237 := ge_ hg HB; have GE237 := ge_ hg HB; replace HB := (bs_ HB hb); clear hb hbox hg))
 (try simp only [Act.put, List.setIfInBounds_toArray, List.set_cons_zero, List.set_cons_succ])
 go_cut [24] (fun v24 wc => ∃ (kq : Nat) (x24_3 : Bool), v24 = .bool x24_3 ∧ Aside0 (impl_SegmentFrom.j0 kq l0 a1 a2 x24_3 = some (r1, r2, r3, r4, r5, r6, r7, r8, r9, r10, r11, r12)) ∧ Aside0 (kq ≤ k) ∧ Aside0 (wc.heap[gb237]? = some (.cells #[.int .i64 0, .int .i64 0, .int .i64 0, .int .i64 0, .int .i64 0, .bool false, .bool false, .bool false, .bool false, (.slice none 0 0), (.slice none 0 0)] 52 (0, 0))) ∧ Aside0 (Below w.heap.size w wc))
 case first =>
  have H := HC4.out; clear HC4
  by_cases c6 : (l0.length : Int) < 12
  ·rw [if_pos c6] at H
   have c6b0 : decide ((l0.length : Int) < 12) = true := decide_eq_true c6
   have c6b1 : decide (l0.length < 12) = true := decide_eq_true (by omega)
   clear c6
   (first | rw [c6b0] | (simp only [i64_w, i32_w]; rw [c6b0]) | skip)
   have H' := Aside0.mk H
   clear H
   go_wp2
   go_meet
   case rel => exact ⟨_, (true), (by first | rfl | (simp; done) | (simp [*]; done)), H', ⟨by first | omega | exact Nat.le_refl _⟩, ⟨by refine kb_ ?_; exact BK237.out⟩, ⟨hbA_ HB.out⟩⟩
  ·rw [if_neg c6] at H
   have c6b0 : decide ((l0.length : Int) < 12) = false := decide_eq_false c6
   have c6b1 : decide (l0.length < 12) = false := decide_eq_false (by omega)
   clear c6
   (first | rw [c6b0] | (simp only [i64_w, i32_w]; rw [c6b0]) | skip)
   by_cases c7 : 8 < (l0.length : Int)
   ·rw [if_pos c7] at H
    have c7b0 : decide (8 < (l0.length : Int)) = true := decide_eq_true c7
    have c7b1 : decide (8 < l0.length) = true := decide_eq_true (by omega)
    clear c7
    have H' := Aside0.mk H
    clear H
    have p238 : 0 ≤ (8 : Int) := (by omega)
    have q238 : 8 < (l0.length : Int) := of_decide_eq_true (by first | (with_reducible assumption) | assumption)
    obtain ⟨ad238, e238, hx238_0⟩ := Kd.at_int HR0.out 8 p238 q238
    cases e238
    (try simp only [show (8 : Int).toNat = 8 from rfl, Nat.reduceMul, Nat.reduceEqDiff, Go.Addr.add, ↓reduceIte] at hx238_0)
    have qi238 : (8 < l0.length) = True := eq_true (by omega)
    (try rw [show ((8 : Int)).toNat = 8 from rfl] at hx238_0)
    replace hx238_0 := cc_ HB hx238_0
    replace p238 := eq_true p238
    replace q238 := eq_true q238
    go_wp2
    go_meet
    case rel => exact ⟨_, (decide ((l0.length : Int) < (wrap64 (12 + (wrap64 (4 * (wrap64 (rd l0 8)))))))), (by first | rfl | (simp; done) | (simp [*]; done)), H', ⟨by first | omega | exact Nat.le_refl _⟩, ⟨by refine kb_ ?_; exact BK237.out⟩, ⟨hbA_ HB.out⟩⟩
   ·rw [if_neg c7] at H
    exact absurd H (by simp)
 case rest =>
  clear HC4; (try clear c2); (try clear p2); (try clear q2); (try clear hx2); (try clear qi2); (try clear c6); (try clear c6b0); (try clear c6b1); (try clear p6); (try clear c7); (try clear c7b0); (try clear c7b1); (try clear hx238_0); (try clear p238); (try clear q238)
  obtain ⟨kq, x24_3, rfl, HA, HJ3, BK237, HB⟩ := hcut
  cases kq with
  | zero => exact absurd HA.out (by simp [impl_SegmentFrom.j0])
  | succ kj3 =>
   have H := HA.out; clear HA
   simp only [impl_SegmentFrom.j0] at H
   by_cases c8 : x24_3 = true
   ·subst c8
    rw [if_pos rfl] at H
    simp only [Option.some.injEq, Prod.mk.injEq] at H
    obtain ⟨rfl, rfl, rfl, rfl, rfl, rfl, rfl, rfl, rfl, rfl, rfl, rfl⟩ := H
    have Z9 := zz11 BK237
    go_wp2
    refine bodyPost_ret (results_ct rfl _ _ gb237 52 #[.int .i64 0, .int .i64 0, .int .i64 0, .int .i64 0, .int .i64 0, .bool false, .bool false, .bool false, .bool false, .slice none 0 0, .slice none 0 0] (0, 0) _ rfl (by refine kb_ ?_; refine pz11 (cs := #[.int .i64 0, .int .i64 0, .int .i64 0, .int .i64 0, .int .i64 0, .bool false, .bool false, .bool false, .bool false, .slice none 0 0, .slice none 0 0]) ?_; refine kb_ ?_; exact BK237.out) Try.underlying52 rfl (by kernel_rfl)) rfl ?_
    exact ⟨_, _, by first | rfl | (simp [errW_none, errW_some] <;> rfl) | (simp [*, errW_none, errW_some] <;> rfl), by first | exact Kd.R_nil _ _ _ _ _ | exact Kd.N_nil _ _ _ _ _ | exact Kd.V_nil _ _ _ _ _ | exact Kd.Q_nil _ _ _ _ _ | exact Kd.S_nil _ _ _ _ _, by first | exact Kd.R_nil _ _ _ _ _ | exact Kd.N_nil _ _ _ _ _ | exact Kd.V_nil _ _ _ _ _ | exact Kd.Q_nil _ _ _ _ _ | exact Kd.S_nil _ _ _ _ _, hbA_ HB.out⟩
   ·replace c8 := Bool.eq_false_iff.mpr c8
    subst c8
    rw [if_neg (show ¬ (false = true) by decide)] at H
    by_cases c10 : 7 < (l0.length : Int)
    ·rw [if_pos c10] at H
     have c10b0 : decide (7 < (l0.length : Int)) = true := decide_eq_true c10
     have c10b1 : decide (7 < l0.length) = true := decide_eq_true (by omega)
     clear c10
     by_cases c11 : 0 < (l0.length : Int)
     ·rw [if_pos c11] at H
      have c11b0 : decide (0 < (l0.length : Int)) = true := decide_eq_true c11
      have c11b1 : decide (0 < l0.length) = true := decide_eq_true (by omega)
      clear c11
      by_cases c12 : 1 < (l0.length : Int)
      ·rw [if_pos c12] at H
       have c12b0 : decide (1 < (l0.length : Int)) = true := decide_eq_true c12
       have c12b1 : decide (1 < l0.length) = true := decide_eq_true (by omega)
       clear c12
       replace H := Option.bind_eq_some_iff.mp H
       obtain ⟨t242, A130, H⟩ := H
       (try dsimp only at H)
       have A13 := Aside0.mk A130; clear A130
       replace H := Option.bind_eq_some_iff.mp H
       obtain ⟨t243, A140, H⟩ := H
       (try dsimp only at H)
       have A14 := Aside0.mk A140; clear A140
       by_cases c15 : 6 < (l0.length : Int)
       ·rw [if_pos c15] at H
        have c15b0 : decide (6 < (l0.length : Int)) = true := decide_eq_true c15
        have c15b1 : decide (6 < l0.length) = true := decide_eq_true (by omega)
        clear c15
        by_cases c16 : 8 < (l0.length : Int)
        ·rw [if_pos c16] at H
         have c16b0 : decide (8 < (l0.length : Int)) = true := decide_eq_true c16
         have c16b1 : decide (8 < l0.length) = true := decide_eq_true (by omega)
         clear c16
         have H' := Aside0.mk H
         clear H
         have p239 : 0 ≤ (7 : Int) := (by omega)
         have q239 : 7 < (l0.length : Int) := of_decide_eq_true (by first | (with_reducible assumption) | assumption)
         obtain ⟨ad239, e239, hx239_0⟩ := Kd.at_int HR0.out 7 p239 q239
         cases e239
         (try simp only [show (7 : Int).toNat = 7 from rfl, Nat.reduceMul, Nat.reduceEqDiff, Go.Addr.add, ↓reduceIte] at hx239_0)
         have qi239 : (7 < l0.length) = True := eq_true (by omega)
         (try rw [show ((7 : Int)).toNat = 7 from rfl] at hx239_0)
         replace hx239_0 := cc_ HB hx239_0
         replace p239 := eq_true p239
         replace q239 := eq_true q239
         try go_wp2
         replace BK237 := Aside0.mk (blk_drew BK237.out); replace HB := (bd_ HB)
         have p240 : 0 ≤ (0 : Int) := (by omega)
         have q240 : 0 < (l0.length : Int) := of_decide_eq_true (by first | (with_reducible assumption) | assumption)
         obtain ⟨ad240, e240, hx240_0⟩ := Kd.at_int HR0.out 0 p240 q240
         have hw240_0 := hx240_0
         (try rw [show ((0 : Int)).toNat = 0 from rfl] at hw240_0)
         (try rw [show 0 * 1 = 0 from rfl] at hw240_0)
         (try rw [Addr.add_zero'] at hw240_0)
         obtain rfl : ad239 = ad240 := (by injection e240)
         have qi240 : (0 < l0.length) = True := eq_true (by omega)
         (try rw [show ((0 : Int)).toNat = 0 from rfl] at hx240_0)
         (try rw [Addr.add_zero'] at hx240_0)
         replace hx240_0 := cc_ HB hx240_0
         replace p240 := eq_true p240
         replace q240 := eq_true q240
         have p241 : 0 ≤ (1 : Int) := (by omega)
         have q241 : 1 < (l0.length : Int) := of_decide_eq_true (by first | (with_reducible assumption) | assumption)
         obtain ⟨ad241, e241, hx241_0⟩ := Kd.at_int HR0.out 1 p241 q241
         have hw241_0 := hx241_0
         (try rw [show ((1 : Int)).toNat = 1 from rfl] at hw241_0)
         (try rw [show 1 * 1 = 1 from rfl] at hw241_0)
         (try simp only [Nat.reduceMul, Nat.reduceEqDiff, Go.Addr.add, ↓reduceIte] at hw241_0)
         obtain rfl : ad239 = ad241 := (by injection e241)
         (try simp only [show (1 : Int).toNat = 1 from rfl, Nat.reduceMul, Nat.reduceEqDiff, Go.Addr.add, ↓reduceIte] at hx241_0)
         have qi241 : (1 < l0.length) = True := eq_true (by omega)
         (try rw [show ((1 : Int)).toNat = 1 from rfl] at hx241_0)
         replace hx241_0 := cc_ HB hx241_0
         replace p241 := eq_true p241
         replace q241 := eq_true q241
         have p244 : 0 ≤ (6 : Int) := (by omega)
         have q244 : 6 < (l0.length : Int) := of_decide_eq_true (by first | (with_reducible assumption) | assumption)
         obtain ⟨ad244, e244, hx244_0⟩ := Kd.at_int HR0.out 6 p244 q244
         have hw244_0 := hx244_0
         (try rw [show ((6 : Int)).toNat = 6 from rfl] at hw244_0)
         (try rw [show 6 * 1 = 6 from rfl] at hw244_0)
         (try simp only [Nat.reduceMul, Nat.reduceEqDiff, Go.Addr.add, ↓reduceIte] at hw244_0)
         obtain rfl : ad239 = ad244 := (by injection e244)
         (try simp only [show (6 : Int).toNat = 6 from rfl, Nat.reduceMul, Nat.reduceEqDiff, Go.Addr.add, ↓reduceIte] at hx244_0)
         have qi244 : (6 < l0.length) = True := eq_true (by omega)
         (try rw [show ((6 : Int)).toNat = 6 from rfl] at hx244_0)
         replace hx244_0 := cc_ HB hx244_0
         replace p244 := eq_true p244
         replace q244 := eq_true q244
         refine start_ (n := 31) (S := fun w' => w'.cell? ad239 = some (.int .u8 (rd l0 0)) ∧ w'.cell? ⟨ad239.block, ad239.off + 1, none⟩ = some (.int .u8 (rd l0 1)) ∧ w'.cell? ⟨ad239.block, ad239.off + 6, none⟩ = some (.int .u8 (rd l0 6))) (ds := []) #[false, false, false, false, false, false, false, false, false, false, false, false, false, false, false, false, false, false, false, false, false, false, false, false, false, false, false, false, false, false, false] (by kernel_rfl) rfl rfl ⟨(cc_ HB hw240_0), (cc_ HB hw241_0), (cc_ HB hw244_0)⟩ (fun hHeld => ?_); refine with_tabW impl_SegmentFrom.tab4 impl_SegmentFrom.bits4 (fun HT_ HW_ => ?_)
         generalize wc.drew = w17 at BK237 HB hx240_0 hx241_0 hx244_0 hHeld ⊢
         refine pu_ (i := 0) (N := some 29) HT_ ?_; refine pu_ (i := 1) (N := some 30) HT_ ?_; refine pu_ (i := 4) (N := some 33) HT_ ?_; refine pu_ (i := 5) (N := some 34) HT_ ?_; refine pu_ (i := 8) (N := some 37) HT_ ?_; refine pu_ (i := 10) (N := some 39) HT_ ?_; refine pu_ (i := 12) (N := some 41) HT_ ?_; refine pu_ (i := 13) (N := some 42) HT_ ?_; refine pu_ (i := 16) (N := some 45) HT_ ?_; refine pu_ (i := 17) (N := some 46) HT_ ?_; refine pu_ (i := 18) (N := some 47) HT_ ?_; refine pu_ (i := 19) (N := some 48) HT_ ?_; refine pu_ (i := 20) (N := some 49) HT_ ?_; refine pu_ (i := 21) (N := some 50) HT_ ?_; refine pu_ (i := 22) (N := some 51) HT_ ?_; refine pu_ (i := 23) (N := some 52) HT_ ?_; refine pu_ (i := 24) (N := some 53) HT_ ?_; refine pu_ (i := 25) (N := some 54) HT_ ?_; refine pu_ (i := 26) (N := some 55) HT_ ?_; refine pu_ (i := 27) (N := some 56) HT_ ?_; refine tk_ (i := 2) (N := some 31) HT_ HW_ hHeld ?_; refine pu_ (i := 3) (N := some 32) HT_ ?_; refine tk_ (i := 6) (N := some 35) HT_ HW_ hHeld ?_; refine pu_ (i := 7) (N := some 36) HT_ ?_; refine tk_ (i := 14) (N := some 43) HT_ HW_ hHeld ?_; refine pu_ (i := 15) (N := some 44) HT_ ?_
         refine join_ (σ := Nat) 1 #[true, true, true, true, true, true, true, true, true, true, true, true, true, true, true, true, true, true, true, true, true, true, true, true, true, true, true, true, true, true, false] (fun s_ => [(38, .int .i64 t242), (40, .int .i64 t243), (9, .pointer (some ⟨s_, 0, none⟩)), (57, .agg #[.int .i64 (wrap64 (rd l0 0)), .int .i64 (wrap64 (rd l0 1)), .int .i64 t242, .int .i64 t243, .int .i64 (wrap64 (rd l0 6)), .bool ((Go.bits .and .u8 (rd l0 7) 1) != 0), .bool ((Go.bits .and .u8 (rd l0 7) 2) != 0), .bool ((Go.bits .and .u8 (rd l0 7) 4) != 0), .bool ((Go.bits .and .u8 (rd l0 7) 8) != 0), .slice none 0 0, .slice none 0 0])]) (fun s_ w' => (w'.cell? ad239 = some (.int .u8 (rd l0 0)) ∧ w'.cell? ⟨ad239.block, ad239.off + 1, none⟩ = some (.int .u8 (rd l0 1)) ∧ w'.cell? ⟨ad239.block, ad239.off + 6, none⟩ = some (.int .u8 (rd l0 6))) ∧ (w'.heap[gb237]? = some (.cells #[.int .i64 0, .int .i64 0, .int .i64 0, .int .i64 0, .int .i64 0, .bool false, .bool false, .bool false, .bool false, .slice none 0 0, .slice none 0 0] 52 (0, 0))) ∧ (w'.heap[s_]? = some (.cells #[.int .i64 0, .int .i64 0, .int .i64 0, .int .i64 0, .int .i64 0, .bool false, .bool false, .bool false, .bool false, .slice none 0 0, .slice none 0 0] 52 (0, 0))) ∧ (w.heap.size ≤ s_) ∧ (w.heap.size ≤ s_) ∧ (gb237 ≠ s_) ∧ (s_ ≠ gb237) ∧ (Below w.heap.size w w')) ?_ ?_
         rotate_left
         ·intro hCont
          refine two_ (i := 9) (j := 29) (Ni := some 38) (Nj := some 9) #[true, true, true, true, true, true, true, true, true, true, true, false, true, true, true, true, true, true, true, true, true, true, true, true, true, true, true, true, false, false, false] #[true, true, true, true, true, true, true, true, true, false, true, false, true, true, true, true, true, true, true, true, true, true, true, true, true, true, true, true, false, true, false] rfl rfl rfl rfl (two_of HT_.out (by kernel_rfl)) (by decide) (by decide) (fun K hK => ?_) (fun K hK => ?_)
          ·skip
           refine goes_ Try.func61 (by kernel_rfl) rfl #[.slice (some ad239) l0.length c0, .int .i64 2, .int .i64 2] (by rfl) rfl rfl ar_ ?_
           with_reducible refine (impl_NumberAt.calls kj3 _ _ l0 2 2 t242 _ ?side1 ?side2 A13.out).mono ?_
           (case side1 => exact kC_ (Kd.C_below HR0.out HB.out))
           (case side2 => exact HC0.out)
           rintro e w' ⟨rfl, ⟨nd, rfl⟩⟩
           refine ⟨_, rfl, ?_⟩
           refine hK.out _ _ ⟨(by first | exact cc_ HB hw240_0 | exact cc_ ⟨hbA_ HB.out⟩ hw240_0), (by first | exact cc_ HB hw241_0 | exact cc_ ⟨hbA_ HB.out⟩ hw241_0), (by first | exact cc_ HB hw244_0 | exact cc_ ⟨hbA_ HB.out⟩ hw244_0)⟩ (fun hHeld => ?_)
           clear hK K; refine nm_ 38 ?_
           refine two_ (i := 11) (j := 29) (Ni := some 40) (Nj := some 9) #[true, true, true, true, true, true, true, true, true, true, true, true, true, true, true, true, true, true, true, true, true, true, true, true, true, true, true, true, false, false, false] #[true, true, true, true, true, true, true, true, true, true, true, false, true, true, true, true, true, true, true, true, true, true, true, true, true, true, true, true, false, true, false] rfl rfl rfl rfl (two_of HT_.out (by kernel_rfl)) (by decide) (by decide) (fun K hK => ?_) (fun K hK => ?_)
           ·skip
            refine goes_ Try.func61 (by kernel_rfl) rfl #[.slice (some ad239) l0.length c0, .int .i64 4, .int .i64 2] (by rfl) rfl rfl ar_ ?_
            with_reducible refine (impl_NumberAt.calls kj3 _ _ l0 4 2 t243 _ ?side1 ?side2 A14.out).mono ?_
            (case side1 => exact kC_ (Kd.C_below HR0.out (hbA_ HB.out)))
            (case side2 => exact HC0.out)
            rintro e w' ⟨rfl, ⟨nd, rfl⟩⟩
            refine ⟨_, rfl, ?_⟩
            refine hK.out _ _ ⟨(by first | exact cc_ HB hw240_0 | exact cc_ ⟨hbA_ HB.out⟩ hw240_0), (by first | exact cc_ HB hw241_0 | exact cc_ ⟨hbA_ HB.out⟩ hw241_0), (by first | exact cc_ HB hw244_0 | exact cc_ ⟨hbA_ HB.out⟩ hw244_0)⟩ (fun hHeld => ?_)
            clear hK K; refine nm_ 40 ?_; refine pu_ (i := 28) (N := some 57) HT_ ?_
            refine on_ (i := 29) (N := some 9) HT_ (fun K hK => ?_)
            refine box_step ?hg (N := 9) ?hd (cs := #[.int .i64 0, .int .i64 0, .int .i64 0, .int .i64 0, .int .i64 0, .bool false, .bool false, .bool false, .bool false, .slice none 0 0, .slice none 0 0]) (t := 52) ?hr ?_; (case hd => rfl); (case hg => rfl); (case hr => first | (go_simp; done) | (go_simp; rfl))
            intro gb245 hg w18 hbox hb
            have n0_ := (bbA_ BK237 hb); have n1_ := (bs_ HB hb); have n2_ := Aside0.mk (hbox); have n3_ := ge_ hg HB; have n4_ := ge_ hg HB; have n5_ := nl_ hg BK237; have n6_ := ng_ hg BK237; clear BK237 HB; have BK237 := n0_; have HB := n1_; have BK245 := n2_; have GW245 := n3_; have GE245 := n4_; have NB237_245 := n5_; have NB245_237 := n6_; clear n0_ n1_ n2_ n3_ n4_ n5_ n6_ hb hbox hg
            refine hK.out _ _ ⟨(by first | exact cc_ HB hw240_0 | exact cc_ ⟨hbA_ HB.out⟩ hw240_0), (by first | exact cc_ HB hw241_0 | exact cc_ ⟨hbA_ HB.out⟩ hw241_0), (by first | exact cc_ HB hw244_0 | exact cc_ ⟨hbA_ HB.out⟩ hw244_0)⟩ (fun hHeld => ?_)
            clear hK K; refine nm_ 9 ?_
            exact norm_ (by simp only [putAll, Act.put, List.setIfInBounds_toArray, List.set_cons_zero, List.set_cons_succ]) (hCont (gb245) _ ⟨hHeld, (kb_ BK237.out), (kb_ BK245.out), GW245.out, GE245.out, NB237_245.out, NB245_237.out, (hbA_ HB.out)⟩)
           ·skip
            refine box_step ?hg (N := 9) ?hd (cs := #[.int .i64 0, .int .i64 0, .int .i64 0, .int .i64 0, .int .i64 0, .bool false, .bool false, .bool false, .bool false, .slice none 0 0, .slice none 0 0]) (t := 52) ?hr ?_; (case hd => rfl); (case hg => rfl); (case hr => first | (go_simp; done) | (go_simp; rfl))
            intro gb245 hg w18 hbox hb
            have n0_ := (bbA_ BK237 hb); have n1_ := (bs_ HB hb); have n2_ := Aside0.mk (hbox); have n3_ := ge_ hg HB; have n4_ := ge_ hg HB; have n5_ := nl_ hg BK237; have n6_ := ng_ hg BK237; clear BK237 HB; have BK237 := n0_; have HB := n1_; have BK245 := n2_; have GW245 := n3_; have GE245 := n4_; have NB237_245 := n5_; have NB245_237 := n6_; clear n0_ n1_ n2_ n3_ n4_ n5_ n6_ hb hbox hg
            refine hK.out _ _ ⟨(by first | exact cc_ HB hw240_0 | exact cc_ ⟨hbA_ HB.out⟩ hw240_0), (by first | exact cc_ HB hw241_0 | exact cc_ ⟨hbA_ HB.out⟩ hw241_0), (by first | exact cc_ HB hw244_0 | exact cc_ ⟨hbA_ HB.out⟩ hw244_0)⟩ (fun hHeld => ?_)
            clear hK K; refine nm_ 9 ?_
            refine on_ (i := 11) (N := some 40) HT_ (fun K hK => ?_)
            refine goes_ Try.func61 (by kernel_rfl) rfl #[.slice (some ad239) l0.length c0, .int .i64 4, .int .i64 2] (by rfl) rfl rfl ar_ ?_
            with_reducible refine (impl_NumberAt.calls kj3 _ _ l0 4 2 t243 _ ?side1 ?side2 A14.out).mono ?_
            (case side1 => exact kC_ (Kd.C_below HR0.out HB.out))
            (case side2 => exact HC0.out)
            rintro e w' ⟨rfl, ⟨nd, rfl⟩⟩
            refine ⟨_, rfl, ?_⟩
            refine hK.out _ _ ⟨(by first | exact cc_ HB hw240_0 | exact cc_ ⟨hbA_ HB.out⟩ hw240_0), (by first | exact cc_ HB hw241_0 | exact cc_ ⟨hbA_ HB.out⟩ hw241_0), (by first | exact cc_ HB hw244_0 | exact cc_ ⟨hbA_ HB.out⟩ hw244_0)⟩ (fun hHeld => ?_)
            clear hK K; refine nm_ 40 ?_; refine pu_ (i := 28) (N := some 57) HT_ ?_
            exact norm_ (by simp only [putAll, Act.put, List.setIfInBounds_toArray, List.set_cons_zero, List.set_cons_succ]) (hCont (gb245) _ ⟨hHeld, (kb_ BK237.out), (kb_ BK245.out), GW245.out, GE245.out, NB237_245.out, NB245_237.out, (hbA_ HB.out)⟩)
          ·skip
           refine box_step ?hg (N := 9) ?hd (cs := #[.int .i64 0, .int .i64 0, .int .i64 0, .int .i64 0, .int .i64 0, .bool false, .bool false, .bool false, .bool false, .slice none 0 0, .slice none 0 0]) (t := 52) ?hr ?_; (case hd => rfl); (case hg => rfl); (case hr => first | (go_simp; done) | (go_simp; rfl))
           intro gb245 hg w18 hbox hb
           have n0_ := (bbA_ BK237 hb); have n1_ := (bs_ HB hb); have n2_ := Aside0.mk (hbox); have n3_ := ge_ hg HB; have n4_ := ge_ hg HB; have n5_ := nl_ hg BK237; have n6_ := ng_ hg BK237; clear BK237 HB; have BK237 := n0_; have HB := n1_; have BK245 := n2_; have GW245 := n3_; have GE245 := n4_; have NB237_245 := n5_; have NB245_237 := n6_; clear n0_ n1_ n2_ n3_ n4_ n5_ n6_ hb hbox hg
           refine hK.out _ _ ⟨(by first | exact cc_ HB hw240_0 | exact cc_ ⟨hbA_ HB.out⟩ hw240_0), (by first | exact cc_ HB hw241_0 | exact cc_ ⟨hbA_ HB.out⟩ hw241_0), (by first | exact cc_ HB hw244_0 | exact cc_ ⟨hbA_ HB.out⟩ hw244_0)⟩ (fun hHeld => ?_)
           clear hK K; refine nm_ 9 ?_
           refine on_ (i := 9) (N := some 38) HT_ (fun K hK => ?_)
           refine goes_ Try.func61 (by kernel_rfl) rfl #[.slice (some ad239) l0.length c0, .int .i64 2, .int .i64 2] (by rfl) rfl rfl ar_ ?_
           with_reducible refine (impl_NumberAt.calls kj3 _ _ l0 2 2 t242 _ ?side1 ?side2 A13.out).mono ?_
           (case side1 => exact kC_ (Kd.C_below HR0.out HB.out))
           (case side2 => exact HC0.out)
           rintro e w' ⟨rfl, ⟨nd, rfl⟩⟩
           refine ⟨_, rfl, ?_⟩
           refine hK.out _ _ ⟨(by first | exact cc_ HB hw240_0 | exact cc_ ⟨hbA_ HB.out⟩ hw240_0), (by first | exact cc_ HB hw241_0 | exact cc_ ⟨hbA_ HB.out⟩ hw241_0), (by first | exact cc_ HB hw244_0 | exact cc_ ⟨hbA_ HB.out⟩ hw244_0)⟩ (fun hHeld => ?_)
           clear hK K; refine nm_ 38 ?_
           refine on_ (i := 11) (N := some 40) HT_ (fun K hK => ?_)
           refine goes_ Try.func61 (by kernel_rfl) rfl #[.slice (some ad239) l0.length c0, .int .i64 4, .int .i64 2] (by rfl) rfl rfl ar_ ?_
           with_reducible refine (impl_NumberAt.calls kj3 _ _ l0 4 2 t243 _ ?side1 ?side2 A14.out).mono ?_
           (case side1 => exact kC_ (Kd.C_below HR0.out (hbA_ HB.out)))
           (case side2 => exact HC0.out)
           rintro e w' ⟨rfl, ⟨nd, rfl⟩⟩
           refine ⟨_, rfl, ?_⟩
           refine hK.out _ _ ⟨(by first | exact cc_ HB hw240_0 | exact cc_ ⟨hbA_ HB.out⟩ hw240_0), (by first | exact cc_ HB hw241_0 | exact cc_ ⟨hbA_ HB.out⟩ hw241_0), (by first | exact cc_ HB hw244_0 | exact cc_ ⟨hbA_ HB.out⟩ hw244_0)⟩ (fun hHeld => ?_)
           clear hK K; refine nm_ 40 ?_; refine pu_ (i := 28) (N := some 57) HT_ ?_
           exact norm_ (by simp only [putAll, Act.put, List.setIfInBounds_toArray, List.set_cons_zero, List.set_cons_succ]) (hCont (gb245) _ ⟨hHeld, (kb_ BK237.out), (kb_ BK245.out), GW245.out, GE245.out, NB237_245.out, NB245_237.out, (hbA_ HB.out)⟩)
         rintro gb245 w19 ⟨hS_, h0_, h1_, h2_, h3_, h4_, h5_, h6_⟩
         have n0_ : Aside0 (w19.heap[gb237]? = some (.cells #[.int .i64 0, .int .i64 0, .int .i64 0, .int .i64 0, .int .i64 0, .bool false, .bool false, .bool false, .bool false, .slice none 0 0, .slice none 0 0] 52 (0, 0))) := ⟨h0_⟩
         have n1_ : Aside0 (w19.heap[gb245]? = some (.cells #[.int .i64 0, .int .i64 0, .int .i64 0, .int .i64 0, .int .i64 0, .bool false, .bool false, .bool false, .bool false, .slice none 0 0, .slice none 0 0] 52 (0, 0))) := ⟨h1_⟩
         have n2_ : Aside0 (w.heap.size ≤ gb245) := ⟨h2_⟩
         have n3_ : Aside0 (w.heap.size ≤ gb245) := ⟨h3_⟩
         have n4_ : Aside0 (gb237 ≠ gb245) := ⟨h4_⟩
         have n5_ : Aside0 (gb245 ≠ gb237) := ⟨h5_⟩
         have n6_ : Aside0 (Below w.heap.size w w19) := ⟨h6_⟩
         clear BK237 HB h0_ h1_ h2_ h3_ h4_ h5_ h6_; have BK237 := n0_; have BK245 := n1_; have GW245 := n2_; have GE245 := n3_; have NB237_245 := n4_; have NB245_237 := n5_; have HB := n6_; clear n0_ n1_ n2_ n3_ n4_ n5_ n6_
         have hHeld : w19.cell? ad239 = some (.int .u8 (rd l0 0)) ∧ w19.cell? ⟨ad239.block, ad239.off + 1, none⟩ = some (.int .u8 (rd l0 1)) ∧ w19.cell? ⟨ad239.block, ad239.off + 6, none⟩ = some (.int .u8 (rd l0 6)) := hS_
         refine norm_ (a' := ?_) ?_ ?_
         rotate_left
         ·simp only [putAll, Act.put, List.setIfInBounds_toArray, List.set_cons_zero, List.set_cons_succ]
          rfl
         refine on_ (i := 30) (N := none) HT_ (fun K hK => ?_)
         have hs20 : w19.cell? ⟨gb245, 0, none⟩ = some (.int .i64 0) := bc_ BK245 0
         have hfs20 := blk_frozen BK245.out 0
         have hns20_0 := NB237_245.out; have hms20_0 := NB245_237.out
         have hs21 : w19.cell? ⟨gb245, 1, none⟩ = some (.int .i64 0) := bc_ BK245 1
         have hfs21 := blk_frozen BK245.out 1
         have hns21_0 := NB237_245.out; have hms21_0 := NB245_237.out
         have hs22 : w19.cell? ⟨gb245, 2, none⟩ = some (.int .i64 0) := bc_ BK245 2
         have hfs22 := blk_frozen BK245.out 2
         have hns22_0 := NB237_245.out; have hms22_0 := NB245_237.out
         have hs23 : w19.cell? ⟨gb245, 3, none⟩ = some (.int .i64 0) := bc_ BK245 3
         have hfs23 := blk_frozen BK245.out 3
         have hns23_0 := NB237_245.out; have hms23_0 := NB245_237.out
         have hs24 : w19.cell? ⟨gb245, 4, none⟩ = some (.int .i64 0) := bc_ BK245 4
         have hfs24 := blk_frozen BK245.out 4
         have hns24_0 := NB237_245.out; have hms24_0 := NB245_237.out
         have hs25 : w19.cell? ⟨gb245, 5, none⟩ = some (.bool false) := bc_ BK245 5
         have hfs25 := blk_frozen BK245.out 5
         have hns25_0 := NB237_245.out; have hms25_0 := NB245_237.out
         have hs26 : w19.cell? ⟨gb245, 6, none⟩ = some (.bool false) := bc_ BK245 6
         have hfs26 := blk_frozen BK245.out 6
         have hns26_0 := NB237_245.out; have hms26_0 := NB245_237.out
         have hs27 : w19.cell? ⟨gb245, 7, none⟩ = some (.bool false) := bc_ BK245 7
         have hfs27 := blk_frozen BK245.out 7
         have hns27_0 := NB237_245.out; have hms27_0 := NB245_237.out
         have hs28 : w19.cell? ⟨gb245, 8, none⟩ = some (.bool false) := bc_ BK245 8
         have hfs28 := blk_frozen BK245.out 8
         have hns28_0 := NB237_245.out; have hms28_0 := NB245_237.out
         have hs29 : w19.cell? ⟨gb245, 9, none⟩ = some (.slice none 0 0) := bc_ BK245 9
         have hfs29 := blk_frozen BK245.out 9
         have hns29_0 := NB237_245.out; have hms29_0 := NB245_237.out
         have hs30 : w19.cell? ⟨gb245, 10, none⟩ = some (.slice none 0 0) := bc_ BK245 10
         have hfs30 := blk_frozen BK245.out 10
         have hns30_0 := NB237_245.out; have hms30_0 := NB245_237.out
         refine skip_ (w1 := ?_) (by rfl) rfl ?_ ?_
         rotate_left
         ·go_simp
          rfl
         refine hK.out _ _ ⟨((cell_far (p := ⟨gb245, _, none⟩) (by first | exact Nat.ne_of_lt (Nat.lt_of_lt_of_le (by have := World.block_lt_of_cell? _ _ hw240_0; first | rwa [add_block] at this | exact this) GW245.out) | (rw [add_block]; exact Nat.ne_of_lt (Nat.lt_of_lt_of_le (by have := World.block_lt_of_cell? _ _ hw240_0; first | rwa [add_block] at this | exact this) GW245.out)) | (show (Addr.add _ _).block ≠ _; rw [add_block]; exact Nat.ne_of_lt (Nat.lt_of_lt_of_le (by have := World.block_lt_of_cell? _ _ hw240_0; first | rwa [add_block] at this | exact this) GW245.out)) | (dsimp only; exact Nat.ne_of_lt (Nat.lt_of_lt_of_le (by have := World.block_lt_of_cell? _ _ hw240_0; first | rwa [add_block] at this | exact this) GW245.out))) _).trans (((cell_far (p := ⟨gb245, _, none⟩) (by first | exact Nat.ne_of_lt (Nat.lt_of_lt_of_le (by have := World.block_lt_of_cell? _ _ hw240_0; first | rwa [add_block] at this | exact this) GW245.out) | (rw [add_block]; exact Nat.ne_of_lt (Nat.lt_of_lt_of_le (by have := World.block_lt_of_cell? _ _ hw240_0; first | rwa [add_block] at this | exact this) GW245.out)) | (show (Addr.add _ _).block ≠ _; rw [add_block]; exact Nat.ne_of_lt (Nat.lt_of_lt_of_le (by have := World.block_lt_of_cell? _ _ hw240_0; first | rwa [add_block] at this | exact this) GW245.out)) | (dsimp only; exact Nat.ne_of_lt (Nat.lt_of_lt_of_le (by have := World.block_lt_of_cell? _ _ hw240_0; first | rwa [add_block] at this | exact this) GW245.out))) _).trans (((cell_far (p := ⟨gb245, _, none⟩) (by first | exact Nat.ne_of_lt (Nat.lt_of_lt_of_le (by have := World.block_lt_of_cell? _ _ hw240_0; first | rwa [add_block] at this | exact this) GW245.out) | (rw [add_block]; exact Nat.ne_of_lt (Nat.lt_of_lt_of_le (by have := World.block_lt_of_cell? _ _ hw240_0; first | rwa [add_block] at this | exact this) GW245.out)) | (show (Addr.add _ _).block ≠ _; rw [add_block]; exact Nat.ne_of_lt (Nat.lt_of_lt_of_le (by have := World.block_lt_of_cell? _ _ hw240_0; first | rwa [add_block] at this | exact this) GW245.out)) | (dsimp only; exact Nat.ne_of_lt (Nat.lt_of_lt_of_le (by have := World.block_lt_of_cell? _ _ hw240_0; first | rwa [add_block] at this | exact this) GW245.out))) _).trans (((cell_far (p := ⟨gb245, _, none⟩) (by first | exact Nat.ne_of_lt (Nat.lt_of_lt_of_le (by have := World.block_lt_of_cell? _ _ hw240_0; first | rwa [add_block] at this | exact this) GW245.out) | (rw [add_block]; exact Nat.ne_of_lt (Nat.lt_of_lt_of_le (by have := World.block_lt_of_cell? _ _ hw240_0; first | rwa [add_block] at this | exact this) GW245.out)) | (show (Addr.add _ _).block ≠ _; rw [add_block]; exact Nat.ne_of_lt (Nat.lt_of_lt_of_le (by have := World.block_lt_of_cell? _ _ hw240_0; first | rwa [add_block] at this | exact this) GW245.out)) | (dsimp only; exact Nat.ne_of_lt (Nat.lt_of_lt_of_le (by have := World.block_lt_of_cell? _ _ hw240_0; first | rwa [add_block] at this | exact this) GW245.out))) _).trans (((cell_far (p := ⟨gb245, _, none⟩) (by first | exact Nat.ne_of_lt (Nat.lt_of_lt_of_le (by have := World.block_lt_of_cell? _ _ hw240_0; first | rwa [add_block] at this | exact this) GW245.out) | (rw [add_block]; exact Nat.ne_of_lt (Nat.lt_of_lt_of_le (by have := World.block_lt_of_cell? _ _ hw240_0; first | rwa [add_block] at this | exact this) GW245.out)) | (show (Addr.add _ _).block ≠ _; rw [add_block]; exact Nat.ne_of_lt (Nat.lt_of_lt_of_le (by have := World.block_lt_of_cell? _ _ hw240_0; first | rwa [add_block] at this | exact this) GW245.out)) | (dsimp only; exact Nat.ne_of_lt (Nat.lt_of_lt_of_le (by have := World.block_lt_of_cell? _ _ hw240_0; first | rwa [add_block] at this | exact this) GW245.out))) _).trans (((cell_far (p := ⟨gb245, _, none⟩) (by first | exact Nat.ne_of_lt (Nat.lt_of_lt_of_le (by have := World.block_lt_of_cell? _ _ hw240_0; first | rwa [add_block] at this | exact this) GW245.out) | (rw [add_block]; exact Nat.ne_of_lt (Nat.lt_of_lt_of_le (by have := World.block_lt_of_cell? _ _ hw240_0; first | rwa [add_block] at this | exact this) GW245.out)) | (show (Addr.add _ _).block ≠ _; rw [add_block]; exact Nat.ne_of_lt (Nat.lt_of_lt_of_le (by have := World.block_lt_of_cell? _ _ hw240_0; first | rwa [add_block] at this | exact this) GW245.out)) | (dsimp only; exact Nat.ne_of_lt (Nat.lt_of_lt_of_le (by have := World.block_lt_of_cell? _ _ hw240_0; first | rwa [add_block] at this | exact this) GW245.out))) _).trans (((cell_far (p := ⟨gb245, _, none⟩) (by first | exact Nat.ne_of_lt (Nat.lt_of_lt_of_le (by have := World.block_lt_of_cell? _ _ hw240_0; first | rwa [add_block] at this | exact this) GW245.out) | (rw [add_block]; exact Nat.ne_of_lt (Nat.lt_of_lt_of_le (by have := World.block_lt_of_cell? _ _ hw240_0; first | rwa [add_block] at this | exact this) GW245.out)) | (show (Addr.add _ _).block ≠ _; rw [add_block]; exact Nat.ne_of_lt (Nat.lt_of_lt_of_le (by have := World.block_lt_of_cell? _ _ hw240_0; first | rwa [add_block] at this | exact this) GW245.out)) | (dsimp only; exact Nat.ne_of_lt (Nat.lt_of_lt_of_le (by have := World.block_lt_of_cell? _ _ hw240_0; first | rwa [add_block] at this | exact this) GW245.out))) _).trans (((cell_far (p := ⟨gb245, _, none⟩) (by first | exact Nat.ne_of_lt (Nat.lt_of_lt_of_le (by have := World.block_lt_of_cell? _ _ hw240_0; first | rwa [add_block] at this | exact this) GW245.out) | (rw [add_block]; exact Nat.ne_of_lt (Nat.lt_of_lt_of_le (by have := World.block_lt_of_cell? _ _ hw240_0; first | rwa [add_block] at this | exact this) GW245.out)) | (show (Addr.add _ _).block ≠ _; rw [add_block]; exact Nat.ne_of_lt (Nat.lt_of_lt_of_le (by have := World.block_lt_of_cell? _ _ hw240_0; first | rwa [add_block] at this | exact this) GW245.out)) | (dsimp only; exact Nat.ne_of_lt (Nat.lt_of_lt_of_le (by have := World.block_lt_of_cell? _ _ hw240_0; first | rwa [add_block] at this | exact this) GW245.out))) _).trans (((cell_far (p := ⟨gb245, _, none⟩) (by first | exact Nat.ne_of_lt (Nat.lt_of_lt_of_le (by have := World.block_lt_of_cell? _ _ hw240_0; first | rwa [add_block] at this | exact this) GW245.out) | (rw [add_block]; exact Nat.ne_of_lt (Nat.lt_of_lt_of_le (by have := World.block_lt_of_cell? _ _ hw240_0; first | rwa [add_block] at this | exact this) GW245.out)) | (show (Addr.add _ _).block ≠ _; rw [add_block]; exact Nat.ne_of_lt (Nat.lt_of_lt_of_le (by have := World.block_lt_of_cell? _ _ hw240_0; first | rwa [add_block] at this | exact this) GW245.out)) | (dsimp only; exact Nat.ne_of_lt (Nat.lt_of_lt_of_le (by have := World.block_lt_of_cell? _ _ hw240_0; first | rwa [add_block] at this | exact this) GW245.out))) _).trans (((cell_far (p := ⟨gb245, _, none⟩) (by first | exact Nat.ne_of_lt (Nat.lt_of_lt_of_le (by have := World.block_lt_of_cell? _ _ hw240_0; first | rwa [add_block] at this | exact this) GW245.out) | (rw [add_block]; exact Nat.ne_of_lt (Nat.lt_of_lt_of_le (by have := World.block_lt_of_cell? _ _ hw240_0; first | rwa [add_block] at this | exact this) GW245.out)) | (show (Addr.add _ _).block ≠ _; rw [add_block]; exact Nat.ne_of_lt (Nat.lt_of_lt_of_le (by have := World.block_lt_of_cell? _ _ hw240_0; first | rwa [add_block] at this | exact this) GW245.out)) | (dsimp only; exact Nat.ne_of_lt (Nat.lt_of_lt_of_le (by have := World.block_lt_of_cell? _ _ hw240_0; first | rwa [add_block] at this | exact this) GW245.out))) _).trans (((cell_far (p := ⟨gb245, _, none⟩) (by first | exact Nat.ne_of_lt (Nat.lt_of_lt_of_le (by have := World.block_lt_of_cell? _ _ hw240_0; first | rwa [add_block] at this | exact this) GW245.out) | (rw [add_block]; exact Nat.ne_of_lt (Nat.lt_of_lt_of_le (by have := World.block_lt_of_cell? _ _ hw240_0; first | rwa [add_block] at this | exact this) GW245.out)) | (show (Addr.add _ _).block ≠ _; rw [add_block]; exact Nat.ne_of_lt (Nat.lt_of_lt_of_le (by have := World.block_lt_of_cell? _ _ hw240_0; first | rwa [add_block] at this | exact this) GW245.out)) | (dsimp only; exact Nat.ne_of_lt (Nat.lt_of_lt_of_le (by have := World.block_lt_of_cell? _ _ hw240_0; first | rwa [add_block] at this | exact this) GW245.out))) _).trans (hHeld.1)))))))))))))))))))))), ((cell_far (p := ⟨gb245, _, none⟩) (by first | exact Nat.ne_of_lt (Nat.lt_of_lt_of_le (by have := World.block_lt_of_cell? _ _ hw241_0; first | rwa [add_block] at this | exact this) GW245.out) | (rw [add_block]; exact Nat.ne_of_lt (Nat.lt_of_lt_of_le (by have := World.block_lt_of_cell? _ _ hw241_0; first | rwa [add_block] at this | exact this) GW245.out)) | (show (Addr.add _ _).block ≠ _; rw [add_block]; exact Nat.ne_of_lt (Nat.lt_of_lt_of_le (by have := World.block_lt_of_cell? _ _ hw241_0; first | rwa [add_block] at this | exact this) GW245.out)) | (dsimp only; exact Nat.ne_of_lt (Nat.lt_of_lt_of_le (by have := World.block_lt_of_cell? _ _ hw241_0; first | rwa [add_block] at this | exact this) GW245.out))) _).trans (((cell_far (p := ⟨gb245, _, none⟩) (by first | exact Nat.ne_of_lt (Nat.lt_of_lt_of_le (by have := World.block_lt_of_cell? _ _ hw241_0; first | rwa [add_block] at this | exact this) GW245.out) | (rw [add_block]; exact Nat.ne_of_lt (Nat.lt_of_lt_of_le (by have := World.block_lt_of_cell? _ _ hw241_0; first | rwa [add_block] at this | exact this) GW245.out)) | (show (Addr.add _ _).block ≠ _; rw [add_block]; exact Nat.ne_of_lt (Nat.lt_of_lt_of_le (by have := World.block_lt_of_cell? _ _ hw241_0; first | rwa [add_block] at this | exact this) GW245.out)) | (dsimp only; exact Nat.ne_of_lt (Nat.lt_of_lt_of_le (by have := World.block_lt_of_cell? _ _ hw241_0; first | rwa [add_block] at this | exact this) GW245.out))) _).trans (((cell_far (p := ⟨gb245, _, none⟩) (by first | exact Nat.ne_of_lt (Nat.lt_of_lt_of_le (by have := World.block_lt_of_cell? _ _ hw241_0; first | rwa [add_block] at this | exact this) GW245.out) | (rw [add_block]; exact Nat.ne_of_lt (Nat.lt_of_lt_of_le (by have := World.block_lt_of_cell? _ _ hw241_0; first | rwa [add_block] at this | exact this) GW245.out)) | (show (Addr.add _ _).block ≠ _; rw [add_block]; exact Nat.ne_of_lt (Nat.lt_of_lt_of_le (by have := World.block_lt_of_cell? _ _ hw241_0; first | rwa [add_block] at this | exact this) GW245.out)) | (dsimp only; exact Nat.ne_of_lt (Nat.lt_of_lt_of_le (by have := World.block_lt_of_cell? _ _ hw241_0; first | rwa [add_block] at this | exact this) GW245.out))) _).trans (((cell_far (p := ⟨gb245, _, none⟩) (by first | exact Nat.ne_of_lt (Nat.lt_of_lt_of_le (by have := World.block_lt_of_cell? _ _ hw241_0; first | rwa [add_block] at this | exact this) GW245.out) | (rw [add_block]; exact Nat.ne_of_lt (Nat.lt_of_lt_of_le (by have := World.block_lt_of_cell? _ _ hw241_0; first | rwa [add_block] at this | exact this) GW245.out)) | (show (Addr.add _ _).block ≠ _; rw [add_block]; exact Nat.ne_of_lt (Nat.lt_of_lt_of_le (by have := World.block_lt_of_cell? _ _ hw241_0; first | rwa [add_block] at this | exact this) GW245.out)) | (dsimp only; exact Nat.ne_of_lt (Nat.lt_of_lt_of_le (by have := World.block_lt_of_cell? _ _ hw241_0; first | rwa [add_block] at this | exact this) GW245.out))) _).trans (((cell_far (p := ⟨gb245, _, none⟩) (by first | exact Nat.ne_of_lt (Nat.lt_of_lt_of_le (by have := World.block_lt_of_cell? _ _ hw241_0; first | rwa [add_block] at this | exact this) GW245.out) | (rw [add_block]; exact Nat.ne_of_lt (Nat.lt_of_lt_of_le (by have := World.block_lt_of_cell? _ _ hw241_0; first | rwa [add_block] at this | exact this) GW245.out)) | (show (Addr.add _ _).block ≠ _; rw [add_block]; exact Nat.ne_of_lt (Nat.lt_of_lt_of_le (by have := World.block_lt_of_cell? _ _ hw241_0; first | rwa [add_block] at this | exact this) GW245.out)) | (dsimp only; exact Nat.ne_of_lt (Nat.lt_of_lt_of_le (by have := World.block_lt_of_cell? _ _ hw241_0; first | rwa [add_block] at this | exact this) GW245.out))) _).trans (((cell_far (p := ⟨gb245, _, none⟩) (by first | exact Nat.ne_of_lt (Nat.lt_of_lt_of_le (by have := World.block_lt_of_cell? _ _ hw241_0; first | rwa [add_block] at this | exact this) GW245.out) | (rw [add_block]; exact Nat.ne_of_lt (Nat.lt_of_lt_of_le (by have := World.block_lt_of_cell? _ _ hw241_0; first | rwa [add_block] at this | exact this) GW245.out)) | (show (Addr.add _ _).block ≠ _; rw [add_block]; exact Nat.ne_of_lt (Nat.lt_of_lt_of_le (by have := World.block_lt_of_cell? _ _ hw241_0; first | rwa [add_block] at this | exact this) GW245.out)) | (dsimp only; exact Nat.ne_of_lt (Nat.lt_of_lt_of_le (by have := World.block_lt_of_cell? _ _ hw241_0; first | rwa [add_block] at this | exact this) GW245.out))) _).trans (((cell_far (p := ⟨gb245, _, none⟩) (by first | exact Nat.ne_of_lt (Nat.lt_of_lt_of_le (by have := World.block_lt_of_cell? _ _ hw241_0; first | rwa [add_block] at this | exact this) GW245.out) | (rw [add_block]; exact Nat.ne_of_lt (Nat.lt_of_lt_of_le (by have := World.block_lt_of_cell? _ _ hw241_0; first | rwa [add_block] at this | exact this) GW245.out)) | (show (Addr.add _ _).block ≠ _; rw [add_block]; exact Nat.ne_of_lt (Nat.lt_of_lt_of_le (by have := World.block_lt_of_cell? _ _ hw241_0; first | rwa [add_block] at this | exact this) GW245.out)) | (dsimp only; exact Nat.ne_of_lt (Nat.lt_of_lt_of_le (by have := World.block_lt_of_cell? _ _ hw241_0; first | rwa [add_block] at this | exact this) GW245.out))) _).trans (((cell_far (p := ⟨gb245, _, none⟩) (by first | exact Nat.ne_of_lt (Nat.lt_of_lt_of_le (by have := World.block_lt_of_cell? _ _ hw241_0; first | rwa [add_block] at this | exact this) GW245.out) | (rw [add_block]; exact Nat.ne_of_lt (Nat.lt_of_lt_of_le (by have := World.block_lt_of_cell? _ _ hw241_0; first | rwa [add_block] at this | exact this) GW245.out)) | (show (Addr.add _ _).block ≠ _; rw [add_block]; exact Nat.ne_of_lt (Nat.lt_of_lt_of_le (by have := World.block_lt_of_cell? _ _ hw241_0; first | rwa [add_block] at this | exact this) GW245.out)) | (dsimp only; exact Nat.ne_of_lt (Nat.lt_of_lt_of_le (by have := World.block_lt_of_cell? _ _ hw241_0; first | rwa [add_block] at this | exact this) GW245.out))) _).trans (((cell_far (p := ⟨gb245, _, none⟩) (by first | exact Nat.ne_of_lt (Nat.lt_of_lt_of_le (by have := World.block_lt_of_cell? _ _ hw241_0; first | rwa [add_block] at this | exact this) GW245.out) | (rw [add_block]; exact Nat.ne_of_lt (Nat.lt_of_lt_of_le (by have := World.block_lt_of_cell? _ _ hw241_0; first | rwa [add_block] at this | exact this) GW245.out)) | (show (Addr.add _ _).block ≠ _; rw [add_block]; exact Nat.ne_of_lt (Nat.lt_of_lt_of_le (by have := World.block_lt_of_cell? _ _ hw241_0; first | rwa [add_block] at this | exact this) GW245.out)) | (dsimp only; exact Nat.ne_of_lt (Nat.lt_of_lt_of_le (by have := World.block_lt_of_cell? _ _ hw241_0; first | rwa [add_block] at this | exact this) GW245.out))) _).trans (((cell_far (p := ⟨gb245, _, none⟩) (by first | exact Nat.ne_of_lt (Nat.lt_of_lt_of_le (by have := World.block_lt_of_cell? _ _ hw241_0; first | rwa [add_block] at this | exact this) GW245.out) | (rw [add_block]; exact Nat.ne_of_lt (Nat.lt_of_lt_of_le (by have := World.block_lt_of_cell? _ _ hw241_0; first | rwa [add_block] at this | exact this) GW245.out)) | (show (Addr.add _ _).block ≠ _; rw [add_block]; exact Nat.ne_of_lt (Nat.lt_of_lt_of_le (by have := World.block_lt_of_cell? _ _ hw241_0; first | rwa [add_block] at this | exact this) GW245.out)) | (dsimp only; exact Nat.ne_of_lt (Nat.lt_of_lt_of_le (by have := World.block_lt_of_cell? _ _ hw241_0; first | rwa [add_block] at this | exact this) GW245.out))) _).trans (((cell_far (p := ⟨gb245, _, none⟩) (by first | exact Nat.ne_of_lt (Nat.lt_of_lt_of_le (by have := World.block_lt_of_cell? _ _ hw241_0; first | rwa [add_block] at this | exact this) GW245.out) | (rw [add_block]; exact Nat.ne_of_lt (Nat.lt_of_lt_of_le (by have := World.block_lt_of_cell? _ _ hw241_0; first | rwa [add_block] at this | exact this) GW245.out)) | (show (Addr.add _ _).block ≠ _; rw [add_block]; exact Nat.ne_of_lt (Nat.lt_of_lt_of_le (by have := World.block_lt_of_cell? _ _ hw241_0; first | rwa [add_block] at this | exact this) GW245.out)) | (dsimp only; exact Nat.ne_of_lt (Nat.lt_of_lt_of_le (by have := World.block_lt_of_cell? _ _ hw241_0; first | rwa [add_block] at this | exact this) GW245.out))) _).trans (hHeld.2.1)))))))))))))))))))))), ((cell_far (p := ⟨gb245, _, none⟩) (by first | exact Nat.ne_of_lt (Nat.lt_of_lt_of_le (by have := World.block_lt_of_cell? _ _ hw244_0; first | rwa [add_block] at this | exact this) GW245.out) | (rw [add_block]; exact Nat.ne_of_lt (Nat.lt_of_lt_of_le (by have := World.block_lt_of_cell? _ _ hw244_0; first | rwa [add_block] at this | exact this) GW245.out)) | (show (Addr.add _ _).block ≠ _; rw [add_block]; exact Nat.ne_of_lt (Nat.lt_of_lt_of_le (by have := World.block_lt_of_cell? _ _ hw244_0; first | rwa [add_block] at this | exact this) GW245.out)) | (dsimp only; exact Nat.ne_of_lt (Nat.lt_of_lt_of_le (by have := World.block_lt_of_cell? _ _ hw244_0; first | rwa [add_block] at this | exact this) GW245.out))) _).trans (((cell_far (p := ⟨gb245, _, none⟩) (by first | exact Nat.ne_of_lt (Nat.lt_of_lt_of_le (by have := World.block_lt_of_cell? _ _ hw244_0; first | rwa [add_block] at this | exact this) GW245.out) | (rw [add_block]; exact Nat.ne_of_lt (Nat.lt_of_lt_of_le (by have := World.block_lt_of_cell? _ _ hw244_0; first | rwa [add_block] at this | exact this) GW245.out)) | (show (Addr.add _ _).block ≠ _; rw [add_block]; exact Nat.ne_of_lt (Nat.lt_of_lt_of_le (by have := World.block_lt_of_cell? _ _ hw244_0; first | rwa [add_block] at this | exact this) GW245.out)) | (dsimp only; exact Nat.ne_of_lt (Nat.lt_of_lt_of_le (by have := World.block_lt_of_cell? _ _ hw244_0; first | rwa [add_block] at this | exact this) GW245.out))) _).trans (((cell_far (p := ⟨gb245, _, none⟩) (by first | exact Nat.ne_of_lt (Nat.lt_of_lt_of_le (by have := World.block_lt_of_cell? _ _ hw244_0; first | rwa [add_block] at this | exact this) GW245.out) | (rw [add_block]; exact Nat.ne_of_lt (Nat.lt_of_lt_of_le (by have := World.block_lt_of_cell? _ _ hw244_0; first | rwa [add_block] at this | exact this) GW245.out)) | (show (Addr.add _ _).block ≠ _; rw [add_block]; exact Nat.ne_of_lt (Nat.lt_of_lt_of_le (by have := World.block_lt_of_cell? _ _ hw244_0; first | rwa [add_block] at this | exact this) GW245.out)) | (dsimp only; exact Nat.ne_of_lt (Nat.lt_of_lt_of_le (by have := World.block_lt_of_cell? _ _ hw244_0; first | rwa [add_block] at this | exact this) GW245.out))) _).trans (((cell_far (p := ⟨gb245, _, none⟩) (by first | exact Nat.ne_of_lt (Nat.lt_of_lt_of_le (by have := World.block_lt_of_cell? _ _ hw244_0; first | rwa [add_block] at this | exact this) GW245.out) | (rw [add_block]; exact Nat.ne_of_lt (Nat.lt_of_lt_of_le (by have := World.block_lt_of_cell? _ _ hw244_0; first | rwa [add_block] at this | exact this) GW245.out)) | (show (Addr.add _ _).block ≠ _; rw [add_block]; exact Nat.ne_of_lt (Nat.lt_of_lt_of_le (by have := World.block_lt_of_cell? _ _ hw244_0; first | rwa [add_block] at this | exact this) GW245.out)) | (dsimp only; exact Nat.ne_of_lt (Nat.lt_of_lt_of_le (by have := World.block_lt_of_cell? _ _ hw244_0; first | rwa [add_block] at this | exact this) GW245.out))) _).trans (((cell_far (p := ⟨gb245, _, none⟩) (by first | exact Nat.ne_of_lt (Nat.lt_of_lt_of_le (by have := World.block_lt_of_cell? _ _ hw244_0; first | rwa [add_block] at this | exact this) GW245.out) | (rw [add_block]; exact Nat.ne_of_lt (Nat.lt_of_lt_of_le (by have := World.block_lt_of_cell? _ _ hw244_0; first | rwa [add_block] at this | exact this) GW245.out)) | (show (Addr.add _ _).block ≠ _; rw [add_block]; exact Nat.ne_of_lt (Nat.lt_of_lt_of_le (by have := World.block_lt_of_cell? _ _ hw244_0; first | rwa [add_block] at this | exact this) GW245.out)) | (dsimp only; exact Nat.ne_of_lt (Nat.lt_of_lt_of_le (by have := World.block_lt_of_cell? _ _ hw244_0; first | rwa [add_block] at this | exact this) GW245.out))) _).trans (((cell_far (p := ⟨gb245, _, none⟩) (by first | exact Nat.ne_of_lt (Nat.lt_of_lt_of_le (by have := World.block_lt_of_cell? _ _ hw244_0; first | rwa [add_block] at this | exact this) GW245.out) | (rw [add_block]; exact Nat.ne_of_lt (Nat.lt_of_lt_of_le (by have := World.block_lt_of_cell? _ _ hw244_0; first | rwa [add_block] at this | exact this) GW245.out)) | (show (Addr.add _ _).block ≠ _; rw [add_block]; exact Nat.ne_of_lt (Nat.lt_of_lt_of_le (by have := World.block_lt_of_cell? _ _ hw244_0; first | rwa [add_block] at this | exact this) GW245.out)) | (dsimp only; exact Nat.ne_of_lt (Nat.lt_of_lt_of_le (by have := World.block_lt_of_cell? _ _ hw244_0; first | rwa [add_block] at this | exact this) GW245.out))) _).trans (((cell_far (p := ⟨gb245, _, none⟩) (by first | exact Nat.ne_of_lt (Nat.lt_of_lt_of_le (by have := World.block_lt_of_cell? _ _ hw244_0; first | rwa [add_block] at this | exact this) GW245.out) | (rw [add_block]; exact Nat.ne_of_lt (Nat.lt_of_lt_of_le (by have := World.block_lt_of_cell? _ _ hw244_0; first | rwa [add_block] at this | exact this) GW245.out)) | (show (Addr.add _ _).block ≠ _; rw [add_block]; exact Nat.ne_of_lt (Nat.lt_of_lt_of_le (by have := World.block_lt_of_cell? _ _ hw244_0; first | rwa [add_block] at this | exact this) GW245.out)) | (dsimp only; exact Nat.ne_of_lt (Nat.lt_of_lt_of_le (by have := World.block_lt_of_cell? _ _ hw244_0; first | rwa [add_block] at this | exact this) GW245.out))) _).trans (((cell_far (p := ⟨gb245, _, none⟩) (by first | exact Nat.ne_of_lt (Nat.lt_of_lt_of_le (by have := World.block_lt_of_cell? _ _ hw244_0; first | rwa [add_block] at this | exact this) GW245.out) | (rw [add_block]; exact Nat.ne_of_lt (Nat.lt_of_lt_of_le (by have := World.block_lt_of_cell? _ _ hw244_0; first | rwa [add_block] at this | exact this) GW245.out)) | (show (Addr.add _ _).block ≠ _; rw [add_block]; exact Nat.ne_of_lt (Nat.lt_of_lt_of_le (by have := World.block_lt_of_cell? _ _ hw244_0; first | rwa [add_block] at this | exact this) GW245.out)) | (dsimp only; exact Nat.ne_of_lt (Nat.lt_of_lt_of_le (by have := World.block_lt_of_cell? _ _ hw244_0; first | rwa [add_block] at this | exact this) GW245.out))) _).trans (((cell_far (p := ⟨gb245, _, none⟩) (by first | exact Nat.ne_of_lt (Nat.lt_of_lt_of_le (by have := World.block_lt_of_cell? _ _ hw244_0; first | rwa [add_block] at this | exact this) GW245.out) | (rw [add_block]; exact Nat.ne_of_lt (Nat.lt_of_lt_of_le (by have := World.block_lt_of_cell? _ _ hw244_0; first | rwa [add_block] at this | exact this) GW245.out)) | (show (Addr.add _ _).block ≠ _; rw [add_block]; exact Nat.ne_of_lt (Nat.lt_of_lt_of_le (by have := World.block_lt_of_cell? _ _ hw244_0; first | rwa [add_block] at this | exact this) GW245.out)) | (dsimp only; exact Nat.ne_of_lt (Nat.lt_of_lt_of_le (by have := World.block_lt_of_cell? _ _ hw244_0; first | rwa [add_block] at this | exact this) GW245.out))) _).trans (((cell_far (p := ⟨gb245, _, none⟩) (by first | exact Nat.ne_of_lt (Nat.lt_of_lt_of_le (by have := World.block_lt_of_cell? _ _ hw244_0; first | rwa [add_block] at this | exact this) GW245.out) | (rw [add_block]; exact Nat.ne_of_lt (Nat.lt_of_lt_of_le (by have := World.block_lt_of_cell? _ _ hw244_0; first | rwa [add_block] at this | exact this) GW245.out)) | (show (Addr.add _ _).block ≠ _; rw [add_block]; exact Nat.ne_of_lt (Nat.lt_of_lt_of_le (by have := World.block_lt_of_cell? _ _ hw244_0; first | rwa [add_block] at this | exact this) GW245.out)) | (dsimp only; exact Nat.ne_of_lt (Nat.lt_of_lt_of_le (by have := World.block_lt_of_cell? _ _ hw244_0; first | rwa [add_block] at this | exact this) GW245.out))) _).trans (((cell_far (p := ⟨gb245, _, none⟩) (by first | exact Nat.ne_of_lt (Nat.lt_of_lt_of_le (by have := World.block_lt_of_cell? _ _ hw244_0; first | rwa [add_block] at this | exact this) GW245.out) | (rw [add_block]; exact Nat.ne_of_lt (Nat.lt_of_lt_of_le (by have := World.block_lt_of_cell? _ _ hw244_0; first | rwa [add_block] at this | exact this) GW245.out)) | (show (Addr.add _ _).block ≠ _; rw [add_block]; exact Nat.ne_of_lt (Nat.lt_of_lt_of_le (by have := World.block_lt_of_cell? _ _ hw244_0; first | rwa [add_block] at this | exact this) GW245.out)) | (dsimp only; exact Nat.ne_of_lt (Nat.lt_of_lt_of_le (by have := World.block_lt_of_cell? _ _ hw244_0; first | rwa [add_block] at this | exact this) GW245.out))) _).trans (hHeld.2.2))))))))))))))))))))))⟩ (fun hHeld => ?_)
         clear hK K
         refine done_ (done_of HT_.out (by kernel_rfl)) ?_
         obtain ⟨w31, h_w31⟩ : ∃ w_, (((((((((((w19.setCell ⟨gb245, 0, none⟩ (.int .i64 (wrap64 (rd l0 0)))).setCell ⟨gb245, 1, none⟩ (.int .i64 (wrap64 (rd l0 1)))).setCell ⟨gb245, 2, none⟩ (.int .i64 t242)).setCell ⟨gb245, 3, none⟩ (.int .i64 t243)).setCell ⟨gb245, 4, none⟩ (.int .i64 (wrap64 (rd l0 6)))).setCell ⟨gb245, 5, none⟩ (.bool ((Go.bits .and .u8 (rd l0 7) 1) != 0))).setCell ⟨gb245, 6, none⟩ (.bool ((Go.bits .and .u8 (rd l0 7) 2) != 0))).setCell ⟨gb245, 7, none⟩ (.bool ((Go.bits .and .u8 (rd l0 7) 4) != 0))).setCell ⟨gb245, 8, none⟩ (.bool ((Go.bits .and .u8 (rd l0 7) 8) != 0))).setCell ⟨gb245, 9, none⟩ (.slice none 0 0)).setCell ⟨gb245, 10, none⟩ (.slice none 0 0)) = w_ := ⟨_, rfl⟩
         have n0_ : Aside0 (w31.heap[gb237]? = some (.cells #[.int .i64 0, .int .i64 0, .int .i64 0, .int .i64 0, .int .i64 0, .bool false, .bool false, .bool false, .bool false, .slice none 0 0, .slice none 0 0] 52 (0, 0))) := ⟨by subst h_w31; exact kf_ BK237.out⟩
         have n1_ : Aside0 (w31.heap[gb245]? = some (.cells #[.int .i64 (wrap64 (rd l0 0)), .int .i64 (wrap64 (rd l0 1)), .int .i64 t242, .int .i64 t243, .int .i64 (wrap64 (rd l0 6)), .bool ((Go.bits .and .u8 (rd l0 7) 1) != 0), .bool ((Go.bits .and .u8 (rd l0 7) 2) != 0), .bool ((Go.bits .and .u8 (rd l0 7) 4) != 0), .bool ((Go.bits .and .u8 (rd l0 7) 8) != 0), .slice none 0 0, .slice none 0 0] 52 (0, 0))) := ⟨by subst h_w31; refine kb_ ?_; refine pz11 (cs := #[.int .i64 0, .int .i64 0, .int .i64 0, .int .i64 0, .int .i64 0, .bool false, .bool false, .bool false, .bool false, .slice none 0 0, .slice none 0 0]) ?_; refine kb_ ?_; exact BK245.out⟩
         have n2_ : Aside0 (Below w.heap.size w w31) := ⟨by subst h_w31; exact hbA_ HB.out⟩
         (try clear BK237); (try clear BK245); (try clear HB)
         (try rw [h_w31]); clear h_w31
         have BK237 := n0_; have BK245 := n1_; have HB := n2_; clear n0_ n1_ n2_
         have p246 : 0 ≤ (8 : Int) := (by omega)
         have q246 : 8 < (l0.length : Int) := of_decide_eq_true (by first | (with_reducible assumption) | assumption)
         obtain ⟨ad246, e246, hx246_0⟩ := Kd.at_int HR0.out 8 p246 q246
         obtain rfl : ad239 = ad246 := (by injection e246)
         (try simp only [show (8 : Int).toNat = 8 from rfl, Nat.reduceMul, Nat.reduceEqDiff, Go.Addr.add, ↓reduceIte] at hx246_0)
         have qi246 : (8 < l0.length) = True := eq_true (by omega)
         (try rw [show ((8 : Int)).toNat = 8 from rfl] at hx246_0)
         replace hx246_0 := cc_ HB hx246_0
         replace p246 := eq_true p246
         replace q246 := eq_true q246
         try go_wp2
         go_loopg [10, 62] kj3 (fun kq v10 v62 w' => ∃ (x10_2 : Int) (x62_2 : Int) (x246009_2 : List (S90)) (u246009 : Value), v10 = .int .i64 x10_2 ∧ v62 = .int .i64 x62_2 ∧ Aside0 (impl_SegmentFrom.l0 kq l0 a1 a2 x10_2 (wrap64 (rd l0 8)) x62_2 (wrap64 (rd l0 0)) (wrap64 (rd l0 1)) t242 t243 (wrap64 (rd l0 6)) ((Go.bits .and .u8 (rd l0 7) 1) != 0) ((Go.bits .and .u8 (rd l0 7) 2) != 0) ((Go.bits .and .u8 (rd l0 7) 4) != 0) ((Go.bits .and .u8 (rd l0 7) 8) != 0) x246009_2 = some (r1, r2, r3, r4, r5, r6, r7, r8, r9, r10, r11, r12)) ∧ Aside0 (kq ≤ kj3) ∧ Aside0 (Kd.R k90 90 w' w.heap.size (fun _ => True) u246009 x246009_2) ∧ Aside0 (w'.heap[gb237]? = some (.cells #[.int .i64 0, .int .i64 0, .int .i64 0, .int .i64 0, .int .i64 0, .bool false, .bool false, .bool false, .bool false, (.slice none 0 0), (.slice none 0 0)] 52 (0, 0))) ∧ Aside0 (w'.heap[gb245]? = some (.cells #[.int .i64 (wrap64 (rd l0 0)), .int .i64 (wrap64 (rd l0 1)), .int .i64 t242, .int .i64 t243, .int .i64 (wrap64 (rd l0 6)), .bool ((Go.bits .and .u8 (rd l0 7) 1) != 0), .bool ((Go.bits .and .u8 (rd l0 7) 2) != 0), .bool ((Go.bits .and .u8 (rd l0 7) 4) != 0), .bool ((Go.bits .and .u8 (rd l0 7) 8) != 0), u246009, (.slice none 0 0)] 52 (0, 0))) ∧ Aside0 (Below w.heap.size w w'))
         case atStart => exact ⟨(9), (0), (([] : List (S90))), (.slice none 0 0), (by first | rfl | (simp; done) | (simp [*]; done)), (by first | rfl | (simp; done) | (simp [*]; done)), H', ⟨Nat.le_refl _⟩, ⟨by first | exact Kd.R_nil _ _ _ _ _ | exact Kd.N_nil _ _ _ _ _ | exact Kd.V_nil _ _ _ _ _ | exact Kd.Q_nil _ _ _ _ _ | exact Kd.S_nil _ _ _ _ _⟩, ⟨by refine kb_ ?_; exact BK237.out⟩, ⟨by refine kb_ ?_; exact BK245.out⟩, ⟨hbA_ HB.out⟩⟩
         case round =>
          clear H'; (try clear c1); (try clear p2); (try clear q2); (try clear hx2); (try clear qi2); (try clear c6); (try clear p6); (try clear c8); (try clear c10); (try clear c10b0); (try clear c10b1); (try clear c11); (try clear c11b0); (try clear c11b1); (try clear c12); (try clear c12b0); (try clear c12b1); (try clear c15); (try clear c15b0); (try clear c15b1); (try clear c16); (try clear c16b0); (try clear c16b1); (try clear p23); (try clear q23); (try clear hx23); (try clear qi23); (try clear p24); (try clear q24); (try clear hx24); (try clear qi24); (try clear hx239_0); (try clear hx240_0); (try clear hx241_0); (try clear hx244_0); (try clear hx246_0); (try clear p239); (try clear p240); (try clear p241); (try clear p244); (try clear p246); (try clear q239); (try clear q240); (try clear q241); (try clear q244); (try clear q246)
          obtain ⟨x10_2, x62_2, x246009_2, u246009, rfl, rfl, HA, HK2, HO_246009, BK237, BK245, HB⟩ := hrel
          cases gk with
          | zero => exact absurd HA.out (by simp [impl_SegmentFrom.l0])
          | succ k2 =>
           have H := HA.out; clear HA
           simp only [impl_SegmentFrom.l0] at H
           by_cases c32 : x62_2 < (wrap64 (rd l0 8))
           ·rw [if_pos c32] at H
            have c32b0 : decide (x62_2 < (wrap64 (rd l0 8))) = true := decide_eq_true c32
            clear c32
            replace H := Option.bind_eq_some_iff.mp H
            obtain ⟨t247, A330, H⟩ := H
            (try dsimp only at H)
            have A33 := Aside0.mk A330; clear A330
            replace H := Option.bind_eq_some_iff.mp H
            obtain ⟨t248, A340, H⟩ := H
            (try dsimp only at H)
            have A34 := Aside0.mk A340; clear A340
            by_cases c35 : x246009_2.length < 8796093022208
            ·rw [if_pos c35] at H
             have LMc35 := Aside0.mk c35; clear c35
             obtain ⟨y249, hy249⟩ : ∃ y_ : List (S90), y_ = (x246009_2 ++ [(⟨t247, t248⟩ : S90)]) := ⟨_, rfl⟩
             (first | replace H := sb_ hy249 H | rw [← hy249] at H)
             have Ny249 := Aside0.mk hy249; clear hy249
             have H' := Aside0.mk H
             clear H
             try go_wp2
             replace HO_246009 := Aside0.mk (Kd.R_drew HO_246009.out); replace BK237 := Aside0.mk (blk_drew BK237.out); replace BK245 := Aside0.mk (blk_drew BK245.out); replace HB := (bd_ HB)
             refine start_ (n := 14) (S := fun w' => w'.cell? ⟨gb245, 0, none⟩ = some (.int .i64 (wrap64 (rd l0 0))) ∧ w'.cell? ⟨gb245, 1, none⟩ = some (.int .i64 (wrap64 (rd l0 1))) ∧ w'.cell? ⟨gb245, 2, none⟩ = some (.int .i64 t242) ∧ w'.cell? ⟨gb245, 3, none⟩ = some (.int .i64 t243) ∧ w'.cell? ⟨gb245, 4, none⟩ = some (.int .i64 (wrap64 (rd l0 6))) ∧ w'.cell? ⟨gb245, 5, none⟩ = some (.bool ((Go.bits .and .u8 (rd l0 7) 1) != 0)) ∧ w'.cell? ⟨gb245, 6, none⟩ = some (.bool ((Go.bits .and .u8 (rd l0 7) 2) != 0)) ∧ w'.cell? ⟨gb245, 7, none⟩ = some (.bool ((Go.bits .and .u8 (rd l0 7) 4) != 0)) ∧ w'.cell? ⟨gb245, 8, none⟩ = some (.bool ((Go.bits .and .u8 (rd l0 7) 8) != 0)) ∧ w'.cell? ⟨gb245, 9, none⟩ = some (u246009) ∧ w'.cell? ⟨gb245, 10, none⟩ = some (.slice none 0 0)) (ds := [13]) #[false, false, false, false, false, false, false, false, false, false, false, false, false, false] (by kernel_rfl) rfl rfl (cz11 BK245.out) (fun hHeld => ?_); refine with_tabW impl_SegmentFrom.tab8 impl_SegmentFrom.bits8 (fun HT_ HW_ => ?_)
             generalize wr.drew = w36 at HO_246009 BK237 BK245 HB hHeld ⊢
             refine pu_ (i := 0) (N := some 64) HT_ ?_; refine pu_ (i := 2) (N := some 66) HT_ ?_; refine pu_ (i := 3) (N := some 67) HT_ ?_; refine pu_ (i := 5) (N := some 69) HT_ ?_; refine pu_ (i := 6) (N := some 70) HT_ ?_; refine pu_ (i := 7) (N := some 71) HT_ ?_; refine tk_ (i := 1) (N := some 65) HT_ HW_ hHeld ?_
             refine on_ (i := 4) (N := some 68) HT_ (fun K hK => ?_)
             refine goes_ Try.func61 (by kernel_rfl) rfl #[.slice (some ad239) l0.length c0, .int .i64 x10_2, .int .i64 2] (by rfl) rfl rfl ar_ ?_
             with_reducible refine (impl_NumberAt.calls k2 _ _ l0 x10_2 2 t247 _ ?side1 ?side2 A33.out).mono ?_
             (case side1 => exact kC_ (Kd.C_below HR0.out HB.out))
             (case side2 => exact HC0.out)
             rintro e w' ⟨rfl, ⟨nd, rfl⟩⟩
             refine ⟨_, rfl, ?_⟩
             refine hK.out _ _ (cz11 BK245.out) (fun hHeld => ?_)
             clear hK K; refine nm_ 68 ?_
             refine on_ (i := 8) (N := some 72) HT_ (fun K hK => ?_)
             refine goes_ Try.func61 (by kernel_rfl) rfl #[.slice (some ad239) l0.length c0, .int .i64 (wrap64 (x10_2 + 2)), .int .i64 2] (by rfl) rfl rfl ar_ ?_
             with_reducible refine (impl_NumberAt.calls k2 _ _ l0 (wrap64 (x10_2 + 2)) 2 t248 _ ?side1 ?side2 A34.out).mono ?_
             (case side1 => exact kC_ (Kd.C_below HR0.out (hbA_ HB.out)))
             (case side2 => exact HC0.out)
             rintro e w' ⟨rfl, ⟨nd, rfl⟩⟩
             refine ⟨_, rfl, ?_⟩
             refine hK.out _ _ (cz11 BK245.out) (fun hHeld => ?_)
             clear hK K; refine nm_ 72 ?_; refine pu_ (i := 9) (N := some 73) HT_ ?_
             refine on_ (i := 10) (N := some 74) HT_ (fun K hK => ?_)
             refine value_ (w1 := ?_) (v := ?_) (by rfl) rfl ?_ ?_
             rotate_left 2
             ·go_simp
              constructor
              ·rfl
              ·rfl
             refine hK.out _ _ ⟨(blk_cell (blk_alloc BK245.out _) 0).trans rfl, (blk_cell (blk_alloc BK245.out _) 1).trans rfl, (blk_cell (blk_alloc BK245.out _) 2).trans rfl, (blk_cell (blk_alloc BK245.out _) 3).trans rfl, (blk_cell (blk_alloc BK245.out _) 4).trans rfl, (blk_cell (blk_alloc BK245.out _) 5).trans rfl, (blk_cell (blk_alloc BK245.out _) 6).trans rfl, (blk_cell (blk_alloc BK245.out _) 7).trans rfl, (blk_cell (blk_alloc BK245.out _) 8).trans rfl, (blk_cell (blk_alloc BK245.out _) 9).trans rfl, (blk_cell (blk_alloc BK245.out _) 10).trans rfl⟩ (fun hHeld => ?_)
             clear hK K; refine nm_ 74 ?_
             refine on_ (i := 11) (N := some 75) HT_ (fun K hK => ?_)
             refine Kd.R_append_step k90 (w0 := w) w.heap.size (by rfl) (.tmp 65) (.tmp 74) 50 90 (.agg #[(.int .i64 0), (.int .i64 0)]) 16 rfl Try.underlying50 info90 rfl (by decide) (by omega) u246009 x246009_2 (⟨t247, t248⟩ : S90) [.int .i64 t247, .int .i64 t248] (fun _ => True) (fun _ => False) rfl rfl ?aP (fun _ hk => hk.elim) ?aF ?aO ?aB ?aS ?aL ?_
             (case aP => exact k90_mkM _ _ _ (⟨t247, t248⟩ : S90))
             (case aB => exact (hbA_ HB.out))
             (case aF => exact (fun _ _ => trivial))
             (case aO => exact (kR_ HO_246009.out))
             (case aS => exact (below_size (hbA_ HB.out)))
             (case aL => have := LMc35.out; omega)
             intro v250 w37 ho hb hg hat
             rw [← Ny249.out] at ho
             have n0_ := (bgA_ BK237 hg (Kd.R_ne HO_246009.out BK237.out (by decide))); have n1_ := (bgA_ BK245 hg (Kd.R_ne HO_246009.out BK245.out (by decide))); have n2_ := Aside0.mk (hb); have n3_ := Aside0.mk (ho); clear BK237 BK245 HB HO_246009; have BK237 := n0_; have BK245 := n1_; have HB := n2_; have HO251 := n3_; clear n0_ n1_ n2_ n3_ ho hb hg hat
             obtain ⟨Ao38, co38, eo38⟩ := Kd.R_slice HO251.out
             (first | subst eo38 | (injection eo38 with f1_ f2_ f3_; have f4_ := f1_.symm; have f5_ := f3_.symm; clear f1_ f2_ f3_; subst f4_; subst f5_))
             refine hK.out _ _ (cz11 BK245.out) (fun hHeld => ?_)
             clear hK K; refine nm_ 75 ?_; refine pu_ (i := 12) (N := some 76) HT_ ?_
             refine last_ (i := 13) (N := none) #[true, true, true, true, true, true, true, true, true, true, true, true, true, true] rfl rfl (one_of HT_.out (by kernel_rfl)) (by decide) (fun K hK => ?_)
             have hs39 : w37.cell? ⟨gb245, 9, none⟩ = some (u246009) := bc_ BK245 9
             have hfs39 := blk_frozen BK245.out 9
             have hns39_0 := NB237_245.out; have hms39_0 := NB245_237.out
             refine skip_ (w1 := ?_) (by rfl) rfl ?_ ?_
             rotate_left
             ·go_simp
              rfl
             refine hK.out _ _ ?_
             clear hK K
             refine done_ (done_of HT_.out (by kernel_rfl)) ?_
             try go_wp2
             go_roundg k2
             case measure => have := HJ3.out; have := HK2.out; omega
             case rel => exact ⟨(wrap64 (x10_2 + 4)), (wrap64 (x62_2 + 1)), (y249), (.slice Ao38 y249.length co38), (by first | rfl | (simp; done) | (simp [*]; done)), (by first | rfl | (simp; done) | (simp [*]; done)), H', ⟨by have := HJ3.out; have := HK2.out; omega⟩, ⟨by refine kR_ ?_; exact Kd.R_mono (Kd.R_f gb245 9 (.slice Ao38 y249.length co38) (Kd.R_types HO251.out BK245.out (by decide))) (fun _ hk => trivial)⟩, ⟨by exact kf_ BK237.out⟩, ⟨by refine kb_ ?_; refine blk_put (cs := #[.int .i64 (wrap64 (rd l0 0)), .int .i64 (wrap64 (rd l0 1)), .int .i64 t242, .int .i64 t243, .int .i64 (wrap64 (rd l0 6)), .bool ((Go.bits .and .u8 (rd l0 7) 1) != 0), .bool ((Go.bits .and .u8 (rd l0 7) 2) != 0), .bool ((Go.bits .and .u8 (rd l0 7) 4) != 0), .bool ((Go.bits .and .u8 (rd l0 7) 8) != 0), u246009, .slice none 0 0]) ?_ 9 _ rfl; refine kb_ ?_; exact BK245.out⟩, ⟨hbA_ HB.out⟩⟩
            ·rw [if_neg c35] at H
             exact absurd H (by simp)
           ·rw [if_neg c32] at H
            have c32b0 : decide (x62_2 < (wrap64 (rd l0 8))) = false := decide_eq_false c32
            clear c32
            obtain ⟨ji40, hji40⟩ : ∃ j_ : Int, (wrap64 (x10_2 + 1)) = j_ := ⟨_, rfl⟩
            (first | rw [hji40] at H | simp only [hji40] at H)
            have hji40w : (IntKind.i64.wrap (x10_2 + 1)) = ji40 := (i64_w _).trans hji40
            by_cases c41 : 0 ≤ (ji40)
            ·rw [if_pos c41] at H
             have c41b0 := eq_true c41
             have c41b1 : decide (0 ≤ (ji40)) = true := decide_eq_true c41
             clear c41
             by_cases c42 : (ji40) ≤ (wrap64 ((l0.length : Int) - 2))
             ·rw [if_pos c42] at H
              have c42b0 := eq_true c42
              have c42b1 : decide ((ji40) ≤ (wrap64 ((l0.length : Int) - 2))) = true := decide_eq_true c42
              clear c42
              by_cases c43 : (wrap64 ((l0.length : Int) - 2)) ≤ (l0.length : Int)
              ·rw [if_pos c43] at H
               have c43b0 := eq_true c43
               have c43b1 : decide ((wrap64 ((l0.length : Int) - 2)) ≤ (l0.length : Int)) = true := decide_eq_true c43
               clear c43
               replace H := Option.bind_eq_some_iff.mp H
               obtain ⟨t253, A440, H⟩ := H
               (try dsimp only at H)
               have A44 := Aside0.mk A440; clear A440
               replace H := Option.bind_eq_some_iff.mp H
               obtain ⟨t256, A450, H⟩ := H
               (try dsimp only at H)
               have A45 := Aside0.mk A450; clear A450
               by_cases c46 : t256 = true
               ·subst c46
                rw [if_pos rfl] at H
                replace H := Option.bind_eq_some_iff.mp H
                obtain ⟨⟨t257, t258, t259, t260, t261, t262, t263, t264, t265, t266, t269⟩, A470, H⟩ := H
                (try dsimp only at H)
                have A47 := Aside0.mk A470; clear A470
                simp only [Option.some.injEq, Prod.mk.injEq] at H
                obtain ⟨rfl, rfl, rfl, rfl, rfl, rfl, rfl, rfl, rfl, rfl, rfl, rfl⟩ := H
                obtain ⟨i048, hi048, _, hsz48, _⟩ := info_parts info5
                obtain ⟨A48, hcut48, hA48, hC48⟩ := print_mid_of (P := Try.prog) (Value.int .u8) 0 22 5 .i64 .i64 Try.underlying22 hi048 hsz48 (some ad239) c0 l0 (ji40) (wrap64 ((l0.length : Int) - 2)) (of_decide_eq_true (by first | (with_reducible assumption) | assumption)) (by first | omega | exact of_decide_eq_true (by first | (with_reducible assumption) | assumption)) (of_decide_eq_true (by first | (with_reducible assumption) | assumption)) HC0.out
                have HR252 := Aside0.mk (Kd.C_of_reads (h1 := fun _ => rfl) (hA48 _ (Kd.reads_of_C HR0.out)))
                have HC252 := Aside0.mk hC48; clear hA48 hC48 hi048 hsz48; generalize hcx48 : ((l0.take ((wrap64 ((l0.length : Int) - 2)) : Int).toNat).drop ((ji40) : Int).toNat) = cx48 at *; clear hcx48; have hnb49 := NB245_237.out; have hnc49 := NB237_245.out; have Z50 := zz11 BK245
                obtain ⟨Ao51, co51, eo51⟩ := Kd.R_slice HO_246009.out
                subst eo51
                go_wp2_with (first | ((with_reducible refine gate_callee (f := 36) rfl ?_); refine goesL_ (some 91) rfl rfl Try.func36 (by kernel_rfl) rfl #[.agg #[.int .i64 (wrap64 (rd l0 0)), .int .i64 (wrap64 (rd l0 1)), .int .i64 t242, .int .i64 t243, .int .i64 (wrap64 (rd l0 6)), .bool ((Go.bits .and .u8 (rd l0 7) 1) != 0), .bool ((Go.bits .and .u8 (rd l0 7) 2) != 0), .bool ((Go.bits .and .u8 (rd l0 7) 4) != 0), .bool ((Go.bits .and .u8 (rd l0 7) 8) != 0), .slice Ao51 x246009_2.length co51, .slice A48 cx48.length (c0 - (ji40).toNat)], .int .i64 a1, .int .i64 a2] rfl (by (try simp only [List.map_toArray, List.map_cons, List.map_nil]); first | done | (rw [show cx48.length = ((wrap64 ((l0.length : Int) - 2)).toNat - (ji40).toNat) from (by rw [List.length_drop, List.length_take]; have h_ : ((wrap64 ((l0.length : Int) - 2)) : Int) ≤ (l0.length : Int) := of_decide_eq_true (by first | (with_reducible assumption) | assumption); omega)] <;> rfl) | (simp only [hji40]; rfl) | rfl | (simp only [List.length_drop, List.length_take]; rfl)) ?_; (with_reducible refine (impl_SegmentBytes.calls k2 (wrap64 (rd l0 0)) (wrap64 (rd l0 1)) t242 t243 (wrap64 (rd l0 6)) ((Go.bits .and .u8 (rd l0 7) 1) != 0) ((Go.bits .and .u8 (rd l0 7) 2) != 0) ((Go.bits .and .u8 (rd l0 7) 4) != 0) ((Go.bits .and .u8 (rd l0 7) 8) != 0) _ _ x246009_2 _ _ cx48 a1 a2 t253 _ ?side1 ?side2 ?side3 ?side4 A44.out).mono ?_); (case side1 => refine (Kd.R_reads' (e := 90) (base := w.heap.size) (ok := fun k_ => True) (n := x246009_2.length) (c := co51) ?_).2.2; exact (by refine kR_ ?_; exact (Kd.R_mono (Kd.R_f gb245 10 _ (Kd.R_types HO_246009.out BK245.out (by decide))) (fun _ h_ => op1_ h_)))); (case side2 => exact (Kd.R_reads' HO_246009.out).2.1); (case side3 => exact Kd.C_below HR252.out (hbA_ HB.out)); (case side4 => exact HC252.out); rintro e w52 ⟨v254, rfl, ho0, hb⟩; refine ⟨_, rfl, ?_⟩; replace HO_246009 := Aside0.mk (Kd.R_below (by refine kR_ ?_; exact (Kd.R_mono (Kd.R_f gb245 10 _ (Kd.R_types HO_246009.out BK245.out (by decide))) (fun _ h_ => op1_ h_))) hb); have HO255 := Aside0.mk (Kd.R_lower ho0 (below_size (hbA_ HB.out))); replace BK237 := Aside0.mk (blk_below (g := gb237) (o := .cells #[.int .i64 0, .int .i64 0, .int .i64 0, .int .i64 0, .int .i64 0, .bool false, .bool false, .bool false, .bool false, .slice none 0 0, .slice none 0 0] 52 (0, 0)) (by exact kf_ BK237.out) hb); replace BK245 := Aside0.mk (blk_below (g := gb245) (o := .cells #[.int .i64 (wrap64 (rd l0 0)), .int .i64 (wrap64 (rd l0 1)), .int .i64 t242, .int .i64 t243, .int .i64 (wrap64 (rd l0 6)), .bool ((Go.bits .and .u8 (rd l0 7) 1) != 0), .bool ((Go.bits .and .u8 (rd l0 7) 2) != 0), .bool ((Go.bits .and .u8 (rd l0 7) 4) != 0), .bool ((Go.bits .and .u8 (rd l0 7) 8) != 0), .slice Ao51 x246009_2.length co51, .slice A48 cx48.length (c0 - (ji40).toNat)] 52 (0, 0)) (by refine kb_ ?_; refine blk_put (cs := #[.int .i64 (wrap64 (rd l0 0)), .int .i64 (wrap64 (rd l0 1)), .int .i64 t242, .int .i64 t243, .int .i64 (wrap64 (rd l0 6)), .bool ((Go.bits .and .u8 (rd l0 7) 1) != 0), .bool ((Go.bits .and .u8 (rd l0 7) 2) != 0), .bool ((Go.bits .and .u8 (rd l0 7) 4) != 0), .bool ((Go.bits .and .u8 (rd l0 7) 8) != 0), .slice Ao51 x246009_2.length co51, .slice none 0 0]) ?_ 10 _ rfl; refine kb_ ?_; exact BK245.out) hb); replace HB := (bs_ HB hb); (try clear hb); (try clear hb2); (try clear hk); (try clear hi); (try clear ho0); obtain ⟨Ao53, co53, eo53⟩ := Kd.R_slice HO255.out; subst eo53) | ((with_reducible refine gate_callee (f := 62) rfl ?_); refine goesL_ (some 93) rfl rfl Try.func62 (by kernel_rfl) rfl #[.slice Ao53 t253.length co53, .slice (some ad239) l0.length c0] rfl ar_ ?_; (with_reducible refine (slices_Equal_byte_byte.calls k2 _ _ t253 _ _ l0 true _ ?side1 ?side2 ?side3 ?side4 A45.out).mono ?_); (case side1 => exact kC_ (Kd.R_reads' HO255.out).2.2); (case side2 => exact (Kd.R_reads' HO255.out).2.1); (case side3 => exact kC_ (Kd.C_below HR0.out HB.out)); (case side4 => exact HC0.out); rintro e w' ⟨rfl, ⟨nd, rfl⟩⟩; refine ⟨_, rfl, ?_⟩; (try ((try simp only [World.drewN_drewN]); rw [drewN_self w52]; generalize hq_ : World.drewN w52 _ = w52; have n0_ : Aside0 (Kd.R (Kd.int .u8) 5 w52 w.heap.size (fun _ => True) (.slice Ao53 t253.length co53) t253) := ⟨by rw [← hq_]; exact (kR_ HO255.out)⟩; have n1_ : Aside0 (Kd.R k90 90 w52 w.heap.size (fun _ => True) (.slice Ao51 x246009_2.length co51) x246009_2) := ⟨by rw [← hq_]; exact (kR_ HO_246009.out)⟩; have n2_ : Aside0 (w52.heap[gb237]? = some (.cells #[.int .i64 0, .int .i64 0, .int .i64 0, .int .i64 0, .int .i64 0, .bool false, .bool false, .bool false, .bool false, .slice none 0 0, .slice none 0 0] 52 (0, 0))) := ⟨by rw [← hq_]; exact (kb_ BK237.out)⟩; have n3_ : Aside0 (w52.heap[gb245]? = some (.cells #[.int .i64 (wrap64 (rd l0 0)), .int .i64 (wrap64 (rd l0 1)), .int .i64 t242, .int .i64 t243, .int .i64 (wrap64 (rd l0 6)), .bool ((Go.bits .and .u8 (rd l0 7) 1) != 0), .bool ((Go.bits .and .u8 (rd l0 7) 2) != 0), .bool ((Go.bits .and .u8 (rd l0 7) 4) != 0), .bool ((Go.bits .and .u8 (rd l0 7) 8) != 0), .slice Ao51 x246009_2.length co51, .slice A48 cx48.length (c0 - (ji40).toNat)] 52 (0, 0))) := ⟨by rw [← hq_]; exact (kb_ BK245.out)⟩; have n4_ : Aside0 (Below w.heap.size w w52) := ⟨by rw [← hq_]; exact (hbA_ HB.out)⟩; clear HO255 HO_246009 BK237 BK245 HB hq_; have HO255 := n0_; have HO_246009 := n1_; have BK237 := n2_; have BK245 := n3_; have HB := n4_; clear n0_ n1_ n2_ n3_ n4_)); have Z54 := zz11 BK245) | ((with_reducible refine gate_callee (f := 63) rfl ?_); refine goesL_ (some 97) rfl rfl Try.func63 (by kernel_rfl) rfl #[.agg #[.int .i64 (wrap64 (rd l0 0)), .int .i64 (wrap64 (rd l0 1)), .int .i64 t242, .int .i64 t243, .int .i64 (wrap64 (rd l0 6)), .bool ((Go.bits .and .u8 (rd l0 7) 1) != 0), .bool ((Go.bits .and .u8 (rd l0 7) 2) != 0), .bool ((Go.bits .and .u8 (rd l0 7) 4) != 0), .bool ((Go.bits .and .u8 (rd l0 7) 8) != 0), .slice Ao51 x246009_2.length co51, .slice A48 cx48.length (c0 - (ji40).toNat)]] rfl (by (try simp only [List.map_toArray, List.map_cons, List.map_nil]); first | done | (rw [show cx48.length = ((wrap64 ((l0.length : Int) - 2)).toNat - (ji40).toNat) from (by rw [List.length_drop, List.length_take]; have h_ : ((wrap64 ((l0.length : Int) - 2)) : Int) ≤ (l0.length : Int) := of_decide_eq_true (by first | (with_reducible assumption) | assumption); omega)] <;> rfl) | (simp only [hji40]; rfl) | rfl | (simp only [List.length_drop, List.length_take]; rfl)) ?_; (with_reducible refine (impl_Segment_copy.calls (wrap64 (rd l0 0)) (wrap64 (rd l0 1)) t242 t243 (wrap64 (rd l0 6)) ((Go.bits .and .u8 (rd l0 7) 1) != 0) ((Go.bits .and .u8 (rd l0 7) 2) != 0) ((Go.bits .and .u8 (rd l0 7) 4) != 0) ((Go.bits .and .u8 (rd l0 7) 8) != 0) _ _ x246009_2 _ _ cx48 t257 t258 t259 t260 t261 t262 t263 t264 t265 t266 t269 _ ?side1 ?side2 ?side3 ?side4 A47.out).mono ?_); (case side1 => exact kC_ (Kd.R_reads' HO_246009.out).2.2); (case side2 => exact (Kd.R_reads' HO_246009.out).2.1); (case side3 => exact kC_ (Kd.C_below HR252.out HB.out)); (case side4 => exact HC252.out); rintro e w55 ⟨v267, v270, rfl, ho0, ho1, hb⟩; refine ⟨_, rfl, ?_⟩; have HO268 := Aside0.mk (Kd.R_lower (Kd.R_new' ho0 (Kd.R_lt (kR_ HO_246009.out))) (below_size (hbA_ HB.out))); replace HO_246009 := Aside0.mk (Kd.R_elder' (kR_ HO_246009.out) (Kd.R_base ho0) hb); have HO271 := Aside0.mk (Kd.R_lower (Kd.R_new' ho1 (Kd.R_lt (kR_ HO255.out))) (below_size (hbA_ HB.out))); replace HO255 := Aside0.mk (Kd.R_elder' (kR_ HO255.out) (Kd.R_base ho1) hb); replace BK237 := (bbA_ BK237 hb); replace BK245 := (bbA_ BK245 hb); replace HB := (bs_ HB hb); (try clear hb); (try clear hb2); (try clear hk); (try clear hi); (try clear ho0); (try clear ho1); have Z56 := zz11 BK237; obtain ⟨Ao57, co57, eo57⟩ := Kd.R_slice HO268.out; subst eo57; obtain ⟨Ao58, co58, eo58⟩ := Kd.R_slice HO271.out; subst eo58))
                refine bodyPost_ret (results_ct rfl _ _ gb237 52 #[.int .i64 t257, .int .i64 t258, .int .i64 t259, .int .i64 t260, .int .i64 t261, .bool t262, .bool t263, .bool t264, .bool t265, .slice Ao57 t266.length co57, .slice Ao58 t269.length co58] (0, 0) _ rfl (by refine kb_ ?_; refine pz11 (cs := #[.int .i64 0, .int .i64 0, .int .i64 0, .int .i64 0, .int .i64 0, .bool false, .bool false, .bool false, .bool false, .slice none 0 0, .slice none 0 0]) ?_; refine kb_ ?_; exact BK237.out) Try.underlying52 rfl (by kernel_rfl)) rfl ?_
                exact ⟨_, _, by first | rfl | (simp [errW_none, errW_some] <;> rfl) | (simp only [← hji40]; first | rfl | (simp [errW_none, errW_some] <;> rfl)) | (simp [*, errW_none, errW_some] <;> rfl), by refine kR_ ?_; exact rfm_ ((Kd.R_types HO268.out BK237.out (by decide))) (fun _ hk => trivial), by refine kR_ ?_; exact rfm_ ((Kd.R_types HO271.out BK237.out (by decide))) (fun _ hk => trivial), hbA_ HB.out⟩
               ·replace c46 := Bool.eq_false_iff.mpr c46
                subst c46
                rw [if_neg (show ¬ (false = true) by decide)] at H
                simp only [Option.some.injEq, Prod.mk.injEq] at H
                obtain ⟨rfl, rfl, rfl, rfl, rfl, rfl, rfl, rfl, rfl, rfl, rfl, rfl⟩ := H
                obtain ⟨i059, hi059, _, hsz59, _⟩ := info_parts info5
                obtain ⟨A59, hcut59, hA59, hC59⟩ := print_mid_of (P := Try.prog) (Value.int .u8) 0 22 5 .i64 .i64 Try.underlying22 hi059 hsz59 (some ad239) c0 l0 (ji40) (wrap64 ((l0.length : Int) - 2)) (of_decide_eq_true (by first | (with_reducible assumption) | assumption)) (by first | omega | exact of_decide_eq_true (by first | (with_reducible assumption) | assumption)) (of_decide_eq_true (by first | (with_reducible assumption) | assumption)) HC0.out
                have HR252 := Aside0.mk (Kd.C_of_reads (h1 := fun _ => rfl) (hA59 _ (Kd.reads_of_C HR0.out)))
                have HC252 := Aside0.mk hC59; clear hA59 hC59 hi059 hsz59; generalize hcx59 : ((l0.take ((wrap64 ((l0.length : Int) - 2)) : Int).toNat).drop ((ji40) : Int).toNat) = cx59 at *; clear hcx59; have hnb60 := NB245_237.out; have hnc60 := NB237_245.out; have Z61 := zz11 BK245
                obtain ⟨Ao62, co62, eo62⟩ := Kd.R_slice HO_246009.out
                subst eo62
                go_wp2_with (first | ((with_reducible refine gate_callee (f := 36) rfl ?_); refine goesL_ (some 91) rfl rfl Try.func36 (by kernel_rfl) rfl #[.agg #[.int .i64 (wrap64 (rd l0 0)), .int .i64 (wrap64 (rd l0 1)), .int .i64 t242, .int .i64 t243, .int .i64 (wrap64 (rd l0 6)), .bool ((Go.bits .and .u8 (rd l0 7) 1) != 0), .bool ((Go.bits .and .u8 (rd l0 7) 2) != 0), .bool ((Go.bits .and .u8 (rd l0 7) 4) != 0), .bool ((Go.bits .and .u8 (rd l0 7) 8) != 0), .slice Ao62 x246009_2.length co62, .slice A59 cx59.length (c0 - (ji40).toNat)], .int .i64 a1, .int .i64 a2] rfl (by (try simp only [List.map_toArray, List.map_cons, List.map_nil]); first | done | (rw [show cx59.length = ((wrap64 ((l0.length : Int) - 2)).toNat - (ji40).toNat) from (by rw [List.length_drop, List.length_take]; have h_ : ((wrap64 ((l0.length : Int) - 2)) : Int) ≤ (l0.length : Int) := of_decide_eq_true (by first | (with_reducible assumption) | assumption); omega)] <;> rfl) | (simp only [hji40]; rfl) | rfl | (simp only [List.length_drop, List.length_take]; rfl)) ?_; (with_reducible refine (impl_SegmentBytes.calls k2 (wrap64 (rd l0 0)) (wrap64 (rd l0 1)) t242 t243 (wrap64 (rd l0 6)) ((Go.bits .and .u8 (rd l0 7) 1) != 0) ((Go.bits .and .u8 (rd l0 7) 2) != 0) ((Go.bits .and .u8 (rd l0 7) 4) != 0) ((Go.bits .and .u8 (rd l0 7) 8) != 0) _ _ x246009_2 _ _ cx59 a1 a2 t253 _ ?side1 ?side2 ?side3 ?side4 A44.out).mono ?_); (case side1 => refine (Kd.R_reads' (e := 90) (base := w.heap.size) (ok := fun k_ => True) (n := x246009_2.length) (c := co62) ?_).2.2; exact (by refine kR_ ?_; exact (Kd.R_mono (Kd.R_f gb245 10 _ (Kd.R_types HO_246009.out BK245.out (by decide))) (fun _ h_ => op1_ h_)))); (case side2 => exact (Kd.R_reads' HO_246009.out).2.1); (case side3 => exact Kd.C_below HR252.out (hbA_ HB.out)); (case side4 => exact HC252.out); rintro e w63 ⟨v254, rfl, ho0, hb⟩; refine ⟨_, rfl, ?_⟩; replace HO_246009 := Aside0.mk (Kd.R_below (by refine kR_ ?_; exact (Kd.R_mono (Kd.R_f gb245 10 _ (Kd.R_types HO_246009.out BK245.out (by decide))) (fun _ h_ => op1_ h_))) hb); have HO255 := Aside0.mk (Kd.R_lower ho0 (below_size (hbA_ HB.out))); replace BK237 := Aside0.mk (blk_below (g := gb237) (o := .cells #[.int .i64 0, .int .i64 0, .int .i64 0, .int .i64 0, .int .i64 0, .bool false, .bool false, .bool false, .bool false, .slice none 0 0, .slice none 0 0] 52 (0, 0)) (by exact kf_ BK237.out) hb); replace BK245 := Aside0.mk (blk_below (g := gb245) (o := .cells #[.int .i64 (wrap64 (rd l0 0)), .int .i64 (wrap64 (rd l0 1)), .int .i64 t242, .int .i64 t243, .int .i64 (wrap64 (rd l0 6)), .bool ((Go.bits .and .u8 (rd l0 7) 1) != 0), .bool ((Go.bits .and .u8 (rd l0 7) 2) != 0), .bool ((Go.bits .and .u8 (rd l0 7) 4) != 0), .bool ((Go.bits .and .u8 (rd l0 7) 8) != 0), .slice Ao62 x246009_2.length co62, .slice A59 cx59.length (c0 - (ji40).toNat)] 52 (0, 0)) (by refine kb_ ?_; refine blk_put (cs := #[.int .i64 (wrap64 (rd l0 0)), .int .i64 (wrap64 (rd l0 1)), .int .i64 t242, .int .i64 t243, .int .i64 (wrap64 (rd l0 6)), .bool ((Go.bits .and .u8 (rd l0 7) 1) != 0), .bool ((Go.bits .and .u8 (rd l0 7) 2) != 0), .bool ((Go.bits .and .u8 (rd l0 7) 4) != 0), .bool ((Go.bits .and .u8 (rd l0 7) 8) != 0), .slice Ao62 x246009_2.length co62, .slice none 0 0]) ?_ 10 _ rfl; refine kb_ ?_; exact BK245.out) hb); replace HB := (bs_ HB hb); (try clear hb); (try clear hb2); (try clear hk); (try clear hi); (try clear ho0); obtain ⟨Ao64, co64, eo64⟩ := Kd.R_slice HO255.out; subst eo64) | ((with_reducible refine gate_callee (f := 62) rfl ?_); refine goesL_ (some 93) rfl rfl Try.func62 (by kernel_rfl) rfl #[.slice Ao64 t253.length co64, .slice (some ad239) l0.length c0] rfl ar_ ?_; (with_reducible refine (slices_Equal_byte_byte.calls k2 _ _ t253 _ _ l0 false _ ?side1 ?side2 ?side3 ?side4 A45.out).mono ?_); (case side1 => exact kC_ (Kd.R_reads' HO255.out).2.2); (case side2 => exact (Kd.R_reads' HO255.out).2.1); (case side3 => exact kC_ (Kd.C_below HR0.out HB.out)); (case side4 => exact HC0.out); rintro e w' ⟨rfl, ⟨nd, rfl⟩⟩; refine ⟨_, rfl, ?_⟩; (try ((try simp only [World.drewN_drewN]); rw [drewN_self w63]; generalize hq_ : World.drewN w63 _ = w63; have n0_ : Aside0 (Kd.R (Kd.int .u8) 5 w63 w.heap.size (fun _ => True) (.slice Ao64 t253.length co64) t253) := ⟨by rw [← hq_]; exact (kR_ HO255.out)⟩; have n1_ : Aside0 (Kd.R k90 90 w63 w.heap.size (fun _ => True) (.slice Ao62 x246009_2.length co62) x246009_2) := ⟨by rw [← hq_]; exact (kR_ HO_246009.out)⟩; have n2_ : Aside0 (w63.heap[gb237]? = some (.cells #[.int .i64 0, .int .i64 0, .int .i64 0, .int .i64 0, .int .i64 0, .bool false, .bool false, .bool false, .bool false, .slice none 0 0, .slice none 0 0] 52 (0, 0))) := ⟨by rw [← hq_]; exact (kb_ BK237.out)⟩; have n3_ : Aside0 (w63.heap[gb245]? = some (.cells #[.int .i64 (wrap64 (rd l0 0)), .int .i64 (wrap64 (rd l0 1)), .int .i64 t242, .int .i64 t243, .int .i64 (wrap64 (rd l0 6)), .bool ((Go.bits .and .u8 (rd l0 7) 1) != 0), .bool ((Go.bits .and .u8 (rd l0 7) 2) != 0), .bool ((Go.bits .and .u8 (rd l0 7) 4) != 0), .bool ((Go.bits .and .u8 (rd l0 7) 8) != 0), .slice Ao62 x246009_2.length co62, .slice A59 cx59.length (c0 - (ji40).toNat)] 52 (0, 0))) := ⟨by rw [← hq_]; exact (kb_ BK245.out)⟩; have n4_ : Aside0 (Below w.heap.size w w63) := ⟨by rw [← hq_]; exact (hbA_ HB.out)⟩; clear HO255 HO_246009 BK237 BK245 HB hq_; have HO255 := n0_; have HO_246009 := n1_; have BK237 := n2_; have BK245 := n3_; have HB := n4_; clear n0_ n1_ n2_ n3_ n4_)); have Z65 := zz11 BK237))
                refine bodyPost_ret (results_ct rfl _ _ gb237 52 #[.int .i64 0, .int .i64 0, .int .i64 0, .int .i64 0, .int .i64 0, .bool false, .bool false, .bool false, .bool false, .slice none 0 0, .slice none 0 0] (0, 0) _ rfl (by refine kb_ ?_; refine pz11 (cs := #[.int .i64 0, .int .i64 0, .int .i64 0, .int .i64 0, .int .i64 0, .bool false, .bool false, .bool false, .bool false, .slice none 0 0, .slice none 0 0]) ?_; refine kb_ ?_; exact BK237.out) Try.underlying52 rfl (by kernel_rfl)) rfl ?_
                exact ⟨_, _, by first | rfl | (simp [errW_none, errW_some] <;> rfl) | (simp only [← hji40]; first | rfl | (simp [errW_none, errW_some] <;> rfl)) | (simp [*, errW_none, errW_some] <;> rfl), by first | exact Kd.R_nil _ _ _ _ _ | exact Kd.N_nil _ _ _ _ _ | exact Kd.V_nil _ _ _ _ _ | exact Kd.Q_nil _ _ _ _ _ | exact Kd.S_nil _ _ _ _ _, by first | exact Kd.R_nil _ _ _ _ _ | exact Kd.N_nil _ _ _ _ _ | exact Kd.V_nil _ _ _ _ _ | exact Kd.Q_nil _ _ _ _ _ | exact Kd.S_nil _ _ _ _ _, hbA_ HB.out⟩
              ·rw [if_neg c43] at H
               exact absurd H (by simp)
             ·rw [if_neg c42] at H
              exact absurd H (by simp)
            ·rw [if_neg c41] at H
             exact absurd H (by simp)
        ·rw [if_neg c16] at H
         exact absurd H (by simp)
       ·rw [if_neg c15] at H
        exact absurd H (by simp)
      ·rw [if_neg c12] at H
       exact absurd H (by simp)
     ·rw [if_neg c11] at H
      exact absurd H (by simp)
    ·rw [if_neg c10] at H
     exact absurd H (by simp)
def laws_sameBytes.f (l0 : List Int) (l1 : List Int) : Option (Bool) := some ((strOfNums l0).toList == (strOfNums l1).toList)
set_option maxHeartbeats 8000000 in
set_option maxRecDepth 100000 in
theorem laws_sameBytes.calls (A0 : Option Addr) (c0 : Nat) (l0 : List Int) (A1 : Option Addr) (c1 : Nat) (l1 : List Int) (r : Bool) (w : World) (hr0 : Kd.C (Kd.int .u8) w A0 l0.length l0) (hc0 : l0.length ≤ c0) (hr1 : Kd.C (Kd.int .u8) w A1 l1.length l1) (hc1 : l1.length ≤ c1) (h : laws_sameBytes.f l0 l1 = some r) :
  Calls Try.prog 35 #[.slice A0 l0.length c0, .slice A1 l1.length c1] w fun e w' => e = .returned (.bool r) ∧ Drawn0 w w' := by
 have HR0 := Aside0.mk hr0; have HC0 := Aside0.mk hc0; clear hr0 hc0; have HR1 := Aside0.mk hr1; have HC1 := Aside0.mk hc1; clear hr1 hc1
 have H : (some ((strOfNums l0).toList == (strOfNums l1).toList)) = some r := h
 clear h
 obtain rfl := Option.some.inj H
 have hcv3 := Kd.C_string (P := Try.prog) (A := A0) (c := c0) Try.underlying22 Try.underlying5 Try.underlying9 HR0.out
 have hcv4 := Kd.C_string (P := Try.prog) (A := A1) (c := c1) Try.underlying22 Try.underlying5 Try.underlying9 HR1.out
 go_enter Try.func35, Try.ntmps35
 go_wp2
 go_ret
 exact ⟨by first | rfl | (simp; done) | (simp [*]; done), by repeat (first | exact Drawn0.refl _ | apply Drawn0.step)⟩
def laws_sameRanges.l0 : Nat → List (S90) → List (S90) → Int → Option (Bool)
 | 0, _, _, _ => none
 | k + 1, x0, x1, x5 => if x5 < (x0.length : Int) then (if 0 ≤ x5 then (if x5 < (x1.length : Int) then (if (!(((rd_T90 x0 x5).f0) == ((rd_T90 x1 x5).f0)) || (!(((rd_T90 x0 x5).f1) == ((rd_T90 x1 x5).f1)))) = true then (some false) else (laws_sameRanges.l0 k x0 x1 (wrap64 (x5 + 1)))) else (none)) else (none)) else (some true)
def laws_sameRanges.f (k : Nat) (l0 : List (S90)) (l1 : List (S90)) : Option (Bool) := if (l0.length : Int) = (l1.length : Int) then (laws_sameRanges.l0 k l0 l1 0) else (some false)
theorem laws_sameRanges.mono_l : ∀ k, (∀ y0 y1 y2, LeO (laws_sameRanges.l0 k y0 y1 y2) (laws_sameRanges.l0 (k + 1) y0 y1 y2))
 | 0 => fun _ _ _ r h => by simp [laws_sameRanges.l0] at h
 | k + 1 => by
  have ih0 := laws_sameRanges.mono_l k
  ·intro y0 y1 y2
   unfold laws_sameRanges.l0
   repeat' first | (with_reducible first | apply ih0 | exact LeO.refl _ | exact LeO.none _ | refine LeO.ite ?_ ?_ | refine LeO.bind ?_ fun _ => ?_) | apply ih0 | exact LeO.none _ | refine LeO.ite ?_ ?_ | refine LeO.bind ?_ fun _ => ?_
theorem laws_sameRanges.mono : ∀ a0 a1 k, LeO (laws_sameRanges.f k a0 a1) (laws_sameRanges.f (k + 1) a0 a1) := by
 intro a0 a1 k
 have ih0 := laws_sameRanges.mono_l k
 unfold laws_sameRanges.f
 repeat' first | (with_reducible first | apply ih0 | exact LeO.refl _ | exact LeO.none _ | refine LeO.ite ?_ ?_ | refine LeO.bind ?_ fun _ => ?_) | apply ih0 | exact LeO.none _ | refine LeO.ite ?_ ?_ | refine LeO.bind ?_ fun _ => ?_
set_option maxHeartbeats 8000000 in
set_option maxRecDepth 100000 in
theorem laws_sameRanges.calls (k : Nat) (A0 : Option Addr) (c0 : Nat) (l0 : List (S90)) (A1 : Option Addr) (c1 : Nat) (l1 : List (S90)) (r : Bool) (w : World) (hr0 : Kd.C k90 w A0 l0.length l0) (hc0 : l0.length ≤ c0) (hr1 : Kd.C k90 w A1 l1.length l1) (hc1 : l1.length ≤ c1) (h : laws_sameRanges.f k l0 l1 = some r) :
  Calls Try.prog 68 #[.slice A0 l0.length c0, .slice A1 l1.length c1] w fun e w' => e = .returned (.bool r) ∧ Drawn0 w w' := by
 have hu90 := Try.underlying90; have HR0 := Aside0.mk hr0; have HC0 := Aside0.mk hc0; clear hr0 hc0; have HR1 := Aside0.mk hr1; have HC1 := Aside0.mk hc1; clear hr1 hc1
 have H : (if (l0.length : Int) = (l1.length : Int) then (laws_sameRanges.l0 k l0 l1 0) else (some false)) = some r := h
 clear h
 by_cases c3 : (l0.length : Int) = (l1.length : Int)
 ·rw [if_pos c3] at H
  have c3b0 : ((l0.length : Int) == (l1.length : Int)) = true := beq_iff_eq.mpr c3
  have c3b1 : ((l0.length : Int) != (l1.length : Int)) = false := bne_eq_false_iff_eq.mpr c3
  have c3b2 : (l0.length == l1.length) = true := by first | simpa using c3 | (simp at c3 ⊢; omega)
  clear c3
  have H' := Aside0.mk H
  clear H
  go_enter Try.func68, Try.ntmps68
  go_wp2
  repeat (go_quiet (fail); try go_wp2)
  go_loopg [5] k (fun kq v5 w' => ∃ (x5_1 : Int), v5 = .int .i64 x5_1 ∧ Aside0 (laws_sameRanges.l0 kq l0 l1 x5_1 = some r) ∧ Aside0 (kq ≤ k) ∧ Drawn0 w w')
  case atStart => exact ⟨(0), (by first | rfl | (simp; done) | (simp [*]; done)), H', ⟨Nat.le_refl _⟩, by repeat (first | exact Drawn0.refl _ | apply Drawn0.step)⟩
  case round =>
   clear H'; (try clear c1); (try clear p2); (try clear c3); (try clear c3b0); (try clear c3b1); (try clear c3b2)
   obtain ⟨x5_1, rfl, HA, HK1, ⟨m1, rfl⟩⟩ := hrel
   cases gk with
   | zero => exact absurd HA.out (by simp [laws_sameRanges.l0])
   | succ k1 =>
    have H := HA.out; clear HA
    simp only [laws_sameRanges.l0] at H
    by_cases c4 : x5_1 < (l0.length : Int)
    ·rw [if_pos c4] at H
     have c4b0 : decide (x5_1 < (l0.length : Int)) = true := decide_eq_true c4
     clear c4
     by_cases c5 : 0 ≤ x5_1
     ·rw [if_pos c5] at H
      have c5b0 : decide (0 ≤ x5_1) = true := decide_eq_true c5
      clear c5
      by_cases c6 : x5_1 < (l1.length : Int)
      ·rw [if_pos c6] at H
       have c6b0 : decide (x5_1 < (l1.length : Int)) = true := decide_eq_true c6
       clear c6
       by_cases c7 : (!(((rd_T90 l0 x5_1).f0) == ((rd_T90 l1 x5_1).f0)) || (!(((rd_T90 l0 x5_1).f1) == ((rd_T90 l1 x5_1).f1)))) = true
       ·rw [if_pos c7] at H
        have c7b0 : (!(((rd_T90 l0 x5_1).f0) == ((rd_T90 l1 x5_1).f0)) || (!(((rd_T90 l0 x5_1).f1) == ((rd_T90 l1 x5_1).f1)))) = true := c7
        clear c7
        obtain rfl := Option.some.inj H
        have p272 : 0 ≤ (x5_1 : Int) := of_decide_eq_true (by first | (with_reducible assumption) | assumption)
        have q272 : x5_1 < (l0.length : Int) := of_decide_eq_true (by first | (with_reducible assumption) | assumption)
        obtain ⟨ad272, e272, hx272_0, hx272_1⟩ := at_T90 HR0.out x5_1 p272 q272
        cases e272
        replace p272 := eq_true p272
        replace q272 := eq_true q272
        have p273 : 0 ≤ (x5_1 : Int) := of_decide_eq_true (by first | (with_reducible assumption) | assumption)
        have q273 : x5_1 < (l1.length : Int) := of_decide_eq_true (by first | (with_reducible assumption) | assumption)
        obtain ⟨ad273, e273, hx273_0, hx273_1⟩ := at_T90 HR1.out x5_1 p273 q273
        cases e273
        replace p273 := eq_true p273
        replace q273 := eq_true q273
        go_wp2
        repeat (go_quiet (fail); try go_wp2)
        go_ret
        exact ⟨by first | rfl | (simp; done) | (simp [*]; done), by repeat (first | exact Drawn0.refl _ | apply Drawn0.step)⟩
       ·rw [if_neg c7] at H
        have c7b0 : (!(((rd_T90 l0 x5_1).f0) == ((rd_T90 l1 x5_1).f0)) || (!(((rd_T90 l0 x5_1).f1) == ((rd_T90 l1 x5_1).f1)))) = false := by simpa using c7
        clear c7
        have H' := Aside0.mk H
        clear H
        have p272 : 0 ≤ (x5_1 : Int) := of_decide_eq_true (by first | (with_reducible assumption) | assumption)
        have q272 : x5_1 < (l0.length : Int) := of_decide_eq_true (by first | (with_reducible assumption) | assumption)
        obtain ⟨ad272, e272, hx272_0, hx272_1⟩ := at_T90 HR0.out x5_1 p272 q272
        cases e272
        replace p272 := eq_true p272
        replace q272 := eq_true q272
        have p273 : 0 ≤ (x5_1 : Int) := of_decide_eq_true (by first | (with_reducible assumption) | assumption)
        have q273 : x5_1 < (l1.length : Int) := of_decide_eq_true (by first | (with_reducible assumption) | assumption)
        obtain ⟨ad273, e273, hx273_0, hx273_1⟩ := at_T90 HR1.out x5_1 p273 q273
        cases e273
        replace p273 := eq_true p273
        replace q273 := eq_true q273
        go_wp2
        repeat (go_quiet (fail); try go_wp2)
        go_roundg k1
        case measure => have := HK1.out; omega
        case rel => exact ⟨(wrap64 (x5_1 + 1)), (by first | rfl | (simp; done) | (simp [*]; done)), H', ⟨by have := HK1.out; omega⟩, by repeat (first | exact Drawn0.refl _ | apply Drawn0.step)⟩
      ·rw [if_neg c6] at H
       exact absurd H (by simp)
     ·rw [if_neg c5] at H
      exact absurd H (by simp)
    ·rw [if_neg c4] at H
     have c4b0 : decide (x5_1 < (l0.length : Int)) = false := decide_eq_false c4
     clear c4
     obtain rfl := Option.some.inj H
     go_wp2
     repeat (go_quiet (fail); try go_wp2)
     go_ret
     exact ⟨by first | rfl | (simp; done) | (simp [*]; done), by repeat (first | exact Drawn0.refl _ | apply Drawn0.step)⟩
 ·rw [if_neg c3] at H
  have c3b0 : ((l0.length : Int) == (l1.length : Int)) = false := beq_eq_false_iff_ne.mpr c3
  have c3b1 : ((l0.length : Int) != (l1.length : Int)) = true := bne_iff_ne.mpr c3
  have c3b2 : (l0.length == l1.length) = false := by first | simpa using c3 | (simp at c3 ⊢; omega)
  obtain rfl := Option.some.inj H
  go_enter Try.func68, Try.ntmps68
  go_wp2
  repeat (go_quiet (fail); try go_wp2)
  go_ret
  exact ⟨by first | rfl | (simp; done) | (simp [*]; done), by repeat (first | exact Drawn0.refl _ | apply Drawn0.step)⟩
end Go.Proofs.Ytpbeljcgcdilnaa.PFnSegmentBytes
