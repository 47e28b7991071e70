/- Printed by wip/xp/xprint.sh out of the translation, for this claim: what each function answers, as a plain function, and that the machine does just that. No condition. -/
import Derived.Test.YtpbeljcgcdilnaaPFnSegmentFromx0
import Derived.Test.YtpbeljcgcdilnaaPFnSegmentFromx2
import Derived.Test.YtpbeljcgcdilnaaPFnSegmentFromx5
namespace Go.Proofs.Ytpbeljcgcdilnaa.PFnSegmentFrom
open Go.RowKit Go.Proofs.YtpbeljcgcdilnaaW.PrintWords Go.Proofs.YtpbeljcgcdilnaaW.PrintLast Go.Proofs.YtpbeljcgcdilnaaW.PrintMore
attribute [local go_sem] max2_int min2_int max_two min_two max_three min_three max_four min_four   -- for this text's walks alone
set_option linter.unusedVariables false
set_option linter.unusedSimpArgs false
def impl_Segment_body.l0 : Nat → List Int → List (S90) → Int → Int → Int → Int → Int → Int → Int → Bool → Bool → Bool → Bool → List (S90) → List Int → Option (List Int)
 | 0, _, _, _, _, _, _, _, _, _, _, _, _, _, _, _ => none
 | k + 1, x4, x48, x49, x50, x214000, x214001, x214002, x214003, x214004, x214005, x214006, x214007, x214008, x214009, x214010 => if x50 < x49 then (if 0 ≤ x50 then (if x50 < (x48.length : Int) then ((impl_bytesOf.f k ((rd_T90 x48 x50).f0) 2).bind fun t247 => ((impl_bytesOf.f k ((rd_T90 x48 x50).f1) 2).bind fun t250 => ((slices_Concat_byte_byte.f k (([x4, t247, t250] : List (List Int)))).bind fun t256 => (impl_Segment_body.l0 k t256 x48 x49 (wrap64 (x50 + 1)) x214000 x214001 x214002 x214003 x214004 x214005 x214006 x214007 x214008 x214009 x214010)))) else (none)) else (none)) else ((slices_Concat_byte_byte.f k (([x4, (([((x214010.length : Int)) % 256] : List Int)), x214010] : List (List Int)))).bind fun t242 => (some t242))
def impl_Segment_body.f (k : Nat) (a0_0 : Int) (a0_1 : Int) (a0_2 : Int) (a0_3 : Int) (a0_4 : Int) (a0_5 : Bool) (a0_6 : Bool) (a0_7 : Bool) (a0_8 : Bool) (l0_9 : List (S90)) (l0_10 : List Int) : Option (List Int) := (impl_bit.f a0_5 1).bind fun t214 => ((impl_bit.f a0_6 2).bind fun t215 => ((impl_bit.f a0_7 4).bind fun t216 => ((impl_bit.f a0_8 8).bind fun t217 => ((impl_bytesOf.f k a0_2 2).bind fun t221 => ((impl_bytesOf.f k a0_3 2).bind fun t224 => ((slices_Concat_byte_byte.f k (([(([(a0_0) % 256, (a0_1) % 256] : List Int)), t221, t224, (([(a0_4) % 256, (wrap64 ((wrap64 ((wrap64 (t214 + t215)) + t216)) + t217)) % 256, ((l0_9.length : Int)) % 256] : List Int))] : List (List Int)))).bind fun t233 => (impl_Segment_body.l0 k t233 l0_9 (l0_9.length : Int) 0 a0_0 a0_1 a0_2 a0_3 a0_4 a0_5 a0_6 a0_7 a0_8 l0_9 l0_10)))))))
theorem impl_Segment_body.mono_l : ∀ k, (∀ y0 y1 y2 y3 y4 y5 y6 y7 y8 y9 y10 y11 y12 y13 y14, LeO (impl_Segment_body.l0 k y0 y1 y2 y3 y4 y5 y6 y7 y8 y9 y10 y11 y12 y13 y14) (impl_Segment_body.l0 (k + 1) y0 y1 y2 y3 y4 y5 y6 y7 y8 y9 y10 y11 y12 y13 y14))
 | 0 => fun _ _ _ _ _ _ _ _ _ _ _ _ _ _ _ r h => by simp [impl_Segment_body.l0] at h
 | k + 1 => by
  have ih0 := impl_Segment_body.mono_l k
  ·intro y0 y1 y2 y3 y4 y5 y6 y7 y8 y9 y10 y11 y12 y13 y14
   unfold impl_Segment_body.l0
   repeat' first | (with_reducible first | apply ih0 | apply impl_bytesOf.mono | apply slices_Concat_byte_byte.mono | exact LeO.refl _ | exact LeO.none _ | refine LeO.ite ?_ ?_ | refine LeO.bind ?_ fun _ => ?_) | apply ih0 | apply impl_bytesOf.mono | apply slices_Concat_byte_byte.mono | exact LeO.none _ | refine LeO.ite ?_ ?_ | refine LeO.bind ?_ fun _ => ?_
theorem impl_Segment_body.mono : ∀ a0 a1 a2 a3 a4 a5 a6 a7 a8 a9 a10 k, LeO (impl_Segment_body.f k a0 a1 a2 a3 a4 a5 a6 a7 a8 a9 a10) (impl_Segment_body.f (k + 1) a0 a1 a2 a3 a4 a5 a6 a7 a8 a9 a10) := by
 intro a0 a1 a2 a3 a4 a5 a6 a7 a8 a9 a10 k
 have ih0 := impl_Segment_body.mono_l k
 unfold impl_Segment_body.f
 repeat' first | (with_reducible first | apply ih0 | apply impl_bytesOf.mono | apply slices_Concat_byte_byte.mono | exact LeO.refl _ | exact LeO.none _ | refine LeO.ite ?_ ?_ | refine LeO.bind ?_ fun _ => ?_) | apply ih0 | apply impl_bytesOf.mono | apply slices_Concat_byte_byte.mono | exact LeO.none _ | refine LeO.ite ?_ ?_ | refine LeO.bind ?_ fun _ => ?_
def impl_Segment_body.T1 : Bool × List (List Nat × List Nat) := (true, [([], []), ([0], [0]), ([1], [1]), ([], []), ([3], [3]), ([4, 2], [4]), ([2, 5], [2, 5]), ([], []), ([7], [7]), ([8, 5], [8]), ([6, 9], [6, 9]), ([], []), ([11], [11]), ([12, 9], [12]), ([10, 13], [10, 13]), ([14, 13, 0, 1, 2, 3, 4, 5, 6, 7, 8, 9, 10, 11, 12, 13, 14], [14])])
def impl_Segment_body.B1 : List Nat := [0, 1, 3, 0, 8, 31, 63, 0, 128, 447, 1023, 0, 2048, 7103, 16383, 32767]
theorem impl_Segment_body.tab1 : rtab .any (opsOf Try.f70 1) = impl_Segment_body.T1 := by kernel_rfl
theorem impl_Segment_body.bits1 : waitsOk impl_Segment_body.T1.2 impl_Segment_body.B1 = true := by kernel_rfl
def impl_Segment_body.T2 : Bool × List (List Nat × List Nat) := (true, [([], []), ([0], [0]), ([1], [1]), ([], []), ([3], [3]), ([4], [4]), ([2, 5], [2, 5]), ([], []), ([7], [7]), ([8], [8]), ([], []), ([10], [10]), ([11, 9], [11]), ([], []), ([13], [13]), ([14], [14]), ([], []), ([16], [16]), ([], []), ([18], [18]), ([19], [19]), ([20], [20]), ([15, 17, 21], [15, 17, 21]), ([6, 9, 12, 22], [6, 9, 12, 22]), ([23, 12], [23]), ([24, 24, 0, 1, 2, 3, 4, 5, 6, 7, 8, 9, 10, 11, 12, 13, 14, 15, 16, 17, 18, 19, 20, 21, 22, 23, 24], [24])])
def impl_Segment_body.B2 : List Nat := [0, 1, 3, 0, 8, 24, 63, 0, 128, 384, 0, 1024, 3968, 0, 8192, 24576, 0, 65536, 0, 262144, 786432, 1835008, 4186112, 8388607, 16777215, 33554431]
theorem impl_Segment_body.tab2 : rtab .any (opsOf Try.f70 2) = impl_Segment_body.T2 := by kernel_rfl
theorem impl_Segment_body.bits2 : waitsOk impl_Segment_body.T2.2 impl_Segment_body.B2 = true := by kernel_rfl
def impl_Segment_body.T6 : Bool × List (List Nat × List Nat) := (true, [([], []), ([], []), ([1], [1]), ([2], [2]), ([], []), ([4], [4]), ([5, 3], [5]), ([0, 3, 6], [0, 3, 6]), ([7, 6], [7]), ([8, 8, 0, 1, 2, 3, 4, 5, 6, 7, 8], [0, 8])])
def impl_Segment_body.B6 : List Nat := [0, 0, 2, 6, 0, 16, 62, 127, 255, 511]
theorem impl_Segment_body.tab6 : rtab .any (opsOf Try.f70 6) = impl_Segment_body.T6 := by kernel_rfl
theorem impl_Segment_body.bits6 : waitsOk impl_Segment_body.T6.2 impl_Segment_body.B6 = true := by kernel_rfl
set_option maxHeartbeats 8000000 in
set_option maxRecDepth 100000 in
theorem impl_Segment_body.callsV (k : Nat) (a0_0 : Int) (a0_1 : Int) (a0_2 : Int) (a0_3 : Int) (a0_4 : Int) (a0_5 : Bool) (a0_6 : Bool) (a0_7 : Bool) (a0_8 : Bool) (A0_9 : Option Addr) (c0_9 : Nat) (l0_9 : List (S90)) (P0_10_ : Nat → Prop) (A0_10 : Option Addr) (c0_10 : Nat) (l0_10 : List Int) (r : List Int) (w : World) (hr0_9 : Kd.C k90 w A0_9 l0_9.length l0_9) (hc0_9 : l0_9.length ≤ c0_9) (hs0_10 : Kd.V (Kd.int .u8) 5 w w.heap.size (fun k_ => P0_10_ k_) (.slice A0_10 l0_10.length c0_10) l0_10) (h : impl_Segment_body.f k a0_0 a0_1 a0_2 a0_3 a0_4 a0_5 a0_6 a0_7 a0_8 l0_9 l0_10 = some r) :
  Calls Try.prog 70 #[.agg #[.int .i64 a0_0, .int .i64 a0_1, .int .i64 a0_2, .int .i64 a0_3, .int .i64 a0_4, .bool a0_5, .bool a0_6, .bool a0_7, .bool a0_8, .slice A0_9 l0_9.length c0_9, .slice A0_10 l0_10.length c0_10]] w fun e w' => ∃ v0_ : Value, e = .returned (v0_) ∧ Kd.R (Kd.int .u8) 5 w' w.heap.size (fun k_ => (w.heap.size ≤ k_)) v0_ r ∧ Below w.heap.size w w' := by
 have hu52 := Try.underlying52; have hu90 := Try.underlying90; have HR0_9 := Aside0.mk hr0_9; have HC0_9 := Aside0.mk hc0_9; clear hr0_9 hc0_9
 have HO0_10 := Aside0.mk (show Kd.V (Kd.int .u8) 5 w w.heap.size (fun k_ => (P0_10_ k_ ∨ w.heap.size ≤ k_)) (.slice A0_10 l0_10.length c0_10) l0_10 from Kd.V_mono hs0_10 (fun k_ hk => .inl hk))
 have HB := Aside0.mk (Below.refl w.heap.size w)
 have H : ((impl_bit.f a0_5 1).bind fun t214 => ((impl_bit.f a0_6 2).bind fun t215 => ((impl_bit.f a0_7 4).bind fun t216 => ((impl_bit.f a0_8 8).bind fun t217 => ((impl_bytesOf.f k a0_2 2).bind fun t221 => ((impl_bytesOf.f k a0_3 2).bind fun t224 => ((slices_Concat_byte_byte.f k (([(([(a0_0) % 256, (a0_1) % 256] : List Int)), t221, t224, (([(a0_4) % 256, (wrap64 ((wrap64 ((wrap64 (t214 + t215)) + t216)) + t217)) % 256, ((l0_9.length : Int)) % 256] : List Int))] : List (List Int)))).bind fun t233 => (impl_Segment_body.l0 k t233 l0_9 (l0_9.length : Int) 0 a0_0 a0_1 a0_2 a0_3 a0_4 a0_5 a0_6 a0_7 a0_8 l0_9 l0_10)))))))) = some r := h
 clear h
 replace H := Option.bind_eq_some_iff.mp H
 obtain ⟨t214, A20, H⟩ := H
 (try dsimp only at H)
 have A2 := Aside0.mk A20; clear A20
 replace H := Option.bind_eq_some_iff.mp H
 obtain ⟨t215, A30, H⟩ := H
 (try dsimp only at H)
 have A3 := Aside0.mk A30; clear A30
 replace H := Option.bind_eq_some_iff.mp H
 obtain ⟨t216, A40, H⟩ := H
 (try dsimp only at H)
 have A4 := Aside0.mk A40; clear A40
 replace H := Option.bind_eq_some_iff.mp H
 obtain ⟨t217, A50, H⟩ := H
 (try dsimp only at H)
 have A5 := Aside0.mk A50; clear A50
 obtain ⟨y218, hy218⟩ : ∃ y_ : List Int, y_ = (([(a0_0) % 256, (a0_1) % 256] : List Int)) := ⟨_, rfl⟩
 (first | replace H := sb_ hy218 H | rw [← hy218] at H)
 have Ny218 := Aside0.mk hy218; clear hy218
 replace H := Option.bind_eq_some_iff.mp H
 obtain ⟨t221, A60, H⟩ := H
 (try dsimp only at H)
 have A6 := Aside0.mk A60; clear A60
 replace H := Option.bind_eq_some_iff.mp H
 obtain ⟨t224, A70, H⟩ := H
 (try dsimp only at H)
 have A7 := Aside0.mk A70; clear A70
 obtain ⟨y227, hy227⟩ : ∃ y_ : List Int, y_ = (([(a0_4) % 256, (wrap64 ((wrap64 ((wrap64 (t214 + t215)) + t216)) + t217)) % 256, ((l0_9.length : Int)) % 256] : List Int)) := ⟨_, rfl⟩
 (first | replace H := sb_ hy227 H | rw [← hy227] at H)
 have Ny227 := Aside0.mk hy227; clear hy227
 obtain ⟨y230, hy230⟩ : ∃ y_ : List (List Int), y_ = (([y218, t221, t224, y227] : List (List Int))) := ⟨_, rfl⟩
 (first | replace H := sb_ hy230 H | rw [← hy230] at H)
 have Ny230 := Aside0.mk hy230; clear hy230
 replace H := Option.bind_eq_some_iff.mp H
 obtain ⟨t233, A80, H⟩ := H
 (try dsimp only at H)
 have A8 := Aside0.mk A80; clear A80
 have H' := Aside0.mk H
 clear H
 go_enter Try.func70, Try.ntmps70
 try go_wp2_with (first | ((with_reducible refine gate_dst (N := 1) rfl ?_); refine box_ (N := 1) (cs := #[.int .i64 a0_0, .int .i64 a0_1, .int .i64 a0_2, .int .i64 a0_3, .int .i64 a0_4, .bool a0_5, .bool a0_6, .bool a0_7, .bool a0_8, .slice A0_9 l0_9.length c0_9, .slice A0_10 l0_10.length c0_10]) (t := 52) (fun gb213 hg w9 hbox hb => ?_); replace HO0_10 := Aside0.mk (Kd.V_below (Kd.V_elderB (kV_ HO0_10.out) gb213 (Nat.le_of_eq hg.symm)) hb); have BK213 := Aside0.mk (hbox); have GW213 := ge_ hg HB; have GE213 := ge_ hg HB; replace HB := (bs_ HB hb); clear hb hbox hg))
 replace HO0_10 := Aside0.mk (Kd.V_drew HO0_10.out); replace BK213 := Aside0.mk (blk_drew BK213.out); replace HB := (bd_ HB)
 refine start_ (n := 16) (S := fun w' => w'.cell? ⟨gb213, 0, none⟩ = some (.int .i64 a0_0) ∧ w'.cell? ⟨gb213, 1, none⟩ = some (.int .i64 a0_1) ∧ w'.cell? ⟨gb213, 2, none⟩ = some (.int .i64 a0_2) ∧ w'.cell? ⟨gb213, 3, none⟩ = some (.int .i64 a0_3) ∧ w'.cell? ⟨gb213, 4, none⟩ = some (.int .i64 a0_4) ∧ w'.cell? ⟨gb213, 5, none⟩ = some (.bool a0_5) ∧ w'.cell? ⟨gb213, 6, none⟩ = some (.bool a0_6) ∧ w'.cell? ⟨gb213, 7, none⟩ = some (.bool a0_7) ∧ w'.cell? ⟨gb213, 8, none⟩ = some (.bool a0_8) ∧ w'.cell? ⟨gb213, 9, none⟩ = some (.slice A0_9 l0_9.length c0_9) ∧ w'.cell? ⟨gb213, 10, none⟩ = some (.slice A0_10 l0_10.length c0_10)) (ds := []) #[false, false, false, false, false, false, false, false, false, false, false, false, false, false, false, false] (by kernel_rfl) rfl rfl (cz11 BK213.out) (fun hHeld => ?_); refine with_tabW impl_Segment_body.tab1 impl_Segment_body.bits1 (fun HT_ HW_ => ?_)
 generalize w9.drew = w10 at HO0_10 BK213 HB hHeld ⊢
 refine pu_ (i := 0) (N := some 7) HT_ ?_; refine pu_ (i := 3) (N := some 10) HT_ ?_; refine pu_ (i := 7) (N := some 14) HT_ ?_; refine pu_ (i := 11) (N := some 18) HT_ ?_; refine tk_ (i := 1) (N := some 8) HT_ HW_ hHeld ?_; refine tk_ (i := 4) (N := some 11) HT_ HW_ hHeld ?_; refine tk_ (i := 8) (N := some 15) HT_ HW_ hHeld ?_; refine tk_ (i := 12) (N := some 19) HT_ HW_ hHeld ?_
 refine on_ (i := 2) (N := some 9) HT_ (fun K hK => ?_)
 refine goes_ Try.func99 (by kernel_rfl) rfl #[.bool a0_5, .int .i64 1] (by rfl) rfl rfl ar_ ?_
 with_reducible refine (impl_bit.calls a0_5 1 t214 _ A2.out).mono ?_
 rintro e w' ⟨rfl, ⟨nd, rfl⟩⟩
 refine ⟨_, rfl, ?_⟩
 refine hK.out _ _ (cz11 BK213.out) (fun hHeld => ?_)
 clear hK K; refine nm_ 9 ?_
 refine on_ (i := 5) (N := some 12) HT_ (fun K hK => ?_)
 refine goes_ Try.func99 (by kernel_rfl) rfl #[.bool a0_6, .int .i64 2] (by rfl) rfl rfl ar_ ?_
 with_reducible refine (impl_bit.calls a0_6 2 t215 _ A3.out).mono ?_
 rintro e w' ⟨rfl, ⟨nd, rfl⟩⟩
 refine ⟨_, rfl, ?_⟩
 refine hK.out _ _ (cz11 BK213.out) (fun hHeld => ?_)
 clear hK K; refine nm_ 12 ?_; refine pu_ (i := 6) (N := some 13) HT_ ?_
 refine on_ (i := 9) (N := some 16) HT_ (fun K hK => ?_)
 refine goes_ Try.func99 (by kernel_rfl) rfl #[.bool a0_7, .int .i64 4] (by rfl) rfl rfl ar_ ?_
 with_reducible refine (impl_bit.calls a0_7 4 t216 _ A4.out).mono ?_
 rintro e w' ⟨rfl, ⟨nd, rfl⟩⟩
 refine ⟨_, rfl, ?_⟩
 refine hK.out _ _ (cz11 BK213.out) (fun hHeld => ?_)
 clear hK K; refine nm_ 16 ?_; refine pu_ (i := 10) (N := some 17) HT_ ?_
 refine on_ (i := 13) (N := some 20) HT_ (fun K hK => ?_)
 refine goes_ Try.func99 (by kernel_rfl) rfl #[.bool a0_8, .int .i64 8] (by rfl) rfl rfl ar_ ?_
 with_reducible refine (impl_bit.calls a0_8 8 t217 _ A5.out).mono ?_
 rintro e w' ⟨rfl, ⟨nd, rfl⟩⟩
 refine ⟨_, rfl, ?_⟩
 refine hK.out _ _ (cz11 BK213.out) (fun hHeld => ?_)
 clear hK K; refine nm_ 20 ?_; refine pu_ (i := 14) (N := some 21) HT_ ?_; refine pu_ (i := 15) (N := some 3) HT_ ?_
 refine done_ (done_of HT_.out (by kernel_rfl)) ?_
 try go_wp2
 (try ((try simp only [World.drewN_drewN]); rw [drewN_self w10]; generalize hq_ : World.drewN w10 _ = w10; have n0_ : Aside0 (Kd.V (Kd.int .u8) 5 w10 w.heap.size (fun k_ => (P0_10_ k_ ∨ w.heap.size ≤ k_) ∧ k_ ≠ gb213) (.slice A0_10 l0_10.length c0_10) l0_10) := ⟨by rw [← hq_]; exact (kV_ HO0_10.out)⟩; have n1_ : Aside0 (w10.heap[gb213]? = some (.cells #[.int .i64 a0_0, .int .i64 a0_1, .int .i64 a0_2, .int .i64 a0_3, .int .i64 a0_4, .bool a0_5, .bool a0_6, .bool a0_7, .bool a0_8, .slice A0_9 l0_9.length c0_9, .slice A0_10 l0_10.length c0_10] 52 (0, 0))) := ⟨by rw [← hq_]; exact (kb_ BK213.out)⟩; have n2_ : Aside0 (Below w.heap.size w w10) := ⟨by rw [← hq_]; exact (hbA_ HB.out)⟩; clear HO0_10 BK213 HB hq_; have HO0_10 := n0_; have BK213 := n1_; have HB := n2_; clear n0_ n1_ n2_))
 replace HO0_10 := Aside0.mk (Kd.V_drew HO0_10.out); replace BK213 := Aside0.mk (blk_drew BK213.out); replace HB := (bd_ HB)
 refine start_ (n := 26) (S := fun w' => True) (ds := []) #[false, false, false, false, false, false, false, false, false, false, false, false, false, false, false, false, false, false, false, false, false, false, false, false, false, false] (by kernel_rfl) rfl rfl trivial (fun hHeld => ?_); refine with_tabW impl_Segment_body.tab2 impl_Segment_body.bits2 (fun HT_ HW_ => ?_)
 generalize w10.drew = w11 at HO0_10 BK213 HB hHeld ⊢
 refine pu_ (i := 0) (N := some 22) HT_ ?_; refine pu_ (i := 3) (N := some 25) HT_ ?_; refine pu_ (i := 7) (N := some 29) HT_ ?_; refine pu_ (i := 10) (N := some 32) HT_ ?_; refine pu_ (i := 13) (N := some 35) HT_ ?_; refine pu_ (i := 16) (N := some 38) HT_ ?_; refine pu_ (i := 18) (N := some 40) HT_ ?_
 refine inv_at [1, 2, 4, 5, 6, 8, 9, 11, 12, 14, 15, 17, 19, 20, 21, 22, 23, 24, 25] (fun a0_ b a w' => ∃ (v219 : Value) (v222 : Value) (v225 : Value) (v228 : Value) (v231 : Value) (v234 : Value) (m25_ : Value), a = putSel a0_ b [(1, 23, .int .i64 a0_0), (2, 24, .int .u8 ((a0_0) % 256)), (4, 26, .int .i64 a0_1), (5, 27, .int .u8 ((a0_1) % 256)), (6, 28, v219), (8, 30, .int .i64 a0_2), (9, 31, v222), (11, 33, .int .i64 a0_3), (12, 34, v225), (14, 36, .int .i64 a0_4), (15, 37, .int .u8 ((a0_4) % 256)), (17, 39, .int .u8 ((wrap64 ((wrap64 ((wrap64 (t214 + t215)) + t216)) + t217)) % 256)), (19, 41, .slice A0_9 l0_9.length c0_9), (20, 42, .int .i64 (l0_9.length : Int)), (21, 43, .int .u8 (((l0_9.length : Int)) % 256)), (22, 44, v228), (23, 45, v231), (24, 46, v234), (25, 4, m25_)] ∧ (Kd.V (Kd.int .u8) 5 w' w.heap.size (fun k_ => (P0_10_ k_ ∨ w.heap.size ≤ k_) ∧ k_ ≠ gb213) (.slice A0_10 l0_10.length c0_10) l0_10) ∧ (w'.heap[gb213]? = some (.cells #[.int .i64 a0_0, .int .i64 a0_1, .int .i64 a0_2, .int .i64 a0_3, .int .i64 a0_4, .bool a0_5, .bool a0_6, .bool a0_7, .bool a0_8, .slice A0_9 l0_9.length c0_9, .slice A0_10 l0_10.length c0_10] 52 (0, 0))) ∧ (Below w.heap.size w w') ∧ (b 6 = true → b 23 = false → Kd.R (Kd.int .u8) 5 w' w.heap.size (fun k_ => (w.heap.size ≤ k_)) v219 y218) ∧ (b 9 = true → b 23 = false → Kd.R (Kd.int .u8) 5 w' w.heap.size (fun k_ => (w.heap.size ≤ k_)) v222 t221) ∧ (b 12 = true → b 23 = false → Kd.R (Kd.int .u8) 5 w' w.heap.size (fun k_ => (w.heap.size ≤ k_)) v225 t224) ∧ (b 22 = true → b 23 = false → Kd.R (Kd.int .u8) 5 w' w.heap.size (fun k_ => (w.heap.size ≤ k_)) v228 y227) ∧ (b 23 = true → Kd.N (Kd.slice 5 (Kd.int .u8)) 22 w' w.heap.size (fun k_ => (P0_10_ k_ ∨ w.heap.size ≤ k_) ∧ k_ ≠ gb213) v231 y230) ∧ (b 24 = true → Kd.R (Kd.int .u8) 5 w' w.heap.size (fun k_ => (w.heap.size ≤ k_)) v234 t233) ∧ (b 25 = true → (m25_ : Value) = v234)) HT_.out HW_.out (by kernel_rfl) (by kernel_rfl) ?_ ?_ ?_
 ·exact ⟨.bool false, .bool false, .bool false, .bool false, .bool false, .bool false, .bool false, by simp only [putSel, Bool.false_eq_true, if_false], HO0_10.out, BK213.out, HB.out, fun h_ => absurd h_ (by decide), fun h_ => absurd h_ (by decide), fun h_ => absurd h_ (by decide), fun h_ => absurd h_ (by decide), fun h_ => absurd h_ (by decide), fun h_ => absurd h_ (by decide), fun h_ => absurd h_ (by decide)⟩
 ·skip
  clear BK213 HB HO0_10
  refine steps_cons ?_ ?_
  ·rintro b a w' ⟨v219, v222, v225, v228, v231, v234, m25_, ha, Q_HO0_10, Q_BK213, Q_HB, Q_HO220, Q_HO223, Q_HO226, Q_HO229, Q_HO232, Q_HO235, Q_X25_⟩ hb_ hon hoff
   refine ⟨_, rfl, fun K hK => ?_⟩
   have e22 : a.tmps[22]? = some (.pointer (some ⟨gb213, 0, none⟩)) := by rw [ha]; exact (putSel_off rfl).trans rfl
   replace ha := Aside0.mk ha
   have HO0_10 := Aside0.mk Q_HO0_10; have BK213 := Aside0.mk Q_BK213; have HB := Aside0.mk Q_HB
   have hc0_ : w'.cell? ⟨gb213, 0, none⟩ = some (.int .i64 a0_0) := bc_ BK213 0
   have hc1_ : w'.cell? ⟨gb213, 1, none⟩ = some (.int .i64 a0_1) := bc_ BK213 1
   have hc2_ : w'.cell? ⟨gb213, 2, none⟩ = some (.int .i64 a0_2) := bc_ BK213 2
   have hc3_ : w'.cell? ⟨gb213, 3, none⟩ = some (.int .i64 a0_3) := bc_ BK213 3
   have hc4_ : w'.cell? ⟨gb213, 4, none⟩ = some (.int .i64 a0_4) := bc_ BK213 4
   have hc5_ : w'.cell? ⟨gb213, 5, none⟩ = some (.bool a0_5) := bc_ BK213 5
   have hc6_ : w'.cell? ⟨gb213, 6, none⟩ = some (.bool a0_6) := bc_ BK213 6
   have hc7_ : w'.cell? ⟨gb213, 7, none⟩ = some (.bool a0_7) := bc_ BK213 7
   have hc8_ : w'.cell? ⟨gb213, 8, none⟩ = some (.bool a0_8) := bc_ BK213 8
   have hc9_ : w'.cell? ⟨gb213, 9, none⟩ = some (.slice A0_9 l0_9.length c0_9) := bc_ BK213 9
   have hc10_ : w'.cell? ⟨gb213, 10, none⟩ = some (.slice A0_10 l0_10.length c0_10) := bc_ BK213 10
   refine value_ (w1 := w') (v := .int .i64 a0_0) (by rfl) rfl ?_ ?_
   ·go_simp
    (try simp only [i64_w])
    try rfl
   refine hK.out _ _ ⟨v219, v222, v225, v228, v231, v234, m25_, (by rw [ha.out]; exact putSel_upk 0 hb_ rfl rfl rfl), Q_HO0_10, Q_BK213, Q_HB, fun h0_ _ => absurd ((hoff 6 (by kernel_rfl)).symm.trans h0_) (by decide), Q_HO223, Q_HO226, Q_HO229, fun h0_ => absurd ((hoff 23 (by kernel_rfl)).symm.trans h0_) (by decide), fun h0_ => absurd ((hoff 24 (by kernel_rfl)).symm.trans h0_) (by decide), fun h0_ => absurd ((hoff 25 (by kernel_rfl)).symm.trans h0_) (by decide)⟩
  refine steps_cons ?_ ?_
  ·rintro b a w' ⟨v219, v222, v225, v228, v231, v234, m25_, ha, Q_HO0_10, Q_BK213, Q_HB, Q_HO220, Q_HO223, Q_HO226, Q_HO229, Q_HO232, Q_HO235, Q_X25_⟩ hb_ hon hoff
   refine ⟨_, rfl, fun K hK => ?_⟩
   have e23 : a.tmps[23]? = some (.int .i64 a0_0) := by rw [ha]; exact putSel_on (e := (1, 23, .int .i64 a0_0)) 0 rfl rfl (hon 1 (by kernel_rfl)) rfl
   replace ha := Aside0.mk ha
   have HO0_10 := Aside0.mk Q_HO0_10; have BK213 := Aside0.mk Q_BK213; have HB := Aside0.mk Q_HB
   refine value_ (w1 := w') (v := .int .u8 ((a0_0) % 256)) (by rfl) rfl ?_ ?_
   ·go_simp
    (try simp only [i64_w])
    try rfl
   refine hK.out _ _ ⟨v219, v222, v225, v228, v231, v234, m25_, (by rw [ha.out]; exact putSel_upk 1 hb_ rfl rfl rfl), Q_HO0_10, Q_BK213, Q_HB, fun h0_ _ => absurd ((hoff 6 (by kernel_rfl)).symm.trans h0_) (by decide), Q_HO223, Q_HO226, Q_HO229, fun h0_ => absurd ((hoff 23 (by kernel_rfl)).symm.trans h0_) (by decide), fun h0_ => absurd ((hoff 24 (by kernel_rfl)).symm.trans h0_) (by decide), fun h0_ => absurd ((hoff 25 (by kernel_rfl)).symm.trans h0_) (by decide)⟩
  refine steps_cons ?_ ?_
  ·rintro b a w' ⟨v219, v222, v225, v228, v231, v234, m25_, ha, Q_HO0_10, Q_BK213, Q_HB, Q_HO220, Q_HO223, Q_HO226, Q_HO229, Q_HO232, Q_HO235, Q_X25_⟩ hb_ hon hoff
   refine ⟨_, rfl, fun K hK => ?_⟩
   have e25 : a.tmps[25]? = some (.pointer (some ⟨gb213, 1, none⟩)) := by rw [ha]; exact (putSel_off rfl).trans rfl
   replace ha := Aside0.mk ha
   have HO0_10 := Aside0.mk Q_HO0_10; have BK213 := Aside0.mk Q_BK213; have HB := Aside0.mk Q_HB
   have hc0_ : w'.cell? ⟨gb213, 0, none⟩ = some (.int .i64 a0_0) := bc_ BK213 0
   have hc1_ : w'.cell? ⟨gb213, 1, none⟩ = some (.int .i64 a0_1) := bc_ BK213 1
   have hc2_ : w'.cell? ⟨gb213, 2, none⟩ = some (.int .i64 a0_2) := bc_ BK213 2
   have hc3_ : w'.cell? ⟨gb213, 3, none⟩ = some (.int .i64 a0_3) := bc_ BK213 3
   have hc4_ : w'.cell? ⟨gb213, 4, none⟩ = some (.int .i64 a0_4) := bc_ BK213 4
   have hc5_ : w'.cell? ⟨gb213, 5, none⟩ = some (.bool a0_5) := bc_ BK213 5
   have hc6_ : w'.cell? ⟨gb213, 6, none⟩ = some (.bool a0_6) := bc_ BK213 6
   have hc7_ : w'.cell? ⟨gb213, 7, none⟩ = some (.bool a0_7) := bc_ BK213 7
   have hc8_ : w'.cell? ⟨gb213, 8, none⟩ = some (.bool a0_8) := bc_ BK213 8
   have hc9_ : w'.cell? ⟨gb213, 9, none⟩ = some (.slice A0_9 l0_9.length c0_9) := bc_ BK213 9
   have hc10_ : w'.cell? ⟨gb213, 10, none⟩ = some (.slice A0_10 l0_10.length c0_10) := bc_ BK213 10
   refine value_ (w1 := w') (v := .int .i64 a0_1) (by rfl) rfl ?_ ?_
   ·go_simp
    (try simp only [i64_w])
    try rfl
   refine hK.out _ _ ⟨v219, v222, v225, v228, v231, v234, m25_, (by rw [ha.out]; exact putSel_upk 2 hb_ rfl rfl rfl), Q_HO0_10, Q_BK213, Q_HB, fun h0_ _ => absurd ((hoff 6 (by kernel_rfl)).symm.trans h0_) (by decide), Q_HO223, Q_HO226, Q_HO229, fun h0_ => absurd ((hoff 23 (by kernel_rfl)).symm.trans h0_) (by decide), fun h0_ => absurd ((hoff 24 (by kernel_rfl)).symm.trans h0_) (by decide), fun h0_ => absurd ((hoff 25 (by kernel_rfl)).symm.trans h0_) (by decide)⟩
  refine steps_cons ?_ ?_
  ·rintro b a w' ⟨v219, v222, v225, v228, v231, v234, m25_, ha, Q_HO0_10, Q_BK213, Q_HB, Q_HO220, Q_HO223, Q_HO226, Q_HO229, Q_HO232, Q_HO235, Q_X25_⟩ hb_ hon hoff
   refine ⟨_, rfl, fun K hK => ?_⟩
   have e26 : a.tmps[26]? = some (.int .i64 a0_1) := by rw [ha]; exact putSel_on (e := (4, 26, .int .i64 a0_1)) 2 rfl rfl (hon 4 (by kernel_rfl)) rfl
   replace ha := Aside0.mk ha
   have HO0_10 := Aside0.mk Q_HO0_10; have BK213 := Aside0.mk Q_BK213; have HB := Aside0.mk Q_HB
   refine value_ (w1 := w') (v := .int .u8 ((a0_1) % 256)) (by rfl) rfl ?_ ?_
   ·go_simp
    (try simp only [i64_w])
    try rfl
   refine hK.out _ _ ⟨v219, v222, v225, v228, v231, v234, m25_, (by rw [ha.out]; exact putSel_upk 3 hb_ rfl rfl rfl), Q_HO0_10, Q_BK213, Q_HB, fun h0_ _ => absurd ((hoff 6 (by kernel_rfl)).symm.trans h0_) (by decide), Q_HO223, Q_HO226, Q_HO229, fun h0_ => absurd ((hoff 23 (by kernel_rfl)).symm.trans h0_) (by decide), fun h0_ => absurd ((hoff 24 (by kernel_rfl)).symm.trans h0_) (by decide), fun h0_ => absurd ((hoff 25 (by kernel_rfl)).symm.trans h0_) (by decide)⟩
  refine steps_cons ?_ ?_
  ·rintro b a w' ⟨v219, v222, v225, v228, v231, v234, m25_, ha, Q_HO0_10, Q_BK213, Q_HB, Q_HO220, Q_HO223, Q_HO226, Q_HO229, Q_HO232, Q_HO235, Q_X25_⟩ hb_ hon hoff
   refine ⟨_, rfl, fun K hK => ?_⟩
   have e24 : a.tmps[24]? = some (.int .u8 ((a0_0) % 256)) := by rw [ha]; exact putSel_on (e := (2, 24, .int .u8 ((a0_0) % 256))) 1 rfl rfl (hon 2 (by kernel_rfl)) rfl
   have e27 : a.tmps[27]? = some (.int .u8 ((a0_1) % 256)) := by rw [ha]; exact putSel_on (e := (5, 27, .int .u8 ((a0_1) % 256))) 3 rfl rfl (hon 5 (by kernel_rfl)) rfl
   replace ha := Aside0.mk ha
   have HO0_10 := Aside0.mk Q_HO0_10; have BK213 := Aside0.mk Q_BK213; have HB := Aside0.mk Q_HB
   refine Kd.R_lit_step (Kd.int .u8) _ 5 ?hg (N := 28) ?hd (xs := ([(a0_0) % 256, (a0_1) % 256] : List Int)) (inner := [.int .u8 ((a0_0) % 256), .int .u8 ((a0_1) % 256)]) (ok := fun _ => True) (okp := fun _ => True) ?hr ?hp (fun _ hk => hk) trivial (Below.refl _ _) (Nat.le_refl _) (by simp) ?_; (case hd => rfl); (case hg => rfl); (case hr => first | (go_simp; done) | (go_simp; rfl)); (case hp => exact (Reps.one (show Kd.M (Kd.int .u8) _ _ _ ((a0_0) % 256) [.int .u8 ((a0_0) % 256)] from rfl) (Reps.one (show Kd.M (Kd.int .u8) _ _ _ ((a0_1) % 256) [.int .u8 ((a0_1) % 256)] from rfl) (Reps.none _ _))))
   intro v219 w12 ho13 hb hg_ hnew_
   clear hg_ hnew_
   (first | rw [← Ny218.out] at ho13 | (simp only [Int.reduceToNat] at ho13; rw [← Ny218.out] at ho13))
   have n0_ := Aside0.mk (Kd.V_elder' (kV_ HO0_10.out) (Kd.R_base ho13) hb); have n1_ := Aside0.mk (Kd.R_lower (Kd.R_newM (M := fun k_ => (w.heap.size ≤ k_)) ho13 (below_size (hbA_ HB.out)) (fun k_ h_ => h_)) (below_size (hbA_ HB.out))); have n2_ := (bbA_ BK213 hb); have n3_ := (bs_ HB hb)
   have z_HO223 := fun (h0_ : b 9 = true) (h1_ : b 23 = false) => (show Kd.R (Kd.int .u8) 5 w12 w.heap.size (fun k_ => (w.heap.size ≤ k_)) v222 t221 from by first | exact (Kd.R_elder' (by refine kR_ ?_; exact (Q_HO223 h0_ h1_)) (Kd.R_base ho13) hb) | exact Kd.R_mono (Kd.R_elder' (by refine kR_ ?_; exact (Q_HO223 h0_ h1_)) (Kd.R_base ho13) hb) (fun _ h_ => by first | trivial | exact h_ | exact h_.1))
   have z_HO226 := fun (h0_ : b 12 = true) (h1_ : b 23 = false) => (show Kd.R (Kd.int .u8) 5 w12 w.heap.size (fun k_ => (w.heap.size ≤ k_)) v225 t224 from by first | exact (Kd.R_elder' (by refine kR_ ?_; exact (Q_HO226 h0_ h1_)) (Kd.R_base ho13) hb) | exact Kd.R_mono (Kd.R_elder' (by refine kR_ ?_; exact (Q_HO226 h0_ h1_)) (Kd.R_base ho13) hb) (fun _ h_ => by first | trivial | exact h_ | exact h_.1))
   have z_HO229 := fun (h0_ : b 22 = true) (h1_ : b 23 = false) => (show Kd.R (Kd.int .u8) 5 w12 w.heap.size (fun k_ => (w.heap.size ≤ k_)) v228 y227 from by first | exact (Kd.R_elder' (by refine kR_ ?_; exact (Q_HO229 h0_ h1_)) (Kd.R_base ho13) hb) | exact Kd.R_mono (Kd.R_elder' (by refine kR_ ?_; exact (Q_HO229 h0_ h1_)) (Kd.R_base ho13) hb) (fun _ h_ => by first | trivial | exact h_ | exact h_.1))
   clear HO0_10 BK213 HB; have HO0_10 := n0_; have HO220 := n1_; have BK213 := n2_; have HB := n3_; clear n0_ n1_ n2_ n3_ hb ho13
   refine hK.out _ _ ⟨v219, v222, v225, v228, v231, v234, m25_, (by rw [ha.out]; exact putSel_upk 4 hb_ rfl rfl rfl), (by refine kV_ ?_; first | exact Kd.V_mono HO0_10.out (fun _ hk => ⟨hk.1.1, ⟨hk.2, hk.1.2⟩⟩) | exact Kd.V_mono HO0_10.out (fun _ hk => by simp_all)), (kb_ BK213.out), (hbA_ HB.out), fun _ _ => (by refine kR_ ?_; first | exact Kd.R_mono HO220.out (fun _ hk => hk.1) | exact Kd.R_mono HO220.out (fun _ _ => trivial)), z_HO223, z_HO226, z_HO229, fun h0_ => absurd ((hoff 23 (by kernel_rfl)).symm.trans h0_) (by decide), fun h0_ => absurd ((hoff 24 (by kernel_rfl)).symm.trans h0_) (by decide), fun h0_ => absurd ((hoff 25 (by kernel_rfl)).symm.trans h0_) (by decide)⟩
  refine steps_cons ?_ ?_
  ·rintro b a w' ⟨v219, v222, v225, v228, v231, v234, m25_, ha, Q_HO0_10, Q_BK213, Q_HB, Q_HO220, Q_HO223, Q_HO226, Q_HO229, Q_HO232, Q_HO235, Q_X25_⟩ hb_ hon hoff
   refine ⟨_, rfl, fun K hK => ?_⟩
   have e29 : a.tmps[29]? = some (.pointer (some ⟨gb213, 2, none⟩)) := by rw [ha]; exact (putSel_off rfl).trans rfl
   replace ha := Aside0.mk ha
   have HO0_10 := Aside0.mk Q_HO0_10; have BK213 := Aside0.mk Q_BK213; have HB := Aside0.mk Q_HB
   have hc0_ : w'.cell? ⟨gb213, 0, none⟩ = some (.int .i64 a0_0) := bc_ BK213 0
   have hc1_ : w'.cell? ⟨gb213, 1, none⟩ = some (.int .i64 a0_1) := bc_ BK213 1
   have hc2_ : w'.cell? ⟨gb213, 2, none⟩ = some (.int .i64 a0_2) := bc_ BK213 2
   have hc3_ : w'.cell? ⟨gb213, 3, none⟩ = some (.int .i64 a0_3) := bc_ BK213 3
   have hc4_ : w'.cell? ⟨gb213, 4, none⟩ = some (.int .i64 a0_4) := bc_ BK213 4
   have hc5_ : w'.cell? ⟨gb213, 5, none⟩ = some (.bool a0_5) := bc_ BK213 5
   have hc6_ : w'.cell? ⟨gb213, 6, none⟩ = some (.bool a0_6) := bc_ BK213 6
   have hc7_ : w'.cell? ⟨gb213, 7, none⟩ = some (.bool a0_7) := bc_ BK213 7
   have hc8_ : w'.cell? ⟨gb213, 8, none⟩ = some (.bool a0_8) := bc_ BK213 8
   have hc9_ : w'.cell? ⟨gb213, 9, none⟩ = some (.slice A0_9 l0_9.length c0_9) := bc_ BK213 9
   have hc10_ : w'.cell? ⟨gb213, 10, none⟩ = some (.slice A0_10 l0_10.length c0_10) := bc_ BK213 10
   refine value_ (w1 := w') (v := .int .i64 a0_2) (by rfl) rfl ?_ ?_
   ·go_simp
    (try simp only [i64_w])
    try rfl
   refine hK.out _ _ ⟨v219, v222, v225, v228, v231, v234, m25_, (by rw [ha.out]; exact putSel_upk 5 hb_ rfl rfl rfl), Q_HO0_10, Q_BK213, Q_HB, Q_HO220, fun h0_ _ => absurd ((hoff 9 (by kernel_rfl)).symm.trans h0_) (by decide), fun h0_ _ => absurd ((hoff 12 (by kernel_rfl)).symm.trans h0_) (by decide), Q_HO229, fun h0_ => absurd ((hoff 23 (by kernel_rfl)).symm.trans h0_) (by decide), fun h0_ => absurd ((hoff 24 (by kernel_rfl)).symm.trans h0_) (by decide), fun h0_ => absurd ((hoff 25 (by kernel_rfl)).symm.trans h0_) (by decide)⟩
  refine steps_cons ?_ ?_
  ·rintro b a w' ⟨v219, v222, v225, v228, v231, v234, m25_, ha, Q_HO0_10, Q_BK213, Q_HB, Q_HO220, Q_HO223, Q_HO226, Q_HO229, Q_HO232, Q_HO235, Q_X25_⟩ hb_ hon hoff
   refine ⟨_, rfl, fun K hK => ?_⟩
   have e30 : a.tmps[30]? = some (.int .i64 a0_2) := by rw [ha]; exact putSel_on (e := (8, 30, .int .i64 a0_2)) 5 rfl rfl (hon 8 (by kernel_rfl)) rfl
   replace ha := Aside0.mk ha
   have HO0_10 := Aside0.mk Q_HO0_10; have BK213 := Aside0.mk Q_BK213; have HB := Aside0.mk Q_HB
   refine goes_ Try.func72 (by kernel_rfl) rfl #[.int .i64 a0_2, .int .i64 2] (by rfl) rfl rfl (by first | (simp only [List.map_toArray, List.map_cons, List.map_nil, Act.eval, Array.getD_eq_getD_getElem?, Option.getD_some, e30]; done) | (simp only [List.map_toArray, List.map_cons, List.map_nil, Act.eval, Array.getD_eq_getD_getElem?, Option.getD_some, e30]; rfl)) ?_
   with_reducible refine (impl_bytesOf.calls k a0_2 2 t221 _ A6.out).mono ?_
   rintro e w12 ⟨v222, rfl, ho0, hb⟩
   refine ⟨_, rfl, ?_⟩
   have n0_ := Aside0.mk (Kd.V_elder' (kV_ HO0_10.out) (Kd.R_base ho0) hb); have n1_ := Aside0.mk (Kd.R_lower (Kd.R_newM (M := fun k_ => (w.heap.size ≤ k_)) ho0 (below_size (hbA_ HB.out)) (fun k_ h_ => h_)) (below_size (hbA_ HB.out))); have n2_ := (bbA_ BK213 hb); have n3_ := (bs_ HB hb)
   have z_HO220 := fun (h0_ : b 6 = true) (h1_ : b 23 = false) => (show Kd.R (Kd.int .u8) 5 w12 w.heap.size (fun k_ => (w.heap.size ≤ k_)) v219 y218 from by first | exact (Kd.R_elder' (by refine kR_ ?_; exact (Q_HO220 h0_ h1_)) (Kd.R_base ho0) hb) | exact Kd.R_mono (Kd.R_elder' (by refine kR_ ?_; exact (Q_HO220 h0_ h1_)) (Kd.R_base ho0) hb) (fun _ h_ => by first | trivial | exact h_ | exact h_.1))
   have z_HO229 := fun (h0_ : b 22 = true) (h1_ : b 23 = false) => (show Kd.R (Kd.int .u8) 5 w12 w.heap.size (fun k_ => (w.heap.size ≤ k_)) v228 y227 from by first | exact (Kd.R_elder' (by refine kR_ ?_; exact (Q_HO229 h0_ h1_)) (Kd.R_base ho0) hb) | exact Kd.R_mono (Kd.R_elder' (by refine kR_ ?_; exact (Q_HO229 h0_ h1_)) (Kd.R_base ho0) hb) (fun _ h_ => by first | trivial | exact h_ | exact h_.1))
   clear HO0_10 BK213 HB; have HO0_10 := n0_; have HO223 := n1_; have BK213 := n2_; have HB := n3_; clear n0_ n1_ n2_ n3_; (try clear hb); (try clear hb2); (try clear hk); (try clear hi); (try clear ho0)
   refine hK.out _ _ ⟨v219, v222, v225, v228, v231, v234, m25_, (by rw [ha.out]; exact putSel_upk 6 hb_ rfl rfl rfl), (by refine kV_ ?_; first | exact Kd.V_mono HO0_10.out (fun _ hk => ⟨hk.1.1, ⟨hk.2, hk.1.2⟩⟩) | exact Kd.V_mono HO0_10.out (fun _ hk => by simp_all)), (kb_ BK213.out), (hbA_ HB.out), z_HO220, fun _ _ => (by refine kR_ ?_; first | exact Kd.R_mono HO223.out (fun _ hk => hk.1) | exact Kd.R_mono HO223.out (fun _ _ => trivial)), fun h0_ _ => absurd ((hoff 12 (by kernel_rfl)).symm.trans h0_) (by decide), z_HO229, fun h0_ => absurd ((hoff 23 (by kernel_rfl)).symm.trans h0_) (by decide), fun h0_ => absurd ((hoff 24 (by kernel_rfl)).symm.trans h0_) (by decide), fun h0_ => absurd ((hoff 25 (by kernel_rfl)).symm.trans h0_) (by decide)⟩
  refine steps_cons ?_ ?_
  ·rintro b a w' ⟨v219, v222, v225, v228, v231, v234, m25_, ha, Q_HO0_10, Q_BK213, Q_HB, Q_HO220, Q_HO223, Q_HO226, Q_HO229, Q_HO232, Q_HO235, Q_X25_⟩ hb_ hon hoff
   refine ⟨_, rfl, fun K hK => ?_⟩
   have e32 : a.tmps[32]? = some (.pointer (some ⟨gb213, 3, none⟩)) := by rw [ha]; exact (putSel_off rfl).trans rfl
   replace ha := Aside0.mk ha
   have HO0_10 := Aside0.mk Q_HO0_10; have BK213 := Aside0.mk Q_BK213; have HB := Aside0.mk Q_HB
   have hc0_ : w'.cell? ⟨gb213, 0, none⟩ = some (.int .i64 a0_0) := bc_ BK213 0
   have hc1_ : w'.cell? ⟨gb213, 1, none⟩ = some (.int .i64 a0_1) := bc_ BK213 1
   have hc2_ : w'.cell? ⟨gb213, 2, none⟩ = some (.int .i64 a0_2) := bc_ BK213 2
   have hc3_ : w'.cell? ⟨gb213, 3, none⟩ = some (.int .i64 a0_3) := bc_ BK213 3
   have hc4_ : w'.cell? ⟨gb213, 4, none⟩ = some (.int .i64 a0_4) := bc_ BK213 4
   have hc5_ : w'.cell? ⟨gb213, 5, none⟩ = some (.bool a0_5) := bc_ BK213 5
   have hc6_ : w'.cell? ⟨gb213, 6, none⟩ = some (.bool a0_6) := bc_ BK213 6
   have hc7_ : w'.cell? ⟨gb213, 7, none⟩ = some (.bool a0_7) := bc_ BK213 7
   have hc8_ : w'.cell? ⟨gb213, 8, none⟩ = some (.bool a0_8) := bc_ BK213 8
   have hc9_ : w'.cell? ⟨gb213, 9, none⟩ = some (.slice A0_9 l0_9.length c0_9) := bc_ BK213 9
   have hc10_ : w'.cell? ⟨gb213, 10, none⟩ = some (.slice A0_10 l0_10.length c0_10) := bc_ BK213 10
   refine value_ (w1 := w') (v := .int .i64 a0_3) (by rfl) rfl ?_ ?_
   ·go_simp
    (try simp only [i64_w])
    try rfl
   refine hK.out _ _ ⟨v219, v222, v225, v228, v231, v234, m25_, (by rw [ha.out]; exact putSel_upk 7 hb_ rfl rfl rfl), Q_HO0_10, Q_BK213, Q_HB, Q_HO220, Q_HO223, fun h0_ _ => absurd ((hoff 12 (by kernel_rfl)).symm.trans h0_) (by decide), Q_HO229, fun h0_ => absurd ((hoff 23 (by kernel_rfl)).symm.trans h0_) (by decide), fun h0_ => absurd ((hoff 24 (by kernel_rfl)).symm.trans h0_) (by decide), fun h0_ => absurd ((hoff 25 (by kernel_rfl)).symm.trans h0_) (by decide)⟩
  refine steps_cons ?_ ?_
  ·rintro b a w' ⟨v219, v222, v225, v228, v231, v234, m25_, ha, Q_HO0_10, Q_BK213, Q_HB, Q_HO220, Q_HO223, Q_HO226, Q_HO229, Q_HO232, Q_HO235, Q_X25_⟩ hb_ hon hoff
   refine ⟨_, rfl, fun K hK => ?_⟩
   have e33 : a.tmps[33]? = some (.int .i64 a0_3) := by rw [ha]; exact putSel_on (e := (11, 33, .int .i64 a0_3)) 7 rfl rfl (hon 11 (by kernel_rfl)) rfl
   replace ha := Aside0.mk ha
   have HO0_10 := Aside0.mk Q_HO0_10; have BK213 := Aside0.mk Q_BK213; have HB := Aside0.mk Q_HB
   have HO223 := Aside0.mk (Q_HO223 (hon 9 (by kernel_rfl)) (hoff 23 (by kernel_rfl)))
   refine goes_ Try.func72 (by kernel_rfl) rfl #[.int .i64 a0_3, .int .i64 2] (by rfl) rfl rfl (by first | (simp only [List.map_toArray, List.map_cons, List.map_nil, Act.eval, Array.getD_eq_getD_getElem?, Option.getD_some, e33]; done) | (simp only [List.map_toArray, List.map_cons, List.map_nil, Act.eval, Array.getD_eq_getD_getElem?, Option.getD_some, e33]; rfl)) ?_
   with_reducible refine (impl_bytesOf.calls k a0_3 2 t224 _ A7.out).mono ?_
   rintro e w14 ⟨v225, rfl, ho0, hb⟩
   refine ⟨_, rfl, ?_⟩
   have n0_ := Aside0.mk (Kd.V_elder' (kV_ HO0_10.out) (Kd.R_base ho0) hb); have n1_ := Aside0.mk (Kd.R_elder' (kR_ HO223.out) (Kd.R_base ho0) hb); have n2_ := Aside0.mk (Kd.R_lower (Kd.R_new' (Kd.R_newM (M := fun k_ => (w.heap.size ≤ k_)) ho0 (below_size (hbA_ HB.out)) (fun k_ h_ => h_)) (Kd.R_lt (kR_ HO223.out))) (below_size (hbA_ HB.out))); have n3_ := (bbA_ BK213 hb); have n4_ := (bs_ HB hb)
   have z_HO220 := fun (h0_ : b 6 = true) (h1_ : b 23 = false) => (show Kd.R (Kd.int .u8) 5 w14 w.heap.size (fun k_ => (w.heap.size ≤ k_)) v219 y218 from by first | exact (Kd.R_elder' (by refine kR_ ?_; exact (Q_HO220 h0_ h1_)) (Kd.R_base ho0) hb) | exact Kd.R_mono (Kd.R_elder' (by refine kR_ ?_; exact (Q_HO220 h0_ h1_)) (Kd.R_base ho0) hb) (fun _ h_ => by first | trivial | exact h_ | exact h_.1))
   have z_HO229 := fun (h0_ : b 22 = true) (h1_ : b 23 = false) => (show Kd.R (Kd.int .u8) 5 w14 w.heap.size (fun k_ => (w.heap.size ≤ k_)) v228 y227 from by first | exact (Kd.R_elder' (by refine kR_ ?_; exact (Q_HO229 h0_ h1_)) (Kd.R_base ho0) hb) | exact Kd.R_mono (Kd.R_elder' (by refine kR_ ?_; exact (Q_HO229 h0_ h1_)) (Kd.R_base ho0) hb) (fun _ h_ => by first | trivial | exact h_ | exact h_.1))
   clear HO0_10 HO223 BK213 HB; have HO0_10 := n0_; have HO223 := n1_; have HO226 := n2_; have BK213 := n3_; have HB := n4_; clear n0_ n1_ n2_ n3_ n4_; (try clear hb); (try clear hb2); (try clear hk); (try clear hi); (try clear ho0)
   refine hK.out _ _ ⟨v219, v222, v225, v228, v231, v234, m25_, (by rw [ha.out]; exact putSel_upk 8 hb_ rfl rfl rfl), (by refine kV_ ?_; first | exact Kd.V_mono HO0_10.out (fun _ hk => ⟨hk.1.1, ⟨hk.1.2.1, ⟨hk.2, hk.1.2.2⟩⟩⟩) | exact Kd.V_mono HO0_10.out (fun _ hk => by simp_all)), (kb_ BK213.out), (hbA_ HB.out), z_HO220, fun _ _ => (kR_ HO223.out), fun _ _ => (by refine kR_ ?_; exact Kd.R_mono HO226.out (fun _ hk => op2_ hk)), z_HO229, fun h0_ => absurd ((hoff 23 (by kernel_rfl)).symm.trans h0_) (by decide), fun h0_ => absurd ((hoff 24 (by kernel_rfl)).symm.trans h0_) (by decide), fun h0_ => absurd ((hoff 25 (by kernel_rfl)).symm.trans h0_) (by decide)⟩
  refine steps_cons ?_ ?_
  ·rintro b a w' ⟨v219, v222, v225, v228, v231, v234, m25_, ha, Q_HO0_10, Q_BK213, Q_HB, Q_HO220, Q_HO223, Q_HO226, Q_HO229, Q_HO232, Q_HO235, Q_X25_⟩ hb_ hon hoff
   refine ⟨_, rfl, fun K hK => ?_⟩
   have e35 : a.tmps[35]? = some (.pointer (some ⟨gb213, 4, none⟩)) := by rw [ha]; exact (putSel_off rfl).trans rfl
   replace ha := Aside0.mk ha
   have HO0_10 := Aside0.mk Q_HO0_10; have BK213 := Aside0.mk Q_BK213; have HB := Aside0.mk Q_HB
   have hc0_ : w'.cell? ⟨gb213, 0, none⟩ = some (.int .i64 a0_0) := bc_ BK213 0
   have hc1_ : w'.cell? ⟨gb213, 1, none⟩ = some (.int .i64 a0_1) := bc_ BK213 1
   have hc2_ : w'.cell? ⟨gb213, 2, none⟩ = some (.int .i64 a0_2) := bc_ BK213 2
   have hc3_ : w'.cell? ⟨gb213, 3, none⟩ = some (.int .i64 a0_3) := bc_ BK213 3
   have hc4_ : w'.cell? ⟨gb213, 4, none⟩ = some (.int .i64 a0_4) := bc_ BK213 4
   have hc5_ : w'.cell? ⟨gb213, 5, none⟩ = some (.bool a0_5) := bc_ BK213 5
   have hc6_ : w'.cell? ⟨gb213, 6, none⟩ = some (.bool a0_6) := bc_ BK213 6
   have hc7_ : w'.cell? ⟨gb213, 7, none⟩ = some (.bool a0_7) := bc_ BK213 7
   have hc8_ : w'.cell? ⟨gb213, 8, none⟩ = some (.bool a0_8) := bc_ BK213 8
   have hc9_ : w'.cell? ⟨gb213, 9, none⟩ = some (.slice A0_9 l0_9.length c0_9) := bc_ BK213 9
   have hc10_ : w'.cell? ⟨gb213, 10, none⟩ = some (.slice A0_10 l0_10.length c0_10) := bc_ BK213 10
   refine value_ (w1 := w') (v := .int .i64 a0_4) (by rfl) rfl ?_ ?_
   ·go_simp
    (try simp only [i64_w])
    try rfl
   refine hK.out _ _ ⟨v219, v222, v225, v228, v231, v234, m25_, (by rw [ha.out]; exact putSel_upk 9 hb_ rfl rfl rfl), Q_HO0_10, Q_BK213, Q_HB, Q_HO220, Q_HO223, Q_HO226, fun h0_ _ => absurd ((hoff 22 (by kernel_rfl)).symm.trans h0_) (by decide), fun h0_ => absurd ((hoff 23 (by kernel_rfl)).symm.trans h0_) (by decide), fun h0_ => absurd ((hoff 24 (by kernel_rfl)).symm.trans h0_) (by decide), fun h0_ => absurd ((hoff 25 (by kernel_rfl)).symm.trans h0_) (by decide)⟩
  refine steps_cons ?_ ?_
  ·rintro b a w' ⟨v219, v222, v225, v228, v231, v234, m25_, ha, Q_HO0_10, Q_BK213, Q_HB, Q_HO220, Q_HO223, Q_HO226, Q_HO229, Q_HO232, Q_HO235, Q_X25_⟩ hb_ hon hoff
   refine ⟨_, rfl, fun K hK => ?_⟩
   have e36 : a.tmps[36]? = some (.int .i64 a0_4) := by rw [ha]; exact putSel_on (e := (14, 36, .int .i64 a0_4)) 9 rfl rfl (hon 14 (by kernel_rfl)) rfl
   replace ha := Aside0.mk ha
   have HO0_10 := Aside0.mk Q_HO0_10; have BK213 := Aside0.mk Q_BK213; have HB := Aside0.mk Q_HB
   refine value_ (w1 := w') (v := .int .u8 ((a0_4) % 256)) (by rfl) rfl ?_ ?_
   ·go_simp
    (try simp only [i64_w])
    try rfl
   refine hK.out _ _ ⟨v219, v222, v225, v228, v231, v234, m25_, (by rw [ha.out]; exact putSel_upk 10 hb_ rfl rfl rfl), Q_HO0_10, Q_BK213, Q_HB, Q_HO220, Q_HO223, Q_HO226, fun h0_ _ => absurd ((hoff 22 (by kernel_rfl)).symm.trans h0_) (by decide), fun h0_ => absurd ((hoff 23 (by kernel_rfl)).symm.trans h0_) (by decide), fun h0_ => absurd ((hoff 24 (by kernel_rfl)).symm.trans h0_) (by decide), fun h0_ => absurd ((hoff 25 (by kernel_rfl)).symm.trans h0_) (by decide)⟩
  refine steps_cons ?_ ?_
  ·rintro b a w' ⟨v219, v222, v225, v228, v231, v234, m25_, ha, Q_HO0_10, Q_BK213, Q_HB, Q_HO220, Q_HO223, Q_HO226, Q_HO229, Q_HO232, Q_HO235, Q_X25_⟩ hb_ hon hoff
   refine ⟨_, rfl, fun K hK => ?_⟩
   have e38 : a.tmps[38]? = some (.int .i64 (wrap64 ((wrap64 ((wrap64 (t214 + t215)) + t216)) + t217))) := by rw [ha]; exact (putSel_off rfl).trans rfl
   replace ha := Aside0.mk ha
   have HO0_10 := Aside0.mk Q_HO0_10; have BK213 := Aside0.mk Q_BK213; have HB := Aside0.mk Q_HB
   refine value_ (w1 := w') (v := .int .u8 ((wrap64 ((wrap64 ((wrap64 (t214 + t215)) + t216)) + t217)) % 256)) (by rfl) rfl ?_ ?_
   ·go_simp
    (try simp only [i64_w])
    try rfl
   refine hK.out _ _ ⟨v219, v222, v225, v228, v231, v234, m25_, (by rw [ha.out]; exact putSel_upk 11 hb_ rfl rfl rfl), Q_HO0_10, Q_BK213, Q_HB, Q_HO220, Q_HO223, Q_HO226, fun h0_ _ => absurd ((hoff 22 (by kernel_rfl)).symm.trans h0_) (by decide), fun h0_ => absurd ((hoff 23 (by kernel_rfl)).symm.trans h0_) (by decide), fun h0_ => absurd ((hoff 24 (by kernel_rfl)).symm.trans h0_) (by decide), fun h0_ => absurd ((hoff 25 (by kernel_rfl)).symm.trans h0_) (by decide)⟩
  refine steps_cons ?_ ?_
  ·rintro b a w' ⟨v219, v222, v225, v228, v231, v234, m25_, ha, Q_HO0_10, Q_BK213, Q_HB, Q_HO220, Q_HO223, Q_HO226, Q_HO229, Q_HO232, Q_HO235, Q_X25_⟩ hb_ hon hoff
   refine ⟨_, rfl, fun K hK => ?_⟩
   have e40 : a.tmps[40]? = some (.pointer (some ⟨gb213, 9, none⟩)) := by rw [ha]; exact (putSel_off rfl).trans rfl
   replace ha := Aside0.mk ha
   have HO0_10 := Aside0.mk Q_HO0_10; have BK213 := Aside0.mk Q_BK213; have HB := Aside0.mk Q_HB
   have hc0_ : w'.cell? ⟨gb213, 0, none⟩ = some (.int .i64 a0_0) := bc_ BK213 0
   have hc1_ : w'.cell? ⟨gb213, 1, none⟩ = some (.int .i64 a0_1) := bc_ BK213 1
   have hc2_ : w'.cell? ⟨gb213, 2, none⟩ = some (.int .i64 a0_2) := bc_ BK213 2
   have hc3_ : w'.cell? ⟨gb213, 3, none⟩ = some (.int .i64 a0_3) := bc_ BK213 3
   have hc4_ : w'.cell? ⟨gb213, 4, none⟩ = some (.int .i64 a0_4) := bc_ BK213 4
   have hc5_ : w'.cell? ⟨gb213, 5, none⟩ = some (.bool a0_5) := bc_ BK213 5
   have hc6_ : w'.cell? ⟨gb213, 6, none⟩ = some (.bool a0_6) := bc_ BK213 6
   have hc7_ : w'.cell? ⟨gb213, 7, none⟩ = some (.bool a0_7) := bc_ BK213 7
   have hc8_ : w'.cell? ⟨gb213, 8, none⟩ = some (.bool a0_8) := bc_ BK213 8
   have hc9_ : w'.cell? ⟨gb213, 9, none⟩ = some (.slice A0_9 l0_9.length c0_9) := bc_ BK213 9
   have hc10_ : w'.cell? ⟨gb213, 10, none⟩ = some (.slice A0_10 l0_10.length c0_10) := bc_ BK213 10
   refine value_ (w1 := w') (v := .slice A0_9 l0_9.length c0_9) (by rfl) rfl ?_ ?_
   ·go_simp
    (try simp only [i64_w])
    try rfl
   refine hK.out _ _ ⟨v219, v222, v225, v228, v231, v234, m25_, (by rw [ha.out]; exact putSel_upk 12 hb_ rfl rfl rfl), Q_HO0_10, Q_BK213, Q_HB, Q_HO220, Q_HO223, Q_HO226, fun h0_ _ => absurd ((hoff 22 (by kernel_rfl)).symm.trans h0_) (by decide), fun h0_ => absurd ((hoff 23 (by kernel_rfl)).symm.trans h0_) (by decide), fun h0_ => absurd ((hoff 24 (by kernel_rfl)).symm.trans h0_) (by decide), fun h0_ => absurd ((hoff 25 (by kernel_rfl)).symm.trans h0_) (by decide)⟩
  refine steps_cons ?_ ?_
  ·rintro b a w' ⟨v219, v222, v225, v228, v231, v234, m25_, ha, Q_HO0_10, Q_BK213, Q_HB, Q_HO220, Q_HO223, Q_HO226, Q_HO229, Q_HO232, Q_HO235, Q_X25_⟩ hb_ hon hoff
   refine ⟨_, rfl, fun K hK => ?_⟩
   have e41 : a.tmps[41]? = some (.slice A0_9 l0_9.length c0_9) := by rw [ha]; exact putSel_on (e := (19, 41, .slice A0_9 l0_9.length c0_9)) 12 rfl rfl (hon 19 (by kernel_rfl)) rfl
   replace ha := Aside0.mk ha
   have HO0_10 := Aside0.mk Q_HO0_10; have BK213 := Aside0.mk Q_BK213; have HB := Aside0.mk Q_HB
   refine value_ (w1 := w') (v := .int .i64 (l0_9.length : Int)) (by rfl) rfl ?_ ?_
   ·go_simp
    (try simp only [i64_w])
    try rfl
   refine hK.out _ _ ⟨v219, v222, v225, v228, v231, v234, m25_, (by rw [ha.out]; exact putSel_upk 13 hb_ rfl rfl rfl), Q_HO0_10, Q_BK213, Q_HB, Q_HO220, Q_HO223, Q_HO226, fun h0_ _ => absurd ((hoff 22 (by kernel_rfl)).symm.trans h0_) (by decide), fun h0_ => absurd ((hoff 23 (by kernel_rfl)).symm.trans h0_) (by decide), fun h0_ => absurd ((hoff 24 (by kernel_rfl)).symm.trans h0_) (by decide), fun h0_ => absurd ((hoff 25 (by kernel_rfl)).symm.trans h0_) (by decide)⟩
  refine steps_cons ?_ ?_
  ·rintro b a w' ⟨v219, v222, v225, v228, v231, v234, m25_, ha, Q_HO0_10, Q_BK213, Q_HB, Q_HO220, Q_HO223, Q_HO226, Q_HO229, Q_HO232, Q_HO235, Q_X25_⟩ hb_ hon hoff
   refine ⟨_, rfl, fun K hK => ?_⟩
   have e42 : a.tmps[42]? = some (.int .i64 (l0_9.length : Int)) := by rw [ha]; exact putSel_on (e := (20, 42, .int .i64 (l0_9.length : Int))) 13 rfl rfl (hon 20 (by kernel_rfl)) rfl
   replace ha := Aside0.mk ha
   have HO0_10 := Aside0.mk Q_HO0_10; have BK213 := Aside0.mk Q_BK213; have HB := Aside0.mk Q_HB
   refine value_ (w1 := w') (v := .int .u8 (((l0_9.length : Int)) % 256)) (by rfl) rfl ?_ ?_
   ·go_simp
    (try simp only [i64_w])
    try rfl
   refine hK.out _ _ ⟨v219, v222, v225, v228, v231, v234, m25_, (by rw [ha.out]; exact putSel_upk 14 hb_ rfl rfl rfl), Q_HO0_10, Q_BK213, Q_HB, Q_HO220, Q_HO223, Q_HO226, fun h0_ _ => absurd ((hoff 22 (by kernel_rfl)).symm.trans h0_) (by decide), fun h0_ => absurd ((hoff 23 (by kernel_rfl)).symm.trans h0_) (by decide), fun h0_ => absurd ((hoff 24 (by kernel_rfl)).symm.trans h0_) (by decide), fun h0_ => absurd ((hoff 25 (by kernel_rfl)).symm.trans h0_) (by decide)⟩
  refine steps_cons ?_ ?_
  ·rintro b a w' ⟨v219, v222, v225, v228, v231, v234, m25_, ha, Q_HO0_10, Q_BK213, Q_HB, Q_HO220, Q_HO223, Q_HO226, Q_HO229, Q_HO232, Q_HO235, Q_X25_⟩ hb_ hon hoff
   refine ⟨_, rfl, fun K hK => ?_⟩
   have e37 : a.tmps[37]? = some (.int .u8 ((a0_4) % 256)) := by rw [ha]; exact putSel_on (e := (15, 37, .int .u8 ((a0_4) % 256))) 10 rfl rfl (hon 15 (by kernel_rfl)) rfl
   have e39 : a.tmps[39]? = some (.int .u8 ((wrap64 ((wrap64 ((wrap64 (t214 + t215)) + t216)) + t217)) % 256)) := by rw [ha]; exact putSel_on (e := (17, 39, .int .u8 ((wrap64 ((wrap64 ((wrap64 (t214 + t215)) + t216)) + t217)) % 256))) 11 rfl rfl (hon 17 (by kernel_rfl)) rfl
   have e43 : a.tmps[43]? = some (.int .u8 (((l0_9.length : Int)) % 256)) := by rw [ha]; exact putSel_on (e := (21, 43, .int .u8 (((l0_9.length : Int)) % 256))) 14 rfl rfl (hon 21 (by kernel_rfl)) rfl
   replace ha := Aside0.mk ha
   have HO0_10 := Aside0.mk Q_HO0_10; have BK213 := Aside0.mk Q_BK213; have HB := Aside0.mk Q_HB
   refine Kd.R_lit_step (Kd.int .u8) _ 5 ?hg (N := 44) ?hd (xs := ([(a0_4) % 256, (wrap64 ((wrap64 ((wrap64 (t214 + t215)) + t216)) + t217)) % 256, ((l0_9.length : Int)) % 256] : List Int)) (inner := [.int .u8 ((a0_4) % 256), .int .u8 ((wrap64 ((wrap64 ((wrap64 (t214 + t215)) + t216)) + t217)) % 256), .int .u8 (((l0_9.length : Int)) % 256)]) (ok := fun _ => True) (okp := fun _ => True) ?hr ?hp (fun _ hk => hk) trivial (Below.refl _ _) (Nat.le_refl _) (by simp) ?_; (case hd => rfl); (case hg => rfl); (case hr => first | (go_simp; done) | (go_simp; rfl)); (case hp => exact (Reps.one (show Kd.M (Kd.int .u8) _ _ _ ((a0_4) % 256) [.int .u8 ((a0_4) % 256)] from rfl) (Reps.one (show Kd.M (Kd.int .u8) _ _ _ ((wrap64 ((wrap64 ((wrap64 (t214 + t215)) + t216)) + t217)) % 256) [.int .u8 ((wrap64 ((wrap64 ((wrap64 (t214 + t215)) + t216)) + t217)) % 256)] from rfl) (Reps.one (show Kd.M (Kd.int .u8) _ _ _ (((l0_9.length : Int)) % 256) [.int .u8 (((l0_9.length : Int)) % 256)] from rfl) (Reps.none _ _)))))
   intro v228 w12 ho13 hb hg_ hnew_
   clear hg_ hnew_
   (first | rw [← Ny227.out] at ho13 | (simp only [Int.reduceToNat] at ho13; rw [← Ny227.out] at ho13))
   have n0_ := Aside0.mk (Kd.V_elder' (kV_ HO0_10.out) (Kd.R_base ho13) hb); have n1_ := Aside0.mk (Kd.R_lower (Kd.R_newM (M := fun k_ => (w.heap.size ≤ k_)) ho13 (below_size (hbA_ HB.out)) (fun k_ h_ => h_)) (below_size (hbA_ HB.out))); have n2_ := (bbA_ BK213 hb); have n3_ := (bs_ HB hb)
   have z_HO220 := fun (h0_ : b 6 = true) (h1_ : b 23 = false) => (show Kd.R (Kd.int .u8) 5 w12 w.heap.size (fun k_ => (w.heap.size ≤ k_)) v219 y218 from by first | exact (Kd.R_elder' (by refine kR_ ?_; exact (Q_HO220 h0_ h1_)) (Kd.R_base ho13) hb) | exact Kd.R_mono (Kd.R_elder' (by refine kR_ ?_; exact (Q_HO220 h0_ h1_)) (Kd.R_base ho13) hb) (fun _ h_ => by first | trivial | exact h_ | exact h_.1))
   have z_HO223 := fun (h0_ : b 9 = true) (h1_ : b 23 = false) => (show Kd.R (Kd.int .u8) 5 w12 w.heap.size (fun k_ => (w.heap.size ≤ k_)) v222 t221 from by first | exact (Kd.R_elder' (by refine kR_ ?_; exact (Q_HO223 h0_ h1_)) (Kd.R_base ho13) hb) | exact Kd.R_mono (Kd.R_elder' (by refine kR_ ?_; exact (Q_HO223 h0_ h1_)) (Kd.R_base ho13) hb) (fun _ h_ => by first | trivial | exact h_ | exact h_.1))
   have z_HO226 := fun (h0_ : b 12 = true) (h1_ : b 23 = false) => (show Kd.R (Kd.int .u8) 5 w12 w.heap.size (fun k_ => (w.heap.size ≤ k_)) v225 t224 from by first | exact (Kd.R_elder' (by refine kR_ ?_; exact (Q_HO226 h0_ h1_)) (Kd.R_base ho13) hb) | exact Kd.R_mono (Kd.R_elder' (by refine kR_ ?_; exact (Q_HO226 h0_ h1_)) (Kd.R_base ho13) hb) (fun _ h_ => by first | trivial | exact h_ | exact h_.1))
   clear HO0_10 BK213 HB; have HO0_10 := n0_; have HO229 := n1_; have BK213 := n2_; have HB := n3_; clear n0_ n1_ n2_ n3_ hb ho13
   refine hK.out _ _ ⟨v219, v222, v225, v228, v231, v234, m25_, (by rw [ha.out]; exact putSel_upk 15 hb_ rfl rfl rfl), (by refine kV_ ?_; first | exact Kd.V_mono HO0_10.out (fun _ hk => ⟨hk.1.1, ⟨hk.2, hk.1.2⟩⟩) | exact Kd.V_mono HO0_10.out (fun _ hk => by simp_all)), (kb_ BK213.out), (hbA_ HB.out), z_HO220, z_HO223, z_HO226, fun _ _ => (by refine kR_ ?_; first | exact Kd.R_mono HO229.out (fun _ hk => hk.1) | exact Kd.R_mono HO229.out (fun _ _ => trivial)), fun h0_ => absurd ((hoff 23 (by kernel_rfl)).symm.trans h0_) (by decide), fun h0_ => absurd ((hoff 24 (by kernel_rfl)).symm.trans h0_) (by decide), fun h0_ => absurd ((hoff 25 (by kernel_rfl)).symm.trans h0_) (by decide)⟩
  refine steps_cons ?_ ?_
  ·rintro b a w' ⟨v219, v222, v225, v228, v231, v234, m25_, ha, Q_HO0_10, Q_BK213, Q_HB, Q_HO220, Q_HO223, Q_HO226, Q_HO229, Q_HO232, Q_HO235, Q_X25_⟩ hb_ hon hoff
   refine ⟨_, rfl, fun K hK => ?_⟩
   have e28 : a.tmps[28]? = some (v219) := by rw [ha]; exact putSel_on (e := (6, 28, v219)) 4 rfl rfl (hon 6 (by kernel_rfl)) rfl
   have e31 : a.tmps[31]? = some (v222) := by rw [ha]; exact putSel_on (e := (9, 31, v222)) 6 rfl rfl (hon 9 (by kernel_rfl)) rfl
   have e34 : a.tmps[34]? = some (v225) := by rw [ha]; exact putSel_on (e := (12, 34, v225)) 8 rfl rfl (hon 12 (by kernel_rfl)) rfl
   have e44 : a.tmps[44]? = some (v228) := by rw [ha]; exact putSel_on (e := (22, 44, v228)) 15 rfl rfl (hon 22 (by kernel_rfl)) rfl
   replace ha := Aside0.mk ha
   have HO0_10 := Aside0.mk Q_HO0_10; have BK213 := Aside0.mk Q_BK213; have HB := Aside0.mk Q_HB
   have HO220 := Aside0.mk (Q_HO220 (hon 6 (by kernel_rfl)) hb_)
   have HO223 := Aside0.mk (Q_HO223 (hon 9 (by kernel_rfl)) hb_)
   have HO226 := Aside0.mk (Q_HO226 (hon 12 (by kernel_rfl)) hb_)
   have HO229 := Aside0.mk (Q_HO229 (hon 22 (by kernel_rfl)) hb_)
   obtain ⟨Ao19, co19, eo19⟩ := Kd.R_slice HO220.out
   (first | subst eo19 | (injection eo19 with f1_ f2_ f3_; have f4_ := f1_.symm; have f5_ := f3_.symm; clear f1_ f2_ f3_; subst f4_; subst f5_))
   obtain ⟨Ao20, co20, eo20⟩ := Kd.R_slice HO223.out
   (first | subst eo20 | (injection eo20 with f1_ f2_ f3_; have f4_ := f1_.symm; have f5_ := f3_.symm; clear f1_ f2_ f3_; subst f4_; subst f5_))
   obtain ⟨Ao21, co21, eo21⟩ := Kd.R_slice HO226.out
   (first | subst eo21 | (injection eo21 with f1_ f2_ f3_; have f4_ := f1_.symm; have f5_ := f3_.symm; clear f1_ f2_ f3_; subst f4_; subst f5_))
   obtain ⟨Ao22, co22, eo22⟩ := Kd.R_slice HO229.out
   (first | subst eo22 | (injection eo22 with f1_ f2_ f3_; have f4_ := f1_.symm; have f5_ := f3_.symm; clear f1_ f2_ f3_; subst f4_; subst f5_))
   refine Kd.N_lit_step (Kd.slice 5 (Kd.int .u8)) _ 22 ?hg (N' := 45) ?hd (xs := ([y218, t221, t224, y227] : List (List Int))) (inner := [.slice Ao19 y218.length co19, .slice Ao20 t221.length co20, .slice Ao21 t224.length co21, .slice Ao22 y227.length co22]) (ok := (fun k_ => (P0_10_ k_ ∨ w.heap.size ≤ k_) ∧ k_ ≠ gb213)) (okp := (fun k_ => (P0_10_ k_ ∨ w.heap.size ≤ k_) ∧ k_ ≠ gb213)) ?hr ?hp (fun _ hk => hk) ((show ∀ k_, w'.heap.size ≤ k_ → (fun k_ => (P0_10_ k_ ∨ w.heap.size ≤ k_) ∧ k_ ≠ gb213) k_ from fun k_ hk => ⟨(.inr (Nat.le_trans (below_size (hbA_ HB.out)) hk)), fb_ BK213 k_ hk⟩) _ (Nat.le_refl _)) (Below.refl _ _) (Nat.le_refl _) (by simp) ?_; (case hd => rfl); (case hg => rfl); (case hr => first | (go_simp; done) | (go_simp; rfl)); (case hp => exact (Reps.one (show Kd.FK (Kd.slice 5 (Kd.int .u8)) _ _ y218 [.slice Ao19 y218.length co19] from (Kd.FK_slice_mk (Kd.R_reads' (Kd.R_mono (ok' := (fun k_ => (P0_10_ k_ ∨ w.heap.size ≤ k_) ∧ k_ ≠ gb213)) (Kd.R_types (HO220.out) BK213.out (by decide)) (fun k_ hk => ⟨(.inr (by first | exact hk.1.1 | exact hk.1)), hk.2⟩))).2.1 (Kd.R_F (Kd.R_mono (ok' := (fun k_ => (P0_10_ k_ ∨ w.heap.size ≤ k_) ∧ k_ ≠ gb213)) (Kd.R_types (HO220.out) BK213.out (by decide)) (fun k_ hk => ⟨(.inr (by first | exact hk.1.1 | exact hk.1)), hk.2⟩))))) (Reps.one (show Kd.FK (Kd.slice 5 (Kd.int .u8)) _ _ t221 [.slice Ao20 t221.length co20] from (Kd.FK_slice_mk (Kd.R_reads' (Kd.R_mono (ok' := (fun k_ => (P0_10_ k_ ∨ w.heap.size ≤ k_) ∧ k_ ≠ gb213)) (Kd.R_types (HO223.out) BK213.out (by decide)) (fun k_ hk => ⟨(.inr (by first | exact hk.1.1 | exact hk.1)), hk.2⟩))).2.1 (Kd.R_F (Kd.R_mono (ok' := (fun k_ => (P0_10_ k_ ∨ w.heap.size ≤ k_) ∧ k_ ≠ gb213)) (Kd.R_types (HO223.out) BK213.out (by decide)) (fun k_ hk => ⟨(.inr (by first | exact hk.1.1 | exact hk.1)), hk.2⟩))))) (Reps.one (show Kd.FK (Kd.slice 5 (Kd.int .u8)) _ _ t224 [.slice Ao21 t224.length co21] from (Kd.FK_slice_mk (Kd.R_reads' (Kd.R_mono (ok' := (fun k_ => (P0_10_ k_ ∨ w.heap.size ≤ k_) ∧ k_ ≠ gb213)) (Kd.R_types (HO226.out) BK213.out (by decide)) (fun k_ hk => ⟨(.inr (by first | exact hk.1.1 | exact hk.1)), hk.2⟩))).2.1 (Kd.R_F (Kd.R_mono (ok' := (fun k_ => (P0_10_ k_ ∨ w.heap.size ≤ k_) ∧ k_ ≠ gb213)) (Kd.R_types (HO226.out) BK213.out (by decide)) (fun k_ hk => ⟨(.inr (by first | exact hk.1.1 | exact hk.1)), hk.2⟩))))) (Reps.one (show Kd.FK (Kd.slice 5 (Kd.int .u8)) _ _ y227 [.slice Ao22 y227.length co22] from (Kd.FK_slice_mk (Kd.R_reads' (Kd.R_mono (ok' := (fun k_ => (P0_10_ k_ ∨ w.heap.size ≤ k_) ∧ k_ ≠ gb213)) (Kd.R_types (HO229.out) BK213.out (by decide)) (fun k_ hk => ⟨(.inr (by first | exact hk.1.1 | exact hk.1)), hk.2⟩))).2.1 (Kd.R_F (Kd.R_mono (ok' := (fun k_ => (P0_10_ k_ ∨ w.heap.size ≤ k_) ∧ k_ ≠ gb213)) (Kd.R_types (HO229.out) BK213.out (by decide)) (fun k_ hk => ⟨(.inr (by first | exact hk.1.1 | exact hk.1)), hk.2⟩))))) (Reps.none _ _))))))
   intro v231 w23 ho24 hb hg_ hnew_
   clear hg_ hnew_
   (first | rw [← Ny230.out] at ho24 | (simp only [Int.reduceToNat] at ho24; rw [← Ny230.out] at ho24))
   have n0_ := Aside0.mk (Kd.V_elder' (kV_ HO0_10.out) (Kd.base_ ho24) hb); have n1_ := Aside0.mk (Kd.N_lower ho24 (below_size (hbA_ HB.out))); have n2_ := (bbA_ BK213 hb); have n3_ := (bs_ HB hb); clear HO0_10 BK213 HB HO220 HO223 HO226 HO229; have HO0_10 := n0_; have HO232 := n1_; have BK213 := n2_; have HB := n3_; clear n0_ n1_ n2_ n3_ hb ho24
   refine hK.out _ _ ⟨.slice Ao19 y218.length co19, .slice Ao20 t221.length co20, .slice Ao21 t224.length co21, .slice Ao22 y227.length co22, v231, v234, m25_, (by rw [ha.out]; exact putSel_upk 16 hb_ rfl rfl rfl), (by refine kV_ ?_; first | exact Kd.V_mono HO0_10.out (fun _ hk => ⟨hk.1.1, ⟨hk.2, hk.1.2.2.2.2.2⟩⟩) | exact Kd.V_mono HO0_10.out (fun _ hk => by simp_all)), (kb_ BK213.out), (hbA_ HB.out), fun _ h1_ => absurd ((up_self b 23).symm.trans h1_) (by decide), fun _ h1_ => absurd ((up_self b 23).symm.trans h1_) (by decide), fun _ h1_ => absurd ((up_self b 23).symm.trans h1_) (by decide), fun _ h1_ => absurd ((up_self b 23).symm.trans h1_) (by decide), fun _ => (kN_ HO232.out), fun h0_ => absurd ((hoff 24 (by kernel_rfl)).symm.trans h0_) (by decide), fun h0_ => absurd ((hoff 25 (by kernel_rfl)).symm.trans h0_) (by decide)⟩
  refine steps_cons ?_ ?_
  ·rintro b a w' ⟨v219, v222, v225, v228, v231, v234, m25_, ha, Q_HO0_10, Q_BK213, Q_HB, Q_HO220, Q_HO223, Q_HO226, Q_HO229, Q_HO232, Q_HO235, Q_X25_⟩ hb_ hon hoff
   refine ⟨_, rfl, fun K hK => ?_⟩
   have e45 : a.tmps[45]? = some (v231) := by rw [ha]; exact putSel_on (e := (23, 45, v231)) 16 rfl rfl (hon 23 (by kernel_rfl)) rfl
   replace ha := Aside0.mk ha
   have HO0_10 := Aside0.mk Q_HO0_10; have BK213 := Aside0.mk Q_BK213; have HB := Aside0.mk Q_HB
   have HO232 := Aside0.mk (Q_HO232 (hon 23 (by kernel_rfl)))
   obtain ⟨Ao25, co25, eo25⟩ := Kd.N_slice HO232.out
   (first | subst eo25 | (injection eo25 with f1_ f2_ f3_; have f4_ := f1_.symm; have f5_ := f3_.symm; clear f1_ f2_ f3_; subst f4_; subst f5_))
   refine goes_ Try.func71 (by kernel_rfl) rfl #[.slice Ao25 y230.length co25] (by rfl) rfl rfl (by first | (simp only [List.map_toArray, List.map_cons, List.map_nil, Act.eval, Array.getD_eq_getD_getElem?, Option.getD_some, e45]; done) | (simp only [List.map_toArray, List.map_cons, List.map_nil, Act.eval, Array.getD_eq_getD_getElem?, Option.getD_some, e45]; rfl)) ?_
   with_reducible refine (slices_Concat_byte_byte.calls k _ _ y230 t233 _ ?side1 ?side2 A8.out).mono ?_
   (case side1 => exact kC_ (Kd.N_reads' HO232.out).2.2)
   (case side2 => exact (Kd.N_reads' HO232.out).2.1)
   rintro e w26 ⟨v234, rfl, ho0, hb⟩
   refine ⟨_, rfl, ?_⟩
   replace HO0_10 := Aside0.mk (Kd.V_elder' (kV_ HO0_10.out) (Kd.R_base ho0) hb); replace HO232 := Aside0.mk (Kd.N_elder' (kN_ HO232.out) (Kd.R_base ho0) hb); have HO235 := Aside0.mk (Kd.R_lower (Kd.R_newM (M := fun k_ => (w.heap.size ≤ k_)) ho0 (below_size (hbA_ HB.out)) (fun k_ h_ => h_)) (below_size (hbA_ HB.out))); replace BK213 := (bbA_ BK213 hb); replace HB := (bs_ HB hb); (try clear hb); (try clear hb2); (try clear hk); (try clear hi); (try clear ho0)
   refine hK.out _ _ ⟨v219, v222, v225, v228, .slice Ao25 y230.length co25, v234, m25_, (by rw [ha.out]; exact putSel_upk 17 hb_ rfl rfl rfl), (by refine kV_ ?_; first | exact Kd.V_mono HO0_10.out (fun _ hk => ⟨hk.1.1, ⟨hk.1.2.1, ⟨hk.2, hk.1.2.2⟩⟩⟩) | exact Kd.V_mono HO0_10.out (fun _ hk => by simp_all)), (kb_ BK213.out), (hbA_ HB.out), fun _ h1_ => absurd ((hon 23 (by kernel_rfl)).symm.trans h1_) (by decide), fun _ h1_ => absurd ((hon 23 (by kernel_rfl)).symm.trans h1_) (by decide), fun _ h1_ => absurd ((hon 23 (by kernel_rfl)).symm.trans h1_) (by decide), fun _ h1_ => absurd ((hon 23 (by kernel_rfl)).symm.trans h1_) (by decide), fun _ => (by refine kN_ ?_; first | exact Kd.N_mono HO232.out (fun _ hk => ⟨hk.1.1, ⟨hk.2, hk.1.2⟩⟩) | exact Kd.N_mono HO232.out (fun _ hk => by simp_all)), fun _ => (by refine kR_ ?_; first | exact Kd.R_mono HO235.out (fun _ hk => hk.1) | exact Kd.R_mono HO235.out (fun _ _ => trivial)), fun h0_ => absurd ((hoff 25 (by kernel_rfl)).symm.trans h0_) (by decide)⟩
  refine steps_cons ?_ ?_
  ·rintro b a w' ⟨v219, v222, v225, v228, v231, v234, m25_, ha, Q_HO0_10, Q_BK213, Q_HB, Q_HO220, Q_HO223, Q_HO226, Q_HO229, Q_HO232, Q_HO235, Q_X25_⟩ hb_ hon hoff
   refine ⟨_, rfl, fun K hK => ?_⟩
   have e46 : a.tmps[46]? = some (v234) := by rw [ha]; exact putSel_on (e := (24, 46, v234)) 17 rfl rfl (hon 24 (by kernel_rfl)) rfl
   replace ha := Aside0.mk ha
   have HO0_10 := Aside0.mk Q_HO0_10; have BK213 := Aside0.mk Q_BK213; have HB := Aside0.mk Q_HB
   have HO232 := Aside0.mk (Q_HO232 (hon 23 (by kernel_rfl)))
   have HO235 := Aside0.mk (Q_HO235 (hon 24 (by kernel_rfl)))
   refine value_ (w1 := w') (v := v234) (by rfl) rfl ?_ ?_
   ·go_simp
    (try simp only [i64_w])
    try rfl
   refine hK.out _ _ ⟨v219, v222, v225, v228, v231, v234, (v234), (by rw [ha.out]; exact putSel_upk 18 hb_ rfl rfl rfl), Q_HO0_10, Q_BK213, Q_HB, fun _ h1_ => absurd ((hon 23 (by kernel_rfl)).symm.trans h1_) (by decide), fun _ h1_ => absurd ((hon 23 (by kernel_rfl)).symm.trans h1_) (by decide), fun _ h1_ => absurd ((hon 23 (by kernel_rfl)).symm.trans h1_) (by decide), fun _ h1_ => absurd ((hon 23 (by kernel_rfl)).symm.trans h1_) (by decide), Q_HO232, Q_HO235, fun _ => rfl⟩
  exact steps_nil
 rintro b a w26 hall ⟨v219, v222, v225, v228, v231, v234, m25_, ha, Q_HO0_10, Q_BK213, Q_HB, Q_HO220, Q_HO223, Q_HO226, Q_HO229, Q_HO232, Q_HO235, Q_X25_⟩
 clear BK213 HB HO0_10
 have hb1_ := hall 1 (by kernel_rfl)
 have hb2_ := hall 2 (by kernel_rfl)
 have hb4_ := hall 4 (by kernel_rfl)
 have hb5_ := hall 5 (by kernel_rfl)
 have hb6_ := hall 6 (by kernel_rfl)
 have hb8_ := hall 8 (by kernel_rfl)
 have hb9_ := hall 9 (by kernel_rfl)
 have hb11_ := hall 11 (by kernel_rfl)
 have hb12_ := hall 12 (by kernel_rfl)
 have hb14_ := hall 14 (by kernel_rfl)
 have hb15_ := hall 15 (by kernel_rfl)
 have hb17_ := hall 17 (by kernel_rfl)
 have hb19_ := hall 19 (by kernel_rfl)
 have hb20_ := hall 20 (by kernel_rfl)
 have hb21_ := hall 21 (by kernel_rfl)
 have hb22_ := hall 22 (by kernel_rfl)
 have hb23_ := hall 23 (by kernel_rfl)
 have hb24_ := hall 24 (by kernel_rfl)
 have hb25_ := hall 25 (by kernel_rfl)
 subst ha
 obtain rfl := Q_X25_ hb25_
 simp only [putSel, hb1_, hb2_, hb4_, hb5_, hb6_, hb8_, hb9_, hb11_, hb12_, hb14_, hb15_, hb17_, hb19_, hb20_, hb21_, hb22_, hb23_, hb24_, hb25_, if_true, Act.put, List.setIfInBounds_toArray, List.set_cons_zero, List.set_cons_succ]
 have HO0_10 := Aside0.mk Q_HO0_10; clear Q_HO0_10; have BK213 := Aside0.mk Q_BK213; clear Q_BK213; have HB := Aside0.mk Q_HB; clear Q_HB Q_HO220 Q_HO223 Q_HO226 Q_HO229
 have HO232 := Aside0.mk (Q_HO232 hb23_)
 clear Q_HO232
 have HO235 := Aside0.mk (Q_HO235 hb24_)
 clear Q_HO235 hall hb1_ hb2_ hb4_ hb5_ hb6_ hb8_ hb9_ hb11_ hb12_ hb14_ hb15_ hb17_ hb19_ hb20_ hb21_ hb22_ hb23_ hb24_ hb25_; have Z27 := zz11 BK213
 try go_wp2
 go_loopg [4, 50] k (fun kq v4 v50 w' => ∃ (x4_1 : List Int) (x50_1 : Int), v50 = .int .i64 x50_1 ∧ Aside0 (impl_Segment_body.l0 kq x4_1 l0_9 (l0_9.length : Int) x50_1 a0_0 a0_1 a0_2 a0_3 a0_4 a0_5 a0_6 a0_7 a0_8 l0_9 l0_10 = some r) ∧ Aside0 (kq ≤ k) ∧ Aside0 (Kd.R (Kd.int .u8) 5 w' w.heap.size (fun k_ => (w.heap.size ≤ k_)) v4 x4_1) ∧ Aside0 (Kd.V (Kd.int .u8) 5 w' w.heap.size (fun k_ => (P0_10_ k_ ∨ w.heap.size ≤ k_) ∧ some k_ ≠ (v4 : Value).ownBlock ∧ k_ ≠ gb213) (.slice A0_10 l0_10.length c0_10) l0_10) ∧ Aside0 (w'.heap[gb213]? = some (.cells #[.int .i64 a0_0, .int .i64 a0_1, .int .i64 a0_2, .int .i64 a0_3, .int .i64 a0_4, .bool a0_5, .bool a0_6, .bool a0_7, .bool a0_8, (.slice A0_9 l0_9.length c0_9), (.slice A0_10 l0_10.length c0_10)] 52 (0, 0))) ∧ Aside0 (Below w.heap.size w w'))
 case atStart => exact ⟨(t233), (0), (by first | rfl | (simp; done) | (simp [*]; done)), H', ⟨Nat.le_refl _⟩, ⟨kR_ HO235.out⟩, ⟨by refine kV_ ?_; first | exact Kd.V_mono HO0_10.out (fun _ hk => ⟨hk.1, ⟨hk.2.2.1, hk.2.2.2⟩⟩) | exact Kd.V_mono (Kd.V_old hs0_10 (hbA_ HB.out)) (fun k_ hk_ => ⟨.inl hk_.1, by (repeat' apply And.intro) <;> intro e_ <;> first | exact absurd (HO235.out.1 _ e_.symm) (Nat.not_le.2 hk_.2) | (subst e_; exact absurd hk_.2 (Nat.not_lt.2 GE213.out))⟩)⟩, ⟨by refine kb_ ?_; exact BK213.out⟩, ⟨hbA_ HB.out⟩⟩
 case round =>
  clear H'; (try clear c1); (try clear c2); (try clear p2); (try clear c3); (try clear c4); (try clear c5); (try clear c6); (try clear p6); (try clear c7); (try clear c8); (try clear c9); (try clear c10); (try clear Z27)
  obtain ⟨x4_1, x50_1, rfl, HA, HK1, HO_4, HO_214010, BK213, HB⟩ := hrel
  cases gk with
  | zero => exact absurd HA.out (by simp [impl_Segment_body.l0])
  | succ k1 =>
   have H := HA.out; clear HA
   simp only [impl_Segment_body.l0] at H
   by_cases c28 : x50_1 < (l0_9.length : Int)
   ·rw [if_pos c28] at H
    have c28b0 : decide (x50_1 < (l0_9.length : Int)) = true := decide_eq_true c28
    clear c28
    by_cases c29 : 0 ≤ x50_1
    ·rw [if_pos c29] at H
     have c29b0 : decide (0 ≤ x50_1) = true := decide_eq_true c29
     clear c29
     by_cases c30 : x50_1 < (l0_9.length : Int)
     ·rw [if_pos c30] at H
      have c30b0 : decide (x50_1 < (l0_9.length : Int)) = true := decide_eq_true c30
      clear c30
      replace H := Option.bind_eq_some_iff.mp H
      obtain ⟨t247, A310, H⟩ := H
      (try dsimp only at H)
      have A31 := Aside0.mk A310; clear A310
      replace H := Option.bind_eq_some_iff.mp H
      obtain ⟨t250, A320, H⟩ := H
      (try dsimp only at H)
      have A32 := Aside0.mk A320; clear A320
      obtain ⟨y253, hy253⟩ : ∃ y_ : List (List Int), y_ = (([x4_1, t247, t250] : List (List Int))) := ⟨_, rfl⟩
      (first | replace H := sb_ hy253 H | rw [← hy253] at H)
      have Ny253 := Aside0.mk hy253; clear hy253
      replace H := Option.bind_eq_some_iff.mp H
      obtain ⟨t256, A330, H⟩ := H
      (try dsimp only at H)
      have A33 := Aside0.mk A330; clear A330
      have H' := Aside0.mk H
      clear H
      have p245 : 0 ≤ (x50_1 : Int) := of_decide_eq_true (by first | (with_reducible assumption) | assumption)
      have q245 : x50_1 < (l0_9.length : Int) := of_decide_eq_true (by first | (with_reducible assumption) | assumption)
      obtain ⟨ad245, e245, hx245_0, hx245_1⟩ := at_T90 HR0_9.out x50_1 p245 q245
      cases e245
      replace hx245_0 := cc_ HB hx245_0
      replace hx245_1 := cc_ HB hx245_1
      replace p245 := eq_true p245
      replace q245 := eq_true q245
      try go_wp2_with (first | ((with_reducible refine gate_dst (N := 6) rfl ?_); refine box_ (N := 6) (cs := #[.int .i64 0, .int .i64 0]) (t := 90) (fun gb246 hg w34 hbox hb => ?_); replace HO_4 := Aside0.mk (Kd.R_below (kR_ HO_4.out) hb); replace HO_214010 := Aside0.mk (Kd.V_below (Kd.V_elderB (kV_ HO_214010.out) gb246 (Nat.le_of_eq hg.symm)) hb); have BK246 := Aside0.mk (hbox); have GW246 := ge_ hg HB; have GE246 := ge_ hg HB; replace HB := (bs_ HB hb); have NB213_246 := nl_ hg BK213; have NB246_213 := ng_ hg BK213; replace BK213 := (bbA_ BK213 hb); clear hb hbox hg; have hnb35 := NB246_213.out; have hnc35 := NB213_246.out; have Z36 := zz2 BK246))
      obtain ⟨w37, h_w37⟩ : ∃ w_, ((w34.setCell ⟨gb246, 0, none⟩ (.int .i64 ((rd_T90 l0_9 x50_1).f0))).setCell ⟨gb246, 1, none⟩ (.int .i64 ((rd_T90 l0_9 x50_1).f1))) = w_ := ⟨_, rfl⟩
      have n0_ : Aside0 (Kd.R (Kd.int .u8) 5 w37 w.heap.size (fun k_ => (w.heap.size ≤ k_)) u4 x4_1) := ⟨by subst h_w37; refine kR_ ?_; exact rfm_ ((Kd.R_types HO_4.out BK246.out (by decide))) (fun _ hk => hk.1)⟩
      have n1_ : Aside0 (Kd.V (Kd.int .u8) 5 w37 w.heap.size (fun k_ => (P0_10_ k_ ∨ w.heap.size ≤ k_) ∧ some k_ ≠ (u4 : Value).ownBlock ∧ k_ ≠ gb213 ∧ k_ ≠ gb246) (.slice A0_10 l0_10.length c0_10) l0_10) := ⟨by subst h_w37; refine kV_ ?_; exact nfV_ gb246 HO_214010.out (fun _ hk => hk.2) (fun _ hk => ⟨hk.1.1.1, ⟨hk.1.1.2.1, ⟨hk.1.1.2.2, hk.1.2⟩⟩⟩)⟩
      have n2_ : Aside0 (w37.heap[gb213]? = some (.cells #[.int .i64 a0_0, .int .i64 a0_1, .int .i64 a0_2, .int .i64 a0_3, .int .i64 a0_4, .bool a0_5, .bool a0_6, .bool a0_7, .bool a0_8, .slice (some ad245) l0_9.length c0_9, .slice A0_10 l0_10.length c0_10] 52 (0, 0))) := ⟨by subst h_w37; exact kf_ BK213.out⟩
      have n3_ : Aside0 (w37.heap[gb246]? = some (.cells #[.int .i64 ((rd_T90 l0_9 x50_1).f0), .int .i64 ((rd_T90 l0_9 x50_1).f1)] 90 (0, 0))) := ⟨by subst h_w37; refine kb_ ?_; refine pz2 (cs := #[.int .i64 0, .int .i64 0]) ?_; refine kb_ ?_; exact BK246.out⟩
      have n4_ : Aside0 (Below w.heap.size w w37) := ⟨by subst h_w37; exact hbA_ HB.out⟩
      (try clear HO_4); (try clear HO_214010); (try clear BK213); (try clear BK246); (try clear HB)
      (try rw [h_w37]); clear h_w37
      have HO_4 := n0_; have HO_214010 := n1_; have BK213 := n2_; have BK246 := n3_; have HB := n4_; clear n0_ n1_ n2_ n3_ n4_; replace HO_4 := Aside0.mk (Kd.R_drew HO_4.out); replace HO_214010 := Aside0.mk (Kd.V_drew HO_214010.out); replace BK213 := Aside0.mk (blk_drew BK213.out); replace BK246 := Aside0.mk (blk_drew BK246.out); replace HB := (bd_ HB)
      refine start_ (n := 10) (S := fun w' => w'.cell? ⟨gb246, 0, none⟩ = some (.int .i64 ((rd_T90 l0_9 x50_1).f0)) ∧ w'.cell? ⟨gb246, 1, none⟩ = some (.int .i64 ((rd_T90 l0_9 x50_1).f1))) (ds := []) #[false, false, false, false, false, false, false, false, false, false] (by kernel_rfl) rfl rfl (cz2 BK246.out) (fun hHeld => ?_); refine with_tabW impl_Segment_body.tab6 impl_Segment_body.bits6 (fun HT_ HW_ => ?_)
      generalize w37.drew = w38 at HO_4 HO_214010 BK213 BK246 HB hHeld ⊢
      refine pu_ (i := 0) (N := some 54) HT_ ?_; refine pu_ (i := 1) (N := some 55) HT_ ?_; refine pu_ (i := 4) (N := some 58) HT_ ?_; refine tk_ (i := 2) (N := some 56) HT_ HW_ hHeld ?_; refine tk_ (i := 5) (N := some 59) HT_ HW_ hHeld ?_
      refine on_ (i := 3) (N := some 57) HT_ (fun K hK => ?_)
      refine goes_ Try.func72 (by kernel_rfl) rfl #[.int .i64 ((rd_T90 l0_9 x50_1).f0), .int .i64 2] (by rfl) rfl rfl ar_ ?_
      with_reducible refine (impl_bytesOf.calls k1 ((rd_T90 l0_9 x50_1).f0) 2 t247 _ A31.out).mono ?_
      rintro e w39 ⟨v248, rfl, ho0, hb⟩
      refine ⟨_, rfl, ?_⟩
      replace HO_214010 := Aside0.mk (Kd.V_elder' (kV_ HO_214010.out) (Kd.R_base ho0) hb); have HO249 := Aside0.mk (Kd.R_lower (Kd.R_new' (Kd.R_newM (M := fun k_ => (w.heap.size ≤ k_)) ho0 (below_size (hbA_ HB.out)) (fun k_ h_ => h_)) (Kd.R_lt (kR_ HO_4.out))) (below_size (hbA_ HB.out))); replace HO_4 := Aside0.mk (Kd.R_elder' (kR_ HO_4.out) (Kd.R_base ho0) hb); replace BK213 := (bbA_ BK213 hb); replace BK246 := (bbA_ BK246 hb); replace HB := (bs_ HB hb); (try clear hb); (try clear hb2); (try clear hk); (try clear hi); (try clear ho0)
      refine hK.out _ _ (cz2 BK246.out) (fun hHeld => ?_)
      clear hK K; refine nm_ 57 ?_
      refine on_ (i := 6) (N := some 60) HT_ (fun K hK => ?_)
      refine goes_ Try.func72 (by kernel_rfl) rfl #[.int .i64 ((rd_T90 l0_9 x50_1).f1), .int .i64 2] (by rfl) rfl rfl ar_ ?_
      with_reducible refine (impl_bytesOf.calls k1 ((rd_T90 l0_9 x50_1).f1) 2 t250 _ A32.out).mono ?_
      rintro e w40 ⟨v251, rfl, ho0, hb⟩
      refine ⟨_, rfl, ?_⟩
      replace HO_214010 := Aside0.mk (Kd.V_elder' (kV_ HO_214010.out) (Kd.R_base ho0) hb); have HO252 := Aside0.mk (Kd.R_lower (Kd.R_new' (Kd.R_new' (Kd.R_newM (M := fun k_ => (w.heap.size ≤ k_)) ho0 (below_size (hbA_ HB.out)) (fun k_ h_ => h_)) (Kd.R_lt (kR_ HO_4.out))) (Kd.R_lt (kR_ HO249.out))) (below_size (hbA_ HB.out))); replace HO_4 := Aside0.mk (Kd.R_elder' (kR_ HO_4.out) (Kd.R_base ho0) hb); replace HO249 := Aside0.mk (Kd.R_elder' (kR_ HO249.out) (Kd.R_base ho0) hb); replace BK213 := (bbA_ BK213 hb); replace BK246 := (bbA_ BK246 hb); replace HB := (bs_ HB hb); (try clear hb); (try clear hb2); (try clear hk); (try clear hi); (try clear ho0)
      obtain ⟨Ao41, co41, eo41⟩ := Kd.R_slice HO_4.out
      (first | subst eo41 | (injection eo41 with f1_ f2_ f3_; have f4_ := f1_.symm; have f5_ := f3_.symm; clear f1_ f2_ f3_; subst f4_; subst f5_))
      obtain ⟨Ao42, co42, eo42⟩ := Kd.R_slice HO249.out
      (first | subst eo42 | (injection eo42 with f1_ f2_ f3_; have f4_ := f1_.symm; have f5_ := f3_.symm; clear f1_ f2_ f3_; subst f4_; subst f5_))
      obtain ⟨Ao43, co43, eo43⟩ := Kd.R_slice HO252.out
      (first | subst eo43 | (injection eo43 with f1_ f2_ f3_; have f4_ := f1_.symm; have f5_ := f3_.symm; clear f1_ f2_ f3_; subst f4_; subst f5_))
      refine hK.out _ _ (cz2 BK246.out) (fun hHeld => ?_)
      clear hK K; refine nm_ 60 ?_
      refine on_ (i := 7) (N := some 61) HT_ (fun K hK => ?_)
      refine Kd.N_lit_step (Kd.slice 5 (Kd.int .u8)) _ 22 ?hg (N' := 61) ?hd (xs := ([x4_1, t247, t250] : List (List Int))) (inner := [.slice Ao41 x4_1.length co41, .slice Ao42 t247.length co42, .slice Ao43 t250.length co43]) (ok := (fun k_ => (P0_10_ k_ ∨ w.heap.size ≤ k_) ∧ k_ ≠ gb213 ∧ k_ ≠ gb246)) (okp := (fun k_ => (P0_10_ k_ ∨ w.heap.size ≤ k_) ∧ k_ ≠ gb213 ∧ k_ ≠ gb246)) ?hr ?hp (fun _ hk => hk) ((show ∀ k_, w40.heap.size ≤ k_ → (fun k_ => (P0_10_ k_ ∨ w.heap.size ≤ k_) ∧ k_ ≠ gb213 ∧ k_ ≠ gb246) k_ from fun k_ hk => ⟨(.inr (Nat.le_trans (below_size (hbA_ HB.out)) hk)), fb_ BK213 k_ hk, fb_ BK246 k_ hk⟩) _ (Nat.le_refl _)) (Below.refl _ _) (Nat.le_refl _) (by simp) ?_; (case hd => rfl); (case hg => rfl); (case hr => first | (go_simp; done) | (go_simp; rfl)); (case hp => exact (Reps.one (show Kd.FK (Kd.slice 5 (Kd.int .u8)) _ _ x4_1 [.slice Ao41 x4_1.length co41] from (Kd.FK_slice_mk (Kd.R_reads' (Kd.R_mono (ok' := (fun k_ => (P0_10_ k_ ∨ w.heap.size ≤ k_) ∧ k_ ≠ gb213 ∧ k_ ≠ gb246)) (Kd.R_types (Kd.R_types (HO_4.out) BK213.out (by decide)) BK246.out (by decide)) (fun k_ hk => ⟨(.inr (hk.1.1.1.1)), ⟨hk.1.2, hk.2⟩⟩))).2.1 (Kd.R_F (Kd.R_mono (ok' := (fun k_ => (P0_10_ k_ ∨ w.heap.size ≤ k_) ∧ k_ ≠ gb213 ∧ k_ ≠ gb246)) (Kd.R_types (Kd.R_types (HO_4.out) BK213.out (by decide)) BK246.out (by decide)) (fun k_ hk => ⟨(.inr (hk.1.1.1.1)), ⟨hk.1.2, hk.2⟩⟩))))) (Reps.one (show Kd.FK (Kd.slice 5 (Kd.int .u8)) _ _ t247 [.slice Ao42 t247.length co42] from (Kd.FK_slice_mk (Kd.R_reads' (Kd.R_mono (ok' := (fun k_ => (P0_10_ k_ ∨ w.heap.size ≤ k_) ∧ k_ ≠ gb213 ∧ k_ ≠ gb246)) (Kd.R_types (Kd.R_types (HO249.out) BK213.out (by decide)) BK246.out (by decide)) (fun k_ hk => ⟨(.inr (hk.1.1.1.1.1)), ⟨hk.1.2, hk.2⟩⟩))).2.1 (Kd.R_F (Kd.R_mono (ok' := (fun k_ => (P0_10_ k_ ∨ w.heap.size ≤ k_) ∧ k_ ≠ gb213 ∧ k_ ≠ gb246)) (Kd.R_types (Kd.R_types (HO249.out) BK213.out (by decide)) BK246.out (by decide)) (fun k_ hk => ⟨(.inr (hk.1.1.1.1.1)), ⟨hk.1.2, hk.2⟩⟩))))) (Reps.one (show Kd.FK (Kd.slice 5 (Kd.int .u8)) _ _ t250 [.slice Ao43 t250.length co43] from (Kd.FK_slice_mk (Kd.R_reads' (Kd.R_mono (ok' := (fun k_ => (P0_10_ k_ ∨ w.heap.size ≤ k_) ∧ k_ ≠ gb213 ∧ k_ ≠ gb246)) (Kd.R_types (Kd.R_types (HO252.out) BK213.out (by decide)) BK246.out (by decide)) (fun k_ hk => ⟨(.inr (hk.1.1.1.1.1)), ⟨hk.1.2, hk.2⟩⟩))).2.1 (Kd.R_F (Kd.R_mono (ok' := (fun k_ => (P0_10_ k_ ∨ w.heap.size ≤ k_) ∧ k_ ≠ gb213 ∧ k_ ≠ gb246)) (Kd.R_types (Kd.R_types (HO252.out) BK213.out (by decide)) BK246.out (by decide)) (fun k_ hk => ⟨(.inr (hk.1.1.1.1.1)), ⟨hk.1.2, hk.2⟩⟩))))) (Reps.none _ _)))))
      intro v254 w44 ho45 hb hg_ hnew_
      clear hg_ hnew_
      (first | rw [← Ny253.out] at ho45 | (simp only [Int.reduceToNat] at ho45; rw [← Ny253.out] at ho45))
      have n0_ := Aside0.mk (Kd.V_elder' (kV_ HO_214010.out) (Kd.base_ ho45) hb); have n1_ := Aside0.mk (Kd.N_lower ho45 (below_size (hbA_ HB.out))); have n2_ := (bbA_ BK213 hb); have n3_ := (bbA_ BK246 hb); have n4_ := (bs_ HB hb); clear HO_214010 BK213 BK246 HB HO249 HO252 HO_4; have HO_214010 := n0_; have HO255 := n1_; have BK213 := n2_; have BK246 := n3_; have HB := n4_; clear n0_ n1_ n2_ n3_ n4_ hb ho45
      obtain ⟨Ao46, co46, eo46⟩ := Kd.N_slice HO255.out
      (first | subst eo46 | (injection eo46 with f1_ f2_ f3_; have f4_ := f1_.symm; have f5_ := f3_.symm; clear f1_ f2_ f3_; subst f4_; subst f5_))
      refine hK.out _ _ (cz2 BK246.out) (fun hHeld => ?_)
      clear hK K; refine nm_ 61 ?_
      refine on_ (i := 8) (N := some 62) HT_ (fun K hK => ?_)
      refine goes_ Try.func71 (by kernel_rfl) rfl #[.slice Ao46 y253.length co46] (by rfl) rfl rfl ar_ ?_
      with_reducible refine (slices_Concat_byte_byte.calls k1 _ _ y253 t256 _ ?side1 ?side2 A33.out).mono ?_
      (case side1 => exact kC_ (Kd.N_reads' HO255.out).2.2)
      (case side2 => exact (Kd.N_reads' HO255.out).2.1)
      rintro e w47 ⟨v257, rfl, ho0, hb⟩
      refine ⟨_, rfl, ?_⟩
      replace HO_214010 := Aside0.mk (Kd.V_elder' (kV_ HO_214010.out) (Kd.R_base ho0) hb); replace HO255 := Aside0.mk (Kd.N_elder' (kN_ HO255.out) (Kd.R_base ho0) hb); have HO258 := Aside0.mk (Kd.R_lower (Kd.R_newM (M := fun k_ => (w.heap.size ≤ k_)) ho0 (below_size (hbA_ HB.out)) (fun k_ h_ => h_)) (below_size (hbA_ HB.out))); replace BK213 := (bbA_ BK213 hb); replace BK246 := (bbA_ BK246 hb); replace HB := (bs_ HB hb); (try clear hb); (try clear hb2); (try clear hk); (try clear hi); (try clear ho0)
      refine hK.out _ _ (cz2 BK246.out) (fun hHeld => ?_)
      clear hK K; refine nm_ 62 ?_; refine pu_ (i := 9) (N := some 4) HT_ ?_
      refine done_ (done_of HT_.out (by kernel_rfl)) ?_
      try go_wp2
      go_roundg k1
      case measure => have := HK1.out; omega
      case rel => exact ⟨(t256), (wrap64 (x50_1 + 1)), (by first | rfl | (simp; done) | (simp [*]; done)), H', ⟨by have := HK1.out; omega⟩, ⟨by refine kR_ ?_; exact Kd.R_mono HO258.out (fun _ hk => hk.1)⟩, ⟨by refine kV_ ?_; exact Kd.V_mono HO_214010.out (fun _ hk => ⟨hk.1.1.1.1.1, ⟨hk.2, hk.1.1.1.1.2.2.1⟩⟩)⟩, ⟨by refine kb_ ?_; exact BK213.out⟩, ⟨hbA_ HB.out⟩⟩
     ·rw [if_neg c30] at H
      exact absurd H (by simp)
    ·rw [if_neg c29] at H
     exact absurd H (by simp)
   ·rw [if_neg c28] at H
    have c28b0 : decide (x50_1 < (l0_9.length : Int)) = false := decide_eq_false c28
    clear c28
    obtain ⟨y236, hy236⟩ : ∃ y_ : List Int, y_ = (([((l0_10.length : Int)) % 256] : List Int)) := ⟨_, rfl⟩
    (first | replace H := sb_ hy236 H | rw [← hy236] at H)
    have Ny236 := Aside0.mk hy236; clear hy236
    obtain ⟨y239, hy239⟩ : ∃ y_ : List (List Int), y_ = (([x4_1, y236, l0_10] : List (List Int))) := ⟨_, rfl⟩
    (first | replace H := sb_ hy239 H | rw [← hy239] at H)
    have Ny239 := Aside0.mk hy239; clear hy239
    replace H := Option.bind_eq_some_iff.mp H
    obtain ⟨t242, A480, H⟩ := H
    (try dsimp only at H)
    have A48 := Aside0.mk A480; clear A480
    obtain rfl := Option.some.inj H
    have Z49 := zz11 BK213
    go_wp2_with (first | ((with_reducible refine gate_dst (N := 69) rfl ?_); refine Kd.R_lit (Kd.int .u8) _ 5 ?hg (N := 69) ?hd (xs := ([((l0_10.length : Int)) % 256] : List Int)) (inner := [.int .u8 (((l0_10.length : Int)) % 256)]) (ok := fun _ => True) (okp := fun _ => True) ?hr ?hp (fun _ hk => hk) trivial (Below.refl _ _) (Nat.le_refl _) (by simp) ?_; (case hd => rfl); (case hg => rfl); (case hr => first | (go_simp; done) | (go_simp; rfl)); (case hp => exact (Reps.one (show Kd.M (Kd.int .u8) _ _ _ (((l0_10.length : Int)) % 256) [.int .u8 (((l0_10.length : Int)) % 256)] from rfl) (Reps.none _ _))); intro v237 w50 ho51 hb hg_ hnew_; clear hg_ hnew_; (first | rw [← Ny236.out] at ho51 | (simp only [Int.reduceToNat] at ho51; rw [← Ny236.out] at ho51)); replace HO_214010 := Aside0.mk (Kd.V_elder' (kV_ HO_214010.out) (Kd.R_base ho51) hb); have HO238 := Aside0.mk (Kd.R_lower (Kd.R_new' (Kd.R_newM (M := fun k_ => (w.heap.size ≤ k_)) ho51 (below_size (hbA_ HB.out)) (fun k_ h_ => h_)) (Kd.R_lt (kR_ HO_4.out))) (below_size (hbA_ HB.out))); replace HO_4 := Aside0.mk (Kd.R_elder' (kR_ HO_4.out) (Kd.R_base ho51) hb); replace BK213 := (bbA_ BK213 hb); replace HB := (bs_ HB hb); clear hb ho51; have Z52 := zz11 BK213; obtain ⟨Ao53, co53, eo53⟩ := Kd.R_slice HO_4.out; subst eo53; obtain ⟨Ao54, co54, eo54⟩ := Kd.R_slice HO238.out; subst eo54) | ((with_reducible refine gate_dst (N := 72) rfl ?_); refine Kd.N_lit (Kd.slice 5 (Kd.int .u8)) _ 22 ?hg (N' := 72) ?hd (xs := ([x4_1, y236, l0_10] : List (List Int))) (inner := [.slice Ao53 x4_1.length co53, .slice Ao54 y236.length co54, .slice A0_10 l0_10.length c0_10]) (ok := (fun k_ => (P0_10_ k_ ∨ w.heap.size ≤ k_) ∧ k_ ≠ gb213)) (okp := (fun k_ => (P0_10_ k_ ∨ w.heap.size ≤ k_) ∧ k_ ≠ gb213)) ?hr ?hp (fun _ hk => hk) ((show ∀ k_, w50.heap.size ≤ k_ → (fun k_ => (P0_10_ k_ ∨ w.heap.size ≤ k_) ∧ k_ ≠ gb213) k_ from fun k_ hk => ⟨(.inr (Nat.le_trans (below_size (hbA_ HB.out)) hk)), fb_ BK213 k_ hk⟩) _ (Nat.le_refl _)) (Below.refl _ _) (Nat.le_refl _) (by simp) ?_; (case hd => rfl); (case hg => rfl); (case hr => first | (go_simp; done) | (go_simp; rfl)); (case hp => exact (Reps.one (show Kd.FK (Kd.slice 5 (Kd.int .u8)) _ _ x4_1 [.slice Ao53 x4_1.length co53] from (Kd.FK_slice_mk (Kd.R_reads' (Kd.R_mono (ok' := (fun k_ => (P0_10_ k_ ∨ w.heap.size ≤ k_) ∧ k_ ≠ gb213)) (Kd.R_types (HO_4.out) BK213.out (by decide)) (fun k_ hk => ⟨(.inr (by first | exact hk.1.1 | exact hk.1)), hk.2⟩))).2.1 (Kd.R_F (Kd.R_mono (ok' := (fun k_ => (P0_10_ k_ ∨ w.heap.size ≤ k_) ∧ k_ ≠ gb213)) (Kd.R_types (HO_4.out) BK213.out (by decide)) (fun k_ hk => ⟨(.inr (by first | exact hk.1.1 | exact hk.1)), hk.2⟩))))) (Reps.one (show Kd.FK (Kd.slice 5 (Kd.int .u8)) _ _ y236 [.slice Ao54 y236.length co54] from (Kd.FK_slice_mk (Kd.R_reads' (Kd.R_mono (ok' := (fun k_ => (P0_10_ k_ ∨ w.heap.size ≤ k_) ∧ k_ ≠ gb213)) (Kd.R_types (HO238.out) BK213.out (by decide)) (fun k_ hk => ⟨(.inr (hk.1.1.1)), hk.2⟩))).2.1 (Kd.R_F (Kd.R_mono (ok' := (fun k_ => (P0_10_ k_ ∨ w.heap.size ≤ k_) ∧ k_ ≠ gb213)) (Kd.R_types (HO238.out) BK213.out (by decide)) (fun k_ hk => ⟨(.inr (hk.1.1.1)), hk.2⟩))))) (Reps.one (show Kd.FK (Kd.slice 5 (Kd.int .u8)) _ _ l0_10 [.slice A0_10 l0_10.length c0_10] from (Kd.FK_slice_mk (Kd.V_reads' (Kd.V_mono (ok' := (fun k_ => (P0_10_ k_ ∨ w.heap.size ≤ k_) ∧ k_ ≠ gb213)) (HO_214010.out) (fun k_ hk => ⟨hk.1.1, hk.1.2.2⟩))).2.1 (Kd.V_F (Kd.V_mono (ok' := (fun k_ => (P0_10_ k_ ∨ w.heap.size ≤ k_) ∧ k_ ≠ gb213)) (HO_214010.out) (fun k_ hk => ⟨hk.1.1, hk.1.2.2⟩))))) (Reps.none _ _))))); intro v240 w55 ho56 hb hg_ hnew_; clear hg_ hnew_; (first | rw [← Ny239.out] at ho56 | (simp only [Int.reduceToNat] at ho56; rw [← Ny239.out] at ho56)); replace HO_214010 := Aside0.mk (Kd.V_elder' (kV_ HO_214010.out) (Kd.base_ ho56) hb); have HO241 := Aside0.mk (Kd.N_lower ho56 (below_size (hbA_ HB.out))); replace BK213 := (bbA_ BK213 hb); replace HB := (bs_ HB hb); clear HO238 HO_4; clear hb ho56; obtain ⟨Ao57, co57, eo57⟩ := Kd.N_slice HO241.out; subst eo57) | ((with_reducible refine gate_callee (f := 71) rfl ?_); refine goesL_ (some 73) rfl rfl Try.func71 (by kernel_rfl) rfl #[.slice Ao57 y239.length co57] rfl ar_ ?_; (with_reducible refine (slices_Concat_byte_byte.calls k1 _ _ y239 t242 _ ?side1 ?side2 A48.out).mono ?_); (case side1 => exact kC_ (Kd.N_reads' HO241.out).2.2); (case side2 => exact (Kd.N_reads' HO241.out).2.1); rintro e w58 ⟨v243, rfl, ho0, hb⟩; refine ⟨_, rfl, ?_⟩; replace HO_214010 := Aside0.mk (Kd.V_elder' (kV_ HO_214010.out) (Kd.R_base ho0) hb); replace HO241 := Aside0.mk (Kd.N_elder' (kN_ HO241.out) (Kd.R_base ho0) hb); have HO244 := Aside0.mk (Kd.R_lower (Kd.R_newM (M := fun k_ => (w.heap.size ≤ k_)) ho0 (below_size (hbA_ HB.out)) (fun k_ h_ => h_)) (below_size (hbA_ HB.out))); replace BK213 := (bbA_ BK213 hb); replace HB := (bs_ HB hb); (try clear hb); (try clear hb2); (try clear hk); (try clear hi); (try clear ho0)))
    go_ret
    exact ⟨_, by first | rfl | (simp [errW_none, errW_some] <;> rfl) | (simp [*, errW_none, errW_some] <;> rfl), by refine kR_ ?_; exact Kd.R_mono HO244.out (fun _ hk => hk.1), hbA_ HB.out⟩
set_option maxHeartbeats 8000000 in
theorem impl_Segment_body.calls (k : Nat) (a0_0 : Int) (a0_1 : Int) (a0_2 : Int) (a0_3 : Int) (a0_4 : Int) (a0_5 : Bool) (a0_6 : Bool) (a0_7 : Bool) (a0_8 : Bool) (A0_9 : Option Addr) (c0_9 : Nat) (l0_9 : List (S90)) (A0_10 : Option Addr) (c0_10 : Nat) (l0_10 : List Int) (r : List Int) (w : World) (hr0_9 : Kd.C k90 w A0_9 l0_9.length l0_9) (hc0_9 : l0_9.length ≤ c0_9) (hr0_10 : Kd.C (Kd.int .u8) w A0_10 l0_10.length l0_10) (hc0_10 : l0_10.length ≤ c0_10) (h : impl_Segment_body.f k a0_0 a0_1 a0_2 a0_3 a0_4 a0_5 a0_6 a0_7 a0_8 l0_9 l0_10 = some r) :
    Calls Try.prog 70 #[.agg #[.int .i64 a0_0, .int .i64 a0_1, .int .i64 a0_2, .int .i64 a0_3, .int .i64 a0_4, .bool a0_5, .bool a0_6, .bool a0_7, .bool a0_8, .slice A0_9 l0_9.length c0_9, .slice A0_10 l0_10.length c0_10]] w fun e w' => ∃ v0_ : Value, e = .returned (v0_) ∧ Kd.R (Kd.int .u8) 5 w' w.heap.size (fun _ => True) v0_ r ∧ Below w.heap.size w w' := by
  refine (impl_Segment_body.callsV k a0_0 a0_1 a0_2 a0_3 a0_4 a0_5 a0_6 a0_7 a0_8 A0_9 c0_9 l0_9 (fun _ => True) A0_10 c0_10 l0_10 r w hr0_9 hc0_9 (Kd.V_mk hc0_10 (fun W_ hW_ => Kd.Heap.C (Kd.heap_int .u8) (fun k_ hlt_ => hW_ k_ trivial hlt_) hr0_10)) h).mono ?_
  rintro e w' ⟨v0_, rfl, ho0, hb⟩
  exact ⟨v0_, rfl, Kd.R_mono ho0 (fun k_ hk_ => trivial), hb⟩
-- NOT PRINTED: function 101 (slices_Chunk_byte_byte)
def impl_added.l0 : Nat → Int → List Int → Int → Int → Option (Int)
 | 0, _, _, _, _ => none
 | k + 1, x3, x6, x7, x8 => if x8 < x7 then (if 0 ≤ x8 then (if x8 < (x6.length : Int) then (if (wrap64 (x3 + (rd x6 x8))) > 65535 then (impl_added.l0 k (wrap64 ((wrap64 (x3 + (rd x6 x8))) - 65535)) x6 x7 (wrap64 (x8 + 1))) else (impl_added.l0 k (wrap64 (x3 + (rd x6 x8))) x6 x7 (wrap64 (x8 + 1)))) else (none)) else (none)) else (some x3)
def impl_added.f (k : Nat) (l0 : List Int) : Option (Int) := impl_added.l0 k 0 l0 (l0.length : Int) 0
theorem impl_added.mono_l : ∀ k, (∀ y0 y1 y2 y3, LeO (impl_added.l0 k y0 y1 y2 y3) (impl_added.l0 (k + 1) y0 y1 y2 y3))
 | 0 => fun _ _ _ _ r h => by simp [impl_added.l0] at h
 | k + 1 => by
  have ih0 := impl_added.mono_l k
  ·intro y0 y1 y2 y3
   unfold impl_added.l0
   repeat' first | (with_reducible first | apply ih0 | exact LeO.refl _ | exact LeO.none _ | refine LeO.ite ?_ ?_ | refine LeO.bind ?_ fun _ => ?_) | apply ih0 | exact LeO.none _ | refine LeO.ite ?_ ?_ | refine LeO.bind ?_ fun _ => ?_
theorem impl_added.mono : ∀ a0 k, LeO (impl_added.f k a0) (impl_added.f (k + 1) a0) := by
 intro a0 k
 have ih0 := impl_added.mono_l k
 unfold impl_added.f
 repeat' first | (with_reducible first | apply ih0 | exact LeO.refl _ | exact LeO.none _ | refine LeO.ite ?_ ?_ | refine LeO.bind ?_ fun _ => ?_) | apply ih0 | exact LeO.none _ | refine LeO.ite ?_ ?_ | refine LeO.bind ?_ fun _ => ?_
set_option maxHeartbeats 8000000 in
set_option maxRecDepth 100000 in
theorem impl_added.calls (k : Nat) (A0 : Option Addr) (c0 : Nat) (l0 : List Int) (r : Int) (w : World) (hr0 : Kd.C (Kd.int .i64) w A0 l0.length l0) (hc0 : l0.length ≤ c0) (h : impl_added.f k l0 = some r) :
  Calls Try.prog 102 #[.slice A0 l0.length c0] w fun e w' => e = .returned (.int .i64 r) ∧ Drawn0 w w' := by
 have HR0 := Aside0.mk hr0; have HC0 := Aside0.mk hc0; clear hr0 hc0
 have H : (impl_added.l0 k 0 l0 (l0.length : Int) 0) = some r := h
 clear h
 have H' := Aside0.mk H
 clear H
 go_enter Try.func102, Try.ntmps102
 go_wp2
 go_loopg [3, 8] k (fun kq v3 v8 w' => ∃ (x3_1 : Int) (x8_1 : Int), v3 = .int .i64 x3_1 ∧ v8 = .int .i64 x8_1 ∧ Aside0 (impl_added.l0 kq x3_1 l0 (l0.length : Int) x8_1 = some r) ∧ Aside0 (kq ≤ k) ∧ Drawn0 w w')
 case atStart => exact ⟨(0), (0), (by first | rfl | (simp; done) | (simp [*]; done)), (by first | rfl | (simp; done) | (simp [*]; done)), H', ⟨Nat.le_refl _⟩, by repeat (first | exact Drawn0.refl _ | apply Drawn0.step)⟩
 case round =>
  clear H'; (try clear c1)
  obtain ⟨x3_1, x8_1, rfl, rfl, HA, HK1, ⟨m1, rfl⟩⟩ := hrel
  cases gk with
  | zero => exact absurd HA.out (by simp [impl_added.l0])
  | succ k1 =>
   have H := HA.out; clear HA
   simp only [impl_added.l0] at H
   by_cases c2 : x8_1 < (l0.length : Int)
   ·rw [if_pos c2] at H
    have c2b0 : decide (x8_1 < (l0.length : Int)) = true := decide_eq_true c2
    clear c2
    by_cases c3 : 0 ≤ x8_1
    ·rw [if_pos c3] at H
     have c3b0 : decide (0 ≤ x8_1) = true := decide_eq_true c3
     clear c3
     by_cases c4 : x8_1 < (l0.length : Int)
     ·rw [if_pos c4] at H
      have c4b0 : decide (x8_1 < (l0.length : Int)) = true := decide_eq_true c4
      clear c4
      by_cases c5 : (wrap64 (x3_1 + (rd l0 x8_1))) > 65535
      ·rw [if_pos c5] at H
       have c5b0 : decide (65535 < (wrap64 (x3_1 + (rd l0 x8_1)))) = true := decide_eq_true c5
       clear c5
       have H' := Aside0.mk H
       clear H
       have p259 : 0 ≤ (x8_1 : Int) := of_decide_eq_true (by first | (with_reducible assumption) | assumption)
       have q259 : x8_1 < (l0.length : Int) := of_decide_eq_true (by first | (with_reducible assumption) | assumption)
       obtain ⟨ad259, e259, hx259_0⟩ := Kd.at_int HR0.out x8_1 p259 q259
       cases e259
       replace p259 := eq_true p259
       replace q259 := eq_true q259
       go_wp2
       go_roundg k1
       case measure => have := HK1.out; omega
       case rel => exact ⟨(wrap64 ((wrap64 (x3_1 + (rd l0 x8_1))) - 65535)), (wrap64 (x8_1 + 1)), (by first | rfl | (simp; done) | (simp [*]; done)), (by first | rfl | (simp; done) | (simp [*]; done)), H', ⟨by have := HK1.out; omega⟩, by repeat (first | exact Drawn0.refl _ | apply Drawn0.step)⟩
      ·rw [if_neg c5] at H
       have c5b0 : decide (65535 < (wrap64 (x3_1 + (rd l0 x8_1)))) = false := decide_eq_false c5
       clear c5
       have H' := Aside0.mk H
       clear H
       have p259 : 0 ≤ (x8_1 : Int) := of_decide_eq_true (by first | (with_reducible assumption) | assumption)
       have q259 : x8_1 < (l0.length : Int) := of_decide_eq_true (by first | (with_reducible assumption) | assumption)
       obtain ⟨ad259, e259, hx259_0⟩ := Kd.at_int HR0.out x8_1 p259 q259
       cases e259
       replace p259 := eq_true p259
       replace q259 := eq_true q259
       go_wp2
       go_roundg k1
       case measure => have := HK1.out; omega
       case rel => exact ⟨(wrap64 (x3_1 + (rd l0 x8_1))), (wrap64 (x8_1 + 1)), (by first | rfl | (simp; done) | (simp [*]; done)), (by first | rfl | (simp; done) | (simp [*]; done)), H', ⟨by have := HK1.out; omega⟩, by repeat (first | exact Drawn0.refl _ | apply Drawn0.step)⟩
     ·rw [if_neg c4] at H
      exact absurd H (by simp)
    ·rw [if_neg c3] at H
     exact absurd H (by simp)
   ·rw [if_neg c2] at H
    have c2b0 : decide (x8_1 < (l0.length : Int)) = false := decide_eq_false c2
    clear c2
    obtain rfl := Option.some.inj H
    go_wp2
    go_ret
    exact ⟨by first | rfl | (simp; done) | (simp [*]; done), by repeat (first | exact Drawn0.refl _ | apply Drawn0.step)⟩
end Go.Proofs.Ytpbeljcgcdilnaa.PFnSegmentFrom
