/- Printed by wip/xp/xprint.sh out of the translation, for this claim: what each function answers, as a plain function, and that the machine does just that. No condition. -/
import Derived.Test.YtpdbnlmdohcgkaaPFnExactPartPutx0
import Derived.Test.YtpdbnlmdohcgkaaPFnExactPartPutx4
import Derived.Test.YtpdbnlmdohcgkaaPFnExactPartPutx5
import Derived.Test.YtpdbnlmdohcgkaaPFnExactPartPutx6
namespace Go.Proofs.Ytpdbnlmdohcgkaa.PFnExactPartPut
open Go.RowKit Go.Proofs.YtpdbnlmdohcgkaaW.PrintWords Go.Proofs.YtpdbnlmdohcgkaaW.PrintLast Go.Proofs.YtpdbnlmdohcgkaaW.PrintMore
attribute [local go_sem] max2_int min2_int max_two min_two max_three min_three max_four min_four   -- for this text's walks alone
set_option linter.unusedVariables false
set_option linter.unusedSimpArgs false
def impl_PartPut.j0 : Nat → Bool → List (S36) → Int → Int → Int → Int → Int → Int → Int → Bool → Bool → List Int → Option ((List (S36)) × Int × Bool)
 | 0, _, _, _, _, _, _, _, _, _, _, _, _ => none
 | k + 1, x22, x287000, x287001, x288000, x288001, x288002, x288003, x288004, x288005, x288006, x288007, x288008 => if x22 = true then (some (([] : List (S36)), 0, false)) else ((impl_Part_put.f k x287000 x287001 x288000 x288001 x288002 x288003 x288004 x288005 x288006 x288007 x288008).bind fun bt293 => (some (bt293.1, bt293.2.1, bt293.2.2)))
def impl_PartPut.f (k : Nat) (l0_0 : List (S36)) (a0_1 : Int) (a1_0 : Int) (a1_1 : Int) (a1_2 : Int) (a1_3 : Int) (a1_4 : Int) (a1_5 : Int) (a1_6 : Bool) (a1_7 : Bool) (l1_8 : List Int) : Option ((List (S36)) × Int × Bool) := (impl_PartOk.f k l0_0 a0_1).bind fun t289 => (if t289 = true then ((impl_PacketOk.f a1_0 a1_1 a1_2 a1_3 a1_4 a1_5 a1_6 a1_7 l1_8).bind fun t290 => (if t290 = true then (if 0 < (l0_0.length : Int) then ((impl_Packet_same.f a1_0 a1_1 a1_2 a1_3 a1_4 a1_5 a1_6 a1_7 l1_8 ((rd_T36 l0_0 0).f0) ((rd_T36 l0_0 0).f1) ((rd_T36 l0_0 0).f2) ((rd_T36 l0_0 0).f3) ((rd_T36 l0_0 0).f4) ((rd_T36 l0_0 0).f5) ((rd_T36 l0_0 0).f6) ((rd_T36 l0_0 0).f7) ((rd_T36 l0_0 0).f8)).bind fun t292 => (impl_PartPut.j0 k (!t292) l0_0 a0_1 a1_0 a1_1 a1_2 a1_3 a1_4 a1_5 a1_6 a1_7 l1_8)) else (none)) else (impl_PartPut.j0 k true l0_0 a0_1 a1_0 a1_1 a1_2 a1_3 a1_4 a1_5 a1_6 a1_7 l1_8))) else (impl_PartPut.j0 k true l0_0 a0_1 a1_0 a1_1 a1_2 a1_3 a1_4 a1_5 a1_6 a1_7 l1_8))
theorem impl_PartPut.mono_l : ∀ k, (∀ y0 y1 y2 y3 y4 y5 y6 y7 y8 y9 y10 y11, LeO (impl_PartPut.j0 k y0 y1 y2 y3 y4 y5 y6 y7 y8 y9 y10 y11) (impl_PartPut.j0 (k + 1) y0 y1 y2 y3 y4 y5 y6 y7 y8 y9 y10 y11))
 | 0 => fun _ _ _ _ _ _ _ _ _ _ _ _ r h => by simp [impl_PartPut.j0] at h
 | k + 1 => by
  have ih0 := impl_PartPut.mono_l k
  ·intro y0 y1 y2 y3 y4 y5 y6 y7 y8 y9 y10 y11
   unfold impl_PartPut.j0
   repeat' first | (with_reducible first | apply ih0 | apply impl_PartOk.mono | apply impl_Part_put.mono | exact LeO.refl _ | exact LeO.none _ | refine LeO.ite ?_ ?_ | refine LeO.bind ?_ fun _ => ?_) | apply ih0 | apply impl_PartOk.mono | apply impl_Part_put.mono | exact LeO.none _ | refine LeO.ite ?_ ?_ | refine LeO.bind ?_ fun _ => ?_
theorem impl_PartPut.mono : ∀ a0 a1 a2 a3 a4 a5 a6 a7 a8 a9 a10 k, LeO (impl_PartPut.f k a0 a1 a2 a3 a4 a5 a6 a7 a8 a9 a10) (impl_PartPut.f (k + 1) a0 a1 a2 a3 a4 a5 a6 a7 a8 a9 a10) := by
 intro a0 a1 a2 a3 a4 a5 a6 a7 a8 a9 a10 k
 have ih0 := impl_PartPut.mono_l k
 unfold impl_PartPut.f
 repeat' first | (with_reducible first | apply ih0 | apply impl_PartOk.mono | apply impl_Part_put.mono | exact LeO.refl _ | exact LeO.none _ | refine LeO.ite ?_ ?_ | refine LeO.bind ?_ fun _ => ?_) | apply ih0 | apply impl_PartOk.mono | apply impl_Part_put.mono | exact LeO.none _ | refine LeO.ite ?_ ?_ | refine LeO.bind ?_ fun _ => ?_
def impl_PartPut.T1 : Bool × List (List Nat × List Nat) := (true, [([], []), ([0], [0]), ([1], [1]), ([2, 1], [2]), ([3], [3]), ([4, 3, 3], [3, 4]), ([5, 3], [3, 5]), ([3, 6], [3, 6]), ([7, 5], [7]), ([8], [8]), ([8], [8]), ([10, 8], [8, 10]), ([11, 8], [8, 11]), ([12, 8], [8, 12]), ([9, 13, 8, 8], [8, 9, 13]), ([14, 8], [8, 14]), ([8, 15], [8, 15])])
def impl_PartPut.B1 : List Nat := [0, 1, 3, 7, 15, 31, 63, 127, 255, 511, 511, 1535, 3583, 7679, 16383, 32767, 65535]
theorem impl_PartPut.tab1 : rtab .any (opsOf Try.f14 1) = impl_PartPut.T1 := by kernel_rfl
theorem impl_PartPut.bits1 : waitsOk impl_PartPut.T1.2 impl_PartPut.B1 = true := by kernel_rfl
set_option maxHeartbeats 8000000 in
set_option maxRecDepth 100000 in
theorem impl_PartPut.calls (k : Nat) (A0_0 : Option Addr) (c0_0 : Nat) (l0_0 : List (S36)) (a0_1 : Int) (a1_0 : Int) (a1_1 : Int) (a1_2 : Int) (a1_3 : Int) (a1_4 : Int) (a1_5 : Int) (a1_6 : Bool) (a1_7 : Bool) (A1_8 : Option Addr) (c1_8 : Nat) (l1_8 : List Int) (r1 : List (S36)) (r2 : Int) (r3 : Bool) (w : World) (hr0_0 : Kd.C k36 w A0_0 l0_0.length l0_0) (hc0_0 : l0_0.length ≤ c0_0) (hr1_8 : Kd.C (Kd.int .u8) w A1_8 l1_8.length l1_8) (hc1_8 : l1_8.length ≤ c1_8) (h : impl_PartPut.f k l0_0 a0_1 a1_0 a1_1 a1_2 a1_3 a1_4 a1_5 a1_6 a1_7 l1_8 = some (r1, r2, r3)) :
  Calls Try.prog 14 #[.agg #[.slice A0_0 l0_0.length c0_0, .int .i64 a0_1], .agg #[.int .i64 a1_0, .int .i64 a1_1, .int .i64 a1_2, .int .i64 a1_3, .int .i64 a1_4, .int .i64 a1_5, .bool a1_6, .bool a1_7, .slice A1_8 l1_8.length c1_8]] w fun e w' => ∃ v0_ : Value, e = .returned (.tuple #[.agg #[v0_, .int .i64 r2], .bool r3]) ∧ Kd.S k36 36 w' w.heap.size (fun _ => True) v0_ r1 ∧ Below w.heap.size w w' := by
 have hu32 := Try.underlying32; have hu36 := Try.underlying36; have HR0_0 := Aside0.mk hr0_0; have HC0_0 := Aside0.mk hc0_0; clear hr0_0 hc0_0; have HR1_8 := Aside0.mk hr1_8; have HC1_8 := Aside0.mk hc1_8; clear hr1_8 hc1_8
 have HB := Aside0.mk (Below.refl w.heap.size w)
 have H : ((impl_PartOk.f k l0_0 a0_1).bind fun t289 => (if t289 = true then ((impl_PacketOk.f a1_0 a1_1 a1_2 a1_3 a1_4 a1_5 a1_6 a1_7 l1_8).bind fun t290 => (if t290 = true then (if 0 < (l0_0.length : Int) then ((impl_Packet_same.f a1_0 a1_1 a1_2 a1_3 a1_4 a1_5 a1_6 a1_7 l1_8 ((rd_T36 l0_0 0).f0) ((rd_T36 l0_0 0).f1) ((rd_T36 l0_0 0).f2) ((rd_T36 l0_0 0).f3) ((rd_T36 l0_0 0).f4) ((rd_T36 l0_0 0).f5) ((rd_T36 l0_0 0).f6) ((rd_T36 l0_0 0).f7) ((rd_T36 l0_0 0).f8)).bind fun t292 => (impl_PartPut.j0 k (!t292) l0_0 a0_1 a1_0 a1_1 a1_2 a1_3 a1_4 a1_5 a1_6 a1_7 l1_8)) else (none)) else (impl_PartPut.j0 k true l0_0 a0_1 a1_0 a1_1 a1_2 a1_3 a1_4 a1_5 a1_6 a1_7 l1_8))) else (impl_PartPut.j0 k true l0_0 a0_1 a1_0 a1_1 a1_2 a1_3 a1_4 a1_5 a1_6 a1_7 l1_8))) = some (r1, r2, r3) := h
 clear h; have HC3 := Aside0.mk H; clear H
 go_enter Try.func14, Try.ntmps14
 go_upto_region 1 with (first | ((with_reducible refine gate_dst (N := 2) rfl ?_); refine box_ (N := 2) (cs := #[.slice A0_0 l0_0.length c0_0, .int .i64 a0_1]) (t := 32) (fun gb286 hg w4 hbox hb => ?_); have BK286 := Aside0.mk (hbox); have GW286 := ge_ hg HB; have GE286 := ge_ hg HB; replace HB := (bs_ HB hb); clear hb hbox hg) | ((with_reducible refine gate_dst (N := 3) rfl ?_); refine box_ (N := 3) (cs := #[.int .i64 a1_0, .int .i64 a1_1, .int .i64 a1_2, .int .i64 a1_3, .int .i64 a1_4, .int .i64 a1_5, .bool a1_6, .bool a1_7, .slice A1_8 l1_8.length c1_8]) (t := 36) (fun gb287 hg w5 hbox hb => ?_); have BK287 := Aside0.mk (hbox); have GW287 := ge_ hg HB; have GE287 := ge_ hg HB; replace HB := (bs_ HB hb); have NB286_287 := nl_ hg BK286; have NB287_286 := ng_ hg BK286; replace BK286 := (bbA_ BK286 hb); clear hb hbox hg) | ((with_reducible refine gate_dst (N := 4) rfl ?_); refine box_ (N := 4) (cs := #[.slice none 0 0, .int .i64 0]) (t := 32) (fun gb288 hg w6 hbox hb => ?_); have BK288 := Aside0.mk (hbox); have GW288 := ge_ hg HB; have GE288 := ge_ hg HB; replace HB := (bs_ HB hb); have NB286_288 := nl_ hg BK286; have NB288_286 := ng_ hg BK286; replace BK286 := (bbA_ BK286 hb); have NB287_288 := nl_ hg BK287; have NB288_287 := ng_ hg BK287; replace BK287 := (bbA_ BK287 hb); clear hb hbox hg))
 (try simp only [Act.put, List.setIfInBounds_toArray, List.set_cons_zero, List.set_cons_succ])
 go_cut [22] (fun v22 wc => ∃ (kq : Nat) (x22_2 : Bool), v22 = .bool x22_2 ∧ Aside0 (impl_PartPut.j0 kq x22_2 l0_0 a0_1 a1_0 a1_1 a1_2 a1_3 a1_4 a1_5 a1_6 a1_7 l1_8 = some (r1, r2, r3)) ∧ Aside0 (kq ≤ k) ∧ Aside0 (wc.heap[gb286]? = some (.cells #[(.slice A0_0 l0_0.length c0_0), .int .i64 a0_1] 32 (0, 0))) ∧ Aside0 (wc.heap[gb287]? = some (.cells #[.int .i64 a1_0, .int .i64 a1_1, .int .i64 a1_2, .int .i64 a1_3, .int .i64 a1_4, .int .i64 a1_5, .bool a1_6, .bool a1_7, (.slice A1_8 l1_8.length c1_8)] 36 (0, 0))) ∧ Aside0 (wc.heap[gb288]? = some (.cells #[(.slice none 0 0), .int .i64 0] 32 (0, 0))) ∧ Aside0 (Below w.heap.size w wc))
 case first =>
  have H := HC3.out; clear HC3
  replace H := Option.bind_eq_some_iff.mp H
  obtain ⟨t289, A70, H⟩ := H
  (try dsimp only at H)
  have A7 := Aside0.mk A70; clear A70
  by_cases c8 : t289 = true
  ·subst c8
   rw [if_pos rfl] at H
   replace H := Option.bind_eq_some_iff.mp H
   obtain ⟨t290, A90, H⟩ := H
   (try dsimp only at H)
   have A9 := Aside0.mk A90; clear A90
   by_cases c10 : t290 = true
   ·subst c10
    rw [if_pos rfl] at H
    by_cases c11 : 0 < (l0_0.length : Int)
    ·rw [if_pos c11] at H
     have c11b0 : decide (0 < (l0_0.length : Int)) = true := decide_eq_true c11
     have c11b1 : decide (0 < l0_0.length) = true := decide_eq_true (by omega)
     clear c11
     (first | rw [c11b0] | (simp only [i64_w, i32_w]; rw [c11b0]) | skip)
     replace H := Option.bind_eq_some_iff.mp H
     obtain ⟨t292, A120, H⟩ := H
     (try dsimp only at H)
     have A12 := Aside0.mk A120; clear A120
     have H' := Aside0.mk H
     clear H
     try go_wp2
     replace BK286 := Aside0.mk (blk_drew BK286.out); replace BK287 := Aside0.mk (blk_drew BK287.out); replace BK288 := Aside0.mk (blk_drew BK288.out); replace HB := (bd_ HB)
     have p291 : 0 ≤ (0 : Int) := (by omega)
     have q291 : 0 < (l0_0.length : Int) := of_decide_eq_true (by first | (with_reducible assumption) | assumption)
     obtain ⟨ad291, A291_8, c291_8, e291, hx291_0, hx291_1, hx291_2, hx291_3, hx291_4, hx291_5, hx291_6, hx291_7, hx291_8, hl291_8, hi291_8⟩ := at_T36 HR0_0.out 0 p291 q291
     (try simp only [show ((0 : Int)).toNat = 0 from rfl, show 0 * 9 = 0 from rfl, Addr.add_zero'] at hx291_0 hx291_1 hx291_2 hx291_3 hx291_4 hx291_5 hx291_6 hx291_7 hx291_8); have hw291_8 := hx291_8; have hw291_7 := hx291_7; have hw291_6 := hx291_6; have hw291_5 := hx291_5; have hw291_4 := hx291_4; have hw291_3 := hx291_3; have hw291_2 := hx291_2; have hw291_1 := hx291_1; have hw291_0 := hx291_0
     cases e291
     have qi291 : (0 < l0_0.length) = True := eq_true (by omega)
     replace hx291_0 := cc_ HB hx291_0
     replace hx291_1 := cc_ HB hx291_1
     replace hx291_2 := cc_ HB hx291_2
     replace hx291_3 := cc_ HB hx291_3
     replace hx291_4 := cc_ HB hx291_4
     replace hx291_5 := cc_ HB hx291_5
     replace hx291_6 := cc_ HB hx291_6
     replace hx291_7 := cc_ HB hx291_7
     replace hx291_8 := cc_ HB hx291_8
     have HR291_8 := Aside0.mk hi291_8; have HC291_8 := Aside0.mk hl291_8; clear hi291_8 hl291_8
     replace p291 := eq_true p291
     replace q291 := eq_true q291
     refine start_ (n := 17) (S := fun w' => w'.cell? ⟨gb286, 0, none⟩ = some (.slice (some ad291) l0_0.length c0_0) ∧ w'.cell? ⟨gb286, 1, none⟩ = some (.int .i64 a0_1) ∧ w'.cell? ⟨gb287, 0, none⟩ = some (.int .i64 a1_0) ∧ w'.cell? ⟨gb287, 1, none⟩ = some (.int .i64 a1_1) ∧ w'.cell? ⟨gb287, 2, none⟩ = some (.int .i64 a1_2) ∧ w'.cell? ⟨gb287, 3, none⟩ = some (.int .i64 a1_3) ∧ w'.cell? ⟨gb287, 4, none⟩ = some (.int .i64 a1_4) ∧ w'.cell? ⟨gb287, 5, none⟩ = some (.int .i64 a1_5) ∧ w'.cell? ⟨gb287, 6, none⟩ = some (.bool a1_6) ∧ w'.cell? ⟨gb287, 7, none⟩ = some (.bool a1_7) ∧ w'.cell? ⟨gb287, 8, none⟩ = some (.slice A1_8 l1_8.length c1_8) ∧ w'.cell? ad291 = some (.int .i64 ((rd_T36 l0_0 0).f0)) ∧ w'.cell? ⟨ad291.block, ad291.off + 1, none⟩ = some (.int .i64 ((rd_T36 l0_0 0).f1)) ∧ w'.cell? ⟨ad291.block, ad291.off + 2, none⟩ = some (.int .i64 ((rd_T36 l0_0 0).f2)) ∧ w'.cell? ⟨ad291.block, ad291.off + 3, none⟩ = some (.int .i64 ((rd_T36 l0_0 0).f3)) ∧ w'.cell? ⟨ad291.block, ad291.off + 4, none⟩ = some (.int .i64 ((rd_T36 l0_0 0).f4)) ∧ w'.cell? ⟨ad291.block, ad291.off + 5, none⟩ = some (.int .i64 ((rd_T36 l0_0 0).f5)) ∧ w'.cell? ⟨ad291.block, ad291.off + 6, none⟩ = some (.bool ((rd_T36 l0_0 0).f6)) ∧ w'.cell? ⟨ad291.block, ad291.off + 7, none⟩ = some (.bool ((rd_T36 l0_0 0).f7)) ∧ w'.cell? ⟨ad291.block, ad291.off + 8, none⟩ = some (.slice A291_8 ((rd_T36 l0_0 0).f8).length c291_8)) (ds := []) #[false, false, false, false, false, false, false, false, false, false, false, false, false, false, false, false, false] (by kernel_rfl) rfl rfl ⟨bc_ BK286 0, bc_ BK286 1, bc_ BK287 0, bc_ BK287 1, bc_ BK287 2, bc_ BK287 3, bc_ BK287 4, bc_ BK287 5, bc_ BK287 6, bc_ BK287 7, bc_ BK287 8, (cc_ HB hw291_0), (cc_ HB hw291_1), (cc_ HB hw291_2), (cc_ HB hw291_3), (cc_ HB hw291_4), (cc_ HB hw291_5), (cc_ HB hw291_6), (cc_ HB hw291_7), (cc_ HB hw291_8)⟩ (fun hHeld => ?_); refine with_tabW impl_PartPut.tab1 impl_PartPut.bits1 (fun HT_ HW_ => ?_)
     generalize w6.drew = w13 at BK286 BK287 BK288 HB HR291_8 hx291_0 hx291_1 hx291_2 hx291_3 hx291_4 hx291_5 hx291_6 hx291_7 hx291_8 hHeld ⊢
     refine tk_ (i := 0) (N := some 6) HT_ HW_ hHeld ?_
     refine on_ (i := 1) (N := some 7) HT_ (fun K hK => ?_)
     refine goes_ Try.func24 (by kernel_rfl) rfl #[.agg #[.slice (some ad291) l0_0.length c0_0, .int .i64 a0_1]] (by rfl) rfl rfl ar_ ?_
     with_reducible refine (impl_PartOk.calls k _ _ l0_0 a0_1 true _ ?side1 ?side2 A7.out).mono ?_
     (case side1 => exact kC_ (Kd.C_below HR0_0.out HB.out))
     (case side2 => exact HC0_0.out)
     rintro e w14 ⟨rfl, hb⟩
     refine ⟨_, rfl, ?_⟩
     replace BK286 := (bbA_ BK286 hb); replace BK287 := (bbA_ BK287 hb); replace BK288 := (bbA_ BK288 hb); replace HB := (bs_ HB hb); (try clear hb); (try clear hb2); (try clear hk); (try clear hi)
     refine hK.out _ _ ⟨bc_ BK286 0, bc_ BK286 1, bc_ BK287 0, bc_ BK287 1, bc_ BK287 2, bc_ BK287 3, bc_ BK287 4, bc_ BK287 5, bc_ BK287 6, bc_ BK287 7, bc_ BK287 8, (by first | exact cc_ HB hw291_0 | exact cc_ ⟨hbA_ HB.out⟩ hw291_0), (by first | exact cc_ HB hw291_1 | exact cc_ ⟨hbA_ HB.out⟩ hw291_1), (by first | exact cc_ HB hw291_2 | exact cc_ ⟨hbA_ HB.out⟩ hw291_2), (by first | exact cc_ HB hw291_3 | exact cc_ ⟨hbA_ HB.out⟩ hw291_3), (by first | exact cc_ HB hw291_4 | exact cc_ ⟨hbA_ HB.out⟩ hw291_4), (by first | exact cc_ HB hw291_5 | exact cc_ ⟨hbA_ HB.out⟩ hw291_5), (by first | exact cc_ HB hw291_6 | exact cc_ ⟨hbA_ HB.out⟩ hw291_6), (by first | exact cc_ HB hw291_7 | exact cc_ ⟨hbA_ HB.out⟩ hw291_7), (by first | exact cc_ HB hw291_8 | exact cc_ ⟨hbA_ HB.out⟩ hw291_8)⟩ (fun hHeld => ?_)
     clear hK K; refine nm_ 7 ?_; refine pu_ (i := 2) (N := some 8) HT_ ?_; refine pu_ (i := 3) (N := some 9) HT_ ?_; refine tk_ (i := 4) (N := some 10) HT_ HW_ hHeld ?_
     refine on_ (i := 5) (N := some 11) HT_ (fun K hK => ?_)
     refine goes_ Try.func42 (by kernel_rfl) rfl #[.agg #[.int .i64 a1_0, .int .i64 a1_1, .int .i64 a1_2, .int .i64 a1_3, .int .i64 a1_4, .int .i64 a1_5, .bool a1_6, .bool a1_7, .slice A1_8 l1_8.length c1_8]] (by rfl) rfl rfl ar_ ?_
     with_reducible refine (impl_PacketOk.calls a1_0 a1_1 a1_2 a1_3 a1_4 a1_5 a1_6 a1_7 _ _ l1_8 true _ ?side1 ?side2 A9.out).mono ?_
     (case side1 => exact kC_ (Kd.C_below HR1_8.out HB.out))
     (case side2 => exact HC1_8.out)
     rintro e w15 ⟨rfl, hb⟩
     refine ⟨_, rfl, ?_⟩
     replace BK286 := (bbA_ BK286 hb); replace BK287 := (bbA_ BK287 hb); replace BK288 := (bbA_ BK288 hb); replace HB := (bs_ HB hb); (try clear hb); (try clear hb2); (try clear hk); (try clear hi)
     refine hK.out _ _ ⟨bc_ BK286 0, bc_ BK286 1, bc_ BK287 0, bc_ BK287 1, bc_ BK287 2, bc_ BK287 3, bc_ BK287 4, bc_ BK287 5, bc_ BK287 6, bc_ BK287 7, bc_ BK287 8, (by first | exact cc_ HB hw291_0 | exact cc_ ⟨hbA_ HB.out⟩ hw291_0), (by first | exact cc_ HB hw291_1 | exact cc_ ⟨hbA_ HB.out⟩ hw291_1), (by first | exact cc_ HB hw291_2 | exact cc_ ⟨hbA_ HB.out⟩ hw291_2), (by first | exact cc_ HB hw291_3 | exact cc_ ⟨hbA_ HB.out⟩ hw291_3), (by first | exact cc_ HB hw291_4 | exact cc_ ⟨hbA_ HB.out⟩ hw291_4), (by first | exact cc_ HB hw291_5 | exact cc_ ⟨hbA_ HB.out⟩ hw291_5), (by first | exact cc_ HB hw291_6 | exact cc_ ⟨hbA_ HB.out⟩ hw291_6), (by first | exact cc_ HB hw291_7 | exact cc_ ⟨hbA_ HB.out⟩ hw291_7), (by first | exact cc_ HB hw291_8 | exact cc_ ⟨hbA_ HB.out⟩ hw291_8)⟩ (fun hHeld => ?_)
     clear hK K; refine nm_ 11 ?_; refine pu_ (i := 6) (N := some 12) HT_ ?_; refine pu_ (i := 7) (N := some 13) HT_ ?_; refine pu_ (i := 8) (N := some 14) HT_ ?_; refine pu_ (i := 10) (N := some 16) HT_ ?_; refine tk_ (i := 9) (N := some 15) HT_ HW_ hHeld ?_; refine tk_ (i := 11) (N := some 17) HT_ HW_ hHeld ?_; refine pu_ (i := 12) (N := some 18) HT_ ?_; refine tk_ (i := 13) (N := some 19) HT_ HW_ hHeld ?_
     refine on_ (i := 14) (N := some 20) HT_ (fun K hK => ?_)
     refine goes_ Try.func51 (by kernel_rfl) rfl #[.agg #[.int .i64 a1_0, .int .i64 a1_1, .int .i64 a1_2, .int .i64 a1_3, .int .i64 a1_4, .int .i64 a1_5, .bool a1_6, .bool a1_7, .slice A1_8 l1_8.length c1_8], .agg #[.int .i64 ((rd_T36 l0_0 0).f0), .int .i64 ((rd_T36 l0_0 0).f1), .int .i64 ((rd_T36 l0_0 0).f2), .int .i64 ((rd_T36 l0_0 0).f3), .int .i64 ((rd_T36 l0_0 0).f4), .int .i64 ((rd_T36 l0_0 0).f5), .bool ((rd_T36 l0_0 0).f6), .bool ((rd_T36 l0_0 0).f7), .slice A291_8 ((rd_T36 l0_0 0).f8).length c291_8]] (by rfl) rfl rfl ar_ ?_
     with_reducible refine (impl_Packet_same.calls a1_0 a1_1 a1_2 a1_3 a1_4 a1_5 a1_6 a1_7 _ _ l1_8 ((rd_T36 l0_0 0).f0) ((rd_T36 l0_0 0).f1) ((rd_T36 l0_0 0).f2) ((rd_T36 l0_0 0).f3) ((rd_T36 l0_0 0).f4) ((rd_T36 l0_0 0).f5) ((rd_T36 l0_0 0).f6) ((rd_T36 l0_0 0).f7) _ _ ((rd_T36 l0_0 0).f8) t292 _ ?side1 ?side2 ?side3 ?side4 A12.out).mono ?_
     (case side1 => exact kC_ (Kd.C_below HR1_8.out HB.out))
     (case side2 => exact HC1_8.out)
     (case side3 => exact kC_ (Kd.C_below HR291_8.out HB.out))
     (case side4 => exact HC291_8.out)
     rintro e w16 ⟨rfl, hb⟩
     refine ⟨_, rfl, ?_⟩
     replace BK286 := (bbA_ BK286 hb); replace BK287 := (bbA_ BK287 hb); replace BK288 := (bbA_ BK288 hb); replace HB := (bs_ HB hb); (try clear hb); (try clear hb2); (try clear hk); (try clear hi)
     refine hK.out _ _ ⟨bc_ BK286 0, bc_ BK286 1, bc_ BK287 0, bc_ BK287 1, bc_ BK287 2, bc_ BK287 3, bc_ BK287 4, bc_ BK287 5, bc_ BK287 6, bc_ BK287 7, bc_ BK287 8, (by first | exact cc_ HB hw291_0 | exact cc_ ⟨hbA_ HB.out⟩ hw291_0), (by first | exact cc_ HB hw291_1 | exact cc_ ⟨hbA_ HB.out⟩ hw291_1), (by first | exact cc_ HB hw291_2 | exact cc_ ⟨hbA_ HB.out⟩ hw291_2), (by first | exact cc_ HB hw291_3 | exact cc_ ⟨hbA_ HB.out⟩ hw291_3), (by first | exact cc_ HB hw291_4 | exact cc_ ⟨hbA_ HB.out⟩ hw291_4), (by first | exact cc_ HB hw291_5 | exact cc_ ⟨hbA_ HB.out⟩ hw291_5), (by first | exact cc_ HB hw291_6 | exact cc_ ⟨hbA_ HB.out⟩ hw291_6), (by first | exact cc_ HB hw291_7 | exact cc_ ⟨hbA_ HB.out⟩ hw291_7), (by first | exact cc_ HB hw291_8 | exact cc_ ⟨hbA_ HB.out⟩ hw291_8)⟩ (fun hHeld => ?_)
     clear hK K; refine nm_ 20 ?_; refine pu_ (i := 15) (N := some 21) HT_ ?_; refine pu_ (i := 16) (N := some 22) HT_ ?_
     refine done_ (done_of HT_.out (by kernel_rfl)) ?_
     try go_wp2
     go_meet
     case rel => exact ⟨_, (!t292), (by first | rfl | (simp; done) | (simp [*]; done)), H', ⟨by first | omega | exact Nat.le_refl _⟩, ⟨by refine kb_ ?_; exact BK286.out⟩, ⟨by refine kb_ ?_; exact BK287.out⟩, ⟨by refine kb_ ?_; exact BK288.out⟩, ⟨hbA_ HB.out⟩⟩
    ·rw [if_neg c11] at H
     exact absurd H (by simp)
   ·replace c10 := Bool.eq_false_iff.mpr c10
    subst c10
    rw [if_neg (show ¬ (false = true) by decide)] at H
    have H' := Aside0.mk H
    clear H
    try go_wp2
    replace BK286 := Aside0.mk (blk_drew BK286.out); replace BK287 := Aside0.mk (blk_drew BK287.out); replace BK288 := Aside0.mk (blk_drew BK288.out); replace HB := (bd_ HB)
    refine start_ (n := 17) (S := fun w' => w'.cell? ⟨gb286, 0, none⟩ = some (.slice A0_0 l0_0.length c0_0) ∧ w'.cell? ⟨gb286, 1, none⟩ = some (.int .i64 a0_1) ∧ w'.cell? ⟨gb287, 0, none⟩ = some (.int .i64 a1_0) ∧ w'.cell? ⟨gb287, 1, none⟩ = some (.int .i64 a1_1) ∧ w'.cell? ⟨gb287, 2, none⟩ = some (.int .i64 a1_2) ∧ w'.cell? ⟨gb287, 3, none⟩ = some (.int .i64 a1_3) ∧ w'.cell? ⟨gb287, 4, none⟩ = some (.int .i64 a1_4) ∧ w'.cell? ⟨gb287, 5, none⟩ = some (.int .i64 a1_5) ∧ w'.cell? ⟨gb287, 6, none⟩ = some (.bool a1_6) ∧ w'.cell? ⟨gb287, 7, none⟩ = some (.bool a1_7) ∧ w'.cell? ⟨gb287, 8, none⟩ = some (.slice A1_8 l1_8.length c1_8)) (ds := []) #[false, false, false, false, false, false, false, false, false, false, false, false, false, false, false, false, false] (by kernel_rfl) rfl rfl ⟨bc_ BK286 0, bc_ BK286 1, bc_ BK287 0, bc_ BK287 1, bc_ BK287 2, bc_ BK287 3, bc_ BK287 4, bc_ BK287 5, bc_ BK287 6, bc_ BK287 7, bc_ BK287 8⟩ (fun hHeld => ?_); refine with_tabW impl_PartPut.tab1 impl_PartPut.bits1 (fun HT_ HW_ => ?_)
    generalize w6.drew = w17 at BK286 BK287 BK288 HB hHeld ⊢
    refine tk_ (i := 0) (N := some 6) HT_ HW_ hHeld ?_
    refine on_ (i := 1) (N := some 7) HT_ (fun K hK => ?_)
    refine goes_ Try.func24 (by kernel_rfl) rfl #[.agg #[.slice A0_0 l0_0.length c0_0, .int .i64 a0_1]] (by rfl) rfl rfl ar_ ?_
    with_reducible refine (impl_PartOk.calls k _ _ l0_0 a0_1 true _ ?side1 ?side2 A7.out).mono ?_
    (case side1 => exact kC_ (Kd.C_below HR0_0.out HB.out))
    (case side2 => exact HC0_0.out)
    rintro e w18 ⟨rfl, hb⟩
    refine ⟨_, rfl, ?_⟩
    replace BK286 := (bbA_ BK286 hb); replace BK287 := (bbA_ BK287 hb); replace BK288 := (bbA_ BK288 hb); replace HB := (bs_ HB hb); (try clear hb); (try clear hb2); (try clear hk); (try clear hi)
    refine hK.out _ _ ⟨bc_ BK286 0, bc_ BK286 1, bc_ BK287 0, bc_ BK287 1, bc_ BK287 2, bc_ BK287 3, bc_ BK287 4, bc_ BK287 5, bc_ BK287 6, bc_ BK287 7, bc_ BK287 8⟩ (fun hHeld => ?_)
    clear hK K; refine nm_ 7 ?_; refine pu_ (i := 2) (N := some 8) HT_ ?_; refine pu_ (i := 3) (N := some 9) HT_ ?_; refine tk_ (i := 4) (N := some 10) HT_ HW_ hHeld ?_
    refine on_ (i := 5) (N := some 11) HT_ (fun K hK => ?_)
    refine goes_ Try.func42 (by kernel_rfl) rfl #[.agg #[.int .i64 a1_0, .int .i64 a1_1, .int .i64 a1_2, .int .i64 a1_3, .int .i64 a1_4, .int .i64 a1_5, .bool a1_6, .bool a1_7, .slice A1_8 l1_8.length c1_8]] (by rfl) rfl rfl ar_ ?_
    with_reducible refine (impl_PacketOk.calls a1_0 a1_1 a1_2 a1_3 a1_4 a1_5 a1_6 a1_7 _ _ l1_8 false _ ?side1 ?side2 A9.out).mono ?_
    (case side1 => exact kC_ (Kd.C_below HR1_8.out HB.out))
    (case side2 => exact HC1_8.out)
    rintro e w19 ⟨rfl, hb⟩
    refine ⟨_, rfl, ?_⟩
    replace BK286 := (bbA_ BK286 hb); replace BK287 := (bbA_ BK287 hb); replace BK288 := (bbA_ BK288 hb); replace HB := (bs_ HB hb); (try clear hb); (try clear hb2); (try clear hk); (try clear hi)
    refine hK.out _ _ ⟨bc_ BK286 0, bc_ BK286 1, bc_ BK287 0, bc_ BK287 1, bc_ BK287 2, bc_ BK287 3, bc_ BK287 4, bc_ BK287 5, bc_ BK287 6, bc_ BK287 7, bc_ BK287 8⟩ (fun hHeld => ?_)
    clear hK K; refine nm_ 11 ?_; refine pu_ (i := 6) (N := some 12) HT_ ?_; refine pu_ (i := 7) (N := some 13) HT_ ?_; refine pu_ (i := 8) (N := some 14) HT_ ?_; refine pn_ (i := 9) (N := some 15) HT_ ?_; refine pn_ (i := 10) (N := some 16) HT_ ?_; refine pn_ (i := 11) (N := some 17) HT_ ?_; refine pn_ (i := 12) (N := some 18) HT_ ?_; refine pn_ (i := 13) (N := some 19) HT_ ?_; refine pn_ (i := 14) (N := some 20) HT_ ?_; refine pn_ (i := 15) (N := some 21) HT_ ?_; refine pu_ (i := 16) (N := some 22) HT_ ?_
    refine done_ (done_of HT_.out (by kernel_rfl)) ?_
    try go_wp2
    go_meet
    case rel => exact ⟨_, (true), (by first | rfl | (simp; done) | (simp [*]; done)), H', ⟨by first | omega | exact Nat.le_refl _⟩, ⟨by refine kb_ ?_; exact BK286.out⟩, ⟨by refine kb_ ?_; exact BK287.out⟩, ⟨by refine kb_ ?_; exact BK288.out⟩, ⟨hbA_ HB.out⟩⟩
  ·replace c8 := Bool.eq_false_iff.mpr c8
   subst c8
   rw [if_neg (show ¬ (false = true) by decide)] at H
   have H' := Aside0.mk H
   clear H
   try go_wp2
   replace BK286 := Aside0.mk (blk_drew BK286.out); replace BK287 := Aside0.mk (blk_drew BK287.out); replace BK288 := Aside0.mk (blk_drew BK288.out); replace HB := (bd_ HB)
   refine start_ (n := 17) (S := fun w' => w'.cell? ⟨gb286, 0, none⟩ = some (.slice A0_0 l0_0.length c0_0) ∧ w'.cell? ⟨gb286, 1, none⟩ = some (.int .i64 a0_1)) (ds := []) #[false, false, false, false, false, false, false, false, false, false, false, false, false, false, false, false, false] (by kernel_rfl) rfl rfl (cz2 BK286.out) (fun hHeld => ?_); refine with_tabW impl_PartPut.tab1 impl_PartPut.bits1 (fun HT_ HW_ => ?_)
   generalize w6.drew = w20 at BK286 BK287 BK288 HB hHeld ⊢
   refine tk_ (i := 0) (N := some 6) HT_ HW_ hHeld ?_
   refine on_ (i := 1) (N := some 7) HT_ (fun K hK => ?_)
   refine goes_ Try.func24 (by kernel_rfl) rfl #[.agg #[.slice A0_0 l0_0.length c0_0, .int .i64 a0_1]] (by rfl) rfl rfl ar_ ?_
   with_reducible refine (impl_PartOk.calls k _ _ l0_0 a0_1 false _ ?side1 ?side2 A7.out).mono ?_
   (case side1 => exact kC_ (Kd.C_below HR0_0.out HB.out))
   (case side2 => exact HC0_0.out)
   rintro e w21 ⟨rfl, hb⟩
   refine ⟨_, rfl, ?_⟩
   replace BK286 := (bbA_ BK286 hb); replace BK287 := (bbA_ BK287 hb); replace BK288 := (bbA_ BK288 hb); replace HB := (bs_ HB hb); (try clear hb); (try clear hb2); (try clear hk); (try clear hi)
   refine hK.out _ _ (cz2 BK286.out) (fun hHeld => ?_)
   clear hK K; refine nm_ 7 ?_; refine pu_ (i := 2) (N := some 8) HT_ ?_; refine pu_ (i := 3) (N := some 9) HT_ ?_; refine pn_ (i := 4) (N := some 10) HT_ ?_; refine pn_ (i := 5) (N := some 11) HT_ ?_; refine pn_ (i := 6) (N := some 12) HT_ ?_; refine pu_ (i := 7) (N := some 13) HT_ ?_; refine pu_ (i := 8) (N := some 14) HT_ ?_; refine pn_ (i := 9) (N := some 15) HT_ ?_; refine pn_ (i := 10) (N := some 16) HT_ ?_; refine pn_ (i := 11) (N := some 17) HT_ ?_; refine pn_ (i := 12) (N := some 18) HT_ ?_; refine pn_ (i := 13) (N := some 19) HT_ ?_; refine pn_ (i := 14) (N := some 20) HT_ ?_; refine pn_ (i := 15) (N := some 21) HT_ ?_; refine pu_ (i := 16) (N := some 22) HT_ ?_
   refine done_ (done_of HT_.out (by kernel_rfl)) ?_
   try go_wp2
   go_meet
   case rel => exact ⟨_, (true), (by first | rfl | (simp; done) | (simp [*]; done)), H', ⟨by first | omega | exact Nat.le_refl _⟩, ⟨by refine kb_ ?_; exact BK286.out⟩, ⟨by refine kb_ ?_; exact BK287.out⟩, ⟨by refine kb_ ?_; exact BK288.out⟩, ⟨hbA_ HB.out⟩⟩
 case rest =>
  clear HC3; (try clear c1); (try clear c2); (try clear p2); (try clear q2); (try clear hx2); (try clear qi2); (try clear c4); (try clear c5); (try clear c8); (try clear c10); (try clear c11); (try clear hx291_0); (try clear hx291_1); (try clear hx291_2); (try clear hx291_3); (try clear hx291_4); (try clear hx291_5); (try clear hx291_6); (try clear hx291_7); (try clear hx291_8); (try clear p291); (try clear q291)
  obtain ⟨kq, x22_2, rfl, HA, HJ2, BK286, BK287, BK288, HB⟩ := hcut
  cases kq with
  | zero => exact absurd HA.out (by simp [impl_PartPut.j0])
  | succ kj2 =>
   have H := HA.out; clear HA
   simp only [impl_PartPut.j0] at H
   by_cases c22 : x22_2 = true
   ·subst c22
    rw [if_pos rfl] at H
    simp only [Option.some.injEq, Prod.mk.injEq] at H
    obtain ⟨rfl, rfl, rfl⟩ := H
    have hnb23 := NB288_286.out; have hnc23 := NB286_288.out; have hnb24 := NB288_287.out; have hnc24 := NB287_288.out; have Z25 := zz2 BK288
    go_wp2
    refine bodyPost_ret (results_ct rfl _ _ gb288 32 #[.slice none 0 0, .int .i64 0] (0, 0) _ rfl (by refine kb_ ?_; refine pz2 (cs := #[.slice none 0 0, .int .i64 0]) ?_; refine kb_ ?_; exact BK288.out) Try.underlying32 rfl (by kernel_rfl)) rfl ?_
    exact ⟨_, by first | rfl | (simp [errW_none, errW_some] <;> rfl) | (simp [*, errW_none, errW_some] <;> rfl), by first | exact Kd.S_nil _ _ _ _ _ | exact Kd.N_nil _ _ _ _ _ | exact Kd.V_nil _ _ _ _ _ | exact Kd.Q_nil _ _ _ _ _ | exact Kd.R_nil _ _ _ _ _, hbA_ HB.out⟩
   ·replace c22 := Bool.eq_false_iff.mpr c22
    subst c22
    rw [if_neg (show ¬ (false = true) by decide)] at H
    replace H := Option.bind_eq_some_iff.mp H
    obtain ⟨⟨t293, t296, t297⟩, A260, H⟩ := H
    (try dsimp only at H)
    have A26 := Aside0.mk A260; clear A260
    simp only [Option.some.injEq, Prod.mk.injEq] at H
    obtain ⟨rfl, rfl, rfl⟩ := H
    have hnb27 := NB286_287.out; have hnc27 := NB287_286.out; have hnb28 := NB286_288.out; have hnc28 := NB288_286.out; have Z29 := zz2 BK286; have hnb30 := NB287_288.out; have hnc30 := NB288_287.out; have Z31 := zz9 BK287
    go_wp2_with (first | ((with_reducible refine gate_callee (f := 52) rfl ?_); refine goesL_ (some 26) rfl rfl Try.func52 (by kernel_rfl) rfl #[.agg #[.slice A0_0 l0_0.length c0_0, .int .i64 a0_1], .agg #[.int .i64 a1_0, .int .i64 a1_1, .int .i64 a1_2, .int .i64 a1_3, .int .i64 a1_4, .int .i64 a1_5, .bool a1_6, .bool a1_7, .slice A1_8 l1_8.length c1_8]] rfl ar_ ?_; (with_reducible refine (impl_Part_put.calls kj2 _ _ l0_0 a0_1 a1_0 a1_1 a1_2 a1_3 a1_4 a1_5 a1_6 a1_7 _ _ l1_8 t293 t296 t297 _ ?side1 ?side2 ?side3 ?side4 A26.out).mono ?_); (case side1 => exact kC_ (Kd.C_below HR0_0.out HB.out)); (case side2 => exact HC0_0.out); (case side3 => exact kC_ (Kd.C_below HR1_8.out HB.out)); (case side4 => exact HC1_8.out); rintro e w32 ⟨v294, rfl, ho0, hb⟩; refine ⟨_, rfl, ?_⟩; have HO295 := Aside0.mk (Kd.S_lower (nbS_ ho0 BK287) (below_size (hbA_ HB.out))); replace BK286 := (bbA_ BK286 hb); replace BK287 := (bbA_ BK287 hb); replace BK288 := (bbA_ BK288 hb); replace HB := (bs_ HB hb); (try clear hb); (try clear hb2); (try clear hk); (try clear hi); (try clear ho0); obtain ⟨Ao33, co33, eo33⟩ := Kd.S_slice HO295.out; subst eo33; have Z34 := zz2 BK288))
    refine bodyPost_ret (results_ct rfl _ _ gb288 32 #[.slice Ao33 t293.length co33, .int .i64 t296] (0, 0) _ rfl (by refine kb_ ?_; refine pz2 (cs := #[.slice none 0 0, .int .i64 0]) ?_; refine kb_ ?_; exact BK288.out) Try.underlying32 rfl (by kernel_rfl)) rfl ?_
    exact ⟨_, by first | rfl | (simp [errW_none, errW_some] <;> rfl) | (simp [*, errW_none, errW_some] <;> rfl), by refine kS_ ?_; exact Kd.S_mono (Kd.S_far (p := ⟨gb288, 1, none⟩) (Kd.S_far (p := ⟨gb288, 0, none⟩) (Kd.S_types HO295.out BK288.out (by decide)) (fun _ hk => hk.2) (.slice Ao33 t293.length co33)) (fun _ hk => hk.2) (.int .i64 t296)) (fun _ hk => trivial), hbA_ HB.out⟩
def laws_eqByteS.l0 : Nat → List Int → List Int → Int → Option (Bool)
 | 0, _, _, _ => none
 | k + 1, x0, x1, x5 => if x5 < (x0.length : Int) then (if 0 ≤ x5 then (if x5 < (x1.length : Int) then (if (rd x0 x5) = (rd x1 x5) then (laws_eqByteS.l0 k x0 x1 (wrap64 (x5 + 1))) else (some false)) else (none)) else (none)) else (some true)
def laws_eqByteS.f (k : Nat) (l0 : List Int) (l1 : List Int) : Option (Bool) := if (l0.length : Int) = (l1.length : Int) then (laws_eqByteS.l0 k l0 l1 0) else (some false)
theorem laws_eqByteS.mono_l : ∀ k, (∀ y0 y1 y2, LeO (laws_eqByteS.l0 k y0 y1 y2) (laws_eqByteS.l0 (k + 1) y0 y1 y2))
 | 0 => fun _ _ _ r h => by simp [laws_eqByteS.l0] at h
 | k + 1 => by
  have ih0 := laws_eqByteS.mono_l k
  ·intro y0 y1 y2
   unfold laws_eqByteS.l0
   repeat' first | (with_reducible first | apply ih0 | exact LeO.refl _ | exact LeO.none _ | refine LeO.ite ?_ ?_ | refine LeO.bind ?_ fun _ => ?_) | apply ih0 | exact LeO.none _ | refine LeO.ite ?_ ?_ | refine LeO.bind ?_ fun _ => ?_
theorem laws_eqByteS.mono : ∀ a0 a1 k, LeO (laws_eqByteS.f k a0 a1) (laws_eqByteS.f (k + 1) a0 a1) := by
 intro a0 a1 k
 have ih0 := laws_eqByteS.mono_l k
 unfold laws_eqByteS.f
 repeat' first | (with_reducible first | apply ih0 | exact LeO.refl _ | exact LeO.none _ | refine LeO.ite ?_ ?_ | refine LeO.bind ?_ fun _ => ?_) | apply ih0 | exact LeO.none _ | refine LeO.ite ?_ ?_ | refine LeO.bind ?_ fun _ => ?_
set_option maxHeartbeats 8000000 in
set_option maxRecDepth 100000 in
theorem laws_eqByteS.calls (k : Nat) (A0 : Option Addr) (c0 : Nat) (l0 : List Int) (A1 : Option Addr) (c1 : Nat) (l1 : List Int) (r : Bool) (w : World) (hr0 : Kd.C (Kd.int .u8) w A0 l0.length l0) (hc0 : l0.length ≤ c0) (hr1 : Kd.C (Kd.int .u8) w A1 l1.length l1) (hc1 : l1.length ≤ c1) (h : laws_eqByteS.f k l0 l1 = some r) :
  Calls Try.prog 54 #[.slice A0 l0.length c0, .slice A1 l1.length c1] w fun e w' => e = .returned (.bool r) ∧ Drawn0 w w' := by
 have HR0 := Aside0.mk hr0; have HC0 := Aside0.mk hc0; clear hr0 hc0; have HR1 := Aside0.mk hr1; have HC1 := Aside0.mk hc1; clear hr1 hc1
 have H : (if (l0.length : Int) = (l1.length : Int) then (laws_eqByteS.l0 k l0 l1 0) else (some false)) = some r := h
 clear h
 by_cases c3 : (l0.length : Int) = (l1.length : Int)
 ·rw [if_pos c3] at H
  have c3b0 : ((l0.length : Int) == (l1.length : Int)) = true := beq_iff_eq.mpr c3
  have c3b1 : ((l0.length : Int) != (l1.length : Int)) = false := bne_eq_false_iff_eq.mpr c3
  have c3b2 : (l0.length == l1.length) = true := by first | simpa using c3 | (simp at c3 ⊢; omega)
  clear c3
  have H' := Aside0.mk H
  clear H
  go_enter Try.func54, Try.ntmps54
  go_wp2
  repeat (go_quiet (fail); try go_wp2)
  go_loopg [5] k (fun kq v5 w' => ∃ (x5_1 : Int), v5 = .int .i64 x5_1 ∧ Aside0 (laws_eqByteS.l0 kq l0 l1 x5_1 = some r) ∧ Aside0 (kq ≤ k) ∧ Drawn0 w w')
  case atStart => exact ⟨(0), (by first | rfl | (simp; done) | (simp [*]; done)), H', ⟨Nat.le_refl _⟩, by repeat (first | exact Drawn0.refl _ | apply Drawn0.step)⟩
  case round =>
   clear H'; (try clear c1); (try clear p2); (try clear c3); (try clear c3b0); (try clear c3b1); (try clear c3b2)
   obtain ⟨x5_1, rfl, HA, HK1, ⟨m1, rfl⟩⟩ := hrel
   cases gk with
   | zero => exact absurd HA.out (by simp [laws_eqByteS.l0])
   | succ k1 =>
    have H := HA.out; clear HA
    simp only [laws_eqByteS.l0] at H
    by_cases c4 : x5_1 < (l0.length : Int)
    ·rw [if_pos c4] at H
     have c4b0 : decide (x5_1 < (l0.length : Int)) = true := decide_eq_true c4
     clear c4
     by_cases c5 : 0 ≤ x5_1
     ·rw [if_pos c5] at H
      have c5b0 : decide (0 ≤ x5_1) = true := decide_eq_true c5
      clear c5
      by_cases c6 : x5_1 < (l1.length : Int)
      ·rw [if_pos c6] at H
       have c6b0 : decide (x5_1 < (l1.length : Int)) = true := decide_eq_true c6
       clear c6
       by_cases c7 : (rd l0 x5_1) = (rd l1 x5_1)
       ·rw [if_pos c7] at H
        have c7b0 : ((rd l0 x5_1) == (rd l1 x5_1)) = true := beq_iff_eq.mpr c7
        have c7b1 : ((rd l0 x5_1) != (rd l1 x5_1)) = false := bne_eq_false_iff_eq.mpr c7
        clear c7
        have H' := Aside0.mk H
        clear H
        have p298 : 0 ≤ (x5_1 : Int) := of_decide_eq_true (by first | (with_reducible assumption) | assumption)
        have q298 : x5_1 < (l0.length : Int) := of_decide_eq_true (by first | (with_reducible assumption) | assumption)
        obtain ⟨ad298, e298, hx298_0⟩ := Kd.at_int HR0.out x5_1 p298 q298
        cases e298
        replace p298 := eq_true p298
        replace q298 := eq_true q298
        have p299 : 0 ≤ (x5_1 : Int) := of_decide_eq_true (by first | (with_reducible assumption) | assumption)
        have q299 : x5_1 < (l1.length : Int) := of_decide_eq_true (by first | (with_reducible assumption) | assumption)
        obtain ⟨ad299, e299, hx299_0⟩ := Kd.at_int HR1.out x5_1 p299 q299
        cases e299
        replace p299 := eq_true p299
        replace q299 := eq_true q299
        go_wp2
        repeat (go_quiet (fail); try go_wp2)
        go_roundg k1
        case measure => have := HK1.out; omega
        case rel => exact ⟨(wrap64 (x5_1 + 1)), (by first | rfl | (simp; done) | (simp [*]; done)), H', ⟨by have := HK1.out; omega⟩, by repeat (first | exact Drawn0.refl _ | apply Drawn0.step)⟩
       ·rw [if_neg c7] at H
        have c7b0 : ((rd l0 x5_1) == (rd l1 x5_1)) = false := beq_eq_false_iff_ne.mpr c7
        have c7b1 : ((rd l0 x5_1) != (rd l1 x5_1)) = true := bne_iff_ne.mpr c7
        obtain rfl := Option.some.inj H
        have p298 : 0 ≤ (x5_1 : Int) := of_decide_eq_true (by first | (with_reducible assumption) | assumption)
        have q298 : x5_1 < (l0.length : Int) := of_decide_eq_true (by first | (with_reducible assumption) | assumption)
        obtain ⟨ad298, e298, hx298_0⟩ := Kd.at_int HR0.out x5_1 p298 q298
        cases e298
        replace p298 := eq_true p298
        replace q298 := eq_true q298
        have p299 : 0 ≤ (x5_1 : Int) := of_decide_eq_true (by first | (with_reducible assumption) | assumption)
        have q299 : x5_1 < (l1.length : Int) := of_decide_eq_true (by first | (with_reducible assumption) | assumption)
        obtain ⟨ad299, e299, hx299_0⟩ := Kd.at_int HR1.out x5_1 p299 q299
        cases e299
        replace p299 := eq_true p299
        replace q299 := eq_true q299
        go_wp2
        repeat (go_quiet (fail); try go_wp2)
        go_ret
        exact ⟨by first | rfl | (simp; done) | (simp [*]; done), by repeat (first | exact Drawn0.refl _ | apply Drawn0.step)⟩
      ·rw [if_neg c6] at H
       exact absurd H (by simp)
     ·rw [if_neg c5] at H
      exact absurd H (by simp)
    ·rw [if_neg c4] at H
     have c4b0 : decide (x5_1 < (l0.length : Int)) = false := decide_eq_false c4
     clear c4
     obtain rfl := Option.some.inj H
     go_wp2
     repeat (go_quiet (fail); try go_wp2)
     go_ret
     exact ⟨by first | rfl | (simp; done) | (simp [*]; done), by repeat (first | exact Drawn0.refl _ | apply Drawn0.step)⟩
 ·rw [if_neg c3] at H
  have c3b0 : ((l0.length : Int) == (l1.length : Int)) = false := beq_eq_false_iff_ne.mpr c3
  have c3b1 : ((l0.length : Int) != (l1.length : Int)) = true := bne_iff_ne.mpr c3
  have c3b2 : (l0.length == l1.length) = false := by first | simpa using c3 | (simp at c3 ⊢; omega)
  obtain rfl := Option.some.inj H
  go_enter Try.func54, Try.ntmps54
  go_wp2
  repeat (go_quiet (fail); try go_wp2)
  go_ret
  exact ⟨by first | rfl | (simp; done) | (simp [*]; done), by repeat (first | exact Drawn0.refl _ | apply Drawn0.step)⟩
def laws_eqPacket.f (k : Nat) (a0_0 : Int) (a0_1 : Int) (a0_2 : Int) (a0_3 : Int) (a0_4 : Int) (a0_5 : Int) (a0_6 : Bool) (a0_7 : Bool) (l0_8 : List Int) (a1_0 : Int) (a1_1 : Int) (a1_2 : Int) (a1_3 : Int) (a1_4 : Int) (a1_5 : Int) (a1_6 : Bool) (a1_7 : Bool) (l1_8 : List Int) : Option (Bool) := if a0_0 = a1_0 then (if a0_1 = a1_1 then (if a0_2 = a1_2 then (if a0_3 = a1_3 then (if a0_4 = a1_4 then (if a0_5 = a1_5 then (if (a0_6 != a1_6) = true then (some false) else (if (a0_7 != a1_7) = true then (some false) else ((laws_eqByteS.f k l0_8 l1_8).bind fun t302 => (if t302 = true then (some true) else (some false))))) else (some false)) else (some false)) else (some false)) else (some false)) else (some false)) else (some false)
theorem laws_eqPacket.mono : ∀ a0 a1 a2 a3 a4 a5 a6 a7 a8 a9 a10 a11 a12 a13 a14 a15 a16 a17 k, LeO (laws_eqPacket.f k a0 a1 a2 a3 a4 a5 a6 a7 a8 a9 a10 a11 a12 a13 a14 a15 a16 a17) (laws_eqPacket.f (k + 1) a0 a1 a2 a3 a4 a5 a6 a7 a8 a9 a10 a11 a12 a13 a14 a15 a16 a17) := by
 intro a0 a1 a2 a3 a4 a5 a6 a7 a8 a9 a10 a11 a12 a13 a14 a15 a16 a17 k
 unfold laws_eqPacket.f
 repeat' first | (with_reducible first | apply laws_eqByteS.mono | exact LeO.refl _ | exact LeO.none _ | refine LeO.ite ?_ ?_ | refine LeO.bind ?_ fun _ => ?_) | apply laws_eqByteS.mono | exact LeO.none _ | refine LeO.ite ?_ ?_ | refine LeO.bind ?_ fun _ => ?_
set_option maxHeartbeats 8000000 in
set_option maxRecDepth 100000 in
theorem laws_eqPacket.calls (k : Nat) (a0_0 : Int) (a0_1 : Int) (a0_2 : Int) (a0_3 : Int) (a0_4 : Int) (a0_5 : Int) (a0_6 : Bool) (a0_7 : Bool) (A0_8 : Option Addr) (c0_8 : Nat) (l0_8 : List Int) (a1_0 : Int) (a1_1 : Int) (a1_2 : Int) (a1_3 : Int) (a1_4 : Int) (a1_5 : Int) (a1_6 : Bool) (a1_7 : Bool) (A1_8 : Option Addr) (c1_8 : Nat) (l1_8 : List Int) (r : Bool) (w : World) (hr0_8 : Kd.C (Kd.int .u8) w A0_8 l0_8.length l0_8) (hc0_8 : l0_8.length ≤ c0_8) (hr1_8 : Kd.C (Kd.int .u8) w A1_8 l1_8.length l1_8) (hc1_8 : l1_8.length ≤ c1_8) (h : laws_eqPacket.f k a0_0 a0_1 a0_2 a0_3 a0_4 a0_5 a0_6 a0_7 l0_8 a1_0 a1_1 a1_2 a1_3 a1_4 a1_5 a1_6 a1_7 l1_8 = some r) :
  Calls Try.prog 16 #[.agg #[.int .i64 a0_0, .int .i64 a0_1, .int .i64 a0_2, .int .i64 a0_3, .int .i64 a0_4, .int .i64 a0_5, .bool a0_6, .bool a0_7, .slice A0_8 l0_8.length c0_8], .agg #[.int .i64 a1_0, .int .i64 a1_1, .int .i64 a1_2, .int .i64 a1_3, .int .i64 a1_4, .int .i64 a1_5, .bool a1_6, .bool a1_7, .slice A1_8 l1_8.length c1_8]] w fun e w' => e = .returned (.bool r) ∧ Below w.heap.size w w' := by
 have hu36 := Try.underlying36; have HR0_8 := Aside0.mk hr0_8; have HC0_8 := Aside0.mk hc0_8; clear hr0_8 hc0_8; have HR1_8 := Aside0.mk hr1_8; have HC1_8 := Aside0.mk hc1_8; clear hr1_8 hc1_8
 have HB := Aside0.mk (Below.refl w.heap.size w)
 have H : (if a0_0 = a1_0 then (if a0_1 = a1_1 then (if a0_2 = a1_2 then (if a0_3 = a1_3 then (if a0_4 = a1_4 then (if a0_5 = a1_5 then (if (a0_6 != a1_6) = true then (some false) else (if (a0_7 != a1_7) = true then (some false) else ((laws_eqByteS.f k l0_8 l1_8).bind fun t302 => (if t302 = true then (some true) else (some false))))) else (some false)) else (some false)) else (some false)) else (some false)) else (some false)) else (some false)) = some r := h
 clear h
 by_cases c3 : a0_0 = a1_0
 ·rw [if_pos c3] at H
  have c3b0 : (a0_0 == a1_0) = true := beq_iff_eq.mpr c3
  have c3b1 : (a0_0 != a1_0) = false := bne_eq_false_iff_eq.mpr c3
  clear c3
  by_cases c4 : a0_1 = a1_1
  ·rw [if_pos c4] at H
   have c4b0 : (a0_1 == a1_1) = true := beq_iff_eq.mpr c4
   have c4b1 : (a0_1 != a1_1) = false := bne_eq_false_iff_eq.mpr c4
   clear c4
   by_cases c5 : a0_2 = a1_2
   ·rw [if_pos c5] at H
    have c5b0 : (a0_2 == a1_2) = true := beq_iff_eq.mpr c5
    have c5b1 : (a0_2 != a1_2) = false := bne_eq_false_iff_eq.mpr c5
    clear c5
    by_cases c6 : a0_3 = a1_3
    ·rw [if_pos c6] at H
     have c6b0 : (a0_3 == a1_3) = true := beq_iff_eq.mpr c6
     have c6b1 : (a0_3 != a1_3) = false := bne_eq_false_iff_eq.mpr c6
     clear c6
     by_cases c7 : a0_4 = a1_4
     ·rw [if_pos c7] at H
      have c7b0 : (a0_4 == a1_4) = true := beq_iff_eq.mpr c7
      have c7b1 : (a0_4 != a1_4) = false := bne_eq_false_iff_eq.mpr c7
      clear c7
      by_cases c8 : a0_5 = a1_5
      ·rw [if_pos c8] at H
       have c8b0 : (a0_5 == a1_5) = true := beq_iff_eq.mpr c8
       have c8b1 : (a0_5 != a1_5) = false := bne_eq_false_iff_eq.mpr c8
       clear c8
       by_cases c9 : (a0_6 != a1_6) = true
       ·rw [if_pos c9] at H
        have c9b0 : (a0_6 != a1_6) = true := c9
        (try (have c9b1 : decide (a0_6 = a1_6) = false := by simpa using c9))
        (try (have c9b2 : (a0_6 == a1_6) = false := by simpa using c9))
        (try (have c9b3 : ¬ (a0_6 = a1_6) := by simpa using c9))
        clear c9
        obtain rfl := Option.some.inj H
        go_enter Try.func16, Try.ntmps16
        go_wp2_with (first | ((with_reducible refine gate_dst (N := 2) rfl ?_); refine box_ (N := 2) (cs := #[.int .i64 a0_0, .int .i64 a0_1, .int .i64 a0_2, .int .i64 a0_3, .int .i64 a0_4, .int .i64 a0_5, .bool a0_6, .bool a0_7, .slice A0_8 l0_8.length c0_8]) (t := 36) (fun gb300 hg w10 hbox hb => ?_); have BK300 := Aside0.mk (hbox); have GW300 := ge_ hg HB; have GE300 := ge_ hg HB; replace HB := (bs_ HB hb); clear hb hbox hg) | ((with_reducible refine gate_dst (N := 3) rfl ?_); refine box_ (N := 3) (cs := #[.int .i64 a1_0, .int .i64 a1_1, .int .i64 a1_2, .int .i64 a1_3, .int .i64 a1_4, .int .i64 a1_5, .bool a1_6, .bool a1_7, .slice A1_8 l1_8.length c1_8]) (t := 36) (fun gb301 hg w11 hbox hb => ?_); have BK301 := Aside0.mk (hbox); have GW301 := ge_ hg HB; have GE301 := ge_ hg HB; replace HB := (bs_ HB hb); have NB300_301 := nl_ hg BK300; have NB301_300 := ng_ hg BK300; replace BK300 := (bbA_ BK300 hb); clear hb hbox hg; have hnb12 := NB300_301.out; have hnc12 := NB301_300.out; have Z13 := zz9 BK300; have Z14 := zz9 BK301))
        go_ret
        exact ⟨by first | rfl | (simp [errW_none, errW_some] <;> rfl) | (simp [*, errW_none, errW_some] <;> rfl), hbA_ HB.out⟩
       ·rw [if_neg c9] at H
        have c9b0 : (a0_6 != a1_6) = false := by simpa using c9
        (try (have c9b1 : decide (a0_6 = a1_6) = true := by simpa using c9))
        (try (have c9b2 : (a0_6 == a1_6) = true := by simpa using c9))
        clear c9
        by_cases c15 : (a0_7 != a1_7) = true
        ·rw [if_pos c15] at H
         have c15b0 : (a0_7 != a1_7) = true := c15
         (try (have c15b1 : decide (a0_7 = a1_7) = false := by simpa using c15))
         (try (have c15b2 : (a0_7 == a1_7) = false := by simpa using c15))
         (try (have c15b3 : ¬ (a0_7 = a1_7) := by simpa using c15))
         clear c15
         obtain rfl := Option.some.inj H
         go_enter Try.func16, Try.ntmps16
         go_wp2_with (first | ((with_reducible refine gate_dst (N := 2) rfl ?_); refine box_ (N := 2) (cs := #[.int .i64 a0_0, .int .i64 a0_1, .int .i64 a0_2, .int .i64 a0_3, .int .i64 a0_4, .int .i64 a0_5, .bool a0_6, .bool a0_7, .slice A0_8 l0_8.length c0_8]) (t := 36) (fun gb300 hg w16 hbox hb => ?_); have BK300 := Aside0.mk (hbox); have GW300 := ge_ hg HB; have GE300 := ge_ hg HB; replace HB := (bs_ HB hb); clear hb hbox hg) | ((with_reducible refine gate_dst (N := 3) rfl ?_); refine box_ (N := 3) (cs := #[.int .i64 a1_0, .int .i64 a1_1, .int .i64 a1_2, .int .i64 a1_3, .int .i64 a1_4, .int .i64 a1_5, .bool a1_6, .bool a1_7, .slice A1_8 l1_8.length c1_8]) (t := 36) (fun gb301 hg w17 hbox hb => ?_); have BK301 := Aside0.mk (hbox); have GW301 := ge_ hg HB; have GE301 := ge_ hg HB; replace HB := (bs_ HB hb); have NB300_301 := nl_ hg BK300; have NB301_300 := ng_ hg BK300; replace BK300 := (bbA_ BK300 hb); clear hb hbox hg; have hnb18 := NB300_301.out; have hnc18 := NB301_300.out; have Z19 := zz9 BK300; have Z20 := zz9 BK301))
         go_ret
         exact ⟨by first | rfl | (simp [errW_none, errW_some] <;> rfl) | (simp [*, errW_none, errW_some] <;> rfl), hbA_ HB.out⟩
        ·rw [if_neg c15] at H
         have c15b0 : (a0_7 != a1_7) = false := by simpa using c15
         (try (have c15b1 : decide (a0_7 = a1_7) = true := by simpa using c15))
         (try (have c15b2 : (a0_7 == a1_7) = true := by simpa using c15))
         clear c15
         replace H := Option.bind_eq_some_iff.mp H
         obtain ⟨t302, A210, H⟩ := H
         (try dsimp only at H)
         have A21 := Aside0.mk A210; clear A210
         by_cases c22 : t302 = true
         ·subst c22
          rw [if_pos rfl] at H
          obtain rfl := Option.some.inj H
          go_enter Try.func16, Try.ntmps16
          go_wp2_with (first | ((with_reducible refine gate_dst (N := 2) rfl ?_); refine box_ (N := 2) (cs := #[.int .i64 a0_0, .int .i64 a0_1, .int .i64 a0_2, .int .i64 a0_3, .int .i64 a0_4, .int .i64 a0_5, .bool a0_6, .bool a0_7, .slice A0_8 l0_8.length c0_8]) (t := 36) (fun gb300 hg w23 hbox hb => ?_); have BK300 := Aside0.mk (hbox); have GW300 := ge_ hg HB; have GE300 := ge_ hg HB; replace HB := (bs_ HB hb); clear hb hbox hg) | ((with_reducible refine gate_dst (N := 3) rfl ?_); refine box_ (N := 3) (cs := #[.int .i64 a1_0, .int .i64 a1_1, .int .i64 a1_2, .int .i64 a1_3, .int .i64 a1_4, .int .i64 a1_5, .bool a1_6, .bool a1_7, .slice A1_8 l1_8.length c1_8]) (t := 36) (fun gb301 hg w24 hbox hb => ?_); have BK301 := Aside0.mk (hbox); have GW301 := ge_ hg HB; have GE301 := ge_ hg HB; replace HB := (bs_ HB hb); have NB300_301 := nl_ hg BK300; have NB301_300 := ng_ hg BK300; replace BK300 := (bbA_ BK300 hb); clear hb hbox hg; have hnb25 := NB300_301.out; have hnc25 := NB301_300.out; have Z26 := zz9 BK300; have Z27 := zz9 BK301) | ((with_reducible refine gate_callee (f := 54) rfl ?_); refine goesL_ (some 49) rfl rfl Try.func54 (by kernel_rfl) rfl #[.slice A0_8 l0_8.length c0_8, .slice A1_8 l1_8.length c1_8] rfl ar_ ?_; (with_reducible refine (laws_eqByteS.calls k _ _ l0_8 _ _ l1_8 true _ ?side1 ?side2 ?side3 ?side4 A21.out).mono ?_); (case side1 => exact kC_ (Kd.C_below HR0_8.out HB.out)); (case side2 => exact HC0_8.out); (case side3 => exact kC_ (Kd.C_below HR1_8.out HB.out)); (case side4 => exact HC1_8.out); rintro e w' ⟨rfl, ⟨nd, rfl⟩⟩; refine ⟨_, rfl, ?_⟩))
          go_ret
          exact ⟨by first | rfl | (simp [errW_none, errW_some] <;> rfl) | (simp [*, errW_none, errW_some] <;> rfl), hbA_ HB.out⟩
         ·replace c22 := Bool.eq_false_iff.mpr c22
          subst c22
          rw [if_neg (show ¬ (false = true) by decide)] at H
          obtain rfl := Option.some.inj H
          go_enter Try.func16, Try.ntmps16
          go_wp2_with (first | ((with_reducible refine gate_dst (N := 2) rfl ?_); refine box_ (N := 2) (cs := #[.int .i64 a0_0, .int .i64 a0_1, .int .i64 a0_2, .int .i64 a0_3, .int .i64 a0_4, .int .i64 a0_5, .bool a0_6, .bool a0_7, .slice A0_8 l0_8.length c0_8]) (t := 36) (fun gb300 hg w28 hbox hb => ?_); have BK300 := Aside0.mk (hbox); have GW300 := ge_ hg HB; have GE300 := ge_ hg HB; replace HB := (bs_ HB hb); clear hb hbox hg) | ((with_reducible refine gate_dst (N := 3) rfl ?_); refine box_ (N := 3) (cs := #[.int .i64 a1_0, .int .i64 a1_1, .int .i64 a1_2, .int .i64 a1_3, .int .i64 a1_4, .int .i64 a1_5, .bool a1_6, .bool a1_7, .slice A1_8 l1_8.length c1_8]) (t := 36) (fun gb301 hg w29 hbox hb => ?_); have BK301 := Aside0.mk (hbox); have GW301 := ge_ hg HB; have GE301 := ge_ hg HB; replace HB := (bs_ HB hb); have NB300_301 := nl_ hg BK300; have NB301_300 := ng_ hg BK300; replace BK300 := (bbA_ BK300 hb); clear hb hbox hg; have hnb30 := NB300_301.out; have hnc30 := NB301_300.out; have Z31 := zz9 BK300; have Z32 := zz9 BK301) | ((with_reducible refine gate_callee (f := 54) rfl ?_); refine goesL_ (some 49) rfl rfl Try.func54 (by kernel_rfl) rfl #[.slice A0_8 l0_8.length c0_8, .slice A1_8 l1_8.length c1_8] rfl ar_ ?_; (with_reducible refine (laws_eqByteS.calls k _ _ l0_8 _ _ l1_8 false _ ?side1 ?side2 ?side3 ?side4 A21.out).mono ?_); (case side1 => exact kC_ (Kd.C_below HR0_8.out HB.out)); (case side2 => exact HC0_8.out); (case side3 => exact kC_ (Kd.C_below HR1_8.out HB.out)); (case side4 => exact HC1_8.out); rintro e w' ⟨rfl, ⟨nd, rfl⟩⟩; refine ⟨_, rfl, ?_⟩))
          go_ret
          exact ⟨by first | rfl | (simp [errW_none, errW_some] <;> rfl) | (simp [*, errW_none, errW_some] <;> rfl), hbA_ HB.out⟩
      ·rw [if_neg c8] at H
       have c8b0 : (a0_5 == a1_5) = false := beq_eq_false_iff_ne.mpr c8
       have c8b1 : (a0_5 != a1_5) = true := bne_iff_ne.mpr c8
       obtain rfl := Option.some.inj H
       go_enter Try.func16, Try.ntmps16
       go_wp2_with (first | ((with_reducible refine gate_dst (N := 2) rfl ?_); refine box_ (N := 2) (cs := #[.int .i64 a0_0, .int .i64 a0_1, .int .i64 a0_2, .int .i64 a0_3, .int .i64 a0_4, .int .i64 a0_5, .bool a0_6, .bool a0_7, .slice A0_8 l0_8.length c0_8]) (t := 36) (fun gb300 hg w33 hbox hb => ?_); have BK300 := Aside0.mk (hbox); have GW300 := ge_ hg HB; have GE300 := ge_ hg HB; replace HB := (bs_ HB hb); clear hb hbox hg) | ((with_reducible refine gate_dst (N := 3) rfl ?_); refine box_ (N := 3) (cs := #[.int .i64 a1_0, .int .i64 a1_1, .int .i64 a1_2, .int .i64 a1_3, .int .i64 a1_4, .int .i64 a1_5, .bool a1_6, .bool a1_7, .slice A1_8 l1_8.length c1_8]) (t := 36) (fun gb301 hg w34 hbox hb => ?_); have BK301 := Aside0.mk (hbox); have GW301 := ge_ hg HB; have GE301 := ge_ hg HB; replace HB := (bs_ HB hb); have NB300_301 := nl_ hg BK300; have NB301_300 := ng_ hg BK300; replace BK300 := (bbA_ BK300 hb); clear hb hbox hg; have hnb35 := NB300_301.out; have hnc35 := NB301_300.out; have Z36 := zz9 BK300; have Z37 := zz9 BK301))
       go_ret
       exact ⟨by first | rfl | (simp [errW_none, errW_some] <;> rfl) | (simp [*, errW_none, errW_some] <;> rfl), hbA_ HB.out⟩
     ·rw [if_neg c7] at H
      have c7b0 : (a0_4 == a1_4) = false := beq_eq_false_iff_ne.mpr c7
      have c7b1 : (a0_4 != a1_4) = true := bne_iff_ne.mpr c7
      obtain rfl := Option.some.inj H
      go_enter Try.func16, Try.ntmps16
      go_wp2_with (first | ((with_reducible refine gate_dst (N := 2) rfl ?_); refine box_ (N := 2) (cs := #[.int .i64 a0_0, .int .i64 a0_1, .int .i64 a0_2, .int .i64 a0_3, .int .i64 a0_4, .int .i64 a0_5, .bool a0_6, .bool a0_7, .slice A0_8 l0_8.length c0_8]) (t := 36) (fun gb300 hg w38 hbox hb => ?_); have BK300 := Aside0.mk (hbox); have GW300 := ge_ hg HB; have GE300 := ge_ hg HB; replace HB := (bs_ HB hb); clear hb hbox hg) | ((with_reducible refine gate_dst (N := 3) rfl ?_); refine box_ (N := 3) (cs := #[.int .i64 a1_0, .int .i64 a1_1, .int .i64 a1_2, .int .i64 a1_3, .int .i64 a1_4, .int .i64 a1_5, .bool a1_6, .bool a1_7, .slice A1_8 l1_8.length c1_8]) (t := 36) (fun gb301 hg w39 hbox hb => ?_); have BK301 := Aside0.mk (hbox); have GW301 := ge_ hg HB; have GE301 := ge_ hg HB; replace HB := (bs_ HB hb); have NB300_301 := nl_ hg BK300; have NB301_300 := ng_ hg BK300; replace BK300 := (bbA_ BK300 hb); clear hb hbox hg; have hnb40 := NB300_301.out; have hnc40 := NB301_300.out; have Z41 := zz9 BK300; have Z42 := zz9 BK301))
      go_ret
      exact ⟨by first | rfl | (simp [errW_none, errW_some] <;> rfl) | (simp [*, errW_none, errW_some] <;> rfl), hbA_ HB.out⟩
    ·rw [if_neg c6] at H
     have c6b0 : (a0_3 == a1_3) = false := beq_eq_false_iff_ne.mpr c6
     have c6b1 : (a0_3 != a1_3) = true := bne_iff_ne.mpr c6
     obtain rfl := Option.some.inj H
     go_enter Try.func16, Try.ntmps16
     go_wp2_with (first | ((with_reducible refine gate_dst (N := 2) rfl ?_); refine box_ (N := 2) (cs := #[.int .i64 a0_0, .int .i64 a0_1, .int .i64 a0_2, .int .i64 a0_3, .int .i64 a0_4, .int .i64 a0_5, .bool a0_6, .bool a0_7, .slice A0_8 l0_8.length c0_8]) (t := 36) (fun gb300 hg w43 hbox hb => ?_); have BK300 := Aside0.mk (hbox); have GW300 := ge_ hg HB; have GE300 := ge_ hg HB; replace HB := (bs_ HB hb); clear hb hbox hg) | ((with_reducible refine gate_dst (N := 3) rfl ?_); refine box_ (N := 3) (cs := #[.int .i64 a1_0, .int .i64 a1_1, .int .i64 a1_2, .int .i64 a1_3, .int .i64 a1_4, .int .i64 a1_5, .bool a1_6, .bool a1_7, .slice A1_8 l1_8.length c1_8]) (t := 36) (fun gb301 hg w44 hbox hb => ?_); have BK301 := Aside0.mk (hbox); have GW301 := ge_ hg HB; have GE301 := ge_ hg HB; replace HB := (bs_ HB hb); have NB300_301 := nl_ hg BK300; have NB301_300 := ng_ hg BK300; replace BK300 := (bbA_ BK300 hb); clear hb hbox hg; have hnb45 := NB300_301.out; have hnc45 := NB301_300.out; have Z46 := zz9 BK300; have Z47 := zz9 BK301))
     go_ret
     exact ⟨by first | rfl | (simp [errW_none, errW_some] <;> rfl) | (simp [*, errW_none, errW_some] <;> rfl), hbA_ HB.out⟩
   ·rw [if_neg c5] at H
    have c5b0 : (a0_2 == a1_2) = false := beq_eq_false_iff_ne.mpr c5
    have c5b1 : (a0_2 != a1_2) = true := bne_iff_ne.mpr c5
    obtain rfl := Option.some.inj H
    go_enter Try.func16, Try.ntmps16
    go_wp2_with (first | ((with_reducible refine gate_dst (N := 2) rfl ?_); refine box_ (N := 2) (cs := #[.int .i64 a0_0, .int .i64 a0_1, .int .i64 a0_2, .int .i64 a0_3, .int .i64 a0_4, .int .i64 a0_5, .bool a0_6, .bool a0_7, .slice A0_8 l0_8.length c0_8]) (t := 36) (fun gb300 hg w48 hbox hb => ?_); have BK300 := Aside0.mk (hbox); have GW300 := ge_ hg HB; have GE300 := ge_ hg HB; replace HB := (bs_ HB hb); clear hb hbox hg) | ((with_reducible refine gate_dst (N := 3) rfl ?_); refine box_ (N := 3) (cs := #[.int .i64 a1_0, .int .i64 a1_1, .int .i64 a1_2, .int .i64 a1_3, .int .i64 a1_4, .int .i64 a1_5, .bool a1_6, .bool a1_7, .slice A1_8 l1_8.length c1_8]) (t := 36) (fun gb301 hg w49 hbox hb => ?_); have BK301 := Aside0.mk (hbox); have GW301 := ge_ hg HB; have GE301 := ge_ hg HB; replace HB := (bs_ HB hb); have NB300_301 := nl_ hg BK300; have NB301_300 := ng_ hg BK300; replace BK300 := (bbA_ BK300 hb); clear hb hbox hg; have hnb50 := NB300_301.out; have hnc50 := NB301_300.out; have Z51 := zz9 BK300; have Z52 := zz9 BK301))
    go_ret
    exact ⟨by first | rfl | (simp [errW_none, errW_some] <;> rfl) | (simp [*, errW_none, errW_some] <;> rfl), hbA_ HB.out⟩
  ·rw [if_neg c4] at H
   have c4b0 : (a0_1 == a1_1) = false := beq_eq_false_iff_ne.mpr c4
   have c4b1 : (a0_1 != a1_1) = true := bne_iff_ne.mpr c4
   obtain rfl := Option.some.inj H
   go_enter Try.func16, Try.ntmps16
   go_wp2_with (first | ((with_reducible refine gate_dst (N := 2) rfl ?_); refine box_ (N := 2) (cs := #[.int .i64 a0_0, .int .i64 a0_1, .int .i64 a0_2, .int .i64 a0_3, .int .i64 a0_4, .int .i64 a0_5, .bool a0_6, .bool a0_7, .slice A0_8 l0_8.length c0_8]) (t := 36) (fun gb300 hg w53 hbox hb => ?_); have BK300 := Aside0.mk (hbox); have GW300 := ge_ hg HB; have GE300 := ge_ hg HB; replace HB := (bs_ HB hb); clear hb hbox hg) | ((with_reducible refine gate_dst (N := 3) rfl ?_); refine box_ (N := 3) (cs := #[.int .i64 a1_0, .int .i64 a1_1, .int .i64 a1_2, .int .i64 a1_3, .int .i64 a1_4, .int .i64 a1_5, .bool a1_6, .bool a1_7, .slice A1_8 l1_8.length c1_8]) (t := 36) (fun gb301 hg w54 hbox hb => ?_); have BK301 := Aside0.mk (hbox); have GW301 := ge_ hg HB; have GE301 := ge_ hg HB; replace HB := (bs_ HB hb); have NB300_301 := nl_ hg BK300; have NB301_300 := ng_ hg BK300; replace BK300 := (bbA_ BK300 hb); clear hb hbox hg; have hnb55 := NB300_301.out; have hnc55 := NB301_300.out; have Z56 := zz9 BK300; have Z57 := zz9 BK301))
   go_ret
   exact ⟨by first | rfl | (simp [errW_none, errW_some] <;> rfl) | (simp [*, errW_none, errW_some] <;> rfl), hbA_ HB.out⟩
 ·rw [if_neg c3] at H
  have c3b0 : (a0_0 == a1_0) = false := beq_eq_false_iff_ne.mpr c3
  have c3b1 : (a0_0 != a1_0) = true := bne_iff_ne.mpr c3
  obtain rfl := Option.some.inj H
  go_enter Try.func16, Try.ntmps16
  go_wp2_with (first | ((with_reducible refine gate_dst (N := 2) rfl ?_); refine box_ (N := 2) (cs := #[.int .i64 a0_0, .int .i64 a0_1, .int .i64 a0_2, .int .i64 a0_3, .int .i64 a0_4, .int .i64 a0_5, .bool a0_6, .bool a0_7, .slice A0_8 l0_8.length c0_8]) (t := 36) (fun gb300 hg w58 hbox hb => ?_); have BK300 := Aside0.mk (hbox); have GW300 := ge_ hg HB; have GE300 := ge_ hg HB; replace HB := (bs_ HB hb); clear hb hbox hg) | ((with_reducible refine gate_dst (N := 3) rfl ?_); refine box_ (N := 3) (cs := #[.int .i64 a1_0, .int .i64 a1_1, .int .i64 a1_2, .int .i64 a1_3, .int .i64 a1_4, .int .i64 a1_5, .bool a1_6, .bool a1_7, .slice A1_8 l1_8.length c1_8]) (t := 36) (fun gb301 hg w59 hbox hb => ?_); have BK301 := Aside0.mk (hbox); have GW301 := ge_ hg HB; have GE301 := ge_ hg HB; replace HB := (bs_ HB hb); have NB300_301 := nl_ hg BK300; have NB301_300 := ng_ hg BK300; replace BK300 := (bbA_ BK300 hb); clear hb hbox hg; have hnb60 := NB300_301.out; have hnc60 := NB301_300.out; have Z61 := zz9 BK300; have Z62 := zz9 BK301))
  go_ret
  exact ⟨by first | rfl | (simp [errW_none, errW_some] <;> rfl) | (simp [*, errW_none, errW_some] <;> rfl), hbA_ HB.out⟩
def laws_eqPacketS.l0 : Nat → List (S36) → List (S36) → Int → Option (Bool)
 | 0, _, _, _ => none
 | k + 1, x0, x1, x5 => if x5 < (x0.length : Int) then (if 0 ≤ x5 then (if x5 < (x1.length : Int) then ((laws_eqPacket.f k ((rd_T36 x0 x5).f0) ((rd_T36 x0 x5).f1) ((rd_T36 x0 x5).f2) ((rd_T36 x0 x5).f3) ((rd_T36 x0 x5).f4) ((rd_T36 x0 x5).f5) ((rd_T36 x0 x5).f6) ((rd_T36 x0 x5).f7) ((rd_T36 x0 x5).f8) ((rd_T36 x1 x5).f0) ((rd_T36 x1 x5).f1) ((rd_T36 x1 x5).f2) ((rd_T36 x1 x5).f3) ((rd_T36 x1 x5).f4) ((rd_T36 x1 x5).f5) ((rd_T36 x1 x5).f6) ((rd_T36 x1 x5).f7) ((rd_T36 x1 x5).f8)).bind fun t305 => (if t305 = true then (laws_eqPacketS.l0 k x0 x1 (wrap64 (x5 + 1))) else (some false))) else (none)) else (none)) else (some true)
def laws_eqPacketS.f (k : Nat) (l0 : List (S36)) (l1 : List (S36)) : Option (Bool) := if (l0.length : Int) = (l1.length : Int) then (laws_eqPacketS.l0 k l0 l1 0) else (some false)
theorem laws_eqPacketS.mono_l : ∀ k, (∀ y0 y1 y2, LeO (laws_eqPacketS.l0 k y0 y1 y2) (laws_eqPacketS.l0 (k + 1) y0 y1 y2))
 | 0 => fun _ _ _ r h => by simp [laws_eqPacketS.l0] at h
 | k + 1 => by
  have ih0 := laws_eqPacketS.mono_l k
  ·intro y0 y1 y2
   unfold laws_eqPacketS.l0
   repeat' first | (with_reducible first | apply ih0 | apply laws_eqPacket.mono | exact LeO.refl _ | exact LeO.none _ | refine LeO.ite ?_ ?_ | refine LeO.bind ?_ fun _ => ?_) | apply ih0 | apply laws_eqPacket.mono | exact LeO.none _ | refine LeO.ite ?_ ?_ | refine LeO.bind ?_ fun _ => ?_
theorem laws_eqPacketS.mono : ∀ a0 a1 k, LeO (laws_eqPacketS.f k a0 a1) (laws_eqPacketS.f (k + 1) a0 a1) := by
 intro a0 a1 k
 have ih0 := laws_eqPacketS.mono_l k
 unfold laws_eqPacketS.f
 repeat' first | (with_reducible first | apply ih0 | apply laws_eqPacket.mono | exact LeO.refl _ | exact LeO.none _ | refine LeO.ite ?_ ?_ | refine LeO.bind ?_ fun _ => ?_) | apply ih0 | apply laws_eqPacket.mono | exact LeO.none _ | refine LeO.ite ?_ ?_ | refine LeO.bind ?_ fun _ => ?_
def laws_eqPacketS.T6 : Bool × List (List Nat × List Nat) := (true, [([], []), ([], []), ([0, 1], [0, 1]), ([2], [2]), ([], []), ([], []), ([4, 5], [4, 5]), ([6], [6]), ([3, 7], [3, 7]), ([8], [8])])
def laws_eqPacketS.B6 : List Nat := [0, 0, 3, 7, 0, 0, 48, 112, 255, 511]
theorem laws_eqPacketS.tab6 : rtab .any (opsOf Try.f53 6) = laws_eqPacketS.T6 := by kernel_rfl
theorem laws_eqPacketS.bits6 : waitsOk laws_eqPacketS.T6.2 laws_eqPacketS.B6 = true := by kernel_rfl
set_option maxHeartbeats 8000000 in
set_option maxRecDepth 100000 in
theorem laws_eqPacketS.calls (k : Nat) (A0 : Option Addr) (c0 : Nat) (l0 : List (S36)) (A1 : Option Addr) (c1 : Nat) (l1 : List (S36)) (r : Bool) (w : World) (hr0 : Kd.C k36 w A0 l0.length l0) (hc0 : l0.length ≤ c0) (hr1 : Kd.C k36 w A1 l1.length l1) (hc1 : l1.length ≤ c1) (h : laws_eqPacketS.f k l0 l1 = some r) :
  Calls Try.prog 53 #[.slice A0 l0.length c0, .slice A1 l1.length c1] w fun e w' => e = .returned (.bool r) ∧ Below w.heap.size w w' := by
 have hu36 := Try.underlying36; have HR0 := Aside0.mk hr0; have HC0 := Aside0.mk hc0; clear hr0 hc0; have HR1 := Aside0.mk hr1; have HC1 := Aside0.mk hc1; clear hr1 hc1
 have HB := Aside0.mk (Below.refl w.heap.size w)
 have H : (if (l0.length : Int) = (l1.length : Int) then (laws_eqPacketS.l0 k l0 l1 0) else (some false)) = some r := h
 clear h
 by_cases c3 : (l0.length : Int) = (l1.length : Int)
 ·rw [if_pos c3] at H
  have c3b0 : ((l0.length : Int) == (l1.length : Int)) = true := beq_iff_eq.mpr c3
  have c3b1 : ((l0.length : Int) != (l1.length : Int)) = false := bne_eq_false_iff_eq.mpr c3
  have c3b2 : (l0.length == l1.length) = true := by first | simpa using c3 | (simp at c3 ⊢; omega)
  clear c3
  have H' := Aside0.mk H
  clear H
  go_enter Try.func53, Try.ntmps53
  go_wp2
  go_loopg [5] k (fun kq v5 w' => ∃ (x5_1 : Int), v5 = .int .i64 x5_1 ∧ Aside0 (laws_eqPacketS.l0 kq l0 l1 x5_1 = some r) ∧ Aside0 (kq ≤ k) ∧ Aside0 (Below w.heap.size w w'))
  case atStart => exact ⟨(0), (by first | rfl | (simp; done) | (simp [*]; done)), H', ⟨Nat.le_refl _⟩, ⟨hbA_ HB.out⟩⟩
  case round =>
   clear H'; (try clear c1); (try clear p2); (try clear c3); (try clear c3b0); (try clear c3b1); (try clear c3b2)
   obtain ⟨x5_1, rfl, HA, HK1, HB⟩ := hrel
   cases gk with
   | zero => exact absurd HA.out (by simp [laws_eqPacketS.l0])
   | succ k1 =>
    have H := HA.out; clear HA
    simp only [laws_eqPacketS.l0] at H
    by_cases c4 : x5_1 < (l0.length : Int)
    ·rw [if_pos c4] at H
     have c4b0 : decide (x5_1 < (l0.length : Int)) = true := decide_eq_true c4
     clear c4
     by_cases c5 : 0 ≤ x5_1
     ·rw [if_pos c5] at H
      have c5b0 : decide (0 ≤ x5_1) = true := decide_eq_true c5
      clear c5
      by_cases c6 : x5_1 < (l1.length : Int)
      ·rw [if_pos c6] at H
       have c6b0 : decide (x5_1 < (l1.length : Int)) = true := decide_eq_true c6
       clear c6
       replace H := Option.bind_eq_some_iff.mp H
       obtain ⟨t305, A70, H⟩ := H
       (try dsimp only at H)
       have A7 := Aside0.mk A70; clear A70
       by_cases c8 : t305 = true
       ·subst c8
        rw [if_pos rfl] at H
        have H' := Aside0.mk H
        clear H
        try go_wp2
        replace HB := (bd_ HB)
        have p303 : 0 ≤ (x5_1 : Int) := of_decide_eq_true (by first | (with_reducible assumption) | assumption)
        have q303 : x5_1 < (l0.length : Int) := of_decide_eq_true (by first | (with_reducible assumption) | assumption)
        obtain ⟨ad303, A303_8, c303_8, e303, hx303_0, hx303_1, hx303_2, hx303_3, hx303_4, hx303_5, hx303_6, hx303_7, hx303_8, hl303_8, hi303_8⟩ := at_T36 HR0.out x5_1 p303 q303
        have hw303_8 := hx303_8; have hw303_7 := hx303_7; have hw303_6 := hx303_6; have hw303_5 := hx303_5; have hw303_4 := hx303_4; have hw303_3 := hx303_3; have hw303_2 := hx303_2; have hw303_1 := hx303_1; have hw303_0 := hx303_0
        cases e303
        replace hx303_0 := cc_ HB hx303_0
        replace hx303_1 := cc_ HB hx303_1
        replace hx303_2 := cc_ HB hx303_2
        replace hx303_3 := cc_ HB hx303_3
        replace hx303_4 := cc_ HB hx303_4
        replace hx303_5 := cc_ HB hx303_5
        replace hx303_6 := cc_ HB hx303_6
        replace hx303_7 := cc_ HB hx303_7
        replace hx303_8 := cc_ HB hx303_8
        have HR303_8 := Aside0.mk hi303_8; have HC303_8 := Aside0.mk hl303_8; clear hi303_8 hl303_8
        replace p303 := eq_true p303
        replace q303 := eq_true q303
        have p304 : 0 ≤ (x5_1 : Int) := of_decide_eq_true (by first | (with_reducible assumption) | assumption)
        have q304 : x5_1 < (l1.length : Int) := of_decide_eq_true (by first | (with_reducible assumption) | assumption)
        obtain ⟨ad304, A304_8, c304_8, e304, hx304_0, hx304_1, hx304_2, hx304_3, hx304_4, hx304_5, hx304_6, hx304_7, hx304_8, hl304_8, hi304_8⟩ := at_T36 HR1.out x5_1 p304 q304
        have hw304_8 := hx304_8; have hw304_7 := hx304_7; have hw304_6 := hx304_6; have hw304_5 := hx304_5; have hw304_4 := hx304_4; have hw304_3 := hx304_3; have hw304_2 := hx304_2; have hw304_1 := hx304_1; have hw304_0 := hx304_0
        cases e304
        replace hx304_0 := cc_ HB hx304_0
        replace hx304_1 := cc_ HB hx304_1
        replace hx304_2 := cc_ HB hx304_2
        replace hx304_3 := cc_ HB hx304_3
        replace hx304_4 := cc_ HB hx304_4
        replace hx304_5 := cc_ HB hx304_5
        replace hx304_6 := cc_ HB hx304_6
        replace hx304_7 := cc_ HB hx304_7
        replace hx304_8 := cc_ HB hx304_8
        have HR304_8 := Aside0.mk hi304_8; have HC304_8 := Aside0.mk hl304_8; clear hi304_8 hl304_8
        replace p304 := eq_true p304
        replace q304 := eq_true q304
        refine start_ (n := 10) (S := fun w' => w'.cell? (ad303.add ((x5_1).toNat * 9)) = some (.int .i64 ((rd_T36 l0 x5_1).f0)) ∧ w'.cell? ⟨(ad303.add ((x5_1).toNat * 9)).block, (ad303.add ((x5_1).toNat * 9)).off + 1, none⟩ = some (.int .i64 ((rd_T36 l0 x5_1).f1)) ∧ w'.cell? ⟨(ad303.add ((x5_1).toNat * 9)).block, (ad303.add ((x5_1).toNat * 9)).off + 2, none⟩ = some (.int .i64 ((rd_T36 l0 x5_1).f2)) ∧ w'.cell? ⟨(ad303.add ((x5_1).toNat * 9)).block, (ad303.add ((x5_1).toNat * 9)).off + 3, none⟩ = some (.int .i64 ((rd_T36 l0 x5_1).f3)) ∧ w'.cell? ⟨(ad303.add ((x5_1).toNat * 9)).block, (ad303.add ((x5_1).toNat * 9)).off + 4, none⟩ = some (.int .i64 ((rd_T36 l0 x5_1).f4)) ∧ w'.cell? ⟨(ad303.add ((x5_1).toNat * 9)).block, (ad303.add ((x5_1).toNat * 9)).off + 5, none⟩ = some (.int .i64 ((rd_T36 l0 x5_1).f5)) ∧ w'.cell? ⟨(ad303.add ((x5_1).toNat * 9)).block, (ad303.add ((x5_1).toNat * 9)).off + 6, none⟩ = some (.bool ((rd_T36 l0 x5_1).f6)) ∧ w'.cell? ⟨(ad303.add ((x5_1).toNat * 9)).block, (ad303.add ((x5_1).toNat * 9)).off + 7, none⟩ = some (.bool ((rd_T36 l0 x5_1).f7)) ∧ w'.cell? ⟨(ad303.add ((x5_1).toNat * 9)).block, (ad303.add ((x5_1).toNat * 9)).off + 8, none⟩ = some (.slice A303_8 ((rd_T36 l0 x5_1).f8).length c303_8) ∧ w'.cell? (ad304.add ((x5_1).toNat * 9)) = some (.int .i64 ((rd_T36 l1 x5_1).f0)) ∧ w'.cell? ⟨(ad304.add ((x5_1).toNat * 9)).block, (ad304.add ((x5_1).toNat * 9)).off + 1, none⟩ = some (.int .i64 ((rd_T36 l1 x5_1).f1)) ∧ w'.cell? ⟨(ad304.add ((x5_1).toNat * 9)).block, (ad304.add ((x5_1).toNat * 9)).off + 2, none⟩ = some (.int .i64 ((rd_T36 l1 x5_1).f2)) ∧ w'.cell? ⟨(ad304.add ((x5_1).toNat * 9)).block, (ad304.add ((x5_1).toNat * 9)).off + 3, none⟩ = some (.int .i64 ((rd_T36 l1 x5_1).f3)) ∧ w'.cell? ⟨(ad304.add ((x5_1).toNat * 9)).block, (ad304.add ((x5_1).toNat * 9)).off + 4, none⟩ = some (.int .i64 ((rd_T36 l1 x5_1).f4)) ∧ w'.cell? ⟨(ad304.add ((x5_1).toNat * 9)).block, (ad304.add ((x5_1).toNat * 9)).off + 5, none⟩ = some (.int .i64 ((rd_T36 l1 x5_1).f5)) ∧ w'.cell? ⟨(ad304.add ((x5_1).toNat * 9)).block, (ad304.add ((x5_1).toNat * 9)).off + 6, none⟩ = some (.bool ((rd_T36 l1 x5_1).f6)) ∧ w'.cell? ⟨(ad304.add ((x5_1).toNat * 9)).block, (ad304.add ((x5_1).toNat * 9)).off + 7, none⟩ = some (.bool ((rd_T36 l1 x5_1).f7)) ∧ w'.cell? ⟨(ad304.add ((x5_1).toNat * 9)).block, (ad304.add ((x5_1).toNat * 9)).off + 8, none⟩ = some (.slice A304_8 ((rd_T36 l1 x5_1).f8).length c304_8)) (ds := []) #[false, false, false, false, false, false, false, false, false, false] (by kernel_rfl) rfl rfl ⟨(cc_ HB hw303_0), (cc_ HB hw303_1), (cc_ HB hw303_2), (cc_ HB hw303_3), (cc_ HB hw303_4), (cc_ HB hw303_5), (cc_ HB hw303_6), (cc_ HB hw303_7), (cc_ HB hw303_8), (cc_ HB hw304_0), (cc_ HB hw304_1), (cc_ HB hw304_2), (cc_ HB hw304_3), (cc_ HB hw304_4), (cc_ HB hw304_5), (cc_ HB hw304_6), (cc_ HB hw304_7), (cc_ HB hw304_8)⟩ (fun hHeld => ?_); refine with_tabW laws_eqPacketS.tab6 laws_eqPacketS.bits6 (fun HT_ HW_ => ?_)
        generalize wr.drew = w9 at HB HR303_8 HR304_8 hx303_0 hx303_1 hx303_2 hx303_3 hx303_4 hx303_5 hx303_6 hx303_7 hx303_8 hx304_0 hx304_1 hx304_2 hx304_3 hx304_4 hx304_5 hx304_6 hx304_7 hx304_8 hHeld ⊢
        refine pu_ (i := 0) (N := some 17) HT_ ?_; refine pu_ (i := 1) (N := some 18) HT_ ?_; refine pu_ (i := 2) (N := some 19) HT_ ?_; refine pu_ (i := 4) (N := some 21) HT_ ?_; refine pu_ (i := 5) (N := some 22) HT_ ?_; refine pu_ (i := 6) (N := some 23) HT_ ?_; refine tk_ (i := 3) (N := some 20) HT_ HW_ hHeld ?_; refine tk_ (i := 7) (N := some 24) HT_ HW_ hHeld ?_
        refine on_ (i := 8) (N := some 25) HT_ (fun K hK => ?_)
        refine goes_ Try.func16 (by kernel_rfl) rfl #[.agg #[.int .i64 ((rd_T36 l0 x5_1).f0), .int .i64 ((rd_T36 l0 x5_1).f1), .int .i64 ((rd_T36 l0 x5_1).f2), .int .i64 ((rd_T36 l0 x5_1).f3), .int .i64 ((rd_T36 l0 x5_1).f4), .int .i64 ((rd_T36 l0 x5_1).f5), .bool ((rd_T36 l0 x5_1).f6), .bool ((rd_T36 l0 x5_1).f7), .slice A303_8 ((rd_T36 l0 x5_1).f8).length c303_8], .agg #[.int .i64 ((rd_T36 l1 x5_1).f0), .int .i64 ((rd_T36 l1 x5_1).f1), .int .i64 ((rd_T36 l1 x5_1).f2), .int .i64 ((rd_T36 l1 x5_1).f3), .int .i64 ((rd_T36 l1 x5_1).f4), .int .i64 ((rd_T36 l1 x5_1).f5), .bool ((rd_T36 l1 x5_1).f6), .bool ((rd_T36 l1 x5_1).f7), .slice A304_8 ((rd_T36 l1 x5_1).f8).length c304_8]] (by rfl) rfl rfl ar_ ?_
        with_reducible refine (laws_eqPacket.calls k1 ((rd_T36 l0 x5_1).f0) ((rd_T36 l0 x5_1).f1) ((rd_T36 l0 x5_1).f2) ((rd_T36 l0 x5_1).f3) ((rd_T36 l0 x5_1).f4) ((rd_T36 l0 x5_1).f5) ((rd_T36 l0 x5_1).f6) ((rd_T36 l0 x5_1).f7) _ _ ((rd_T36 l0 x5_1).f8) ((rd_T36 l1 x5_1).f0) ((rd_T36 l1 x5_1).f1) ((rd_T36 l1 x5_1).f2) ((rd_T36 l1 x5_1).f3) ((rd_T36 l1 x5_1).f4) ((rd_T36 l1 x5_1).f5) ((rd_T36 l1 x5_1).f6) ((rd_T36 l1 x5_1).f7) _ _ ((rd_T36 l1 x5_1).f8) true _ ?side1 ?side2 ?side3 ?side4 A7.out).mono ?_
        (case side1 => exact kC_ (Kd.C_below HR303_8.out HB.out))
        (case side2 => exact HC303_8.out)
        (case side3 => exact kC_ (Kd.C_below HR304_8.out HB.out))
        (case side4 => exact HC304_8.out)
        rintro e w10 ⟨rfl, hb⟩
        refine ⟨_, rfl, ?_⟩
        replace HB := (bs_ HB hb); (try clear hb); (try clear hb2); (try clear hk); (try clear hi)
        refine hK.out _ _ ⟨(by first | exact cc_ HB hw303_0 | exact cc_ ⟨hbA_ HB.out⟩ hw303_0), (by first | exact cc_ HB hw303_1 | exact cc_ ⟨hbA_ HB.out⟩ hw303_1), (by first | exact cc_ HB hw303_2 | exact cc_ ⟨hbA_ HB.out⟩ hw303_2), (by first | exact cc_ HB hw303_3 | exact cc_ ⟨hbA_ HB.out⟩ hw303_3), (by first | exact cc_ HB hw303_4 | exact cc_ ⟨hbA_ HB.out⟩ hw303_4), (by first | exact cc_ HB hw303_5 | exact cc_ ⟨hbA_ HB.out⟩ hw303_5), (by first | exact cc_ HB hw303_6 | exact cc_ ⟨hbA_ HB.out⟩ hw303_6), (by first | exact cc_ HB hw303_7 | exact cc_ ⟨hbA_ HB.out⟩ hw303_7), (by first | exact cc_ HB hw303_8 | exact cc_ ⟨hbA_ HB.out⟩ hw303_8), (by first | exact cc_ HB hw304_0 | exact cc_ ⟨hbA_ HB.out⟩ hw304_0), (by first | exact cc_ HB hw304_1 | exact cc_ ⟨hbA_ HB.out⟩ hw304_1), (by first | exact cc_ HB hw304_2 | exact cc_ ⟨hbA_ HB.out⟩ hw304_2), (by first | exact cc_ HB hw304_3 | exact cc_ ⟨hbA_ HB.out⟩ hw304_3), (by first | exact cc_ HB hw304_4 | exact cc_ ⟨hbA_ HB.out⟩ hw304_4), (by first | exact cc_ HB hw304_5 | exact cc_ ⟨hbA_ HB.out⟩ hw304_5), (by first | exact cc_ HB hw304_6 | exact cc_ ⟨hbA_ HB.out⟩ hw304_6), (by first | exact cc_ HB hw304_7 | exact cc_ ⟨hbA_ HB.out⟩ hw304_7), (by first | exact cc_ HB hw304_8 | exact cc_ ⟨hbA_ HB.out⟩ hw304_8)⟩ (fun hHeld => ?_)
        clear hK K; refine nm_ 25 ?_; refine pu_ (i := 9) (N := some 26) HT_ ?_
        refine done_ (done_of HT_.out (by kernel_rfl)) ?_
        try go_wp2
        go_roundg k1
        case measure => have := HK1.out; omega
        case rel => exact ⟨(wrap64 (x5_1 + 1)), (by first | rfl | (simp; done) | (simp [*]; done)), H', ⟨by have := HK1.out; omega⟩, ⟨hbA_ HB.out⟩⟩
       ·replace c8 := Bool.eq_false_iff.mpr c8
        subst c8
        rw [if_neg (show ¬ (false = true) by decide)] at H
        obtain rfl := Option.some.inj H
        try go_wp2
        replace HB := (bd_ HB)
        have p303 : 0 ≤ (x5_1 : Int) := of_decide_eq_true (by first | (with_reducible assumption) | assumption)
        have q303 : x5_1 < (l0.length : Int) := of_decide_eq_true (by first | (with_reducible assumption) | assumption)
        obtain ⟨ad303, A303_8, c303_8, e303, hx303_0, hx303_1, hx303_2, hx303_3, hx303_4, hx303_5, hx303_6, hx303_7, hx303_8, hl303_8, hi303_8⟩ := at_T36 HR0.out x5_1 p303 q303
        have hw303_8 := hx303_8; have hw303_7 := hx303_7; have hw303_6 := hx303_6; have hw303_5 := hx303_5; have hw303_4 := hx303_4; have hw303_3 := hx303_3; have hw303_2 := hx303_2; have hw303_1 := hx303_1; have hw303_0 := hx303_0
        cases e303
        replace hx303_0 := cc_ HB hx303_0
        replace hx303_1 := cc_ HB hx303_1
        replace hx303_2 := cc_ HB hx303_2
        replace hx303_3 := cc_ HB hx303_3
        replace hx303_4 := cc_ HB hx303_4
        replace hx303_5 := cc_ HB hx303_5
        replace hx303_6 := cc_ HB hx303_6
        replace hx303_7 := cc_ HB hx303_7
        replace hx303_8 := cc_ HB hx303_8
        have HR303_8 := Aside0.mk hi303_8; have HC303_8 := Aside0.mk hl303_8; clear hi303_8 hl303_8
        replace p303 := eq_true p303
        replace q303 := eq_true q303
        have p304 : 0 ≤ (x5_1 : Int) := of_decide_eq_true (by first | (with_reducible assumption) | assumption)
        have q304 : x5_1 < (l1.length : Int) := of_decide_eq_true (by first | (with_reducible assumption) | assumption)
        obtain ⟨ad304, A304_8, c304_8, e304, hx304_0, hx304_1, hx304_2, hx304_3, hx304_4, hx304_5, hx304_6, hx304_7, hx304_8, hl304_8, hi304_8⟩ := at_T36 HR1.out x5_1 p304 q304
        have hw304_8 := hx304_8; have hw304_7 := hx304_7; have hw304_6 := hx304_6; have hw304_5 := hx304_5; have hw304_4 := hx304_4; have hw304_3 := hx304_3; have hw304_2 := hx304_2; have hw304_1 := hx304_1; have hw304_0 := hx304_0
        cases e304
        replace hx304_0 := cc_ HB hx304_0
        replace hx304_1 := cc_ HB hx304_1
        replace hx304_2 := cc_ HB hx304_2
        replace hx304_3 := cc_ HB hx304_3
        replace hx304_4 := cc_ HB hx304_4
        replace hx304_5 := cc_ HB hx304_5
        replace hx304_6 := cc_ HB hx304_6
        replace hx304_7 := cc_ HB hx304_7
        replace hx304_8 := cc_ HB hx304_8
        have HR304_8 := Aside0.mk hi304_8; have HC304_8 := Aside0.mk hl304_8; clear hi304_8 hl304_8
        replace p304 := eq_true p304
        replace q304 := eq_true q304
        refine start_ (n := 10) (S := fun w' => w'.cell? (ad303.add ((x5_1).toNat * 9)) = some (.int .i64 ((rd_T36 l0 x5_1).f0)) ∧ w'.cell? ⟨(ad303.add ((x5_1).toNat * 9)).block, (ad303.add ((x5_1).toNat * 9)).off + 1, none⟩ = some (.int .i64 ((rd_T36 l0 x5_1).f1)) ∧ w'.cell? ⟨(ad303.add ((x5_1).toNat * 9)).block, (ad303.add ((x5_1).toNat * 9)).off + 2, none⟩ = some (.int .i64 ((rd_T36 l0 x5_1).f2)) ∧ w'.cell? ⟨(ad303.add ((x5_1).toNat * 9)).block, (ad303.add ((x5_1).toNat * 9)).off + 3, none⟩ = some (.int .i64 ((rd_T36 l0 x5_1).f3)) ∧ w'.cell? ⟨(ad303.add ((x5_1).toNat * 9)).block, (ad303.add ((x5_1).toNat * 9)).off + 4, none⟩ = some (.int .i64 ((rd_T36 l0 x5_1).f4)) ∧ w'.cell? ⟨(ad303.add ((x5_1).toNat * 9)).block, (ad303.add ((x5_1).toNat * 9)).off + 5, none⟩ = some (.int .i64 ((rd_T36 l0 x5_1).f5)) ∧ w'.cell? ⟨(ad303.add ((x5_1).toNat * 9)).block, (ad303.add ((x5_1).toNat * 9)).off + 6, none⟩ = some (.bool ((rd_T36 l0 x5_1).f6)) ∧ w'.cell? ⟨(ad303.add ((x5_1).toNat * 9)).block, (ad303.add ((x5_1).toNat * 9)).off + 7, none⟩ = some (.bool ((rd_T36 l0 x5_1).f7)) ∧ w'.cell? ⟨(ad303.add ((x5_1).toNat * 9)).block, (ad303.add ((x5_1).toNat * 9)).off + 8, none⟩ = some (.slice A303_8 ((rd_T36 l0 x5_1).f8).length c303_8) ∧ w'.cell? (ad304.add ((x5_1).toNat * 9)) = some (.int .i64 ((rd_T36 l1 x5_1).f0)) ∧ w'.cell? ⟨(ad304.add ((x5_1).toNat * 9)).block, (ad304.add ((x5_1).toNat * 9)).off + 1, none⟩ = some (.int .i64 ((rd_T36 l1 x5_1).f1)) ∧ w'.cell? ⟨(ad304.add ((x5_1).toNat * 9)).block, (ad304.add ((x5_1).toNat * 9)).off + 2, none⟩ = some (.int .i64 ((rd_T36 l1 x5_1).f2)) ∧ w'.cell? ⟨(ad304.add ((x5_1).toNat * 9)).block, (ad304.add ((x5_1).toNat * 9)).off + 3, none⟩ = some (.int .i64 ((rd_T36 l1 x5_1).f3)) ∧ w'.cell? ⟨(ad304.add ((x5_1).toNat * 9)).block, (ad304.add ((x5_1).toNat * 9)).off + 4, none⟩ = some (.int .i64 ((rd_T36 l1 x5_1).f4)) ∧ w'.cell? ⟨(ad304.add ((x5_1).toNat * 9)).block, (ad304.add ((x5_1).toNat * 9)).off + 5, none⟩ = some (.int .i64 ((rd_T36 l1 x5_1).f5)) ∧ w'.cell? ⟨(ad304.add ((x5_1).toNat * 9)).block, (ad304.add ((x5_1).toNat * 9)).off + 6, none⟩ = some (.bool ((rd_T36 l1 x5_1).f6)) ∧ w'.cell? ⟨(ad304.add ((x5_1).toNat * 9)).block, (ad304.add ((x5_1).toNat * 9)).off + 7, none⟩ = some (.bool ((rd_T36 l1 x5_1).f7)) ∧ w'.cell? ⟨(ad304.add ((x5_1).toNat * 9)).block, (ad304.add ((x5_1).toNat * 9)).off + 8, none⟩ = some (.slice A304_8 ((rd_T36 l1 x5_1).f8).length c304_8)) (ds := []) #[false, false, false, false, false, false, false, false, false, false] (by kernel_rfl) rfl rfl ⟨(cc_ HB hw303_0), (cc_ HB hw303_1), (cc_ HB hw303_2), (cc_ HB hw303_3), (cc_ HB hw303_4), (cc_ HB hw303_5), (cc_ HB hw303_6), (cc_ HB hw303_7), (cc_ HB hw303_8), (cc_ HB hw304_0), (cc_ HB hw304_1), (cc_ HB hw304_2), (cc_ HB hw304_3), (cc_ HB hw304_4), (cc_ HB hw304_5), (cc_ HB hw304_6), (cc_ HB hw304_7), (cc_ HB hw304_8)⟩ (fun hHeld => ?_); refine with_tabW laws_eqPacketS.tab6 laws_eqPacketS.bits6 (fun HT_ HW_ => ?_)
        generalize wr.drew = w11 at HB HR303_8 HR304_8 hx303_0 hx303_1 hx303_2 hx303_3 hx303_4 hx303_5 hx303_6 hx303_7 hx303_8 hx304_0 hx304_1 hx304_2 hx304_3 hx304_4 hx304_5 hx304_6 hx304_7 hx304_8 hHeld ⊢
        refine pu_ (i := 0) (N := some 17) HT_ ?_; refine pu_ (i := 1) (N := some 18) HT_ ?_; refine pu_ (i := 2) (N := some 19) HT_ ?_; refine pu_ (i := 4) (N := some 21) HT_ ?_; refine pu_ (i := 5) (N := some 22) HT_ ?_; refine pu_ (i := 6) (N := some 23) HT_ ?_; refine tk_ (i := 3) (N := some 20) HT_ HW_ hHeld ?_; refine tk_ (i := 7) (N := some 24) HT_ HW_ hHeld ?_
        refine on_ (i := 8) (N := some 25) HT_ (fun K hK => ?_)
        refine goes_ Try.func16 (by kernel_rfl) rfl #[.agg #[.int .i64 ((rd_T36 l0 x5_1).f0), .int .i64 ((rd_T36 l0 x5_1).f1), .int .i64 ((rd_T36 l0 x5_1).f2), .int .i64 ((rd_T36 l0 x5_1).f3), .int .i64 ((rd_T36 l0 x5_1).f4), .int .i64 ((rd_T36 l0 x5_1).f5), .bool ((rd_T36 l0 x5_1).f6), .bool ((rd_T36 l0 x5_1).f7), .slice A303_8 ((rd_T36 l0 x5_1).f8).length c303_8], .agg #[.int .i64 ((rd_T36 l1 x5_1).f0), .int .i64 ((rd_T36 l1 x5_1).f1), .int .i64 ((rd_T36 l1 x5_1).f2), .int .i64 ((rd_T36 l1 x5_1).f3), .int .i64 ((rd_T36 l1 x5_1).f4), .int .i64 ((rd_T36 l1 x5_1).f5), .bool ((rd_T36 l1 x5_1).f6), .bool ((rd_T36 l1 x5_1).f7), .slice A304_8 ((rd_T36 l1 x5_1).f8).length c304_8]] (by rfl) rfl rfl ar_ ?_
        with_reducible refine (laws_eqPacket.calls k1 ((rd_T36 l0 x5_1).f0) ((rd_T36 l0 x5_1).f1) ((rd_T36 l0 x5_1).f2) ((rd_T36 l0 x5_1).f3) ((rd_T36 l0 x5_1).f4) ((rd_T36 l0 x5_1).f5) ((rd_T36 l0 x5_1).f6) ((rd_T36 l0 x5_1).f7) _ _ ((rd_T36 l0 x5_1).f8) ((rd_T36 l1 x5_1).f0) ((rd_T36 l1 x5_1).f1) ((rd_T36 l1 x5_1).f2) ((rd_T36 l1 x5_1).f3) ((rd_T36 l1 x5_1).f4) ((rd_T36 l1 x5_1).f5) ((rd_T36 l1 x5_1).f6) ((rd_T36 l1 x5_1).f7) _ _ ((rd_T36 l1 x5_1).f8) false _ ?side1 ?side2 ?side3 ?side4 A7.out).mono ?_
        (case side1 => exact kC_ (Kd.C_below HR303_8.out HB.out))
        (case side2 => exact HC303_8.out)
        (case side3 => exact kC_ (Kd.C_below HR304_8.out HB.out))
        (case side4 => exact HC304_8.out)
        rintro e w12 ⟨rfl, hb⟩
        refine ⟨_, rfl, ?_⟩
        replace HB := (bs_ HB hb); (try clear hb); (try clear hb2); (try clear hk); (try clear hi)
        refine hK.out _ _ ⟨(by first | exact cc_ HB hw303_0 | exact cc_ ⟨hbA_ HB.out⟩ hw303_0), (by first | exact cc_ HB hw303_1 | exact cc_ ⟨hbA_ HB.out⟩ hw303_1), (by first | exact cc_ HB hw303_2 | exact cc_ ⟨hbA_ HB.out⟩ hw303_2), (by first | exact cc_ HB hw303_3 | exact cc_ ⟨hbA_ HB.out⟩ hw303_3), (by first | exact cc_ HB hw303_4 | exact cc_ ⟨hbA_ HB.out⟩ hw303_4), (by first | exact cc_ HB hw303_5 | exact cc_ ⟨hbA_ HB.out⟩ hw303_5), (by first | exact cc_ HB hw303_6 | exact cc_ ⟨hbA_ HB.out⟩ hw303_6), (by first | exact cc_ HB hw303_7 | exact cc_ ⟨hbA_ HB.out⟩ hw303_7), (by first | exact cc_ HB hw303_8 | exact cc_ ⟨hbA_ HB.out⟩ hw303_8), (by first | exact cc_ HB hw304_0 | exact cc_ ⟨hbA_ HB.out⟩ hw304_0), (by first | exact cc_ HB hw304_1 | exact cc_ ⟨hbA_ HB.out⟩ hw304_1), (by first | exact cc_ HB hw304_2 | exact cc_ ⟨hbA_ HB.out⟩ hw304_2), (by first | exact cc_ HB hw304_3 | exact cc_ ⟨hbA_ HB.out⟩ hw304_3), (by first | exact cc_ HB hw304_4 | exact cc_ ⟨hbA_ HB.out⟩ hw304_4), (by first | exact cc_ HB hw304_5 | exact cc_ ⟨hbA_ HB.out⟩ hw304_5), (by first | exact cc_ HB hw304_6 | exact cc_ ⟨hbA_ HB.out⟩ hw304_6), (by first | exact cc_ HB hw304_7 | exact cc_ ⟨hbA_ HB.out⟩ hw304_7), (by first | exact cc_ HB hw304_8 | exact cc_ ⟨hbA_ HB.out⟩ hw304_8)⟩ (fun hHeld => ?_)
        clear hK K; refine nm_ 25 ?_; refine pu_ (i := 9) (N := some 26) HT_ ?_
        refine done_ (done_of HT_.out (by kernel_rfl)) ?_
        try go_wp2
        go_ret
        exact ⟨by first | rfl | (simp [errW_none, errW_some] <;> rfl) | (simp [*, errW_none, errW_some] <;> rfl), hbA_ HB.out⟩
      ·rw [if_neg c6] at H
       exact absurd H (by simp)
     ·rw [if_neg c5] at H
      exact absurd H (by simp)
    ·rw [if_neg c4] at H
     have c4b0 : decide (x5_1 < (l0.length : Int)) = false := decide_eq_false c4
     clear c4
     obtain rfl := Option.some.inj H
     go_wp2
     go_ret
     exact ⟨by first | rfl | (simp [errW_none, errW_some] <;> rfl) | (simp [*, errW_none, errW_some] <;> rfl), hbA_ HB.out⟩
 ·rw [if_neg c3] at H
  have c3b0 : ((l0.length : Int) == (l1.length : Int)) = false := beq_eq_false_iff_ne.mpr c3
  have c3b1 : ((l0.length : Int) != (l1.length : Int)) = true := bne_iff_ne.mpr c3
  have c3b2 : (l0.length == l1.length) = false := by first | simpa using c3 | (simp at c3 ⊢; omega)
  obtain rfl := Option.some.inj H
  go_enter Try.func53, Try.ntmps53
  go_wp2
  go_ret
  exact ⟨by first | rfl | (simp [errW_none, errW_some] <;> rfl) | (simp [*, errW_none, errW_some] <;> rfl), hbA_ HB.out⟩
def laws_eqPart.f (k : Nat) (l0_0 : List (S36)) (a0_1 : Int) (l1_0 : List (S36)) (a1_1 : Int) : Option (Bool) := (laws_eqPacketS.f k l0_0 l1_0).bind fun t308 => (if t308 = true then (if a0_1 = a1_1 then (some true) else (some false)) else (some false))
theorem laws_eqPart.mono : ∀ a0 a1 a2 a3 k, LeO (laws_eqPart.f k a0 a1 a2 a3) (laws_eqPart.f (k + 1) a0 a1 a2 a3) := by
 intro a0 a1 a2 a3 k
 unfold laws_eqPart.f
 repeat' first | (with_reducible first | apply laws_eqPacketS.mono | exact LeO.refl _ | exact LeO.none _ | refine LeO.ite ?_ ?_ | refine LeO.bind ?_ fun _ => ?_) | apply laws_eqPacketS.mono | exact LeO.none _ | refine LeO.ite ?_ ?_ | refine LeO.bind ?_ fun _ => ?_
set_option maxHeartbeats 8000000 in
set_option maxRecDepth 100000 in
theorem laws_eqPart.calls (k : Nat) (A0_0 : Option Addr) (c0_0 : Nat) (l0_0 : List (S36)) (a0_1 : Int) (A1_0 : Option Addr) (c1_0 : Nat) (l1_0 : List (S36)) (a1_1 : Int) (r : Bool) (w : World) (hr0_0 : Kd.C k36 w A0_0 l0_0.length l0_0) (hc0_0 : l0_0.length ≤ c0_0) (hr1_0 : Kd.C k36 w A1_0 l1_0.length l1_0) (hc1_0 : l1_0.length ≤ c1_0) (h : laws_eqPart.f k l0_0 a0_1 l1_0 a1_1 = some r) :
  Calls Try.prog 15 #[.agg #[.slice A0_0 l0_0.length c0_0, .int .i64 a0_1], .agg #[.slice A1_0 l1_0.length c1_0, .int .i64 a1_1]] w fun e w' => e = .returned (.bool r) ∧ Below w.heap.size w w' := by
 have hu32 := Try.underlying32; have HR0_0 := Aside0.mk hr0_0; have HC0_0 := Aside0.mk hc0_0; clear hr0_0 hc0_0; have HR1_0 := Aside0.mk hr1_0; have HC1_0 := Aside0.mk hc1_0; clear hr1_0 hc1_0
 have HB := Aside0.mk (Below.refl w.heap.size w)
 have H : ((laws_eqPacketS.f k l0_0 l1_0).bind fun t308 => (if t308 = true then (if a0_1 = a1_1 then (some true) else (some false)) else (some false))) = some r := h
 clear h
 replace H := Option.bind_eq_some_iff.mp H
 obtain ⟨t308, A30, H⟩ := H
 (try dsimp only at H)
 have A3 := Aside0.mk A30; clear A30
 by_cases c4 : t308 = true
 ·subst c4
  rw [if_pos rfl] at H
  by_cases c5 : a0_1 = a1_1
  ·rw [if_pos c5] at H
   have c5b0 : (a0_1 == a1_1) = true := beq_iff_eq.mpr c5
   have c5b1 : (a0_1 != a1_1) = false := bne_eq_false_iff_eq.mpr c5
   clear c5
   obtain rfl := Option.some.inj H
   go_enter Try.func15, Try.ntmps15
   go_wp2_with (first | ((with_reducible refine gate_dst (N := 2) rfl ?_); refine box_ (N := 2) (cs := #[.slice A0_0 l0_0.length c0_0, .int .i64 a0_1]) (t := 32) (fun gb306 hg w6 hbox hb => ?_); have BK306 := Aside0.mk (hbox); have GW306 := ge_ hg HB; have GE306 := ge_ hg HB; replace HB := (bs_ HB hb); clear hb hbox hg) | ((with_reducible refine gate_dst (N := 3) rfl ?_); refine box_ (N := 3) (cs := #[.slice A1_0 l1_0.length c1_0, .int .i64 a1_1]) (t := 32) (fun gb307 hg w7 hbox hb => ?_); have BK307 := Aside0.mk (hbox); have GW307 := ge_ hg HB; have GE307 := ge_ hg HB; replace HB := (bs_ HB hb); have NB306_307 := nl_ hg BK306; have NB307_306 := ng_ hg BK306; replace BK306 := (bbA_ BK306 hb); clear hb hbox hg; have hnb8 := NB306_307.out; have hnc8 := NB307_306.out; have Z9 := zz2 BK306; have Z10 := zz2 BK307) | ((with_reducible refine gate_callee (f := 53) rfl ?_); refine goesL_ (some 9) rfl rfl Try.func53 (by kernel_rfl) rfl #[.slice A0_0 l0_0.length c0_0, .slice A1_0 l1_0.length c1_0] rfl ar_ ?_; (with_reducible refine (laws_eqPacketS.calls k _ _ l0_0 _ _ l1_0 true _ ?side1 ?side2 ?side3 ?side4 A3.out).mono ?_); (case side1 => exact kC_ (Kd.C_below HR0_0.out HB.out)); (case side2 => exact HC0_0.out); (case side3 => exact kC_ (Kd.C_below HR1_0.out HB.out)); (case side4 => exact HC1_0.out); rintro e w11 ⟨rfl, hb⟩; refine ⟨_, rfl, ?_⟩; replace BK306 := (bbA_ BK306 hb); replace BK307 := (bbA_ BK307 hb); replace HB := (bs_ HB hb); (try clear hb); (try clear hb2); (try clear hk); (try clear hi); have Z12 := zz2 BK306; have Z13 := zz2 BK307))
   go_ret
   exact ⟨by first | rfl | (simp [errW_none, errW_some] <;> rfl) | (simp [*, errW_none, errW_some] <;> rfl), hbA_ HB.out⟩
  ·rw [if_neg c5] at H
   have c5b0 : (a0_1 == a1_1) = false := beq_eq_false_iff_ne.mpr c5
   have c5b1 : (a0_1 != a1_1) = true := bne_iff_ne.mpr c5
   obtain rfl := Option.some.inj H
   go_enter Try.func15, Try.ntmps15
   go_wp2_with (first | ((with_reducible refine gate_dst (N := 2) rfl ?_); refine box_ (N := 2) (cs := #[.slice A0_0 l0_0.length c0_0, .int .i64 a0_1]) (t := 32) (fun gb306 hg w14 hbox hb => ?_); have BK306 := Aside0.mk (hbox); have GW306 := ge_ hg HB; have GE306 := ge_ hg HB; replace HB := (bs_ HB hb); clear hb hbox hg) | ((with_reducible refine gate_dst (N := 3) rfl ?_); refine box_ (N := 3) (cs := #[.slice A1_0 l1_0.length c1_0, .int .i64 a1_1]) (t := 32) (fun gb307 hg w15 hbox hb => ?_); have BK307 := Aside0.mk (hbox); have GW307 := ge_ hg HB; have GE307 := ge_ hg HB; replace HB := (bs_ HB hb); have NB306_307 := nl_ hg BK306; have NB307_306 := ng_ hg BK306; replace BK306 := (bbA_ BK306 hb); clear hb hbox hg; have hnb16 := NB306_307.out; have hnc16 := NB307_306.out; have Z17 := zz2 BK306; have Z18 := zz2 BK307) | ((with_reducible refine gate_callee (f := 53) rfl ?_); refine goesL_ (some 9) rfl rfl Try.func53 (by kernel_rfl) rfl #[.slice A0_0 l0_0.length c0_0, .slice A1_0 l1_0.length c1_0] rfl ar_ ?_; (with_reducible refine (laws_eqPacketS.calls k _ _ l0_0 _ _ l1_0 true _ ?side1 ?side2 ?side3 ?side4 A3.out).mono ?_); (case side1 => exact kC_ (Kd.C_below HR0_0.out HB.out)); (case side2 => exact HC0_0.out); (case side3 => exact kC_ (Kd.C_below HR1_0.out HB.out)); (case side4 => exact HC1_0.out); rintro e w19 ⟨rfl, hb⟩; refine ⟨_, rfl, ?_⟩; replace BK306 := (bbA_ BK306 hb); replace BK307 := (bbA_ BK307 hb); replace HB := (bs_ HB hb); (try clear hb); (try clear hb2); (try clear hk); (try clear hi); have Z20 := zz2 BK306; have Z21 := zz2 BK307))
   go_ret
   exact ⟨by first | rfl | (simp [errW_none, errW_some] <;> rfl) | (simp [*, errW_none, errW_some] <;> rfl), hbA_ HB.out⟩
 ·replace c4 := Bool.eq_false_iff.mpr c4
  subst c4
  rw [if_neg (show ¬ (false = true) by decide)] at H
  obtain rfl := Option.some.inj H
  go_enter Try.func15, Try.ntmps15
  go_wp2_with (first | ((with_reducible refine gate_dst (N := 2) rfl ?_); refine box_ (N := 2) (cs := #[.slice A0_0 l0_0.length c0_0, .int .i64 a0_1]) (t := 32) (fun gb306 hg w22 hbox hb => ?_); have BK306 := Aside0.mk (hbox); have GW306 := ge_ hg HB; have GE306 := ge_ hg HB; replace HB := (bs_ HB hb); clear hb hbox hg) | ((with_reducible refine gate_dst (N := 3) rfl ?_); refine box_ (N := 3) (cs := #[.slice A1_0 l1_0.length c1_0, .int .i64 a1_1]) (t := 32) (fun gb307 hg w23 hbox hb => ?_); have BK307 := Aside0.mk (hbox); have GW307 := ge_ hg HB; have GE307 := ge_ hg HB; replace HB := (bs_ HB hb); have NB306_307 := nl_ hg BK306; have NB307_306 := ng_ hg BK306; replace BK306 := (bbA_ BK306 hb); clear hb hbox hg; have hnb24 := NB306_307.out; have hnc24 := NB307_306.out; have Z25 := zz2 BK306; have Z26 := zz2 BK307) | ((with_reducible refine gate_callee (f := 53) rfl ?_); refine goesL_ (some 9) rfl rfl Try.func53 (by kernel_rfl) rfl #[.slice A0_0 l0_0.length c0_0, .slice A1_0 l1_0.length c1_0] rfl ar_ ?_; (with_reducible refine (laws_eqPacketS.calls k _ _ l0_0 _ _ l1_0 false _ ?side1 ?side2 ?side3 ?side4 A3.out).mono ?_); (case side1 => exact kC_ (Kd.C_below HR0_0.out HB.out)); (case side2 => exact HC0_0.out); (case side3 => exact kC_ (Kd.C_below HR1_0.out HB.out)); (case side4 => exact HC1_0.out); rintro e w27 ⟨rfl, hb⟩; refine ⟨_, rfl, ?_⟩; replace BK306 := (bbA_ BK306 hb); replace BK307 := (bbA_ BK307 hb); replace HB := (bs_ HB hb); (try clear hb); (try clear hb2); (try clear hk); (try clear hi)))
  go_ret
  exact ⟨by first | rfl | (simp [errW_none, errW_some] <;> rfl) | (simp [*, errW_none, errW_some] <;> rfl), hbA_ HB.out⟩
def laws_markByteS.l0 : Nat → List Int → Int → Int → Option (Int × List Int)
 | 0, _, _, _ => none
 | k + 1, x0, x1, x5 => if x5 < (x0.length : Int) then (if 0 ≤ x5 then (laws_markByteS.l0 k (x0.set (x5 : Int).toNat ((x1) % 256)) (wrap64 (x1 + 1)) (wrap64 (x5 + 1))) else (none)) else (some (x1, x0))
def laws_markByteS.f (k : Nat) (l0 : List Int) (a1 : Int) : Option (Int × List Int) := laws_markByteS.l0 k l0 a1 0
theorem laws_markByteS.mono_l : ∀ k, (∀ y0 y1 y2, LeO (laws_markByteS.l0 k y0 y1 y2) (laws_markByteS.l0 (k + 1) y0 y1 y2))
 | 0 => fun _ _ _ r h => by simp [laws_markByteS.l0] at h
 | k + 1 => by
  have ih0 := laws_markByteS.mono_l k
  ·intro y0 y1 y2
   unfold laws_markByteS.l0
   repeat' first | (with_reducible first | apply ih0 | exact LeO.refl _ | exact LeO.none _ | refine LeO.ite ?_ ?_ | refine LeO.bind ?_ fun _ => ?_) | apply ih0 | exact LeO.none _ | refine LeO.ite ?_ ?_ | refine LeO.bind ?_ fun _ => ?_
theorem laws_markByteS.mono : ∀ a0 a1 k, LeO (laws_markByteS.f k a0 a1) (laws_markByteS.f (k + 1) a0 a1) := by
 intro a0 a1 k
 have ih0 := laws_markByteS.mono_l k
 unfold laws_markByteS.f
 repeat' first | (with_reducible first | apply ih0 | exact LeO.refl _ | exact LeO.none _ | refine LeO.ite ?_ ?_ | refine LeO.bind ?_ fun _ => ?_) | apply ih0 | exact LeO.none _ | refine LeO.ite ?_ ?_ | refine LeO.bind ?_ fun _ => ?_
set_option maxHeartbeats 8000000 in
set_option maxRecDepth 100000 in
theorem laws_markByteS.calls (k : Nat) (P0_ : Nat → Prop) (u9000_ : Value) (l0 : List Int) (a1 : Int) (r1 : Int) (r2 : List Int) (w0 w : World) (hB : Below w0.heap.size w0 w) (ho0 : Kd.R (Kd.int .u8) 5 w w0.heap.size P0_ u9000_ l0) (h : laws_markByteS.f k l0 a1 = some (r1, r2)) :
  Calls Try.prog 56 #[u9000_, .int .i64 a1] w fun e w' => e = .returned (.int .i64 r1) ∧ Kd.R (Kd.int .u8) 5 w' w0.heap.size (fun k_ => (P0_ k_ ∨ w.heap.size ≤ k_)) u9000_ r2 ∧ Below w0.heap.size w0 w' ∧ Kept w w' (fun k_ => P0_ k_) := by
 have HO0 := Aside0.mk (show Kd.R (Kd.int .u8) 5 w w0.heap.size (fun k_ => (P0_ k_ ∨ w.heap.size ≤ k_)) u9000_ l0 from Kd.R_mono ho0 (fun k_ hk => (.inl hk)))
 have HK := Aside0.mk (Kept.refl w (fun k_ => P0_ k_))
 have HW0 := Aside0.mk hB.size; have HB := Aside0.mk hB; clear hB
 have H : (laws_markByteS.l0 k l0 a1 0) = some (r1, r2) := h
 clear h
 have H' := Aside0.mk H
 clear H
 go_enter Try.func56, Try.ntmps56
 go_wp2
 go_loopg [1, 5] k (fun kq v1 v5 w' => ∃ (x0_1 : List Int) (x1_1 : Int) (x5_1 : Int), v1 = .int .i64 x1_1 ∧ v5 = .int .i64 x5_1 ∧ Aside0 (laws_markByteS.l0 kq x0_1 x1_1 x5_1 = some (r1, r2)) ∧ Aside0 (kq ≤ k) ∧ Aside0 (Kd.R (Kd.int .u8) 5 w' w0.heap.size (fun k_ => (P0_ k_ ∨ w.heap.size ≤ k_)) u9000_ x0_1) ∧ Aside0 (Kept w w' (fun k_ => P0_ k_)) ∧ Aside0 (Below w0.heap.size w0 w'))
 case atStart => exact ⟨(l0), (a1), (0), (by first | rfl | (simp; done) | (simp [*]; done)), (by first | rfl | (simp; done) | (simp [*]; done)), H', ⟨Nat.le_refl _⟩, ⟨kR_ HO0.out⟩, ⟨by repeat (first | (with_reducible first | exact HK.out | apply Kept.alloc | apply Kept.drewN | apply Kept.drew) | exact HK.out)⟩, ⟨hbA_ HB.out⟩⟩
 case round =>
  clear H'; (try clear p2)
  obtain ⟨x0_1, x1_1, x5_1, rfl, rfl, HA, HK1, HO_0, HK, HB⟩ := hrel
  cases gk with
  | zero => exact absurd HA.out (by simp [laws_markByteS.l0])
  | succ k1 =>
   have H := HA.out; clear HA
   simp only [laws_markByteS.l0] at H
   by_cases c3 : x5_1 < (x0_1.length : Int)
   ·rw [if_pos c3] at H
    have c3b0 : decide (x5_1 < (x0_1.length : Int)) = true := decide_eq_true c3
    clear c3
    by_cases c4 : 0 ≤ x5_1
    ·rw [if_pos c4] at H
     have c4b0 : decide (0 ≤ x5_1) = true := decide_eq_true c4
     clear c4
     obtain ⟨y309, hy309⟩ : ∃ y_ : List Int, y_ = (x0_1.set (x5_1 : Int).toNat ((x1_1) % 256)) := ⟨_, rfl⟩
     (first | replace H := sb_ hy309 H | rw [← hy309] at H)
     have Ny309 := Aside0.mk hy309; clear hy309
     have H' := Aside0.mk H
     clear H
     obtain ⟨Ao6, co6, eo6⟩ := Kd.R_slice HO_0.out
     subst eo6
     have p5 : 0 ≤ (x5_1 : Int) := of_decide_eq_true (by first | (with_reducible assumption) | assumption)
     have q5 : (x5_1 : Int) < ((x0_1.length : Int) : Int) := of_decide_eq_true (by first | (with_reducible assumption) | assumption)
     obtain ⟨go5, co5, eo5, gb5, gl5, cl5, HG5⟩ := Kd.R_form HO_0.out (by omega)
     (first | cases eo5 | (injection eo5 with ea_ en_ ec_; (first | subst ea_ | (injection ea_ with ea_; subst ea_)); subst ec_; clear en_))
     have GB5 := Aside0.mk gb5; have GG5 := Aside0.mk HG5; clear gb5 gl5 HG5
     have HMgo5 := Aside0.mk (show (P0_ go5 ∨ w.heap.size ≤ go5) from (HO_0.out.1 _ rfl))
     obtain ⟨hx5_0, hf5_0⟩ := Kd.R_celln 0 HO_0.out (x5_1 : Int) p5 q5
     replace p5 := eq_true p5
     replace q5 := eq_true q5
     have HP7 := Kd.R_putg HO_0.out (x5_1 : Int) ((x1_1) % 256)
     go_wp2_with (first | ((with_reducible refine gate_store (t := 5) (p := 16) rfl ?_); refine store_event (t := 5) (p := 16) (v := ?vo_w8) (w1 := (wr.setCell ⟨go5, (x5_1 : Int).toNat, none⟩ (.int .u8 ((x1_1) % 256)))) ?hg ?ho ?hn ?hr ?_; (case ho => rfl); (case hg => rfl); (case hn => rfl); (case hr => first | (go_simp; done) | (go_simp; rfl)); intro w8 hw; have hg : wr.grownBy w8 (some go5) := (by rw [hw]; exact HP7.2); have hp_ : Kd.R (Kd.int .u8) 5 w8 w0.heap.size (fun k_ => (P0_ k_ ∨ w.heap.size ≤ k_)) (.slice (some ⟨go5, 0, none⟩) x0_1.length co6) y309 := (by rw [hw, Ny309.out]; exact HP7.1); clear HP7; replace HB := Aside0.mk ((by rw [hw]; exact below_set (HB.out) GB5.out : Below w0.heap.size w0 w8)); replace HK := Aside0.mk (Kept.of_grown (S := (fun k_ => P0_ k_)) hg (by repeat (first | (with_reducible first | exact HK.out | apply Kept.alloc | apply Kept.drewN | apply Kept.drew) | exact HK.out)) (fun k_ e_ => (HO_0.out.1 k_ e_))); replace HO_0 := Aside0.mk (hp_); clear hg hw hp_))
     go_roundg k1
     case measure => have := HK1.out; omega
     case rel => exact ⟨(y309), (wrap64 (x1_1 + 1)), (wrap64 (x5_1 + 1)), (by first | rfl | (simp; done) | (simp [*]; done)), (by first | rfl | (simp; done) | (simp [*]; done)), H', ⟨by have := HK1.out; omega⟩, ⟨kR_ HO_0.out⟩, ⟨by repeat (first | (with_reducible first | exact HK.out | apply Kept.alloc | apply Kept.drewN | apply Kept.drew) | exact HK.out)⟩, ⟨hbA_ HB.out⟩⟩
    ·rw [if_neg c4] at H
     exact absurd H (by simp)
   ·rw [if_neg c3] at H
    have c3b0 : decide (x5_1 < (x0_1.length : Int)) = false := decide_eq_false c3
    clear c3
    simp only [Option.some.injEq, Prod.mk.injEq] at H
    obtain ⟨rfl, rfl⟩ := H
    obtain ⟨Ao9, co9, eo9⟩ := Kd.R_slice HO_0.out
    subst eo9
    go_wp2
    go_ret
    exact ⟨by first | rfl | (simp [errW_none, errW_some] <;> rfl) | (simp [*, errW_none, errW_some] <;> rfl), kR_ HO_0.out, hbA_ HB.out, by repeat (first | (with_reducible first | exact HK.out | apply Kept.alloc | apply Kept.drewN | apply Kept.drew) | exact HK.out)⟩
end Go.Proofs.Ytpdbnlmdohcgkaa.PFnExactPartPut
