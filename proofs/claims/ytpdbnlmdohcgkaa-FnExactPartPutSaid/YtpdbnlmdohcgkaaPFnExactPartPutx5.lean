/- Printed by wip/xp/xprint.sh out of the translation, for this claim: what each function answers, as a plain function, and that the machine does just that. No condition. -/
import Derived.Test.YtpdbnlmdohcgkaaPFnExactPartPutx0
import Derived.Test.YtpdbnlmdohcgkaaPFnExactPartPutx4
namespace Go.Proofs.Ytpdbnlmdohcgkaa.PFnExactPartPut
open Go.RowKit Go.Proofs.YtpdbnlmdohcgkaaW.PrintWords Go.Proofs.YtpdbnlmdohcgkaaW.PrintLast Go.Proofs.YtpdbnlmdohcgkaaW.PrintMore
attribute [local go_sem] max2_int min2_int max_two min_two max_three min_three max_four min_four   -- for this text's walks alone
set_option linter.unusedVariables false
set_option linter.unusedSimpArgs false
mutual
def impl_PartOk.l0 : Nat → Int → List (S36) → Int → Int → List (S36) → Int → Option (Bool)
 | 0, _, _, _, _, _, _ => none
 | k + 1, x3, x8, x9, x10, x248000, x248001 => if x10 < x9 then (if 0 ≤ x10 then (if x10 < (x8.length : Int) then ((impl_PacketOk.f ((rd_T36 x8 x10).f0) ((rd_T36 x8 x10).f1) ((rd_T36 x8 x10).f2) ((rd_T36 x8 x10).f3) ((rd_T36 x8 x10).f4) ((rd_T36 x8 x10).f5) ((rd_T36 x8 x10).f6) ((rd_T36 x8 x10).f7) ((rd_T36 x8 x10).f8)).bind fun t251 => (if t251 = true then (if 0 < (x248000.length : Int) then ((impl_Packet_same.f ((rd_T36 x8 x10).f0) ((rd_T36 x8 x10).f1) ((rd_T36 x8 x10).f2) ((rd_T36 x8 x10).f3) ((rd_T36 x8 x10).f4) ((rd_T36 x8 x10).f5) ((rd_T36 x8 x10).f6) ((rd_T36 x8 x10).f7) ((rd_T36 x8 x10).f8) ((rd_T36 x248000 0).f0) ((rd_T36 x248000 0).f1) ((rd_T36 x248000 0).f2) ((rd_T36 x248000 0).f3) ((rd_T36 x248000 0).f4) ((rd_T36 x248000 0).f5) ((rd_T36 x248000 0).f6) ((rd_T36 x248000 0).f7) ((rd_T36 x248000 0).f8)).bind fun t253 => (impl_PartOk.j1 k x3 x10 x8 x9 x10 (!t253) x248000 x248001 ((rd_T36 x8 x10).f0) ((rd_T36 x8 x10).f1) ((rd_T36 x8 x10).f2) ((rd_T36 x8 x10).f3) ((rd_T36 x8 x10).f4) ((rd_T36 x8 x10).f5) ((rd_T36 x8 x10).f6) ((rd_T36 x8 x10).f7) ((rd_T36 x8 x10).f8))) else (none)) else (impl_PartOk.j1 k x3 x10 x8 x9 x10 true x248000 x248001 ((rd_T36 x8 x10).f0) ((rd_T36 x8 x10).f1) ((rd_T36 x8 x10).f2) ((rd_T36 x8 x10).f3) ((rd_T36 x8 x10).f4) ((rd_T36 x8 x10).f5) ((rd_T36 x8 x10).f6) ((rd_T36 x8 x10).f7) ((rd_T36 x8 x10).f8)))) else (none)) else (none)) else (if (x248000.length : Int) > 0 then (if x3 ≤ 48 then ((impl_in.f x248001 0 1000000).bind fun t248 => (some t248)) else (some false)) else (some false))
def impl_PartOk.j1 : Nat → Int → Int → List (S36) → Int → Int → Bool → List (S36) → Int → Int → Int → Int → Int → Int → Int → Bool → Bool → List Int → Option (Bool)
 | 0, _, _, _, _, _, _, _, _, _, _, _, _, _, _, _, _, _ => none
 | k + 1, x3, x4, x8, x9, x10, x26, x248000, x248001, x251000, x251001, x251002, x251003, x251004, x251005, x251006, x251007, x251008 => if x26 = true then (some false) else (if x4 > 0 then (if 0 ≤ (wrap64 (x4 - 1)) then (if (wrap64 (x4 - 1)) < (x248000.length : Int) then (if x251005 < (wrap64 (((rd_T36 x248000 (wrap64 (x4 - 1))).f5) + (((rd_T36 x248000 (wrap64 (x4 - 1))).f8).length : Int))) then (some false) else (if ((rd_T36 x248000 (wrap64 (x4 - 1))).f6 = true) then (impl_PartOk.l0 k (wrap64 (x3 + (x251008.length : Int))) x8 x9 (wrap64 (x10 + 1)) x248000 x248001) else (some false))) else (none)) else (none)) else (impl_PartOk.l0 k (wrap64 (x3 + (x251008.length : Int))) x8 x9 (wrap64 (x10 + 1)) x248000 x248001))
end
def impl_PartOk.f (k : Nat) (l0_0 : List (S36)) (a0_1 : Int) : Option (Bool) := impl_PartOk.l0 k 0 l0_0 (l0_0.length : Int) 0 l0_0 a0_1
theorem impl_PartOk.mono_l : ∀ k, (∀ y0 y1 y2 y3 y4 y5, LeO (impl_PartOk.l0 k y0 y1 y2 y3 y4 y5) (impl_PartOk.l0 (k + 1) y0 y1 y2 y3 y4 y5)) ∧ (∀ y0 y1 y2 y3 y4 y5 y6 y7 y8 y9 y10 y11 y12 y13 y14 y15 y16, LeO (impl_PartOk.j1 k y0 y1 y2 y3 y4 y5 y6 y7 y8 y9 y10 y11 y12 y13 y14 y15 y16) (impl_PartOk.j1 (k + 1) y0 y1 y2 y3 y4 y5 y6 y7 y8 y9 y10 y11 y12 y13 y14 y15 y16))
 | 0 => ⟨fun _ _ _ _ _ _ r h => by simp [impl_PartOk.l0] at h, fun _ _ _ _ _ _ _ _ _ _ _ _ _ _ _ _ _ r h => by simp [impl_PartOk.j1] at h⟩
 | k + 1 => by
  obtain ⟨ih0, ih1⟩ := impl_PartOk.mono_l k
  refine ⟨?_, ?_⟩
  ·intro y0 y1 y2 y3 y4 y5
   unfold impl_PartOk.l0
   repeat' first | (with_reducible first | apply ih0 | apply ih1 | exact LeO.refl _ | exact LeO.none _ | refine LeO.ite ?_ ?_ | refine LeO.bind ?_ fun _ => ?_) | apply ih0 | apply ih1 | exact LeO.none _ | refine LeO.ite ?_ ?_ | refine LeO.bind ?_ fun _ => ?_
  ·intro y0 y1 y2 y3 y4 y5 y6 y7 y8 y9 y10 y11 y12 y13 y14 y15 y16
   unfold impl_PartOk.j1
   repeat' first | (with_reducible first | apply ih0 | apply ih1 | exact LeO.refl _ | exact LeO.none _ | refine LeO.ite ?_ ?_ | refine LeO.bind ?_ fun _ => ?_) | apply ih0 | apply ih1 | exact LeO.none _ | refine LeO.ite ?_ ?_ | refine LeO.bind ?_ fun _ => ?_
theorem impl_PartOk.mono : ∀ a0 a1 k, LeO (impl_PartOk.f k a0 a1) (impl_PartOk.f (k + 1) a0 a1) := by
 intro a0 a1 k
 obtain ⟨ih0, ih1⟩ := impl_PartOk.mono_l k
 unfold impl_PartOk.f
 repeat' first | (with_reducible first | apply ih0 | apply ih1 | exact LeO.refl _ | exact LeO.none _ | refine LeO.ite ?_ ?_ | refine LeO.bind ?_ fun _ => ?_) | apply ih0 | apply ih1 | exact LeO.none _ | refine LeO.ite ?_ ?_ | refine LeO.bind ?_ fun _ => ?_
def impl_PartOk.T5 : Bool × List (List Nat × List Nat) := (true, [([], []), ([0], [0]), ([1], [1]), ([2, 1], [2]), ([3], [3]), ([3], [3]), ([5, 3], [3, 5]), ([6, 3], [3, 6]), ([7, 3], [3, 7]), ([4, 8, 3, 3], [3, 4, 8]), ([9, 3], [3, 9]), ([3, 10], [3, 10])])
def impl_PartOk.B5 : List Nat := [0, 1, 3, 7, 15, 15, 47, 111, 239, 511, 1023, 2047]
theorem impl_PartOk.tab5 : rtab .any (opsOf Try.f24 5) = impl_PartOk.T5 := by kernel_rfl
theorem impl_PartOk.bits5 : waitsOk impl_PartOk.T5.2 impl_PartOk.B5 = true := by kernel_rfl
set_option maxHeartbeats 8000000 in
set_option maxRecDepth 100000 in
theorem impl_PartOk.calls (k : Nat) (A0_0 : Option Addr) (c0_0 : Nat) (l0_0 : List (S36)) (a0_1 : Int) (r : Bool) (w : World) (hr0_0 : Kd.C k36 w A0_0 l0_0.length l0_0) (hc0_0 : l0_0.length ≤ c0_0) (h : impl_PartOk.f k l0_0 a0_1 = some r) :
  Calls Try.prog 24 #[.agg #[.slice A0_0 l0_0.length c0_0, .int .i64 a0_1]] w fun e w' => e = .returned (.bool r) ∧ Below w.heap.size w w' := by
 have hu32 := Try.underlying32; have hu36 := Try.underlying36; have HR0_0 := Aside0.mk hr0_0; have HC0_0 := Aside0.mk hc0_0; clear hr0_0 hc0_0
 have HB := Aside0.mk (Below.refl w.heap.size w)
 have H : (impl_PartOk.l0 k 0 l0_0 (l0_0.length : Int) 0 l0_0 a0_1) = some r := h
 clear h
 have H' := Aside0.mk H
 clear H
 go_enter Try.func24, Try.ntmps24
 go_wp2_with (first | ((with_reducible refine gate_dst (N := 1) rfl ?_); refine box_ (N := 1) (cs := #[.slice A0_0 l0_0.length c0_0, .int .i64 a0_1]) (t := 32) (fun gb247 hg w2 hbox hb => ?_); have BK247 := Aside0.mk (hbox); have GW247 := ge_ hg HB; have GE247 := ge_ hg HB; replace HB := (bs_ HB hb); clear hb hbox hg; have Z3 := zz2 BK247))
 go_loopg [3, 10] k (fun kq v3 v10 w' => ∃ (x3_1 : Int) (x10_1 : Int), v3 = .int .i64 x3_1 ∧ v10 = .int .i64 x10_1 ∧ Aside0 (impl_PartOk.l0 kq x3_1 l0_0 (l0_0.length : Int) x10_1 l0_0 a0_1 = some r) ∧ Aside0 (kq ≤ k) ∧ Aside0 (w'.heap[gb247]? = some (.cells #[(.slice A0_0 l0_0.length c0_0), .int .i64 a0_1] 32 (0, 0))) ∧ Aside0 (Below w.heap.size w w'))
 case atStart => exact ⟨(0), (0), (by first | rfl | (simp; done) | (simp [*]; done)), (by first | rfl | (simp; done) | (simp [*]; done)), H', ⟨Nat.le_refl _⟩, ⟨by refine kb_ ?_; exact BK247.out⟩, ⟨hbA_ HB.out⟩⟩
 case round =>
  clear H'; (try clear c2); (try clear p2); (try clear Z3)
  obtain ⟨x3_1, x10_1, rfl, rfl, HA, HK1, BK247, HB⟩ := hrel
  cases gk with
  | zero => exact absurd HA.out (by simp [impl_PartOk.l0])
  | succ k1 =>
   have H := HA.out; clear HA
   simp only [impl_PartOk.l0] at H
   by_cases c4 : x10_1 < (l0_0.length : Int)
   ·rw [if_pos c4] at H
    have c4b0 : decide (x10_1 < (l0_0.length : Int)) = true := decide_eq_true c4
    clear c4
    by_cases c5 : 0 ≤ x10_1
    ·rw [if_pos c5] at H
     have c5b0 : decide (0 ≤ x10_1) = true := decide_eq_true c5
     clear c5
     by_cases c6 : x10_1 < (l0_0.length : Int)
     ·rw [if_pos c6] at H
      have c6b0 : decide (x10_1 < (l0_0.length : Int)) = true := decide_eq_true c6
      clear c6; have HC7 := Aside0.mk H; clear H
      have p249 : 0 ≤ (x10_1 : Int) := of_decide_eq_true (by first | (with_reducible assumption) | assumption)
      have q249 : x10_1 < (l0_0.length : Int) := of_decide_eq_true (by first | (with_reducible assumption) | assumption)
      obtain ⟨ad249, A249_8, c249_8, e249, hx249_0, hx249_1, hx249_2, hx249_3, hx249_4, hx249_5, hx249_6, hx249_7, hx249_8, hl249_8, hi249_8⟩ := at_T36 HR0_0.out x10_1 p249 q249
      cases e249
      replace hx249_0 := cc_ HB hx249_0
      replace hx249_1 := cc_ HB hx249_1
      replace hx249_2 := cc_ HB hx249_2
      replace hx249_3 := cc_ HB hx249_3
      replace hx249_4 := cc_ HB hx249_4
      replace hx249_5 := cc_ HB hx249_5
      replace hx249_6 := cc_ HB hx249_6
      replace hx249_7 := cc_ HB hx249_7
      replace hx249_8 := cc_ HB hx249_8
      have HR249_8 := Aside0.mk hi249_8; have HC249_8 := Aside0.mk hl249_8; clear hi249_8 hl249_8
      replace p249 := eq_true p249
      replace q249 := eq_true q249
      go_upto_region 5 with (first | ((with_reducible refine gate_dst (N := 5) rfl ?_); refine box_ (N := 5) (cs := #[.int .i64 0, .int .i64 0, .int .i64 0, .int .i64 0, .int .i64 0, .int .i64 0, .bool false, .bool false, .slice none 0 0]) (t := 36) (fun gb250 hg w8 hbox hb => ?_); have BK250 := Aside0.mk (hbox); have GW250 := ge_ hg HB; have GE250 := ge_ hg HB; replace HB := (bs_ HB hb); have NB247_250 := nl_ hg BK247; have NB250_247 := ng_ hg BK247; replace BK247 := (bbA_ BK247 hb); clear hb hbox hg; have hnb9 := NB250_247.out; have hnc9 := NB247_250.out; have Z10 := zz9 BK250))
      (try simp only [Act.put, List.setIfInBounds_toArray, List.set_cons_zero, List.set_cons_succ])
      go_cut [26] (fun v26 wc => ∃ (kq : Nat) (x26_6 : Bool), v26 = .bool x26_6 ∧ Aside0 (impl_PartOk.j1 kq x3_1 x10_1 l0_0 (l0_0.length : Int) x10_1 x26_6 l0_0 a0_1 ((rd_T36 l0_0 x10_1).f0) ((rd_T36 l0_0 x10_1).f1) ((rd_T36 l0_0 x10_1).f2) ((rd_T36 l0_0 x10_1).f3) ((rd_T36 l0_0 x10_1).f4) ((rd_T36 l0_0 x10_1).f5) ((rd_T36 l0_0 x10_1).f6) ((rd_T36 l0_0 x10_1).f7) ((rd_T36 l0_0 x10_1).f8) = some r) ∧ Aside0 (kq ≤ k1) ∧ Aside0 (wc.heap[gb247]? = some (.cells #[(.slice (some ad249) l0_0.length c0_0), .int .i64 a0_1] 32 (0, 0))) ∧ Aside0 (wc.heap[gb250]? = some (.cells #[.int .i64 ((rd_T36 l0_0 x10_1).f0), .int .i64 ((rd_T36 l0_0 x10_1).f1), .int .i64 ((rd_T36 l0_0 x10_1).f2), .int .i64 ((rd_T36 l0_0 x10_1).f3), .int .i64 ((rd_T36 l0_0 x10_1).f4), .int .i64 ((rd_T36 l0_0 x10_1).f5), .bool ((rd_T36 l0_0 x10_1).f6), .bool ((rd_T36 l0_0 x10_1).f7), (.slice A249_8 ((rd_T36 l0_0 x10_1).f8).length c249_8)] 36 (0, 0))) ∧ Aside0 (Below w.heap.size w wc))
      case first =>
       have H := HC7.out; clear HC7
       replace H := Option.bind_eq_some_iff.mp H
       obtain ⟨t251, A110, H⟩ := H
       (try dsimp only at H)
       have A11 := Aside0.mk A110; clear A110
       by_cases c12 : t251 = true
       ·subst c12
        rw [if_pos rfl] at H
        by_cases c13 : 0 < (l0_0.length : Int)
        ·rw [if_pos c13] at H
         have c13b0 : decide (0 < (l0_0.length : Int)) = true := decide_eq_true c13
         have c13b1 : decide (0 < l0_0.length) = true := decide_eq_true (by omega)
         clear c13
         (first | rw [c13b0] | (simp only [i64_w, i32_w]; rw [c13b0]) | skip)
         replace H := Option.bind_eq_some_iff.mp H
         obtain ⟨t253, A140, H⟩ := H
         (try dsimp only at H)
         have A14 := Aside0.mk A140; clear A140
         have H' := Aside0.mk H
         clear H
         try go_wp2
         obtain ⟨w15, h_w15⟩ : ∃ w_, (((((((((w8.setCell ⟨gb250, 0, none⟩ (.int .i64 ((rd_T36 l0_0 x10_1).f0))).setCell ⟨gb250, 1, none⟩ (.int .i64 ((rd_T36 l0_0 x10_1).f1))).setCell ⟨gb250, 2, none⟩ (.int .i64 ((rd_T36 l0_0 x10_1).f2))).setCell ⟨gb250, 3, none⟩ (.int .i64 ((rd_T36 l0_0 x10_1).f3))).setCell ⟨gb250, 4, none⟩ (.int .i64 ((rd_T36 l0_0 x10_1).f4))).setCell ⟨gb250, 5, none⟩ (.int .i64 ((rd_T36 l0_0 x10_1).f5))).setCell ⟨gb250, 6, none⟩ (.bool ((rd_T36 l0_0 x10_1).f6))).setCell ⟨gb250, 7, none⟩ (.bool ((rd_T36 l0_0 x10_1).f7))).setCell ⟨gb250, 8, none⟩ (.slice A249_8 ((rd_T36 l0_0 x10_1).f8).length c249_8)) = w_ := ⟨_, rfl⟩
         have n0_ : Aside0 (w15.heap[gb247]? = some (.cells #[.slice (some ad249) l0_0.length c0_0, .int .i64 a0_1] 32 (0, 0))) := ⟨by subst h_w15; exact kf_ BK247.out⟩
         have n1_ : Aside0 (w15.heap[gb250]? = some (.cells #[.int .i64 ((rd_T36 l0_0 x10_1).f0), .int .i64 ((rd_T36 l0_0 x10_1).f1), .int .i64 ((rd_T36 l0_0 x10_1).f2), .int .i64 ((rd_T36 l0_0 x10_1).f3), .int .i64 ((rd_T36 l0_0 x10_1).f4), .int .i64 ((rd_T36 l0_0 x10_1).f5), .bool ((rd_T36 l0_0 x10_1).f6), .bool ((rd_T36 l0_0 x10_1).f7), .slice A249_8 ((rd_T36 l0_0 x10_1).f8).length c249_8] 36 (0, 0))) := ⟨by subst h_w15; refine kb_ ?_; refine pz9 (cs := #[.int .i64 0, .int .i64 0, .int .i64 0, .int .i64 0, .int .i64 0, .int .i64 0, .bool false, .bool false, .slice none 0 0]) ?_; refine kb_ ?_; exact BK250.out⟩
         have n2_ : Aside0 (Below w.heap.size w w15) := ⟨by subst h_w15; exact hbA_ HB.out⟩
         (try clear BK247); (try clear BK250); (try clear HB)
         (try rw [h_w15]); clear h_w15
         have BK247 := n0_; have BK250 := n1_; have HB := n2_; clear n0_ n1_ n2_; replace BK247 := Aside0.mk (blk_drew BK247.out); replace BK250 := Aside0.mk (blk_drew BK250.out); replace HB := (bd_ HB)
         have p252 : 0 ≤ (0 : Int) := (by omega)
         have q252 : 0 < (l0_0.length : Int) := of_decide_eq_true (by first | (with_reducible assumption) | assumption)
         obtain ⟨ad252, A252_8, c252_8, e252, hx252_0, hx252_1, hx252_2, hx252_3, hx252_4, hx252_5, hx252_6, hx252_7, hx252_8, hl252_8, hi252_8⟩ := at_T36 HR0_0.out 0 p252 q252
         (try simp only [show ((0 : Int)).toNat = 0 from rfl, show 0 * 9 = 0 from rfl, Addr.add_zero'] at hx252_0 hx252_1 hx252_2 hx252_3 hx252_4 hx252_5 hx252_6 hx252_7 hx252_8); have hw252_8 := hx252_8; have hw252_7 := hx252_7; have hw252_6 := hx252_6; have hw252_5 := hx252_5; have hw252_4 := hx252_4; have hw252_3 := hx252_3; have hw252_2 := hx252_2; have hw252_1 := hx252_1; have hw252_0 := hx252_0
         obtain rfl : ad249 = ad252 := (by injection e252)
         have qi252 : (0 < l0_0.length) = True := eq_true (by omega)
         replace hx252_0 := cc_ HB hx252_0
         replace hx252_1 := cc_ HB hx252_1
         replace hx252_2 := cc_ HB hx252_2
         replace hx252_3 := cc_ HB hx252_3
         replace hx252_4 := cc_ HB hx252_4
         replace hx252_5 := cc_ HB hx252_5
         replace hx252_6 := cc_ HB hx252_6
         replace hx252_7 := cc_ HB hx252_7
         replace hx252_8 := cc_ HB hx252_8
         have HR252_8 := Aside0.mk hi252_8; have HC252_8 := Aside0.mk hl252_8; clear hi252_8 hl252_8
         replace p252 := eq_true p252
         replace q252 := eq_true q252
         refine start_ (n := 12) (S := fun w' => w'.cell? ⟨gb250, 0, none⟩ = some (.int .i64 ((rd_T36 l0_0 x10_1).f0)) ∧ w'.cell? ⟨gb250, 1, none⟩ = some (.int .i64 ((rd_T36 l0_0 x10_1).f1)) ∧ w'.cell? ⟨gb250, 2, none⟩ = some (.int .i64 ((rd_T36 l0_0 x10_1).f2)) ∧ w'.cell? ⟨gb250, 3, none⟩ = some (.int .i64 ((rd_T36 l0_0 x10_1).f3)) ∧ w'.cell? ⟨gb250, 4, none⟩ = some (.int .i64 ((rd_T36 l0_0 x10_1).f4)) ∧ w'.cell? ⟨gb250, 5, none⟩ = some (.int .i64 ((rd_T36 l0_0 x10_1).f5)) ∧ w'.cell? ⟨gb250, 6, none⟩ = some (.bool ((rd_T36 l0_0 x10_1).f6)) ∧ w'.cell? ⟨gb250, 7, none⟩ = some (.bool ((rd_T36 l0_0 x10_1).f7)) ∧ w'.cell? ⟨gb250, 8, none⟩ = some (.slice A249_8 ((rd_T36 l0_0 x10_1).f8).length c249_8) ∧ w'.cell? ⟨gb247, 0, none⟩ = some (.slice (some ad249) l0_0.length c0_0) ∧ w'.cell? ⟨gb247, 1, none⟩ = some (.int .i64 a0_1) ∧ w'.cell? ad249 = some (.int .i64 ((rd_T36 l0_0 0).f0)) ∧ w'.cell? ⟨ad249.block, ad249.off + 1, none⟩ = some (.int .i64 ((rd_T36 l0_0 0).f1)) ∧ w'.cell? ⟨ad249.block, ad249.off + 2, none⟩ = some (.int .i64 ((rd_T36 l0_0 0).f2)) ∧ w'.cell? ⟨ad249.block, ad249.off + 3, none⟩ = some (.int .i64 ((rd_T36 l0_0 0).f3)) ∧ w'.cell? ⟨ad249.block, ad249.off + 4, none⟩ = some (.int .i64 ((rd_T36 l0_0 0).f4)) ∧ w'.cell? ⟨ad249.block, ad249.off + 5, none⟩ = some (.int .i64 ((rd_T36 l0_0 0).f5)) ∧ w'.cell? ⟨ad249.block, ad249.off + 6, none⟩ = some (.bool ((rd_T36 l0_0 0).f6)) ∧ w'.cell? ⟨ad249.block, ad249.off + 7, none⟩ = some (.bool ((rd_T36 l0_0 0).f7)) ∧ w'.cell? ⟨ad249.block, ad249.off + 8, none⟩ = some (.slice A252_8 ((rd_T36 l0_0 0).f8).length c252_8)) (ds := []) #[false, false, false, false, false, false, false, false, false, false, false, false] (by kernel_rfl) rfl rfl ⟨bc_ BK250 0, bc_ BK250 1, bc_ BK250 2, bc_ BK250 3, bc_ BK250 4, bc_ BK250 5, bc_ BK250 6, bc_ BK250 7, bc_ BK250 8, bc_ BK247 0, bc_ BK247 1, (cc_ HB hw252_0), (cc_ HB hw252_1), (cc_ HB hw252_2), (cc_ HB hw252_3), (cc_ HB hw252_4), (cc_ HB hw252_5), (cc_ HB hw252_6), (cc_ HB hw252_7), (cc_ HB hw252_8)⟩ (fun hHeld => ?_); refine with_tabW impl_PartOk.tab5 impl_PartOk.bits5 (fun HT_ HW_ => ?_)
         generalize w15.drew = w16 at BK247 BK250 HB HR252_8 hx252_0 hx252_1 hx252_2 hx252_3 hx252_4 hx252_5 hx252_6 hx252_7 hx252_8 hHeld ⊢
         refine tk_ (i := 0) (N := some 15) HT_ HW_ hHeld ?_
         refine on_ (i := 1) (N := some 16) HT_ (fun K hK => ?_)
         refine goes_ Try.func42 (by kernel_rfl) rfl #[.agg #[.int .i64 ((rd_T36 l0_0 x10_1).f0), .int .i64 ((rd_T36 l0_0 x10_1).f1), .int .i64 ((rd_T36 l0_0 x10_1).f2), .int .i64 ((rd_T36 l0_0 x10_1).f3), .int .i64 ((rd_T36 l0_0 x10_1).f4), .int .i64 ((rd_T36 l0_0 x10_1).f5), .bool ((rd_T36 l0_0 x10_1).f6), .bool ((rd_T36 l0_0 x10_1).f7), .slice A249_8 ((rd_T36 l0_0 x10_1).f8).length c249_8]] (by rfl) rfl rfl ar_ ?_
         with_reducible refine (impl_PacketOk.calls ((rd_T36 l0_0 x10_1).f0) ((rd_T36 l0_0 x10_1).f1) ((rd_T36 l0_0 x10_1).f2) ((rd_T36 l0_0 x10_1).f3) ((rd_T36 l0_0 x10_1).f4) ((rd_T36 l0_0 x10_1).f5) ((rd_T36 l0_0 x10_1).f6) ((rd_T36 l0_0 x10_1).f7) _ _ ((rd_T36 l0_0 x10_1).f8) true _ ?side1 ?side2 A11.out).mono ?_
         (case side1 => exact kC_ (Kd.C_below HR249_8.out HB.out))
         (case side2 => exact HC249_8.out)
         rintro e w17 ⟨rfl, hb⟩
         refine ⟨_, rfl, ?_⟩
         replace BK247 := (bbA_ BK247 hb); replace BK250 := (bbA_ BK250 hb); replace HB := (bs_ HB hb); (try clear hb); (try clear hb2); (try clear hk); (try clear hi)
         refine hK.out _ _ ⟨bc_ BK250 0, bc_ BK250 1, bc_ BK250 2, bc_ BK250 3, bc_ BK250 4, bc_ BK250 5, bc_ BK250 6, bc_ BK250 7, bc_ BK250 8, bc_ BK247 0, bc_ BK247 1, (by first | exact cc_ HB hw252_0 | exact cc_ ⟨hbA_ HB.out⟩ hw252_0), (by first | exact cc_ HB hw252_1 | exact cc_ ⟨hbA_ HB.out⟩ hw252_1), (by first | exact cc_ HB hw252_2 | exact cc_ ⟨hbA_ HB.out⟩ hw252_2), (by first | exact cc_ HB hw252_3 | exact cc_ ⟨hbA_ HB.out⟩ hw252_3), (by first | exact cc_ HB hw252_4 | exact cc_ ⟨hbA_ HB.out⟩ hw252_4), (by first | exact cc_ HB hw252_5 | exact cc_ ⟨hbA_ HB.out⟩ hw252_5), (by first | exact cc_ HB hw252_6 | exact cc_ ⟨hbA_ HB.out⟩ hw252_6), (by first | exact cc_ HB hw252_7 | exact cc_ ⟨hbA_ HB.out⟩ hw252_7), (by first | exact cc_ HB hw252_8 | exact cc_ ⟨hbA_ HB.out⟩ hw252_8)⟩ (fun hHeld => ?_)
         clear hK K; refine nm_ 16 ?_; refine pu_ (i := 2) (N := some 17) HT_ ?_; refine pu_ (i := 3) (N := some 18) HT_ ?_; refine pu_ (i := 5) (N := some 20) HT_ ?_; refine tk_ (i := 4) (N := some 19) HT_ HW_ hHeld ?_; refine tk_ (i := 6) (N := some 21) HT_ HW_ hHeld ?_; refine pu_ (i := 7) (N := some 22) HT_ ?_; refine tk_ (i := 8) (N := some 23) HT_ HW_ hHeld ?_
         refine on_ (i := 9) (N := some 24) HT_ (fun K hK => ?_)
         refine goes_ Try.func51 (by kernel_rfl) rfl #[.agg #[.int .i64 ((rd_T36 l0_0 x10_1).f0), .int .i64 ((rd_T36 l0_0 x10_1).f1), .int .i64 ((rd_T36 l0_0 x10_1).f2), .int .i64 ((rd_T36 l0_0 x10_1).f3), .int .i64 ((rd_T36 l0_0 x10_1).f4), .int .i64 ((rd_T36 l0_0 x10_1).f5), .bool ((rd_T36 l0_0 x10_1).f6), .bool ((rd_T36 l0_0 x10_1).f7), .slice A249_8 ((rd_T36 l0_0 x10_1).f8).length c249_8], .agg #[.int .i64 ((rd_T36 l0_0 0).f0), .int .i64 ((rd_T36 l0_0 0).f1), .int .i64 ((rd_T36 l0_0 0).f2), .int .i64 ((rd_T36 l0_0 0).f3), .int .i64 ((rd_T36 l0_0 0).f4), .int .i64 ((rd_T36 l0_0 0).f5), .bool ((rd_T36 l0_0 0).f6), .bool ((rd_T36 l0_0 0).f7), .slice A252_8 ((rd_T36 l0_0 0).f8).length c252_8]] (by rfl) rfl rfl ar_ ?_
         with_reducible refine (impl_Packet_same.calls ((rd_T36 l0_0 x10_1).f0) ((rd_T36 l0_0 x10_1).f1) ((rd_T36 l0_0 x10_1).f2) ((rd_T36 l0_0 x10_1).f3) ((rd_T36 l0_0 x10_1).f4) ((rd_T36 l0_0 x10_1).f5) ((rd_T36 l0_0 x10_1).f6) ((rd_T36 l0_0 x10_1).f7) _ _ ((rd_T36 l0_0 x10_1).f8) ((rd_T36 l0_0 0).f0) ((rd_T36 l0_0 0).f1) ((rd_T36 l0_0 0).f2) ((rd_T36 l0_0 0).f3) ((rd_T36 l0_0 0).f4) ((rd_T36 l0_0 0).f5) ((rd_T36 l0_0 0).f6) ((rd_T36 l0_0 0).f7) _ _ ((rd_T36 l0_0 0).f8) t253 _ ?side1 ?side2 ?side3 ?side4 A14.out).mono ?_
         (case side1 => exact kC_ (Kd.C_below HR249_8.out HB.out))
         (case side2 => exact HC249_8.out)
         (case side3 => exact kC_ (Kd.C_below HR252_8.out HB.out))
         (case side4 => exact HC252_8.out)
         rintro e w18 ⟨rfl, hb⟩
         refine ⟨_, rfl, ?_⟩
         replace BK247 := (bbA_ BK247 hb); replace BK250 := (bbA_ BK250 hb); replace HB := (bs_ HB hb); (try clear hb); (try clear hb2); (try clear hk); (try clear hi)
         refine hK.out _ _ ⟨bc_ BK250 0, bc_ BK250 1, bc_ BK250 2, bc_ BK250 3, bc_ BK250 4, bc_ BK250 5, bc_ BK250 6, bc_ BK250 7, bc_ BK250 8, bc_ BK247 0, bc_ BK247 1, (by first | exact cc_ HB hw252_0 | exact cc_ ⟨hbA_ HB.out⟩ hw252_0), (by first | exact cc_ HB hw252_1 | exact cc_ ⟨hbA_ HB.out⟩ hw252_1), (by first | exact cc_ HB hw252_2 | exact cc_ ⟨hbA_ HB.out⟩ hw252_2), (by first | exact cc_ HB hw252_3 | exact cc_ ⟨hbA_ HB.out⟩ hw252_3), (by first | exact cc_ HB hw252_4 | exact cc_ ⟨hbA_ HB.out⟩ hw252_4), (by first | exact cc_ HB hw252_5 | exact cc_ ⟨hbA_ HB.out⟩ hw252_5), (by first | exact cc_ HB hw252_6 | exact cc_ ⟨hbA_ HB.out⟩ hw252_6), (by first | exact cc_ HB hw252_7 | exact cc_ ⟨hbA_ HB.out⟩ hw252_7), (by first | exact cc_ HB hw252_8 | exact cc_ ⟨hbA_ HB.out⟩ hw252_8)⟩ (fun hHeld => ?_)
         clear hK K; refine nm_ 24 ?_; refine pu_ (i := 10) (N := some 25) HT_ ?_; refine pu_ (i := 11) (N := some 26) HT_ ?_
         refine done_ (done_of HT_.out (by kernel_rfl)) ?_
         try go_wp2
         go_meet
         case rel => exact ⟨_, (!t253), (by first | rfl | (simp; done) | (simp [*]; done)), H', ⟨by have := HK1.out; first | omega | exact Nat.le_refl _⟩, ⟨by refine kb_ ?_; exact BK247.out⟩, ⟨by refine kb_ ?_; exact BK250.out⟩, ⟨hbA_ HB.out⟩⟩
        ·rw [if_neg c13] at H
         exact absurd H (by simp)
       ·replace c12 := Bool.eq_false_iff.mpr c12
        subst c12
        rw [if_neg (show ¬ (false = true) by decide)] at H
        have H' := Aside0.mk H
        clear H
        try go_wp2
        obtain ⟨w19, h_w19⟩ : ∃ w_, (((((((((w8.setCell ⟨gb250, 0, none⟩ (.int .i64 ((rd_T36 l0_0 x10_1).f0))).setCell ⟨gb250, 1, none⟩ (.int .i64 ((rd_T36 l0_0 x10_1).f1))).setCell ⟨gb250, 2, none⟩ (.int .i64 ((rd_T36 l0_0 x10_1).f2))).setCell ⟨gb250, 3, none⟩ (.int .i64 ((rd_T36 l0_0 x10_1).f3))).setCell ⟨gb250, 4, none⟩ (.int .i64 ((rd_T36 l0_0 x10_1).f4))).setCell ⟨gb250, 5, none⟩ (.int .i64 ((rd_T36 l0_0 x10_1).f5))).setCell ⟨gb250, 6, none⟩ (.bool ((rd_T36 l0_0 x10_1).f6))).setCell ⟨gb250, 7, none⟩ (.bool ((rd_T36 l0_0 x10_1).f7))).setCell ⟨gb250, 8, none⟩ (.slice A249_8 ((rd_T36 l0_0 x10_1).f8).length c249_8)) = w_ := ⟨_, rfl⟩
        have n0_ : Aside0 (w19.heap[gb247]? = some (.cells #[.slice (some ad249) l0_0.length c0_0, .int .i64 a0_1] 32 (0, 0))) := ⟨by subst h_w19; exact kf_ BK247.out⟩
        have n1_ : Aside0 (w19.heap[gb250]? = some (.cells #[.int .i64 ((rd_T36 l0_0 x10_1).f0), .int .i64 ((rd_T36 l0_0 x10_1).f1), .int .i64 ((rd_T36 l0_0 x10_1).f2), .int .i64 ((rd_T36 l0_0 x10_1).f3), .int .i64 ((rd_T36 l0_0 x10_1).f4), .int .i64 ((rd_T36 l0_0 x10_1).f5), .bool ((rd_T36 l0_0 x10_1).f6), .bool ((rd_T36 l0_0 x10_1).f7), .slice A249_8 ((rd_T36 l0_0 x10_1).f8).length c249_8] 36 (0, 0))) := ⟨by subst h_w19; refine kb_ ?_; refine pz9 (cs := #[.int .i64 0, .int .i64 0, .int .i64 0, .int .i64 0, .int .i64 0, .int .i64 0, .bool false, .bool false, .slice none 0 0]) ?_; refine kb_ ?_; exact BK250.out⟩
        have n2_ : Aside0 (Below w.heap.size w w19) := ⟨by subst h_w19; exact hbA_ HB.out⟩
        (try clear BK247); (try clear BK250); (try clear HB)
        (try rw [h_w19]); clear h_w19
        have BK247 := n0_; have BK250 := n1_; have HB := n2_; clear n0_ n1_ n2_; replace BK247 := Aside0.mk (blk_drew BK247.out); replace BK250 := Aside0.mk (blk_drew BK250.out); replace HB := (bd_ HB)
        refine start_ (n := 12) (S := fun w' => w'.cell? ⟨gb250, 0, none⟩ = some (.int .i64 ((rd_T36 l0_0 x10_1).f0)) ∧ w'.cell? ⟨gb250, 1, none⟩ = some (.int .i64 ((rd_T36 l0_0 x10_1).f1)) ∧ w'.cell? ⟨gb250, 2, none⟩ = some (.int .i64 ((rd_T36 l0_0 x10_1).f2)) ∧ w'.cell? ⟨gb250, 3, none⟩ = some (.int .i64 ((rd_T36 l0_0 x10_1).f3)) ∧ w'.cell? ⟨gb250, 4, none⟩ = some (.int .i64 ((rd_T36 l0_0 x10_1).f4)) ∧ w'.cell? ⟨gb250, 5, none⟩ = some (.int .i64 ((rd_T36 l0_0 x10_1).f5)) ∧ w'.cell? ⟨gb250, 6, none⟩ = some (.bool ((rd_T36 l0_0 x10_1).f6)) ∧ w'.cell? ⟨gb250, 7, none⟩ = some (.bool ((rd_T36 l0_0 x10_1).f7)) ∧ w'.cell? ⟨gb250, 8, none⟩ = some (.slice A249_8 ((rd_T36 l0_0 x10_1).f8).length c249_8)) (ds := []) #[false, false, false, false, false, false, false, false, false, false, false, false] (by kernel_rfl) rfl rfl (cz9 BK250.out) (fun hHeld => ?_); refine with_tabW impl_PartOk.tab5 impl_PartOk.bits5 (fun HT_ HW_ => ?_)
        generalize w19.drew = w20 at BK247 BK250 HB hHeld ⊢
        refine tk_ (i := 0) (N := some 15) HT_ HW_ hHeld ?_
        refine on_ (i := 1) (N := some 16) HT_ (fun K hK => ?_)
        refine goes_ Try.func42 (by kernel_rfl) rfl #[.agg #[.int .i64 ((rd_T36 l0_0 x10_1).f0), .int .i64 ((rd_T36 l0_0 x10_1).f1), .int .i64 ((rd_T36 l0_0 x10_1).f2), .int .i64 ((rd_T36 l0_0 x10_1).f3), .int .i64 ((rd_T36 l0_0 x10_1).f4), .int .i64 ((rd_T36 l0_0 x10_1).f5), .bool ((rd_T36 l0_0 x10_1).f6), .bool ((rd_T36 l0_0 x10_1).f7), .slice A249_8 ((rd_T36 l0_0 x10_1).f8).length c249_8]] (by rfl) rfl rfl ar_ ?_
        with_reducible refine (impl_PacketOk.calls ((rd_T36 l0_0 x10_1).f0) ((rd_T36 l0_0 x10_1).f1) ((rd_T36 l0_0 x10_1).f2) ((rd_T36 l0_0 x10_1).f3) ((rd_T36 l0_0 x10_1).f4) ((rd_T36 l0_0 x10_1).f5) ((rd_T36 l0_0 x10_1).f6) ((rd_T36 l0_0 x10_1).f7) _ _ ((rd_T36 l0_0 x10_1).f8) false _ ?side1 ?side2 A11.out).mono ?_
        (case side1 => exact kC_ (Kd.C_below HR249_8.out HB.out))
        (case side2 => exact HC249_8.out)
        rintro e w21 ⟨rfl, hb⟩
        refine ⟨_, rfl, ?_⟩
        replace BK247 := (bbA_ BK247 hb); replace BK250 := (bbA_ BK250 hb); replace HB := (bs_ HB hb); (try clear hb); (try clear hb2); (try clear hk); (try clear hi)
        refine hK.out _ _ (cz9 BK250.out) (fun hHeld => ?_)
        clear hK K; refine nm_ 16 ?_; refine pu_ (i := 2) (N := some 17) HT_ ?_; refine pu_ (i := 3) (N := some 18) HT_ ?_; refine pn_ (i := 4) (N := some 19) HT_ ?_; refine pn_ (i := 5) (N := some 20) HT_ ?_; refine pn_ (i := 6) (N := some 21) HT_ ?_; refine pn_ (i := 7) (N := some 22) HT_ ?_; refine pn_ (i := 8) (N := some 23) HT_ ?_; refine pn_ (i := 9) (N := some 24) HT_ ?_; refine pn_ (i := 10) (N := some 25) HT_ ?_; refine pu_ (i := 11) (N := some 26) HT_ ?_
        refine done_ (done_of HT_.out (by kernel_rfl)) ?_
        try go_wp2
        go_meet
        case rel => exact ⟨_, (true), (by first | rfl | (simp; done) | (simp [*]; done)), H', ⟨by have := HK1.out; first | omega | exact Nat.le_refl _⟩, ⟨by refine kb_ ?_; exact BK247.out⟩, ⟨by refine kb_ ?_; exact BK250.out⟩, ⟨hbA_ HB.out⟩⟩
      case rest =>
       clear HC7; (try clear c1); (try clear c2); (try clear p2); (try clear q2); (try clear hx2); (try clear qi2); (try clear c4); (try clear c4b0); (try clear c5); (try clear c5b0); (try clear c6); (try clear c6b0); (try clear c9); (try clear c12); (try clear c13); (try clear c13b0); (try clear c13b1); (try clear Z10); (try clear Z3); (try clear hx249_0); (try clear hx249_1); (try clear hx249_2); (try clear hx249_3); (try clear hx249_4); (try clear hx249_5); (try clear hx249_6); (try clear hx249_7); (try clear hx249_8); (try clear hx252_0); (try clear hx252_1); (try clear hx252_2); (try clear hx252_3); (try clear hx252_4); (try clear hx252_5); (try clear hx252_6); (try clear hx252_7); (try clear hx252_8); (try clear p2); (try clear p249); (try clear p252); (try clear q249); (try clear q252)
       obtain ⟨kq, x26_6, rfl, HA, HJ6, BK247, BK250, HB⟩ := hcut
       cases kq with
       | zero => exact absurd HA.out (by simp [impl_PartOk.j1])
       | succ kj6 =>
        have H := HA.out; clear HA
        simp only [impl_PartOk.j1] at H
        by_cases c22 : x26_6 = true
        ·subst c22
         rw [if_pos rfl] at H
         obtain rfl := Option.some.inj H
         go_wp2
         go_ret
         exact ⟨by first | rfl | (simp [errW_none, errW_some] <;> rfl) | (simp [*, errW_none, errW_some] <;> rfl), hbA_ HB.out⟩
        ·replace c22 := Bool.eq_false_iff.mpr c22
         subst c22
         rw [if_neg (show ¬ (false = true) by decide)] at H
         by_cases c23 : x10_1 > 0
         ·rw [if_pos c23] at H
          have c23b0 : decide (0 < x10_1) = true := decide_eq_true c23
          clear c23
          obtain ⟨ji24, hji24⟩ : ∃ j_ : Int, (wrap64 (x10_1 - 1)) = j_ := ⟨_, rfl⟩
          (first | rw [hji24] at H | simp only [hji24] at H)
          have hji24w : (IntKind.i64.wrap (x10_1 - 1)) = ji24 := (i64_w _).trans hji24
          by_cases c25 : 0 ≤ (ji24)
          ·rw [if_pos c25] at H
           have c25b0 : decide (0 ≤ (ji24)) = true := decide_eq_true c25
           clear c25
           by_cases c26 : (ji24) < (l0_0.length : Int)
           ·rw [if_pos c26] at H
            have c26b0 : decide ((ji24) < (l0_0.length : Int)) = true := decide_eq_true c26
            clear c26
            by_cases c27 : ((rd_T36 l0_0 x10_1).f5) < (wrap64 (((rd_T36 l0_0 (ji24)).f5) + (((rd_T36 l0_0 (ji24)).f8).length : Int)))
            ·rw [if_pos c27] at H
             have c27b0 : decide (((rd_T36 l0_0 x10_1).f5) < (wrap64 (((rd_T36 l0_0 (ji24)).f5) + (((rd_T36 l0_0 (ji24)).f8).length : Int)))) = true := decide_eq_true c27
             clear c27
             obtain rfl := Option.some.inj H
             have hnb28 := NB247_250.out; have hnc28 := NB250_247.out; have Z29 := zz2 BK247
             have p254 : 0 ≤ ((ji24) : Int) := of_decide_eq_true (by first | (with_reducible assumption) | assumption)
             have q254 : (ji24) < (l0_0.length : Int) := of_decide_eq_true (by first | (with_reducible assumption) | assumption)
             obtain ⟨ad254, A254_8, c254_8, e254, hx254_0, hx254_1, hx254_2, hx254_3, hx254_4, hx254_5, hx254_6, hx254_7, hx254_8, hl254_8, hi254_8⟩ := at_T36 HR0_0.out (ji24) p254 q254
             obtain rfl : ad249 = ad254 := (by injection e254)
             replace hx254_0 := cc_ HB hx254_0
             replace hx254_1 := cc_ HB hx254_1
             replace hx254_2 := cc_ HB hx254_2
             replace hx254_3 := cc_ HB hx254_3
             replace hx254_4 := cc_ HB hx254_4
             replace hx254_5 := cc_ HB hx254_5
             replace hx254_6 := cc_ HB hx254_6
             replace hx254_7 := cc_ HB hx254_7
             replace hx254_8 := cc_ HB hx254_8
             have HR254_8 := Aside0.mk hi254_8; have HC254_8 := Aside0.mk hl254_8; clear hi254_8 hl254_8
             replace p254 := eq_true p254
             replace q254 := eq_true q254
             go_wp2_with (first | ((with_reducible refine gate_dst (N := 6) rfl ?_); refine box_ (N := 6) (cs := #[.int .i64 0, .int .i64 0, .int .i64 0, .int .i64 0, .int .i64 0, .int .i64 0, .bool false, .bool false, .slice none 0 0]) (t := 36) (fun gb255 hg w30 hbox hb => ?_); have BK255 := Aside0.mk (hbox); have GW255 := ge_ hg HB; have GE255 := ge_ hg HB; replace HB := (bs_ HB hb); have NB247_255 := nl_ hg BK247; have NB255_247 := ng_ hg BK247; replace BK247 := (bbA_ BK247 hb); have NB250_255 := nl_ hg BK250; have NB255_250 := ng_ hg BK250; replace BK250 := (bbA_ BK250 hb); clear hb hbox hg; have hnb31 := NB255_247.out; have hnc31 := NB247_255.out; have hnb32 := NB255_250.out; have hnc32 := NB250_255.out; have Z33 := zz9 BK255; have Z34 := zz9 BK250))
             go_ret
             exact ⟨by first | rfl | (simp [errW_none, errW_some] <;> rfl) | (simp only [← hji24]; first | rfl | (simp [errW_none, errW_some] <;> rfl)) | (simp [*, errW_none, errW_some] <;> rfl), hbA_ HB.out⟩
            ·rw [if_neg c27] at H
             have c27b0 : decide (((rd_T36 l0_0 x10_1).f5) < (wrap64 (((rd_T36 l0_0 (ji24)).f5) + (((rd_T36 l0_0 (ji24)).f8).length : Int)))) = false := decide_eq_false c27
             clear c27
             obtain ⟨bq35, hbq35⟩ : ∃ b_ : Bool, b_ = ((rd_T36 l0_0 (ji24)).f6) := ⟨_, rfl⟩
             replace H : (if (bq35 = true) then (impl_PartOk.l0 kj6 (wrap64 (x3_1 + (((rd_T36 l0_0 x10_1).f8).length : Int))) l0_0 (l0_0.length : Int) (wrap64 (x10_1 + 1)) l0_0 a0_1) else (some false)) = some r := by rw [← hbq35] at H; exact H
             have Nbq35 := Aside0.mk hbq35; clear hbq35
             by_cases c36 : (bq35 = true)
             ·subst c36
              rw [if_pos rfl] at H
              have H' := Aside0.mk H
              clear H; have hnb37 := NB247_250.out; have hnc37 := NB250_247.out; have Z38 := zz2 BK247
              have p254 : 0 ≤ ((ji24) : Int) := of_decide_eq_true (by first | (with_reducible assumption) | assumption)
              have q254 : (ji24) < (l0_0.length : Int) := of_decide_eq_true (by first | (with_reducible assumption) | assumption)
              obtain ⟨ad254, A254_8, c254_8, e254, hx254_0, hx254_1, hx254_2, hx254_3, hx254_4, hx254_5, hx254_6, hx254_7, hx254_8, hl254_8, hi254_8⟩ := at_T36 HR0_0.out (ji24) p254 q254
              (try rw [← Nbq35.out] at hx254_6)
              (try rw [← Nbq35.out] at hx254_7)
              obtain rfl : ad249 = ad254 := (by injection e254)
              replace hx254_0 := cc_ HB hx254_0
              replace hx254_1 := cc_ HB hx254_1
              replace hx254_2 := cc_ HB hx254_2
              replace hx254_3 := cc_ HB hx254_3
              replace hx254_4 := cc_ HB hx254_4
              replace hx254_5 := cc_ HB hx254_5
              replace hx254_6 := cc_ HB hx254_6
              replace hx254_7 := cc_ HB hx254_7
              replace hx254_8 := cc_ HB hx254_8
              have HR254_8 := Aside0.mk hi254_8; have HC254_8 := Aside0.mk hl254_8; clear hi254_8 hl254_8
              replace p254 := eq_true p254
              replace q254 := eq_true q254
              go_wp2_with (first | ((with_reducible refine gate_dst (N := 6) rfl ?_); refine box_ (N := 6) (cs := #[.int .i64 0, .int .i64 0, .int .i64 0, .int .i64 0, .int .i64 0, .int .i64 0, .bool false, .bool false, .slice none 0 0]) (t := 36) (fun gb255 hg w39 hbox hb => ?_); have BK255 := Aside0.mk (hbox); have GW255 := ge_ hg HB; have GE255 := ge_ hg HB; replace HB := (bs_ HB hb); have NB247_255 := nl_ hg BK247; have NB255_247 := ng_ hg BK247; replace BK247 := (bbA_ BK247 hb); have NB250_255 := nl_ hg BK250; have NB255_250 := ng_ hg BK250; replace BK250 := (bbA_ BK250 hb); clear hb hbox hg; have hnb40 := NB255_247.out; have hnc40 := NB247_255.out; have hnb41 := NB255_250.out; have hnc41 := NB250_255.out; have Z42 := zz9 BK255; have Z43 := zz9 BK250))
              go_roundg kj6
              case measure => have := HK1.out; have := HJ6.out; omega
              case rel => exact ⟨(wrap64 (x3_1 + (((rd_T36 l0_0 x10_1).f8).length : Int))), (wrap64 (x10_1 + 1)), (by first | rfl | (simp; done) | (simp [*]; done)), (by first | rfl | (simp; done) | (simp [*]; done)), H', ⟨by have := HK1.out; have := HJ6.out; omega⟩, ⟨by exact kf_ BK247.out⟩, ⟨hbA_ HB.out⟩⟩
             ·replace c36 := Bool.eq_false_iff.mpr c36
              subst c36
              rw [if_neg (show ¬ (false = true) by decide)] at H
              obtain rfl := Option.some.inj H
              have hnb44 := NB247_250.out; have hnc44 := NB250_247.out; have Z45 := zz2 BK247
              have p254 : 0 ≤ ((ji24) : Int) := of_decide_eq_true (by first | (with_reducible assumption) | assumption)
              have q254 : (ji24) < (l0_0.length : Int) := of_decide_eq_true (by first | (with_reducible assumption) | assumption)
              obtain ⟨ad254, A254_8, c254_8, e254, hx254_0, hx254_1, hx254_2, hx254_3, hx254_4, hx254_5, hx254_6, hx254_7, hx254_8, hl254_8, hi254_8⟩ := at_T36 HR0_0.out (ji24) p254 q254
              (try rw [← Nbq35.out] at hx254_6)
              (try rw [← Nbq35.out] at hx254_7)
              obtain rfl : ad249 = ad254 := (by injection e254)
              replace hx254_0 := cc_ HB hx254_0
              replace hx254_1 := cc_ HB hx254_1
              replace hx254_2 := cc_ HB hx254_2
              replace hx254_3 := cc_ HB hx254_3
              replace hx254_4 := cc_ HB hx254_4
              replace hx254_5 := cc_ HB hx254_5
              replace hx254_6 := cc_ HB hx254_6
              replace hx254_7 := cc_ HB hx254_7
              replace hx254_8 := cc_ HB hx254_8
              have HR254_8 := Aside0.mk hi254_8; have HC254_8 := Aside0.mk hl254_8; clear hi254_8 hl254_8
              replace p254 := eq_true p254
              replace q254 := eq_true q254
              go_wp2_with (first | ((with_reducible refine gate_dst (N := 6) rfl ?_); refine box_ (N := 6) (cs := #[.int .i64 0, .int .i64 0, .int .i64 0, .int .i64 0, .int .i64 0, .int .i64 0, .bool false, .bool false, .slice none 0 0]) (t := 36) (fun gb255 hg w46 hbox hb => ?_); have BK255 := Aside0.mk (hbox); have GW255 := ge_ hg HB; have GE255 := ge_ hg HB; replace HB := (bs_ HB hb); have NB247_255 := nl_ hg BK247; have NB255_247 := ng_ hg BK247; replace BK247 := (bbA_ BK247 hb); have NB250_255 := nl_ hg BK250; have NB255_250 := ng_ hg BK250; replace BK250 := (bbA_ BK250 hb); clear hb hbox hg; have hnb47 := NB255_247.out; have hnc47 := NB247_255.out; have hnb48 := NB255_250.out; have hnc48 := NB250_255.out; have Z49 := zz9 BK255; have Z50 := zz9 BK250))
              go_ret
              exact ⟨by first | rfl | (simp [errW_none, errW_some] <;> rfl) | (simp only [← hji24]; first | rfl | (simp [errW_none, errW_some] <;> rfl)) | (simp [*, errW_none, errW_some] <;> rfl), hbA_ HB.out⟩
           ·rw [if_neg c26] at H
            exact absurd H (by simp)
          ·rw [if_neg c25] at H
           exact absurd H (by simp)
         ·rw [if_neg c23] at H
          have c23b0 : decide (0 < x10_1) = false := decide_eq_false c23
          clear c23
          have H' := Aside0.mk H
          clear H; have hnb51 := NB250_247.out; have hnc51 := NB247_250.out; have Z52 := zz9 BK250
          go_wp2
          go_roundg kj6
          case measure => have := HK1.out; have := HJ6.out; omega
          case rel => exact ⟨(wrap64 (x3_1 + (((rd_T36 l0_0 x10_1).f8).length : Int))), (wrap64 (x10_1 + 1)), (by first | rfl | (simp; done) | (simp [*]; done)), (by first | rfl | (simp; done) | (simp [*]; done)), H', ⟨by have := HK1.out; have := HJ6.out; omega⟩, ⟨by refine kb_ ?_; exact BK247.out⟩, ⟨hbA_ HB.out⟩⟩
     ·rw [if_neg c6] at H
      exact absurd H (by simp)
    ·rw [if_neg c5] at H
     exact absurd H (by simp)
   ·rw [if_neg c4] at H
    have c4b0 : decide (x10_1 < (l0_0.length : Int)) = false := decide_eq_false c4
    clear c4
    by_cases c53 : (l0_0.length : Int) > 0
    ·rw [if_pos c53] at H
     have c53b0 : decide (0 < (l0_0.length : Int)) = true := decide_eq_true c53
     have c53b1 : decide (0 < l0_0.length) = true := decide_eq_true (by omega)
     clear c53
     by_cases c54 : x3_1 ≤ 48
     ·rw [if_pos c54] at H
      have c54b0 : decide (x3_1 ≤ 48) = true := decide_eq_true c54
      clear c54
      replace H := Option.bind_eq_some_iff.mp H
      obtain ⟨t248, A550, H⟩ := H
      (try dsimp only at H)
      have A55 := Aside0.mk A550; clear A550
      obtain rfl := Option.some.inj H
      have Z56 := zz2 BK247
      go_wp2_with (first | (go_at_call 64; (with_reducible refine (impl_in.calls a0_1 0 1000000 t248 _ A55.out).mono ?_); rintro e w' ⟨rfl, ⟨nd, rfl⟩⟩))
      go_ret
      exact ⟨by first | rfl | (simp [errW_none, errW_some] <;> rfl) | (simp [*, errW_none, errW_some] <;> rfl), hbA_ HB.out⟩
     ·rw [if_neg c54] at H
      have c54b0 : decide (x3_1 ≤ 48) = false := decide_eq_false c54
      clear c54
      obtain rfl := Option.some.inj H
      have Z57 := zz2 BK247
      go_wp2
      go_ret
      exact ⟨by first | rfl | (simp [errW_none, errW_some] <;> rfl) | (simp [*, errW_none, errW_some] <;> rfl), hbA_ HB.out⟩
    ·rw [if_neg c53] at H
     have c53b0 : decide (0 < (l0_0.length : Int)) = false := decide_eq_false c53
     have c53b1 : decide (0 < l0_0.length) = false := decide_eq_false (by omega)
     clear c53
     obtain rfl := Option.some.inj H
     have Z58 := zz2 BK247
     go_wp2
     go_ret
     exact ⟨by first | rfl | (simp [errW_none, errW_some] <;> rfl) | (simp [*, errW_none, errW_some] <;> rfl), hbA_ HB.out⟩
theorem slices_Clip_byte_byte.calls (A0 : Option Addr) (c0 n0 : Nat) (w : World) (hc : n0 ≤ c0) : Calls Try.prog 102 #[.slice A0 n0 c0] w fun e w' => e = .returned (.slice A0 n0 n0) ∧ w' = w := by
  go_enter Try.func102, Try.ntmps102
  go_wp2
  go_ret
  exact ⟨rfl, rfl⟩
def impl_clone_byte.f (l0 : List Int) : Option (List Int) := if l0.length * 1 ≤ 140737488355328 then some l0 else none
theorem impl_clone_byte.calls (A0 : Option Addr) (c0 : Nat) (l0 : List Int) (r : List Int) (w : World) (hr0 : Kd.C (Kd.int .u8) w A0 l0.length l0) (hc0 : l0.length ≤ c0) (h : impl_clone_byte.f l0 = some r) :
    Calls Try.prog 94 #[.slice A0 l0.length c0] w fun e w' => ∃ v0_ : Value, e = .returned (v0_) ∧ Kd.R (Kd.int .u8) 5 w' w.heap.size (fun _ => True) v0_ r ∧ Below w.heap.size w w' := by
  obtain ⟨hle, rfl⟩ : l0.length * 1 ≤ 140737488355328 ∧ l0 = r := by
    unfold impl_clone_byte.f at h; split at h
    · exact ⟨by assumption, Option.some.inj h⟩
    · cases h
  have hm := hr0.2.1
  have HR := Aside0.mk hr0; clear hr0 h
  by_cases h0 : l0.length = 0
  · have hb : ((l0.length : Int) == 0) = true := by simp [h0]
    have HL : Aside0 (l0 = []) := ⟨List.eq_nil_of_length_eq_zero h0⟩
    clear h0
    go_enter Try.func94, Try.ntmps94
    go_wp2
    go_ret
    refine ⟨_, rfl, ?_, Below.refl _ _⟩
    rw [HL.out]; exact Kd.R_nil _ _ _ _ _
  · have hb : ((l0.length : Int) == 0) = false := by simp; intro hh; exact h0 (by simp [hh])
    clear h0
    go_enter Try.func94, Try.ntmps94
    go_wp2_with (first
      | ((with_reducible refine gate_dst (N := 7) rfl ?_); refine Kd.R_append_rows (Kd.int .u8) (Rr := (Kd.int .u8).K w) w.heap.size rfl _ _ 25 5 (.int .u8 0) 1 rfl Try.underlying25 info5 rfl (by decide) (by decide) (.slice none 0 0) [] l0 A0 l0.length c0 (fun _ => True) (fun _ => True) rfl rfl (Kd.R_nil _ _ _ _ _) HR.out (fun x cs h => h) (fun k _ => ⟨trivial, by simp [Value.ownBlock]⟩) (fun _ _ => trivial) (Below.refl _ _) (Nat.le_refl _) (by simpa using hle) ?_; intro v1 w1 ho hb1 hg hat; rw [List.nil_append] at ho; obtain ⟨A1, c1, hv1, hc1, _⟩ := Kd.R_reads ho; have HO := Aside0.mk ho; clear ho hat hg; have HB := Aside0.mk hb1; clear hb1; subst hv1)
      | (go_at_call 102; (with_reducible refine (slices_Clip_byte_byte.calls _ _ _ _ hc1).mono ?_); rintro e w' ⟨rfl, rfl⟩))
    go_ret
    exact ⟨_, rfl, Kd.R_clip HO.out (Nat.le_refl _) hc1, HB.out⟩
def impl_Packet_copy.f (a0_0 : Int) (a0_1 : Int) (a0_2 : Int) (a0_3 : Int) (a0_4 : Int) (a0_5 : Int) (a0_6 : Bool) (a0_7 : Bool) (l0_8 : List Int) : Option (Int × Int × Int × Int × Int × Int × Bool × Bool × List Int) := (impl_clone_byte.f l0_8).bind fun t258 => (some (a0_0, a0_1, a0_2, a0_3, a0_4, a0_5, a0_6, a0_7, t258))
set_option maxHeartbeats 8000000 in
set_option maxRecDepth 100000 in
theorem impl_Packet_copy.calls (a0_0 : Int) (a0_1 : Int) (a0_2 : Int) (a0_3 : Int) (a0_4 : Int) (a0_5 : Int) (a0_6 : Bool) (a0_7 : Bool) (A0_8 : Option Addr) (c0_8 : Nat) (l0_8 : List Int) (r1 : Int) (r2 : Int) (r3 : Int) (r4 : Int) (r5 : Int) (r6 : Int) (r7 : Bool) (r8 : Bool) (r9 : List Int) (w : World) (hr0_8 : Kd.C (Kd.int .u8) w A0_8 l0_8.length l0_8) (hc0_8 : l0_8.length ≤ c0_8) (h : impl_Packet_copy.f a0_0 a0_1 a0_2 a0_3 a0_4 a0_5 a0_6 a0_7 l0_8 = some (r1, r2, r3, r4, r5, r6, r7, r8, r9)) :
  Calls Try.prog 70 #[.agg #[.int .i64 a0_0, .int .i64 a0_1, .int .i64 a0_2, .int .i64 a0_3, .int .i64 a0_4, .int .i64 a0_5, .bool a0_6, .bool a0_7, .slice A0_8 l0_8.length c0_8]] w fun e w' => ∃ v8_ : Value, e = .returned (.agg #[.int .i64 r1, .int .i64 r2, .int .i64 r3, .int .i64 r4, .int .i64 r5, .int .i64 r6, .bool r7, .bool r8, v8_]) ∧ Kd.R (Kd.int .u8) 5 w' w.heap.size (fun _ => True) v8_ r9 ∧ Below w.heap.size w w' := by
 have hu36 := Try.underlying36; have HR0_8 := Aside0.mk hr0_8; have HC0_8 := Aside0.mk hc0_8; clear hr0_8 hc0_8
 have HB := Aside0.mk (Below.refl w.heap.size w)
 have H : ((impl_clone_byte.f l0_8).bind fun t258 => (some (a0_0, a0_1, a0_2, a0_3, a0_4, a0_5, a0_6, a0_7, t258))) = some (r1, r2, r3, r4, r5, r6, r7, r8, r9) := h
 clear h
 replace H := Option.bind_eq_some_iff.mp H
 obtain ⟨t258, A20, H⟩ := H
 (try dsimp only at H)
 have A2 := Aside0.mk A20; clear A20
 simp only [Option.some.injEq, Prod.mk.injEq] at H
 obtain ⟨rfl, rfl, rfl, rfl, rfl, rfl, rfl, rfl, rfl⟩ := H
 go_enter Try.func70, Try.ntmps70
 go_wp2_with (first | ((with_reducible refine gate_dst (N := 1) rfl ?_); refine box_ (N := 1) (cs := #[.int .i64 a0_0, .int .i64 a0_1, .int .i64 a0_2, .int .i64 a0_3, .int .i64 a0_4, .int .i64 a0_5, .bool a0_6, .bool a0_7, .slice A0_8 l0_8.length c0_8]) (t := 36) (fun gb256 hg w3 hbox hb => ?_); have BK256 := Aside0.mk (hbox); have GW256 := ge_ hg HB; have GE256 := ge_ hg HB; replace HB := (bs_ HB hb); clear hb hbox hg) | ((with_reducible refine gate_dst (N := 2) rfl ?_); refine box_ (N := 2) (cs := #[.int .i64 0, .int .i64 0, .int .i64 0, .int .i64 0, .int .i64 0, .int .i64 0, .bool false, .bool false, .slice none 0 0]) (t := 36) (fun gb257 hg w4 hbox hb => ?_); have BK257 := Aside0.mk (hbox); have GW257 := ge_ hg HB; have GE257 := ge_ hg HB; replace HB := (bs_ HB hb); have NB256_257 := nl_ hg BK256; have NB257_256 := ng_ hg BK256; replace BK256 := (bbA_ BK256 hb); clear hb hbox hg; have hnb5 := NB256_257.out; have hnc5 := NB257_256.out; have Z6 := zz9 BK256) | ((with_reducible refine gate_callee (f := 94) rfl ?_); refine goesL_ (some 5) rfl rfl Try.func94 (by kernel_rfl) rfl #[.slice A0_8 l0_8.length c0_8] rfl ar_ ?_; (with_reducible refine (impl_clone_byte.calls _ _ l0_8 t258 _ ?side1 ?side2 A2.out).mono ?_); (case side1 => exact kC_ (Kd.C_below HR0_8.out HB.out)); (case side2 => exact HC0_8.out); rintro e w7 ⟨v259, rfl, ho0, hb⟩; refine ⟨_, rfl, ?_⟩; have HO260 := Aside0.mk (Kd.R_lower ho0 (below_size (hbA_ HB.out))); replace BK256 := (bbA_ BK256 hb); replace BK257 := (bbA_ BK257 hb); replace HB := (bs_ HB hb); (try clear hb); (try clear hb2); (try clear hk); (try clear hi); (try clear ho0); obtain ⟨Ao8, co8, eo8⟩ := Kd.R_slice HO260.out; subst eo8; have Z9 := zz9 BK256; have Z10 := zz9 BK257))
 refine bodyPost_ret (results_cell_row rfl _ _ gb257 36 #[.int .i64 a0_0, .int .i64 a0_1, .int .i64 a0_2, .int .i64 a0_3, .int .i64 a0_4, .int .i64 a0_5, .bool a0_6, .bool a0_7, .slice Ao8 t258.length co8] (0, 0) _ rfl (by refine kb_ ?_; refine pz9 (cs := #[.int .i64 0, .int .i64 0, .int .i64 0, .int .i64 0, .int .i64 0, .int .i64 0, .bool false, .bool false, .slice none 0 0]) ?_; exact kf_ BK257.out) Try.underlying36 rfl (by kernel_rfl)) rfl ?_
 exact ⟨_, by first | rfl | (simp [errW_none, errW_some] <;> rfl) | (simp [*, errW_none, errW_some] <;> rfl), by refine kR_ ?_; exact rfm_ ((Kd.R_far (p := ⟨gb256, 8, none⟩) (Kd.R_types (Kd.R_types HO260.out BK256.out (by decide)) BK257.out (by decide)) (fun _ hk => hk.1.2) (.slice Ao8 t258.length co8))) (fun _ hk => trivial), hbA_ HB.out⟩
theorem impl_Packet_95.calls (A0 : Option Addr) (c0 n0 : Nat) (w : World) (hc : n0 ≤ c0) : Calls Try.prog 95 #[.slice A0 n0 c0] w fun e w' => e = .returned (.slice A0 n0 n0) ∧ w' = w := by
  go_enter Try.func95, Try.ntmps95
  go_wp2
  go_ret
  exact ⟨rfl, rfl⟩
def impl_packets.l0 : Nat → List (S36) → List (S36) → Int → Int → Option ((List (S36)))
 | 0, _, _, _, _ => none
 | k + 1, x3, x6, x7, x8 => if x8 < x7 then (if 0 ≤ x8 then (if x8 < (x6.length : Int) then ((impl_Packet_copy.f ((rd_T36 x6 x8).f0) ((rd_T36 x6 x8).f1) ((rd_T36 x6 x8).f2) ((rd_T36 x6 x8).f3) ((rd_T36 x6 x8).f4) ((rd_T36 x6 x8).f5) ((rd_T36 x6 x8).f6) ((rd_T36 x6 x8).f7) ((rd_T36 x6 x8).f8)).bind fun bt263 => (if x3.length < 1759218604441 then (impl_packets.l0 k (x3 ++ [(⟨bt263.1, bt263.2.1, bt263.2.2.1, bt263.2.2.2.1, bt263.2.2.2.2.1, bt263.2.2.2.2.2.1, bt263.2.2.2.2.2.2.1, bt263.2.2.2.2.2.2.2.1, bt263.2.2.2.2.2.2.2.2⟩ : S36)]) x6 x7 (wrap64 (x8 + 1))) else (none))) else (none)) else (none)) else (some x3)
def impl_packets.f (k : Nat) (l0 : List (S36)) : Option ((List (S36))) := impl_packets.l0 k ([] : List (S36)) l0 (l0.length : Int) 0
theorem impl_packets.mono_l : ∀ k, (∀ y0 y1 y2 y3, LeO (impl_packets.l0 k y0 y1 y2 y3) (impl_packets.l0 (k + 1) y0 y1 y2 y3))
 | 0 => fun _ _ _ _ r h => by simp [impl_packets.l0] at h
 | k + 1 => by
  have ih0 := impl_packets.mono_l k
  ·intro y0 y1 y2 y3
   unfold impl_packets.l0
   repeat' first | (with_reducible first | apply ih0 | exact LeO.refl _ | exact LeO.none _ | refine LeO.ite ?_ ?_ | refine LeO.bind ?_ fun _ => ?_) | apply ih0 | exact LeO.none _ | refine LeO.ite ?_ ?_ | refine LeO.bind ?_ fun _ => ?_
theorem impl_packets.mono : ∀ a0 k, LeO (impl_packets.f k a0) (impl_packets.f (k + 1) a0) := by
 intro a0 k
 have ih0 := impl_packets.mono_l k
 unfold impl_packets.f
 repeat' first | (with_reducible first | apply ih0 | exact LeO.refl _ | exact LeO.none _ | refine LeO.ite ?_ ?_ | refine LeO.bind ?_ fun _ => ?_) | apply ih0 | exact LeO.none _ | refine LeO.ite ?_ ?_ | refine LeO.bind ?_ fun _ => ?_
set_option maxHeartbeats 8000000 in
set_option maxRecDepth 100000 in
theorem impl_packets.calls (k : Nat) (A0 : Option Addr) (c0 : Nat) (l0 : List (S36)) (r : List (S36)) (w : World) (hr0 : Kd.C k36 w A0 l0.length l0) (hc0 : l0.length ≤ c0) (h : impl_packets.f k l0 = some r) :
  Calls Try.prog 98 #[.slice A0 l0.length c0] w fun e w' => ∃ v0_ : Value, e = .returned (v0_) ∧ Kd.S k36 36 w' w.heap.size (fun _ => True) v0_ r ∧ Below w.heap.size w w' := by
 have hu36 := Try.underlying36; have HR0 := Aside0.mk hr0; have HC0 := Aside0.mk hc0; clear hr0 hc0
 have HB := Aside0.mk (Below.refl w.heap.size w)
 have H : (impl_packets.l0 k ([] : List (S36)) l0 (l0.length : Int) 0) = some r := h
 clear h
 have H' := Aside0.mk H
 clear H
 go_enter Try.func98, Try.ntmps98
 go_wp2
 go_loopg [3, 8] k (fun kq v3 v8 w' => ∃ (x3_1 : List (S36)) (x8_1 : Int), v8 = .int .i64 x8_1 ∧ Aside0 (impl_packets.l0 kq x3_1 l0 (l0.length : Int) x8_1 = some r) ∧ Aside0 (kq ≤ k) ∧ Aside0 (Kd.S k36 36 w' w.heap.size (fun _ => True) v3 x3_1) ∧ Aside0 (Below w.heap.size w w'))
 case atStart => exact ⟨(([] : List (S36))), (0), (by first | rfl | (simp; done) | (simp [*]; done)), H', ⟨Nat.le_refl _⟩, ⟨by first | exact Kd.S_nil _ _ _ _ _ | exact Kd.N_nil _ _ _ _ _ | exact Kd.V_nil _ _ _ _ _ | exact Kd.Q_nil _ _ _ _ _ | exact Kd.R_nil _ _ _ _ _⟩, ⟨hbA_ HB.out⟩⟩
 case round =>
  clear H'
  obtain ⟨x3_1, x8_1, rfl, HA, HK1, HO_3, HB⟩ := hrel
  cases gk with
  | zero => exact absurd HA.out (by simp [impl_packets.l0])
  | succ k1 =>
   have H := HA.out; clear HA
   simp only [impl_packets.l0] at H
   by_cases c2 : x8_1 < (l0.length : Int)
   ·rw [if_pos c2] at H
    have c2b0 : decide (x8_1 < (l0.length : Int)) = true := decide_eq_true c2
    clear c2
    by_cases c3 : 0 ≤ x8_1
    ·rw [if_pos c3] at H
     have c3b0 : decide (0 ≤ x8_1) = true := decide_eq_true c3
     clear c3
     by_cases c4 : x8_1 < (l0.length : Int)
     ·rw [if_pos c4] at H
      have c4b0 : decide (x8_1 < (l0.length : Int)) = true := decide_eq_true c4
      clear c4
      replace H := Option.bind_eq_some_iff.mp H
      obtain ⟨⟨t263, t264, t265, t266, t267, t268, t269, t270, t271⟩, A50, H⟩ := H
      (try dsimp only at H)
      have A5 := Aside0.mk A50; clear A50
      by_cases c6 : x3_1.length < 1759218604441
      ·rw [if_pos c6] at H
       have LMc6 := Aside0.mk c6; clear c6
       obtain ⟨y274, hy274⟩ : ∃ y_ : List (S36), y_ = (x3_1 ++ [(⟨t263, t264, t265, t266, t267, t268, t269, t270, t271⟩ : S36)]) := ⟨_, rfl⟩
       (first | replace H := sb_ hy274 H | rw [← hy274] at H)
       have Ny274 := Aside0.mk hy274; clear hy274
       have H' := Aside0.mk H
       clear H
       have p261 : 0 ≤ (x8_1 : Int) := of_decide_eq_true (by first | (with_reducible assumption) | assumption)
       have q261 : x8_1 < (l0.length : Int) := of_decide_eq_true (by first | (with_reducible assumption) | assumption)
       obtain ⟨ad261, A261_8, c261_8, e261, hx261_0, hx261_1, hx261_2, hx261_3, hx261_4, hx261_5, hx261_6, hx261_7, hx261_8, hl261_8, hi261_8⟩ := at_T36 HR0.out x8_1 p261 q261
       cases e261
       replace hx261_0 := cc_ HB hx261_0
       replace hx261_1 := cc_ HB hx261_1
       replace hx261_2 := cc_ HB hx261_2
       replace hx261_3 := cc_ HB hx261_3
       replace hx261_4 := cc_ HB hx261_4
       replace hx261_5 := cc_ HB hx261_5
       replace hx261_6 := cc_ HB hx261_6
       replace hx261_7 := cc_ HB hx261_7
       replace hx261_8 := cc_ HB hx261_8
       have HR261_8 := Aside0.mk hi261_8; have HC261_8 := Aside0.mk hl261_8; clear hi261_8 hl261_8
       replace p261 := eq_true p261
       replace q261 := eq_true q261
       go_wp2_with (first | ((with_reducible refine gate_dst (N := 5) rfl ?_); refine box_ (N := 5) (cs := #[.int .i64 0, .int .i64 0, .int .i64 0, .int .i64 0, .int .i64 0, .int .i64 0, .bool false, .bool false, .slice none 0 0]) (t := 36) (fun gb262 hg w7 hbox hb => ?_); replace HO_3 := Aside0.mk (Kd.S_below (Kd.S_elderB (kS_ HO_3.out) gb262 (Nat.le_of_eq hg.symm)) hb); have BK262 := Aside0.mk (hbox); have GW262 := ge_ hg HB; have GE262 := ge_ hg HB; replace HB := (bs_ HB hb); clear hb hbox hg; have Z8 := zz9 BK262) | ((with_reducible refine gate_callee (f := 70) rfl ?_); refine goesL_ (some 14) rfl rfl Try.func70 (by kernel_rfl) rfl #[.agg #[.int .i64 ((rd_T36 l0 x8_1).f0), .int .i64 ((rd_T36 l0 x8_1).f1), .int .i64 ((rd_T36 l0 x8_1).f2), .int .i64 ((rd_T36 l0 x8_1).f3), .int .i64 ((rd_T36 l0 x8_1).f4), .int .i64 ((rd_T36 l0 x8_1).f5), .bool ((rd_T36 l0 x8_1).f6), .bool ((rd_T36 l0 x8_1).f7), .slice A261_8 ((rd_T36 l0 x8_1).f8).length c261_8]] rfl ar_ ?_; (with_reducible refine (impl_Packet_copy.calls ((rd_T36 l0 x8_1).f0) ((rd_T36 l0 x8_1).f1) ((rd_T36 l0 x8_1).f2) ((rd_T36 l0 x8_1).f3) ((rd_T36 l0 x8_1).f4) ((rd_T36 l0 x8_1).f5) ((rd_T36 l0 x8_1).f6) ((rd_T36 l0 x8_1).f7) _ _ ((rd_T36 l0 x8_1).f8) t263 t264 t265 t266 t267 t268 t269 t270 t271 _ ?side1 ?side2 A5.out).mono ?_); (case side1 => exact Kd.C_below HR261_8.out (hbA_ HB.out)); (case side2 => exact HC261_8.out); rintro e w9 ⟨v272, rfl, ho0, hb⟩; refine ⟨_, rfl, ?_⟩; replace HO_3 := Aside0.mk (Kd.S_elder' (by refine kS_ ?_; exact (nfS_ gb262 HO_3.out (fun _ hk => hk.2) (fun _ h_ => op1_ h_))) (Kd.R_base ho0) hb); have HO273 := Aside0.mk (Kd.R_lower ho0 (below_size (hbA_ HB.out))); replace BK262 := Aside0.mk (blk_below (g := gb262) (o := .cells #[.int .i64 ((rd_T36 l0 x8_1).f0), .int .i64 ((rd_T36 l0 x8_1).f1), .int .i64 ((rd_T36 l0 x8_1).f2), .int .i64 ((rd_T36 l0 x8_1).f3), .int .i64 ((rd_T36 l0 x8_1).f4), .int .i64 ((rd_T36 l0 x8_1).f5), .bool ((rd_T36 l0 x8_1).f6), .bool ((rd_T36 l0 x8_1).f7), .slice A261_8 ((rd_T36 l0 x8_1).f8).length c261_8] 36 (0, 0)) (by refine kb_ ?_; refine pz9 (cs := #[.int .i64 0, .int .i64 0, .int .i64 0, .int .i64 0, .int .i64 0, .int .i64 0, .bool false, .bool false, .slice none 0 0]) ?_; refine kb_ ?_; exact BK262.out) hb); replace HB := (bs_ HB hb); (try clear hb); (try clear hb2); (try clear hk); (try clear hi); (try clear ho0); obtain ⟨Ao11, co11, eo11⟩ := Kd.R_slice HO273.out; subst eo11) | ((with_reducible refine gate_builtin (b := .append) (xs := #[.tmp 12, .tmp 15]) rfl ?_); at_builtin; refine Kd.S_append k36 (w0 := w) w.heap.size rfl (.tmp 12) (.tmp 15) 30 36 (.agg #[(.int .i64 0), (.int .i64 0), (.int .i64 0), (.int .i64 0), (.int .i64 0), (.int .i64 0), (.bool false), (.bool false), (.slice none 0 0)]) 80 rfl Try.underlying30 info36 rfl (by decide) (by omega) u3 x3_1 (⟨t263, t264, t265, t266, t267, t268, t269, t270, t271⟩ : S36) [.int .i64 t263, .int .i64 t264, .int .i64 t265, .int .i64 t266, .int .i64 t267, .int .i64 t268, .bool t269, .bool t270, .slice Ao11 t271.length co11] (fun k_ => k_ ≠ gb262) (fun k_ => some k_ = (.slice Ao11 t271.length co11 : Value).ownBlock) rfl rfl ?aP (fun k_ hk_ => ((Kd.R_mono (ok' := fun k_ => ((fun k_ => k_ ≠ gb262)) k_ ∧ some k_ ≠ (u3 : Value).ownBlock) (Kd.R_types (Kd.R_apart' (HO273.out) (Kd.S_typed HO_3.out) (by decide)) BK262.out (by decide)) (fun k_ hk => ⟨hk.2, hk.1.2⟩))).1 k_ hk_.symm) ?aF ?aO ?aB ?aS ?aL ?_; (case aP => exact k36_mkM _ _ _ (⟨t263, t264, t265, t266, t267, t268, t269, t270, t271⟩ : S36) (Kd.R_mono (Kd.R_tight rfl (Kd.R_mono (ok' := fun k_ => ((fun k_ => k_ ≠ gb262)) k_ ∧ some k_ ≠ (u3 : Value).ownBlock) (Kd.R_types (Kd.R_apart' (HO273.out) (Kd.S_typed HO_3.out) (by decide)) BK262.out (by decide)) (fun k_ hk => ⟨hk.2, hk.1.2⟩))) (fun _ h_ => h_))); (case aB => exact (hbA_ HB.out)); (case aF => exact (fun k_ hk => fb_ BK262 k_ hk)); (case aO => exact (by refine kS_ ?_; exact Kd.S_mono HO_3.out (fun k_ hk => ⟨hk.1.2, fun e_ => hk.2 e_⟩))); (case aS => exact (below_size (hbA_ HB.out))); (case aL => have := LMc6.out; omega); intro v275 w10 ho hb hg hat; rw [← Ny274.out] at ho; replace BK262 := (bgA_ BK262 hg (Kd.S_away HO_3.out (fun _ hk => hk.1.2))); replace HB := Aside0.mk (hb); have HO276 := Aside0.mk (ho); clear HO_3 HO273; clear ho hb hg hat))
       go_roundg k1
       case measure => have := HK1.out; omega
       case rel => exact ⟨(y274), (wrap64 (x8_1 + 1)), (by first | rfl | (simp; done) | (simp [*]; done)), H', ⟨by have := HK1.out; omega⟩, ⟨by refine kS_ ?_; exact Kd.S_mono HO276.out (fun _ hk => trivial)⟩, ⟨hbA_ HB.out⟩⟩
      ·rw [if_neg c6] at H
       exact absurd H (by simp)
     ·rw [if_neg c4] at H
      exact absurd H (by simp)
    ·rw [if_neg c3] at H
     exact absurd H (by simp)
   ·rw [if_neg c2] at H
    have c2b0 : decide (x8_1 < (l0.length : Int)) = false := decide_eq_false c2
    clear c2
    obtain rfl := Option.some.inj H
    obtain ⟨Ao12, co12, eo12⟩ := Kd.S_slice HO_3.out
    subst eo12
    have hq13 := (Kd.S_reads' HO_3.out).2.1
    have hr13 := Aside0.mk (Kd.S_clip HO_3.out (Nat.le_refl _) hq13)
    clear HO_3; have HO278 := hr13; clear hr13
    go_wp2_with (first | (go_at_call 95; (with_reducible refine (impl_Packet_95.calls _ _ _ _ hq13).mono ?_); rintro e w' ⟨rfl, rfl⟩))
    go_ret
    exact ⟨_, by first | rfl | (simp [errW_none, errW_some] <;> rfl) | (simp [*, errW_none, errW_some] <;> rfl), by refine kS_ ?_; exact HO278.out, hbA_ HB.out⟩
def impl_Part_copy.f (k : Nat) (l0_0 : List (S36)) (a0_1 : Int) : Option ((List (S36)) × Int) := (impl_packets.f k l0_0).bind fun t281 => (some (t281, a0_1))
theorem impl_Part_copy.mono : ∀ a0 a1 k, LeO (impl_Part_copy.f k a0 a1) (impl_Part_copy.f (k + 1) a0 a1) := by
 intro a0 a1 k
 unfold impl_Part_copy.f
 repeat' first | (with_reducible first | apply impl_packets.mono | exact LeO.refl _ | exact LeO.none _ | refine LeO.ite ?_ ?_ | refine LeO.bind ?_ fun _ => ?_) | apply impl_packets.mono | exact LeO.none _ | refine LeO.ite ?_ ?_ | refine LeO.bind ?_ fun _ => ?_
set_option maxHeartbeats 8000000 in
set_option maxRecDepth 100000 in
theorem impl_Part_copy.calls (k : Nat) (A0_0 : Option Addr) (c0_0 : Nat) (l0_0 : List (S36)) (a0_1 : Int) (r1 : List (S36)) (r2 : Int) (w : World) (hr0_0 : Kd.C k36 w A0_0 l0_0.length l0_0) (hc0_0 : l0_0.length ≤ c0_0) (h : impl_Part_copy.f k l0_0 a0_1 = some (r1, r2)) :
  Calls Try.prog 86 #[.agg #[.slice A0_0 l0_0.length c0_0, .int .i64 a0_1]] w fun e w' => ∃ v0_ : Value, e = .returned (.agg #[v0_, .int .i64 r2]) ∧ Kd.S k36 36 w' w.heap.size (fun _ => True) v0_ r1 ∧ Below w.heap.size w w' := by
 have hu32 := Try.underlying32; have HR0_0 := Aside0.mk hr0_0; have HC0_0 := Aside0.mk hc0_0; clear hr0_0 hc0_0
 have HB := Aside0.mk (Below.refl w.heap.size w)
 have H : ((impl_packets.f k l0_0).bind fun t281 => (some (t281, a0_1))) = some (r1, r2) := h
 clear h
 replace H := Option.bind_eq_some_iff.mp H
 obtain ⟨t281, A20, H⟩ := H
 (try dsimp only at H)
 have A2 := Aside0.mk A20; clear A20
 simp only [Option.some.injEq, Prod.mk.injEq] at H
 obtain ⟨rfl, rfl⟩ := H
 go_enter Try.func86, Try.ntmps86
 try go_wp2_with (first | ((with_reducible refine gate_dst (N := 1) rfl ?_); refine box_ (N := 1) (cs := #[.slice A0_0 l0_0.length c0_0, .int .i64 a0_1]) (t := 32) (fun gb279 hg w3 hbox hb => ?_); have BK279 := Aside0.mk (hbox); have GW279 := ge_ hg HB; have GE279 := ge_ hg HB; replace HB := (bs_ HB hb); clear hb hbox hg) | ((with_reducible refine gate_dst (N := 2) rfl ?_); refine box_ (N := 2) (cs := #[.slice none 0 0, .int .i64 0]) (t := 32) (fun gb280 hg w4 hbox hb => ?_); have BK280 := Aside0.mk (hbox); have GW280 := ge_ hg HB; have GE280 := ge_ hg HB; replace HB := (bs_ HB hb); have NB279_280 := nl_ hg BK279; have NB280_279 := ng_ hg BK279; replace BK279 := (bbA_ BK279 hb); clear hb hbox hg))
 replace BK279 := Aside0.mk (blk_drew BK279.out); replace BK280 := Aside0.mk (blk_drew BK280.out); replace HB := (bd_ HB)
 refine start_ (n := 7) (S := fun w' => w'.cell? ⟨gb279, 0, none⟩ = some (.slice A0_0 l0_0.length c0_0) ∧ w'.cell? ⟨gb279, 1, none⟩ = some (.int .i64 a0_1)) (ds := []) #[false, false, false, false, false, false, false] (by kernel_rfl) rfl rfl (cz2 BK279.out) (fun hHeld => ?_)
 generalize w4.drew = w5 at BK279 BK280 HB hHeld ⊢
 refine pure_ (i := 0) (N := some 3) (v := ?_) (a' := ?_) #[true, false, false, false, false, false, false] rfl rfl (by kernel_rfl) (fun _ _ _ h => h) (Or.inl ⟨by rfl, ?_⟩) ?_ ?_
 rotate_left
 ·intro w'
  go_simp
  with_reducible rfl
 rotate_left
 ·simp only [Act.put, List.setIfInBounds_toArray, List.set_cons_zero, List.set_cons_succ, i64_w, i32_w]
  rfl
 refine pure_ (i := 3) (N := some 6) (v := ?_) (a' := ?_) #[true, false, false, true, false, false, false] rfl rfl (by kernel_rfl) (fun _ _ _ h => h) (Or.inl ⟨by rfl, ?_⟩) ?_ ?_
 rotate_left
 ·intro w'
  go_simp
  with_reducible rfl
 rotate_left
 ·simp only [Act.put, List.setIfInBounds_toArray, List.set_cons_zero, List.set_cons_succ, i64_w, i32_w]
  rfl
 refine take_ (i := 1) (N := some 4) (v := ?_) (a' := ?_) #[true, true, false, true, false, false, false] rfl rfl (by kernel_rfl) (fun _ _ _ h => h) (Or.inl ⟨by rfl, ?_⟩) hHeld ?_ ?_
 rotate_left
 ·rintro w' ⟨s0, s1⟩
  go_simp
  with_reducible rfl
 rotate_left
 ·simp only [Act.put, List.setIfInBounds_toArray, List.set_cons_zero, List.set_cons_succ, i64_w, i32_w]
  rfl
 refine take_ (i := 4) (N := some 7) (v := ?_) (a' := ?_) #[true, true, false, true, true, false, false] rfl rfl (by kernel_rfl) (fun _ _ _ h => h) (Or.inl ⟨by rfl, ?_⟩) hHeld ?_ ?_
 rotate_left
 ·rintro w' ⟨s0, s1⟩
  go_simp
  with_reducible rfl
 rotate_left
 ·simp only [Act.put, List.setIfInBounds_toArray, List.set_cons_zero, List.set_cons_succ, i64_w, i32_w]
  rfl
 refine one_ (i := 2) (N := some 5) #[true, true, true, true, true, false, false] rfl rfl (by kernel_rfl) (by decide) (fun K hK => ?_)
 refine goes_ Try.func98 (by kernel_rfl) rfl #[.slice A0_0 l0_0.length c0_0] (by rfl) rfl rfl ar_ ?_
 with_reducible refine (impl_packets.calls k _ _ l0_0 t281 _ ?side1 ?side2 A2.out).mono ?_
 (case side1 => exact kC_ (Kd.C_below HR0_0.out HB.out))
 (case side2 => exact HC0_0.out)
 rintro e w6 ⟨v282, rfl, ho0, hb⟩
 refine ⟨_, rfl, ?_⟩
 have HO283 := Aside0.mk (Kd.S_lower ho0 (below_size (hbA_ HB.out))); replace BK279 := (bbA_ BK279 hb); replace BK280 := (bbA_ BK280 hb); replace HB := (bs_ HB hb); (try clear hb); (try clear hb2); (try clear hk); (try clear hi); (try clear ho0)
 obtain ⟨Ao7, co7, eo7⟩ := Kd.S_slice HO283.out
 (first | subst eo7 | (injection eo7 with f1_ f2_ f3_; have f4_ := f1_.symm; have f5_ := f3_.symm; clear f1_ f2_ f3_; subst f4_; subst f5_))
 refine hK.out _ _ (cz2 BK279.out) (fun hHeld => ?_)
 clear hK K; refine nm_ 5 ?_
 refine pure_ (i := 5) (N := some 8) (v := ?_) (a' := ?_) #[true, true, true, true, true, true, false] rfl rfl (by kernel_rfl) (fun _ _ _ h => h) (Or.inl ⟨by rfl, ?_⟩) ?_ ?_
 rotate_left
 ·intro w'
  go_simp
  with_reducible rfl
 rotate_left
 ·simp only [Act.put, List.setIfInBounds_toArray, List.set_cons_zero, List.set_cons_succ, i64_w, i32_w]
  rfl
 refine one_ (i := 6) (N := none) #[true, true, true, true, true, true, true] rfl rfl (by kernel_rfl) (by decide) (fun K hK => ?_)
 have hs8 : w6.cell? ⟨gb280, 0, none⟩ = some (.slice none 0 0) := bc_ BK280 0
 have hfs8 := blk_frozen BK280.out 0
 have hns8_0 := NB279_280.out; have hms8_0 := NB280_279.out
 have hs9 : w6.cell? ⟨gb280, 1, none⟩ = some (.int .i64 0) := bc_ BK280 1
 have hfs9 := blk_frozen BK280.out 1
 have hns9_0 := NB279_280.out; have hms9_0 := NB280_279.out
 refine skip_ (w1 := ?_) (by rfl) rfl ?_ ?_
 rotate_left
 ·go_simp
  rfl
 refine hK.out _ _ ⟨((cell_far (p := ⟨gb280, _, none⟩) NB279_280.out _).trans (((cell_far (p := ⟨gb280, _, none⟩) NB279_280.out _).trans (hHeld.1)))), ((cell_far (p := ⟨gb280, _, none⟩) NB279_280.out _).trans (((cell_far (p := ⟨gb280, _, none⟩) NB279_280.out _).trans (hHeld.2))))⟩ (fun hHeld => ?_)
 clear hK K
 refine done_ (by kernel_rfl) ?_
 try go_wp2
 refine bodyPost_ret (results_cell_row rfl _ _ gb280 32 #[.slice Ao7 t281.length co7, .int .i64 a0_1] (0, 0) _ rfl (by refine kb_ ?_; refine pz2 (cs := #[.slice none 0 0, .int .i64 0]) ?_; refine kb_ ?_; exact BK280.out) Try.underlying32 rfl (by kernel_rfl)) rfl ?_
 exact ⟨_, by first | rfl | (simp [errW_none, errW_some] <;> rfl) | (simp [*, errW_none, errW_some] <;> rfl), by refine kS_ ?_; exact Kd.S_mono (Kd.S_far (p := ⟨gb280, 1, none⟩) (Kd.S_far (p := ⟨gb280, 0, none⟩) (Kd.S_types HO283.out BK280.out (by decide)) (fun _ hk => hk.2) (.slice Ao7 t281.length co7)) (fun _ hk => hk.2) (.int .i64 a0_1)) (fun _ hk => trivial), hbA_ HB.out⟩
def slices_Equal_byte_byte.l0 : Nat → List Int → List Int → Int → Int → Option (Bool)
 | 0, _, _, _, _ => none
 | k + 1, x0, x1, x12, x13 => if x13 < x12 then (if 0 ≤ x13 then (if x13 < (x0.length : Int) then (if x13 < (x1.length : Int) then (if (rd x0 x13) = (rd x1 x13) then (slices_Equal_byte_byte.l0 k x0 x1 x12 (wrap64 (x13 + 1))) else (some false)) else (none)) else (none)) else (none)) else (some true)
def slices_Equal_byte_byte.f (k : Nat) (l0 : List Int) (l1 : List Int) : Option (Bool) := if (l0.length : Int) = (l1.length : Int) then (slices_Equal_byte_byte.l0 k l0 l1 (l0.length : Int) 0) else (some false)
theorem slices_Equal_byte_byte.mono_l : ∀ k, (∀ y0 y1 y2 y3, LeO (slices_Equal_byte_byte.l0 k y0 y1 y2 y3) (slices_Equal_byte_byte.l0 (k + 1) y0 y1 y2 y3))
 | 0 => fun _ _ _ _ r h => by simp [slices_Equal_byte_byte.l0] at h
 | k + 1 => by
  have ih0 := slices_Equal_byte_byte.mono_l k
  ·intro y0 y1 y2 y3
   unfold slices_Equal_byte_byte.l0
   repeat' first | (with_reducible first | apply ih0 | exact LeO.refl _ | exact LeO.none _ | refine LeO.ite ?_ ?_ | refine LeO.bind ?_ fun _ => ?_) | apply ih0 | exact LeO.none _ | refine LeO.ite ?_ ?_ | refine LeO.bind ?_ fun _ => ?_
theorem slices_Equal_byte_byte.mono : ∀ a0 a1 k, LeO (slices_Equal_byte_byte.f k a0 a1) (slices_Equal_byte_byte.f (k + 1) a0 a1) := by
 intro a0 a1 k
 have ih0 := slices_Equal_byte_byte.mono_l k
 unfold slices_Equal_byte_byte.f
 repeat' first | (with_reducible first | apply ih0 | exact LeO.refl _ | exact LeO.none _ | refine LeO.ite ?_ ?_ | refine LeO.bind ?_ fun _ => ?_) | apply ih0 | exact LeO.none _ | refine LeO.ite ?_ ?_ | refine LeO.bind ?_ fun _ => ?_
set_option maxHeartbeats 8000000 in
set_option maxRecDepth 100000 in
theorem slices_Equal_byte_byte.calls (k : Nat) (A0 : Option Addr) (c0 : Nat) (l0 : List Int) (A1 : Option Addr) (c1 : Nat) (l1 : List Int) (r : Bool) (w : World) (hr0 : Kd.C (Kd.int .u8) w A0 l0.length l0) (hc0 : l0.length ≤ c0) (hr1 : Kd.C (Kd.int .u8) w A1 l1.length l1) (hc1 : l1.length ≤ c1) (h : slices_Equal_byte_byte.f k l0 l1 = some r) :
  Calls Try.prog 85 #[.slice A0 l0.length c0, .slice A1 l1.length c1] w fun e w' => e = .returned (.bool r) ∧ Drawn0 w w' := by
 have HR0 := Aside0.mk hr0; have HC0 := Aside0.mk hc0; clear hr0 hc0; have HR1 := Aside0.mk hr1; have HC1 := Aside0.mk hc1; clear hr1 hc1
 have H : (if (l0.length : Int) = (l1.length : Int) then (slices_Equal_byte_byte.l0 k l0 l1 (l0.length : Int) 0) else (some false)) = some r := h
 clear h
 by_cases c3 : (l0.length : Int) = (l1.length : Int)
 ·rw [if_pos c3] at H
  have c3b0 : ((l0.length : Int) == (l1.length : Int)) = true := beq_iff_eq.mpr c3
  have c3b1 : ((l0.length : Int) != (l1.length : Int)) = false := bne_eq_false_iff_eq.mpr c3
  have c3b2 : (l0.length == l1.length) = true := by first | simpa using c3 | (simp at c3 ⊢; omega)
  clear c3
  have H' := Aside0.mk H
  clear H
  go_enter Try.func85, Try.ntmps85
  go_wp2
  repeat (go_quiet (fail); try go_wp2)
  go_loopg [13] k (fun kq v13 w' => ∃ (x13_1 : Int), v13 = .int .i64 x13_1 ∧ Aside0 (slices_Equal_byte_byte.l0 kq l0 l1 (l0.length : Int) x13_1 = some r) ∧ Aside0 (kq ≤ k) ∧ Drawn0 w w')
  case atStart => exact ⟨(0), (by first | rfl | (simp; done) | (simp [*]; done)), H', ⟨Nat.le_refl _⟩, by repeat (first | exact Drawn0.refl _ | apply Drawn0.step)⟩
  case round =>
   clear H'; (try clear c1); (try clear p2); (try clear c3); (try clear c3b0); (try clear c3b1); (try clear c3b2)
   obtain ⟨x13_1, rfl, HA, HK1, ⟨m1, rfl⟩⟩ := hrel
   cases gk with
   | zero => exact absurd HA.out (by simp [slices_Equal_byte_byte.l0])
   | succ k1 =>
    have H := HA.out; clear HA
    simp only [slices_Equal_byte_byte.l0] at H
    by_cases c4 : x13_1 < (l0.length : Int)
    ·rw [if_pos c4] at H
     have c4b0 : decide (x13_1 < (l0.length : Int)) = true := decide_eq_true c4
     clear c4
     by_cases c5 : 0 ≤ x13_1
     ·rw [if_pos c5] at H
      have c5b0 : decide (0 ≤ x13_1) = true := decide_eq_true c5
      clear c5
      by_cases c6 : x13_1 < (l0.length : Int)
      ·rw [if_pos c6] at H
       have c6b0 : decide (x13_1 < (l0.length : Int)) = true := decide_eq_true c6
       clear c6
       by_cases c7 : x13_1 < (l1.length : Int)
       ·rw [if_pos c7] at H
        have c7b0 : decide (x13_1 < (l1.length : Int)) = true := decide_eq_true c7
        clear c7
        by_cases c8 : (rd l0 x13_1) = (rd l1 x13_1)
        ·rw [if_pos c8] at H
         have c8b0 : ((rd l0 x13_1) == (rd l1 x13_1)) = true := beq_iff_eq.mpr c8
         have c8b1 : ((rd l0 x13_1) != (rd l1 x13_1)) = false := bne_eq_false_iff_eq.mpr c8
         clear c8
         have H' := Aside0.mk H
         clear H
         have p284 : 0 ≤ (x13_1 : Int) := of_decide_eq_true (by first | (with_reducible assumption) | assumption)
         have q284 : x13_1 < (l0.length : Int) := of_decide_eq_true (by first | (with_reducible assumption) | assumption)
         obtain ⟨ad284, e284, hx284_0⟩ := Kd.at_int HR0.out x13_1 p284 q284
         cases e284
         replace p284 := eq_true p284
         replace q284 := eq_true q284
         have p285 : 0 ≤ (x13_1 : Int) := of_decide_eq_true (by first | (with_reducible assumption) | assumption)
         have q285 : x13_1 < (l1.length : Int) := of_decide_eq_true (by first | (with_reducible assumption) | assumption)
         obtain ⟨ad285, e285, hx285_0⟩ := Kd.at_int HR1.out x13_1 p285 q285
         cases e285
         replace p285 := eq_true p285
         replace q285 := eq_true q285
         go_wp2
         repeat (go_quiet (fail); try go_wp2)
         go_roundg k1
         case measure => have := HK1.out; omega
         case rel => exact ⟨(wrap64 (x13_1 + 1)), (by first | rfl | (simp; done) | (simp [*]; done)), H', ⟨by have := HK1.out; omega⟩, by repeat (first | exact Drawn0.refl _ | apply Drawn0.step)⟩
        ·rw [if_neg c8] at H
         have c8b0 : ((rd l0 x13_1) == (rd l1 x13_1)) = false := beq_eq_false_iff_ne.mpr c8
         have c8b1 : ((rd l0 x13_1) != (rd l1 x13_1)) = true := bne_iff_ne.mpr c8
         obtain rfl := Option.some.inj H
         have p284 : 0 ≤ (x13_1 : Int) := of_decide_eq_true (by first | (with_reducible assumption) | assumption)
         have q284 : x13_1 < (l0.length : Int) := of_decide_eq_true (by first | (with_reducible assumption) | assumption)
         obtain ⟨ad284, e284, hx284_0⟩ := Kd.at_int HR0.out x13_1 p284 q284
         cases e284
         replace p284 := eq_true p284
         replace q284 := eq_true q284
         have p285 : 0 ≤ (x13_1 : Int) := of_decide_eq_true (by first | (with_reducible assumption) | assumption)
         have q285 : x13_1 < (l1.length : Int) := of_decide_eq_true (by first | (with_reducible assumption) | assumption)
         obtain ⟨ad285, e285, hx285_0⟩ := Kd.at_int HR1.out x13_1 p285 q285
         cases e285
         replace p285 := eq_true p285
         replace q285 := eq_true q285
         go_wp2
         repeat (go_quiet (fail); try go_wp2)
         go_ret
         exact ⟨by first | rfl | (simp; done) | (simp [*]; done), by repeat (first | exact Drawn0.refl _ | apply Drawn0.step)⟩
       ·rw [if_neg c7] at H
        exact absurd H (by simp)
      ·rw [if_neg c6] at H
       exact absurd H (by simp)
     ·rw [if_neg c5] at H
      exact absurd H (by simp)
    ·rw [if_neg c4] at H
     have c4b0 : decide (x13_1 < (l0.length : Int)) = false := decide_eq_false c4
     clear c4
     obtain rfl := Option.some.inj H
     go_wp2
     repeat (go_quiet (fail); try go_wp2)
     go_ret
     exact ⟨by first | rfl | (simp; done) | (simp [*]; done), by repeat (first | exact Drawn0.refl _ | apply Drawn0.step)⟩
 ·rw [if_neg c3] at H
  have c3b0 : ((l0.length : Int) == (l1.length : Int)) = false := beq_eq_false_iff_ne.mpr c3
  have c3b1 : ((l0.length : Int) != (l1.length : Int)) = true := bne_iff_ne.mpr c3
  have c3b2 : (l0.length == l1.length) = false := by first | simpa using c3 | (simp at c3 ⊢; omega)
  obtain rfl := Option.some.inj H
  go_enter Try.func85, Try.ntmps85
  go_wp2
  repeat (go_quiet (fail); try go_wp2)
  go_ret
  exact ⟨by first | rfl | (simp; done) | (simp [*]; done), by repeat (first | exact Drawn0.refl _ | apply Drawn0.step)⟩
end Go.Proofs.Ytpdbnlmdohcgkaa.PFnExactPartPut
