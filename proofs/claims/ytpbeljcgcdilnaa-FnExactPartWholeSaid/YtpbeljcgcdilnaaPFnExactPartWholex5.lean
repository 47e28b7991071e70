/- Printed by wip/xp/xprint.sh out of the translation, for this claim: what each function answers, as a plain function, and that the machine does just that. No condition. -/
import Derived.Test.YtpbeljcgcdilnaaPFnExactPartWholex0
import Derived.Test.YtpbeljcgcdilnaaPFnExactPartWholex2
import Derived.Test.YtpbeljcgcdilnaaPFnExactPartWholex3
import Derived.Test.YtpbeljcgcdilnaaPFnExactPartWholex4
namespace Go.Proofs.Ytpbeljcgcdilnaa.PFnExactPartWhole
open Go.RowKit Go.Proofs.YtpbeljcgcdilnaaW.PrintWords Go.Proofs.YtpbeljcgcdilnaaW.PrintLast Go.Proofs.YtpbeljcgcdilnaaW.PrintMore
attribute [local go_sem] max2_int min2_int max_two min_two max_three min_three max_four min_four   -- for this text's walks alone
set_option linter.unusedVariables false
set_option linter.unusedSimpArgs false
def laws_eqPacketS.l0 : Nat → List (S28) → List (S28) → Int → Option (Bool)
 | 0, _, _, _ => none
 | k + 1, x0, x1, x5 => if x5 < (x0.length : Int) then (if 0 ≤ x5 then (if x5 < (x1.length : Int) then ((laws_eqPacket.f k ((rd_T28 x0 x5).f0) ((rd_T28 x0 x5).f1) ((rd_T28 x0 x5).f2) ((rd_T28 x0 x5).f3) ((rd_T28 x0 x5).f4) ((rd_T28 x0 x5).f5) ((rd_T28 x0 x5).f6) ((rd_T28 x0 x5).f7) ((rd_T28 x0 x5).f8) ((rd_T28 x1 x5).f0) ((rd_T28 x1 x5).f1) ((rd_T28 x1 x5).f2) ((rd_T28 x1 x5).f3) ((rd_T28 x1 x5).f4) ((rd_T28 x1 x5).f5) ((rd_T28 x1 x5).f6) ((rd_T28 x1 x5).f7) ((rd_T28 x1 x5).f8)).bind fun t251 => (if t251 = true then (laws_eqPacketS.l0 k x0 x1 (wrap64 (x5 + 1))) else (some false))) else (none)) else (none)) else (some true)
def laws_eqPacketS.f (k : Nat) (l0 : List (S28)) (l1 : List (S28)) : Option (Bool) := if (l0.length : Int) = (l1.length : Int) then (laws_eqPacketS.l0 k l0 l1 0) else (some false)
theorem laws_eqPacketS.mono_l : ∀ k, (∀ y0 y1 y2, LeO (laws_eqPacketS.l0 k y0 y1 y2) (laws_eqPacketS.l0 (k + 1) y0 y1 y2))
 | 0 => fun _ _ _ r h => by simp [laws_eqPacketS.l0] at h
 | k + 1 => by
  have ih0 := laws_eqPacketS.mono_l k
  ·intro y0 y1 y2
   unfold laws_eqPacketS.l0
   repeat' first | (with_reducible first | apply ih0 | apply laws_eqPacket.mono | exact LeO.refl _ | exact LeO.none _ | refine LeO.ite ?_ ?_ | refine LeO.bind ?_ fun _ => ?_) | apply ih0 | apply laws_eqPacket.mono | exact LeO.none _ | refine LeO.ite ?_ ?_ | refine LeO.bind ?_ fun _ => ?_
theorem laws_eqPacketS.mono : ∀ a0 a1 k, LeO (laws_eqPacketS.f k a0 a1) (laws_eqPacketS.f (k + 1) a0 a1) := by
 intro a0 a1 k
 have ih0 := laws_eqPacketS.mono_l k
 unfold laws_eqPacketS.f
 repeat' first | (with_reducible first | apply ih0 | apply laws_eqPacket.mono | exact LeO.refl _ | exact LeO.none _ | refine LeO.ite ?_ ?_ | refine LeO.bind ?_ fun _ => ?_) | apply ih0 | apply laws_eqPacket.mono | exact LeO.none _ | refine LeO.ite ?_ ?_ | refine LeO.bind ?_ fun _ => ?_
def laws_eqPacketS.T6 : Bool × List (List Nat × List Nat) := (true, [([], []), ([], []), ([0, 1], [0, 1]), ([2], [2]), ([], []), ([], []), ([4, 5], [4, 5]), ([6], [6]), ([3, 7], [3, 7]), ([8], [8])])
def laws_eqPacketS.B6 : List Nat := [0, 0, 3, 7, 0, 0, 48, 112, 255, 511]
theorem laws_eqPacketS.tab6 : rtab .any (opsOf Try.f55 6) = laws_eqPacketS.T6 := by kernel_rfl
theorem laws_eqPacketS.bits6 : waitsOk laws_eqPacketS.T6.2 laws_eqPacketS.B6 = true := by kernel_rfl
set_option maxHeartbeats 8000000 in
set_option maxRecDepth 100000 in
theorem laws_eqPacketS.calls (k : Nat) (A0 : Option Addr) (c0 : Nat) (l0 : List (S28)) (A1 : Option Addr) (c1 : Nat) (l1 : List (S28)) (r : Bool) (w : World) (hr0 : Kd.C k28 w A0 l0.length l0) (hc0 : l0.length ≤ c0) (hr1 : Kd.C k28 w A1 l1.length l1) (hc1 : l1.length ≤ c1) (h : laws_eqPacketS.f k l0 l1 = some r) :
  Calls Try.prog 55 #[.slice A0 l0.length c0, .slice A1 l1.length c1] w fun e w' => e = .returned (.bool r) ∧ Below w.heap.size w w' := by
 have hu28 := Try.underlying28; have HR0 := Aside0.mk hr0; have HC0 := Aside0.mk hc0; clear hr0 hc0; have HR1 := Aside0.mk hr1; have HC1 := Aside0.mk hc1; clear hr1 hc1
 have HB := Aside0.mk (Below.refl w.heap.size w)
 have H : (if (l0.length : Int) = (l1.length : Int) then (laws_eqPacketS.l0 k l0 l1 0) else (some false)) = some r := h
 clear h
 by_cases c3 : (l0.length : Int) = (l1.length : Int)
 ·rw [if_pos c3] at H
  have c3b0 : ((l0.length : Int) == (l1.length : Int)) = true := beq_iff_eq.mpr c3
  have c3b1 : ((l0.length : Int) != (l1.length : Int)) = false := bne_eq_false_iff_eq.mpr c3
  have c3b2 : (l0.length == l1.length) = true := by first | simpa using c3 | (simp at c3 ⊢; omega)
  clear c3
  have H' := Aside0.mk H
  clear H
  go_enter Try.func55, Try.ntmps55
  go_wp2
  go_loopg [5] k (fun kq v5 w' => ∃ (x5_1 : Int), v5 = .int .i64 x5_1 ∧ Aside0 (laws_eqPacketS.l0 kq l0 l1 x5_1 = some r) ∧ Aside0 (kq ≤ k) ∧ Aside0 (Below w.heap.size w w'))
  case atStart => exact ⟨(0), (by first | rfl | (simp; done) | (simp [*]; done)), H', ⟨Nat.le_refl _⟩, ⟨hbA_ HB.out⟩⟩
  case round =>
   clear H'; (try clear c1); (try clear p2); (try clear c3); (try clear c3b0); (try clear c3b1); (try clear c3b2)
   obtain ⟨x5_1, rfl, HA, HK1, HB⟩ := hrel
   cases gk with
   | zero => exact absurd HA.out (by simp [laws_eqPacketS.l0])
   | succ k1 =>
    have H := HA.out; clear HA
    simp only [laws_eqPacketS.l0] at H
    by_cases c4 : x5_1 < (l0.length : Int)
    ·rw [if_pos c4] at H
     have c4b0 : decide (x5_1 < (l0.length : Int)) = true := decide_eq_true c4
     clear c4
     by_cases c5 : 0 ≤ x5_1
     ·rw [if_pos c5] at H
      have c5b0 : decide (0 ≤ x5_1) = true := decide_eq_true c5
      clear c5
      by_cases c6 : x5_1 < (l1.length : Int)
      ·rw [if_pos c6] at H
       have c6b0 : decide (x5_1 < (l1.length : Int)) = true := decide_eq_true c6
       clear c6
       replace H := Option.bind_eq_some_iff.mp H
       obtain ⟨t251, A70, H⟩ := H
       (try dsimp only at H)
       have A7 := Aside0.mk A70; clear A70
       by_cases c8 : t251 = true
       ·subst c8
        rw [if_pos rfl] at H
        have H' := Aside0.mk H
        clear H
        try go_wp2
        replace HB := (bd_ HB)
        have p249 : 0 ≤ (x5_1 : Int) := of_decide_eq_true (by first | (with_reducible assumption) | assumption)
        have q249 : x5_1 < (l0.length : Int) := of_decide_eq_true (by first | (with_reducible assumption) | assumption)
        obtain ⟨ad249, A249_8, c249_8, e249, hx249_0, hx249_1, hx249_2, hx249_3, hx249_4, hx249_5, hx249_6, hx249_7, hx249_8, hl249_8, hi249_8⟩ := at_T28 HR0.out x5_1 p249 q249
        have hw249_8 := hx249_8; have hw249_7 := hx249_7; have hw249_6 := hx249_6; have hw249_5 := hx249_5; have hw249_4 := hx249_4; have hw249_3 := hx249_3; have hw249_2 := hx249_2; have hw249_1 := hx249_1; have hw249_0 := hx249_0
        cases e249
        replace hx249_0 := cc_ HB hx249_0
        replace hx249_1 := cc_ HB hx249_1
        replace hx249_2 := cc_ HB hx249_2
        replace hx249_3 := cc_ HB hx249_3
        replace hx249_4 := cc_ HB hx249_4
        replace hx249_5 := cc_ HB hx249_5
        replace hx249_6 := cc_ HB hx249_6
        replace hx249_7 := cc_ HB hx249_7
        replace hx249_8 := cc_ HB hx249_8
        have HR249_8 := Aside0.mk hi249_8; have HC249_8 := Aside0.mk hl249_8; clear hi249_8 hl249_8
        replace p249 := eq_true p249
        replace q249 := eq_true q249
        have p250 : 0 ≤ (x5_1 : Int) := of_decide_eq_true (by first | (with_reducible assumption) | assumption)
        have q250 : x5_1 < (l1.length : Int) := of_decide_eq_true (by first | (with_reducible assumption) | assumption)
        obtain ⟨ad250, A250_8, c250_8, e250, hx250_0, hx250_1, hx250_2, hx250_3, hx250_4, hx250_5, hx250_6, hx250_7, hx250_8, hl250_8, hi250_8⟩ := at_T28 HR1.out x5_1 p250 q250
        have hw250_8 := hx250_8; have hw250_7 := hx250_7; have hw250_6 := hx250_6; have hw250_5 := hx250_5; have hw250_4 := hx250_4; have hw250_3 := hx250_3; have hw250_2 := hx250_2; have hw250_1 := hx250_1; have hw250_0 := hx250_0
        cases e250
        replace hx250_0 := cc_ HB hx250_0
        replace hx250_1 := cc_ HB hx250_1
        replace hx250_2 := cc_ HB hx250_2
        replace hx250_3 := cc_ HB hx250_3
        replace hx250_4 := cc_ HB hx250_4
        replace hx250_5 := cc_ HB hx250_5
        replace hx250_6 := cc_ HB hx250_6
        replace hx250_7 := cc_ HB hx250_7
        replace hx250_8 := cc_ HB hx250_8
        have HR250_8 := Aside0.mk hi250_8; have HC250_8 := Aside0.mk hl250_8; clear hi250_8 hl250_8
        replace p250 := eq_true p250
        replace q250 := eq_true q250
        refine start_ (n := 10) (S := fun w' => w'.cell? (ad249.add ((x5_1).toNat * 9)) = some (.int .i64 ((rd_T28 l0 x5_1).f0)) ∧ w'.cell? ⟨(ad249.add ((x5_1).toNat * 9)).block, (ad249.add ((x5_1).toNat * 9)).off + 1, none⟩ = some (.int .i64 ((rd_T28 l0 x5_1).f1)) ∧ w'.cell? ⟨(ad249.add ((x5_1).toNat * 9)).block, (ad249.add ((x5_1).toNat * 9)).off + 2, none⟩ = some (.int .i64 ((rd_T28 l0 x5_1).f2)) ∧ w'.cell? ⟨(ad249.add ((x5_1).toNat * 9)).block, (ad249.add ((x5_1).toNat * 9)).off + 3, none⟩ = some (.int .i64 ((rd_T28 l0 x5_1).f3)) ∧ w'.cell? ⟨(ad249.add ((x5_1).toNat * 9)).block, (ad249.add ((x5_1).toNat * 9)).off + 4, none⟩ = some (.int .i64 ((rd_T28 l0 x5_1).f4)) ∧ w'.cell? ⟨(ad249.add ((x5_1).toNat * 9)).block, (ad249.add ((x5_1).toNat * 9)).off + 5, none⟩ = some (.int .i64 ((rd_T28 l0 x5_1).f5)) ∧ w'.cell? ⟨(ad249.add ((x5_1).toNat * 9)).block, (ad249.add ((x5_1).toNat * 9)).off + 6, none⟩ = some (.bool ((rd_T28 l0 x5_1).f6)) ∧ w'.cell? ⟨(ad249.add ((x5_1).toNat * 9)).block, (ad249.add ((x5_1).toNat * 9)).off + 7, none⟩ = some (.bool ((rd_T28 l0 x5_1).f7)) ∧ w'.cell? ⟨(ad249.add ((x5_1).toNat * 9)).block, (ad249.add ((x5_1).toNat * 9)).off + 8, none⟩ = some (.slice A249_8 ((rd_T28 l0 x5_1).f8).length c249_8) ∧ w'.cell? (ad250.add ((x5_1).toNat * 9)) = some (.int .i64 ((rd_T28 l1 x5_1).f0)) ∧ w'.cell? ⟨(ad250.add ((x5_1).toNat * 9)).block, (ad250.add ((x5_1).toNat * 9)).off + 1, none⟩ = some (.int .i64 ((rd_T28 l1 x5_1).f1)) ∧ w'.cell? ⟨(ad250.add ((x5_1).toNat * 9)).block, (ad250.add ((x5_1).toNat * 9)).off + 2, none⟩ = some (.int .i64 ((rd_T28 l1 x5_1).f2)) ∧ w'.cell? ⟨(ad250.add ((x5_1).toNat * 9)).block, (ad250.add ((x5_1).toNat * 9)).off + 3, none⟩ = some (.int .i64 ((rd_T28 l1 x5_1).f3)) ∧ w'.cell? ⟨(ad250.add ((x5_1).toNat * 9)).block, (ad250.add ((x5_1).toNat * 9)).off + 4, none⟩ = some (.int .i64 ((rd_T28 l1 x5_1).f4)) ∧ w'.cell? ⟨(ad250.add ((x5_1).toNat * 9)).block, (ad250.add ((x5_1).toNat * 9)).off + 5, none⟩ = some (.int .i64 ((rd_T28 l1 x5_1).f5)) ∧ w'.cell? ⟨(ad250.add ((x5_1).toNat * 9)).block, (ad250.add ((x5_1).toNat * 9)).off + 6, none⟩ = some (.bool ((rd_T28 l1 x5_1).f6)) ∧ w'.cell? ⟨(ad250.add ((x5_1).toNat * 9)).block, (ad250.add ((x5_1).toNat * 9)).off + 7, none⟩ = some (.bool ((rd_T28 l1 x5_1).f7)) ∧ w'.cell? ⟨(ad250.add ((x5_1).toNat * 9)).block, (ad250.add ((x5_1).toNat * 9)).off + 8, none⟩ = some (.slice A250_8 ((rd_T28 l1 x5_1).f8).length c250_8)) (ds := []) #[false, false, false, false, false, false, false, false, false, false] (by kernel_rfl) rfl rfl ⟨(cc_ HB hw249_0), (cc_ HB hw249_1), (cc_ HB hw249_2), (cc_ HB hw249_3), (cc_ HB hw249_4), (cc_ HB hw249_5), (cc_ HB hw249_6), (cc_ HB hw249_7), (cc_ HB hw249_8), (cc_ HB hw250_0), (cc_ HB hw250_1), (cc_ HB hw250_2), (cc_ HB hw250_3), (cc_ HB hw250_4), (cc_ HB hw250_5), (cc_ HB hw250_6), (cc_ HB hw250_7), (cc_ HB hw250_8)⟩ (fun hHeld => ?_); refine with_tabW laws_eqPacketS.tab6 laws_eqPacketS.bits6 (fun HT_ HW_ => ?_)
        generalize wr.drew = w9 at HB HR249_8 HR250_8 hx249_0 hx249_1 hx249_2 hx249_3 hx249_4 hx249_5 hx249_6 hx249_7 hx249_8 hx250_0 hx250_1 hx250_2 hx250_3 hx250_4 hx250_5 hx250_6 hx250_7 hx250_8 hHeld ⊢
        refine pu_ (i := 0) (N := some 17) HT_ ?_; refine pu_ (i := 1) (N := some 18) HT_ ?_; refine pu_ (i := 2) (N := some 19) HT_ ?_; refine pu_ (i := 4) (N := some 21) HT_ ?_; refine pu_ (i := 5) (N := some 22) HT_ ?_; refine pu_ (i := 6) (N := some 23) HT_ ?_; refine tk_ (i := 3) (N := some 20) HT_ HW_ hHeld ?_; refine tk_ (i := 7) (N := some 24) HT_ HW_ hHeld ?_
        refine on_ (i := 8) (N := some 25) HT_ (fun K hK => ?_)
        refine goes_ Try.func20 (by kernel_rfl) rfl #[.agg #[.int .i64 ((rd_T28 l0 x5_1).f0), .int .i64 ((rd_T28 l0 x5_1).f1), .int .i64 ((rd_T28 l0 x5_1).f2), .int .i64 ((rd_T28 l0 x5_1).f3), .int .i64 ((rd_T28 l0 x5_1).f4), .int .i64 ((rd_T28 l0 x5_1).f5), .bool ((rd_T28 l0 x5_1).f6), .bool ((rd_T28 l0 x5_1).f7), .slice A249_8 ((rd_T28 l0 x5_1).f8).length c249_8], .agg #[.int .i64 ((rd_T28 l1 x5_1).f0), .int .i64 ((rd_T28 l1 x5_1).f1), .int .i64 ((rd_T28 l1 x5_1).f2), .int .i64 ((rd_T28 l1 x5_1).f3), .int .i64 ((rd_T28 l1 x5_1).f4), .int .i64 ((rd_T28 l1 x5_1).f5), .bool ((rd_T28 l1 x5_1).f6), .bool ((rd_T28 l1 x5_1).f7), .slice A250_8 ((rd_T28 l1 x5_1).f8).length c250_8]] (by rfl) rfl rfl ar_ ?_
        with_reducible refine (laws_eqPacket.calls k1 ((rd_T28 l0 x5_1).f0) ((rd_T28 l0 x5_1).f1) ((rd_T28 l0 x5_1).f2) ((rd_T28 l0 x5_1).f3) ((rd_T28 l0 x5_1).f4) ((rd_T28 l0 x5_1).f5) ((rd_T28 l0 x5_1).f6) ((rd_T28 l0 x5_1).f7) _ _ ((rd_T28 l0 x5_1).f8) ((rd_T28 l1 x5_1).f0) ((rd_T28 l1 x5_1).f1) ((rd_T28 l1 x5_1).f2) ((rd_T28 l1 x5_1).f3) ((rd_T28 l1 x5_1).f4) ((rd_T28 l1 x5_1).f5) ((rd_T28 l1 x5_1).f6) ((rd_T28 l1 x5_1).f7) _ _ ((rd_T28 l1 x5_1).f8) true _ ?side1 ?side2 ?side3 ?side4 A7.out).mono ?_
        (case side1 => exact kC_ (Kd.C_below HR249_8.out HB.out))
        (case side2 => exact HC249_8.out)
        (case side3 => exact kC_ (Kd.C_below HR250_8.out HB.out))
        (case side4 => exact HC250_8.out)
        rintro e w10 ⟨rfl, hb⟩
        refine ⟨_, rfl, ?_⟩
        replace HB := (bs_ HB hb); (try clear hb); (try clear hb2); (try clear hk); (try clear hi)
        refine hK.out _ _ ⟨(cc_ HB hw249_0), (cc_ HB hw249_1), (cc_ HB hw249_2), (cc_ HB hw249_3), (cc_ HB hw249_4), (cc_ HB hw249_5), (cc_ HB hw249_6), (cc_ HB hw249_7), (cc_ HB hw249_8), (cc_ HB hw250_0), (cc_ HB hw250_1), (cc_ HB hw250_2), (cc_ HB hw250_3), (cc_ HB hw250_4), (cc_ HB hw250_5), (cc_ HB hw250_6), (cc_ HB hw250_7), (cc_ HB hw250_8)⟩ (fun hHeld => ?_)
        clear hK K; refine nm_ 25 ?_; refine pu_ (i := 9) (N := some 26) HT_ ?_
        refine done_ (done_of HT_.out (by kernel_rfl)) ?_
        try go_wp2
        go_roundg k1
        case measure => have := HK1.out; omega
        case rel => exact ⟨(wrap64 (x5_1 + 1)), (by first | rfl | (simp; done) | (simp [*]; done)), H', ⟨by have := HK1.out; omega⟩, ⟨hbA_ HB.out⟩⟩
       ·replace c8 := Bool.eq_false_iff.mpr c8
        subst c8
        rw [if_neg (show ¬ (false = true) by decide)] at H
        obtain rfl := Option.some.inj H
        try go_wp2
        replace HB := (bd_ HB)
        have p249 : 0 ≤ (x5_1 : Int) := of_decide_eq_true (by first | (with_reducible assumption) | assumption)
        have q249 : x5_1 < (l0.length : Int) := of_decide_eq_true (by first | (with_reducible assumption) | assumption)
        obtain ⟨ad249, A249_8, c249_8, e249, hx249_0, hx249_1, hx249_2, hx249_3, hx249_4, hx249_5, hx249_6, hx249_7, hx249_8, hl249_8, hi249_8⟩ := at_T28 HR0.out x5_1 p249 q249
        have hw249_8 := hx249_8; have hw249_7 := hx249_7; have hw249_6 := hx249_6; have hw249_5 := hx249_5; have hw249_4 := hx249_4; have hw249_3 := hx249_3; have hw249_2 := hx249_2; have hw249_1 := hx249_1; have hw249_0 := hx249_0
        cases e249
        replace hx249_0 := cc_ HB hx249_0
        replace hx249_1 := cc_ HB hx249_1
        replace hx249_2 := cc_ HB hx249_2
        replace hx249_3 := cc_ HB hx249_3
        replace hx249_4 := cc_ HB hx249_4
        replace hx249_5 := cc_ HB hx249_5
        replace hx249_6 := cc_ HB hx249_6
        replace hx249_7 := cc_ HB hx249_7
        replace hx249_8 := cc_ HB hx249_8
        have HR249_8 := Aside0.mk hi249_8; have HC249_8 := Aside0.mk hl249_8; clear hi249_8 hl249_8
        replace p249 := eq_true p249
        replace q249 := eq_true q249
        have p250 : 0 ≤ (x5_1 : Int) := of_decide_eq_true (by first | (with_reducible assumption) | assumption)
        have q250 : x5_1 < (l1.length : Int) := of_decide_eq_true (by first | (with_reducible assumption) | assumption)
        obtain ⟨ad250, A250_8, c250_8, e250, hx250_0, hx250_1, hx250_2, hx250_3, hx250_4, hx250_5, hx250_6, hx250_7, hx250_8, hl250_8, hi250_8⟩ := at_T28 HR1.out x5_1 p250 q250
        have hw250_8 := hx250_8; have hw250_7 := hx250_7; have hw250_6 := hx250_6; have hw250_5 := hx250_5; have hw250_4 := hx250_4; have hw250_3 := hx250_3; have hw250_2 := hx250_2; have hw250_1 := hx250_1; have hw250_0 := hx250_0
        cases e250
        replace hx250_0 := cc_ HB hx250_0
        replace hx250_1 := cc_ HB hx250_1
        replace hx250_2 := cc_ HB hx250_2
        replace hx250_3 := cc_ HB hx250_3
        replace hx250_4 := cc_ HB hx250_4
        replace hx250_5 := cc_ HB hx250_5
        replace hx250_6 := cc_ HB hx250_6
        replace hx250_7 := cc_ HB hx250_7
        replace hx250_8 := cc_ HB hx250_8
        have HR250_8 := Aside0.mk hi250_8; have HC250_8 := Aside0.mk hl250_8; clear hi250_8 hl250_8
        replace p250 := eq_true p250
        replace q250 := eq_true q250
        refine start_ (n := 10) (S := fun w' => w'.cell? (ad249.add ((x5_1).toNat * 9)) = some (.int .i64 ((rd_T28 l0 x5_1).f0)) ∧ w'.cell? ⟨(ad249.add ((x5_1).toNat * 9)).block, (ad249.add ((x5_1).toNat * 9)).off + 1, none⟩ = some (.int .i64 ((rd_T28 l0 x5_1).f1)) ∧ w'.cell? ⟨(ad249.add ((x5_1).toNat * 9)).block, (ad249.add ((x5_1).toNat * 9)).off + 2, none⟩ = some (.int .i64 ((rd_T28 l0 x5_1).f2)) ∧ w'.cell? ⟨(ad249.add ((x5_1).toNat * 9)).block, (ad249.add ((x5_1).toNat * 9)).off + 3, none⟩ = some (.int .i64 ((rd_T28 l0 x5_1).f3)) ∧ w'.cell? ⟨(ad249.add ((x5_1).toNat * 9)).block, (ad249.add ((x5_1).toNat * 9)).off + 4, none⟩ = some (.int .i64 ((rd_T28 l0 x5_1).f4)) ∧ w'.cell? ⟨(ad249.add ((x5_1).toNat * 9)).block, (ad249.add ((x5_1).toNat * 9)).off + 5, none⟩ = some (.int .i64 ((rd_T28 l0 x5_1).f5)) ∧ w'.cell? ⟨(ad249.add ((x5_1).toNat * 9)).block, (ad249.add ((x5_1).toNat * 9)).off + 6, none⟩ = some (.bool ((rd_T28 l0 x5_1).f6)) ∧ w'.cell? ⟨(ad249.add ((x5_1).toNat * 9)).block, (ad249.add ((x5_1).toNat * 9)).off + 7, none⟩ = some (.bool ((rd_T28 l0 x5_1).f7)) ∧ w'.cell? ⟨(ad249.add ((x5_1).toNat * 9)).block, (ad249.add ((x5_1).toNat * 9)).off + 8, none⟩ = some (.slice A249_8 ((rd_T28 l0 x5_1).f8).length c249_8) ∧ w'.cell? (ad250.add ((x5_1).toNat * 9)) = some (.int .i64 ((rd_T28 l1 x5_1).f0)) ∧ w'.cell? ⟨(ad250.add ((x5_1).toNat * 9)).block, (ad250.add ((x5_1).toNat * 9)).off + 1, none⟩ = some (.int .i64 ((rd_T28 l1 x5_1).f1)) ∧ w'.cell? ⟨(ad250.add ((x5_1).toNat * 9)).block, (ad250.add ((x5_1).toNat * 9)).off + 2, none⟩ = some (.int .i64 ((rd_T28 l1 x5_1).f2)) ∧ w'.cell? ⟨(ad250.add ((x5_1).toNat * 9)).block, (ad250.add ((x5_1).toNat * 9)).off + 3, none⟩ = some (.int .i64 ((rd_T28 l1 x5_1).f3)) ∧ w'.cell? ⟨(ad250.add ((x5_1).toNat * 9)).block, (ad250.add ((x5_1).toNat * 9)).off + 4, none⟩ = some (.int .i64 ((rd_T28 l1 x5_1).f4)) ∧ w'.cell? ⟨(ad250.add ((x5_1).toNat * 9)).block, (ad250.add ((x5_1).toNat * 9)).off + 5, none⟩ = some (.int .i64 ((rd_T28 l1 x5_1).f5)) ∧ w'.cell? ⟨(ad250.add ((x5_1).toNat * 9)).block, (ad250.add ((x5_1).toNat * 9)).off + 6, none⟩ = some (.bool ((rd_T28 l1 x5_1).f6)) ∧ w'.cell? ⟨(ad250.add ((x5_1).toNat * 9)).block, (ad250.add ((x5_1).toNat * 9)).off + 7, none⟩ = some (.bool ((rd_T28 l1 x5_1).f7)) ∧ w'.cell? ⟨(ad250.add ((x5_1).toNat * 9)).block, (ad250.add ((x5_1).toNat * 9)).off + 8, none⟩ = some (.slice A250_8 ((rd_T28 l1 x5_1).f8).length c250_8)) (ds := []) #[false, false, false, false, false, false, false, false, false, false] (by kernel_rfl) rfl rfl ⟨(cc_ HB hw249_0), (cc_ HB hw249_1), (cc_ HB hw249_2), (cc_ HB hw249_3), (cc_ HB hw249_4), (cc_ HB hw249_5), (cc_ HB hw249_6), (cc_ HB hw249_7), (cc_ HB hw249_8), (cc_ HB hw250_0), (cc_ HB hw250_1), (cc_ HB hw250_2), (cc_ HB hw250_3), (cc_ HB hw250_4), (cc_ HB hw250_5), (cc_ HB hw250_6), (cc_ HB hw250_7), (cc_ HB hw250_8)⟩ (fun hHeld => ?_); refine with_tabW laws_eqPacketS.tab6 laws_eqPacketS.bits6 (fun HT_ HW_ => ?_)
        generalize wr.drew = w11 at HB HR249_8 HR250_8 hx249_0 hx249_1 hx249_2 hx249_3 hx249_4 hx249_5 hx249_6 hx249_7 hx249_8 hx250_0 hx250_1 hx250_2 hx250_3 hx250_4 hx250_5 hx250_6 hx250_7 hx250_8 hHeld ⊢
        refine pu_ (i := 0) (N := some 17) HT_ ?_; refine pu_ (i := 1) (N := some 18) HT_ ?_; refine pu_ (i := 2) (N := some 19) HT_ ?_; refine pu_ (i := 4) (N := some 21) HT_ ?_; refine pu_ (i := 5) (N := some 22) HT_ ?_; refine pu_ (i := 6) (N := some 23) HT_ ?_; refine tk_ (i := 3) (N := some 20) HT_ HW_ hHeld ?_; refine tk_ (i := 7) (N := some 24) HT_ HW_ hHeld ?_
        refine on_ (i := 8) (N := some 25) HT_ (fun K hK => ?_)
        refine goes_ Try.func20 (by kernel_rfl) rfl #[.agg #[.int .i64 ((rd_T28 l0 x5_1).f0), .int .i64 ((rd_T28 l0 x5_1).f1), .int .i64 ((rd_T28 l0 x5_1).f2), .int .i64 ((rd_T28 l0 x5_1).f3), .int .i64 ((rd_T28 l0 x5_1).f4), .int .i64 ((rd_T28 l0 x5_1).f5), .bool ((rd_T28 l0 x5_1).f6), .bool ((rd_T28 l0 x5_1).f7), .slice A249_8 ((rd_T28 l0 x5_1).f8).length c249_8], .agg #[.int .i64 ((rd_T28 l1 x5_1).f0), .int .i64 ((rd_T28 l1 x5_1).f1), .int .i64 ((rd_T28 l1 x5_1).f2), .int .i64 ((rd_T28 l1 x5_1).f3), .int .i64 ((rd_T28 l1 x5_1).f4), .int .i64 ((rd_T28 l1 x5_1).f5), .bool ((rd_T28 l1 x5_1).f6), .bool ((rd_T28 l1 x5_1).f7), .slice A250_8 ((rd_T28 l1 x5_1).f8).length c250_8]] (by rfl) rfl rfl ar_ ?_
        with_reducible refine (laws_eqPacket.calls k1 ((rd_T28 l0 x5_1).f0) ((rd_T28 l0 x5_1).f1) ((rd_T28 l0 x5_1).f2) ((rd_T28 l0 x5_1).f3) ((rd_T28 l0 x5_1).f4) ((rd_T28 l0 x5_1).f5) ((rd_T28 l0 x5_1).f6) ((rd_T28 l0 x5_1).f7) _ _ ((rd_T28 l0 x5_1).f8) ((rd_T28 l1 x5_1).f0) ((rd_T28 l1 x5_1).f1) ((rd_T28 l1 x5_1).f2) ((rd_T28 l1 x5_1).f3) ((rd_T28 l1 x5_1).f4) ((rd_T28 l1 x5_1).f5) ((rd_T28 l1 x5_1).f6) ((rd_T28 l1 x5_1).f7) _ _ ((rd_T28 l1 x5_1).f8) false _ ?side1 ?side2 ?side3 ?side4 A7.out).mono ?_
        (case side1 => exact kC_ (Kd.C_below HR249_8.out HB.out))
        (case side2 => exact HC249_8.out)
        (case side3 => exact kC_ (Kd.C_below HR250_8.out HB.out))
        (case side4 => exact HC250_8.out)
        rintro e w12 ⟨rfl, hb⟩
        refine ⟨_, rfl, ?_⟩
        replace HB := (bs_ HB hb); (try clear hb); (try clear hb2); (try clear hk); (try clear hi)
        refine hK.out _ _ ⟨(cc_ HB hw249_0), (cc_ HB hw249_1), (cc_ HB hw249_2), (cc_ HB hw249_3), (cc_ HB hw249_4), (cc_ HB hw249_5), (cc_ HB hw249_6), (cc_ HB hw249_7), (cc_ HB hw249_8), (cc_ HB hw250_0), (cc_ HB hw250_1), (cc_ HB hw250_2), (cc_ HB hw250_3), (cc_ HB hw250_4), (cc_ HB hw250_5), (cc_ HB hw250_6), (cc_ HB hw250_7), (cc_ HB hw250_8)⟩ (fun hHeld => ?_)
        clear hK K; refine nm_ 25 ?_; refine pu_ (i := 9) (N := some 26) HT_ ?_
        refine done_ (done_of HT_.out (by kernel_rfl)) ?_
        try go_wp2
        go_ret
        exact ⟨by first | rfl | (simp [errW_none, errW_some] <;> rfl) | (simp [*, errW_none, errW_some] <;> rfl), hbA_ HB.out⟩
      ·rw [if_neg c6] at H
       exact absurd H (by simp)
     ·rw [if_neg c5] at H
      exact absurd H (by simp)
    ·rw [if_neg c4] at H
     have c4b0 : decide (x5_1 < (l0.length : Int)) = false := decide_eq_false c4
     clear c4
     obtain rfl := Option.some.inj H
     go_wp2
     go_ret
     exact ⟨by first | rfl | (simp [errW_none, errW_some] <;> rfl) | (simp [*, errW_none, errW_some] <;> rfl), hbA_ HB.out⟩
 ·rw [if_neg c3] at H
  have c3b0 : ((l0.length : Int) == (l1.length : Int)) = false := beq_eq_false_iff_ne.mpr c3
  have c3b1 : ((l0.length : Int) != (l1.length : Int)) = true := bne_iff_ne.mpr c3
  have c3b2 : (l0.length == l1.length) = false := by first | simpa using c3 | (simp at c3 ⊢; omega)
  obtain rfl := Option.some.inj H
  go_enter Try.func55, Try.ntmps55
  go_wp2
  go_ret
  exact ⟨by first | rfl | (simp [errW_none, errW_some] <;> rfl) | (simp [*, errW_none, errW_some] <;> rfl), hbA_ HB.out⟩
def laws_eqPart.f (k : Nat) (l0_0 : List (S28)) (a0_1 : Int) (l1_0 : List (S28)) (a1_1 : Int) : Option (Bool) := (laws_eqPacketS.f k l0_0 l1_0).bind fun t254 => (if t254 = true then (if a0_1 = a1_1 then (some true) else (some false)) else (some false))
theorem laws_eqPart.mono : ∀ a0 a1 a2 a3 k, LeO (laws_eqPart.f k a0 a1 a2 a3) (laws_eqPart.f (k + 1) a0 a1 a2 a3) := by
 intro a0 a1 a2 a3 k
 unfold laws_eqPart.f
 repeat' first | (with_reducible first | apply laws_eqPacketS.mono | exact LeO.refl _ | exact LeO.none _ | refine LeO.ite ?_ ?_ | refine LeO.bind ?_ fun _ => ?_) | apply laws_eqPacketS.mono | exact LeO.none _ | refine LeO.ite ?_ ?_ | refine LeO.bind ?_ fun _ => ?_
set_option maxHeartbeats 8000000 in
set_option maxRecDepth 100000 in
theorem laws_eqPart.calls (k : Nat) (A0_0 : Option Addr) (c0_0 : Nat) (l0_0 : List (S28)) (a0_1 : Int) (A1_0 : Option Addr) (c1_0 : Nat) (l1_0 : List (S28)) (a1_1 : Int) (r : Bool) (w : World) (hr0_0 : Kd.C k28 w A0_0 l0_0.length l0_0) (hc0_0 : l0_0.length ≤ c0_0) (hr1_0 : Kd.C k28 w A1_0 l1_0.length l1_0) (hc1_0 : l1_0.length ≤ c1_0) (h : laws_eqPart.f k l0_0 a0_1 l1_0 a1_1 = some r) :
  Calls Try.prog 21 #[.agg #[.slice A0_0 l0_0.length c0_0, .int .i64 a0_1], .agg #[.slice A1_0 l1_0.length c1_0, .int .i64 a1_1]] w fun e w' => e = .returned (.bool r) ∧ Below w.heap.size w w' := by
 have hu25 := Try.underlying25; have HR0_0 := Aside0.mk hr0_0; have HC0_0 := Aside0.mk hc0_0; clear hr0_0 hc0_0; have HR1_0 := Aside0.mk hr1_0; have HC1_0 := Aside0.mk hc1_0; clear hr1_0 hc1_0
 have HB := Aside0.mk (Below.refl w.heap.size w)
 have H : ((laws_eqPacketS.f k l0_0 l1_0).bind fun t254 => (if t254 = true then (if a0_1 = a1_1 then (some true) else (some false)) else (some false))) = some r := h
 clear h
 replace H := Option.bind_eq_some_iff.mp H
 obtain ⟨t254, A30, H⟩ := H
 (try dsimp only at H)
 have A3 := Aside0.mk A30; clear A30
 by_cases c4 : t254 = true
 ·subst c4
  rw [if_pos rfl] at H
  by_cases c5 : a0_1 = a1_1
  ·rw [if_pos c5] at H
   have c5b0 : (a0_1 == a1_1) = true := beq_iff_eq.mpr c5
   have c5b1 : (a0_1 != a1_1) = false := bne_eq_false_iff_eq.mpr c5
   clear c5
   obtain rfl := Option.some.inj H
   go_enter Try.func21, Try.ntmps21
   go_wp2_with (first | ((with_reducible refine gate_dst (N := 2) rfl ?_); refine box_ (N := 2) (cs := #[.slice A0_0 l0_0.length c0_0, .int .i64 a0_1]) (t := 25) (fun gb252 hg w6 hbox hb => ?_); have BK252 := Aside0.mk (hbox); have GW252 := ge_ hg HB; have GE252 := ge_ hg HB; replace HB := (bs_ HB hb); clear hb hbox hg) | ((with_reducible refine gate_dst (N := 3) rfl ?_); refine box_ (N := 3) (cs := #[.slice A1_0 l1_0.length c1_0, .int .i64 a1_1]) (t := 25) (fun gb253 hg w7 hbox hb => ?_); have BK253 := Aside0.mk (hbox); have GW253 := ge_ hg HB; have GE253 := ge_ hg HB; replace HB := (bs_ HB hb); have NB252_253 := nl_ hg BK252; have NB253_252 := ng_ hg BK252; replace BK252 := (bbA_ BK252 hb); clear hb hbox hg; have hnb8 := NB252_253.out; have hnc8 := NB253_252.out; have Z9 := zz2 BK252; have Z10 := zz2 BK253) | ((with_reducible refine gate_callee (f := 55) rfl ?_); refine goesL_ (some 9) rfl rfl Try.func55 (by kernel_rfl) rfl #[.slice A0_0 l0_0.length c0_0, .slice A1_0 l1_0.length c1_0] rfl ar_ ?_; (with_reducible refine (laws_eqPacketS.calls k _ _ l0_0 _ _ l1_0 true _ ?side1 ?side2 ?side3 ?side4 A3.out).mono ?_); (case side1 => exact kC_ (Kd.C_below HR0_0.out HB.out)); (case side2 => exact HC0_0.out); (case side3 => exact kC_ (Kd.C_below HR1_0.out HB.out)); (case side4 => exact HC1_0.out); rintro e w11 ⟨rfl, hb⟩; refine ⟨_, rfl, ?_⟩; replace BK252 := (bbA_ BK252 hb); replace BK253 := (bbA_ BK253 hb); replace HB := (bs_ HB hb); (try clear hb); (try clear hb2); (try clear hk); (try clear hi); have Z12 := zz2 BK252; have Z13 := zz2 BK253))
   go_ret
   exact ⟨by first | rfl | (simp [errW_none, errW_some] <;> rfl) | (simp [*, errW_none, errW_some] <;> rfl), hbA_ HB.out⟩
  ·rw [if_neg c5] at H
   have c5b0 : (a0_1 == a1_1) = false := beq_eq_false_iff_ne.mpr c5
   have c5b1 : (a0_1 != a1_1) = true := bne_iff_ne.mpr c5
   obtain rfl := Option.some.inj H
   go_enter Try.func21, Try.ntmps21
   go_wp2_with (first | ((with_reducible refine gate_dst (N := 2) rfl ?_); refine box_ (N := 2) (cs := #[.slice A0_0 l0_0.length c0_0, .int .i64 a0_1]) (t := 25) (fun gb252 hg w14 hbox hb => ?_); have BK252 := Aside0.mk (hbox); have GW252 := ge_ hg HB; have GE252 := ge_ hg HB; replace HB := (bs_ HB hb); clear hb hbox hg) | ((with_reducible refine gate_dst (N := 3) rfl ?_); refine box_ (N := 3) (cs := #[.slice A1_0 l1_0.length c1_0, .int .i64 a1_1]) (t := 25) (fun gb253 hg w15 hbox hb => ?_); have BK253 := Aside0.mk (hbox); have GW253 := ge_ hg HB; have GE253 := ge_ hg HB; replace HB := (bs_ HB hb); have NB252_253 := nl_ hg BK252; have NB253_252 := ng_ hg BK252; replace BK252 := (bbA_ BK252 hb); clear hb hbox hg; have hnb16 := NB252_253.out; have hnc16 := NB253_252.out; have Z17 := zz2 BK252; have Z18 := zz2 BK253) | ((with_reducible refine gate_callee (f := 55) rfl ?_); refine goesL_ (some 9) rfl rfl Try.func55 (by kernel_rfl) rfl #[.slice A0_0 l0_0.length c0_0, .slice A1_0 l1_0.length c1_0] rfl ar_ ?_; (with_reducible refine (laws_eqPacketS.calls k _ _ l0_0 _ _ l1_0 true _ ?side1 ?side2 ?side3 ?side4 A3.out).mono ?_); (case side1 => exact kC_ (Kd.C_below HR0_0.out HB.out)); (case side2 => exact HC0_0.out); (case side3 => exact kC_ (Kd.C_below HR1_0.out HB.out)); (case side4 => exact HC1_0.out); rintro e w19 ⟨rfl, hb⟩; refine ⟨_, rfl, ?_⟩; replace BK252 := (bbA_ BK252 hb); replace BK253 := (bbA_ BK253 hb); replace HB := (bs_ HB hb); (try clear hb); (try clear hb2); (try clear hk); (try clear hi); have Z20 := zz2 BK252; have Z21 := zz2 BK253))
   go_ret
   exact ⟨by first | rfl | (simp [errW_none, errW_some] <;> rfl) | (simp [*, errW_none, errW_some] <;> rfl), hbA_ HB.out⟩
 ·replace c4 := Bool.eq_false_iff.mpr c4
  subst c4
  rw [if_neg (show ¬ (false = true) by decide)] at H
  obtain rfl := Option.some.inj H
  go_enter Try.func21, Try.ntmps21
  go_wp2_with (first | ((with_reducible refine gate_dst (N := 2) rfl ?_); refine box_ (N := 2) (cs := #[.slice A0_0 l0_0.length c0_0, .int .i64 a0_1]) (t := 25) (fun gb252 hg w22 hbox hb => ?_); have BK252 := Aside0.mk (hbox); have GW252 := ge_ hg HB; have GE252 := ge_ hg HB; replace HB := (bs_ HB hb); clear hb hbox hg) | ((with_reducible refine gate_dst (N := 3) rfl ?_); refine box_ (N := 3) (cs := #[.slice A1_0 l1_0.length c1_0, .int .i64 a1_1]) (t := 25) (fun gb253 hg w23 hbox hb => ?_); have BK253 := Aside0.mk (hbox); have GW253 := ge_ hg HB; have GE253 := ge_ hg HB; replace HB := (bs_ HB hb); have NB252_253 := nl_ hg BK252; have NB253_252 := ng_ hg BK252; replace BK252 := (bbA_ BK252 hb); clear hb hbox hg; have hnb24 := NB252_253.out; have hnc24 := NB253_252.out; have Z25 := zz2 BK252; have Z26 := zz2 BK253) | ((with_reducible refine gate_callee (f := 55) rfl ?_); refine goesL_ (some 9) rfl rfl Try.func55 (by kernel_rfl) rfl #[.slice A0_0 l0_0.length c0_0, .slice A1_0 l1_0.length c1_0] rfl ar_ ?_; (with_reducible refine (laws_eqPacketS.calls k _ _ l0_0 _ _ l1_0 false _ ?side1 ?side2 ?side3 ?side4 A3.out).mono ?_); (case side1 => exact kC_ (Kd.C_below HR0_0.out HB.out)); (case side2 => exact HC0_0.out); (case side3 => exact kC_ (Kd.C_below HR1_0.out HB.out)); (case side4 => exact HC1_0.out); rintro e w27 ⟨rfl, hb⟩; refine ⟨_, rfl, ?_⟩; replace BK252 := (bbA_ BK252 hb); replace BK253 := (bbA_ BK253 hb); replace HB := (bs_ HB hb); (try clear hb); (try clear hb2); (try clear hk); (try clear hi)))
  go_ret
  exact ⟨by first | rfl | (simp [errW_none, errW_some] <;> rfl) | (simp [*, errW_none, errW_some] <;> rfl), hbA_ HB.out⟩
def laws_markByteS.l0 : Nat → List Int → Int → Int → Option (Int × List Int)
 | 0, _, _, _ => none
 | k + 1, x0, x1, x5 => if x5 < (x0.length : Int) then (if 0 ≤ x5 then (laws_markByteS.l0 k (x0.set (x5 : Int).toNat ((x1) % 256)) (wrap64 (x1 + 1)) (wrap64 (x5 + 1))) else (none)) else (some (x1, x0))
def laws_markByteS.f (k : Nat) (l0 : List Int) (a1 : Int) : Option (Int × List Int) := laws_markByteS.l0 k l0 a1 0
theorem laws_markByteS.mono_l : ∀ k, (∀ y0 y1 y2, LeO (laws_markByteS.l0 k y0 y1 y2) (laws_markByteS.l0 (k + 1) y0 y1 y2))
 | 0 => fun _ _ _ r h => by simp [laws_markByteS.l0] at h
 | k + 1 => by
  have ih0 := laws_markByteS.mono_l k
  ·intro y0 y1 y2
   unfold laws_markByteS.l0
   repeat' first | (with_reducible first | apply ih0 | exact LeO.refl _ | exact LeO.none _ | refine LeO.ite ?_ ?_ | refine LeO.bind ?_ fun _ => ?_) | apply ih0 | exact LeO.none _ | refine LeO.ite ?_ ?_ | refine LeO.bind ?_ fun _ => ?_
theorem laws_markByteS.mono : ∀ a0 a1 k, LeO (laws_markByteS.f k a0 a1) (laws_markByteS.f (k + 1) a0 a1) := by
 intro a0 a1 k
 have ih0 := laws_markByteS.mono_l k
 unfold laws_markByteS.f
 repeat' first | (with_reducible first | apply ih0 | exact LeO.refl _ | exact LeO.none _ | refine LeO.ite ?_ ?_ | refine LeO.bind ?_ fun _ => ?_) | apply ih0 | exact LeO.none _ | refine LeO.ite ?_ ?_ | refine LeO.bind ?_ fun _ => ?_
set_option maxHeartbeats 8000000 in
set_option maxRecDepth 100000 in
theorem laws_markByteS.calls (k : Nat) (P0_ : Nat → Prop) (u9000_ : Value) (l0 : List Int) (a1 : Int) (r1 : Int) (r2 : List Int) (w0 w : World) (hB : Below w0.heap.size w0 w) (ho0 : Kd.R (Kd.int .u8) 5 w w0.heap.size P0_ u9000_ l0) (h : laws_markByteS.f k l0 a1 = some (r1, r2)) :
  Calls Try.prog 30 #[u9000_, .int .i64 a1] w fun e w' => e = .returned (.int .i64 r1) ∧ Kd.R (Kd.int .u8) 5 w' w0.heap.size (fun k_ => (P0_ k_ ∨ w.heap.size ≤ k_)) u9000_ r2 ∧ Below w0.heap.size w0 w' ∧ Kept w w' (fun k_ => P0_ k_) := by
 have HO0 := Aside0.mk (show Kd.R (Kd.int .u8) 5 w w0.heap.size (fun k_ => (P0_ k_ ∨ w.heap.size ≤ k_)) u9000_ l0 from Kd.R_mono ho0 (fun k_ hk => (.inl hk)))
 have HK := Aside0.mk (Kept.refl w (fun k_ => P0_ k_))
 have HW0 := Aside0.mk hB.size; have HB := Aside0.mk hB; clear hB
 have H : (laws_markByteS.l0 k l0 a1 0) = some (r1, r2) := h
 clear h
 have H' := Aside0.mk H
 clear H
 go_enter Try.func30, Try.ntmps30
 go_wp2
 go_loopg [1, 5] k (fun kq v1 v5 w' => ∃ (x0_1 : List Int) (x1_1 : Int) (x5_1 : Int), v1 = .int .i64 x1_1 ∧ v5 = .int .i64 x5_1 ∧ Aside0 (laws_markByteS.l0 kq x0_1 x1_1 x5_1 = some (r1, r2)) ∧ Aside0 (kq ≤ k) ∧ Aside0 (Kd.R (Kd.int .u8) 5 w' w0.heap.size (fun k_ => (P0_ k_ ∨ w.heap.size ≤ k_)) u9000_ x0_1) ∧ Aside0 (Kept w w' (fun k_ => P0_ k_)) ∧ Aside0 (Below w0.heap.size w0 w'))
 case atStart => exact ⟨(l0), (a1), (0), (by first | rfl | (simp; done) | (simp [*]; done)), (by first | rfl | (simp; done) | (simp [*]; done)), H', ⟨Nat.le_refl _⟩, ⟨kR_ HO0.out⟩, ⟨by repeat (first | (with_reducible first | exact HK.out | apply Kept.alloc | apply Kept.drewN | apply Kept.drew) | exact HK.out)⟩, ⟨hbA_ HB.out⟩⟩
 case round =>
  clear H'; (try clear p2)
  obtain ⟨x0_1, x1_1, x5_1, rfl, rfl, HA, HK1, HO_0, HK, HB⟩ := hrel
  cases gk with
  | zero => exact absurd HA.out (by simp [laws_markByteS.l0])
  | succ k1 =>
   have H := HA.out; clear HA
   simp only [laws_markByteS.l0] at H
   by_cases c3 : x5_1 < (x0_1.length : Int)
   ·rw [if_pos c3] at H
    have c3b0 : decide (x5_1 < (x0_1.length : Int)) = true := decide_eq_true c3
    clear c3
    by_cases c4 : 0 ≤ x5_1
    ·rw [if_pos c4] at H
     have c4b0 : decide (0 ≤ x5_1) = true := decide_eq_true c4
     clear c4
     obtain ⟨y255, hy255⟩ : ∃ y_ : List Int, y_ = (x0_1.set (x5_1 : Int).toNat ((x1_1) % 256)) := ⟨_, rfl⟩
     (first | replace H := sb_ hy255 H | rw [← hy255] at H)
     have Ny255 := Aside0.mk hy255; clear hy255
     have H' := Aside0.mk H
     clear H
     obtain ⟨Ao6, co6, eo6⟩ := Kd.R_slice HO_0.out
     subst eo6
     have p5 : 0 ≤ (x5_1 : Int) := of_decide_eq_true (by first | (with_reducible assumption) | assumption)
     have q5 : (x5_1 : Int) < ((x0_1.length : Int) : Int) := of_decide_eq_true (by first | (with_reducible assumption) | assumption)
     obtain ⟨go5, co5, eo5, gb5, gl5, cl5, HG5⟩ := Kd.R_form HO_0.out (by omega)
     (first | cases eo5 | (injection eo5 with ea_ en_ ec_; (first | subst ea_ | (injection ea_ with ea_; subst ea_)); subst ec_; clear en_))
     have GB5 := Aside0.mk gb5; have GG5 := Aside0.mk HG5; clear gb5 gl5 HG5
     have HMgo5 := Aside0.mk (show (P0_ go5 ∨ w.heap.size ≤ go5) from (HO_0.out.1 _ rfl))
     obtain ⟨hx5_0, hf5_0⟩ := Kd.R_celln 0 HO_0.out (x5_1 : Int) p5 q5
     replace p5 := eq_true p5
     replace q5 := eq_true q5
     have HP7 := Kd.R_putg HO_0.out (x5_1 : Int) ((x1_1) % 256)
     go_wp2_with (first | ((with_reducible refine gate_store (t := 5) (p := 16) rfl ?_); refine store_event (t := 5) (p := 16) (v := ?vo_w8) (w1 := (wr.setCell ⟨go5, (x5_1 : Int).toNat, none⟩ (.int .u8 ((x1_1) % 256)))) ?hg ?ho ?hn ?hr ?_; (case ho => rfl); (case hg => rfl); (case hn => rfl); (case hr => first | (go_simp; done) | (go_simp; rfl)); intro w8 hw; have hg : wr.grownBy w8 (some go5) := (by rw [hw]; exact HP7.2); have hp_ : Kd.R (Kd.int .u8) 5 w8 w0.heap.size (fun k_ => (P0_ k_ ∨ w.heap.size ≤ k_)) (.slice (some ⟨go5, 0, none⟩) x0_1.length co6) y255 := (by rw [hw, Ny255.out]; exact HP7.1); clear HP7; replace HB := Aside0.mk ((by rw [hw]; exact below_set (HB.out) GB5.out : Below w0.heap.size w0 w8)); replace HK := Aside0.mk (Kept.of_grown (S := (fun k_ => P0_ k_)) hg (by repeat (first | (with_reducible first | exact HK.out | apply Kept.alloc | apply Kept.drewN | apply Kept.drew) | exact HK.out)) (fun k_ e_ => (HO_0.out.1 k_ e_))); replace HO_0 := Aside0.mk (hp_); clear hg hw hp_))
     go_roundg k1
     case measure => have := HK1.out; omega
     case rel => exact ⟨(y255), (wrap64 (x1_1 + 1)), (wrap64 (x5_1 + 1)), (by first | rfl | (simp; done) | (simp [*]; done)), (by first | rfl | (simp; done) | (simp [*]; done)), H', ⟨by have := HK1.out; omega⟩, ⟨kR_ HO_0.out⟩, ⟨by repeat (first | (with_reducible first | exact HK.out | apply Kept.alloc | apply Kept.drewN | apply Kept.drew) | exact HK.out)⟩, ⟨hbA_ HB.out⟩⟩
    ·rw [if_neg c4] at H
     exact absurd H (by simp)
   ·rw [if_neg c3] at H
    have c3b0 : decide (x5_1 < (x0_1.length : Int)) = false := decide_eq_false c3
    clear c3
    simp only [Option.some.injEq, Prod.mk.injEq] at H
    obtain ⟨rfl, rfl⟩ := H
    obtain ⟨Ao9, co9, eo9⟩ := Kd.R_slice HO_0.out
    subst eo9
    go_wp2
    go_ret
    exact ⟨by first | rfl | (simp [errW_none, errW_some] <;> rfl) | (simp [*, errW_none, errW_some] <;> rfl), kR_ HO_0.out, hbA_ HB.out, by repeat (first | (with_reducible first | exact HK.out | apply Kept.alloc | apply Kept.drewN | apply Kept.drew) | exact HK.out)⟩
def laws_markPacketS.l0 : Nat → List S28 → Int → Int → Option (Int × List S28)
  | 0, _, _, _ => none
  | k + 1, x0, x1, x5 => if x5 < (x0.length : Int) then (if 0 ≤ x5 then ((laws_markByteS.f k (rd_T28 x0 x5).f8 (wrap64 ((wrap64 ((wrap64 ((wrap64 ((wrap64 ((wrap64 ((wrap64 ((wrap64 (x1 + 1)) + 1)) + 1)) + 1)) + 1)) + 1)) + 1)) + 1))).bind fun t => laws_markPacketS.l0 k (x0.set x5.toNat (⟨(x1), ((wrap64 (x1 + 1))), ((wrap64 ((wrap64 (x1 + 1)) + 1))), ((wrap64 ((wrap64 ((wrap64 (x1 + 1)) + 1)) + 1))), ((wrap64 ((wrap64 ((wrap64 ((wrap64 (x1 + 1)) + 1)) + 1)) + 1))), ((wrap64 ((wrap64 ((wrap64 ((wrap64 ((wrap64 (x1 + 1)) + 1)) + 1)) + 1)) + 1))), (decide (Int.tmod (wrap64 ((wrap64 ((wrap64 ((wrap64 ((wrap64 ((wrap64 (x1 + 1)) + 1)) + 1)) + 1)) + 1)) + 1)) 3 = 0)), (decide (Int.tmod (wrap64 ((wrap64 ((wrap64 ((wrap64 ((wrap64 ((wrap64 ((wrap64 (x1 + 1)) + 1)) + 1)) + 1)) + 1)) + 1)) + 1)) 3 = 0)), t.2⟩ : S28)) t.1 (wrap64 (x5 + 1))) else none) else (some (x1, x0))
def laws_markPacketS.f (k : Nat) (l0 : List S28) (a1 : Int) : Option (Int × List S28) := laws_markPacketS.l0 k l0 a1 0
theorem laws_markPacketS.mono_l : ∀ k, (∀ y0 y1 y2, LeO (laws_markPacketS.l0 k y0 y1 y2) (laws_markPacketS.l0 (k + 1) y0 y1 y2))
  | 0 => fun _ _ _ r h => by simp [laws_markPacketS.l0] at h
  | k + 1 => by
    have ih0 := laws_markPacketS.mono_l k
    · intro y0 y1 y2
      unfold laws_markPacketS.l0
      repeat' first
      | (with_reducible exact ih0 _ _ _)
      | (with_reducible exact laws_markByteS.mono _ _ _)
      | (with_reducible exact LeO.refl _)
      | (with_reducible exact LeO.none _)
      | (with_reducible refine LeO.ite ?_ ?_)
      | (with_reducible refine LeO.bind ?_ (fun _ => ?_))
      | exact ih0 _ _ _
      | exact laws_markByteS.mono _ _ _
      | exact LeO.none _
      | refine LeO.ite ?_ ?_
      | refine LeO.bind ?_ (fun _ => ?_)
theorem laws_markPacketS.mono : ∀ a0 a1 k, LeO (laws_markPacketS.f k a0 a1) (laws_markPacketS.f (k + 1) a0 a1) := by
  intro a0 a1 k
  have ih0 := laws_markPacketS.mono_l k
  unfold laws_markPacketS.f
  repeat' first
      | (with_reducible exact ih0 _ _ _)
      | (with_reducible exact laws_markByteS.mono _ _ _)
      | (with_reducible exact LeO.refl _)
      | (with_reducible exact LeO.none _)
      | (with_reducible refine LeO.ite ?_ ?_)
      | (with_reducible refine LeO.bind ?_ (fun _ => ?_))
      | exact ih0 _ _ _
      | exact laws_markByteS.mono _ _ _
      | exact LeO.none _
      | refine LeO.ite ?_ ?_
      | refine LeO.bind ?_ (fun _ => ?_)
set_option maxHeartbeats 8000000 in
set_option maxRecDepth 100000 in
theorem laws_markPacketS.calls (k : Nat) (P0_ : Nat → Prop) (u9000_ : Value) (l0 : List S28) (a1 : Int) (r1 : Int) (r2 : List S28) (w0 w : World) (hB : Below w0.heap.size w0 w) (ho0 : Kd.S k28 28 w w0.heap.size P0_ u9000_ l0) (h : laws_markPacketS.f k l0 a1 = some (r1, r2)) :
    Calls Try.prog 56 #[u9000_, .int .i64 a1] w fun e w' => e = .returned (.int .i64 r1) ∧ Kd.S k28 28 w' w0.heap.size P0_ u9000_ r2 ∧ Below w0.heap.size w0 w' ∧ Kept w w' (fun k_ => P0_ k_) := by
  have HO0 := Aside0.mk ho0; clear ho0
  have HK := Aside0.mk (Kept.refl w (fun k_ => P0_ k_))
  have HB := Aside0.mk hB; clear hB
  have H' := Aside0.mk (show laws_markPacketS.l0 k l0 a1 0 = some (r1, r2) from h)
  clear h
  go_enter Try.func56, Try.ntmps56
  go_wp2
  go_loopg [1, 5] k (fun kq v1 v5 w' => ∃ (x0_1 : List S28) (x1_1 : Int) (x5_1 : Int), v1 = .int .i64 x1_1 ∧ v5 = .int .i64 x5_1 ∧ Aside0 (laws_markPacketS.l0 kq x0_1 x1_1 x5_1 = some (r1, r2)) ∧ Aside0 (kq ≤ k) ∧ Aside0 (Kd.S k28 28 w' w0.heap.size P0_ u9000_ x0_1) ∧ Aside0 (Kept w w' (fun k_ => P0_ k_)) ∧ Aside0 (Below w0.heap.size w0 w'))
  case atStart => exact ⟨l0, a1, 0, (by first | rfl | (simp; done) | (simp [*]; done)), (by first | rfl | (simp; done) | (simp [*]; done)), H', ⟨Nat.le_refl _⟩, ⟨kS_ HO0.out⟩, ⟨by repeat (first | (with_reducible first | exact HK.out | apply Kept.alloc | apply Kept.drewN | apply Kept.drew) | exact HK.out)⟩, ⟨hbA_ HB.out⟩⟩
  case round =>
    clear H'; (try clear p2)
    obtain ⟨x0_1, x1_1, x5_1, rfl, rfl, HA, HK1, HO_0, HK, HB⟩ := hrel
    cases gk with
    | zero => exact absurd HA.out (by simp [laws_markPacketS.l0])
    | succ k1 =>
      have H := HA.out; clear HA
      simp only [laws_markPacketS.l0] at H
      by_cases c3 : x5_1 < (x0_1.length : Int)
      · rw [if_pos c3] at H
        have c3b0 : decide (x5_1 < (x0_1.length : Int)) = true := decide_eq_true c3
        by_cases c4 : 0 ≤ x5_1
        · rw [if_pos c4] at H
          have c4b0 : decide (0 ≤ x5_1) = true := decide_eq_true c4
          replace H := Option.bind_eq_some_iff.mp H
          obtain ⟨⟨t1, t2⟩, A20, H⟩ := H
          have A2 := Aside0.mk A20; clear A20
          have H' := Aside0.mk H
          clear H
          obtain ⟨Ao6, co6, eo6⟩ := Kd.S_slice HO_0.out
          subst eo6
          have p5 : 0 ≤ (x5_1 : Int) := c4
          have q5 : (x5_1 : Int) < ((x0_1.length : Nat) : Int) := c3
          have P5 := Aside0.mk p5
          have Q5 := Aside0.mk q5
          clear c3 c4
          obtain ⟨go5, co5, eo5, gb5, gl5, cl5, HG5⟩ := Kd.S_form HO_0.out (by omega)
          (first | cases eo5 | (injection eo5 with ea_ en_ ec_; (first | subst ea_ | (injection ea_ with ea_; subst ea_)); subst ec_; clear en_))
          have GB5 := Aside0.mk gb5; clear gb5 gl5 HG5
          have HMgo5 := Aside0.mk (show P0_ go5 from (Kd.S_R HO_0.out).1 _ rfl)
          have HS0 := Aside0.mk (show Kd.S k28 28 wr w0.heap.size P0_ (.slice (some ⟨go5, 0, none⟩) x0_1.length co6) (x0_1.set x5_1.toNat (rd_T28 x0_1 x5_1)) from Kd.S_start HO_0.out z28 x5_1)
          clear HO_0
          obtain ⟨ok0_, c0_, hM0_, hc0_, hf0_, hk0_, hb0_⟩ := Kd.S_cells HS0.out P5.out Q5.out
          obtain ⟨ve0_, rfl, ge0_⟩ := k28_openM hM0_
          have hx0 := hc0_ 0 _ rfl
          have hf0 := hf0_ 0
          (try simp only [show k28.sz = 9 from rfl, Nat.add_zero] at hx0 hf0)
          clear hM0_ hc0_ hf0_ hk0_ hb0_ ge0_
          replace p5 := eq_true p5
          replace q5 := eq_true q5
          have HP0 := Kd.S_put1 HS0.out P5.out Q5.out 0 (.int .i64 x1_1) (by decide) (⟨(x1_1), (rd_T28 x0_1 x5_1).f1, (rd_T28 x0_1 x5_1).f2, (rd_T28 x0_1 x5_1).f3, (rd_T28 x0_1 x5_1).f4, (rd_T28 x0_1 x5_1).f5, (rd_T28 x0_1 x5_1).f6, (rd_T28 x0_1 x5_1).f7, (rd_T28 x0_1 x5_1).f8⟩ : S28) (fun hM_ => by obtain ⟨v1, rfl, g1⟩ := k28_openM hM_; exact k28_mkM _ _ _ (⟨(x1_1), (rd_T28 x0_1 x5_1).f1, (rd_T28 x0_1 x5_1).f2, (rd_T28 x0_1 x5_1).f3, (rd_T28 x0_1 x5_1).f4, (rd_T28 x0_1 x5_1).f5, (rd_T28 x0_1 x5_1).f6, (rd_T28 x0_1 x5_1).f7, (rd_T28 x0_1 x5_1).f8⟩ : S28) g1)
          (try simp only [show k28.sz = 9 from rfl, Nat.add_zero] at HP0)
          go_wp2_with (first | ((with_reducible refine gate_store (t := 3) (p := 16) rfl ?_); refine store_event (t := 3) (p := 16) (v := ?vo_w8) (w1 := (wr.setCell ⟨go5, (x5_1 : Int).toNat * 9, none⟩ (.int .i64 x1_1))) ?hg ?ho ?hn ?hr ?_; (case ho => rfl); (case hg => rfl); (case hn => rfl); (case hr => first | (go_simp; done) | (go_simp; rfl)); intro w8 hw; have hg : wr.grownBy w8 (some go5) := (by rw [hw]; exact HP0.2); have HS1 : Aside0 (Kd.S k28 28 w8 w0.heap.size P0_ (.slice (some ⟨go5, 0, none⟩) x0_1.length co6) (x0_1.set x5_1.toNat (⟨(x1_1), (rd_T28 x0_1 x5_1).f1, (rd_T28 x0_1 x5_1).f2, (rd_T28 x0_1 x5_1).f3, (rd_T28 x0_1 x5_1).f4, (rd_T28 x0_1 x5_1).f5, (rd_T28 x0_1 x5_1).f6, (rd_T28 x0_1 x5_1).f7, (rd_T28 x0_1 x5_1).f8⟩ : S28))) := ⟨by rw [hw]; exact HP0.1⟩; clear HP0; replace HB := Aside0.mk ((by rw [hw]; exact below_set (HB.out) GB5.out : Below w0.heap.size w0 w8)); replace HK := Aside0.mk (Kept.of_grown (S := (fun k_ => P0_ k_)) hg (by repeat (first | (with_reducible first | exact HK.out | apply Kept.alloc | apply Kept.drewN | apply Kept.drew) | exact HK.out)) (fun k_ e_ => .inl (by injection e_ with e_; subst e_; exact HMgo5.out))); clear hg hw HS0 hx0 hf0; obtain ⟨ok0_, c0_, hM0_, hc0_, hf0_, hk0_, hb0_⟩ := Kd.S_cells HS1.out P5.out Q5.out; obtain ⟨ve0_, rfl, ge0_⟩ := k28_openM hM0_; have hx0 := hc0_ 1 _ rfl; have hf0 := hf0_ 1; (try simp only [show k28.sz = 9 from rfl, Nat.add_zero] at hx0 hf0); clear hM0_ hc0_ hf0_ hk0_ hb0_ ge0_; have HP1 := Kd.S_put1 HS1.out P5.out Q5.out 1 (.int .i64 (wrap64 (x1_1 + 1))) (by decide) (⟨(x1_1), ((wrap64 (x1_1 + 1))), (rd_T28 x0_1 x5_1).f2, (rd_T28 x0_1 x5_1).f3, (rd_T28 x0_1 x5_1).f4, (rd_T28 x0_1 x5_1).f5, (rd_T28 x0_1 x5_1).f6, (rd_T28 x0_1 x5_1).f7, (rd_T28 x0_1 x5_1).f8⟩ : S28) (fun hM_ => by obtain ⟨v1, rfl, g1⟩ := k28_openM hM_; exact k28_mkM _ _ _ (⟨(x1_1), ((wrap64 (x1_1 + 1))), (rd_T28 x0_1 x5_1).f2, (rd_T28 x0_1 x5_1).f3, (rd_T28 x0_1 x5_1).f4, (rd_T28 x0_1 x5_1).f5, (rd_T28 x0_1 x5_1).f6, (rd_T28 x0_1 x5_1).f7, (rd_T28 x0_1 x5_1).f8⟩ : S28) g1); (try simp only [show k28.sz = 9 from rfl, Nat.add_zero] at HP1)) | ((with_reducible refine gate_store (t := 3) (p := 23) rfl ?_); refine store_event (t := 3) (p := 23) (v := ?vo_w9) (w1 := (w8.setCell ⟨go5, (x5_1 : Int).toNat * 9 + 1, none⟩ (.int .i64 (wrap64 (x1_1 + 1))))) ?hg ?ho ?hn ?hr ?_; (case ho => rfl); (case hg => rfl); (case hn => rfl); (case hr => first | (go_simp; done) | (go_simp; rfl)); intro w9 hw; have hg : w8.grownBy w9 (some go5) := (by rw [hw]; exact HP1.2); have HS2 : Aside0 (Kd.S k28 28 w9 w0.heap.size P0_ (.slice (some ⟨go5, 0, none⟩) x0_1.length co6) (x0_1.set x5_1.toNat (⟨(x1_1), ((wrap64 (x1_1 + 1))), (rd_T28 x0_1 x5_1).f2, (rd_T28 x0_1 x5_1).f3, (rd_T28 x0_1 x5_1).f4, (rd_T28 x0_1 x5_1).f5, (rd_T28 x0_1 x5_1).f6, (rd_T28 x0_1 x5_1).f7, (rd_T28 x0_1 x5_1).f8⟩ : S28))) := ⟨by rw [hw]; exact HP1.1⟩; clear HP1; replace HB := Aside0.mk ((by rw [hw]; exact below_set (HB.out) GB5.out : Below w0.heap.size w0 w9)); replace HK := Aside0.mk (Kept.of_grown (S := (fun k_ => P0_ k_)) hg (by repeat (first | (with_reducible first | exact HK.out | apply Kept.alloc | apply Kept.drewN | apply Kept.drew) | exact HK.out)) (fun k_ e_ => .inl (by injection e_ with e_; subst e_; exact HMgo5.out))); clear hg hw HS1 hx0 hf0; obtain ⟨ok0_, c0_, hM0_, hc0_, hf0_, hk0_, hb0_⟩ := Kd.S_cells HS2.out P5.out Q5.out; obtain ⟨ve0_, rfl, ge0_⟩ := k28_openM hM0_; have hx0 := hc0_ 2 _ rfl; have hf0 := hf0_ 2; (try simp only [show k28.sz = 9 from rfl, Nat.add_zero] at hx0 hf0); clear hM0_ hc0_ hf0_ hk0_ hb0_ ge0_; have HP2 := Kd.S_put1 HS2.out P5.out Q5.out 2 (.int .i64 (wrap64 ((wrap64 (x1_1 + 1)) + 1))) (by decide) (⟨(x1_1), ((wrap64 (x1_1 + 1))), ((wrap64 ((wrap64 (x1_1 + 1)) + 1))), (rd_T28 x0_1 x5_1).f3, (rd_T28 x0_1 x5_1).f4, (rd_T28 x0_1 x5_1).f5, (rd_T28 x0_1 x5_1).f6, (rd_T28 x0_1 x5_1).f7, (rd_T28 x0_1 x5_1).f8⟩ : S28) (fun hM_ => by obtain ⟨v1, rfl, g1⟩ := k28_openM hM_; exact k28_mkM _ _ _ (⟨(x1_1), ((wrap64 (x1_1 + 1))), ((wrap64 ((wrap64 (x1_1 + 1)) + 1))), (rd_T28 x0_1 x5_1).f3, (rd_T28 x0_1 x5_1).f4, (rd_T28 x0_1 x5_1).f5, (rd_T28 x0_1 x5_1).f6, (rd_T28 x0_1 x5_1).f7, (rd_T28 x0_1 x5_1).f8⟩ : S28) g1); (try simp only [show k28.sz = 9 from rfl, Nat.add_zero] at HP2)) | ((with_reducible refine gate_store (t := 3) (p := 30) rfl ?_); refine store_event (t := 3) (p := 30) (v := ?vo_w10) (w1 := (w9.setCell ⟨go5, (x5_1 : Int).toNat * 9 + 2, none⟩ (.int .i64 (wrap64 ((wrap64 (x1_1 + 1)) + 1))))) ?hg ?ho ?hn ?hr ?_; (case ho => rfl); (case hg => rfl); (case hn => rfl); (case hr => first | (go_simp; done) | (go_simp; rfl)); intro w10 hw; have hg : w9.grownBy w10 (some go5) := (by rw [hw]; exact HP2.2); have HS3 : Aside0 (Kd.S k28 28 w10 w0.heap.size P0_ (.slice (some ⟨go5, 0, none⟩) x0_1.length co6) (x0_1.set x5_1.toNat (⟨(x1_1), ((wrap64 (x1_1 + 1))), ((wrap64 ((wrap64 (x1_1 + 1)) + 1))), (rd_T28 x0_1 x5_1).f3, (rd_T28 x0_1 x5_1).f4, (rd_T28 x0_1 x5_1).f5, (rd_T28 x0_1 x5_1).f6, (rd_T28 x0_1 x5_1).f7, (rd_T28 x0_1 x5_1).f8⟩ : S28))) := ⟨by rw [hw]; exact HP2.1⟩; clear HP2; replace HB := Aside0.mk ((by rw [hw]; exact below_set (HB.out) GB5.out : Below w0.heap.size w0 w10)); replace HK := Aside0.mk (Kept.of_grown (S := (fun k_ => P0_ k_)) hg (by repeat (first | (with_reducible first | exact HK.out | apply Kept.alloc | apply Kept.drewN | apply Kept.drew) | exact HK.out)) (fun k_ e_ => .inl (by injection e_ with e_; subst e_; exact HMgo5.out))); clear hg hw HS2 hx0 hf0; obtain ⟨ok0_, c0_, hM0_, hc0_, hf0_, hk0_, hb0_⟩ := Kd.S_cells HS3.out P5.out Q5.out; obtain ⟨ve0_, rfl, ge0_⟩ := k28_openM hM0_; have hx0 := hc0_ 3 _ rfl; have hf0 := hf0_ 3; (try simp only [show k28.sz = 9 from rfl, Nat.add_zero] at hx0 hf0); clear hM0_ hc0_ hf0_ hk0_ hb0_ ge0_; have HP3 := Kd.S_put1 HS3.out P5.out Q5.out 3 (.int .i64 (wrap64 ((wrap64 ((wrap64 (x1_1 + 1)) + 1)) + 1))) (by decide) (⟨(x1_1), ((wrap64 (x1_1 + 1))), ((wrap64 ((wrap64 (x1_1 + 1)) + 1))), ((wrap64 ((wrap64 ((wrap64 (x1_1 + 1)) + 1)) + 1))), (rd_T28 x0_1 x5_1).f4, (rd_T28 x0_1 x5_1).f5, (rd_T28 x0_1 x5_1).f6, (rd_T28 x0_1 x5_1).f7, (rd_T28 x0_1 x5_1).f8⟩ : S28) (fun hM_ => by obtain ⟨v1, rfl, g1⟩ := k28_openM hM_; exact k28_mkM _ _ _ (⟨(x1_1), ((wrap64 (x1_1 + 1))), ((wrap64 ((wrap64 (x1_1 + 1)) + 1))), ((wrap64 ((wrap64 ((wrap64 (x1_1 + 1)) + 1)) + 1))), (rd_T28 x0_1 x5_1).f4, (rd_T28 x0_1 x5_1).f5, (rd_T28 x0_1 x5_1).f6, (rd_T28 x0_1 x5_1).f7, (rd_T28 x0_1 x5_1).f8⟩ : S28) g1); (try simp only [show k28.sz = 9 from rfl, Nat.add_zero] at HP3)) | ((with_reducible refine gate_store (t := 3) (p := 37) rfl ?_); refine store_event (t := 3) (p := 37) (v := ?vo_w11) (w1 := (w10.setCell ⟨go5, (x5_1 : Int).toNat * 9 + 3, none⟩ (.int .i64 (wrap64 ((wrap64 ((wrap64 (x1_1 + 1)) + 1)) + 1))))) ?hg ?ho ?hn ?hr ?_; (case ho => rfl); (case hg => rfl); (case hn => rfl); (case hr => first | (go_simp; done) | (go_simp; rfl)); intro w11 hw; have hg : w10.grownBy w11 (some go5) := (by rw [hw]; exact HP3.2); have HS4 : Aside0 (Kd.S k28 28 w11 w0.heap.size P0_ (.slice (some ⟨go5, 0, none⟩) x0_1.length co6) (x0_1.set x5_1.toNat (⟨(x1_1), ((wrap64 (x1_1 + 1))), ((wrap64 ((wrap64 (x1_1 + 1)) + 1))), ((wrap64 ((wrap64 ((wrap64 (x1_1 + 1)) + 1)) + 1))), (rd_T28 x0_1 x5_1).f4, (rd_T28 x0_1 x5_1).f5, (rd_T28 x0_1 x5_1).f6, (rd_T28 x0_1 x5_1).f7, (rd_T28 x0_1 x5_1).f8⟩ : S28))) := ⟨by rw [hw]; exact HP3.1⟩; clear HP3; replace HB := Aside0.mk ((by rw [hw]; exact below_set (HB.out) GB5.out : Below w0.heap.size w0 w11)); replace HK := Aside0.mk (Kept.of_grown (S := (fun k_ => P0_ k_)) hg (by repeat (first | (with_reducible first | exact HK.out | apply Kept.alloc | apply Kept.drewN | apply Kept.drew) | exact HK.out)) (fun k_ e_ => .inl (by injection e_ with e_; subst e_; exact HMgo5.out))); clear hg hw HS3 hx0 hf0; obtain ⟨ok0_, c0_, hM0_, hc0_, hf0_, hk0_, hb0_⟩ := Kd.S_cells HS4.out P5.out Q5.out; obtain ⟨ve0_, rfl, ge0_⟩ := k28_openM hM0_; have hx0 := hc0_ 4 _ rfl; have hf0 := hf0_ 4; (try simp only [show k28.sz = 9 from rfl, Nat.add_zero] at hx0 hf0); clear hM0_ hc0_ hf0_ hk0_ hb0_ ge0_; have HP4 := Kd.S_put1 HS4.out P5.out Q5.out 4 (.int .i64 (wrap64 ((wrap64 ((wrap64 ((wrap64 (x1_1 + 1)) + 1)) + 1)) + 1))) (by decide) (⟨(x1_1), ((wrap64 (x1_1 + 1))), ((wrap64 ((wrap64 (x1_1 + 1)) + 1))), ((wrap64 ((wrap64 ((wrap64 (x1_1 + 1)) + 1)) + 1))), ((wrap64 ((wrap64 ((wrap64 ((wrap64 (x1_1 + 1)) + 1)) + 1)) + 1))), (rd_T28 x0_1 x5_1).f5, (rd_T28 x0_1 x5_1).f6, (rd_T28 x0_1 x5_1).f7, (rd_T28 x0_1 x5_1).f8⟩ : S28) (fun hM_ => by obtain ⟨v1, rfl, g1⟩ := k28_openM hM_; exact k28_mkM _ _ _ (⟨(x1_1), ((wrap64 (x1_1 + 1))), ((wrap64 ((wrap64 (x1_1 + 1)) + 1))), ((wrap64 ((wrap64 ((wrap64 (x1_1 + 1)) + 1)) + 1))), ((wrap64 ((wrap64 ((wrap64 ((wrap64 (x1_1 + 1)) + 1)) + 1)) + 1))), (rd_T28 x0_1 x5_1).f5, (rd_T28 x0_1 x5_1).f6, (rd_T28 x0_1 x5_1).f7, (rd_T28 x0_1 x5_1).f8⟩ : S28) g1); (try simp only [show k28.sz = 9 from rfl, Nat.add_zero] at HP4)) | ((with_reducible refine gate_store (t := 3) (p := 44) rfl ?_); refine store_event (t := 3) (p := 44) (v := ?vo_w12) (w1 := (w11.setCell ⟨go5, (x5_1 : Int).toNat * 9 + 4, none⟩ (.int .i64 (wrap64 ((wrap64 ((wrap64 ((wrap64 (x1_1 + 1)) + 1)) + 1)) + 1))))) ?hg ?ho ?hn ?hr ?_; (case ho => rfl); (case hg => rfl); (case hn => rfl); (case hr => first | (go_simp; done) | (go_simp; rfl)); intro w12 hw; have hg : w11.grownBy w12 (some go5) := (by rw [hw]; exact HP4.2); have HS5 : Aside0 (Kd.S k28 28 w12 w0.heap.size P0_ (.slice (some ⟨go5, 0, none⟩) x0_1.length co6) (x0_1.set x5_1.toNat (⟨(x1_1), ((wrap64 (x1_1 + 1))), ((wrap64 ((wrap64 (x1_1 + 1)) + 1))), ((wrap64 ((wrap64 ((wrap64 (x1_1 + 1)) + 1)) + 1))), ((wrap64 ((wrap64 ((wrap64 ((wrap64 (x1_1 + 1)) + 1)) + 1)) + 1))), (rd_T28 x0_1 x5_1).f5, (rd_T28 x0_1 x5_1).f6, (rd_T28 x0_1 x5_1).f7, (rd_T28 x0_1 x5_1).f8⟩ : S28))) := ⟨by rw [hw]; exact HP4.1⟩; clear HP4; replace HB := Aside0.mk ((by rw [hw]; exact below_set (HB.out) GB5.out : Below w0.heap.size w0 w12)); replace HK := Aside0.mk (Kept.of_grown (S := (fun k_ => P0_ k_)) hg (by repeat (first | (with_reducible first | exact HK.out | apply Kept.alloc | apply Kept.drewN | apply Kept.drew) | exact HK.out)) (fun k_ e_ => .inl (by injection e_ with e_; subst e_; exact HMgo5.out))); clear hg hw HS4 hx0 hf0; obtain ⟨ok0_, c0_, hM0_, hc0_, hf0_, hk0_, hb0_⟩ := Kd.S_cells HS5.out P5.out Q5.out; obtain ⟨ve0_, rfl, ge0_⟩ := k28_openM hM0_; have hx0 := hc0_ 5 _ rfl; have hf0 := hf0_ 5; (try simp only [show k28.sz = 9 from rfl, Nat.add_zero] at hx0 hf0); clear hM0_ hc0_ hf0_ hk0_ hb0_ ge0_; have HP5 := Kd.S_put1 HS5.out P5.out Q5.out 5 (.int .i64 (wrap64 ((wrap64 ((wrap64 ((wrap64 ((wrap64 (x1_1 + 1)) + 1)) + 1)) + 1)) + 1))) (by decide) (⟨(x1_1), ((wrap64 (x1_1 + 1))), ((wrap64 ((wrap64 (x1_1 + 1)) + 1))), ((wrap64 ((wrap64 ((wrap64 (x1_1 + 1)) + 1)) + 1))), ((wrap64 ((wrap64 ((wrap64 ((wrap64 (x1_1 + 1)) + 1)) + 1)) + 1))), ((wrap64 ((wrap64 ((wrap64 ((wrap64 ((wrap64 (x1_1 + 1)) + 1)) + 1)) + 1)) + 1))), (rd_T28 x0_1 x5_1).f6, (rd_T28 x0_1 x5_1).f7, (rd_T28 x0_1 x5_1).f8⟩ : S28) (fun hM_ => by obtain ⟨v1, rfl, g1⟩ := k28_openM hM_; exact k28_mkM _ _ _ (⟨(x1_1), ((wrap64 (x1_1 + 1))), ((wrap64 ((wrap64 (x1_1 + 1)) + 1))), ((wrap64 ((wrap64 ((wrap64 (x1_1 + 1)) + 1)) + 1))), ((wrap64 ((wrap64 ((wrap64 ((wrap64 (x1_1 + 1)) + 1)) + 1)) + 1))), ((wrap64 ((wrap64 ((wrap64 ((wrap64 ((wrap64 (x1_1 + 1)) + 1)) + 1)) + 1)) + 1))), (rd_T28 x0_1 x5_1).f6, (rd_T28 x0_1 x5_1).f7, (rd_T28 x0_1 x5_1).f8⟩ : S28) g1); (try simp only [show k28.sz = 9 from rfl, Nat.add_zero] at HP5)) | ((with_reducible refine gate_store (t := 3) (p := 51) rfl ?_); refine store_event (t := 3) (p := 51) (v := ?vo_w13) (w1 := (w12.setCell ⟨go5, (x5_1 : Int).toNat * 9 + 5, none⟩ (.int .i64 (wrap64 ((wrap64 ((wrap64 ((wrap64 ((wrap64 (x1_1 + 1)) + 1)) + 1)) + 1)) + 1))))) ?hg ?ho ?hn ?hr ?_; (case ho => rfl); (case hg => rfl); (case hn => rfl); (case hr => first | (go_simp; done) | (go_simp; rfl)); intro w13 hw; have hg : w12.grownBy w13 (some go5) := (by rw [hw]; exact HP5.2); have HS6 : Aside0 (Kd.S k28 28 w13 w0.heap.size P0_ (.slice (some ⟨go5, 0, none⟩) x0_1.length co6) (x0_1.set x5_1.toNat (⟨(x1_1), ((wrap64 (x1_1 + 1))), ((wrap64 ((wrap64 (x1_1 + 1)) + 1))), ((wrap64 ((wrap64 ((wrap64 (x1_1 + 1)) + 1)) + 1))), ((wrap64 ((wrap64 ((wrap64 ((wrap64 (x1_1 + 1)) + 1)) + 1)) + 1))), ((wrap64 ((wrap64 ((wrap64 ((wrap64 ((wrap64 (x1_1 + 1)) + 1)) + 1)) + 1)) + 1))), (rd_T28 x0_1 x5_1).f6, (rd_T28 x0_1 x5_1).f7, (rd_T28 x0_1 x5_1).f8⟩ : S28))) := ⟨by rw [hw]; exact HP5.1⟩; clear HP5; replace HB := Aside0.mk ((by rw [hw]; exact below_set (HB.out) GB5.out : Below w0.heap.size w0 w13)); replace HK := Aside0.mk (Kept.of_grown (S := (fun k_ => P0_ k_)) hg (by repeat (first | (with_reducible first | exact HK.out | apply Kept.alloc | apply Kept.drewN | apply Kept.drew) | exact HK.out)) (fun k_ e_ => .inl (by injection e_ with e_; subst e_; exact HMgo5.out))); clear hg hw HS5 hx0 hf0; obtain ⟨ok0_, c0_, hM0_, hc0_, hf0_, hk0_, hb0_⟩ := Kd.S_cells HS6.out P5.out Q5.out; obtain ⟨ve0_, rfl, ge0_⟩ := k28_openM hM0_; have hx0 := hc0_ 6 _ rfl; have hf0 := hf0_ 6; (try simp only [show k28.sz = 9 from rfl, Nat.add_zero] at hx0 hf0); clear hM0_ hc0_ hf0_ hk0_ hb0_ ge0_; have HP6 := Kd.S_put1 HS6.out P5.out Q5.out 6 (.bool (decide (Int.tmod (wrap64 ((wrap64 ((wrap64 ((wrap64 ((wrap64 ((wrap64 (x1_1 + 1)) + 1)) + 1)) + 1)) + 1)) + 1)) 3 = 0))) (by decide) (⟨(x1_1), ((wrap64 (x1_1 + 1))), ((wrap64 ((wrap64 (x1_1 + 1)) + 1))), ((wrap64 ((wrap64 ((wrap64 (x1_1 + 1)) + 1)) + 1))), ((wrap64 ((wrap64 ((wrap64 ((wrap64 (x1_1 + 1)) + 1)) + 1)) + 1))), ((wrap64 ((wrap64 ((wrap64 ((wrap64 ((wrap64 (x1_1 + 1)) + 1)) + 1)) + 1)) + 1))), (decide (Int.tmod (wrap64 ((wrap64 ((wrap64 ((wrap64 ((wrap64 ((wrap64 (x1_1 + 1)) + 1)) + 1)) + 1)) + 1)) + 1)) 3 = 0)), (rd_T28 x0_1 x5_1).f7, (rd_T28 x0_1 x5_1).f8⟩ : S28) (fun hM_ => by obtain ⟨v1, rfl, g1⟩ := k28_openM hM_; exact k28_mkM _ _ _ (⟨(x1_1), ((wrap64 (x1_1 + 1))), ((wrap64 ((wrap64 (x1_1 + 1)) + 1))), ((wrap64 ((wrap64 ((wrap64 (x1_1 + 1)) + 1)) + 1))), ((wrap64 ((wrap64 ((wrap64 ((wrap64 (x1_1 + 1)) + 1)) + 1)) + 1))), ((wrap64 ((wrap64 ((wrap64 ((wrap64 ((wrap64 (x1_1 + 1)) + 1)) + 1)) + 1)) + 1))), (decide (Int.tmod (wrap64 ((wrap64 ((wrap64 ((wrap64 ((wrap64 ((wrap64 (x1_1 + 1)) + 1)) + 1)) + 1)) + 1)) + 1)) 3 = 0)), (rd_T28 x0_1 x5_1).f7, (rd_T28 x0_1 x5_1).f8⟩ : S28) g1); (try simp only [show k28.sz = 9 from rfl, Nat.add_zero] at HP6)) | ((with_reducible refine gate_store (t := 4) (p := 60) rfl ?_); refine store_event (t := 4) (p := 60) (v := ?vo_w14) (w1 := (w13.setCell ⟨go5, (x5_1 : Int).toNat * 9 + 6, none⟩ (.bool (decide (Int.tmod (wrap64 ((wrap64 ((wrap64 ((wrap64 ((wrap64 ((wrap64 (x1_1 + 1)) + 1)) + 1)) + 1)) + 1)) + 1)) 3 = 0))))) ?hg ?ho ?hn ?hr ?_; (case ho => rfl); (case hg => rfl); (case hn => rfl); (case hr => first | (go_simp; done) | (go_simp; rfl)); intro w14 hw; have hg : w13.grownBy w14 (some go5) := (by rw [hw]; exact HP6.2); have HS7 : Aside0 (Kd.S k28 28 w14 w0.heap.size P0_ (.slice (some ⟨go5, 0, none⟩) x0_1.length co6) (x0_1.set x5_1.toNat (⟨(x1_1), ((wrap64 (x1_1 + 1))), ((wrap64 ((wrap64 (x1_1 + 1)) + 1))), ((wrap64 ((wrap64 ((wrap64 (x1_1 + 1)) + 1)) + 1))), ((wrap64 ((wrap64 ((wrap64 ((wrap64 (x1_1 + 1)) + 1)) + 1)) + 1))), ((wrap64 ((wrap64 ((wrap64 ((wrap64 ((wrap64 (x1_1 + 1)) + 1)) + 1)) + 1)) + 1))), (decide (Int.tmod (wrap64 ((wrap64 ((wrap64 ((wrap64 ((wrap64 ((wrap64 (x1_1 + 1)) + 1)) + 1)) + 1)) + 1)) + 1)) 3 = 0)), (rd_T28 x0_1 x5_1).f7, (rd_T28 x0_1 x5_1).f8⟩ : S28))) := ⟨by rw [hw]; exact HP6.1⟩; clear HP6; replace HB := Aside0.mk ((by rw [hw]; exact below_set (HB.out) GB5.out : Below w0.heap.size w0 w14)); replace HK := Aside0.mk (Kept.of_grown (S := (fun k_ => P0_ k_)) hg (by repeat (first | (with_reducible first | exact HK.out | apply Kept.alloc | apply Kept.drewN | apply Kept.drew) | exact HK.out)) (fun k_ e_ => .inl (by injection e_ with e_; subst e_; exact HMgo5.out))); clear hg hw HS6 hx0 hf0; obtain ⟨ok0_, c0_, hM0_, hc0_, hf0_, hk0_, hb0_⟩ := Kd.S_cells HS7.out P5.out Q5.out; obtain ⟨ve0_, rfl, ge0_⟩ := k28_openM hM0_; have hx0 := hc0_ 7 _ rfl; have hf0 := hf0_ 7; (try simp only [show k28.sz = 9 from rfl, Nat.add_zero] at hx0 hf0); clear hM0_ hc0_ hf0_ hk0_ hb0_ ge0_; have HP7 := Kd.S_put1 HS7.out P5.out Q5.out 7 (.bool (decide (Int.tmod (wrap64 ((wrap64 ((wrap64 ((wrap64 ((wrap64 ((wrap64 ((wrap64 (x1_1 + 1)) + 1)) + 1)) + 1)) + 1)) + 1)) + 1)) 3 = 0))) (by decide) (⟨(x1_1), ((wrap64 (x1_1 + 1))), ((wrap64 ((wrap64 (x1_1 + 1)) + 1))), ((wrap64 ((wrap64 ((wrap64 (x1_1 + 1)) + 1)) + 1))), ((wrap64 ((wrap64 ((wrap64 ((wrap64 (x1_1 + 1)) + 1)) + 1)) + 1))), ((wrap64 ((wrap64 ((wrap64 ((wrap64 ((wrap64 (x1_1 + 1)) + 1)) + 1)) + 1)) + 1))), (decide (Int.tmod (wrap64 ((wrap64 ((wrap64 ((wrap64 ((wrap64 ((wrap64 (x1_1 + 1)) + 1)) + 1)) + 1)) + 1)) + 1)) 3 = 0)), (decide (Int.tmod (wrap64 ((wrap64 ((wrap64 ((wrap64 ((wrap64 ((wrap64 ((wrap64 (x1_1 + 1)) + 1)) + 1)) + 1)) + 1)) + 1)) + 1)) 3 = 0)), (rd_T28 x0_1 x5_1).f8⟩ : S28) (fun hM_ => by obtain ⟨v1, rfl, g1⟩ := k28_openM hM_; exact k28_mkM _ _ _ (⟨(x1_1), ((wrap64 (x1_1 + 1))), ((wrap64 ((wrap64 (x1_1 + 1)) + 1))), ((wrap64 ((wrap64 ((wrap64 (x1_1 + 1)) + 1)) + 1))), ((wrap64 ((wrap64 ((wrap64 ((wrap64 (x1_1 + 1)) + 1)) + 1)) + 1))), ((wrap64 ((wrap64 ((wrap64 ((wrap64 ((wrap64 (x1_1 + 1)) + 1)) + 1)) + 1)) + 1))), (decide (Int.tmod (wrap64 ((wrap64 ((wrap64 ((wrap64 ((wrap64 ((wrap64 (x1_1 + 1)) + 1)) + 1)) + 1)) + 1)) + 1)) 3 = 0)), (decide (Int.tmod (wrap64 ((wrap64 ((wrap64 ((wrap64 ((wrap64 ((wrap64 ((wrap64 (x1_1 + 1)) + 1)) + 1)) + 1)) + 1)) + 1)) + 1)) 3 = 0)), (rd_T28 x0_1 x5_1).f8⟩ : S28) g1); (try simp only [show k28.sz = 9 from rfl, Nat.add_zero] at HP7)) | ((with_reducible refine gate_store (t := 4) (p := 69) rfl ?_); refine store_event (t := 4) (p := 69) (v := ?vo_w15) (w1 := (w14.setCell ⟨go5, (x5_1 : Int).toNat * 9 + 7, none⟩ (.bool (decide (Int.tmod (wrap64 ((wrap64 ((wrap64 ((wrap64 ((wrap64 ((wrap64 ((wrap64 (x1_1 + 1)) + 1)) + 1)) + 1)) + 1)) + 1)) + 1)) 3 = 0))))) ?hg ?ho ?hn ?hr ?_; (case ho => rfl); (case hg => rfl); (case hn => rfl); (case hr => first | (go_simp; done) | (go_simp; rfl)); intro w15 hw; have hg : w14.grownBy w15 (some go5) := (by rw [hw]; exact HP7.2); have HS8 : Aside0 (Kd.S k28 28 w15 w0.heap.size P0_ (.slice (some ⟨go5, 0, none⟩) x0_1.length co6) (x0_1.set x5_1.toNat (⟨(x1_1), ((wrap64 (x1_1 + 1))), ((wrap64 ((wrap64 (x1_1 + 1)) + 1))), ((wrap64 ((wrap64 ((wrap64 (x1_1 + 1)) + 1)) + 1))), ((wrap64 ((wrap64 ((wrap64 ((wrap64 (x1_1 + 1)) + 1)) + 1)) + 1))), ((wrap64 ((wrap64 ((wrap64 ((wrap64 ((wrap64 (x1_1 + 1)) + 1)) + 1)) + 1)) + 1))), (decide (Int.tmod (wrap64 ((wrap64 ((wrap64 ((wrap64 ((wrap64 ((wrap64 (x1_1 + 1)) + 1)) + 1)) + 1)) + 1)) + 1)) 3 = 0)), (decide (Int.tmod (wrap64 ((wrap64 ((wrap64 ((wrap64 ((wrap64 ((wrap64 ((wrap64 (x1_1 + 1)) + 1)) + 1)) + 1)) + 1)) + 1)) + 1)) 3 = 0)), (rd_T28 x0_1 x5_1).f8⟩ : S28))) := ⟨by rw [hw]; exact HP7.1⟩; clear HP7; replace HB := Aside0.mk ((by rw [hw]; exact below_set (HB.out) GB5.out : Below w0.heap.size w0 w15)); replace HK := Aside0.mk (Kept.of_grown (S := (fun k_ => P0_ k_)) hg (by repeat (first | (with_reducible first | exact HK.out | apply Kept.alloc | apply Kept.drewN | apply Kept.drew) | exact HK.out)) (fun k_ e_ => .inl (by injection e_ with e_; subst e_; exact HMgo5.out))); clear hg hw HS7 hx0 hf0; obtain ⟨ok1_, c1_, hM1_, hc1_, hf1_, hk1_, hb1_⟩ := Kd.S_cells HS8.out P5.out Q5.out; obtain ⟨ve1_, rfl, ge1_⟩ := k28_openM hM1_; obtain ⟨Ae1_, ce1_, ee1_⟩ := Kd.R_slice ge1_; subst ee1_; have hx1 := hc1_ 8 _ rfl; (try simp only [show k28.sz = 9 from rfl, Nat.add_zero] at hx1); have HG1 := Aside0.mk ge1_; have HK1_ := Aside0.mk hk1_; have HW1 := Aside0.mk @hb1_; clear hM1_ hc1_ hf1_ ge1_ hk1_ hb1_) | ((with_reducible refine gate_callee (f := 30) rfl ?_); refine goesL_ (some 78) rfl rfl Try.func30 (by kernel_rfl) rfl #[.slice Ae1_ (rd_T28 x0_1 x5_1).f8.length ce1_, .int .i64 (wrap64 ((wrap64 ((wrap64 ((wrap64 ((wrap64 ((wrap64 ((wrap64 ((wrap64 (x1_1 + 1)) + 1)) + 1)) + 1)) + 1)) + 1)) + 1)) + 1))] rfl ar_ ?_; refine (laws_markByteS.calls k1 (fun k_ => some k_ = (.slice Ae1_ (rd_T28 x0_1 x5_1).f8.length ce1_ : Value).ownBlock) _ _ _ t1 t2 w0 _ HB.out (Kd.R_tight rfl HG1.out) A2.out).mono ?_; rintro e w30 ⟨rfl, hy, hb, hkp⟩; refine ⟨_, rfl, ?_⟩; have HSe : Aside0 (Kd.S k28 28 w30 w0.heap.size P0_ (.slice (some ⟨go5, 0, none⟩) x0_1.length co6) (x0_1.set x5_1.toNat (⟨(x1_1), ((wrap64 (x1_1 + 1))), ((wrap64 ((wrap64 (x1_1 + 1)) + 1))), ((wrap64 ((wrap64 ((wrap64 (x1_1 + 1)) + 1)) + 1))), ((wrap64 ((wrap64 ((wrap64 ((wrap64 (x1_1 + 1)) + 1)) + 1)) + 1))), ((wrap64 ((wrap64 ((wrap64 ((wrap64 ((wrap64 (x1_1 + 1)) + 1)) + 1)) + 1)) + 1))), (decide (Int.tmod (wrap64 ((wrap64 ((wrap64 ((wrap64 ((wrap64 ((wrap64 (x1_1 + 1)) + 1)) + 1)) + 1)) + 1)) + 1)) 3 = 0)), (decide (Int.tmod (wrap64 ((wrap64 ((wrap64 ((wrap64 ((wrap64 ((wrap64 ((wrap64 (x1_1 + 1)) + 1)) + 1)) + 1)) + 1)) + 1)) + 1)) 3 = 0)), t2⟩ : S28))) := ⟨HW1.out hkp (fun k_ e_ => HG1.out.1 k_ e_.symm) (k28_mkM _ _ _ (⟨(x1_1), ((wrap64 (x1_1 + 1))), ((wrap64 ((wrap64 (x1_1 + 1)) + 1))), ((wrap64 ((wrap64 ((wrap64 (x1_1 + 1)) + 1)) + 1))), ((wrap64 ((wrap64 ((wrap64 ((wrap64 (x1_1 + 1)) + 1)) + 1)) + 1))), ((wrap64 ((wrap64 ((wrap64 ((wrap64 ((wrap64 (x1_1 + 1)) + 1)) + 1)) + 1)) + 1))), (decide (Int.tmod (wrap64 ((wrap64 ((wrap64 ((wrap64 ((wrap64 ((wrap64 (x1_1 + 1)) + 1)) + 1)) + 1)) + 1)) + 1)) 3 = 0)), (decide (Int.tmod (wrap64 ((wrap64 ((wrap64 ((wrap64 ((wrap64 ((wrap64 ((wrap64 (x1_1 + 1)) + 1)) + 1)) + 1)) + 1)) + 1)) + 1)) 3 = 0)), t2⟩ : S28) (Kd.R_reok rfl hy (fun k_ e_ => HG1.out.1 k_ e_)))⟩; replace HB := Aside0.mk hb; replace HK := Aside0.mk (Kept.then_ (S := (fun k_ => P0_ k_)) (by repeat (first | (with_reducible first | exact HK.out | apply Kept.alloc | apply Kept.drewN | apply Kept.drew) | exact HK.out)) hkp (fun k_ e_ => .inl (HK1_.out k_ (HG1.out.1 k_ e_.symm)).1)); clear hy hb hkp HW1 HS8 hx1 HG1 HK1_))
          go_roundg k1
          case measure => have := HK1.out; omega
          case rel => exact ⟨(x0_1.set x5_1.toNat (⟨(x1_1), ((wrap64 (x1_1 + 1))), ((wrap64 ((wrap64 (x1_1 + 1)) + 1))), ((wrap64 ((wrap64 ((wrap64 (x1_1 + 1)) + 1)) + 1))), ((wrap64 ((wrap64 ((wrap64 ((wrap64 (x1_1 + 1)) + 1)) + 1)) + 1))), ((wrap64 ((wrap64 ((wrap64 ((wrap64 ((wrap64 (x1_1 + 1)) + 1)) + 1)) + 1)) + 1))), (decide (Int.tmod (wrap64 ((wrap64 ((wrap64 ((wrap64 ((wrap64 ((wrap64 (x1_1 + 1)) + 1)) + 1)) + 1)) + 1)) + 1)) 3 = 0)), (decide (Int.tmod (wrap64 ((wrap64 ((wrap64 ((wrap64 ((wrap64 ((wrap64 ((wrap64 (x1_1 + 1)) + 1)) + 1)) + 1)) + 1)) + 1)) + 1)) 3 = 0)), t2⟩ : S28)), t1, (wrap64 (x5_1 + 1)), (by first | rfl | (simp; done) | (simp [*]; done)), (by first | rfl | (simp; done) | (simp [*]; done)), H', ⟨by have := HK1.out; omega⟩, ⟨kS_ HSe.out⟩, ⟨by repeat (first | (with_reducible first | exact HK.out | apply Kept.alloc | apply Kept.drewN | apply Kept.drew) | exact HK.out)⟩, ⟨hbA_ HB.out⟩⟩
        · rw [if_neg c4] at H
          exact absurd H (by simp)
      · rw [if_neg c3] at H
        have c3b0 : decide (x5_1 < (x0_1.length : Int)) = false := decide_eq_false c3
        clear c3
        simp only [Option.some.injEq, Prod.mk.injEq] at H
        obtain ⟨rfl, rfl⟩ := H
        obtain ⟨Ao9, co9, eo9⟩ := Kd.S_slice HO_0.out
        subst eo9
        go_wp2
        go_ret
        exact ⟨by first | rfl | (simp [*]; done), kS_ HO_0.out, hbA_ HB.out, by repeat (first | (with_reducible first | exact HK.out | apply Kept.alloc | apply Kept.drewN | apply Kept.drew) | exact HK.out)⟩
def laws_markPart.f (k : Nat) (l0_0 : List (S28)) (a0_1 : Int) (a1 : Int) : Option (Int × (List (S28))) := (laws_markPacketS.f k l0_0 a1).bind fun b1 => some (b1.1, b1.2)
theorem laws_markPart.mono : ∀ a0 a1 a2 k, LeO (laws_markPart.f k a0 a1 a2) (laws_markPart.f (k + 1) a0 a1 a2) := by
  intro a0 a1 a2 k
  unfold laws_markPart.f
  repeat' first
      | (with_reducible exact laws_markPacketS.mono _ _ _)
      | (with_reducible exact LeO.refl _)
      | (with_reducible exact LeO.none _)
      | (with_reducible refine LeO.ite ?_ ?_)
      | (with_reducible refine LeO.bind ?_ (fun _ => ?_))
      | exact laws_markPacketS.mono _ _ _
      | exact LeO.none _
      | refine LeO.ite ?_ ?_
      | refine LeO.bind ?_ (fun _ => ?_)
set_option maxHeartbeats 8000000 in
set_option maxRecDepth 100000 in
theorem laws_markPart.calls (k : Nat) (P0_0_ : Nat → Prop) (u9000_ : Value) (l0_0 : List (S28)) (a0_1 : Int) (a1 : Int) (r1 : Int) (r2 : List (S28)) (w0 w : World) (hB : Below w0.heap.size w0 w) (ho0_0 : Kd.S k28 28 w w0.heap.size P0_0_ u9000_ l0_0) (h : laws_markPart.f k l0_0 a0_1 a1 = some (r1, r2)) :
    Calls Try.prog 22 #[.agg #[u9000_, .int .i64 a0_1], .int .i64 a1] w fun e w' => e = .returned (.int .i64 r1) ∧ Kd.S k28 28 w' w0.heap.size P0_0_ u9000_ r2 ∧ Below w0.heap.size w0 w' ∧ Kept w w' (fun k_ => P0_0_ k_) := by
  unfold laws_markPart.f at h
  obtain ⟨⟨t1, s1⟩, A10, h⟩ := Option.bind_eq_some_iff.mp h
  (try dsimp only at A10 h)
  have A1 := Aside0.mk A10; clear A10
  simp only [Option.some.injEq, Prod.mk.injEq] at h
  obtain ⟨rfl, rfl⟩ := h
  have HK := Aside0.mk (Kept.refl w (fun k_ => P0_0_ k_))
  have HB := Aside0.mk hB; clear hB
  have HO0 := Aside0.mk ho0_0; clear ho0_0
  obtain ⟨Av0, cv0, ev0⟩ := Kd.S_slice HO0.out
  subst ev0
  go_enter Try.func22, Try.ntmps22
  go_wp2_with (first | ((with_reducible refine gate_dst (N := 2) rfl ?_); refine box_ (N := 2) (cs := #[.slice Av0 l0_0.length cv0, .int .i64 a0_1]) (t := 25) (fun gb hg w1 hbox hb => ?_); replace HO0 := Aside0.mk (Kd.S_below (kS_ HO0.out) hb); replace HK := Aside0.mk (Kept.below HK.out hb); replace HB := (bs_ HB hb); have BK := Aside0.mk hbox; clear hb hbox hg; have hc0 := bc_ BK 0) | ((with_reducible refine gate_callee (f := 56) rfl ?_); refine goesL_ (some 8) rfl rfl Try.func56 (by kernel_rfl) rfl #[.slice Av0 l0_0.length cv0, .int .i64 a1] rfl ar_ ?_; refine (laws_markPacketS.calls k (fun k_ => P0_0_ k_ ∧ w0.heap.size ≤ k_ ∧ k_ < w1.heap.size ∧ ∃ q, q ∈ 28 :: k28.E ∧ ∃ cells, w1.heap[k_]? = some (.cells cells q (0, 0))) _ _ _ t1 s1 w0 w1 HB.out (Kd.S_bound HO0.out) A1.out).mono ?_; rintro e w2 ⟨rfl, hy, hb, hkp⟩; refine ⟨_, rfl, ?_⟩; have n0_ : Aside0 (Kd.S k28 28 w2 w0.heap.size P0_0_ (.slice Av0 l0_0.length cv0) s1) := ⟨Kd.S_mono hy (fun _ h_ => h_.1)⟩; replace BK := Aside0.mk (blk_keptT BK.out hkp (by decide)); replace HB := Aside0.mk hb; replace HK := Aside0.mk (Kept.then_ (S := (fun k_ => P0_0_ k_)) HK.out hkp (fun k_ h_ => .inl (h_.1))); clear hy hb hkp hc0; replace HO0 := n0_; clear n0_))
  go_ret
  exact ⟨rfl, kS_ HO0.out, hbA_ HB.out, by repeat (first | (with_reducible first | exact HK.out | apply Kept.alloc | apply Kept.drewN | apply Kept.drew) | exact HK.out)⟩
def laws_markPacket.f (k : Nat) (a0_0 : Int) (a0_1 : Int) (a0_2 : Int) (a0_3 : Int) (a0_4 : Int) (a0_5 : Int) (a0_6 : Bool) (a0_7 : Bool) (l0_8 : List Int) (a1 : Int) : Option (Int × List Int) := (laws_markByteS.f k l0_8 a1).bind fun bt257 => (some (bt257.1, bt257.2))
theorem laws_markPacket.mono : ∀ a0 a1 a2 a3 a4 a5 a6 a7 a8 a9 k, LeO (laws_markPacket.f k a0 a1 a2 a3 a4 a5 a6 a7 a8 a9) (laws_markPacket.f (k + 1) a0 a1 a2 a3 a4 a5 a6 a7 a8 a9) := by
 intro a0 a1 a2 a3 a4 a5 a6 a7 a8 a9 k
 unfold laws_markPacket.f
 repeat' first | (with_reducible first | apply laws_markByteS.mono | exact LeO.refl _ | exact LeO.none _ | refine LeO.ite ?_ ?_ | refine LeO.bind ?_ fun _ => ?_) | apply laws_markByteS.mono | exact LeO.none _ | refine LeO.ite ?_ ?_ | refine LeO.bind ?_ fun _ => ?_
set_option maxHeartbeats 8000000 in
set_option maxRecDepth 100000 in
theorem laws_markPacket.calls (k : Nat) (a0_0 : Int) (a0_1 : Int) (a0_2 : Int) (a0_3 : Int) (a0_4 : Int) (a0_5 : Int) (a0_6 : Bool) (a0_7 : Bool) (P0_8_ : Nat → Prop) (u9000_ : Value) (l0_8 : List Int) (a1 : Int) (r1 : Int) (r2 : List Int) (w0 w : World) (hB : Below w0.heap.size w0 w) (ho0_8 : Kd.R (Kd.int .u8) 5 w w0.heap.size P0_8_ u9000_ l0_8) (h : laws_markPacket.f k a0_0 a0_1 a0_2 a0_3 a0_4 a0_5 a0_6 a0_7 l0_8 a1 = some (r1, r2)) :
  Calls Try.prog 23 #[.agg #[.int .i64 a0_0, .int .i64 a0_1, .int .i64 a0_2, .int .i64 a0_3, .int .i64 a0_4, .int .i64 a0_5, .bool a0_6, .bool a0_7, u9000_], .int .i64 a1] w fun e w' => e = .returned (.int .i64 r1) ∧ Kd.R (Kd.int .u8) 5 w' w0.heap.size (fun k_ => (P0_8_ k_ ∨ w.heap.size ≤ k_)) u9000_ r2 ∧ Below w0.heap.size w0 w' ∧ Kept w w' (fun k_ => P0_8_ k_) := by
 have hu28 := Try.underlying28
 have HO0_8 := Aside0.mk (show Kd.R (Kd.int .u8) 5 w w0.heap.size (fun k_ => (P0_8_ k_ ∨ w.heap.size ≤ k_)) u9000_ l0_8 from Kd.R_mono ho0_8 (fun k_ hk => (.inl hk)))
 have HK := Aside0.mk (Kept.refl w (fun k_ => P0_8_ k_))
 have HW0 := Aside0.mk hB.size; have HB := Aside0.mk hB; clear hB
 have H : ((laws_markByteS.f k l0_8 a1).bind fun bt257 => (some (bt257.1, bt257.2))) = some (r1, r2) := h
 clear h
 replace H := Option.bind_eq_some_iff.mp H
 obtain ⟨⟨t257, t258⟩, A30, H⟩ := H
 (try dsimp only at H)
 have A3 := Aside0.mk A30; clear A30
 simp only [Option.some.injEq, Prod.mk.injEq] at H
 obtain ⟨rfl, rfl⟩ := H
 obtain ⟨Ao4, co4, eo4⟩ := Kd.R_slice HO0_8.out
 subst eo4
 go_enter Try.func23, Try.ntmps23
 go_wp2_with (first | ((with_reducible refine gate_dst (N := 2) rfl ?_); refine box_ (N := 2) (cs := #[.int .i64 a0_0, .int .i64 a0_1, .int .i64 a0_2, .int .i64 a0_3, .int .i64 a0_4, .int .i64 a0_5, .bool a0_6, .bool a0_7, .slice Ao4 l0_8.length co4]) (t := 28) (fun gb256 hg w5 hbox hb => ?_); replace HO0_8 := Aside0.mk (Kd.R_below (kR_ HO0_8.out) hb); have BK256 := Aside0.mk (hbox); have GW256 := Aside0.mk ((by rw [hg]; exact (by first | exact HK.out.1 | exact (show Kept w _ (fun k_ => P0_8_ k_) from by repeat (first | (with_reducible first | exact HK.out | apply Kept.alloc | apply Kept.drewN | apply Kept.drew) | exact HK.out)).1) : w.heap.size ≤ gb256)); replace HK := Aside0.mk (Kept.below (S := (fun k_ => P0_8_ k_)) (by repeat (first | (with_reducible first | exact HK.out | apply Kept.alloc | apply Kept.drewN | apply Kept.drew) | exact HK.out)) hb); have GE256 := ge_ hg HB; replace HB := (bs_ HB hb); clear hb hbox hg; have Z6 := zz9 BK256) | ((with_reducible refine gate_callee (f := 30) rfl ?_); refine goesL_ (some 8) rfl rfl Try.func30 (by kernel_rfl) rfl #[.slice Ao4 l0_8.length co4, .int .i64 a1] rfl ar_ ?_; (with_reducible refine (laws_markByteS.calls k (fun k_ => some k_ = (.slice Ao4 l0_8.length co4 : Value).ownBlock) (.slice Ao4 l0_8.length co4) l0_8 a1 t257 t258 w0 _ ?side1 ?side2 A3.out).mono ?_); (case side1 => exact hbA_ HB.out); (case side2 => exact Kd.R_tight rfl HO0_8.out); rintro e w7 ⟨rfl, hy0, hb, hkp⟩; refine ⟨_, rfl, ?_⟩; replace BK256 := Aside0.mk (blk_kept (g := gb256) (o := .cells #[.int .i64 a0_0, .int .i64 a0_1, .int .i64 a0_2, .int .i64 a0_3, .int .i64 a0_4, .int .i64 a0_5, .bool a0_6, .bool a0_7, .slice Ao4 l0_8.length co4] 28 (0, 0)) (kb_ BK256.out) hkp (fun hs_ => (fun e_ => (Kd.R_ne HO0_8.out BK256.out (by decide)) e_) hs_)); replace HK := Aside0.mk (Kept.then_ (S := (fun k_ => P0_8_ k_)) (by repeat (first | (with_reducible first | exact HK.out | apply Kept.alloc | apply Kept.drewN | apply Kept.drew | refine Kept.setCell ?_ (.inr GW256.out) _) | exact HK.out)) hkp (fun k_ hs_ => (fun e_ => (HO0_8.out.1 k_ e_.symm)) hs_)); replace HO0_8 := Aside0.mk (Kd.R_reok rfl hy0 (fun k_ e_ => HO0_8.out.1 k_ e_)); replace HB := Aside0.mk (hb); (try clear hb); (try clear hkp); (try clear hy0)))
 go_ret
 exact ⟨by first | rfl | (simp [errW_none, errW_some] <;> rfl) | (simp [*, errW_none, errW_some] <;> rfl), kR_ HO0_8.out, hbA_ HB.out, by repeat (first | (with_reducible first | exact HK.out | apply Kept.alloc | apply Kept.drewN | apply Kept.drew | refine Kept.setCell ?_ (.inr GW256.out) _) | exact HK.out)⟩
def laws_heldByteS.l0 : Nat → List Int → Int → Int → Option (Int)
 | 0, _, _, _ => none
 | k + 1, x0, x1, x5 => if x5 < (x0.length : Int) then (if 0 ≤ x5 then (if (rd x0 x5) = ((x1) % 256) then (laws_heldByteS.l0 k x0 (wrap64 (x1 + 1)) (wrap64 (x5 + 1))) else (some (-1))) else (none)) else (some x1)
def laws_heldByteS.f (k : Nat) (l0 : List Int) (a1 : Int) : Option (Int) := laws_heldByteS.l0 k l0 a1 0
theorem laws_heldByteS.mono_l : ∀ k, (∀ y0 y1 y2, LeO (laws_heldByteS.l0 k y0 y1 y2) (laws_heldByteS.l0 (k + 1) y0 y1 y2))
 | 0 => fun _ _ _ r h => by simp [laws_heldByteS.l0] at h
 | k + 1 => by
  have ih0 := laws_heldByteS.mono_l k
  ·intro y0 y1 y2
   unfold laws_heldByteS.l0
   repeat' first | (with_reducible first | apply ih0 | exact LeO.refl _ | exact LeO.none _ | refine LeO.ite ?_ ?_ | refine LeO.bind ?_ fun _ => ?_) | apply ih0 | exact LeO.none _ | refine LeO.ite ?_ ?_ | refine LeO.bind ?_ fun _ => ?_
theorem laws_heldByteS.mono : ∀ a0 a1 k, LeO (laws_heldByteS.f k a0 a1) (laws_heldByteS.f (k + 1) a0 a1) := by
 intro a0 a1 k
 have ih0 := laws_heldByteS.mono_l k
 unfold laws_heldByteS.f
 repeat' first | (with_reducible first | apply ih0 | exact LeO.refl _ | exact LeO.none _ | refine LeO.ite ?_ ?_ | refine LeO.bind ?_ fun _ => ?_) | apply ih0 | exact LeO.none _ | refine LeO.ite ?_ ?_ | refine LeO.bind ?_ fun _ => ?_
set_option maxHeartbeats 8000000 in
set_option maxRecDepth 100000 in
theorem laws_heldByteS.calls (k : Nat) (A0 : Option Addr) (c0 : Nat) (l0 : List Int) (a1 : Int) (r : Int) (w : World) (hr0 : Kd.C (Kd.int .u8) w A0 l0.length l0) (hc0 : l0.length ≤ c0) (h : laws_heldByteS.f k l0 a1 = some r) :
  Calls Try.prog 57 #[.slice A0 l0.length c0, .int .i64 a1] w fun e w' => e = .returned (.int .i64 r) ∧ Drawn0 w w' := by
 have HR0 := Aside0.mk hr0; have HC0 := Aside0.mk hc0; clear hr0 hc0
 have H : (laws_heldByteS.l0 k l0 a1 0) = some r := h
 clear h
 have H' := Aside0.mk H
 clear H
 go_enter Try.func57, Try.ntmps57
 go_wp2
 go_loopg [1, 5] k (fun kq v1 v5 w' => ∃ (x1_1 : Int) (x5_1 : Int), v1 = .int .i64 x1_1 ∧ v5 = .int .i64 x5_1 ∧ Aside0 (laws_heldByteS.l0 kq l0 x1_1 x5_1 = some r) ∧ Aside0 (kq ≤ k) ∧ Drawn0 w w')
 case atStart => exact ⟨(a1), (0), (by first | rfl | (simp; done) | (simp [*]; done)), (by first | rfl | (simp; done) | (simp [*]; done)), H', ⟨Nat.le_refl _⟩, by repeat (first | exact Drawn0.refl _ | apply Drawn0.step)⟩
 case round =>
  clear H'; (try clear p2)
  obtain ⟨x1_1, x5_1, rfl, rfl, HA, HK1, ⟨m1, rfl⟩⟩ := hrel
  cases gk with
  | zero => exact absurd HA.out (by simp [laws_heldByteS.l0])
  | succ k1 =>
   have H := HA.out; clear HA
   simp only [laws_heldByteS.l0] at H
   by_cases c3 : x5_1 < (l0.length : Int)
   ·rw [if_pos c3] at H
    have c3b0 : decide (x5_1 < (l0.length : Int)) = true := decide_eq_true c3
    clear c3
    by_cases c4 : 0 ≤ x5_1
    ·rw [if_pos c4] at H
     have c4b0 : decide (0 ≤ x5_1) = true := decide_eq_true c4
     clear c4
     by_cases c5 : (rd l0 x5_1) = ((x1_1) % 256)
     ·rw [if_pos c5] at H
      have c5b0 : ((rd l0 x5_1) == ((x1_1) % 256)) = true := beq_iff_eq.mpr c5
      have c5b1 : ((rd l0 x5_1) != ((x1_1) % 256)) = false := bne_eq_false_iff_eq.mpr c5
      clear c5
      have H' := Aside0.mk H
      clear H
      have p259 : 0 ≤ (x5_1 : Int) := of_decide_eq_true (by first | (with_reducible assumption) | assumption)
      have q259 : x5_1 < (l0.length : Int) := of_decide_eq_true (by first | (with_reducible assumption) | assumption)
      obtain ⟨ad259, e259, hx259_0⟩ := Kd.at_int HR0.out x5_1 p259 q259
      cases e259
      replace p259 := eq_true p259
      replace q259 := eq_true q259
      go_wp2
      go_roundg k1
      case measure => have := HK1.out; omega
      case rel => exact ⟨(wrap64 (x1_1 + 1)), (wrap64 (x5_1 + 1)), (by first | rfl | (simp; done) | (simp [*]; done)), (by first | rfl | (simp; done) | (simp [*]; done)), H', ⟨by have := HK1.out; omega⟩, by repeat (first | exact Drawn0.refl _ | apply Drawn0.step)⟩
     ·rw [if_neg c5] at H
      have c5b0 : ((rd l0 x5_1) == ((x1_1) % 256)) = false := beq_eq_false_iff_ne.mpr c5
      have c5b1 : ((rd l0 x5_1) != ((x1_1) % 256)) = true := bne_iff_ne.mpr c5
      obtain rfl := Option.some.inj H
      have p259 : 0 ≤ (x5_1 : Int) := of_decide_eq_true (by first | (with_reducible assumption) | assumption)
      have q259 : x5_1 < (l0.length : Int) := of_decide_eq_true (by first | (with_reducible assumption) | assumption)
      obtain ⟨ad259, e259, hx259_0⟩ := Kd.at_int HR0.out x5_1 p259 q259
      cases e259
      replace p259 := eq_true p259
      replace q259 := eq_true q259
      go_wp2
      go_ret
      exact ⟨by first | rfl | (simp; done) | (simp [*]; done), by repeat (first | exact Drawn0.refl _ | apply Drawn0.step)⟩
    ·rw [if_neg c4] at H
     exact absurd H (by simp)
   ·rw [if_neg c3] at H
    have c3b0 : decide (x5_1 < (l0.length : Int)) = false := decide_eq_false c3
    clear c3
    obtain rfl := Option.some.inj H
    go_wp2
    go_ret
    exact ⟨by first | rfl | (simp; done) | (simp [*]; done), by repeat (first | exact Drawn0.refl _ | apply Drawn0.step)⟩
def laws_heldPacket.f (k : Nat) (a0_0 : Int) (a0_1 : Int) (a0_2 : Int) (a0_3 : Int) (a0_4 : Int) (a0_5 : Int) (a0_6 : Bool) (a0_7 : Bool) (l0_8 : List Int) (a1 : Int) : Option (Int) := (laws_heldByteS.f k l0_8 a1).bind fun t261 => (if t261 < 0 then (some (-1)) else (some t261))
theorem laws_heldPacket.mono : ∀ a0 a1 a2 a3 a4 a5 a6 a7 a8 a9 k, LeO (laws_heldPacket.f k a0 a1 a2 a3 a4 a5 a6 a7 a8 a9) (laws_heldPacket.f (k + 1) a0 a1 a2 a3 a4 a5 a6 a7 a8 a9) := by
 intro a0 a1 a2 a3 a4 a5 a6 a7 a8 a9 k
 unfold laws_heldPacket.f
 repeat' first | (with_reducible first | apply laws_heldByteS.mono | exact LeO.refl _ | exact LeO.none _ | refine LeO.ite ?_ ?_ | refine LeO.bind ?_ fun _ => ?_) | apply laws_heldByteS.mono | exact LeO.none _ | refine LeO.ite ?_ ?_ | refine LeO.bind ?_ fun _ => ?_
set_option maxHeartbeats 8000000 in
set_option maxRecDepth 100000 in
theorem laws_heldPacket.calls (k : Nat) (a0_0 : Int) (a0_1 : Int) (a0_2 : Int) (a0_3 : Int) (a0_4 : Int) (a0_5 : Int) (a0_6 : Bool) (a0_7 : Bool) (A0_8 : Option Addr) (c0_8 : Nat) (l0_8 : List Int) (a1 : Int) (r : Int) (w : World) (hr0_8 : Kd.C (Kd.int .u8) w A0_8 l0_8.length l0_8) (hc0_8 : l0_8.length ≤ c0_8) (h : laws_heldPacket.f k a0_0 a0_1 a0_2 a0_3 a0_4 a0_5 a0_6 a0_7 l0_8 a1 = some r) :
  Calls Try.prog 24 #[.agg #[.int .i64 a0_0, .int .i64 a0_1, .int .i64 a0_2, .int .i64 a0_3, .int .i64 a0_4, .int .i64 a0_5, .bool a0_6, .bool a0_7, .slice A0_8 l0_8.length c0_8], .int .i64 a1] w fun e w' => e = .returned (.int .i64 r) ∧ Below w.heap.size w w' := by
 have hu28 := Try.underlying28; have HR0_8 := Aside0.mk hr0_8; have HC0_8 := Aside0.mk hc0_8; clear hr0_8 hc0_8
 have HB := Aside0.mk (Below.refl w.heap.size w)
 have H : ((laws_heldByteS.f k l0_8 a1).bind fun t261 => (if t261 < 0 then (some (-1)) else (some t261))) = some r := h
 clear h
 replace H := Option.bind_eq_some_iff.mp H
 obtain ⟨t261, A30, H⟩ := H
 (try dsimp only at H)
 have A3 := Aside0.mk A30; clear A30
 by_cases c4 : t261 < 0
 ·rw [if_pos c4] at H
  have c4b0 : decide (t261 < 0) = true := decide_eq_true c4
  clear c4
  obtain rfl := Option.some.inj H
  go_enter Try.func24, Try.ntmps24
  go_wp2_with (first | ((with_reducible refine gate_dst (N := 2) rfl ?_); refine box_ (N := 2) (cs := #[.int .i64 a0_0, .int .i64 a0_1, .int .i64 a0_2, .int .i64 a0_3, .int .i64 a0_4, .int .i64 a0_5, .bool a0_6, .bool a0_7, .slice A0_8 l0_8.length c0_8]) (t := 28) (fun gb260 hg w5 hbox hb => ?_); have BK260 := Aside0.mk (hbox); have GW260 := ge_ hg HB; have GE260 := ge_ hg HB; replace HB := (bs_ HB hb); clear hb hbox hg; have Z6 := zz9 BK260) | ((with_reducible refine gate_callee (f := 57) rfl ?_); refine goesL_ (some 8) rfl rfl Try.func57 (by kernel_rfl) rfl #[.slice A0_8 l0_8.length c0_8, .int .i64 a1] rfl ar_ ?_; (with_reducible refine (laws_heldByteS.calls k _ _ l0_8 a1 t261 _ ?side1 ?side2 A3.out).mono ?_); (case side1 => exact kC_ (Kd.C_below HR0_8.out HB.out)); (case side2 => exact HC0_8.out); rintro e w' ⟨rfl, ⟨nd, rfl⟩⟩; refine ⟨_, rfl, ?_⟩))
  go_ret
  exact ⟨by first | rfl | (simp [errW_none, errW_some] <;> rfl) | (simp [*, errW_none, errW_some] <;> rfl), hbA_ HB.out⟩
 ·rw [if_neg c4] at H
  have c4b0 : decide (t261 < 0) = false := decide_eq_false c4
  clear c4
  obtain rfl := Option.some.inj H
  go_enter Try.func24, Try.ntmps24
  go_wp2_with (first | ((with_reducible refine gate_dst (N := 2) rfl ?_); refine box_ (N := 2) (cs := #[.int .i64 a0_0, .int .i64 a0_1, .int .i64 a0_2, .int .i64 a0_3, .int .i64 a0_4, .int .i64 a0_5, .bool a0_6, .bool a0_7, .slice A0_8 l0_8.length c0_8]) (t := 28) (fun gb260 hg w7 hbox hb => ?_); have BK260 := Aside0.mk (hbox); have GW260 := ge_ hg HB; have GE260 := ge_ hg HB; replace HB := (bs_ HB hb); clear hb hbox hg; have Z8 := zz9 BK260) | ((with_reducible refine gate_callee (f := 57) rfl ?_); refine goesL_ (some 8) rfl rfl Try.func57 (by kernel_rfl) rfl #[.slice A0_8 l0_8.length c0_8, .int .i64 a1] rfl ar_ ?_; (with_reducible refine (laws_heldByteS.calls k _ _ l0_8 a1 t261 _ ?side1 ?side2 A3.out).mono ?_); (case side1 => exact kC_ (Kd.C_below HR0_8.out HB.out)); (case side2 => exact HC0_8.out); rintro e w' ⟨rfl, ⟨nd, rfl⟩⟩; refine ⟨_, rfl, ?_⟩))
  go_ret
  exact ⟨by first | rfl | (simp [errW_none, errW_some] <;> rfl) | (simp [*, errW_none, errW_some] <;> rfl), hbA_ HB.out⟩
def laws_FnExactPartWhole.f (k : Nat) (l0_0 : List (S115)) (a0_1 : Int) : Option (Bool) := (laws_szPart.f k l0_0 a0_1 1048576).bind fun t263 => (if t263 < 0 then (some true) else ((laws_toPart.f k l0_0 a0_1).bind fun bt264 => ((spec_PartWhole.f k bt264.1 bt264.2).bind fun bt268 => ((laws_toPart.f k l0_0 a0_1).bind fun bt281 => ((impl_PartWhole.f k bt281.1 bt281.2).bind fun bt286 => ((laws_eqPacket.f k bt286.1 bt286.2.1 bt286.2.2.1 bt286.2.2.2.1 bt286.2.2.2.2.1 bt286.2.2.2.2.2.1 bt286.2.2.2.2.2.2.1 bt286.2.2.2.2.2.2.2.1 bt286.2.2.2.2.2.2.2.2.1 bt268.1 bt268.2.1 bt268.2.2.1 bt268.2.2.2.1 bt268.2.2.2.2.1 bt268.2.2.2.2.2.1 bt268.2.2.2.2.2.2.1 bt268.2.2.2.2.2.2.2.1 bt268.2.2.2.2.2.2.2.2.1).bind fun t299 => (if t299 = true then (if (bt286.2.2.2.2.2.2.2.2.2 != bt268.2.2.2.2.2.2.2.2.2) = true then (some false) else ((laws_toPart.f k l0_0 a0_1).bind fun bt300 => ((laws_eqPart.f k bt281.1 bt281.2 bt300.1 bt300.2).bind fun t304 => (if t304 = true then ((laws_markPart.f k bt281.1 bt281.2 1).bind fun bt305 => (if bt305.1 < 0 then (some false) else ((laws_eqPacket.f k bt286.1 bt286.2.1 bt286.2.2.1 bt286.2.2.2.1 bt286.2.2.2.2.1 bt286.2.2.2.2.2.1 bt286.2.2.2.2.2.2.1 bt286.2.2.2.2.2.2.2.1 bt286.2.2.2.2.2.2.2.2.1 bt268.1 bt268.2.1 bt268.2.2.1 bt268.2.2.2.1 bt268.2.2.2.2.1 bt268.2.2.2.2.2.1 bt268.2.2.2.2.2.2.1 bt268.2.2.2.2.2.2.2.1 bt268.2.2.2.2.2.2.2.2.1).bind fun t307 => (if t307 = true then ((laws_markPacket.f k bt286.1 bt286.2.1 bt286.2.2.1 bt286.2.2.2.1 bt286.2.2.2.2.1 bt286.2.2.2.2.2.1 bt286.2.2.2.2.2.2.1 bt286.2.2.2.2.2.2.2.1 bt286.2.2.2.2.2.2.2.2.1 1).bind fun bt308 => ((laws_heldPacket.f k bt286.1 bt286.2.1 bt286.2.2.1 bt286.2.2.2.1 bt286.2.2.2.2.1 bt286.2.2.2.2.2.1 bt286.2.2.2.2.2.2.1 bt286.2.2.2.2.2.2.2.1 bt308.2 1).bind fun t310 => (if t310 < 0 then (some false) else (if t310 = bt308.1 then ((laws_toPart.f k l0_0 a0_1).bind fun bt311 => ((impl_PartWhole.f k bt311.1 bt311.2).bind fun bt315 => ((laws_eqPacket.f k bt315.1 bt315.2.1 bt315.2.2.1 bt315.2.2.2.1 bt315.2.2.2.2.1 bt315.2.2.2.2.2.1 bt315.2.2.2.2.2.2.1 bt315.2.2.2.2.2.2.2.1 bt315.2.2.2.2.2.2.2.2.1 bt268.1 bt268.2.1 bt268.2.2.1 bt268.2.2.2.1 bt268.2.2.2.2.1 bt268.2.2.2.2.2.1 bt268.2.2.2.2.2.2.1 bt268.2.2.2.2.2.2.2.1 bt268.2.2.2.2.2.2.2.2.1).bind fun t328 => (if t328 = true then (if (bt315.2.2.2.2.2.2.2.2.2 != bt268.2.2.2.2.2.2.2.2.2) = true then (some false) else ((laws_heldPacket.f k bt286.1 bt286.2.1 bt286.2.2.1 bt286.2.2.2.1 bt286.2.2.2.2.1 bt286.2.2.2.2.2.1 bt286.2.2.2.2.2.2.1 bt286.2.2.2.2.2.2.2.1 bt308.2 1).bind fun t329 => (if t329 < 0 then (some false) else (if t329 = bt308.1 then (some true) else (some false))))) else (some false))))) else (some false))))) else (some false))))) else (some false))))) else (some false))))))))
theorem laws_FnExactPartWhole.mono : ∀ a0 a1 k, LeO (laws_FnExactPartWhole.f k a0 a1) (laws_FnExactPartWhole.f (k + 1) a0 a1) := by
 intro a0 a1 k
 unfold laws_FnExactPartWhole.f
 repeat' first | (with_reducible first | apply impl_PartWhole.mono | apply laws_eqPacket.mono | apply laws_eqPart.mono | apply laws_heldPacket.mono | apply laws_markPacket.mono | apply laws_markPart.mono | apply laws_szPart.mono | apply laws_toPart.mono | apply spec_PartWhole.mono | exact LeO.refl _ | exact LeO.none _ | refine LeO.ite ?_ ?_ | refine LeO.bind ?_ fun _ => ?_) | apply impl_PartWhole.mono | apply laws_eqPacket.mono | apply laws_eqPart.mono | apply laws_heldPacket.mono | apply laws_markPacket.mono | apply laws_markPart.mono | apply laws_szPart.mono | apply laws_toPart.mono | apply spec_PartWhole.mono | exact LeO.none _ | refine LeO.ite ?_ ?_ | refine LeO.bind ?_ fun _ => ?_
set_option maxHeartbeats 8000000 in
set_option maxRecDepth 100000 in
theorem laws_FnExactPartWhole.calls (k : Nat) (A0_0 : Option Addr) (c0_0 : Nat) (l0_0 : List (S115)) (a0_1 : Int) (r : Bool) (w : World) (hr0_0 : Kd.C k115 w A0_0 l0_0.length l0_0) (hc0_0 : l0_0.length ≤ c0_0) (h : laws_FnExactPartWhole.f k l0_0 a0_1 = some r) (hlw : r = true) :
  Calls Try.prog 5 #[.agg #[.slice A0_0 l0_0.length c0_0, .int .i64 a0_1]] w fun e w' => e = .returned (.bool r) ∧ Below w.heap.size w w' := by
 have hu43 := Try.underlying43; have hu28 := Try.underlying28; have hu25 := Try.underlying25; have HLW := Aside0.mk hlw; clear hlw
 have HZ := Aside0.mk (Nat.le_refl w.heap.size)
 have HR0_0 := Aside0.mk hr0_0; have HC0_0 := Aside0.mk hc0_0; clear hr0_0 hc0_0
 have HB := Aside0.mk (Below.refl w.heap.size w)
 have H : ((laws_szPart.f k l0_0 a0_1 1048576).bind fun t263 => (if t263 < 0 then (some true) else ((laws_toPart.f k l0_0 a0_1).bind fun bt264 => ((spec_PartWhole.f k bt264.1 bt264.2).bind fun bt268 => ((laws_toPart.f k l0_0 a0_1).bind fun bt281 => ((impl_PartWhole.f k bt281.1 bt281.2).bind fun bt286 => ((laws_eqPacket.f k bt286.1 bt286.2.1 bt286.2.2.1 bt286.2.2.2.1 bt286.2.2.2.2.1 bt286.2.2.2.2.2.1 bt286.2.2.2.2.2.2.1 bt286.2.2.2.2.2.2.2.1 bt286.2.2.2.2.2.2.2.2.1 bt268.1 bt268.2.1 bt268.2.2.1 bt268.2.2.2.1 bt268.2.2.2.2.1 bt268.2.2.2.2.2.1 bt268.2.2.2.2.2.2.1 bt268.2.2.2.2.2.2.2.1 bt268.2.2.2.2.2.2.2.2.1).bind fun t299 => (if t299 = true then (if (bt286.2.2.2.2.2.2.2.2.2 != bt268.2.2.2.2.2.2.2.2.2) = true then (some false) else ((laws_toPart.f k l0_0 a0_1).bind fun bt300 => ((laws_eqPart.f k bt281.1 bt281.2 bt300.1 bt300.2).bind fun t304 => (if t304 = true then ((laws_markPart.f k bt281.1 bt281.2 1).bind fun bt305 => (if bt305.1 < 0 then (some false) else ((laws_eqPacket.f k bt286.1 bt286.2.1 bt286.2.2.1 bt286.2.2.2.1 bt286.2.2.2.2.1 bt286.2.2.2.2.2.1 bt286.2.2.2.2.2.2.1 bt286.2.2.2.2.2.2.2.1 bt286.2.2.2.2.2.2.2.2.1 bt268.1 bt268.2.1 bt268.2.2.1 bt268.2.2.2.1 bt268.2.2.2.2.1 bt268.2.2.2.2.2.1 bt268.2.2.2.2.2.2.1 bt268.2.2.2.2.2.2.2.1 bt268.2.2.2.2.2.2.2.2.1).bind fun t307 => (if t307 = true then ((laws_markPacket.f k bt286.1 bt286.2.1 bt286.2.2.1 bt286.2.2.2.1 bt286.2.2.2.2.1 bt286.2.2.2.2.2.1 bt286.2.2.2.2.2.2.1 bt286.2.2.2.2.2.2.2.1 bt286.2.2.2.2.2.2.2.2.1 1).bind fun bt308 => ((laws_heldPacket.f k bt286.1 bt286.2.1 bt286.2.2.1 bt286.2.2.2.1 bt286.2.2.2.2.1 bt286.2.2.2.2.2.1 bt286.2.2.2.2.2.2.1 bt286.2.2.2.2.2.2.2.1 bt308.2 1).bind fun t310 => (if t310 < 0 then (some false) else (if t310 = bt308.1 then ((laws_toPart.f k l0_0 a0_1).bind fun bt311 => ((impl_PartWhole.f k bt311.1 bt311.2).bind fun bt315 => ((laws_eqPacket.f k bt315.1 bt315.2.1 bt315.2.2.1 bt315.2.2.2.1 bt315.2.2.2.2.1 bt315.2.2.2.2.2.1 bt315.2.2.2.2.2.2.1 bt315.2.2.2.2.2.2.2.1 bt315.2.2.2.2.2.2.2.2.1 bt268.1 bt268.2.1 bt268.2.2.1 bt268.2.2.2.1 bt268.2.2.2.2.1 bt268.2.2.2.2.2.1 bt268.2.2.2.2.2.2.1 bt268.2.2.2.2.2.2.2.1 bt268.2.2.2.2.2.2.2.2.1).bind fun t328 => (if t328 = true then (if (bt315.2.2.2.2.2.2.2.2.2 != bt268.2.2.2.2.2.2.2.2.2) = true then (some false) else ((laws_heldPacket.f k bt286.1 bt286.2.1 bt286.2.2.1 bt286.2.2.2.1 bt286.2.2.2.2.1 bt286.2.2.2.2.2.1 bt286.2.2.2.2.2.2.1 bt286.2.2.2.2.2.2.2.1 bt308.2 1).bind fun t329 => (if t329 < 0 then (some false) else (if t329 = bt308.1 then (some true) else (some false))))) else (some false))))) else (some false))))) else (some false))))) else (some false))))) else (some false))))))))) = some r := h
 clear h
 replace H := Option.bind_eq_some_iff.mp H
 obtain ⟨t263, A20, H⟩ := H
 (try dsimp only at H)
 have A2 := Aside0.mk A20; clear A20
 by_cases c3 : t263 < 0
 ·rw [if_pos c3] at H
  have c3b0 : decide (t263 < 0) = true := decide_eq_true c3
  clear c3
  obtain rfl := Option.some.inj H
  go_enter Try.func5, Try.ntmps5
  go_wp2_with (first | ((with_reducible refine gate_dst (N := 1) rfl ?_); refine box_ (N := 1) (cs := #[.slice A0_0 l0_0.length c0_0, .int .i64 a0_1]) (t := 43) (fun gb262 hg w4 hbox hb => ?_); have BK262 := Aside0.mk (hbox); have GW262 := ge_ hg HB; have GE262 := ge_ hg HB; replace HB := (bs_ HB hb); have LTb262 := Aside0.mk (zl_ HZ ⟨hg⟩); replace HZ := Aside0.mk ((show gb262 + 1 ≤ w4.heap.size from blk_lt hbox)); clear hb hbox hg; have Z5 := zz2 BK262) | ((with_reducible refine gate_callee (f := 18) rfl ?_); refine goesL_ (some 16) rfl rfl Try.func18 (by kernel_rfl) rfl #[.agg #[.slice A0_0 l0_0.length c0_0, .int .i64 a0_1], .int .i64 1048576] rfl ar_ ?_; (with_reducible refine (laws_szPart.calls k _ _ l0_0 a0_1 1048576 t263 _ ?side1 ?side2 A2.out).mono ?_); (case side1 => exact kC_ (Kd.C_below HR0_0.out HB.out)); (case side2 => exact HC0_0.out); rintro e w6 ⟨rfl, hb⟩; refine ⟨_, rfl, ?_⟩; replace BK262 := (bbA_ BK262 hb); replace HB := (bs_ HB hb); replace HZ := Aside0.mk (zs_ HZ hb); (try clear hb); (try clear hb2); (try clear hk); (try clear hi)))
  go_ret
  exact ⟨by first | rfl | (simp [errW_none, errW_some] <;> rfl) | (simp [*, errW_none, errW_some] <;> rfl), hbA_ HB.out⟩
 ·rw [if_neg c3] at H
  have c3b0 : decide (t263 < 0) = false := decide_eq_false c3
  clear c3
  replace H := Option.bind_eq_some_iff.mp H
  obtain ⟨⟨t264, t267⟩, A70, H⟩ := H
  (try dsimp only at H)
  have A7 := Aside0.mk A70; clear A70
  replace H := Option.bind_eq_some_iff.mp H
  obtain ⟨⟨t268, t269, t270, t271, t272, t273, t274, t275, t276, t279⟩, A80, H⟩ := H
  (try dsimp only at H)
  have A8 := Aside0.mk A80; clear A80
  replace H := Option.bind_eq_some_iff.mp H
  obtain ⟨⟨t281, t284⟩, A90, H⟩ := H
  (try dsimp only at H)
  have A9 := Aside0.mk A90; clear A90
  replace H := Option.bind_eq_some_iff.mp H
  obtain ⟨⟨t286, t287, t288, t289, t290, t291, t292, t293, t294, t297⟩, A100, H⟩ := H
  (try dsimp only at H)
  have A10 := Aside0.mk A100; clear A100
  replace H := Option.bind_eq_some_iff.mp H
  obtain ⟨t299, A110, H⟩ := H
  (try dsimp only at H)
  have A11 := Aside0.mk A110; clear A110
  by_cases c12 : t299 = true
  ·subst c12
   rw [if_pos rfl] at H
   by_cases c13 : (t297 != t279) = true
   ·rw [if_pos c13] at H
    have c13b0 : (t297 != t279) = true := c13
    (try (have c13b1 : decide (t297 = t279) = false := by simpa using c13))
    (try (have c13b2 : (t297 == t279) = false := by simpa using c13))
    (try (have c13b3 : ¬ (t297 = t279) := by simpa using c13))
    clear c13
    exact absurd (Option.some.inj H) (by rw [HLW.out]; exact Bool.false_ne_true)
   ·rw [if_neg c13] at H
    have c13b0 : (t297 != t279) = false := by simpa using c13
    (try (have c13b1 : decide (t297 = t279) = true := by simpa using c13))
    (try (have c13b2 : (t297 == t279) = true := by simpa using c13))
    clear c13
    replace H := Option.bind_eq_some_iff.mp H
    obtain ⟨⟨t300, t303⟩, A140, H⟩ := H
    (try dsimp only at H)
    have A14 := Aside0.mk A140; clear A140
    replace H := Option.bind_eq_some_iff.mp H
    obtain ⟨t304, A150, H⟩ := H
    (try dsimp only at H)
    have A15 := Aside0.mk A150; clear A150
    by_cases c16 : t304 = true
    ·subst c16
     rw [if_pos rfl] at H
     replace H := Option.bind_eq_some_iff.mp H
     obtain ⟨⟨t305, t306⟩, A170, H⟩ := H
     (try dsimp only at H)
     have A17 := Aside0.mk A170; clear A170
     by_cases c18 : t305 < 0
     ·rw [if_pos c18] at H
      have c18b0 : decide (t305 < 0) = true := decide_eq_true c18
      clear c18
      exact absurd (Option.some.inj H) (by rw [HLW.out]; exact Bool.false_ne_true)
     ·rw [if_neg c18] at H
      have c18b0 : decide (t305 < 0) = false := decide_eq_false c18
      clear c18
      replace H := Option.bind_eq_some_iff.mp H
      obtain ⟨t307, A190, H⟩ := H
      (try dsimp only at H)
      have A19 := Aside0.mk A190; clear A190
      by_cases c20 : t307 = true
      ·subst c20
       rw [if_pos rfl] at H
       replace H := Option.bind_eq_some_iff.mp H
       obtain ⟨⟨t308, t309⟩, A210, H⟩ := H
       (try dsimp only at H)
       have A21 := Aside0.mk A210; clear A210
       replace H := Option.bind_eq_some_iff.mp H
       obtain ⟨t310, A220, H⟩ := H
       (try dsimp only at H)
       have A22 := Aside0.mk A220; clear A220
       by_cases c23 : t310 < 0
       ·rw [if_pos c23] at H
        have c23b0 : decide (t310 < 0) = true := decide_eq_true c23
        clear c23
        exact absurd (Option.some.inj H) (by rw [HLW.out]; exact Bool.false_ne_true)
       ·rw [if_neg c23] at H
        have c23b0 : decide (t310 < 0) = false := decide_eq_false c23
        clear c23
        by_cases c24 : t310 = t308
        ·rw [if_pos c24] at H
         have c24b0 : (t310 == t308) = true := beq_iff_eq.mpr c24
         have c24b1 : (t310 != t308) = false := bne_eq_false_iff_eq.mpr c24
         clear c24
         replace H := Option.bind_eq_some_iff.mp H
         obtain ⟨⟨t311, t314⟩, A250, H⟩ := H
         (try dsimp only at H)
         have A25 := Aside0.mk A250; clear A250
         replace H := Option.bind_eq_some_iff.mp H
         obtain ⟨⟨t315, t316, t317, t318, t319, t320, t321, t322, t323, t326⟩, A260, H⟩ := H
         (try dsimp only at H)
         have A26 := Aside0.mk A260; clear A260
         replace H := Option.bind_eq_some_iff.mp H
         obtain ⟨t328, A270, H⟩ := H
         (try dsimp only at H)
         have A27 := Aside0.mk A270; clear A270
         by_cases c28 : t328 = true
         ·subst c28
          rw [if_pos rfl] at H
          by_cases c29 : (t326 != t279) = true
          ·rw [if_pos c29] at H
           have c29b0 : (t326 != t279) = true := c29
           (try (have c29b1 : decide (t326 = t279) = false := by simpa using c29))
           (try (have c29b2 : (t326 == t279) = false := by simpa using c29))
           (try (have c29b3 : ¬ (t326 = t279) := by simpa using c29))
           clear c29
           exact absurd (Option.some.inj H) (by rw [HLW.out]; exact Bool.false_ne_true)
          ·rw [if_neg c29] at H
           have c29b0 : (t326 != t279) = false := by simpa using c29
           (try (have c29b1 : decide (t326 = t279) = true := by simpa using c29))
           (try (have c29b2 : (t326 == t279) = true := by simpa using c29))
           clear c29
           replace H := Option.bind_eq_some_iff.mp H
           obtain ⟨t329, A300, H⟩ := H
           (try dsimp only at H)
           have A30 := Aside0.mk A300; clear A300
           by_cases c31 : t329 < 0
           ·rw [if_pos c31] at H
            have c31b0 : decide (t329 < 0) = true := decide_eq_true c31
            clear c31
            exact absurd (Option.some.inj H) (by rw [HLW.out]; exact Bool.false_ne_true)
           ·rw [if_neg c31] at H
            have c31b0 : decide (t329 < 0) = false := decide_eq_false c31
            clear c31
            by_cases c32 : t329 = t308
            ·rw [if_pos c32] at H
             have c32b0 : (t329 == t308) = true := beq_iff_eq.mpr c32
             have c32b1 : (t329 != t308) = false := bne_eq_false_iff_eq.mpr c32
             clear c32
             obtain rfl := Option.some.inj H
             go_enter Try.func5, Try.ntmps5
             try go_wp2_with (first | ((with_reducible refine gate_dst (N := 1) rfl ?_); refine box_ (N := 1) (cs := #[.slice A0_0 l0_0.length c0_0, .int .i64 a0_1]) (t := 43) (fun gb262 hg w33 hbox hb => ?_); have BK262 := Aside0.mk (hbox); have GW262 := ge_ hg HB; have GE262 := ge_ hg HB; replace HB := (bs_ HB hb); have LTb262 := Aside0.mk (zl_ HZ ⟨hg⟩); replace HZ := Aside0.mk ((show gb262 + 1 ≤ w33.heap.size from blk_lt hbox)); clear hb hbox hg; have Z34 := zz2 BK262) | ((with_reducible refine gate_callee (f := 18) rfl ?_); refine goesL_ (some 16) rfl rfl Try.func18 (by kernel_rfl) rfl #[.agg #[.slice A0_0 l0_0.length c0_0, .int .i64 a0_1], .int .i64 1048576] rfl ar_ ?_; (with_reducible refine (laws_szPart.calls k _ _ l0_0 a0_1 1048576 t263 _ ?side1 ?side2 A2.out).mono ?_); (case side1 => exact kC_ (Kd.C_below HR0_0.out HB.out)); (case side2 => exact HC0_0.out); rintro e w35 ⟨rfl, hb⟩; refine ⟨_, rfl, ?_⟩; replace BK262 := (bbA_ BK262 hb); replace HB := (bs_ HB hb); replace HZ := Aside0.mk (zs_ HZ hb); (try clear hb); (try clear hb2); (try clear hk); (try clear hi); have Z36 := zz2 BK262) | ((with_reducible refine gate_callee (f := 19) rfl ?_); refine goesL_ (some 21) rfl rfl Try.func19 (by kernel_rfl) rfl #[.agg #[.slice A0_0 l0_0.length c0_0, .int .i64 a0_1]] rfl ar_ ?_; (with_reducible refine (laws_toPart.calls k _ _ l0_0 a0_1 t264 t267 _ ?side1 ?side2 A7.out).mono ?_); (case side1 => exact kC_ (Kd.C_below HR0_0.out HB.out)); (case side2 => exact HC0_0.out); rintro e w37 ⟨v265, rfl, ho0, hb⟩; refine ⟨_, rfl, ?_⟩; obtain ⟨lo330, hi330, elo330, ehi330⟩ := gr_open hb; have HO266 := Aside0.mk (Kd.S_lower (gr_S elo330 ehi330 ho0) (below_size (hbA_ HB.out))); have LT330 := Aside0.mk (zl_ HZ elo330); have LE330 := Aside0.mk (zle_ elo330 ehi330 hb); replace HZ := Aside0.mk (Nat.le_of_eq ehi330.out); replace BK262 := (bbA_ BK262 hb); replace HB := (bs_ HB hb); (try clear hb); (try clear hb2); (try clear hk); (try clear hi); (try clear ho0); obtain ⟨Ao38, co38, eo38⟩ := Kd.S_slice HO266.out; subst eo38) | ((with_reducible refine gate_callee (f := 11) rfl ?_); refine goesL_ (some 22) rfl rfl Try.func11 (by kernel_rfl) rfl #[.agg #[.slice Ao38 t264.length co38, .int .i64 t267]] rfl ar_ ?_; (with_reducible refine (spec_PartWhole.calls k _ _ t264 t267 t268 t269 t270 t271 t272 t273 t274 t275 t276 t279 _ ?side1 ?side2 A8.out).mono ?_); (case side1 => exact kC_ (Kd.S_reads' HO266.out).2.2); (case side2 => exact (Kd.S_reads' HO266.out).2.1); rintro e w39 ⟨v277, rfl, ho0, hb⟩; refine ⟨_, rfl, ?_⟩; obtain ⟨lo331, hi331, elo331, ehi331⟩ := gr_open hb; replace HO266 := Aside0.mk (Kd.S_below (kS_ HO266.out) hb); have HO278 := Aside0.mk (Kd.R_lower (gr_R elo331 ehi331 ho0) (below_size (hbA_ HB.out))); have LT331 := Aside0.mk (zl_ HZ elo331); have LE331 := Aside0.mk (zle_ elo331 ehi331 hb); replace HZ := Aside0.mk (Nat.le_of_eq ehi331.out); replace BK262 := (bbA_ BK262 hb); replace HB := (bs_ HB hb); (try clear hb); (try clear hb2); (try clear hk); (try clear hi); (try clear ho0)) | ((with_reducible refine gate_dst (N := 4) rfl ?_); refine box_ (N := 4) (cs := #[.int .i64 0, .int .i64 0, .int .i64 0, .int .i64 0, .int .i64 0, .int .i64 0, .bool false, .bool false, .slice none 0 0]) (t := 28) (fun gb280 hg w40 hbox hb => ?_); replace HO266 := Aside0.mk (Kd.S_below (kS_ HO266.out) hb); replace HO278 := Aside0.mk (Kd.R_below (kR_ HO278.out) hb); have BK280 := Aside0.mk (hbox); have GW280 := ge_ hg HB; have GE280 := ge_ hg HB; replace HB := (bs_ HB hb); have NB262_280 := nl_ hg BK262; have NB280_262 := ng_ hg BK262; replace BK262 := (bbA_ BK262 hb); have LTb280 := Aside0.mk (zl_ HZ ⟨hg⟩); replace HZ := Aside0.mk ((show gb280 + 1 ≤ w40.heap.size from blk_lt hbox)); clear hb hbox hg; have hnb41 := NB280_262.out; have hnc41 := NB262_280.out; have Z42 := zz9 BK280; obtain ⟨Ao43, co43, eo43⟩ := Kd.R_slice HO278.out; subst eo43; have Z44 := zz2 BK262) | ((with_reducible refine gate_callee (f := 19) rfl ?_); refine goesL_ (some 26) rfl rfl Try.func19 (by kernel_rfl) rfl #[.agg #[.slice A0_0 l0_0.length c0_0, .int .i64 a0_1]] rfl ar_ ?_; (with_reducible refine (laws_toPart.calls k _ _ l0_0 a0_1 t281 t284 _ ?side1 ?side2 A9.out).mono ?_); (case side1 => exact Kd.C_below HR0_0.out (hbA_ HB.out)); (case side2 => exact HC0_0.out); rintro e w45 ⟨v282, rfl, ho0, hb⟩; refine ⟨_, rfl, ?_⟩; obtain ⟨lo332, hi332, elo332, ehi332⟩ := gr_open hb; replace HO266 := Aside0.mk (Kd.S_below (by refine kS_ ?_; exact (Kd.S_mono (Kd.S_far (p := ⟨gb280, 8, none⟩) (Kd.S_far (p := ⟨gb280, 7, none⟩) (Kd.S_far (p := ⟨gb280, 6, none⟩) (Kd.S_far (p := ⟨gb280, 5, none⟩) (Kd.S_far (p := ⟨gb280, 4, none⟩) (Kd.S_far (p := ⟨gb280, 3, none⟩) (Kd.S_far (p := ⟨gb280, 2, none⟩) (Kd.S_far (p := ⟨gb280, 1, none⟩) (Kd.S_far (p := ⟨gb280, 0, none⟩) (Kd.S_mono HO266.out (fun k_ hk => (⟨hk, rng_box hk.2 (Or.inl (Nat.le_trans LT331.out (Nat.le_trans LE331.out LTb280.out)))⟩ : _ ∧ k_ ≠ gb280))) (fun _ hk => hk.2) (.int .i64 t268)) (fun _ hk => hk.2) (.int .i64 t269)) (fun _ hk => hk.2) (.int .i64 t270)) (fun _ hk => hk.2) (.int .i64 t271)) (fun _ hk => hk.2) (.int .i64 t272)) (fun _ hk => hk.2) (.int .i64 t273)) (fun _ hk => hk.2) (.bool t274)) (fun _ hk => hk.2) (.bool t275)) (fun _ hk => hk.2) (.slice Ao43 t276.length co43)) (fun _ h_ => op1_ h_))) hb); replace HO278 := Aside0.mk (Kd.R_below (by refine kR_ ?_; exact (rfm_ ((Kd.R_types HO278.out BK280.out (by decide))) (fun _ h_ => op1_ h_))) hb); have HO283 := Aside0.mk (Kd.S_lower (gr_S elo332 ehi332 ho0) (below_size (hbA_ HB.out))); have LT332 := Aside0.mk (zl_ HZ elo332); have LE332 := Aside0.mk (zle_ elo332 ehi332 hb); replace HZ := Aside0.mk (Nat.le_of_eq ehi332.out); replace BK262 := Aside0.mk (blk_below (g := gb262) (o := .cells #[.slice A0_0 l0_0.length c0_0, .int .i64 a0_1] 43 (0, 0)) (by exact kf_ BK262.out) hb); replace BK280 := Aside0.mk (blk_below (g := gb280) (o := .cells #[.int .i64 t268, .int .i64 t269, .int .i64 t270, .int .i64 t271, .int .i64 t272, .int .i64 t273, .bool t274, .bool t275, .slice Ao43 t276.length co43] 28 (0, 0)) (by refine kb_ ?_; refine pz9 (cs := #[.int .i64 0, .int .i64 0, .int .i64 0, .int .i64 0, .int .i64 0, .int .i64 0, .bool false, .bool false, .slice none 0 0]) ?_; refine kb_ ?_; exact BK280.out) hb); replace HB := (bs_ HB hb); (try clear hb); (try clear hb2); (try clear hk); (try clear hi); (try clear ho0)) | ((with_reducible refine gate_dst (N := 6) rfl ?_); refine box_ (N := 6) (cs := #[.slice none 0 0, .int .i64 0]) (t := 25) (fun gb285 hg w46 hbox hb => ?_); replace HO266 := Aside0.mk (Kd.S_below (kS_ HO266.out) hb); replace HO278 := Aside0.mk (Kd.R_below (kR_ HO278.out) hb); replace HO283 := Aside0.mk (Kd.S_below (kS_ HO283.out) hb); have BK285 := Aside0.mk (hbox); have GW285 := ge_ hg HB; have GE285 := ge_ hg HB; replace HB := (bs_ HB hb); have NB262_285 := nl_ hg BK262; have NB285_262 := ng_ hg BK262; replace BK262 := (bbA_ BK262 hb); have NB280_285 := nl_ hg BK280; have NB285_280 := ng_ hg BK280; replace BK280 := (bbA_ BK280 hb); have LTb285 := Aside0.mk (zl_ HZ ⟨hg⟩); replace HZ := Aside0.mk ((show gb285 + 1 ≤ w46.heap.size from blk_lt hbox)); clear hb hbox hg; obtain ⟨Ao47, co47, eo47⟩ := Kd.S_slice HO283.out; subst eo47; have hnb48 := NB285_262.out; have hnc48 := NB262_285.out; have hnb49 := NB285_280.out; have hnc49 := NB280_285.out; have Z50 := zz2 BK285) | ((with_reducible refine gate_callee (f := 10) rfl ?_); refine goesL_ (some 29) rfl rfl Try.func10 (by kernel_rfl) rfl #[.agg #[.slice Ao47 t281.length co47, .int .i64 t284]] rfl ar_ ?_; (with_reducible refine (impl_PartWhole.calls k _ _ t281 t284 t286 t287 t288 t289 t290 t291 t292 t293 t294 t297 _ ?side1 ?side2 A10.out).mono ?_); (case side1 => refine (Kd.S_reads' (e := 28) (base := w.heap.size) (ok := fun k_ => (True ∧ (lo332 ≤ k_ ∧ k_ < hi332))) (n := t281.length) (c := co47) ?_).2.2; exact (by refine kS_ ?_; exact (Kd.S_mono (Kd.S_far (p := ⟨gb285, 1, none⟩) (Kd.S_far (p := ⟨gb285, 0, none⟩) (Kd.S_types HO283.out BK285.out (by decide)) (fun _ hk => hk.2) (.slice Ao47 t281.length co47)) (fun _ hk => hk.2) (.int .i64 t284)) (fun _ h_ => op1_ h_)))); (case side2 => exact (Kd.S_reads' HO283.out).2.1); rintro e w51 ⟨v295, rfl, ho0, hb⟩; refine ⟨_, rfl, ?_⟩; obtain ⟨lo333, hi333, elo333, ehi333⟩ := gr_open hb; replace HO266 := Aside0.mk (Kd.S_below (by refine kS_ ?_; exact (Kd.S_mono (Kd.S_far (p := ⟨gb285, 1, none⟩) (Kd.S_far (p := ⟨gb285, 0, none⟩) (Kd.S_types HO266.out BK285.out (by decide)) (fun _ hk => hk.2) (.slice Ao47 t281.length co47)) (fun _ hk => hk.2) (.int .i64 t284)) (fun _ h_ => op1_ h_))) hb); replace HO278 := Aside0.mk (Kd.R_below (by refine kR_ ?_; exact (rfm_ ((Kd.R_types HO278.out BK285.out (by decide))) (fun _ h_ => op1_ h_))) hb); replace HO283 := Aside0.mk (Kd.S_below (by refine kS_ ?_; exact (Kd.S_mono (Kd.S_far (p := ⟨gb285, 1, none⟩) (Kd.S_far (p := ⟨gb285, 0, none⟩) (Kd.S_types HO283.out BK285.out (by decide)) (fun _ hk => hk.2) (.slice Ao47 t281.length co47)) (fun _ hk => hk.2) (.int .i64 t284)) (fun _ h_ => op1_ h_))) hb); have HO296 := Aside0.mk (Kd.R_lower (gr_R elo333 ehi333 ho0) (below_size (hbA_ HB.out))); have LT333 := Aside0.mk (zl_ HZ elo333); have LE333 := Aside0.mk (zle_ elo333 ehi333 hb); replace HZ := Aside0.mk (Nat.le_of_eq ehi333.out); replace BK262 := Aside0.mk (blk_below (g := gb262) (o := .cells #[.slice A0_0 l0_0.length c0_0, .int .i64 a0_1] 43 (0, 0)) (by exact kf_ BK262.out) hb); replace BK280 := Aside0.mk (blk_below (g := gb280) (o := .cells #[.int .i64 t268, .int .i64 t269, .int .i64 t270, .int .i64 t271, .int .i64 t272, .int .i64 t273, .bool t274, .bool t275, .slice Ao43 t276.length co43] 28 (0, 0)) (by exact kf_ BK280.out) hb); replace BK285 := Aside0.mk (blk_below (g := gb285) (o := .cells #[.slice Ao47 t281.length co47, .int .i64 t284] 25 (0, 0)) (by refine kb_ ?_; refine pz2 (cs := #[.slice none 0 0, .int .i64 0]) ?_; refine kb_ ?_; exact BK285.out) hb); replace HB := (bs_ HB hb); (try clear hb); (try clear hb2); (try clear hk); (try clear hi); (try clear ho0)) | ((with_reducible refine gate_dst (N := 7) rfl ?_); refine box_ (N := 7) (cs := #[.int .i64 0, .int .i64 0, .int .i64 0, .int .i64 0, .int .i64 0, .int .i64 0, .bool false, .bool false, .slice none 0 0]) (t := 28) (fun gb298 hg w52 hbox hb => ?_); replace HO266 := Aside0.mk (Kd.S_below (kS_ HO266.out) hb); replace HO278 := Aside0.mk (Kd.R_below (kR_ HO278.out) hb); replace HO283 := Aside0.mk (Kd.S_below (kS_ HO283.out) hb); replace HO296 := Aside0.mk (Kd.R_below (kR_ HO296.out) hb); have BK298 := Aside0.mk (hbox); have GW298 := ge_ hg HB; have GE298 := ge_ hg HB; replace HB := (bs_ HB hb); have NB262_298 := nl_ hg BK262; have NB298_262 := ng_ hg BK262; replace BK262 := (bbA_ BK262 hb); have NB280_298 := nl_ hg BK280; have NB298_280 := ng_ hg BK280; replace BK280 := (bbA_ BK280 hb); have NB285_298 := nl_ hg BK285; have NB298_285 := ng_ hg BK285; replace BK285 := (bbA_ BK285 hb); have LTb298 := Aside0.mk (zl_ HZ ⟨hg⟩); replace HZ := Aside0.mk ((show gb298 + 1 ≤ w52.heap.size from blk_lt hbox)); clear hb hbox hg; have hnb53 := NB298_262.out; have hnc53 := NB262_298.out; have hnb54 := NB298_280.out; have hnc54 := NB280_298.out; have hnb55 := NB298_285.out; have hnc55 := NB285_298.out; have Z56 := zz9 BK298; obtain ⟨Ao57, co57, eo57⟩ := Kd.R_slice HO296.out; subst eo57; have Z58 := zz9 BK280) | ((with_reducible refine gate_callee (f := 20) rfl ?_); refine goesL_ (some 34) rfl rfl Try.func20 (by kernel_rfl) rfl #[.agg #[.int .i64 t286, .int .i64 t287, .int .i64 t288, .int .i64 t289, .int .i64 t290, .int .i64 t291, .bool t292, .bool t293, .slice Ao57 t294.length co57], .agg #[.int .i64 t268, .int .i64 t269, .int .i64 t270, .int .i64 t271, .int .i64 t272, .int .i64 t273, .bool t274, .bool t275, .slice Ao43 t276.length co43]] rfl ar_ ?_; (with_reducible refine (laws_eqPacket.calls k t286 t287 t288 t289 t290 t291 t292 t293 _ _ t294 t268 t269 t270 t271 t272 t273 t274 t275 _ _ t276 true _ ?side1 ?side2 ?side3 ?side4 A11.out).mono ?_); (case side1 => refine (Kd.R_reads' (e := 5) (base := w.heap.size) (ok := fun k_ => (True ∧ (lo333 ≤ k_ ∧ k_ < hi333))) (n := t294.length) (c := co57) ?_).2.2; exact (by refine kR_ ?_; exact (rfm_ ((Kd.R_types HO296.out BK298.out (by decide))) (fun _ h_ => op1_ h_)))); (case side2 => exact (Kd.R_reads' HO296.out).2.1); (case side3 => refine (Kd.R_reads' (e := 5) (base := w.heap.size) (ok := fun k_ => (True ∧ (lo331 ≤ k_ ∧ k_ < hi331))) (n := t276.length) (c := co43) ?_).2.2; exact (by refine kR_ ?_; exact (rfm_ ((Kd.R_types HO278.out BK298.out (by decide))) (fun _ h_ => op1_ h_)))); (case side4 => exact (Kd.R_reads' HO278.out).2.1); rintro e w59 ⟨rfl, hb⟩; refine ⟨_, rfl, ?_⟩; replace HO266 := Aside0.mk (Kd.S_below (by refine kS_ ?_; exact (Kd.S_mono (Kd.S_far (p := ⟨gb298, 8, none⟩) (Kd.S_far (p := ⟨gb298, 7, none⟩) (Kd.S_far (p := ⟨gb298, 6, none⟩) (Kd.S_far (p := ⟨gb298, 5, none⟩) (Kd.S_far (p := ⟨gb298, 4, none⟩) (Kd.S_far (p := ⟨gb298, 3, none⟩) (Kd.S_far (p := ⟨gb298, 2, none⟩) (Kd.S_far (p := ⟨gb298, 1, none⟩) (Kd.S_far (p := ⟨gb298, 0, none⟩) (Kd.S_mono HO266.out (fun k_ hk => (⟨hk, rng_box hk.2 (Or.inl (Nat.le_trans (Nat.le_trans (Nat.le_trans (Nat.le_trans (Nat.le_trans LT331.out (Nat.le_trans LE331.out LTb280.out)) (Nat.le_trans (Nat.le_succ _) LT332.out)) (Nat.le_trans LE332.out LTb285.out)) (Nat.le_trans (Nat.le_succ _) LT333.out)) (Nat.le_trans LE333.out LTb298.out)))⟩ : _ ∧ k_ ≠ gb298))) (fun _ hk => hk.2) (.int .i64 t286)) (fun _ hk => hk.2) (.int .i64 t287)) (fun _ hk => hk.2) (.int .i64 t288)) (fun _ hk => hk.2) (.int .i64 t289)) (fun _ hk => hk.2) (.int .i64 t290)) (fun _ hk => hk.2) (.int .i64 t291)) (fun _ hk => hk.2) (.bool t292)) (fun _ hk => hk.2) (.bool t293)) (fun _ hk => hk.2) (.slice Ao57 t294.length co57)) (fun _ h_ => op1_ h_))) hb); replace HO278 := Aside0.mk (Kd.R_below (by refine kR_ ?_; exact (rfm_ ((Kd.R_types HO278.out BK298.out (by decide))) (fun _ h_ => op1_ h_))) hb); replace HO283 := Aside0.mk (Kd.S_below (by refine kS_ ?_; exact (Kd.S_mono (Kd.S_far (p := ⟨gb298, 8, none⟩) (Kd.S_far (p := ⟨gb298, 7, none⟩) (Kd.S_far (p := ⟨gb298, 6, none⟩) (Kd.S_far (p := ⟨gb298, 5, none⟩) (Kd.S_far (p := ⟨gb298, 4, none⟩) (Kd.S_far (p := ⟨gb298, 3, none⟩) (Kd.S_far (p := ⟨gb298, 2, none⟩) (Kd.S_far (p := ⟨gb298, 1, none⟩) (Kd.S_far (p := ⟨gb298, 0, none⟩) (Kd.S_mono HO283.out (fun k_ hk => (⟨hk, rng_box hk.2 (Or.inl (Nat.le_trans (Nat.le_trans LTb285.out (Nat.le_trans (Nat.le_succ _) LT333.out)) (Nat.le_trans LE333.out LTb298.out)))⟩ : _ ∧ k_ ≠ gb298))) (fun _ hk => hk.2) (.int .i64 t286)) (fun _ hk => hk.2) (.int .i64 t287)) (fun _ hk => hk.2) (.int .i64 t288)) (fun _ hk => hk.2) (.int .i64 t289)) (fun _ hk => hk.2) (.int .i64 t290)) (fun _ hk => hk.2) (.int .i64 t291)) (fun _ hk => hk.2) (.bool t292)) (fun _ hk => hk.2) (.bool t293)) (fun _ hk => hk.2) (.slice Ao57 t294.length co57)) (fun _ h_ => op1_ h_))) hb); replace HO296 := Aside0.mk (Kd.R_below (by refine kR_ ?_; exact (rfm_ ((Kd.R_types HO296.out BK298.out (by decide))) (fun _ h_ => op1_ h_))) hb); replace BK262 := Aside0.mk (blk_below (g := gb262) (o := .cells #[.slice A0_0 l0_0.length c0_0, .int .i64 a0_1] 43 (0, 0)) (by exact kf_ BK262.out) hb); replace BK280 := Aside0.mk (blk_below (g := gb280) (o := .cells #[.int .i64 t268, .int .i64 t269, .int .i64 t270, .int .i64 t271, .int .i64 t272, .int .i64 t273, .bool t274, .bool t275, .slice Ao43 t276.length co43] 28 (0, 0)) (by exact kf_ BK280.out) hb); replace BK285 := Aside0.mk (blk_below (g := gb285) (o := .cells #[.slice Ao47 t281.length co47, .int .i64 t284] 25 (0, 0)) (by exact kf_ BK285.out) hb); replace BK298 := Aside0.mk (blk_below (g := gb298) (o := .cells #[.int .i64 t286, .int .i64 t287, .int .i64 t288, .int .i64 t289, .int .i64 t290, .int .i64 t291, .bool t292, .bool t293, .slice Ao57 t294.length co57] 28 (0, 0)) (by refine kb_ ?_; refine pz9 (cs := #[.int .i64 0, .int .i64 0, .int .i64 0, .int .i64 0, .int .i64 0, .int .i64 0, .bool false, .bool false, .slice none 0 0]) ?_; refine kb_ ?_; exact BK298.out) hb); replace HB := (bs_ HB hb); replace HZ := Aside0.mk (zs_ HZ hb); (try clear hb); (try clear hb2); (try clear hk); (try clear hi)))
             replace HO266 := Aside0.mk (Kd.S_drew HO266.out); replace HO278 := Aside0.mk (Kd.R_drew HO278.out); replace HO283 := Aside0.mk (Kd.S_drew HO283.out); replace HO296 := Aside0.mk (Kd.R_drew HO296.out); replace BK262 := Aside0.mk (blk_drew BK262.out); replace BK280 := Aside0.mk (blk_drew BK280.out); replace BK285 := Aside0.mk (blk_drew BK285.out); replace BK298 := Aside0.mk (blk_drew BK298.out); replace HB := (bd_ HB); replace HZ := Aside0.mk (zd_ HZ)
             refine start_ (n := 5) (S := fun w' => w'.cell? ⟨gb285, 0, none⟩ = some (.slice Ao47 t281.length co47) ∧ w'.cell? ⟨gb285, 1, none⟩ = some (.int .i64 t284) ∧ w'.cell? ⟨gb262, 0, none⟩ = some (.slice A0_0 l0_0.length c0_0) ∧ w'.cell? ⟨gb262, 1, none⟩ = some (.int .i64 a0_1)) (ds := []) #[false, false, false, false, false] (by kernel_rfl) rfl rfl ⟨bc_ BK285 0, bc_ BK285 1, bc_ BK262 0, bc_ BK262 1⟩ (fun hHeld => ?_)
             generalize w59.drew = w60 at HO266 HO278 HO283 HO296 BK262 BK280 BK285 BK298 HB HZ hHeld ⊢
             refine take_ (i := 0) (N := some 41) (v := ?_) (a' := ?_) #[true, false, false, false, false] rfl rfl (by kernel_rfl) (fun _ _ _ h => h) (Or.inl ⟨by rfl, ?_⟩) hHeld ?_ ?_
             rotate_left
             ·rintro w' ⟨s0, s1, s2, s3⟩
              go_simp
              with_reducible rfl
             rotate_left
             ·simp only [Act.put, List.setIfInBounds_toArray, List.set_cons_zero, List.set_cons_succ, i64_w, i32_w]
              rfl
             refine take_ (i := 1) (N := some 42) (v := ?_) (a' := ?_) #[true, true, false, false, false] rfl rfl (by kernel_rfl) (fun _ _ _ h => h) (Or.inl ⟨by rfl, ?_⟩) hHeld ?_ ?_
             rotate_left
             ·rintro w' ⟨s0, s1, s2, s3⟩
              go_simp
              with_reducible rfl
             rotate_left
             ·simp only [Act.put, List.setIfInBounds_toArray, List.set_cons_zero, List.set_cons_succ, i64_w, i32_w]
              rfl
             refine one_ (i := 2) (N := some 43) #[true, true, true, false, false] rfl rfl (by kernel_rfl) (by decide) (fun K hK => ?_)
             refine goes_ Try.func19 (by kernel_rfl) rfl #[.agg #[.slice A0_0 l0_0.length c0_0, .int .i64 a0_1]] (by rfl) rfl rfl ar_ ?_
             with_reducible refine (laws_toPart.calls k _ _ l0_0 a0_1 t300 t303 _ ?side1 ?side2 A14.out).mono ?_
             (case side1 => exact kC_ (Kd.C_below HR0_0.out HB.out))
             (case side2 => exact HC0_0.out)
             rintro e w61 ⟨v301, rfl, ho0, hb⟩
             refine ⟨_, rfl, ?_⟩
             obtain ⟨lo334, hi334, elo334, ehi334⟩ := gr_open hb
             replace HO266 := Aside0.mk (Kd.S_below (kS_ HO266.out) hb); replace HO278 := Aside0.mk (Kd.R_below (kR_ HO278.out) hb); replace HO283 := Aside0.mk (Kd.S_below (kS_ HO283.out) hb); replace HO296 := Aside0.mk (Kd.R_below (kR_ HO296.out) hb); have HO302 := Aside0.mk (Kd.S_lower (gr_S elo334 ehi334 ho0) (below_size (hbA_ HB.out))); have LT334 := Aside0.mk (zl_ HZ elo334); have LE334 := Aside0.mk (zle_ elo334 ehi334 hb); replace HZ := Aside0.mk (Nat.le_of_eq ehi334.out); replace BK262 := (bbA_ BK262 hb); replace BK280 := (bbA_ BK280 hb); replace BK285 := (bbA_ BK285 hb); replace BK298 := (bbA_ BK298 hb); replace HB := (bs_ HB hb); (try clear hb); (try clear hb2); (try clear hk); (try clear hi); (try clear ho0)
             obtain ⟨Ao62, co62, eo62⟩ := Kd.S_slice HO302.out
             (first | subst eo62 | (injection eo62 with f1_ f2_ f3_; have f4_ := f1_.symm; have f5_ := f3_.symm; clear f1_ f2_ f3_; subst f4_; subst f5_))
             refine hK.out _ _ ⟨bc_ BK285 0, bc_ BK285 1, bc_ BK262 0, bc_ BK262 1⟩ (fun hHeld => ?_)
             clear hK K; refine nm_ 43 ?_
             refine one_ (i := 3) (N := some 44) #[true, true, true, true, false] rfl rfl (by kernel_rfl) (by decide) (fun K hK => ?_)
             refine goes_ Try.func21 (by kernel_rfl) rfl #[.agg #[.slice Ao47 t281.length co47, .int .i64 t284], .agg #[.slice Ao62 t300.length co62, .int .i64 t303]] (by rfl) rfl rfl ar_ ?_
             with_reducible refine (laws_eqPart.calls k _ _ t281 t284 _ _ t300 t303 true _ ?side1 ?side2 ?side3 ?side4 A15.out).mono ?_
             (case side1 => exact kC_ (Kd.S_reads' HO283.out).2.2)
             (case side2 => exact (Kd.S_reads' HO283.out).2.1)
             (case side3 => exact kC_ (Kd.S_reads' HO302.out).2.2)
             (case side4 => exact (Kd.S_reads' HO302.out).2.1)
             rintro e w63 ⟨rfl, hb⟩
             refine ⟨_, rfl, ?_⟩
             replace HO266 := Aside0.mk (Kd.S_below (kS_ HO266.out) hb); replace HO278 := Aside0.mk (Kd.R_below (kR_ HO278.out) hb); replace HO283 := Aside0.mk (Kd.S_below (kS_ HO283.out) hb); replace HO296 := Aside0.mk (Kd.R_below (kR_ HO296.out) hb); replace HO302 := Aside0.mk (Kd.S_below (kS_ HO302.out) hb); replace BK262 := (bbA_ BK262 hb); replace BK280 := (bbA_ BK280 hb); replace BK285 := (bbA_ BK285 hb); replace BK298 := (bbA_ BK298 hb); replace HB := (bs_ HB hb); replace HZ := Aside0.mk (zs_ HZ hb); (try clear hb); (try clear hb2); (try clear hk); (try clear hi)
             refine hK.out _ _ ⟨bc_ BK285 0, bc_ BK285 1, bc_ BK262 0, bc_ BK262 1⟩ (fun hHeld => ?_)
             clear hK K; refine nm_ 44 ?_
             refine pure_ (i := 4) (N := some 45) (v := ?_) (a' := ?_) #[true, true, true, true, true] rfl rfl (by kernel_rfl) (fun _ _ _ h => h) (Or.inl ⟨by rfl, ?_⟩) ?_ ?_
             rotate_left
             ·intro w'
              go_simp
              with_reducible rfl
             rotate_left
             ·simp only [Act.put, List.setIfInBounds_toArray, List.set_cons_zero, List.set_cons_succ, i64_w, i32_w]
              rfl
             refine done_ (by kernel_rfl) ?_
             have Z64 := zz2 BK285
             try go_wp2_with (first | ((with_reducible refine gate_callee (f := 22) rfl ?_); refine goesL_ (some 48) rfl rfl Try.func22 (by kernel_rfl) rfl #[.agg #[.slice Ao47 t281.length co47, .int .i64 t284], .int .i64 1] rfl ar_ ?_; (with_reducible refine (laws_markPart.calls k (fun k_ => (True) ∧ lo332 ≤ k_ ∧ k_ < hi332) (.slice Ao47 t281.length co47) t281 t284 1 t305 t306 w _ ?side1 ?side2 A17.out).mono ?_); (case side1 => exact hbA_ HB.out); (case side2 => exact (kS_ HO283.out)); rintro e w65 ⟨rfl, hy0, hb, hkp⟩; refine ⟨_, rfl, ?_⟩; have hkr := gk_mono (lo := lo332) (hi := hi332) hkp (fun k_ hs_ => hs_.2); replace BK262 := Aside0.mk (blk_kept (kb_ BK262.out) hkr (rng_ne (k := gb262) ⟨Nat.le_refl _, Nat.lt_succ_self _⟩ (Or.inl (Nat.le_trans (Nat.le_trans (Nat.le_trans LT330.out (Nat.le_trans LE330.out LT331.out)) (Nat.le_trans LE331.out LTb280.out)) (Nat.le_trans (Nat.le_succ _) LT332.out))))); replace HO266 := Aside0.mk (gkS_ HO266 hkr (fun k_ hk_ => rng_ne hk_.2 (Or.inl (Nat.le_trans (Nat.le_trans LT331.out (Nat.le_trans LE331.out LTb280.out)) (Nat.le_trans (Nat.le_succ _) LT332.out))))); replace HO278 := Aside0.mk (gkR_ HO278 hkr (fun k_ hk_ => rng_ne hk_.2 (Or.inl (Nat.le_trans LTb280.out (Nat.le_trans (Nat.le_succ _) LT332.out))))); replace BK280 := Aside0.mk (blk_kept (kb_ BK280.out) hkr (rng_ne (k := gb280) ⟨Nat.le_refl _, Nat.lt_succ_self _⟩ (Or.inl LT332.out))); replace HO283 := Aside0.mk (hy0); replace BK285 := Aside0.mk (blk_kept (kb_ BK285.out) hkr (rng_ne (k := gb285) ⟨Nat.le_refl _, Nat.lt_succ_self _⟩ (Or.inr LTb285.out))); replace HO296 := Aside0.mk (gkR_ HO296 hkr (fun k_ hk_ => rng_ne hk_.2 (Or.inr (Nat.le_trans LTb285.out (Nat.le_trans (Nat.le_succ _) LT333.out))))); replace BK298 := Aside0.mk (blk_kept (kb_ BK298.out) hkr (rng_ne (k := gb298) ⟨Nat.le_refl _, Nat.lt_succ_self _⟩ (Or.inr (Nat.le_trans (Nat.le_trans LTb285.out (Nat.le_trans (Nat.le_succ _) LT333.out)) (Nat.le_trans LE333.out LTb298.out))))); replace HO302 := Aside0.mk (gkS_ HO302 hkr (fun k_ hk_ => rng_ne hk_.2 (Or.inr (Nat.le_trans (Nat.le_trans (Nat.le_trans LTb285.out (Nat.le_trans (Nat.le_succ _) LT333.out)) (Nat.le_trans LE333.out LTb298.out)) (Nat.le_trans (Nat.le_succ _) LT334.out))))); replace HB := Aside0.mk (hb); replace HZ := Aside0.mk (zk_ HZ hkr); (try clear hb); (try clear hkp); (try clear hkr); (try clear hy0); have Z66 := zz9 BK298; have Z67 := zz9 BK280) | (go_at_call 20; (with_reducible refine (laws_eqPacket.calls k t286 t287 t288 t289 t290 t291 t292 t293 _ _ t294 t268 t269 t270 t271 t272 t273 t274 t275 _ _ t276 true _ ?side1 ?side2 ?side3 ?side4 A19.out).mono ?_); (case side1 => exact kC_ (Kd.R_reads' HO296.out).2.2); (case side2 => exact (Kd.R_reads' HO296.out).2.1); (case side3 => exact kC_ (Kd.R_reads' HO278.out).2.2); (case side4 => exact (Kd.R_reads' HO278.out).2.1); rintro e w68 ⟨rfl, hb⟩; replace HO266 := Aside0.mk (Kd.S_below (kS_ HO266.out) hb); replace HO278 := Aside0.mk (Kd.R_below (kR_ HO278.out) hb); replace HO283 := Aside0.mk (Kd.S_below (kS_ HO283.out) hb); replace HO296 := Aside0.mk (Kd.R_below (kR_ HO296.out) hb); replace HO302 := Aside0.mk (Kd.S_below (kS_ HO302.out) hb); replace BK262 := (bbA_ BK262 hb); replace BK280 := (bbA_ BK280 hb); replace BK285 := (bbA_ BK285 hb); replace BK298 := (bbA_ BK298 hb); replace HB := (bs_ HB hb); replace HZ := Aside0.mk (zs_ HZ hb); (try clear hb); (try clear hb2); (try clear hk); (try clear hi); have Z69 := zz9 BK298) | ((with_reducible refine gate_callee (f := 23) rfl ?_); refine goesL_ (some 64) rfl rfl Try.func23 (by kernel_rfl) rfl #[.agg #[.int .i64 t286, .int .i64 t287, .int .i64 t288, .int .i64 t289, .int .i64 t290, .int .i64 t291, .bool t292, .bool t293, .slice Ao57 t294.length co57], .int .i64 1] rfl ar_ ?_; (with_reducible refine (laws_markPacket.calls k t286 t287 t288 t289 t290 t291 t292 t293 (fun k_ => some k_ = (.slice Ao57 t294.length co57 : Value).ownBlock) (.slice Ao57 t294.length co57) t294 1 t308 t309 w _ ?side1 ?side2 A21.out).mono ?_); (case side1 => exact hbA_ HB.out); (case side2 => exact Kd.R_tight rfl (kR_ HO296.out)); rintro e w70 ⟨rfl, hy0, hb, hkp⟩; refine ⟨_, rfl, ?_⟩; have hkr := gk_mono (lo := lo333) (hi := hi333) hkp (fun k_ hs_ => (HO296.out.1 _ hs_.symm).2); replace BK262 := Aside0.mk (blk_kept (kb_ BK262.out) hkr (rng_ne (k := gb262) ⟨Nat.le_refl _, Nat.lt_succ_self _⟩ (Or.inl (Nat.le_trans (Nat.le_trans (Nat.le_trans (Nat.le_trans (Nat.le_trans LT330.out (Nat.le_trans LE330.out LT331.out)) (Nat.le_trans LE331.out LTb280.out)) (Nat.le_trans (Nat.le_succ _) LT332.out)) (Nat.le_trans LE332.out LTb285.out)) (Nat.le_trans (Nat.le_succ _) LT333.out))))); replace HO266 := Aside0.mk (gkS_ HO266 hkr (fun k_ hk_ => rng_ne hk_.2 (Or.inl (Nat.le_trans (Nat.le_trans (Nat.le_trans (Nat.le_trans LT331.out (Nat.le_trans LE331.out LTb280.out)) (Nat.le_trans (Nat.le_succ _) LT332.out)) (Nat.le_trans LE332.out LTb285.out)) (Nat.le_trans (Nat.le_succ _) LT333.out))))); replace HO278 := Aside0.mk (gkR_ HO278 hkr (fun k_ hk_ => rng_ne hk_.2 (Or.inl (Nat.le_trans (Nat.le_trans (Nat.le_trans LTb280.out (Nat.le_trans (Nat.le_succ _) LT332.out)) (Nat.le_trans LE332.out LTb285.out)) (Nat.le_trans (Nat.le_succ _) LT333.out))))); replace BK280 := Aside0.mk (blk_kept (kb_ BK280.out) hkr (rng_ne (k := gb280) ⟨Nat.le_refl _, Nat.lt_succ_self _⟩ (Or.inl (Nat.le_trans (Nat.le_trans LT332.out (Nat.le_trans LE332.out LTb285.out)) (Nat.le_trans (Nat.le_succ _) LT333.out))))); replace HO283 := Aside0.mk (gkS_ HO283 hkr (fun k_ hk_ => rng_ne hk_.2 (Or.inl (Nat.le_trans LTb285.out (Nat.le_trans (Nat.le_succ _) LT333.out))))); replace BK285 := Aside0.mk (blk_kept (kb_ BK285.out) hkr (rng_ne (k := gb285) ⟨Nat.le_refl _, Nat.lt_succ_self _⟩ (Or.inl LT333.out))); replace HO296 := Aside0.mk (Kd.R_reok rfl hy0 (fun k_ e_ => HO296.out.1 k_ e_)); replace BK298 := Aside0.mk (blk_kept (kb_ BK298.out) hkr (rng_ne (k := gb298) ⟨Nat.le_refl _, Nat.lt_succ_self _⟩ (Or.inr LTb298.out))); replace HO302 := Aside0.mk (gkS_ HO302 hkr (fun k_ hk_ => rng_ne hk_.2 (Or.inr (Nat.le_trans LTb298.out (Nat.le_trans (Nat.le_succ _) LT334.out))))); replace HB := Aside0.mk (hb); replace HZ := Aside0.mk (zk_ HZ hkr); (try clear hb); (try clear hkp); (try clear hkr); (try clear hy0); have Z71 := zz9 BK298) | ((with_reducible refine gate_callee (f := 24) rfl ?_); refine goesL_ (some 67) rfl rfl Try.func24 (by kernel_rfl) rfl #[.agg #[.int .i64 t286, .int .i64 t287, .int .i64 t288, .int .i64 t289, .int .i64 t290, .int .i64 t291, .bool t292, .bool t293, .slice Ao57 t309.length co57], .int .i64 1] rfl (by (try simp only [List.map_toArray, List.map_cons, List.map_nil]); first | done | (rw [show t309.length = t294.length from (Kd.R_reads' HO296.out).1.symm] <;> rfl) | rfl | (simp only [List.length_drop, List.length_take]; rfl)) ?_; (with_reducible refine (laws_heldPacket.calls k t286 t287 t288 t289 t290 t291 t292 t293 _ _ t309 1 t310 _ ?side1 ?side2 A22.out).mono ?_); (case side1 => exact kC_ (Kd.R_reads' HO296.out).2.2); (case side2 => rw [show t309.length = t294.length from (Kd.R_reads' HO296.out).1.symm]; exact (Kd.R_reads' HO296.out).2.1); rintro e w72 ⟨rfl, hb⟩; refine ⟨_, rfl, ?_⟩; replace HO266 := Aside0.mk (Kd.S_below (kS_ HO266.out) hb); replace HO278 := Aside0.mk (Kd.R_below (kR_ HO278.out) hb); replace HO283 := Aside0.mk (Kd.S_below (kS_ HO283.out) hb); replace HO296 := Aside0.mk (Kd.R_below (kR_ HO296.out) hb); replace HO302 := Aside0.mk (Kd.S_below (kS_ HO302.out) hb); replace BK262 := (bbA_ BK262 hb); replace BK280 := (bbA_ BK280 hb); replace BK285 := (bbA_ BK285 hb); replace BK298 := (bbA_ BK298 hb); replace HB := (bs_ HB hb); replace HZ := Aside0.mk (zs_ HZ hb); (try clear hb); (try clear hb2); (try clear hk); (try clear hi); have Z73 := zz2 BK262) | ((with_reducible refine gate_callee (f := 19) rfl ?_); refine goesL_ (some 75) rfl rfl Try.func19 (by kernel_rfl) rfl #[.agg #[.slice A0_0 l0_0.length c0_0, .int .i64 a0_1]] rfl ar_ ?_; (with_reducible refine (laws_toPart.calls k _ _ l0_0 a0_1 t311 t314 _ ?side1 ?side2 A25.out).mono ?_); (case side1 => exact kC_ (Kd.C_below HR0_0.out HB.out)); (case side2 => exact HC0_0.out); rintro e w74 ⟨v312, rfl, ho0, hb⟩; refine ⟨_, rfl, ?_⟩; obtain ⟨lo335, hi335, elo335, ehi335⟩ := gr_open hb; replace HO266 := Aside0.mk (Kd.S_below (kS_ HO266.out) hb); replace HO278 := Aside0.mk (Kd.R_below (kR_ HO278.out) hb); replace HO283 := Aside0.mk (Kd.S_below (kS_ HO283.out) hb); replace HO296 := Aside0.mk (Kd.R_below (kR_ HO296.out) hb); replace HO302 := Aside0.mk (Kd.S_below (kS_ HO302.out) hb); have HO313 := Aside0.mk (Kd.S_lower (gr_S elo335 ehi335 ho0) (below_size (hbA_ HB.out))); have LT335 := Aside0.mk (zl_ HZ elo335); have LE335 := Aside0.mk (zle_ elo335 ehi335 hb); replace HZ := Aside0.mk (Nat.le_of_eq ehi335.out); replace BK262 := (bbA_ BK262 hb); replace BK280 := (bbA_ BK280 hb); replace BK285 := (bbA_ BK285 hb); replace BK298 := (bbA_ BK298 hb); replace HB := (bs_ HB hb); (try clear hb); (try clear hb2); (try clear hk); (try clear hi); (try clear ho0); obtain ⟨Ao75, co75, eo75⟩ := Kd.S_slice HO313.out; subst eo75) | ((with_reducible refine gate_callee (f := 10) rfl ?_); refine goesL_ (some 76) rfl rfl Try.func10 (by kernel_rfl) rfl #[.agg #[.slice Ao75 t311.length co75, .int .i64 t314]] rfl ar_ ?_; (with_reducible refine (impl_PartWhole.calls k _ _ t311 t314 t315 t316 t317 t318 t319 t320 t321 t322 t323 t326 _ ?side1 ?side2 A26.out).mono ?_); (case side1 => exact kC_ (Kd.S_reads' HO313.out).2.2); (case side2 => exact (Kd.S_reads' HO313.out).2.1); rintro e w76 ⟨v324, rfl, ho0, hb⟩; refine ⟨_, rfl, ?_⟩; obtain ⟨lo336, hi336, elo336, ehi336⟩ := gr_open hb; replace HO266 := Aside0.mk (Kd.S_below (kS_ HO266.out) hb); replace HO278 := Aside0.mk (Kd.R_below (kR_ HO278.out) hb); replace HO283 := Aside0.mk (Kd.S_below (kS_ HO283.out) hb); replace HO296 := Aside0.mk (Kd.R_below (kR_ HO296.out) hb); replace HO302 := Aside0.mk (Kd.S_below (kS_ HO302.out) hb); replace HO313 := Aside0.mk (Kd.S_below (kS_ HO313.out) hb); have HO325 := Aside0.mk (Kd.R_lower (gr_R elo336 ehi336 ho0) (below_size (hbA_ HB.out))); have LT336 := Aside0.mk (zl_ HZ elo336); have LE336 := Aside0.mk (zle_ elo336 ehi336 hb); replace HZ := Aside0.mk (Nat.le_of_eq ehi336.out); replace BK262 := (bbA_ BK262 hb); replace BK280 := (bbA_ BK280 hb); replace BK285 := (bbA_ BK285 hb); replace BK298 := (bbA_ BK298 hb); replace HB := (bs_ HB hb); (try clear hb); (try clear hb2); (try clear hk); (try clear hi); (try clear ho0)) | ((with_reducible refine gate_dst (N := 12) rfl ?_); refine box_ (N := 12) (cs := #[.int .i64 0, .int .i64 0, .int .i64 0, .int .i64 0, .int .i64 0, .int .i64 0, .bool false, .bool false, .slice none 0 0]) (t := 28) (fun gb327 hg w77 hbox hb => ?_); replace HO266 := Aside0.mk (Kd.S_below (kS_ HO266.out) hb); replace HO278 := Aside0.mk (Kd.R_below (kR_ HO278.out) hb); replace HO283 := Aside0.mk (Kd.S_below (kS_ HO283.out) hb); replace HO296 := Aside0.mk (Kd.R_below (kR_ HO296.out) hb); replace HO302 := Aside0.mk (Kd.S_below (kS_ HO302.out) hb); replace HO313 := Aside0.mk (Kd.S_below (kS_ HO313.out) hb); replace HO325 := Aside0.mk (Kd.R_below (kR_ HO325.out) hb); have BK327 := Aside0.mk (hbox); have GW327 := ge_ hg HB; have GE327 := ge_ hg HB; replace HB := (bs_ HB hb); have NB262_327 := nl_ hg BK262; have NB327_262 := ng_ hg BK262; replace BK262 := (bbA_ BK262 hb); have NB280_327 := nl_ hg BK280; have NB327_280 := ng_ hg BK280; replace BK280 := (bbA_ BK280 hb); have NB285_327 := nl_ hg BK285; have NB327_285 := ng_ hg BK285; replace BK285 := (bbA_ BK285 hb); have NB298_327 := nl_ hg BK298; have NB327_298 := ng_ hg BK298; replace BK298 := (bbA_ BK298 hb); have LTb327 := Aside0.mk (zl_ HZ ⟨hg⟩); replace HZ := Aside0.mk ((show gb327 + 1 ≤ w77.heap.size from blk_lt hbox)); clear hb hbox hg; have hnb78 := NB327_262.out; have hnc78 := NB262_327.out; have hnb79 := NB327_280.out; have hnc79 := NB280_327.out; have hnb80 := NB327_285.out; have hnc80 := NB285_327.out; have hnb81 := NB327_298.out; have hnc81 := NB298_327.out; have Z82 := zz9 BK327; obtain ⟨Ao83, co83, eo83⟩ := Kd.R_slice HO325.out; subst eo83; have Z84 := zz9 BK280) | ((with_reducible refine gate_callee (f := 20) rfl ?_); refine goesL_ (some 81) rfl rfl Try.func20 (by kernel_rfl) rfl #[.agg #[.int .i64 t315, .int .i64 t316, .int .i64 t317, .int .i64 t318, .int .i64 t319, .int .i64 t320, .bool t321, .bool t322, .slice Ao83 t323.length co83], .agg #[.int .i64 t268, .int .i64 t269, .int .i64 t270, .int .i64 t271, .int .i64 t272, .int .i64 t273, .bool t274, .bool t275, .slice Ao43 t276.length co43]] rfl ar_ ?_; (with_reducible refine (laws_eqPacket.calls k t315 t316 t317 t318 t319 t320 t321 t322 _ _ t323 t268 t269 t270 t271 t272 t273 t274 t275 _ _ t276 true _ ?side1 ?side2 ?side3 ?side4 A27.out).mono ?_); (case side1 => refine (Kd.R_reads' (e := 5) (base := w.heap.size) (ok := fun k_ => (True ∧ (lo336 ≤ k_ ∧ k_ < hi336))) (n := t323.length) (c := co83) ?_).2.2; exact (by refine kR_ ?_; exact (rfm_ ((Kd.R_types HO325.out BK327.out (by decide))) (fun _ h_ => op1_ h_)))); (case side2 => exact (Kd.R_reads' HO325.out).2.1); (case side3 => refine (Kd.R_reads' (e := 5) (base := w.heap.size) (ok := fun k_ => (True ∧ (lo331 ≤ k_ ∧ k_ < hi331))) (n := t276.length) (c := co43) ?_).2.2; exact (by refine kR_ ?_; exact (rfm_ ((Kd.R_types HO278.out BK327.out (by decide))) (fun _ h_ => op1_ h_)))); (case side4 => exact (Kd.R_reads' HO278.out).2.1); rintro e w85 ⟨rfl, hb⟩; refine ⟨_, rfl, ?_⟩; replace HO266 := Aside0.mk (Kd.S_below (by refine kS_ ?_; exact (Kd.S_mono (Kd.S_far (p := ⟨gb327, 8, none⟩) (Kd.S_far (p := ⟨gb327, 7, none⟩) (Kd.S_far (p := ⟨gb327, 6, none⟩) (Kd.S_far (p := ⟨gb327, 5, none⟩) (Kd.S_far (p := ⟨gb327, 4, none⟩) (Kd.S_far (p := ⟨gb327, 3, none⟩) (Kd.S_far (p := ⟨gb327, 2, none⟩) (Kd.S_far (p := ⟨gb327, 1, none⟩) (Kd.S_far (p := ⟨gb327, 0, none⟩) (Kd.S_mono HO266.out (fun k_ hk => (⟨hk, rng_box hk.2 (Or.inl (Nat.le_trans (Nat.le_trans (Nat.le_trans (Nat.le_trans (Nat.le_trans (Nat.le_trans (Nat.le_trans (Nat.le_trans (Nat.le_trans LT331.out (Nat.le_trans LE331.out LTb280.out)) (Nat.le_trans (Nat.le_succ _) LT332.out)) (Nat.le_trans LE332.out LTb285.out)) (Nat.le_trans (Nat.le_succ _) LT333.out)) (Nat.le_trans LE333.out LTb298.out)) (Nat.le_trans (Nat.le_succ _) LT334.out)) (Nat.le_trans LE334.out LT335.out)) (Nat.le_trans LE335.out LT336.out)) (Nat.le_trans LE336.out LTb327.out)))⟩ : _ ∧ k_ ≠ gb327))) (fun _ hk => hk.2) (.int .i64 t315)) (fun _ hk => hk.2) (.int .i64 t316)) (fun _ hk => hk.2) (.int .i64 t317)) (fun _ hk => hk.2) (.int .i64 t318)) (fun _ hk => hk.2) (.int .i64 t319)) (fun _ hk => hk.2) (.int .i64 t320)) (fun _ hk => hk.2) (.bool t321)) (fun _ hk => hk.2) (.bool t322)) (fun _ hk => hk.2) (.slice Ao83 t323.length co83)) (fun _ h_ => op1_ h_))) hb); replace HO278 := Aside0.mk (Kd.R_below (by refine kR_ ?_; exact (rfm_ ((Kd.R_types HO278.out BK327.out (by decide))) (fun _ h_ => op1_ h_))) hb); replace HO283 := Aside0.mk (Kd.S_below (by refine kS_ ?_; exact (Kd.S_mono (Kd.S_far (p := ⟨gb327, 8, none⟩) (Kd.S_far (p := ⟨gb327, 7, none⟩) (Kd.S_far (p := ⟨gb327, 6, none⟩) (Kd.S_far (p := ⟨gb327, 5, none⟩) (Kd.S_far (p := ⟨gb327, 4, none⟩) (Kd.S_far (p := ⟨gb327, 3, none⟩) (Kd.S_far (p := ⟨gb327, 2, none⟩) (Kd.S_far (p := ⟨gb327, 1, none⟩) (Kd.S_far (p := ⟨gb327, 0, none⟩) (Kd.S_mono HO283.out (fun k_ hk => (⟨hk, rng_box hk.2 (Or.inl (Nat.le_trans (Nat.le_trans (Nat.le_trans (Nat.le_trans (Nat.le_trans (Nat.le_trans LTb285.out (Nat.le_trans (Nat.le_succ _) LT333.out)) (Nat.le_trans LE333.out LTb298.out)) (Nat.le_trans (Nat.le_succ _) LT334.out)) (Nat.le_trans LE334.out LT335.out)) (Nat.le_trans LE335.out LT336.out)) (Nat.le_trans LE336.out LTb327.out)))⟩ : _ ∧ k_ ≠ gb327))) (fun _ hk => hk.2) (.int .i64 t315)) (fun _ hk => hk.2) (.int .i64 t316)) (fun _ hk => hk.2) (.int .i64 t317)) (fun _ hk => hk.2) (.int .i64 t318)) (fun _ hk => hk.2) (.int .i64 t319)) (fun _ hk => hk.2) (.int .i64 t320)) (fun _ hk => hk.2) (.bool t321)) (fun _ hk => hk.2) (.bool t322)) (fun _ hk => hk.2) (.slice Ao83 t323.length co83)) (fun _ h_ => op1_ h_))) hb); replace HO296 := Aside0.mk (Kd.R_below (by refine kR_ ?_; exact (rfm_ ((Kd.R_types HO296.out BK327.out (by decide))) (fun _ h_ => op1_ h_))) hb); replace HO302 := Aside0.mk (Kd.S_below (by refine kS_ ?_; exact (Kd.S_mono (Kd.S_far (p := ⟨gb327, 8, none⟩) (Kd.S_far (p := ⟨gb327, 7, none⟩) (Kd.S_far (p := ⟨gb327, 6, none⟩) (Kd.S_far (p := ⟨gb327, 5, none⟩) (Kd.S_far (p := ⟨gb327, 4, none⟩) (Kd.S_far (p := ⟨gb327, 3, none⟩) (Kd.S_far (p := ⟨gb327, 2, none⟩) (Kd.S_far (p := ⟨gb327, 1, none⟩) (Kd.S_far (p := ⟨gb327, 0, none⟩) (Kd.S_mono HO302.out (fun k_ hk => (⟨hk, rng_box hk.2 (Or.inl (Nat.le_trans (Nat.le_trans LT335.out (Nat.le_trans LE335.out LT336.out)) (Nat.le_trans LE336.out LTb327.out)))⟩ : _ ∧ k_ ≠ gb327))) (fun _ hk => hk.2) (.int .i64 t315)) (fun _ hk => hk.2) (.int .i64 t316)) (fun _ hk => hk.2) (.int .i64 t317)) (fun _ hk => hk.2) (.int .i64 t318)) (fun _ hk => hk.2) (.int .i64 t319)) (fun _ hk => hk.2) (.int .i64 t320)) (fun _ hk => hk.2) (.bool t321)) (fun _ hk => hk.2) (.bool t322)) (fun _ hk => hk.2) (.slice Ao83 t323.length co83)) (fun _ h_ => op1_ h_))) hb); replace HO313 := Aside0.mk (Kd.S_below (by refine kS_ ?_; exact (Kd.S_mono (Kd.S_far (p := ⟨gb327, 8, none⟩) (Kd.S_far (p := ⟨gb327, 7, none⟩) (Kd.S_far (p := ⟨gb327, 6, none⟩) (Kd.S_far (p := ⟨gb327, 5, none⟩) (Kd.S_far (p := ⟨gb327, 4, none⟩) (Kd.S_far (p := ⟨gb327, 3, none⟩) (Kd.S_far (p := ⟨gb327, 2, none⟩) (Kd.S_far (p := ⟨gb327, 1, none⟩) (Kd.S_far (p := ⟨gb327, 0, none⟩) (Kd.S_mono HO313.out (fun k_ hk => (⟨hk, rng_box hk.2 (Or.inl (Nat.le_trans LT336.out (Nat.le_trans LE336.out LTb327.out)))⟩ : _ ∧ k_ ≠ gb327))) (fun _ hk => hk.2) (.int .i64 t315)) (fun _ hk => hk.2) (.int .i64 t316)) (fun _ hk => hk.2) (.int .i64 t317)) (fun _ hk => hk.2) (.int .i64 t318)) (fun _ hk => hk.2) (.int .i64 t319)) (fun _ hk => hk.2) (.int .i64 t320)) (fun _ hk => hk.2) (.bool t321)) (fun _ hk => hk.2) (.bool t322)) (fun _ hk => hk.2) (.slice Ao83 t323.length co83)) (fun _ h_ => op1_ h_))) hb); replace HO325 := Aside0.mk (Kd.R_below (by refine kR_ ?_; exact (rfm_ ((Kd.R_types HO325.out BK327.out (by decide))) (fun _ h_ => op1_ h_))) hb); replace BK262 := Aside0.mk (blk_below (g := gb262) (o := .cells #[.slice A0_0 l0_0.length c0_0, .int .i64 a0_1] 43 (0, 0)) (by exact kf_ BK262.out) hb); replace BK280 := Aside0.mk (blk_below (g := gb280) (o := .cells #[.int .i64 t268, .int .i64 t269, .int .i64 t270, .int .i64 t271, .int .i64 t272, .int .i64 t273, .bool t274, .bool t275, .slice Ao43 t276.length co43] 28 (0, 0)) (by exact kf_ BK280.out) hb); replace BK285 := Aside0.mk (blk_below (g := gb285) (o := .cells #[.slice Ao47 t281.length co47, .int .i64 t284] 25 (0, 0)) (by exact kf_ BK285.out) hb); replace BK298 := Aside0.mk (blk_below (g := gb298) (o := .cells #[.int .i64 t286, .int .i64 t287, .int .i64 t288, .int .i64 t289, .int .i64 t290, .int .i64 t291, .bool t292, .bool t293, .slice Ao57 t294.length co57] 28 (0, 0)) (by exact kf_ BK298.out) hb); replace BK327 := Aside0.mk (blk_below (g := gb327) (o := .cells #[.int .i64 t315, .int .i64 t316, .int .i64 t317, .int .i64 t318, .int .i64 t319, .int .i64 t320, .bool t321, .bool t322, .slice Ao83 t323.length co83] 28 (0, 0)) (by refine kb_ ?_; refine pz9 (cs := #[.int .i64 0, .int .i64 0, .int .i64 0, .int .i64 0, .int .i64 0, .int .i64 0, .bool false, .bool false, .slice none 0 0]) ?_; refine kb_ ?_; exact BK327.out) hb); replace HB := (bs_ HB hb); replace HZ := Aside0.mk (zs_ HZ hb); (try clear hb); (try clear hb2); (try clear hk); (try clear hi); have Z86 := zz9 BK298) | ((with_reducible refine gate_callee (f := 24) rfl ?_); refine goesL_ (some 90) rfl rfl Try.func24 (by kernel_rfl) rfl #[.agg #[.int .i64 t286, .int .i64 t287, .int .i64 t288, .int .i64 t289, .int .i64 t290, .int .i64 t291, .bool t292, .bool t293, .slice Ao57 t309.length co57], .int .i64 1] rfl (by (try simp only [List.map_toArray, List.map_cons, List.map_nil]); first | done | (rw [show t309.length = t294.length from (Kd.R_reads' HO296.out).1.symm] <;> rfl) | rfl | (simp only [List.length_drop, List.length_take]; rfl)) ?_; (with_reducible refine (laws_heldPacket.calls k t286 t287 t288 t289 t290 t291 t292 t293 _ _ t309 1 t329 _ ?side1 ?side2 A30.out).mono ?_); (case side1 => exact kC_ (Kd.R_reads' HO296.out).2.2); (case side2 => rw [show t309.length = t294.length from (Kd.R_reads' HO296.out).1.symm]; exact (Kd.R_reads' HO296.out).2.1); rintro e w87 ⟨rfl, hb⟩; refine ⟨_, rfl, ?_⟩; replace HO266 := Aside0.mk (Kd.S_below (kS_ HO266.out) hb); replace HO278 := Aside0.mk (Kd.R_below (kR_ HO278.out) hb); replace HO283 := Aside0.mk (Kd.S_below (kS_ HO283.out) hb); replace HO296 := Aside0.mk (Kd.R_below (kR_ HO296.out) hb); replace HO302 := Aside0.mk (Kd.S_below (kS_ HO302.out) hb); replace HO313 := Aside0.mk (Kd.S_below (kS_ HO313.out) hb); replace HO325 := Aside0.mk (Kd.R_below (kR_ HO325.out) hb); replace BK262 := (bbA_ BK262 hb); replace BK280 := (bbA_ BK280 hb); replace BK285 := (bbA_ BK285 hb); replace BK298 := (bbA_ BK298 hb); replace BK327 := (bbA_ BK327 hb); replace HB := (bs_ HB hb); replace HZ := Aside0.mk (zs_ HZ hb); (try clear hb); (try clear hb2); (try clear hk); (try clear hi)))
             go_ret
             exact ⟨by first | rfl | (simp [errW_none, errW_some] <;> rfl) | (simp [*, errW_none, errW_some] <;> rfl), hbA_ HB.out⟩
            ·rw [if_neg c32] at H
             have c32b0 : (t329 == t308) = false := beq_eq_false_iff_ne.mpr c32
             have c32b1 : (t329 != t308) = true := bne_iff_ne.mpr c32
             exact absurd (Option.some.inj H) (by rw [HLW.out]; exact Bool.false_ne_true)
         ·replace c28 := Bool.eq_false_iff.mpr c28
          subst c28
          rw [if_neg (show ¬ (false = true) by decide)] at H
          exact absurd (Option.some.inj H) (by rw [HLW.out]; exact Bool.false_ne_true)
        ·rw [if_neg c24] at H
         have c24b0 : (t310 == t308) = false := beq_eq_false_iff_ne.mpr c24
         have c24b1 : (t310 != t308) = true := bne_iff_ne.mpr c24
         exact absurd (Option.some.inj H) (by rw [HLW.out]; exact Bool.false_ne_true)
      ·replace c20 := Bool.eq_false_iff.mpr c20
       subst c20
       rw [if_neg (show ¬ (false = true) by decide)] at H
       exact absurd (Option.some.inj H) (by rw [HLW.out]; exact Bool.false_ne_true)
    ·replace c16 := Bool.eq_false_iff.mpr c16
     subst c16
     rw [if_neg (show ¬ (false = true) by decide)] at H
     exact absurd (Option.some.inj H) (by rw [HLW.out]; exact Bool.false_ne_true)
  ·replace c12 := Bool.eq_false_iff.mpr c12
   subst c12
   rw [if_neg (show ¬ (false = true) by decide)] at H
   exact absurd (Option.some.inj H) (by rw [HLW.out]; exact Bool.false_ne_true)
def laws_FnExactPartWhole.Pure : Prop := ∀ (l0_0 : List (S115)) (a0_1 : Int), (l0_0.length ≤ maxLen ∧ ∀ y0_ ∈ l0_0, ((Lit.int .i64 y0_.f0).wf = true) ∧ ((Lit.int .i64 y0_.f1).wf = true) ∧ ((Lit.int .i64 y0_.f2).wf = true) ∧ ((Lit.int .i64 y0_.f3).wf = true) ∧ ((Lit.int .i64 y0_.f4).wf = true) ∧ ((Lit.int .i64 y0_.f5).wf = true) ∧ (True) ∧ (True) ∧ (y0_.f8.length ≤ maxLen ∧ ∀ y1_ ∈ y0_.f8, (Lit.int .u8 y1_).wf = true)) → ((Lit.int .i64 a0_1).wf = true) → ∃ k, laws_FnExactPartWhole.f k l0_0 a0_1 = some true
end Go.Proofs.Ytpbeljcgcdilnaa.PFnExactPartWhole
