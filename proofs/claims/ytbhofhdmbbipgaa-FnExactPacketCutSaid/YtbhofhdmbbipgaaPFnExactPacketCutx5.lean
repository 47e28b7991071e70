/- Printed by wip/xp/xprint.sh out of the translation, for this claim: what each function answers, as a plain function, and that the machine does just that. No condition. -/
import Derived.Test.YtbhofhdmbbipgaaPFnExactPacketCutx0
import Derived.Test.YtbhofhdmbbipgaaPFnExactPacketCutx4
namespace Go.Proofs.Ytbhofhdmbbipgaa.PFnExactPacketCut
open Go.RowKit Go.Proofs.YtbhofhdmbbipgaaW.PrintWords Go.Proofs.YtbhofhdmbbipgaaW.PrintLast Go.Proofs.YtbhofhdmbbipgaaW.PrintMore
attribute [local go_sem] max2_int min2_int max_two min_two max_three min_three max_four min_four   -- for this text's walks alone
set_option linter.unusedVariables false
set_option linter.unusedSimpArgs false
def laws_heldPacketS.l0 : Nat → List (S24) → Int → Int → Option (Int)
 | 0, _, _, _ => none
 | k + 1, x0, x1, x5 => if x5 < (x0.length : Int) then (if 0 ≤ x5 then (if ((rd_T24 x0 x5).f0) = x1 then (if ((rd_T24 x0 x5).f1) = (wrap64 (x1 + 1)) then (if ((rd_T24 x0 x5).f2) = (wrap64 ((wrap64 (x1 + 1)) + 1)) then (if ((rd_T24 x0 x5).f3) = (wrap64 ((wrap64 ((wrap64 (x1 + 1)) + 1)) + 1)) then (if ((rd_T24 x0 x5).f4) = (wrap64 ((wrap64 ((wrap64 ((wrap64 (x1 + 1)) + 1)) + 1)) + 1)) then (if ((rd_T24 x0 x5).f5) = (wrap64 ((wrap64 ((wrap64 ((wrap64 ((wrap64 (x1 + 1)) + 1)) + 1)) + 1)) + 1)) then (if (((rd_T24 x0 x5).f6) != ((Int.tmod (wrap64 ((wrap64 ((wrap64 ((wrap64 ((wrap64 ((wrap64 (x1 + 1)) + 1)) + 1)) + 1)) + 1)) + 1)) 3) == 0)) = true then (some (-1)) else (if (((rd_T24 x0 x5).f7) != ((Int.tmod (wrap64 ((wrap64 ((wrap64 ((wrap64 ((wrap64 ((wrap64 ((wrap64 (x1 + 1)) + 1)) + 1)) + 1)) + 1)) + 1)) + 1)) 3) == 0)) = true then (some (-1)) else ((laws_heldByteS.f k ((rd_T24 x0 x5).f8) (wrap64 ((wrap64 ((wrap64 ((wrap64 ((wrap64 ((wrap64 ((wrap64 ((wrap64 (x1 + 1)) + 1)) + 1)) + 1)) + 1)) + 1)) + 1)) + 1))).bind fun t196 => (if t196 < 0 then (some (-1)) else (laws_heldPacketS.l0 k x0 t196 (wrap64 (x5 + 1))))))) else (some (-1))) else (some (-1))) else (some (-1))) else (some (-1))) else (some (-1))) else (some (-1))) else (none)) else (some x1)
def laws_heldPacketS.f (k : Nat) (l0 : List (S24)) (a1 : Int) : Option (Int) := laws_heldPacketS.l0 k l0 a1 0
theorem laws_heldPacketS.mono_l : ∀ k, (∀ y0 y1 y2, LeO (laws_heldPacketS.l0 k y0 y1 y2) (laws_heldPacketS.l0 (k + 1) y0 y1 y2))
 | 0 => fun _ _ _ r h => by simp [laws_heldPacketS.l0] at h
 | k + 1 => by
  have ih0 := laws_heldPacketS.mono_l k
  ·intro y0 y1 y2
   unfold laws_heldPacketS.l0
   repeat' first | (with_reducible first | apply ih0 | apply laws_heldByteS.mono | exact LeO.refl _ | exact LeO.none _ | refine LeO.ite ?_ ?_ | refine LeO.bind ?_ fun _ => ?_) | apply ih0 | apply laws_heldByteS.mono | exact LeO.none _ | refine LeO.ite ?_ ?_ | refine LeO.bind ?_ fun _ => ?_
theorem laws_heldPacketS.mono : ∀ a0 a1 k, LeO (laws_heldPacketS.f k a0 a1) (laws_heldPacketS.f (k + 1) a0 a1) := by
 intro a0 a1 k
 have ih0 := laws_heldPacketS.mono_l k
 unfold laws_heldPacketS.f
 repeat' first | (with_reducible first | apply ih0 | apply laws_heldByteS.mono | exact LeO.refl _ | exact LeO.none _ | refine LeO.ite ?_ ?_ | refine LeO.bind ?_ fun _ => ?_) | apply ih0 | apply laws_heldByteS.mono | exact LeO.none _ | refine LeO.ite ?_ ?_ | refine LeO.bind ?_ fun _ => ?_
set_option maxHeartbeats 8000000 in
set_option maxRecDepth 100000 in
theorem laws_heldPacketS.calls (k : Nat) (A0 : Option Addr) (c0 : Nat) (l0 : List (S24)) (a1 : Int) (r : Int) (w : World) (hr0 : Kd.C k24 w A0 l0.length l0) (hc0 : l0.length ≤ c0) (h : laws_heldPacketS.f k l0 a1 = some r) :
  Calls Try.prog 22 #[.slice A0 l0.length c0, .int .i64 a1] w fun e w' => e = .returned (.int .i64 r) ∧ Drawn0 w w' := by
 have HR0 := Aside0.mk hr0; have HC0 := Aside0.mk hc0; clear hr0 hc0
 have H : (laws_heldPacketS.l0 k l0 a1 0) = some r := h
 clear h
 have H' := Aside0.mk H
 clear H
 go_enter Try.func22, Try.ntmps22
 go_wp2
 go_loopg [1, 5] k (fun kq v1 v5 w' => ∃ (x1_1 : Int) (x5_1 : Int), v1 = .int .i64 x1_1 ∧ v5 = .int .i64 x5_1 ∧ Aside0 (laws_heldPacketS.l0 kq l0 x1_1 x5_1 = some r) ∧ Aside0 (kq ≤ k) ∧ Drawn0 w w')
 case atStart => exact ⟨(a1), (0), (by first | rfl | (simp; done) | (simp [*]; done)), (by first | rfl | (simp; done) | (simp [*]; done)), H', ⟨Nat.le_refl _⟩, by repeat (first | exact Drawn0.refl _ | apply Drawn0.step)⟩
 case round =>
  clear H'; (try clear c2); (try clear p2)
  obtain ⟨x1_1, x5_1, rfl, rfl, HA, HK1, ⟨m1, rfl⟩⟩ := hrel
  cases gk with
  | zero => exact absurd HA.out (by simp [laws_heldPacketS.l0])
  | succ k1 =>
   have H := HA.out; clear HA
   simp only [laws_heldPacketS.l0] at H
   by_cases c3 : x5_1 < (l0.length : Int)
   ·rw [if_pos c3] at H
    have c3b0 : decide (x5_1 < (l0.length : Int)) = true := decide_eq_true c3
    clear c3
    by_cases c4 : 0 ≤ x5_1
    ·rw [if_pos c4] at H
     have c4b0 : decide (0 ≤ x5_1) = true := decide_eq_true c4
     clear c4
     by_cases c5 : ((rd_T24 l0 x5_1).f0) = x1_1
     ·rw [if_pos c5] at H
      have c5b0 : (((rd_T24 l0 x5_1).f0) == x1_1) = true := beq_iff_eq.mpr c5
      have c5b1 : (((rd_T24 l0 x5_1).f0) != x1_1) = false := bne_eq_false_iff_eq.mpr c5
      clear c5
      by_cases c6 : ((rd_T24 l0 x5_1).f1) = (wrap64 (x1_1 + 1))
      ·rw [if_pos c6] at H
       have c6b0 : (((rd_T24 l0 x5_1).f1) == (wrap64 (x1_1 + 1))) = true := beq_iff_eq.mpr c6
       have c6b1 : (((rd_T24 l0 x5_1).f1) != (wrap64 (x1_1 + 1))) = false := bne_eq_false_iff_eq.mpr c6
       clear c6
       by_cases c7 : ((rd_T24 l0 x5_1).f2) = (wrap64 ((wrap64 (x1_1 + 1)) + 1))
       ·rw [if_pos c7] at H
        have c7b0 : (((rd_T24 l0 x5_1).f2) == (wrap64 ((wrap64 (x1_1 + 1)) + 1))) = true := beq_iff_eq.mpr c7
        have c7b1 : (((rd_T24 l0 x5_1).f2) != (wrap64 ((wrap64 (x1_1 + 1)) + 1))) = false := bne_eq_false_iff_eq.mpr c7
        clear c7
        by_cases c8 : ((rd_T24 l0 x5_1).f3) = (wrap64 ((wrap64 ((wrap64 (x1_1 + 1)) + 1)) + 1))
        ·rw [if_pos c8] at H
         have c8b0 : (((rd_T24 l0 x5_1).f3) == (wrap64 ((wrap64 ((wrap64 (x1_1 + 1)) + 1)) + 1))) = true := beq_iff_eq.mpr c8
         have c8b1 : (((rd_T24 l0 x5_1).f3) != (wrap64 ((wrap64 ((wrap64 (x1_1 + 1)) + 1)) + 1))) = false := bne_eq_false_iff_eq.mpr c8
         clear c8
         by_cases c9 : ((rd_T24 l0 x5_1).f4) = (wrap64 ((wrap64 ((wrap64 ((wrap64 (x1_1 + 1)) + 1)) + 1)) + 1))
         ·rw [if_pos c9] at H
          have c9b0 : (((rd_T24 l0 x5_1).f4) == (wrap64 ((wrap64 ((wrap64 ((wrap64 (x1_1 + 1)) + 1)) + 1)) + 1))) = true := beq_iff_eq.mpr c9
          have c9b1 : (((rd_T24 l0 x5_1).f4) != (wrap64 ((wrap64 ((wrap64 ((wrap64 (x1_1 + 1)) + 1)) + 1)) + 1))) = false := bne_eq_false_iff_eq.mpr c9
          clear c9
          by_cases c10 : ((rd_T24 l0 x5_1).f5) = (wrap64 ((wrap64 ((wrap64 ((wrap64 ((wrap64 (x1_1 + 1)) + 1)) + 1)) + 1)) + 1))
          ·rw [if_pos c10] at H
           have c10b0 : (((rd_T24 l0 x5_1).f5) == (wrap64 ((wrap64 ((wrap64 ((wrap64 ((wrap64 (x1_1 + 1)) + 1)) + 1)) + 1)) + 1))) = true := beq_iff_eq.mpr c10
           have c10b1 : (((rd_T24 l0 x5_1).f5) != (wrap64 ((wrap64 ((wrap64 ((wrap64 ((wrap64 (x1_1 + 1)) + 1)) + 1)) + 1)) + 1))) = false := bne_eq_false_iff_eq.mpr c10
           clear c10
           by_cases c11 : (((rd_T24 l0 x5_1).f6) != ((Int.tmod (wrap64 ((wrap64 ((wrap64 ((wrap64 ((wrap64 ((wrap64 (x1_1 + 1)) + 1)) + 1)) + 1)) + 1)) + 1)) 3) == 0)) = true
           ·rw [if_pos c11] at H
            have c11b0 : (((rd_T24 l0 x5_1).f6) != ((Int.tmod (wrap64 ((wrap64 ((wrap64 ((wrap64 ((wrap64 ((wrap64 (x1_1 + 1)) + 1)) + 1)) + 1)) + 1)) + 1)) 3) == 0)) = true := c11
            (try (have c11b1 : decide (((rd_T24 l0 x5_1).f6) = ((Int.tmod (wrap64 ((wrap64 ((wrap64 ((wrap64 ((wrap64 ((wrap64 (x1_1 + 1)) + 1)) + 1)) + 1)) + 1)) + 1)) 3) == 0)) = false := by simpa using c11))
            (try (have c11b2 : (((rd_T24 l0 x5_1).f6) == ((Int.tmod (wrap64 ((wrap64 ((wrap64 ((wrap64 ((wrap64 ((wrap64 (x1_1 + 1)) + 1)) + 1)) + 1)) + 1)) + 1)) 3) == 0)) = false := by simpa using c11))
            (try (have c11b3 : ¬ (((rd_T24 l0 x5_1).f6) = ((Int.tmod (wrap64 ((wrap64 ((wrap64 ((wrap64 ((wrap64 ((wrap64 (x1_1 + 1)) + 1)) + 1)) + 1)) + 1)) + 1)) 3) == 0)) := by simpa using c11))
            clear c11
            obtain rfl := Option.some.inj H
            have p187 : 0 ≤ (x5_1 : Int) := of_decide_eq_true (by first | (with_reducible assumption) | assumption)
            have q187 : x5_1 < (l0.length : Int) := of_decide_eq_true (by first | (with_reducible assumption) | assumption)
            obtain ⟨ad187, A187_8, c187_8, e187, hx187_0, hx187_1, hx187_2, hx187_3, hx187_4, hx187_5, hx187_6, hx187_7, hx187_8, hl187_8, hi187_8⟩ := at_T24 HR0.out x5_1 p187 q187
            cases e187
            have HR187_8 := Aside0.mk hi187_8; have HC187_8 := Aside0.mk hl187_8; clear hi187_8 hl187_8
            replace p187 := eq_true p187
            replace q187 := eq_true q187
            have p188 : 0 ≤ (x5_1 : Int) := of_decide_eq_true (by first | (with_reducible assumption) | assumption)
            have q188 : x5_1 < (l0.length : Int) := of_decide_eq_true (by first | (with_reducible assumption) | assumption)
            obtain ⟨ad188, A188_8, c188_8, e188, hx188_0, hx188_1, hx188_2, hx188_3, hx188_4, hx188_5, hx188_6, hx188_7, hx188_8, hl188_8, hi188_8⟩ := at_T24 HR0.out x5_1 p188 q188
            obtain rfl : ad187 = ad188 := (by injection e188)
            have HR188_8 := Aside0.mk hi188_8; have HC188_8 := Aside0.mk hl188_8; clear hi188_8 hl188_8
            replace p188 := eq_true p188
            replace q188 := eq_true q188
            have ea_ := Option.some.inj (hx187_8.symm.trans hx188_8)
            injection ea_ with ea_ en_ ec_
            subst ea_; subst ec_; clear en_
            have p189 : 0 ≤ (x5_1 : Int) := of_decide_eq_true (by first | (with_reducible assumption) | assumption)
            have q189 : x5_1 < (l0.length : Int) := of_decide_eq_true (by first | (with_reducible assumption) | assumption)
            obtain ⟨ad189, A189_8, c189_8, e189, hx189_0, hx189_1, hx189_2, hx189_3, hx189_4, hx189_5, hx189_6, hx189_7, hx189_8, hl189_8, hi189_8⟩ := at_T24 HR0.out x5_1 p189 q189
            obtain rfl : ad187 = ad189 := (by injection e189)
            have HR189_8 := Aside0.mk hi189_8; have HC189_8 := Aside0.mk hl189_8; clear hi189_8 hl189_8
            replace p189 := eq_true p189
            replace q189 := eq_true q189
            have ea_ := Option.some.inj (hx187_8.symm.trans hx189_8)
            injection ea_ with ea_ en_ ec_
            subst ea_; subst ec_; clear en_
            have p190 : 0 ≤ (x5_1 : Int) := of_decide_eq_true (by first | (with_reducible assumption) | assumption)
            have q190 : x5_1 < (l0.length : Int) := of_decide_eq_true (by first | (with_reducible assumption) | assumption)
            obtain ⟨ad190, A190_8, c190_8, e190, hx190_0, hx190_1, hx190_2, hx190_3, hx190_4, hx190_5, hx190_6, hx190_7, hx190_8, hl190_8, hi190_8⟩ := at_T24 HR0.out x5_1 p190 q190
            obtain rfl : ad187 = ad190 := (by injection e190)
            have HR190_8 := Aside0.mk hi190_8; have HC190_8 := Aside0.mk hl190_8; clear hi190_8 hl190_8
            replace p190 := eq_true p190
            replace q190 := eq_true q190
            have ea_ := Option.some.inj (hx187_8.symm.trans hx190_8)
            injection ea_ with ea_ en_ ec_
            subst ea_; subst ec_; clear en_
            have p191 : 0 ≤ (x5_1 : Int) := of_decide_eq_true (by first | (with_reducible assumption) | assumption)
            have q191 : x5_1 < (l0.length : Int) := of_decide_eq_true (by first | (with_reducible assumption) | assumption)
            obtain ⟨ad191, A191_8, c191_8, e191, hx191_0, hx191_1, hx191_2, hx191_3, hx191_4, hx191_5, hx191_6, hx191_7, hx191_8, hl191_8, hi191_8⟩ := at_T24 HR0.out x5_1 p191 q191
            obtain rfl : ad187 = ad191 := (by injection e191)
            have HR191_8 := Aside0.mk hi191_8; have HC191_8 := Aside0.mk hl191_8; clear hi191_8 hl191_8
            replace p191 := eq_true p191
            replace q191 := eq_true q191
            have ea_ := Option.some.inj (hx187_8.symm.trans hx191_8)
            injection ea_ with ea_ en_ ec_
            subst ea_; subst ec_; clear en_
            have p192 : 0 ≤ (x5_1 : Int) := of_decide_eq_true (by first | (with_reducible assumption) | assumption)
            have q192 : x5_1 < (l0.length : Int) := of_decide_eq_true (by first | (with_reducible assumption) | assumption)
            obtain ⟨ad192, A192_8, c192_8, e192, hx192_0, hx192_1, hx192_2, hx192_3, hx192_4, hx192_5, hx192_6, hx192_7, hx192_8, hl192_8, hi192_8⟩ := at_T24 HR0.out x5_1 p192 q192
            obtain rfl : ad187 = ad192 := (by injection e192)
            have HR192_8 := Aside0.mk hi192_8; have HC192_8 := Aside0.mk hl192_8; clear hi192_8 hl192_8
            replace p192 := eq_true p192
            replace q192 := eq_true q192
            have ea_ := Option.some.inj (hx187_8.symm.trans hx192_8)
            injection ea_ with ea_ en_ ec_
            subst ea_; subst ec_; clear en_
            have p193 : 0 ≤ (x5_1 : Int) := of_decide_eq_true (by first | (with_reducible assumption) | assumption)
            have q193 : x5_1 < (l0.length : Int) := of_decide_eq_true (by first | (with_reducible assumption) | assumption)
            obtain ⟨ad193, A193_8, c193_8, e193, hx193_0, hx193_1, hx193_2, hx193_3, hx193_4, hx193_5, hx193_6, hx193_7, hx193_8, hl193_8, hi193_8⟩ := at_T24 HR0.out x5_1 p193 q193
            obtain rfl : ad187 = ad193 := (by injection e193)
            have HR193_8 := Aside0.mk hi193_8; have HC193_8 := Aside0.mk hl193_8; clear hi193_8 hl193_8
            replace p193 := eq_true p193
            replace q193 := eq_true q193
            have ea_ := Option.some.inj (hx187_8.symm.trans hx193_8)
            injection ea_ with ea_ en_ ec_
            subst ea_; subst ec_; clear en_
            go_wp2
            go_ret
            exact ⟨by first | rfl | (simp; done) | (simp [*]; done), by repeat (first | exact Drawn0.refl _ | apply Drawn0.step)⟩
           ·rw [if_neg c11] at H
            have c11b0 : (((rd_T24 l0 x5_1).f6) != ((Int.tmod (wrap64 ((wrap64 ((wrap64 ((wrap64 ((wrap64 ((wrap64 (x1_1 + 1)) + 1)) + 1)) + 1)) + 1)) + 1)) 3) == 0)) = false := by simpa using c11
            (try (have c11b1 : decide (((rd_T24 l0 x5_1).f6) = ((Int.tmod (wrap64 ((wrap64 ((wrap64 ((wrap64 ((wrap64 ((wrap64 (x1_1 + 1)) + 1)) + 1)) + 1)) + 1)) + 1)) 3) == 0)) = true := by simpa using c11))
            (try (have c11b2 : (((rd_T24 l0 x5_1).f6) == ((Int.tmod (wrap64 ((wrap64 ((wrap64 ((wrap64 ((wrap64 ((wrap64 (x1_1 + 1)) + 1)) + 1)) + 1)) + 1)) + 1)) 3) == 0)) = true := by simpa using c11))
            clear c11
            by_cases c12 : (((rd_T24 l0 x5_1).f7) != ((Int.tmod (wrap64 ((wrap64 ((wrap64 ((wrap64 ((wrap64 ((wrap64 ((wrap64 (x1_1 + 1)) + 1)) + 1)) + 1)) + 1)) + 1)) + 1)) 3) == 0)) = true
            ·rw [if_pos c12] at H
             have c12b0 : (((rd_T24 l0 x5_1).f7) != ((Int.tmod (wrap64 ((wrap64 ((wrap64 ((wrap64 ((wrap64 ((wrap64 ((wrap64 (x1_1 + 1)) + 1)) + 1)) + 1)) + 1)) + 1)) + 1)) 3) == 0)) = true := c12
             (try (have c12b1 : decide (((rd_T24 l0 x5_1).f7) = ((Int.tmod (wrap64 ((wrap64 ((wrap64 ((wrap64 ((wrap64 ((wrap64 ((wrap64 (x1_1 + 1)) + 1)) + 1)) + 1)) + 1)) + 1)) + 1)) 3) == 0)) = false := by simpa using c12))
             (try (have c12b2 : (((rd_T24 l0 x5_1).f7) == ((Int.tmod (wrap64 ((wrap64 ((wrap64 ((wrap64 ((wrap64 ((wrap64 ((wrap64 (x1_1 + 1)) + 1)) + 1)) + 1)) + 1)) + 1)) + 1)) 3) == 0)) = false := by simpa using c12))
             (try (have c12b3 : ¬ (((rd_T24 l0 x5_1).f7) = ((Int.tmod (wrap64 ((wrap64 ((wrap64 ((wrap64 ((wrap64 ((wrap64 ((wrap64 (x1_1 + 1)) + 1)) + 1)) + 1)) + 1)) + 1)) + 1)) 3) == 0)) := by simpa using c12))
             clear c12
             obtain rfl := Option.some.inj H
             have p187 : 0 ≤ (x5_1 : Int) := of_decide_eq_true (by first | (with_reducible assumption) | assumption)
             have q187 : x5_1 < (l0.length : Int) := of_decide_eq_true (by first | (with_reducible assumption) | assumption)
             obtain ⟨ad187, A187_8, c187_8, e187, hx187_0, hx187_1, hx187_2, hx187_3, hx187_4, hx187_5, hx187_6, hx187_7, hx187_8, hl187_8, hi187_8⟩ := at_T24 HR0.out x5_1 p187 q187
             cases e187
             have HR187_8 := Aside0.mk hi187_8; have HC187_8 := Aside0.mk hl187_8; clear hi187_8 hl187_8
             replace p187 := eq_true p187
             replace q187 := eq_true q187
             have p188 : 0 ≤ (x5_1 : Int) := of_decide_eq_true (by first | (with_reducible assumption) | assumption)
             have q188 : x5_1 < (l0.length : Int) := of_decide_eq_true (by first | (with_reducible assumption) | assumption)
             obtain ⟨ad188, A188_8, c188_8, e188, hx188_0, hx188_1, hx188_2, hx188_3, hx188_4, hx188_5, hx188_6, hx188_7, hx188_8, hl188_8, hi188_8⟩ := at_T24 HR0.out x5_1 p188 q188
             obtain rfl : ad187 = ad188 := (by injection e188)
             have HR188_8 := Aside0.mk hi188_8; have HC188_8 := Aside0.mk hl188_8; clear hi188_8 hl188_8
             replace p188 := eq_true p188
             replace q188 := eq_true q188
             have ea_ := Option.some.inj (hx187_8.symm.trans hx188_8)
             injection ea_ with ea_ en_ ec_
             subst ea_; subst ec_; clear en_
             have p189 : 0 ≤ (x5_1 : Int) := of_decide_eq_true (by first | (with_reducible assumption) | assumption)
             have q189 : x5_1 < (l0.length : Int) := of_decide_eq_true (by first | (with_reducible assumption) | assumption)
             obtain ⟨ad189, A189_8, c189_8, e189, hx189_0, hx189_1, hx189_2, hx189_3, hx189_4, hx189_5, hx189_6, hx189_7, hx189_8, hl189_8, hi189_8⟩ := at_T24 HR0.out x5_1 p189 q189
             obtain rfl : ad187 = ad189 := (by injection e189)
             have HR189_8 := Aside0.mk hi189_8; have HC189_8 := Aside0.mk hl189_8; clear hi189_8 hl189_8
             replace p189 := eq_true p189
             replace q189 := eq_true q189
             have ea_ := Option.some.inj (hx187_8.symm.trans hx189_8)
             injection ea_ with ea_ en_ ec_
             subst ea_; subst ec_; clear en_
             have p190 : 0 ≤ (x5_1 : Int) := of_decide_eq_true (by first | (with_reducible assumption) | assumption)
             have q190 : x5_1 < (l0.length : Int) := of_decide_eq_true (by first | (with_reducible assumption) | assumption)
             obtain ⟨ad190, A190_8, c190_8, e190, hx190_0, hx190_1, hx190_2, hx190_3, hx190_4, hx190_5, hx190_6, hx190_7, hx190_8, hl190_8, hi190_8⟩ := at_T24 HR0.out x5_1 p190 q190
             obtain rfl : ad187 = ad190 := (by injection e190)
             have HR190_8 := Aside0.mk hi190_8; have HC190_8 := Aside0.mk hl190_8; clear hi190_8 hl190_8
             replace p190 := eq_true p190
             replace q190 := eq_true q190
             have ea_ := Option.some.inj (hx187_8.symm.trans hx190_8)
             injection ea_ with ea_ en_ ec_
             subst ea_; subst ec_; clear en_
             have p191 : 0 ≤ (x5_1 : Int) := of_decide_eq_true (by first | (with_reducible assumption) | assumption)
             have q191 : x5_1 < (l0.length : Int) := of_decide_eq_true (by first | (with_reducible assumption) | assumption)
             obtain ⟨ad191, A191_8, c191_8, e191, hx191_0, hx191_1, hx191_2, hx191_3, hx191_4, hx191_5, hx191_6, hx191_7, hx191_8, hl191_8, hi191_8⟩ := at_T24 HR0.out x5_1 p191 q191
             obtain rfl : ad187 = ad191 := (by injection e191)
             have HR191_8 := Aside0.mk hi191_8; have HC191_8 := Aside0.mk hl191_8; clear hi191_8 hl191_8
             replace p191 := eq_true p191
             replace q191 := eq_true q191
             have ea_ := Option.some.inj (hx187_8.symm.trans hx191_8)
             injection ea_ with ea_ en_ ec_
             subst ea_; subst ec_; clear en_
             have p192 : 0 ≤ (x5_1 : Int) := of_decide_eq_true (by first | (with_reducible assumption) | assumption)
             have q192 : x5_1 < (l0.length : Int) := of_decide_eq_true (by first | (with_reducible assumption) | assumption)
             obtain ⟨ad192, A192_8, c192_8, e192, hx192_0, hx192_1, hx192_2, hx192_3, hx192_4, hx192_5, hx192_6, hx192_7, hx192_8, hl192_8, hi192_8⟩ := at_T24 HR0.out x5_1 p192 q192
             obtain rfl : ad187 = ad192 := (by injection e192)
             have HR192_8 := Aside0.mk hi192_8; have HC192_8 := Aside0.mk hl192_8; clear hi192_8 hl192_8
             replace p192 := eq_true p192
             replace q192 := eq_true q192
             have ea_ := Option.some.inj (hx187_8.symm.trans hx192_8)
             injection ea_ with ea_ en_ ec_
             subst ea_; subst ec_; clear en_
             have p193 : 0 ≤ (x5_1 : Int) := of_decide_eq_true (by first | (with_reducible assumption) | assumption)
             have q193 : x5_1 < (l0.length : Int) := of_decide_eq_true (by first | (with_reducible assumption) | assumption)
             obtain ⟨ad193, A193_8, c193_8, e193, hx193_0, hx193_1, hx193_2, hx193_3, hx193_4, hx193_5, hx193_6, hx193_7, hx193_8, hl193_8, hi193_8⟩ := at_T24 HR0.out x5_1 p193 q193
             obtain rfl : ad187 = ad193 := (by injection e193)
             have HR193_8 := Aside0.mk hi193_8; have HC193_8 := Aside0.mk hl193_8; clear hi193_8 hl193_8
             replace p193 := eq_true p193
             replace q193 := eq_true q193
             have ea_ := Option.some.inj (hx187_8.symm.trans hx193_8)
             injection ea_ with ea_ en_ ec_
             subst ea_; subst ec_; clear en_
             have p194 : 0 ≤ (x5_1 : Int) := of_decide_eq_true (by first | (with_reducible assumption) | assumption)
             have q194 : x5_1 < (l0.length : Int) := of_decide_eq_true (by first | (with_reducible assumption) | assumption)
             obtain ⟨ad194, A194_8, c194_8, e194, hx194_0, hx194_1, hx194_2, hx194_3, hx194_4, hx194_5, hx194_6, hx194_7, hx194_8, hl194_8, hi194_8⟩ := at_T24 HR0.out x5_1 p194 q194
             obtain rfl : ad187 = ad194 := (by injection e194)
             have HR194_8 := Aside0.mk hi194_8; have HC194_8 := Aside0.mk hl194_8; clear hi194_8 hl194_8
             replace p194 := eq_true p194
             replace q194 := eq_true q194
             have ea_ := Option.some.inj (hx187_8.symm.trans hx194_8)
             injection ea_ with ea_ en_ ec_
             subst ea_; subst ec_; clear en_
             go_wp2
             go_ret
             exact ⟨by first | rfl | (simp; done) | (simp [*]; done), by repeat (first | exact Drawn0.refl _ | apply Drawn0.step)⟩
            ·rw [if_neg c12] at H
             have c12b0 : (((rd_T24 l0 x5_1).f7) != ((Int.tmod (wrap64 ((wrap64 ((wrap64 ((wrap64 ((wrap64 ((wrap64 ((wrap64 (x1_1 + 1)) + 1)) + 1)) + 1)) + 1)) + 1)) + 1)) 3) == 0)) = false := by simpa using c12
             (try (have c12b1 : decide (((rd_T24 l0 x5_1).f7) = ((Int.tmod (wrap64 ((wrap64 ((wrap64 ((wrap64 ((wrap64 ((wrap64 ((wrap64 (x1_1 + 1)) + 1)) + 1)) + 1)) + 1)) + 1)) + 1)) 3) == 0)) = true := by simpa using c12))
             (try (have c12b2 : (((rd_T24 l0 x5_1).f7) == ((Int.tmod (wrap64 ((wrap64 ((wrap64 ((wrap64 ((wrap64 ((wrap64 ((wrap64 (x1_1 + 1)) + 1)) + 1)) + 1)) + 1)) + 1)) + 1)) 3) == 0)) = true := by simpa using c12))
             clear c12
             replace H := Option.bind_eq_some_iff.mp H
             obtain ⟨t196, A130, H⟩ := H
             (try dsimp only at H)
             have A13 := Aside0.mk A130; clear A130
             by_cases c14 : t196 < 0
             ·rw [if_pos c14] at H
              have c14b0 : decide (t196 < 0) = true := decide_eq_true c14
              clear c14
              obtain rfl := Option.some.inj H
              have p187 : 0 ≤ (x5_1 : Int) := of_decide_eq_true (by first | (with_reducible assumption) | assumption)
              have q187 : x5_1 < (l0.length : Int) := of_decide_eq_true (by first | (with_reducible assumption) | assumption)
              obtain ⟨ad187, A187_8, c187_8, e187, hx187_0, hx187_1, hx187_2, hx187_3, hx187_4, hx187_5, hx187_6, hx187_7, hx187_8, hl187_8, hi187_8⟩ := at_T24 HR0.out x5_1 p187 q187
              cases e187
              have HR187_8 := Aside0.mk hi187_8; have HC187_8 := Aside0.mk hl187_8; clear hi187_8 hl187_8
              replace p187 := eq_true p187
              replace q187 := eq_true q187
              have p188 : 0 ≤ (x5_1 : Int) := of_decide_eq_true (by first | (with_reducible assumption) | assumption)
              have q188 : x5_1 < (l0.length : Int) := of_decide_eq_true (by first | (with_reducible assumption) | assumption)
              obtain ⟨ad188, A188_8, c188_8, e188, hx188_0, hx188_1, hx188_2, hx188_3, hx188_4, hx188_5, hx188_6, hx188_7, hx188_8, hl188_8, hi188_8⟩ := at_T24 HR0.out x5_1 p188 q188
              obtain rfl : ad187 = ad188 := (by injection e188)
              have HR188_8 := Aside0.mk hi188_8; have HC188_8 := Aside0.mk hl188_8; clear hi188_8 hl188_8
              replace p188 := eq_true p188
              replace q188 := eq_true q188
              have ea_ := Option.some.inj (hx187_8.symm.trans hx188_8)
              injection ea_ with ea_ en_ ec_
              subst ea_; subst ec_; clear en_
              have p189 : 0 ≤ (x5_1 : Int) := of_decide_eq_true (by first | (with_reducible assumption) | assumption)
              have q189 : x5_1 < (l0.length : Int) := of_decide_eq_true (by first | (with_reducible assumption) | assumption)
              obtain ⟨ad189, A189_8, c189_8, e189, hx189_0, hx189_1, hx189_2, hx189_3, hx189_4, hx189_5, hx189_6, hx189_7, hx189_8, hl189_8, hi189_8⟩ := at_T24 HR0.out x5_1 p189 q189
              obtain rfl : ad187 = ad189 := (by injection e189)
              have HR189_8 := Aside0.mk hi189_8; have HC189_8 := Aside0.mk hl189_8; clear hi189_8 hl189_8
              replace p189 := eq_true p189
              replace q189 := eq_true q189
              have ea_ := Option.some.inj (hx187_8.symm.trans hx189_8)
              injection ea_ with ea_ en_ ec_
              subst ea_; subst ec_; clear en_
              have p190 : 0 ≤ (x5_1 : Int) := of_decide_eq_true (by first | (with_reducible assumption) | assumption)
              have q190 : x5_1 < (l0.length : Int) := of_decide_eq_true (by first | (with_reducible assumption) | assumption)
              obtain ⟨ad190, A190_8, c190_8, e190, hx190_0, hx190_1, hx190_2, hx190_3, hx190_4, hx190_5, hx190_6, hx190_7, hx190_8, hl190_8, hi190_8⟩ := at_T24 HR0.out x5_1 p190 q190
              obtain rfl : ad187 = ad190 := (by injection e190)
              have HR190_8 := Aside0.mk hi190_8; have HC190_8 := Aside0.mk hl190_8; clear hi190_8 hl190_8
              replace p190 := eq_true p190
              replace q190 := eq_true q190
              have ea_ := Option.some.inj (hx187_8.symm.trans hx190_8)
              injection ea_ with ea_ en_ ec_
              subst ea_; subst ec_; clear en_
              have p191 : 0 ≤ (x5_1 : Int) := of_decide_eq_true (by first | (with_reducible assumption) | assumption)
              have q191 : x5_1 < (l0.length : Int) := of_decide_eq_true (by first | (with_reducible assumption) | assumption)
              obtain ⟨ad191, A191_8, c191_8, e191, hx191_0, hx191_1, hx191_2, hx191_3, hx191_4, hx191_5, hx191_6, hx191_7, hx191_8, hl191_8, hi191_8⟩ := at_T24 HR0.out x5_1 p191 q191
              obtain rfl : ad187 = ad191 := (by injection e191)
              have HR191_8 := Aside0.mk hi191_8; have HC191_8 := Aside0.mk hl191_8; clear hi191_8 hl191_8
              replace p191 := eq_true p191
              replace q191 := eq_true q191
              have ea_ := Option.some.inj (hx187_8.symm.trans hx191_8)
              injection ea_ with ea_ en_ ec_
              subst ea_; subst ec_; clear en_
              have p192 : 0 ≤ (x5_1 : Int) := of_decide_eq_true (by first | (with_reducible assumption) | assumption)
              have q192 : x5_1 < (l0.length : Int) := of_decide_eq_true (by first | (with_reducible assumption) | assumption)
              obtain ⟨ad192, A192_8, c192_8, e192, hx192_0, hx192_1, hx192_2, hx192_3, hx192_4, hx192_5, hx192_6, hx192_7, hx192_8, hl192_8, hi192_8⟩ := at_T24 HR0.out x5_1 p192 q192
              obtain rfl : ad187 = ad192 := (by injection e192)
              have HR192_8 := Aside0.mk hi192_8; have HC192_8 := Aside0.mk hl192_8; clear hi192_8 hl192_8
              replace p192 := eq_true p192
              replace q192 := eq_true q192
              have ea_ := Option.some.inj (hx187_8.symm.trans hx192_8)
              injection ea_ with ea_ en_ ec_
              subst ea_; subst ec_; clear en_
              have p193 : 0 ≤ (x5_1 : Int) := of_decide_eq_true (by first | (with_reducible assumption) | assumption)
              have q193 : x5_1 < (l0.length : Int) := of_decide_eq_true (by first | (with_reducible assumption) | assumption)
              obtain ⟨ad193, A193_8, c193_8, e193, hx193_0, hx193_1, hx193_2, hx193_3, hx193_4, hx193_5, hx193_6, hx193_7, hx193_8, hl193_8, hi193_8⟩ := at_T24 HR0.out x5_1 p193 q193
              obtain rfl : ad187 = ad193 := (by injection e193)
              have HR193_8 := Aside0.mk hi193_8; have HC193_8 := Aside0.mk hl193_8; clear hi193_8 hl193_8
              replace p193 := eq_true p193
              replace q193 := eq_true q193
              have ea_ := Option.some.inj (hx187_8.symm.trans hx193_8)
              injection ea_ with ea_ en_ ec_
              subst ea_; subst ec_; clear en_
              have p194 : 0 ≤ (x5_1 : Int) := of_decide_eq_true (by first | (with_reducible assumption) | assumption)
              have q194 : x5_1 < (l0.length : Int) := of_decide_eq_true (by first | (with_reducible assumption) | assumption)
              obtain ⟨ad194, A194_8, c194_8, e194, hx194_0, hx194_1, hx194_2, hx194_3, hx194_4, hx194_5, hx194_6, hx194_7, hx194_8, hl194_8, hi194_8⟩ := at_T24 HR0.out x5_1 p194 q194
              obtain rfl : ad187 = ad194 := (by injection e194)
              have HR194_8 := Aside0.mk hi194_8; have HC194_8 := Aside0.mk hl194_8; clear hi194_8 hl194_8
              replace p194 := eq_true p194
              replace q194 := eq_true q194
              have ea_ := Option.some.inj (hx187_8.symm.trans hx194_8)
              injection ea_ with ea_ en_ ec_
              subst ea_; subst ec_; clear en_
              have p195 : 0 ≤ (x5_1 : Int) := of_decide_eq_true (by first | (with_reducible assumption) | assumption)
              have q195 : x5_1 < (l0.length : Int) := of_decide_eq_true (by first | (with_reducible assumption) | assumption)
              obtain ⟨ad195, A195_8, c195_8, e195, hx195_0, hx195_1, hx195_2, hx195_3, hx195_4, hx195_5, hx195_6, hx195_7, hx195_8, hl195_8, hi195_8⟩ := at_T24 HR0.out x5_1 p195 q195
              obtain rfl : ad187 = ad195 := (by injection e195)
              have HR195_8 := Aside0.mk hi195_8; have HC195_8 := Aside0.mk hl195_8; clear hi195_8 hl195_8
              replace p195 := eq_true p195
              replace q195 := eq_true q195
              have ea_ := Option.some.inj (hx187_8.symm.trans hx195_8)
              injection ea_ with ea_ en_ ec_
              subst ea_; subst ec_; clear en_
              go_wp2_with (first | ((with_reducible refine gate_callee (f := 64) rfl ?_); refine goesL_ (some 94) rfl rfl Try.func64 (by kernel_rfl) rfl #[.slice A187_8 ((rd_T24 l0 x5_1).f8).length c187_8, .int .i64 (wrap64 ((wrap64 ((wrap64 ((wrap64 ((wrap64 ((wrap64 ((wrap64 ((wrap64 (x1_1 + 1)) + 1)) + 1)) + 1)) + 1)) + 1)) + 1)) + 1))] rfl ar_ ?_; (with_reducible refine (laws_heldByteS.calls k1 _ _ ((rd_T24 l0 x5_1).f8) (wrap64 ((wrap64 ((wrap64 ((wrap64 ((wrap64 ((wrap64 ((wrap64 ((wrap64 (x1_1 + 1)) + 1)) + 1)) + 1)) + 1)) + 1)) + 1)) + 1)) t196 _ ?side1 ?side2 A13.out).mono ?_); (case side1 => exact kC_ HR195_8.out); (case side2 => exact HC195_8.out); rintro e w' ⟨rfl, ⟨nd, rfl⟩⟩; refine ⟨_, rfl, ?_⟩))
              go_ret
              exact ⟨by first | rfl | (simp; done) | (simp [*]; done), by repeat (first | exact Drawn0.refl _ | apply Drawn0.step)⟩
             ·rw [if_neg c14] at H
              have c14b0 : decide (t196 < 0) = false := decide_eq_false c14
              clear c14
              have H' := Aside0.mk H
              clear H
              have p187 : 0 ≤ (x5_1 : Int) := of_decide_eq_true (by first | (with_reducible assumption) | assumption)
              have q187 : x5_1 < (l0.length : Int) := of_decide_eq_true (by first | (with_reducible assumption) | assumption)
              obtain ⟨ad187, A187_8, c187_8, e187, hx187_0, hx187_1, hx187_2, hx187_3, hx187_4, hx187_5, hx187_6, hx187_7, hx187_8, hl187_8, hi187_8⟩ := at_T24 HR0.out x5_1 p187 q187
              cases e187
              have HR187_8 := Aside0.mk hi187_8; have HC187_8 := Aside0.mk hl187_8; clear hi187_8 hl187_8
              replace p187 := eq_true p187
              replace q187 := eq_true q187
              have p188 : 0 ≤ (x5_1 : Int) := of_decide_eq_true (by first | (with_reducible assumption) | assumption)
              have q188 : x5_1 < (l0.length : Int) := of_decide_eq_true (by first | (with_reducible assumption) | assumption)
              obtain ⟨ad188, A188_8, c188_8, e188, hx188_0, hx188_1, hx188_2, hx188_3, hx188_4, hx188_5, hx188_6, hx188_7, hx188_8, hl188_8, hi188_8⟩ := at_T24 HR0.out x5_1 p188 q188
              obtain rfl : ad187 = ad188 := (by injection e188)
              have HR188_8 := Aside0.mk hi188_8; have HC188_8 := Aside0.mk hl188_8; clear hi188_8 hl188_8
              replace p188 := eq_true p188
              replace q188 := eq_true q188
              have ea_ := Option.some.inj (hx187_8.symm.trans hx188_8)
              injection ea_ with ea_ en_ ec_
              subst ea_; subst ec_; clear en_
              have p189 : 0 ≤ (x5_1 : Int) := of_decide_eq_true (by first | (with_reducible assumption) | assumption)
              have q189 : x5_1 < (l0.length : Int) := of_decide_eq_true (by first | (with_reducible assumption) | assumption)
              obtain ⟨ad189, A189_8, c189_8, e189, hx189_0, hx189_1, hx189_2, hx189_3, hx189_4, hx189_5, hx189_6, hx189_7, hx189_8, hl189_8, hi189_8⟩ := at_T24 HR0.out x5_1 p189 q189
              obtain rfl : ad187 = ad189 := (by injection e189)
              have HR189_8 := Aside0.mk hi189_8; have HC189_8 := Aside0.mk hl189_8; clear hi189_8 hl189_8
              replace p189 := eq_true p189
              replace q189 := eq_true q189
              have ea_ := Option.some.inj (hx187_8.symm.trans hx189_8)
              injection ea_ with ea_ en_ ec_
              subst ea_; subst ec_; clear en_
              have p190 : 0 ≤ (x5_1 : Int) := of_decide_eq_true (by first | (with_reducible assumption) | assumption)
              have q190 : x5_1 < (l0.length : Int) := of_decide_eq_true (by first | (with_reducible assumption) | assumption)
              obtain ⟨ad190, A190_8, c190_8, e190, hx190_0, hx190_1, hx190_2, hx190_3, hx190_4, hx190_5, hx190_6, hx190_7, hx190_8, hl190_8, hi190_8⟩ := at_T24 HR0.out x5_1 p190 q190
              obtain rfl : ad187 = ad190 := (by injection e190)
              have HR190_8 := Aside0.mk hi190_8; have HC190_8 := Aside0.mk hl190_8; clear hi190_8 hl190_8
              replace p190 := eq_true p190
              replace q190 := eq_true q190
              have ea_ := Option.some.inj (hx187_8.symm.trans hx190_8)
              injection ea_ with ea_ en_ ec_
              subst ea_; subst ec_; clear en_
              have p191 : 0 ≤ (x5_1 : Int) := of_decide_eq_true (by first | (with_reducible assumption) | assumption)
              have q191 : x5_1 < (l0.length : Int) := of_decide_eq_true (by first | (with_reducible assumption) | assumption)
              obtain ⟨ad191, A191_8, c191_8, e191, hx191_0, hx191_1, hx191_2, hx191_3, hx191_4, hx191_5, hx191_6, hx191_7, hx191_8, hl191_8, hi191_8⟩ := at_T24 HR0.out x5_1 p191 q191
              obtain rfl : ad187 = ad191 := (by injection e191)
              have HR191_8 := Aside0.mk hi191_8; have HC191_8 := Aside0.mk hl191_8; clear hi191_8 hl191_8
              replace p191 := eq_true p191
              replace q191 := eq_true q191
              have ea_ := Option.some.inj (hx187_8.symm.trans hx191_8)
              injection ea_ with ea_ en_ ec_
              subst ea_; subst ec_; clear en_
              have p192 : 0 ≤ (x5_1 : Int) := of_decide_eq_true (by first | (with_reducible assumption) | assumption)
              have q192 : x5_1 < (l0.length : Int) := of_decide_eq_true (by first | (with_reducible assumption) | assumption)
              obtain ⟨ad192, A192_8, c192_8, e192, hx192_0, hx192_1, hx192_2, hx192_3, hx192_4, hx192_5, hx192_6, hx192_7, hx192_8, hl192_8, hi192_8⟩ := at_T24 HR0.out x5_1 p192 q192
              obtain rfl : ad187 = ad192 := (by injection e192)
              have HR192_8 := Aside0.mk hi192_8; have HC192_8 := Aside0.mk hl192_8; clear hi192_8 hl192_8
              replace p192 := eq_true p192
              replace q192 := eq_true q192
              have ea_ := Option.some.inj (hx187_8.symm.trans hx192_8)
              injection ea_ with ea_ en_ ec_
              subst ea_; subst ec_; clear en_
              have p193 : 0 ≤ (x5_1 : Int) := of_decide_eq_true (by first | (with_reducible assumption) | assumption)
              have q193 : x5_1 < (l0.length : Int) := of_decide_eq_true (by first | (with_reducible assumption) | assumption)
              obtain ⟨ad193, A193_8, c193_8, e193, hx193_0, hx193_1, hx193_2, hx193_3, hx193_4, hx193_5, hx193_6, hx193_7, hx193_8, hl193_8, hi193_8⟩ := at_T24 HR0.out x5_1 p193 q193
              obtain rfl : ad187 = ad193 := (by injection e193)
              have HR193_8 := Aside0.mk hi193_8; have HC193_8 := Aside0.mk hl193_8; clear hi193_8 hl193_8
              replace p193 := eq_true p193
              replace q193 := eq_true q193
              have ea_ := Option.some.inj (hx187_8.symm.trans hx193_8)
              injection ea_ with ea_ en_ ec_
              subst ea_; subst ec_; clear en_
              have p194 : 0 ≤ (x5_1 : Int) := of_decide_eq_true (by first | (with_reducible assumption) | assumption)
              have q194 : x5_1 < (l0.length : Int) := of_decide_eq_true (by first | (with_reducible assumption) | assumption)
              obtain ⟨ad194, A194_8, c194_8, e194, hx194_0, hx194_1, hx194_2, hx194_3, hx194_4, hx194_5, hx194_6, hx194_7, hx194_8, hl194_8, hi194_8⟩ := at_T24 HR0.out x5_1 p194 q194
              obtain rfl : ad187 = ad194 := (by injection e194)
              have HR194_8 := Aside0.mk hi194_8; have HC194_8 := Aside0.mk hl194_8; clear hi194_8 hl194_8
              replace p194 := eq_true p194
              replace q194 := eq_true q194
              have ea_ := Option.some.inj (hx187_8.symm.trans hx194_8)
              injection ea_ with ea_ en_ ec_
              subst ea_; subst ec_; clear en_
              have p195 : 0 ≤ (x5_1 : Int) := of_decide_eq_true (by first | (with_reducible assumption) | assumption)
              have q195 : x5_1 < (l0.length : Int) := of_decide_eq_true (by first | (with_reducible assumption) | assumption)
              obtain ⟨ad195, A195_8, c195_8, e195, hx195_0, hx195_1, hx195_2, hx195_3, hx195_4, hx195_5, hx195_6, hx195_7, hx195_8, hl195_8, hi195_8⟩ := at_T24 HR0.out x5_1 p195 q195
              obtain rfl : ad187 = ad195 := (by injection e195)
              have HR195_8 := Aside0.mk hi195_8; have HC195_8 := Aside0.mk hl195_8; clear hi195_8 hl195_8
              replace p195 := eq_true p195
              replace q195 := eq_true q195
              have ea_ := Option.some.inj (hx187_8.symm.trans hx195_8)
              injection ea_ with ea_ en_ ec_
              subst ea_; subst ec_; clear en_
              go_wp2_with (first | ((with_reducible refine gate_callee (f := 64) rfl ?_); refine goesL_ (some 94) rfl rfl Try.func64 (by kernel_rfl) rfl #[.slice A187_8 ((rd_T24 l0 x5_1).f8).length c187_8, .int .i64 (wrap64 ((wrap64 ((wrap64 ((wrap64 ((wrap64 ((wrap64 ((wrap64 ((wrap64 (x1_1 + 1)) + 1)) + 1)) + 1)) + 1)) + 1)) + 1)) + 1))] rfl ar_ ?_; (with_reducible refine (laws_heldByteS.calls k1 _ _ ((rd_T24 l0 x5_1).f8) (wrap64 ((wrap64 ((wrap64 ((wrap64 ((wrap64 ((wrap64 ((wrap64 ((wrap64 (x1_1 + 1)) + 1)) + 1)) + 1)) + 1)) + 1)) + 1)) + 1)) t196 _ ?side1 ?side2 A13.out).mono ?_); (case side1 => exact kC_ HR195_8.out); (case side2 => exact HC195_8.out); rintro e w' ⟨rfl, ⟨nd, rfl⟩⟩; refine ⟨_, rfl, ?_⟩))
              go_roundg k1
              case measure => have := HK1.out; omega
              case rel => exact ⟨(t196), (wrap64 (x5_1 + 1)), (by first | rfl | (simp; done) | (simp [*]; done)), (by first | rfl | (simp; done) | (simp [*]; done)), H', ⟨by have := HK1.out; omega⟩, by repeat (first | exact Drawn0.refl _ | apply Drawn0.step)⟩
          ·rw [if_neg c10] at H
           have c10b0 : (((rd_T24 l0 x5_1).f5) == (wrap64 ((wrap64 ((wrap64 ((wrap64 ((wrap64 (x1_1 + 1)) + 1)) + 1)) + 1)) + 1))) = false := beq_eq_false_iff_ne.mpr c10
           have c10b1 : (((rd_T24 l0 x5_1).f5) != (wrap64 ((wrap64 ((wrap64 ((wrap64 ((wrap64 (x1_1 + 1)) + 1)) + 1)) + 1)) + 1))) = true := bne_iff_ne.mpr c10
           obtain rfl := Option.some.inj H
           have p187 : 0 ≤ (x5_1 : Int) := of_decide_eq_true (by first | (with_reducible assumption) | assumption)
           have q187 : x5_1 < (l0.length : Int) := of_decide_eq_true (by first | (with_reducible assumption) | assumption)
           obtain ⟨ad187, A187_8, c187_8, e187, hx187_0, hx187_1, hx187_2, hx187_3, hx187_4, hx187_5, hx187_6, hx187_7, hx187_8, hl187_8, hi187_8⟩ := at_T24 HR0.out x5_1 p187 q187
           cases e187
           have HR187_8 := Aside0.mk hi187_8; have HC187_8 := Aside0.mk hl187_8; clear hi187_8 hl187_8
           replace p187 := eq_true p187
           replace q187 := eq_true q187
           have p188 : 0 ≤ (x5_1 : Int) := of_decide_eq_true (by first | (with_reducible assumption) | assumption)
           have q188 : x5_1 < (l0.length : Int) := of_decide_eq_true (by first | (with_reducible assumption) | assumption)
           obtain ⟨ad188, A188_8, c188_8, e188, hx188_0, hx188_1, hx188_2, hx188_3, hx188_4, hx188_5, hx188_6, hx188_7, hx188_8, hl188_8, hi188_8⟩ := at_T24 HR0.out x5_1 p188 q188
           obtain rfl : ad187 = ad188 := (by injection e188)
           have HR188_8 := Aside0.mk hi188_8; have HC188_8 := Aside0.mk hl188_8; clear hi188_8 hl188_8
           replace p188 := eq_true p188
           replace q188 := eq_true q188
           have ea_ := Option.some.inj (hx187_8.symm.trans hx188_8)
           injection ea_ with ea_ en_ ec_
           subst ea_; subst ec_; clear en_
           have p189 : 0 ≤ (x5_1 : Int) := of_decide_eq_true (by first | (with_reducible assumption) | assumption)
           have q189 : x5_1 < (l0.length : Int) := of_decide_eq_true (by first | (with_reducible assumption) | assumption)
           obtain ⟨ad189, A189_8, c189_8, e189, hx189_0, hx189_1, hx189_2, hx189_3, hx189_4, hx189_5, hx189_6, hx189_7, hx189_8, hl189_8, hi189_8⟩ := at_T24 HR0.out x5_1 p189 q189
           obtain rfl : ad187 = ad189 := (by injection e189)
           have HR189_8 := Aside0.mk hi189_8; have HC189_8 := Aside0.mk hl189_8; clear hi189_8 hl189_8
           replace p189 := eq_true p189
           replace q189 := eq_true q189
           have ea_ := Option.some.inj (hx187_8.symm.trans hx189_8)
           injection ea_ with ea_ en_ ec_
           subst ea_; subst ec_; clear en_
           have p190 : 0 ≤ (x5_1 : Int) := of_decide_eq_true (by first | (with_reducible assumption) | assumption)
           have q190 : x5_1 < (l0.length : Int) := of_decide_eq_true (by first | (with_reducible assumption) | assumption)
           obtain ⟨ad190, A190_8, c190_8, e190, hx190_0, hx190_1, hx190_2, hx190_3, hx190_4, hx190_5, hx190_6, hx190_7, hx190_8, hl190_8, hi190_8⟩ := at_T24 HR0.out x5_1 p190 q190
           obtain rfl : ad187 = ad190 := (by injection e190)
           have HR190_8 := Aside0.mk hi190_8; have HC190_8 := Aside0.mk hl190_8; clear hi190_8 hl190_8
           replace p190 := eq_true p190
           replace q190 := eq_true q190
           have ea_ := Option.some.inj (hx187_8.symm.trans hx190_8)
           injection ea_ with ea_ en_ ec_
           subst ea_; subst ec_; clear en_
           have p191 : 0 ≤ (x5_1 : Int) := of_decide_eq_true (by first | (with_reducible assumption) | assumption)
           have q191 : x5_1 < (l0.length : Int) := of_decide_eq_true (by first | (with_reducible assumption) | assumption)
           obtain ⟨ad191, A191_8, c191_8, e191, hx191_0, hx191_1, hx191_2, hx191_3, hx191_4, hx191_5, hx191_6, hx191_7, hx191_8, hl191_8, hi191_8⟩ := at_T24 HR0.out x5_1 p191 q191
           obtain rfl : ad187 = ad191 := (by injection e191)
           have HR191_8 := Aside0.mk hi191_8; have HC191_8 := Aside0.mk hl191_8; clear hi191_8 hl191_8
           replace p191 := eq_true p191
           replace q191 := eq_true q191
           have ea_ := Option.some.inj (hx187_8.symm.trans hx191_8)
           injection ea_ with ea_ en_ ec_
           subst ea_; subst ec_; clear en_
           have p192 : 0 ≤ (x5_1 : Int) := of_decide_eq_true (by first | (with_reducible assumption) | assumption)
           have q192 : x5_1 < (l0.length : Int) := of_decide_eq_true (by first | (with_reducible assumption) | assumption)
           obtain ⟨ad192, A192_8, c192_8, e192, hx192_0, hx192_1, hx192_2, hx192_3, hx192_4, hx192_5, hx192_6, hx192_7, hx192_8, hl192_8, hi192_8⟩ := at_T24 HR0.out x5_1 p192 q192
           obtain rfl : ad187 = ad192 := (by injection e192)
           have HR192_8 := Aside0.mk hi192_8; have HC192_8 := Aside0.mk hl192_8; clear hi192_8 hl192_8
           replace p192 := eq_true p192
           replace q192 := eq_true q192
           have ea_ := Option.some.inj (hx187_8.symm.trans hx192_8)
           injection ea_ with ea_ en_ ec_
           subst ea_; subst ec_; clear en_
           go_wp2
           go_ret
           exact ⟨by first | rfl | (simp; done) | (simp [*]; done), by repeat (first | exact Drawn0.refl _ | apply Drawn0.step)⟩
         ·rw [if_neg c9] at H
          have c9b0 : (((rd_T24 l0 x5_1).f4) == (wrap64 ((wrap64 ((wrap64 ((wrap64 (x1_1 + 1)) + 1)) + 1)) + 1))) = false := beq_eq_false_iff_ne.mpr c9
          have c9b1 : (((rd_T24 l0 x5_1).f4) != (wrap64 ((wrap64 ((wrap64 ((wrap64 (x1_1 + 1)) + 1)) + 1)) + 1))) = true := bne_iff_ne.mpr c9
          obtain rfl := Option.some.inj H
          have p187 : 0 ≤ (x5_1 : Int) := of_decide_eq_true (by first | (with_reducible assumption) | assumption)
          have q187 : x5_1 < (l0.length : Int) := of_decide_eq_true (by first | (with_reducible assumption) | assumption)
          obtain ⟨ad187, A187_8, c187_8, e187, hx187_0, hx187_1, hx187_2, hx187_3, hx187_4, hx187_5, hx187_6, hx187_7, hx187_8, hl187_8, hi187_8⟩ := at_T24 HR0.out x5_1 p187 q187
          cases e187
          have HR187_8 := Aside0.mk hi187_8; have HC187_8 := Aside0.mk hl187_8; clear hi187_8 hl187_8
          replace p187 := eq_true p187
          replace q187 := eq_true q187
          have p188 : 0 ≤ (x5_1 : Int) := of_decide_eq_true (by first | (with_reducible assumption) | assumption)
          have q188 : x5_1 < (l0.length : Int) := of_decide_eq_true (by first | (with_reducible assumption) | assumption)
          obtain ⟨ad188, A188_8, c188_8, e188, hx188_0, hx188_1, hx188_2, hx188_3, hx188_4, hx188_5, hx188_6, hx188_7, hx188_8, hl188_8, hi188_8⟩ := at_T24 HR0.out x5_1 p188 q188
          obtain rfl : ad187 = ad188 := (by injection e188)
          have HR188_8 := Aside0.mk hi188_8; have HC188_8 := Aside0.mk hl188_8; clear hi188_8 hl188_8
          replace p188 := eq_true p188
          replace q188 := eq_true q188
          have ea_ := Option.some.inj (hx187_8.symm.trans hx188_8)
          injection ea_ with ea_ en_ ec_
          subst ea_; subst ec_; clear en_
          have p189 : 0 ≤ (x5_1 : Int) := of_decide_eq_true (by first | (with_reducible assumption) | assumption)
          have q189 : x5_1 < (l0.length : Int) := of_decide_eq_true (by first | (with_reducible assumption) | assumption)
          obtain ⟨ad189, A189_8, c189_8, e189, hx189_0, hx189_1, hx189_2, hx189_3, hx189_4, hx189_5, hx189_6, hx189_7, hx189_8, hl189_8, hi189_8⟩ := at_T24 HR0.out x5_1 p189 q189
          obtain rfl : ad187 = ad189 := (by injection e189)
          have HR189_8 := Aside0.mk hi189_8; have HC189_8 := Aside0.mk hl189_8; clear hi189_8 hl189_8
          replace p189 := eq_true p189
          replace q189 := eq_true q189
          have ea_ := Option.some.inj (hx187_8.symm.trans hx189_8)
          injection ea_ with ea_ en_ ec_
          subst ea_; subst ec_; clear en_
          have p190 : 0 ≤ (x5_1 : Int) := of_decide_eq_true (by first | (with_reducible assumption) | assumption)
          have q190 : x5_1 < (l0.length : Int) := of_decide_eq_true (by first | (with_reducible assumption) | assumption)
          obtain ⟨ad190, A190_8, c190_8, e190, hx190_0, hx190_1, hx190_2, hx190_3, hx190_4, hx190_5, hx190_6, hx190_7, hx190_8, hl190_8, hi190_8⟩ := at_T24 HR0.out x5_1 p190 q190
          obtain rfl : ad187 = ad190 := (by injection e190)
          have HR190_8 := Aside0.mk hi190_8; have HC190_8 := Aside0.mk hl190_8; clear hi190_8 hl190_8
          replace p190 := eq_true p190
          replace q190 := eq_true q190
          have ea_ := Option.some.inj (hx187_8.symm.trans hx190_8)
          injection ea_ with ea_ en_ ec_
          subst ea_; subst ec_; clear en_
          have p191 : 0 ≤ (x5_1 : Int) := of_decide_eq_true (by first | (with_reducible assumption) | assumption)
          have q191 : x5_1 < (l0.length : Int) := of_decide_eq_true (by first | (with_reducible assumption) | assumption)
          obtain ⟨ad191, A191_8, c191_8, e191, hx191_0, hx191_1, hx191_2, hx191_3, hx191_4, hx191_5, hx191_6, hx191_7, hx191_8, hl191_8, hi191_8⟩ := at_T24 HR0.out x5_1 p191 q191
          obtain rfl : ad187 = ad191 := (by injection e191)
          have HR191_8 := Aside0.mk hi191_8; have HC191_8 := Aside0.mk hl191_8; clear hi191_8 hl191_8
          replace p191 := eq_true p191
          replace q191 := eq_true q191
          have ea_ := Option.some.inj (hx187_8.symm.trans hx191_8)
          injection ea_ with ea_ en_ ec_
          subst ea_; subst ec_; clear en_
          go_wp2
          go_ret
          exact ⟨by first | rfl | (simp; done) | (simp [*]; done), by repeat (first | exact Drawn0.refl _ | apply Drawn0.step)⟩
        ·rw [if_neg c8] at H
         have c8b0 : (((rd_T24 l0 x5_1).f3) == (wrap64 ((wrap64 ((wrap64 (x1_1 + 1)) + 1)) + 1))) = false := beq_eq_false_iff_ne.mpr c8
         have c8b1 : (((rd_T24 l0 x5_1).f3) != (wrap64 ((wrap64 ((wrap64 (x1_1 + 1)) + 1)) + 1))) = true := bne_iff_ne.mpr c8
         obtain rfl := Option.some.inj H
         have p187 : 0 ≤ (x5_1 : Int) := of_decide_eq_true (by first | (with_reducible assumption) | assumption)
         have q187 : x5_1 < (l0.length : Int) := of_decide_eq_true (by first | (with_reducible assumption) | assumption)
         obtain ⟨ad187, A187_8, c187_8, e187, hx187_0, hx187_1, hx187_2, hx187_3, hx187_4, hx187_5, hx187_6, hx187_7, hx187_8, hl187_8, hi187_8⟩ := at_T24 HR0.out x5_1 p187 q187
         cases e187
         have HR187_8 := Aside0.mk hi187_8; have HC187_8 := Aside0.mk hl187_8; clear hi187_8 hl187_8
         replace p187 := eq_true p187
         replace q187 := eq_true q187
         have p188 : 0 ≤ (x5_1 : Int) := of_decide_eq_true (by first | (with_reducible assumption) | assumption)
         have q188 : x5_1 < (l0.length : Int) := of_decide_eq_true (by first | (with_reducible assumption) | assumption)
         obtain ⟨ad188, A188_8, c188_8, e188, hx188_0, hx188_1, hx188_2, hx188_3, hx188_4, hx188_5, hx188_6, hx188_7, hx188_8, hl188_8, hi188_8⟩ := at_T24 HR0.out x5_1 p188 q188
         obtain rfl : ad187 = ad188 := (by injection e188)
         have HR188_8 := Aside0.mk hi188_8; have HC188_8 := Aside0.mk hl188_8; clear hi188_8 hl188_8
         replace p188 := eq_true p188
         replace q188 := eq_true q188
         have ea_ := Option.some.inj (hx187_8.symm.trans hx188_8)
         injection ea_ with ea_ en_ ec_
         subst ea_; subst ec_; clear en_
         have p189 : 0 ≤ (x5_1 : Int) := of_decide_eq_true (by first | (with_reducible assumption) | assumption)
         have q189 : x5_1 < (l0.length : Int) := of_decide_eq_true (by first | (with_reducible assumption) | assumption)
         obtain ⟨ad189, A189_8, c189_8, e189, hx189_0, hx189_1, hx189_2, hx189_3, hx189_4, hx189_5, hx189_6, hx189_7, hx189_8, hl189_8, hi189_8⟩ := at_T24 HR0.out x5_1 p189 q189
         obtain rfl : ad187 = ad189 := (by injection e189)
         have HR189_8 := Aside0.mk hi189_8; have HC189_8 := Aside0.mk hl189_8; clear hi189_8 hl189_8
         replace p189 := eq_true p189
         replace q189 := eq_true q189
         have ea_ := Option.some.inj (hx187_8.symm.trans hx189_8)
         injection ea_ with ea_ en_ ec_
         subst ea_; subst ec_; clear en_
         have p190 : 0 ≤ (x5_1 : Int) := of_decide_eq_true (by first | (with_reducible assumption) | assumption)
         have q190 : x5_1 < (l0.length : Int) := of_decide_eq_true (by first | (with_reducible assumption) | assumption)
         obtain ⟨ad190, A190_8, c190_8, e190, hx190_0, hx190_1, hx190_2, hx190_3, hx190_4, hx190_5, hx190_6, hx190_7, hx190_8, hl190_8, hi190_8⟩ := at_T24 HR0.out x5_1 p190 q190
         obtain rfl : ad187 = ad190 := (by injection e190)
         have HR190_8 := Aside0.mk hi190_8; have HC190_8 := Aside0.mk hl190_8; clear hi190_8 hl190_8
         replace p190 := eq_true p190
         replace q190 := eq_true q190
         have ea_ := Option.some.inj (hx187_8.symm.trans hx190_8)
         injection ea_ with ea_ en_ ec_
         subst ea_; subst ec_; clear en_
         go_wp2
         go_ret
         exact ⟨by first | rfl | (simp; done) | (simp [*]; done), by repeat (first | exact Drawn0.refl _ | apply Drawn0.step)⟩
       ·rw [if_neg c7] at H
        have c7b0 : (((rd_T24 l0 x5_1).f2) == (wrap64 ((wrap64 (x1_1 + 1)) + 1))) = false := beq_eq_false_iff_ne.mpr c7
        have c7b1 : (((rd_T24 l0 x5_1).f2) != (wrap64 ((wrap64 (x1_1 + 1)) + 1))) = true := bne_iff_ne.mpr c7
        obtain rfl := Option.some.inj H
        have p187 : 0 ≤ (x5_1 : Int) := of_decide_eq_true (by first | (with_reducible assumption) | assumption)
        have q187 : x5_1 < (l0.length : Int) := of_decide_eq_true (by first | (with_reducible assumption) | assumption)
        obtain ⟨ad187, A187_8, c187_8, e187, hx187_0, hx187_1, hx187_2, hx187_3, hx187_4, hx187_5, hx187_6, hx187_7, hx187_8, hl187_8, hi187_8⟩ := at_T24 HR0.out x5_1 p187 q187
        cases e187
        have HR187_8 := Aside0.mk hi187_8; have HC187_8 := Aside0.mk hl187_8; clear hi187_8 hl187_8
        replace p187 := eq_true p187
        replace q187 := eq_true q187
        have p188 : 0 ≤ (x5_1 : Int) := of_decide_eq_true (by first | (with_reducible assumption) | assumption)
        have q188 : x5_1 < (l0.length : Int) := of_decide_eq_true (by first | (with_reducible assumption) | assumption)
        obtain ⟨ad188, A188_8, c188_8, e188, hx188_0, hx188_1, hx188_2, hx188_3, hx188_4, hx188_5, hx188_6, hx188_7, hx188_8, hl188_8, hi188_8⟩ := at_T24 HR0.out x5_1 p188 q188
        obtain rfl : ad187 = ad188 := (by injection e188)
        have HR188_8 := Aside0.mk hi188_8; have HC188_8 := Aside0.mk hl188_8; clear hi188_8 hl188_8
        replace p188 := eq_true p188
        replace q188 := eq_true q188
        have ea_ := Option.some.inj (hx187_8.symm.trans hx188_8)
        injection ea_ with ea_ en_ ec_
        subst ea_; subst ec_; clear en_
        have p189 : 0 ≤ (x5_1 : Int) := of_decide_eq_true (by first | (with_reducible assumption) | assumption)
        have q189 : x5_1 < (l0.length : Int) := of_decide_eq_true (by first | (with_reducible assumption) | assumption)
        obtain ⟨ad189, A189_8, c189_8, e189, hx189_0, hx189_1, hx189_2, hx189_3, hx189_4, hx189_5, hx189_6, hx189_7, hx189_8, hl189_8, hi189_8⟩ := at_T24 HR0.out x5_1 p189 q189
        obtain rfl : ad187 = ad189 := (by injection e189)
        have HR189_8 := Aside0.mk hi189_8; have HC189_8 := Aside0.mk hl189_8; clear hi189_8 hl189_8
        replace p189 := eq_true p189
        replace q189 := eq_true q189
        have ea_ := Option.some.inj (hx187_8.symm.trans hx189_8)
        injection ea_ with ea_ en_ ec_
        subst ea_; subst ec_; clear en_
        go_wp2
        go_ret
        exact ⟨by first | rfl | (simp; done) | (simp [*]; done), by repeat (first | exact Drawn0.refl _ | apply Drawn0.step)⟩
      ·rw [if_neg c6] at H
       have c6b0 : (((rd_T24 l0 x5_1).f1) == (wrap64 (x1_1 + 1))) = false := beq_eq_false_iff_ne.mpr c6
       have c6b1 : (((rd_T24 l0 x5_1).f1) != (wrap64 (x1_1 + 1))) = true := bne_iff_ne.mpr c6
       obtain rfl := Option.some.inj H
       have p187 : 0 ≤ (x5_1 : Int) := of_decide_eq_true (by first | (with_reducible assumption) | assumption)
       have q187 : x5_1 < (l0.length : Int) := of_decide_eq_true (by first | (with_reducible assumption) | assumption)
       obtain ⟨ad187, A187_8, c187_8, e187, hx187_0, hx187_1, hx187_2, hx187_3, hx187_4, hx187_5, hx187_6, hx187_7, hx187_8, hl187_8, hi187_8⟩ := at_T24 HR0.out x5_1 p187 q187
       cases e187
       have HR187_8 := Aside0.mk hi187_8; have HC187_8 := Aside0.mk hl187_8; clear hi187_8 hl187_8
       replace p187 := eq_true p187
       replace q187 := eq_true q187
       have p188 : 0 ≤ (x5_1 : Int) := of_decide_eq_true (by first | (with_reducible assumption) | assumption)
       have q188 : x5_1 < (l0.length : Int) := of_decide_eq_true (by first | (with_reducible assumption) | assumption)
       obtain ⟨ad188, A188_8, c188_8, e188, hx188_0, hx188_1, hx188_2, hx188_3, hx188_4, hx188_5, hx188_6, hx188_7, hx188_8, hl188_8, hi188_8⟩ := at_T24 HR0.out x5_1 p188 q188
       obtain rfl : ad187 = ad188 := (by injection e188)
       have HR188_8 := Aside0.mk hi188_8; have HC188_8 := Aside0.mk hl188_8; clear hi188_8 hl188_8
       replace p188 := eq_true p188
       replace q188 := eq_true q188
       have ea_ := Option.some.inj (hx187_8.symm.trans hx188_8)
       injection ea_ with ea_ en_ ec_
       subst ea_; subst ec_; clear en_
       go_wp2
       go_ret
       exact ⟨by first | rfl | (simp; done) | (simp [*]; done), by repeat (first | exact Drawn0.refl _ | apply Drawn0.step)⟩
     ·rw [if_neg c5] at H
      have c5b0 : (((rd_T24 l0 x5_1).f0) == x1_1) = false := beq_eq_false_iff_ne.mpr c5
      have c5b1 : (((rd_T24 l0 x5_1).f0) != x1_1) = true := bne_iff_ne.mpr c5
      obtain rfl := Option.some.inj H
      have p187 : 0 ≤ (x5_1 : Int) := of_decide_eq_true (by first | (with_reducible assumption) | assumption)
      have q187 : x5_1 < (l0.length : Int) := of_decide_eq_true (by first | (with_reducible assumption) | assumption)
      obtain ⟨ad187, A187_8, c187_8, e187, hx187_0, hx187_1, hx187_2, hx187_3, hx187_4, hx187_5, hx187_6, hx187_7, hx187_8, hl187_8, hi187_8⟩ := at_T24 HR0.out x5_1 p187 q187
      cases e187
      have HR187_8 := Aside0.mk hi187_8; have HC187_8 := Aside0.mk hl187_8; clear hi187_8 hl187_8
      replace p187 := eq_true p187
      replace q187 := eq_true q187
      go_wp2
      go_ret
      exact ⟨by first | rfl | (simp; done) | (simp [*]; done), by repeat (first | exact Drawn0.refl _ | apply Drawn0.step)⟩
    ·rw [if_neg c4] at H
     exact absurd H (by simp)
   ·rw [if_neg c3] at H
    have c3b0 : decide (x5_1 < (l0.length : Int)) = false := decide_eq_false c3
    clear c3
    obtain rfl := Option.some.inj H
    go_wp2
    go_ret
    exact ⟨by first | rfl | (simp; done) | (simp [*]; done), by repeat (first | exact Drawn0.refl _ | apply Drawn0.step)⟩
end Go.Proofs.Ytbhofhdmbbipgaa.PFnExactPacketCut
