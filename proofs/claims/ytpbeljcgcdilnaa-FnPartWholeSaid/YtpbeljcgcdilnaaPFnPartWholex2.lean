/- Printed by wip/xp/xprint.sh out of the translation, for this claim: what each function answers, as a plain function, and that the machine does just that. No condition. -/
import Derived.Test.YtpbeljcgcdilnaaPFnPartWholex0
import Derived.Test.YtpbeljcgcdilnaaPFnPartWholex1
namespace Go.Proofs.Ytpbeljcgcdilnaa.PFnPartWhole
open Go.RowKit Go.Proofs.YtpbeljcgcdilnaaW.PrintWords Go.Proofs.YtpbeljcgcdilnaaW.PrintLast Go.Proofs.YtpbeljcgcdilnaaW.PrintMore
attribute [local go_sem] max2_int min2_int max_two min_two max_three min_three max_four min_four   -- for this text's walks alone
set_option linter.unusedVariables false
set_option linter.unusedSimpArgs false
def spec_l20Rd_bytes.l0 : Nat → Int → List Int → List Int → Int → Option (List Int × Int)
 | 0, _, _, _, _ => none
 | k + 1, x1, x5, x1000, x1001 => if x1 > 0 then ((spec_l20Rd_pick.f k x1000 x1001 3).bind fun bt150 => (if bt150.1 = 0 then ((spec_l20Rd_pick.f k x1000 bt150.2 256).bind fun bt152 => (if x5.length < 140737488355328 then (spec_l20Rd_bytes.l0 k (wrap64 (x1 - 1)) (x5 ++ [(bt152.1) % 256]) x1000 bt152.2) else (none))) else ((spec_l20Rd_pick.f k x1000 bt150.2 3).bind fun bt157 => (if x5.length < 140737488355328 then (spec_l20Rd_bytes.l0 k (wrap64 (x1 - 1)) (x5 ++ [(wrap64 (bt157.1 + 97)) % 256]) x1000 bt157.2) else (none))))) else (some (x5, x1001))
def spec_l20Rd_bytes.f (k : Nat) (s0_0 : List Int) (s0_1 : Int) (a1 : Int) : Option (List Int × Int) := spec_l20Rd_bytes.l0 k a1 (([] : List Int)) s0_0 s0_1
theorem spec_l20Rd_bytes.mono_l : ∀ k, (∀ y0 y1 y2 y3, LeO (spec_l20Rd_bytes.l0 k y0 y1 y2 y3) (spec_l20Rd_bytes.l0 (k + 1) y0 y1 y2 y3))
 | 0 => fun _ _ _ _ r h => by simp [spec_l20Rd_bytes.l0] at h
 | k + 1 => by
  have ih0 := spec_l20Rd_bytes.mono_l k
  ·intro y0 y1 y2 y3
   unfold spec_l20Rd_bytes.l0
   repeat' first | (with_reducible first | apply ih0 | apply spec_l20Rd_pick.mono | exact LeO.refl _ | exact LeO.none _ | refine LeO.ite ?_ ?_ | refine LeO.bind ?_ fun _ => ?_) | apply ih0 | apply spec_l20Rd_pick.mono | exact LeO.none _ | refine LeO.ite ?_ ?_ | refine LeO.bind ?_ fun _ => ?_
theorem spec_l20Rd_bytes.mono : ∀ a0 a1 a2 k, LeO (spec_l20Rd_bytes.f k a0 a1 a2) (spec_l20Rd_bytes.f (k + 1) a0 a1 a2) := by
 intro a0 a1 a2 k
 have ih0 := spec_l20Rd_bytes.mono_l k
 unfold spec_l20Rd_bytes.f
 repeat' first | (with_reducible first | apply ih0 | apply spec_l20Rd_pick.mono | exact LeO.refl _ | exact LeO.none _ | refine LeO.ite ?_ ?_ | refine LeO.bind ?_ fun _ => ?_) | apply ih0 | apply spec_l20Rd_pick.mono | exact LeO.none _ | refine LeO.ite ?_ ?_ | refine LeO.bind ?_ fun _ => ?_
set_option maxHeartbeats 8000000 in
set_option maxRecDepth 100000 in
theorem spec_l20Rd_bytes.calls (k : Nat) (g : Nat) (s0_0 : List Int) (s0_1 : Int) (a1 : Int) (r1 : List Int) (r2 : Int) (w0 w : World) (hI : IsS102 w0 w g s0_0 s0_1) (hB : Below w0.heap.size w0 w) (h : spec_l20Rd_bytes.f k s0_0 s0_1 a1 = some (r1, r2)) :
  Calls Try.prog 79 #[.pointer (some ⟨g, 0, none⟩), .int .i64 a1] w fun e w' => ∃ v0_ : Value, e = .returned (v0_) ∧ Kd.R (Kd.int .u8) 5 w' w.heap.size (fun _ => True) v0_ r1 ∧ IsS102 w0 w' g s0_0 r2 ∧ Below w0.heap.size w0 w' ∧ KeepBut w w' g none := by
 have HI0 := Aside0.mk hI
 have HK := Aside0.mk (KeepBut.refl w g none)
 have HL := Aside0.mk hB.size; clear hI; have HW0 := Aside0.mk hB.size; have HB := Aside0.mk hB; clear hB
 have H : (spec_l20Rd_bytes.l0 k a1 (([] : List Int)) s0_0 s0_1) = some (r1, r2) := h
 clear h
 obtain ⟨y147, hy147⟩ : ∃ y_ : List Int, y_ = (([] : List Int)) := ⟨_, rfl⟩
 (first | replace H := sb_ hy147 H | rw [← hy147] at H)
 have Ny147 := Aside0.mk hy147; clear hy147
 have H' := Aside0.mk H
 clear H
 go_enter Try.func79, Try.ntmps79
 go_wp2_with (first | ((with_reducible refine gate_dst (N := 6) rfl ?_); refine Kd.R_lit (Kd.int .u8) _ 5 ?hg (N := 6) ?hd (xs := ([] : List Int)) (inner := []) (ok := fun _ => True) (okp := fun _ => True) ?hr ?hp (fun _ hk => hk) trivial (Below.refl _ _) (Nat.le_refl _) (by simp) ?_; (case hd => rfl); (case hg => rfl); (case hr => first | (go_simp; done) | (go_simp; rfl)); (case hp => exact (Reps.none _ _)); intro v148 w3 ho4 hb hg_ hnew_; clear hg_ hnew_; (first | rw [← Ny147.out] at ho4 | (simp only [Int.reduceToNat] at ho4; rw [← Ny147.out] at ho4)); have HO149 := Aside0.mk (Kd.R_lower ho4 (keep_size (w := w) (g := g) (row := none) (hkA_ HK.out))); replace HI0 := (ib102_ HI0 hb); replace HK := (kw_ HK hb); replace HB := (bs102_ HB hb); clear hb ho4))
 go_loopg [1, 5] k (fun kq v1 v5 w' => ∃ (x1_1 : Int) (x5_1 : List Int) (x1001_1 : Int), v1 = .int .i64 x1_1 ∧ Aside0 (spec_l20Rd_bytes.l0 kq x1_1 x5_1 s0_0 x1001_1 = some (r1, r2)) ∧ Aside0 (kq ≤ k) ∧ Aside0 (Kd.R (Kd.int .u8) 5 w' w.heap.size (fun _ => True) v5 x5_1) ∧ Aside0 (IsS102 w0 w' g s0_0 x1001_1) ∧ Aside0 (KeepBut w w' g none) ∧ Aside0 (Below w0.heap.size w0 w'))
 case atStart => exact ⟨(a1), (y147), (s0_1), (by first | rfl | (simp; done) | (simp [*]; done)), H', ⟨Nat.le_refl _⟩, ⟨kR_ HO149.out⟩, ⟨is102_ HI0.out⟩, ⟨hkA_ HK.out⟩, ⟨hb102_ HB.out⟩⟩
 case round =>
  clear H'; (try clear p2)
  obtain ⟨x1_1, x5_1, x1001_1, rfl, HA, HK1, HO_5, HI0, HK, HB⟩ := hrel
  cases gk with
  | zero => exact absurd HA.out (by simp [spec_l20Rd_bytes.l0])
  | succ k1 =>
   have H := HA.out; clear HA
   simp only [spec_l20Rd_bytes.l0] at H
   by_cases c5 : x1_1 > 0
   ·rw [if_pos c5] at H
    have c5b0 : decide (0 < x1_1) = true := decide_eq_true c5
    clear c5
    replace H := Option.bind_eq_some_iff.mp H
    obtain ⟨⟨t150, t151⟩, A60, H⟩ := H
    (try dsimp only at H)
    have A6 := Aside0.mk A60; clear A60
    by_cases c7 : t150 = 0
    ·rw [if_pos c7] at H
     have c7b0 : (t150 == 0) = true := beq_iff_eq.mpr c7
     have c7b1 : (t150 != 0) = false := bne_eq_false_iff_eq.mpr c7
     clear c7
     replace H := Option.bind_eq_some_iff.mp H
     obtain ⟨⟨t152, t153⟩, A80, H⟩ := H
     (try dsimp only at H)
     have A8 := Aside0.mk A80; clear A80
     by_cases c9 : x5_1.length < 140737488355328
     ·rw [if_pos c9] at H
      have LMc9 := Aside0.mk c9; clear c9
      obtain ⟨y154, hy154⟩ : ∃ y_ : List Int, y_ = (x5_1 ++ [(t152) % 256]) := ⟨_, rfl⟩
      (first | replace H := sb_ hy154 H | rw [← hy154] at H)
      have Ny154 := Aside0.mk hy154; clear hy154
      have H' := Aside0.mk H
      clear H
      go_wp2_with (first | ((with_reducible refine gate_callee (f := 40) rfl ?_); refine goesL_ (some 12) rfl rfl Try.func40 (by kernel_rfl) rfl #[.pointer (some ⟨g, 0, none⟩), .int .i64 3] rfl ar_ ?_; (with_reducible refine (spec_l20Rd_pick.calls k1 g s0_0 x1001_1 3 t150 t151 w0 _ ?side1 ?side2 A6.out).mono ?_); (case side1 => exact is102_ HI0.out); (case side2 => exact hb102_ HB.out); rintro e w10 ⟨rfl, hi, hb, hk⟩; refine ⟨_, rfl, ?_⟩; replace HO_5 := (rk102_ HI0 HO_5 hk); replace HK := (kk_ HK hk); replace HB := Aside0.mk (hb); replace HI0 := Aside0.mk (hi); (try clear hb); (try clear hb2); (try clear hk); (try clear hi)) | ((with_reducible refine gate_callee (f := 40) rfl ?_); refine goesL_ (some 16) rfl rfl Try.func40 (by kernel_rfl) rfl #[.pointer (some ⟨g, 0, none⟩), .int .i64 256] rfl ar_ ?_; (with_reducible refine (spec_l20Rd_pick.calls k1 g s0_0 t151 256 t152 t153 w0 _ ?side1 ?side2 A8.out).mono ?_); (case side1 => exact is102_ HI0.out); (case side2 => exact hb102_ HB.out); rintro e w11 ⟨rfl, hi, hb, hk⟩; refine ⟨_, rfl, ?_⟩; replace HO_5 := (rk102_ HI0 HO_5 hk); replace HK := (kk_ HK hk); replace HB := Aside0.mk (hb); replace HI0 := Aside0.mk (hi); (try clear hb); (try clear hb2); (try clear hk); (try clear hi)) | ((with_reducible refine gate_builtin (b := .append) (xs := #[.tmp 14, .tmp 18]) rfl ?_); at_builtin; refine Kd.R_append (Kd.int .u8) w.heap.size rfl (.tmp 14) (.tmp 18) 22 5 (.int .u8 0) 1 rfl Try.underlying22 info5 rfl (by decide) (by omega) u5 x5_1 ((t152) % 256) [.int .u8 ((t152) % 256)] (fun _ => True) (fun _ => False) rfl rfl ?aP (fun _ hk => hk.elim) ?aF ?aO (Below.refl _ _) ?aS ?aL ?_; (case aP => exact rfl); (case aF => exact (fun _ _ => trivial)); (case aO => exact (kR_ HO_5.out)); (case aS => exact (keep_size (w := w) (g := g) (row := none) (hkA_ HK.out))); (case aL => have := LMc9.out; omega); intro v155 w12 ho hb hg hat; rw [← Ny154.out] at ho; replace HI0 := Aside0.mk (IsS102.grown (is102_ HI0.out) hg (IsS102.own_ne HI0.out HO_5.out (by decide))); replace HB := Aside0.mk (below_weaken (hb102_ HB.out) HL.out hb); replace HK := Aside0.mk (KeepBut.trans (hkA_ HK.out) (KeepBut.of_grown hg g) (Kd.R_base2 HO_5.out)); have HO156 := Aside0.mk (ho); clear HO_5; clear ho hb hg hat))
      go_roundg k1
      case measure => have := HK1.out; omega
      case rel => exact ⟨(wrap64 (x1_1 - 1)), (y154), (t153), (by first | rfl | (simp; done) | (simp [*]; done)), H', ⟨by have := HK1.out; omega⟩, ⟨kR_ HO156.out⟩, ⟨is102_ HI0.out⟩, ⟨hkA_ HK.out⟩, ⟨hb102_ HB.out⟩⟩
     ·rw [if_neg c9] at H
      exact absurd H (by simp)
    ·rw [if_neg c7] at H
     have c7b0 : (t150 == 0) = false := beq_eq_false_iff_ne.mpr c7
     have c7b1 : (t150 != 0) = true := bne_iff_ne.mpr c7
     replace H := Option.bind_eq_some_iff.mp H
     obtain ⟨⟨t157, t158⟩, A130, H⟩ := H
     (try dsimp only at H)
     have A13 := Aside0.mk A130; clear A130
     by_cases c14 : x5_1.length < 140737488355328
     ·rw [if_pos c14] at H
      have LMc14 := Aside0.mk c14; clear c14
      obtain ⟨y159, hy159⟩ : ∃ y_ : List Int, y_ = (x5_1 ++ [(wrap64 (t157 + 97)) % 256]) := ⟨_, rfl⟩
      (first | replace H := sb_ hy159 H | rw [← hy159] at H)
      have Ny159 := Aside0.mk hy159; clear hy159
      have H' := Aside0.mk H
      clear H
      go_wp2_with (first | ((with_reducible refine gate_callee (f := 40) rfl ?_); refine goesL_ (some 12) rfl rfl Try.func40 (by kernel_rfl) rfl #[.pointer (some ⟨g, 0, none⟩), .int .i64 3] rfl ar_ ?_; (with_reducible refine (spec_l20Rd_pick.calls k1 g s0_0 x1001_1 3 t150 t151 w0 _ ?side1 ?side2 A6.out).mono ?_); (case side1 => exact is102_ HI0.out); (case side2 => exact hb102_ HB.out); rintro e w15 ⟨rfl, hi, hb, hk⟩; refine ⟨_, rfl, ?_⟩; replace HO_5 := (rk102_ HI0 HO_5 hk); replace HK := (kk_ HK hk); replace HB := Aside0.mk (hb); replace HI0 := Aside0.mk (hi); (try clear hb); (try clear hb2); (try clear hk); (try clear hi)) | ((with_reducible refine gate_callee (f := 40) rfl ?_); refine goesL_ (some 22) rfl rfl Try.func40 (by kernel_rfl) rfl #[.pointer (some ⟨g, 0, none⟩), .int .i64 3] rfl ar_ ?_; (with_reducible refine (spec_l20Rd_pick.calls k1 g s0_0 t151 3 t157 t158 w0 _ ?side1 ?side2 A13.out).mono ?_); (case side1 => exact is102_ HI0.out); (case side2 => exact hb102_ HB.out); rintro e w16 ⟨rfl, hi, hb, hk⟩; refine ⟨_, rfl, ?_⟩; replace HO_5 := (rk102_ HI0 HO_5 hk); replace HK := (kk_ HK hk); replace HB := Aside0.mk (hb); replace HI0 := Aside0.mk (hi); (try clear hb); (try clear hb2); (try clear hk); (try clear hi)) | ((with_reducible refine gate_builtin (b := .append) (xs := #[.tmp 20, .tmp 25]) rfl ?_); at_builtin; refine Kd.R_append (Kd.int .u8) w.heap.size rfl (.tmp 20) (.tmp 25) 22 5 (.int .u8 0) 1 rfl Try.underlying22 info5 rfl (by decide) (by omega) u5 x5_1 ((wrap64 (t157 + 97)) % 256) [.int .u8 ((wrap64 (t157 + 97)) % 256)] (fun _ => True) (fun _ => False) rfl rfl ?aP (fun _ hk => hk.elim) ?aF ?aO (Below.refl _ _) ?aS ?aL ?_; (case aP => exact rfl); (case aF => exact (fun _ _ => trivial)); (case aO => exact (kR_ HO_5.out)); (case aS => exact (keep_size (w := w) (g := g) (row := none) (hkA_ HK.out))); (case aL => have := LMc14.out; omega); intro v160 w17 ho hb hg hat; rw [← Ny159.out] at ho; replace HI0 := Aside0.mk (IsS102.grown (is102_ HI0.out) hg (IsS102.own_ne HI0.out HO_5.out (by decide))); replace HB := Aside0.mk (below_weaken (hb102_ HB.out) HL.out hb); replace HK := Aside0.mk (KeepBut.trans (hkA_ HK.out) (KeepBut.of_grown hg g) (Kd.R_base2 HO_5.out)); have HO161 := Aside0.mk (ho); clear HO_5; clear ho hb hg hat))
      go_roundg k1
      case measure => have := HK1.out; omega
      case rel => exact ⟨(wrap64 (x1_1 - 1)), (y159), (t158), (by first | rfl | (simp; done) | (simp [*]; done)), H', ⟨by have := HK1.out; omega⟩, ⟨kR_ HO161.out⟩, ⟨is102_ HI0.out⟩, ⟨hkA_ HK.out⟩, ⟨hb102_ HB.out⟩⟩
     ·rw [if_neg c14] at H
      exact absurd H (by simp)
   ·rw [if_neg c5] at H
    have c5b0 : decide (0 < x1_1) = false := decide_eq_false c5
    clear c5
    simp only [Option.some.injEq, Prod.mk.injEq] at H
    obtain ⟨rfl, rfl⟩ := H
    go_wp2
    go_ret
    exact ⟨_, by first | rfl | (simp [errW_none, errW_some] <;> rfl) | (simp [*, errW_none, errW_some] <;> rfl), kR_ HO_5.out, is102_ HI0.out, hb102_ HB.out, hkA_ HK.out⟩
def spec_l20Rd_odd.f (k : Nat) (s0_0 : List Int) (s0_1 : Int) (a1 : Int) : Option (Bool × Int) := if a1 > 0 then ((spec_l20Rd_pick.f k s0_0 s0_1 a1).bind fun bt162 => (some ((bt162.1 == (wrap64 (a1 - 1))), bt162.2))) else (some (false, s0_1))
theorem spec_l20Rd_odd.mono : ∀ a0 a1 a2 k, LeO (spec_l20Rd_odd.f k a0 a1 a2) (spec_l20Rd_odd.f (k + 1) a0 a1 a2) := by
 intro a0 a1 a2 k
 unfold spec_l20Rd_odd.f
 repeat' first | (with_reducible first | apply spec_l20Rd_pick.mono | exact LeO.refl _ | exact LeO.none _ | refine LeO.ite ?_ ?_ | refine LeO.bind ?_ fun _ => ?_) | apply spec_l20Rd_pick.mono | exact LeO.none _ | refine LeO.ite ?_ ?_ | refine LeO.bind ?_ fun _ => ?_
set_option maxHeartbeats 8000000 in
set_option maxRecDepth 100000 in
theorem spec_l20Rd_odd.calls (k : Nat) (g : Nat) (s0_0 : List Int) (s0_1 : Int) (a1 : Int) (r1 : Bool) (r2 : Int) (w0 w : World) (hI : IsS102 w0 w g s0_0 s0_1) (hB : Below w0.heap.size w0 w) (h : spec_l20Rd_odd.f k s0_0 s0_1 a1 = some (r1, r2)) :
  Calls Try.prog 80 #[.pointer (some ⟨g, 0, none⟩), .int .i64 a1] w fun e w' => e = .returned (.bool r1) ∧ IsS102 w0 w' g s0_0 r2 ∧ Below w0.heap.size w0 w' ∧ KeepBut w w' g none := by
 have HI0 := Aside0.mk hI
 have HK := Aside0.mk (KeepBut.refl w g none)
 have HL := Aside0.mk hB.size; clear hI; have HW0 := Aside0.mk hB.size; have HB := Aside0.mk hB; clear hB
 have H : (if a1 > 0 then ((spec_l20Rd_pick.f k s0_0 s0_1 a1).bind fun bt162 => (some ((bt162.1 == (wrap64 (a1 - 1))), bt162.2))) else (some (false, s0_1))) = some (r1, r2) := h
 clear h
 by_cases c3 : a1 > 0
 ·rw [if_pos c3] at H
  have c3b0 : decide (0 < a1) = true := decide_eq_true c3
  clear c3
  replace H := Option.bind_eq_some_iff.mp H
  obtain ⟨⟨t162, t163⟩, A40, H⟩ := H
  (try dsimp only at H)
  have A4 := Aside0.mk A40; clear A40
  simp only [Option.some.injEq, Prod.mk.injEq] at H
  obtain ⟨rfl, rfl⟩ := H
  go_enter Try.func80, Try.ntmps80
  go_wp2_with (first | (go_at_call 40; (with_reducible refine (spec_l20Rd_pick.calls k g s0_0 s0_1 a1 t162 t163 w0 _ ?side1 ?side2 A4.out).mono ?_); (case side1 => exact is102_ HI0.out); (case side2 => exact hb102_ HB.out); rintro e w5 ⟨rfl, hi, hb, hk⟩; replace HK := (kk_ HK hk); replace HB := Aside0.mk (hb); replace HI0 := Aside0.mk (hi); (try clear hb); (try clear hb2); (try clear hk); (try clear hi)))
  go_ret
  exact ⟨by first | rfl | (simp [errW_none, errW_some] <;> rfl) | (simp [*, errW_none, errW_some] <;> rfl), is102_ HI0.out, hb102_ HB.out, hkA_ HK.out⟩
 ·rw [if_neg c3] at H
  have c3b0 : decide (0 < a1) = false := decide_eq_false c3
  clear c3
  simp only [Option.some.injEq, Prod.mk.injEq] at H
  obtain ⟨rfl, rfl⟩ := H
  go_enter Try.func80, Try.ntmps80
  go_wp2
  go_ret
  exact ⟨by first | rfl | (simp [errW_none, errW_some] <;> rfl) | (simp [*, errW_none, errW_some] <;> rfl), is102_ HI0.out, hb102_ HB.out, hkA_ HK.out⟩
def spec_l20Packet.j0 : Nat → Int → List Int → Int → Int → Int → Int → Int → Int → Int → Bool → Bool → List Int → Option (Int × Int × Int × Int × Int × Int × Bool × Bool × List Int × Int)
 | 0, _, _, _, _, _, _, _, _, _, _, _, _ => none
 | k + 1, x1, x1000, x1001, x182000, x182001, x182002, x182003, x182004, x182005, x182006, x182007, x182008 => (spec_l20Rd_odd.f k x1000 x1001 x1).bind fun bt188 => (if bt188.1 = true then ((spec_l20Rd_pick.f k x1000 bt188.2 5).bind fun bt190 => (if bt190.1 = 0 then ((spec_l20Rd_pick.f k x1000 bt190.2 2).bind fun bt192 => (some (x182000, wrap64 (65536 - (wrap64 (bt192.1 * 65540))), x182002, x182003, x182004, x182005, x182006, x182007, x182008, bt192.2))) else (if bt190.1 = 1 then ((spec_l20Rd_pick.f k x1000 bt190.2 2).bind fun bt194 => (some (x182000, x182001, x182002, wrap64 (256 - (wrap64 (bt194.1 * 300))), x182004, x182005, x182006, x182007, x182008, bt194.2))) else (if bt190.1 = 2 then (if 49 ≤ 281474976710656 then (some (x182000, x182001, x182002, x182003, x182004, x182005, x182006, x182007, (List.replicate 49 0), bt190.2)) else (none)) else (if bt190.1 = 3 then (some (x182000, x182001, x182002, x182003, x182004, x182005, true, x182007, ([] : List Int), bt190.2)) else (some (x182000, x182001, x182002, x182003, x182004, 3, x182006, true, x182008, bt190.2))))))) else (some (x182000, x182001, x182002, x182003, x182004, x182005, x182006, x182007, x182008, bt188.2)))
def spec_l20Packet.f (k : Nat) (s0_0 : List Int) (s0_1 : Int) (a1 : Int) : Option (Int × Int × Int × Int × Int × Int × Bool × Bool × List Int × Int) := (spec_l20Rd_pick.f k s0_0 s0_1 5).bind fun bt165 => ((spec_l20Rd_pick.f k s0_0 bt165.2 5).bind fun bt167 => ((spec_l20Rd_pick.f k s0_0 bt167.2 4).bind fun bt169 => ((spec_l20Rd_pick.f k s0_0 bt169.2 6).bind fun bt171 => ((spec_l20Rd_pick.f k s0_0 bt171.2 4).bind fun bt173 => ((spec_l20Rd_pick.f k s0_0 bt173.2 12).bind fun bt175 => ((spec_l20Rd_bytes.f k s0_0 bt175.2 bt175.1).bind fun bt177 => ((spec_l20Rd_pick.f k s0_0 bt177.2 4).bind fun bt182 => (if bt182.1 = 0 then (spec_l20Packet.j0 k a1 s0_0 bt182.2 bt165.1 bt167.1 bt169.1 bt171.1 bt173.1 0 false true bt177.1) else (if bt182.1 = 1 then ((spec_l20Rd_pick.f k s0_0 bt182.2 20).bind fun bt184 => (if (bt177.1.length : Int) > 0 then ((spec_l20Rd_pick.f k s0_0 bt184.2 2).bind fun bt186 => (spec_l20Packet.j0 k a1 s0_0 bt186.2 bt165.1 bt167.1 bt169.1 bt171.1 bt173.1 bt184.1 (bt186.1 == 0) false bt177.1)) else (spec_l20Packet.j0 k a1 s0_0 bt184.2 bt165.1 bt167.1 bt169.1 bt171.1 bt173.1 bt184.1 false false bt177.1))) else (spec_l20Packet.j0 k a1 s0_0 bt182.2 bt165.1 bt167.1 bt169.1 bt171.1 bt173.1 0 false false bt177.1))))))))))
theorem spec_l20Packet.mono_l : ∀ k, (∀ y0 y1 y2 y3 y4 y5 y6 y7 y8 y9 y10 y11, LeO (spec_l20Packet.j0 k y0 y1 y2 y3 y4 y5 y6 y7 y8 y9 y10 y11) (spec_l20Packet.j0 (k + 1) y0 y1 y2 y3 y4 y5 y6 y7 y8 y9 y10 y11))
 | 0 => fun _ _ _ _ _ _ _ _ _ _ _ _ r h => by simp [spec_l20Packet.j0] at h
 | k + 1 => by
  have ih0 := spec_l20Packet.mono_l k
  ·intro y0 y1 y2 y3 y4 y5 y6 y7 y8 y9 y10 y11
   unfold spec_l20Packet.j0
   repeat' first | (with_reducible first | apply ih0 | apply spec_l20Rd_bytes.mono | apply spec_l20Rd_odd.mono | apply spec_l20Rd_pick.mono | exact LeO.refl _ | exact LeO.none _ | refine LeO.ite ?_ ?_ | refine LeO.bind ?_ fun _ => ?_) | apply ih0 | apply spec_l20Rd_bytes.mono | apply spec_l20Rd_odd.mono | apply spec_l20Rd_pick.mono | exact LeO.none _ | refine LeO.ite ?_ ?_ | refine LeO.bind ?_ fun _ => ?_
theorem spec_l20Packet.mono : ∀ a0 a1 a2 k, LeO (spec_l20Packet.f k a0 a1 a2) (spec_l20Packet.f (k + 1) a0 a1 a2) := by
 intro a0 a1 a2 k
 have ih0 := spec_l20Packet.mono_l k
 unfold spec_l20Packet.f
 repeat' first | (with_reducible first | apply ih0 | apply spec_l20Rd_bytes.mono | apply spec_l20Rd_odd.mono | apply spec_l20Rd_pick.mono | exact LeO.refl _ | exact LeO.none _ | refine LeO.ite ?_ ?_ | refine LeO.bind ?_ fun _ => ?_) | apply ih0 | apply spec_l20Rd_bytes.mono | apply spec_l20Rd_odd.mono | apply spec_l20Rd_pick.mono | exact LeO.none _ | refine LeO.ite ?_ ?_ | refine LeO.bind ?_ fun _ => ?_
set_option maxHeartbeats 8000000 in
set_option maxRecDepth 100000 in
theorem spec_l20Packet.calls (k : Nat) (g : Nat) (s0_0 : List Int) (s0_1 : Int) (a1 : Int) (r1 : Int) (r2 : Int) (r3 : Int) (r4 : Int) (r5 : Int) (r6 : Int) (r7 : Bool) (r8 : Bool) (r9 : List Int) (r10 : Int) (w0 w : World) (hI : IsS102 w0 w g s0_0 s0_1) (hB : Below w0.heap.size w0 w) (h : spec_l20Packet.f k s0_0 s0_1 a1 = some (r1, r2, r3, r4, r5, r6, r7, r8, r9, r10)) :
  Calls Try.prog 78 #[.pointer (some ⟨g, 0, none⟩), .int .i64 a1] w fun e w' => ∃ v8_ : Value, e = .returned (.agg #[.int .i64 r1, .int .i64 r2, .int .i64 r3, .int .i64 r4, .int .i64 r5, .int .i64 r6, .bool r7, .bool r8, v8_]) ∧ Kd.R (Kd.int .u8) 5 w' w.heap.size (fun _ => True) v8_ r9 ∧ IsS102 w0 w' g s0_0 r10 ∧ Below w0.heap.size w0 w' ∧ KeepBut w w' g none := by
 have hu28 := Try.underlying28; have HI0 := Aside0.mk hI
 have HK := Aside0.mk (KeepBut.refl w g none)
 have HL := Aside0.mk hB.size; clear hI; have HW0 := Aside0.mk hB.size; have HB := Aside0.mk hB; clear hB
 have H : ((spec_l20Rd_pick.f k s0_0 s0_1 5).bind fun bt165 => ((spec_l20Rd_pick.f k s0_0 bt165.2 5).bind fun bt167 => ((spec_l20Rd_pick.f k s0_0 bt167.2 4).bind fun bt169 => ((spec_l20Rd_pick.f k s0_0 bt169.2 6).bind fun bt171 => ((spec_l20Rd_pick.f k s0_0 bt171.2 4).bind fun bt173 => ((spec_l20Rd_pick.f k s0_0 bt173.2 12).bind fun bt175 => ((spec_l20Rd_bytes.f k s0_0 bt175.2 bt175.1).bind fun bt177 => ((spec_l20Rd_pick.f k s0_0 bt177.2 4).bind fun bt182 => (if bt182.1 = 0 then (spec_l20Packet.j0 k a1 s0_0 bt182.2 bt165.1 bt167.1 bt169.1 bt171.1 bt173.1 0 false true bt177.1) else (if bt182.1 = 1 then ((spec_l20Rd_pick.f k s0_0 bt182.2 20).bind fun bt184 => (if (bt177.1.length : Int) > 0 then ((spec_l20Rd_pick.f k s0_0 bt184.2 2).bind fun bt186 => (spec_l20Packet.j0 k a1 s0_0 bt186.2 bt165.1 bt167.1 bt169.1 bt171.1 bt173.1 bt184.1 (bt186.1 == 0) false bt177.1)) else (spec_l20Packet.j0 k a1 s0_0 bt184.2 bt165.1 bt167.1 bt169.1 bt171.1 bt173.1 bt184.1 false false bt177.1))) else (spec_l20Packet.j0 k a1 s0_0 bt182.2 bt165.1 bt167.1 bt169.1 bt171.1 bt173.1 0 false false bt177.1))))))))))) = some (r1, r2, r3, r4, r5, r6, r7, r8, r9, r10) := h
 clear h
 replace H := Option.bind_eq_some_iff.mp H
 obtain ⟨⟨t165, t166⟩, A30, H⟩ := H
 (try dsimp only at H)
 have A3 := Aside0.mk A30; clear A30
 replace H := Option.bind_eq_some_iff.mp H
 obtain ⟨⟨t167, t168⟩, A40, H⟩ := H
 (try dsimp only at H)
 have A4 := Aside0.mk A40; clear A40
 replace H := Option.bind_eq_some_iff.mp H
 obtain ⟨⟨t169, t170⟩, A50, H⟩ := H
 (try dsimp only at H)
 have A5 := Aside0.mk A50; clear A50
 replace H := Option.bind_eq_some_iff.mp H
 obtain ⟨⟨t171, t172⟩, A60, H⟩ := H
 (try dsimp only at H)
 have A6 := Aside0.mk A60; clear A60
 replace H := Option.bind_eq_some_iff.mp H
 obtain ⟨⟨t173, t174⟩, A70, H⟩ := H
 (try dsimp only at H)
 have A7 := Aside0.mk A70; clear A70
 replace H := Option.bind_eq_some_iff.mp H
 obtain ⟨⟨t175, t176⟩, A80, H⟩ := H
 (try dsimp only at H)
 have A8 := Aside0.mk A80; clear A80
 replace H := Option.bind_eq_some_iff.mp H
 obtain ⟨⟨t177, t180⟩, A90, H⟩ := H
 (try dsimp only at H)
 have A9 := Aside0.mk A90; clear A90
 replace H := Option.bind_eq_some_iff.mp H
 obtain ⟨⟨t182, t183⟩, A100, H⟩ := H
 (try dsimp only at H)
 have A10 := Aside0.mk A100; clear A100; have HC11 := Aside0.mk H; clear H
 go_enter Try.func78, Try.ntmps78
 go_upto_block 0 with (first | ((with_reducible refine gate_dst (N := 4) rfl ?_); refine box_ (N := 4) (cs := #[.int .i64 0, .int .i64 0, .int .i64 0, .int .i64 0, .int .i64 0, .int .i64 0, .bool false, .bool false, .slice none 0 0]) (t := 28) (fun gb164 hg w12 hbox hb => ?_); replace HB := (bs102_ HB hb); have BK164 := Aside0.mk (hbox); have GW164 := gk_ hg HK; have GE164 := Aside0.mk ((Nat.le_trans HW0.out (by rw [hg]; exact (keep_size (w := w) (g := g) (row := none) (hkA_ HK.out)) : w.heap.size ≤ gb164) : w0.heap.size ≤ gb164)); replace HK := (kw_ HK hb); have NB0_164 := nl102_ hg HI0; have NB164_0 := ng102_ hg HI0; replace HI0 := (ib102_ HI0 hb); clear hb hbox hg) | ((with_reducible refine gate_callee (f := 40) rfl ?_); refine goesL_ (some 7) rfl rfl Try.func40 (by kernel_rfl) rfl #[.pointer (some ⟨g, 0, none⟩), .int .i64 5] rfl ar_ ?_; (with_reducible refine (spec_l20Rd_pick.calls k g s0_0 s0_1 5 t165 t166 w0 _ ?side1 ?side2 A3.out).mono ?_); (case side1 => exact is102_ HI0.out); (case side2 => exact hb102_ HB.out); rintro e w13 ⟨rfl, hi, hb, hk⟩; refine ⟨_, rfl, ?_⟩; replace BK164 := (bkA_ BK164 hk NB164_0); replace HK := (kk_ HK hk); replace HB := Aside0.mk (hb); replace HI0 := Aside0.mk (hi); (try clear hb); (try clear hb2); (try clear hk); (try clear hi)) | ((with_reducible refine gate_callee (f := 40) rfl ?_); refine goesL_ (some 9) rfl rfl Try.func40 (by kernel_rfl) rfl #[.pointer (some ⟨g, 0, none⟩), .int .i64 5] rfl ar_ ?_; (with_reducible refine (spec_l20Rd_pick.calls k g s0_0 t166 5 t167 t168 w0 _ ?side1 ?side2 A4.out).mono ?_); (case side1 => exact is102_ HI0.out); (case side2 => exact hb102_ HB.out); rintro e w14 ⟨rfl, hi, hb, hk⟩; refine ⟨_, rfl, ?_⟩; replace BK164 := (bkA_ BK164 hk NB164_0); replace HK := (kk_ HK hk); replace HB := Aside0.mk (hb); replace HI0 := Aside0.mk (hi); (try clear hb); (try clear hb2); (try clear hk); (try clear hi)) | ((with_reducible refine gate_callee (f := 40) rfl ?_); refine goesL_ (some 11) rfl rfl Try.func40 (by kernel_rfl) rfl #[.pointer (some ⟨g, 0, none⟩), .int .i64 4] rfl ar_ ?_; (with_reducible refine (spec_l20Rd_pick.calls k g s0_0 t168 4 t169 t170 w0 _ ?side1 ?side2 A5.out).mono ?_); (case side1 => exact is102_ HI0.out); (case side2 => exact hb102_ HB.out); rintro e w15 ⟨rfl, hi, hb, hk⟩; refine ⟨_, rfl, ?_⟩; replace BK164 := (bkA_ BK164 hk NB164_0); replace HK := (kk_ HK hk); replace HB := Aside0.mk (hb); replace HI0 := Aside0.mk (hi); (try clear hb); (try clear hb2); (try clear hk); (try clear hi)) | ((with_reducible refine gate_callee (f := 40) rfl ?_); refine goesL_ (some 13) rfl rfl Try.func40 (by kernel_rfl) rfl #[.pointer (some ⟨g, 0, none⟩), .int .i64 6] rfl ar_ ?_; (with_reducible refine (spec_l20Rd_pick.calls k g s0_0 t170 6 t171 t172 w0 _ ?side1 ?side2 A6.out).mono ?_); (case side1 => exact is102_ HI0.out); (case side2 => exact hb102_ HB.out); rintro e w16 ⟨rfl, hi, hb, hk⟩; refine ⟨_, rfl, ?_⟩; replace BK164 := (bkA_ BK164 hk NB164_0); replace HK := (kk_ HK hk); replace HB := Aside0.mk (hb); replace HI0 := Aside0.mk (hi); (try clear hb); (try clear hb2); (try clear hk); (try clear hi)) | ((with_reducible refine gate_callee (f := 40) rfl ?_); refine goesL_ (some 15) rfl rfl Try.func40 (by kernel_rfl) rfl #[.pointer (some ⟨g, 0, none⟩), .int .i64 4] rfl ar_ ?_; (with_reducible refine (spec_l20Rd_pick.calls k g s0_0 t172 4 t173 t174 w0 _ ?side1 ?side2 A7.out).mono ?_); (case side1 => exact is102_ HI0.out); (case side2 => exact hb102_ HB.out); rintro e w17 ⟨rfl, hi, hb, hk⟩; refine ⟨_, rfl, ?_⟩; replace BK164 := (bkA_ BK164 hk NB164_0); replace HK := (kk_ HK hk); replace HB := Aside0.mk (hb); replace HI0 := Aside0.mk (hi); (try clear hb); (try clear hb2); (try clear hk); (try clear hi)) | ((with_reducible refine gate_callee (f := 40) rfl ?_); refine goesL_ (some 18) rfl rfl Try.func40 (by kernel_rfl) rfl #[.pointer (some ⟨g, 0, none⟩), .int .i64 12] rfl ar_ ?_; (with_reducible refine (spec_l20Rd_pick.calls k g s0_0 t174 12 t175 t176 w0 _ ?side1 ?side2 A8.out).mono ?_); (case side1 => exact is102_ HI0.out); (case side2 => exact hb102_ HB.out); rintro e w18 ⟨rfl, hi, hb, hk⟩; refine ⟨_, rfl, ?_⟩; replace BK164 := (bkA_ BK164 hk NB164_0); replace HK := (kk_ HK hk); replace HB := Aside0.mk (hb); replace HI0 := Aside0.mk (hi); (try clear hb); (try clear hb2); (try clear hk); (try clear hi)) | ((with_reducible refine gate_callee (f := 79) rfl ?_); refine goesL_ (some 19) rfl rfl Try.func79 (by kernel_rfl) rfl #[.pointer (some ⟨g, 0, none⟩), .int .i64 t175] rfl ar_ ?_; (with_reducible refine (spec_l20Rd_bytes.calls k g s0_0 t176 t175 t177 t180 w0 _ ?side1 ?side2 A9.out).mono ?_); (case side1 => exact is102_ HI0.out); (case side2 => exact hb102_ HB.out); rintro e w19 ⟨v178, rfl, ho0, hi, hb, hk⟩; refine ⟨_, rfl, ?_⟩; replace BK164 := (bkA_ BK164 hk NB164_0); have HO179 := Aside0.mk (Kd.R_lower ho0 (keep_size (w := w) (g := g) (row := none) (hkA_ HK.out))); replace HK := (kk_ HK hk); replace HB := Aside0.mk (hb); replace HI0 := Aside0.mk (hi); (try clear hb); (try clear hb2); (try clear hk); (try clear hi); (try clear ho0); obtain ⟨Ao20, co20, eo20⟩ := Kd.R_slice HO179.out; subst eo20) | ((with_reducible refine gate_dst (N := 5) rfl ?_); refine box_ (N := 5) (cs := #[.int .i64 0, .int .i64 0, .int .i64 0, .int .i64 0, .int .i64 0, .int .i64 0, .bool false, .bool false, .slice none 0 0]) (t := 28) (fun gb181 hg w21 hbox hb => ?_); replace HO179 := Aside0.mk (Kd.R_below (kR_ HO179.out) hb); replace HB := (bs102_ HB hb); have BK181 := Aside0.mk (hbox); have GW181 := gk_ hg HK; have GE181 := Aside0.mk ((Nat.le_trans HW0.out (by rw [hg]; exact (keep_size (w := w) (g := g) (row := none) (hkA_ HK.out)) : w.heap.size ≤ gb181) : w0.heap.size ≤ gb181)); replace HK := (kw_ HK hb); have NB164_181 := nl_ hg BK164; have NB181_164 := ng_ hg BK164; replace BK164 := (bbA_ BK164 hb); have NB0_181 := nl102_ hg HI0; have NB181_0 := ng102_ hg HI0; replace HI0 := (ib102_ HI0 hb); clear hb hbox hg; have hnb22 := NB181_164.out; have hnc22 := NB164_181.out; have hnb23 := NB181_0.out; have hnc23 := NB0_181.out; have Z24 := zz9 BK181) | ((with_reducible refine gate_callee (f := 40) rfl ?_); refine goesL_ (some 22) rfl rfl Try.func40 (by kernel_rfl) rfl #[.pointer (some ⟨g, 0, none⟩), .int .i64 4] rfl ar_ ?_; (with_reducible refine (spec_l20Rd_pick.calls k g s0_0 t180 4 t182 t183 w0 _ ?side1 ?side2 A10.out).mono ?_); (case side1 => exact is102_ HI0.out); (case side2 => exact hb102_ HB.out); rintro e w25 ⟨rfl, hi, hb, hk⟩; refine ⟨_, rfl, ?_⟩; replace BK164 := Aside0.mk (KeepBut.blk hk (g' := gb164) (o := .cells #[.int .i64 0, .int .i64 0, .int .i64 0, .int .i64 0, .int .i64 0, .int .i64 0, .bool false, .bool false, .slice none 0 0] 28 (0, 0)) (by exact kf_ BK164.out) NB164_0.out (by simp)); replace HO179 := Aside0.mk (Kd.R_mono (Kd.R_keep (IsS102.apart (show IsS102 w0 _ g s0_0 t180 from is102_ HI0.out) (by refine kR_ ?_; exact (rfm_ ((Kd.R_types HO179.out BK181.out (by decide))) (fun _ h_ => op1_ h_))) (by decide)) hk (fun _ h => h.2)) (fun _ h => h.1)); replace BK181 := Aside0.mk (KeepBut.blk hk (g' := gb181) (o := .cells #[.int .i64 t165, .int .i64 t167, .int .i64 t169, .int .i64 t171, .int .i64 t173, .int .i64 0, .bool false, .bool false, .slice Ao20 t177.length co20] 28 (0, 0)) (by refine kb_ ?_; refine pz9 (cs := #[.int .i64 0, .int .i64 0, .int .i64 0, .int .i64 0, .int .i64 0, .int .i64 0, .bool false, .bool false, .slice none 0 0]) ?_; refine kb_ ?_; exact BK181.out) NB181_0.out (by simp)); replace HK := (kk_ HK hk); replace HB := Aside0.mk (hb); replace HI0 := Aside0.mk (hi); (try clear hb); (try clear hb2); (try clear hk); (try clear hi)))
 (try simp only [Act.put, List.setIfInBounds_toArray, List.set_cons_zero, List.set_cons_succ])
 go_cut [] (fun wc => ∃ (kq : Nat) (x1001_10 : Int) (x182005_10 : Int) (x182006_10 : Bool) (x182007_10 : Bool), Aside0 (spec_l20Packet.j0 kq a1 s0_0 x1001_10 t165 t167 t169 t171 t173 x182005_10 x182006_10 x182007_10 t177 = some (r1, r2, r3, r4, r5, r6, r7, r8, r9, r10)) ∧ Aside0 (kq ≤ k) ∧ Aside0 (Kd.R (Kd.int .u8) 5 wc w.heap.size (fun _ => True) (.slice Ao20 t177.length co20) t177) ∧ Aside0 (wc.heap[gb164]? = some (.cells #[.int .i64 0, .int .i64 0, .int .i64 0, .int .i64 0, .int .i64 0, .int .i64 0, .bool false, .bool false, (.slice none 0 0)] 28 (0, 0))) ∧ Aside0 (wc.heap[gb181]? = some (.cells #[.int .i64 t165, .int .i64 t167, .int .i64 t169, .int .i64 t171, .int .i64 t173, .int .i64 x182005_10, .bool x182006_10, .bool x182007_10, (.slice Ao20 t177.length co20)] 28 (0, 0))) ∧ Aside0 (IsS102 w0 wc g s0_0 x1001_10) ∧ Aside0 (KeepBut w wc g none) ∧ Aside0 (Below w0.heap.size w0 wc))
 case first =>
  have H := HC11.out; clear HC11
  by_cases c26 : t182 = 0
  ·rw [if_pos c26] at H
   have c26b0 : (t182 == 0) = true := beq_iff_eq.mpr c26
   have c26b1 : (t182 != 0) = false := bne_eq_false_iff_eq.mpr c26
   clear c26
   (first | rw [c26b0] | (simp only [i64_w, i32_w]; rw [c26b0]) | skip)
   have H' := Aside0.mk H
   clear H; have hnb27 := NB181_164.out; have hnc27 := NB164_181.out; have hnb28 := NB181_0.out; have hnc28 := NB0_181.out; have Z29 := zz9 BK181
   go_wp2
   go_meet
   case rel => exact ⟨_, (t183), (0), (false), (true), H', ⟨by first | omega | exact Nat.le_refl _⟩, ⟨by refine kR_ ?_; exact Kd.R_mono (Kd.R_f gb181 7 (.bool true) (Kd.R_types HO179.out BK181.out (by decide))) (fun _ hk => trivial)⟩, ⟨by exact kf_ BK164.out⟩, ⟨by refine kb_ ?_; refine blk_put (cs := #[.int .i64 t165, .int .i64 t167, .int .i64 t169, .int .i64 t171, .int .i64 t173, .int .i64 0, .bool false, .bool false, .slice Ao20 t177.length co20]) ?_ 7 _ rfl; refine kb_ ?_; exact BK181.out⟩, ⟨is102_ HI0.out⟩, ⟨hkA_ HK.out⟩, ⟨hb102_ HB.out⟩⟩
  ·rw [if_neg c26] at H
   have c26b0 : (t182 == 0) = false := beq_eq_false_iff_ne.mpr c26
   have c26b1 : (t182 != 0) = true := bne_iff_ne.mpr c26
   (first | rw [c26b0] | (simp only [i64_w, i32_w]; rw [c26b0]) | skip)
   by_cases c30 : t182 = 1
   ·rw [if_pos c30] at H
    have c30b0 : (t182 == 1) = true := beq_iff_eq.mpr c30
    have c30b1 : (t182 != 1) = false := bne_eq_false_iff_eq.mpr c30
    clear c30
    replace H := Option.bind_eq_some_iff.mp H
    obtain ⟨⟨t184, t185⟩, A310, H⟩ := H
    (try dsimp only at H)
    have A31 := Aside0.mk A310; clear A310
    by_cases c32 : (t177.length : Int) > 0
    ·rw [if_pos c32] at H
     have c32b0 : decide (0 < (t177.length : Int)) = true := decide_eq_true c32
     have c32b1 : decide (0 < t177.length) = true := decide_eq_true (by omega)
     clear c32
     replace H := Option.bind_eq_some_iff.mp H
     obtain ⟨⟨t186, t187⟩, A330, H⟩ := H
     (try dsimp only at H)
     have A33 := Aside0.mk A330; clear A330
     have H' := Aside0.mk H
     clear H
     go_wp2_with (first | ((with_reducible refine gate_callee (f := 40) rfl ?_); refine goesL_ (some 29) rfl rfl Try.func40 (by kernel_rfl) rfl #[.pointer (some ⟨g, 0, none⟩), .int .i64 20] rfl ar_ ?_; (with_reducible refine (spec_l20Rd_pick.calls k g s0_0 t183 20 t184 t185 w0 _ ?side1 ?side2 A31.out).mono ?_); (case side1 => exact is102_ HI0.out); (case side2 => exact hb102_ HB.out); rintro e w34 ⟨rfl, hi, hb, hk⟩; refine ⟨_, rfl, ?_⟩; replace BK164 := (bkA_ BK164 hk NB164_0); replace HO179 := (rk102_ HI0 HO179 hk); replace BK181 := (bkA_ BK181 hk NB181_0); replace HK := (kk_ HK hk); replace HB := Aside0.mk (hb); replace HI0 := Aside0.mk (hi); (try clear hb); (try clear hb2); (try clear hk); (try clear hi); have hnb35 := NB181_164.out; have hnc35 := NB164_181.out; have hnb36 := NB181_0.out; have hnc36 := NB0_181.out; have Z37 := zz9 BK181) | (go_at_call 40; (with_reducible refine (spec_l20Rd_pick.calls k g s0_0 t185 2 t186 t187 w0 _ ?side1 ?side2 A33.out).mono ?_); (case side1 => exact is102_ HI0.out); (case side2 => exact hb102_ HB.out); rintro e w38 ⟨rfl, hi, hb, hk⟩; replace BK164 := Aside0.mk (KeepBut.blk hk (g' := gb164) (o := .cells #[.int .i64 0, .int .i64 0, .int .i64 0, .int .i64 0, .int .i64 0, .int .i64 0, .bool false, .bool false, .slice none 0 0] 28 (0, 0)) (by exact kf_ BK164.out) NB164_0.out (by simp)); replace HO179 := Aside0.mk (Kd.R_mono (Kd.R_keep (IsS102.apart (show IsS102 w0 _ g s0_0 t185 from is102_ HI0.out) (by refine kR_ ?_; exact (Kd.R_mono (Kd.R_f gb181 5 (.int .i64 t184) (Kd.R_types HO179.out BK181.out (by decide))) (fun _ h_ => op1_ h_))) (by decide)) hk (fun _ h => h.2)) (fun _ h => h.1)); replace BK181 := Aside0.mk (KeepBut.blk hk (g' := gb181) (o := .cells #[.int .i64 t165, .int .i64 t167, .int .i64 t169, .int .i64 t171, .int .i64 t173, .int .i64 t184, .bool false, .bool false, .slice Ao20 t177.length co20] 28 (0, 0)) (by refine kb_ ?_; refine blk_put (cs := #[.int .i64 t165, .int .i64 t167, .int .i64 t169, .int .i64 t171, .int .i64 t173, .int .i64 0, .bool false, .bool false, .slice Ao20 t177.length co20]) ?_ 5 _ rfl; refine kb_ ?_; exact BK181.out) NB181_0.out (by simp)); replace HK := (kk_ HK hk); replace HB := Aside0.mk (hb); replace HI0 := Aside0.mk (hi); (try clear hb); (try clear hb2); (try clear hk); (try clear hi); have Z39 := zz9 BK181))
     go_meet
     case rel => exact ⟨_, (t187), (t184), ((t186 == 0)), (false), H', ⟨by first | omega | exact Nat.le_refl _⟩, ⟨by refine kR_ ?_; exact Kd.R_mono (Kd.R_f gb181 6 (.bool (t186 == 0)) (Kd.R_types HO179.out BK181.out (by decide))) (fun _ hk => trivial)⟩, ⟨by exact kf_ BK164.out⟩, ⟨by refine kb_ ?_; refine blk_put (cs := #[.int .i64 t165, .int .i64 t167, .int .i64 t169, .int .i64 t171, .int .i64 t173, .int .i64 t184, .bool false, .bool false, .slice Ao20 t177.length co20]) ?_ 6 _ rfl; refine kb_ ?_; exact BK181.out⟩, ⟨is102_ HI0.out⟩, ⟨hkA_ HK.out⟩, ⟨hb102_ HB.out⟩⟩
    ·rw [if_neg c32] at H
     have c32b0 : decide (0 < (t177.length : Int)) = false := decide_eq_false c32
     have c32b1 : decide (0 < t177.length) = false := decide_eq_false (by omega)
     clear c32
     have H' := Aside0.mk H
     clear H
     go_wp2_with (first | ((with_reducible refine gate_callee (f := 40) rfl ?_); refine goesL_ (some 29) rfl rfl Try.func40 (by kernel_rfl) rfl #[.pointer (some ⟨g, 0, none⟩), .int .i64 20] rfl ar_ ?_; (with_reducible refine (spec_l20Rd_pick.calls k g s0_0 t183 20 t184 t185 w0 _ ?side1 ?side2 A31.out).mono ?_); (case side1 => exact is102_ HI0.out); (case side2 => exact hb102_ HB.out); rintro e w40 ⟨rfl, hi, hb, hk⟩; refine ⟨_, rfl, ?_⟩; replace BK164 := (bkA_ BK164 hk NB164_0); replace HO179 := (rk102_ HI0 HO179 hk); replace BK181 := (bkA_ BK181 hk NB181_0); replace HK := (kk_ HK hk); replace HB := Aside0.mk (hb); replace HI0 := Aside0.mk (hi); (try clear hb); (try clear hb2); (try clear hk); (try clear hi); have hnb41 := NB181_164.out; have hnc41 := NB164_181.out; have hnb42 := NB181_0.out; have hnc42 := NB0_181.out; have Z43 := zz9 BK181))
     go_meet
     case rel => exact ⟨_, (t185), (t184), (false), (false), H', ⟨by first | omega | exact Nat.le_refl _⟩, ⟨by refine kR_ ?_; exact rfm_ ((Kd.R_types HO179.out BK181.out (by decide))) (fun _ hk => trivial)⟩, ⟨by exact kf_ BK164.out⟩, ⟨by refine kb_ ?_; refine blk_put (cs := #[.int .i64 t165, .int .i64 t167, .int .i64 t169, .int .i64 t171, .int .i64 t173, .int .i64 t184, .bool false, .bool false, .slice Ao20 t177.length co20]) ?_ 6 _ rfl; refine kb_ ?_; refine blk_put (cs := #[.int .i64 t165, .int .i64 t167, .int .i64 t169, .int .i64 t171, .int .i64 t173, .int .i64 0, .bool false, .bool false, .slice Ao20 t177.length co20]) ?_ 5 _ rfl; refine kb_ ?_; exact BK181.out⟩, ⟨is102_ HI0.out⟩, ⟨hkA_ HK.out⟩, ⟨hb102_ HB.out⟩⟩
   ·rw [if_neg c30] at H
    have c30b0 : (t182 == 1) = false := beq_eq_false_iff_ne.mpr c30
    have c30b1 : (t182 != 1) = true := bne_iff_ne.mpr c30
    have H' := Aside0.mk H
    clear H
    go_wp2
    go_meet
    case rel => exact ⟨_, (t183), (0), (false), (false), H', ⟨by first | omega | exact Nat.le_refl _⟩, ⟨kR_ HO179.out⟩, ⟨by refine kb_ ?_; exact BK164.out⟩, ⟨by refine kb_ ?_; exact BK181.out⟩, ⟨is102_ HI0.out⟩, ⟨hkA_ HK.out⟩, ⟨hb102_ HB.out⟩⟩
 case rest =>
  clear HC11; (try clear c2); (try clear p2); (try clear c3); (try clear c4); (try clear c7); (try clear c22); (try clear c23); (try clear c26); (try clear c26b0); (try clear c26b1); (try clear c27); (try clear c28); (try clear c30); (try clear c30b0); (try clear c30b1); (try clear c32); (try clear c32b0); (try clear c32b1); (try clear c35); (try clear c36); (try clear c40); (try clear c41); (try clear c42); (try clear Z24); (try clear Z29); (try clear Z37); (try clear Z39); (try clear Z43)
  obtain ⟨kq, x1001_10, x182005_10, x182006_10, x182007_10, HA, HJ10, HO_182008, BK164, BK181, HI0, HK, HB⟩ := hcut
  cases kq with
  | zero => exact absurd HA.out (by simp [spec_l20Packet.j0])
  | succ kj10 =>
   have H := HA.out; clear HA
   simp only [spec_l20Packet.j0] at H
   replace H := Option.bind_eq_some_iff.mp H
   obtain ⟨⟨t188, t189⟩, A440, H⟩ := H
   (try dsimp only at H)
   have A44 := Aside0.mk A440; clear A440
   by_cases c45 : t188 = true
   ·subst c45
    rw [if_pos rfl] at H
    replace H := Option.bind_eq_some_iff.mp H
    obtain ⟨⟨t190, t191⟩, A460, H⟩ := H
    (try dsimp only at H)
    have A46 := Aside0.mk A460; clear A460
    by_cases c47 : t190 = 0
    ·rw [if_pos c47] at H
     have c47b0 : (t190 == 0) = true := beq_iff_eq.mpr c47
     have c47b1 : (t190 != 0) = false := bne_eq_false_iff_eq.mpr c47
     clear c47
     replace H := Option.bind_eq_some_iff.mp H
     obtain ⟨⟨t192, t193⟩, A480, H⟩ := H
     (try dsimp only at H)
     have A48 := Aside0.mk A480; clear A480
     simp only [Option.some.injEq, Prod.mk.injEq] at H
     obtain ⟨rfl, rfl, rfl, rfl, rfl, rfl, rfl, rfl, rfl, rfl⟩ := H
     go_wp2_with (first | ((with_reducible refine gate_callee (f := 80) rfl ?_); refine goesL_ (some 43) rfl rfl Try.func80 (by kernel_rfl) rfl #[.pointer (some ⟨g, 0, none⟩), .int .i64 a1] rfl ar_ ?_; (with_reducible refine (spec_l20Rd_odd.calls kj10 g s0_0 x1001_10 a1 true t189 w0 _ ?side1 ?side2 A44.out).mono ?_); (case side1 => exact is102_ HI0.out); (case side2 => exact hb102_ HB.out); rintro e w49 ⟨rfl, hi, hb, hk⟩; refine ⟨_, rfl, ?_⟩; replace HO_182008 := (rk102_ HI0 HO_182008 hk); replace BK164 := (bkA_ BK164 hk NB164_0); replace BK181 := (bkA_ BK181 hk NB181_0); replace HK := (kk_ HK hk); replace HB := Aside0.mk (hb); replace HI0 := Aside0.mk (hi); (try clear hb); (try clear hb2); (try clear hk); (try clear hi)) | ((with_reducible refine gate_callee (f := 40) rfl ?_); refine goesL_ (some 45) rfl rfl Try.func40 (by kernel_rfl) rfl #[.pointer (some ⟨g, 0, none⟩), .int .i64 5] rfl ar_ ?_; (with_reducible refine (spec_l20Rd_pick.calls kj10 g s0_0 t189 5 t190 t191 w0 _ ?side1 ?side2 A46.out).mono ?_); (case side1 => exact is102_ HI0.out); (case side2 => exact hb102_ HB.out); rintro e w50 ⟨rfl, hi, hb, hk⟩; refine ⟨_, rfl, ?_⟩; replace HO_182008 := (rk102_ HI0 HO_182008 hk); replace BK164 := (bkA_ BK164 hk NB164_0); replace BK181 := (bkA_ BK181 hk NB181_0); replace HK := (kk_ HK hk); replace HB := Aside0.mk (hb); replace HI0 := Aside0.mk (hi); (try clear hb); (try clear hb2); (try clear hk); (try clear hi)) | ((with_reducible refine gate_callee (f := 40) rfl ?_); refine goesL_ (some 51) rfl rfl Try.func40 (by kernel_rfl) rfl #[.pointer (some ⟨g, 0, none⟩), .int .i64 2] rfl ar_ ?_; (with_reducible refine (spec_l20Rd_pick.calls kj10 g s0_0 t191 2 t192 t193 w0 _ ?side1 ?side2 A48.out).mono ?_); (case side1 => exact is102_ HI0.out); (case side2 => exact hb102_ HB.out); rintro e w51 ⟨rfl, hi, hb, hk⟩; refine ⟨_, rfl, ?_⟩; replace HO_182008 := (rk102_ HI0 HO_182008 hk); replace BK164 := (bkA_ BK164 hk NB164_0); replace BK181 := (bkA_ BK181 hk NB181_0); replace HK := (kk_ HK hk); replace HB := Aside0.mk (hb); replace HI0 := Aside0.mk (hi); (try clear hb); (try clear hb2); (try clear hk); (try clear hi); have hnb52 := NB181_164.out; have hnc52 := NB164_181.out; have hnb53 := NB181_0.out; have hnc53 := NB0_181.out; have Z54 := zz9 BK181; have hnb55 := NB164_0.out; have hnc55 := NB0_164.out; have Z56 := zz9 BK164))
     refine bodyPost_ret (results_cell_row rfl _ _ gb164 28 #[.int .i64 t165, .int .i64 (wrap64 (65536 - (wrap64 (t192 * 65540)))), .int .i64 t169, .int .i64 t171, .int .i64 t173, .int .i64 x182005_10, .bool x182006_10, .bool x182007_10, .slice Ao20 t177.length co20] (0, 0) _ rfl (by refine kb_ ?_; refine pz9 (cs := #[.int .i64 0, .int .i64 0, .int .i64 0, .int .i64 0, .int .i64 0, .int .i64 0, .bool false, .bool false, .slice none 0 0]) ?_; exact kf_ BK164.out) Try.underlying28 rfl (by kernel_rfl)) rfl ?_
     exact ⟨_, by first | rfl | (simp [errW_none, errW_some] <;> rfl) | (simp [*, errW_none, errW_some] <;> rfl), by refine kR_ ?_; exact rfm_ ((Kd.R_far (p := ⟨gb181, 1, none⟩) (Kd.R_types (Kd.R_types HO_182008.out BK181.out (by decide)) BK164.out (by decide)) (fun _ hk => hk.1.2) (.int .i64 (wrap64 (65536 - (wrap64 (t192 * 65540))))))) (fun _ hk => trivial), is102_ HI0.out, hb102_ HB.out, hkA_ HK.out⟩
    ·rw [if_neg c47] at H
     have c47b0 : (t190 == 0) = false := beq_eq_false_iff_ne.mpr c47
     have c47b1 : (t190 != 0) = true := bne_iff_ne.mpr c47
     by_cases c57 : t190 = 1
     ·rw [if_pos c57] at H
      have c57b0 : (t190 == 1) = true := beq_iff_eq.mpr c57
      have c57b1 : (t190 != 1) = false := bne_eq_false_iff_eq.mpr c57
      clear c57
      replace H := Option.bind_eq_some_iff.mp H
      obtain ⟨⟨t194, t195⟩, A580, H⟩ := H
      (try dsimp only at H)
      have A58 := Aside0.mk A580; clear A580
      simp only [Option.some.injEq, Prod.mk.injEq] at H
      obtain ⟨rfl, rfl, rfl, rfl, rfl, rfl, rfl, rfl, rfl, rfl⟩ := H
      go_wp2_with (first | ((with_reducible refine gate_callee (f := 80) rfl ?_); refine goesL_ (some 43) rfl rfl Try.func80 (by kernel_rfl) rfl #[.pointer (some ⟨g, 0, none⟩), .int .i64 a1] rfl ar_ ?_; (with_reducible refine (spec_l20Rd_odd.calls kj10 g s0_0 x1001_10 a1 true t189 w0 _ ?side1 ?side2 A44.out).mono ?_); (case side1 => exact is102_ HI0.out); (case side2 => exact hb102_ HB.out); rintro e w59 ⟨rfl, hi, hb, hk⟩; refine ⟨_, rfl, ?_⟩; replace HO_182008 := (rk102_ HI0 HO_182008 hk); replace BK164 := (bkA_ BK164 hk NB164_0); replace BK181 := (bkA_ BK181 hk NB181_0); replace HK := (kk_ HK hk); replace HB := Aside0.mk (hb); replace HI0 := Aside0.mk (hi); (try clear hb); (try clear hb2); (try clear hk); (try clear hi)) | ((with_reducible refine gate_callee (f := 40) rfl ?_); refine goesL_ (some 45) rfl rfl Try.func40 (by kernel_rfl) rfl #[.pointer (some ⟨g, 0, none⟩), .int .i64 5] rfl ar_ ?_; (with_reducible refine (spec_l20Rd_pick.calls kj10 g s0_0 t189 5 t190 t191 w0 _ ?side1 ?side2 A46.out).mono ?_); (case side1 => exact is102_ HI0.out); (case side2 => exact hb102_ HB.out); rintro e w60 ⟨rfl, hi, hb, hk⟩; refine ⟨_, rfl, ?_⟩; replace HO_182008 := (rk102_ HI0 HO_182008 hk); replace BK164 := (bkA_ BK164 hk NB164_0); replace BK181 := (bkA_ BK181 hk NB181_0); replace HK := (kk_ HK hk); replace HB := Aside0.mk (hb); replace HI0 := Aside0.mk (hi); (try clear hb); (try clear hb2); (try clear hk); (try clear hi)) | ((with_reducible refine gate_callee (f := 40) rfl ?_); refine goesL_ (some 58) rfl rfl Try.func40 (by kernel_rfl) rfl #[.pointer (some ⟨g, 0, none⟩), .int .i64 2] rfl ar_ ?_; (with_reducible refine (spec_l20Rd_pick.calls kj10 g s0_0 t191 2 t194 t195 w0 _ ?side1 ?side2 A58.out).mono ?_); (case side1 => exact is102_ HI0.out); (case side2 => exact hb102_ HB.out); rintro e w61 ⟨rfl, hi, hb, hk⟩; refine ⟨_, rfl, ?_⟩; replace HO_182008 := (rk102_ HI0 HO_182008 hk); replace BK164 := (bkA_ BK164 hk NB164_0); replace BK181 := (bkA_ BK181 hk NB181_0); replace HK := (kk_ HK hk); replace HB := Aside0.mk (hb); replace HI0 := Aside0.mk (hi); (try clear hb); (try clear hb2); (try clear hk); (try clear hi); have hnb62 := NB181_164.out; have hnc62 := NB164_181.out; have hnb63 := NB181_0.out; have hnc63 := NB0_181.out; have Z64 := zz9 BK181; have hnb65 := NB164_0.out; have hnc65 := NB0_164.out; have Z66 := zz9 BK164))
      refine bodyPost_ret (results_cell_row rfl _ _ gb164 28 #[.int .i64 t165, .int .i64 t167, .int .i64 t169, .int .i64 (wrap64 (256 - (wrap64 (t194 * 300)))), .int .i64 t173, .int .i64 x182005_10, .bool x182006_10, .bool x182007_10, .slice Ao20 t177.length co20] (0, 0) _ rfl (by refine kb_ ?_; refine pz9 (cs := #[.int .i64 0, .int .i64 0, .int .i64 0, .int .i64 0, .int .i64 0, .int .i64 0, .bool false, .bool false, .slice none 0 0]) ?_; exact kf_ BK164.out) Try.underlying28 rfl (by kernel_rfl)) rfl ?_
      exact ⟨_, by first | rfl | (simp [errW_none, errW_some] <;> rfl) | (simp [*, errW_none, errW_some] <;> rfl), by refine kR_ ?_; exact rfm_ ((Kd.R_far (p := ⟨gb181, 3, none⟩) (Kd.R_types (Kd.R_types HO_182008.out BK181.out (by decide)) BK164.out (by decide)) (fun _ hk => hk.1.2) (.int .i64 (wrap64 (256 - (wrap64 (t194 * 300))))))) (fun _ hk => trivial), is102_ HI0.out, hb102_ HB.out, hkA_ HK.out⟩
     ·rw [if_neg c57] at H
      have c57b0 : (t190 == 1) = false := beq_eq_false_iff_ne.mpr c57
      have c57b1 : (t190 != 1) = true := bne_iff_ne.mpr c57
      by_cases c67 : t190 = 2
      ·rw [if_pos c67] at H
       have c67b0 : (t190 == 2) = true := beq_iff_eq.mpr c67
       have c67b1 : (t190 != 2) = false := bne_eq_false_iff_eq.mpr c67
       clear c67
       by_cases c68 : 49 ≤ 281474976710656
       ·rw [if_pos c68] at H
        have c68b0 := eq_true c68
        have c68b1 : decide (49 ≤ 281474976710656) = true := decide_eq_true c68
        clear c68
        obtain ⟨y196, hy196⟩ : ∃ y_ : List Int, y_ = (List.replicate 49 0) := ⟨_, rfl⟩
        (first | replace H := sb_ hy196 H | rw [← hy196] at H)
        have Ny196 := Aside0.mk hy196; clear hy196
        simp only [Option.some.injEq, Prod.mk.injEq] at H
        obtain ⟨rfl, rfl, rfl, rfl, rfl, rfl, rfl, rfl, rfl, rfl⟩ := H
        go_wp2_with (first | ((with_reducible refine gate_callee (f := 80) rfl ?_); refine goesL_ (some 43) rfl rfl Try.func80 (by kernel_rfl) rfl #[.pointer (some ⟨g, 0, none⟩), .int .i64 a1] rfl ar_ ?_; (with_reducible refine (spec_l20Rd_odd.calls kj10 g s0_0 x1001_10 a1 true t189 w0 _ ?side1 ?side2 A44.out).mono ?_); (case side1 => exact is102_ HI0.out); (case side2 => exact hb102_ HB.out); rintro e w69 ⟨rfl, hi, hb, hk⟩; refine ⟨_, rfl, ?_⟩; replace HO_182008 := (rk102_ HI0 HO_182008 hk); replace BK164 := (bkA_ BK164 hk NB164_0); replace BK181 := (bkA_ BK181 hk NB181_0); replace HK := (kk_ HK hk); replace HB := Aside0.mk (hb); replace HI0 := Aside0.mk (hi); (try clear hb); (try clear hb2); (try clear hk); (try clear hi)) | ((with_reducible refine gate_callee (f := 40) rfl ?_); refine goesL_ (some 45) rfl rfl Try.func40 (by kernel_rfl) rfl #[.pointer (some ⟨g, 0, none⟩), .int .i64 5] rfl ar_ ?_; (with_reducible refine (spec_l20Rd_pick.calls kj10 g s0_0 t189 5 t190 t191 w0 _ ?side1 ?side2 A46.out).mono ?_); (case side1 => exact is102_ HI0.out); (case side2 => exact hb102_ HB.out); rintro e w70 ⟨rfl, hi, hb, hk⟩; refine ⟨_, rfl, ?_⟩; replace HO_182008 := (rk102_ HI0 HO_182008 hk); replace BK164 := (bkA_ BK164 hk NB164_0); replace BK181 := (bkA_ BK181 hk NB181_0); replace HK := (kk_ HK hk); replace HB := Aside0.mk (hb); replace HI0 := Aside0.mk (hi); (try clear hb); (try clear hb2); (try clear hk); (try clear hi)) | ((with_reducible refine gate_dst (N := 64) rfl ?_); refine Kd.R_make (Kd.int .u8) _ 5 rfl (N := 64) rfl 22 _ _ rfl 49 rfl rfl Try.underlying22 (.int .u8 0) 1 info5 rfl (by decide) (by omega) 0 (ok := fun _ => True) (okp := fun _ => True) rfl (fun _ hk => hk) trivial (by omega) (by omega) (Below.refl _ _) (Nat.le_refl _) ?_; intro v197 w71 ho72 hb hg_ hnew_; clear hg_ hnew_; (first | rw [← Ny196.out] at ho72 | (simp only [Int.reduceToNat] at ho72; rw [← Ny196.out] at ho72)); have HO198 := Aside0.mk (Kd.R_lower (Kd.R_new' ho72 (Kd.R_lt (kR_ HO_182008.out))) (keep_size (w := w) (g := g) (row := none) (hkA_ HK.out))); replace HO_182008 := Aside0.mk (Kd.R_elder' (kR_ HO_182008.out) (Kd.R_base ho72) hb); replace BK164 := (bbA_ BK164 hb); replace BK181 := (bbA_ BK181 hb); replace HI0 := (ib102_ HI0 hb); replace HK := (kw_ HK hb); replace HB := (bs102_ HB hb); clear hb ho72; obtain ⟨Ao73, co73, eo73⟩ := Kd.R_slice HO198.out; subst eo73; have hnb74 := NB181_164.out; have hnc74 := NB164_181.out; have hnb75 := NB181_0.out; have hnc75 := NB0_181.out; have Z76 := zz9 BK181; have hnb77 := NB164_0.out; have hnc77 := NB0_164.out; have Z78 := zz9 BK164))
        refine bodyPost_ret (results_cell_row rfl _ _ gb164 28 #[.int .i64 t165, .int .i64 t167, .int .i64 t169, .int .i64 t171, .int .i64 t173, .int .i64 x182005_10, .bool x182006_10, .bool x182007_10, .slice Ao73 y196.length co73] (0, 0) _ rfl (by refine kb_ ?_; refine pz9 (cs := #[.int .i64 0, .int .i64 0, .int .i64 0, .int .i64 0, .int .i64 0, .int .i64 0, .bool false, .bool false, .slice none 0 0]) ?_; exact kf_ BK164.out) Try.underlying28 rfl (by kernel_rfl)) rfl ?_
        exact ⟨_, by first | rfl | (simp [errW_none, errW_some] <;> rfl) | (simp [*, errW_none, errW_some] <;> rfl), by refine kR_ ?_; exact rfm_ ((Kd.R_far (p := ⟨gb181, 8, none⟩) (Kd.R_types (Kd.R_types HO198.out BK181.out (by decide)) BK164.out (by decide)) (fun _ hk => hk.1.2) (.slice Ao73 y196.length co73))) (fun _ hk => trivial), is102_ HI0.out, hb102_ HB.out, hkA_ HK.out⟩
       ·rw [if_neg c68] at H
        exact absurd H (by simp)
      ·rw [if_neg c67] at H
       have c67b0 : (t190 == 2) = false := beq_eq_false_iff_ne.mpr c67
       have c67b1 : (t190 != 2) = true := bne_iff_ne.mpr c67
       by_cases c79 : t190 = 3
       ·rw [if_pos c79] at H
        have c79b0 : (t190 == 3) = true := beq_iff_eq.mpr c79
        have c79b1 : (t190 != 3) = false := bne_eq_false_iff_eq.mpr c79
        clear c79
        simp only [Option.some.injEq, Prod.mk.injEq] at H
        obtain ⟨rfl, rfl, rfl, rfl, rfl, rfl, rfl, rfl, rfl, rfl⟩ := H
        go_wp2_with (first | ((with_reducible refine gate_callee (f := 80) rfl ?_); refine goesL_ (some 43) rfl rfl Try.func80 (by kernel_rfl) rfl #[.pointer (some ⟨g, 0, none⟩), .int .i64 a1] rfl ar_ ?_; (with_reducible refine (spec_l20Rd_odd.calls kj10 g s0_0 x1001_10 a1 true t189 w0 _ ?side1 ?side2 A44.out).mono ?_); (case side1 => exact is102_ HI0.out); (case side2 => exact hb102_ HB.out); rintro e w80 ⟨rfl, hi, hb, hk⟩; refine ⟨_, rfl, ?_⟩; replace HO_182008 := (rk102_ HI0 HO_182008 hk); replace BK164 := (bkA_ BK164 hk NB164_0); replace BK181 := (bkA_ BK181 hk NB181_0); replace HK := (kk_ HK hk); replace HB := Aside0.mk (hb); replace HI0 := Aside0.mk (hi); (try clear hb); (try clear hb2); (try clear hk); (try clear hi)) | ((with_reducible refine gate_callee (f := 40) rfl ?_); refine goesL_ (some 45) rfl rfl Try.func40 (by kernel_rfl) rfl #[.pointer (some ⟨g, 0, none⟩), .int .i64 5] rfl ar_ ?_; (with_reducible refine (spec_l20Rd_pick.calls kj10 g s0_0 t189 5 t190 t191 w0 _ ?side1 ?side2 A46.out).mono ?_); (case side1 => exact is102_ HI0.out); (case side2 => exact hb102_ HB.out); rintro e w81 ⟨rfl, hi, hb, hk⟩; refine ⟨_, rfl, ?_⟩; replace HO_182008 := (rk102_ HI0 HO_182008 hk); replace BK164 := (bkA_ BK164 hk NB164_0); replace BK181 := (bkA_ BK181 hk NB181_0); replace HK := (kk_ HK hk); replace HB := Aside0.mk (hb); replace HI0 := Aside0.mk (hi); (try clear hb); (try clear hb2); (try clear hk); (try clear hi); have hnb82 := NB181_164.out; have hnc82 := NB164_181.out; have hnb83 := NB181_0.out; have hnc83 := NB0_181.out; have Z84 := zz9 BK181; have hnb85 := NB164_0.out; have hnc85 := NB0_164.out; have Z86 := zz9 BK164))
        refine bodyPost_ret (results_cell_row rfl _ _ gb164 28 #[.int .i64 t165, .int .i64 t167, .int .i64 t169, .int .i64 t171, .int .i64 t173, .int .i64 x182005_10, .bool true, .bool x182007_10, .slice none 0 0] (0, 0) _ rfl (by refine kb_ ?_; refine pz9 (cs := #[.int .i64 0, .int .i64 0, .int .i64 0, .int .i64 0, .int .i64 0, .int .i64 0, .bool false, .bool false, .slice none 0 0]) ?_; exact kf_ BK164.out) Try.underlying28 rfl (by kernel_rfl)) rfl ?_
        exact ⟨_, by first | rfl | (simp [errW_none, errW_some] <;> rfl) | (simp [*, errW_none, errW_some] <;> rfl), by first | exact Kd.R_nil _ _ _ _ _ | exact Kd.N_nil _ _ _ _ _ | exact Kd.V_nil _ _ _ _ _ | exact Kd.Q_nil _ _ _ _ _ | exact Kd.S_nil _ _ _ _ _, is102_ HI0.out, hb102_ HB.out, hkA_ HK.out⟩
       ·rw [if_neg c79] at H
        have c79b0 : (t190 == 3) = false := beq_eq_false_iff_ne.mpr c79
        have c79b1 : (t190 != 3) = true := bne_iff_ne.mpr c79
        simp only [Option.some.injEq, Prod.mk.injEq] at H
        obtain ⟨rfl, rfl, rfl, rfl, rfl, rfl, rfl, rfl, rfl, rfl⟩ := H
        go_wp2_with (first | ((with_reducible refine gate_callee (f := 80) rfl ?_); refine goesL_ (some 43) rfl rfl Try.func80 (by kernel_rfl) rfl #[.pointer (some ⟨g, 0, none⟩), .int .i64 a1] rfl ar_ ?_; (with_reducible refine (spec_l20Rd_odd.calls kj10 g s0_0 x1001_10 a1 true t189 w0 _ ?side1 ?side2 A44.out).mono ?_); (case side1 => exact is102_ HI0.out); (case side2 => exact hb102_ HB.out); rintro e w87 ⟨rfl, hi, hb, hk⟩; refine ⟨_, rfl, ?_⟩; replace HO_182008 := (rk102_ HI0 HO_182008 hk); replace BK164 := (bkA_ BK164 hk NB164_0); replace BK181 := (bkA_ BK181 hk NB181_0); replace HK := (kk_ HK hk); replace HB := Aside0.mk (hb); replace HI0 := Aside0.mk (hi); (try clear hb); (try clear hb2); (try clear hk); (try clear hi)) | ((with_reducible refine gate_callee (f := 40) rfl ?_); refine goesL_ (some 45) rfl rfl Try.func40 (by kernel_rfl) rfl #[.pointer (some ⟨g, 0, none⟩), .int .i64 5] rfl ar_ ?_; (with_reducible refine (spec_l20Rd_pick.calls kj10 g s0_0 t189 5 t190 t191 w0 _ ?side1 ?side2 A46.out).mono ?_); (case side1 => exact is102_ HI0.out); (case side2 => exact hb102_ HB.out); rintro e w88 ⟨rfl, hi, hb, hk⟩; refine ⟨_, rfl, ?_⟩; replace HO_182008 := (rk102_ HI0 HO_182008 hk); replace BK164 := (bkA_ BK164 hk NB164_0); replace BK181 := (bkA_ BK181 hk NB181_0); replace HK := (kk_ HK hk); replace HB := Aside0.mk (hb); replace HI0 := Aside0.mk (hi); (try clear hb); (try clear hb2); (try clear hk); (try clear hi); have hnb89 := NB181_164.out; have hnc89 := NB164_181.out; have hnb90 := NB181_0.out; have hnc90 := NB0_181.out; have Z91 := zz9 BK181; have hnb92 := NB164_0.out; have hnc92 := NB0_164.out; have Z93 := zz9 BK164))
        refine bodyPost_ret (results_cell_row rfl _ _ gb164 28 #[.int .i64 t165, .int .i64 t167, .int .i64 t169, .int .i64 t171, .int .i64 t173, .int .i64 3, .bool x182006_10, .bool true, .slice Ao20 t177.length co20] (0, 0) _ rfl (by refine kb_ ?_; refine pz9 (cs := #[.int .i64 0, .int .i64 0, .int .i64 0, .int .i64 0, .int .i64 0, .int .i64 0, .bool false, .bool false, .slice none 0 0]) ?_; exact kf_ BK164.out) Try.underlying28 rfl (by kernel_rfl)) rfl ?_
        exact ⟨_, by first | rfl | (simp [errW_none, errW_some] <;> rfl) | (simp [*, errW_none, errW_some] <;> rfl), by refine kR_ ?_; exact rfm_ ((Kd.R_far (p := ⟨gb181, 5, none⟩) (Kd.R_far (p := ⟨gb181, 7, none⟩) (Kd.R_types (Kd.R_types HO_182008.out BK181.out (by decide)) BK164.out (by decide)) (fun _ hk => hk.1.2) (.bool true)) (fun _ hk => hk.1.2) (.int .i64 3))) (fun _ hk => trivial), is102_ HI0.out, hb102_ HB.out, hkA_ HK.out⟩
   ·replace c45 := Bool.eq_false_iff.mpr c45
    subst c45
    rw [if_neg (show ¬ (false = true) by decide)] at H
    simp only [Option.some.injEq, Prod.mk.injEq] at H
    obtain ⟨rfl, rfl, rfl, rfl, rfl, rfl, rfl, rfl, rfl, rfl⟩ := H
    go_wp2_with (first | ((with_reducible refine gate_callee (f := 80) rfl ?_); refine goesL_ (some 43) rfl rfl Try.func80 (by kernel_rfl) rfl #[.pointer (some ⟨g, 0, none⟩), .int .i64 a1] rfl ar_ ?_; (with_reducible refine (spec_l20Rd_odd.calls kj10 g s0_0 x1001_10 a1 false t189 w0 _ ?side1 ?side2 A44.out).mono ?_); (case side1 => exact is102_ HI0.out); (case side2 => exact hb102_ HB.out); rintro e w94 ⟨rfl, hi, hb, hk⟩; refine ⟨_, rfl, ?_⟩; replace HO_182008 := (rk102_ HI0 HO_182008 hk); replace BK164 := (bkA_ BK164 hk NB164_0); replace BK181 := (bkA_ BK181 hk NB181_0); replace HK := (kk_ HK hk); replace HB := Aside0.mk (hb); replace HI0 := Aside0.mk (hi); (try clear hb); (try clear hb2); (try clear hk); (try clear hi); have hnb95 := NB181_164.out; have hnc95 := NB164_181.out; have hnb96 := NB181_0.out; have hnc96 := NB0_181.out; have Z97 := zz9 BK181; have hnb98 := NB164_0.out; have hnc98 := NB0_164.out; have Z99 := zz9 BK164))
    refine bodyPost_ret (results_cell_row rfl _ _ gb164 28 #[.int .i64 t165, .int .i64 t167, .int .i64 t169, .int .i64 t171, .int .i64 t173, .int .i64 x182005_10, .bool x182006_10, .bool x182007_10, .slice Ao20 t177.length co20] (0, 0) _ rfl (by refine kb_ ?_; refine pz9 (cs := #[.int .i64 0, .int .i64 0, .int .i64 0, .int .i64 0, .int .i64 0, .int .i64 0, .bool false, .bool false, .slice none 0 0]) ?_; refine kb_ ?_; exact BK164.out) Try.underlying28 rfl (by kernel_rfl)) rfl ?_
    exact ⟨_, by first | rfl | (simp [errW_none, errW_some] <;> rfl) | (simp [*, errW_none, errW_some] <;> rfl), by refine kR_ ?_; exact rfm_ ((Kd.R_types HO_182008.out BK164.out (by decide))) (fun _ hk => trivial), is102_ HI0.out, hb102_ HB.out, hkA_ HK.out⟩
def spec_l20Long.f (k : Nat) (s0_0 : List Int) (s0_1 : Int) : Option (Int × Int × Int × Int × Int × Int × Bool × Bool × List Int × Int) := (spec_l20Packet.f k s0_0 s0_1 0).bind fun bt200 => ((spec_l20Rd_pick.f k s0_0 bt200.2.2.2.2.2.2.2.2.2 20).bind fun bt213 => ((spec_l20Rd_bytes.f k s0_0 bt213.2 (wrap64 (2 + bt213.1))).bind fun bt215 => (some (bt200.1, bt200.2.1, bt200.2.2.1, bt200.2.2.2.1, bt200.2.2.2.2.1, 0, false, false, bt215.1, bt215.2))))
theorem spec_l20Long.mono : ∀ a0 a1 k, LeO (spec_l20Long.f k a0 a1) (spec_l20Long.f (k + 1) a0 a1) := by
 intro a0 a1 k
 unfold spec_l20Long.f
 repeat' first | (with_reducible first | apply spec_l20Packet.mono | apply spec_l20Rd_bytes.mono | apply spec_l20Rd_pick.mono | exact LeO.refl _ | exact LeO.none _ | refine LeO.ite ?_ ?_ | refine LeO.bind ?_ fun _ => ?_) | apply spec_l20Packet.mono | apply spec_l20Rd_bytes.mono | apply spec_l20Rd_pick.mono | exact LeO.none _ | refine LeO.ite ?_ ?_ | refine LeO.bind ?_ fun _ => ?_
set_option maxHeartbeats 8000000 in
set_option maxRecDepth 100000 in
theorem spec_l20Long.calls (k : Nat) (g : Nat) (s0_0 : List Int) (s0_1 : Int) (r1 : Int) (r2 : Int) (r3 : Int) (r4 : Int) (r5 : Int) (r6 : Int) (r7 : Bool) (r8 : Bool) (r9 : List Int) (r10 : Int) (w0 w : World) (hI : IsS102 w0 w g s0_0 s0_1) (hB : Below w0.heap.size w0 w) (h : spec_l20Long.f k s0_0 s0_1 = some (r1, r2, r3, r4, r5, r6, r7, r8, r9, r10)) :
  Calls Try.prog 42 #[.pointer (some ⟨g, 0, none⟩)] w fun e w' => ∃ v8_ : Value, e = .returned (.agg #[.int .i64 r1, .int .i64 r2, .int .i64 r3, .int .i64 r4, .int .i64 r5, .int .i64 r6, .bool r7, .bool r8, v8_]) ∧ Kd.R (Kd.int .u8) 5 w' w.heap.size (fun _ => True) v8_ r9 ∧ IsS102 w0 w' g s0_0 r10 ∧ Below w0.heap.size w0 w' ∧ KeepBut w w' g none := by
 have hu28 := Try.underlying28; have HI0 := Aside0.mk hI
 have HK := Aside0.mk (KeepBut.refl w g none)
 have HL := Aside0.mk hB.size; clear hI; have HW0 := Aside0.mk hB.size; have HB := Aside0.mk hB; clear hB
 have H : ((spec_l20Packet.f k s0_0 s0_1 0).bind fun bt200 => ((spec_l20Rd_pick.f k s0_0 bt200.2.2.2.2.2.2.2.2.2 20).bind fun bt213 => ((spec_l20Rd_bytes.f k s0_0 bt213.2 (wrap64 (2 + bt213.1))).bind fun bt215 => (some (bt200.1, bt200.2.1, bt200.2.2.1, bt200.2.2.2.1, bt200.2.2.2.2.1, 0, false, false, bt215.1, bt215.2))))) = some (r1, r2, r3, r4, r5, r6, r7, r8, r9, r10) := h
 clear h
 replace H := Option.bind_eq_some_iff.mp H
 obtain ⟨⟨t200, t201, t202, t203, t204, t205, t206, t207, t208, t211⟩, A20, H⟩ := H
 (try dsimp only at H)
 have A2 := Aside0.mk A20; clear A20
 replace H := Option.bind_eq_some_iff.mp H
 obtain ⟨⟨t213, t214⟩, A30, H⟩ := H
 (try dsimp only at H)
 have A3 := Aside0.mk A30; clear A30
 replace H := Option.bind_eq_some_iff.mp H
 obtain ⟨⟨t215, t218⟩, A40, H⟩ := H
 (try dsimp only at H)
 have A4 := Aside0.mk A40; clear A40
 simp only [Option.some.injEq, Prod.mk.injEq] at H
 obtain ⟨rfl, rfl, rfl, rfl, rfl, rfl, rfl, rfl, rfl, rfl⟩ := H
 go_enter Try.func42, Try.ntmps42
 go_wp2_with (first | ((with_reducible refine gate_dst (N := 2) rfl ?_); refine box_ (N := 2) (cs := #[.int .i64 0, .int .i64 0, .int .i64 0, .int .i64 0, .int .i64 0, .int .i64 0, .bool false, .bool false, .slice none 0 0]) (t := 28) (fun gb199 hg w5 hbox hb => ?_); replace HB := (bs102_ HB hb); have BK199 := Aside0.mk (hbox); have GW199 := gk_ hg HK; have GE199 := Aside0.mk ((Nat.le_trans HW0.out (by rw [hg]; exact (keep_size (w := w) (g := g) (row := none) (hkA_ HK.out)) : w.heap.size ≤ gb199) : w0.heap.size ≤ gb199)); replace HK := (kw_ HK hb); have NB0_199 := nl102_ hg HI0; have NB199_0 := ng102_ hg HI0; replace HI0 := (ib102_ HI0 hb); clear hb hbox hg) | ((with_reducible refine gate_callee (f := 78) rfl ?_); refine goesL_ (some 5) rfl rfl Try.func78 (by kernel_rfl) rfl #[.pointer (some ⟨g, 0, none⟩), .int .i64 0] rfl ar_ ?_; (with_reducible refine (spec_l20Packet.calls k g s0_0 s0_1 0 t200 t201 t202 t203 t204 t205 t206 t207 t208 t211 w0 _ ?side1 ?side2 A2.out).mono ?_); (case side1 => exact is102_ HI0.out); (case side2 => exact hb102_ HB.out); rintro e w6 ⟨v209, rfl, ho0, hi, hb, hk⟩; refine ⟨_, rfl, ?_⟩; replace BK199 := (bkA_ BK199 hk NB199_0); have HO210 := Aside0.mk (Kd.R_lower ho0 (keep_size (w := w) (g := g) (row := none) (hkA_ HK.out))); replace HK := (kk_ HK hk); replace HB := Aside0.mk (hb); replace HI0 := Aside0.mk (hi); (try clear hb); (try clear hb2); (try clear hk); (try clear hi); (try clear ho0)) | ((with_reducible refine gate_dst (N := 3) rfl ?_); refine box_ (N := 3) (cs := #[.int .i64 0, .int .i64 0, .int .i64 0, .int .i64 0, .int .i64 0, .int .i64 0, .bool false, .bool false, .slice none 0 0]) (t := 28) (fun gb212 hg w7 hbox hb => ?_); replace HO210 := Aside0.mk (Kd.R_below (kR_ HO210.out) hb); replace HB := (bs102_ HB hb); have BK212 := Aside0.mk (hbox); have GW212 := gk_ hg HK; have GE212 := Aside0.mk ((Nat.le_trans HW0.out (by rw [hg]; exact (keep_size (w := w) (g := g) (row := none) (hkA_ HK.out)) : w.heap.size ≤ gb212) : w0.heap.size ≤ gb212)); replace HK := (kw_ HK hb); have NB199_212 := nl_ hg BK199; have NB212_199 := ng_ hg BK199; replace BK199 := (bbA_ BK199 hb); have NB0_212 := nl102_ hg HI0; have NB212_0 := ng102_ hg HI0; replace HI0 := (ib102_ HI0 hb); clear hb hbox hg; have hnb8 := NB212_199.out; have hnc8 := NB199_212.out; have hnb9 := NB212_0.out; have hnc9 := NB0_212.out; have Z10 := zz9 BK212; obtain ⟨Ao11, co11, eo11⟩ := Kd.R_slice HO210.out; subst eo11) | ((with_reducible refine gate_callee (f := 40) rfl ?_); refine goesL_ (some 11) rfl rfl Try.func40 (by kernel_rfl) rfl #[.pointer (some ⟨g, 0, none⟩), .int .i64 20] rfl ar_ ?_; (with_reducible refine (spec_l20Rd_pick.calls k g s0_0 t211 20 t213 t214 w0 _ ?side1 ?side2 A3.out).mono ?_); (case side1 => exact is102_ HI0.out); (case side2 => exact hb102_ HB.out); rintro e w12 ⟨rfl, hi, hb, hk⟩; refine ⟨_, rfl, ?_⟩; replace BK199 := Aside0.mk (KeepBut.blk hk (g' := gb199) (o := .cells #[.int .i64 0, .int .i64 0, .int .i64 0, .int .i64 0, .int .i64 0, .int .i64 0, .bool false, .bool false, .slice none 0 0] 28 (0, 0)) (by exact kf_ BK199.out) NB199_0.out (by simp)); replace HO210 := Aside0.mk (Kd.R_mono (Kd.R_keep (IsS102.apart (show IsS102 w0 _ g s0_0 t211 from is102_ HI0.out) (by refine kR_ ?_; exact (rfm_ ((Kd.R_types HO210.out BK212.out (by decide))) (fun _ h_ => op1_ h_))) (by decide)) hk (fun _ h => h.2)) (fun _ h => h.1)); replace BK212 := Aside0.mk (KeepBut.blk hk (g' := gb212) (o := .cells #[.int .i64 t200, .int .i64 t201, .int .i64 t202, .int .i64 t203, .int .i64 t204, .int .i64 0, .bool false, .bool false, .slice Ao11 t208.length co11] 28 (0, 0)) (by refine kb_ ?_; refine blk_put (cs := #[.int .i64 t200, .int .i64 t201, .int .i64 t202, .int .i64 t203, .int .i64 t204, .int .i64 0, .bool false, .bool t207, .slice Ao11 t208.length co11]) ?_ 7 _ rfl; refine kb_ ?_; refine blk_put (cs := #[.int .i64 t200, .int .i64 t201, .int .i64 t202, .int .i64 t203, .int .i64 t204, .int .i64 0, .bool t206, .bool t207, .slice Ao11 t208.length co11]) ?_ 6 _ rfl; refine kb_ ?_; refine blk_put (cs := #[.int .i64 t200, .int .i64 t201, .int .i64 t202, .int .i64 t203, .int .i64 t204, .int .i64 t205, .bool t206, .bool t207, .slice Ao11 t208.length co11]) ?_ 5 _ rfl; refine kb_ ?_; refine pz9 (cs := #[.int .i64 0, .int .i64 0, .int .i64 0, .int .i64 0, .int .i64 0, .int .i64 0, .bool false, .bool false, .slice none 0 0]) ?_; refine kb_ ?_; exact BK212.out) NB212_0.out (by simp)); replace HK := (kk_ HK hk); replace HB := Aside0.mk (hb); replace HI0 := Aside0.mk (hi); (try clear hb); (try clear hb2); (try clear hk); (try clear hi)) | ((with_reducible refine gate_callee (f := 79) rfl ?_); refine goesL_ (some 13) rfl rfl Try.func79 (by kernel_rfl) rfl #[.pointer (some ⟨g, 0, none⟩), .int .i64 (wrap64 (2 + t213))] rfl ar_ ?_; (with_reducible refine (spec_l20Rd_bytes.calls k g s0_0 t214 (wrap64 (2 + t213)) t215 t218 w0 _ ?side1 ?side2 A4.out).mono ?_); (case side1 => exact is102_ HI0.out); (case side2 => exact hb102_ HB.out); rintro e w13 ⟨v216, rfl, ho0, hi, hb, hk⟩; refine ⟨_, rfl, ?_⟩; replace BK199 := (bkA_ BK199 hk NB199_0); replace BK212 := (bkA_ BK212 hk NB212_0); have HO217 := Aside0.mk (Kd.R_lower (Kd.R_new' ho0 (Kd.R_lt (kR_ HO210.out))) (keep_size (w := w) (g := g) (row := none) (hkA_ HK.out))); replace HO210 := Aside0.mk (Kd.R_mono (Kd.R_told (Kd.R_oldK (IsS102.apart (show IsS102 w0 _ g s0_0 t214 from is102_ HI0.out) (kR_ HO210.out) (by decide)) hk) (Kd.R_base ho0)) (fun _ h_ => op1_ h_)); replace HK := (kk_ HK hk); replace HB := Aside0.mk (hb); replace HI0 := Aside0.mk (hi); (try clear hb); (try clear hb2); (try clear hk); (try clear hi); (try clear ho0); obtain ⟨Ao14, co14, eo14⟩ := Kd.R_slice HO217.out; subst eo14; have Z15 := zz9 BK212; have hnb16 := NB199_0.out; have hnc16 := NB0_199.out; have Z17 := zz9 BK199))
 refine bodyPost_ret (results_cell_row rfl _ _ gb199 28 #[.int .i64 t200, .int .i64 t201, .int .i64 t202, .int .i64 t203, .int .i64 t204, .int .i64 0, .bool false, .bool false, .slice Ao14 t215.length co14] (0, 0) _ rfl (by refine kb_ ?_; refine pz9 (cs := #[.int .i64 0, .int .i64 0, .int .i64 0, .int .i64 0, .int .i64 0, .int .i64 0, .bool false, .bool false, .slice none 0 0]) ?_; exact kf_ BK199.out) Try.underlying28 rfl (by kernel_rfl)) rfl ?_
 exact ⟨_, by first | rfl | (simp [errW_none, errW_some] <;> rfl) | (simp [*, errW_none, errW_some] <;> rfl), by refine kR_ ?_; exact rfm_ ((Kd.R_far (p := ⟨gb212, 8, none⟩) (Kd.R_types (Kd.R_types HO217.out BK212.out (by decide)) BK199.out (by decide)) (fun _ hk => hk.1.2) (.slice Ao14 t215.length co14))) (fun _ hk => trivial), is102_ HI0.out, hb102_ HB.out, hkA_ HK.out⟩
end Go.Proofs.Ytpbeljcgcdilnaa.PFnPartWhole
