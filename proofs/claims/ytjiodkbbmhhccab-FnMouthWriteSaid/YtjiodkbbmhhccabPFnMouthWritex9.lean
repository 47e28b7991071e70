/- Printed by wip/xp/xprint.sh out of the translation, for this claim: what each function answers, as a plain function, and that the machine does just that. No condition. -/
import Derived.Test.YtjiodkbbmhhccabPFnMouthWritex0
import Derived.Test.YtjiodkbbmhhccabPFnMouthWritex1
import Derived.Test.YtjiodkbbmhhccabPFnMouthWritex2
import Derived.Test.YtjiodkbbmhhccabPFnMouthWritex6
import Derived.Test.YtjiodkbbmhhccabPFnMouthWritex8
namespace Go.Proofs.Ytjiodkbbmhhccab.PFnMouthWrite
open Go.RowKit Go.Proofs.YtjiodkbbmhhccabW.PrintWords Go.Proofs.YtjiodkbbmhhccabW.PrintLast Go.Proofs.YtjiodkbbmhhccabW.PrintMore
attribute [local go_sem] max2_int min2_int max_two min_two max_three min_three max_four min_four   -- for this text's walks alone
set_option linter.unusedVariables false
set_option linter.unusedSimpArgs false

attribute [local go_sem high] eqA60
/-! ### spec_l20Rd_bytes: function 29 -/
def spec_l20Rd_bytes.l0 : Nat → Int → List Int → List Int → Int → Option (List Int × Int)
  | 0, _, _, _, _ => none
  | k + 1, x1, x5, x1000, x1001 => if x1 > 0 then ((spec_l20Rd_pick.f k x1000 x1001 3).bind fun bt298 => (if bt298.1 = 0 then ((spec_l20Rd_pick.f k x1000 bt298.2 256).bind fun bt300 => (if x5.length < 140737488355328 then (spec_l20Rd_bytes.l0 k (wrap64 (x1 - 1)) (x5 ++ [(bt300.1) % 256]) x1000 bt300.2) else (none))) else ((spec_l20Rd_pick.f k x1000 bt298.2 3).bind fun bt305 => (if x5.length < 140737488355328 then (spec_l20Rd_bytes.l0 k (wrap64 (x1 - 1)) (x5 ++ [(wrap64 (bt305.1 + 97)) % 256]) x1000 bt305.2) else (none))))) else (some (x5, x1001))
def spec_l20Rd_bytes.f (k : Nat) (s0_0 : List Int) (s0_1 : Int) (a1 : Int) : Option (List Int × Int) := spec_l20Rd_bytes.l0 k a1 (([] : List Int)) s0_0 s0_1
theorem spec_l20Rd_bytes.mono_l : ∀ k, (∀ y0 y1 y2 y3, LeO (spec_l20Rd_bytes.l0 k y0 y1 y2 y3) (spec_l20Rd_bytes.l0 (k + 1) y0 y1 y2 y3))
  | 0 => fun _ _ _ _ r h => by simp [spec_l20Rd_bytes.l0] at h
  | k + 1 => by
    have ih0 := spec_l20Rd_bytes.mono_l k
    · intro y0 y1 y2 y3
      unfold spec_l20Rd_bytes.l0
      repeat' first
      | (with_reducible exact ih0 _ _ _ _)
      | (with_reducible exact spec_l20Rd_pick.mono _ _ _ _)
      | (with_reducible exact LeO.refl _)
      | (with_reducible exact LeO.none _)
      | (with_reducible refine LeO.ite ?_ ?_)
      | (with_reducible refine LeO.bind ?_ (fun _ => ?_))
      | exact ih0 _ _ _ _
      | exact spec_l20Rd_pick.mono _ _ _ _
      | exact LeO.none _
      | refine LeO.ite ?_ ?_
      | refine LeO.bind ?_ (fun _ => ?_)
theorem spec_l20Rd_bytes.mono : ∀ a0 a1 a2 k, LeO (spec_l20Rd_bytes.f k a0 a1 a2) (spec_l20Rd_bytes.f (k + 1) a0 a1 a2) := by
  intro a0 a1 a2 k
  have ih0 := spec_l20Rd_bytes.mono_l k
  unfold spec_l20Rd_bytes.f
  repeat' first
      | (with_reducible exact ih0 _ _ _ _)
      | (with_reducible exact spec_l20Rd_pick.mono _ _ _ _)
      | (with_reducible exact LeO.refl _)
      | (with_reducible exact LeO.none _)
      | (with_reducible refine LeO.ite ?_ ?_)
      | (with_reducible refine LeO.bind ?_ (fun _ => ?_))
      | exact ih0 _ _ _ _
      | exact spec_l20Rd_pick.mono _ _ _ _
      | exact LeO.none _
      | refine LeO.ite ?_ ?_
      | refine LeO.bind ?_ (fun _ => ?_)
set_option maxHeartbeats 8000000 in
set_option maxRecDepth 100000 in
theorem spec_l20Rd_bytes.calls (k : Nat) (g : Nat) (s0_0 : List Int) (s0_1 : Int) (a1 : Int) (r1 : List Int) (r2 : Int) (w0 w : World) (hI : IsS67 w0 w g s0_0 s0_1) (hB : Below w0.heap.size w0 w) (h : spec_l20Rd_bytes.f k s0_0 s0_1 a1 = some (r1, r2)) :
    Calls Try.prog 29 #[.pointer (some ⟨g, 0, none⟩), .int .i64 a1] w fun e w' => ∃ v0_ : Value, e = .returned (v0_) ∧ Kd.R (Kd.int .u8) 5 w' w.heap.size (fun _ => True) v0_ r1 ∧ IsS67 w0 w' g s0_0 r2 ∧ Below w0.heap.size w0 w' ∧ KeepBut w w' g none := by
  have HI0 := Aside0.mk hI
  have HK := Aside0.mk (KeepBut.refl w g none)
  have HL := Aside0.mk hB.size
  clear hI
  have HW0 := Aside0.mk hB.size
  have HB := Aside0.mk hB
  clear hB
  have H : (spec_l20Rd_bytes.l0 k a1 (([] : List Int)) s0_0 s0_1) = some (r1, r2) := h
  clear h
  obtain ⟨y295, hy295⟩ : ∃ y_ : List Int, y_ = (([] : List Int)) := ⟨_, rfl⟩
  replace H : (spec_l20Rd_bytes.l0 k a1 y295 s0_0 s0_1) = some (r1, r2) := by first | (rw [hy295]; with_reducible exact H) | (have H2_ := (Option.bind_some _ _).symm.trans H; rw [hy295]; with_reducible exact H2_) | (have H2_ := (Option.bind_some _ _).symm.trans H; with_reducible exact H2_) | with_reducible exact H | (rw [hy295]; exact H) | exact H
  have Ny295 := Aside0.mk hy295
  clear hy295
  have H' := Aside0.mk H
  clear H
  go_enter Try.func29, Try.ntmps29
  go_wp2_with (first | ((with_reducible refine gate_dst (N := 6) rfl ?_); refine Kd.R_lit (Kd.int .u8) _ 5 ?hg (N := 6) ?hd (xs := ([] : List Int)) (inner := []) (ok := fun _ => True) (okp := fun _ => True) ?hr ?hp (fun _ hk => hk) trivial (Below.refl _ _) (Nat.le_refl _) (by simp) ?_; (case hd => rfl); (case hg => rfl); (case hr => first | (go_simp; done) | (go_simp; rfl)); (case hp => exact (Reps.none _ _)); intro v296 w3 ho4 hb hg_ hnew_; clear hg_ hnew_; (first | rw [← Ny295.out] at ho4 | (simp only [Int.reduceToNat] at ho4; rw [← Ny295.out] at ho4)); have n0_ := Aside0.mk (Kd.R_lower ho4 (keep_size (w := w) (g := g) (row := none) (by repeat (first | (with_reducible first | exact HK.out | apply KeepBut.set_ | apply keep_drewN | apply keep_drew | apply keep_alloc) | exact HK.out)))); have n1_ := Aside0.mk (IsS67.below (by repeat (first | (with_reducible first | exact HI0.out | apply IsS67.alloc | apply IsS67.drewN | apply IsS67.drew | apply IsS67.set_1) | exact HI0.out)) hb); have n2_ := Aside0.mk (KeepBut.trans (by repeat (first | (with_reducible first | exact HK.out | apply KeepBut.set_ | apply keep_drewN | apply keep_drew | apply keep_alloc) | exact HK.out)) (KeepBut.of_below hb g none) (.inl rfl)); have n3_ := Aside0.mk (below_step (by repeat (first | (with_reducible first | exact HB.out | apply below_alloc | apply pw_below_drewN | apply below_drew1 | refine below_set ?_ (IsS67.ge HI0.out)) | exact HB.out)) hb); clear HI0; clear HK; clear HB; have HO297 := n0_; have HI0 := n1_; have HK := n2_; have HB := n3_; clear n0_ n1_ n2_ n3_; clear hb ho4))
  go_loopg [1, 5] k (fun kq v1 v5 w' => ∃ (x1_1 : Int) (x5_1 : List Int) (x1001_1 : Int), v1 = .int .i64 x1_1 ∧ Aside0 (spec_l20Rd_bytes.l0 kq x1_1 x5_1 s0_0 x1001_1 = some (r1, r2)) ∧ Aside0 (kq ≤ k) ∧ Aside0 (Kd.R (Kd.int .u8) 5 w' w.heap.size (fun _ => True) v5 x5_1) ∧ Aside0 (IsS67 w0 w' g s0_0 x1001_1) ∧ Aside0 (KeepBut w w' g none) ∧ Aside0 (Below w0.heap.size w0 w'))
  case atStart => exact ⟨(a1), (y295), (s0_1), (by first | rfl | (simp; done) | (simp [*]; done)), H', ⟨Nat.le_refl _⟩, ⟨kR_ HO297.out⟩, ⟨by repeat (first | (with_reducible first | exact HI0.out | apply IsS67.alloc | apply IsS67.drewN | apply IsS67.drew | apply IsS67.set_1) | exact HI0.out)⟩, ⟨by repeat (first | (with_reducible first | exact HK.out | apply KeepBut.set_ | apply keep_drewN | apply keep_drew | apply keep_alloc) | exact HK.out)⟩, ⟨by repeat (first | (with_reducible first | exact HB.out | apply below_alloc | apply pw_below_drewN | apply below_drew1 | refine below_set ?_ (IsS67.ge HI0.out)) | exact HB.out)⟩⟩
  case round =>
    clear H'
    try clear c2
    try clear p2
    obtain ⟨x1_1, x5_1, x1001_1, rfl, HA, HK1, HO_5, HI0, HK, HB⟩ := hrel
    cases gk with
    | zero => exact absurd HA.out (by simp [spec_l20Rd_bytes.l0])
    | succ k1 =>
      have H := HA.out
      clear HA
      simp only [spec_l20Rd_bytes.l0] at H
      by_cases c5 : x1_1 > 0
      · rw [if_pos c5] at H
        have c5b0 : decide (0 < x1_1) = true := decide_eq_true c5
        clear c5
        replace H := Option.bind_eq_some_iff.mp H
        obtain ⟨⟨t298, t299⟩, A60, H⟩ := H
        replace H : (if t298 = 0 then ((spec_l20Rd_pick.f k1 s0_0 t299 256).bind fun bt300 => (if x5_1.length < 140737488355328 then (spec_l20Rd_bytes.l0 k1 (wrap64 (x1_1 - 1)) (x5_1 ++ [(bt300.1) % 256]) s0_0 bt300.2) else (none))) else ((spec_l20Rd_pick.f k1 s0_0 t299 3).bind fun bt305 => (if x5_1.length < 140737488355328 then (spec_l20Rd_bytes.l0 k1 (wrap64 (x1_1 - 1)) (x5_1 ++ [(wrap64 (bt305.1 + 97)) % 256]) s0_0 bt305.2) else (none)))) = some (r1, r2) := H
        have A6 := Aside0.mk A60
        clear A60
        by_cases c7 : t298 = 0
        · rw [if_pos c7] at H
          have c7b0 : (t298 == 0) = true := beq_iff_eq.mpr c7
          have c7b1 : (t298 != 0) = false := bne_eq_false_iff_eq.mpr c7
          clear c7
          replace H := Option.bind_eq_some_iff.mp H
          obtain ⟨⟨t300, t301⟩, A80, H⟩ := H
          replace H : (if x5_1.length < 140737488355328 then (spec_l20Rd_bytes.l0 k1 (wrap64 (x1_1 - 1)) (x5_1 ++ [(t300) % 256]) s0_0 t301) else (none)) = some (r1, r2) := H
          have A8 := Aside0.mk A80
          clear A80
          by_cases c9 : x5_1.length < 140737488355328
          · rw [if_pos c9] at H
            have LMc9 := Aside0.mk c9
            clear c9
            obtain ⟨y302, hy302⟩ : ∃ y_ : List Int, y_ = (x5_1 ++ [(t300) % 256]) := ⟨_, rfl⟩
            replace H : (spec_l20Rd_bytes.l0 k1 (wrap64 (x1_1 - 1)) y302 s0_0 t301) = some (r1, r2) := by first | (rw [hy302]; with_reducible exact H) | (have H2_ := (Option.bind_some _ _).symm.trans H; rw [hy302]; with_reducible exact H2_) | (have H2_ := (Option.bind_some _ _).symm.trans H; with_reducible exact H2_) | with_reducible exact H | (rw [hy302]; exact H) | exact H
            have Ny302 := Aside0.mk hy302
            clear hy302
            have H' := Aside0.mk H
            clear H
            go_wp2_with (first | ((with_reducible refine gate_callee (f := 30) rfl ?_); refine goesL_ (some 12) rfl rfl Try.func30 (by kernel_rfl) rfl #[.pointer (some ⟨g, 0, none⟩), .int .i64 3] rfl ar_ ?_; (with_reducible refine (spec_l20Rd_pick.calls k1 g s0_0 x1001_1 3 t298 t299 w0 _ ?side1 ?side2 A6.out).mono ?_); (case side1 => repeat (first | (with_reducible first | exact HI0.out | apply IsS67.alloc | apply IsS67.drewN | apply IsS67.drew | apply IsS67.set_1) | exact HI0.out)); (case side2 => repeat (first | (with_reducible first | exact HB.out | apply below_alloc | apply pw_below_drewN | apply below_drew1 | refine below_set ?_ (IsS67.ge HI0.out)) | exact HB.out)); rintro e w10 ⟨rfl, hi, hb, hk⟩; refine ⟨_, rfl, ?_⟩; have n0_ := Aside0.mk (Kd.R_mono (Kd.R_keep (IsS67.apart (show IsS67 w0 _ g s0_0 x1001_1 from by repeat (first | (with_reducible first | exact HI0.out | apply IsS67.alloc | apply IsS67.drewN | apply IsS67.drew | apply IsS67.set_1) | exact HI0.out)) (kR_ HO_5.out) (by decide)) hk (fun _ h => h.2)) (fun _ h => h.1)); have n1_ := Aside0.mk (KeepBut.trans (by repeat (first | (with_reducible first | exact HK.out | apply KeepBut.set_ | apply keep_drewN | apply keep_drew | apply keep_alloc) | exact HK.out)) hk (.inl rfl)); have n2_ := Aside0.mk (hb); have n3_ := Aside0.mk (hi); clear HO_5; clear HK; clear HB; clear HI0; have HO_5 := n0_; have HK := n1_; have HB := n2_; have HI0 := n3_; clear n0_ n1_ n2_ n3_; (try clear hb); (try clear hb2); (try clear hk); (try clear hi)) | ((with_reducible refine gate_callee (f := 30) rfl ?_); refine goesL_ (some 16) rfl rfl Try.func30 (by kernel_rfl) rfl #[.pointer (some ⟨g, 0, none⟩), .int .i64 256] rfl ar_ ?_; (with_reducible refine (spec_l20Rd_pick.calls k1 g s0_0 t299 256 t300 t301 w0 _ ?side1 ?side2 A8.out).mono ?_); (case side1 => repeat (first | (with_reducible first | exact HI0.out | apply IsS67.alloc | apply IsS67.drewN | apply IsS67.drew | apply IsS67.set_1) | exact HI0.out)); (case side2 => repeat (first | (with_reducible first | exact HB.out | apply below_alloc | apply pw_below_drewN | apply below_drew1 | refine below_set ?_ (IsS67.ge HI0.out)) | exact HB.out)); rintro e w11 ⟨rfl, hi, hb, hk⟩; refine ⟨_, rfl, ?_⟩; have n0_ := Aside0.mk (Kd.R_mono (Kd.R_keep (IsS67.apart (show IsS67 w0 _ g s0_0 t299 from by repeat (first | (with_reducible first | exact HI0.out | apply IsS67.alloc | apply IsS67.drewN | apply IsS67.drew | apply IsS67.set_1) | exact HI0.out)) (kR_ HO_5.out) (by decide)) hk (fun _ h => h.2)) (fun _ h => h.1)); have n1_ := Aside0.mk (KeepBut.trans (by repeat (first | (with_reducible first | exact HK.out | apply KeepBut.set_ | apply keep_drewN | apply keep_drew | apply keep_alloc) | exact HK.out)) hk (.inl rfl)); have n2_ := Aside0.mk (hb); have n3_ := Aside0.mk (hi); clear HO_5; clear HK; clear HB; clear HI0; have HO_5 := n0_; have HK := n1_; have HB := n2_; have HI0 := n3_; clear n0_ n1_ n2_ n3_; (try clear hb); (try clear hb2); (try clear hk); (try clear hi)) | ((with_reducible refine gate_builtin (b := .append) (xs := #[.tmp 14, .tmp 18]) rfl ?_); at_builtin; refine Kd.R_append (Kd.int .u8) w.heap.size rfl (.tmp 14) (.tmp 18) 22 5 (.int .u8 0) 1 rfl Try.underlying22 info5 rfl (by decide) (by omega) u5 x5_1 ((t300) % 256) [.int .u8 ((t300) % 256)] (fun _ => True) (fun _ => False) rfl rfl ?aP (fun _ hk => hk.elim) ?aF ?aO (Below.refl _ _) ?aS ?aL ?_; (case aP => exact rfl); (case aF => exact (fun _ _ => trivial)); (case aO => exact (kR_ HO_5.out)); (case aS => exact (keep_size (w := w) (g := g) (row := none) (by repeat (first | (with_reducible first | exact HK.out | apply KeepBut.set_ | apply keep_drewN | apply keep_drew | apply keep_alloc) | exact HK.out)))); (case aL => have := LMc9.out; omega); intro v303 w12 ho hb hg hat; rw [← Ny302.out] at ho; have n0_ := Aside0.mk (IsS67.grown (by repeat (first | (with_reducible first | exact HI0.out | apply IsS67.alloc | apply IsS67.drewN | apply IsS67.drew | apply IsS67.set_1) | exact HI0.out)) hg (IsS67.own_ne HI0.out HO_5.out (by decide))); have n1_ := Aside0.mk (below_weaken (by repeat (first | (with_reducible first | exact HB.out | apply below_alloc | apply pw_below_drewN | apply below_drew1 | refine below_set ?_ (IsS67.ge HI0.out)) | exact HB.out)) HL.out hb); have n2_ := Aside0.mk (KeepBut.trans (by repeat (first | (with_reducible first | exact HK.out | apply KeepBut.set_ | apply keep_drewN | apply keep_drew | apply keep_alloc) | exact HK.out)) (KeepBut.of_grown hg g) (Kd.R_base2 HO_5.out)); have n3_ := Aside0.mk (ho); clear HI0; clear HB; clear HK; clear HO_5; have HI0 := n0_; have HB := n1_; have HK := n2_; have HO304 := n3_; clear n0_ n1_ n2_ n3_; clear ho hb hg hat))
            go_roundg k1
            case measure => have := HK1.out; omega
            case rel => exact ⟨(wrap64 (x1_1 - 1)), (y302), (t301), (by first | rfl | (simp; done) | (simp [*]; done)), H', ⟨by have := HK1.out; omega⟩, ⟨kR_ HO304.out⟩, ⟨by repeat (first | (with_reducible first | exact HI0.out | apply IsS67.alloc | apply IsS67.drewN | apply IsS67.drew | apply IsS67.set_1) | exact HI0.out)⟩, ⟨by repeat (first | (with_reducible first | exact HK.out | apply KeepBut.set_ | apply keep_drewN | apply keep_drew | apply keep_alloc) | exact HK.out)⟩, ⟨by repeat (first | (with_reducible first | exact HB.out | apply below_alloc | apply pw_below_drewN | apply below_drew1 | refine below_set ?_ (IsS67.ge HI0.out)) | exact HB.out)⟩⟩
          · rw [if_neg c9] at H
            exact absurd H (by simp)
        · rw [if_neg c7] at H
          have c7b0 : (t298 == 0) = false := beq_eq_false_iff_ne.mpr c7
          have c7b1 : (t298 != 0) = true := bne_iff_ne.mpr c7
          replace H := Option.bind_eq_some_iff.mp H
          obtain ⟨⟨t305, t306⟩, A130, H⟩ := H
          replace H : (if x5_1.length < 140737488355328 then (spec_l20Rd_bytes.l0 k1 (wrap64 (x1_1 - 1)) (x5_1 ++ [(wrap64 (t305 + 97)) % 256]) s0_0 t306) else (none)) = some (r1, r2) := H
          have A13 := Aside0.mk A130
          clear A130
          by_cases c14 : x5_1.length < 140737488355328
          · rw [if_pos c14] at H
            have LMc14 := Aside0.mk c14
            clear c14
            obtain ⟨y307, hy307⟩ : ∃ y_ : List Int, y_ = (x5_1 ++ [(wrap64 (t305 + 97)) % 256]) := ⟨_, rfl⟩
            replace H : (spec_l20Rd_bytes.l0 k1 (wrap64 (x1_1 - 1)) y307 s0_0 t306) = some (r1, r2) := by first | (rw [hy307]; with_reducible exact H) | (have H2_ := (Option.bind_some _ _).symm.trans H; rw [hy307]; with_reducible exact H2_) | (have H2_ := (Option.bind_some _ _).symm.trans H; with_reducible exact H2_) | with_reducible exact H | (rw [hy307]; exact H) | exact H
            have Ny307 := Aside0.mk hy307
            clear hy307
            have H' := Aside0.mk H
            clear H
            go_wp2_with (first | ((with_reducible refine gate_callee (f := 30) rfl ?_); refine goesL_ (some 12) rfl rfl Try.func30 (by kernel_rfl) rfl #[.pointer (some ⟨g, 0, none⟩), .int .i64 3] rfl ar_ ?_; (with_reducible refine (spec_l20Rd_pick.calls k1 g s0_0 x1001_1 3 t298 t299 w0 _ ?side1 ?side2 A6.out).mono ?_); (case side1 => repeat (first | (with_reducible first | exact HI0.out | apply IsS67.alloc | apply IsS67.drewN | apply IsS67.drew | apply IsS67.set_1) | exact HI0.out)); (case side2 => repeat (first | (with_reducible first | exact HB.out | apply below_alloc | apply pw_below_drewN | apply below_drew1 | refine below_set ?_ (IsS67.ge HI0.out)) | exact HB.out)); rintro e w15 ⟨rfl, hi, hb, hk⟩; refine ⟨_, rfl, ?_⟩; have n0_ := Aside0.mk (Kd.R_mono (Kd.R_keep (IsS67.apart (show IsS67 w0 _ g s0_0 x1001_1 from by repeat (first | (with_reducible first | exact HI0.out | apply IsS67.alloc | apply IsS67.drewN | apply IsS67.drew | apply IsS67.set_1) | exact HI0.out)) (kR_ HO_5.out) (by decide)) hk (fun _ h => h.2)) (fun _ h => h.1)); have n1_ := Aside0.mk (KeepBut.trans (by repeat (first | (with_reducible first | exact HK.out | apply KeepBut.set_ | apply keep_drewN | apply keep_drew | apply keep_alloc) | exact HK.out)) hk (.inl rfl)); have n2_ := Aside0.mk (hb); have n3_ := Aside0.mk (hi); clear HO_5; clear HK; clear HB; clear HI0; have HO_5 := n0_; have HK := n1_; have HB := n2_; have HI0 := n3_; clear n0_ n1_ n2_ n3_; (try clear hb); (try clear hb2); (try clear hk); (try clear hi)) | ((with_reducible refine gate_callee (f := 30) rfl ?_); refine goesL_ (some 22) rfl rfl Try.func30 (by kernel_rfl) rfl #[.pointer (some ⟨g, 0, none⟩), .int .i64 3] rfl ar_ ?_; (with_reducible refine (spec_l20Rd_pick.calls k1 g s0_0 t299 3 t305 t306 w0 _ ?side1 ?side2 A13.out).mono ?_); (case side1 => repeat (first | (with_reducible first | exact HI0.out | apply IsS67.alloc | apply IsS67.drewN | apply IsS67.drew | apply IsS67.set_1) | exact HI0.out)); (case side2 => repeat (first | (with_reducible first | exact HB.out | apply below_alloc | apply pw_below_drewN | apply below_drew1 | refine below_set ?_ (IsS67.ge HI0.out)) | exact HB.out)); rintro e w16 ⟨rfl, hi, hb, hk⟩; refine ⟨_, rfl, ?_⟩; have n0_ := Aside0.mk (Kd.R_mono (Kd.R_keep (IsS67.apart (show IsS67 w0 _ g s0_0 t299 from by repeat (first | (with_reducible first | exact HI0.out | apply IsS67.alloc | apply IsS67.drewN | apply IsS67.drew | apply IsS67.set_1) | exact HI0.out)) (kR_ HO_5.out) (by decide)) hk (fun _ h => h.2)) (fun _ h => h.1)); have n1_ := Aside0.mk (KeepBut.trans (by repeat (first | (with_reducible first | exact HK.out | apply KeepBut.set_ | apply keep_drewN | apply keep_drew | apply keep_alloc) | exact HK.out)) hk (.inl rfl)); have n2_ := Aside0.mk (hb); have n3_ := Aside0.mk (hi); clear HO_5; clear HK; clear HB; clear HI0; have HO_5 := n0_; have HK := n1_; have HB := n2_; have HI0 := n3_; clear n0_ n1_ n2_ n3_; (try clear hb); (try clear hb2); (try clear hk); (try clear hi)) | ((with_reducible refine gate_builtin (b := .append) (xs := #[.tmp 20, .tmp 25]) rfl ?_); at_builtin; refine Kd.R_append (Kd.int .u8) w.heap.size rfl (.tmp 20) (.tmp 25) 22 5 (.int .u8 0) 1 rfl Try.underlying22 info5 rfl (by decide) (by omega) u5 x5_1 ((wrap64 (t305 + 97)) % 256) [.int .u8 ((wrap64 (t305 + 97)) % 256)] (fun _ => True) (fun _ => False) rfl rfl ?aP (fun _ hk => hk.elim) ?aF ?aO (Below.refl _ _) ?aS ?aL ?_; (case aP => exact rfl); (case aF => exact (fun _ _ => trivial)); (case aO => exact (kR_ HO_5.out)); (case aS => exact (keep_size (w := w) (g := g) (row := none) (by repeat (first | (with_reducible first | exact HK.out | apply KeepBut.set_ | apply keep_drewN | apply keep_drew | apply keep_alloc) | exact HK.out)))); (case aL => have := LMc14.out; omega); intro v308 w17 ho hb hg hat; rw [← Ny307.out] at ho; have n0_ := Aside0.mk (IsS67.grown (by repeat (first | (with_reducible first | exact HI0.out | apply IsS67.alloc | apply IsS67.drewN | apply IsS67.drew | apply IsS67.set_1) | exact HI0.out)) hg (IsS67.own_ne HI0.out HO_5.out (by decide))); have n1_ := Aside0.mk (below_weaken (by repeat (first | (with_reducible first | exact HB.out | apply below_alloc | apply pw_below_drewN | apply below_drew1 | refine below_set ?_ (IsS67.ge HI0.out)) | exact HB.out)) HL.out hb); have n2_ := Aside0.mk (KeepBut.trans (by repeat (first | (with_reducible first | exact HK.out | apply KeepBut.set_ | apply keep_drewN | apply keep_drew | apply keep_alloc) | exact HK.out)) (KeepBut.of_grown hg g) (Kd.R_base2 HO_5.out)); have n3_ := Aside0.mk (ho); clear HI0; clear HB; clear HK; clear HO_5; have HI0 := n0_; have HB := n1_; have HK := n2_; have HO309 := n3_; clear n0_ n1_ n2_ n3_; clear ho hb hg hat))
            go_roundg k1
            case measure => have := HK1.out; omega
            case rel => exact ⟨(wrap64 (x1_1 - 1)), (y307), (t306), (by first | rfl | (simp; done) | (simp [*]; done)), H', ⟨by have := HK1.out; omega⟩, ⟨kR_ HO309.out⟩, ⟨by repeat (first | (with_reducible first | exact HI0.out | apply IsS67.alloc | apply IsS67.drewN | apply IsS67.drew | apply IsS67.set_1) | exact HI0.out)⟩, ⟨by repeat (first | (with_reducible first | exact HK.out | apply KeepBut.set_ | apply keep_drewN | apply keep_drew | apply keep_alloc) | exact HK.out)⟩, ⟨by repeat (first | (with_reducible first | exact HB.out | apply below_alloc | apply pw_below_drewN | apply below_drew1 | refine below_set ?_ (IsS67.ge HI0.out)) | exact HB.out)⟩⟩
          · rw [if_neg c14] at H
            exact absurd H (by simp)
      · rw [if_neg c5] at H
        have c5b0 : decide (0 < x1_1) = false := decide_eq_false c5
        clear c5
        simp only [Option.some.injEq, Prod.mk.injEq] at H
        obtain ⟨rfl, rfl⟩ := H
        go_wp2
        go_ret
        exact ⟨_, by first | rfl | (simp [errW_none, errW_some] <;> rfl) | (simp [*, errW_none, errW_some] <;> rfl), kR_ HO_5.out, by repeat (first | (with_reducible first | exact HI0.out | apply IsS67.alloc | apply IsS67.drewN | apply IsS67.drew | apply IsS67.set_1) | exact HI0.out), by repeat (first | (with_reducible first | exact HB.out | apply below_alloc | apply pw_below_drewN | apply below_drew1 | refine below_set ?_ (IsS67.ge HI0.out)) | exact HB.out), by repeat (first | (with_reducible first | exact HK.out | apply KeepBut.set_ | apply keep_drewN | apply keep_drew | apply keep_alloc) | exact HK.out)⟩

/-! ### spec_DrawMouthWrite: function 6 -/
def spec_DrawMouthWrite.f (k : Nat) (l0 : List Int) : Option (Int × List Int × Int × Int × (List (S60)) × List Int) := (spec_l20Open.f l0).bind fun bt311 => ((spec_l20Mouth.f k bt311.1 bt311.2 15).bind fun bt314 => ((spec_l20Rd_pick.f k bt311.1 bt314.2.2.2.2.2 40).bind fun bt324 => ((spec_l20Rd_bytes.f k bt311.1 bt324.2 bt324.1).bind fun bt326 => (some (bt314.1, bt314.2.1, bt314.2.2.1, bt314.2.2.2.1, bt314.2.2.2.2.1, bt326.1)))))
theorem spec_DrawMouthWrite.mono : ∀ a0 k, LeO (spec_DrawMouthWrite.f k a0) (spec_DrawMouthWrite.f (k + 1) a0) := by
  intro a0 k
  unfold spec_DrawMouthWrite.f
  repeat' first
      | (with_reducible exact spec_l20Mouth.mono _ _ _ _)
      | (with_reducible exact spec_l20Rd_bytes.mono _ _ _ _)
      | (with_reducible exact spec_l20Rd_pick.mono _ _ _ _)
      | (with_reducible exact LeO.refl _)
      | (with_reducible exact LeO.none _)
      | (with_reducible refine LeO.ite ?_ ?_)
      | (with_reducible refine LeO.bind ?_ (fun _ => ?_))
      | exact spec_l20Mouth.mono _ _ _ _
      | exact spec_l20Rd_bytes.mono _ _ _ _
      | exact spec_l20Rd_pick.mono _ _ _ _
      | exact LeO.none _
      | refine LeO.ite ?_ ?_
      | refine LeO.bind ?_ (fun _ => ?_)
set_option maxHeartbeats 8000000 in
set_option maxRecDepth 100000 in
theorem spec_DrawMouthWrite.calls (k : Nat) (A0 : Option Addr) (c0 : Nat) (l0 : List Int) (r1 : Int) (r2 : List Int) (r3 : Int) (r4 : Int) (r5 : List (S60)) (r6 : List Int) (w : World) (hr0 : Kd.C (Kd.int .u8) w A0 l0.length l0) (hc0 : l0.length ≤ c0) (h : spec_DrawMouthWrite.f k l0 = some (r1, r2, r3, r4, r5, r6)) :
    Calls Try.prog 6 #[.slice A0 l0.length c0] w fun e w' => ∃ v1_ v4_ v5_ : Value, e = .returned (.tuple #[.agg #[.int .i64 r1, v1_, .int .i64 r3, .int .i64 r4, v4_], v5_]) ∧ Kd.R (Kd.int .u8) 5 w' w.heap.size (fun k_ => some k_ ≠ (v5_ : Value).ownBlock) v1_ r2 ∧ Kd.R k60 60 w' w.heap.size (fun _ => True) v4_ r5 ∧ Kd.R (Kd.int .u8) 5 w' w.heap.size (fun k_ => some k_ ≠ (v1_ : Value).ownBlock) v5_ r6 ∧ Below w.heap.size w w' := by
  have hu25 := Try.underlying25
  have HR0 := Aside0.mk hr0
  have HC0 := Aside0.mk hc0
  clear hr0 hc0
  have HB := Aside0.mk (Below.refl w.heap.size w)
  have H : ((spec_l20Open.f l0).bind fun bt311 => ((spec_l20Mouth.f k bt311.1 bt311.2 15).bind fun bt314 => ((spec_l20Rd_pick.f k bt311.1 bt314.2.2.2.2.2 40).bind fun bt324 => ((spec_l20Rd_bytes.f k bt311.1 bt324.2 bt324.1).bind fun bt326 => (some (bt314.1, bt314.2.1, bt314.2.2.1, bt314.2.2.2.1, bt314.2.2.2.2.1, bt326.1)))))) = some (r1, r2, r3, r4, r5, r6) := h
  clear h
  replace H := Option.bind_eq_some_iff.mp H
  obtain ⟨⟨t311, t312⟩, A20, H⟩ := H
  replace H : ((spec_l20Mouth.f k t311 t312 15).bind fun bt314 => ((spec_l20Rd_pick.f k t311 bt314.2.2.2.2.2 40).bind fun bt324 => ((spec_l20Rd_bytes.f k t311 bt324.2 bt324.1).bind fun bt326 => (some (bt314.1, bt314.2.1, bt314.2.2.1, bt314.2.2.2.1, bt314.2.2.2.2.1, bt326.1))))) = some (r1, r2, r3, r4, r5, r6) := H
  have A2 := Aside0.mk A20
  clear A20
  replace H := Option.bind_eq_some_iff.mp H
  obtain ⟨⟨t314, t315, t318, t319, t320, t323⟩, A30, H⟩ := H
  replace H : ((spec_l20Rd_pick.f k t311 t323 40).bind fun bt324 => ((spec_l20Rd_bytes.f k t311 bt324.2 bt324.1).bind fun bt326 => (some (t314, t315, t318, t319, t320, bt326.1)))) = some (r1, r2, r3, r4, r5, r6) := H
  have A3 := Aside0.mk A30
  clear A30
  replace H := Option.bind_eq_some_iff.mp H
  obtain ⟨⟨t324, t325⟩, A40, H⟩ := H
  replace H : ((spec_l20Rd_bytes.f k t311 t325 t324).bind fun bt326 => (some (t314, t315, t318, t319, t320, bt326.1))) = some (r1, r2, r3, r4, r5, r6) := H
  have A4 := Aside0.mk A40
  clear A40
  replace H := Option.bind_eq_some_iff.mp H
  obtain ⟨⟨t326, t329⟩, A50, H⟩ := H
  replace H : (some (t314, t315, t318, t319, t320, t326)) = some (r1, r2, r3, r4, r5, r6) := H
  have A5 := Aside0.mk A50
  clear A50
  simp only [Option.some.injEq, Prod.mk.injEq] at H
  obtain ⟨rfl, rfl, rfl, rfl, rfl, rfl⟩ := H
  go_enter Try.func6, Try.ntmps6
  go_wp2_with (first | ((with_reducible refine gate_dst (N := 2) rfl ?_); refine box_event ?hg (N := 2) ?hd (cs := #[.int .i64 0, .slice none 0 0, .int .i64 0, .int .i64 0, .slice none 0 0]) (t := 25) ?hr ?_; (case hd => rfl); (case hg => rfl); (case hr => first | (go_simp; done) | (go_simp; rfl)); intro gb310 hg w6 hbox hb; have n0_ := Aside0.mk (below_step (hb0_ HB.out) hb); have n1_ := Aside0.mk (hbox); have n2_ := Aside0.mk ((by rw [hg]; exact (below_size (hb0_ HB.out)) : w.heap.size ≤ gb310)); have n3_ := Aside0.mk ((by rw [hg]; exact (below_size (hb0_ HB.out)) : w.heap.size ≤ gb310)); clear HB; have HB := n0_; have BK310 := n1_; have GW310 := n2_; have GE310 := n3_; clear n0_ n1_ n2_ n3_; clear hb hbox hg) | ((with_reducible refine gate_callee (f := 27) rfl ?_); refine goesL_ (some 6) rfl rfl Try.func27 (by kernel_rfl) rfl #[.slice A0 l0.length c0] rfl ar_ ?_; (with_reducible refine (spec_l20Open.calls _ _ l0 t311 t312 w _ ?side1 ?side2 ?side3 A2.out).mono ?_); (case side1 => repeat (first | (with_reducible first | exact HB.out | apply below_alloc | apply pw_below_drewN | apply below_drew1 | refine below_set ?_ GE310.out) | exact HB.out)); (case side2 => exact HR0.out); (case side3 => exact HC0.out); rintro e w7 ⟨g313, rfl, hi, hb, hb2⟩; refine ⟨_, rfl, ?_⟩; have n0_ := Aside0.mk (blk_below (g := gb310) (o := .cells #[.int .i64 0, .slice none 0 0, .int .i64 0, .int .i64 0, .slice none 0 0] 25 (0, 0)) (kb_ BK310.out) hb2); have n1_ := Aside0.mk (hb); have n2_ := Aside0.mk (hi); have n3_ := Aside0.mk (IsS67.ne_blk hi (blk_below (g := gb310) (o := .cells #[.int .i64 0, .slice none 0 0, .int .i64 0, .int .i64 0, .slice none 0 0] 25 (0, 0)) (kb_ BK310.out) hb2) (by decide)); have n4_ := Aside0.mk (Ne.symm (IsS67.ne_blk hi (blk_below (g := gb310) (o := .cells #[.int .i64 0, .slice none 0 0, .int .i64 0, .int .i64 0, .slice none 0 0] 25 (0, 0)) (kb_ BK310.out) hb2) (by decide))); clear BK310; clear HB; have BK310 := n0_; have HB := n1_; have HI313 := n2_; have NB313_310 := n3_; have NB310_313 := n4_; clear n0_ n1_ n2_ n3_ n4_; (try clear hb); (try clear hb2); (try clear hk); (try clear hi)) | ((with_reducible refine gate_callee (f := 28) rfl ?_); refine goesL_ (some 8) rfl rfl Try.func28 (by kernel_rfl) rfl #[.pointer (some ⟨g313, 0, none⟩), .int .i64 15] rfl ar_ ?_; (with_reducible refine (spec_l20Mouth.calls k g313 t311 t312 15 t314 t315 t318 t319 t320 t323 w _ ?side1 ?side2 A3.out).mono ?_); (case side1 => repeat (first | (with_reducible first | exact HI313.out | apply IsS67.alloc | apply IsS67.drewN | apply IsS67.drew | apply IsS67.set_1 | refine IsS67.far ?_ NB313_310.out _) | exact HI313.out)); (case side2 => repeat (first | (with_reducible first | exact HB.out | apply below_alloc | apply pw_below_drewN | apply below_drew1 | refine below_set ?_ (IsS67.ge HI313.out) | refine below_set ?_ GE310.out) | exact HB.out)); rintro e w8 ⟨v316, v321, rfl, ho0, ho1, hi, hb, hk⟩; refine ⟨_, rfl, ?_⟩; have n0_ := Aside0.mk (KeepBut.blk hk (g' := gb310) (o := .cells #[.int .i64 0, .slice none 0 0, .int .i64 0, .int .i64 0, .slice none 0 0] 25 (0, 0)) (kb_ BK310.out) NB310_313.out (by simp)); have n1_ := Aside0.mk (Kd.R_lower ho0 (below_size (by repeat (first | (with_reducible first | exact HB.out | apply below_alloc | apply pw_below_drewN | apply below_drew1 | refine below_set ?_ (IsS67.ge HI313.out) | refine below_set ?_ GE310.out) | exact HB.out)))); have n2_ := Aside0.mk (Kd.R_lower ho1 (below_size (by repeat (first | (with_reducible first | exact HB.out | apply below_alloc | apply pw_below_drewN | apply below_drew1 | refine below_set ?_ (IsS67.ge HI313.out) | refine below_set ?_ GE310.out) | exact HB.out)))); have n3_ := Aside0.mk (hb); have n4_ := Aside0.mk (hi); clear BK310; clear HB; clear HI313; have BK310 := n0_; have HO317 := n1_; have HO322 := n2_; have HB := n3_; have HI313 := n4_; clear n0_ n1_ n2_ n3_ n4_; (try clear hb); (try clear hb2); (try clear hk); (try clear hi); (try clear ho0); (try clear ho1)) | ((with_reducible refine gate_callee (f := 30) rfl ?_); refine goesL_ (some 11) rfl rfl Try.func30 (by kernel_rfl) rfl #[.pointer (some ⟨g313, 0, none⟩), .int .i64 40] rfl ar_ ?_; (with_reducible refine (spec_l20Rd_pick.calls k g313 t311 t323 40 t324 t325 w _ ?side1 ?side2 A4.out).mono ?_); (case side1 => repeat (first | (with_reducible first | exact HI313.out | apply IsS67.alloc | apply IsS67.drewN | apply IsS67.drew | apply IsS67.set_1 | refine IsS67.far ?_ NB313_310.out _) | exact HI313.out)); (case side2 => repeat (first | (with_reducible first | exact HB.out | apply below_alloc | apply pw_below_drewN | apply below_drew1 | refine below_set ?_ (IsS67.ge HI313.out) | refine below_set ?_ GE310.out) | exact HB.out)); rintro e w9 ⟨rfl, hi, hb, hk⟩; refine ⟨_, rfl, ?_⟩; have n0_ := Aside0.mk (KeepBut.blk hk (g' := gb310) (o := .cells #[.int .i64 0, .slice none 0 0, .int .i64 0, .int .i64 0, .slice none 0 0] 25 (0, 0)) (kb_ BK310.out) NB310_313.out (by simp)); have n1_ := Aside0.mk (Kd.R_mono (Kd.R_keep (IsS67.apart (show IsS67 w _ g313 t311 t323 from by repeat (first | (with_reducible first | exact HI313.out | apply IsS67.alloc | apply IsS67.drewN | apply IsS67.drew | apply IsS67.set_1 | refine IsS67.far ?_ NB313_310.out _) | exact HI313.out)) (kR_ HO317.out) (by decide)) hk (fun _ h => h.2)) (fun _ h => h.1)); have n2_ := Aside0.mk (Kd.R_mono (Kd.R_keep (IsS67.apart (show IsS67 w _ g313 t311 t323 from by repeat (first | (with_reducible first | exact HI313.out | apply IsS67.alloc | apply IsS67.drewN | apply IsS67.drew | apply IsS67.set_1 | refine IsS67.far ?_ NB313_310.out _) | exact HI313.out)) (kR_ HO322.out) (by decide)) hk (fun _ h => h.2)) (fun _ h => h.1)); have n3_ := Aside0.mk (hb); have n4_ := Aside0.mk (hi); clear BK310; clear HO317; clear HO322; clear HB; clear HI313; have BK310 := n0_; have HO317 := n1_; have HO322 := n2_; have HB := n3_; have HI313 := n4_; clear n0_ n1_ n2_ n3_ n4_; (try clear hb); (try clear hb2); (try clear hk); (try clear hi)) | ((with_reducible refine gate_callee (f := 29) rfl ?_); refine goesL_ (some 12) rfl rfl Try.func29 (by kernel_rfl) rfl #[.pointer (some ⟨g313, 0, none⟩), .int .i64 t324] rfl ar_ ?_; (with_reducible refine (spec_l20Rd_bytes.calls k g313 t311 t325 t324 t326 t329 w _ ?side1 ?side2 A5.out).mono ?_); (case side1 => repeat (first | (with_reducible first | exact HI313.out | apply IsS67.alloc | apply IsS67.drewN | apply IsS67.drew | apply IsS67.set_1 | refine IsS67.far ?_ NB313_310.out _) | exact HI313.out)); (case side2 => repeat (first | (with_reducible first | exact HB.out | apply below_alloc | apply pw_below_drewN | apply below_drew1 | refine below_set ?_ (IsS67.ge HI313.out) | refine below_set ?_ GE310.out) | exact HB.out)); rintro e w10 ⟨v327, rfl, ho0, hi, hb, hk⟩; refine ⟨_, rfl, ?_⟩; have n0_ := Aside0.mk (KeepBut.blk hk (g' := gb310) (o := .cells #[.int .i64 0, .slice none 0 0, .int .i64 0, .int .i64 0, .slice none 0 0] 25 (0, 0)) (kb_ BK310.out) NB310_313.out (by simp)); have n1_ := Aside0.mk (Kd.R_mono (Kd.R_told (Kd.R_oldK (IsS67.apart (show IsS67 w _ g313 t311 t325 from by repeat (first | (with_reducible first | exact HI313.out | apply IsS67.alloc | apply IsS67.drewN | apply IsS67.drew | apply IsS67.set_1 | refine IsS67.far ?_ NB313_310.out _) | exact HI313.out)) (kR_ HO317.out) (by decide)) hk) (Kd.R_base ho0)) (fun _ h_ => op1_ h_)); have n2_ := Aside0.mk (Kd.R_mono (Kd.R_keep (IsS67.apart (show IsS67 w _ g313 t311 t325 from by repeat (first | (with_reducible first | exact HI313.out | apply IsS67.alloc | apply IsS67.drewN | apply IsS67.drew | apply IsS67.set_1 | refine IsS67.far ?_ NB313_310.out _) | exact HI313.out)) (kR_ HO322.out) (by decide)) hk (fun _ h => h.2)) (fun _ h => h.1)); have n3_ := Aside0.mk (Kd.R_lower (Kd.R_new' ho0 (Kd.R_lt (kR_ HO317.out))) (below_size (by repeat (first | (with_reducible first | exact HB.out | apply below_alloc | apply pw_below_drewN | apply below_drew1 | refine below_set ?_ (IsS67.ge HI313.out) | refine below_set ?_ GE310.out) | exact HB.out)))); have n4_ := Aside0.mk (hb); have n5_ := Aside0.mk (hi); clear BK310; clear HO317; clear HO322; clear HB; clear HI313; have BK310 := n0_; have HO317 := n1_; have HO322 := n2_; have HO328 := n3_; have HB := n4_; have HI313 := n5_; clear n0_ n1_ n2_ n3_ n4_ n5_; (try clear hb); (try clear hb2); (try clear hk); (try clear hi); (try clear ho0); have hnb11 := NB310_313.out; have hnc11 := NB313_310.out; have hcz12_0 : w10.cell? ⟨gb310, 0, none⟩ = some (.int .i64 0) := (blk_cell BK310.out 0).trans rfl; have hcz12_1 : w10.cell? ⟨gb310, 1, none⟩ = some (.slice none 0 0) := (blk_cell BK310.out 1).trans rfl; have hcz12_2 : w10.cell? ⟨gb310, 2, none⟩ = some (.int .i64 0) := (blk_cell BK310.out 2).trans rfl; have hcz12_3 : w10.cell? ⟨gb310, 3, none⟩ = some (.int .i64 0) := (blk_cell BK310.out 3).trans rfl; have hcz12_4 : w10.cell? ⟨gb310, 4, none⟩ = some (.slice none 0 0) := (blk_cell BK310.out 4).trans rfl; have hfz12_0 := blk_frozen BK310.out 0; have hfz12_1 := blk_frozen BK310.out 1; have hfz12_2 := blk_frozen BK310.out 2; have hfz12_3 := blk_frozen BK310.out 3; have hfz12_4 := blk_frozen BK310.out 4; obtain ⟨Ao13, co13, eo13⟩ := Kd.R_slice HO317.out; subst eo13; obtain ⟨Ao14, co14, eo14⟩ := Kd.R_slice HO322.out; subst eo14))
  refine bodyPost_ret (results_ct rfl _ _ gb310 25 #[.int .i64 t314, .slice Ao13 t315.length co13, .int .i64 t318, .int .i64 t319, .slice Ao14 t320.length co14] (0, 0) _ rfl (by refine kb_ ?_; refine blk_put (cs := #[.int .i64 t314, .slice Ao13 t315.length co13, .int .i64 t318, .int .i64 t319, .slice none 0 0]) ?_ 4 _ rfl; refine kb_ ?_; refine blk_put (cs := #[.int .i64 t314, .slice Ao13 t315.length co13, .int .i64 t318, .int .i64 0, .slice none 0 0]) ?_ 3 _ rfl; refine kb_ ?_; refine blk_put (cs := #[.int .i64 t314, .slice Ao13 t315.length co13, .int .i64 0, .int .i64 0, .slice none 0 0]) ?_ 2 _ rfl; refine kb_ ?_; refine blk_put (cs := #[.int .i64 t314, .slice none 0 0, .int .i64 0, .int .i64 0, .slice none 0 0]) ?_ 1 _ rfl; refine kb_ ?_; refine blk_put (cs := #[.int .i64 0, .slice none 0 0, .int .i64 0, .int .i64 0, .slice none 0 0]) ?_ 0 _ rfl; refine kb_ ?_; exact BK310.out) Try.underlying25 rfl (by kernel_rfl)) rfl ?_
  exact ⟨_, _, _, by first | rfl | (simp [errW_none, errW_some] <;> rfl) | (simp [*, errW_none, errW_some] <;> rfl), by refine kR_ ?_; exact Kd.R_mono (Kd.R_f gb310 4 (.slice Ao14 t320.length co14) (Kd.R_f gb310 3 (.int .i64 t319) (Kd.R_f gb310 2 (.int .i64 t318) (Kd.R_f gb310 1 (.slice Ao13 t315.length co13) (Kd.R_f gb310 0 (.int .i64 t314) (Kd.R_types HO317.out BK310.out (by decide))))))) (fun _ hk => hk.1.2), by refine kR_ ?_; exact Kd.R_mono (Kd.R_f gb310 4 (.slice Ao14 t320.length co14) (Kd.R_f gb310 3 (.int .i64 t319) (Kd.R_f gb310 2 (.int .i64 t318) (Kd.R_f gb310 1 (.slice Ao13 t315.length co13) (Kd.R_f gb310 0 (.int .i64 t314) (Kd.R_types HO322.out BK310.out (by decide))))))) (fun _ hk => trivial), by refine kR_ ?_; exact Kd.R_mono (Kd.R_f gb310 4 (.slice Ao14 t320.length co14) (Kd.R_f gb310 3 (.int .i64 t319) (Kd.R_f gb310 2 (.int .i64 t318) (Kd.R_f gb310 1 (.slice Ao13 t315.length co13) (Kd.R_f gb310 0 (.int .i64 t314) (Kd.R_types HO328.out BK310.out (by decide))))))) (fun _ hk => hk.1.2), by repeat (first | (with_reducible first | exact HB.out | apply below_alloc | apply pw_below_drewN | apply below_drew1 | refine below_set ?_ (IsS67.ge HI313.out) | refine below_set ?_ GE310.out) | exact HB.out)⟩

/-! ### impl_in: function 36 -/
def impl_in.f (a0 : Int) (a1 : Int) (a2 : Int) : Option (Bool) := if a0 ≥ a1 then (some (decide (a0 ≤ a2))) else (some false)
set_option maxHeartbeats 8000000 in
set_option maxRecDepth 100000 in
theorem impl_in.calls (a0 : Int) (a1 : Int) (a2 : Int) (r : Bool) (w : World) (h : impl_in.f a0 a1 a2 = some r) :
    Calls Try.prog 36 #[.int .i64 a0, .int .i64 a1, .int .i64 a2] w fun e w' => e = .returned (.bool r) ∧ Drawn0 w w' := by
  have H : (if a0 ≥ a1 then (some (decide (a0 ≤ a2))) else (some false)) = some r := h
  clear h
  by_cases c4 : a0 ≥ a1
  · rw [if_pos c4] at H
    have c4b0 : decide (a1 ≤ a0) = true := decide_eq_true c4
    clear c4
    obtain rfl := Option.some.inj H
    go_enter Try.func36, Try.ntmps36
    go_wp2
    go_ret
    exact ⟨by first | rfl | (simp; done) | (simp [*]; done), by repeat (first | exact Drawn0.refl _ | apply Drawn0.step)⟩
  · rw [if_neg c4] at H
    have c4b0 : decide (a1 ≤ a0) = false := decide_eq_false c4
    clear c4
    obtain rfl := Option.some.inj H
    go_enter Try.func36, Try.ntmps36
    go_wp2
    go_ret
    exact ⟨by first | rfl | (simp; done) | (simp [*]; done), by repeat (first | exact Drawn0.refl _ | apply Drawn0.step)⟩

/-! ### impl_Range_37: function 37 -/
def impl_Range_37.l0 : Nat → List (S60) → List (S60) → Int → Int → Option (Bool)
  | 0, _, _, _, _ => none
  | k + 1, x0, x1, x12, x13 => if x13 < x12 then (if 0 ≤ x13 then (if x13 < (x0.length : Int) then (if x13 < (x1.length : Int) then (if (!(((rd_T60 x0 x13).f0) == ((rd_T60 x1 x13).f0)) || (!(((rd_T60 x0 x13).f1) == ((rd_T60 x1 x13).f1)))) = true then (some false) else (impl_Range_37.l0 k x0 x1 x12 (wrap64 (x13 + 1)))) else (none)) else (none)) else (none)) else (some true)
def impl_Range_37.f (k : Nat) (l0 : List (S60)) (l1 : List (S60)) : Option (Bool) := if (l0.length : Int) = (l1.length : Int) then (impl_Range_37.l0 k l0 l1 (l0.length : Int) 0) else (some false)
theorem impl_Range_37.mono_l : ∀ k, (∀ y0 y1 y2 y3, LeO (impl_Range_37.l0 k y0 y1 y2 y3) (impl_Range_37.l0 (k + 1) y0 y1 y2 y3))
  | 0 => fun _ _ _ _ r h => by simp [impl_Range_37.l0] at h
  | k + 1 => by
    have ih0 := impl_Range_37.mono_l k
    · intro y0 y1 y2 y3
      unfold impl_Range_37.l0
      repeat' first
      | (with_reducible exact ih0 _ _ _ _)
      | (with_reducible exact LeO.refl _)
      | (with_reducible exact LeO.none _)
      | (with_reducible refine LeO.ite ?_ ?_)
      | (with_reducible refine LeO.bind ?_ (fun _ => ?_))
      | exact ih0 _ _ _ _
      | exact LeO.none _
      | refine LeO.ite ?_ ?_
      | refine LeO.bind ?_ (fun _ => ?_)
theorem impl_Range_37.mono : ∀ a0 a1 k, LeO (impl_Range_37.f k a0 a1) (impl_Range_37.f (k + 1) a0 a1) := by
  intro a0 a1 k
  have ih0 := impl_Range_37.mono_l k
  unfold impl_Range_37.f
  repeat' first
      | (with_reducible exact ih0 _ _ _ _)
      | (with_reducible exact LeO.refl _)
      | (with_reducible exact LeO.none _)
      | (with_reducible refine LeO.ite ?_ ?_)
      | (with_reducible refine LeO.bind ?_ (fun _ => ?_))
      | exact ih0 _ _ _ _
      | exact LeO.none _
      | refine LeO.ite ?_ ?_
      | refine LeO.bind ?_ (fun _ => ?_)
set_option maxHeartbeats 8000000 in
set_option maxRecDepth 100000 in
theorem impl_Range_37.calls (k : Nat) (A0 : Option Addr) (c0 : Nat) (l0 : List (S60)) (A1 : Option Addr) (c1 : Nat) (l1 : List (S60)) (r : Bool) (w : World) (hr0 : Kd.C k60 w A0 l0.length l0) (hc0 : l0.length ≤ c0) (hr1 : Kd.C k60 w A1 l1.length l1) (hc1 : l1.length ≤ c1) (h : impl_Range_37.f k l0 l1 = some r) :
    Calls Try.prog 37 #[.slice A0 l0.length c0, .slice A1 l1.length c1] w fun e w' => e = .returned (.bool r) ∧ Drawn0 w w' := by
  have hu60 := Try.underlying60
  have HR0 := Aside0.mk hr0
  have HC0 := Aside0.mk hc0
  clear hr0 hc0
  have HR1 := Aside0.mk hr1
  have HC1 := Aside0.mk hc1
  clear hr1 hc1
  have H : (if (l0.length : Int) = (l1.length : Int) then (impl_Range_37.l0 k l0 l1 (l0.length : Int) 0) else (some false)) = some r := h
  clear h
  by_cases c3 : (l0.length : Int) = (l1.length : Int)
  · rw [if_pos c3] at H
    have c3b0 : ((l0.length : Int) == (l1.length : Int)) = true := beq_iff_eq.mpr c3
    have c3b1 : ((l0.length : Int) != (l1.length : Int)) = false := bne_eq_false_iff_eq.mpr c3
    have c3b2 : (l0.length == l1.length) = true := by first | simpa using c3 | (simp at c3 ⊢; omega)
    clear c3
    have H' := Aside0.mk H
    clear H
    go_enter Try.func37, Try.ntmps37
    go_wp2
    repeat (go_quiet (fail); try go_wp2)
    go_loopg [13] k (fun kq v13 w' => ∃ (x13_1 : Int), v13 = .int .i64 x13_1 ∧ Aside0 (impl_Range_37.l0 kq l0 l1 (l0.length : Int) x13_1 = some r) ∧ Aside0 (kq ≤ k) ∧ Drawn0 w w')
    case atStart => exact ⟨(0), (by first | rfl | (simp; done) | (simp [*]; done)), H', ⟨Nat.le_refl _⟩, by repeat (first | exact Drawn0.refl _ | apply Drawn0.step)⟩
    case round =>
      clear H'
      try clear c1
      try clear p2
      try clear c3
      try clear c3b0
      try clear c3b1
      try clear c3b2
      obtain ⟨x13_1, rfl, HA, HK1, ⟨m1, rfl⟩⟩ := hrel
      cases gk with
      | zero => exact absurd HA.out (by simp [impl_Range_37.l0])
      | succ k1 =>
        have H := HA.out
        clear HA
        simp only [impl_Range_37.l0] at H
        by_cases c4 : x13_1 < (l0.length : Int)
        · rw [if_pos c4] at H
          have c4b0 : decide (x13_1 < (l0.length : Int)) = true := decide_eq_true c4
          clear c4
          by_cases c5 : 0 ≤ x13_1
          · rw [if_pos c5] at H
            have c5b0 : decide (0 ≤ x13_1) = true := decide_eq_true c5
            clear c5
            by_cases c6 : x13_1 < (l0.length : Int)
            · rw [if_pos c6] at H
              have c6b0 : decide (x13_1 < (l0.length : Int)) = true := decide_eq_true c6
              clear c6
              by_cases c7 : x13_1 < (l1.length : Int)
              · rw [if_pos c7] at H
                have c7b0 : decide (x13_1 < (l1.length : Int)) = true := decide_eq_true c7
                clear c7
                by_cases c8 : (!(((rd_T60 l0 x13_1).f0) == ((rd_T60 l1 x13_1).f0)) || (!(((rd_T60 l0 x13_1).f1) == ((rd_T60 l1 x13_1).f1)))) = true
                · rw [if_pos c8] at H
                  have c8b0 : (!(((rd_T60 l0 x13_1).f0) == ((rd_T60 l1 x13_1).f0)) || (!(((rd_T60 l0 x13_1).f1) == ((rd_T60 l1 x13_1).f1)))) = true := c8
                  clear c8
                  obtain rfl := Option.some.inj H
                  have p330 : 0 ≤ (x13_1 : Int) := of_decide_eq_true (by first | (with_reducible assumption) | assumption)
                  have q330 : x13_1 < (l0.length : Int) := of_decide_eq_true (by first | (with_reducible assumption) | assumption)
                  obtain ⟨ad330, e330, hx330_0, hx330_1⟩ := at_T60 HR0.out x13_1 p330 q330
                  cases e330
                  replace p330 := eq_true p330
                  replace q330 := eq_true q330
                  have p331 : 0 ≤ (x13_1 : Int) := of_decide_eq_true (by first | (with_reducible assumption) | assumption)
                  have q331 : x13_1 < (l1.length : Int) := of_decide_eq_true (by first | (with_reducible assumption) | assumption)
                  obtain ⟨ad331, e331, hx331_0, hx331_1⟩ := at_T60 HR1.out x13_1 p331 q331
                  cases e331
                  replace p331 := eq_true p331
                  replace q331 := eq_true q331
                  go_wp2
                  repeat (go_quiet (fail); try go_wp2)
                  go_ret
                  exact ⟨by first | rfl | (simp; done) | (simp [*]; done), by repeat (first | exact Drawn0.refl _ | apply Drawn0.step)⟩
                · rw [if_neg c8] at H
                  have c8b0 : (!(((rd_T60 l0 x13_1).f0) == ((rd_T60 l1 x13_1).f0)) || (!(((rd_T60 l0 x13_1).f1) == ((rd_T60 l1 x13_1).f1)))) = false := by simpa using c8
                  clear c8
                  have H' := Aside0.mk H
                  clear H
                  have p330 : 0 ≤ (x13_1 : Int) := of_decide_eq_true (by first | (with_reducible assumption) | assumption)
                  have q330 : x13_1 < (l0.length : Int) := of_decide_eq_true (by first | (with_reducible assumption) | assumption)
                  obtain ⟨ad330, e330, hx330_0, hx330_1⟩ := at_T60 HR0.out x13_1 p330 q330
                  cases e330
                  replace p330 := eq_true p330
                  replace q330 := eq_true q330
                  have p331 : 0 ≤ (x13_1 : Int) := of_decide_eq_true (by first | (with_reducible assumption) | assumption)
                  have q331 : x13_1 < (l1.length : Int) := of_decide_eq_true (by first | (with_reducible assumption) | assumption)
                  obtain ⟨ad331, e331, hx331_0, hx331_1⟩ := at_T60 HR1.out x13_1 p331 q331
                  cases e331
                  replace p331 := eq_true p331
                  replace q331 := eq_true q331
                  go_wp2
                  repeat (go_quiet (fail); try go_wp2)
                  go_roundg k1
                  case measure => have := HK1.out; omega
                  case rel => exact ⟨(wrap64 (x13_1 + 1)), (by first | rfl | (simp; done) | (simp [*]; done)), H', ⟨by have := HK1.out; omega⟩, by repeat (first | exact Drawn0.refl _ | apply Drawn0.step)⟩
              · rw [if_neg c7] at H
                exact absurd H (by simp)
            · rw [if_neg c6] at H
              exact absurd H (by simp)
          · rw [if_neg c5] at H
            exact absurd H (by simp)
        · rw [if_neg c4] at H
          have c4b0 : decide (x13_1 < (l0.length : Int)) = false := decide_eq_false c4
          clear c4
          obtain rfl := Option.some.inj H
          go_wp2
          repeat (go_quiet (fail); try go_wp2)
          go_ret
          exact ⟨by first | rfl | (simp; done) | (simp [*]; done), by repeat (first | exact Drawn0.refl _ | apply Drawn0.step)⟩
  · rw [if_neg c3] at H
    have c3b0 : ((l0.length : Int) == (l1.length : Int)) = false := beq_eq_false_iff_ne.mpr c3
    have c3b1 : ((l0.length : Int) != (l1.length : Int)) = true := bne_iff_ne.mpr c3
    have c3b2 : (l0.length == l1.length) = false := by first | simpa using c3 | (simp at c3 ⊢; omega)
    obtain rfl := Option.some.inj H
    go_enter Try.func37, Try.ntmps37
    go_wp2
    repeat (go_quiet (fail); try go_wp2)
    go_ret
    exact ⟨by first | rfl | (simp; done) | (simp [*]; done), by repeat (first | exact Drawn0.refl _ | apply Drawn0.step)⟩

/-! ### impl_Range_55: function 55, by hand -/
theorem impl_Range_55.calls (A0 : Option Addr) (c0 n0 : Nat) (w : World) (hc : n0 ≤ c0) : Calls Try.prog 55 #[.slice A0 n0 c0] w fun e w' => e = .returned (.slice A0 n0 n0) ∧ w' = w := by
  go_enter Try.func55, Try.ntmps55
  go_wp2
  go_ret
  exact ⟨rfl, rfl⟩

/-! ### impl_Range_51: function 51, by hand -/
def impl_Range_51.f (l0 : List (S60)) : Option ((List (S60))) := if l0.length * 16 ≤ 140737488355328 then some l0 else none
theorem impl_Range_51.calls (A0 : Option Addr) (c0 : Nat) (l0 : List (S60)) (r : List (S60)) (w : World) (hr0 : Kd.C k60 w A0 l0.length l0) (hc0 : l0.length ≤ c0) (h : impl_Range_51.f l0 = some r) :
    Calls Try.prog 51 #[.slice A0 l0.length c0] w fun e w' => ∃ v0_ : Value, e = .returned (v0_) ∧ Kd.R k60 60 w' w.heap.size (fun _ => True) v0_ r ∧ Below w.heap.size w w' := by
  obtain ⟨hle, rfl⟩ : l0.length * 16 ≤ 140737488355328 ∧ l0 = r := by
    unfold impl_Range_51.f at h; split at h
    · exact ⟨by assumption, Option.some.inj h⟩
    · cases h
  have hm := hr0.2.1
  have HR := Aside0.mk hr0; clear hr0 h
  by_cases h0 : l0.length = 0
  · have hb : ((l0.length : Int) == 0) = true := by simp [h0]
    have HL : Aside0 (l0 = []) := ⟨List.eq_nil_of_length_eq_zero h0⟩
    clear h0
    go_enter Try.func51, Try.ntmps51
    go_wp2
    go_ret
    refine ⟨_, rfl, ?_, Below.refl _ _⟩
    rw [HL.out]; exact Kd.R_nil _ _ _ _ _
  · have hb : ((l0.length : Int) == 0) = false := by simp; intro hh; exact h0 (by simp [hh])
    clear h0
    go_enter Try.func51, Try.ntmps51
    go_wp2_with (first
      | ((with_reducible refine gate_dst (N := 7) rfl ?_); refine Kd.R_append_rows k60 (Rr := k60.K w) w.heap.size rfl _ _ 23 60 (.agg #[(.int .i64 0), (.int .i64 0)]) 16 rfl Try.underlying23 info60 rfl (by decide) (by decide) (.slice none 0 0) [] l0 A0 l0.length c0 (fun _ => True) (fun _ => True) rfl rfl (Kd.R_nil _ _ _ _ _) HR.out (fun x cs h => by rw [k60_open h]; exact k60_mkM _ _ _ _) (fun k _ => ⟨trivial, by simp [Value.ownBlock]⟩) (fun _ _ => trivial) (Below.refl _ _) (Nat.le_refl _) (by simpa using hle) ?_; intro v1 w1 ho hb1 hg hat; rw [List.nil_append] at ho; obtain ⟨A1, c1, hv1, hc1, _⟩ := Kd.R_reads ho; have HO := Aside0.mk ho; clear ho hat hg; have HB := Aside0.mk hb1; clear hb1; subst hv1)
      | (go_at_call 55; (with_reducible refine (impl_Range_55.calls _ _ _ _ hc1).mono ?_); rintro e w' ⟨rfl, rfl⟩))
    go_ret
    exact ⟨_, rfl, Kd.R_clip HO.out (Nat.le_refl _) hc1, HB.out⟩

/-! ### impl_rangesOk: function 38 -/
mutual
def impl_rangesOk.l0 : Nat → Int → List (S60) → Int → List (S60) → Int → Int → Option ((List (S60)))
  | 0, _, _, _, _, _, _ => none
  | k + 1, x2, x7, x8, x12, x13, x14 => if x14 < x13 then (if 0 ≤ x14 then (if x14 < (x12.length : Int) then (if ((rd_T60 x12 x14).f0) > x8 then (if ((rd_T60 x12 x14).f1) > ((rd_T60 x12 x14).f0) then (if ((rd_T60 x12 x14).f1) ≤ x2 then (impl_rangesOk.j1 k x2 x7 x8 x12 x13 x14 (decide ((x7.length : Int) < 2)) ((rd_T60 x12 x14).f0) ((rd_T60 x12 x14).f1)) else (impl_rangesOk.j1 k x2 x7 x8 x12 x13 x14 false ((rd_T60 x12 x14).f0) ((rd_T60 x12 x14).f1))) else (impl_rangesOk.j1 k x2 x7 x8 x12 x13 x14 false ((rd_T60 x12 x14).f0) ((rd_T60 x12 x14).f1))) else (impl_rangesOk.j1 k x2 x7 x8 x12 x13 x14 false ((rd_T60 x12 x14).f0) ((rd_T60 x12 x14).f1))) else (none)) else (none)) else ((impl_Range_51.f x7).bind fun t332 => (some t332))
def impl_rangesOk.j1 : Nat → Int → List (S60) → Int → List (S60) → Int → Int → Bool → Int → Int → Option ((List (S60)))
  | 0, _, _, _, _, _, _, _, _, _ => none
  | k + 1, x2, x7, x8, x12, x13, x14, x39, x337000, x337001 => if x39 = true then (if x7.length < 8796093022208 then (impl_rangesOk.l0 k x2 (x7 ++ [(⟨x337000, x337001⟩ : S60)]) x337001 x12 x13 (wrap64 (x14 + 1))) else (none)) else (impl_rangesOk.l0 k x2 x7 x8 x12 x13 (wrap64 (x14 + 1)))
end
def impl_rangesOk.f (k : Nat) (l0 : List (S60)) (a1 : Int) (a2 : Int) : Option ((List (S60))) := impl_rangesOk.l0 k a2 ([] : List (S60)) a1 l0 (l0.length : Int) 0
theorem impl_rangesOk.mono_l : ∀ k, (∀ y0 y1 y2 y3 y4 y5, LeO (impl_rangesOk.l0 k y0 y1 y2 y3 y4 y5) (impl_rangesOk.l0 (k + 1) y0 y1 y2 y3 y4 y5)) ∧ (∀ y0 y1 y2 y3 y4 y5 y6 y7 y8, LeO (impl_rangesOk.j1 k y0 y1 y2 y3 y4 y5 y6 y7 y8) (impl_rangesOk.j1 (k + 1) y0 y1 y2 y3 y4 y5 y6 y7 y8))
  | 0 => ⟨fun _ _ _ _ _ _ r h => by simp [impl_rangesOk.l0] at h, fun _ _ _ _ _ _ _ _ _ r h => by simp [impl_rangesOk.j1] at h⟩
  | k + 1 => by
    obtain ⟨ih0, ih1⟩ := impl_rangesOk.mono_l k
    refine ⟨?_, ?_⟩
    · intro y0 y1 y2 y3 y4 y5
      unfold impl_rangesOk.l0
      repeat' first
      | (with_reducible exact ih0 _ _ _ _ _ _)
      | (with_reducible exact ih1 _ _ _ _ _ _ _ _ _)
      | (with_reducible exact LeO.refl _)
      | (with_reducible exact LeO.none _)
      | (with_reducible refine LeO.ite ?_ ?_)
      | (with_reducible refine LeO.bind ?_ (fun _ => ?_))
      | exact ih0 _ _ _ _ _ _
      | exact ih1 _ _ _ _ _ _ _ _ _
      | exact LeO.none _
      | refine LeO.ite ?_ ?_
      | refine LeO.bind ?_ (fun _ => ?_)
    · intro y0 y1 y2 y3 y4 y5 y6 y7 y8
      unfold impl_rangesOk.j1
      repeat' first
      | (with_reducible exact ih0 _ _ _ _ _ _)
      | (with_reducible exact ih1 _ _ _ _ _ _ _ _ _)
      | (with_reducible exact LeO.refl _)
      | (with_reducible exact LeO.none _)
      | (with_reducible refine LeO.ite ?_ ?_)
      | (with_reducible refine LeO.bind ?_ (fun _ => ?_))
      | exact ih0 _ _ _ _ _ _
      | exact ih1 _ _ _ _ _ _ _ _ _
      | exact LeO.none _
      | refine LeO.ite ?_ ?_
      | refine LeO.bind ?_ (fun _ => ?_)
theorem impl_rangesOk.mono : ∀ a0 a1 a2 k, LeO (impl_rangesOk.f k a0 a1 a2) (impl_rangesOk.f (k + 1) a0 a1 a2) := by
  intro a0 a1 a2 k
  obtain ⟨ih0, ih1⟩ := impl_rangesOk.mono_l k
  unfold impl_rangesOk.f
  repeat' first
      | (with_reducible exact ih0 _ _ _ _ _ _)
      | (with_reducible exact ih1 _ _ _ _ _ _ _ _ _)
      | (with_reducible exact LeO.refl _)
      | (with_reducible exact LeO.none _)
      | (with_reducible refine LeO.ite ?_ ?_)
      | (with_reducible refine LeO.bind ?_ (fun _ => ?_))
      | exact ih0 _ _ _ _ _ _
      | exact ih1 _ _ _ _ _ _ _ _ _
      | exact LeO.none _
      | refine LeO.ite ?_ ?_
      | refine LeO.bind ?_ (fun _ => ?_)
set_option maxHeartbeats 8000000 in
set_option maxRecDepth 100000 in
theorem impl_rangesOk.calls (k : Nat) (A0 : Option Addr) (c0 : Nat) (l0 : List (S60)) (a1 : Int) (a2 : Int) (r : List (S60)) (w : World) (hr0 : Kd.C k60 w A0 l0.length l0) (hc0 : l0.length ≤ c0) (h : impl_rangesOk.f k l0 a1 a2 = some r) :
    Calls Try.prog 38 #[.slice A0 l0.length c0, .int .i64 a1, .int .i64 a2] w fun e w' => ∃ v0_ : Value, e = .returned (v0_) ∧ Kd.R k60 60 w' w.heap.size (fun _ => True) v0_ r ∧ Below w.heap.size w w' := by
  have hu60 := Try.underlying60
  have HR0 := Aside0.mk hr0
  have HC0 := Aside0.mk hc0
  clear hr0 hc0
  have HB := Aside0.mk (Below.refl w.heap.size w)
  have H : (impl_rangesOk.l0 k a2 ([] : List (S60)) a1 l0 (l0.length : Int) 0) = some r := h
  clear h
  have H' := Aside0.mk H
  clear H
  go_enter Try.func38, Try.ntmps38
  go_wp2
  go_loopg [7, 8, 14] k (fun kq v7 v8 v14 w' => ∃ (x7_1 : List (S60)) (x8_1 : Int) (x14_1 : Int), v8 = .int .i64 x8_1 ∧ v14 = .int .i64 x14_1 ∧ Aside0 (impl_rangesOk.l0 kq a2 x7_1 x8_1 l0 (l0.length : Int) x14_1 = some r) ∧ Aside0 (kq ≤ k) ∧ Aside0 (Kd.R k60 60 w' w.heap.size (fun _ => True) v7 x7_1) ∧ Aside0 (Below w.heap.size w w'))
  case atStart => exact ⟨(([] : List (S60))), (a1), (0), (by first | rfl | (simp; done) | (simp [*]; done)), (by first | rfl | (simp; done) | (simp [*]; done)), H', ⟨Nat.le_refl _⟩, ⟨by first | exact Kd.R_nil _ _ _ _ _ | exact Kd.N_nil _ _ _ _ _ | exact Kd.V_nil _ _ _ _ _ | exact Kd.Q_nil _ _ _ _ _ | exact Kd.S_nil _ _ _ _ _⟩, ⟨by repeat (first | (with_reducible first | exact HB.out | apply below_alloc | apply pw_below_drewN | apply below_drew1) | exact HB.out)⟩⟩
  case round =>
    clear H'
    try clear p2
    try clear c3
    obtain ⟨x7_1, x8_1, x14_1, rfl, rfl, HA, HK1, HO_7, HB⟩ := hrel
    cases gk with
    | zero => exact absurd HA.out (by simp [impl_rangesOk.l0])
    | succ k1 =>
      have H := HA.out
      clear HA
      simp only [impl_rangesOk.l0] at H
      by_cases c4 : x14_1 < (l0.length : Int)
      · rw [if_pos c4] at H
        have c4b0 : decide (x14_1 < (l0.length : Int)) = true := decide_eq_true c4
        clear c4
        by_cases c5 : 0 ≤ x14_1
        · rw [if_pos c5] at H
          have c5b0 : decide (0 ≤ x14_1) = true := decide_eq_true c5
          clear c5
          by_cases c6 : x14_1 < (l0.length : Int)
          · rw [if_pos c6] at H
            have c6b0 : decide (x14_1 < (l0.length : Int)) = true := decide_eq_true c6
            clear c6
            have HC7 := Aside0.mk H
            clear H
            have p335 : 0 ≤ (x14_1 : Int) := of_decide_eq_true (by first | (with_reducible assumption) | assumption)
            have q335 : x14_1 < (l0.length : Int) := of_decide_eq_true (by first | (with_reducible assumption) | assumption)
            obtain ⟨ad335, e335, hx335_0, hx335_1⟩ := at_T60 HR0.out x14_1 p335 q335
            cases e335
            replace hx335_0 := (HB.out.cell (World.block_lt_of_cell? w _ hx335_0)).trans hx335_0
            replace hx335_1 := (HB.out.cell (World.block_lt_of_cell? w _ hx335_1)).trans hx335_1
            replace p335 := eq_true p335
            replace q335 := eq_true q335
            go_upto_region 6 with (first | ((with_reducible refine gate_dst (N := 10) rfl ?_); (try (refine gate_guard (by rfl) ?_; dsimp only)); refine box_event ?hg (N := 10) ?hd (cs := #[.int .i64 0, .int .i64 0]) (t := 60) ?hr ?_; (case hd => rfl); (case hg => rfl); (case hr => first | (go_simp; done) | (go_simp; rfl)); intro gb336 hg w8 hbox hb; have n0_ := Aside0.mk (Kd.R_below (Kd.R_elderB (kR_ HO_7.out) gb336 (Nat.le_of_eq hg.symm)) hb); have n1_ := Aside0.mk (below_step (hb0_ HB.out) hb); have n2_ := Aside0.mk (hbox); have n3_ := Aside0.mk ((by rw [hg]; exact (below_size (hb0_ HB.out)) : w.heap.size ≤ gb336)); have n4_ := Aside0.mk ((by rw [hg]; exact (below_size (hb0_ HB.out)) : w.heap.size ≤ gb336)); clear HO_7; clear HB; have HO_7 := n0_; have HB := n1_; have BK336 := n2_; have GW336 := n3_; have GE336 := n4_; clear n0_ n1_ n2_ n3_ n4_; clear hb hbox hg; have hcz9_0 : w8.cell? ⟨gb336, 0, none⟩ = some (.int .i64 0) := (blk_cell BK336.out 0).trans rfl; have hcz9_1 : w8.cell? ⟨gb336, 1, none⟩ = some (.int .i64 0) := (blk_cell BK336.out 1).trans rfl; have hfz9_0 := blk_frozen BK336.out 0; have hfz9_1 := blk_frozen BK336.out 1))
            (try simp only [Act.put, List.setIfInBounds_toArray, List.set_cons_zero, List.set_cons_succ])
            go_cut [39] (fun v39 wc => ∃ (kq : Nat) (x39_6 : Bool), v39 = .bool x39_6 ∧ Aside0 (impl_rangesOk.j1 kq a2 x7_1 x8_1 l0 (l0.length : Int) x14_1 x39_6 ((rd_T60 l0 x14_1).f0) ((rd_T60 l0 x14_1).f1) = some r) ∧ Aside0 (kq ≤ k1) ∧ Aside0 (Kd.R k60 60 wc w.heap.size (fun k_ => k_ ≠ gb336) u7 x7_1) ∧ Aside0 (wc.heap[gb336]? = some (.cells #[.int .i64 ((rd_T60 l0 x14_1).f0), .int .i64 ((rd_T60 l0 x14_1).f1)] 60 (0, 0))) ∧ Aside0 (Below w.heap.size w wc))
            case first =>
              have H := HC7.out
              clear HC7
              by_cases c10 : ((rd_T60 l0 x14_1).f0) > x8_1
              · rw [if_pos c10] at H
                have c10b0 : decide (x8_1 < ((rd_T60 l0 x14_1).f0)) = true := decide_eq_true c10
                clear c10
                (first | rw [c10b0] | (simp only [i64_w, i32_w]; rw [c10b0]) | skip)
                by_cases c11 : ((rd_T60 l0 x14_1).f1) > ((rd_T60 l0 x14_1).f0)
                · rw [if_pos c11] at H
                  have c11b0 : decide (((rd_T60 l0 x14_1).f0) < ((rd_T60 l0 x14_1).f1)) = true := decide_eq_true c11
                  clear c11
                  by_cases c12 : ((rd_T60 l0 x14_1).f1) ≤ a2
                  · rw [if_pos c12] at H
                    have c12b0 : decide (((rd_T60 l0 x14_1).f1) ≤ a2) = true := decide_eq_true c12
                    clear c12
                    have H' := Aside0.mk H
                    clear H
                    have hcz13_0 : w8.cell? ⟨gb336, 0, none⟩ = some (.int .i64 0) := (blk_cell BK336.out 0).trans rfl
                    have hcz13_1 : w8.cell? ⟨gb336, 1, none⟩ = some (.int .i64 0) := (blk_cell BK336.out 1).trans rfl
                    have hfz13_0 := blk_frozen BK336.out 0
                    have hfz13_1 := blk_frozen BK336.out 1
                    obtain ⟨Ao14, co14, eo14⟩ := Kd.R_slice HO_7.out
                    subst eo14
                    go_wp2
                    go_meet
                    case rel => exact ⟨_, (decide ((x7_1.length : Int) < 2)), (by first | rfl | (simp; done) | (simp [*]; done)), H', ⟨by have := HK1.out; first | omega | exact Nat.le_refl _⟩, ⟨by refine kR_ ?_; exact Kd.R_mono (Kd.R_f gb336 1 (.int .i64 ((rd_T60 l0 x14_1).f1)) (Kd.R_f gb336 0 (.int .i64 ((rd_T60 l0 x14_1).f0)) (Kd.R_mono HO_7.out (fun k_ hk => (⟨hk, hk.2⟩ : _ ∧ k_ ≠ gb336))))) (fun _ hk => hk.1.2)⟩, ⟨by refine kb_ ?_; refine blk_put (cs := #[.int .i64 ((rd_T60 l0 x14_1).f0), .int .i64 0]) ?_ 1 _ rfl; refine kb_ ?_; refine blk_put (cs := #[.int .i64 0, .int .i64 0]) ?_ 0 _ rfl; refine kb_ ?_; exact BK336.out⟩, ⟨by repeat (first | (with_reducible first | exact HB.out | apply below_alloc | apply pw_below_drewN | apply below_drew1 | refine below_set ?_ GE336.out) | exact HB.out)⟩⟩
                  · rw [if_neg c12] at H
                    have c12b0 : decide (((rd_T60 l0 x14_1).f1) ≤ a2) = false := decide_eq_false c12
                    clear c12
                    have H' := Aside0.mk H
                    clear H
                    have hcz15_0 : w8.cell? ⟨gb336, 0, none⟩ = some (.int .i64 0) := (blk_cell BK336.out 0).trans rfl
                    have hcz15_1 : w8.cell? ⟨gb336, 1, none⟩ = some (.int .i64 0) := (blk_cell BK336.out 1).trans rfl
                    have hfz15_0 := blk_frozen BK336.out 0
                    have hfz15_1 := blk_frozen BK336.out 1
                    go_wp2
                    go_meet
                    case rel => exact ⟨_, (false), (by first | rfl | (simp; done) | (simp [*]; done)), H', ⟨by have := HK1.out; first | omega | exact Nat.le_refl _⟩, ⟨by refine kR_ ?_; exact Kd.R_mono (Kd.R_f gb336 1 (.int .i64 ((rd_T60 l0 x14_1).f1)) (Kd.R_f gb336 0 (.int .i64 ((rd_T60 l0 x14_1).f0)) (Kd.R_mono HO_7.out (fun k_ hk => (⟨hk, hk.2⟩ : _ ∧ k_ ≠ gb336))))) (fun _ hk => hk.1.2)⟩, ⟨by refine kb_ ?_; refine blk_put (cs := #[.int .i64 ((rd_T60 l0 x14_1).f0), .int .i64 0]) ?_ 1 _ rfl; refine kb_ ?_; refine blk_put (cs := #[.int .i64 0, .int .i64 0]) ?_ 0 _ rfl; refine kb_ ?_; exact BK336.out⟩, ⟨by repeat (first | (with_reducible first | exact HB.out | apply below_alloc | apply pw_below_drewN | apply below_drew1 | refine below_set ?_ GE336.out) | exact HB.out)⟩⟩
                · rw [if_neg c11] at H
                  have c11b0 : decide (((rd_T60 l0 x14_1).f0) < ((rd_T60 l0 x14_1).f1)) = false := decide_eq_false c11
                  clear c11
                  have H' := Aside0.mk H
                  clear H
                  have hcz16_0 : w8.cell? ⟨gb336, 0, none⟩ = some (.int .i64 0) := (blk_cell BK336.out 0).trans rfl
                  have hcz16_1 : w8.cell? ⟨gb336, 1, none⟩ = some (.int .i64 0) := (blk_cell BK336.out 1).trans rfl
                  have hfz16_0 := blk_frozen BK336.out 0
                  have hfz16_1 := blk_frozen BK336.out 1
                  go_wp2
                  go_meet
                  case rel => exact ⟨_, (false), (by first | rfl | (simp; done) | (simp [*]; done)), H', ⟨by have := HK1.out; first | omega | exact Nat.le_refl _⟩, ⟨by refine kR_ ?_; exact Kd.R_mono (Kd.R_f gb336 1 (.int .i64 ((rd_T60 l0 x14_1).f1)) (Kd.R_f gb336 0 (.int .i64 ((rd_T60 l0 x14_1).f0)) (Kd.R_mono HO_7.out (fun k_ hk => (⟨hk, hk.2⟩ : _ ∧ k_ ≠ gb336))))) (fun _ hk => hk.1.2)⟩, ⟨by refine kb_ ?_; refine blk_put (cs := #[.int .i64 ((rd_T60 l0 x14_1).f0), .int .i64 0]) ?_ 1 _ rfl; refine kb_ ?_; refine blk_put (cs := #[.int .i64 0, .int .i64 0]) ?_ 0 _ rfl; refine kb_ ?_; exact BK336.out⟩, ⟨by repeat (first | (with_reducible first | exact HB.out | apply below_alloc | apply pw_below_drewN | apply below_drew1 | refine below_set ?_ GE336.out) | exact HB.out)⟩⟩
              · rw [if_neg c10] at H
                have c10b0 : decide (x8_1 < ((rd_T60 l0 x14_1).f0)) = false := decide_eq_false c10
                clear c10
                (first | rw [c10b0] | (simp only [i64_w, i32_w]; rw [c10b0]) | skip)
                have H' := Aside0.mk H
                clear H
                have hcz17_0 : w8.cell? ⟨gb336, 0, none⟩ = some (.int .i64 0) := (blk_cell BK336.out 0).trans rfl
                have hcz17_1 : w8.cell? ⟨gb336, 1, none⟩ = some (.int .i64 0) := (blk_cell BK336.out 1).trans rfl
                have hfz17_0 := blk_frozen BK336.out 0
                have hfz17_1 := blk_frozen BK336.out 1
                go_wp2
                go_meet
                case rel => exact ⟨_, (false), (by first | rfl | (simp; done) | (simp [*]; done)), H', ⟨by have := HK1.out; first | omega | exact Nat.le_refl _⟩, ⟨by refine kR_ ?_; exact Kd.R_mono (Kd.R_f gb336 1 (.int .i64 ((rd_T60 l0 x14_1).f1)) (Kd.R_f gb336 0 (.int .i64 ((rd_T60 l0 x14_1).f0)) (Kd.R_mono HO_7.out (fun k_ hk => (⟨hk, hk.2⟩ : _ ∧ k_ ≠ gb336))))) (fun _ hk => hk.1.2)⟩, ⟨by refine kb_ ?_; refine blk_put (cs := #[.int .i64 ((rd_T60 l0 x14_1).f0), .int .i64 0]) ?_ 1 _ rfl; refine kb_ ?_; refine blk_put (cs := #[.int .i64 0, .int .i64 0]) ?_ 0 _ rfl; refine kb_ ?_; exact BK336.out⟩, ⟨by repeat (first | (with_reducible first | exact HB.out | apply below_alloc | apply pw_below_drewN | apply below_drew1 | refine below_set ?_ GE336.out) | exact HB.out)⟩⟩
            case rest =>
              clear HC7
              try clear c1
              try clear p2
              try clear c3
              try clear p3
              try clear q3
              try clear hx3
              try clear c4
              try clear c4b0
              try clear c5
              try clear c5b0
              try clear c6
              try clear c6b0
              try clear c10
              try clear c10b0
              try clear c11
              try clear c11b0
              try clear c12
              try clear c12b0
              try clear hcz13_0
              try clear hcz13_1
              try clear hcz15_0
              try clear hcz15_1
              try clear hcz16_0
              try clear hcz16_1
              try clear hcz17_0
              try clear hcz17_1
              try clear hcz9_0
              try clear hcz9_1
              try clear hfz13_0
              try clear hfz13_1
              try clear hfz15_0
              try clear hfz15_1
              try clear hfz16_0
              try clear hfz16_1
              try clear hfz17_0
              try clear hfz17_1
              try clear hfz9_0
              try clear hfz9_1
              try clear hx335_0
              try clear hx335_1
              try clear p2
              try clear p335
              try clear q335
              obtain ⟨kq, x39_6, rfl, HA, HJ6, HO_7, BK336, HB⟩ := hcut
              cases kq with
              | zero => exact absurd HA.out (by simp [impl_rangesOk.j1])
              | succ kj6 =>
                have H := HA.out
                clear HA
                simp only [impl_rangesOk.j1] at H
                by_cases c18 : x39_6 = true
                · subst c18
                  have H1 : (if x7_1.length < 8796093022208 then (impl_rangesOk.l0 kj6 a2 (x7_1 ++ [(⟨((rd_T60 l0 x14_1).f0), ((rd_T60 l0 x14_1).f1)⟩ : S60)]) ((rd_T60 l0 x14_1).f1) l0 (l0.length : Int) (wrap64 (x14_1 + 1))) else (none)) = some r := by rw [if_pos rfl] at H; exact H
                  clear H
                  have H := H1
                  clear H1
                  by_cases c19 : x7_1.length < 8796093022208
                  · rw [if_pos c19] at H
                    have LMc19 := Aside0.mk c19
                    clear c19
                    obtain ⟨y337, hy337⟩ : ∃ y_ : List (S60), y_ = (x7_1 ++ [(⟨((rd_T60 l0 x14_1).f0), ((rd_T60 l0 x14_1).f1)⟩ : S60)]) := ⟨_, rfl⟩
                    replace H : (impl_rangesOk.l0 kj6 a2 y337 ((rd_T60 l0 x14_1).f1) l0 (l0.length : Int) (wrap64 (x14_1 + 1))) = some r := by first | (rw [hy337]; with_reducible exact H) | (have H2_ := (Option.bind_some _ _).symm.trans H; rw [hy337]; with_reducible exact H2_) | (have H2_ := (Option.bind_some _ _).symm.trans H; with_reducible exact H2_) | with_reducible exact H | (rw [hy337]; exact H) | exact H
                    have Ny337 := Aside0.mk hy337
                    clear hy337
                    have H' := Aside0.mk H
                    clear H
                    have hcz20_0 : wc.cell? ⟨gb336, 0, none⟩ = some (.int .i64 ((rd_T60 l0 x14_1).f0)) := (blk_cell BK336.out 0).trans rfl
                    have hcz20_1 : wc.cell? ⟨gb336, 1, none⟩ = some (.int .i64 ((rd_T60 l0 x14_1).f1)) := (blk_cell BK336.out 1).trans rfl
                    have hfz20_0 := blk_frozen BK336.out 0
                    have hfz20_1 := blk_frozen BK336.out 1
                    go_wp2_with (first | ((with_reducible refine gate_builtin (b := .append) (xs := #[.tmp 40, .tmp 42]) rfl ?_); (try (refine gate_guard (by rfl) ?_; dsimp only)); at_builtin; refine Kd.R_append k60 (w0 := w) w.heap.size rfl (.tmp 40) (.tmp 42) 23 60 (.agg #[(.int .i64 0), (.int .i64 0)]) 16 rfl Try.underlying23 info60 rfl (by decide) (by omega) u7 x7_1 (⟨((rd_T60 l0 x14_1).f0), ((rd_T60 l0 x14_1).f1)⟩ : S60) [.int .i64 ((rd_T60 l0 x14_1).f0), .int .i64 ((rd_T60 l0 x14_1).f1)] (fun k_ => k_ ≠ gb336) (fun _ => False) rfl rfl ?aP (fun _ hk => hk.elim) ?aF ?aO ?aB ?aS ?aL ?_; (case aP => exact k60_mkM _ _ _ (⟨((rd_T60 l0 x14_1).f0), ((rd_T60 l0 x14_1).f1)⟩ : S60)); (case aB => exact (hb1_ HB.out GE336.out)); (case aF => exact (fun k_ hk => Kd.freshB (g := gb336) (o := .cells #[.int .i64 ((rd_T60 l0 x14_1).f0), .int .i64 ((rd_T60 l0 x14_1).f1)] 60 (0, 0)) (kb_ BK336.out) k_ hk)); (case aO => exact (kR_ HO_7.out)); (case aS => exact (below_size (hb1_ HB.out GE336.out))); (case aL => have := LMc19.out; omega); intro v338 w21 ho hb hg hat; rw [← Ny337.out] at ho; have n0_ := Aside0.mk (blk_grown (g := gb336) (o := .cells #[.int .i64 ((rd_T60 l0 x14_1).f0), .int .i64 ((rd_T60 l0 x14_1).f1)] 60 (0, 0)) (kb_ BK336.out) hg (Kd.R_away HO_7.out (fun _ hk => hk))); have n1_ := Aside0.mk (hb); have n2_ := Aside0.mk (ho); clear BK336; clear HB; clear HO_7; have BK336 := n0_; have HB := n1_; have HO339 := n2_; clear n0_ n1_ n2_; clear ho hb hg hat; have hcz22_0 : w21.cell? ⟨gb336, 0, none⟩ = some (.int .i64 ((rd_T60 l0 x14_1).f0)) := (blk_cell BK336.out 0).trans rfl; have hcz22_1 : w21.cell? ⟨gb336, 1, none⟩ = some (.int .i64 ((rd_T60 l0 x14_1).f1)) := (blk_cell BK336.out 1).trans rfl; have hfz22_0 := blk_frozen BK336.out 0; have hfz22_1 := blk_frozen BK336.out 1))
                    go_roundg kj6
                    case measure => have := HK1.out; have := HJ6.out; omega
                    case rel => exact ⟨(y337), (((rd_T60 l0 x14_1).f1)), (wrap64 (x14_1 + 1)), (by first | rfl | (simp; done) | (simp [*]; done)), (by first | rfl | (simp; done) | (simp [*]; done)), H', ⟨by have := HK1.out; have := HJ6.out; omega⟩, ⟨by refine kR_ ?_; exact Kd.R_mono HO339.out (fun _ hk => trivial)⟩, ⟨by repeat (first | (with_reducible first | exact HB.out | apply below_alloc | apply pw_below_drewN | apply below_drew1 | refine below_set ?_ GE336.out) | exact HB.out)⟩⟩
                  · rw [if_neg c19] at H
                    exact absurd H (by simp)
                · replace c18 := Bool.eq_false_iff.mpr c18
                  subst c18
                  have H1 : (impl_rangesOk.l0 kj6 a2 x7_1 x8_1 l0 (l0.length : Int) (wrap64 (x14_1 + 1))) = some r := by rw [if_neg (show ¬ (false = true) by decide)] at H; exact H
                  clear H
                  have H := H1
                  clear H1
                  have H' := Aside0.mk H
                  clear H
                  go_wp2
                  go_roundg kj6
                  case measure => have := HK1.out; have := HJ6.out; omega
                  case rel => exact ⟨(x7_1), (x8_1), (wrap64 (x14_1 + 1)), (by first | rfl | (simp; done) | (simp [*]; done)), (by first | rfl | (simp; done) | (simp [*]; done)), H', ⟨by have := HK1.out; have := HJ6.out; omega⟩, ⟨by refine kR_ ?_; exact Kd.R_mono HO_7.out (fun _ hk => trivial)⟩, ⟨by repeat (first | (with_reducible first | exact HB.out | apply below_alloc | apply pw_below_drewN | apply below_drew1 | refine below_set ?_ GE336.out) | exact HB.out)⟩⟩
          · rw [if_neg c6] at H
            exact absurd H (by simp)
        · rw [if_neg c5] at H
          exact absurd H (by simp)
      · rw [if_neg c4] at H
        have c4b0 : decide (x14_1 < (l0.length : Int)) = false := decide_eq_false c4
        clear c4
        replace H := Option.bind_eq_some_iff.mp H
        obtain ⟨t332, A230, H⟩ := H
        replace H : (some t332) = some r := H
        have A23 := Aside0.mk A230
        clear A230
        obtain rfl := Option.some.inj H
        obtain ⟨Ao24, co24, eo24⟩ := Kd.R_slice HO_7.out
        subst eo24
        go_wp2_with (first | ((with_reducible refine gate_callee (f := 51) rfl ?_); refine goesL_ (some 48) rfl rfl Try.func51 (by kernel_rfl) rfl #[.slice Ao24 x7_1.length co24] rfl ar_ ?_; (with_reducible refine (impl_Range_51.calls _ _ x7_1 t332 _ ?side1 ?side2 A23.out).mono ?_); (case side1 => exact kC_ (Kd.R_reads' HO_7.out).2.2); (case side2 => exact (Kd.R_reads' HO_7.out).2.1); rintro e w25 ⟨v333, rfl, ho0, hb⟩; refine ⟨_, rfl, ?_⟩; have n0_ := Aside0.mk (Kd.R_elder' (kR_ HO_7.out) (Kd.R_base ho0) hb); have n1_ := Aside0.mk (Kd.R_lower (Kd.R_new' ho0 (Kd.R_lt (kR_ HO_7.out))) (below_size (hb0_ HB.out))); have n2_ := Aside0.mk (below_step (hb0_ HB.out) hb); clear HO_7; clear HB; have HO_7 := n0_; have HO334 := n1_; have HB := n2_; clear n0_ n1_ n2_; (try clear hb); (try clear hb2); (try clear hk); (try clear hi); (try clear ho0)))
        go_ret
        exact ⟨_, by first | rfl | (simp [errW_none, errW_some] <;> rfl) | (simp [*, errW_none, errW_some] <;> rfl), by refine kR_ ?_; exact Kd.R_mono HO334.out (fun _ hk => trivial), by repeat (first | (with_reducible first | exact HB.out | apply below_alloc | apply pw_below_drewN | apply below_drew1) | exact HB.out)⟩

end Go.Proofs.Ytjiodkbbmhhccab.PFnMouthWrite
