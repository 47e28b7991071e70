/- Printed by wip/xp/xprint.sh out of the translation, for this claim: what each function answers, as a plain function, and that the machine does just that. No condition. -/
import Derived.Test.YtegchbdjbefdbaaPFnClientHearx0
import Derived.Test.YtegchbdjbefdbaaPFnClientHearx4
import Derived.Test.YtegchbdjbefdbaaPFnClientHearx5
namespace Go.Proofs.Ytegchbdjbefdbaa.PFnClientHear
open Go.RowKit Go.Proofs.YtegchbdjbefdbaaW.PrintWords Go.Proofs.YtegchbdjbefdbaaW.PrintLast Go.Proofs.YtegchbdjbefdbaaW.PrintMore
attribute [local go_sem] max2_int min2_int max_two min_two max_three min_three max_four min_four   -- for this text's walks alone
set_option linter.unusedVariables false
set_option linter.unusedSimpArgs false
def spec_l20Rd_odd.f (k : Nat) (s0_0 : List Int) (s0_1 : Int) (a1 : Int) : Option (Bool × Int) := if a1 > 0 then ((spec_l20Rd_pick.f k s0_0 s0_1 a1).bind fun bt315 => (some ((bt315.1 == (wrap64 (a1 - 1))), bt315.2))) else (some (false, s0_1))
theorem spec_l20Rd_odd.mono : ∀ a0 a1 a2 k, LeO (spec_l20Rd_odd.f k a0 a1 a2) (spec_l20Rd_odd.f (k + 1) a0 a1 a2) := by
 intro a0 a1 a2 k
 unfold spec_l20Rd_odd.f
 repeat' first | (with_reducible first | apply spec_l20Rd_pick.mono | exact LeO.refl _ | exact LeO.none _ | refine LeO.ite ?_ ?_ | refine LeO.bind ?_ fun _ => ?_) | apply spec_l20Rd_pick.mono | exact LeO.none _ | refine LeO.ite ?_ ?_ | refine LeO.bind ?_ fun _ => ?_
set_option maxHeartbeats 8000000 in
set_option maxRecDepth 100000 in
theorem spec_l20Rd_odd.calls (k : Nat) (g : Nat) (s0_0 : List Int) (s0_1 : Int) (a1 : Int) (r1 : Bool) (r2 : Int) (w0 w : World) (hI : IsS89 w0 w g s0_0 s0_1) (hB : Below w0.heap.size w0 w) (h : spec_l20Rd_odd.f k s0_0 s0_1 a1 = some (r1, r2)) :
  Calls Try.prog 71 #[.pointer (some ⟨g, 0, none⟩), .int .i64 a1] w fun e w' => e = .returned (.bool r1) ∧ IsS89 w0 w' g s0_0 r2 ∧ Below w0.heap.size w0 w' ∧ KeepBut w w' g none := by
 have HI0 := Aside0.mk hI
 have HK := Aside0.mk (KeepBut.refl w g none)
 have HL := Aside0.mk hB.size; clear hI; have HW0 := Aside0.mk hB.size; have HB := Aside0.mk hB; clear hB
 have H : (if a1 > 0 then ((spec_l20Rd_pick.f k s0_0 s0_1 a1).bind fun bt315 => (some ((bt315.1 == (wrap64 (a1 - 1))), bt315.2))) else (some (false, s0_1))) = some (r1, r2) := h
 clear h
 by_cases c3 : a1 > 0
 ·rw [if_pos c3] at H
  have c3b0 : decide (0 < a1) = true := decide_eq_true c3
  clear c3
  replace H := Option.bind_eq_some_iff.mp H
  obtain ⟨⟨t315, t316⟩, A40, H⟩ := H
  (try dsimp only at H)
  have A4 := Aside0.mk A40; clear A40
  simp only [Option.some.injEq, Prod.mk.injEq] at H
  obtain ⟨rfl, rfl⟩ := H
  go_enter Try.func71, Try.ntmps71
  go_wp2_with (first | (go_at_call 62; (with_reducible refine (spec_l20Rd_pick.calls k g s0_0 s0_1 a1 t315 t316 w0 _ ?side1 ?side2 A4.out).mono ?_); (case side1 => exact is89_ HI0.out); (case side2 => exact hb89_ HB.out); rintro e w5 ⟨rfl, hi, hb, hk⟩; replace HK := (kk_ HK hk); replace HB := Aside0.mk (hb); replace HI0 := Aside0.mk (hi); (try clear hb); (try clear hb2); (try clear hk); (try clear hi)))
  go_ret
  exact ⟨by first | rfl | (simp [errW_none, errW_some] <;> rfl) | (simp [*, errW_none, errW_some] <;> rfl), is89_ HI0.out, hb89_ HB.out, hkA_ HK.out⟩
 ·rw [if_neg c3] at H
  have c3b0 : decide (0 < a1) = false := decide_eq_false c3
  clear c3
  simp only [Option.some.injEq, Prod.mk.injEq] at H
  obtain ⟨rfl, rfl⟩ := H
  go_enter Try.func71, Try.ntmps71
  go_wp2
  go_ret
  exact ⟨by first | rfl | (simp [errW_none, errW_some] <;> rfl) | (simp [*, errW_none, errW_some] <;> rfl), is89_ HI0.out, hb89_ HB.out, hkA_ HK.out⟩
def spec_l20Words.j0 : Nat → Int → List Int → Int → Int → List Int → Option (Int × List Int × Int)
 | 0, _, _, _, _, _ => none
 | k + 1, x1, x1000, x1001, x327000, x327001 => (spec_l20Rd_odd.f k x1000 x1001 x1).bind fun bt331 => (if bt331.1 = true then (if 10 ≤ 281474976710656 then (some (x327000, (List.replicate 10 0), bt331.2)) else (none)) else (some (x327000, x327001, bt331.2)))
def spec_l20Words.f (k : Nat) (s0_0 : List Int) (s0_1 : Int) (a1 : Int) : Option (Int × List Int × Int) := (spec_l20Rd_pick.f k s0_0 s0_1 6).bind fun bt318 => ((spec_l20Rd_pick.f k s0_0 bt318.2 8).bind fun bt320 => ((spec_l20Rd_bytes.f k s0_0 bt320.2 bt320.1).bind fun bt322 => ((spec_l20Rd_odd.f k s0_0 bt322.2 a1).bind fun bt327 => (if bt327.1 = true then ((spec_l20Rd_pick.f k s0_0 bt327.2 2).bind fun bt329 => (spec_l20Words.j0 k a1 s0_0 bt329.2 (wrap64 (256 - (wrap64 (bt329.1 * 300)))) bt322.1)) else (spec_l20Words.j0 k a1 s0_0 bt327.2 bt318.1 bt322.1)))))
theorem spec_l20Words.mono_l : ∀ k, (∀ y0 y1 y2 y3 y4, LeO (spec_l20Words.j0 k y0 y1 y2 y3 y4) (spec_l20Words.j0 (k + 1) y0 y1 y2 y3 y4))
 | 0 => fun _ _ _ _ _ r h => by simp [spec_l20Words.j0] at h
 | k + 1 => by
  have ih0 := spec_l20Words.mono_l k
  ·intro y0 y1 y2 y3 y4
   unfold spec_l20Words.j0
   repeat' first | (with_reducible first | apply ih0 | apply spec_l20Rd_bytes.mono | apply spec_l20Rd_odd.mono | apply spec_l20Rd_pick.mono | exact LeO.refl _ | exact LeO.none _ | refine LeO.ite ?_ ?_ | refine LeO.bind ?_ fun _ => ?_) | apply ih0 | apply spec_l20Rd_bytes.mono | apply spec_l20Rd_odd.mono | apply spec_l20Rd_pick.mono | exact LeO.none _ | refine LeO.ite ?_ ?_ | refine LeO.bind ?_ fun _ => ?_
theorem spec_l20Words.mono : ∀ a0 a1 a2 k, LeO (spec_l20Words.f k a0 a1 a2) (spec_l20Words.f (k + 1) a0 a1 a2) := by
 intro a0 a1 a2 k
 have ih0 := spec_l20Words.mono_l k
 unfold spec_l20Words.f
 repeat' first | (with_reducible first | apply ih0 | apply spec_l20Rd_bytes.mono | apply spec_l20Rd_odd.mono | apply spec_l20Rd_pick.mono | exact LeO.refl _ | exact LeO.none _ | refine LeO.ite ?_ ?_ | refine LeO.bind ?_ fun _ => ?_) | apply ih0 | apply spec_l20Rd_bytes.mono | apply spec_l20Rd_odd.mono | apply spec_l20Rd_pick.mono | exact LeO.none _ | refine LeO.ite ?_ ?_ | refine LeO.bind ?_ fun _ => ?_
set_option maxHeartbeats 8000000 in
set_option maxRecDepth 100000 in
theorem spec_l20Words.calls (k : Nat) (g : Nat) (s0_0 : List Int) (s0_1 : Int) (a1 : Int) (r1 : Int) (r2 : List Int) (r3 : Int) (w0 w : World) (hI : IsS89 w0 w g s0_0 s0_1) (hB : Below w0.heap.size w0 w) (h : spec_l20Words.f k s0_0 s0_1 a1 = some (r1, r2, r3)) :
  Calls Try.prog 58 #[.pointer (some ⟨g, 0, none⟩), .int .i64 a1] w fun e w' => ∃ v1_ : Value, e = .returned (.agg #[.int .i64 r1, v1_]) ∧ Kd.R (Kd.int .u8) 5 w' w.heap.size (fun _ => True) v1_ r2 ∧ IsS89 w0 w' g s0_0 r3 ∧ Below w0.heap.size w0 w' ∧ KeepBut w w' g none := by
 have hu41 := Try.underlying41; have HI0 := Aside0.mk hI
 have HK := Aside0.mk (KeepBut.refl w g none)
 have HL := Aside0.mk hB.size; clear hI; have HW0 := Aside0.mk hB.size; have HB := Aside0.mk hB; clear hB
 have H : ((spec_l20Rd_pick.f k s0_0 s0_1 6).bind fun bt318 => ((spec_l20Rd_pick.f k s0_0 bt318.2 8).bind fun bt320 => ((spec_l20Rd_bytes.f k s0_0 bt320.2 bt320.1).bind fun bt322 => ((spec_l20Rd_odd.f k s0_0 bt322.2 a1).bind fun bt327 => (if bt327.1 = true then ((spec_l20Rd_pick.f k s0_0 bt327.2 2).bind fun bt329 => (spec_l20Words.j0 k a1 s0_0 bt329.2 (wrap64 (256 - (wrap64 (bt329.1 * 300)))) bt322.1)) else (spec_l20Words.j0 k a1 s0_0 bt327.2 bt318.1 bt322.1)))))) = some (r1, r2, r3) := h
 clear h
 replace H := Option.bind_eq_some_iff.mp H
 obtain ⟨⟨t318, t319⟩, A30, H⟩ := H
 (try dsimp only at H)
 have A3 := Aside0.mk A30; clear A30
 replace H := Option.bind_eq_some_iff.mp H
 obtain ⟨⟨t320, t321⟩, A40, H⟩ := H
 (try dsimp only at H)
 have A4 := Aside0.mk A40; clear A40
 replace H := Option.bind_eq_some_iff.mp H
 obtain ⟨⟨t322, t325⟩, A50, H⟩ := H
 (try dsimp only at H)
 have A5 := Aside0.mk A50; clear A50
 replace H := Option.bind_eq_some_iff.mp H
 obtain ⟨⟨t327, t328⟩, A60, H⟩ := H
 (try dsimp only at H)
 have A6 := Aside0.mk A60; clear A60; have HC7 := Aside0.mk H; clear H
 go_enter Try.func58, Try.ntmps58
 go_upto_if 15 with (first | ((with_reducible refine gate_dst (N := 4) rfl ?_); refine box_ (N := 4) (cs := #[.int .i64 0, .slice none 0 0]) (t := 41) (fun gb317 hg w8 hbox hb => ?_); replace HB := (bs89_ HB hb); have BK317 := Aside0.mk (hbox); have GW317 := gk_ hg HK; have GE317 := Aside0.mk ((Nat.le_trans HW0.out (by rw [hg]; exact (keep_size (w := w) (g := g) (row := none) (hkA_ HK.out)) : w.heap.size ≤ gb317) : w0.heap.size ≤ gb317)); replace HK := (kw_ HK hb); have NB0_317 := nl89_ hg HI0; have NB317_0 := ng89_ hg HI0; replace HI0 := (ib89_ HI0 hb); clear hb hbox hg) | ((with_reducible refine gate_callee (f := 62) rfl ?_); refine goesL_ (some 7) rfl rfl Try.func62 (by kernel_rfl) rfl #[.pointer (some ⟨g, 0, none⟩), .int .i64 6] rfl ar_ ?_; (with_reducible refine (spec_l20Rd_pick.calls k g s0_0 s0_1 6 t318 t319 w0 _ ?side1 ?side2 A3.out).mono ?_); (case side1 => exact is89_ HI0.out); (case side2 => exact hb89_ HB.out); rintro e w9 ⟨rfl, hi, hb, hk⟩; refine ⟨_, rfl, ?_⟩; replace BK317 := (bkA_ BK317 hk NB317_0); replace HK := (kk_ HK hk); replace HB := Aside0.mk (hb); replace HI0 := Aside0.mk (hi); (try clear hb); (try clear hb2); (try clear hk); (try clear hi)) | ((with_reducible refine gate_callee (f := 62) rfl ?_); refine goesL_ (some 10) rfl rfl Try.func62 (by kernel_rfl) rfl #[.pointer (some ⟨g, 0, none⟩), .int .i64 8] rfl ar_ ?_; (with_reducible refine (spec_l20Rd_pick.calls k g s0_0 t319 8 t320 t321 w0 _ ?side1 ?side2 A4.out).mono ?_); (case side1 => exact is89_ HI0.out); (case side2 => exact hb89_ HB.out); rintro e w10 ⟨rfl, hi, hb, hk⟩; refine ⟨_, rfl, ?_⟩; replace BK317 := (bkA_ BK317 hk NB317_0); replace HK := (kk_ HK hk); replace HB := Aside0.mk (hb); replace HI0 := Aside0.mk (hi); (try clear hb); (try clear hb2); (try clear hk); (try clear hi)) | ((with_reducible refine gate_callee (f := 61) rfl ?_); refine goesL_ (some 11) rfl rfl Try.func61 (by kernel_rfl) rfl #[.pointer (some ⟨g, 0, none⟩), .int .i64 t320] rfl ar_ ?_; (with_reducible refine (spec_l20Rd_bytes.calls k g s0_0 t321 t320 t322 t325 w0 _ ?side1 ?side2 A5.out).mono ?_); (case side1 => exact is89_ HI0.out); (case side2 => exact hb89_ HB.out); rintro e w11 ⟨v323, rfl, ho0, hi, hb, hk⟩; refine ⟨_, rfl, ?_⟩; replace BK317 := (bkA_ BK317 hk NB317_0); have HO324 := Aside0.mk (Kd.R_lower ho0 (keep_size (w := w) (g := g) (row := none) (hkA_ HK.out))); replace HK := (kk_ HK hk); replace HB := Aside0.mk (hb); replace HI0 := Aside0.mk (hi); (try clear hb); (try clear hb2); (try clear hk); (try clear hi); (try clear ho0); obtain ⟨Ao12, co12, eo12⟩ := Kd.R_slice HO324.out; subst eo12) | ((with_reducible refine gate_dst (N := 5) rfl ?_); refine box_ (N := 5) (cs := #[.int .i64 0, .slice none 0 0]) (t := 41) (fun gb326 hg w13 hbox hb => ?_); replace HO324 := Aside0.mk (Kd.R_below (kR_ HO324.out) hb); replace HB := (bs89_ HB hb); have BK326 := Aside0.mk (hbox); have GW326 := gk_ hg HK; have GE326 := Aside0.mk ((Nat.le_trans HW0.out (by rw [hg]; exact (keep_size (w := w) (g := g) (row := none) (hkA_ HK.out)) : w.heap.size ≤ gb326) : w0.heap.size ≤ gb326)); replace HK := (kw_ HK hb); have NB317_326 := nl_ hg BK317; have NB326_317 := ng_ hg BK317; replace BK317 := (bbA_ BK317 hb); have NB0_326 := nl89_ hg HI0; have NB326_0 := ng89_ hg HI0; replace HI0 := (ib89_ HI0 hb); clear hb hbox hg; have hnb14 := NB326_317.out; have hnc14 := NB317_326.out; have hnb15 := NB326_0.out; have hnc15 := NB0_326.out; have Z16 := zz2 BK326) | ((with_reducible refine gate_callee (f := 71) rfl ?_); refine goesL_ (some 15) rfl rfl Try.func71 (by kernel_rfl) rfl #[.pointer (some ⟨g, 0, none⟩), .int .i64 a1] rfl ar_ ?_; (with_reducible refine (spec_l20Rd_odd.calls k g s0_0 t325 a1 t327 t328 w0 _ ?side1 ?side2 A6.out).mono ?_); (case side1 => exact is89_ HI0.out); (case side2 => exact hb89_ HB.out); rintro e w17 ⟨rfl, hi, hb, hk⟩; refine ⟨_, rfl, ?_⟩; replace BK317 := Aside0.mk (KeepBut.blk hk (g' := gb317) (o := .cells #[.int .i64 0, .slice none 0 0] 41 (0, 0)) (by exact kf_ BK317.out) NB317_0.out (by simp)); replace HO324 := Aside0.mk (Kd.R_mono (Kd.R_keep (IsS89.apart (show IsS89 w0 _ g s0_0 t325 from is89_ HI0.out) (by refine kR_ ?_; exact (rfm_ ((Kd.R_types HO324.out BK326.out (by decide))) (fun _ h_ => op1_ h_))) (by decide)) hk (fun _ h => h.2)) (fun _ h => h.1)); replace BK326 := Aside0.mk (KeepBut.blk hk (g' := gb326) (o := .cells #[.int .i64 t318, .slice Ao12 t322.length co12] 41 (0, 0)) (by refine kb_ ?_; refine pz2 (cs := #[.int .i64 0, .slice none 0 0]) ?_; refine kb_ ?_; exact BK326.out) NB326_0.out (by simp)); replace HK := (kk_ HK hk); replace HB := Aside0.mk (hb); replace HI0 := Aside0.mk (hi); (try clear hb); (try clear hb2); (try clear hk); (try clear hi)))
 (try simp only [Act.put, List.setIfInBounds_toArray, List.set_cons_zero, List.set_cons_succ])
 go_cut [] (fun wc => ∃ (kq : Nat) (x1001_6 : Int) (x327000_6 : Int), Aside0 (spec_l20Words.j0 kq a1 s0_0 x1001_6 x327000_6 t322 = some (r1, r2, r3)) ∧ Aside0 (kq ≤ k) ∧ Aside0 (Kd.R (Kd.int .u8) 5 wc w.heap.size (fun _ => True) (.slice Ao12 t322.length co12) t322) ∧ Aside0 (wc.heap[gb317]? = some (.cells #[.int .i64 0, (.slice none 0 0)] 41 (0, 0))) ∧ Aside0 (wc.heap[gb326]? = some (.cells #[.int .i64 x327000_6, (.slice Ao12 t322.length co12)] 41 (0, 0))) ∧ Aside0 (IsS89 w0 wc g s0_0 x1001_6) ∧ Aside0 (KeepBut w wc g none) ∧ Aside0 (Below w0.heap.size w0 wc))
 case first =>
  have H := HC7.out; clear HC7
  by_cases c18 : t327 = true
  ·subst c18
   rw [if_pos rfl] at H
   replace H := Option.bind_eq_some_iff.mp H
   obtain ⟨⟨t329, t330⟩, A190, H⟩ := H
   (try dsimp only at H)
   have A19 := Aside0.mk A190; clear A190
   have H' := Aside0.mk H
   clear H
   go_wp2_with (first | ((with_reducible refine gate_callee (f := 62) rfl ?_); refine goesL_ (some 17) rfl rfl Try.func62 (by kernel_rfl) rfl #[.pointer (some ⟨g, 0, none⟩), .int .i64 2] rfl ar_ ?_; (with_reducible refine (spec_l20Rd_pick.calls k g s0_0 t328 2 t329 t330 w0 _ ?side1 ?side2 A19.out).mono ?_); (case side1 => exact is89_ HI0.out); (case side2 => exact hb89_ HB.out); rintro e w20 ⟨rfl, hi, hb, hk⟩; refine ⟨_, rfl, ?_⟩; replace BK317 := (bkA_ BK317 hk NB317_0); replace HO324 := (rk89_ HI0 HO324 hk); replace BK326 := (bkA_ BK326 hk NB326_0); replace HK := (kk_ HK hk); replace HB := Aside0.mk (hb); replace HI0 := Aside0.mk (hi); (try clear hb); (try clear hb2); (try clear hk); (try clear hi); have hnb21 := NB326_317.out; have hnc21 := NB317_326.out; have hnb22 := NB326_0.out; have hnc22 := NB0_326.out; have Z23 := zz2 BK326))
   go_meet
   case rel => exact ⟨_, (t330), (wrap64 (256 - (wrap64 (t329 * 300)))), H', ⟨by first | omega | exact Nat.le_refl _⟩, ⟨by refine kR_ ?_; exact Kd.R_mono (Kd.R_f gb326 0 (.int .i64 (wrap64 (256 - (wrap64 (t329 * 300))))) (Kd.R_types HO324.out BK326.out (by decide))) (fun _ hk => trivial)⟩, ⟨by exact kf_ BK317.out⟩, ⟨by refine kb_ ?_; refine blk_put (cs := #[.int .i64 t318, .slice Ao12 t322.length co12]) ?_ 0 _ rfl; refine kb_ ?_; exact BK326.out⟩, ⟨is89_ HI0.out⟩, ⟨hkA_ HK.out⟩, ⟨hb89_ HB.out⟩⟩
  ·replace c18 := Bool.eq_false_iff.mpr c18
   subst c18
   rw [if_neg (show ¬ (false = true) by decide)] at H
   have H' := Aside0.mk H
   clear H
   go_wp2
   go_meet
   case rel => exact ⟨_, (t328), (t318), H', ⟨by first | omega | exact Nat.le_refl _⟩, ⟨kR_ HO324.out⟩, ⟨by refine kb_ ?_; exact BK317.out⟩, ⟨by refine kb_ ?_; exact BK326.out⟩, ⟨is89_ HI0.out⟩, ⟨hkA_ HK.out⟩, ⟨hb89_ HB.out⟩⟩
 case rest =>
  clear HC7; (try clear c1); (try clear c2); (try clear p2); (try clear c5); (try clear c6); (try clear p6); (try clear c7); (try clear c14); (try clear c15); (try clear c18); (try clear c21); (try clear c22); (try clear Z16); (try clear Z23)
  obtain ⟨kq, x1001_6, x327000_6, HA, HJ6, HO_327001, BK317, BK326, HI0, HK, HB⟩ := hcut
  cases kq with
  | zero => exact absurd HA.out (by simp [spec_l20Words.j0])
  | succ kj6 =>
   have H := HA.out; clear HA
   simp only [spec_l20Words.j0] at H
   replace H := Option.bind_eq_some_iff.mp H
   obtain ⟨⟨t331, t332⟩, A240, H⟩ := H
   (try dsimp only at H)
   have A24 := Aside0.mk A240; clear A240
   by_cases c25 : t331 = true
   ·subst c25
    rw [if_pos rfl] at H
    by_cases c26 : 10 ≤ 281474976710656
    ·rw [if_pos c26] at H
     have c26b0 := eq_true c26
     have c26b1 : decide (10 ≤ 281474976710656) = true := decide_eq_true c26
     clear c26
     obtain ⟨y333, hy333⟩ : ∃ y_ : List Int, y_ = (List.replicate 10 0) := ⟨_, rfl⟩
     (first | replace H := sb_ hy333 H | rw [← hy333] at H)
     have Ny333 := Aside0.mk hy333; clear hy333
     simp only [Option.some.injEq, Prod.mk.injEq] at H
     obtain ⟨rfl, rfl, rfl⟩ := H
     go_wp2_with (first | ((with_reducible refine gate_callee (f := 71) rfl ?_); refine goesL_ (some 23) rfl rfl Try.func71 (by kernel_rfl) rfl #[.pointer (some ⟨g, 0, none⟩), .int .i64 a1] rfl ar_ ?_; (with_reducible refine (spec_l20Rd_odd.calls kj6 g s0_0 x1001_6 a1 true t332 w0 _ ?side1 ?side2 A24.out).mono ?_); (case side1 => exact is89_ HI0.out); (case side2 => exact hb89_ HB.out); rintro e w27 ⟨rfl, hi, hb, hk⟩; refine ⟨_, rfl, ?_⟩; replace HO_327001 := (rk89_ HI0 HO_327001 hk); replace BK317 := (bkA_ BK317 hk NB317_0); replace BK326 := (bkA_ BK326 hk NB326_0); replace HK := (kk_ HK hk); replace HB := Aside0.mk (hb); replace HI0 := Aside0.mk (hi); (try clear hb); (try clear hb2); (try clear hk); (try clear hi)) | ((with_reducible refine gate_dst (N := 24) rfl ?_); refine Kd.R_make (Kd.int .u8) _ 5 rfl (N := 24) rfl 34 _ _ rfl 10 rfl rfl Try.underlying34 (.int .u8 0) 1 info5 rfl (by decide) (by omega) 0 (ok := fun _ => True) (okp := fun _ => True) rfl (fun _ hk => hk) trivial (by omega) (by omega) (Below.refl _ _) (Nat.le_refl _) ?_; intro v334 w28 ho29 hb hg_ hnew_; clear hg_ hnew_; (first | rw [← Ny333.out] at ho29 | (simp only [Int.reduceToNat] at ho29; rw [← Ny333.out] at ho29)); have HO335 := Aside0.mk (Kd.R_lower (Kd.R_new' ho29 (Kd.R_lt (kR_ HO_327001.out))) (keep_size (w := w) (g := g) (row := none) (hkA_ HK.out))); replace HO_327001 := Aside0.mk (Kd.R_elder' (kR_ HO_327001.out) (Kd.R_base ho29) hb); replace BK317 := (bbA_ BK317 hb); replace BK326 := (bbA_ BK326 hb); replace HI0 := (ib89_ HI0 hb); replace HK := (kw_ HK hb); replace HB := (bs89_ HB hb); clear hb ho29; obtain ⟨Ao30, co30, eo30⟩ := Kd.R_slice HO335.out; subst eo30; have hnb31 := NB326_317.out; have hnc31 := NB317_326.out; have hnb32 := NB326_0.out; have hnc32 := NB0_326.out; have Z33 := zz2 BK326; have hnb34 := NB317_0.out; have hnc34 := NB0_317.out; have Z35 := zz2 BK317))
     refine bodyPost_ret (results_cell_row rfl _ _ gb317 41 #[.int .i64 x327000_6, .slice Ao30 y333.length co30] (0, 0) _ rfl (by refine kb_ ?_; refine pz2 (cs := #[.int .i64 0, .slice none 0 0]) ?_; exact kf_ BK317.out) Try.underlying41 rfl (by kernel_rfl)) rfl ?_
     exact ⟨_, by first | rfl | (simp [errW_none, errW_some] <;> rfl) | (simp [*, errW_none, errW_some] <;> rfl), by refine kR_ ?_; exact rfm_ ((Kd.R_far (p := ⟨gb326, 1, none⟩) (Kd.R_types (Kd.R_types HO335.out BK326.out (by decide)) BK317.out (by decide)) (fun _ hk => hk.1.2) (.slice Ao30 y333.length co30))) (fun _ hk => trivial), is89_ HI0.out, hb89_ HB.out, hkA_ HK.out⟩
    ·rw [if_neg c26] at H
     exact absurd H (by simp)
   ·replace c25 := Bool.eq_false_iff.mpr c25
    subst c25
    rw [if_neg (show ¬ (false = true) by decide)] at H
    simp only [Option.some.injEq, Prod.mk.injEq] at H
    obtain ⟨rfl, rfl, rfl⟩ := H
    go_wp2_with (first | ((with_reducible refine gate_callee (f := 71) rfl ?_); refine goesL_ (some 23) rfl rfl Try.func71 (by kernel_rfl) rfl #[.pointer (some ⟨g, 0, none⟩), .int .i64 a1] rfl ar_ ?_; (with_reducible refine (spec_l20Rd_odd.calls kj6 g s0_0 x1001_6 a1 false t332 w0 _ ?side1 ?side2 A24.out).mono ?_); (case side1 => exact is89_ HI0.out); (case side2 => exact hb89_ HB.out); rintro e w36 ⟨rfl, hi, hb, hk⟩; refine ⟨_, rfl, ?_⟩; replace HO_327001 := (rk89_ HI0 HO_327001 hk); replace BK317 := (bkA_ BK317 hk NB317_0); replace BK326 := (bkA_ BK326 hk NB326_0); replace HK := (kk_ HK hk); replace HB := Aside0.mk (hb); replace HI0 := Aside0.mk (hi); (try clear hb); (try clear hb2); (try clear hk); (try clear hi); have hnb37 := NB326_317.out; have hnc37 := NB317_326.out; have hnb38 := NB326_0.out; have hnc38 := NB0_326.out; have Z39 := zz2 BK326; have hnb40 := NB317_0.out; have hnc40 := NB0_317.out; have Z41 := zz2 BK317))
    refine bodyPost_ret (results_cell_row rfl _ _ gb317 41 #[.int .i64 x327000_6, .slice Ao12 t322.length co12] (0, 0) _ rfl (by refine kb_ ?_; refine pz2 (cs := #[.int .i64 0, .slice none 0 0]) ?_; refine kb_ ?_; exact BK317.out) Try.underlying41 rfl (by kernel_rfl)) rfl ?_
    exact ⟨_, by first | rfl | (simp [errW_none, errW_some] <;> rfl) | (simp [*, errW_none, errW_some] <;> rfl), by refine kR_ ?_; exact rfm_ ((Kd.R_types HO_327001.out BK317.out (by decide))) (fun _ hk => trivial), is89_ HI0.out, hb89_ HB.out, hkA_ HK.out⟩
def spec_l20Asking.l0 : Nat → Int → Int → List Int → Int → Int → List Int → List (S41) → List Int → Option (Int × List Int × (List (S41)) × List Int × Int)
 | 0, _, _, _, _, _, _, _, _ => none
 | k + 1, x1, x6, x1000, x1001, x338000, x338001, x338002, x338003 => if x6 > 0 then ((spec_l20Rd_pick.f k x1000 x1001 3).bind fun bt340 => (if bt340.1 = 0 then ((spec_l20Words.f k x1000 bt340.2 0).bind fun bt342 => ((spec_ClientHear.f k x338000 x338001 x338002 x338003 bt342.1 bt342.2.1).bind fun bt347 => (spec_l20Asking.l0 k x1 (wrap64 (x6 - 1)) x1000 bt342.2.2 bt347.1 bt347.2.1 bt347.2.2.1 bt347.2.2.2.1))) else (if bt340.1 = 1 then ((spec_l20Rd_pick.f k x1000 bt340.2 6).bind fun bt358 => (if bt358.1 = 0 then ((spec_ClientOver.f k x338000 x338001 x338002 x338003).bind fun bt360 => (spec_l20Asking.l0 k x1 (wrap64 (x6 - 1)) x1000 bt358.2 bt360.1 bt360.2.1 bt360.2.2.1 bt360.2.2.2)) else (spec_l20Asking.l0 k x1 (wrap64 (x6 - 1)) x1000 bt358.2 x338000 x338001 x338002 x338003))) else ((spec_l20Rd_pick.f k x1000 bt340.2 5).bind fun bt370 => ((spec_l20Rd_bytes.f k x1000 bt370.2 bt370.1).bind fun bt372 => ((spec_ClientAsk.f k x338000 x338001 x338002 x338003 bt372.1).bind fun bt376 => (spec_l20Asking.l0 k x1 (wrap64 (x6 - 1)) x1000 bt372.2 bt376.1 bt376.2.1 bt376.2.2.1 bt376.2.2.2.1))))))) else ((spec_l20Rd_odd.f k x1000 x1001 x1).bind fun bt390 => (if bt390.1 = true then ((spec_l20Rd_pick.f k x1000 bt390.2 4).bind fun bt392 => (if bt392.1 = 0 then (some (wrap64 (x338000 + 1), x338001, x338002, x338003, bt392.2)) else (if bt392.1 = 1 then (if x338001.length < 17592186044416 then (some (x338000, (x338001 ++ [0]), x338002, x338003, bt392.2)) else (none)) else (if bt392.1 = 2 then (some (257, x338001, x338002, x338003, bt392.2)) else (if 10 ≤ 281474976710656 then (if x338002.length < 4398046511104 then (some (wrap64 (x338000 + 1), x338001, (x338002 ++ [(⟨x338000, (List.replicate 10 0)⟩ : S41)]), x338003, bt392.2)) else (none)) else (none)))))) else (some (x338000, x338001, x338002, x338003, bt390.2))))
def spec_l20Asking.f (k : Nat) (s0_0 : List Int) (s0_1 : Int) (a1 : Int) : Option (Int × List Int × (List (S41)) × List Int × Int) := (spec_l20Rd_pick.f k s0_0 s0_1 12).bind fun bt338 => (spec_l20Asking.l0 k a1 bt338.1 s0_0 bt338.2 0 ([] : List Int) ([] : List (S41)) ([] : List Int))
theorem spec_l20Asking.mono_l : ∀ k, (∀ y0 y1 y2 y3 y4 y5 y6 y7, LeO (spec_l20Asking.l0 k y0 y1 y2 y3 y4 y5 y6 y7) (spec_l20Asking.l0 (k + 1) y0 y1 y2 y3 y4 y5 y6 y7))
 | 0 => fun _ _ _ _ _ _ _ _ r h => by simp [spec_l20Asking.l0] at h
 | k + 1 => by
  have ih0 := spec_l20Asking.mono_l k
  ·intro y0 y1 y2 y3 y4 y5 y6 y7
   unfold spec_l20Asking.l0
   repeat' first | (with_reducible first | apply ih0 | apply spec_ClientAsk.mono | apply spec_ClientHear.mono | apply spec_ClientOver.mono | apply spec_l20Rd_bytes.mono | apply spec_l20Rd_odd.mono | apply spec_l20Rd_pick.mono | apply spec_l20Words.mono | exact LeO.refl _ | exact LeO.none _ | refine LeO.ite ?_ ?_ | refine LeO.bind ?_ fun _ => ?_) | apply ih0 | apply spec_ClientAsk.mono | apply spec_ClientHear.mono | apply spec_ClientOver.mono | apply spec_l20Rd_bytes.mono | apply spec_l20Rd_odd.mono | apply spec_l20Rd_pick.mono | apply spec_l20Words.mono | exact LeO.none _ | refine LeO.ite ?_ ?_ | refine LeO.bind ?_ fun _ => ?_
theorem spec_l20Asking.mono : ∀ a0 a1 a2 k, LeO (spec_l20Asking.f k a0 a1 a2) (spec_l20Asking.f (k + 1) a0 a1 a2) := by
 intro a0 a1 a2 k
 have ih0 := spec_l20Asking.mono_l k
 unfold spec_l20Asking.f
 repeat' first | (with_reducible first | apply ih0 | apply spec_ClientAsk.mono | apply spec_ClientHear.mono | apply spec_ClientOver.mono | apply spec_l20Rd_bytes.mono | apply spec_l20Rd_odd.mono | apply spec_l20Rd_pick.mono | apply spec_l20Words.mono | exact LeO.refl _ | exact LeO.none _ | refine LeO.ite ?_ ?_ | refine LeO.bind ?_ fun _ => ?_) | apply ih0 | apply spec_ClientAsk.mono | apply spec_ClientHear.mono | apply spec_ClientOver.mono | apply spec_l20Rd_bytes.mono | apply spec_l20Rd_odd.mono | apply spec_l20Rd_pick.mono | apply spec_l20Words.mono | exact LeO.none _ | refine LeO.ite ?_ ?_ | refine LeO.bind ?_ fun _ => ?_
def spec_l20Asking.T6 : Bool × List (List Nat × List Nat) := (true, [([], []), ([], []), ([], []), ([2], [2]), ([1, 3, 3], [1, 3]), ([0, 4, 4], [0, 4]), ([5], [5]), ([6], [6]), ([6], [6]), ([6], [6]), ([7, 5, 0, 1, 2, 3, 4, 5, 6, 7], [7])])
def spec_l20Asking.B6 : List Nat := [0, 0, 0, 4, 14, 31, 63, 127, 127, 127, 255]
theorem spec_l20Asking.tab6 : rtab .any (opsOf Try.f52 6) = spec_l20Asking.T6 := by kernel_rfl
theorem spec_l20Asking.bits6 : waitsOk spec_l20Asking.T6.2 spec_l20Asking.B6 = true := by kernel_rfl
def spec_l20Asking.T8 : Bool × List (List Nat × List Nat) := (true, [([], []), ([], []), ([1], [1]), ([0, 2, 2], [0, 2]), ([3], [3]), ([4], [4]), ([4], [4]), ([5, 3, 0, 1, 2, 3, 4, 5], [5])])
def spec_l20Asking.B8 : List Nat := [0, 0, 2, 7, 15, 31, 31, 63]
theorem spec_l20Asking.tab8 : rtab .any (opsOf Try.f52 8) = spec_l20Asking.T8 := by kernel_rfl
theorem spec_l20Asking.bits8 : waitsOk spec_l20Asking.T8.2 spec_l20Asking.B8 = true := by kernel_rfl
def spec_l20Asking.T14 : Bool × List (List Nat × List Nat) := (true, [([], []), ([0], [0]), ([], []), ([2], [2]), ([], []), ([3, 4], [3, 4]), ([5], [5]), ([1, 6], [1, 6]), ([0, 1, 2, 3, 4, 5, 6, 7], []), ([8, 7, 7, 0, 1, 2, 3, 4, 5, 6, 7], [7, 8])])
def spec_l20Asking.B14 : List Nat := [0, 1, 0, 4, 0, 28, 60, 127, 255, 511]
theorem spec_l20Asking.tab14 : rtab .any (opsOf Try.f52 14) = spec_l20Asking.T14 := by kernel_rfl
theorem spec_l20Asking.bits14 : waitsOk spec_l20Asking.T14.2 spec_l20Asking.B14 = true := by kernel_rfl
set_option maxHeartbeats 8000000 in
set_option maxRecDepth 100000 in
theorem spec_l20Asking.calls (k : Nat) (g : Nat) (s0_0 : List Int) (s0_1 : Int) (a1 : Int) (r1 : Int) (r2 : List Int) (r3 : List (S41)) (r4 : List Int) (r5 : Int) (w0 w : World) (hI : IsS89 w0 w g s0_0 s0_1) (hB : Below w0.heap.size w0 w) (h : spec_l20Asking.f k s0_0 s0_1 a1 = some (r1, r2, r3, r4, r5)) :
  Calls Try.prog 52 #[.pointer (some ⟨g, 0, none⟩), .int .i64 a1] w fun e w' => ∃ v1_ v2_ v3_ : Value, e = .returned (.agg #[.int .i64 r1, v1_, v2_, v3_]) ∧ Kd.R (Kd.int .i64) 3 w' w.heap.size (fun k_ => some k_ ≠ (v3_ : Value).ownBlock) v1_ r2 ∧ Kd.S k41 41 w' w.heap.size (fun _ => True) v2_ r3 ∧ Kd.R (Kd.int .i64) 3 w' w.heap.size (fun k_ => some k_ ≠ (v1_ : Value).ownBlock) v3_ r4 ∧ IsS89 w0 w' g s0_0 r5 ∧ Below w0.heap.size w0 w' ∧ KeepBut w w' g none := by
 have hu30 := Try.underlying30; have hu41 := Try.underlying41; have HI0 := Aside0.mk hI
 have HK := Aside0.mk (KeepBut.refl w g none)
 have HL := Aside0.mk hB.size; clear hI; have HW0 := Aside0.mk hB.size; have HB := Aside0.mk hB; clear hB
 have H : ((spec_l20Rd_pick.f k s0_0 s0_1 12).bind fun bt338 => (spec_l20Asking.l0 k a1 bt338.1 s0_0 bt338.2 0 ([] : List Int) ([] : List (S41)) ([] : List Int))) = some (r1, r2, r3, r4, r5) := h
 clear h
 replace H := Option.bind_eq_some_iff.mp H
 obtain ⟨⟨t338, t339⟩, A30, H⟩ := H
 (try dsimp only at H)
 have A3 := Aside0.mk A30; clear A30
 have H' := Aside0.mk H
 clear H
 go_enter Try.func52, Try.ntmps52
 go_wp2_with (first | ((with_reducible refine gate_dst (N := 4) rfl ?_); refine box_ (N := 4) (cs := #[.int .i64 0, .slice none 0 0, .slice none 0 0, .slice none 0 0]) (t := 30) (fun gb336 hg w4 hbox hb => ?_); replace HB := (bs89_ HB hb); have BK336 := Aside0.mk (hbox); have GW336 := gk_ hg HK; have GE336 := Aside0.mk ((Nat.le_trans HW0.out (by rw [hg]; exact (keep_size (w := w) (g := g) (row := none) (hkA_ HK.out)) : w.heap.size ≤ gb336) : w0.heap.size ≤ gb336)); replace HK := (kw_ HK hb); have NB0_336 := nl89_ hg HI0; have NB336_0 := ng89_ hg HI0; replace HI0 := (ib89_ HI0 hb); clear hb hbox hg) | ((with_reducible refine gate_dst (N := 5) rfl ?_); refine box_ (N := 5) (cs := #[.int .i64 0, .slice none 0 0, .slice none 0 0, .slice none 0 0]) (t := 30) (fun gb337 hg w5 hbox hb => ?_); replace HB := (bs89_ HB hb); have BK337 := Aside0.mk (hbox); have GW337 := gk_ hg HK; have GE337 := Aside0.mk ((Nat.le_trans HW0.out (by rw [hg]; exact (keep_size (w := w) (g := g) (row := none) (hkA_ HK.out)) : w.heap.size ≤ gb337) : w0.heap.size ≤ gb337)); replace HK := (kw_ HK hb); have NB336_337 := nl_ hg BK336; have NB337_336 := ng_ hg BK336; replace BK336 := (bbA_ BK336 hb); have NB0_337 := nl89_ hg HI0; have NB337_0 := ng89_ hg HI0; replace HI0 := (ib89_ HI0 hb); clear hb hbox hg; have hnb6 := NB337_336.out; have hnc6 := NB336_337.out; have hnb7 := NB337_0.out; have hnc7 := NB0_337.out; have Z8 := zz4 BK337) | ((with_reducible refine gate_callee (f := 62) rfl ?_); refine goesL_ (some 9) rfl rfl Try.func62 (by kernel_rfl) rfl #[.pointer (some ⟨g, 0, none⟩), .int .i64 12] rfl ar_ ?_; (with_reducible refine (spec_l20Rd_pick.calls k g s0_0 s0_1 12 t338 t339 w0 _ ?side1 ?side2 A3.out).mono ?_); (case side1 => exact is89_ HI0.out); (case side2 => exact hb89_ HB.out); rintro e w9 ⟨rfl, hi, hb, hk⟩; refine ⟨_, rfl, ?_⟩; replace BK336 := Aside0.mk (KeepBut.blk hk (g' := gb336) (o := .cells #[.int .i64 0, .slice none 0 0, .slice none 0 0, .slice none 0 0] 30 (0, 0)) (by exact kf_ BK336.out) NB336_0.out (by simp)); replace BK337 := Aside0.mk (KeepBut.blk hk (g' := gb337) (o := .cells #[.int .i64 0, .slice none 0 0, .slice none 0 0, .slice none 0 0] 30 (0, 0)) (by refine kb_ ?_; refine pz4 (cs := #[.int .i64 0, .slice none 0 0, .slice none 0 0, .slice none 0 0]) ?_; refine kb_ ?_; exact BK337.out) NB337_0.out (by simp)); replace HK := (kk_ HK hk); replace HB := Aside0.mk (hb); replace HI0 := Aside0.mk (hi); (try clear hb); (try clear hb2); (try clear hk); (try clear hi)))
 go_loopg [6] k (fun kq v6 w' => ∃ (x6_1 : Int) (x1001_1 : Int) (x338000_1 : Int) (x338001_1 : List Int) (x338002_1 : List (S41)) (x338003_1 : List Int) (u338001 : Value) (u338002 : Value) (u338003 : Value), v6 = .int .i64 x6_1 ∧ Aside0 (spec_l20Asking.l0 kq a1 x6_1 s0_0 x1001_1 x338000_1 x338001_1 x338002_1 x338003_1 = some (r1, r2, r3, r4, r5)) ∧ Aside0 (kq ≤ k) ∧ Aside0 (Kd.R (Kd.int .i64) 3 w' w.heap.size (fun k_ => some k_ ≠ (u338003 : Value).ownBlock) u338001 x338001_1) ∧ Aside0 (Kd.S k41 41 w' w.heap.size (fun _ => True) u338002 x338002_1) ∧ Aside0 (Kd.R (Kd.int .i64) 3 w' w.heap.size (fun k_ => some k_ ≠ (u338001 : Value).ownBlock) u338003 x338003_1) ∧ Aside0 (w'.heap[gb336]? = some (.cells #[.int .i64 0, (.slice none 0 0), (.slice none 0 0), (.slice none 0 0)] 30 (0, 0))) ∧ Aside0 (w'.heap[gb337]? = some (.cells #[.int .i64 x338000_1, u338001, u338002, u338003] 30 (0, 0))) ∧ Aside0 (IsS89 w0 w' g s0_0 x1001_1) ∧ Aside0 (KeepBut w w' g none) ∧ Aside0 (Below w0.heap.size w0 w'))
 case atStart => exact ⟨(t338), (t339), (0), (([] : List Int)), (([] : List (S41))), (([] : List Int)), (.slice none 0 0), (.slice none 0 0), (.slice none 0 0), (by first | rfl | (simp; done) | (simp [*]; done)), H', ⟨Nat.le_refl _⟩, ⟨by first | exact Kd.R_nil _ _ _ _ _ | exact Kd.N_nil _ _ _ _ _ | exact Kd.V_nil _ _ _ _ _ | exact Kd.Q_nil _ _ _ _ _ | exact Kd.S_nil _ _ _ _ _⟩, ⟨by first | exact Kd.S_nil _ _ _ _ _ | exact Kd.N_nil _ _ _ _ _ | exact Kd.V_nil _ _ _ _ _ | exact Kd.Q_nil _ _ _ _ _ | exact Kd.R_nil _ _ _ _ _⟩, ⟨by first | exact Kd.R_nil _ _ _ _ _ | exact Kd.N_nil _ _ _ _ _ | exact Kd.V_nil _ _ _ _ _ | exact Kd.Q_nil _ _ _ _ _ | exact Kd.S_nil _ _ _ _ _⟩, ⟨by refine kb_ ?_; exact BK336.out⟩, ⟨by refine kb_ ?_; exact BK337.out⟩, ⟨is89_ HI0.out⟩, ⟨hkA_ HK.out⟩, ⟨hb89_ HB.out⟩⟩
 case round =>
  clear H'; (try clear p2); (try clear c5); (try clear c6); (try clear c7); (try clear Z8)
  obtain ⟨x6_1, x1001_1, x338000_1, x338001_1, x338002_1, x338003_1, u338001, u338002, u338003, rfl, HA, HK1, HO_338001, HO_338002, HO_338003, BK336, BK337, HI0, HK, HB⟩ := hrel
  cases gk with
  | zero => exact absurd HA.out (by simp [spec_l20Asking.l0])
  | succ k1 =>
   have H := HA.out; clear HA
   simp only [spec_l20Asking.l0] at H
   by_cases c10 : x6_1 > 0
   ·rw [if_pos c10] at H
    have c10b0 : decide (0 < x6_1) = true := decide_eq_true c10
    clear c10
    replace H := Option.bind_eq_some_iff.mp H
    obtain ⟨⟨t340, t341⟩, A110, H⟩ := H
    (try dsimp only at H)
    have A11 := Aside0.mk A110; clear A110
    by_cases c12 : t340 = 0
    ·rw [if_pos c12] at H
     have c12b0 : (t340 == 0) = true := beq_iff_eq.mpr c12
     have c12b1 : (t340 != 0) = false := bne_eq_false_iff_eq.mpr c12
     clear c12
     replace H := Option.bind_eq_some_iff.mp H
     obtain ⟨⟨t342, t343, t346⟩, A130, H⟩ := H
     (try dsimp only at H)
     have A13 := Aside0.mk A130; clear A130
     replace H := Option.bind_eq_some_iff.mp H
     obtain ⟨⟨t347, t348, t351, t354, t357⟩, A140, H⟩ := H
     (try dsimp only at H)
     have A14 := Aside0.mk A140; clear A140
     have H' := Aside0.mk H
     clear H
     try go_wp2_with (first | ((with_reducible refine gate_callee (f := 62) rfl ?_); refine goesL_ (some 15) rfl rfl Try.func62 (by kernel_rfl) rfl #[.pointer (some ⟨g, 0, none⟩), .int .i64 3] rfl ar_ ?_; (with_reducible refine (spec_l20Rd_pick.calls k1 g s0_0 x1001_1 3 t340 t341 w0 _ ?side1 ?side2 A11.out).mono ?_); (case side1 => exact is89_ HI0.out); (case side2 => exact hb89_ HB.out); rintro e w15 ⟨rfl, hi, hb, hk⟩; refine ⟨_, rfl, ?_⟩; replace HO_338001 := (rk89_ HI0 HO_338001 hk); replace HO_338002 := Aside0.mk (Kd.S_mono (Kd.S_keep (IsS89.apartS (show IsS89 w0 _ g s0_0 x1001_1 from is89_ HI0.out) (kS_ HO_338002.out) (by decide)) hk (fun _ h => h.2)) (fun _ h => h.1)); replace HO_338003 := (rk89_ HI0 HO_338003 hk); replace BK336 := (bkA_ BK336 hk NB336_0); replace BK337 := (bkA_ BK337 hk NB337_0); replace HK := (kk_ HK hk); replace HB := Aside0.mk (hb); replace HI0 := Aside0.mk (hi); (try clear hb); (try clear hb2); (try clear hk); (try clear hi)))
     replace HO_338001 := Aside0.mk (Kd.R_drew HO_338001.out); replace HO_338002 := Aside0.mk (Kd.S_drew HO_338002.out); replace HO_338003 := Aside0.mk (Kd.R_drew HO_338003.out); replace BK336 := Aside0.mk (blk_drew BK336.out); replace BK337 := Aside0.mk (blk_drew BK337.out); replace HI0 := Aside0.mk (IsS89.drew HI0.out); replace HK := Aside0.mk (keep_drew HK.out); replace HB := (bd_ HB)
     refine start_ (n := 8) (S := fun w' => w'.cell? ⟨gb337, 0, none⟩ = some (.int .i64 x338000_1) ∧ w'.cell? ⟨gb337, 1, none⟩ = some (u338001) ∧ w'.cell? ⟨gb337, 2, none⟩ = some (u338002) ∧ w'.cell? ⟨gb337, 3, none⟩ = some (u338003)) (ds := [7]) #[false, false, false, false, false, false, false, false] (by kernel_rfl) rfl rfl (cz4 BK337.out) (fun hHeld => ?_); refine with_tabW spec_l20Asking.tab8 spec_l20Asking.bits8 (fun HT_ HW_ => ?_)
     generalize w15.drew = w16 at HO_338001 HO_338002 HO_338003 BK336 BK337 HI0 HK HB hHeld ⊢
     refine pu_ (i := 1) (N := some 30) HT_ ?_; refine tk_ (i := 0) (N := some 29) HT_ HW_ hHeld ?_
     refine on_ (i := 2) (N := some 31) HT_ (fun K hK => ?_)
     refine goes_ Try.func58 (by kernel_rfl) rfl #[.pointer (some ⟨g, 0, none⟩), .int .i64 0] (by rfl) rfl rfl ar_ ?_
     with_reducible refine (spec_l20Words.calls k1 g s0_0 t341 0 t342 t343 t346 w0 _ ?side1 ?side2 A13.out).mono ?_
     (case side1 => exact is89_ HI0.out)
     (case side2 => exact hb89_ HB.out)
     rintro e w17 ⟨v344, rfl, ho0, hi, hb, hk⟩
     refine ⟨_, rfl, ?_⟩
     replace HO_338001 := (rk89_ HI0 HO_338001 hk); replace HO_338002 := Aside0.mk (Kd.S_mono (Kd.S_told (Kd.S_oldK (IsS89.apartS (show IsS89 w0 _ g s0_0 t341 from is89_ HI0.out) (kS_ HO_338002.out) (by decide)) hk) (Kd.R_base ho0)) (fun _ h_ => op1_ h_)); replace HO_338003 := (rk89_ HI0 HO_338003 hk); replace BK336 := (bkA_ BK336 hk NB336_0); replace BK337 := (bkA_ BK337 hk NB337_0); have HO345 := Aside0.mk (Kd.R_lower ho0 (keep_size (w := w) (g := g) (row := none) (hkA_ HK.out))); replace HK := (kk_ HK hk); replace HB := Aside0.mk (hb); replace HI0 := Aside0.mk (hi); (try clear hb); (try clear hb2); (try clear hk); (try clear hi); (try clear ho0)
     obtain ⟨Ao18, co18, eo18⟩ := Kd.R_slice HO_338001.out
     (first | subst eo18 | (injection eo18 with f1_ f2_ f3_; have f4_ := f1_.symm; have f5_ := f3_.symm; clear f1_ f2_ f3_; subst f4_; subst f5_))
     obtain ⟨Ao19, co19, eo19⟩ := Kd.S_slice HO_338002.out
     (first | subst eo19 | (injection eo19 with f1_ f2_ f3_; have f4_ := f1_.symm; have f5_ := f3_.symm; clear f1_ f2_ f3_; subst f4_; subst f5_))
     obtain ⟨Ao20, co20, eo20⟩ := Kd.R_slice HO_338003.out
     (first | subst eo20 | (injection eo20 with f1_ f2_ f3_; have f4_ := f1_.symm; have f5_ := f3_.symm; clear f1_ f2_ f3_; subst f4_; subst f5_))
     obtain ⟨Ao21, co21, eo21⟩ := Kd.R_slice HO345.out
     (first | subst eo21 | (injection eo21 with f1_ f2_ f3_; have f4_ := f1_.symm; have f5_ := f3_.symm; clear f1_ f2_ f3_; subst f4_; subst f5_))
     refine hK.out _ _ (cz4 BK337.out) (fun hHeld => ?_)
     clear hK K; refine nm_ 31 ?_
     refine on_ (i := 3) (N := some 32) HT_ (fun K hK => ?_)
     refine goes_ Try.func24 (by kernel_rfl) rfl #[.agg #[.int .i64 x338000_1, .slice Ao18 x338001_1.length co18, .slice Ao19 x338002_1.length co19, .slice Ao20 x338003_1.length co20], .agg #[.int .i64 t342, .slice Ao21 t343.length co21]] (by rfl) rfl rfl ar_ ?_
     with_reducible refine (spec_ClientHear.calls k1 x338000_1 _ _ x338001_1 _ _ x338002_1 _ _ x338003_1 t342 _ _ t343 t347 t348 t351 t354 t357 _ ?side1 ?side2 ?side3 ?side4 ?side5 ?side6 ?side7 ?side8 A14.out).mono ?_
     (case side1 => exact kC_ (Kd.R_reads' HO_338001.out).2.2)
     (case side2 => exact (Kd.R_reads' HO_338001.out).2.1)
     (case side3 => exact kC_ (Kd.S_reads' HO_338002.out).2.2)
     (case side4 => exact (Kd.S_reads' HO_338002.out).2.1)
     (case side5 => exact kC_ (Kd.R_reads' HO_338003.out).2.2)
     (case side6 => exact (Kd.R_reads' HO_338003.out).2.1)
     (case side7 => exact kC_ (Kd.R_reads' HO345.out).2.2)
     (case side8 => exact (Kd.R_reads' HO345.out).2.1)
     rintro e w22 ⟨v349, v352, v355, rfl, ho0, ho1, ho2, hb⟩
     refine ⟨_, rfl, ?_⟩
     have HO350 := Aside0.mk (Kd.R_lower (Kd.R_new' (Kd.R_new' ho0 (Kd.R_lt (kR_ HO_338001.out))) (Kd.R_lt (kR_ HO_338003.out))) (keep_size (w := w) (g := g) (row := none) (hkA_ HK.out))); have HO353 := Aside0.mk (Kd.S_lower (Kd.S_new' (Kd.S_new' ho1 (Kd.S_lt (kS_ HO_338002.out))) (Kd.R_lt (kR_ HO345.out))) (keep_size (w := w) (g := g) (row := none) (hkA_ HK.out))); replace HO_338002 := Aside0.mk (Kd.S_elder' (kS_ HO_338002.out) (Kd.S_base ho1) hb); replace HO345 := Aside0.mk (Kd.R_below (kR_ HO345.out) hb); have HO356 := Aside0.mk (Kd.R_lower (Kd.R_new' (Kd.R_new' ho2 (Kd.R_lt (kR_ HO_338001.out))) (Kd.R_lt (kR_ HO_338003.out))) (keep_size (w := w) (g := g) (row := none) (hkA_ HK.out))); replace HO_338001 := Aside0.mk (Kd.R_mono (Kd.R_told (Kd.R_told (Kd.R_old (kR_ HO_338001.out) hb) (Kd.R_base ho0)) (Kd.R_base ho2)) (fun _ h_ => op1_ h_)); replace HO_338003 := Aside0.mk (Kd.R_mono (Kd.R_told (Kd.R_told (Kd.R_old (kR_ HO_338003.out) hb) (Kd.R_base ho0)) (Kd.R_base ho2)) (fun _ h_ => op1_ h_)); replace BK336 := (bbA_ BK336 hb); replace BK337 := (bbA_ BK337 hb); replace HI0 := (ib89_ HI0 hb); replace HK := (kw_ HK hb); replace HB := (bs89_ HB hb); (try clear hb); (try clear hb2); (try clear hk); (try clear hi); (try clear ho0); (try clear ho1); (try clear ho2)
     obtain ⟨Ao24, co24, eo24⟩ := Kd.R_slice HO350.out
     (first | subst eo24 | (injection eo24 with f1_ f2_ f3_; have f4_ := f1_.symm; have f5_ := f3_.symm; clear f1_ f2_ f3_; subst f4_; subst f5_))
     obtain ⟨Ao26, co26, eo26⟩ := Kd.S_slice HO353.out
     (first | subst eo26 | (injection eo26 with f1_ f2_ f3_; have f4_ := f1_.symm; have f5_ := f3_.symm; clear f1_ f2_ f3_; subst f4_; subst f5_))
     obtain ⟨Ao28, co28, eo28⟩ := Kd.R_slice HO356.out
     (first | subst eo28 | (injection eo28 with f1_ f2_ f3_; have f4_ := f1_.symm; have f5_ := f3_.symm; clear f1_ f2_ f3_; subst f4_; subst f5_))
     refine hK.out _ _ (cz4 BK337.out) (fun hHeld => ?_)
     clear hK K; refine nm_ 32 ?_; refine pu_ (i := 4) (N := some 28) HT_ ?_; refine pu_ (i := 5) (N := some 33) HT_ ?_; refine pu_ (i := 6) (N := some 34) HT_ ?_
     refine last_ (i := 7) (N := none) #[true, true, true, true, true, true, true, true] rfl rfl (one_of HT_.out (by kernel_rfl)) (by decide) (fun K hK => ?_)
     have hs23 : w22.cell? ⟨gb337, 0, none⟩ = some (.int .i64 x338000_1) := bc_ BK337 0
     have hfs23 := blk_frozen BK337.out 0
     have hns23_0 := NB336_337.out; have hms23_0 := NB337_336.out
     have hs25 : w22.cell? ⟨gb337, 1, none⟩ = some (.slice Ao18 x338001_1.length co18) := bc_ BK337 1
     have hfs25 := blk_frozen BK337.out 1
     have hns25_0 := NB336_337.out; have hms25_0 := NB337_336.out
     have hs27 : w22.cell? ⟨gb337, 2, none⟩ = some (.slice Ao19 x338002_1.length co19) := bc_ BK337 2
     have hfs27 := blk_frozen BK337.out 2
     have hns27_0 := NB336_337.out; have hms27_0 := NB337_336.out
     have hs29 : w22.cell? ⟨gb337, 3, none⟩ = some (.slice Ao20 x338003_1.length co20) := bc_ BK337 3
     have hfs29 := blk_frozen BK337.out 3
     have hns29_0 := NB336_337.out; have hms29_0 := NB337_336.out
     refine skip_ (w1 := ?_) (by rfl) rfl ?_ ?_
     rotate_left
     ·go_simp
      rfl
     refine hK.out _ _ ?_
     clear hK K
     refine done_ (done_of HT_.out (by kernel_rfl)) ?_
     try go_wp2
     go_roundg k1
     case measure => have := HK1.out; omega
     case rel => exact ⟨(wrap64 (x6_1 - 1)), (t346), (t347), (t348), (t351), (t354), (.slice Ao24 t348.length co24), (.slice Ao26 t351.length co26), (.slice Ao28 t354.length co28), (by first | rfl | (simp; done) | (simp [*]; done)), H', ⟨by have := HK1.out; omega⟩, ⟨by refine kR_ ?_; exact rfm_ ((Kd.R_types HO350.out BK337.out (by decide))) (fun _ hk => hk.1.1.1)⟩, ⟨by refine kS_ ?_; exact Kd.S_mono (Kd.S_far (p := ⟨gb337, 3, none⟩) (Kd.S_far (p := ⟨gb337, 2, none⟩) (Kd.S_far (p := ⟨gb337, 1, none⟩) (Kd.S_far (p := ⟨gb337, 0, none⟩) (Kd.S_types HO353.out BK337.out (by decide)) (fun _ hk => hk.2) (.int .i64 t347)) (fun _ hk => hk.2) (.slice Ao24 t348.length co24)) (fun _ hk => hk.2) (.slice Ao26 t351.length co26)) (fun _ hk => hk.2) (.slice Ao28 t354.length co28)) (fun _ hk => trivial)⟩, ⟨by refine kR_ ?_; exact rfm_ ((Kd.R_types HO356.out BK337.out (by decide))) (fun _ hk => hk.1.1.1)⟩, ⟨by exact kf_ BK336.out⟩, ⟨by refine kb_ ?_; refine pz4 (cs := #[.int .i64 x338000_1, .slice Ao18 x338001_1.length co18, .slice Ao19 x338002_1.length co19, .slice Ao20 x338003_1.length co20]) ?_; refine kb_ ?_; exact BK337.out⟩, ⟨is89_ HI0.out⟩, ⟨hkA_ HK.out⟩, ⟨hb89_ HB.out⟩⟩
    ·rw [if_neg c12] at H
     have c12b0 : (t340 == 0) = false := beq_eq_false_iff_ne.mpr c12
     have c12b1 : (t340 != 0) = true := bne_iff_ne.mpr c12
     by_cases c30 : t340 = 1
     ·rw [if_pos c30] at H
      have c30b0 : (t340 == 1) = true := beq_iff_eq.mpr c30
      have c30b1 : (t340 != 1) = false := bne_eq_false_iff_eq.mpr c30
      clear c30
      replace H := Option.bind_eq_some_iff.mp H
      obtain ⟨⟨t358, t359⟩, A310, H⟩ := H
      (try dsimp only at H)
      have A31 := Aside0.mk A310; clear A310
      by_cases c32 : t358 = 0
      ·rw [if_pos c32] at H
       have c32b0 : (t358 == 0) = true := beq_iff_eq.mpr c32
       have c32b1 : (t358 != 0) = false := bne_eq_false_iff_eq.mpr c32
       clear c32
       replace H := Option.bind_eq_some_iff.mp H
       obtain ⟨⟨t360, t361, t364, t367⟩, A330, H⟩ := H
       (try dsimp only at H)
       have A33 := Aside0.mk A330; clear A330
       have H' := Aside0.mk H
       clear H
       go_wp2_with (first | ((with_reducible refine gate_callee (f := 62) rfl ?_); refine goesL_ (some 15) rfl rfl Try.func62 (by kernel_rfl) rfl #[.pointer (some ⟨g, 0, none⟩), .int .i64 3] rfl ar_ ?_; (with_reducible refine (spec_l20Rd_pick.calls k1 g s0_0 x1001_1 3 t340 t341 w0 _ ?side1 ?side2 A11.out).mono ?_); (case side1 => exact is89_ HI0.out); (case side2 => exact hb89_ HB.out); rintro e w34 ⟨rfl, hi, hb, hk⟩; refine ⟨_, rfl, ?_⟩; replace HO_338001 := (rk89_ HI0 HO_338001 hk); replace HO_338002 := Aside0.mk (Kd.S_mono (Kd.S_keep (IsS89.apartS (show IsS89 w0 _ g s0_0 x1001_1 from is89_ HI0.out) (kS_ HO_338002.out) (by decide)) hk (fun _ h => h.2)) (fun _ h => h.1)); replace HO_338003 := (rk89_ HI0 HO_338003 hk); replace BK336 := (bkA_ BK336 hk NB336_0); replace BK337 := (bkA_ BK337 hk NB337_0); replace HK := (kk_ HK hk); replace HB := Aside0.mk (hb); replace HI0 := Aside0.mk (hi); (try clear hb); (try clear hb2); (try clear hk); (try clear hi)) | ((with_reducible refine gate_callee (f := 62) rfl ?_); refine goesL_ (some 38) rfl rfl Try.func62 (by kernel_rfl) rfl #[.pointer (some ⟨g, 0, none⟩), .int .i64 6] rfl ar_ ?_; (with_reducible refine (spec_l20Rd_pick.calls k1 g s0_0 t341 6 t358 t359 w0 _ ?side1 ?side2 A31.out).mono ?_); (case side1 => exact is89_ HI0.out); (case side2 => exact hb89_ HB.out); rintro e w35 ⟨rfl, hi, hb, hk⟩; refine ⟨_, rfl, ?_⟩; replace HO_338001 := (rk89_ HI0 HO_338001 hk); replace HO_338002 := Aside0.mk (Kd.S_mono (Kd.S_keep (IsS89.apartS (show IsS89 w0 _ g s0_0 t341 from is89_ HI0.out) (kS_ HO_338002.out) (by decide)) hk (fun _ h => h.2)) (fun _ h => h.1)); replace HO_338003 := (rk89_ HI0 HO_338003 hk); replace BK336 := (bkA_ BK336 hk NB336_0); replace BK337 := (bkA_ BK337 hk NB337_0); replace HK := (kk_ HK hk); replace HB := Aside0.mk (hb); replace HI0 := Aside0.mk (hi); (try clear hb); (try clear hb2); (try clear hk); (try clear hi); have hnb36 := NB337_336.out; have hnc36 := NB336_337.out; have hnb37 := NB337_0.out; have hnc37 := NB0_337.out; have Z38 := zz4 BK337; obtain ⟨Ao39, co39, eo39⟩ := Kd.R_slice HO_338001.out; subst eo39; obtain ⟨Ao40, co40, eo40⟩ := Kd.S_slice HO_338002.out; subst eo40; obtain ⟨Ao41, co41, eo41⟩ := Kd.R_slice HO_338003.out; subst eo41) | ((with_reducible refine gate_callee (f := 19) rfl ?_); refine goesL_ (some 41) rfl rfl Try.func19 (by kernel_rfl) rfl #[.agg #[.int .i64 x338000_1, .slice Ao39 x338001_1.length co39, .slice Ao40 x338002_1.length co40, .slice Ao41 x338003_1.length co41]] rfl ar_ ?_; (with_reducible refine (spec_ClientOver.calls k1 x338000_1 _ _ x338001_1 _ _ x338002_1 _ _ x338003_1 t360 t361 t364 t367 _ ?side1 ?side2 ?side3 ?side4 ?side5 ?side6 A33.out).mono ?_); (case side1 => exact kC_ (Kd.R_reads' HO_338001.out).2.2); (case side2 => exact (Kd.R_reads' HO_338001.out).2.1); (case side3 => exact kC_ (Kd.S_reads' HO_338002.out).2.2); (case side4 => exact (Kd.S_reads' HO_338002.out).2.1); (case side5 => exact kC_ (Kd.R_reads' HO_338003.out).2.2); (case side6 => exact (Kd.R_reads' HO_338003.out).2.1); rintro e w42 ⟨v362, v365, v368, rfl, ho0, ho1, ho2, hb⟩; refine ⟨_, rfl, ?_⟩; have HO363 := Aside0.mk (Kd.R_lower (Kd.R_new' (Kd.R_new' ho0 (Kd.R_lt (kR_ HO_338001.out))) (Kd.R_lt (kR_ HO_338003.out))) (keep_size (w := w) (g := g) (row := none) (hkA_ HK.out))); have HO366 := Aside0.mk (Kd.S_lower (Kd.S_new' ho1 (Kd.S_lt (kS_ HO_338002.out))) (keep_size (w := w) (g := g) (row := none) (hkA_ HK.out))); replace HO_338002 := Aside0.mk (Kd.S_elder' (kS_ HO_338002.out) (Kd.S_base ho1) hb); have HO369 := Aside0.mk (Kd.R_lower (Kd.R_new' (Kd.R_new' ho2 (Kd.R_lt (kR_ HO_338001.out))) (Kd.R_lt (kR_ HO_338003.out))) (keep_size (w := w) (g := g) (row := none) (hkA_ HK.out))); replace HO_338001 := Aside0.mk (Kd.R_mono (Kd.R_told (Kd.R_told (Kd.R_old (kR_ HO_338001.out) hb) (Kd.R_base ho0)) (Kd.R_base ho2)) (fun _ h_ => op1_ h_)); replace HO_338003 := Aside0.mk (Kd.R_mono (Kd.R_told (Kd.R_told (Kd.R_old (kR_ HO_338003.out) hb) (Kd.R_base ho0)) (Kd.R_base ho2)) (fun _ h_ => op1_ h_)); replace BK336 := (bbA_ BK336 hb); replace BK337 := (bbA_ BK337 hb); replace HI0 := (ib89_ HI0 hb); replace HK := (kw_ HK hb); replace HB := (bs89_ HB hb); (try clear hb); (try clear hb2); (try clear hk); (try clear hi); (try clear ho0); (try clear ho1); (try clear ho2); have Z43 := zz4 BK337; obtain ⟨Ao44, co44, eo44⟩ := Kd.R_slice HO363.out; subst eo44; obtain ⟨Ao45, co45, eo45⟩ := Kd.S_slice HO366.out; subst eo45; obtain ⟨Ao46, co46, eo46⟩ := Kd.R_slice HO369.out; subst eo46))
       go_roundg k1
       case measure => have := HK1.out; omega
       case rel => exact ⟨(wrap64 (x6_1 - 1)), (t359), (t360), (t361), (t364), (t367), (.slice Ao44 t361.length co44), (.slice Ao45 t364.length co45), (.slice Ao46 t367.length co46), (by first | rfl | (simp; done) | (simp [*]; done)), H', ⟨by have := HK1.out; omega⟩, ⟨by refine kR_ ?_; exact rfm_ ((Kd.R_types HO363.out BK337.out (by decide))) (fun _ hk => hk.1.1.1)⟩, ⟨by refine kS_ ?_; exact Kd.S_mono (Kd.S_far (p := ⟨gb337, 3, none⟩) (Kd.S_far (p := ⟨gb337, 2, none⟩) (Kd.S_far (p := ⟨gb337, 1, none⟩) (Kd.S_far (p := ⟨gb337, 0, none⟩) (Kd.S_types HO366.out BK337.out (by decide)) (fun _ hk => hk.2) (.int .i64 t360)) (fun _ hk => hk.2) (.slice Ao44 t361.length co44)) (fun _ hk => hk.2) (.slice Ao45 t364.length co45)) (fun _ hk => hk.2) (.slice Ao46 t367.length co46)) (fun _ hk => trivial)⟩, ⟨by refine kR_ ?_; exact rfm_ ((Kd.R_types HO369.out BK337.out (by decide))) (fun _ hk => hk.1.1.1)⟩, ⟨by exact kf_ BK336.out⟩, ⟨by refine kb_ ?_; refine pz4 (cs := #[.int .i64 x338000_1, .slice Ao39 x338001_1.length co39, .slice Ao40 x338002_1.length co40, .slice Ao41 x338003_1.length co41]) ?_; refine kb_ ?_; exact BK337.out⟩, ⟨is89_ HI0.out⟩, ⟨hkA_ HK.out⟩, ⟨hb89_ HB.out⟩⟩
      ·rw [if_neg c32] at H
       have c32b0 : (t358 == 0) = false := beq_eq_false_iff_ne.mpr c32
       have c32b1 : (t358 != 0) = true := bne_iff_ne.mpr c32
       have H' := Aside0.mk H
       clear H
       go_wp2_with (first | ((with_reducible refine gate_callee (f := 62) rfl ?_); refine goesL_ (some 15) rfl rfl Try.func62 (by kernel_rfl) rfl #[.pointer (some ⟨g, 0, none⟩), .int .i64 3] rfl ar_ ?_; (with_reducible refine (spec_l20Rd_pick.calls k1 g s0_0 x1001_1 3 t340 t341 w0 _ ?side1 ?side2 A11.out).mono ?_); (case side1 => exact is89_ HI0.out); (case side2 => exact hb89_ HB.out); rintro e w47 ⟨rfl, hi, hb, hk⟩; refine ⟨_, rfl, ?_⟩; replace HO_338001 := (rk89_ HI0 HO_338001 hk); replace HO_338002 := Aside0.mk (Kd.S_mono (Kd.S_keep (IsS89.apartS (show IsS89 w0 _ g s0_0 x1001_1 from is89_ HI0.out) (kS_ HO_338002.out) (by decide)) hk (fun _ h => h.2)) (fun _ h => h.1)); replace HO_338003 := (rk89_ HI0 HO_338003 hk); replace BK336 := (bkA_ BK336 hk NB336_0); replace BK337 := (bkA_ BK337 hk NB337_0); replace HK := (kk_ HK hk); replace HB := Aside0.mk (hb); replace HI0 := Aside0.mk (hi); (try clear hb); (try clear hb2); (try clear hk); (try clear hi)) | ((with_reducible refine gate_callee (f := 62) rfl ?_); refine goesL_ (some 38) rfl rfl Try.func62 (by kernel_rfl) rfl #[.pointer (some ⟨g, 0, none⟩), .int .i64 6] rfl ar_ ?_; (with_reducible refine (spec_l20Rd_pick.calls k1 g s0_0 t341 6 t358 t359 w0 _ ?side1 ?side2 A31.out).mono ?_); (case side1 => exact is89_ HI0.out); (case side2 => exact hb89_ HB.out); rintro e w48 ⟨rfl, hi, hb, hk⟩; refine ⟨_, rfl, ?_⟩; replace HO_338001 := (rk89_ HI0 HO_338001 hk); replace HO_338002 := Aside0.mk (Kd.S_mono (Kd.S_keep (IsS89.apartS (show IsS89 w0 _ g s0_0 t341 from is89_ HI0.out) (kS_ HO_338002.out) (by decide)) hk (fun _ h => h.2)) (fun _ h => h.1)); replace HO_338003 := (rk89_ HI0 HO_338003 hk); replace BK336 := (bkA_ BK336 hk NB336_0); replace BK337 := (bkA_ BK337 hk NB337_0); replace HK := (kk_ HK hk); replace HB := Aside0.mk (hb); replace HI0 := Aside0.mk (hi); (try clear hb); (try clear hb2); (try clear hk); (try clear hi)))
       go_roundg k1
       case measure => have := HK1.out; omega
       case rel => exact ⟨(wrap64 (x6_1 - 1)), (t359), (x338000_1), (x338001_1), (x338002_1), (x338003_1), (u338001), (u338002), (u338003), (by first | rfl | (simp; done) | (simp [*]; done)), H', ⟨by have := HK1.out; omega⟩, ⟨kR_ HO_338001.out⟩, ⟨by refine kS_ ?_; exact HO_338002.out⟩, ⟨kR_ HO_338003.out⟩, ⟨by refine kb_ ?_; exact BK336.out⟩, ⟨by refine kb_ ?_; exact BK337.out⟩, ⟨is89_ HI0.out⟩, ⟨hkA_ HK.out⟩, ⟨hb89_ HB.out⟩⟩
     ·rw [if_neg c30] at H
      have c30b0 : (t340 == 1) = false := beq_eq_false_iff_ne.mpr c30
      have c30b1 : (t340 != 1) = true := bne_iff_ne.mpr c30
      replace H := Option.bind_eq_some_iff.mp H
      obtain ⟨⟨t370, t371⟩, A490, H⟩ := H
      (try dsimp only at H)
      have A49 := Aside0.mk A490; clear A490
      replace H := Option.bind_eq_some_iff.mp H
      obtain ⟨⟨t372, t375⟩, A500, H⟩ := H
      (try dsimp only at H)
      have A50 := Aside0.mk A500; clear A500
      replace H := Option.bind_eq_some_iff.mp H
      obtain ⟨⟨t376, t377, t380, t383, t386, t389⟩, A510, H⟩ := H
      (try dsimp only at H)
      have A51 := Aside0.mk A510; clear A510
      have H' := Aside0.mk H
      clear H
      try go_wp2_with (first | ((with_reducible refine gate_callee (f := 62) rfl ?_); refine goesL_ (some 15) rfl rfl Try.func62 (by kernel_rfl) rfl #[.pointer (some ⟨g, 0, none⟩), .int .i64 3] rfl ar_ ?_; (with_reducible refine (spec_l20Rd_pick.calls k1 g s0_0 x1001_1 3 t340 t341 w0 _ ?side1 ?side2 A11.out).mono ?_); (case side1 => exact is89_ HI0.out); (case side2 => exact hb89_ HB.out); rintro e w52 ⟨rfl, hi, hb, hk⟩; refine ⟨_, rfl, ?_⟩; replace HO_338001 := (rk89_ HI0 HO_338001 hk); replace HO_338002 := Aside0.mk (Kd.S_mono (Kd.S_keep (IsS89.apartS (show IsS89 w0 _ g s0_0 x1001_1 from is89_ HI0.out) (kS_ HO_338002.out) (by decide)) hk (fun _ h => h.2)) (fun _ h => h.1)); replace HO_338003 := (rk89_ HI0 HO_338003 hk); replace BK336 := (bkA_ BK336 hk NB336_0); replace BK337 := (bkA_ BK337 hk NB337_0); replace HK := (kk_ HK hk); replace HB := Aside0.mk (hb); replace HI0 := Aside0.mk (hi); (try clear hb); (try clear hb2); (try clear hk); (try clear hi)))
      replace HO_338001 := Aside0.mk (Kd.R_drew HO_338001.out); replace HO_338002 := Aside0.mk (Kd.S_drew HO_338002.out); replace HO_338003 := Aside0.mk (Kd.R_drew HO_338003.out); replace BK336 := Aside0.mk (blk_drew BK336.out); replace BK337 := Aside0.mk (blk_drew BK337.out); replace HI0 := Aside0.mk (IsS89.drew HI0.out); replace HK := Aside0.mk (keep_drew HK.out); replace HB := (bd_ HB)
      refine start_ (n := 11) (S := fun w' => w'.cell? ⟨gb337, 0, none⟩ = some (.int .i64 x338000_1) ∧ w'.cell? ⟨gb337, 1, none⟩ = some (u338001) ∧ w'.cell? ⟨gb337, 2, none⟩ = some (u338002) ∧ w'.cell? ⟨gb337, 3, none⟩ = some (u338003)) (ds := [10]) #[false, false, false, false, false, false, false, false, false, false, false] (by kernel_rfl) rfl rfl (cz4 BK337.out) (fun hHeld => ?_); refine with_tabW spec_l20Asking.tab6 spec_l20Asking.bits6 (fun HT_ HW_ => ?_)
      generalize w52.drew = w53 at HO_338001 HO_338002 HO_338003 BK336 BK337 HI0 HK HB hHeld ⊢
      refine pu_ (i := 1) (N := some 18) HT_ ?_; refine pu_ (i := 2) (N := some 19) HT_ ?_; refine tk_ (i := 0) (N := some 17) HT_ HW_ hHeld ?_
      refine on_ (i := 3) (N := some 20) HT_ (fun K hK => ?_)
      refine goes_ Try.func62 (by kernel_rfl) rfl #[.pointer (some ⟨g, 0, none⟩), .int .i64 5] (by rfl) rfl rfl ar_ ?_
      with_reducible refine (spec_l20Rd_pick.calls k1 g s0_0 t341 5 t370 t371 w0 _ ?side1 ?side2 A49.out).mono ?_
      (case side1 => exact is89_ HI0.out)
      (case side2 => exact hb89_ HB.out)
      rintro e w54 ⟨rfl, hi, hb, hk⟩
      refine ⟨_, rfl, ?_⟩
      replace HO_338001 := (rk89_ HI0 HO_338001 hk); replace HO_338002 := Aside0.mk (Kd.S_mono (Kd.S_keep (IsS89.apartS (show IsS89 w0 _ g s0_0 t341 from is89_ HI0.out) (kS_ HO_338002.out) (by decide)) hk (fun _ h => h.2)) (fun _ h => h.1)); replace HO_338003 := (rk89_ HI0 HO_338003 hk); replace BK336 := (bkA_ BK336 hk NB336_0); replace BK337 := (bkA_ BK337 hk NB337_0); replace HK := (kk_ HK hk); replace HB := Aside0.mk (hb); replace HI0 := Aside0.mk (hi); (try clear hb); (try clear hb2); (try clear hk); (try clear hi)
      refine hK.out _ _ (cz4 BK337.out) (fun hHeld => ?_)
      clear hK K; refine nm_ 20 ?_
      refine on_ (i := 4) (N := some 21) HT_ (fun K hK => ?_)
      refine goes_ Try.func61 (by kernel_rfl) rfl #[.pointer (some ⟨g, 0, none⟩), .int .i64 t370] (by rfl) rfl rfl ar_ ?_
      with_reducible refine (spec_l20Rd_bytes.calls k1 g s0_0 t371 t370 t372 t375 w0 _ ?side1 ?side2 A50.out).mono ?_
      (case side1 => exact is89_ HI0.out)
      (case side2 => exact hb89_ HB.out)
      rintro e w55 ⟨v373, rfl, ho0, hi, hb, hk⟩
      refine ⟨_, rfl, ?_⟩
      replace HO_338001 := (rk89_ HI0 HO_338001 hk); replace HO_338002 := Aside0.mk (Kd.S_mono (Kd.S_told (Kd.S_oldK (IsS89.apartS (show IsS89 w0 _ g s0_0 t371 from is89_ HI0.out) (kS_ HO_338002.out) (by decide)) hk) (Kd.R_base ho0)) (fun _ h_ => op1_ h_)); replace HO_338003 := (rk89_ HI0 HO_338003 hk); replace BK336 := (bkA_ BK336 hk NB336_0); replace BK337 := (bkA_ BK337 hk NB337_0); have HO374 := Aside0.mk (Kd.R_lower ho0 (keep_size (w := w) (g := g) (row := none) (hkA_ HK.out))); replace HK := (kk_ HK hk); replace HB := Aside0.mk (hb); replace HI0 := Aside0.mk (hi); (try clear hb); (try clear hb2); (try clear hk); (try clear hi); (try clear ho0)
      obtain ⟨Ao56, co56, eo56⟩ := Kd.R_slice HO_338001.out
      (first | subst eo56 | (injection eo56 with f1_ f2_ f3_; have f4_ := f1_.symm; have f5_ := f3_.symm; clear f1_ f2_ f3_; subst f4_; subst f5_))
      obtain ⟨Ao57, co57, eo57⟩ := Kd.S_slice HO_338002.out
      (first | subst eo57 | (injection eo57 with f1_ f2_ f3_; have f4_ := f1_.symm; have f5_ := f3_.symm; clear f1_ f2_ f3_; subst f4_; subst f5_))
      obtain ⟨Ao58, co58, eo58⟩ := Kd.R_slice HO_338003.out
      (first | subst eo58 | (injection eo58 with f1_ f2_ f3_; have f4_ := f1_.symm; have f5_ := f3_.symm; clear f1_ f2_ f3_; subst f4_; subst f5_))
      obtain ⟨Ao59, co59, eo59⟩ := Kd.R_slice HO374.out
      (first | subst eo59 | (injection eo59 with f1_ f2_ f3_; have f4_ := f1_.symm; have f5_ := f3_.symm; clear f1_ f2_ f3_; subst f4_; subst f5_))
      refine hK.out _ _ (cz4 BK337.out) (fun hHeld => ?_)
      clear hK K; refine nm_ 21 ?_
      refine on_ (i := 5) (N := some 22) HT_ (fun K hK => ?_)
      refine goes_ Try.func27 (by kernel_rfl) rfl #[.agg #[.int .i64 x338000_1, .slice Ao56 x338001_1.length co56, .slice Ao57 x338002_1.length co57, .slice Ao58 x338003_1.length co58], .slice Ao59 t372.length co59] (by rfl) rfl rfl ar_ ?_
      with_reducible refine (spec_ClientAsk.calls k1 x338000_1 _ _ x338001_1 _ _ x338002_1 _ _ x338003_1 _ _ t372 t376 t377 t380 t383 t386 t389 _ ?side1 ?side2 ?side3 ?side4 ?side5 ?side6 ?side7 ?side8 A51.out).mono ?_
      (case side1 => exact kC_ (Kd.R_reads' HO_338001.out).2.2)
      (case side2 => exact (Kd.R_reads' HO_338001.out).2.1)
      (case side3 => exact kC_ (Kd.S_reads' HO_338002.out).2.2)
      (case side4 => exact (Kd.S_reads' HO_338002.out).2.1)
      (case side5 => exact kC_ (Kd.R_reads' HO_338003.out).2.2)
      (case side6 => exact (Kd.R_reads' HO_338003.out).2.1)
      (case side7 => exact kC_ (Kd.R_reads' HO374.out).2.2)
      (case side8 => exact (Kd.R_reads' HO374.out).2.1)
      rintro e w60 ⟨v378, v381, v384, v387, rfl, ho0, ho1, ho2, ho3, hb⟩
      refine ⟨_, rfl, ?_⟩
      have HO379 := Aside0.mk (Kd.R_lower (Kd.R_new' (Kd.R_new' ho0 (Kd.R_lt (kR_ HO_338001.out))) (Kd.R_lt (kR_ HO_338003.out))) (keep_size (w := w) (g := g) (row := none) (hkA_ HK.out))); have HO382 := Aside0.mk (Kd.S_lower (Kd.S_new' (Kd.S_new' ho1 (Kd.S_lt (kS_ HO_338002.out))) (Kd.R_lt (kR_ HO374.out))) (keep_size (w := w) (g := g) (row := none) (hkA_ HK.out))); replace HO_338002 := Aside0.mk (Kd.S_mono (Kd.S_told (Kd.S_told (Kd.S_old (kS_ HO_338002.out) hb) (Kd.S_base ho1)) (Kd.R_base ho3)) (fun _ h_ => op1_ h_)); have HO385 := Aside0.mk (Kd.R_lower (Kd.R_new' (Kd.R_new' ho2 (Kd.R_lt (kR_ HO_338001.out))) (Kd.R_lt (kR_ HO_338003.out))) (keep_size (w := w) (g := g) (row := none) (hkA_ HK.out))); replace HO_338001 := Aside0.mk (Kd.R_mono (Kd.R_told (Kd.R_told (Kd.R_old (kR_ HO_338001.out) hb) (Kd.R_base ho0)) (Kd.R_base ho2)) (fun _ h_ => op1_ h_)); replace HO_338003 := Aside0.mk (Kd.R_mono (Kd.R_told (Kd.R_told (Kd.R_old (kR_ HO_338003.out) hb) (Kd.R_base ho0)) (Kd.R_base ho2)) (fun _ h_ => op1_ h_)); have HO388 := Aside0.mk (Kd.R_lower (Kd.R_new' ho3 (Kd.R_lt (kR_ HO374.out))) (keep_size (w := w) (g := g) (row := none) (hkA_ HK.out))); replace HO374 := Aside0.mk (Kd.R_elder' (kR_ HO374.out) (Kd.R_base ho3) hb); replace BK336 := (bbA_ BK336 hb); replace BK337 := (bbA_ BK337 hb); replace HI0 := (ib89_ HI0 hb); replace HK := (kw_ HK hb); replace HB := (bs89_ HB hb); (try clear hb); (try clear hb2); (try clear hk); (try clear hi); (try clear ho0); (try clear ho1); (try clear ho2); (try clear ho3)
      obtain ⟨Ao62, co62, eo62⟩ := Kd.R_slice HO379.out
      (first | subst eo62 | (injection eo62 with f1_ f2_ f3_; have f4_ := f1_.symm; have f5_ := f3_.symm; clear f1_ f2_ f3_; subst f4_; subst f5_))
      obtain ⟨Ao64, co64, eo64⟩ := Kd.S_slice HO382.out
      (first | subst eo64 | (injection eo64 with f1_ f2_ f3_; have f4_ := f1_.symm; have f5_ := f3_.symm; clear f1_ f2_ f3_; subst f4_; subst f5_))
      obtain ⟨Ao66, co66, eo66⟩ := Kd.R_slice HO385.out
      (first | subst eo66 | (injection eo66 with f1_ f2_ f3_; have f4_ := f1_.symm; have f5_ := f3_.symm; clear f1_ f2_ f3_; subst f4_; subst f5_))
      refine hK.out _ _ (cz4 BK337.out) (fun hHeld => ?_)
      clear hK K; refine nm_ 22 ?_; refine pu_ (i := 6) (N := some 16) HT_ ?_; refine pu_ (i := 7) (N := some 23) HT_ ?_; refine pu_ (i := 8) (N := some 24) HT_ ?_; refine pu_ (i := 9) (N := some 25) HT_ ?_
      refine last_ (i := 10) (N := none) #[true, true, true, true, true, true, true, true, true, true, true] rfl rfl (one_of HT_.out (by kernel_rfl)) (by decide) (fun K hK => ?_)
      have hs61 : w60.cell? ⟨gb337, 0, none⟩ = some (.int .i64 x338000_1) := bc_ BK337 0
      have hfs61 := blk_frozen BK337.out 0
      have hns61_0 := NB336_337.out; have hms61_0 := NB337_336.out
      have hs63 : w60.cell? ⟨gb337, 1, none⟩ = some (.slice Ao56 x338001_1.length co56) := bc_ BK337 1
      have hfs63 := blk_frozen BK337.out 1
      have hns63_0 := NB336_337.out; have hms63_0 := NB337_336.out
      have hs65 : w60.cell? ⟨gb337, 2, none⟩ = some (.slice Ao57 x338002_1.length co57) := bc_ BK337 2
      have hfs65 := blk_frozen BK337.out 2
      have hns65_0 := NB336_337.out; have hms65_0 := NB337_336.out
      have hs67 : w60.cell? ⟨gb337, 3, none⟩ = some (.slice Ao58 x338003_1.length co58) := bc_ BK337 3
      have hfs67 := blk_frozen BK337.out 3
      have hns67_0 := NB336_337.out; have hms67_0 := NB337_336.out
      refine skip_ (w1 := ?_) (by rfl) rfl ?_ ?_
      rotate_left
      ·go_simp
       rfl
      refine hK.out _ _ ?_
      clear hK K
      refine done_ (done_of HT_.out (by kernel_rfl)) ?_
      try go_wp2
      go_roundg k1
      case measure => have := HK1.out; omega
      case rel => exact ⟨(wrap64 (x6_1 - 1)), (t375), (t376), (t377), (t380), (t383), (.slice Ao62 t377.length co62), (.slice Ao64 t380.length co64), (.slice Ao66 t383.length co66), (by first | rfl | (simp; done) | (simp [*]; done)), H', ⟨by have := HK1.out; omega⟩, ⟨by refine kR_ ?_; exact rfm_ ((Kd.R_types HO379.out BK337.out (by decide))) (fun _ hk => hk.1.1.1)⟩, ⟨by refine kS_ ?_; exact Kd.S_mono (Kd.S_far (p := ⟨gb337, 3, none⟩) (Kd.S_far (p := ⟨gb337, 2, none⟩) (Kd.S_far (p := ⟨gb337, 1, none⟩) (Kd.S_far (p := ⟨gb337, 0, none⟩) (Kd.S_types HO382.out BK337.out (by decide)) (fun _ hk => hk.2) (.int .i64 t376)) (fun _ hk => hk.2) (.slice Ao62 t377.length co62)) (fun _ hk => hk.2) (.slice Ao64 t380.length co64)) (fun _ hk => hk.2) (.slice Ao66 t383.length co66)) (fun _ hk => trivial)⟩, ⟨by refine kR_ ?_; exact rfm_ ((Kd.R_types HO385.out BK337.out (by decide))) (fun _ hk => hk.1.1.1)⟩, ⟨by exact kf_ BK336.out⟩, ⟨by refine kb_ ?_; refine pz4 (cs := #[.int .i64 x338000_1, .slice Ao56 x338001_1.length co56, .slice Ao57 x338002_1.length co57, .slice Ao58 x338003_1.length co58]) ?_; refine kb_ ?_; exact BK337.out⟩, ⟨is89_ HI0.out⟩, ⟨hkA_ HK.out⟩, ⟨hb89_ HB.out⟩⟩
   ·rw [if_neg c10] at H
    have c10b0 : decide (0 < x6_1) = false := decide_eq_false c10
    clear c10
    replace H := Option.bind_eq_some_iff.mp H
    obtain ⟨⟨t390, t391⟩, A680, H⟩ := H
    (try dsimp only at H)
    have A68 := Aside0.mk A680; clear A680
    by_cases c69 : t390 = true
    ·subst c69
     rw [if_pos rfl] at H
     replace H := Option.bind_eq_some_iff.mp H
     obtain ⟨⟨t392, t393⟩, A700, H⟩ := H
     (try dsimp only at H)
     have A70 := Aside0.mk A700; clear A700
     by_cases c71 : t392 = 0
     ·rw [if_pos c71] at H
      have c71b0 : (t392 == 0) = true := beq_iff_eq.mpr c71
      have c71b1 : (t392 != 0) = false := bne_eq_false_iff_eq.mpr c71
      clear c71
      simp only [Option.some.injEq, Prod.mk.injEq] at H
      obtain ⟨rfl, rfl, rfl, rfl, rfl⟩ := H
      go_wp2_with (first | ((with_reducible refine gate_callee (f := 71) rfl ?_); refine goesL_ (some 44) rfl rfl Try.func71 (by kernel_rfl) rfl #[.pointer (some ⟨g, 0, none⟩), .int .i64 a1] rfl ar_ ?_; (with_reducible refine (spec_l20Rd_odd.calls k1 g s0_0 x1001_1 a1 true t391 w0 _ ?side1 ?side2 A68.out).mono ?_); (case side1 => exact is89_ HI0.out); (case side2 => exact hb89_ HB.out); rintro e w72 ⟨rfl, hi, hb, hk⟩; refine ⟨_, rfl, ?_⟩; replace HO_338001 := (rk89_ HI0 HO_338001 hk); replace HO_338002 := Aside0.mk (Kd.S_mono (Kd.S_keep (IsS89.apartS (show IsS89 w0 _ g s0_0 x1001_1 from is89_ HI0.out) (kS_ HO_338002.out) (by decide)) hk (fun _ h => h.2)) (fun _ h => h.1)); replace HO_338003 := (rk89_ HI0 HO_338003 hk); replace BK336 := (bkA_ BK336 hk NB336_0); replace BK337 := (bkA_ BK337 hk NB337_0); replace HK := (kk_ HK hk); replace HB := Aside0.mk (hb); replace HI0 := Aside0.mk (hi); (try clear hb); (try clear hb2); (try clear hk); (try clear hi)) | ((with_reducible refine gate_callee (f := 62) rfl ?_); refine goesL_ (some 46) rfl rfl Try.func62 (by kernel_rfl) rfl #[.pointer (some ⟨g, 0, none⟩), .int .i64 4] rfl ar_ ?_; (with_reducible refine (spec_l20Rd_pick.calls k1 g s0_0 t391 4 t392 t393 w0 _ ?side1 ?side2 A70.out).mono ?_); (case side1 => exact is89_ HI0.out); (case side2 => exact hb89_ HB.out); rintro e w73 ⟨rfl, hi, hb, hk⟩; refine ⟨_, rfl, ?_⟩; replace HO_338001 := (rk89_ HI0 HO_338001 hk); replace HO_338002 := Aside0.mk (Kd.S_mono (Kd.S_keep (IsS89.apartS (show IsS89 w0 _ g s0_0 t391 from is89_ HI0.out) (kS_ HO_338002.out) (by decide)) hk (fun _ h => h.2)) (fun _ h => h.1)); replace HO_338003 := (rk89_ HI0 HO_338003 hk); replace BK336 := (bkA_ BK336 hk NB336_0); replace BK337 := (bkA_ BK337 hk NB337_0); replace HK := (kk_ HK hk); replace HB := Aside0.mk (hb); replace HI0 := Aside0.mk (hi); (try clear hb); (try clear hb2); (try clear hk); (try clear hi); have hnb74 := NB337_336.out; have hnc74 := NB336_337.out; have hnb75 := NB337_0.out; have hnc75 := NB0_337.out; have Z76 := zz4 BK337; have hnb77 := NB336_0.out; have hnc77 := NB0_336.out; have Z78 := zz4 BK336; obtain ⟨Ao79, co79, eo79⟩ := Kd.R_slice HO_338001.out; subst eo79; obtain ⟨Ao80, co80, eo80⟩ := Kd.S_slice HO_338002.out; subst eo80; obtain ⟨Ao81, co81, eo81⟩ := Kd.R_slice HO_338003.out; subst eo81))
      refine bodyPost_ret (results_cell_row rfl _ _ gb336 30 #[.int .i64 (wrap64 (x338000_1 + 1)), .slice Ao79 x338001_1.length co79, .slice Ao80 x338002_1.length co80, .slice Ao81 x338003_1.length co81] (0, 0) _ rfl (by refine kb_ ?_; refine pz4 (cs := #[.int .i64 0, .slice none 0 0, .slice none 0 0, .slice none 0 0]) ?_; exact kf_ BK336.out) Try.underlying30 rfl (by kernel_rfl)) rfl ?_
      exact ⟨_, _, _, by first | rfl | (simp [errW_none, errW_some] <;> rfl) | (simp [*, errW_none, errW_some] <;> rfl), by refine kR_ ?_; exact rfm_ ((Kd.R_far (p := ⟨gb337, 0, none⟩) (Kd.R_types (Kd.R_types HO_338001.out BK337.out (by decide)) BK336.out (by decide)) (fun _ hk => hk.1.2) (.int .i64 (wrap64 (x338000_1 + 1))))) (fun _ hk => hk.1.1), by refine kS_ ?_; exact Kd.S_mono (Kd.S_far (p := ⟨gb336, 3, none⟩) (Kd.S_far (p := ⟨gb336, 2, none⟩) (Kd.S_far (p := ⟨gb336, 1, none⟩) (Kd.S_far (p := ⟨gb336, 0, none⟩) (Kd.S_far (p := ⟨gb337, 0, none⟩) (Kd.S_types (Kd.S_types HO_338002.out BK337.out (by decide)) BK336.out (by decide)) (fun _ hk => hk.1.2) (.int .i64 (wrap64 (x338000_1 + 1)))) (fun _ hk => hk.2) (.int .i64 (wrap64 (x338000_1 + 1)))) (fun _ hk => hk.2) (.slice Ao79 x338001_1.length co79)) (fun _ hk => hk.2) (.slice Ao80 x338002_1.length co80)) (fun _ hk => hk.2) (.slice Ao81 x338003_1.length co81)) (fun _ hk => trivial), by refine kR_ ?_; exact rfm_ ((Kd.R_far (p := ⟨gb337, 0, none⟩) (Kd.R_types (Kd.R_types HO_338003.out BK337.out (by decide)) BK336.out (by decide)) (fun _ hk => hk.1.2) (.int .i64 (wrap64 (x338000_1 + 1))))) (fun _ hk => hk.1.1), is89_ HI0.out, hb89_ HB.out, hkA_ HK.out⟩
     ·rw [if_neg c71] at H
      have c71b0 : (t392 == 0) = false := beq_eq_false_iff_ne.mpr c71
      have c71b1 : (t392 != 0) = true := bne_iff_ne.mpr c71
      by_cases c82 : t392 = 1
      ·rw [if_pos c82] at H
       have c82b0 : (t392 == 1) = true := beq_iff_eq.mpr c82
       have c82b1 : (t392 != 1) = false := bne_eq_false_iff_eq.mpr c82
       clear c82
       by_cases c83 : x338001_1.length < 17592186044416
       ·rw [if_pos c83] at H
        have LMc83 := Aside0.mk c83; clear c83
        obtain ⟨y394, hy394⟩ : ∃ y_ : List Int, y_ = (x338001_1 ++ [0]) := ⟨_, rfl⟩
        (first | replace H := sb_ hy394 H | rw [← hy394] at H)
        have Ny394 := Aside0.mk hy394; clear hy394
        simp only [Option.some.injEq, Prod.mk.injEq] at H
        obtain ⟨rfl, rfl, rfl, rfl, rfl⟩ := H
        go_wp2_with (first | ((with_reducible refine gate_callee (f := 71) rfl ?_); refine goesL_ (some 44) rfl rfl Try.func71 (by kernel_rfl) rfl #[.pointer (some ⟨g, 0, none⟩), .int .i64 a1] rfl ar_ ?_; (with_reducible refine (spec_l20Rd_odd.calls k1 g s0_0 x1001_1 a1 true t391 w0 _ ?side1 ?side2 A68.out).mono ?_); (case side1 => exact is89_ HI0.out); (case side2 => exact hb89_ HB.out); rintro e w84 ⟨rfl, hi, hb, hk⟩; refine ⟨_, rfl, ?_⟩; replace HO_338001 := (rk89_ HI0 HO_338001 hk); replace HO_338002 := Aside0.mk (Kd.S_mono (Kd.S_keep (IsS89.apartS (show IsS89 w0 _ g s0_0 x1001_1 from is89_ HI0.out) (kS_ HO_338002.out) (by decide)) hk (fun _ h => h.2)) (fun _ h => h.1)); replace HO_338003 := (rk89_ HI0 HO_338003 hk); replace BK336 := (bkA_ BK336 hk NB336_0); replace BK337 := (bkA_ BK337 hk NB337_0); replace HK := (kk_ HK hk); replace HB := Aside0.mk (hb); replace HI0 := Aside0.mk (hi); (try clear hb); (try clear hb2); (try clear hk); (try clear hi)) | ((with_reducible refine gate_callee (f := 62) rfl ?_); refine goesL_ (some 46) rfl rfl Try.func62 (by kernel_rfl) rfl #[.pointer (some ⟨g, 0, none⟩), .int .i64 4] rfl ar_ ?_; (with_reducible refine (spec_l20Rd_pick.calls k1 g s0_0 t391 4 t392 t393 w0 _ ?side1 ?side2 A70.out).mono ?_); (case side1 => exact is89_ HI0.out); (case side2 => exact hb89_ HB.out); rintro e w85 ⟨rfl, hi, hb, hk⟩; refine ⟨_, rfl, ?_⟩; replace HO_338001 := (rk89_ HI0 HO_338001 hk); replace HO_338002 := Aside0.mk (Kd.S_mono (Kd.S_keep (IsS89.apartS (show IsS89 w0 _ g s0_0 t391 from is89_ HI0.out) (kS_ HO_338002.out) (by decide)) hk (fun _ h => h.2)) (fun _ h => h.1)); replace HO_338003 := (rk89_ HI0 HO_338003 hk); replace BK336 := (bkA_ BK336 hk NB336_0); replace BK337 := (bkA_ BK337 hk NB337_0); replace HK := (kk_ HK hk); replace HB := Aside0.mk (hb); replace HI0 := Aside0.mk (hi); (try clear hb); (try clear hb2); (try clear hk); (try clear hi); have hnb86 := NB337_336.out; have hnc86 := NB336_337.out; have hnb87 := NB337_0.out; have hnc87 := NB0_337.out; have Z88 := zz4 BK337) | ((with_reducible refine gate_builtin (b := .append) (xs := #[.tmp 69, .tmp 70]) rfl ?_); at_builtin; refine Kd.R_append (Kd.int .i64) w.heap.size rfl (.tmp 69) (.tmp 70) 22 3 (.int .i64 0) 8 rfl Try.underlying22 info3 rfl (by decide) (by omega) u338001 x338001_1 0 [.int .i64 0] (fun k_ => some k_ ≠ (u338003 : Value).ownBlock) (fun _ => False) rfl rfl ?aP (fun _ hk => hk.elim) ?aF ?aO (Below.refl _ _) ?aS ?aL ?_; (case aP => exact rfl); (case aF => exact (fun k_ hk => Kd.fresh' (Kd.R_lt (kR_ HO_338003.out)) k_ hk)); (case aO => exact (kR_ HO_338001.out)); (case aS => exact (keep_size (w := w) (g := g) (row := none) (hkA_ HK.out))); (case aL => have := LMc83.out; omega); intro v395 w89 ho hb hg hat; rw [← Ny394.out] at ho; replace HO_338002 := Aside0.mk (Kd.S_over' (kS_ HO_338002.out) (Kd.R_typed (kR_ HO_338001.out)) (by decide) hg); replace HO_338003 := Aside0.mk (Kd.R_after (ok := (fun _ => True)) (by refine kR_ ?_; exact Kd.R_mono HO_338003.out (fun _ hk => ⟨trivial, hk⟩)) hg hat); replace BK336 := (bgA_ BK336 hg (Kd.R_ne HO_338001.out BK336.out (by decide))); replace BK337 := (bgA_ BK337 hg (Kd.R_ne HO_338001.out BK337.out (by decide))); replace HI0 := Aside0.mk (IsS89.grown (is89_ HI0.out) hg (IsS89.own_ne HI0.out HO_338001.out (by decide))); replace HB := Aside0.mk (below_weaken (hb89_ HB.out) HL.out hb); replace HK := Aside0.mk (KeepBut.trans (hkA_ HK.out) (KeepBut.of_grown hg g) (Kd.R_base2 HO_338001.out)); have HO396 := Aside0.mk (ho); clear HO_338001; clear ho hb hg hat; obtain ⟨Ao90, co90, eo90⟩ := Kd.R_slice HO396.out; subst eo90; have Z91 := zz4 BK337; have hnb92 := NB336_0.out; have hnc92 := NB0_336.out; have Z93 := zz4 BK336; obtain ⟨Ao94, co94, eo94⟩ := Kd.S_slice HO_338002.out; subst eo94; obtain ⟨Ao95, co95, eo95⟩ := Kd.R_slice HO_338003.out; subst eo95))
        refine bodyPost_ret (results_cell_row rfl _ _ gb336 30 #[.int .i64 x338000_1, .slice Ao90 y394.length co90, .slice Ao94 x338002_1.length co94, .slice Ao95 x338003_1.length co95] (0, 0) _ rfl (by refine kb_ ?_; refine pz4 (cs := #[.int .i64 0, .slice none 0 0, .slice none 0 0, .slice none 0 0]) ?_; exact kf_ BK336.out) Try.underlying30 rfl (by kernel_rfl)) rfl ?_
        exact ⟨_, _, _, by first | rfl | (simp [errW_none, errW_some] <;> rfl) | (simp [*, errW_none, errW_some] <;> rfl), by refine kR_ ?_; exact rfm_ ((Kd.R_far (p := ⟨gb337, 1, none⟩) (Kd.R_types (Kd.R_types HO396.out BK337.out (by decide)) BK336.out (by decide)) (fun _ hk => hk.1.2) (.slice Ao90 y394.length co90))) (fun _ hk => hk.1.1), by refine kS_ ?_; exact Kd.S_mono (Kd.S_far (p := ⟨gb336, 3, none⟩) (Kd.S_far (p := ⟨gb336, 2, none⟩) (Kd.S_far (p := ⟨gb336, 1, none⟩) (Kd.S_far (p := ⟨gb336, 0, none⟩) (Kd.S_far (p := ⟨gb337, 1, none⟩) (Kd.S_types (Kd.S_types HO_338002.out BK337.out (by decide)) BK336.out (by decide)) (fun _ hk => hk.1.2) (.slice Ao90 y394.length co90)) (fun _ hk => hk.2) (.int .i64 x338000_1)) (fun _ hk => hk.2) (.slice Ao90 y394.length co90)) (fun _ hk => hk.2) (.slice Ao94 x338002_1.length co94)) (fun _ hk => hk.2) (.slice Ao95 x338003_1.length co95)) (fun _ hk => trivial), by refine kR_ ?_; exact rfm_ ((Kd.R_far (p := ⟨gb337, 1, none⟩) (Kd.R_types (Kd.R_types HO_338003.out BK337.out (by decide)) BK336.out (by decide)) (fun _ hk => hk.1.2) (.slice Ao90 y394.length co90))) (fun _ hk => hk.1.1.2), is89_ HI0.out, hb89_ HB.out, hkA_ HK.out⟩
       ·rw [if_neg c83] at H
        exact absurd H (by simp)
      ·rw [if_neg c82] at H
       have c82b0 : (t392 == 1) = false := beq_eq_false_iff_ne.mpr c82
       have c82b1 : (t392 != 1) = true := bne_iff_ne.mpr c82
       by_cases c96 : t392 = 2
       ·rw [if_pos c96] at H
        have c96b0 : (t392 == 2) = true := beq_iff_eq.mpr c96
        have c96b1 : (t392 != 2) = false := bne_eq_false_iff_eq.mpr c96
        clear c96
        simp only [Option.some.injEq, Prod.mk.injEq] at H
        obtain ⟨rfl, rfl, rfl, rfl, rfl⟩ := H
        go_wp2_with (first | ((with_reducible refine gate_callee (f := 71) rfl ?_); refine goesL_ (some 44) rfl rfl Try.func71 (by kernel_rfl) rfl #[.pointer (some ⟨g, 0, none⟩), .int .i64 a1] rfl ar_ ?_; (with_reducible refine (spec_l20Rd_odd.calls k1 g s0_0 x1001_1 a1 true t391 w0 _ ?side1 ?side2 A68.out).mono ?_); (case side1 => exact is89_ HI0.out); (case side2 => exact hb89_ HB.out); rintro e w97 ⟨rfl, hi, hb, hk⟩; refine ⟨_, rfl, ?_⟩; replace HO_338001 := (rk89_ HI0 HO_338001 hk); replace HO_338002 := Aside0.mk (Kd.S_mono (Kd.S_keep (IsS89.apartS (show IsS89 w0 _ g s0_0 x1001_1 from is89_ HI0.out) (kS_ HO_338002.out) (by decide)) hk (fun _ h => h.2)) (fun _ h => h.1)); replace HO_338003 := (rk89_ HI0 HO_338003 hk); replace BK336 := (bkA_ BK336 hk NB336_0); replace BK337 := (bkA_ BK337 hk NB337_0); replace HK := (kk_ HK hk); replace HB := Aside0.mk (hb); replace HI0 := Aside0.mk (hi); (try clear hb); (try clear hb2); (try clear hk); (try clear hi)) | ((with_reducible refine gate_callee (f := 62) rfl ?_); refine goesL_ (some 46) rfl rfl Try.func62 (by kernel_rfl) rfl #[.pointer (some ⟨g, 0, none⟩), .int .i64 4] rfl ar_ ?_; (with_reducible refine (spec_l20Rd_pick.calls k1 g s0_0 t391 4 t392 t393 w0 _ ?side1 ?side2 A70.out).mono ?_); (case side1 => exact is89_ HI0.out); (case side2 => exact hb89_ HB.out); rintro e w98 ⟨rfl, hi, hb, hk⟩; refine ⟨_, rfl, ?_⟩; replace HO_338001 := (rk89_ HI0 HO_338001 hk); replace HO_338002 := Aside0.mk (Kd.S_mono (Kd.S_keep (IsS89.apartS (show IsS89 w0 _ g s0_0 t391 from is89_ HI0.out) (kS_ HO_338002.out) (by decide)) hk (fun _ h => h.2)) (fun _ h => h.1)); replace HO_338003 := (rk89_ HI0 HO_338003 hk); replace BK336 := (bkA_ BK336 hk NB336_0); replace BK337 := (bkA_ BK337 hk NB337_0); replace HK := (kk_ HK hk); replace HB := Aside0.mk (hb); replace HI0 := Aside0.mk (hi); (try clear hb); (try clear hb2); (try clear hk); (try clear hi); have hnb99 := NB337_336.out; have hnc99 := NB336_337.out; have hnb100 := NB337_0.out; have hnc100 := NB0_337.out; have Z101 := zz4 BK337; have hnb102 := NB336_0.out; have hnc102 := NB0_336.out; have Z103 := zz4 BK336; obtain ⟨Ao104, co104, eo104⟩ := Kd.R_slice HO_338001.out; subst eo104; obtain ⟨Ao105, co105, eo105⟩ := Kd.S_slice HO_338002.out; subst eo105; obtain ⟨Ao106, co106, eo106⟩ := Kd.R_slice HO_338003.out; subst eo106))
        refine bodyPost_ret (results_cell_row rfl _ _ gb336 30 #[.int .i64 257, .slice Ao104 x338001_1.length co104, .slice Ao105 x338002_1.length co105, .slice Ao106 x338003_1.length co106] (0, 0) _ rfl (by refine kb_ ?_; refine pz4 (cs := #[.int .i64 0, .slice none 0 0, .slice none 0 0, .slice none 0 0]) ?_; exact kf_ BK336.out) Try.underlying30 rfl (by kernel_rfl)) rfl ?_
        exact ⟨_, _, _, by first | rfl | (simp [errW_none, errW_some] <;> rfl) | (simp [*, errW_none, errW_some] <;> rfl), by refine kR_ ?_; exact rfm_ ((Kd.R_far (p := ⟨gb337, 0, none⟩) (Kd.R_types (Kd.R_types HO_338001.out BK337.out (by decide)) BK336.out (by decide)) (fun _ hk => hk.1.2) (.int .i64 257))) (fun _ hk => hk.1.1), by refine kS_ ?_; exact Kd.S_mono (Kd.S_far (p := ⟨gb336, 3, none⟩) (Kd.S_far (p := ⟨gb336, 2, none⟩) (Kd.S_far (p := ⟨gb336, 1, none⟩) (Kd.S_far (p := ⟨gb336, 0, none⟩) (Kd.S_far (p := ⟨gb337, 0, none⟩) (Kd.S_types (Kd.S_types HO_338002.out BK337.out (by decide)) BK336.out (by decide)) (fun _ hk => hk.1.2) (.int .i64 257)) (fun _ hk => hk.2) (.int .i64 257)) (fun _ hk => hk.2) (.slice Ao104 x338001_1.length co104)) (fun _ hk => hk.2) (.slice Ao105 x338002_1.length co105)) (fun _ hk => hk.2) (.slice Ao106 x338003_1.length co106)) (fun _ hk => trivial), by refine kR_ ?_; exact rfm_ ((Kd.R_far (p := ⟨gb337, 0, none⟩) (Kd.R_types (Kd.R_types HO_338003.out BK337.out (by decide)) BK336.out (by decide)) (fun _ hk => hk.1.2) (.int .i64 257))) (fun _ hk => hk.1.1), is89_ HI0.out, hb89_ HB.out, hkA_ HK.out⟩
       ·rw [if_neg c96] at H
        have c96b0 : (t392 == 2) = false := beq_eq_false_iff_ne.mpr c96
        have c96b1 : (t392 != 2) = true := bne_iff_ne.mpr c96
        by_cases c107 : 10 ≤ 281474976710656
        ·rw [if_pos c107] at H
         have c107b0 := eq_true c107
         have c107b1 : decide (10 ≤ 281474976710656) = true := decide_eq_true c107
         clear c107
         obtain ⟨y397, hy397⟩ : ∃ y_ : List Int, y_ = (List.replicate 10 0) := ⟨_, rfl⟩
         (first | replace H := sb_ hy397 H | rw [← hy397] at H)
         have Ny397 := Aside0.mk hy397; clear hy397
         by_cases c108 : x338002_1.length < 4398046511104
         ·rw [if_pos c108] at H
          have LMc108 := Aside0.mk c108; clear c108
          obtain ⟨y400, hy400⟩ : ∃ y_ : List (S41), y_ = (x338002_1 ++ [(⟨x338000_1, y397⟩ : S41)]) := ⟨_, rfl⟩
          (first | replace H := sb_ hy400 H | rw [← hy400] at H)
          have Ny400 := Aside0.mk hy400; clear hy400
          simp only [Option.some.injEq, Prod.mk.injEq] at H
          obtain ⟨rfl, rfl, rfl, rfl, rfl⟩ := H
          try go_wp2_with (first | ((with_reducible refine gate_callee (f := 71) rfl ?_); refine goesL_ (some 44) rfl rfl Try.func71 (by kernel_rfl) rfl #[.pointer (some ⟨g, 0, none⟩), .int .i64 a1] rfl ar_ ?_; (with_reducible refine (spec_l20Rd_odd.calls k1 g s0_0 x1001_1 a1 true t391 w0 _ ?side1 ?side2 A68.out).mono ?_); (case side1 => exact is89_ HI0.out); (case side2 => exact hb89_ HB.out); rintro e w109 ⟨rfl, hi, hb, hk⟩; refine ⟨_, rfl, ?_⟩; replace HO_338001 := (rk89_ HI0 HO_338001 hk); replace HO_338002 := Aside0.mk (Kd.S_mono (Kd.S_keep (IsS89.apartS (show IsS89 w0 _ g s0_0 x1001_1 from is89_ HI0.out) (kS_ HO_338002.out) (by decide)) hk (fun _ h => h.2)) (fun _ h => h.1)); replace HO_338003 := (rk89_ HI0 HO_338003 hk); replace BK336 := (bkA_ BK336 hk NB336_0); replace BK337 := (bkA_ BK337 hk NB337_0); replace HK := (kk_ HK hk); replace HB := Aside0.mk (hb); replace HI0 := Aside0.mk (hi); (try clear hb); (try clear hb2); (try clear hk); (try clear hi)) | ((with_reducible refine gate_callee (f := 62) rfl ?_); refine goesL_ (some 46) rfl rfl Try.func62 (by kernel_rfl) rfl #[.pointer (some ⟨g, 0, none⟩), .int .i64 4] rfl ar_ ?_; (with_reducible refine (spec_l20Rd_pick.calls k1 g s0_0 t391 4 t392 t393 w0 _ ?side1 ?side2 A70.out).mono ?_); (case side1 => exact is89_ HI0.out); (case side2 => exact hb89_ HB.out); rintro e w110 ⟨rfl, hi, hb, hk⟩; refine ⟨_, rfl, ?_⟩; replace HO_338001 := (rk89_ HI0 HO_338001 hk); replace HO_338002 := Aside0.mk (Kd.S_mono (Kd.S_keep (IsS89.apartS (show IsS89 w0 _ g s0_0 t391 from is89_ HI0.out) (kS_ HO_338002.out) (by decide)) hk (fun _ h => h.2)) (fun _ h => h.1)); replace HO_338003 := (rk89_ HI0 HO_338003 hk); replace BK336 := (bkA_ BK336 hk NB336_0); replace BK337 := (bkA_ BK337 hk NB337_0); replace HK := (kk_ HK hk); replace HB := Aside0.mk (hb); replace HI0 := Aside0.mk (hi); (try clear hb); (try clear hb2); (try clear hk); (try clear hi)))
          replace HO_338001 := Aside0.mk (Kd.R_drew HO_338001.out); replace HO_338002 := Aside0.mk (Kd.S_drew HO_338002.out); replace HO_338003 := Aside0.mk (Kd.R_drew HO_338003.out); replace BK336 := Aside0.mk (blk_drew BK336.out); replace BK337 := Aside0.mk (blk_drew BK337.out); replace HI0 := Aside0.mk (IsS89.drew HI0.out); replace HK := Aside0.mk (keep_drew HK.out); replace HB := (bd_ HB)
          refine start_ (n := 10) (S := fun w' => w'.cell? ⟨gb337, 0, none⟩ = some (.int .i64 x338000_1) ∧ w'.cell? ⟨gb337, 1, none⟩ = some (u338001) ∧ w'.cell? ⟨gb337, 2, none⟩ = some (u338002) ∧ w'.cell? ⟨gb337, 3, none⟩ = some (u338003)) (ds := [9]) #[false, false, false, false, false, false, false, false, false, false] (by kernel_rfl) rfl rfl (cz4 BK337.out) (fun hHeld => ?_); refine with_tabW spec_l20Asking.tab14 spec_l20Asking.bits14 (fun HT_ HW_ => ?_)
          generalize w110.drew = w111 at HO_338001 HO_338002 HO_338003 BK336 BK337 HI0 HK HB hHeld ⊢
          refine pu_ (i := 0) (N := some 47) HT_ ?_; refine pu_ (i := 2) (N := some 49) HT_ ?_; refine tk_ (i := 1) (N := some 48) HT_ HW_ hHeld ?_; refine tk_ (i := 3) (N := some 50) HT_ HW_ hHeld ?_
          refine on_ (i := 4) (N := some 51) HT_ (fun K hK => ?_)
          refine Kd.R_make_step (Kd.int .u8) _ 5 (by rfl) (N := 51) rfl 34 _ _ rfl 10 rfl rfl Try.underlying34 (.int .u8 0) 1 info5 rfl (by decide) (by omega) 0 (ok := fun _ => True) (okp := fun _ => True) rfl (fun _ hk => hk) trivial (by omega) (by omega) (Below.refl _ _) (Nat.le_refl _) ?_
          intro v398 w112 ho113 hb hg_ hnew_
          clear hg_ hnew_
          (first | rw [← Ny397.out] at ho113 | (simp only [Int.reduceToNat] at ho113; rw [← Ny397.out] at ho113))
          have n0_ := Aside0.mk (Kd.R_below (kR_ HO_338001.out) hb); have n1_ := Aside0.mk (Kd.S_elder' (kS_ HO_338002.out) (Kd.R_base ho113) hb); have n2_ := Aside0.mk (Kd.R_below (kR_ HO_338003.out) hb); have n3_ := Aside0.mk (Kd.R_lower ho113 (keep_size (w := w) (g := g) (row := none) (hkA_ HK.out))); have n4_ := (bbA_ BK336 hb); have n5_ := (bbA_ BK337 hb); have n6_ := (ib89_ HI0 hb); have n7_ := (kw_ HK hb); have n8_ := (bs89_ HB hb); clear HO_338001 HO_338002 HO_338003 BK336 BK337 HI0 HK HB; have HO_338001 := n0_; have HO_338002 := n1_; have HO_338003 := n2_; have HO399 := n3_; have BK336 := n4_; have BK337 := n5_; have HI0 := n6_; have HK := n7_; have HB := n8_; clear n0_ n1_ n2_ n3_ n4_ n5_ n6_ n7_ n8_ hb ho113
          obtain ⟨Ao114, co114, eo114⟩ := Kd.R_slice HO399.out
          (first | subst eo114 | (injection eo114 with f1_ f2_ f3_; have f4_ := f1_.symm; have f5_ := f3_.symm; clear f1_ f2_ f3_; subst f4_; subst f5_))
          refine hK.out _ _ (cz4 BK337.out) (fun hHeld => ?_)
          clear hK K; refine nm_ 51 ?_; refine pu_ (i := 5) (N := some 52) HT_ ?_
          refine on_ (i := 6) (N := some 53) HT_ (fun K hK => ?_)
          refine value_ (w1 := ?_) (v := ?_) (by rfl) rfl ?_ ?_
          rotate_left 2
          ·go_simp
           constructor
           ·rfl
           ·rfl
          refine hK.out _ _ ⟨(blk_cell (blk_alloc BK337.out _) 0).trans rfl, (blk_cell (blk_alloc BK337.out _) 1).trans rfl, (blk_cell (blk_alloc BK337.out _) 2).trans rfl, (blk_cell (blk_alloc BK337.out _) 3).trans rfl⟩ (fun hHeld => ?_)
          clear hK K; refine nm_ 53 ?_
          refine on_ (i := 7) (N := some 54) HT_ (fun K hK => ?_)
          refine Kd.S_append_step k41 w.heap.size (by rfl) (.tmp 48) (.tmp 53) 28 41 (.agg #[(.int .i64 0), (.slice none 0 0)]) 32 rfl Try.underlying28 info41 rfl (by decide) (by omega) u338002 x338002_1 (⟨x338000_1, y397⟩ : S41) [.int .i64 x338000_1, .slice Ao114 y397.length co114] (fun _ => True) (fun k_ => some k_ = (.slice Ao114 y397.length co114 : Value).ownBlock) rfl rfl ?aP (fun k_ hk_ => ((Kd.R_mono (ok' := fun k_ => ((fun _ => True)) k_ ∧ some k_ ≠ (u338002 : Value).ownBlock) (Kd.R_apart' (HO399.out) (Kd.S_typed HO_338002.out) (by decide)) (fun k_ hk => ⟨trivial, hk.2⟩))).1 k_ hk_.symm) ?aF ?aO (Below.refl _ _) ?aS ?aL ?_
          (case aP => exact k41_mkM _ _ _ (⟨x338000_1, y397⟩ : S41) (Kd.R_mono (Kd.R_tight rfl (Kd.R_mono (ok' := fun k_ => ((fun _ => True)) k_ ∧ some k_ ≠ (u338002 : Value).ownBlock) (Kd.R_apart' (HO399.out) (Kd.S_typed HO_338002.out) (by decide)) (fun k_ hk => ⟨trivial, hk.2⟩))) (fun _ h_ => h_)))
          (case aF => exact (fun _ _ => trivial))
          (case aO => exact (by refine kS_ ?_; exact Kd.S_mono HO_338002.out (fun k_ hk => ⟨trivial, fun e_ => hk.2 e_⟩)))
          (case aS => exact (keep_size (w := w) (g := g) (row := none) (hkA_ HK.out)))
          (case aL => have := LMc108.out; omega)
          intro v401 w115 ho hb hg hat
          rw [← Ny400.out] at ho
          have n0_ := Aside0.mk (Kd.R_over' (kR_ HO_338001.out) (Kd.S_typed (kS_ HO_338002.out)) (by decide) hg); have n1_ := Aside0.mk (Kd.R_over' (kR_ HO_338003.out) (Kd.S_typed (kS_ HO_338002.out)) (by decide) hg); have n2_ := (bgA_ BK336 hg (Kd.S_ne HO_338002.out BK336.out (by decide))); have n3_ := (bgA_ BK337 hg (Kd.S_ne HO_338002.out BK337.out (by decide))); have n4_ := Aside0.mk (IsS89.grown (is89_ HI0.out) hg (IsS89.own_neS HI0.out HO_338002.out (by decide))); have n5_ := Aside0.mk (below_weaken (hb89_ HB.out) HL.out hb); have n6_ := Aside0.mk (KeepBut.trans (hkA_ HK.out) (KeepBut.of_grown hg g) (Kd.S_base2 HO_338002.out)); have n7_ := Aside0.mk (ho); clear HO_338001 HO_338003 BK336 BK337 HI0 HB HK HO_338002 HO399; have HO_338001 := n0_; have HO_338003 := n1_; have BK336 := n2_; have BK337 := n3_; have HI0 := n4_; have HB := n5_; have HK := n6_; have HO402 := n7_; clear n0_ n1_ n2_ n3_ n4_ n5_ n6_ n7_ ho hb hg hat
          obtain ⟨Ao116, co116, eo116⟩ := Kd.S_slice HO402.out
          (first | subst eo116 | (injection eo116 with f1_ f2_ f3_; have f4_ := f1_.symm; have f5_ := f3_.symm; clear f1_ f2_ f3_; subst f4_; subst f5_))
          refine hK.out _ _ (cz4 BK337.out) (fun hHeld => ?_)
          clear hK K; refine nm_ 54 ?_; refine pu_ (i := 8) (N := some 55) HT_ ?_
          refine last_ (i := 9) (N := none) #[true, true, true, true, true, true, true, true, true, true] rfl rfl (one_of HT_.out (by kernel_rfl)) (by decide) (fun K hK => ?_)
          have hs117 : w115.cell? ⟨gb337, 2, none⟩ = some (u338002) := bc_ BK337 2
          have hfs117 := blk_frozen BK337.out 2
          have hns117_0 := NB336_337.out; have hms117_0 := NB337_336.out
          refine skip_ (w1 := ?_) (by rfl) rfl ?_ ?_
          rotate_left
          ·go_simp
           rfl
          refine hK.out _ _ ?_
          clear hK K
          refine done_ (done_of HT_.out (by kernel_rfl)) ?_
          have hnb118 := NB337_336.out; have hnc118 := NB336_337.out; have hnb119 := NB337_0.out; have hnc119 := NB0_337.out; have Z120 := zz4 BK337; have hnb121 := NB336_0.out; have hnc121 := NB0_336.out; have Z122 := zz4 BK336
          obtain ⟨Ao123, co123, eo123⟩ := Kd.R_slice HO_338001.out
          subst eo123
          obtain ⟨Ao124, co124, eo124⟩ := Kd.R_slice HO_338003.out
          subst eo124
          try go_wp2
          refine bodyPost_ret (results_cell_row rfl _ _ gb336 30 #[.int .i64 (wrap64 (x338000_1 + 1)), .slice Ao123 x338001_1.length co123, .slice Ao116 y400.length co116, .slice Ao124 x338003_1.length co124] (0, 0) _ rfl (by refine kb_ ?_; refine pz4 (cs := #[.int .i64 0, .slice none 0 0, .slice none 0 0, .slice none 0 0]) ?_; exact kf_ BK336.out) Try.underlying30 rfl (by kernel_rfl)) rfl ?_
          exact ⟨_, _, _, by first | rfl | (simp [errW_none, errW_some] <;> rfl) | (simp [*, errW_none, errW_some] <;> rfl), by refine kR_ ?_; exact rfm_ ((Kd.R_far (p := ⟨gb337, 0, none⟩) (Kd.R_far (p := ⟨gb337, 2, none⟩) (Kd.R_types (Kd.R_types HO_338001.out BK337.out (by decide)) BK336.out (by decide)) (fun _ hk => hk.1.2) (.slice Ao116 y400.length co116)) (fun _ hk => hk.1.2) (.int .i64 (wrap64 (x338000_1 + 1))))) (fun _ hk => hk.1.1), by refine kS_ ?_; exact Kd.S_mono (Kd.S_far (p := ⟨gb336, 3, none⟩) (Kd.S_far (p := ⟨gb336, 2, none⟩) (Kd.S_far (p := ⟨gb336, 1, none⟩) (Kd.S_far (p := ⟨gb336, 0, none⟩) (Kd.S_far (p := ⟨gb337, 0, none⟩) (Kd.S_far (p := ⟨gb337, 2, none⟩) (Kd.S_types (Kd.S_types HO402.out BK337.out (by decide)) BK336.out (by decide)) (fun _ hk => hk.1.2) (.slice Ao116 y400.length co116)) (fun _ hk => hk.1.2) (.int .i64 (wrap64 (x338000_1 + 1)))) (fun _ hk => hk.2) (.int .i64 (wrap64 (x338000_1 + 1)))) (fun _ hk => hk.2) (.slice Ao123 x338001_1.length co123)) (fun _ hk => hk.2) (.slice Ao116 y400.length co116)) (fun _ hk => hk.2) (.slice Ao124 x338003_1.length co124)) (fun _ hk => trivial), by refine kR_ ?_; exact rfm_ ((Kd.R_far (p := ⟨gb337, 0, none⟩) (Kd.R_far (p := ⟨gb337, 2, none⟩) (Kd.R_types (Kd.R_types HO_338003.out BK337.out (by decide)) BK336.out (by decide)) (fun _ hk => hk.1.2) (.slice Ao116 y400.length co116)) (fun _ hk => hk.1.2) (.int .i64 (wrap64 (x338000_1 + 1))))) (fun _ hk => hk.1.1), is89_ HI0.out, hb89_ HB.out, hkA_ HK.out⟩
         ·rw [if_neg c108] at H
          exact absurd H (by simp)
        ·rw [if_neg c107] at H
         exact absurd H (by simp)
    ·replace c69 := Bool.eq_false_iff.mpr c69
     subst c69
     rw [if_neg (show ¬ (false = true) by decide)] at H
     simp only [Option.some.injEq, Prod.mk.injEq] at H
     obtain ⟨rfl, rfl, rfl, rfl, rfl⟩ := H
     go_wp2_with (first | ((with_reducible refine gate_callee (f := 71) rfl ?_); refine goesL_ (some 44) rfl rfl Try.func71 (by kernel_rfl) rfl #[.pointer (some ⟨g, 0, none⟩), .int .i64 a1] rfl ar_ ?_; (with_reducible refine (spec_l20Rd_odd.calls k1 g s0_0 x1001_1 a1 false t391 w0 _ ?side1 ?side2 A68.out).mono ?_); (case side1 => exact is89_ HI0.out); (case side2 => exact hb89_ HB.out); rintro e w125 ⟨rfl, hi, hb, hk⟩; refine ⟨_, rfl, ?_⟩; replace HO_338001 := (rk89_ HI0 HO_338001 hk); replace HO_338002 := Aside0.mk (Kd.S_mono (Kd.S_keep (IsS89.apartS (show IsS89 w0 _ g s0_0 x1001_1 from is89_ HI0.out) (kS_ HO_338002.out) (by decide)) hk (fun _ h => h.2)) (fun _ h => h.1)); replace HO_338003 := (rk89_ HI0 HO_338003 hk); replace BK336 := (bkA_ BK336 hk NB336_0); replace BK337 := (bkA_ BK337 hk NB337_0); replace HK := (kk_ HK hk); replace HB := Aside0.mk (hb); replace HI0 := Aside0.mk (hi); (try clear hb); (try clear hb2); (try clear hk); (try clear hi); have hnb126 := NB337_336.out; have hnc126 := NB336_337.out; have hnb127 := NB337_0.out; have hnc127 := NB0_337.out; have Z128 := zz4 BK337; have hnb129 := NB336_0.out; have hnc129 := NB0_336.out; have Z130 := zz4 BK336; obtain ⟨Ao131, co131, eo131⟩ := Kd.R_slice HO_338001.out; subst eo131; obtain ⟨Ao132, co132, eo132⟩ := Kd.S_slice HO_338002.out; subst eo132; obtain ⟨Ao133, co133, eo133⟩ := Kd.R_slice HO_338003.out; subst eo133))
     refine bodyPost_ret (results_cell_row rfl _ _ gb336 30 #[.int .i64 x338000_1, .slice Ao131 x338001_1.length co131, .slice Ao132 x338002_1.length co132, .slice Ao133 x338003_1.length co133] (0, 0) _ rfl (by refine kb_ ?_; refine pz4 (cs := #[.int .i64 0, .slice none 0 0, .slice none 0 0, .slice none 0 0]) ?_; refine kb_ ?_; exact BK336.out) Try.underlying30 rfl (by kernel_rfl)) rfl ?_
     exact ⟨_, _, _, by first | rfl | (simp [errW_none, errW_some] <;> rfl) | (simp [*, errW_none, errW_some] <;> rfl), by refine kR_ ?_; exact rfm_ ((Kd.R_types HO_338001.out BK336.out (by decide))) (fun _ hk => hk.1), by refine kS_ ?_; exact Kd.S_mono (Kd.S_far (p := ⟨gb336, 3, none⟩) (Kd.S_far (p := ⟨gb336, 2, none⟩) (Kd.S_far (p := ⟨gb336, 1, none⟩) (Kd.S_far (p := ⟨gb336, 0, none⟩) (Kd.S_types HO_338002.out BK336.out (by decide)) (fun _ hk => hk.2) (.int .i64 x338000_1)) (fun _ hk => hk.2) (.slice Ao131 x338001_1.length co131)) (fun _ hk => hk.2) (.slice Ao132 x338002_1.length co132)) (fun _ hk => hk.2) (.slice Ao133 x338003_1.length co133)) (fun _ hk => trivial), by refine kR_ ?_; exact rfm_ ((Kd.R_types HO_338003.out BK336.out (by decide))) (fun _ hk => hk.1), is89_ HI0.out, hb89_ HB.out, hkA_ HK.out⟩
def spec_l20Open.f (l0 : List Int) : Option (List Int × Int) := if (l0.length : Int) > 2000 then (if 2000 ≤ (l0.length : Int) then (some (l0.take 2000, 0)) else (none)) else (some (l0, 0))
set_option maxHeartbeats 8000000 in
set_option maxRecDepth 100000 in
theorem spec_l20Open.calls (A0 : Option Addr) (c0 : Nat) (l0 : List Int) (r1 : List Int) (r2 : Int) (w0 w : World) (hB : Below w0.heap.size w0 w) (hr0 : Kd.C (Kd.int .u8) w0 A0 l0.length l0) (hc0 : l0.length ≤ c0) (h : spec_l20Open.f l0 = some (r1, r2)) :
  Calls Try.prog 53 #[.slice A0 l0.length c0] w fun e w' => ∃ g_ : Nat, e = .returned (.pointer (some ⟨g_, 0, none⟩)) ∧ IsS89 w0 w' g_ r1 r2 ∧ Below w0.heap.size w0 w' ∧ Below w.heap.size w w' := by
 have hu89 := Try.underlying89; have HR0 := Aside0.mk hr0; have HC0 := Aside0.mk hc0; clear hr0 hc0
 have HBW := Aside0.mk (Below.refl w.heap.size w)
 have HW0 := Aside0.mk hB.size; have HB := Aside0.mk hB; clear hB
 have H : (if (l0.length : Int) > 2000 then (if 2000 ≤ (l0.length : Int) then (some (l0.take 2000, 0)) else (none)) else (some (l0, 0))) = some (r1, r2) := h
 clear h
 by_cases c2 : (l0.length : Int) > 2000
 ·rw [if_pos c2] at H
  have c2b0 : decide (2000 < (l0.length : Int)) = true := decide_eq_true c2
  have c2b1 : decide (2000 < l0.length) = true := decide_eq_true (by omega)
  clear c2
  by_cases c3 : 2000 ≤ (l0.length : Int)
  ·rw [if_pos c3] at H
   have c3b0 := eq_true c3
   have c3b1 : decide (2000 ≤ (l0.length : Int)) = true := decide_eq_true c3
   clear c3
   simp only [Option.some.injEq, Prod.mk.injEq] at H
   obtain ⟨rfl, rfl⟩ := H
   obtain ⟨i04, hi04, _, hsz4, _⟩ := info_parts info5
   obtain ⟨hcut4, hA4, hC4⟩ := print_take_of (P := Try.prog) (Value.int .u8) 0 34 5 .i64 Try.underlying34 hi04 hsz4 A0 c0 l0 2000 (by omega) (of_decide_eq_true (by first | (with_reducible assumption) | assumption)) HC0.out
   have HR403 := Aside0.mk (Kd.C_of_reads (h1 := fun _ => rfl) (hA4 _ (Kd.reads_of_C HR0.out)))
   have HC403 := Aside0.mk hC4; clear hA4 hC4 hi04 hsz4
   go_enter Try.func53, Try.ntmps53
   go_wp2_with (first | ((with_reducible refine gate_dst (N := 10) rfl ?_); refine box_ (N := 10) (cs := #[.slice A0 (l0.take 2000).length c0, .int .i64 0]) (t := 89) (fun gb404 hg w5 hbox hb => ?_); replace HB := (bs_ HB hb); have BK404 := Aside0.mk (hbox); have GW404 := Aside0.mk ((by rw [hg]; exact (below_size (hb0_ HBW.out)) : w.heap.size ≤ gb404)); have GE404 := Aside0.mk ((Nat.le_trans HW0.out (by rw [hg]; exact (below_size (hb0_ HBW.out)) : w.heap.size ≤ gb404) : w0.heap.size ≤ gb404)); replace HBW := Aside0.mk (below_step HBW.out hb); clear hb hbox hg))
   go_ret
   exact ⟨_, rfl, (show IsS89 w0 _ gb404 (l0.take 2000) 0 from ⟨_, _, by refine kb_ ?_; exact BK404.out, GE404.out, HR403.out⟩), hbA_ HB.out, by repeat (first | (with_reducible first | exact HBW.out | apply below_alloc | apply pw_below_drewN | apply below_drew1 | refine below_set ?_ GW404.out) | exact HBW.out)⟩
  ·rw [if_neg c3] at H
   exact absurd H (by simp)
 ·rw [if_neg c2] at H
  have c2b0 : decide (2000 < (l0.length : Int)) = false := decide_eq_false c2
  have c2b1 : decide (2000 < l0.length) = false := decide_eq_false (by omega)
  clear c2
  simp only [Option.some.injEq, Prod.mk.injEq] at H
  obtain ⟨rfl, rfl⟩ := H
  go_enter Try.func53, Try.ntmps53
  go_wp2_with (first | ((with_reducible refine gate_dst (N := 10) rfl ?_); refine box_ (N := 10) (cs := #[.slice A0 l0.length c0, .int .i64 0]) (t := 89) (fun gb405 hg w6 hbox hb => ?_); replace HB := (bs_ HB hb); have BK405 := Aside0.mk (hbox); have GW405 := Aside0.mk ((by rw [hg]; exact (below_size (hb0_ HBW.out)) : w.heap.size ≤ gb405)); have GE405 := Aside0.mk ((Nat.le_trans HW0.out (by rw [hg]; exact (below_size (hb0_ HBW.out)) : w.heap.size ≤ gb405) : w0.heap.size ≤ gb405)); replace HBW := Aside0.mk (below_step HBW.out hb); clear hb hbox hg))
  go_ret
  exact ⟨_, rfl, (show IsS89 w0 _ gb405 l0 0 from ⟨_, _, by refine kb_ ?_; exact BK405.out, GE405.out, HR0.out⟩), hbA_ HB.out, by repeat (first | (with_reducible first | exact HBW.out | apply below_alloc | apply pw_below_drewN | apply below_drew1 | refine below_set ?_ GW405.out) | exact HBW.out)⟩
def spec_DrawClientHear.f (k : Nat) (l0 : List Int) : Option (Int × List Int × (List (S41)) × List Int × Int × List Int) := (spec_l20Open.f l0).bind fun bt408 => ((spec_l20Asking.f k bt408.1 bt408.2 15).bind fun bt411 => ((spec_l20Words.f k bt408.1 bt411.2.2.2.2 15).bind fun bt422 => (some (bt411.1, bt411.2.1, bt411.2.2.1, bt411.2.2.2.1, bt422.1, bt422.2.1))))
theorem spec_DrawClientHear.mono : ∀ a0 k, LeO (spec_DrawClientHear.f k a0) (spec_DrawClientHear.f (k + 1) a0) := by
 intro a0 k
 unfold spec_DrawClientHear.f
 repeat' first | (with_reducible first | apply spec_l20Asking.mono | apply spec_l20Words.mono | exact LeO.refl _ | exact LeO.none _ | refine LeO.ite ?_ ?_ | refine LeO.bind ?_ fun _ => ?_) | apply spec_l20Asking.mono | apply spec_l20Words.mono | exact LeO.none _ | refine LeO.ite ?_ ?_ | refine LeO.bind ?_ fun _ => ?_
set_option maxHeartbeats 8000000 in
set_option maxRecDepth 100000 in
theorem spec_DrawClientHear.calls (k : Nat) (A0 : Option Addr) (c0 : Nat) (l0 : List Int) (r1 : Int) (r2 : List Int) (r3 : List (S41)) (r4 : List Int) (r5 : Int) (r6 : List Int) (w : World) (hr0 : Kd.C (Kd.int .u8) w A0 l0.length l0) (hc0 : l0.length ≤ c0) (h : spec_DrawClientHear.f k l0 = some (r1, r2, r3, r4, r5, r6)) :
  Calls Try.prog 22 #[.slice A0 l0.length c0] w fun e w' => ∃ v1_ v2_ v3_ v5_ : Value, e = .returned (.tuple #[.agg #[.int .i64 r1, v1_, v2_, v3_], .agg #[.int .i64 r5, v5_]]) ∧ Kd.R (Kd.int .i64) 3 w' w.heap.size (fun k_ => some k_ ≠ (v3_ : Value).ownBlock) v1_ r2 ∧ Kd.S k41 41 w' w.heap.size (fun k_ => some k_ ≠ (v5_ : Value).ownBlock) v2_ r3 ∧ Kd.R (Kd.int .i64) 3 w' w.heap.size (fun k_ => some k_ ≠ (v1_ : Value).ownBlock) v3_ r4 ∧ Kd.R (Kd.int .u8) 5 w' w.heap.size (fun _ => True) v5_ r6 ∧ Below w.heap.size w w' := by
 have hu30 := Try.underlying30; have hu41 := Try.underlying41; have HR0 := Aside0.mk hr0; have HC0 := Aside0.mk hc0; clear hr0 hc0
 have HB := Aside0.mk (Below.refl w.heap.size w)
 have H : ((spec_l20Open.f l0).bind fun bt408 => ((spec_l20Asking.f k bt408.1 bt408.2 15).bind fun bt411 => ((spec_l20Words.f k bt408.1 bt411.2.2.2.2 15).bind fun bt422 => (some (bt411.1, bt411.2.1, bt411.2.2.1, bt411.2.2.2.1, bt422.1, bt422.2.1))))) = some (r1, r2, r3, r4, r5, r6) := h
 clear h
 replace H := Option.bind_eq_some_iff.mp H
 obtain ⟨⟨t408, t409⟩, A20, H⟩ := H
 (try dsimp only at H)
 have A2 := Aside0.mk A20; clear A20
 replace H := Option.bind_eq_some_iff.mp H
 obtain ⟨⟨t411, t412, t415, t418, t421⟩, A30, H⟩ := H
 (try dsimp only at H)
 have A3 := Aside0.mk A30; clear A30
 replace H := Option.bind_eq_some_iff.mp H
 obtain ⟨⟨t422, t423, t426⟩, A40, H⟩ := H
 (try dsimp only at H)
 have A4 := Aside0.mk A40; clear A40
 simp only [Option.some.injEq, Prod.mk.injEq] at H
 obtain ⟨rfl, rfl, rfl, rfl, rfl, rfl⟩ := H
 go_enter Try.func22, Try.ntmps22
 go_wp2_with (first | ((with_reducible refine gate_dst (N := 2) rfl ?_); refine box_ (N := 2) (cs := #[.int .i64 0, .slice none 0 0, .slice none 0 0, .slice none 0 0]) (t := 30) (fun gb406 hg w5 hbox hb => ?_); have BK406 := Aside0.mk (hbox); have GW406 := ge_ hg HB; have GE406 := ge_ hg HB; replace HB := (bs_ HB hb); clear hb hbox hg) | ((with_reducible refine gate_dst (N := 3) rfl ?_); refine box_ (N := 3) (cs := #[.int .i64 0, .slice none 0 0]) (t := 41) (fun gb407 hg w6 hbox hb => ?_); have BK407 := Aside0.mk (hbox); have GW407 := ge_ hg HB; have GE407 := ge_ hg HB; replace HB := (bs_ HB hb); have NB406_407 := nl_ hg BK406; have NB407_406 := ng_ hg BK406; replace BK406 := (bbA_ BK406 hb); clear hb hbox hg) | ((with_reducible refine gate_callee (f := 53) rfl ?_); refine goesL_ (some 6) rfl rfl Try.func53 (by kernel_rfl) rfl #[.slice A0 l0.length c0] rfl ar_ ?_; (with_reducible refine (spec_l20Open.calls _ _ l0 t408 t409 w _ ?side1 ?side2 ?side3 A2.out).mono ?_); (case side1 => exact hbA_ HB.out); (case side2 => exact HR0.out); (case side3 => exact HC0.out); rintro e w7 ⟨g410, rfl, hi, hb, hb2⟩; refine ⟨_, rfl, ?_⟩; replace HB := Aside0.mk (hb); have HI410 := Aside0.mk (hi); have NB410_406 := Aside0.mk (IsS89.ne_blk hi (bb_ BK406 hb2) (by decide)); have NB406_410 := Aside0.mk (Ne.symm (IsS89.ne_blk hi (bb_ BK406 hb2) (by decide))); replace BK406 := (bbA_ BK406 hb2); have NB410_407 := Aside0.mk (IsS89.ne_blk hi (bb_ BK407 hb2) (by decide)); have NB407_410 := Aside0.mk (Ne.symm (IsS89.ne_blk hi (bb_ BK407 hb2) (by decide))); replace BK407 := (bbA_ BK407 hb2); (try clear hb); (try clear hb2); (try clear hk); (try clear hi)) | ((with_reducible refine gate_callee (f := 52) rfl ?_); refine goesL_ (some 8) rfl rfl Try.func52 (by kernel_rfl) rfl #[.pointer (some ⟨g410, 0, none⟩), .int .i64 15] rfl ar_ ?_; (with_reducible refine (spec_l20Asking.calls k g410 t408 t409 15 t411 t412 t415 t418 t421 w _ ?side1 ?side2 A3.out).mono ?_); (case side1 => exact is89_ HI410.out); (case side2 => exact hb89_ HB.out); rintro e w8 ⟨v413, v416, v419, rfl, ho0, ho1, ho2, hi, hb, hk⟩; refine ⟨_, rfl, ?_⟩; replace BK406 := (bkA_ BK406 hk NB406_410); have HO414 := Aside0.mk (Kd.R_lower ho0 (below_size (hb89_ HB.out))); have HO417 := Aside0.mk (Kd.S_lower (nbS_ ho1 BK407) (below_size (hb89_ HB.out))); replace BK407 := (bkA_ BK407 hk NB407_410); have HO420 := Aside0.mk (Kd.R_lower ho2 (below_size (hb89_ HB.out))); replace HB := Aside0.mk (hb); replace HI410 := Aside0.mk (hi); (try clear hb); (try clear hb2); (try clear hk); (try clear hi); (try clear ho0); (try clear ho1); (try clear ho2)) | ((with_reducible refine gate_callee (f := 58) rfl ?_); refine goesL_ (some 10) rfl rfl Try.func58 (by kernel_rfl) rfl #[.pointer (some ⟨g410, 0, none⟩), .int .i64 15] rfl ar_ ?_; (with_reducible refine (spec_l20Words.calls k g410 t408 t421 15 t422 t423 t426 w _ ?side1 ?side2 A4.out).mono ?_); (case side1 => exact is89_ HI410.out); (case side2 => exact hb89_ HB.out); rintro e w9 ⟨v424, rfl, ho0, hi, hb, hk⟩; refine ⟨_, rfl, ?_⟩; replace BK406 := (bkA_ BK406 hk NB406_410); replace BK407 := (bkA_ BK407 hk NB407_410); replace HO414 := (rk89_ HI410 HO414 hk); replace HO417 := Aside0.mk (Kd.S_mono (Kd.S_told (Kd.S_oldK (IsS89.apartS (show IsS89 w _ g410 t408 t421 from is89_ HI410.out) (kS_ HO417.out) (by decide)) hk) (Kd.R_base ho0)) (fun _ h_ => op1_ h_)); replace HO420 := (rk89_ HI410 HO420 hk); have HO425 := Aside0.mk (Kd.R_lower ho0 (below_size (hb89_ HB.out))); replace HB := Aside0.mk (hb); replace HI410 := Aside0.mk (hi); (try clear hb); (try clear hb2); (try clear hk); (try clear hi); (try clear ho0); have hnb10 := NB406_407.out; have hnc10 := NB407_406.out; have hnb11 := NB406_410.out; have hnc11 := NB410_406.out; have Z12 := zz4 BK406; obtain ⟨Ao13, co13, eo13⟩ := Kd.R_slice HO414.out; subst eo13; obtain ⟨Ao14, co14, eo14⟩ := Kd.S_slice HO417.out; subst eo14; obtain ⟨Ao15, co15, eo15⟩ := Kd.R_slice HO420.out; subst eo15; have hnb16 := NB407_410.out; have hnc16 := NB410_407.out; have Z17 := zz2 BK407; obtain ⟨Ao18, co18, eo18⟩ := Kd.R_slice HO425.out; subst eo18))
 refine bodyPost_ret (results_cc rfl _ _ gb406 gb407 30 41 #[.int .i64 t411, .slice Ao13 t412.length co13, .slice Ao14 t415.length co14, .slice Ao15 t418.length co15] #[.int .i64 t422, .slice Ao18 t423.length co18] (0, 0) (0, 0) _ _ rfl (by refine kb_ ?_; refine blk_far ?_ NB406_407.out _; refine kb_ ?_; refine blk_far ?_ NB406_407.out _; refine kb_ ?_; refine pz4 (cs := #[.int .i64 0, .slice none 0 0, .slice none 0 0, .slice none 0 0]) ?_; refine kb_ ?_; exact BK406.out) Try.underlying30 rfl (by kernel_rfl) rfl (by refine kb_ ?_; refine pz2 (cs := #[.int .i64 0, .slice none 0 0]) ?_; exact kf_ BK407.out) Try.underlying41 rfl (by kernel_rfl)) rfl ?_
 exact ⟨_, _, _, _, by first | rfl | (simp [errW_none, errW_some] <;> rfl) | (simp [*, errW_none, errW_some] <;> rfl), by refine kR_ ?_; exact rfm_ ((Kd.R_far (p := ⟨gb406, 3, none⟩) (Kd.R_far (p := ⟨gb406, 2, none⟩) (Kd.R_far (p := ⟨gb406, 1, none⟩) (Kd.R_far (p := ⟨gb406, 0, none⟩) (Kd.R_types (Kd.R_types HO414.out BK406.out (by decide)) BK407.out (by decide)) (fun _ hk => hk.1.2) (.int .i64 t411)) (fun _ hk => hk.1.2) (.slice Ao13 t412.length co13)) (fun _ hk => hk.1.2) (.slice Ao14 t415.length co14)) (fun _ hk => hk.1.2) (.slice Ao15 t418.length co15))) (fun _ hk => hk.1.1), by refine kS_ ?_; exact Kd.S_mono (Kd.S_far (p := ⟨gb407, 1, none⟩) (Kd.S_far (p := ⟨gb407, 0, none⟩) (Kd.S_far (p := ⟨gb406, 3, none⟩) (Kd.S_far (p := ⟨gb406, 2, none⟩) (Kd.S_far (p := ⟨gb406, 1, none⟩) (Kd.S_far (p := ⟨gb406, 0, none⟩) (Kd.S_mono (Kd.S_types HO417.out BK406.out (by decide)) (fun k_ hk => (⟨hk, hk.1.1.2⟩ : _ ∧ k_ ≠ gb407))) (fun _ hk => hk.1.2) (.int .i64 t411)) (fun _ hk => hk.1.2) (.slice Ao13 t412.length co13)) (fun _ hk => hk.1.2) (.slice Ao14 t415.length co14)) (fun _ hk => hk.1.2) (.slice Ao15 t418.length co15)) (fun _ hk => hk.2) (.int .i64 t422)) (fun _ hk => hk.2) (.slice Ao18 t423.length co18)) (fun _ hk => hk.1.1.2), by refine kR_ ?_; exact rfm_ ((Kd.R_far (p := ⟨gb406, 3, none⟩) (Kd.R_far (p := ⟨gb406, 2, none⟩) (Kd.R_far (p := ⟨gb406, 1, none⟩) (Kd.R_far (p := ⟨gb406, 0, none⟩) (Kd.R_types (Kd.R_types HO420.out BK406.out (by decide)) BK407.out (by decide)) (fun _ hk => hk.1.2) (.int .i64 t411)) (fun _ hk => hk.1.2) (.slice Ao13 t412.length co13)) (fun _ hk => hk.1.2) (.slice Ao14 t415.length co14)) (fun _ hk => hk.1.2) (.slice Ao15 t418.length co15))) (fun _ hk => hk.1.1), by refine kR_ ?_; exact rfm_ ((Kd.R_far (p := ⟨gb406, 3, none⟩) (Kd.R_far (p := ⟨gb406, 2, none⟩) (Kd.R_far (p := ⟨gb406, 1, none⟩) (Kd.R_far (p := ⟨gb406, 0, none⟩) (Kd.R_types (Kd.R_types HO425.out BK406.out (by decide)) BK407.out (by decide)) (fun _ hk => hk.1.2) (.int .i64 t411)) (fun _ hk => hk.1.2) (.slice Ao13 t412.length co13)) (fun _ hk => hk.1.2) (.slice Ao14 t415.length co14)) (fun _ hk => hk.1.2) (.slice Ao15 t418.length co15))) (fun _ hk => trivial), hb89_ HB.out⟩
theorem impl_Words.calls (A0 : Option Addr) (c0 n0 : Nat) (w : World) (hc : n0 ≤ c0) : Calls Try.prog 65 #[.slice A0 n0 c0] w fun e w' => e = .returned (.slice A0 n0 n0) ∧ w' = w := by
  go_enter Try.func65, Try.ntmps65
  go_wp2
  go_ret
  exact ⟨rfl, rfl⟩
theorem slices_Clip_byte_byte.calls (A0 : Option Addr) (c0 n0 : Nat) (w : World) (hc : n0 ≤ c0) : Calls Try.prog 75 #[.slice A0 n0 c0] w fun e w' => e = .returned (.slice A0 n0 n0) ∧ w' = w := by
  go_enter Try.func75, Try.ntmps75
  go_wp2
  go_ret
  exact ⟨rfl, rfl⟩
def impl_clone_byte.f (l0 : List Int) : Option (List Int) := if l0.length * 1 ≤ 140737488355328 then some l0 else none
theorem impl_clone_byte.calls (A0 : Option Addr) (c0 : Nat) (l0 : List Int) (r : List Int) (w : World) (hr0 : Kd.C (Kd.int .u8) w A0 l0.length l0) (hc0 : l0.length ≤ c0) (h : impl_clone_byte.f l0 = some r) :
    Calls Try.prog 66 #[.slice A0 l0.length c0] w fun e w' => ∃ v0_ : Value, e = .returned (v0_) ∧ Kd.R (Kd.int .u8) 5 w' w.heap.size (fun _ => True) v0_ r ∧ Below w.heap.size w w' := by
  obtain ⟨hle, rfl⟩ : l0.length * 1 ≤ 140737488355328 ∧ l0 = r := by
    unfold impl_clone_byte.f at h; split at h
    · exact ⟨by assumption, Option.some.inj h⟩
    · cases h
  have hm := hr0.2.1
  have HR := Aside0.mk hr0; clear hr0 h
  by_cases h0 : l0.length = 0
  · have hb : ((l0.length : Int) == 0) = true := by simp [h0]
    have HL : Aside0 (l0 = []) := ⟨List.eq_nil_of_length_eq_zero h0⟩
    clear h0
    go_enter Try.func66, Try.ntmps66
    go_wp2
    go_ret
    refine ⟨_, rfl, ?_, Below.refl _ _⟩
    rw [HL.out]; exact Kd.R_nil _ _ _ _ _
  · have hb : ((l0.length : Int) == 0) = false := by simp; intro hh; exact h0 (by simp [hh])
    clear h0
    go_enter Try.func66, Try.ntmps66
    go_wp2_with (first
      | ((with_reducible refine gate_dst (N := 7) rfl ?_); refine Kd.R_append_rows (Kd.int .u8) (Rr := (Kd.int .u8).K w) w.heap.size rfl _ _ 34 5 (.int .u8 0) 1 rfl Try.underlying34 info5 rfl (by decide) (by decide) (.slice none 0 0) [] l0 A0 l0.length c0 (fun _ => True) (fun _ => True) rfl rfl (Kd.R_nil _ _ _ _ _) HR.out (fun x cs h => h) (fun k _ => ⟨trivial, by simp [Value.ownBlock]⟩) (fun _ _ => trivial) (Below.refl _ _) (Nat.le_refl _) (by simpa using hle) ?_; intro v1 w1 ho hb1 hg hat; rw [List.nil_append] at ho; obtain ⟨A1, c1, hv1, hc1, _⟩ := Kd.R_reads ho; have HO := Aside0.mk ho; clear ho hat hg; have HB := Aside0.mk hb1; clear hb1; subst hv1)
      | (go_at_call 75; (with_reducible refine (slices_Clip_byte_byte.calls _ _ _ _ hc1).mono ?_); rintro e w' ⟨rfl, rfl⟩))
    go_ret
    exact ⟨_, rfl, Kd.R_clip HO.out (Nat.le_refl _) hc1, HB.out⟩
theorem slices_Clip_int_int.calls (A0 : Option Addr) (c0 n0 : Nat) (w : World) (hc : n0 ≤ c0) : Calls Try.prog 76 #[.slice A0 n0 c0] w fun e w' => e = .returned (.slice A0 n0 n0) ∧ w' = w := by
  go_enter Try.func76, Try.ntmps76
  go_wp2
  go_ret
  exact ⟨rfl, rfl⟩
def impl_clone_int.f (l0 : List Int) : Option (List Int) := if l0.length * 8 ≤ 140737488355328 then some l0 else none
theorem impl_clone_int.calls (A0 : Option Addr) (c0 : Nat) (l0 : List Int) (r : List Int) (w : World) (hr0 : Kd.C (Kd.int .i64) w A0 l0.length l0) (hc0 : l0.length ≤ c0) (h : impl_clone_int.f l0 = some r) :
    Calls Try.prog 72 #[.slice A0 l0.length c0] w fun e w' => ∃ v0_ : Value, e = .returned (v0_) ∧ Kd.R (Kd.int .i64) 3 w' w.heap.size (fun _ => True) v0_ r ∧ Below w.heap.size w w' := by
  obtain ⟨hle, rfl⟩ : l0.length * 8 ≤ 140737488355328 ∧ l0 = r := by
    unfold impl_clone_int.f at h; split at h
    · exact ⟨by assumption, Option.some.inj h⟩
    · cases h
  have hm := hr0.2.1
  have HR := Aside0.mk hr0; clear hr0 h
  by_cases h0 : l0.length = 0
  · have hb : ((l0.length : Int) == 0) = true := by simp [h0]
    have HL : Aside0 (l0 = []) := ⟨List.eq_nil_of_length_eq_zero h0⟩
    clear h0
    go_enter Try.func72, Try.ntmps72
    go_wp2
    go_ret
    refine ⟨_, rfl, ?_, Below.refl _ _⟩
    rw [HL.out]; exact Kd.R_nil _ _ _ _ _
  · have hb : ((l0.length : Int) == 0) = false := by simp; intro hh; exact h0 (by simp [hh])
    clear h0
    go_enter Try.func72, Try.ntmps72
    go_wp2_with (first
      | ((with_reducible refine gate_dst (N := 7) rfl ?_); refine Kd.R_append_rows (Kd.int .i64) (Rr := (Kd.int .i64).K w) w.heap.size rfl _ _ 22 3 (.int .i64 0) 8 rfl Try.underlying22 info3 rfl (by decide) (by decide) (.slice none 0 0) [] l0 A0 l0.length c0 (fun _ => True) (fun _ => True) rfl rfl (Kd.R_nil _ _ _ _ _) HR.out (fun x cs h => h) (fun k _ => ⟨trivial, by simp [Value.ownBlock]⟩) (fun _ _ => trivial) (Below.refl _ _) (Nat.le_refl _) (by simpa using hle) ?_; intro v1 w1 ho hb1 hg hat; rw [List.nil_append] at ho; obtain ⟨A1, c1, hv1, hc1, _⟩ := Kd.R_reads ho; have HO := Aside0.mk ho; clear ho hat hg; have HB := Aside0.mk hb1; clear hb1; subst hv1)
      | (go_at_call 76; (with_reducible refine (slices_Clip_int_int.calls _ _ _ _ hc1).mono ?_); rintro e w' ⟨rfl, rfl⟩))
    go_ret
    exact ⟨_, rfl, Kd.R_clip HO.out (Nat.le_refl _) hc1, HB.out⟩
end Go.Proofs.Ytegchbdjbefdbaa.PFnClientHear
