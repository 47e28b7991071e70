/- Printed by wip/xp/xprint.sh out of the translation, for this claim: what each function answers, as a plain function, and that the machine does just that. No condition. -/
import Derived.Test.YtegchbdjbefdbaaPFnClientOverx0
import Derived.Test.YtegchbdjbefdbaaPFnClientOverx3
import Derived.Test.YtegchbdjbefdbaaPFnClientOverx4
namespace Go.Proofs.Ytegchbdjbefdbaa.PFnClientOver
open Go.RowKit Go.Proofs.YtegchbdjbefdbaaW.PrintWords Go.Proofs.YtegchbdjbefdbaaW.PrintLast Go.Proofs.YtegchbdjbefdbaaW.PrintMore
attribute [local go_sem] max2_int min2_int max_two min_two max_three min_three max_four min_four   -- for this text's walks alone
set_option linter.unusedVariables false
set_option linter.unusedSimpArgs false
def spec_l20Rd_odd.f (k : Nat) (s0_0 : List Int) (s0_1 : Int) (a1 : Int) : Option (Bool × Int) := if a1 > 0 then ((spec_l20Rd_pick.f k s0_0 s0_1 a1).bind fun bt288 => (some ((bt288.1 == (wrap64 (a1 - 1))), bt288.2))) else (some (false, s0_1))
theorem spec_l20Rd_odd.mono : ∀ a0 a1 a2 k, LeO (spec_l20Rd_odd.f k a0 a1 a2) (spec_l20Rd_odd.f (k + 1) a0 a1 a2) := by
 intro a0 a1 a2 k
 unfold spec_l20Rd_odd.f
 repeat' first | (with_reducible first | apply spec_l20Rd_pick.mono | exact LeO.refl _ | exact LeO.none _ | refine LeO.ite ?_ ?_ | refine LeO.bind ?_ fun _ => ?_) | apply spec_l20Rd_pick.mono | exact LeO.none _ | refine LeO.ite ?_ ?_ | refine LeO.bind ?_ fun _ => ?_
set_option maxHeartbeats 8000000 in
set_option maxRecDepth 100000 in
theorem spec_l20Rd_odd.calls (k : Nat) (g : Nat) (s0_0 : List Int) (s0_1 : Int) (a1 : Int) (r1 : Bool) (r2 : Int) (w0 w : World) (hI : IsS89 w0 w g s0_0 s0_1) (hB : Below w0.heap.size w0 w) (h : spec_l20Rd_odd.f k s0_0 s0_1 a1 = some (r1, r2)) :
  Calls Try.prog 71 #[.pointer (some ⟨g, 0, none⟩), .int .i64 a1] w fun e w' => e = .returned (.bool r1) ∧ IsS89 w0 w' g s0_0 r2 ∧ Below w0.heap.size w0 w' ∧ KeepBut w w' g none := by
 have HI0 := Aside0.mk hI
 have HK := Aside0.mk (KeepBut.refl w g none)
 have HL := Aside0.mk hB.size; clear hI; have HW0 := Aside0.mk hB.size; have HB := Aside0.mk hB; clear hB
 have H : (if a1 > 0 then ((spec_l20Rd_pick.f k s0_0 s0_1 a1).bind fun bt288 => (some ((bt288.1 == (wrap64 (a1 - 1))), bt288.2))) else (some (false, s0_1))) = some (r1, r2) := h
 clear h
 by_cases c3 : a1 > 0
 ·rw [if_pos c3] at H
  have c3b0 : decide (0 < a1) = true := decide_eq_true c3
  clear c3
  replace H := Option.bind_eq_some_iff.mp H
  obtain ⟨⟨t288, t289⟩, A40, H⟩ := H
  (try dsimp only at H)
  have A4 := Aside0.mk A40; clear A40
  simp only [Option.some.injEq, Prod.mk.injEq] at H
  obtain ⟨rfl, rfl⟩ := H
  go_enter Try.func71, Try.ntmps71
  go_wp2_with (first | (go_at_call 62; (with_reducible refine (spec_l20Rd_pick.calls k g s0_0 s0_1 a1 t288 t289 w0 _ ?side1 ?side2 A4.out).mono ?_); (case side1 => exact is89_ HI0.out); (case side2 => exact hb89_ HB.out); rintro e w5 ⟨rfl, hi, hb, hk⟩; replace HK := (kk_ HK hk); replace HB := Aside0.mk (hb); replace HI0 := Aside0.mk (hi); (try clear hb); (try clear hb2); (try clear hk); (try clear hi)))
  go_ret
  exact ⟨by first | rfl | (simp [errW_none, errW_some] <;> rfl) | (simp [*, errW_none, errW_some] <;> rfl), is89_ HI0.out, hb89_ HB.out, hkA_ HK.out⟩
 ·rw [if_neg c3] at H
  have c3b0 : decide (0 < a1) = false := decide_eq_false c3
  clear c3
  simp only [Option.some.injEq, Prod.mk.injEq] at H
  obtain ⟨rfl, rfl⟩ := H
  go_enter Try.func71, Try.ntmps71
  go_wp2
  go_ret
  exact ⟨by first | rfl | (simp [errW_none, errW_some] <;> rfl) | (simp [*, errW_none, errW_some] <;> rfl), is89_ HI0.out, hb89_ HB.out, hkA_ HK.out⟩
def spec_l20Words.j0 : Nat → Int → List Int → Int → Int → List Int → Option (Int × List Int × Int)
 | 0, _, _, _, _, _ => none
 | k + 1, x1, x1000, x1001, x300000, x300001 => (spec_l20Rd_odd.f k x1000 x1001 x1).bind fun bt304 => (if bt304.1 = true then (if 10 ≤ 281474976710656 then (some (x300000, (List.replicate 10 0), bt304.2)) else (none)) else (some (x300000, x300001, bt304.2)))
def spec_l20Words.f (k : Nat) (s0_0 : List Int) (s0_1 : Int) (a1 : Int) : Option (Int × List Int × Int) := (spec_l20Rd_pick.f k s0_0 s0_1 6).bind fun bt291 => ((spec_l20Rd_pick.f k s0_0 bt291.2 8).bind fun bt293 => ((spec_l20Rd_bytes.f k s0_0 bt293.2 bt293.1).bind fun bt295 => ((spec_l20Rd_odd.f k s0_0 bt295.2 a1).bind fun bt300 => (if bt300.1 = true then ((spec_l20Rd_pick.f k s0_0 bt300.2 2).bind fun bt302 => (spec_l20Words.j0 k a1 s0_0 bt302.2 (wrap64 (256 - (wrap64 (bt302.1 * 300)))) bt295.1)) else (spec_l20Words.j0 k a1 s0_0 bt300.2 bt291.1 bt295.1)))))
theorem spec_l20Words.mono_l : ∀ k, (∀ y0 y1 y2 y3 y4, LeO (spec_l20Words.j0 k y0 y1 y2 y3 y4) (spec_l20Words.j0 (k + 1) y0 y1 y2 y3 y4))
 | 0 => fun _ _ _ _ _ r h => by simp [spec_l20Words.j0] at h
 | k + 1 => by
  have ih0 := spec_l20Words.mono_l k
  ·intro y0 y1 y2 y3 y4
   unfold spec_l20Words.j0
   repeat' first | (with_reducible first | apply ih0 | apply spec_l20Rd_bytes.mono | apply spec_l20Rd_odd.mono | apply spec_l20Rd_pick.mono | exact LeO.refl _ | exact LeO.none _ | refine LeO.ite ?_ ?_ | refine LeO.bind ?_ fun _ => ?_) | apply ih0 | apply spec_l20Rd_bytes.mono | apply spec_l20Rd_odd.mono | apply spec_l20Rd_pick.mono | exact LeO.none _ | refine LeO.ite ?_ ?_ | refine LeO.bind ?_ fun _ => ?_
theorem spec_l20Words.mono : ∀ a0 a1 a2 k, LeO (spec_l20Words.f k a0 a1 a2) (spec_l20Words.f (k + 1) a0 a1 a2) := by
 intro a0 a1 a2 k
 have ih0 := spec_l20Words.mono_l k
 unfold spec_l20Words.f
 repeat' first | (with_reducible first | apply ih0 | apply spec_l20Rd_bytes.mono | apply spec_l20Rd_odd.mono | apply spec_l20Rd_pick.mono | exact LeO.refl _ | exact LeO.none _ | refine LeO.ite ?_ ?_ | refine LeO.bind ?_ fun _ => ?_) | apply ih0 | apply spec_l20Rd_bytes.mono | apply spec_l20Rd_odd.mono | apply spec_l20Rd_pick.mono | exact LeO.none _ | refine LeO.ite ?_ ?_ | refine LeO.bind ?_ fun _ => ?_
set_option maxHeartbeats 8000000 in
set_option maxRecDepth 100000 in
theorem spec_l20Words.calls (k : Nat) (g : Nat) (s0_0 : List Int) (s0_1 : Int) (a1 : Int) (r1 : Int) (r2 : List Int) (r3 : Int) (w0 w : World) (hI : IsS89 w0 w g s0_0 s0_1) (hB : Below w0.heap.size w0 w) (h : spec_l20Words.f k s0_0 s0_1 a1 = some (r1, r2, r3)) :
  Calls Try.prog 58 #[.pointer (some ⟨g, 0, none⟩), .int .i64 a1] w fun e w' => ∃ v1_ : Value, e = .returned (.agg #[.int .i64 r1, v1_]) ∧ Kd.R (Kd.int .u8) 5 w' w.heap.size (fun _ => True) v1_ r2 ∧ IsS89 w0 w' g s0_0 r3 ∧ Below w0.heap.size w0 w' ∧ KeepBut w w' g none := by
 have hu41 := Try.underlying41; have HI0 := Aside0.mk hI
 have HK := Aside0.mk (KeepBut.refl w g none)
 have HL := Aside0.mk hB.size; clear hI; have HW0 := Aside0.mk hB.size; have HB := Aside0.mk hB; clear hB
 have H : ((spec_l20Rd_pick.f k s0_0 s0_1 6).bind fun bt291 => ((spec_l20Rd_pick.f k s0_0 bt291.2 8).bind fun bt293 => ((spec_l20Rd_bytes.f k s0_0 bt293.2 bt293.1).bind fun bt295 => ((spec_l20Rd_odd.f k s0_0 bt295.2 a1).bind fun bt300 => (if bt300.1 = true then ((spec_l20Rd_pick.f k s0_0 bt300.2 2).bind fun bt302 => (spec_l20Words.j0 k a1 s0_0 bt302.2 (wrap64 (256 - (wrap64 (bt302.1 * 300)))) bt295.1)) else (spec_l20Words.j0 k a1 s0_0 bt300.2 bt291.1 bt295.1)))))) = some (r1, r2, r3) := h
 clear h
 replace H := Option.bind_eq_some_iff.mp H
 obtain ⟨⟨t291, t292⟩, A30, H⟩ := H
 (try dsimp only at H)
 have A3 := Aside0.mk A30; clear A30
 replace H := Option.bind_eq_some_iff.mp H
 obtain ⟨⟨t293, t294⟩, A40, H⟩ := H
 (try dsimp only at H)
 have A4 := Aside0.mk A40; clear A40
 replace H := Option.bind_eq_some_iff.mp H
 obtain ⟨⟨t295, t298⟩, A50, H⟩ := H
 (try dsimp only at H)
 have A5 := Aside0.mk A50; clear A50
 replace H := Option.bind_eq_some_iff.mp H
 obtain ⟨⟨t300, t301⟩, A60, H⟩ := H
 (try dsimp only at H)
 have A6 := Aside0.mk A60; clear A60; have HC7 := Aside0.mk H; clear H
 go_enter Try.func58, Try.ntmps58
 go_upto_if 15 with (first | ((with_reducible refine gate_dst (N := 4) rfl ?_); refine box_ (N := 4) (cs := #[.int .i64 0, .slice none 0 0]) (t := 41) (fun gb290 hg w8 hbox hb => ?_); replace HB := (bs89_ HB hb); have BK290 := Aside0.mk (hbox); have GW290 := gk_ hg HK; have GE290 := Aside0.mk ((Nat.le_trans HW0.out (by rw [hg]; exact (keep_size (w := w) (g := g) (row := none) (hkA_ HK.out)) : w.heap.size ≤ gb290) : w0.heap.size ≤ gb290)); replace HK := (kw_ HK hb); have NB0_290 := nl89_ hg HI0; have NB290_0 := ng89_ hg HI0; replace HI0 := (ib89_ HI0 hb); clear hb hbox hg) | ((with_reducible refine gate_callee (f := 62) rfl ?_); refine goesL_ (some 7) rfl rfl Try.func62 (by kernel_rfl) rfl #[.pointer (some ⟨g, 0, none⟩), .int .i64 6] rfl ar_ ?_; (with_reducible refine (spec_l20Rd_pick.calls k g s0_0 s0_1 6 t291 t292 w0 _ ?side1 ?side2 A3.out).mono ?_); (case side1 => exact is89_ HI0.out); (case side2 => exact hb89_ HB.out); rintro e w9 ⟨rfl, hi, hb, hk⟩; refine ⟨_, rfl, ?_⟩; replace BK290 := (bkA_ BK290 hk NB290_0); replace HK := (kk_ HK hk); replace HB := Aside0.mk (hb); replace HI0 := Aside0.mk (hi); (try clear hb); (try clear hb2); (try clear hk); (try clear hi)) | ((with_reducible refine gate_callee (f := 62) rfl ?_); refine goesL_ (some 10) rfl rfl Try.func62 (by kernel_rfl) rfl #[.pointer (some ⟨g, 0, none⟩), .int .i64 8] rfl ar_ ?_; (with_reducible refine (spec_l20Rd_pick.calls k g s0_0 t292 8 t293 t294 w0 _ ?side1 ?side2 A4.out).mono ?_); (case side1 => exact is89_ HI0.out); (case side2 => exact hb89_ HB.out); rintro e w10 ⟨rfl, hi, hb, hk⟩; refine ⟨_, rfl, ?_⟩; replace BK290 := (bkA_ BK290 hk NB290_0); replace HK := (kk_ HK hk); replace HB := Aside0.mk (hb); replace HI0 := Aside0.mk (hi); (try clear hb); (try clear hb2); (try clear hk); (try clear hi)) | ((with_reducible refine gate_callee (f := 61) rfl ?_); refine goesL_ (some 11) rfl rfl Try.func61 (by kernel_rfl) rfl #[.pointer (some ⟨g, 0, none⟩), .int .i64 t293] rfl ar_ ?_; (with_reducible refine (spec_l20Rd_bytes.calls k g s0_0 t294 t293 t295 t298 w0 _ ?side1 ?side2 A5.out).mono ?_); (case side1 => exact is89_ HI0.out); (case side2 => exact hb89_ HB.out); rintro e w11 ⟨v296, rfl, ho0, hi, hb, hk⟩; refine ⟨_, rfl, ?_⟩; replace BK290 := (bkA_ BK290 hk NB290_0); have HO297 := Aside0.mk (Kd.R_lower ho0 (keep_size (w := w) (g := g) (row := none) (hkA_ HK.out))); replace HK := (kk_ HK hk); replace HB := Aside0.mk (hb); replace HI0 := Aside0.mk (hi); (try clear hb); (try clear hb2); (try clear hk); (try clear hi); (try clear ho0); obtain ⟨Ao12, co12, eo12⟩ := Kd.R_slice HO297.out; subst eo12) | ((with_reducible refine gate_dst (N := 5) rfl ?_); refine box_ (N := 5) (cs := #[.int .i64 0, .slice none 0 0]) (t := 41) (fun gb299 hg w13 hbox hb => ?_); replace HO297 := Aside0.mk (Kd.R_below (kR_ HO297.out) hb); replace HB := (bs89_ HB hb); have BK299 := Aside0.mk (hbox); have GW299 := gk_ hg HK; have GE299 := Aside0.mk ((Nat.le_trans HW0.out (by rw [hg]; exact (keep_size (w := w) (g := g) (row := none) (hkA_ HK.out)) : w.heap.size ≤ gb299) : w0.heap.size ≤ gb299)); replace HK := (kw_ HK hb); have NB290_299 := nl_ hg BK290; have NB299_290 := ng_ hg BK290; replace BK290 := (bbA_ BK290 hb); have NB0_299 := nl89_ hg HI0; have NB299_0 := ng89_ hg HI0; replace HI0 := (ib89_ HI0 hb); clear hb hbox hg; have hnb14 := NB299_290.out; have hnc14 := NB290_299.out; have hnb15 := NB299_0.out; have hnc15 := NB0_299.out; have Z16 := zz2 BK299) | ((with_reducible refine gate_callee (f := 71) rfl ?_); refine goesL_ (some 15) rfl rfl Try.func71 (by kernel_rfl) rfl #[.pointer (some ⟨g, 0, none⟩), .int .i64 a1] rfl ar_ ?_; (with_reducible refine (spec_l20Rd_odd.calls k g s0_0 t298 a1 t300 t301 w0 _ ?side1 ?side2 A6.out).mono ?_); (case side1 => exact is89_ HI0.out); (case side2 => exact hb89_ HB.out); rintro e w17 ⟨rfl, hi, hb, hk⟩; refine ⟨_, rfl, ?_⟩; replace BK290 := Aside0.mk (KeepBut.blk hk (g' := gb290) (o := .cells #[.int .i64 0, .slice none 0 0] 41 (0, 0)) (by exact kf_ BK290.out) NB290_0.out (by simp)); replace HO297 := Aside0.mk (Kd.R_mono (Kd.R_keep (IsS89.apart (show IsS89 w0 _ g s0_0 t298 from is89_ HI0.out) (by refine kR_ ?_; exact (rfm_ ((Kd.R_types HO297.out BK299.out (by decide))) (fun _ h_ => op1_ h_))) (by decide)) hk (fun _ h => h.2)) (fun _ h => h.1)); replace BK299 := Aside0.mk (KeepBut.blk hk (g' := gb299) (o := .cells #[.int .i64 t291, .slice Ao12 t295.length co12] 41 (0, 0)) (by refine kb_ ?_; refine pz2 (cs := #[.int .i64 0, .slice none 0 0]) ?_; refine kb_ ?_; exact BK299.out) NB299_0.out (by simp)); replace HK := (kk_ HK hk); replace HB := Aside0.mk (hb); replace HI0 := Aside0.mk (hi); (try clear hb); (try clear hb2); (try clear hk); (try clear hi)))
 (try simp only [Act.put, List.setIfInBounds_toArray, List.set_cons_zero, List.set_cons_succ])
 go_cut [] (fun wc => ∃ (kq : Nat) (x1001_6 : Int) (x300000_6 : Int), Aside0 (spec_l20Words.j0 kq a1 s0_0 x1001_6 x300000_6 t295 = some (r1, r2, r3)) ∧ Aside0 (kq ≤ k) ∧ Aside0 (Kd.R (Kd.int .u8) 5 wc w.heap.size (fun _ => True) (.slice Ao12 t295.length co12) t295) ∧ Aside0 (wc.heap[gb290]? = some (.cells #[.int .i64 0, (.slice none 0 0)] 41 (0, 0))) ∧ Aside0 (wc.heap[gb299]? = some (.cells #[.int .i64 x300000_6, (.slice Ao12 t295.length co12)] 41 (0, 0))) ∧ Aside0 (IsS89 w0 wc g s0_0 x1001_6) ∧ Aside0 (KeepBut w wc g none) ∧ Aside0 (Below w0.heap.size w0 wc))
 case first =>
  have H := HC7.out; clear HC7
  by_cases c18 : t300 = true
  ·subst c18
   rw [if_pos rfl] at H
   replace H := Option.bind_eq_some_iff.mp H
   obtain ⟨⟨t302, t303⟩, A190, H⟩ := H
   (try dsimp only at H)
   have A19 := Aside0.mk A190; clear A190
   have H' := Aside0.mk H
   clear H
   go_wp2_with (first | ((with_reducible refine gate_callee (f := 62) rfl ?_); refine goesL_ (some 17) rfl rfl Try.func62 (by kernel_rfl) rfl #[.pointer (some ⟨g, 0, none⟩), .int .i64 2] rfl ar_ ?_; (with_reducible refine (spec_l20Rd_pick.calls k g s0_0 t301 2 t302 t303 w0 _ ?side1 ?side2 A19.out).mono ?_); (case side1 => exact is89_ HI0.out); (case side2 => exact hb89_ HB.out); rintro e w20 ⟨rfl, hi, hb, hk⟩; refine ⟨_, rfl, ?_⟩; replace BK290 := (bkA_ BK290 hk NB290_0); replace HO297 := (rk89_ HI0 HO297 hk); replace BK299 := (bkA_ BK299 hk NB299_0); replace HK := (kk_ HK hk); replace HB := Aside0.mk (hb); replace HI0 := Aside0.mk (hi); (try clear hb); (try clear hb2); (try clear hk); (try clear hi); have hnb21 := NB299_290.out; have hnc21 := NB290_299.out; have hnb22 := NB299_0.out; have hnc22 := NB0_299.out; have Z23 := zz2 BK299))
   go_meet
   case rel => exact ⟨_, (t303), (wrap64 (256 - (wrap64 (t302 * 300)))), H', ⟨by first | omega | exact Nat.le_refl _⟩, ⟨by refine kR_ ?_; exact Kd.R_mono (Kd.R_f gb299 0 (.int .i64 (wrap64 (256 - (wrap64 (t302 * 300))))) (Kd.R_types HO297.out BK299.out (by decide))) (fun _ hk => trivial)⟩, ⟨by exact kf_ BK290.out⟩, ⟨by refine kb_ ?_; refine blk_put (cs := #[.int .i64 t291, .slice Ao12 t295.length co12]) ?_ 0 _ rfl; refine kb_ ?_; exact BK299.out⟩, ⟨is89_ HI0.out⟩, ⟨hkA_ HK.out⟩, ⟨hb89_ HB.out⟩⟩
  ·replace c18 := Bool.eq_false_iff.mpr c18
   subst c18
   rw [if_neg (show ¬ (false = true) by decide)] at H
   have H' := Aside0.mk H
   clear H
   go_wp2
   go_meet
   case rel => exact ⟨_, (t301), (t291), H', ⟨by first | omega | exact Nat.le_refl _⟩, ⟨kR_ HO297.out⟩, ⟨by refine kb_ ?_; exact BK290.out⟩, ⟨by refine kb_ ?_; exact BK299.out⟩, ⟨is89_ HI0.out⟩, ⟨hkA_ HK.out⟩, ⟨hb89_ HB.out⟩⟩
 case rest =>
  clear HC7; (try clear c1); (try clear c2); (try clear p2); (try clear c5); (try clear c6); (try clear p6); (try clear c7); (try clear c14); (try clear c15); (try clear c18); (try clear c21); (try clear c22); (try clear Z16); (try clear Z23)
  obtain ⟨kq, x1001_6, x300000_6, HA, HJ6, HO_300001, BK290, BK299, HI0, HK, HB⟩ := hcut
  cases kq with
  | zero => exact absurd HA.out (by simp [spec_l20Words.j0])
  | succ kj6 =>
   have H := HA.out; clear HA
   simp only [spec_l20Words.j0] at H
   replace H := Option.bind_eq_some_iff.mp H
   obtain ⟨⟨t304, t305⟩, A240, H⟩ := H
   (try dsimp only at H)
   have A24 := Aside0.mk A240; clear A240
   by_cases c25 : t304 = true
   ·subst c25
    rw [if_pos rfl] at H
    by_cases c26 : 10 ≤ 281474976710656
    ·rw [if_pos c26] at H
     have c26b0 := eq_true c26
     have c26b1 : decide (10 ≤ 281474976710656) = true := decide_eq_true c26
     clear c26
     obtain ⟨y306, hy306⟩ : ∃ y_ : List Int, y_ = (List.replicate 10 0) := ⟨_, rfl⟩
     (first | replace H := sb_ hy306 H | rw [← hy306] at H)
     have Ny306 := Aside0.mk hy306; clear hy306
     simp only [Option.some.injEq, Prod.mk.injEq] at H
     obtain ⟨rfl, rfl, rfl⟩ := H
     go_wp2_with (first | ((with_reducible refine gate_callee (f := 71) rfl ?_); refine goesL_ (some 23) rfl rfl Try.func71 (by kernel_rfl) rfl #[.pointer (some ⟨g, 0, none⟩), .int .i64 a1] rfl ar_ ?_; (with_reducible refine (spec_l20Rd_odd.calls kj6 g s0_0 x1001_6 a1 true t305 w0 _ ?side1 ?side2 A24.out).mono ?_); (case side1 => exact is89_ HI0.out); (case side2 => exact hb89_ HB.out); rintro e w27 ⟨rfl, hi, hb, hk⟩; refine ⟨_, rfl, ?_⟩; replace HO_300001 := (rk89_ HI0 HO_300001 hk); replace BK290 := (bkA_ BK290 hk NB290_0); replace BK299 := (bkA_ BK299 hk NB299_0); replace HK := (kk_ HK hk); replace HB := Aside0.mk (hb); replace HI0 := Aside0.mk (hi); (try clear hb); (try clear hb2); (try clear hk); (try clear hi)) | ((with_reducible refine gate_dst (N := 24) rfl ?_); refine Kd.R_make (Kd.int .u8) _ 5 rfl (N := 24) rfl 34 _ _ rfl 10 rfl rfl Try.underlying34 (.int .u8 0) 1 info5 rfl (by decide) (by omega) 0 (ok := fun _ => True) (okp := fun _ => True) rfl (fun _ hk => hk) trivial (by omega) (by omega) (Below.refl _ _) (Nat.le_refl _) ?_; intro v307 w28 ho29 hb hg_ hnew_; clear hg_ hnew_; (first | rw [← Ny306.out] at ho29 | (simp only [Int.reduceToNat] at ho29; rw [← Ny306.out] at ho29)); have HO308 := Aside0.mk (Kd.R_lower (Kd.R_new' ho29 (Kd.R_lt (kR_ HO_300001.out))) (keep_size (w := w) (g := g) (row := none) (hkA_ HK.out))); replace HO_300001 := Aside0.mk (Kd.R_elder' (kR_ HO_300001.out) (Kd.R_base ho29) hb); replace BK290 := (bbA_ BK290 hb); replace BK299 := (bbA_ BK299 hb); replace HI0 := (ib89_ HI0 hb); replace HK := (kw_ HK hb); replace HB := (bs89_ HB hb); clear hb ho29; obtain ⟨Ao30, co30, eo30⟩ := Kd.R_slice HO308.out; subst eo30; have hnb31 := NB299_290.out; have hnc31 := NB290_299.out; have hnb32 := NB299_0.out; have hnc32 := NB0_299.out; have Z33 := zz2 BK299; have hnb34 := NB290_0.out; have hnc34 := NB0_290.out; have Z35 := zz2 BK290))
     refine bodyPost_ret (results_cell_row rfl _ _ gb290 41 #[.int .i64 x300000_6, .slice Ao30 y306.length co30] (0, 0) _ rfl (by refine kb_ ?_; refine pz2 (cs := #[.int .i64 0, .slice none 0 0]) ?_; exact kf_ BK290.out) Try.underlying41 rfl (by kernel_rfl)) rfl ?_
     exact ⟨_, by first | rfl | (simp [errW_none, errW_some] <;> rfl) | (simp [*, errW_none, errW_some] <;> rfl), by refine kR_ ?_; exact rfm_ ((Kd.R_far (p := ⟨gb299, 1, none⟩) (Kd.R_types (Kd.R_types HO308.out BK299.out (by decide)) BK290.out (by decide)) (fun _ hk => hk.1.2) (.slice Ao30 y306.length co30))) (fun _ hk => trivial), is89_ HI0.out, hb89_ HB.out, hkA_ HK.out⟩
    ·rw [if_neg c26] at H
     exact absurd H (by simp)
   ·replace c25 := Bool.eq_false_iff.mpr c25
    subst c25
    rw [if_neg (show ¬ (false = true) by decide)] at H
    simp only [Option.some.injEq, Prod.mk.injEq] at H
    obtain ⟨rfl, rfl, rfl⟩ := H
    go_wp2_with (first | ((with_reducible refine gate_callee (f := 71) rfl ?_); refine goesL_ (some 23) rfl rfl Try.func71 (by kernel_rfl) rfl #[.pointer (some ⟨g, 0, none⟩), .int .i64 a1] rfl ar_ ?_; (with_reducible refine (spec_l20Rd_odd.calls kj6 g s0_0 x1001_6 a1 false t305 w0 _ ?side1 ?side2 A24.out).mono ?_); (case side1 => exact is89_ HI0.out); (case side2 => exact hb89_ HB.out); rintro e w36 ⟨rfl, hi, hb, hk⟩; refine ⟨_, rfl, ?_⟩; replace HO_300001 := (rk89_ HI0 HO_300001 hk); replace BK290 := (bkA_ BK290 hk NB290_0); replace BK299 := (bkA_ BK299 hk NB299_0); replace HK := (kk_ HK hk); replace HB := Aside0.mk (hb); replace HI0 := Aside0.mk (hi); (try clear hb); (try clear hb2); (try clear hk); (try clear hi); have hnb37 := NB299_290.out; have hnc37 := NB290_299.out; have hnb38 := NB299_0.out; have hnc38 := NB0_299.out; have Z39 := zz2 BK299; have hnb40 := NB290_0.out; have hnc40 := NB0_290.out; have Z41 := zz2 BK290))
    refine bodyPost_ret (results_cell_row rfl _ _ gb290 41 #[.int .i64 x300000_6, .slice Ao12 t295.length co12] (0, 0) _ rfl (by refine kb_ ?_; refine pz2 (cs := #[.int .i64 0, .slice none 0 0]) ?_; refine kb_ ?_; exact BK290.out) Try.underlying41 rfl (by kernel_rfl)) rfl ?_
    exact ⟨_, by first | rfl | (simp [errW_none, errW_some] <;> rfl) | (simp [*, errW_none, errW_some] <;> rfl), by refine kR_ ?_; exact rfm_ ((Kd.R_types HO_300001.out BK290.out (by decide))) (fun _ hk => trivial), is89_ HI0.out, hb89_ HB.out, hkA_ HK.out⟩
def spec_l20Asking.l0 : Nat → Int → Int → List Int → Int → Int → List Int → List (S41) → List Int → Option (Int × List Int × (List (S41)) × List Int × Int)
 | 0, _, _, _, _, _, _, _, _ => none
 | k + 1, x1, x6, x1000, x1001, x311000, x311001, x311002, x311003 => if x6 > 0 then ((spec_l20Rd_pick.f k x1000 x1001 3).bind fun bt313 => (if bt313.1 = 0 then ((spec_l20Words.f k x1000 bt313.2 0).bind fun bt315 => ((spec_ClientHear.f k x311000 x311001 x311002 x311003 bt315.1 bt315.2.1).bind fun bt320 => (spec_l20Asking.l0 k x1 (wrap64 (x6 - 1)) x1000 bt315.2.2 bt320.1 bt320.2.1 bt320.2.2.1 bt320.2.2.2.1))) else (if bt313.1 = 1 then ((spec_l20Rd_pick.f k x1000 bt313.2 6).bind fun bt331 => (if bt331.1 = 0 then ((spec_ClientOver.f k x311000 x311001 x311002 x311003).bind fun bt333 => (spec_l20Asking.l0 k x1 (wrap64 (x6 - 1)) x1000 bt331.2 bt333.1 bt333.2.1 bt333.2.2.1 bt333.2.2.2)) else (spec_l20Asking.l0 k x1 (wrap64 (x6 - 1)) x1000 bt331.2 x311000 x311001 x311002 x311003))) else ((spec_l20Rd_pick.f k x1000 bt313.2 5).bind fun bt343 => ((spec_l20Rd_bytes.f k x1000 bt343.2 bt343.1).bind fun bt345 => ((spec_ClientAsk.f k x311000 x311001 x311002 x311003 bt345.1).bind fun bt349 => (spec_l20Asking.l0 k x1 (wrap64 (x6 - 1)) x1000 bt345.2 bt349.1 bt349.2.1 bt349.2.2.1 bt349.2.2.2.1))))))) else ((spec_l20Rd_odd.f k x1000 x1001 x1).bind fun bt363 => (if bt363.1 = true then ((spec_l20Rd_pick.f k x1000 bt363.2 4).bind fun bt365 => (if bt365.1 = 0 then (some (wrap64 (x311000 + 1), x311001, x311002, x311003, bt365.2)) else (if bt365.1 = 1 then (if x311001.length < 17592186044416 then (some (x311000, (x311001 ++ [0]), x311002, x311003, bt365.2)) else (none)) else (if bt365.1 = 2 then (some (257, x311001, x311002, x311003, bt365.2)) else (if 10 ≤ 281474976710656 then (if x311002.length < 4398046511104 then (some (wrap64 (x311000 + 1), x311001, (x311002 ++ [(⟨x311000, (List.replicate 10 0)⟩ : S41)]), x311003, bt365.2)) else (none)) else (none)))))) else (some (x311000, x311001, x311002, x311003, bt363.2))))
def spec_l20Asking.f (k : Nat) (s0_0 : List Int) (s0_1 : Int) (a1 : Int) : Option (Int × List Int × (List (S41)) × List Int × Int) := (spec_l20Rd_pick.f k s0_0 s0_1 12).bind fun bt311 => (spec_l20Asking.l0 k a1 bt311.1 s0_0 bt311.2 0 ([] : List Int) ([] : List (S41)) ([] : List Int))
theorem spec_l20Asking.mono_l : ∀ k, (∀ y0 y1 y2 y3 y4 y5 y6 y7, LeO (spec_l20Asking.l0 k y0 y1 y2 y3 y4 y5 y6 y7) (spec_l20Asking.l0 (k + 1) y0 y1 y2 y3 y4 y5 y6 y7))
 | 0 => fun _ _ _ _ _ _ _ _ r h => by simp [spec_l20Asking.l0] at h
 | k + 1 => by
  have ih0 := spec_l20Asking.mono_l k
  ·intro y0 y1 y2 y3 y4 y5 y6 y7
   unfold spec_l20Asking.l0
   repeat' first | (with_reducible first | apply ih0 | apply spec_ClientAsk.mono | apply spec_ClientHear.mono | apply spec_ClientOver.mono | apply spec_l20Rd_bytes.mono | apply spec_l20Rd_odd.mono | apply spec_l20Rd_pick.mono | apply spec_l20Words.mono | exact LeO.refl _ | exact LeO.none _ | refine LeO.ite ?_ ?_ | refine LeO.bind ?_ fun _ => ?_) | apply ih0 | apply spec_ClientAsk.mono | apply spec_ClientHear.mono | apply spec_ClientOver.mono | apply spec_l20Rd_bytes.mono | apply spec_l20Rd_odd.mono | apply spec_l20Rd_pick.mono | apply spec_l20Words.mono | exact LeO.none _ | refine LeO.ite ?_ ?_ | refine LeO.bind ?_ fun _ => ?_
theorem spec_l20Asking.mono : ∀ a0 a1 a2 k, LeO (spec_l20Asking.f k a0 a1 a2) (spec_l20Asking.f (k + 1) a0 a1 a2) := by
 intro a0 a1 a2 k
 have ih0 := spec_l20Asking.mono_l k
 unfold spec_l20Asking.f
 repeat' first | (with_reducible first | apply ih0 | apply spec_ClientAsk.mono | apply spec_ClientHear.mono | apply spec_ClientOver.mono | apply spec_l20Rd_bytes.mono | apply spec_l20Rd_odd.mono | apply spec_l20Rd_pick.mono | apply spec_l20Words.mono | exact LeO.refl _ | exact LeO.none _ | refine LeO.ite ?_ ?_ | refine LeO.bind ?_ fun _ => ?_) | apply ih0 | apply spec_ClientAsk.mono | apply spec_ClientHear.mono | apply spec_ClientOver.mono | apply spec_l20Rd_bytes.mono | apply spec_l20Rd_odd.mono | apply spec_l20Rd_pick.mono | apply spec_l20Words.mono | exact LeO.none _ | refine LeO.ite ?_ ?_ | refine LeO.bind ?_ fun _ => ?_
def spec_l20Asking.T6 : Bool × List (List Nat × List Nat) := (true, [([], []), ([], []), ([], []), ([2], [2]), ([1, 3, 3], [1, 3]), ([0, 4, 4], [0, 4]), ([5], [5]), ([6], [6]), ([6], [6]), ([6], [6]), ([7, 5, 0, 1, 2, 3, 4, 5, 6, 7], [7])])
def spec_l20Asking.B6 : List Nat := [0, 0, 0, 4, 14, 31, 63, 127, 127, 127, 255]
theorem spec_l20Asking.tab6 : rtab .any (opsOf Try.f52 6) = spec_l20Asking.T6 := by kernel_rfl
theorem spec_l20Asking.bits6 : waitsOk spec_l20Asking.T6.2 spec_l20Asking.B6 = true := by kernel_rfl
def spec_l20Asking.T8 : Bool × List (List Nat × List Nat) := (true, [([], []), ([], []), ([1], [1]), ([0, 2, 2], [0, 2]), ([3], [3]), ([4], [4]), ([4], [4]), ([5, 3, 0, 1, 2, 3, 4, 5], [5])])
def spec_l20Asking.B8 : List Nat := [0, 0, 2, 7, 15, 31, 31, 63]
theorem spec_l20Asking.tab8 : rtab .any (opsOf Try.f52 8) = spec_l20Asking.T8 := by kernel_rfl
theorem spec_l20Asking.bits8 : waitsOk spec_l20Asking.T8.2 spec_l20Asking.B8 = true := by kernel_rfl
def spec_l20Asking.T14 : Bool × List (List Nat × List Nat) := (true, [([], []), ([0], [0]), ([], []), ([2], [2]), ([], []), ([3, 4], [3, 4]), ([5], [5]), ([1, 6], [1, 6]), ([0, 1, 2, 3, 4, 5, 6, 7], []), ([8, 7, 7, 0, 1, 2, 3, 4, 5, 6, 7], [7, 8])])
def spec_l20Asking.B14 : List Nat := [0, 1, 0, 4, 0, 28, 60, 127, 255, 511]
theorem spec_l20Asking.tab14 : rtab .any (opsOf Try.f52 14) = spec_l20Asking.T14 := by kernel_rfl
theorem spec_l20Asking.bits14 : waitsOk spec_l20Asking.T14.2 spec_l20Asking.B14 = true := by kernel_rfl
set_option maxHeartbeats 8000000 in
set_option maxRecDepth 100000 in
theorem spec_l20Asking.calls (k : Nat) (g : Nat) (s0_0 : List Int) (s0_1 : Int) (a1 : Int) (r1 : Int) (r2 : List Int) (r3 : List (S41)) (r4 : List Int) (r5 : Int) (w0 w : World) (hI : IsS89 w0 w g s0_0 s0_1) (hB : Below w0.heap.size w0 w) (h : spec_l20Asking.f k s0_0 s0_1 a1 = some (r1, r2, r3, r4, r5)) :
  Calls Try.prog 52 #[.pointer (some ⟨g, 0, none⟩), .int .i64 a1] w fun e w' => ∃ v1_ v2_ v3_ : Value, e = .returned (.agg #[.int .i64 r1, v1_, v2_, v3_]) ∧ Kd.R (Kd.int .i64) 3 w' w.heap.size (fun k_ => some k_ ≠ (v3_ : Value).ownBlock) v1_ r2 ∧ Kd.S k41 41 w' w.heap.size (fun _ => True) v2_ r3 ∧ Kd.R (Kd.int .i64) 3 w' w.heap.size (fun k_ => some k_ ≠ (v1_ : Value).ownBlock) v3_ r4 ∧ IsS89 w0 w' g s0_0 r5 ∧ Below w0.heap.size w0 w' ∧ KeepBut w w' g none := by
 have hu30 := Try.underlying30; have hu41 := Try.underlying41; have HI0 := Aside0.mk hI
 have HK := Aside0.mk (KeepBut.refl w g none)
 have HL := Aside0.mk hB.size; clear hI; have HW0 := Aside0.mk hB.size; have HB := Aside0.mk hB; clear hB
 have H : ((spec_l20Rd_pick.f k s0_0 s0_1 12).bind fun bt311 => (spec_l20Asking.l0 k a1 bt311.1 s0_0 bt311.2 0 ([] : List Int) ([] : List (S41)) ([] : List Int))) = some (r1, r2, r3, r4, r5) := h
 clear h
 replace H := Option.bind_eq_some_iff.mp H
 obtain ⟨⟨t311, t312⟩, A30, H⟩ := H
 (try dsimp only at H)
 have A3 := Aside0.mk A30; clear A30
 have H' := Aside0.mk H
 clear H
 go_enter Try.func52, Try.ntmps52
 go_wp2_with (first | ((with_reducible refine gate_dst (N := 4) rfl ?_); refine box_ (N := 4) (cs := #[.int .i64 0, .slice none 0 0, .slice none 0 0, .slice none 0 0]) (t := 30) (fun gb309 hg w4 hbox hb => ?_); replace HB := (bs89_ HB hb); have BK309 := Aside0.mk (hbox); have GW309 := gk_ hg HK; have GE309 := Aside0.mk ((Nat.le_trans HW0.out (by rw [hg]; exact (keep_size (w := w) (g := g) (row := none) (hkA_ HK.out)) : w.heap.size ≤ gb309) : w0.heap.size ≤ gb309)); replace HK := (kw_ HK hb); have NB0_309 := nl89_ hg HI0; have NB309_0 := ng89_ hg HI0; replace HI0 := (ib89_ HI0 hb); clear hb hbox hg) | ((with_reducible refine gate_dst (N := 5) rfl ?_); refine box_ (N := 5) (cs := #[.int .i64 0, .slice none 0 0, .slice none 0 0, .slice none 0 0]) (t := 30) (fun gb310 hg w5 hbox hb => ?_); replace HB := (bs89_ HB hb); have BK310 := Aside0.mk (hbox); have GW310 := gk_ hg HK; have GE310 := Aside0.mk ((Nat.le_trans HW0.out (by rw [hg]; exact (keep_size (w := w) (g := g) (row := none) (hkA_ HK.out)) : w.heap.size ≤ gb310) : w0.heap.size ≤ gb310)); replace HK := (kw_ HK hb); have NB309_310 := nl_ hg BK309; have NB310_309 := ng_ hg BK309; replace BK309 := (bbA_ BK309 hb); have NB0_310 := nl89_ hg HI0; have NB310_0 := ng89_ hg HI0; replace HI0 := (ib89_ HI0 hb); clear hb hbox hg; have hnb6 := NB310_309.out; have hnc6 := NB309_310.out; have hnb7 := NB310_0.out; have hnc7 := NB0_310.out; have Z8 := zz4 BK310) | ((with_reducible refine gate_callee (f := 62) rfl ?_); refine goesL_ (some 9) rfl rfl Try.func62 (by kernel_rfl) rfl #[.pointer (some ⟨g, 0, none⟩), .int .i64 12] rfl ar_ ?_; (with_reducible refine (spec_l20Rd_pick.calls k g s0_0 s0_1 12 t311 t312 w0 _ ?side1 ?side2 A3.out).mono ?_); (case side1 => exact is89_ HI0.out); (case side2 => exact hb89_ HB.out); rintro e w9 ⟨rfl, hi, hb, hk⟩; refine ⟨_, rfl, ?_⟩; replace BK309 := Aside0.mk (KeepBut.blk hk (g' := gb309) (o := .cells #[.int .i64 0, .slice none 0 0, .slice none 0 0, .slice none 0 0] 30 (0, 0)) (by exact kf_ BK309.out) NB309_0.out (by simp)); replace BK310 := Aside0.mk (KeepBut.blk hk (g' := gb310) (o := .cells #[.int .i64 0, .slice none 0 0, .slice none 0 0, .slice none 0 0] 30 (0, 0)) (by refine kb_ ?_; refine pz4 (cs := #[.int .i64 0, .slice none 0 0, .slice none 0 0, .slice none 0 0]) ?_; refine kb_ ?_; exact BK310.out) NB310_0.out (by simp)); replace HK := (kk_ HK hk); replace HB := Aside0.mk (hb); replace HI0 := Aside0.mk (hi); (try clear hb); (try clear hb2); (try clear hk); (try clear hi)))
 go_loopg [6] k (fun kq v6 w' => ∃ (x6_1 : Int) (x1001_1 : Int) (x311000_1 : Int) (x311001_1 : List Int) (x311002_1 : List (S41)) (x311003_1 : List Int) (u311001 : Value) (u311002 : Value) (u311003 : Value), v6 = .int .i64 x6_1 ∧ Aside0 (spec_l20Asking.l0 kq a1 x6_1 s0_0 x1001_1 x311000_1 x311001_1 x311002_1 x311003_1 = some (r1, r2, r3, r4, r5)) ∧ Aside0 (kq ≤ k) ∧ Aside0 (Kd.R (Kd.int .i64) 3 w' w.heap.size (fun k_ => some k_ ≠ (u311003 : Value).ownBlock) u311001 x311001_1) ∧ Aside0 (Kd.S k41 41 w' w.heap.size (fun _ => True) u311002 x311002_1) ∧ Aside0 (Kd.R (Kd.int .i64) 3 w' w.heap.size (fun k_ => some k_ ≠ (u311001 : Value).ownBlock) u311003 x311003_1) ∧ Aside0 (w'.heap[gb309]? = some (.cells #[.int .i64 0, (.slice none 0 0), (.slice none 0 0), (.slice none 0 0)] 30 (0, 0))) ∧ Aside0 (w'.heap[gb310]? = some (.cells #[.int .i64 x311000_1, u311001, u311002, u311003] 30 (0, 0))) ∧ Aside0 (IsS89 w0 w' g s0_0 x1001_1) ∧ Aside0 (KeepBut w w' g none) ∧ Aside0 (Below w0.heap.size w0 w'))
 case atStart => exact ⟨(t311), (t312), (0), (([] : List Int)), (([] : List (S41))), (([] : List Int)), (.slice none 0 0), (.slice none 0 0), (.slice none 0 0), (by first | rfl | (simp; done) | (simp [*]; done)), H', ⟨Nat.le_refl _⟩, ⟨by first | exact Kd.R_nil _ _ _ _ _ | exact Kd.N_nil _ _ _ _ _ | exact Kd.V_nil _ _ _ _ _ | exact Kd.Q_nil _ _ _ _ _ | exact Kd.S_nil _ _ _ _ _⟩, ⟨by first | exact Kd.S_nil _ _ _ _ _ | exact Kd.N_nil _ _ _ _ _ | exact Kd.V_nil _ _ _ _ _ | exact Kd.Q_nil _ _ _ _ _ | exact Kd.R_nil _ _ _ _ _⟩, ⟨by first | exact Kd.R_nil _ _ _ _ _ | exact Kd.N_nil _ _ _ _ _ | exact Kd.V_nil _ _ _ _ _ | exact Kd.Q_nil _ _ _ _ _ | exact Kd.S_nil _ _ _ _ _⟩, ⟨by refine kb_ ?_; exact BK309.out⟩, ⟨by refine kb_ ?_; exact BK310.out⟩, ⟨is89_ HI0.out⟩, ⟨hkA_ HK.out⟩, ⟨hb89_ HB.out⟩⟩
 case round =>
  clear H'; (try clear p2); (try clear c5); (try clear c6); (try clear c7); (try clear Z8)
  obtain ⟨x6_1, x1001_1, x311000_1, x311001_1, x311002_1, x311003_1, u311001, u311002, u311003, rfl, HA, HK1, HO_311001, HO_311002, HO_311003, BK309, BK310, HI0, HK, HB⟩ := hrel
  cases gk with
  | zero => exact absurd HA.out (by simp [spec_l20Asking.l0])
  | succ k1 =>
   have H := HA.out; clear HA
   simp only [spec_l20Asking.l0] at H
   by_cases c10 : x6_1 > 0
   ·rw [if_pos c10] at H
    have c10b0 : decide (0 < x6_1) = true := decide_eq_true c10
    clear c10
    replace H := Option.bind_eq_some_iff.mp H
    obtain ⟨⟨t313, t314⟩, A110, H⟩ := H
    (try dsimp only at H)
    have A11 := Aside0.mk A110; clear A110
    by_cases c12 : t313 = 0
    ·rw [if_pos c12] at H
     have c12b0 : (t313 == 0) = true := beq_iff_eq.mpr c12
     have c12b1 : (t313 != 0) = false := bne_eq_false_iff_eq.mpr c12
     clear c12
     replace H := Option.bind_eq_some_iff.mp H
     obtain ⟨⟨t315, t316, t319⟩, A130, H⟩ := H
     (try dsimp only at H)
     have A13 := Aside0.mk A130; clear A130
     replace H := Option.bind_eq_some_iff.mp H
     obtain ⟨⟨t320, t321, t324, t327, t330⟩, A140, H⟩ := H
     (try dsimp only at H)
     have A14 := Aside0.mk A140; clear A140
     have H' := Aside0.mk H
     clear H
     try go_wp2_with (first | ((with_reducible refine gate_callee (f := 62) rfl ?_); refine goesL_ (some 15) rfl rfl Try.func62 (by kernel_rfl) rfl #[.pointer (some ⟨g, 0, none⟩), .int .i64 3] rfl ar_ ?_; (with_reducible refine (spec_l20Rd_pick.calls k1 g s0_0 x1001_1 3 t313 t314 w0 _ ?side1 ?side2 A11.out).mono ?_); (case side1 => exact is89_ HI0.out); (case side2 => exact hb89_ HB.out); rintro e w15 ⟨rfl, hi, hb, hk⟩; refine ⟨_, rfl, ?_⟩; replace HO_311001 := (rk89_ HI0 HO_311001 hk); replace HO_311002 := Aside0.mk (Kd.S_mono (Kd.S_keep (IsS89.apartS (show IsS89 w0 _ g s0_0 x1001_1 from is89_ HI0.out) (kS_ HO_311002.out) (by decide)) hk (fun _ h => h.2)) (fun _ h => h.1)); replace HO_311003 := (rk89_ HI0 HO_311003 hk); replace BK309 := (bkA_ BK309 hk NB309_0); replace BK310 := (bkA_ BK310 hk NB310_0); replace HK := (kk_ HK hk); replace HB := Aside0.mk (hb); replace HI0 := Aside0.mk (hi); (try clear hb); (try clear hb2); (try clear hk); (try clear hi)))
     replace HO_311001 := Aside0.mk (Kd.R_drew HO_311001.out); replace HO_311002 := Aside0.mk (Kd.S_drew HO_311002.out); replace HO_311003 := Aside0.mk (Kd.R_drew HO_311003.out); replace BK309 := Aside0.mk (blk_drew BK309.out); replace BK310 := Aside0.mk (blk_drew BK310.out); replace HI0 := Aside0.mk (IsS89.drew HI0.out); replace HK := Aside0.mk (keep_drew HK.out); replace HB := (bd_ HB)
     refine start_ (n := 8) (S := fun w' => w'.cell? ⟨gb310, 0, none⟩ = some (.int .i64 x311000_1) ∧ w'.cell? ⟨gb310, 1, none⟩ = some (u311001) ∧ w'.cell? ⟨gb310, 2, none⟩ = some (u311002) ∧ w'.cell? ⟨gb310, 3, none⟩ = some (u311003)) (ds := [7]) #[false, false, false, false, false, false, false, false] (by kernel_rfl) rfl rfl (cz4 BK310.out) (fun hHeld => ?_); refine with_tabW spec_l20Asking.tab8 spec_l20Asking.bits8 (fun HT_ HW_ => ?_)
     generalize w15.drew = w16 at HO_311001 HO_311002 HO_311003 BK309 BK310 HI0 HK HB hHeld ⊢
     refine pu_ (i := 1) (N := some 30) HT_ ?_; refine tk_ (i := 0) (N := some 29) HT_ HW_ hHeld ?_
     refine on_ (i := 2) (N := some 31) HT_ (fun K hK => ?_)
     refine goes_ Try.func58 (by kernel_rfl) rfl #[.pointer (some ⟨g, 0, none⟩), .int .i64 0] (by rfl) rfl rfl ar_ ?_
     with_reducible refine (spec_l20Words.calls k1 g s0_0 t314 0 t315 t316 t319 w0 _ ?side1 ?side2 A13.out).mono ?_
     (case side1 => exact is89_ HI0.out)
     (case side2 => exact hb89_ HB.out)
     rintro e w17 ⟨v317, rfl, ho0, hi, hb, hk⟩
     refine ⟨_, rfl, ?_⟩
     replace HO_311001 := (rk89_ HI0 HO_311001 hk); replace HO_311002 := Aside0.mk (Kd.S_mono (Kd.S_told (Kd.S_oldK (IsS89.apartS (show IsS89 w0 _ g s0_0 t314 from is89_ HI0.out) (kS_ HO_311002.out) (by decide)) hk) (Kd.R_base ho0)) (fun _ h_ => op1_ h_)); replace HO_311003 := (rk89_ HI0 HO_311003 hk); replace BK309 := (bkA_ BK309 hk NB309_0); replace BK310 := (bkA_ BK310 hk NB310_0); have HO318 := Aside0.mk (Kd.R_lower ho0 (keep_size (w := w) (g := g) (row := none) (hkA_ HK.out))); replace HK := (kk_ HK hk); replace HB := Aside0.mk (hb); replace HI0 := Aside0.mk (hi); (try clear hb); (try clear hb2); (try clear hk); (try clear hi); (try clear ho0)
     obtain ⟨Ao18, co18, eo18⟩ := Kd.R_slice HO_311001.out
     (first | subst eo18 | (injection eo18 with f1_ f2_ f3_; have f4_ := f1_.symm; have f5_ := f3_.symm; clear f1_ f2_ f3_; subst f4_; subst f5_))
     obtain ⟨Ao19, co19, eo19⟩ := Kd.S_slice HO_311002.out
     (first | subst eo19 | (injection eo19 with f1_ f2_ f3_; have f4_ := f1_.symm; have f5_ := f3_.symm; clear f1_ f2_ f3_; subst f4_; subst f5_))
     obtain ⟨Ao20, co20, eo20⟩ := Kd.R_slice HO_311003.out
     (first | subst eo20 | (injection eo20 with f1_ f2_ f3_; have f4_ := f1_.symm; have f5_ := f3_.symm; clear f1_ f2_ f3_; subst f4_; subst f5_))
     obtain ⟨Ao21, co21, eo21⟩ := Kd.R_slice HO318.out
     (first | subst eo21 | (injection eo21 with f1_ f2_ f3_; have f4_ := f1_.symm; have f5_ := f3_.symm; clear f1_ f2_ f3_; subst f4_; subst f5_))
     refine hK.out _ _ (cz4 BK310.out) (fun hHeld => ?_)
     clear hK K; refine nm_ 31 ?_
     refine on_ (i := 3) (N := some 32) HT_ (fun K hK => ?_)
     refine goes_ Try.func24 (by kernel_rfl) rfl #[.agg #[.int .i64 x311000_1, .slice Ao18 x311001_1.length co18, .slice Ao19 x311002_1.length co19, .slice Ao20 x311003_1.length co20], .agg #[.int .i64 t315, .slice Ao21 t316.length co21]] (by rfl) rfl rfl ar_ ?_
     with_reducible refine (spec_ClientHear.calls k1 x311000_1 _ _ x311001_1 _ _ x311002_1 _ _ x311003_1 t315 _ _ t316 t320 t321 t324 t327 t330 _ ?side1 ?side2 ?side3 ?side4 ?side5 ?side6 ?side7 ?side8 A14.out).mono ?_
     (case side1 => exact kC_ (Kd.R_reads' HO_311001.out).2.2)
     (case side2 => exact (Kd.R_reads' HO_311001.out).2.1)
     (case side3 => exact kC_ (Kd.S_reads' HO_311002.out).2.2)
     (case side4 => exact (Kd.S_reads' HO_311002.out).2.1)
     (case side5 => exact kC_ (Kd.R_reads' HO_311003.out).2.2)
     (case side6 => exact (Kd.R_reads' HO_311003.out).2.1)
     (case side7 => exact kC_ (Kd.R_reads' HO318.out).2.2)
     (case side8 => exact (Kd.R_reads' HO318.out).2.1)
     rintro e w22 ⟨v322, v325, v328, rfl, ho0, ho1, ho2, hb⟩
     refine ⟨_, rfl, ?_⟩
     have HO323 := Aside0.mk (Kd.R_lower (Kd.R_new' (Kd.R_new' ho0 (Kd.R_lt (kR_ HO_311001.out))) (Kd.R_lt (kR_ HO_311003.out))) (keep_size (w := w) (g := g) (row := none) (hkA_ HK.out))); have HO326 := Aside0.mk (Kd.S_lower (Kd.S_new' (Kd.S_new' ho1 (Kd.S_lt (kS_ HO_311002.out))) (Kd.R_lt (kR_ HO318.out))) (keep_size (w := w) (g := g) (row := none) (hkA_ HK.out))); replace HO_311002 := Aside0.mk (Kd.S_elder' (kS_ HO_311002.out) (Kd.S_base ho1) hb); replace HO318 := Aside0.mk (Kd.R_below (kR_ HO318.out) hb); have HO329 := Aside0.mk (Kd.R_lower (Kd.R_new' (Kd.R_new' ho2 (Kd.R_lt (kR_ HO_311001.out))) (Kd.R_lt (kR_ HO_311003.out))) (keep_size (w := w) (g := g) (row := none) (hkA_ HK.out))); replace HO_311001 := Aside0.mk (Kd.R_mono (Kd.R_told (Kd.R_told (Kd.R_old (kR_ HO_311001.out) hb) (Kd.R_base ho0)) (Kd.R_base ho2)) (fun _ h_ => op1_ h_)); replace HO_311003 := Aside0.mk (Kd.R_mono (Kd.R_told (Kd.R_told (Kd.R_old (kR_ HO_311003.out) hb) (Kd.R_base ho0)) (Kd.R_base ho2)) (fun _ h_ => op1_ h_)); replace BK309 := (bbA_ BK309 hb); replace BK310 := (bbA_ BK310 hb); replace HI0 := (ib89_ HI0 hb); replace HK := (kw_ HK hb); replace HB := (bs89_ HB hb); (try clear hb); (try clear hb2); (try clear hk); (try clear hi); (try clear ho0); (try clear ho1); (try clear ho2)
     obtain ⟨Ao24, co24, eo24⟩ := Kd.R_slice HO323.out
     (first | subst eo24 | (injection eo24 with f1_ f2_ f3_; have f4_ := f1_.symm; have f5_ := f3_.symm; clear f1_ f2_ f3_; subst f4_; subst f5_))
     obtain ⟨Ao26, co26, eo26⟩ := Kd.S_slice HO326.out
     (first | subst eo26 | (injection eo26 with f1_ f2_ f3_; have f4_ := f1_.symm; have f5_ := f3_.symm; clear f1_ f2_ f3_; subst f4_; subst f5_))
     obtain ⟨Ao28, co28, eo28⟩ := Kd.R_slice HO329.out
     (first | subst eo28 | (injection eo28 with f1_ f2_ f3_; have f4_ := f1_.symm; have f5_ := f3_.symm; clear f1_ f2_ f3_; subst f4_; subst f5_))
     refine hK.out _ _ (cz4 BK310.out) (fun hHeld => ?_)
     clear hK K; refine nm_ 32 ?_; refine pu_ (i := 4) (N := some 28) HT_ ?_; refine pu_ (i := 5) (N := some 33) HT_ ?_; refine pu_ (i := 6) (N := some 34) HT_ ?_
     refine last_ (i := 7) (N := none) #[true, true, true, true, true, true, true, true] rfl rfl (one_of HT_.out (by kernel_rfl)) (by decide) (fun K hK => ?_)
     have hs23 : w22.cell? ⟨gb310, 0, none⟩ = some (.int .i64 x311000_1) := bc_ BK310 0
     have hfs23 := blk_frozen BK310.out 0
     have hns23_0 := NB309_310.out; have hms23_0 := NB310_309.out
     have hs25 : w22.cell? ⟨gb310, 1, none⟩ = some (.slice Ao18 x311001_1.length co18) := bc_ BK310 1
     have hfs25 := blk_frozen BK310.out 1
     have hns25_0 := NB309_310.out; have hms25_0 := NB310_309.out
     have hs27 : w22.cell? ⟨gb310, 2, none⟩ = some (.slice Ao19 x311002_1.length co19) := bc_ BK310 2
     have hfs27 := blk_frozen BK310.out 2
     have hns27_0 := NB309_310.out; have hms27_0 := NB310_309.out
     have hs29 : w22.cell? ⟨gb310, 3, none⟩ = some (.slice Ao20 x311003_1.length co20) := bc_ BK310 3
     have hfs29 := blk_frozen BK310.out 3
     have hns29_0 := NB309_310.out; have hms29_0 := NB310_309.out
     refine skip_ (w1 := ?_) (by rfl) rfl ?_ ?_
     rotate_left
     ·go_simp
      rfl
     refine hK.out _ _ ?_
     clear hK K
     refine done_ (done_of HT_.out (by kernel_rfl)) ?_
     try go_wp2
     go_roundg k1
     case measure => have := HK1.out; omega
     case rel => exact ⟨(wrap64 (x6_1 - 1)), (t319), (t320), (t321), (t324), (t327), (.slice Ao24 t321.length co24), (.slice Ao26 t324.length co26), (.slice Ao28 t327.length co28), (by first | rfl | (simp; done) | (simp [*]; done)), H', ⟨by have := HK1.out; omega⟩, ⟨by refine kR_ ?_; exact rfm_ ((Kd.R_types HO323.out BK310.out (by decide))) (fun _ hk => hk.1.1.1)⟩, ⟨by refine kS_ ?_; exact Kd.S_mono (Kd.S_far (p := ⟨gb310, 3, none⟩) (Kd.S_far (p := ⟨gb310, 2, none⟩) (Kd.S_far (p := ⟨gb310, 1, none⟩) (Kd.S_far (p := ⟨gb310, 0, none⟩) (Kd.S_types HO326.out BK310.out (by decide)) (fun _ hk => hk.2) (.int .i64 t320)) (fun _ hk => hk.2) (.slice Ao24 t321.length co24)) (fun _ hk => hk.2) (.slice Ao26 t324.length co26)) (fun _ hk => hk.2) (.slice Ao28 t327.length co28)) (fun _ hk => trivial)⟩, ⟨by refine kR_ ?_; exact rfm_ ((Kd.R_types HO329.out BK310.out (by decide))) (fun _ hk => hk.1.1.1)⟩, ⟨by exact kf_ BK309.out⟩, ⟨by refine kb_ ?_; refine pz4 (cs := #[.int .i64 x311000_1, .slice Ao18 x311001_1.length co18, .slice Ao19 x311002_1.length co19, .slice Ao20 x311003_1.length co20]) ?_; refine kb_ ?_; exact BK310.out⟩, ⟨is89_ HI0.out⟩, ⟨hkA_ HK.out⟩, ⟨hb89_ HB.out⟩⟩
    ·rw [if_neg c12] at H
     have c12b0 : (t313 == 0) = false := beq_eq_false_iff_ne.mpr c12
     have c12b1 : (t313 != 0) = true := bne_iff_ne.mpr c12
     by_cases c30 : t313 = 1
     ·rw [if_pos c30] at H
      have c30b0 : (t313 == 1) = true := beq_iff_eq.mpr c30
      have c30b1 : (t313 != 1) = false := bne_eq_false_iff_eq.mpr c30
      clear c30
      replace H := Option.bind_eq_some_iff.mp H
      obtain ⟨⟨t331, t332⟩, A310, H⟩ := H
      (try dsimp only at H)
      have A31 := Aside0.mk A310; clear A310
      by_cases c32 : t331 = 0
      ·rw [if_pos c32] at H
       have c32b0 : (t331 == 0) = true := beq_iff_eq.mpr c32
       have c32b1 : (t331 != 0) = false := bne_eq_false_iff_eq.mpr c32
       clear c32
       replace H := Option.bind_eq_some_iff.mp H
       obtain ⟨⟨t333, t334, t337, t340⟩, A330, H⟩ := H
       (try dsimp only at H)
       have A33 := Aside0.mk A330; clear A330
       have H' := Aside0.mk H
       clear H
       go_wp2_with (first | ((with_reducible refine gate_callee (f := 62) rfl ?_); refine goesL_ (some 15) rfl rfl Try.func62 (by kernel_rfl) rfl #[.pointer (some ⟨g, 0, none⟩), .int .i64 3] rfl ar_ ?_; (with_reducible refine (spec_l20Rd_pick.calls k1 g s0_0 x1001_1 3 t313 t314 w0 _ ?side1 ?side2 A11.out).mono ?_); (case side1 => exact is89_ HI0.out); (case side2 => exact hb89_ HB.out); rintro e w34 ⟨rfl, hi, hb, hk⟩; refine ⟨_, rfl, ?_⟩; replace HO_311001 := (rk89_ HI0 HO_311001 hk); replace HO_311002 := Aside0.mk (Kd.S_mono (Kd.S_keep (IsS89.apartS (show IsS89 w0 _ g s0_0 x1001_1 from is89_ HI0.out) (kS_ HO_311002.out) (by decide)) hk (fun _ h => h.2)) (fun _ h => h.1)); replace HO_311003 := (rk89_ HI0 HO_311003 hk); replace BK309 := (bkA_ BK309 hk NB309_0); replace BK310 := (bkA_ BK310 hk NB310_0); replace HK := (kk_ HK hk); replace HB := Aside0.mk (hb); replace HI0 := Aside0.mk (hi); (try clear hb); (try clear hb2); (try clear hk); (try clear hi)) | ((with_reducible refine gate_callee (f := 62) rfl ?_); refine goesL_ (some 38) rfl rfl Try.func62 (by kernel_rfl) rfl #[.pointer (some ⟨g, 0, none⟩), .int .i64 6] rfl ar_ ?_; (with_reducible refine (spec_l20Rd_pick.calls k1 g s0_0 t314 6 t331 t332 w0 _ ?side1 ?side2 A31.out).mono ?_); (case side1 => exact is89_ HI0.out); (case side2 => exact hb89_ HB.out); rintro e w35 ⟨rfl, hi, hb, hk⟩; refine ⟨_, rfl, ?_⟩; replace HO_311001 := (rk89_ HI0 HO_311001 hk); replace HO_311002 := Aside0.mk (Kd.S_mono (Kd.S_keep (IsS89.apartS (show IsS89 w0 _ g s0_0 t314 from is89_ HI0.out) (kS_ HO_311002.out) (by decide)) hk (fun _ h => h.2)) (fun _ h => h.1)); replace HO_311003 := (rk89_ HI0 HO_311003 hk); replace BK309 := (bkA_ BK309 hk NB309_0); replace BK310 := (bkA_ BK310 hk NB310_0); replace HK := (kk_ HK hk); replace HB := Aside0.mk (hb); replace HI0 := Aside0.mk (hi); (try clear hb); (try clear hb2); (try clear hk); (try clear hi); have hnb36 := NB310_309.out; have hnc36 := NB309_310.out; have hnb37 := NB310_0.out; have hnc37 := NB0_310.out; have Z38 := zz4 BK310; obtain ⟨Ao39, co39, eo39⟩ := Kd.R_slice HO_311001.out; subst eo39; obtain ⟨Ao40, co40, eo40⟩ := Kd.S_slice HO_311002.out; subst eo40; obtain ⟨Ao41, co41, eo41⟩ := Kd.R_slice HO_311003.out; subst eo41) | ((with_reducible refine gate_callee (f := 19) rfl ?_); refine goesL_ (some 41) rfl rfl Try.func19 (by kernel_rfl) rfl #[.agg #[.int .i64 x311000_1, .slice Ao39 x311001_1.length co39, .slice Ao40 x311002_1.length co40, .slice Ao41 x311003_1.length co41]] rfl ar_ ?_; (with_reducible refine (spec_ClientOver.calls k1 x311000_1 _ _ x311001_1 _ _ x311002_1 _ _ x311003_1 t333 t334 t337 t340 _ ?side1 ?side2 ?side3 ?side4 ?side5 ?side6 A33.out).mono ?_); (case side1 => exact kC_ (Kd.R_reads' HO_311001.out).2.2); (case side2 => exact (Kd.R_reads' HO_311001.out).2.1); (case side3 => exact kC_ (Kd.S_reads' HO_311002.out).2.2); (case side4 => exact (Kd.S_reads' HO_311002.out).2.1); (case side5 => exact kC_ (Kd.R_reads' HO_311003.out).2.2); (case side6 => exact (Kd.R_reads' HO_311003.out).2.1); rintro e w42 ⟨v335, v338, v341, rfl, ho0, ho1, ho2, hb⟩; refine ⟨_, rfl, ?_⟩; have HO336 := Aside0.mk (Kd.R_lower (Kd.R_new' (Kd.R_new' ho0 (Kd.R_lt (kR_ HO_311001.out))) (Kd.R_lt (kR_ HO_311003.out))) (keep_size (w := w) (g := g) (row := none) (hkA_ HK.out))); have HO339 := Aside0.mk (Kd.S_lower (Kd.S_new' ho1 (Kd.S_lt (kS_ HO_311002.out))) (keep_size (w := w) (g := g) (row := none) (hkA_ HK.out))); replace HO_311002 := Aside0.mk (Kd.S_elder' (kS_ HO_311002.out) (Kd.S_base ho1) hb); have HO342 := Aside0.mk (Kd.R_lower (Kd.R_new' (Kd.R_new' ho2 (Kd.R_lt (kR_ HO_311001.out))) (Kd.R_lt (kR_ HO_311003.out))) (keep_size (w := w) (g := g) (row := none) (hkA_ HK.out))); replace HO_311001 := Aside0.mk (Kd.R_mono (Kd.R_told (Kd.R_told (Kd.R_old (kR_ HO_311001.out) hb) (Kd.R_base ho0)) (Kd.R_base ho2)) (fun _ h_ => op1_ h_)); replace HO_311003 := Aside0.mk (Kd.R_mono (Kd.R_told (Kd.R_told (Kd.R_old (kR_ HO_311003.out) hb) (Kd.R_base ho0)) (Kd.R_base ho2)) (fun _ h_ => op1_ h_)); replace BK309 := (bbA_ BK309 hb); replace BK310 := (bbA_ BK310 hb); replace HI0 := (ib89_ HI0 hb); replace HK := (kw_ HK hb); replace HB := (bs89_ HB hb); (try clear hb); (try clear hb2); (try clear hk); (try clear hi); (try clear ho0); (try clear ho1); (try clear ho2); have Z43 := zz4 BK310; obtain ⟨Ao44, co44, eo44⟩ := Kd.R_slice HO336.out; subst eo44; obtain ⟨Ao45, co45, eo45⟩ := Kd.S_slice HO339.out; subst eo45; obtain ⟨Ao46, co46, eo46⟩ := Kd.R_slice HO342.out; subst eo46))
       go_roundg k1
       case measure => have := HK1.out; omega
       case rel => exact ⟨(wrap64 (x6_1 - 1)), (t332), (t333), (t334), (t337), (t340), (.slice Ao44 t334.length co44), (.slice Ao45 t337.length co45), (.slice Ao46 t340.length co46), (by first | rfl | (simp; done) | (simp [*]; done)), H', ⟨by have := HK1.out; omega⟩, ⟨by refine kR_ ?_; exact rfm_ ((Kd.R_types HO336.out BK310.out (by decide))) (fun _ hk => hk.1.1.1)⟩, ⟨by refine kS_ ?_; exact Kd.S_mono (Kd.S_far (p := ⟨gb310, 3, none⟩) (Kd.S_far (p := ⟨gb310, 2, none⟩) (Kd.S_far (p := ⟨gb310, 1, none⟩) (Kd.S_far (p := ⟨gb310, 0, none⟩) (Kd.S_types HO339.out BK310.out (by decide)) (fun _ hk => hk.2) (.int .i64 t333)) (fun _ hk => hk.2) (.slice Ao44 t334.length co44)) (fun _ hk => hk.2) (.slice Ao45 t337.length co45)) (fun _ hk => hk.2) (.slice Ao46 t340.length co46)) (fun _ hk => trivial)⟩, ⟨by refine kR_ ?_; exact rfm_ ((Kd.R_types HO342.out BK310.out (by decide))) (fun _ hk => hk.1.1.1)⟩, ⟨by exact kf_ BK309.out⟩, ⟨by refine kb_ ?_; refine pz4 (cs := #[.int .i64 x311000_1, .slice Ao39 x311001_1.length co39, .slice Ao40 x311002_1.length co40, .slice Ao41 x311003_1.length co41]) ?_; refine kb_ ?_; exact BK310.out⟩, ⟨is89_ HI0.out⟩, ⟨hkA_ HK.out⟩, ⟨hb89_ HB.out⟩⟩
      ·rw [if_neg c32] at H
       have c32b0 : (t331 == 0) = false := beq_eq_false_iff_ne.mpr c32
       have c32b1 : (t331 != 0) = true := bne_iff_ne.mpr c32
       have H' := Aside0.mk H
       clear H
       go_wp2_with (first | ((with_reducible refine gate_callee (f := 62) rfl ?_); refine goesL_ (some 15) rfl rfl Try.func62 (by kernel_rfl) rfl #[.pointer (some ⟨g, 0, none⟩), .int .i64 3] rfl ar_ ?_; (with_reducible refine (spec_l20Rd_pick.calls k1 g s0_0 x1001_1 3 t313 t314 w0 _ ?side1 ?side2 A11.out).mono ?_); (case side1 => exact is89_ HI0.out); (case side2 => exact hb89_ HB.out); rintro e w47 ⟨rfl, hi, hb, hk⟩; refine ⟨_, rfl, ?_⟩; replace HO_311001 := (rk89_ HI0 HO_311001 hk); replace HO_311002 := Aside0.mk (Kd.S_mono (Kd.S_keep (IsS89.apartS (show IsS89 w0 _ g s0_0 x1001_1 from is89_ HI0.out) (kS_ HO_311002.out) (by decide)) hk (fun _ h => h.2)) (fun _ h => h.1)); replace HO_311003 := (rk89_ HI0 HO_311003 hk); replace BK309 := (bkA_ BK309 hk NB309_0); replace BK310 := (bkA_ BK310 hk NB310_0); replace HK := (kk_ HK hk); replace HB := Aside0.mk (hb); replace HI0 := Aside0.mk (hi); (try clear hb); (try clear hb2); (try clear hk); (try clear hi)) | ((with_reducible refine gate_callee (f := 62) rfl ?_); refine goesL_ (some 38) rfl rfl Try.func62 (by kernel_rfl) rfl #[.pointer (some ⟨g, 0, none⟩), .int .i64 6] rfl ar_ ?_; (with_reducible refine (spec_l20Rd_pick.calls k1 g s0_0 t314 6 t331 t332 w0 _ ?side1 ?side2 A31.out).mono ?_); (case side1 => exact is89_ HI0.out); (case side2 => exact hb89_ HB.out); rintro e w48 ⟨rfl, hi, hb, hk⟩; refine ⟨_, rfl, ?_⟩; replace HO_311001 := (rk89_ HI0 HO_311001 hk); replace HO_311002 := Aside0.mk (Kd.S_mono (Kd.S_keep (IsS89.apartS (show IsS89 w0 _ g s0_0 t314 from is89_ HI0.out) (kS_ HO_311002.out) (by decide)) hk (fun _ h => h.2)) (fun _ h => h.1)); replace HO_311003 := (rk89_ HI0 HO_311003 hk); replace BK309 := (bkA_ BK309 hk NB309_0); replace BK310 := (bkA_ BK310 hk NB310_0); replace HK := (kk_ HK hk); replace HB := Aside0.mk (hb); replace HI0 := Aside0.mk (hi); (try clear hb); (try clear hb2); (try clear hk); (try clear hi)))
       go_roundg k1
       case measure => have := HK1.out; omega
       case rel => exact ⟨(wrap64 (x6_1 - 1)), (t332), (x311000_1), (x311001_1), (x311002_1), (x311003_1), (u311001), (u311002), (u311003), (by first | rfl | (simp; done) | (simp [*]; done)), H', ⟨by have := HK1.out; omega⟩, ⟨kR_ HO_311001.out⟩, ⟨by refine kS_ ?_; exact HO_311002.out⟩, ⟨kR_ HO_311003.out⟩, ⟨by refine kb_ ?_; exact BK309.out⟩, ⟨by refine kb_ ?_; exact BK310.out⟩, ⟨is89_ HI0.out⟩, ⟨hkA_ HK.out⟩, ⟨hb89_ HB.out⟩⟩
     ·rw [if_neg c30] at H
      have c30b0 : (t313 == 1) = false := beq_eq_false_iff_ne.mpr c30
      have c30b1 : (t313 != 1) = true := bne_iff_ne.mpr c30
      replace H := Option.bind_eq_some_iff.mp H
      obtain ⟨⟨t343, t344⟩, A490, H⟩ := H
      (try dsimp only at H)
      have A49 := Aside0.mk A490; clear A490
      replace H := Option.bind_eq_some_iff.mp H
      obtain ⟨⟨t345, t348⟩, A500, H⟩ := H
      (try dsimp only at H)
      have A50 := Aside0.mk A500; clear A500
      replace H := Option.bind_eq_some_iff.mp H
      obtain ⟨⟨t349, t350, t353, t356, t359, t362⟩, A510, H⟩ := H
      (try dsimp only at H)
      have A51 := Aside0.mk A510; clear A510
      have H' := Aside0.mk H
      clear H
      try go_wp2_with (first | ((with_reducible refine gate_callee (f := 62) rfl ?_); refine goesL_ (some 15) rfl rfl Try.func62 (by kernel_rfl) rfl #[.pointer (some ⟨g, 0, none⟩), .int .i64 3] rfl ar_ ?_; (with_reducible refine (spec_l20Rd_pick.calls k1 g s0_0 x1001_1 3 t313 t314 w0 _ ?side1 ?side2 A11.out).mono ?_); (case side1 => exact is89_ HI0.out); (case side2 => exact hb89_ HB.out); rintro e w52 ⟨rfl, hi, hb, hk⟩; refine ⟨_, rfl, ?_⟩; replace HO_311001 := (rk89_ HI0 HO_311001 hk); replace HO_311002 := Aside0.mk (Kd.S_mono (Kd.S_keep (IsS89.apartS (show IsS89 w0 _ g s0_0 x1001_1 from is89_ HI0.out) (kS_ HO_311002.out) (by decide)) hk (fun _ h => h.2)) (fun _ h => h.1)); replace HO_311003 := (rk89_ HI0 HO_311003 hk); replace BK309 := (bkA_ BK309 hk NB309_0); replace BK310 := (bkA_ BK310 hk NB310_0); replace HK := (kk_ HK hk); replace HB := Aside0.mk (hb); replace HI0 := Aside0.mk (hi); (try clear hb); (try clear hb2); (try clear hk); (try clear hi)))
      replace HO_311001 := Aside0.mk (Kd.R_drew HO_311001.out); replace HO_311002 := Aside0.mk (Kd.S_drew HO_311002.out); replace HO_311003 := Aside0.mk (Kd.R_drew HO_311003.out); replace BK309 := Aside0.mk (blk_drew BK309.out); replace BK310 := Aside0.mk (blk_drew BK310.out); replace HI0 := Aside0.mk (IsS89.drew HI0.out); replace HK := Aside0.mk (keep_drew HK.out); replace HB := (bd_ HB)
      refine start_ (n := 11) (S := fun w' => w'.cell? ⟨gb310, 0, none⟩ = some (.int .i64 x311000_1) ∧ w'.cell? ⟨gb310, 1, none⟩ = some (u311001) ∧ w'.cell? ⟨gb310, 2, none⟩ = some (u311002) ∧ w'.cell? ⟨gb310, 3, none⟩ = some (u311003)) (ds := [10]) #[false, false, false, false, false, false, false, false, false, false, false] (by kernel_rfl) rfl rfl (cz4 BK310.out) (fun hHeld => ?_); refine with_tabW spec_l20Asking.tab6 spec_l20Asking.bits6 (fun HT_ HW_ => ?_)
      generalize w52.drew = w53 at HO_311001 HO_311002 HO_311003 BK309 BK310 HI0 HK HB hHeld ⊢
      refine pu_ (i := 1) (N := some 18) HT_ ?_; refine pu_ (i := 2) (N := some 19) HT_ ?_; refine tk_ (i := 0) (N := some 17) HT_ HW_ hHeld ?_
      refine on_ (i := 3) (N := some 20) HT_ (fun K hK => ?_)
      refine goes_ Try.func62 (by kernel_rfl) rfl #[.pointer (some ⟨g, 0, none⟩), .int .i64 5] (by rfl) rfl rfl ar_ ?_
      with_reducible refine (spec_l20Rd_pick.calls k1 g s0_0 t314 5 t343 t344 w0 _ ?side1 ?side2 A49.out).mono ?_
      (case side1 => exact is89_ HI0.out)
      (case side2 => exact hb89_ HB.out)
      rintro e w54 ⟨rfl, hi, hb, hk⟩
      refine ⟨_, rfl, ?_⟩
      replace HO_311001 := (rk89_ HI0 HO_311001 hk); replace HO_311002 := Aside0.mk (Kd.S_mono (Kd.S_keep (IsS89.apartS (show IsS89 w0 _ g s0_0 t314 from is89_ HI0.out) (kS_ HO_311002.out) (by decide)) hk (fun _ h => h.2)) (fun _ h => h.1)); replace HO_311003 := (rk89_ HI0 HO_311003 hk); replace BK309 := (bkA_ BK309 hk NB309_0); replace BK310 := (bkA_ BK310 hk NB310_0); replace HK := (kk_ HK hk); replace HB := Aside0.mk (hb); replace HI0 := Aside0.mk (hi); (try clear hb); (try clear hb2); (try clear hk); (try clear hi)
      refine hK.out _ _ (cz4 BK310.out) (fun hHeld => ?_)
      clear hK K; refine nm_ 20 ?_
      refine on_ (i := 4) (N := some 21) HT_ (fun K hK => ?_)
      refine goes_ Try.func61 (by kernel_rfl) rfl #[.pointer (some ⟨g, 0, none⟩), .int .i64 t343] (by rfl) rfl rfl ar_ ?_
      with_reducible refine (spec_l20Rd_bytes.calls k1 g s0_0 t344 t343 t345 t348 w0 _ ?side1 ?side2 A50.out).mono ?_
      (case side1 => exact is89_ HI0.out)
      (case side2 => exact hb89_ HB.out)
      rintro e w55 ⟨v346, rfl, ho0, hi, hb, hk⟩
      refine ⟨_, rfl, ?_⟩
      replace HO_311001 := (rk89_ HI0 HO_311001 hk); replace HO_311002 := Aside0.mk (Kd.S_mono (Kd.S_told (Kd.S_oldK (IsS89.apartS (show IsS89 w0 _ g s0_0 t344 from is89_ HI0.out) (kS_ HO_311002.out) (by decide)) hk) (Kd.R_base ho0)) (fun _ h_ => op1_ h_)); replace HO_311003 := (rk89_ HI0 HO_311003 hk); replace BK309 := (bkA_ BK309 hk NB309_0); replace BK310 := (bkA_ BK310 hk NB310_0); have HO347 := Aside0.mk (Kd.R_lower ho0 (keep_size (w := w) (g := g) (row := none) (hkA_ HK.out))); replace HK := (kk_ HK hk); replace HB := Aside0.mk (hb); replace HI0 := Aside0.mk (hi); (try clear hb); (try clear hb2); (try clear hk); (try clear hi); (try clear ho0)
      obtain ⟨Ao56, co56, eo56⟩ := Kd.R_slice HO_311001.out
      (first | subst eo56 | (injection eo56 with f1_ f2_ f3_; have f4_ := f1_.symm; have f5_ := f3_.symm; clear f1_ f2_ f3_; subst f4_; subst f5_))
      obtain ⟨Ao57, co57, eo57⟩ := Kd.S_slice HO_311002.out
      (first | subst eo57 | (injection eo57 with f1_ f2_ f3_; have f4_ := f1_.symm; have f5_ := f3_.symm; clear f1_ f2_ f3_; subst f4_; subst f5_))
      obtain ⟨Ao58, co58, eo58⟩ := Kd.R_slice HO_311003.out
      (first | subst eo58 | (injection eo58 with f1_ f2_ f3_; have f4_ := f1_.symm; have f5_ := f3_.symm; clear f1_ f2_ f3_; subst f4_; subst f5_))
      obtain ⟨Ao59, co59, eo59⟩ := Kd.R_slice HO347.out
      (first | subst eo59 | (injection eo59 with f1_ f2_ f3_; have f4_ := f1_.symm; have f5_ := f3_.symm; clear f1_ f2_ f3_; subst f4_; subst f5_))
      refine hK.out _ _ (cz4 BK310.out) (fun hHeld => ?_)
      clear hK K; refine nm_ 21 ?_
      refine on_ (i := 5) (N := some 22) HT_ (fun K hK => ?_)
      refine goes_ Try.func27 (by kernel_rfl) rfl #[.agg #[.int .i64 x311000_1, .slice Ao56 x311001_1.length co56, .slice Ao57 x311002_1.length co57, .slice Ao58 x311003_1.length co58], .slice Ao59 t345.length co59] (by rfl) rfl rfl ar_ ?_
      with_reducible refine (spec_ClientAsk.calls k1 x311000_1 _ _ x311001_1 _ _ x311002_1 _ _ x311003_1 _ _ t345 t349 t350 t353 t356 t359 t362 _ ?side1 ?side2 ?side3 ?side4 ?side5 ?side6 ?side7 ?side8 A51.out).mono ?_
      (case side1 => exact kC_ (Kd.R_reads' HO_311001.out).2.2)
      (case side2 => exact (Kd.R_reads' HO_311001.out).2.1)
      (case side3 => exact kC_ (Kd.S_reads' HO_311002.out).2.2)
      (case side4 => exact (Kd.S_reads' HO_311002.out).2.1)
      (case side5 => exact kC_ (Kd.R_reads' HO_311003.out).2.2)
      (case side6 => exact (Kd.R_reads' HO_311003.out).2.1)
      (case side7 => exact kC_ (Kd.R_reads' HO347.out).2.2)
      (case side8 => exact (Kd.R_reads' HO347.out).2.1)
      rintro e w60 ⟨v351, v354, v357, v360, rfl, ho0, ho1, ho2, ho3, hb⟩
      refine ⟨_, rfl, ?_⟩
      have HO352 := Aside0.mk (Kd.R_lower (Kd.R_new' (Kd.R_new' ho0 (Kd.R_lt (kR_ HO_311001.out))) (Kd.R_lt (kR_ HO_311003.out))) (keep_size (w := w) (g := g) (row := none) (hkA_ HK.out))); have HO355 := Aside0.mk (Kd.S_lower (Kd.S_new' (Kd.S_new' ho1 (Kd.S_lt (kS_ HO_311002.out))) (Kd.R_lt (kR_ HO347.out))) (keep_size (w := w) (g := g) (row := none) (hkA_ HK.out))); replace HO_311002 := Aside0.mk (Kd.S_mono (Kd.S_told (Kd.S_told (Kd.S_old (kS_ HO_311002.out) hb) (Kd.S_base ho1)) (Kd.R_base ho3)) (fun _ h_ => op1_ h_)); have HO358 := Aside0.mk (Kd.R_lower (Kd.R_new' (Kd.R_new' ho2 (Kd.R_lt (kR_ HO_311001.out))) (Kd.R_lt (kR_ HO_311003.out))) (keep_size (w := w) (g := g) (row := none) (hkA_ HK.out))); replace HO_311001 := Aside0.mk (Kd.R_mono (Kd.R_told (Kd.R_told (Kd.R_old (kR_ HO_311001.out) hb) (Kd.R_base ho0)) (Kd.R_base ho2)) (fun _ h_ => op1_ h_)); replace HO_311003 := Aside0.mk (Kd.R_mono (Kd.R_told (Kd.R_told (Kd.R_old (kR_ HO_311003.out) hb) (Kd.R_base ho0)) (Kd.R_base ho2)) (fun _ h_ => op1_ h_)); have HO361 := Aside0.mk (Kd.R_lower (Kd.R_new' ho3 (Kd.R_lt (kR_ HO347.out))) (keep_size (w := w) (g := g) (row := none) (hkA_ HK.out))); replace HO347 := Aside0.mk (Kd.R_elder' (kR_ HO347.out) (Kd.R_base ho3) hb); replace BK309 := (bbA_ BK309 hb); replace BK310 := (bbA_ BK310 hb); replace HI0 := (ib89_ HI0 hb); replace HK := (kw_ HK hb); replace HB := (bs89_ HB hb); (try clear hb); (try clear hb2); (try clear hk); (try clear hi); (try clear ho0); (try clear ho1); (try clear ho2); (try clear ho3)
      obtain ⟨Ao62, co62, eo62⟩ := Kd.R_slice HO352.out
      (first | subst eo62 | (injection eo62 with f1_ f2_ f3_; have f4_ := f1_.symm; have f5_ := f3_.symm; clear f1_ f2_ f3_; subst f4_; subst f5_))
      obtain ⟨Ao64, co64, eo64⟩ := Kd.S_slice HO355.out
      (first | subst eo64 | (injection eo64 with f1_ f2_ f3_; have f4_ := f1_.symm; have f5_ := f3_.symm; clear f1_ f2_ f3_; subst f4_; subst f5_))
      obtain ⟨Ao66, co66, eo66⟩ := Kd.R_slice HO358.out
      (first | subst eo66 | (injection eo66 with f1_ f2_ f3_; have f4_ := f1_.symm; have f5_ := f3_.symm; clear f1_ f2_ f3_; subst f4_; subst f5_))
      refine hK.out _ _ (cz4 BK310.out) (fun hHeld => ?_)
      clear hK K; refine nm_ 22 ?_; refine pu_ (i := 6) (N := some 16) HT_ ?_; refine pu_ (i := 7) (N := some 23) HT_ ?_; refine pu_ (i := 8) (N := some 24) HT_ ?_; refine pu_ (i := 9) (N := some 25) HT_ ?_
      refine last_ (i := 10) (N := none) #[true, true, true, true, true, true, true, true, true, true, true] rfl rfl (one_of HT_.out (by kernel_rfl)) (by decide) (fun K hK => ?_)
      have hs61 : w60.cell? ⟨gb310, 0, none⟩ = some (.int .i64 x311000_1) := bc_ BK310 0
      have hfs61 := blk_frozen BK310.out 0
      have hns61_0 := NB309_310.out; have hms61_0 := NB310_309.out
      have hs63 : w60.cell? ⟨gb310, 1, none⟩ = some (.slice Ao56 x311001_1.length co56) := bc_ BK310 1
      have hfs63 := blk_frozen BK310.out 1
      have hns63_0 := NB309_310.out; have hms63_0 := NB310_309.out
      have hs65 : w60.cell? ⟨gb310, 2, none⟩ = some (.slice Ao57 x311002_1.length co57) := bc_ BK310 2
      have hfs65 := blk_frozen BK310.out 2
      have hns65_0 := NB309_310.out; have hms65_0 := NB310_309.out
      have hs67 : w60.cell? ⟨gb310, 3, none⟩ = some (.slice Ao58 x311003_1.length co58) := bc_ BK310 3
      have hfs67 := blk_frozen BK310.out 3
      have hns67_0 := NB309_310.out; have hms67_0 := NB310_309.out
      refine skip_ (w1 := ?_) (by rfl) rfl ?_ ?_
      rotate_left
      ·go_simp
       rfl
      refine hK.out _ _ ?_
      clear hK K
      refine done_ (done_of HT_.out (by kernel_rfl)) ?_
      try go_wp2
      go_roundg k1
      case measure => have := HK1.out; omega
      case rel => exact ⟨(wrap64 (x6_1 - 1)), (t348), (t349), (t350), (t353), (t356), (.slice Ao62 t350.length co62), (.slice Ao64 t353.length co64), (.slice Ao66 t356.length co66), (by first | rfl | (simp; done) | (simp [*]; done)), H', ⟨by have := HK1.out; omega⟩, ⟨by refine kR_ ?_; exact rfm_ ((Kd.R_types HO352.out BK310.out (by decide))) (fun _ hk => hk.1.1.1)⟩, ⟨by refine kS_ ?_; exact Kd.S_mono (Kd.S_far (p := ⟨gb310, 3, none⟩) (Kd.S_far (p := ⟨gb310, 2, none⟩) (Kd.S_far (p := ⟨gb310, 1, none⟩) (Kd.S_far (p := ⟨gb310, 0, none⟩) (Kd.S_types HO355.out BK310.out (by decide)) (fun _ hk => hk.2) (.int .i64 t349)) (fun _ hk => hk.2) (.slice Ao62 t350.length co62)) (fun _ hk => hk.2) (.slice Ao64 t353.length co64)) (fun _ hk => hk.2) (.slice Ao66 t356.length co66)) (fun _ hk => trivial)⟩, ⟨by refine kR_ ?_; exact rfm_ ((Kd.R_types HO358.out BK310.out (by decide))) (fun _ hk => hk.1.1.1)⟩, ⟨by exact kf_ BK309.out⟩, ⟨by refine kb_ ?_; refine pz4 (cs := #[.int .i64 x311000_1, .slice Ao56 x311001_1.length co56, .slice Ao57 x311002_1.length co57, .slice Ao58 x311003_1.length co58]) ?_; refine kb_ ?_; exact BK310.out⟩, ⟨is89_ HI0.out⟩, ⟨hkA_ HK.out⟩, ⟨hb89_ HB.out⟩⟩
   ·rw [if_neg c10] at H
    have c10b0 : decide (0 < x6_1) = false := decide_eq_false c10
    clear c10
    replace H := Option.bind_eq_some_iff.mp H
    obtain ⟨⟨t363, t364⟩, A680, H⟩ := H
    (try dsimp only at H)
    have A68 := Aside0.mk A680; clear A680
    by_cases c69 : t363 = true
    ·subst c69
     rw [if_pos rfl] at H
     replace H := Option.bind_eq_some_iff.mp H
     obtain ⟨⟨t365, t366⟩, A700, H⟩ := H
     (try dsimp only at H)
     have A70 := Aside0.mk A700; clear A700
     by_cases c71 : t365 = 0
     ·rw [if_pos c71] at H
      have c71b0 : (t365 == 0) = true := beq_iff_eq.mpr c71
      have c71b1 : (t365 != 0) = false := bne_eq_false_iff_eq.mpr c71
      clear c71
      simp only [Option.some.injEq, Prod.mk.injEq] at H
      obtain ⟨rfl, rfl, rfl, rfl, rfl⟩ := H
      go_wp2_with (first | ((with_reducible refine gate_callee (f := 71) rfl ?_); refine goesL_ (some 44) rfl rfl Try.func71 (by kernel_rfl) rfl #[.pointer (some ⟨g, 0, none⟩), .int .i64 a1] rfl ar_ ?_; (with_reducible refine (spec_l20Rd_odd.calls k1 g s0_0 x1001_1 a1 true t364 w0 _ ?side1 ?side2 A68.out).mono ?_); (case side1 => exact is89_ HI0.out); (case side2 => exact hb89_ HB.out); rintro e w72 ⟨rfl, hi, hb, hk⟩; refine ⟨_, rfl, ?_⟩; replace HO_311001 := (rk89_ HI0 HO_311001 hk); replace HO_311002 := Aside0.mk (Kd.S_mono (Kd.S_keep (IsS89.apartS (show IsS89 w0 _ g s0_0 x1001_1 from is89_ HI0.out) (kS_ HO_311002.out) (by decide)) hk (fun _ h => h.2)) (fun _ h => h.1)); replace HO_311003 := (rk89_ HI0 HO_311003 hk); replace BK309 := (bkA_ BK309 hk NB309_0); replace BK310 := (bkA_ BK310 hk NB310_0); replace HK := (kk_ HK hk); replace HB := Aside0.mk (hb); replace HI0 := Aside0.mk (hi); (try clear hb); (try clear hb2); (try clear hk); (try clear hi)) | ((with_reducible refine gate_callee (f := 62) rfl ?_); refine goesL_ (some 46) rfl rfl Try.func62 (by kernel_rfl) rfl #[.pointer (some ⟨g, 0, none⟩), .int .i64 4] rfl ar_ ?_; (with_reducible refine (spec_l20Rd_pick.calls k1 g s0_0 t364 4 t365 t366 w0 _ ?side1 ?side2 A70.out).mono ?_); (case side1 => exact is89_ HI0.out); (case side2 => exact hb89_ HB.out); rintro e w73 ⟨rfl, hi, hb, hk⟩; refine ⟨_, rfl, ?_⟩; replace HO_311001 := (rk89_ HI0 HO_311001 hk); replace HO_311002 := Aside0.mk (Kd.S_mono (Kd.S_keep (IsS89.apartS (show IsS89 w0 _ g s0_0 t364 from is89_ HI0.out) (kS_ HO_311002.out) (by decide)) hk (fun _ h => h.2)) (fun _ h => h.1)); replace HO_311003 := (rk89_ HI0 HO_311003 hk); replace BK309 := (bkA_ BK309 hk NB309_0); replace BK310 := (bkA_ BK310 hk NB310_0); replace HK := (kk_ HK hk); replace HB := Aside0.mk (hb); replace HI0 := Aside0.mk (hi); (try clear hb); (try clear hb2); (try clear hk); (try clear hi); have hnb74 := NB310_309.out; have hnc74 := NB309_310.out; have hnb75 := NB310_0.out; have hnc75 := NB0_310.out; have Z76 := zz4 BK310; have hnb77 := NB309_0.out; have hnc77 := NB0_309.out; have Z78 := zz4 BK309; obtain ⟨Ao79, co79, eo79⟩ := Kd.R_slice HO_311001.out; subst eo79; obtain ⟨Ao80, co80, eo80⟩ := Kd.S_slice HO_311002.out; subst eo80; obtain ⟨Ao81, co81, eo81⟩ := Kd.R_slice HO_311003.out; subst eo81))
      refine bodyPost_ret (results_cell_row rfl _ _ gb309 30 #[.int .i64 (wrap64 (x311000_1 + 1)), .slice Ao79 x311001_1.length co79, .slice Ao80 x311002_1.length co80, .slice Ao81 x311003_1.length co81] (0, 0) _ rfl (by refine kb_ ?_; refine pz4 (cs := #[.int .i64 0, .slice none 0 0, .slice none 0 0, .slice none 0 0]) ?_; exact kf_ BK309.out) Try.underlying30 rfl (by kernel_rfl)) rfl ?_
      exact ⟨_, _, _, by first | rfl | (simp [errW_none, errW_some] <;> rfl) | (simp [*, errW_none, errW_some] <;> rfl), by refine kR_ ?_; exact rfm_ ((Kd.R_far (p := ⟨gb310, 0, none⟩) (Kd.R_types (Kd.R_types HO_311001.out BK310.out (by decide)) BK309.out (by decide)) (fun _ hk => hk.1.2) (.int .i64 (wrap64 (x311000_1 + 1))))) (fun _ hk => hk.1.1), by refine kS_ ?_; exact Kd.S_mono (Kd.S_far (p := ⟨gb309, 3, none⟩) (Kd.S_far (p := ⟨gb309, 2, none⟩) (Kd.S_far (p := ⟨gb309, 1, none⟩) (Kd.S_far (p := ⟨gb309, 0, none⟩) (Kd.S_far (p := ⟨gb310, 0, none⟩) (Kd.S_types (Kd.S_types HO_311002.out BK310.out (by decide)) BK309.out (by decide)) (fun _ hk => hk.1.2) (.int .i64 (wrap64 (x311000_1 + 1)))) (fun _ hk => hk.2) (.int .i64 (wrap64 (x311000_1 + 1)))) (fun _ hk => hk.2) (.slice Ao79 x311001_1.length co79)) (fun _ hk => hk.2) (.slice Ao80 x311002_1.length co80)) (fun _ hk => hk.2) (.slice Ao81 x311003_1.length co81)) (fun _ hk => trivial), by refine kR_ ?_; exact rfm_ ((Kd.R_far (p := ⟨gb310, 0, none⟩) (Kd.R_types (Kd.R_types HO_311003.out BK310.out (by decide)) BK309.out (by decide)) (fun _ hk => hk.1.2) (.int .i64 (wrap64 (x311000_1 + 1))))) (fun _ hk => hk.1.1), is89_ HI0.out, hb89_ HB.out, hkA_ HK.out⟩
     ·rw [if_neg c71] at H
      have c71b0 : (t365 == 0) = false := beq_eq_false_iff_ne.mpr c71
      have c71b1 : (t365 != 0) = true := bne_iff_ne.mpr c71
      by_cases c82 : t365 = 1
      ·rw [if_pos c82] at H
       have c82b0 : (t365 == 1) = true := beq_iff_eq.mpr c82
       have c82b1 : (t365 != 1) = false := bne_eq_false_iff_eq.mpr c82
       clear c82
       by_cases c83 : x311001_1.length < 17592186044416
       ·rw [if_pos c83] at H
        have LMc83 := Aside0.mk c83; clear c83
        obtain ⟨y367, hy367⟩ : ∃ y_ : List Int, y_ = (x311001_1 ++ [0]) := ⟨_, rfl⟩
        (first | replace H := sb_ hy367 H | rw [← hy367] at H)
        have Ny367 := Aside0.mk hy367; clear hy367
        simp only [Option.some.injEq, Prod.mk.injEq] at H
        obtain ⟨rfl, rfl, rfl, rfl, rfl⟩ := H
        go_wp2_with (first | ((with_reducible refine gate_callee (f := 71) rfl ?_); refine goesL_ (some 44) rfl rfl Try.func71 (by kernel_rfl) rfl #[.pointer (some ⟨g, 0, none⟩), .int .i64 a1] rfl ar_ ?_; (with_reducible refine (spec_l20Rd_odd.calls k1 g s0_0 x1001_1 a1 true t364 w0 _ ?side1 ?side2 A68.out).mono ?_); (case side1 => exact is89_ HI0.out); (case side2 => exact hb89_ HB.out); rintro e w84 ⟨rfl, hi, hb, hk⟩; refine ⟨_, rfl, ?_⟩; replace HO_311001 := (rk89_ HI0 HO_311001 hk); replace HO_311002 := Aside0.mk (Kd.S_mono (Kd.S_keep (IsS89.apartS (show IsS89 w0 _ g s0_0 x1001_1 from is89_ HI0.out) (kS_ HO_311002.out) (by decide)) hk (fun _ h => h.2)) (fun _ h => h.1)); replace HO_311003 := (rk89_ HI0 HO_311003 hk); replace BK309 := (bkA_ BK309 hk NB309_0); replace BK310 := (bkA_ BK310 hk NB310_0); replace HK := (kk_ HK hk); replace HB := Aside0.mk (hb); replace HI0 := Aside0.mk (hi); (try clear hb); (try clear hb2); (try clear hk); (try clear hi)) | ((with_reducible refine gate_callee (f := 62) rfl ?_); refine goesL_ (some 46) rfl rfl Try.func62 (by kernel_rfl) rfl #[.pointer (some ⟨g, 0, none⟩), .int .i64 4] rfl ar_ ?_; (with_reducible refine (spec_l20Rd_pick.calls k1 g s0_0 t364 4 t365 t366 w0 _ ?side1 ?side2 A70.out).mono ?_); (case side1 => exact is89_ HI0.out); (case side2 => exact hb89_ HB.out); rintro e w85 ⟨rfl, hi, hb, hk⟩; refine ⟨_, rfl, ?_⟩; replace HO_311001 := (rk89_ HI0 HO_311001 hk); replace HO_311002 := Aside0.mk (Kd.S_mono (Kd.S_keep (IsS89.apartS (show IsS89 w0 _ g s0_0 t364 from is89_ HI0.out) (kS_ HO_311002.out) (by decide)) hk (fun _ h => h.2)) (fun _ h => h.1)); replace HO_311003 := (rk89_ HI0 HO_311003 hk); replace BK309 := (bkA_ BK309 hk NB309_0); replace BK310 := (bkA_ BK310 hk NB310_0); replace HK := (kk_ HK hk); replace HB := Aside0.mk (hb); replace HI0 := Aside0.mk (hi); (try clear hb); (try clear hb2); (try clear hk); (try clear hi); have hnb86 := NB310_309.out; have hnc86 := NB309_310.out; have hnb87 := NB310_0.out; have hnc87 := NB0_310.out; have Z88 := zz4 BK310) | ((with_reducible refine gate_builtin (b := .append) (xs := #[.tmp 69, .tmp 70]) rfl ?_); at_builtin; refine Kd.R_append (Kd.int .i64) w.heap.size rfl (.tmp 69) (.tmp 70) 22 3 (.int .i64 0) 8 rfl Try.underlying22 info3 rfl (by decide) (by omega) u311001 x311001_1 0 [.int .i64 0] (fun k_ => some k_ ≠ (u311003 : Value).ownBlock) (fun _ => False) rfl rfl ?aP (fun _ hk => hk.elim) ?aF ?aO (Below.refl _ _) ?aS ?aL ?_; (case aP => exact rfl); (case aF => exact (fun k_ hk => Kd.fresh' (Kd.R_lt (kR_ HO_311003.out)) k_ hk)); (case aO => exact (kR_ HO_311001.out)); (case aS => exact (keep_size (w := w) (g := g) (row := none) (hkA_ HK.out))); (case aL => have := LMc83.out; omega); intro v368 w89 ho hb hg hat; rw [← Ny367.out] at ho; replace HO_311002 := Aside0.mk (Kd.S_over' (kS_ HO_311002.out) (Kd.R_typed (kR_ HO_311001.out)) (by decide) hg); replace HO_311003 := Aside0.mk (Kd.R_after (ok := (fun _ => True)) (by refine kR_ ?_; exact Kd.R_mono HO_311003.out (fun _ hk => ⟨trivial, hk⟩)) hg hat); replace BK309 := (bgA_ BK309 hg (Kd.R_ne HO_311001.out BK309.out (by decide))); replace BK310 := (bgA_ BK310 hg (Kd.R_ne HO_311001.out BK310.out (by decide))); replace HI0 := Aside0.mk (IsS89.grown (is89_ HI0.out) hg (IsS89.own_ne HI0.out HO_311001.out (by decide))); replace HB := Aside0.mk (below_weaken (hb89_ HB.out) HL.out hb); replace HK := Aside0.mk (KeepBut.trans (hkA_ HK.out) (KeepBut.of_grown hg g) (Kd.R_base2 HO_311001.out)); have HO369 := Aside0.mk (ho); clear HO_311001; clear ho hb hg hat; obtain ⟨Ao90, co90, eo90⟩ := Kd.R_slice HO369.out; subst eo90; have Z91 := zz4 BK310; have hnb92 := NB309_0.out; have hnc92 := NB0_309.out; have Z93 := zz4 BK309; obtain ⟨Ao94, co94, eo94⟩ := Kd.S_slice HO_311002.out; subst eo94; obtain ⟨Ao95, co95, eo95⟩ := Kd.R_slice HO_311003.out; subst eo95))
        refine bodyPost_ret (results_cell_row rfl _ _ gb309 30 #[.int .i64 x311000_1, .slice Ao90 y367.length co90, .slice Ao94 x311002_1.length co94, .slice Ao95 x311003_1.length co95] (0, 0) _ rfl (by refine kb_ ?_; refine pz4 (cs := #[.int .i64 0, .slice none 0 0, .slice none 0 0, .slice none 0 0]) ?_; exact kf_ BK309.out) Try.underlying30 rfl (by kernel_rfl)) rfl ?_
        exact ⟨_, _, _, by first | rfl | (simp [errW_none, errW_some] <;> rfl) | (simp [*, errW_none, errW_some] <;> rfl), by refine kR_ ?_; exact rfm_ ((Kd.R_far (p := ⟨gb310, 1, none⟩) (Kd.R_types (Kd.R_types HO369.out BK310.out (by decide)) BK309.out (by decide)) (fun _ hk => hk.1.2) (.slice Ao90 y367.length co90))) (fun _ hk => hk.1.1), by refine kS_ ?_; exact Kd.S_mono (Kd.S_far (p := ⟨gb309, 3, none⟩) (Kd.S_far (p := ⟨gb309, 2, none⟩) (Kd.S_far (p := ⟨gb309, 1, none⟩) (Kd.S_far (p := ⟨gb309, 0, none⟩) (Kd.S_far (p := ⟨gb310, 1, none⟩) (Kd.S_types (Kd.S_types HO_311002.out BK310.out (by decide)) BK309.out (by decide)) (fun _ hk => hk.1.2) (.slice Ao90 y367.length co90)) (fun _ hk => hk.2) (.int .i64 x311000_1)) (fun _ hk => hk.2) (.slice Ao90 y367.length co90)) (fun _ hk => hk.2) (.slice Ao94 x311002_1.length co94)) (fun _ hk => hk.2) (.slice Ao95 x311003_1.length co95)) (fun _ hk => trivial), by refine kR_ ?_; exact rfm_ ((Kd.R_far (p := ⟨gb310, 1, none⟩) (Kd.R_types (Kd.R_types HO_311003.out BK310.out (by decide)) BK309.out (by decide)) (fun _ hk => hk.1.2) (.slice Ao90 y367.length co90))) (fun _ hk => hk.1.1.2), is89_ HI0.out, hb89_ HB.out, hkA_ HK.out⟩
       ·rw [if_neg c83] at H
        exact absurd H (by simp)
      ·rw [if_neg c82] at H
       have c82b0 : (t365 == 1) = false := beq_eq_false_iff_ne.mpr c82
       have c82b1 : (t365 != 1) = true := bne_iff_ne.mpr c82
       by_cases c96 : t365 = 2
       ·rw [if_pos c96] at H
        have c96b0 : (t365 == 2) = true := beq_iff_eq.mpr c96
        have c96b1 : (t365 != 2) = false := bne_eq_false_iff_eq.mpr c96
        clear c96
        simp only [Option.some.injEq, Prod.mk.injEq] at H
        obtain ⟨rfl, rfl, rfl, rfl, rfl⟩ := H
        go_wp2_with (first | ((with_reducible refine gate_callee (f := 71) rfl ?_); refine goesL_ (some 44) rfl rfl Try.func71 (by kernel_rfl) rfl #[.pointer (some ⟨g, 0, none⟩), .int .i64 a1] rfl ar_ ?_; (with_reducible refine (spec_l20Rd_odd.calls k1 g s0_0 x1001_1 a1 true t364 w0 _ ?side1 ?side2 A68.out).mono ?_); (case side1 => exact is89_ HI0.out); (case side2 => exact hb89_ HB.out); rintro e w97 ⟨rfl, hi, hb, hk⟩; refine ⟨_, rfl, ?_⟩; replace HO_311001 := (rk89_ HI0 HO_311001 hk); replace HO_311002 := Aside0.mk (Kd.S_mono (Kd.S_keep (IsS89.apartS (show IsS89 w0 _ g s0_0 x1001_1 from is89_ HI0.out) (kS_ HO_311002.out) (by decide)) hk (fun _ h => h.2)) (fun _ h => h.1)); replace HO_311003 := (rk89_ HI0 HO_311003 hk); replace BK309 := (bkA_ BK309 hk NB309_0); replace BK310 := (bkA_ BK310 hk NB310_0); replace HK := (kk_ HK hk); replace HB := Aside0.mk (hb); replace HI0 := Aside0.mk (hi); (try clear hb); (try clear hb2); (try clear hk); (try clear hi)) | ((with_reducible refine gate_callee (f := 62) rfl ?_); refine goesL_ (some 46) rfl rfl Try.func62 (by kernel_rfl) rfl #[.pointer (some ⟨g, 0, none⟩), .int .i64 4] rfl ar_ ?_; (with_reducible refine (spec_l20Rd_pick.calls k1 g s0_0 t364 4 t365 t366 w0 _ ?side1 ?side2 A70.out).mono ?_); (case side1 => exact is89_ HI0.out); (case side2 => exact hb89_ HB.out); rintro e w98 ⟨rfl, hi, hb, hk⟩; refine ⟨_, rfl, ?_⟩; replace HO_311001 := (rk89_ HI0 HO_311001 hk); replace HO_311002 := Aside0.mk (Kd.S_mono (Kd.S_keep (IsS89.apartS (show IsS89 w0 _ g s0_0 t364 from is89_ HI0.out) (kS_ HO_311002.out) (by decide)) hk (fun _ h => h.2)) (fun _ h => h.1)); replace HO_311003 := (rk89_ HI0 HO_311003 hk); replace BK309 := (bkA_ BK309 hk NB309_0); replace BK310 := (bkA_ BK310 hk NB310_0); replace HK := (kk_ HK hk); replace HB := Aside0.mk (hb); replace HI0 := Aside0.mk (hi); (try clear hb); (try clear hb2); (try clear hk); (try clear hi); have hnb99 := NB310_309.out; have hnc99 := NB309_310.out; have hnb100 := NB310_0.out; have hnc100 := NB0_310.out; have Z101 := zz4 BK310; have hnb102 := NB309_0.out; have hnc102 := NB0_309.out; have Z103 := zz4 BK309; obtain ⟨Ao104, co104, eo104⟩ := Kd.R_slice HO_311001.out; subst eo104; obtain ⟨Ao105, co105, eo105⟩ := Kd.S_slice HO_311002.out; subst eo105; obtain ⟨Ao106, co106, eo106⟩ := Kd.R_slice HO_311003.out; subst eo106))
        refine bodyPost_ret (results_cell_row rfl _ _ gb309 30 #[.int .i64 257, .slice Ao104 x311001_1.length co104, .slice Ao105 x311002_1.length co105, .slice Ao106 x311003_1.length co106] (0, 0) _ rfl (by refine kb_ ?_; refine pz4 (cs := #[.int .i64 0, .slice none 0 0, .slice none 0 0, .slice none 0 0]) ?_; exact kf_ BK309.out) Try.underlying30 rfl (by kernel_rfl)) rfl ?_
        exact ⟨_, _, _, by first | rfl | (simp [errW_none, errW_some] <;> rfl) | (simp [*, errW_none, errW_some] <;> rfl), by refine kR_ ?_; exact rfm_ ((Kd.R_far (p := ⟨gb310, 0, none⟩) (Kd.R_types (Kd.R_types HO_311001.out BK310.out (by decide)) BK309.out (by decide)) (fun _ hk => hk.1.2) (.int .i64 257))) (fun _ hk => hk.1.1), by refine kS_ ?_; exact Kd.S_mono (Kd.S_far (p := ⟨gb309, 3, none⟩) (Kd.S_far (p := ⟨gb309, 2, none⟩) (Kd.S_far (p := ⟨gb309, 1, none⟩) (Kd.S_far (p := ⟨gb309, 0, none⟩) (Kd.S_far (p := ⟨gb310, 0, none⟩) (Kd.S_types (Kd.S_types HO_311002.out BK310.out (by decide)) BK309.out (by decide)) (fun _ hk => hk.1.2) (.int .i64 257)) (fun _ hk => hk.2) (.int .i64 257)) (fun _ hk => hk.2) (.slice Ao104 x311001_1.length co104)) (fun _ hk => hk.2) (.slice Ao105 x311002_1.length co105)) (fun _ hk => hk.2) (.slice Ao106 x311003_1.length co106)) (fun _ hk => trivial), by refine kR_ ?_; exact rfm_ ((Kd.R_far (p := ⟨gb310, 0, none⟩) (Kd.R_types (Kd.R_types HO_311003.out BK310.out (by decide)) BK309.out (by decide)) (fun _ hk => hk.1.2) (.int .i64 257))) (fun _ hk => hk.1.1), is89_ HI0.out, hb89_ HB.out, hkA_ HK.out⟩
       ·rw [if_neg c96] at H
        have c96b0 : (t365 == 2) = false := beq_eq_false_iff_ne.mpr c96
        have c96b1 : (t365 != 2) = true := bne_iff_ne.mpr c96
        by_cases c107 : 10 ≤ 281474976710656
        ·rw [if_pos c107] at H
         have c107b0 := eq_true c107
         have c107b1 : decide (10 ≤ 281474976710656) = true := decide_eq_true c107
         clear c107
         obtain ⟨y370, hy370⟩ : ∃ y_ : List Int, y_ = (List.replicate 10 0) := ⟨_, rfl⟩
         (first | replace H := sb_ hy370 H | rw [← hy370] at H)
         have Ny370 := Aside0.mk hy370; clear hy370
         by_cases c108 : x311002_1.length < 4398046511104
         ·rw [if_pos c108] at H
          have LMc108 := Aside0.mk c108; clear c108
          obtain ⟨y373, hy373⟩ : ∃ y_ : List (S41), y_ = (x311002_1 ++ [(⟨x311000_1, y370⟩ : S41)]) := ⟨_, rfl⟩
          (first | replace H := sb_ hy373 H | rw [← hy373] at H)
          have Ny373 := Aside0.mk hy373; clear hy373
          simp only [Option.some.injEq, Prod.mk.injEq] at H
          obtain ⟨rfl, rfl, rfl, rfl, rfl⟩ := H
          try go_wp2_with (first | ((with_reducible refine gate_callee (f := 71) rfl ?_); refine goesL_ (some 44) rfl rfl Try.func71 (by kernel_rfl) rfl #[.pointer (some ⟨g, 0, none⟩), .int .i64 a1] rfl ar_ ?_; (with_reducible refine (spec_l20Rd_odd.calls k1 g s0_0 x1001_1 a1 true t364 w0 _ ?side1 ?side2 A68.out).mono ?_); (case side1 => exact is89_ HI0.out); (case side2 => exact hb89_ HB.out); rintro e w109 ⟨rfl, hi, hb, hk⟩; refine ⟨_, rfl, ?_⟩; replace HO_311001 := (rk89_ HI0 HO_311001 hk); replace HO_311002 := Aside0.mk (Kd.S_mono (Kd.S_keep (IsS89.apartS (show IsS89 w0 _ g s0_0 x1001_1 from is89_ HI0.out) (kS_ HO_311002.out) (by decide)) hk (fun _ h => h.2)) (fun _ h => h.1)); replace HO_311003 := (rk89_ HI0 HO_311003 hk); replace BK309 := (bkA_ BK309 hk NB309_0); replace BK310 := (bkA_ BK310 hk NB310_0); replace HK := (kk_ HK hk); replace HB := Aside0.mk (hb); replace HI0 := Aside0.mk (hi); (try clear hb); (try clear hb2); (try clear hk); (try clear hi)) | ((with_reducible refine gate_callee (f := 62) rfl ?_); refine goesL_ (some 46) rfl rfl Try.func62 (by kernel_rfl) rfl #[.pointer (some ⟨g, 0, none⟩), .int .i64 4] rfl ar_ ?_; (with_reducible refine (spec_l20Rd_pick.calls k1 g s0_0 t364 4 t365 t366 w0 _ ?side1 ?side2 A70.out).mono ?_); (case side1 => exact is89_ HI0.out); (case side2 => exact hb89_ HB.out); rintro e w110 ⟨rfl, hi, hb, hk⟩; refine ⟨_, rfl, ?_⟩; replace HO_311001 := (rk89_ HI0 HO_311001 hk); replace HO_311002 := Aside0.mk (Kd.S_mono (Kd.S_keep (IsS89.apartS (show IsS89 w0 _ g s0_0 t364 from is89_ HI0.out) (kS_ HO_311002.out) (by decide)) hk (fun _ h => h.2)) (fun _ h => h.1)); replace HO_311003 := (rk89_ HI0 HO_311003 hk); replace BK309 := (bkA_ BK309 hk NB309_0); replace BK310 := (bkA_ BK310 hk NB310_0); replace HK := (kk_ HK hk); replace HB := Aside0.mk (hb); replace HI0 := Aside0.mk (hi); (try clear hb); (try clear hb2); (try clear hk); (try clear hi)))
          replace HO_311001 := Aside0.mk (Kd.R_drew HO_311001.out); replace HO_311002 := Aside0.mk (Kd.S_drew HO_311002.out); replace HO_311003 := Aside0.mk (Kd.R_drew HO_311003.out); replace BK309 := Aside0.mk (blk_drew BK309.out); replace BK310 := Aside0.mk (blk_drew BK310.out); replace HI0 := Aside0.mk (IsS89.drew HI0.out); replace HK := Aside0.mk (keep_drew HK.out); replace HB := (bd_ HB)
          refine start_ (n := 10) (S := fun w' => w'.cell? ⟨gb310, 0, none⟩ = some (.int .i64 x311000_1) ∧ w'.cell? ⟨gb310, 1, none⟩ = some (u311001) ∧ w'.cell? ⟨gb310, 2, none⟩ = some (u311002) ∧ w'.cell? ⟨gb310, 3, none⟩ = some (u311003)) (ds := [9]) #[false, false, false, false, false, false, false, false, false, false] (by kernel_rfl) rfl rfl (cz4 BK310.out) (fun hHeld => ?_); refine with_tabW spec_l20Asking.tab14 spec_l20Asking.bits14 (fun HT_ HW_ => ?_)
          generalize w110.drew = w111 at HO_311001 HO_311002 HO_311003 BK309 BK310 HI0 HK HB hHeld ⊢
          refine pu_ (i := 0) (N := some 47) HT_ ?_; refine pu_ (i := 2) (N := some 49) HT_ ?_; refine tk_ (i := 1) (N := some 48) HT_ HW_ hHeld ?_; refine tk_ (i := 3) (N := some 50) HT_ HW_ hHeld ?_
          refine on_ (i := 4) (N := some 51) HT_ (fun K hK => ?_)
          refine Kd.R_make_step (Kd.int .u8) _ 5 (by rfl) (N := 51) rfl 34 _ _ rfl 10 rfl rfl Try.underlying34 (.int .u8 0) 1 info5 rfl (by decide) (by omega) 0 (ok := fun _ => True) (okp := fun _ => True) rfl (fun _ hk => hk) trivial (by omega) (by omega) (Below.refl _ _) (Nat.le_refl _) ?_
          intro v371 w112 ho113 hb hg_ hnew_
          clear hg_ hnew_
          (first | rw [← Ny370.out] at ho113 | (simp only [Int.reduceToNat] at ho113; rw [← Ny370.out] at ho113))
          have n0_ := Aside0.mk (Kd.R_below (kR_ HO_311001.out) hb); have n1_ := Aside0.mk (Kd.S_elder' (kS_ HO_311002.out) (Kd.R_base ho113) hb); have n2_ := Aside0.mk (Kd.R_below (kR_ HO_311003.out) hb); have n3_ := Aside0.mk (Kd.R_lower ho113 (keep_size (w := w) (g := g) (row := none) (hkA_ HK.out))); have n4_ := (bbA_ BK309 hb); have n5_ := (bbA_ BK310 hb); have n6_ := (ib89_ HI0 hb); have n7_ := (kw_ HK hb); have n8_ := (bs89_ HB hb); clear HO_311001 HO_311002 HO_311003 BK309 BK310 HI0 HK HB; have HO_311001 := n0_; have HO_311002 := n1_; have HO_311003 := n2_; have HO372 := n3_; have BK309 := n4_; have BK310 := n5_; have HI0 := n6_; have HK := n7_; have HB := n8_; clear n0_ n1_ n2_ n3_ n4_ n5_ n6_ n7_ n8_ hb ho113
          obtain ⟨Ao114, co114, eo114⟩ := Kd.R_slice HO372.out
          (first | subst eo114 | (injection eo114 with f1_ f2_ f3_; have f4_ := f1_.symm; have f5_ := f3_.symm; clear f1_ f2_ f3_; subst f4_; subst f5_))
          refine hK.out _ _ (cz4 BK310.out) (fun hHeld => ?_)
          clear hK K; refine nm_ 51 ?_; refine pu_ (i := 5) (N := some 52) HT_ ?_
          refine on_ (i := 6) (N := some 53) HT_ (fun K hK => ?_)
          refine value_ (w1 := ?_) (v := ?_) (by rfl) rfl ?_ ?_
          rotate_left 2
          ·go_simp
           constructor
           ·rfl
           ·rfl
          refine hK.out _ _ ⟨(blk_cell (blk_alloc BK310.out _) 0).trans rfl, (blk_cell (blk_alloc BK310.out _) 1).trans rfl, (blk_cell (blk_alloc BK310.out _) 2).trans rfl, (blk_cell (blk_alloc BK310.out _) 3).trans rfl⟩ (fun hHeld => ?_)
          clear hK K; refine nm_ 53 ?_
          refine on_ (i := 7) (N := some 54) HT_ (fun K hK => ?_)
          refine Kd.S_append_step k41 w.heap.size (by rfl) (.tmp 48) (.tmp 53) 28 41 (.agg #[(.int .i64 0), (.slice none 0 0)]) 32 rfl Try.underlying28 info41 rfl (by decide) (by omega) u311002 x311002_1 (⟨x311000_1, y370⟩ : S41) [.int .i64 x311000_1, .slice Ao114 y370.length co114] (fun _ => True) (fun k_ => some k_ = (.slice Ao114 y370.length co114 : Value).ownBlock) rfl rfl ?aP (fun k_ hk_ => ((Kd.R_mono (ok' := fun k_ => ((fun _ => True)) k_ ∧ some k_ ≠ (u311002 : Value).ownBlock) (Kd.R_apart' (HO372.out) (Kd.S_typed HO_311002.out) (by decide)) (fun k_ hk => ⟨trivial, hk.2⟩))).1 k_ hk_.symm) ?aF ?aO (Below.refl _ _) ?aS ?aL ?_
          (case aP => exact k41_mkM _ _ _ (⟨x311000_1, y370⟩ : S41) (Kd.R_mono (Kd.R_tight rfl (Kd.R_mono (ok' := fun k_ => ((fun _ => True)) k_ ∧ some k_ ≠ (u311002 : Value).ownBlock) (Kd.R_apart' (HO372.out) (Kd.S_typed HO_311002.out) (by decide)) (fun k_ hk => ⟨trivial, hk.2⟩))) (fun _ h_ => h_)))
          (case aF => exact (fun _ _ => trivial))
          (case aO => exact (by refine kS_ ?_; exact Kd.S_mono HO_311002.out (fun k_ hk => ⟨trivial, fun e_ => hk.2 e_⟩)))
          (case aS => exact (keep_size (w := w) (g := g) (row := none) (hkA_ HK.out)))
          (case aL => have := LMc108.out; omega)
          intro v374 w115 ho hb hg hat
          rw [← Ny373.out] at ho
          have n0_ := Aside0.mk (Kd.R_over' (kR_ HO_311001.out) (Kd.S_typed (kS_ HO_311002.out)) (by decide) hg); have n1_ := Aside0.mk (Kd.R_over' (kR_ HO_311003.out) (Kd.S_typed (kS_ HO_311002.out)) (by decide) hg); have n2_ := (bgA_ BK309 hg (Kd.S_ne HO_311002.out BK309.out (by decide))); have n3_ := (bgA_ BK310 hg (Kd.S_ne HO_311002.out BK310.out (by decide))); have n4_ := Aside0.mk (IsS89.grown (is89_ HI0.out) hg (IsS89.own_neS HI0.out HO_311002.out (by decide))); have n5_ := Aside0.mk (below_weaken (hb89_ HB.out) HL.out hb); have n6_ := Aside0.mk (KeepBut.trans (hkA_ HK.out) (KeepBut.of_grown hg g) (Kd.S_base2 HO_311002.out)); have n7_ := Aside0.mk (ho); clear HO_311001 HO_311003 BK309 BK310 HI0 HB HK HO_311002 HO372; have HO_311001 := n0_; have HO_311003 := n1_; have BK309 := n2_; have BK310 := n3_; have HI0 := n4_; have HB := n5_; have HK := n6_; have HO375 := n7_; clear n0_ n1_ n2_ n3_ n4_ n5_ n6_ n7_ ho hb hg hat
          obtain ⟨Ao116, co116, eo116⟩ := Kd.S_slice HO375.out
          (first | subst eo116 | (injection eo116 with f1_ f2_ f3_; have f4_ := f1_.symm; have f5_ := f3_.symm; clear f1_ f2_ f3_; subst f4_; subst f5_))
          refine hK.out _ _ (cz4 BK310.out) (fun hHeld => ?_)
          clear hK K; refine nm_ 54 ?_; refine pu_ (i := 8) (N := some 55) HT_ ?_
          refine last_ (i := 9) (N := none) #[true, true, true, true, true, true, true, true, true, true] rfl rfl (one_of HT_.out (by kernel_rfl)) (by decide) (fun K hK => ?_)
          have hs117 : w115.cell? ⟨gb310, 2, none⟩ = some (u311002) := bc_ BK310 2
          have hfs117 := blk_frozen BK310.out 2
          have hns117_0 := NB309_310.out; have hms117_0 := NB310_309.out
          refine skip_ (w1 := ?_) (by rfl) rfl ?_ ?_
          rotate_left
          ·go_simp
           rfl
          refine hK.out _ _ ?_
          clear hK K
          refine done_ (done_of HT_.out (by kernel_rfl)) ?_
          have hnb118 := NB310_309.out; have hnc118 := NB309_310.out; have hnb119 := NB310_0.out; have hnc119 := NB0_310.out; have Z120 := zz4 BK310; have hnb121 := NB309_0.out; have hnc121 := NB0_309.out; have Z122 := zz4 BK309
          obtain ⟨Ao123, co123, eo123⟩ := Kd.R_slice HO_311001.out
          subst eo123
          obtain ⟨Ao124, co124, eo124⟩ := Kd.R_slice HO_311003.out
          subst eo124
          try go_wp2
          refine bodyPost_ret (results_cell_row rfl _ _ gb309 30 #[.int .i64 (wrap64 (x311000_1 + 1)), .slice Ao123 x311001_1.length co123, .slice Ao116 y373.length co116, .slice Ao124 x311003_1.length co124] (0, 0) _ rfl (by refine kb_ ?_; refine pz4 (cs := #[.int .i64 0, .slice none 0 0, .slice none 0 0, .slice none 0 0]) ?_; exact kf_ BK309.out) Try.underlying30 rfl (by kernel_rfl)) rfl ?_
          exact ⟨_, _, _, by first | rfl | (simp [errW_none, errW_some] <;> rfl) | (simp [*, errW_none, errW_some] <;> rfl), by refine kR_ ?_; exact rfm_ ((Kd.R_far (p := ⟨gb310, 0, none⟩) (Kd.R_far (p := ⟨gb310, 2, none⟩) (Kd.R_types (Kd.R_types HO_311001.out BK310.out (by decide)) BK309.out (by decide)) (fun _ hk => hk.1.2) (.slice Ao116 y373.length co116)) (fun _ hk => hk.1.2) (.int .i64 (wrap64 (x311000_1 + 1))))) (fun _ hk => hk.1.1), by refine kS_ ?_; exact Kd.S_mono (Kd.S_far (p := ⟨gb309, 3, none⟩) (Kd.S_far (p := ⟨gb309, 2, none⟩) (Kd.S_far (p := ⟨gb309, 1, none⟩) (Kd.S_far (p := ⟨gb309, 0, none⟩) (Kd.S_far (p := ⟨gb310, 0, none⟩) (Kd.S_far (p := ⟨gb310, 2, none⟩) (Kd.S_types (Kd.S_types HO375.out BK310.out (by decide)) BK309.out (by decide)) (fun _ hk => hk.1.2) (.slice Ao116 y373.length co116)) (fun _ hk => hk.1.2) (.int .i64 (wrap64 (x311000_1 + 1)))) (fun _ hk => hk.2) (.int .i64 (wrap64 (x311000_1 + 1)))) (fun _ hk => hk.2) (.slice Ao123 x311001_1.length co123)) (fun _ hk => hk.2) (.slice Ao116 y373.length co116)) (fun _ hk => hk.2) (.slice Ao124 x311003_1.length co124)) (fun _ hk => trivial), by refine kR_ ?_; exact rfm_ ((Kd.R_far (p := ⟨gb310, 0, none⟩) (Kd.R_far (p := ⟨gb310, 2, none⟩) (Kd.R_types (Kd.R_types HO_311003.out BK310.out (by decide)) BK309.out (by decide)) (fun _ hk => hk.1.2) (.slice Ao116 y373.length co116)) (fun _ hk => hk.1.2) (.int .i64 (wrap64 (x311000_1 + 1))))) (fun _ hk => hk.1.1), is89_ HI0.out, hb89_ HB.out, hkA_ HK.out⟩
         ·rw [if_neg c108] at H
          exact absurd H (by simp)
        ·rw [if_neg c107] at H
         exact absurd H (by simp)
    ·replace c69 := Bool.eq_false_iff.mpr c69
     subst c69
     rw [if_neg (show ¬ (false = true) by decide)] at H
     simp only [Option.some.injEq, Prod.mk.injEq] at H
     obtain ⟨rfl, rfl, rfl, rfl, rfl⟩ := H
     go_wp2_with (first | ((with_reducible refine gate_callee (f := 71) rfl ?_); refine goesL_ (some 44) rfl rfl Try.func71 (by kernel_rfl) rfl #[.pointer (some ⟨g, 0, none⟩), .int .i64 a1] rfl ar_ ?_; (with_reducible refine (spec_l20Rd_odd.calls k1 g s0_0 x1001_1 a1 false t364 w0 _ ?side1 ?side2 A68.out).mono ?_); (case side1 => exact is89_ HI0.out); (case side2 => exact hb89_ HB.out); rintro e w125 ⟨rfl, hi, hb, hk⟩; refine ⟨_, rfl, ?_⟩; replace HO_311001 := (rk89_ HI0 HO_311001 hk); replace HO_311002 := Aside0.mk (Kd.S_mono (Kd.S_keep (IsS89.apartS (show IsS89 w0 _ g s0_0 x1001_1 from is89_ HI0.out) (kS_ HO_311002.out) (by decide)) hk (fun _ h => h.2)) (fun _ h => h.1)); replace HO_311003 := (rk89_ HI0 HO_311003 hk); replace BK309 := (bkA_ BK309 hk NB309_0); replace BK310 := (bkA_ BK310 hk NB310_0); replace HK := (kk_ HK hk); replace HB := Aside0.mk (hb); replace HI0 := Aside0.mk (hi); (try clear hb); (try clear hb2); (try clear hk); (try clear hi); have hnb126 := NB310_309.out; have hnc126 := NB309_310.out; have hnb127 := NB310_0.out; have hnc127 := NB0_310.out; have Z128 := zz4 BK310; have hnb129 := NB309_0.out; have hnc129 := NB0_309.out; have Z130 := zz4 BK309; obtain ⟨Ao131, co131, eo131⟩ := Kd.R_slice HO_311001.out; subst eo131; obtain ⟨Ao132, co132, eo132⟩ := Kd.S_slice HO_311002.out; subst eo132; obtain ⟨Ao133, co133, eo133⟩ := Kd.R_slice HO_311003.out; subst eo133))
     refine bodyPost_ret (results_cell_row rfl _ _ gb309 30 #[.int .i64 x311000_1, .slice Ao131 x311001_1.length co131, .slice Ao132 x311002_1.length co132, .slice Ao133 x311003_1.length co133] (0, 0) _ rfl (by refine kb_ ?_; refine pz4 (cs := #[.int .i64 0, .slice none 0 0, .slice none 0 0, .slice none 0 0]) ?_; refine kb_ ?_; exact BK309.out) Try.underlying30 rfl (by kernel_rfl)) rfl ?_
     exact ⟨_, _, _, by first | rfl | (simp [errW_none, errW_some] <;> rfl) | (simp [*, errW_none, errW_some] <;> rfl), by refine kR_ ?_; exact rfm_ ((Kd.R_types HO_311001.out BK309.out (by decide))) (fun _ hk => hk.1), by refine kS_ ?_; exact Kd.S_mono (Kd.S_far (p := ⟨gb309, 3, none⟩) (Kd.S_far (p := ⟨gb309, 2, none⟩) (Kd.S_far (p := ⟨gb309, 1, none⟩) (Kd.S_far (p := ⟨gb309, 0, none⟩) (Kd.S_types HO_311002.out BK309.out (by decide)) (fun _ hk => hk.2) (.int .i64 x311000_1)) (fun _ hk => hk.2) (.slice Ao131 x311001_1.length co131)) (fun _ hk => hk.2) (.slice Ao132 x311002_1.length co132)) (fun _ hk => hk.2) (.slice Ao133 x311003_1.length co133)) (fun _ hk => trivial), by refine kR_ ?_; exact rfm_ ((Kd.R_types HO_311003.out BK309.out (by decide))) (fun _ hk => hk.1), is89_ HI0.out, hb89_ HB.out, hkA_ HK.out⟩
def spec_l20Open.f (l0 : List Int) : Option (List Int × Int) := if (l0.length : Int) > 2000 then (if 2000 ≤ (l0.length : Int) then (some (l0.take 2000, 0)) else (none)) else (some (l0, 0))
set_option maxHeartbeats 8000000 in
set_option maxRecDepth 100000 in
theorem spec_l20Open.calls (A0 : Option Addr) (c0 : Nat) (l0 : List Int) (r1 : List Int) (r2 : Int) (w0 w : World) (hB : Below w0.heap.size w0 w) (hr0 : Kd.C (Kd.int .u8) w0 A0 l0.length l0) (hc0 : l0.length ≤ c0) (h : spec_l20Open.f l0 = some (r1, r2)) :
  Calls Try.prog 53 #[.slice A0 l0.length c0] w fun e w' => ∃ g_ : Nat, e = .returned (.pointer (some ⟨g_, 0, none⟩)) ∧ IsS89 w0 w' g_ r1 r2 ∧ Below w0.heap.size w0 w' ∧ Below w.heap.size w w' := by
 have hu89 := Try.underlying89; have HR0 := Aside0.mk hr0; have HC0 := Aside0.mk hc0; clear hr0 hc0
 have HBW := Aside0.mk (Below.refl w.heap.size w)
 have HW0 := Aside0.mk hB.size; have HB := Aside0.mk hB; clear hB
 have H : (if (l0.length : Int) > 2000 then (if 2000 ≤ (l0.length : Int) then (some (l0.take 2000, 0)) else (none)) else (some (l0, 0))) = some (r1, r2) := h
 clear h
 by_cases c2 : (l0.length : Int) > 2000
 ·rw [if_pos c2] at H
  have c2b0 : decide (2000 < (l0.length : Int)) = true := decide_eq_true c2
  have c2b1 : decide (2000 < l0.length) = true := decide_eq_true (by omega)
  clear c2
  by_cases c3 : 2000 ≤ (l0.length : Int)
  ·rw [if_pos c3] at H
   have c3b0 := eq_true c3
   have c3b1 : decide (2000 ≤ (l0.length : Int)) = true := decide_eq_true c3
   clear c3
   simp only [Option.some.injEq, Prod.mk.injEq] at H
   obtain ⟨rfl, rfl⟩ := H
   obtain ⟨i04, hi04, _, hsz4, _⟩ := info_parts info5
   obtain ⟨hcut4, hA4, hC4⟩ := print_take_of (P := Try.prog) (Value.int .u8) 0 34 5 .i64 Try.underlying34 hi04 hsz4 A0 c0 l0 2000 (by omega) (of_decide_eq_true (by first | (with_reducible assumption) | assumption)) HC0.out
   have HR376 := Aside0.mk (Kd.C_of_reads (h1 := fun _ => rfl) (hA4 _ (Kd.reads_of_C HR0.out)))
   have HC376 := Aside0.mk hC4; clear hA4 hC4 hi04 hsz4
   go_enter Try.func53, Try.ntmps53
   go_wp2_with (first | ((with_reducible refine gate_dst (N := 10) rfl ?_); refine box_ (N := 10) (cs := #[.slice A0 (l0.take 2000).length c0, .int .i64 0]) (t := 89) (fun gb377 hg w5 hbox hb => ?_); replace HB := (bs_ HB hb); have BK377 := Aside0.mk (hbox); have GW377 := Aside0.mk ((by rw [hg]; exact (below_size (hb0_ HBW.out)) : w.heap.size ≤ gb377)); have GE377 := Aside0.mk ((Nat.le_trans HW0.out (by rw [hg]; exact (below_size (hb0_ HBW.out)) : w.heap.size ≤ gb377) : w0.heap.size ≤ gb377)); replace HBW := Aside0.mk (below_step HBW.out hb); clear hb hbox hg))
   go_ret
   exact ⟨_, rfl, (show IsS89 w0 _ gb377 (l0.take 2000) 0 from ⟨_, _, by refine kb_ ?_; exact BK377.out, GE377.out, HR376.out⟩), hbA_ HB.out, by repeat (first | (with_reducible first | exact HBW.out | apply below_alloc | apply pw_below_drewN | apply below_drew1 | refine below_set ?_ GW377.out) | exact HBW.out)⟩
  ·rw [if_neg c3] at H
   exact absurd H (by simp)
 ·rw [if_neg c2] at H
  have c2b0 : decide (2000 < (l0.length : Int)) = false := decide_eq_false c2
  have c2b1 : decide (2000 < l0.length) = false := decide_eq_false (by omega)
  clear c2
  simp only [Option.some.injEq, Prod.mk.injEq] at H
  obtain ⟨rfl, rfl⟩ := H
  go_enter Try.func53, Try.ntmps53
  go_wp2_with (first | ((with_reducible refine gate_dst (N := 10) rfl ?_); refine box_ (N := 10) (cs := #[.slice A0 l0.length c0, .int .i64 0]) (t := 89) (fun gb378 hg w6 hbox hb => ?_); replace HB := (bs_ HB hb); have BK378 := Aside0.mk (hbox); have GW378 := Aside0.mk ((by rw [hg]; exact (below_size (hb0_ HBW.out)) : w.heap.size ≤ gb378)); have GE378 := Aside0.mk ((Nat.le_trans HW0.out (by rw [hg]; exact (below_size (hb0_ HBW.out)) : w.heap.size ≤ gb378) : w0.heap.size ≤ gb378)); replace HBW := Aside0.mk (below_step HBW.out hb); clear hb hbox hg))
  go_ret
  exact ⟨_, rfl, (show IsS89 w0 _ gb378 l0 0 from ⟨_, _, by refine kb_ ?_; exact BK378.out, GE378.out, HR0.out⟩), hbA_ HB.out, by repeat (first | (with_reducible first | exact HBW.out | apply below_alloc | apply pw_below_drewN | apply below_drew1 | refine below_set ?_ GW378.out) | exact HBW.out)⟩
def spec_DrawClientOver.f (k : Nat) (l0 : List Int) : Option (Int × List Int × (List (S41)) × List Int) := (spec_l20Open.f l0).bind fun bt380 => ((spec_l20Asking.f k bt380.1 bt380.2 9).bind fun bt383 => (some (bt383.1, bt383.2.1, bt383.2.2.1, bt383.2.2.2.1)))
theorem spec_DrawClientOver.mono : ∀ a0 k, LeO (spec_DrawClientOver.f k a0) (spec_DrawClientOver.f (k + 1) a0) := by
 intro a0 k
 unfold spec_DrawClientOver.f
 repeat' first | (with_reducible first | apply spec_l20Asking.mono | exact LeO.refl _ | exact LeO.none _ | refine LeO.ite ?_ ?_ | refine LeO.bind ?_ fun _ => ?_) | apply spec_l20Asking.mono | exact LeO.none _ | refine LeO.ite ?_ ?_ | refine LeO.bind ?_ fun _ => ?_
set_option maxHeartbeats 8000000 in
set_option maxRecDepth 100000 in
theorem spec_DrawClientOver.calls (k : Nat) (A0 : Option Addr) (c0 : Nat) (l0 : List Int) (r1 : Int) (r2 : List Int) (r3 : List (S41)) (r4 : List Int) (w : World) (hr0 : Kd.C (Kd.int .u8) w A0 l0.length l0) (hc0 : l0.length ≤ c0) (h : spec_DrawClientOver.f k l0 = some (r1, r2, r3, r4)) :
  Calls Try.prog 16 #[.slice A0 l0.length c0] w fun e w' => ∃ v1_ v2_ v3_ : Value, e = .returned (.agg #[.int .i64 r1, v1_, v2_, v3_]) ∧ Kd.R (Kd.int .i64) 3 w' w.heap.size (fun k_ => some k_ ≠ (v3_ : Value).ownBlock) v1_ r2 ∧ Kd.S k41 41 w' w.heap.size (fun _ => True) v2_ r3 ∧ Kd.R (Kd.int .i64) 3 w' w.heap.size (fun k_ => some k_ ≠ (v1_ : Value).ownBlock) v3_ r4 ∧ Below w.heap.size w w' := by
 have hu30 := Try.underlying30; have HR0 := Aside0.mk hr0; have HC0 := Aside0.mk hc0; clear hr0 hc0
 have HB := Aside0.mk (Below.refl w.heap.size w)
 have H : ((spec_l20Open.f l0).bind fun bt380 => ((spec_l20Asking.f k bt380.1 bt380.2 9).bind fun bt383 => (some (bt383.1, bt383.2.1, bt383.2.2.1, bt383.2.2.2.1)))) = some (r1, r2, r3, r4) := h
 clear h
 replace H := Option.bind_eq_some_iff.mp H
 obtain ⟨⟨t380, t381⟩, A20, H⟩ := H
 (try dsimp only at H)
 have A2 := Aside0.mk A20; clear A20
 replace H := Option.bind_eq_some_iff.mp H
 obtain ⟨⟨t383, t384, t387, t390, t393⟩, A30, H⟩ := H
 (try dsimp only at H)
 have A3 := Aside0.mk A30; clear A30
 simp only [Option.some.injEq, Prod.mk.injEq] at H
 obtain ⟨rfl, rfl, rfl, rfl⟩ := H
 go_enter Try.func16, Try.ntmps16
 go_wp2_with (first | ((with_reducible refine gate_dst (N := 2) rfl ?_); refine box_ (N := 2) (cs := #[.int .i64 0, .slice none 0 0, .slice none 0 0, .slice none 0 0]) (t := 30) (fun gb379 hg w4 hbox hb => ?_); have BK379 := Aside0.mk (hbox); have GW379 := ge_ hg HB; have GE379 := ge_ hg HB; replace HB := (bs_ HB hb); clear hb hbox hg) | ((with_reducible refine gate_callee (f := 53) rfl ?_); refine goesL_ (some 4) rfl rfl Try.func53 (by kernel_rfl) rfl #[.slice A0 l0.length c0] rfl ar_ ?_; (with_reducible refine (spec_l20Open.calls _ _ l0 t380 t381 w _ ?side1 ?side2 ?side3 A2.out).mono ?_); (case side1 => exact hbA_ HB.out); (case side2 => exact HR0.out); (case side3 => exact HC0.out); rintro e w5 ⟨g382, rfl, hi, hb, hb2⟩; refine ⟨_, rfl, ?_⟩; replace HB := Aside0.mk (hb); have HI382 := Aside0.mk (hi); have NB382_379 := Aside0.mk (IsS89.ne_blk hi (bb_ BK379 hb2) (by decide)); have NB379_382 := Aside0.mk (Ne.symm (IsS89.ne_blk hi (bb_ BK379 hb2) (by decide))); replace BK379 := (bbA_ BK379 hb2); (try clear hb); (try clear hb2); (try clear hk); (try clear hi)) | ((with_reducible refine gate_callee (f := 52) rfl ?_); refine goesL_ (some 5) rfl rfl Try.func52 (by kernel_rfl) rfl #[.pointer (some ⟨g382, 0, none⟩), .int .i64 9] rfl ar_ ?_; (with_reducible refine (spec_l20Asking.calls k g382 t380 t381 9 t383 t384 t387 t390 t393 w _ ?side1 ?side2 A3.out).mono ?_); (case side1 => exact is89_ HI382.out); (case side2 => exact hb89_ HB.out); rintro e w6 ⟨v385, v388, v391, rfl, ho0, ho1, ho2, hi, hb, hk⟩; refine ⟨_, rfl, ?_⟩; replace BK379 := (bkA_ BK379 hk NB379_382); have HO386 := Aside0.mk (Kd.R_lower ho0 (below_size (hb89_ HB.out))); have HO389 := Aside0.mk (Kd.S_lower ho1 (below_size (hb89_ HB.out))); have HO392 := Aside0.mk (Kd.R_lower ho2 (below_size (hb89_ HB.out))); replace HB := Aside0.mk (hb); replace HI382 := Aside0.mk (hi); (try clear hb); (try clear hb2); (try clear hk); (try clear hi); (try clear ho0); (try clear ho1); (try clear ho2); have hnb7 := NB379_382.out; have hnc7 := NB382_379.out; have Z8 := zz4 BK379; obtain ⟨Ao9, co9, eo9⟩ := Kd.R_slice HO386.out; subst eo9; obtain ⟨Ao10, co10, eo10⟩ := Kd.S_slice HO389.out; subst eo10; obtain ⟨Ao11, co11, eo11⟩ := Kd.R_slice HO392.out; subst eo11))
 refine bodyPost_ret (results_cell_row rfl _ _ gb379 30 #[.int .i64 t383, .slice Ao9 t384.length co9, .slice Ao10 t387.length co10, .slice Ao11 t390.length co11] (0, 0) _ rfl (by refine kb_ ?_; refine pz4 (cs := #[.int .i64 0, .slice none 0 0, .slice none 0 0, .slice none 0 0]) ?_; refine kb_ ?_; exact BK379.out) Try.underlying30 rfl (by kernel_rfl)) rfl ?_
 exact ⟨_, _, _, by first | rfl | (simp [errW_none, errW_some] <;> rfl) | (simp [*, errW_none, errW_some] <;> rfl), by refine kR_ ?_; exact rfm_ ((Kd.R_types HO386.out BK379.out (by decide))) (fun _ hk => hk.1), by refine kS_ ?_; exact Kd.S_mono (Kd.S_far (p := ⟨gb379, 3, none⟩) (Kd.S_far (p := ⟨gb379, 2, none⟩) (Kd.S_far (p := ⟨gb379, 1, none⟩) (Kd.S_far (p := ⟨gb379, 0, none⟩) (Kd.S_types HO389.out BK379.out (by decide)) (fun _ hk => hk.2) (.int .i64 t383)) (fun _ hk => hk.2) (.slice Ao9 t384.length co9)) (fun _ hk => hk.2) (.slice Ao10 t387.length co10)) (fun _ hk => hk.2) (.slice Ao11 t390.length co11)) (fun _ hk => trivial), by refine kR_ ?_; exact rfm_ ((Kd.R_types HO392.out BK379.out (by decide))) (fun _ hk => hk.1), hb89_ HB.out⟩
theorem impl_Words.calls (A0 : Option Addr) (c0 n0 : Nat) (w : World) (hc : n0 ≤ c0) : Calls Try.prog 65 #[.slice A0 n0 c0] w fun e w' => e = .returned (.slice A0 n0 n0) ∧ w' = w := by
  go_enter Try.func65, Try.ntmps65
  go_wp2
  go_ret
  exact ⟨rfl, rfl⟩
theorem slices_Clip_byte_byte.calls (A0 : Option Addr) (c0 n0 : Nat) (w : World) (hc : n0 ≤ c0) : Calls Try.prog 75 #[.slice A0 n0 c0] w fun e w' => e = .returned (.slice A0 n0 n0) ∧ w' = w := by
  go_enter Try.func75, Try.ntmps75
  go_wp2
  go_ret
  exact ⟨rfl, rfl⟩
def impl_clone_byte.f (l0 : List Int) : Option (List Int) := if l0.length * 1 ≤ 140737488355328 then some l0 else none
theorem impl_clone_byte.calls (A0 : Option Addr) (c0 : Nat) (l0 : List Int) (r : List Int) (w : World) (hr0 : Kd.C (Kd.int .u8) w A0 l0.length l0) (hc0 : l0.length ≤ c0) (h : impl_clone_byte.f l0 = some r) :
    Calls Try.prog 66 #[.slice A0 l0.length c0] w fun e w' => ∃ v0_ : Value, e = .returned (v0_) ∧ Kd.R (Kd.int .u8) 5 w' w.heap.size (fun _ => True) v0_ r ∧ Below w.heap.size w w' := by
  obtain ⟨hle, rfl⟩ : l0.length * 1 ≤ 140737488355328 ∧ l0 = r := by
    unfold impl_clone_byte.f at h; split at h
    · exact ⟨by assumption, Option.some.inj h⟩
    · cases h
  have hm := hr0.2.1
  have HR := Aside0.mk hr0; clear hr0 h
  by_cases h0 : l0.length = 0
  · have hb : ((l0.length : Int) == 0) = true := by simp [h0]
    have HL : Aside0 (l0 = []) := ⟨List.eq_nil_of_length_eq_zero h0⟩
    clear h0
    go_enter Try.func66, Try.ntmps66
    go_wp2
    go_ret
    refine ⟨_, rfl, ?_, Below.refl _ _⟩
    rw [HL.out]; exact Kd.R_nil _ _ _ _ _
  · have hb : ((l0.length : Int) == 0) = false := by simp; intro hh; exact h0 (by simp [hh])
    clear h0
    go_enter Try.func66, Try.ntmps66
    go_wp2_with (first
      | ((with_reducible refine gate_dst (N := 7) rfl ?_); refine Kd.R_append_rows (Kd.int .u8) (Rr := (Kd.int .u8).K w) w.heap.size rfl _ _ 34 5 (.int .u8 0) 1 rfl Try.underlying34 info5 rfl (by decide) (by decide) (.slice none 0 0) [] l0 A0 l0.length c0 (fun _ => True) (fun _ => True) rfl rfl (Kd.R_nil _ _ _ _ _) HR.out (fun x cs h => h) (fun k _ => ⟨trivial, by simp [Value.ownBlock]⟩) (fun _ _ => trivial) (Below.refl _ _) (Nat.le_refl _) (by simpa using hle) ?_; intro v1 w1 ho hb1 hg hat; rw [List.nil_append] at ho; obtain ⟨A1, c1, hv1, hc1, _⟩ := Kd.R_reads ho; have HO := Aside0.mk ho; clear ho hat hg; have HB := Aside0.mk hb1; clear hb1; subst hv1)
      | (go_at_call 75; (with_reducible refine (slices_Clip_byte_byte.calls _ _ _ _ hc1).mono ?_); rintro e w' ⟨rfl, rfl⟩))
    go_ret
    exact ⟨_, rfl, Kd.R_clip HO.out (Nat.le_refl _) hc1, HB.out⟩
theorem slices_Clip_int_int.calls (A0 : Option Addr) (c0 n0 : Nat) (w : World) (hc : n0 ≤ c0) : Calls Try.prog 76 #[.slice A0 n0 c0] w fun e w' => e = .returned (.slice A0 n0 n0) ∧ w' = w := by
  go_enter Try.func76, Try.ntmps76
  go_wp2
  go_ret
  exact ⟨rfl, rfl⟩
def impl_clone_int.f (l0 : List Int) : Option (List Int) := if l0.length * 8 ≤ 140737488355328 then some l0 else none
theorem impl_clone_int.calls (A0 : Option Addr) (c0 : Nat) (l0 : List Int) (r : List Int) (w : World) (hr0 : Kd.C (Kd.int .i64) w A0 l0.length l0) (hc0 : l0.length ≤ c0) (h : impl_clone_int.f l0 = some r) :
    Calls Try.prog 72 #[.slice A0 l0.length c0] w fun e w' => ∃ v0_ : Value, e = .returned (v0_) ∧ Kd.R (Kd.int .i64) 3 w' w.heap.size (fun _ => True) v0_ r ∧ Below w.heap.size w w' := by
  obtain ⟨hle, rfl⟩ : l0.length * 8 ≤ 140737488355328 ∧ l0 = r := by
    unfold impl_clone_int.f at h; split at h
    · exact ⟨by assumption, Option.some.inj h⟩
    · cases h
  have hm := hr0.2.1
  have HR := Aside0.mk hr0; clear hr0 h
  by_cases h0 : l0.length = 0
  · have hb : ((l0.length : Int) == 0) = true := by simp [h0]
    have HL : Aside0 (l0 = []) := ⟨List.eq_nil_of_length_eq_zero h0⟩
    clear h0
    go_enter Try.func72, Try.ntmps72
    go_wp2
    go_ret
    refine ⟨_, rfl, ?_, Below.refl _ _⟩
    rw [HL.out]; exact Kd.R_nil _ _ _ _ _
  · have hb : ((l0.length : Int) == 0) = false := by simp; intro hh; exact h0 (by simp [hh])
    clear h0
    go_enter Try.func72, Try.ntmps72
    go_wp2_with (first
      | ((with_reducible refine gate_dst (N := 7) rfl ?_); refine Kd.R_append_rows (Kd.int .i64) (Rr := (Kd.int .i64).K w) w.heap.size rfl _ _ 22 3 (.int .i64 0) 8 rfl Try.underlying22 info3 rfl (by decide) (by decide) (.slice none 0 0) [] l0 A0 l0.length c0 (fun _ => True) (fun _ => True) rfl rfl (Kd.R_nil _ _ _ _ _) HR.out (fun x cs h => h) (fun k _ => ⟨trivial, by simp [Value.ownBlock]⟩) (fun _ _ => trivial) (Below.refl _ _) (Nat.le_refl _) (by simpa using hle) ?_; intro v1 w1 ho hb1 hg hat; rw [List.nil_append] at ho; obtain ⟨A1, c1, hv1, hc1, _⟩ := Kd.R_reads ho; have HO := Aside0.mk ho; clear ho hat hg; have HB := Aside0.mk hb1; clear hb1; subst hv1)
      | (go_at_call 76; (with_reducible refine (slices_Clip_int_int.calls _ _ _ _ hc1).mono ?_); rintro e w' ⟨rfl, rfl⟩))
    go_ret
    exact ⟨_, rfl, Kd.R_clip HO.out (Nat.le_refl _) hc1, HB.out⟩
end Go.Proofs.Ytegchbdjbefdbaa.PFnClientOver
