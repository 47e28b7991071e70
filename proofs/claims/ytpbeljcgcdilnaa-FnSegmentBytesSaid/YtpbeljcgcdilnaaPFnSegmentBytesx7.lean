/- Printed by wip/xp/xprint.sh out of the translation, for this claim: what each function answers, as a plain function, and that the machine does just that. No condition. -/
import Derived.Test.YtpbeljcgcdilnaaPFnSegmentBytesx0
import Derived.Test.YtpbeljcgcdilnaaPFnSegmentBytesx6
namespace Go.Proofs.Ytpbeljcgcdilnaa.PFnSegmentBytes
open Go.RowKit Go.Proofs.YtpbeljcgcdilnaaW.PrintWords Go.Proofs.YtpbeljcgcdilnaaW.PrintLast Go.Proofs.YtpbeljcgcdilnaaW.PrintMore
attribute [local go_sem] max2_int min2_int max_two min_two max_three min_three max_four min_four   -- for this text's walks alone
set_option linter.unusedVariables false
set_option linter.unusedSimpArgs false
mutual
def spec_l20Segment.j1 : Nat → Int → List Int → Int → Int → Int → Int → Int → Int → Bool → Bool → Bool → Bool → List (S90) → List Int → Option (Int × Int × Int × Int × Int × Bool × Bool × Bool × Bool × (List (S90)) × List Int × Int)
 | 0, _, _, _, _, _, _, _, _, _, _, _, _, _, _ => none
 | k + 1, x1, x1000, x1001, x335000, x335001, x335002, x335003, x335004, x335005, x335006, x335007, x335008, x335009, x335010 => (spec_l20Rd_pick.f k x1000 x1001 8).bind fun bt350 => (if bt350.1 = 0 then (spec_l20Segment.j2 k x1 x1000 bt350.2 x335000 x335001 x335002 x335003 x335004 false x335006 false true x335009 ([] : List Int)) else (spec_l20Segment.j2 k x1 x1000 bt350.2 x335000 x335001 x335002 x335003 x335004 x335005 x335006 x335007 x335008 x335009 x335010))
def spec_l20Segment.j2 : Nat → Int → List Int → Int → Int → Int → Int → Int → Int → Bool → Bool → Bool → Bool → List (S90) → List Int → Option (Int × Int × Int × Int × Int × Bool × Bool × Bool × Bool × (List (S90)) × List Int × Int)
 | 0, _, _, _, _, _, _, _, _, _, _, _, _, _, _ => none
 | k + 1, x1, x1000, x1001, x335000, x335001, x335002, x335003, x335004, x335005, x335006, x335007, x335008, x335009, x335010 => (spec_l20Rd_odd.f k x1000 x1001 x1).bind fun bt352 => (if bt352.1 = true then ((spec_l20Rd_pick.f k x1000 bt352.2 4).bind fun bt354 => (if bt354.1 = 0 then ((spec_l20Rd_pick.f k x1000 bt354.2 2).bind fun bt356 => (some (wrap64 (bt356.1 * 256), x335001, x335002, x335003, x335004, x335005, x335006, x335007, x335008, x335009, x335010, bt356.2))) else (if bt354.1 = 1 then ((spec_l20Rd_pick.f k x1000 bt354.2 2).bind fun bt358 => (some (x335000, x335001, wrap64 (65536 - (wrap64 (bt358.1 * 65540))), x335003, x335004, x335005, x335006, x335007, x335008, x335009, x335010, bt358.2))) else (if bt354.1 = 2 then (some (x335000, x335001, x335002, 4, x335004, x335005, !x335006, x335007, x335008, x335009, x335010, bt354.2)) else ((spec_l20Rd_pick.f k x1000 bt354.2 14).bind fun bt360 => (if 0 ≤ bt360.1 then (if (bt360.1 : Int).toNat ≤ 281474976710656 then (some (x335000, x335001, x335002, x335003, x335004, x335005, x335006, x335007, true, x335009, (List.replicate (bt360.1 : Int).toNat 0), bt360.2)) else (none)) else (none))))))) else (some (x335000, x335001, x335002, x335003, x335004, x335005, x335006, x335007, x335008, x335009, x335010, bt352.2)))
def spec_l20Segment.l0 : Nat → Int → Int → List Int → Int → Int → Int → Int → Int → Int → Bool → Bool → Bool → Bool → List (S90) → List Int → Option (Int × Int × Int × Int × Int × Bool × Bool × Bool × Bool × (List (S90)) × List Int × Int)
 | 0, _, _, _, _, _, _, _, _, _, _, _, _, _, _, _ => none
 | k + 1, x1, x6, x1000, x1001, x335000, x335001, x335002, x335003, x335004, x335005, x335006, x335007, x335008, x335009, x335010 => if x6 > 0 then ((spec_l20Rd_seq.f k x1000 x1001).bind fun bt343 => ((spec_l20Rd_seq.f k x1000 bt343.2).bind fun bt345 => (if x335009.length < 8796093022208 then (spec_l20Segment.l0 k x1 (wrap64 (x6 - 1)) x1000 bt345.2 x335000 x335001 x335002 x335003 x335004 x335005 x335006 x335007 x335008 (x335009 ++ [(⟨bt343.1, bt345.1⟩ : S90)]) x335010) else (none)))) else (spec_l20Segment.j1 k x1 x1000 x1001 x335000 x335001 x335002 x335003 x335004 x335005 x335006 x335007 x335008 x335009 x335010)
end
def spec_l20Segment.f (k : Nat) (s0_0 : List Int) (s0_1 : Int) (a1 : Int) : Option (Int × Int × Int × Int × Int × Bool × Bool × Bool × Bool × (List (S90)) × List Int × Int) := (spec_l20Rd_pick.f k s0_0 s0_1 3).bind fun bt318 => ((spec_l20Rd_pick.f k s0_0 bt318.2 3).bind fun bt320 => ((spec_l20Rd_seq.f k s0_0 bt320.2).bind fun bt322 => ((spec_l20Rd_pick.f k s0_0 bt322.2 5).bind fun bt324 => ((spec_l20Rd_bytes.f k s0_0 bt324.2 bt324.1).bind fun bt326 => ((spec_l20Rd_pick.f k s0_0 bt326.2 4).bind fun bt330 => ((spec_l20Rd_pick.f k s0_0 bt330.2 4).bind fun bt332 => ((spec_l20Rd_pick.f k s0_0 bt332.2 4).bind fun bt335 => (if bt335.1 > 0 then ((spec_l20Rd_seq.f k s0_0 bt335.2).bind fun bt337 => ((spec_l20Rd_pick.f k s0_0 bt337.2 40).bind fun bt339 => ((spec_l20Rd_pick.f k s0_0 bt339.2 3).bind fun bt341 => (spec_l20Segment.l0 k a1 bt341.1 s0_0 bt341.2 (wrap64 (1 + bt318.1)) (wrap64 (1 + bt320.1)) bt322.1 bt337.1 bt339.1 (bt330.1 == 0) true (bt332.1 == 0) false ([] : List (S90)) bt326.1)))) else (spec_l20Segment.j1 k a1 s0_0 bt335.2 (wrap64 (1 + bt318.1)) (wrap64 (1 + bt320.1)) bt322.1 0 0 (bt330.1 == 0) false (bt332.1 == 0) false ([] : List (S90)) bt326.1)))))))))
theorem spec_l20Segment.mono_l : ∀ k, (∀ y0 y1 y2 y3 y4 y5 y6 y7 y8 y9 y10 y11 y12 y13, LeO (spec_l20Segment.j1 k y0 y1 y2 y3 y4 y5 y6 y7 y8 y9 y10 y11 y12 y13) (spec_l20Segment.j1 (k + 1) y0 y1 y2 y3 y4 y5 y6 y7 y8 y9 y10 y11 y12 y13)) ∧ (∀ y0 y1 y2 y3 y4 y5 y6 y7 y8 y9 y10 y11 y12 y13, LeO (spec_l20Segment.j2 k y0 y1 y2 y3 y4 y5 y6 y7 y8 y9 y10 y11 y12 y13) (spec_l20Segment.j2 (k + 1) y0 y1 y2 y3 y4 y5 y6 y7 y8 y9 y10 y11 y12 y13)) ∧ (∀ y0 y1 y2 y3 y4 y5 y6 y7 y8 y9 y10 y11 y12 y13 y14, LeO (spec_l20Segment.l0 k y0 y1 y2 y3 y4 y5 y6 y7 y8 y9 y10 y11 y12 y13 y14) (spec_l20Segment.l0 (k + 1) y0 y1 y2 y3 y4 y5 y6 y7 y8 y9 y10 y11 y12 y13 y14))
 | 0 => ⟨fun _ _ _ _ _ _ _ _ _ _ _ _ _ _ r h => by simp [spec_l20Segment.j1] at h, fun _ _ _ _ _ _ _ _ _ _ _ _ _ _ r h => by simp [spec_l20Segment.j2] at h, fun _ _ _ _ _ _ _ _ _ _ _ _ _ _ _ r h => by simp [spec_l20Segment.l0] at h⟩
 | k + 1 => by
  obtain ⟨ih0, ih1, ih2⟩ := spec_l20Segment.mono_l k
  refine ⟨?_, ?_, ?_⟩
  ·intro y0 y1 y2 y3 y4 y5 y6 y7 y8 y9 y10 y11 y12 y13
   unfold spec_l20Segment.j1
   repeat' first | (with_reducible first | apply ih0 | apply ih1 | apply ih2 | apply spec_l20Rd_bytes.mono | apply spec_l20Rd_odd.mono | apply spec_l20Rd_pick.mono | apply spec_l20Rd_seq.mono | exact LeO.refl _ | exact LeO.none _ | refine LeO.ite ?_ ?_ | refine LeO.bind ?_ fun _ => ?_) | apply ih0 | apply ih1 | apply ih2 | apply spec_l20Rd_bytes.mono | apply spec_l20Rd_odd.mono | apply spec_l20Rd_pick.mono | apply spec_l20Rd_seq.mono | exact LeO.none _ | refine LeO.ite ?_ ?_ | refine LeO.bind ?_ fun _ => ?_
  ·intro y0 y1 y2 y3 y4 y5 y6 y7 y8 y9 y10 y11 y12 y13
   unfold spec_l20Segment.j2
   repeat' first | (with_reducible first | apply ih0 | apply ih1 | apply ih2 | apply spec_l20Rd_bytes.mono | apply spec_l20Rd_odd.mono | apply spec_l20Rd_pick.mono | apply spec_l20Rd_seq.mono | exact LeO.refl _ | exact LeO.none _ | refine LeO.ite ?_ ?_ | refine LeO.bind ?_ fun _ => ?_) | apply ih0 | apply ih1 | apply ih2 | apply spec_l20Rd_bytes.mono | apply spec_l20Rd_odd.mono | apply spec_l20Rd_pick.mono | apply spec_l20Rd_seq.mono | exact LeO.none _ | refine LeO.ite ?_ ?_ | refine LeO.bind ?_ fun _ => ?_
  ·intro y0 y1 y2 y3 y4 y5 y6 y7 y8 y9 y10 y11 y12 y13 y14
   unfold spec_l20Segment.l0
   repeat' first | (with_reducible first | apply ih0 | apply ih1 | apply ih2 | apply spec_l20Rd_bytes.mono | apply spec_l20Rd_odd.mono | apply spec_l20Rd_pick.mono | apply spec_l20Rd_seq.mono | exact LeO.refl _ | exact LeO.none _ | refine LeO.ite ?_ ?_ | refine LeO.bind ?_ fun _ => ?_) | apply ih0 | apply ih1 | apply ih2 | apply spec_l20Rd_bytes.mono | apply spec_l20Rd_odd.mono | apply spec_l20Rd_pick.mono | apply spec_l20Rd_seq.mono | exact LeO.none _ | refine LeO.ite ?_ ?_ | refine LeO.bind ?_ fun _ => ?_
theorem spec_l20Segment.mono : ∀ a0 a1 a2 k, LeO (spec_l20Segment.f k a0 a1 a2) (spec_l20Segment.f (k + 1) a0 a1 a2) := by
 intro a0 a1 a2 k
 obtain ⟨ih0, ih1, ih2⟩ := spec_l20Segment.mono_l k
 unfold spec_l20Segment.f
 repeat' first | (with_reducible first | apply ih0 | apply ih1 | apply ih2 | apply spec_l20Rd_bytes.mono | apply spec_l20Rd_odd.mono | apply spec_l20Rd_pick.mono | apply spec_l20Rd_seq.mono | exact LeO.refl _ | exact LeO.none _ | refine LeO.ite ?_ ?_ | refine LeO.bind ?_ fun _ => ?_) | apply ih0 | apply ih1 | apply ih2 | apply spec_l20Rd_bytes.mono | apply spec_l20Rd_odd.mono | apply spec_l20Rd_pick.mono | apply spec_l20Rd_seq.mono | exact LeO.none _ | refine LeO.ite ?_ ?_ | refine LeO.bind ?_ fun _ => ?_
def spec_l20Segment.T9 : Bool × List (List Nat × List Nat) := (true, [([], []), ([0], [0]), ([], []), ([2], [2]), ([], []), ([4, 3], [4]), ([3, 5], [3, 5]), ([6], [6]), ([1, 7, 5], [1, 7]), ([0, 1, 2, 3, 4, 5, 6, 7, 8], []), ([9, 8, 8, 0, 1, 2, 3, 4, 5, 6, 7, 8], [8, 9])])
def spec_l20Segment.B9 : List Nat := [0, 1, 0, 4, 0, 28, 60, 124, 255, 511, 1023]
theorem spec_l20Segment.tab9 : rtab .any (opsOf Try.f67 9) = spec_l20Segment.T9 := by kernel_rfl
theorem spec_l20Segment.bits9 : waitsOk spec_l20Segment.T9.2 spec_l20Segment.B9 = true := by kernel_rfl
set_option maxHeartbeats 8000000 in
set_option maxRecDepth 100000 in
theorem spec_l20Segment.calls (k : Nat) (g : Nat) (s0_0 : List Int) (s0_1 : Int) (a1 : Int) (r1 : Int) (r2 : Int) (r3 : Int) (r4 : Int) (r5 : Int) (r6 : Bool) (r7 : Bool) (r8 : Bool) (r9 : Bool) (r10 : List (S90)) (r11 : List Int) (r12 : Int) (w0 w : World) (hI : IsS102 w0 w g s0_0 s0_1) (hB : Below w0.heap.size w0 w) (h : spec_l20Segment.f k s0_0 s0_1 a1 = some (r1, r2, r3, r4, r5, r6, r7, r8, r9, r10, r11, r12)) :
  Calls Try.prog 67 #[.pointer (some ⟨g, 0, none⟩), .int .i64 a1] w fun e w' => ∃ v9_ v10_ : Value, e = .returned (.agg #[.int .i64 r1, .int .i64 r2, .int .i64 r3, .int .i64 r4, .int .i64 r5, .bool r6, .bool r7, .bool r8, .bool r9, v9_, v10_]) ∧ Kd.R k90 90 w' w.heap.size (fun _ => True) v9_ r10 ∧ Kd.R (Kd.int .u8) 5 w' w.heap.size (fun _ => True) v10_ r11 ∧ IsS102 w0 w' g s0_0 r12 ∧ Below w0.heap.size w0 w' ∧ KeepBut w w' g none := by
 have hu52 := Try.underlying52; have hu90 := Try.underlying90; have HI0 := Aside0.mk hI
 have HK := Aside0.mk (KeepBut.refl w g none)
 have HL := Aside0.mk hB.size; clear hI; have HW0 := Aside0.mk hB.size; have HB := Aside0.mk hB; clear hB
 have H : ((spec_l20Rd_pick.f k s0_0 s0_1 3).bind fun bt318 => ((spec_l20Rd_pick.f k s0_0 bt318.2 3).bind fun bt320 => ((spec_l20Rd_seq.f k s0_0 bt320.2).bind fun bt322 => ((spec_l20Rd_pick.f k s0_0 bt322.2 5).bind fun bt324 => ((spec_l20Rd_bytes.f k s0_0 bt324.2 bt324.1).bind fun bt326 => ((spec_l20Rd_pick.f k s0_0 bt326.2 4).bind fun bt330 => ((spec_l20Rd_pick.f k s0_0 bt330.2 4).bind fun bt332 => ((spec_l20Rd_pick.f k s0_0 bt332.2 4).bind fun bt335 => (if bt335.1 > 0 then ((spec_l20Rd_seq.f k s0_0 bt335.2).bind fun bt337 => ((spec_l20Rd_pick.f k s0_0 bt337.2 40).bind fun bt339 => ((spec_l20Rd_pick.f k s0_0 bt339.2 3).bind fun bt341 => (spec_l20Segment.l0 k a1 bt341.1 s0_0 bt341.2 (wrap64 (1 + bt318.1)) (wrap64 (1 + bt320.1)) bt322.1 bt337.1 bt339.1 (bt330.1 == 0) true (bt332.1 == 0) false ([] : List (S90)) bt326.1)))) else (spec_l20Segment.j1 k a1 s0_0 bt335.2 (wrap64 (1 + bt318.1)) (wrap64 (1 + bt320.1)) bt322.1 0 0 (bt330.1 == 0) false (bt332.1 == 0) false ([] : List (S90)) bt326.1)))))))))) = some (r1, r2, r3, r4, r5, r6, r7, r8, r9, r10, r11, r12) := h
 clear h
 replace H := Option.bind_eq_some_iff.mp H
 obtain ⟨⟨t318, t319⟩, A30, H⟩ := H
 (try dsimp only at H)
 have A3 := Aside0.mk A30; clear A30
 replace H := Option.bind_eq_some_iff.mp H
 obtain ⟨⟨t320, t321⟩, A40, H⟩ := H
 (try dsimp only at H)
 have A4 := Aside0.mk A40; clear A40
 replace H := Option.bind_eq_some_iff.mp H
 obtain ⟨⟨t322, t323⟩, A50, H⟩ := H
 (try dsimp only at H)
 have A5 := Aside0.mk A50; clear A50
 replace H := Option.bind_eq_some_iff.mp H
 obtain ⟨⟨t324, t325⟩, A60, H⟩ := H
 (try dsimp only at H)
 have A6 := Aside0.mk A60; clear A60
 replace H := Option.bind_eq_some_iff.mp H
 obtain ⟨⟨t326, t329⟩, A70, H⟩ := H
 (try dsimp only at H)
 have A7 := Aside0.mk A70; clear A70
 replace H := Option.bind_eq_some_iff.mp H
 obtain ⟨⟨t330, t331⟩, A80, H⟩ := H
 (try dsimp only at H)
 have A8 := Aside0.mk A80; clear A80
 replace H := Option.bind_eq_some_iff.mp H
 obtain ⟨⟨t332, t333⟩, A90, H⟩ := H
 (try dsimp only at H)
 have A9 := Aside0.mk A90; clear A90
 replace H := Option.bind_eq_some_iff.mp H
 obtain ⟨⟨t335, t336⟩, A100, H⟩ := H
 (try dsimp only at H)
 have A10 := Aside0.mk A100; clear A100; have HC11 := Aside0.mk H; clear H
 go_enter Try.func67, Try.ntmps67
 go_upto_if 28 with (first | ((with_reducible refine gate_dst (N := 4) rfl ?_); refine box_ (N := 4) (cs := #[.int .i64 0, .int .i64 0, .int .i64 0, .int .i64 0, .int .i64 0, .bool false, .bool false, .bool false, .bool false, .slice none 0 0, .slice none 0 0]) (t := 52) (fun gb317 hg w12 hbox hb => ?_); replace HB := (bs102_ HB hb); have BK317 := Aside0.mk (hbox); have GW317 := gk_ hg HK; have GE317 := Aside0.mk ((Nat.le_trans HW0.out (by rw [hg]; exact (keep_size (w := w) (g := g) (row := none) (hkA_ HK.out)) : w.heap.size ≤ gb317) : w0.heap.size ≤ gb317)); replace HK := (kw_ HK hb); have NB0_317 := nl102_ hg HI0; have NB317_0 := ng102_ hg HI0; replace HI0 := (ib102_ HI0 hb); clear hb hbox hg) | ((with_reducible refine gate_callee (f := 40) rfl ?_); refine goesL_ (some 8) rfl rfl Try.func40 (by kernel_rfl) rfl #[.pointer (some ⟨g, 0, none⟩), .int .i64 3] rfl ar_ ?_; (with_reducible refine (spec_l20Rd_pick.calls k g s0_0 s0_1 3 t318 t319 w0 _ ?side1 ?side2 A3.out).mono ?_); (case side1 => exact is102_ HI0.out); (case side2 => exact hb102_ HB.out); rintro e w13 ⟨rfl, hi, hb, hk⟩; refine ⟨_, rfl, ?_⟩; replace BK317 := (bkA_ BK317 hk NB317_0); replace HK := (kk_ HK hk); replace HB := Aside0.mk (hb); replace HI0 := Aside0.mk (hi); (try clear hb); (try clear hb2); (try clear hk); (try clear hi)) | ((with_reducible refine gate_callee (f := 40) rfl ?_); refine goesL_ (some 11) rfl rfl Try.func40 (by kernel_rfl) rfl #[.pointer (some ⟨g, 0, none⟩), .int .i64 3] rfl ar_ ?_; (with_reducible refine (spec_l20Rd_pick.calls k g s0_0 t319 3 t320 t321 w0 _ ?side1 ?side2 A4.out).mono ?_); (case side1 => exact is102_ HI0.out); (case side2 => exact hb102_ HB.out); rintro e w14 ⟨rfl, hi, hb, hk⟩; refine ⟨_, rfl, ?_⟩; replace BK317 := (bkA_ BK317 hk NB317_0); replace HK := (kk_ HK hk); replace HB := Aside0.mk (hb); replace HI0 := Aside0.mk (hi); (try clear hb); (try clear hb2); (try clear hk); (try clear hi)) | ((with_reducible refine gate_callee (f := 95) rfl ?_); refine goesL_ (some 14) rfl rfl Try.func95 (by kernel_rfl) rfl #[.pointer (some ⟨g, 0, none⟩)] rfl ar_ ?_; (with_reducible refine (spec_l20Rd_seq.calls k g s0_0 t321 t322 t323 w0 _ ?side1 ?side2 A5.out).mono ?_); (case side1 => exact is102_ HI0.out); (case side2 => exact hb102_ HB.out); rintro e w15 ⟨rfl, hi, hb, hk⟩; refine ⟨_, rfl, ?_⟩; replace BK317 := (bkA_ BK317 hk NB317_0); replace HK := (kk_ HK hk); replace HB := Aside0.mk (hb); replace HI0 := Aside0.mk (hi); (try clear hb); (try clear hb2); (try clear hk); (try clear hi)) | ((with_reducible refine gate_callee (f := 40) rfl ?_); refine goesL_ (some 17) rfl rfl Try.func40 (by kernel_rfl) rfl #[.pointer (some ⟨g, 0, none⟩), .int .i64 5] rfl ar_ ?_; (with_reducible refine (spec_l20Rd_pick.calls k g s0_0 t323 5 t324 t325 w0 _ ?side1 ?side2 A6.out).mono ?_); (case side1 => exact is102_ HI0.out); (case side2 => exact hb102_ HB.out); rintro e w16 ⟨rfl, hi, hb, hk⟩; refine ⟨_, rfl, ?_⟩; replace BK317 := (bkA_ BK317 hk NB317_0); replace HK := (kk_ HK hk); replace HB := Aside0.mk (hb); replace HI0 := Aside0.mk (hi); (try clear hb); (try clear hb2); (try clear hk); (try clear hi)) | ((with_reducible refine gate_callee (f := 79) rfl ?_); refine goesL_ (some 18) rfl rfl Try.func79 (by kernel_rfl) rfl #[.pointer (some ⟨g, 0, none⟩), .int .i64 t324] rfl ar_ ?_; (with_reducible refine (spec_l20Rd_bytes.calls k g s0_0 t325 t324 t326 t329 w0 _ ?side1 ?side2 A7.out).mono ?_); (case side1 => exact is102_ HI0.out); (case side2 => exact hb102_ HB.out); rintro e w17 ⟨v327, rfl, ho0, hi, hb, hk⟩; refine ⟨_, rfl, ?_⟩; replace BK317 := (bkA_ BK317 hk NB317_0); have HO328 := Aside0.mk (Kd.R_lower ho0 (keep_size (w := w) (g := g) (row := none) (hkA_ HK.out))); replace HK := (kk_ HK hk); replace HB := Aside0.mk (hb); replace HI0 := Aside0.mk (hi); (try clear hb); (try clear hb2); (try clear hk); (try clear hi); (try clear ho0)) | ((with_reducible refine gate_callee (f := 40) rfl ?_); refine goesL_ (some 20) rfl rfl Try.func40 (by kernel_rfl) rfl #[.pointer (some ⟨g, 0, none⟩), .int .i64 4] rfl ar_ ?_; (with_reducible refine (spec_l20Rd_pick.calls k g s0_0 t329 4 t330 t331 w0 _ ?side1 ?side2 A8.out).mono ?_); (case side1 => exact is102_ HI0.out); (case side2 => exact hb102_ HB.out); rintro e w18 ⟨rfl, hi, hb, hk⟩; refine ⟨_, rfl, ?_⟩; replace BK317 := (bkA_ BK317 hk NB317_0); replace HO328 := (rk102_ HI0 HO328 hk); replace HK := (kk_ HK hk); replace HB := Aside0.mk (hb); replace HI0 := Aside0.mk (hi); (try clear hb); (try clear hb2); (try clear hk); (try clear hi)) | ((with_reducible refine gate_callee (f := 40) rfl ?_); refine goesL_ (some 23) rfl rfl Try.func40 (by kernel_rfl) rfl #[.pointer (some ⟨g, 0, none⟩), .int .i64 4] rfl ar_ ?_; (with_reducible refine (spec_l20Rd_pick.calls k g s0_0 t331 4 t332 t333 w0 _ ?side1 ?side2 A9.out).mono ?_); (case side1 => exact is102_ HI0.out); (case side2 => exact hb102_ HB.out); rintro e w19 ⟨rfl, hi, hb, hk⟩; refine ⟨_, rfl, ?_⟩; replace BK317 := (bkA_ BK317 hk NB317_0); replace HO328 := (rk102_ HI0 HO328 hk); replace HK := (kk_ HK hk); replace HB := Aside0.mk (hb); replace HI0 := Aside0.mk (hi); (try clear hb); (try clear hb2); (try clear hk); (try clear hi); obtain ⟨Ao20, co20, eo20⟩ := Kd.R_slice HO328.out; subst eo20) | ((with_reducible refine gate_dst (N := 5) rfl ?_); refine box_ (N := 5) (cs := #[.int .i64 0, .int .i64 0, .int .i64 0, .int .i64 0, .int .i64 0, .bool false, .bool false, .bool false, .bool false, .slice none 0 0, .slice none 0 0]) (t := 52) (fun gb334 hg w21 hbox hb => ?_); replace HO328 := Aside0.mk (Kd.R_below (kR_ HO328.out) hb); replace HB := (bs102_ HB hb); have BK334 := Aside0.mk (hbox); have GW334 := gk_ hg HK; have GE334 := Aside0.mk ((Nat.le_trans HW0.out (by rw [hg]; exact (keep_size (w := w) (g := g) (row := none) (hkA_ HK.out)) : w.heap.size ≤ gb334) : w0.heap.size ≤ gb334)); replace HK := (kw_ HK hb); have NB317_334 := nl_ hg BK317; have NB334_317 := ng_ hg BK317; replace BK317 := (bbA_ BK317 hb); have NB0_334 := nl102_ hg HI0; have NB334_0 := ng102_ hg HI0; replace HI0 := (ib102_ HI0 hb); clear hb hbox hg; have hnb22 := NB334_317.out; have hnc22 := NB317_334.out; have hnb23 := NB334_0.out; have hnc23 := NB0_334.out; have Z24 := zz11 BK334) | ((with_reducible refine gate_callee (f := 40) rfl ?_); refine goesL_ (some 27) rfl rfl Try.func40 (by kernel_rfl) rfl #[.pointer (some ⟨g, 0, none⟩), .int .i64 4] rfl ar_ ?_; (with_reducible refine (spec_l20Rd_pick.calls k g s0_0 t333 4 t335 t336 w0 _ ?side1 ?side2 A10.out).mono ?_); (case side1 => exact is102_ HI0.out); (case side2 => exact hb102_ HB.out); rintro e w25 ⟨rfl, hi, hb, hk⟩; refine ⟨_, rfl, ?_⟩; replace BK317 := Aside0.mk (KeepBut.blk hk (g' := gb317) (o := .cells #[.int .i64 0, .int .i64 0, .int .i64 0, .int .i64 0, .int .i64 0, .bool false, .bool false, .bool false, .bool false, .slice none 0 0, .slice none 0 0] 52 (0, 0)) (by exact kf_ BK317.out) NB317_0.out (by simp)); replace HO328 := Aside0.mk (Kd.R_mono (Kd.R_keep (IsS102.apart (show IsS102 w0 _ g s0_0 t333 from is102_ HI0.out) (by refine kR_ ?_; exact (rfm_ ((Kd.R_types HO328.out BK334.out (by decide))) (fun _ h_ => op1_ h_))) (by decide)) hk (fun _ h => h.2)) (fun _ h => h.1)); replace BK334 := Aside0.mk (KeepBut.blk hk (g' := gb334) (o := .cells #[.int .i64 (wrap64 (1 + t318)), .int .i64 (wrap64 (1 + t320)), .int .i64 t322, .int .i64 0, .int .i64 0, .bool (t330 == 0), .bool false, .bool (t332 == 0), .bool false, .slice none 0 0, .slice Ao20 t326.length co20] 52 (0, 0)) (by refine kb_ ?_; refine pz11 (cs := #[.int .i64 0, .int .i64 0, .int .i64 0, .int .i64 0, .int .i64 0, .bool false, .bool false, .bool false, .bool false, .slice none 0 0, .slice none 0 0]) ?_; refine kb_ ?_; exact BK334.out) NB334_0.out (by simp)); replace HK := (kk_ HK hk); replace HB := Aside0.mk (hb); replace HI0 := Aside0.mk (hi); (try clear hb); (try clear hb2); (try clear hk); (try clear hi)))
 (try simp only [Act.put, List.setIfInBounds_toArray, List.set_cons_zero, List.set_cons_succ])
 go_cut [] (fun wc => ∃ (kq : Nat) (x1001_10 : Int) (x335003_10 : Int) (x335004_10 : Int) (x335006_10 : Bool) (x335009_10 : List (S90)) (u335009 : Value), Aside0 (spec_l20Segment.j1 kq a1 s0_0 x1001_10 (wrap64 (1 + t318)) (wrap64 (1 + t320)) t322 x335003_10 x335004_10 (t330 == 0) x335006_10 (t332 == 0) false x335009_10 t326 = some (r1, r2, r3, r4, r5, r6, r7, r8, r9, r10, r11, r12)) ∧ Aside0 (kq ≤ k) ∧ Aside0 (Kd.R k90 90 wc w.heap.size (fun _ => True) u335009 x335009_10) ∧ Aside0 (Kd.R (Kd.int .u8) 5 wc w.heap.size (fun _ => True) (.slice Ao20 t326.length co20) t326) ∧ Aside0 (wc.heap[gb317]? = some (.cells #[.int .i64 0, .int .i64 0, .int .i64 0, .int .i64 0, .int .i64 0, .bool false, .bool false, .bool false, .bool false, (.slice none 0 0), (.slice none 0 0)] 52 (0, 0))) ∧ Aside0 (wc.heap[gb334]? = some (.cells #[.int .i64 (wrap64 (1 + t318)), .int .i64 (wrap64 (1 + t320)), .int .i64 t322, .int .i64 x335003_10, .int .i64 x335004_10, .bool (t330 == 0), .bool x335006_10, .bool (t332 == 0), .bool false, u335009, (.slice Ao20 t326.length co20)] 52 (0, 0))) ∧ Aside0 (IsS102 w0 wc g s0_0 x1001_10) ∧ Aside0 (KeepBut w wc g none) ∧ Aside0 (Below w0.heap.size w0 wc))
 case first =>
  have H := HC11.out; clear HC11
  by_cases c26 : t335 > 0
  ·rw [if_pos c26] at H
   have c26b0 : decide (0 < t335) = true := decide_eq_true c26
   clear c26
   (first | rw [c26b0] | (simp only [i64_w, i32_w]; rw [c26b0]) | skip)
   replace H := Option.bind_eq_some_iff.mp H
   obtain ⟨⟨t337, t338⟩, A270, H⟩ := H
   (try dsimp only at H)
   have A27 := Aside0.mk A270; clear A270
   replace H := Option.bind_eq_some_iff.mp H
   obtain ⟨⟨t339, t340⟩, A280, H⟩ := H
   (try dsimp only at H)
   have A28 := Aside0.mk A280; clear A280
   replace H := Option.bind_eq_some_iff.mp H
   obtain ⟨⟨t341, t342⟩, A290, H⟩ := H
   (try dsimp only at H)
   have A29 := Aside0.mk A290; clear A290
   have H' := Aside0.mk H
   clear H; have hnb30 := NB334_317.out; have hnc30 := NB317_334.out; have hnb31 := NB334_0.out; have hnc31 := NB0_334.out; have Z32 := zz11 BK334
   go_wp2_with (first | ((with_reducible refine gate_callee (f := 95) rfl ?_); refine goesL_ (some 31) rfl rfl Try.func95 (by kernel_rfl) rfl #[.pointer (some ⟨g, 0, none⟩)] rfl ar_ ?_; (with_reducible refine (spec_l20Rd_seq.calls k g s0_0 t336 t337 t338 w0 _ ?side1 ?side2 A27.out).mono ?_); (case side1 => exact is102_ HI0.out); (case side2 => exact hb102_ HB.out); rintro e w33 ⟨rfl, hi, hb, hk⟩; refine ⟨_, rfl, ?_⟩; replace BK317 := Aside0.mk (KeepBut.blk hk (g' := gb317) (o := .cells #[.int .i64 0, .int .i64 0, .int .i64 0, .int .i64 0, .int .i64 0, .bool false, .bool false, .bool false, .bool false, .slice none 0 0, .slice none 0 0] 52 (0, 0)) (by exact kf_ BK317.out) NB317_0.out (by simp)); replace HO328 := Aside0.mk (Kd.R_mono (Kd.R_keep (IsS102.apart (show IsS102 w0 _ g s0_0 t336 from is102_ HI0.out) (by refine kR_ ?_; exact (Kd.R_mono (Kd.R_f gb334 6 (.bool true) (Kd.R_types HO328.out BK334.out (by decide))) (fun _ h_ => op1_ h_))) (by decide)) hk (fun _ h => h.2)) (fun _ h => h.1)); replace BK334 := Aside0.mk (KeepBut.blk hk (g' := gb334) (o := .cells #[.int .i64 (wrap64 (1 + t318)), .int .i64 (wrap64 (1 + t320)), .int .i64 t322, .int .i64 0, .int .i64 0, .bool (t330 == 0), .bool true, .bool (t332 == 0), .bool false, .slice none 0 0, .slice Ao20 t326.length co20] 52 (0, 0)) (by refine kb_ ?_; refine blk_put (cs := #[.int .i64 (wrap64 (1 + t318)), .int .i64 (wrap64 (1 + t320)), .int .i64 t322, .int .i64 0, .int .i64 0, .bool (t330 == 0), .bool false, .bool (t332 == 0), .bool false, .slice none 0 0, .slice Ao20 t326.length co20]) ?_ 6 _ rfl; refine kb_ ?_; exact BK334.out) NB334_0.out (by simp)); replace HK := (kk_ HK hk); replace HB := Aside0.mk (hb); replace HI0 := Aside0.mk (hi); (try clear hb); (try clear hb2); (try clear hk); (try clear hi); have Z34 := zz11 BK334) | ((with_reducible refine gate_callee (f := 40) rfl ?_); refine goesL_ (some 34) rfl rfl Try.func40 (by kernel_rfl) rfl #[.pointer (some ⟨g, 0, none⟩), .int .i64 40] rfl ar_ ?_; (with_reducible refine (spec_l20Rd_pick.calls k g s0_0 t338 40 t339 t340 w0 _ ?side1 ?side2 A28.out).mono ?_); (case side1 => exact is102_ HI0.out); (case side2 => exact hb102_ HB.out); rintro e w35 ⟨rfl, hi, hb, hk⟩; refine ⟨_, rfl, ?_⟩; replace BK317 := Aside0.mk (KeepBut.blk hk (g' := gb317) (o := .cells #[.int .i64 0, .int .i64 0, .int .i64 0, .int .i64 0, .int .i64 0, .bool false, .bool false, .bool false, .bool false, .slice none 0 0, .slice none 0 0] 52 (0, 0)) (by exact kf_ BK317.out) NB317_0.out (by simp)); replace HO328 := Aside0.mk (Kd.R_mono (Kd.R_keep (IsS102.apart (show IsS102 w0 _ g s0_0 t338 from is102_ HI0.out) (by refine kR_ ?_; exact (Kd.R_mono (Kd.R_f gb334 3 (.int .i64 t337) (Kd.R_types HO328.out BK334.out (by decide))) (fun _ h_ => op1_ h_))) (by decide)) hk (fun _ h => h.2)) (fun _ h => h.1)); replace BK334 := Aside0.mk (KeepBut.blk hk (g' := gb334) (o := .cells #[.int .i64 (wrap64 (1 + t318)), .int .i64 (wrap64 (1 + t320)), .int .i64 t322, .int .i64 t337, .int .i64 0, .bool (t330 == 0), .bool true, .bool (t332 == 0), .bool false, .slice none 0 0, .slice Ao20 t326.length co20] 52 (0, 0)) (by refine kb_ ?_; refine blk_put (cs := #[.int .i64 (wrap64 (1 + t318)), .int .i64 (wrap64 (1 + t320)), .int .i64 t322, .int .i64 0, .int .i64 0, .bool (t330 == 0), .bool true, .bool (t332 == 0), .bool false, .slice none 0 0, .slice Ao20 t326.length co20]) ?_ 3 _ rfl; refine kb_ ?_; exact BK334.out) NB334_0.out (by simp)); replace HK := (kk_ HK hk); replace HB := Aside0.mk (hb); replace HI0 := Aside0.mk (hi); (try clear hb); (try clear hb2); (try clear hk); (try clear hi); have Z36 := zz11 BK334) | ((with_reducible refine gate_callee (f := 40) rfl ?_); refine goesL_ (some 37) rfl rfl Try.func40 (by kernel_rfl) rfl #[.pointer (some ⟨g, 0, none⟩), .int .i64 3] rfl ar_ ?_; (with_reducible refine (spec_l20Rd_pick.calls k g s0_0 t340 3 t341 t342 w0 _ ?side1 ?side2 A29.out).mono ?_); (case side1 => exact is102_ HI0.out); (case side2 => exact hb102_ HB.out); rintro e w37 ⟨rfl, hi, hb, hk⟩; refine ⟨_, rfl, ?_⟩; replace BK317 := Aside0.mk (KeepBut.blk hk (g' := gb317) (o := .cells #[.int .i64 0, .int .i64 0, .int .i64 0, .int .i64 0, .int .i64 0, .bool false, .bool false, .bool false, .bool false, .slice none 0 0, .slice none 0 0] 52 (0, 0)) (by exact kf_ BK317.out) NB317_0.out (by simp)); replace HO328 := Aside0.mk (Kd.R_mono (Kd.R_keep (IsS102.apart (show IsS102 w0 _ g s0_0 t340 from is102_ HI0.out) (by refine kR_ ?_; exact (Kd.R_mono (Kd.R_f gb334 4 (.int .i64 t339) (Kd.R_types HO328.out BK334.out (by decide))) (fun _ h_ => op1_ h_))) (by decide)) hk (fun _ h => h.2)) (fun _ h => h.1)); replace BK334 := Aside0.mk (KeepBut.blk hk (g' := gb334) (o := .cells #[.int .i64 (wrap64 (1 + t318)), .int .i64 (wrap64 (1 + t320)), .int .i64 t322, .int .i64 t337, .int .i64 t339, .bool (t330 == 0), .bool true, .bool (t332 == 0), .bool false, .slice none 0 0, .slice Ao20 t326.length co20] 52 (0, 0)) (by refine kb_ ?_; refine blk_put (cs := #[.int .i64 (wrap64 (1 + t318)), .int .i64 (wrap64 (1 + t320)), .int .i64 t322, .int .i64 t337, .int .i64 0, .bool (t330 == 0), .bool true, .bool (t332 == 0), .bool false, .slice none 0 0, .slice Ao20 t326.length co20]) ?_ 4 _ rfl; refine kb_ ?_; exact BK334.out) NB334_0.out (by simp)); replace HK := (kk_ HK hk); replace HB := Aside0.mk (hb); replace HI0 := Aside0.mk (hi); (try clear hb); (try clear hb2); (try clear hk); (try clear hi)))
   go_loopg [6] k (fun kq v6 w' => ∃ (x6_1 : Int) (x1001_1 : Int) (x335009_1 : List (S90)) (u335009 : Value), v6 = .int .i64 x6_1 ∧ Aside0 (spec_l20Segment.l0 kq a1 x6_1 s0_0 x1001_1 (wrap64 (1 + t318)) (wrap64 (1 + t320)) t322 t337 t339 (t330 == 0) true (t332 == 0) false x335009_1 t326 = some (r1, r2, r3, r4, r5, r6, r7, r8, r9, r10, r11, r12)) ∧ Aside0 (kq ≤ k) ∧ Aside0 (Kd.R k90 90 w' w.heap.size (fun _ => True) u335009 x335009_1) ∧ Aside0 (Kd.R (Kd.int .u8) 5 w' w.heap.size (fun _ => True) (.slice Ao20 t326.length co20) t326) ∧ Aside0 (w'.heap[gb317]? = some (.cells #[.int .i64 0, .int .i64 0, .int .i64 0, .int .i64 0, .int .i64 0, .bool false, .bool false, .bool false, .bool false, (.slice none 0 0), (.slice none 0 0)] 52 (0, 0))) ∧ Aside0 (w'.heap[gb334]? = some (.cells #[.int .i64 (wrap64 (1 + t318)), .int .i64 (wrap64 (1 + t320)), .int .i64 t322, .int .i64 t337, .int .i64 t339, .bool (t330 == 0), .bool true, .bool (t332 == 0), .bool false, u335009, (.slice Ao20 t326.length co20)] 52 (0, 0))) ∧ Aside0 (IsS102 w0 w' g s0_0 x1001_1) ∧ Aside0 (KeepBut w w' g none) ∧ Aside0 (Below w0.heap.size w0 w'))
   case atStart => exact ⟨(t341), (t342), (([] : List (S90))), (.slice none 0 0), (by first | rfl | (simp; done) | (simp [*]; done)), H', ⟨Nat.le_refl _⟩, ⟨by first | exact Kd.R_nil _ _ _ _ _ | exact Kd.N_nil _ _ _ _ _ | exact Kd.V_nil _ _ _ _ _ | exact Kd.Q_nil _ _ _ _ _ | exact Kd.S_nil _ _ _ _ _⟩, ⟨kR_ HO328.out⟩, ⟨by refine kb_ ?_; exact BK317.out⟩, ⟨by refine kb_ ?_; exact BK334.out⟩, ⟨is102_ HI0.out⟩, ⟨hkA_ HK.out⟩, ⟨hb102_ HB.out⟩⟩
   case round =>
    clear H'; (try clear c2); (try clear p2); (try clear c3); (try clear c4); (try clear c6); (try clear p6); (try clear c7); (try clear c9); (try clear c22); (try clear c23); (try clear c26); (try clear c26b0); (try clear c30); (try clear c31); (try clear Z24); (try clear Z32); (try clear Z34); (try clear Z36)
    obtain ⟨x6_1, x1001_1, x335009_1, u335009, rfl, HA, HK1, HO_335009, HO_335010, BK317, BK334, HI0, HK, HB⟩ := hrel
    cases gk with
    | zero => exact absurd HA.out (by simp [spec_l20Segment.l0])
    | succ k1 =>
     have H := HA.out; clear HA
     simp only [spec_l20Segment.l0] at H
     by_cases c38 : x6_1 > 0
     ·rw [if_pos c38] at H
      have c38b0 : decide (0 < x6_1) = true := decide_eq_true c38
      clear c38
      replace H := Option.bind_eq_some_iff.mp H
      obtain ⟨⟨t343, t344⟩, A390, H⟩ := H
      (try dsimp only at H)
      have A39 := Aside0.mk A390; clear A390
      replace H := Option.bind_eq_some_iff.mp H
      obtain ⟨⟨t345, t346⟩, A400, H⟩ := H
      (try dsimp only at H)
      have A40 := Aside0.mk A400; clear A400
      by_cases c41 : x335009_1.length < 8796093022208
      ·rw [if_pos c41] at H
       have LMc41 := Aside0.mk c41; clear c41
       obtain ⟨y347, hy347⟩ : ∃ y_ : List (S90), y_ = (x335009_1 ++ [(⟨t343, t345⟩ : S90)]) := ⟨_, rfl⟩
       (first | replace H := sb_ hy347 H | rw [← hy347] at H)
       have Ny347 := Aside0.mk hy347; clear hy347
       have H' := Aside0.mk H
       clear H
       try go_wp2
       replace HO_335009 := Aside0.mk (Kd.R_drew HO_335009.out); replace HO_335010 := Aside0.mk (Kd.R_drew HO_335010.out); replace BK317 := Aside0.mk (blk_drew BK317.out); replace BK334 := Aside0.mk (blk_drew BK334.out); replace HI0 := Aside0.mk (IsS102.drew HI0.out); replace HK := Aside0.mk (keep_drew HK.out); replace HB := (bd_ HB)
       refine start_ (n := 11) (S := fun w' => w'.cell? ⟨gb334, 0, none⟩ = some (.int .i64 (wrap64 (1 + t318))) ∧ w'.cell? ⟨gb334, 1, none⟩ = some (.int .i64 (wrap64 (1 + t320))) ∧ w'.cell? ⟨gb334, 2, none⟩ = some (.int .i64 t322) ∧ w'.cell? ⟨gb334, 3, none⟩ = some (.int .i64 t337) ∧ w'.cell? ⟨gb334, 4, none⟩ = some (.int .i64 t339) ∧ w'.cell? ⟨gb334, 5, none⟩ = some (.bool (t330 == 0)) ∧ w'.cell? ⟨gb334, 6, none⟩ = some (.bool true) ∧ w'.cell? ⟨gb334, 7, none⟩ = some (.bool (t332 == 0)) ∧ w'.cell? ⟨gb334, 8, none⟩ = some (.bool false) ∧ w'.cell? ⟨gb334, 9, none⟩ = some (u335009) ∧ w'.cell? ⟨gb334, 10, none⟩ = some (.slice Ao20 t326.length co20)) (ds := [10]) #[false, false, false, false, false, false, false, false, false, false, false] (by kernel_rfl) rfl rfl (cz11 BK334.out) (fun hHeld => ?_); refine with_tabW spec_l20Segment.tab9 spec_l20Segment.bits9 (fun HT_ HW_ => ?_)
       generalize wr.drew = w42 at HO_335009 HO_335010 BK317 BK334 HI0 HK HB hHeld ⊢
       refine pu_ (i := 0) (N := some 42) HT_ ?_; refine pu_ (i := 2) (N := some 44) HT_ ?_; refine pu_ (i := 4) (N := some 46) HT_ ?_; refine tk_ (i := 1) (N := some 43) HT_ HW_ hHeld ?_
       refine on_ (i := 3) (N := some 45) HT_ (fun K hK => ?_)
       refine goes_ Try.func95 (by kernel_rfl) rfl #[.pointer (some ⟨g, 0, none⟩)] (by rfl) rfl rfl ar_ ?_
       with_reducible refine (spec_l20Rd_seq.calls k1 g s0_0 x1001_1 t343 t344 w0 _ ?side1 ?side2 A39.out).mono ?_
       (case side1 => exact is102_ HI0.out)
       (case side2 => exact hb102_ HB.out)
       rintro e w43 ⟨rfl, hi, hb, hk⟩
       refine ⟨_, rfl, ?_⟩
       replace HO_335009 := (rk102_ HI0 HO_335009 hk); replace HO_335010 := (rk102_ HI0 HO_335010 hk); replace BK317 := (bkA_ BK317 hk NB317_0); replace BK334 := (bkA_ BK334 hk NB334_0); replace HK := (kk_ HK hk); replace HB := Aside0.mk (hb); replace HI0 := Aside0.mk (hi); (try clear hb); (try clear hb2); (try clear hk); (try clear hi)
       refine hK.out _ _ (cz11 BK334.out) (fun hHeld => ?_)
       clear hK K; refine nm_ 45 ?_
       refine on_ (i := 5) (N := some 47) HT_ (fun K hK => ?_)
       refine goes_ Try.func95 (by kernel_rfl) rfl #[.pointer (some ⟨g, 0, none⟩)] (by rfl) rfl rfl ar_ ?_
       with_reducible refine (spec_l20Rd_seq.calls k1 g s0_0 t344 t345 t346 w0 _ ?side1 ?side2 A40.out).mono ?_
       (case side1 => exact is102_ HI0.out)
       (case side2 => exact hb102_ HB.out)
       rintro e w44 ⟨rfl, hi, hb, hk⟩
       refine ⟨_, rfl, ?_⟩
       replace HO_335009 := (rk102_ HI0 HO_335009 hk); replace HO_335010 := (rk102_ HI0 HO_335010 hk); replace BK317 := (bkA_ BK317 hk NB317_0); replace BK334 := (bkA_ BK334 hk NB334_0); replace HK := (kk_ HK hk); replace HB := Aside0.mk (hb); replace HI0 := Aside0.mk (hi); (try clear hb); (try clear hb2); (try clear hk); (try clear hi)
       refine hK.out _ _ (cz11 BK334.out) (fun hHeld => ?_)
       clear hK K; refine nm_ 47 ?_; refine pu_ (i := 6) (N := some 48) HT_ ?_
       refine on_ (i := 7) (N := some 49) HT_ (fun K hK => ?_)
       refine value_ (w1 := ?_) (v := ?_) (by rfl) rfl ?_ ?_
       rotate_left 2
       ·go_simp
        constructor
        ·rfl
        ·rfl
       refine hK.out _ _ ⟨(blk_cell (blk_alloc BK334.out _) 0).trans rfl, (blk_cell (blk_alloc BK334.out _) 1).trans rfl, (blk_cell (blk_alloc BK334.out _) 2).trans rfl, (blk_cell (blk_alloc BK334.out _) 3).trans rfl, (blk_cell (blk_alloc BK334.out _) 4).trans rfl, (blk_cell (blk_alloc BK334.out _) 5).trans rfl, (blk_cell (blk_alloc BK334.out _) 6).trans rfl, (blk_cell (blk_alloc BK334.out _) 7).trans rfl, (blk_cell (blk_alloc BK334.out _) 8).trans rfl, (blk_cell (blk_alloc BK334.out _) 9).trans rfl, (blk_cell (blk_alloc BK334.out _) 10).trans rfl⟩ (fun hHeld => ?_)
       clear hK K; refine nm_ 49 ?_
       refine on_ (i := 8) (N := some 50) HT_ (fun K hK => ?_)
       refine Kd.R_append_step k90 w.heap.size (by rfl) (.tmp 43) (.tmp 49) 50 90 (.agg #[(.int .i64 0), (.int .i64 0)]) 16 rfl Try.underlying50 info90 rfl (by decide) (by omega) u335009 x335009_1 (⟨t343, t345⟩ : S90) [.int .i64 t343, .int .i64 t345] (fun _ => True) (fun _ => False) rfl rfl ?aP (fun _ hk => hk.elim) ?aF ?aO (Below.refl _ _) ?aS ?aL ?_
       (case aP => exact k90_mkM _ _ _ (⟨t343, t345⟩ : S90))
       (case aF => exact (fun _ _ => trivial))
       (case aO => exact (kR_ HO_335009.out))
       (case aS => exact (keep_size (w := w) (g := g) (row := none) (hkA_ HK.out)))
       (case aL => have := LMc41.out; omega)
       intro v348 w45 ho hb hg hat
       rw [← Ny347.out] at ho
       have n0_ := Aside0.mk (Kd.R_over' (kR_ HO_335010.out) (Kd.R_typed (kR_ HO_335009.out)) (by decide) hg); have n1_ := (bgA_ BK317 hg (Kd.R_ne HO_335009.out BK317.out (by decide))); have n2_ := (bgA_ BK334 hg (Kd.R_ne HO_335009.out BK334.out (by decide))); have n3_ := Aside0.mk (IsS102.grown (is102_ HI0.out) hg (IsS102.own_ne HI0.out HO_335009.out (by decide))); have n4_ := Aside0.mk (below_weaken (hb102_ HB.out) HL.out hb); have n5_ := Aside0.mk (KeepBut.trans (hkA_ HK.out) (KeepBut.of_grown hg g) (Kd.R_base2 HO_335009.out)); have n6_ := Aside0.mk (ho); clear HO_335010 BK317 BK334 HI0 HB HK HO_335009; have HO_335010 := n0_; have BK317 := n1_; have BK334 := n2_; have HI0 := n3_; have HB := n4_; have HK := n5_; have HO349 := n6_; clear n0_ n1_ n2_ n3_ n4_ n5_ n6_ ho hb hg hat
       obtain ⟨Ao46, co46, eo46⟩ := Kd.R_slice HO349.out
       (first | subst eo46 | (injection eo46 with f1_ f2_ f3_; have f4_ := f1_.symm; have f5_ := f3_.symm; clear f1_ f2_ f3_; subst f4_; subst f5_))
       refine hK.out _ _ (cz11 BK334.out) (fun hHeld => ?_)
       clear hK K; refine nm_ 50 ?_; refine pu_ (i := 9) (N := some 51) HT_ ?_
       refine last_ (i := 10) (N := none) #[true, true, true, true, true, true, true, true, true, true, true] rfl rfl (one_of HT_.out (by kernel_rfl)) (by decide) (fun K hK => ?_)
       have hs47 : w45.cell? ⟨gb334, 9, none⟩ = some (u335009) := bc_ BK334 9
       have hfs47 := blk_frozen BK334.out 9
       have hns47_0 := NB317_334.out; have hms47_0 := NB334_317.out
       refine skip_ (w1 := ?_) (by rfl) rfl ?_ ?_
       rotate_left
       ·go_simp
        rfl
       refine hK.out _ _ ?_
       clear hK K
       refine done_ (done_of HT_.out (by kernel_rfl)) ?_
       try go_wp2
       go_roundg k1
       case measure => have := HK1.out; omega
       case rel => exact ⟨(wrap64 (x6_1 - 1)), (t346), (y347), (.slice Ao46 y347.length co46), (by first | rfl | (simp; done) | (simp [*]; done)), H', ⟨by have := HK1.out; omega⟩, ⟨by refine kR_ ?_; exact Kd.R_mono (Kd.R_f gb334 9 (.slice Ao46 y347.length co46) (Kd.R_types HO349.out BK334.out (by decide))) (fun _ hk => trivial)⟩, ⟨by refine kR_ ?_; exact Kd.R_mono (Kd.R_f gb334 9 (.slice Ao46 y347.length co46) (Kd.R_types HO_335010.out BK334.out (by decide))) (fun _ hk => trivial)⟩, ⟨by exact kf_ BK317.out⟩, ⟨by refine kb_ ?_; refine blk_put (cs := #[.int .i64 (wrap64 (1 + t318)), .int .i64 (wrap64 (1 + t320)), .int .i64 t322, .int .i64 t337, .int .i64 t339, .bool (t330 == 0), .bool true, .bool (t332 == 0), .bool false, u335009, .slice Ao20 t326.length co20]) ?_ 9 _ rfl; refine kb_ ?_; exact BK334.out⟩, ⟨is102_ HI0.out⟩, ⟨hkA_ HK.out⟩, ⟨hb102_ HB.out⟩⟩
      ·rw [if_neg c41] at H
       exact absurd H (by simp)
     ·rw [if_neg c38] at H
      have c38b0 : decide (0 < x6_1) = false := decide_eq_false c38
      clear c38
      have H' := Aside0.mk H
      clear H
      go_wp2
      go_meet
      case rel => exact ⟨_, (x1001_1), (t337), (t339), (true), (x335009_1), (u335009), H', ⟨by have := HK1.out; first | omega | exact Nat.le_refl _⟩, ⟨kR_ HO_335009.out⟩, ⟨kR_ HO_335010.out⟩, ⟨by refine kb_ ?_; exact BK317.out⟩, ⟨by refine kb_ ?_; exact BK334.out⟩, ⟨is102_ HI0.out⟩, ⟨hkA_ HK.out⟩, ⟨hb102_ HB.out⟩⟩
  ·rw [if_neg c26] at H
   have c26b0 : decide (0 < t335) = false := decide_eq_false c26
   clear c26
   (first | rw [c26b0] | (simp only [i64_w, i32_w]; rw [c26b0]) | skip)
   have H' := Aside0.mk H
   clear H
   go_wp2
   go_meet
   case rel => exact ⟨_, (t336), (0), (0), (false), (([] : List (S90))), (.slice none 0 0), H', ⟨by first | omega | exact Nat.le_refl _⟩, ⟨by first | exact Kd.R_nil _ _ _ _ _ | exact Kd.N_nil _ _ _ _ _ | exact Kd.V_nil _ _ _ _ _ | exact Kd.Q_nil _ _ _ _ _ | exact Kd.S_nil _ _ _ _ _⟩, ⟨kR_ HO328.out⟩, ⟨by refine kb_ ?_; exact BK317.out⟩, ⟨by refine kb_ ?_; exact BK334.out⟩, ⟨is102_ HI0.out⟩, ⟨hkA_ HK.out⟩, ⟨hb102_ HB.out⟩⟩
 case rest =>
  clear HC11; (try clear c2); (try clear p2); (try clear c3); (try clear c4); (try clear c6); (try clear p6); (try clear c7); (try clear c9); (try clear c22); (try clear c23); (try clear c26); (try clear c26b0); (try clear c30); (try clear c31); (try clear c38); (try clear c38b0); (try clear c40); (try clear c41); (try clear Z24); (try clear Z32); (try clear Z34); (try clear Z36); (try clear p2); (try clear p6)
  obtain ⟨kq, x1001_10, x335003_10, x335004_10, x335006_10, x335009_10, u335009, HA, HJ10, HO_335009, HO_335010, BK317, BK334, HI0, HK, HB⟩ := hcut
  cases kq with
  | zero => exact absurd HA.out (by simp [spec_l20Segment.j1])
  | succ kj10 =>
   have H := HA.out; clear HA
   simp only [spec_l20Segment.j1] at H
   replace H := Option.bind_eq_some_iff.mp H
   obtain ⟨⟨t350, t351⟩, A480, H⟩ := H
   (try dsimp only at H)
   have A48 := Aside0.mk A480; clear A480; have HC49 := Aside0.mk H; clear H
   go_upto_if 54 with (first | ((with_reducible refine gate_callee (f := 40) rfl ?_); refine goesL_ (some 53) rfl rfl Try.func40 (by kernel_rfl) rfl #[.pointer (some ⟨g, 0, none⟩), .int .i64 8] rfl ar_ ?_; (with_reducible refine (spec_l20Rd_pick.calls kj10 g s0_0 x1001_10 8 t350 t351 w0 _ ?side1 ?side2 A48.out).mono ?_); (case side1 => exact is102_ HI0.out); (case side2 => exact hb102_ HB.out); rintro e w50 ⟨rfl, hi, hb, hk⟩; refine ⟨_, rfl, ?_⟩; replace HO_335009 := (rk102_ HI0 HO_335009 hk); replace HO_335010 := (rk102_ HI0 HO_335010 hk); replace BK317 := (bkA_ BK317 hk NB317_0); replace BK334 := (bkA_ BK334 hk NB334_0); replace HK := (kk_ HK hk); replace HB := Aside0.mk (hb); replace HI0 := Aside0.mk (hi); (try clear hb); (try clear hb2); (try clear hk); (try clear hi)))
   (try simp only [Act.put, List.setIfInBounds_toArray, List.set_cons_zero, List.set_cons_succ])
   go_cut [] (fun wc => ∃ (kq : Nat) (x335005_48 : Bool) (x335007_48 : Bool) (x335008_48 : Bool) (x335010_48 : List Int) (u335010 : Value), Aside0 (spec_l20Segment.j2 kq a1 s0_0 t351 (wrap64 (1 + t318)) (wrap64 (1 + t320)) t322 x335003_10 x335004_10 x335005_48 x335006_10 x335007_48 x335008_48 x335009_10 x335010_48 = some (r1, r2, r3, r4, r5, r6, r7, r8, r9, r10, r11, r12)) ∧ Aside0 (kq ≤ kj10) ∧ Aside0 (Kd.R k90 90 wc w.heap.size (fun _ => True) u335009 x335009_10) ∧ Aside0 (Kd.R (Kd.int .u8) 5 wc w.heap.size (fun _ => True) u335010 x335010_48) ∧ Aside0 (wc.heap[gb317]? = some (.cells #[.int .i64 0, .int .i64 0, .int .i64 0, .int .i64 0, .int .i64 0, .bool false, .bool false, .bool false, .bool false, (.slice none 0 0), (.slice none 0 0)] 52 (0, 0))) ∧ Aside0 (wc.heap[gb334]? = some (.cells #[.int .i64 (wrap64 (1 + t318)), .int .i64 (wrap64 (1 + t320)), .int .i64 t322, .int .i64 x335003_10, .int .i64 x335004_10, .bool x335005_48, .bool x335006_10, .bool x335007_48, .bool x335008_48, u335009, u335010] 52 (0, 0))) ∧ Aside0 (IsS102 w0 wc g s0_0 t351) ∧ Aside0 (KeepBut w wc g none) ∧ Aside0 (Below w0.heap.size w0 wc))
   case first =>
    have H := HC49.out; clear HC49
    by_cases c51 : t350 = 0
    ·rw [if_pos c51] at H
     have c51b0 : (t350 == 0) = true := beq_iff_eq.mpr c51
     have c51b1 : (t350 != 0) = false := bne_eq_false_iff_eq.mpr c51
     clear c51
     (first | rw [c51b0] | (simp only [i64_w, i32_w]; rw [c51b0]) | skip)
     have H' := Aside0.mk H
     clear H; have hnb52 := NB334_317.out; have hnc52 := NB317_334.out; have hnb53 := NB334_0.out; have hnc53 := NB0_334.out; have Z54 := zz11 BK334
     go_wp2
     go_meet
     case rel => exact ⟨_, (false), (false), (true), (([] : List Int)), (.slice none 0 0), H', ⟨by have := HJ10.out; first | omega | exact Nat.le_refl _⟩, ⟨by refine kR_ ?_; exact rfm_ ((Kd.R_types HO_335009.out BK334.out (by decide))) (fun _ hk => trivial)⟩, ⟨by first | exact Kd.R_nil _ _ _ _ _ | exact Kd.N_nil _ _ _ _ _ | exact Kd.V_nil _ _ _ _ _ | exact Kd.Q_nil _ _ _ _ _ | exact Kd.S_nil _ _ _ _ _⟩, ⟨by exact kf_ BK317.out⟩, ⟨by refine kb_ ?_; refine blk_put (cs := #[.int .i64 (wrap64 (1 + t318)), .int .i64 (wrap64 (1 + t320)), .int .i64 t322, .int .i64 x335003_10, .int .i64 x335004_10, .bool false, .bool x335006_10, .bool false, .bool true, u335009, .slice Ao20 t326.length co20]) ?_ 10 _ rfl; refine kb_ ?_; refine blk_put (cs := #[.int .i64 (wrap64 (1 + t318)), .int .i64 (wrap64 (1 + t320)), .int .i64 t322, .int .i64 x335003_10, .int .i64 x335004_10, .bool false, .bool x335006_10, .bool (t332 == 0), .bool true, u335009, .slice Ao20 t326.length co20]) ?_ 7 _ rfl; refine kb_ ?_; refine blk_put (cs := #[.int .i64 (wrap64 (1 + t318)), .int .i64 (wrap64 (1 + t320)), .int .i64 t322, .int .i64 x335003_10, .int .i64 x335004_10, .bool (t330 == 0), .bool x335006_10, .bool (t332 == 0), .bool true, u335009, .slice Ao20 t326.length co20]) ?_ 5 _ rfl; refine kb_ ?_; refine blk_put (cs := #[.int .i64 (wrap64 (1 + t318)), .int .i64 (wrap64 (1 + t320)), .int .i64 t322, .int .i64 x335003_10, .int .i64 x335004_10, .bool (t330 == 0), .bool x335006_10, .bool (t332 == 0), .bool false, u335009, .slice Ao20 t326.length co20]) ?_ 8 _ rfl; refine kb_ ?_; exact BK334.out⟩, ⟨is102_ HI0.out⟩, ⟨hkA_ HK.out⟩, ⟨hb102_ HB.out⟩⟩
    ·rw [if_neg c51] at H
     have c51b0 : (t350 == 0) = false := beq_eq_false_iff_ne.mpr c51
     have c51b1 : (t350 != 0) = true := bne_iff_ne.mpr c51
     (first | rw [c51b0] | (simp only [i64_w, i32_w]; rw [c51b0]) | skip)
     have H' := Aside0.mk H
     clear H
     go_wp2
     go_meet
     case rel => exact ⟨_, ((t330 == 0)), ((t332 == 0)), (false), (t326), (.slice Ao20 t326.length co20), H', ⟨by have := HJ10.out; first | omega | exact Nat.le_refl _⟩, ⟨kR_ HO_335009.out⟩, ⟨kR_ HO_335010.out⟩, ⟨by refine kb_ ?_; exact BK317.out⟩, ⟨by refine kb_ ?_; exact BK334.out⟩, ⟨is102_ HI0.out⟩, ⟨hkA_ HK.out⟩, ⟨hb102_ HB.out⟩⟩
   case rest =>
    clear HC49; (try clear c2); (try clear p2); (try clear c3); (try clear c4); (try clear c5); (try clear c6); (try clear p6); (try clear c7); (try clear c9); (try clear c22); (try clear c23); (try clear c26); (try clear c26b0); (try clear c30); (try clear c31); (try clear c38); (try clear c38b0); (try clear c40); (try clear c41); (try clear c51); (try clear c51b0); (try clear c51b1); (try clear c52); (try clear c53); (try clear Z24); (try clear Z32); (try clear Z34); (try clear Z36); (try clear Z54); (try clear p2); (try clear p6)
    obtain ⟨kq, x335005_48, x335007_48, x335008_48, x335010_48, u335010, HA, HJ48, HO_335009, HO_335010, BK317, BK334, HI0, HK, HB⟩ := hcut
    cases kq with
    | zero => exact absurd HA.out (by simp [spec_l20Segment.j2])
    | succ kj48 =>
     have H := HA.out; clear HA
     simp only [spec_l20Segment.j2] at H
     replace H := Option.bind_eq_some_iff.mp H
     obtain ⟨⟨t352, t353⟩, A550, H⟩ := H
     (try dsimp only at H)
     have A55 := Aside0.mk A550; clear A550
     by_cases c56 : t352 = true
     ·subst c56
      rw [if_pos rfl] at H
      replace H := Option.bind_eq_some_iff.mp H
      obtain ⟨⟨t354, t355⟩, A570, H⟩ := H
      (try dsimp only at H)
      have A57 := Aside0.mk A570; clear A570
      by_cases c58 : t354 = 0
      ·rw [if_pos c58] at H
       have c58b0 : (t354 == 0) = true := beq_iff_eq.mpr c58
       have c58b1 : (t354 != 0) = false := bne_eq_false_iff_eq.mpr c58
       clear c58
       replace H := Option.bind_eq_some_iff.mp H
       obtain ⟨⟨t356, t357⟩, A590, H⟩ := H
       (try dsimp only at H)
       have A59 := Aside0.mk A590; clear A590
       simp only [Option.some.injEq, Prod.mk.injEq] at H
       obtain ⟨rfl, rfl, rfl, rfl, rfl, rfl, rfl, rfl, rfl, rfl, rfl, rfl⟩ := H
       go_wp2_with (first | ((with_reducible refine gate_callee (f := 80) rfl ?_); refine goesL_ (some 61) rfl rfl Try.func80 (by kernel_rfl) rfl #[.pointer (some ⟨g, 0, none⟩), .int .i64 a1] rfl ar_ ?_; (with_reducible refine (spec_l20Rd_odd.calls kj48 g s0_0 t351 a1 true t353 w0 _ ?side1 ?side2 A55.out).mono ?_); (case side1 => exact is102_ HI0.out); (case side2 => exact hb102_ HB.out); rintro e w60 ⟨rfl, hi, hb, hk⟩; refine ⟨_, rfl, ?_⟩; replace HO_335009 := (rk102_ HI0 HO_335009 hk); replace HO_335010 := (rk102_ HI0 HO_335010 hk); replace BK317 := (bkA_ BK317 hk NB317_0); replace BK334 := (bkA_ BK334 hk NB334_0); replace HK := (kk_ HK hk); replace HB := Aside0.mk (hb); replace HI0 := Aside0.mk (hi); (try clear hb); (try clear hb2); (try clear hk); (try clear hi)) | ((with_reducible refine gate_callee (f := 40) rfl ?_); refine goesL_ (some 63) rfl rfl Try.func40 (by kernel_rfl) rfl #[.pointer (some ⟨g, 0, none⟩), .int .i64 4] rfl ar_ ?_; (with_reducible refine (spec_l20Rd_pick.calls kj48 g s0_0 t353 4 t354 t355 w0 _ ?side1 ?side2 A57.out).mono ?_); (case side1 => exact is102_ HI0.out); (case side2 => exact hb102_ HB.out); rintro e w61 ⟨rfl, hi, hb, hk⟩; refine ⟨_, rfl, ?_⟩; replace HO_335009 := (rk102_ HI0 HO_335009 hk); replace HO_335010 := (rk102_ HI0 HO_335010 hk); replace BK317 := (bkA_ BK317 hk NB317_0); replace BK334 := (bkA_ BK334 hk NB334_0); replace HK := (kk_ HK hk); replace HB := Aside0.mk (hb); replace HI0 := Aside0.mk (hi); (try clear hb); (try clear hb2); (try clear hk); (try clear hi)) | ((with_reducible refine gate_callee (f := 40) rfl ?_); refine goesL_ (some 72) rfl rfl Try.func40 (by kernel_rfl) rfl #[.pointer (some ⟨g, 0, none⟩), .int .i64 2] rfl ar_ ?_; (with_reducible refine (spec_l20Rd_pick.calls kj48 g s0_0 t355 2 t356 t357 w0 _ ?side1 ?side2 A59.out).mono ?_); (case side1 => exact is102_ HI0.out); (case side2 => exact hb102_ HB.out); rintro e w62 ⟨rfl, hi, hb, hk⟩; refine ⟨_, rfl, ?_⟩; replace HO_335009 := (rk102_ HI0 HO_335009 hk); replace HO_335010 := (rk102_ HI0 HO_335010 hk); replace BK317 := (bkA_ BK317 hk NB317_0); replace BK334 := (bkA_ BK334 hk NB334_0); replace HK := (kk_ HK hk); replace HB := Aside0.mk (hb); replace HI0 := Aside0.mk (hi); (try clear hb); (try clear hb2); (try clear hk); (try clear hi); have hnb63 := NB334_317.out; have hnc63 := NB317_334.out; have hnb64 := NB334_0.out; have hnc64 := NB0_334.out; have Z65 := zz11 BK334; have hnb66 := NB317_0.out; have hnc66 := NB0_317.out; have Z67 := zz11 BK317; obtain ⟨Ao68, co68, eo68⟩ := Kd.R_slice HO_335009.out; subst eo68; obtain ⟨Ao69, co69, eo69⟩ := Kd.R_slice HO_335010.out; subst eo69))
       refine bodyPost_ret (results_cell_row rfl _ _ gb317 52 #[.int .i64 (wrap64 (t356 * 256)), .int .i64 (wrap64 (1 + t320)), .int .i64 t322, .int .i64 x335003_10, .int .i64 x335004_10, .bool x335005_48, .bool x335006_10, .bool x335007_48, .bool x335008_48, .slice Ao68 x335009_10.length co68, .slice Ao69 x335010_48.length co69] (0, 0) _ rfl (by refine kb_ ?_; refine pz11 (cs := #[.int .i64 0, .int .i64 0, .int .i64 0, .int .i64 0, .int .i64 0, .bool false, .bool false, .bool false, .bool false, .slice none 0 0, .slice none 0 0]) ?_; exact kf_ BK317.out) Try.underlying52 rfl (by kernel_rfl)) rfl ?_
       exact ⟨_, _, by first | rfl | (simp [errW_none, errW_some] <;> rfl) | (simp [*, errW_none, errW_some] <;> rfl), by refine kR_ ?_; exact rfm_ ((Kd.R_far (p := ⟨gb334, 0, none⟩) (Kd.R_types (Kd.R_types HO_335009.out BK334.out (by decide)) BK317.out (by decide)) (fun _ hk => hk.1.2) (.int .i64 (wrap64 (t356 * 256))))) (fun _ hk => trivial), by refine kR_ ?_; exact rfm_ ((Kd.R_far (p := ⟨gb334, 0, none⟩) (Kd.R_types (Kd.R_types HO_335010.out BK334.out (by decide)) BK317.out (by decide)) (fun _ hk => hk.1.2) (.int .i64 (wrap64 (t356 * 256))))) (fun _ hk => trivial), is102_ HI0.out, hb102_ HB.out, hkA_ HK.out⟩
      ·rw [if_neg c58] at H
       have c58b0 : (t354 == 0) = false := beq_eq_false_iff_ne.mpr c58
       have c58b1 : (t354 != 0) = true := bne_iff_ne.mpr c58
       by_cases c70 : t354 = 1
       ·rw [if_pos c70] at H
        have c70b0 : (t354 == 1) = true := beq_iff_eq.mpr c70
        have c70b1 : (t354 != 1) = false := bne_eq_false_iff_eq.mpr c70
        clear c70
        replace H := Option.bind_eq_some_iff.mp H
        obtain ⟨⟨t358, t359⟩, A710, H⟩ := H
        (try dsimp only at H)
        have A71 := Aside0.mk A710; clear A710
        simp only [Option.some.injEq, Prod.mk.injEq] at H
        obtain ⟨rfl, rfl, rfl, rfl, rfl, rfl, rfl, rfl, rfl, rfl, rfl, rfl⟩ := H
        go_wp2_with (first | ((with_reducible refine gate_callee (f := 80) rfl ?_); refine goesL_ (some 61) rfl rfl Try.func80 (by kernel_rfl) rfl #[.pointer (some ⟨g, 0, none⟩), .int .i64 a1] rfl ar_ ?_; (with_reducible refine (spec_l20Rd_odd.calls kj48 g s0_0 t351 a1 true t353 w0 _ ?side1 ?side2 A55.out).mono ?_); (case side1 => exact is102_ HI0.out); (case side2 => exact hb102_ HB.out); rintro e w72 ⟨rfl, hi, hb, hk⟩; refine ⟨_, rfl, ?_⟩; replace HO_335009 := (rk102_ HI0 HO_335009 hk); replace HO_335010 := (rk102_ HI0 HO_335010 hk); replace BK317 := (bkA_ BK317 hk NB317_0); replace BK334 := (bkA_ BK334 hk NB334_0); replace HK := (kk_ HK hk); replace HB := Aside0.mk (hb); replace HI0 := Aside0.mk (hi); (try clear hb); (try clear hb2); (try clear hk); (try clear hi)) | ((with_reducible refine gate_callee (f := 40) rfl ?_); refine goesL_ (some 63) rfl rfl Try.func40 (by kernel_rfl) rfl #[.pointer (some ⟨g, 0, none⟩), .int .i64 4] rfl ar_ ?_; (with_reducible refine (spec_l20Rd_pick.calls kj48 g s0_0 t353 4 t354 t355 w0 _ ?side1 ?side2 A57.out).mono ?_); (case side1 => exact is102_ HI0.out); (case side2 => exact hb102_ HB.out); rintro e w73 ⟨rfl, hi, hb, hk⟩; refine ⟨_, rfl, ?_⟩; replace HO_335009 := (rk102_ HI0 HO_335009 hk); replace HO_335010 := (rk102_ HI0 HO_335010 hk); replace BK317 := (bkA_ BK317 hk NB317_0); replace BK334 := (bkA_ BK334 hk NB334_0); replace HK := (kk_ HK hk); replace HB := Aside0.mk (hb); replace HI0 := Aside0.mk (hi); (try clear hb); (try clear hb2); (try clear hk); (try clear hi)) | ((with_reducible refine gate_callee (f := 40) rfl ?_); refine goesL_ (some 78) rfl rfl Try.func40 (by kernel_rfl) rfl #[.pointer (some ⟨g, 0, none⟩), .int .i64 2] rfl ar_ ?_; (with_reducible refine (spec_l20Rd_pick.calls kj48 g s0_0 t355 2 t358 t359 w0 _ ?side1 ?side2 A71.out).mono ?_); (case side1 => exact is102_ HI0.out); (case side2 => exact hb102_ HB.out); rintro e w74 ⟨rfl, hi, hb, hk⟩; refine ⟨_, rfl, ?_⟩; replace HO_335009 := (rk102_ HI0 HO_335009 hk); replace HO_335010 := (rk102_ HI0 HO_335010 hk); replace BK317 := (bkA_ BK317 hk NB317_0); replace BK334 := (bkA_ BK334 hk NB334_0); replace HK := (kk_ HK hk); replace HB := Aside0.mk (hb); replace HI0 := Aside0.mk (hi); (try clear hb); (try clear hb2); (try clear hk); (try clear hi); have hnb75 := NB334_317.out; have hnc75 := NB317_334.out; have hnb76 := NB334_0.out; have hnc76 := NB0_334.out; have Z77 := zz11 BK334; have hnb78 := NB317_0.out; have hnc78 := NB0_317.out; have Z79 := zz11 BK317; obtain ⟨Ao80, co80, eo80⟩ := Kd.R_slice HO_335009.out; subst eo80; obtain ⟨Ao81, co81, eo81⟩ := Kd.R_slice HO_335010.out; subst eo81))
        refine bodyPost_ret (results_cell_row rfl _ _ gb317 52 #[.int .i64 (wrap64 (1 + t318)), .int .i64 (wrap64 (1 + t320)), .int .i64 (wrap64 (65536 - (wrap64 (t358 * 65540)))), .int .i64 x335003_10, .int .i64 x335004_10, .bool x335005_48, .bool x335006_10, .bool x335007_48, .bool x335008_48, .slice Ao80 x335009_10.length co80, .slice Ao81 x335010_48.length co81] (0, 0) _ rfl (by refine kb_ ?_; refine pz11 (cs := #[.int .i64 0, .int .i64 0, .int .i64 0, .int .i64 0, .int .i64 0, .bool false, .bool false, .bool false, .bool false, .slice none 0 0, .slice none 0 0]) ?_; exact kf_ BK317.out) Try.underlying52 rfl (by kernel_rfl)) rfl ?_
        exact ⟨_, _, by first | rfl | (simp [errW_none, errW_some] <;> rfl) | (simp [*, errW_none, errW_some] <;> rfl), by refine kR_ ?_; exact rfm_ ((Kd.R_far (p := ⟨gb334, 2, none⟩) (Kd.R_types (Kd.R_types HO_335009.out BK334.out (by decide)) BK317.out (by decide)) (fun _ hk => hk.1.2) (.int .i64 (wrap64 (65536 - (wrap64 (t358 * 65540))))))) (fun _ hk => trivial), by refine kR_ ?_; exact rfm_ ((Kd.R_far (p := ⟨gb334, 2, none⟩) (Kd.R_types (Kd.R_types HO_335010.out BK334.out (by decide)) BK317.out (by decide)) (fun _ hk => hk.1.2) (.int .i64 (wrap64 (65536 - (wrap64 (t358 * 65540))))))) (fun _ hk => trivial), is102_ HI0.out, hb102_ HB.out, hkA_ HK.out⟩
       ·rw [if_neg c70] at H
        have c70b0 : (t354 == 1) = false := beq_eq_false_iff_ne.mpr c70
        have c70b1 : (t354 != 1) = true := bne_iff_ne.mpr c70
        by_cases c82 : t354 = 2
        ·rw [if_pos c82] at H
         have c82b0 : (t354 == 2) = true := beq_iff_eq.mpr c82
         have c82b1 : (t354 != 2) = false := bne_eq_false_iff_eq.mpr c82
         clear c82
         simp only [Option.some.injEq, Prod.mk.injEq] at H
         obtain ⟨rfl, rfl, rfl, rfl, rfl, rfl, rfl, rfl, rfl, rfl, rfl, rfl⟩ := H
         go_wp2_with (first | ((with_reducible refine gate_callee (f := 80) rfl ?_); refine goesL_ (some 61) rfl rfl Try.func80 (by kernel_rfl) rfl #[.pointer (some ⟨g, 0, none⟩), .int .i64 a1] rfl ar_ ?_; (with_reducible refine (spec_l20Rd_odd.calls kj48 g s0_0 t351 a1 true t353 w0 _ ?side1 ?side2 A55.out).mono ?_); (case side1 => exact is102_ HI0.out); (case side2 => exact hb102_ HB.out); rintro e w83 ⟨rfl, hi, hb, hk⟩; refine ⟨_, rfl, ?_⟩; replace HO_335009 := (rk102_ HI0 HO_335009 hk); replace HO_335010 := (rk102_ HI0 HO_335010 hk); replace BK317 := (bkA_ BK317 hk NB317_0); replace BK334 := (bkA_ BK334 hk NB334_0); replace HK := (kk_ HK hk); replace HB := Aside0.mk (hb); replace HI0 := Aside0.mk (hi); (try clear hb); (try clear hb2); (try clear hk); (try clear hi)) | ((with_reducible refine gate_callee (f := 40) rfl ?_); refine goesL_ (some 63) rfl rfl Try.func40 (by kernel_rfl) rfl #[.pointer (some ⟨g, 0, none⟩), .int .i64 4] rfl ar_ ?_; (with_reducible refine (spec_l20Rd_pick.calls kj48 g s0_0 t353 4 t354 t355 w0 _ ?side1 ?side2 A57.out).mono ?_); (case side1 => exact is102_ HI0.out); (case side2 => exact hb102_ HB.out); rintro e w84 ⟨rfl, hi, hb, hk⟩; refine ⟨_, rfl, ?_⟩; replace HO_335009 := (rk102_ HI0 HO_335009 hk); replace HO_335010 := (rk102_ HI0 HO_335010 hk); replace BK317 := (bkA_ BK317 hk NB317_0); replace BK334 := (bkA_ BK334 hk NB334_0); replace HK := (kk_ HK hk); replace HB := Aside0.mk (hb); replace HI0 := Aside0.mk (hi); (try clear hb); (try clear hb2); (try clear hk); (try clear hi); have hnb85 := NB334_317.out; have hnc85 := NB317_334.out; have hnb86 := NB334_0.out; have hnc86 := NB0_334.out; have Z87 := zz11 BK334; have hnb88 := NB317_0.out; have hnc88 := NB0_317.out; have Z89 := zz11 BK317; obtain ⟨Ao90, co90, eo90⟩ := Kd.R_slice HO_335009.out; subst eo90; obtain ⟨Ao91, co91, eo91⟩ := Kd.R_slice HO_335010.out; subst eo91))
         refine bodyPost_ret (results_cell_row rfl _ _ gb317 52 #[.int .i64 (wrap64 (1 + t318)), .int .i64 (wrap64 (1 + t320)), .int .i64 t322, .int .i64 4, .int .i64 x335004_10, .bool x335005_48, .bool (!x335006_10), .bool x335007_48, .bool x335008_48, .slice Ao90 x335009_10.length co90, .slice Ao91 x335010_48.length co91] (0, 0) _ rfl (by refine kb_ ?_; refine pz11 (cs := #[.int .i64 0, .int .i64 0, .int .i64 0, .int .i64 0, .int .i64 0, .bool false, .bool false, .bool false, .bool false, .slice none 0 0, .slice none 0 0]) ?_; exact kf_ BK317.out) Try.underlying52 rfl (by kernel_rfl)) rfl ?_
         exact ⟨_, _, by first | rfl | (simp [errW_none, errW_some] <;> rfl) | (simp [*, errW_none, errW_some] <;> rfl), by refine kR_ ?_; exact rfm_ ((Kd.R_far (p := ⟨gb334, 3, none⟩) (Kd.R_far (p := ⟨gb334, 6, none⟩) (Kd.R_types (Kd.R_types HO_335009.out BK334.out (by decide)) BK317.out (by decide)) (fun _ hk => hk.1.2) (.bool (!x335006_10))) (fun _ hk => hk.1.2) (.int .i64 4))) (fun _ hk => trivial), by refine kR_ ?_; exact rfm_ ((Kd.R_far (p := ⟨gb334, 3, none⟩) (Kd.R_far (p := ⟨gb334, 6, none⟩) (Kd.R_types (Kd.R_types HO_335010.out BK334.out (by decide)) BK317.out (by decide)) (fun _ hk => hk.1.2) (.bool (!x335006_10))) (fun _ hk => hk.1.2) (.int .i64 4))) (fun _ hk => trivial), is102_ HI0.out, hb102_ HB.out, hkA_ HK.out⟩
        ·rw [if_neg c82] at H
         have c82b0 : (t354 == 2) = false := beq_eq_false_iff_ne.mpr c82
         have c82b1 : (t354 != 2) = true := bne_iff_ne.mpr c82
         replace H := Option.bind_eq_some_iff.mp H
         obtain ⟨⟨t360, t361⟩, A920, H⟩ := H
         (try dsimp only at H)
         have A92 := Aside0.mk A920; clear A920
         by_cases c93 : 0 ≤ t360
         ·rw [if_pos c93] at H
          have c93b0 := eq_true c93
          have c93b1 : decide (0 ≤ t360) = true := decide_eq_true c93
          clear c93
          by_cases c94 : (t360 : Int).toNat ≤ 281474976710656
          ·rw [if_pos c94] at H
           have c94b0 := eq_true c94
           have c94b1 : decide ((t360 : Int).toNat ≤ 281474976710656) = true := decide_eq_true c94
           clear c94
           obtain ⟨y362, hy362⟩ : ∃ y_ : List Int, y_ = (List.replicate (t360 : Int).toNat 0) := ⟨_, rfl⟩
           (first | replace H := sb_ hy362 H | rw [← hy362] at H)
           have Ny362 := Aside0.mk hy362; clear hy362
           simp only [Option.some.injEq, Prod.mk.injEq] at H
           obtain ⟨rfl, rfl, rfl, rfl, rfl, rfl, rfl, rfl, rfl, rfl, rfl, rfl⟩ := H
           go_wp2_with (first | ((with_reducible refine gate_callee (f := 80) rfl ?_); refine goesL_ (some 61) rfl rfl Try.func80 (by kernel_rfl) rfl #[.pointer (some ⟨g, 0, none⟩), .int .i64 a1] rfl ar_ ?_; (with_reducible refine (spec_l20Rd_odd.calls kj48 g s0_0 t351 a1 true t353 w0 _ ?side1 ?side2 A55.out).mono ?_); (case side1 => exact is102_ HI0.out); (case side2 => exact hb102_ HB.out); rintro e w95 ⟨rfl, hi, hb, hk⟩; refine ⟨_, rfl, ?_⟩; replace HO_335009 := (rk102_ HI0 HO_335009 hk); replace HO_335010 := (rk102_ HI0 HO_335010 hk); replace BK317 := (bkA_ BK317 hk NB317_0); replace BK334 := (bkA_ BK334 hk NB334_0); replace HK := (kk_ HK hk); replace HB := Aside0.mk (hb); replace HI0 := Aside0.mk (hi); (try clear hb); (try clear hb2); (try clear hk); (try clear hi)) | ((with_reducible refine gate_callee (f := 40) rfl ?_); refine goesL_ (some 63) rfl rfl Try.func40 (by kernel_rfl) rfl #[.pointer (some ⟨g, 0, none⟩), .int .i64 4] rfl ar_ ?_; (with_reducible refine (spec_l20Rd_pick.calls kj48 g s0_0 t353 4 t354 t355 w0 _ ?side1 ?side2 A57.out).mono ?_); (case side1 => exact is102_ HI0.out); (case side2 => exact hb102_ HB.out); rintro e w96 ⟨rfl, hi, hb, hk⟩; refine ⟨_, rfl, ?_⟩; replace HO_335009 := (rk102_ HI0 HO_335009 hk); replace HO_335010 := (rk102_ HI0 HO_335010 hk); replace BK317 := (bkA_ BK317 hk NB317_0); replace BK334 := (bkA_ BK334 hk NB334_0); replace HK := (kk_ HK hk); replace HB := Aside0.mk (hb); replace HI0 := Aside0.mk (hi); (try clear hb); (try clear hb2); (try clear hk); (try clear hi); have hnb97 := NB334_317.out; have hnc97 := NB317_334.out; have hnb98 := NB334_0.out; have hnc98 := NB0_334.out; have Z99 := zz11 BK334) | ((with_reducible refine gate_callee (f := 40) rfl ?_); refine goesL_ (some 66) rfl rfl Try.func40 (by kernel_rfl) rfl #[.pointer (some ⟨g, 0, none⟩), .int .i64 14] rfl ar_ ?_; (with_reducible refine (spec_l20Rd_pick.calls kj48 g s0_0 t355 14 t360 t361 w0 _ ?side1 ?side2 A92.out).mono ?_); (case side1 => exact is102_ HI0.out); (case side2 => exact hb102_ HB.out); rintro e w100 ⟨rfl, hi, hb, hk⟩; refine ⟨_, rfl, ?_⟩; replace HO_335009 := Aside0.mk (Kd.R_mono (Kd.R_keep (IsS102.apart (show IsS102 w0 _ g s0_0 t355 from is102_ HI0.out) (by refine kR_ ?_; exact (Kd.R_mono (Kd.R_f gb334 8 (.bool true) (Kd.R_types HO_335009.out BK334.out (by decide))) (fun _ h_ => op1_ h_))) (by decide)) hk (fun _ h => h.2)) (fun _ h => h.1)); replace HO_335010 := Aside0.mk (Kd.R_mono (Kd.R_keep (IsS102.apart (show IsS102 w0 _ g s0_0 t355 from is102_ HI0.out) (by refine kR_ ?_; exact (Kd.R_mono (Kd.R_f gb334 8 (.bool true) (Kd.R_types HO_335010.out BK334.out (by decide))) (fun _ h_ => op1_ h_))) (by decide)) hk (fun _ h => h.2)) (fun _ h => h.1)); replace BK317 := Aside0.mk (KeepBut.blk hk (g' := gb317) (o := .cells #[.int .i64 0, .int .i64 0, .int .i64 0, .int .i64 0, .int .i64 0, .bool false, .bool false, .bool false, .bool false, .slice none 0 0, .slice none 0 0] 52 (0, 0)) (by exact kf_ BK317.out) NB317_0.out (by simp)); replace BK334 := Aside0.mk (KeepBut.blk hk (g' := gb334) (o := .cells #[.int .i64 (wrap64 (1 + t318)), .int .i64 (wrap64 (1 + t320)), .int .i64 t322, .int .i64 x335003_10, .int .i64 x335004_10, .bool x335005_48, .bool x335006_10, .bool x335007_48, .bool true, u335009, u335010] 52 (0, 0)) (by refine kb_ ?_; refine blk_put (cs := #[.int .i64 (wrap64 (1 + t318)), .int .i64 (wrap64 (1 + t320)), .int .i64 t322, .int .i64 x335003_10, .int .i64 x335004_10, .bool x335005_48, .bool x335006_10, .bool x335007_48, .bool x335008_48, u335009, u335010]) ?_ 8 _ rfl; refine kb_ ?_; exact BK334.out) NB334_0.out (by simp)); replace HK := (kk_ HK hk); replace HB := Aside0.mk (hb); replace HI0 := Aside0.mk (hi); (try clear hb); (try clear hb2); (try clear hk); (try clear hi)) | ((with_reducible refine gate_dst (N := 67) rfl ?_); refine Kd.R_make (Kd.int .u8) _ 5 rfl (N := 67) rfl 22 _ _ rfl t360 rfl rfl Try.underlying22 (.int .u8 0) 1 info5 rfl (by decide) (by omega) 0 (ok := fun _ => True) (okp := fun _ => True) rfl (fun _ hk => hk) trivial (of_decide_eq_true (by first | (with_reducible assumption) | assumption)) (Nat.le_trans (Nat.mul_le_mul_right _ (of_decide_eq_true (by first | (with_reducible assumption) | assumption) : t360.toNat ≤ 281474976710656)) (by omega)) (Below.refl _ _) (Nat.le_refl _) ?_; intro v363 w101 ho102 hb hg_ hnew_; clear hg_ hnew_; (first | rw [← Ny362.out] at ho102 | (simp only [Int.reduceToNat] at ho102; rw [← Ny362.out] at ho102)); replace HO_335009 := Aside0.mk (Kd.R_below (kR_ HO_335009.out) hb); have HO364 := Aside0.mk (Kd.R_lower (Kd.R_new' ho102 (Kd.R_lt (kR_ HO_335010.out))) (keep_size (w := w) (g := g) (row := none) (hkA_ HK.out))); replace HO_335010 := Aside0.mk (Kd.R_elder' (kR_ HO_335010.out) (Kd.R_base ho102) hb); replace BK317 := (bbA_ BK317 hb); replace BK334 := (bbA_ BK334 hb); replace HI0 := (ib102_ HI0 hb); replace HK := (kw_ HK hb); replace HB := (bs102_ HB hb); clear hb ho102; obtain ⟨Ao103, co103, eo103⟩ := Kd.R_slice HO364.out; subst eo103; have Z104 := zz11 BK334; have hnb105 := NB317_0.out; have hnc105 := NB0_317.out; have Z106 := zz11 BK317; obtain ⟨Ao107, co107, eo107⟩ := Kd.R_slice HO_335009.out; subst eo107))
           refine bodyPost_ret (results_cell_row rfl _ _ gb317 52 #[.int .i64 (wrap64 (1 + t318)), .int .i64 (wrap64 (1 + t320)), .int .i64 t322, .int .i64 x335003_10, .int .i64 x335004_10, .bool x335005_48, .bool x335006_10, .bool x335007_48, .bool true, .slice Ao107 x335009_10.length co107, .slice Ao103 y362.length co103] (0, 0) _ rfl (by refine kb_ ?_; refine pz11 (cs := #[.int .i64 0, .int .i64 0, .int .i64 0, .int .i64 0, .int .i64 0, .bool false, .bool false, .bool false, .bool false, .slice none 0 0, .slice none 0 0]) ?_; exact kf_ BK317.out) Try.underlying52 rfl (by kernel_rfl)) rfl ?_
           exact ⟨_, _, by first | rfl | (simp [errW_none, errW_some] <;> rfl) | (simp [*, errW_none, errW_some] <;> rfl), by refine kR_ ?_; exact rfm_ ((Kd.R_far (p := ⟨gb334, 10, none⟩) (Kd.R_types (Kd.R_types HO_335009.out BK334.out (by decide)) BK317.out (by decide)) (fun _ hk => hk.1.2) (.slice Ao103 y362.length co103))) (fun _ hk => trivial), by refine kR_ ?_; exact rfm_ ((Kd.R_far (p := ⟨gb334, 10, none⟩) (Kd.R_types (Kd.R_types HO364.out BK334.out (by decide)) BK317.out (by decide)) (fun _ hk => hk.1.2) (.slice Ao103 y362.length co103))) (fun _ hk => trivial), is102_ HI0.out, hb102_ HB.out, hkA_ HK.out⟩
          ·rw [if_neg c94] at H
           exact absurd H (by simp)
         ·rw [if_neg c93] at H
          exact absurd H (by simp)
     ·replace c56 := Bool.eq_false_iff.mpr c56
      subst c56
      rw [if_neg (show ¬ (false = true) by decide)] at H
      simp only [Option.some.injEq, Prod.mk.injEq] at H
      obtain ⟨rfl, rfl, rfl, rfl, rfl, rfl, rfl, rfl, rfl, rfl, rfl, rfl⟩ := H
      go_wp2_with (first | ((with_reducible refine gate_callee (f := 80) rfl ?_); refine goesL_ (some 61) rfl rfl Try.func80 (by kernel_rfl) rfl #[.pointer (some ⟨g, 0, none⟩), .int .i64 a1] rfl ar_ ?_; (with_reducible refine (spec_l20Rd_odd.calls kj48 g s0_0 t351 a1 false t353 w0 _ ?side1 ?side2 A55.out).mono ?_); (case side1 => exact is102_ HI0.out); (case side2 => exact hb102_ HB.out); rintro e w108 ⟨rfl, hi, hb, hk⟩; refine ⟨_, rfl, ?_⟩; replace HO_335009 := (rk102_ HI0 HO_335009 hk); replace HO_335010 := (rk102_ HI0 HO_335010 hk); replace BK317 := (bkA_ BK317 hk NB317_0); replace BK334 := (bkA_ BK334 hk NB334_0); replace HK := (kk_ HK hk); replace HB := Aside0.mk (hb); replace HI0 := Aside0.mk (hi); (try clear hb); (try clear hb2); (try clear hk); (try clear hi); have hnb109 := NB334_317.out; have hnc109 := NB317_334.out; have hnb110 := NB334_0.out; have hnc110 := NB0_334.out; have Z111 := zz11 BK334; have hnb112 := NB317_0.out; have hnc112 := NB0_317.out; have Z113 := zz11 BK317; obtain ⟨Ao114, co114, eo114⟩ := Kd.R_slice HO_335009.out; subst eo114; obtain ⟨Ao115, co115, eo115⟩ := Kd.R_slice HO_335010.out; subst eo115))
      refine bodyPost_ret (results_cell_row rfl _ _ gb317 52 #[.int .i64 (wrap64 (1 + t318)), .int .i64 (wrap64 (1 + t320)), .int .i64 t322, .int .i64 x335003_10, .int .i64 x335004_10, .bool x335005_48, .bool x335006_10, .bool x335007_48, .bool x335008_48, .slice Ao114 x335009_10.length co114, .slice Ao115 x335010_48.length co115] (0, 0) _ rfl (by refine kb_ ?_; refine pz11 (cs := #[.int .i64 0, .int .i64 0, .int .i64 0, .int .i64 0, .int .i64 0, .bool false, .bool false, .bool false, .bool false, .slice none 0 0, .slice none 0 0]) ?_; refine kb_ ?_; exact BK317.out) Try.underlying52 rfl (by kernel_rfl)) rfl ?_
      exact ⟨_, _, by first | rfl | (simp [errW_none, errW_some] <;> rfl) | (simp [*, errW_none, errW_some] <;> rfl), by refine kR_ ?_; exact rfm_ ((Kd.R_types HO_335009.out BK317.out (by decide))) (fun _ hk => trivial), by refine kR_ ?_; exact rfm_ ((Kd.R_types HO_335010.out BK317.out (by decide))) (fun _ hk => trivial), is102_ HI0.out, hb102_ HB.out, hkA_ HK.out⟩
def spec_DrawSegmentBytes.f (k : Nat) (l0 : List Int) : Option (Int × Int × Int × Int × Int × Bool × Bool × Bool × Bool × (List (S90)) × List Int × Int × Int) := (spec_l20Open.f l0).bind fun bt366 => ((spec_l20Segment.f k bt366.1 bt366.2 8).bind fun bt369 => ((spec_l20Rd_pick.f k bt366.1 bt369.2.2.2.2.2.2.2.2.2.2.2 5).bind fun bt385 => ((spec_l20Rd_pick.f k bt366.1 bt385.2 5).bind fun bt387 => ((spec_l20Rd_pick.f k bt366.1 bt387.2 20).bind fun bt389 => (some (bt369.1, bt369.2.1, bt369.2.2.1, bt369.2.2.2.1, bt369.2.2.2.2.1, bt369.2.2.2.2.2.1, bt369.2.2.2.2.2.2.1, bt369.2.2.2.2.2.2.2.1, bt369.2.2.2.2.2.2.2.2.1, bt369.2.2.2.2.2.2.2.2.2.1, bt369.2.2.2.2.2.2.2.2.2.2.1, bt385.1, wrap64 (bt387.1 + (wrap64 ((wrap64 (Int.tdiv bt389.1 19)) * 65536)))))))))
theorem spec_DrawSegmentBytes.mono : ∀ a0 k, LeO (spec_DrawSegmentBytes.f k a0) (spec_DrawSegmentBytes.f (k + 1) a0) := by
 intro a0 k
 unfold spec_DrawSegmentBytes.f
 repeat' first | (with_reducible first | apply spec_l20Rd_pick.mono | apply spec_l20Segment.mono | exact LeO.refl _ | exact LeO.none _ | refine LeO.ite ?_ ?_ | refine LeO.bind ?_ fun _ => ?_) | apply spec_l20Rd_pick.mono | apply spec_l20Segment.mono | exact LeO.none _ | refine LeO.ite ?_ ?_ | refine LeO.bind ?_ fun _ => ?_
set_option maxHeartbeats 8000000 in
set_option maxRecDepth 100000 in
theorem spec_DrawSegmentBytes.calls (k : Nat) (A0 : Option Addr) (c0 : Nat) (l0 : List Int) (r1 : Int) (r2 : Int) (r3 : Int) (r4 : Int) (r5 : Int) (r6 : Bool) (r7 : Bool) (r8 : Bool) (r9 : Bool) (r10 : List (S90)) (r11 : List Int) (r12 : Int) (r13 : Int) (w : World) (hr0 : Kd.C (Kd.int .u8) w A0 l0.length l0) (hc0 : l0.length ≤ c0) (h : spec_DrawSegmentBytes.f k l0 = some (r1, r2, r3, r4, r5, r6, r7, r8, r9, r10, r11, r12, r13)) :
  Calls Try.prog 37 #[.slice A0 l0.length c0] w fun e w' => ∃ v9_ v10_ : Value, e = .returned (.tuple #[.agg #[.int .i64 r1, .int .i64 r2, .int .i64 r3, .int .i64 r4, .int .i64 r5, .bool r6, .bool r7, .bool r8, .bool r9, v9_, v10_], .int .i64 r12, .int .i64 r13]) ∧ Kd.R k90 90 w' w.heap.size (fun _ => True) v9_ r10 ∧ Kd.R (Kd.int .u8) 5 w' w.heap.size (fun _ => True) v10_ r11 ∧ Below w.heap.size w w' := by
 have hu52 := Try.underlying52; have HR0 := Aside0.mk hr0; have HC0 := Aside0.mk hc0; clear hr0 hc0
 have HB := Aside0.mk (Below.refl w.heap.size w)
 have H : ((spec_l20Open.f l0).bind fun bt366 => ((spec_l20Segment.f k bt366.1 bt366.2 8).bind fun bt369 => ((spec_l20Rd_pick.f k bt366.1 bt369.2.2.2.2.2.2.2.2.2.2.2 5).bind fun bt385 => ((spec_l20Rd_pick.f k bt366.1 bt385.2 5).bind fun bt387 => ((spec_l20Rd_pick.f k bt366.1 bt387.2 20).bind fun bt389 => (some (bt369.1, bt369.2.1, bt369.2.2.1, bt369.2.2.2.1, bt369.2.2.2.2.1, bt369.2.2.2.2.2.1, bt369.2.2.2.2.2.2.1, bt369.2.2.2.2.2.2.2.1, bt369.2.2.2.2.2.2.2.2.1, bt369.2.2.2.2.2.2.2.2.2.1, bt369.2.2.2.2.2.2.2.2.2.2.1, bt385.1, wrap64 (bt387.1 + (wrap64 ((wrap64 (Int.tdiv bt389.1 19)) * 65536)))))))))) = some (r1, r2, r3, r4, r5, r6, r7, r8, r9, r10, r11, r12, r13) := h
 clear h
 replace H := Option.bind_eq_some_iff.mp H
 obtain ⟨⟨t366, t367⟩, A20, H⟩ := H
 (try dsimp only at H)
 have A2 := Aside0.mk A20; clear A20
 replace H := Option.bind_eq_some_iff.mp H
 obtain ⟨⟨t369, t370, t371, t372, t373, t374, t375, t376, t377, t378, t381, t384⟩, A30, H⟩ := H
 (try dsimp only at H)
 have A3 := Aside0.mk A30; clear A30
 replace H := Option.bind_eq_some_iff.mp H
 obtain ⟨⟨t385, t386⟩, A40, H⟩ := H
 (try dsimp only at H)
 have A4 := Aside0.mk A40; clear A40
 replace H := Option.bind_eq_some_iff.mp H
 obtain ⟨⟨t387, t388⟩, A50, H⟩ := H
 (try dsimp only at H)
 have A5 := Aside0.mk A50; clear A50
 replace H := Option.bind_eq_some_iff.mp H
 obtain ⟨⟨t389, t390⟩, A60, H⟩ := H
 (try dsimp only at H)
 have A6 := Aside0.mk A60; clear A60
 simp only [Option.some.injEq, Prod.mk.injEq] at H
 obtain ⟨rfl, rfl, rfl, rfl, rfl, rfl, rfl, rfl, rfl, rfl, rfl, rfl, rfl⟩ := H
 go_enter Try.func37, Try.ntmps37
 go_wp2_with (first | ((with_reducible refine gate_dst (N := 2) rfl ?_); refine box_ (N := 2) (cs := #[.int .i64 0, .int .i64 0, .int .i64 0, .int .i64 0, .int .i64 0, .bool false, .bool false, .bool false, .bool false, .slice none 0 0, .slice none 0 0]) (t := 52) (fun gb365 hg w7 hbox hb => ?_); have BK365 := Aside0.mk (hbox); have GW365 := ge_ hg HB; have GE365 := ge_ hg HB; replace HB := (bs_ HB hb); clear hb hbox hg) | ((with_reducible refine gate_callee (f := 39) rfl ?_); refine goesL_ (some 7) rfl rfl Try.func39 (by kernel_rfl) rfl #[.slice A0 l0.length c0] rfl ar_ ?_; (with_reducible refine (spec_l20Open.calls _ _ l0 t366 t367 w _ ?side1 ?side2 ?side3 A2.out).mono ?_); (case side1 => exact hbA_ HB.out); (case side2 => exact HR0.out); (case side3 => exact HC0.out); rintro e w8 ⟨g368, rfl, hi, hb, hb2⟩; refine ⟨_, rfl, ?_⟩; replace HB := Aside0.mk (hb); have HI368 := Aside0.mk (hi); have NB368_365 := Aside0.mk (IsS102.ne_blk hi (bb_ BK365 hb2) (by decide)); have NB365_368 := Aside0.mk (Ne.symm (IsS102.ne_blk hi (bb_ BK365 hb2) (by decide))); replace BK365 := (bbA_ BK365 hb2); (try clear hb); (try clear hb2); (try clear hk); (try clear hi)) | ((with_reducible refine gate_callee (f := 67) rfl ?_); refine goesL_ (some 9) rfl rfl Try.func67 (by kernel_rfl) rfl #[.pointer (some ⟨g368, 0, none⟩), .int .i64 8] rfl ar_ ?_; (with_reducible refine (spec_l20Segment.calls k g368 t366 t367 8 t369 t370 t371 t372 t373 t374 t375 t376 t377 t378 t381 t384 w _ ?side1 ?side2 A3.out).mono ?_); (case side1 => exact is102_ HI368.out); (case side2 => exact hb102_ HB.out); rintro e w9 ⟨v379, v382, rfl, ho0, ho1, hi, hb, hk⟩; refine ⟨_, rfl, ?_⟩; replace BK365 := (bkA_ BK365 hk NB365_368); have HO380 := Aside0.mk (Kd.R_lower ho0 (below_size (hb102_ HB.out))); have HO383 := Aside0.mk (Kd.R_lower ho1 (below_size (hb102_ HB.out))); replace HB := Aside0.mk (hb); replace HI368 := Aside0.mk (hi); (try clear hb); (try clear hb2); (try clear hk); (try clear hi); (try clear ho0); (try clear ho1)) | ((with_reducible refine gate_callee (f := 40) rfl ?_); refine goesL_ (some 11) rfl rfl Try.func40 (by kernel_rfl) rfl #[.pointer (some ⟨g368, 0, none⟩), .int .i64 5] rfl ar_ ?_; (with_reducible refine (spec_l20Rd_pick.calls k g368 t366 t384 5 t385 t386 w _ ?side1 ?side2 A4.out).mono ?_); (case side1 => exact is102_ HI368.out); (case side2 => exact hb102_ HB.out); rintro e w10 ⟨rfl, hi, hb, hk⟩; refine ⟨_, rfl, ?_⟩; replace BK365 := (bkA_ BK365 hk NB365_368); replace HO380 := (rk102_ HI368 HO380 hk); replace HO383 := (rk102_ HI368 HO383 hk); replace HB := Aside0.mk (hb); replace HI368 := Aside0.mk (hi); (try clear hb); (try clear hb2); (try clear hk); (try clear hi)) | ((with_reducible refine gate_callee (f := 40) rfl ?_); refine goesL_ (some 13) rfl rfl Try.func40 (by kernel_rfl) rfl #[.pointer (some ⟨g368, 0, none⟩), .int .i64 5] rfl ar_ ?_; (with_reducible refine (spec_l20Rd_pick.calls k g368 t366 t386 5 t387 t388 w _ ?side1 ?side2 A5.out).mono ?_); (case side1 => exact is102_ HI368.out); (case side2 => exact hb102_ HB.out); rintro e w11 ⟨rfl, hi, hb, hk⟩; refine ⟨_, rfl, ?_⟩; replace BK365 := (bkA_ BK365 hk NB365_368); replace HO380 := (rk102_ HI368 HO380 hk); replace HO383 := (rk102_ HI368 HO383 hk); replace HB := Aside0.mk (hb); replace HI368 := Aside0.mk (hi); (try clear hb); (try clear hb2); (try clear hk); (try clear hi)) | ((with_reducible refine gate_callee (f := 40) rfl ?_); refine goesL_ (some 15) rfl rfl Try.func40 (by kernel_rfl) rfl #[.pointer (some ⟨g368, 0, none⟩), .int .i64 20] rfl ar_ ?_; (with_reducible refine (spec_l20Rd_pick.calls k g368 t366 t388 20 t389 t390 w _ ?side1 ?side2 A6.out).mono ?_); (case side1 => exact is102_ HI368.out); (case side2 => exact hb102_ HB.out); rintro e w12 ⟨rfl, hi, hb, hk⟩; refine ⟨_, rfl, ?_⟩; replace BK365 := (bkA_ BK365 hk NB365_368); replace HO380 := (rk102_ HI368 HO380 hk); replace HO383 := (rk102_ HI368 HO383 hk); replace HB := Aside0.mk (hb); replace HI368 := Aside0.mk (hi); (try clear hb); (try clear hb2); (try clear hk); (try clear hi); have hnb13 := NB365_368.out; have hnc13 := NB368_365.out; have Z14 := zz11 BK365; obtain ⟨Ao15, co15, eo15⟩ := Kd.R_slice HO380.out; subst eo15; obtain ⟨Ao16, co16, eo16⟩ := Kd.R_slice HO383.out; subst eo16))
 refine bodyPost_ret (results_ctt rfl _ _ gb365 52 #[.int .i64 t369, .int .i64 t370, .int .i64 t371, .int .i64 t372, .int .i64 t373, .bool t374, .bool t375, .bool t376, .bool t377, .slice Ao15 t378.length co15, .slice Ao16 t381.length co16] (0, 0) _ rfl (by refine kb_ ?_; refine pz11 (cs := #[.int .i64 0, .int .i64 0, .int .i64 0, .int .i64 0, .int .i64 0, .bool false, .bool false, .bool false, .bool false, .slice none 0 0, .slice none 0 0]) ?_; refine kb_ ?_; exact BK365.out) Try.underlying52 rfl (by kernel_rfl)) rfl ?_
 exact ⟨_, _, by first | rfl | (simp [errW_none, errW_some] <;> rfl) | (simp [*, errW_none, errW_some] <;> rfl), by refine kR_ ?_; exact rfm_ ((Kd.R_types HO380.out BK365.out (by decide))) (fun _ hk => trivial), by refine kR_ ?_; exact rfm_ ((Kd.R_types HO383.out BK365.out (by decide))) (fun _ hk => trivial), hb102_ HB.out⟩
def spec_l1In.f (a0 : Int) (a1 : Int) (a2 : Int) : Option (Bool) := if a0 ≥ a1 then (some (decide (a0 ≤ a2))) else (some false)
set_option maxHeartbeats 8000000 in
set_option maxRecDepth 100000 in
theorem spec_l1In.calls (a0 : Int) (a1 : Int) (a2 : Int) (r : Bool) (w : World) (h : spec_l1In.f a0 a1 a2 = some r) :
  Calls Try.prog 52 #[.int .i64 a0, .int .i64 a1, .int .i64 a2] w fun e w' => e = .returned (.bool r) ∧ Drawn0 w w' := by
 have H : (if a0 ≥ a1 then (some (decide (a0 ≤ a2))) else (some false)) = some r := h
 clear h
 by_cases c4 : a0 ≥ a1
 ·rw [if_pos c4] at H
  have c4b0 : decide (a1 ≤ a0) = true := decide_eq_true c4
  clear c4
  obtain rfl := Option.some.inj H
  go_enter Try.func52, Try.ntmps52
  go_wp2
  go_ret
  exact ⟨by first | rfl | (simp; done) | (simp [*]; done), by repeat (first | exact Drawn0.refl _ | apply Drawn0.step)⟩
 ·rw [if_neg c4] at H
  have c4b0 : decide (a1 ≤ a0) = false := decide_eq_false c4
  clear c4
  obtain rfl := Option.some.inj H
  go_enter Try.func52, Try.ntmps52
  go_wp2
  go_ret
  exact ⟨by first | rfl | (simp; done) | (simp [*]; done), by repeat (first | exact Drawn0.refl _ | apply Drawn0.step)⟩
mutual
def spec_SegmentOk.j0 : Nat → Bool → Int → Int → Int → Int → Int → Bool → Bool → Bool → Bool → List (S90) → List Int → Option (Bool)
 | 0, _, _, _, _, _, _, _, _, _, _, _, _ => none
 | k + 1, x43, x392000, x392001, x392002, x392003, x392004, x392005, x392006, x392007, x392008, x392009, x392010 => if x43 = true then (some false) else (spec_SegmentOk.l0 k 0 x392000 x392001 x392002 x392003 x392004 x392005 x392006 x392007 x392008 x392009 x392010)
def spec_SegmentOk.l0 : Nat → Int → Int → Int → Int → Int → Int → Bool → Bool → Bool → Bool → List (S90) → List Int → Option (Bool)
 | 0, _, _, _, _, _, _, _, _, _, _, _, _ => none
 | k + 1, x3, x392000, x392001, x392002, x392003, x392004, x392005, x392006, x392007, x392008, x392009, x392010 => if x3 < (x392009.length : Int) then (if 0 ≤ x3 then ((spec_l1In.f ((rd_T90 x392009 x3).f0) 0 65535).bind fun t398 => (if t398 = true then ((spec_l1In.f ((rd_T90 x392009 x3).f1) 0 65535).bind fun t400 => (if t400 = true then (spec_SegmentOk.l0 k (wrap64 (x3 + 1)) x392000 x392001 x392002 x392003 x392004 x392005 x392006 x392007 x392008 x392009 x392010) else (some false))) else (some false))) else (none)) else (if x392006 = true then (spec_SegmentOk.j2 k false x392000 x392001 x392002 x392003 x392004 x392005 x392006 x392007 x392008 x392009 x392010) else (if x392003 = 0 then (if x392004 = 0 then (spec_SegmentOk.j2 k (decide ((x392009.length : Int) > 0)) x392000 x392001 x392002 x392003 x392004 x392005 x392006 x392007 x392008 x392009 x392010) else (spec_SegmentOk.j2 k true x392000 x392001 x392002 x392003 x392004 x392005 x392006 x392007 x392008 x392009 x392010)) else (spec_SegmentOk.j2 k true x392000 x392001 x392002 x392003 x392004 x392005 x392006 x392007 x392008 x392009 x392010)))
def spec_SegmentOk.j2 : Nat → Bool → Int → Int → Int → Int → Int → Bool → Bool → Bool → Bool → List (S90) → List Int → Option (Bool)
 | 0, _, _, _, _, _, _, _, _, _, _, _, _ => none
 | k + 1, x87, x392000, x392001, x392002, x392003, x392004, x392005, x392006, x392007, x392008, x392009, x392010 => if x87 = true then (some false) else (if x392008 = true then (if x392005 = true then (some false) else (if x392007 = true then (some false) else (some ((x392010.length : Int) == 0)))) else (some true))
end
def spec_SegmentOk.f (k : Nat) (a0_0 : Int) (a0_1 : Int) (a0_2 : Int) (a0_3 : Int) (a0_4 : Int) (a0_5 : Bool) (a0_6 : Bool) (a0_7 : Bool) (a0_8 : Bool) (l0_9 : List (S90)) (l0_10 : List Int) : Option (Bool) := (spec_l1In.f a0_0 1 255).bind fun t392 => (if t392 = true then ((spec_l1In.f a0_1 1 255).bind fun t393 => (if t393 = true then ((spec_l1In.f a0_2 0 65535).bind fun t394 => (if t394 = true then ((spec_l1In.f a0_3 0 65535).bind fun t395 => (if t395 = true then ((spec_l1In.f a0_4 0 255).bind fun t396 => (if t396 = true then (if (l0_9.length : Int) > 2 then (spec_SegmentOk.j0 k true a0_0 a0_1 a0_2 a0_3 a0_4 a0_5 a0_6 a0_7 a0_8 l0_9 l0_10) else (spec_SegmentOk.j0 k (decide ((l0_10.length : Int) > 12)) a0_0 a0_1 a0_2 a0_3 a0_4 a0_5 a0_6 a0_7 a0_8 l0_9 l0_10)) else (spec_SegmentOk.j0 k true a0_0 a0_1 a0_2 a0_3 a0_4 a0_5 a0_6 a0_7 a0_8 l0_9 l0_10))) else (spec_SegmentOk.j0 k true a0_0 a0_1 a0_2 a0_3 a0_4 a0_5 a0_6 a0_7 a0_8 l0_9 l0_10))) else (spec_SegmentOk.j0 k true a0_0 a0_1 a0_2 a0_3 a0_4 a0_5 a0_6 a0_7 a0_8 l0_9 l0_10))) else (spec_SegmentOk.j0 k true a0_0 a0_1 a0_2 a0_3 a0_4 a0_5 a0_6 a0_7 a0_8 l0_9 l0_10))) else (spec_SegmentOk.j0 k true a0_0 a0_1 a0_2 a0_3 a0_4 a0_5 a0_6 a0_7 a0_8 l0_9 l0_10))
theorem spec_SegmentOk.mono_l : ∀ k, (∀ y0 y1 y2 y3 y4 y5 y6 y7 y8 y9 y10 y11, LeO (spec_SegmentOk.j0 k y0 y1 y2 y3 y4 y5 y6 y7 y8 y9 y10 y11) (spec_SegmentOk.j0 (k + 1) y0 y1 y2 y3 y4 y5 y6 y7 y8 y9 y10 y11)) ∧ (∀ y0 y1 y2 y3 y4 y5 y6 y7 y8 y9 y10 y11, LeO (spec_SegmentOk.l0 k y0 y1 y2 y3 y4 y5 y6 y7 y8 y9 y10 y11) (spec_SegmentOk.l0 (k + 1) y0 y1 y2 y3 y4 y5 y6 y7 y8 y9 y10 y11)) ∧ (∀ y0 y1 y2 y3 y4 y5 y6 y7 y8 y9 y10 y11, LeO (spec_SegmentOk.j2 k y0 y1 y2 y3 y4 y5 y6 y7 y8 y9 y10 y11) (spec_SegmentOk.j2 (k + 1) y0 y1 y2 y3 y4 y5 y6 y7 y8 y9 y10 y11))
 | 0 => ⟨fun _ _ _ _ _ _ _ _ _ _ _ _ r h => by simp [spec_SegmentOk.j0] at h, fun _ _ _ _ _ _ _ _ _ _ _ _ r h => by simp [spec_SegmentOk.l0] at h, fun _ _ _ _ _ _ _ _ _ _ _ _ r h => by simp [spec_SegmentOk.j2] at h⟩
 | k + 1 => by
  obtain ⟨ih0, ih1, ih2⟩ := spec_SegmentOk.mono_l k
  refine ⟨?_, ?_, ?_⟩
  ·intro y0 y1 y2 y3 y4 y5 y6 y7 y8 y9 y10 y11
   unfold spec_SegmentOk.j0
   repeat' first | (with_reducible first | apply ih0 | apply ih1 | apply ih2 | exact LeO.refl _ | exact LeO.none _ | refine LeO.ite ?_ ?_ | refine LeO.bind ?_ fun _ => ?_) | apply ih0 | apply ih1 | apply ih2 | exact LeO.none _ | refine LeO.ite ?_ ?_ | refine LeO.bind ?_ fun _ => ?_
  ·intro y0 y1 y2 y3 y4 y5 y6 y7 y8 y9 y10 y11
   unfold spec_SegmentOk.l0
   repeat' first | (with_reducible first | apply ih0 | apply ih1 | apply ih2 | exact LeO.refl _ | exact LeO.none _ | refine LeO.ite ?_ ?_ | refine LeO.bind ?_ fun _ => ?_) | apply ih0 | apply ih1 | apply ih2 | exact LeO.none _ | refine LeO.ite ?_ ?_ | refine LeO.bind ?_ fun _ => ?_
  ·intro y0 y1 y2 y3 y4 y5 y6 y7 y8 y9 y10 y11
   unfold spec_SegmentOk.j2
   repeat' first | (with_reducible first | apply ih0 | apply ih1 | apply ih2 | exact LeO.refl _ | exact LeO.none _ | refine LeO.ite ?_ ?_ | refine LeO.bind ?_ fun _ => ?_) | apply ih0 | apply ih1 | apply ih2 | exact LeO.none _ | refine LeO.ite ?_ ?_ | refine LeO.bind ?_ fun _ => ?_
theorem spec_SegmentOk.mono : ∀ a0 a1 a2 a3 a4 a5 a6 a7 a8 a9 a10 k, LeO (spec_SegmentOk.f k a0 a1 a2 a3 a4 a5 a6 a7 a8 a9 a10) (spec_SegmentOk.f (k + 1) a0 a1 a2 a3 a4 a5 a6 a7 a8 a9 a10) := by
 intro a0 a1 a2 a3 a4 a5 a6 a7 a8 a9 a10 k
 obtain ⟨ih0, ih1, ih2⟩ := spec_SegmentOk.mono_l k
 unfold spec_SegmentOk.f
 repeat' first | (with_reducible first | apply ih0 | apply ih1 | apply ih2 | exact LeO.refl _ | exact LeO.none _ | refine LeO.ite ?_ ?_ | refine LeO.bind ?_ fun _ => ?_) | apply ih0 | apply ih1 | apply ih2 | exact LeO.none _ | refine LeO.ite ?_ ?_ | refine LeO.bind ?_ fun _ => ?_
set_option maxHeartbeats 8000000 in
set_option maxRecDepth 100000 in
theorem spec_SegmentOk.calls (k : Nat) (a0_0 : Int) (a0_1 : Int) (a0_2 : Int) (a0_3 : Int) (a0_4 : Int) (a0_5 : Bool) (a0_6 : Bool) (a0_7 : Bool) (a0_8 : Bool) (A0_9 : Option Addr) (c0_9 : Nat) (l0_9 : List (S90)) (A0_10 : Option Addr) (c0_10 : Nat) (l0_10 : List Int) (r : Bool) (w : World) (hr0_9 : Kd.C k90 w A0_9 l0_9.length l0_9) (hc0_9 : l0_9.length ≤ c0_9) (hr0_10 : Kd.C (Kd.int .u8) w A0_10 l0_10.length l0_10) (hc0_10 : l0_10.length ≤ c0_10) (h : spec_SegmentOk.f k a0_0 a0_1 a0_2 a0_3 a0_4 a0_5 a0_6 a0_7 a0_8 l0_9 l0_10 = some r) :
  Calls Try.prog 59 #[.agg #[.int .i64 a0_0, .int .i64 a0_1, .int .i64 a0_2, .int .i64 a0_3, .int .i64 a0_4, .bool a0_5, .bool a0_6, .bool a0_7, .bool a0_8, .slice A0_9 l0_9.length c0_9, .slice A0_10 l0_10.length c0_10]] w fun e w' => e = .returned (.bool r) ∧ Below w.heap.size w w' := by
 have hu52 := Try.underlying52; have HR0_9 := Aside0.mk hr0_9; have HC0_9 := Aside0.mk hc0_9; clear hr0_9 hc0_9; have HR0_10 := Aside0.mk hr0_10; have HC0_10 := Aside0.mk hc0_10; clear hr0_10 hc0_10
 have HB := Aside0.mk (Below.refl w.heap.size w)
 have H : ((spec_l1In.f a0_0 1 255).bind fun t392 => (if t392 = true then ((spec_l1In.f a0_1 1 255).bind fun t393 => (if t393 = true then ((spec_l1In.f a0_2 0 65535).bind fun t394 => (if t394 = true then ((spec_l1In.f a0_3 0 65535).bind fun t395 => (if t395 = true then ((spec_l1In.f a0_4 0 255).bind fun t396 => (if t396 = true then (if (l0_9.length : Int) > 2 then (spec_SegmentOk.j0 k true a0_0 a0_1 a0_2 a0_3 a0_4 a0_5 a0_6 a0_7 a0_8 l0_9 l0_10) else (spec_SegmentOk.j0 k (decide ((l0_10.length : Int) > 12)) a0_0 a0_1 a0_2 a0_3 a0_4 a0_5 a0_6 a0_7 a0_8 l0_9 l0_10)) else (spec_SegmentOk.j0 k true a0_0 a0_1 a0_2 a0_3 a0_4 a0_5 a0_6 a0_7 a0_8 l0_9 l0_10))) else (spec_SegmentOk.j0 k true a0_0 a0_1 a0_2 a0_3 a0_4 a0_5 a0_6 a0_7 a0_8 l0_9 l0_10))) else (spec_SegmentOk.j0 k true a0_0 a0_1 a0_2 a0_3 a0_4 a0_5 a0_6 a0_7 a0_8 l0_9 l0_10))) else (spec_SegmentOk.j0 k true a0_0 a0_1 a0_2 a0_3 a0_4 a0_5 a0_6 a0_7 a0_8 l0_9 l0_10))) else (spec_SegmentOk.j0 k true a0_0 a0_1 a0_2 a0_3 a0_4 a0_5 a0_6 a0_7 a0_8 l0_9 l0_10))) = some r := h
 clear h; have HC2 := Aside0.mk H; clear H
 go_enter Try.func59, Try.ntmps59
 go_upto_region 1 with (first | ((with_reducible refine gate_dst (N := 1) rfl ?_); (try (refine gate_guard (by rfl) ?_; dsimp only)); refine box_ (N := 1) (cs := #[.int .i64 a0_0, .int .i64 a0_1, .int .i64 a0_2, .int .i64 a0_3, .int .i64 a0_4, .bool a0_5, .bool a0_6, .bool a0_7, .bool a0_8, .slice A0_9 l0_9.length c0_9, .slice A0_10 l0_10.length c0_10]) (t := 52) (fun gb391 hg w3 hbox hb => ?_); have BK391 := Aside0.mk (hbox); have GW391 := ge_ hg HB; have GE391 := ge_ hg HB; replace HB := (bs_ HB hb); clear hb hbox hg))
 (try simp only [Act.put, List.setIfInBounds_toArray, List.set_cons_zero, List.set_cons_succ])
 go_cut [43] (fun v43 wc => ∃ (kq : Nat) (x43_1 : Bool), v43 = .bool x43_1 ∧ Aside0 (spec_SegmentOk.j0 kq x43_1 a0_0 a0_1 a0_2 a0_3 a0_4 a0_5 a0_6 a0_7 a0_8 l0_9 l0_10 = some r) ∧ Aside0 (kq ≤ k) ∧ Aside0 (wc.heap[gb391]? = some (.cells #[.int .i64 a0_0, .int .i64 a0_1, .int .i64 a0_2, .int .i64 a0_3, .int .i64 a0_4, .bool a0_5, .bool a0_6, .bool a0_7, .bool a0_8, (.slice A0_9 l0_9.length c0_9), (.slice A0_10 l0_10.length c0_10)] 52 (0, 0))) ∧ Aside0 (Below w.heap.size w wc))
 case first =>
  have H := HC2.out; clear HC2
  replace H := Option.bind_eq_some_iff.mp H
  obtain ⟨t392, A40, H⟩ := H
  (try dsimp only at H)
  have A4 := Aside0.mk A40; clear A40
  by_cases c5 : t392 = true
  ·subst c5
   rw [if_pos rfl] at H
   replace H := Option.bind_eq_some_iff.mp H
   obtain ⟨t393, A60, H⟩ := H
   (try dsimp only at H)
   have A6 := Aside0.mk A60; clear A60
   by_cases c7 : t393 = true
   ·subst c7
    rw [if_pos rfl] at H
    replace H := Option.bind_eq_some_iff.mp H
    obtain ⟨t394, A80, H⟩ := H
    (try dsimp only at H)
    have A8 := Aside0.mk A80; clear A80
    by_cases c9 : t394 = true
    ·subst c9
     rw [if_pos rfl] at H
     replace H := Option.bind_eq_some_iff.mp H
     obtain ⟨t395, A100, H⟩ := H
     (try dsimp only at H)
     have A10 := Aside0.mk A100; clear A100
     by_cases c11 : t395 = true
     ·subst c11
      rw [if_pos rfl] at H
      replace H := Option.bind_eq_some_iff.mp H
      obtain ⟨t396, A120, H⟩ := H
      (try dsimp only at H)
      have A12 := Aside0.mk A120; clear A120
      by_cases c13 : t396 = true
      ·subst c13
       rw [if_pos rfl] at H
       by_cases c14 : (l0_9.length : Int) > 2
       ·rw [if_pos c14] at H
        have c14b0 : decide (2 < (l0_9.length : Int)) = true := decide_eq_true c14
        have c14b1 : decide (2 < l0_9.length) = true := decide_eq_true (by omega)
        clear c14
        (first | rw [c14b0] | (simp only [i64_w, i32_w]; rw [c14b0]) | skip)
        have H' := Aside0.mk H
        clear H; have Z15 := zz11 BK391
        go_wp2_with (first | ((with_reducible refine gate_callee (f := 52) rfl ?_); refine goesL_ (some 6) rfl rfl Try.func52 (by kernel_rfl) rfl #[.int .i64 a0_0, .int .i64 1, .int .i64 255] rfl ar_ ?_; (with_reducible refine (spec_l1In.calls a0_0 1 255 true _ A4.out).mono ?_); rintro e w' ⟨rfl, ⟨nd, rfl⟩⟩; refine ⟨_, rfl, ?_⟩) | (go_at_call 52; (with_reducible refine (spec_l1In.calls a0_1 1 255 true _ A6.out).mono ?_); rintro e w' ⟨rfl, ⟨nd, rfl⟩⟩) | (go_at_call 52; (with_reducible refine (spec_l1In.calls a0_2 0 65535 true _ A8.out).mono ?_); rintro e w' ⟨rfl, ⟨nd, rfl⟩⟩) | (go_at_call 52; (with_reducible refine (spec_l1In.calls a0_3 0 65535 true _ A10.out).mono ?_); rintro e w' ⟨rfl, ⟨nd, rfl⟩⟩) | (go_at_call 52; (with_reducible refine (spec_l1In.calls a0_4 0 255 true _ A12.out).mono ?_); rintro e w' ⟨rfl, ⟨nd, rfl⟩⟩))
        go_meet
        case rel => exact ⟨_, (true), (by first | rfl | (simp; done) | (simp [*]; done)), H', ⟨by first | omega | exact Nat.le_refl _⟩, ⟨by refine kb_ ?_; exact BK391.out⟩, ⟨hbA_ HB.out⟩⟩
       ·rw [if_neg c14] at H
        have c14b0 : decide (2 < (l0_9.length : Int)) = false := decide_eq_false c14
        have c14b1 : decide (2 < l0_9.length) = false := decide_eq_false (by omega)
        clear c14
        (first | rw [c14b0] | (simp only [i64_w, i32_w]; rw [c14b0]) | skip)
        have H' := Aside0.mk H
        clear H; have Z16 := zz11 BK391
        go_wp2_with (first | ((with_reducible refine gate_callee (f := 52) rfl ?_); refine goesL_ (some 6) rfl rfl Try.func52 (by kernel_rfl) rfl #[.int .i64 a0_0, .int .i64 1, .int .i64 255] rfl ar_ ?_; (with_reducible refine (spec_l1In.calls a0_0 1 255 true _ A4.out).mono ?_); rintro e w' ⟨rfl, ⟨nd, rfl⟩⟩; refine ⟨_, rfl, ?_⟩) | (go_at_call 52; (with_reducible refine (spec_l1In.calls a0_1 1 255 true _ A6.out).mono ?_); rintro e w' ⟨rfl, ⟨nd, rfl⟩⟩) | (go_at_call 52; (with_reducible refine (spec_l1In.calls a0_2 0 65535 true _ A8.out).mono ?_); rintro e w' ⟨rfl, ⟨nd, rfl⟩⟩) | (go_at_call 52; (with_reducible refine (spec_l1In.calls a0_3 0 65535 true _ A10.out).mono ?_); rintro e w' ⟨rfl, ⟨nd, rfl⟩⟩) | (go_at_call 52; (with_reducible refine (spec_l1In.calls a0_4 0 255 true _ A12.out).mono ?_); rintro e w' ⟨rfl, ⟨nd, rfl⟩⟩))
        go_meet
        case rel => exact ⟨_, (decide ((l0_10.length : Int) > 12)), (by first | rfl | (simp; done) | (simp [*]; done)), H', ⟨by first | omega | exact Nat.le_refl _⟩, ⟨by refine kb_ ?_; exact BK391.out⟩, ⟨hbA_ HB.out⟩⟩
      ·replace c13 := Bool.eq_false_iff.mpr c13
       subst c13
       rw [if_neg (show ¬ (false = true) by decide)] at H
       have H' := Aside0.mk H
       clear H; have Z17 := zz11 BK391
       go_wp2_with (first | ((with_reducible refine gate_callee (f := 52) rfl ?_); refine goesL_ (some 6) rfl rfl Try.func52 (by kernel_rfl) rfl #[.int .i64 a0_0, .int .i64 1, .int .i64 255] rfl ar_ ?_; (with_reducible refine (spec_l1In.calls a0_0 1 255 true _ A4.out).mono ?_); rintro e w' ⟨rfl, ⟨nd, rfl⟩⟩; refine ⟨_, rfl, ?_⟩) | (go_at_call 52; (with_reducible refine (spec_l1In.calls a0_1 1 255 true _ A6.out).mono ?_); rintro e w' ⟨rfl, ⟨nd, rfl⟩⟩) | (go_at_call 52; (with_reducible refine (spec_l1In.calls a0_2 0 65535 true _ A8.out).mono ?_); rintro e w' ⟨rfl, ⟨nd, rfl⟩⟩) | (go_at_call 52; (with_reducible refine (spec_l1In.calls a0_3 0 65535 true _ A10.out).mono ?_); rintro e w' ⟨rfl, ⟨nd, rfl⟩⟩) | (go_at_call 52; (with_reducible refine (spec_l1In.calls a0_4 0 255 false _ A12.out).mono ?_); rintro e w' ⟨rfl, ⟨nd, rfl⟩⟩))
       go_meet
       case rel => exact ⟨_, (true), (by first | rfl | (simp; done) | (simp [*]; done)), H', ⟨by first | omega | exact Nat.le_refl _⟩, ⟨by refine kb_ ?_; exact BK391.out⟩, ⟨hbA_ HB.out⟩⟩
     ·replace c11 := Bool.eq_false_iff.mpr c11
      subst c11
      rw [if_neg (show ¬ (false = true) by decide)] at H
      have H' := Aside0.mk H
      clear H; have Z18 := zz11 BK391
      go_wp2_with (first | ((with_reducible refine gate_callee (f := 52) rfl ?_); refine goesL_ (some 6) rfl rfl Try.func52 (by kernel_rfl) rfl #[.int .i64 a0_0, .int .i64 1, .int .i64 255] rfl ar_ ?_; (with_reducible refine (spec_l1In.calls a0_0 1 255 true _ A4.out).mono ?_); rintro e w' ⟨rfl, ⟨nd, rfl⟩⟩; refine ⟨_, rfl, ?_⟩) | (go_at_call 52; (with_reducible refine (spec_l1In.calls a0_1 1 255 true _ A6.out).mono ?_); rintro e w' ⟨rfl, ⟨nd, rfl⟩⟩) | (go_at_call 52; (with_reducible refine (spec_l1In.calls a0_2 0 65535 true _ A8.out).mono ?_); rintro e w' ⟨rfl, ⟨nd, rfl⟩⟩) | (go_at_call 52; (with_reducible refine (spec_l1In.calls a0_3 0 65535 false _ A10.out).mono ?_); rintro e w' ⟨rfl, ⟨nd, rfl⟩⟩))
      go_meet
      case rel => exact ⟨_, (true), (by first | rfl | (simp; done) | (simp [*]; done)), H', ⟨by first | omega | exact Nat.le_refl _⟩, ⟨by refine kb_ ?_; exact BK391.out⟩, ⟨hbA_ HB.out⟩⟩
    ·replace c9 := Bool.eq_false_iff.mpr c9
     subst c9
     rw [if_neg (show ¬ (false = true) by decide)] at H
     have H' := Aside0.mk H
     clear H; have Z19 := zz11 BK391
     go_wp2_with (first | ((with_reducible refine gate_callee (f := 52) rfl ?_); refine goesL_ (some 6) rfl rfl Try.func52 (by kernel_rfl) rfl #[.int .i64 a0_0, .int .i64 1, .int .i64 255] rfl ar_ ?_; (with_reducible refine (spec_l1In.calls a0_0 1 255 true _ A4.out).mono ?_); rintro e w' ⟨rfl, ⟨nd, rfl⟩⟩; refine ⟨_, rfl, ?_⟩) | (go_at_call 52; (with_reducible refine (spec_l1In.calls a0_1 1 255 true _ A6.out).mono ?_); rintro e w' ⟨rfl, ⟨nd, rfl⟩⟩) | (go_at_call 52; (with_reducible refine (spec_l1In.calls a0_2 0 65535 false _ A8.out).mono ?_); rintro e w' ⟨rfl, ⟨nd, rfl⟩⟩))
     go_meet
     case rel => exact ⟨_, (true), (by first | rfl | (simp; done) | (simp [*]; done)), H', ⟨by first | omega | exact Nat.le_refl _⟩, ⟨by refine kb_ ?_; exact BK391.out⟩, ⟨hbA_ HB.out⟩⟩
   ·replace c7 := Bool.eq_false_iff.mpr c7
    subst c7
    rw [if_neg (show ¬ (false = true) by decide)] at H
    have H' := Aside0.mk H
    clear H; have Z20 := zz11 BK391
    go_wp2_with (first | ((with_reducible refine gate_callee (f := 52) rfl ?_); refine goesL_ (some 6) rfl rfl Try.func52 (by kernel_rfl) rfl #[.int .i64 a0_0, .int .i64 1, .int .i64 255] rfl ar_ ?_; (with_reducible refine (spec_l1In.calls a0_0 1 255 true _ A4.out).mono ?_); rintro e w' ⟨rfl, ⟨nd, rfl⟩⟩; refine ⟨_, rfl, ?_⟩) | (go_at_call 52; (with_reducible refine (spec_l1In.calls a0_1 1 255 false _ A6.out).mono ?_); rintro e w' ⟨rfl, ⟨nd, rfl⟩⟩))
    go_meet
    case rel => exact ⟨_, (true), (by first | rfl | (simp; done) | (simp [*]; done)), H', ⟨by first | omega | exact Nat.le_refl _⟩, ⟨by refine kb_ ?_; exact BK391.out⟩, ⟨hbA_ HB.out⟩⟩
  ·replace c5 := Bool.eq_false_iff.mpr c5
   subst c5
   rw [if_neg (show ¬ (false = true) by decide)] at H
   have H' := Aside0.mk H
   clear H; have Z21 := zz11 BK391
   go_wp2_with (first | ((with_reducible refine gate_callee (f := 52) rfl ?_); refine goesL_ (some 6) rfl rfl Try.func52 (by kernel_rfl) rfl #[.int .i64 a0_0, .int .i64 1, .int .i64 255] rfl ar_ ?_; (with_reducible refine (spec_l1In.calls a0_0 1 255 false _ A4.out).mono ?_); rintro e w' ⟨rfl, ⟨nd, rfl⟩⟩; refine ⟨_, rfl, ?_⟩))
   go_meet
   case rel => exact ⟨_, (true), (by first | rfl | (simp; done) | (simp [*]; done)), H', ⟨by first | omega | exact Nat.le_refl _⟩, ⟨by refine kb_ ?_; exact BK391.out⟩, ⟨hbA_ HB.out⟩⟩
 case rest =>
  clear HC2; (try clear c1); (try clear p2); (try clear c5); (try clear c7); (try clear c9); (try clear c11); (try clear c13); (try clear c14); (try clear c14b0); (try clear c14b1); (try clear Z15); (try clear Z16); (try clear Z17); (try clear Z18); (try clear Z19); (try clear Z20); (try clear Z21)
  
  obtain ⟨kq, x43_1, rfl, HA, HJ1, BK391, HB⟩ := hcut
  cases kq with
  | zero => exact absurd HA.out (by simp [spec_SegmentOk.j0])
  | succ kj1 =>
   have H := HA.out; clear HA
   simp only [spec_SegmentOk.j0] at H
   by_cases c22 : x43_1 = true
   ·subst c22
    rw [if_pos rfl] at H
    obtain rfl := Option.some.inj H
    go_wp2
    go_ret
    exact ⟨by first | rfl | (simp [errW_none, errW_some] <;> rfl) | (simp [*, errW_none, errW_some] <;> rfl), hbA_ HB.out⟩
   ·replace c22 := Bool.eq_false_iff.mpr c22
    subst c22
    rw [if_neg (show ¬ (false = true) by decide)] at H
    have H' := Aside0.mk H
    clear H
    go_wp2
    go_loopg [3] kj1 (fun kq v3 w' => ∃ (x3_2 : Int), v3 = .int .i64 x3_2 ∧ Aside0 (spec_SegmentOk.l0 kq x3_2 a0_0 a0_1 a0_2 a0_3 a0_4 a0_5 a0_6 a0_7 a0_8 l0_9 l0_10 = some r) ∧ Aside0 (kq ≤ kj1) ∧ Aside0 (w'.heap[gb391]? = some (.cells #[.int .i64 a0_0, .int .i64 a0_1, .int .i64 a0_2, .int .i64 a0_3, .int .i64 a0_4, .bool a0_5, .bool a0_6, .bool a0_7, .bool a0_8, (.slice A0_9 l0_9.length c0_9), (.slice A0_10 l0_10.length c0_10)] 52 (0, 0))) ∧ Aside0 (Below w.heap.size w w'))
    case atStart => exact ⟨(0), (by first | rfl | (simp; done) | (simp [*]; done)), H', ⟨Nat.le_refl _⟩, ⟨by refine kb_ ?_; exact BK391.out⟩, ⟨hbA_ HB.out⟩⟩
    case round =>
     clear H'; (try clear c1); (try clear c2); (try clear p2); (try clear c5); (try clear c7); (try clear c9); (try clear c11); (try clear c13); (try clear c14); (try clear c14b0); (try clear c14b1); (try clear c22); (try clear Z15); (try clear Z16); (try clear Z17); (try clear Z18); (try clear Z19); (try clear Z20); (try clear Z21)
     (try clear p2)
     obtain ⟨x3_2, rfl, HA, HK2, BK391, HB⟩ := hrel
     cases gk with
     | zero => exact absurd HA.out (by simp [spec_SegmentOk.l0])
     | succ k2 =>
      have H := HA.out; clear HA
      simp only [spec_SegmentOk.l0] at H
      by_cases c23 : x3_2 < (l0_9.length : Int)
      ·rw [if_pos c23] at H
       have c23b0 : decide (x3_2 < (l0_9.length : Int)) = true := decide_eq_true c23
       clear c23
       by_cases c24 : 0 ≤ x3_2
       ·rw [if_pos c24] at H
        have c24b0 : decide (0 ≤ x3_2) = true := decide_eq_true c24
        clear c24
        replace H := Option.bind_eq_some_iff.mp H
        obtain ⟨t398, A250, H⟩ := H
        (try dsimp only at H)
        have A25 := Aside0.mk A250; clear A250
        by_cases c26 : t398 = true
        ·subst c26
         rw [if_pos rfl] at H
         replace H := Option.bind_eq_some_iff.mp H
         obtain ⟨t400, A270, H⟩ := H
         (try dsimp only at H)
         have A27 := Aside0.mk A270; clear A270
         by_cases c28 : t400 = true
         ·subst c28
          rw [if_pos rfl] at H
          have H' := Aside0.mk H
          clear H; have Z29 := zz11 BK391
          have p397 : 0 ≤ (x3_2 : Int) := of_decide_eq_true (by first | (with_reducible assumption) | assumption)
          have q397 : x3_2 < (l0_9.length : Int) := of_decide_eq_true (by first | (with_reducible assumption) | assumption)
          obtain ⟨ad397, e397, hx397_0, hx397_1⟩ := at_T90 HR0_9.out x3_2 p397 q397
          cases e397
          replace hx397_0 := cc_ HB hx397_0
          replace hx397_1 := cc_ HB hx397_1
          replace p397 := eq_true p397
          replace q397 := eq_true q397
          go_wp2_with (first | ((with_reducible refine gate_callee (f := 52) rfl ?_); refine goesL_ (some 57) rfl rfl Try.func52 (by kernel_rfl) rfl #[.int .i64 ((rd_T90 l0_9 x3_2).f0), .int .i64 0, .int .i64 65535] rfl ar_ ?_; (with_reducible refine (spec_l1In.calls ((rd_T90 l0_9 x3_2).f0) 0 65535 true _ A25.out).mono ?_); rintro e w' ⟨rfl, ⟨nd, rfl⟩⟩; refine ⟨_, rfl, ?_⟩; have p399 : 0 ≤ (x3_2 : Int) := of_decide_eq_true (by first | (with_reducible assumption) | assumption); have q399 : x3_2 < (l0_9.length : Int) := of_decide_eq_true (by first | (with_reducible assumption) | assumption); obtain ⟨ad399, e399, hx399_0, hx399_1⟩ := at_T90 HR0_9.out x3_2 p399 q399; obtain rfl : ad397 = ad399 := (by injection e399); replace hx399_0 := cc_ HB hx399_0; replace hx399_1 := cc_ HB hx399_1; replace p399 := eq_true p399; replace q399 := eq_true q399) | (go_at_call 52; (with_reducible refine (spec_l1In.calls ((rd_T90 l0_9 x3_2).f1) 0 65535 true _ A27.out).mono ?_); rintro e w' ⟨rfl, ⟨nd, rfl⟩⟩))
          go_roundg k2
          case measure => have := HJ1.out; have := HK2.out; omega
          case rel => exact ⟨(wrap64 (x3_2 + 1)), (by first | rfl | (simp; done) | (simp [*]; done)), H', ⟨by have := HJ1.out; have := HK2.out; omega⟩, ⟨by refine kb_ ?_; exact BK391.out⟩, ⟨hbA_ HB.out⟩⟩
         ·replace c28 := Bool.eq_false_iff.mpr c28
          subst c28
          rw [if_neg (show ¬ (false = true) by decide)] at H
          obtain rfl := Option.some.inj H
          have Z30 := zz11 BK391
          have p397 : 0 ≤ (x3_2 : Int) := of_decide_eq_true (by first | (with_reducible assumption) | assumption)
          have q397 : x3_2 < (l0_9.length : Int) := of_decide_eq_true (by first | (with_reducible assumption) | assumption)
          obtain ⟨ad397, e397, hx397_0, hx397_1⟩ := at_T90 HR0_9.out x3_2 p397 q397
          cases e397
          replace hx397_0 := cc_ HB hx397_0
          replace hx397_1 := cc_ HB hx397_1
          replace p397 := eq_true p397
          replace q397 := eq_true q397
          go_wp2_with (first | ((with_reducible refine gate_callee (f := 52) rfl ?_); refine goesL_ (some 57) rfl rfl Try.func52 (by kernel_rfl) rfl #[.int .i64 ((rd_T90 l0_9 x3_2).f0), .int .i64 0, .int .i64 65535] rfl ar_ ?_; (with_reducible refine (spec_l1In.calls ((rd_T90 l0_9 x3_2).f0) 0 65535 true _ A25.out).mono ?_); rintro e w' ⟨rfl, ⟨nd, rfl⟩⟩; refine ⟨_, rfl, ?_⟩; have p399 : 0 ≤ (x3_2 : Int) := of_decide_eq_true (by first | (with_reducible assumption) | assumption); have q399 : x3_2 < (l0_9.length : Int) := of_decide_eq_true (by first | (with_reducible assumption) | assumption); obtain ⟨ad399, e399, hx399_0, hx399_1⟩ := at_T90 HR0_9.out x3_2 p399 q399; obtain rfl : ad397 = ad399 := (by injection e399); replace hx399_0 := cc_ HB hx399_0; replace hx399_1 := cc_ HB hx399_1; replace p399 := eq_true p399; replace q399 := eq_true q399) | (go_at_call 52; (with_reducible refine (spec_l1In.calls ((rd_T90 l0_9 x3_2).f1) 0 65535 false _ A27.out).mono ?_); rintro e w' ⟨rfl, ⟨nd, rfl⟩⟩))
          go_ret
          exact ⟨by first | rfl | (simp [errW_none, errW_some] <;> rfl) | (simp [*, errW_none, errW_some] <;> rfl), hbA_ HB.out⟩
        ·replace c26 := Bool.eq_false_iff.mpr c26
         subst c26
         rw [if_neg (show ¬ (false = true) by decide)] at H
         obtain rfl := Option.some.inj H
         have Z31 := zz11 BK391
         have p397 : 0 ≤ (x3_2 : Int) := of_decide_eq_true (by first | (with_reducible assumption) | assumption)
         have q397 : x3_2 < (l0_9.length : Int) := of_decide_eq_true (by first | (with_reducible assumption) | assumption)
         obtain ⟨ad397, e397, hx397_0, hx397_1⟩ := at_T90 HR0_9.out x3_2 p397 q397
         cases e397
         replace hx397_0 := cc_ HB hx397_0
         replace hx397_1 := cc_ HB hx397_1
         replace p397 := eq_true p397
         replace q397 := eq_true q397
         go_wp2_with (first | ((with_reducible refine gate_callee (f := 52) rfl ?_); refine goesL_ (some 57) rfl rfl Try.func52 (by kernel_rfl) rfl #[.int .i64 ((rd_T90 l0_9 x3_2).f0), .int .i64 0, .int .i64 65535] rfl ar_ ?_; (with_reducible refine (spec_l1In.calls ((rd_T90 l0_9 x3_2).f0) 0 65535 false _ A25.out).mono ?_); rintro e w' ⟨rfl, ⟨nd, rfl⟩⟩; refine ⟨_, rfl, ?_⟩))
         go_ret
         exact ⟨by first | rfl | (simp [errW_none, errW_some] <;> rfl) | (simp [*, errW_none, errW_some] <;> rfl), hbA_ HB.out⟩
       ·rw [if_neg c24] at H
        exact absurd H (by simp)
      ·rw [if_neg c23] at H
       have c23b0 : decide (x3_2 < (l0_9.length : Int)) = false := decide_eq_false c23
       clear c23; have HC32 := Aside0.mk H; clear H; have Z33 := zz11 BK391
       go_upto_region 8 with (fail)
       go_cut [87] (fun v87 wc => ∃ (kq : Nat) (x87_31 : Bool), v87 = .bool x87_31 ∧ Aside0 (spec_SegmentOk.j2 kq x87_31 a0_0 a0_1 a0_2 a0_3 a0_4 a0_5 a0_6 a0_7 a0_8 l0_9 l0_10 = some r) ∧ Aside0 (kq ≤ k2) ∧ Aside0 (wc.heap[gb391]? = some (.cells #[.int .i64 a0_0, .int .i64 a0_1, .int .i64 a0_2, .int .i64 a0_3, .int .i64 a0_4, .bool a0_5, .bool a0_6, .bool a0_7, .bool a0_8, (.slice A0_9 l0_9.length c0_9), (.slice A0_10 l0_10.length c0_10)] 52 (0, 0))) ∧ Aside0 (Below w.heap.size w wc))
       case first =>
        have H := HC32.out; clear HC32
        by_cases c34 : a0_6 = true
        ·subst c34
         rw [if_pos rfl] at H
         have H' := Aside0.mk H
         clear H; have Z35 := zz11 BK391
         go_wp2
         go_meet
         case rel => exact ⟨_, (false), (by first | rfl | (simp; done) | (simp [*]; done)), H', ⟨by have := HJ1.out; have := HK2.out; first | omega | exact Nat.le_refl _⟩, ⟨by refine kb_ ?_; exact BK391.out⟩, ⟨hbA_ HB.out⟩⟩
        ·replace c34 := Bool.eq_false_iff.mpr c34
         subst c34
         rw [if_neg (show ¬ (false = true) by decide)] at H
         by_cases c36 : a0_3 = 0
         ·rw [if_pos c36] at H
          have c36b0 : (a0_3 == 0) = true := beq_iff_eq.mpr c36
          have c36b1 : (a0_3 != 0) = false := bne_eq_false_iff_eq.mpr c36
          clear c36
          (first | rw [c36b0] | (simp only [i64_w, i32_w]; rw [c36b0]) | skip)
          by_cases c37 : a0_4 = 0
          ·rw [if_pos c37] at H
           have c37b0 : (a0_4 == 0) = true := beq_iff_eq.mpr c37
           have c37b1 : (a0_4 != 0) = false := bne_eq_false_iff_eq.mpr c37
           clear c37
           have H' := Aside0.mk H
           clear H; have Z38 := zz11 BK391
           go_wp2
           go_meet
           case rel => exact ⟨_, (decide ((l0_9.length : Int) > 0)), (by first | rfl | (simp; done) | (simp [*]; done)), H', ⟨by have := HJ1.out; have := HK2.out; first | omega | exact Nat.le_refl _⟩, ⟨by refine kb_ ?_; exact BK391.out⟩, ⟨hbA_ HB.out⟩⟩
          ·rw [if_neg c37] at H
           have c37b0 : (a0_4 == 0) = false := beq_eq_false_iff_ne.mpr c37
           have c37b1 : (a0_4 != 0) = true := bne_iff_ne.mpr c37
           have H' := Aside0.mk H
           clear H; have Z39 := zz11 BK391
           go_wp2
           go_meet
           case rel => exact ⟨_, (true), (by first | rfl | (simp; done) | (simp [*]; done)), H', ⟨by have := HJ1.out; have := HK2.out; first | omega | exact Nat.le_refl _⟩, ⟨by refine kb_ ?_; exact BK391.out⟩, ⟨hbA_ HB.out⟩⟩
         ·rw [if_neg c36] at H
          have c36b0 : (a0_3 == 0) = false := beq_eq_false_iff_ne.mpr c36
          have c36b1 : (a0_3 != 0) = true := bne_iff_ne.mpr c36
          (first | rw [c36b0] | (simp only [i64_w, i32_w]; rw [c36b0]) | skip)
          have H' := Aside0.mk H
          clear H; have Z40 := zz11 BK391
          go_wp2
          go_meet
          case rel => exact ⟨_, (true), (by first | rfl | (simp; done) | (simp [*]; done)), H', ⟨by have := HJ1.out; have := HK2.out; first | omega | exact Nat.le_refl _⟩, ⟨by refine kb_ ?_; exact BK391.out⟩, ⟨hbA_ HB.out⟩⟩
       case rest =>
        clear HC32; (try clear c1); (try clear c2); (try clear p2); (try clear c3); (try clear p3); (try clear q3); (try clear hx3); (try clear c5); (try clear p6); (try clear c7); (try clear c9); (try clear c11); (try clear c13); (try clear c14); (try clear c14b0); (try clear c14b1); (try clear c22); (try clear c23); (try clear c23b0); (try clear c24); (try clear c24b0); (try clear c26); (try clear c28); (try clear c34); (try clear c36); (try clear c36b0); (try clear c36b1); (try clear c37); (try clear c37b0); (try clear c37b1); (try clear p39); (try clear q39); (try clear hx39); (try clear Z15); (try clear Z16); (try clear Z17); (try clear Z18); (try clear Z19); (try clear Z20); (try clear Z21); (try clear Z29); (try clear Z30); (try clear Z31); (try clear Z33)
        (try clear Z35); (try clear Z38); (try clear Z39); (try clear Z40)
        (try clear hx397_0); (try clear hx397_1); (try clear hx399_0); (try clear hx399_1); (try clear p2); (try clear p397); (try clear p399); (try clear q397); (try clear q399)
        obtain ⟨kq, x87_31, rfl, HA, HJ31, BK391, HB⟩ := hcut
        cases kq with
        | zero => exact absurd HA.out (by simp [spec_SegmentOk.j2])
        | succ kj31 =>
         have H := HA.out; clear HA
         simp only [spec_SegmentOk.j2] at H
         by_cases c41 : x87_31 = true
         ·subst c41
          rw [if_pos rfl] at H
          obtain rfl := Option.some.inj H
          go_wp2
          go_ret
          exact ⟨by first | rfl | (simp [errW_none, errW_some] <;> rfl) | (simp [*, errW_none, errW_some] <;> rfl), hbA_ HB.out⟩
         ·replace c41 := Bool.eq_false_iff.mpr c41
          subst c41
          rw [if_neg (show ¬ (false = true) by decide)] at H
          by_cases c42 : a0_8 = true
          ·subst c42
           rw [if_pos rfl] at H
           by_cases c43 : a0_5 = true
           ·subst c43
            rw [if_pos rfl] at H
            obtain rfl := Option.some.inj H
            have Z44 := zz11 BK391
            go_wp2
            go_ret
            exact ⟨by first | rfl | (simp [errW_none, errW_some] <;> rfl) | (simp [*, errW_none, errW_some] <;> rfl), hbA_ HB.out⟩
           ·replace c43 := Bool.eq_false_iff.mpr c43
            subst c43
            rw [if_neg (show ¬ (false = true) by decide)] at H
            by_cases c45 : a0_7 = true
            ·subst c45
             rw [if_pos rfl] at H
             obtain rfl := Option.some.inj H
             have Z46 := zz11 BK391
             go_wp2
             go_ret
             exact ⟨by first | rfl | (simp [errW_none, errW_some] <;> rfl) | (simp [*, errW_none, errW_some] <;> rfl), hbA_ HB.out⟩
            ·replace c45 := Bool.eq_false_iff.mpr c45
             subst c45
             rw [if_neg (show ¬ (false = true) by decide)] at H
             obtain rfl := Option.some.inj H
             have Z47 := zz11 BK391
             go_wp2
             go_ret
             exact ⟨by first | rfl | (simp [errW_none, errW_some] <;> rfl) | (simp [*, errW_none, errW_some] <;> rfl), hbA_ HB.out⟩
          ·replace c42 := Bool.eq_false_iff.mpr c42
           subst c42
           rw [if_neg (show ¬ (false = true) by decide)] at H
           obtain rfl := Option.some.inj H
           have Z48 := zz11 BK391
           go_wp2
           go_ret
           exact ⟨by first | rfl | (simp [errW_none, errW_some] <;> rfl) | (simp [*, errW_none, errW_some] <;> rfl), hbA_ HB.out⟩
end Go.Proofs.Ytpbeljcgcdilnaa.PFnSegmentBytes
