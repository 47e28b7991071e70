/- Printed by wip/xp/xprint.sh out of the translation, for this claim: what each function answers, as a plain function, and that the machine does just that. No condition. -/
import Derived.Test.YtpbeljcgcdilnaaPFnPartWholex0
import Derived.Test.YtpbeljcgcdilnaaPFnPartWholex1
import Derived.Test.YtpbeljcgcdilnaaPFnPartWholex2
namespace Go.Proofs.Ytpbeljcgcdilnaa.PFnPartWhole
open Go.RowKit Go.Proofs.YtpbeljcgcdilnaaW.PrintWords Go.Proofs.YtpbeljcgcdilnaaW.PrintLast Go.Proofs.YtpbeljcgcdilnaaW.PrintMore
attribute [local go_sem] max2_int min2_int max_two min_two max_three min_three max_four min_four   -- for this text's walks alone
set_option linter.unusedVariables false
set_option linter.unusedSimpArgs false
mutual
def spec_l20Part.l0 : Nat → Int → List (S28) → Int → List Int → Int → List (S28) → Int → Option ((List (S28)) × Int × Int)
 | 0, _, _, _, _, _, _, _ => none
 | k + 1, x1, x5, x8, x1000, x1001, x241000, x241001 => if x8 < (x5.length : Int) then ((spec_l20Rd_pick.f k x1000 x1001 3).bind fun bt241 => (if bt241.1 > 0 then (spec_l20Part.j1 k x1 x5 x8 true x1000 bt241.2 x241000 x241001) else (if (x241000.length : Int) = 0 then (spec_l20Part.j1 k x1 x5 x8 (x8 == (wrap64 ((x5.length : Int) - 1))) x1000 bt241.2 x241000 x241001) else (spec_l20Part.j1 k x1 x5 x8 false x1000 bt241.2 x241000 x241001)))) else ((spec_l20Rd_odd.f k x1000 x1001 x1).bind fun bt247 => (if bt247.1 = true then ((spec_l20Rd_pick.f k x1000 bt247.2 4).bind fun bt249 => (if bt249.1 = 0 then ((spec_l20Rd_pick.f k x1000 bt249.2 9).bind fun bt251 => (if 0 < (x241000.length : Int) then (some ((x241000.set (0 : Int).toNat (⟨(rd_T28 x241000 0).f0, (rd_T28 x241000 0).f1, (rd_T28 x241000 0).f2, (rd_T28 x241000 0).f3, (rd_T28 x241000 0).f4, bt251.1, (rd_T28 x241000 0).f6, (rd_T28 x241000 0).f7, (rd_T28 x241000 0).f8⟩ : S28)), x241001, bt251.2)) else (none))) else (if bt249.1 = 1 then (if 0 < (x241000.length : Int) then (some ((x241000.set (0 : Int).toNat (⟨(rd_T28 x241000 0).f0, (rd_T28 x241000 0).f1, (rd_T28 x241000 0).f2, (rd_T28 x241000 0).f3, (rd_T28 x241000 0).f4, (rd_T28 x241000 0).f5, false, (rd_T28 x241000 0).f7, (rd_T28 x241000 0).f8⟩ : S28)), x241001, bt249.2)) else (none)) else (if bt249.1 = 2 then (if 0 < (x241000.length : Int) then (if x241000.length < 1759218604441 then (some ((x241000 ++ [(⟨(rd_T28 x241000 0).f0, (rd_T28 x241000 0).f1, (rd_T28 x241000 0).f2, (rd_T28 x241000 0).f3, (rd_T28 x241000 0).f4, (rd_T28 x241000 0).f5, (rd_T28 x241000 0).f6, (rd_T28 x241000 0).f7, (rd_T28 x241000 0).f8⟩ : S28)]), x241001, bt249.2)) else (none)) else (none)) else (some ((([] : List (S28))), x241001, bt249.2)))))) else (some (x241000, x241001, bt247.2))))
def spec_l20Part.j1 : Nat → Int → List (S28) → Int → Bool → List Int → Int → List (S28) → Int → Option ((List (S28)) × Int × Int)
 | 0, _, _, _, _, _, _, _, _ => none
 | k + 1, x1, x5, x8, x42, x1000, x1001, x241000, x241001 => if x42 = true then (if 0 ≤ x8 then (if x8 < (x5.length : Int) then (if x241000.length < 1759218604441 then (spec_l20Part.l0 k x1 x5 (wrap64 (x8 + 1)) x1000 x1001 (x241000 ++ [(⟨(rd_T28 x5 x8).f0, (rd_T28 x5 x8).f1, (rd_T28 x5 x8).f2, (rd_T28 x5 x8).f3, (rd_T28 x5 x8).f4, (rd_T28 x5 x8).f5, (rd_T28 x5 x8).f6, (rd_T28 x5 x8).f7, (rd_T28 x5 x8).f8⟩ : S28)]) x241001) else (none)) else (none)) else (none)) else (spec_l20Part.l0 k x1 x5 (wrap64 (x8 + 1)) x1000 x1001 x241000 x241001)
end
def spec_l20Part.f (k : Nat) (s0_0 : List Int) (s0_1 : Int) (a1 : Int) : Option ((List (S28)) × Int × Int) := (spec_l20Long.f k s0_0 s0_1).bind fun bt220 => ((spec_l20Rd_pick.f k s0_0 bt220.2.2.2.2.2.2.2.2.2 6).bind fun bt232 => ((spec_PacketCut.f k bt220.1 bt220.2.1 bt220.2.2.1 bt220.2.2.2.1 bt220.2.2.2.2.1 bt220.2.2.2.2.2.1 bt220.2.2.2.2.2.2.1 bt220.2.2.2.2.2.2.2.1 bt220.2.2.2.2.2.2.2.2.1 (wrap64 (1 + bt232.1))).bind fun bt234 => ((spec_l20Rd_pick.f k s0_0 bt232.2 40).bind fun bt238 => (spec_l20Part.l0 k a1 bt234.1 0 s0_0 bt238.2 ([] : List (S28)) bt238.1))))
theorem spec_l20Part.mono_l : ∀ k, (∀ y0 y1 y2 y3 y4 y5 y6, LeO (spec_l20Part.l0 k y0 y1 y2 y3 y4 y5 y6) (spec_l20Part.l0 (k + 1) y0 y1 y2 y3 y4 y5 y6)) ∧ (∀ y0 y1 y2 y3 y4 y5 y6 y7, LeO (spec_l20Part.j1 k y0 y1 y2 y3 y4 y5 y6 y7) (spec_l20Part.j1 (k + 1) y0 y1 y2 y3 y4 y5 y6 y7))
 | 0 => ⟨fun _ _ _ _ _ _ _ r h => by simp [spec_l20Part.l0] at h, fun _ _ _ _ _ _ _ _ r h => by simp [spec_l20Part.j1] at h⟩
 | k + 1 => by
  obtain ⟨ih0, ih1⟩ := spec_l20Part.mono_l k
  refine ⟨?_, ?_⟩
  ·intro y0 y1 y2 y3 y4 y5 y6
   unfold spec_l20Part.l0
   repeat' first | (with_reducible first | apply ih0 | apply ih1 | apply spec_PacketCut.mono | apply spec_l20Long.mono | apply spec_l20Rd_odd.mono | apply spec_l20Rd_pick.mono | exact LeO.refl _ | exact LeO.none _ | refine LeO.ite ?_ ?_ | refine LeO.bind ?_ fun _ => ?_) | apply ih0 | apply ih1 | apply spec_PacketCut.mono | apply spec_l20Long.mono | apply spec_l20Rd_odd.mono | apply spec_l20Rd_pick.mono | exact LeO.none _ | refine LeO.ite ?_ ?_ | refine LeO.bind ?_ fun _ => ?_
  ·intro y0 y1 y2 y3 y4 y5 y6 y7
   unfold spec_l20Part.j1
   repeat' first | (with_reducible first | apply ih0 | apply ih1 | apply spec_PacketCut.mono | apply spec_l20Long.mono | apply spec_l20Rd_odd.mono | apply spec_l20Rd_pick.mono | exact LeO.refl _ | exact LeO.none _ | refine LeO.ite ?_ ?_ | refine LeO.bind ?_ fun _ => ?_) | apply ih0 | apply ih1 | apply spec_PacketCut.mono | apply spec_l20Long.mono | apply spec_l20Rd_odd.mono | apply spec_l20Rd_pick.mono | exact LeO.none _ | refine LeO.ite ?_ ?_ | refine LeO.bind ?_ fun _ => ?_
theorem spec_l20Part.mono : ∀ a0 a1 a2 k, LeO (spec_l20Part.f k a0 a1 a2) (spec_l20Part.f (k + 1) a0 a1 a2) := by
 intro a0 a1 a2 k
 obtain ⟨ih0, ih1⟩ := spec_l20Part.mono_l k
 unfold spec_l20Part.f
 repeat' first | (with_reducible first | apply ih0 | apply ih1 | apply spec_PacketCut.mono | apply spec_l20Long.mono | apply spec_l20Rd_odd.mono | apply spec_l20Rd_pick.mono | exact LeO.refl _ | exact LeO.none _ | refine LeO.ite ?_ ?_ | refine LeO.bind ?_ fun _ => ?_) | apply ih0 | apply ih1 | apply spec_PacketCut.mono | apply spec_l20Long.mono | apply spec_l20Rd_odd.mono | apply spec_l20Rd_pick.mono | exact LeO.none _ | refine LeO.ite ?_ ?_ | refine LeO.bind ?_ fun _ => ?_
def spec_l20Part.T7 : Bool × List (List Nat × List Nat) := (true, [([], []), ([0], [0]), ([], []), ([], []), ([2, 3], [2, 3]), ([4], [4]), ([5], [5]), ([1, 6], [1, 6]), ([0, 1, 2, 3, 4, 5, 6, 7], []), ([8, 7, 7, 0, 1, 2, 3, 4, 5, 6, 7], [7, 8])])
def spec_l20Part.B7 : List Nat := [0, 1, 0, 0, 12, 28, 60, 127, 255, 511]
theorem spec_l20Part.tab7 : rtab .any (opsOf Try.f43 7) = spec_l20Part.T7 := by kernel_rfl
theorem spec_l20Part.bits7 : waitsOk spec_l20Part.T7.2 spec_l20Part.B7 = true := by kernel_rfl
def spec_l20Part.T16 : Bool × List (List Nat × List Nat) := (true, [([], []), ([0], [0]), ([], []), ([2], [2]), ([3], [3]), ([4], [4]), ([5], [5]), ([1, 6], [1, 6]), ([0, 1, 2, 3, 4, 5, 6, 7], []), ([8, 7, 7, 0, 1, 2, 3, 4, 5, 6, 7], [7, 8])])
def spec_l20Part.B16 : List Nat := [0, 1, 0, 4, 12, 28, 60, 127, 255, 511]
theorem spec_l20Part.tab16 : rtab .any (opsOf Try.f43 16) = spec_l20Part.T16 := by kernel_rfl
theorem spec_l20Part.bits16 : waitsOk spec_l20Part.T16.2 spec_l20Part.B16 = true := by kernel_rfl
set_option maxHeartbeats 8000000 in
set_option maxRecDepth 100000 in
theorem spec_l20Part.calls (k : Nat) (g : Nat) (s0_0 : List Int) (s0_1 : Int) (a1 : Int) (r1 : List (S28)) (r2 : Int) (r3 : Int) (w0 w : World) (hI : IsS102 w0 w g s0_0 s0_1) (hB : Below w0.heap.size w0 w) (h : spec_l20Part.f k s0_0 s0_1 a1 = some (r1, r2, r3)) :
  Calls Try.prog 43 #[.pointer (some ⟨g, 0, none⟩), .int .i64 a1] w fun e w' => ∃ v0_ : Value, e = .returned (.agg #[v0_, .int .i64 r2]) ∧ Kd.N k28 28 w' w.heap.size (fun k_ => (w.heap.size ≤ k_)) v0_ r1 ∧ IsS102 w0 w' g s0_0 r3 ∧ Below w0.heap.size w0 w' ∧ KeepBut w w' g none := by
 have hu25 := Try.underlying25; have hu28 := Try.underlying28; have HI0 := Aside0.mk hI
 have HK := Aside0.mk (KeepBut.refl w g none)
 have HL := Aside0.mk hB.size; clear hI; have HW0 := Aside0.mk hB.size; have HB := Aside0.mk hB; clear hB
 have H : ((spec_l20Long.f k s0_0 s0_1).bind fun bt220 => ((spec_l20Rd_pick.f k s0_0 bt220.2.2.2.2.2.2.2.2.2 6).bind fun bt232 => ((spec_PacketCut.f k bt220.1 bt220.2.1 bt220.2.2.1 bt220.2.2.2.1 bt220.2.2.2.2.1 bt220.2.2.2.2.2.1 bt220.2.2.2.2.2.2.1 bt220.2.2.2.2.2.2.2.1 bt220.2.2.2.2.2.2.2.2.1 (wrap64 (1 + bt232.1))).bind fun bt234 => ((spec_l20Rd_pick.f k s0_0 bt232.2 40).bind fun bt238 => (spec_l20Part.l0 k a1 bt234.1 0 s0_0 bt238.2 ([] : List (S28)) bt238.1))))) = some (r1, r2, r3) := h
 clear h
 replace H := Option.bind_eq_some_iff.mp H
 obtain ⟨⟨t220, t221, t222, t223, t224, t225, t226, t227, t228, t231⟩, A30, H⟩ := H
 (try dsimp only at H)
 have A3 := Aside0.mk A30; clear A30
 replace H := Option.bind_eq_some_iff.mp H
 obtain ⟨⟨t232, t233⟩, A40, H⟩ := H
 (try dsimp only at H)
 have A4 := Aside0.mk A40; clear A40
 replace H := Option.bind_eq_some_iff.mp H
 obtain ⟨⟨t234, t237⟩, A50, H⟩ := H
 (try dsimp only at H)
 have A5 := Aside0.mk A50; clear A50
 replace H := Option.bind_eq_some_iff.mp H
 obtain ⟨⟨t238, t239⟩, A60, H⟩ := H
 (try dsimp only at H)
 have A6 := Aside0.mk A60; clear A60
 have H' := Aside0.mk H
 clear H
 go_enter Try.func43, Try.ntmps43
 go_wp2_with (first | ((with_reducible refine gate_dst (N := 4) rfl ?_); (try (refine gate_guard (by rfl) ?_; dsimp only)); refine box_ (N := 4) (cs := #[.slice none 0 0, .int .i64 0]) (t := 25) (fun gb219 hg w7 hbox hb => ?_); replace HB := (bs102_ HB hb); have BK219 := Aside0.mk (hbox); have GW219 := gk_ hg HK; have GE219 := Aside0.mk ((Nat.le_trans HW0.out (by rw [hg]; exact (keep_size (w := w) (g := g) (row := none) (hkA_ HK.out)) : w.heap.size ≤ gb219) : w0.heap.size ≤ gb219)); replace HK := (kw_ HK hb); have NB0_219 := nl102_ hg HI0; have NB219_0 := ng102_ hg HI0; replace HI0 := (ib102_ HI0 hb); clear hb hbox hg) | ((with_reducible refine gate_callee (f := 42) rfl ?_); refine goesL_ (some 11) rfl rfl Try.func42 (by kernel_rfl) rfl #[.pointer (some ⟨g, 0, none⟩)] rfl ar_ ?_; (with_reducible refine (spec_l20Long.calls k g s0_0 s0_1 t220 t221 t222 t223 t224 t225 t226 t227 t228 t231 w0 _ ?side1 ?side2 A3.out).mono ?_); (case side1 => exact is102_ HI0.out); (case side2 => exact hb102_ HB.out); rintro e w8 ⟨v229, rfl, ho0, hi, hb, hk⟩; refine ⟨_, rfl, ?_⟩; replace BK219 := (bkA_ BK219 hk NB219_0); have HO230 := Aside0.mk (Kd.R_lower (Kd.R_newM (M := fun k_ => (w.heap.size ≤ k_)) ho0 (keep_size (w := w) (g := g) (row := none) (hkA_ HK.out)) (fun k_ h_ => h_)) (keep_size (w := w) (g := g) (row := none) (hkA_ HK.out))); replace HK := (kk_ HK hk); replace HB := Aside0.mk (hb); replace HI0 := Aside0.mk (hi); (try clear hb); (try clear hb2); (try clear hk); (try clear hi); (try clear ho0)) | ((with_reducible refine gate_callee (f := 40) rfl ?_); refine goesL_ (some 13) rfl rfl Try.func40 (by kernel_rfl) rfl #[.pointer (some ⟨g, 0, none⟩), .int .i64 6] rfl ar_ ?_; (with_reducible refine (spec_l20Rd_pick.calls k g s0_0 t231 6 t232 t233 w0 _ ?side1 ?side2 A4.out).mono ?_); (case side1 => exact is102_ HI0.out); (case side2 => exact hb102_ HB.out); rintro e w9 ⟨rfl, hi, hb, hk⟩; refine ⟨_, rfl, ?_⟩; replace BK219 := (bkA_ BK219 hk NB219_0); replace HO230 := (rk102_ HI0 HO230 hk); replace HK := (kk_ HK hk); replace HB := Aside0.mk (hb); replace HI0 := Aside0.mk (hi); (try clear hb); (try clear hb2); (try clear hk); (try clear hi); obtain ⟨Ao10, co10, eo10⟩ := Kd.R_slice HO230.out; subst eo10) | ((with_reducible refine gate_callee (f := 41) rfl ?_); refine goesL_ (some 15) rfl rfl Try.func41 (by kernel_rfl) rfl #[.agg #[.int .i64 t220, .int .i64 t221, .int .i64 t222, .int .i64 t223, .int .i64 t224, .int .i64 t225, .bool t226, .bool t227, .slice Ao10 t228.length co10], .int .i64 (wrap64 (1 + t232))] rfl ar_ ?_; (with_reducible refine (spec_PacketCut.calls k t220 t221 t222 t223 t224 t225 t226 t227 _ _ t228 (wrap64 (1 + t232)) t234 t237 _ ?side1 ?side2 A5.out).mono ?_); (case side1 => exact kC_ (Kd.R_reads' HO230.out).2.2); (case side2 => exact (Kd.R_reads' HO230.out).2.1); rintro e w11 ⟨v235, rfl, ho0, hb⟩; refine ⟨_, rfl, ?_⟩; have HO236 := Aside0.mk (Kd.N_lower (Kd.N_mono (ok' := fun k_ => (w.heap.size ≤ k_) ∧ some k_ ≠ (.slice Ao10 t228.length co10 : Value).ownBlock ∧ k_ ≠ gb219 ∧ k_ ≠ g) (Kd.S_N (Kd.S_bound ho0)) (fun k_ hk_ => ⟨(Nat.le_trans (keep_size (w := w) (g := g) (row := none) (hkA_ HK.out)) hk_.2.1), (Kd.fresh' (Kd.R_lt (kR_ HO230.out)) k_ hk_.2.1), (fb_ BK219 k_ hk_.2.1), (IsS102.fresh (is102_ HI0.out) k_ hk_.2.1)⟩)) (keep_size (w := w) (g := g) (row := none) (hkA_ HK.out))); replace HO230 := Aside0.mk (Kd.R_below (kR_ HO230.out) hb); replace HI0 := (ib102_ HI0 hb); replace BK219 := (bbA_ BK219 hb); replace HK := (kw_ HK hb); replace HB := (bs102_ HB hb); (try clear hb); (try clear hb2); (try clear hk); (try clear hi); (try clear ho0)) | ((with_reducible refine gate_callee (f := 40) rfl ?_); refine goesL_ (some 19) rfl rfl Try.func40 (by kernel_rfl) rfl #[.pointer (some ⟨g, 0, none⟩), .int .i64 40] rfl ar_ ?_; (with_reducible refine (spec_l20Rd_pick.calls k g s0_0 t233 40 t238 t239 w0 _ ?side1 ?side2 A6.out).mono ?_); (case side1 => exact is102_ HI0.out); (case side2 => exact hb102_ HB.out); rintro e w12 ⟨rfl, hi, hb, hk⟩; refine ⟨_, rfl, ?_⟩; replace BK219 := (bkA_ BK219 hk NB219_0); replace HO230 := (rk102_ HI0 HO230 hk); replace HO236 := Aside0.mk (Kd.N_mono (Kd.N_keep (Kd.N_mono (ok := fun k_ => (((w.heap.size ≤ k_)) ∧ (some k_ ≠ (.slice Ao10 t228.length co10 : Value).ownBlock ∧ (k_ ≠ gb219 ∧ k_ ≠ g)))) (kN_ HO236.out) (fun k_ hk_ => (⟨hk_, hk_.2.2.2⟩ : _ ∧ k_ ≠ g))) hk (fun _ h => h.2)) (fun _ h => h.1)); replace HK := (kk_ HK hk); replace HB := Aside0.mk (hb); replace HI0 := Aside0.mk (hi); (try clear hb); (try clear hb2); (try clear hk); (try clear hi)) | ((with_reducible refine gate_dst (N := 7) rfl ?_); (try (refine gate_guard (by rfl) ?_; dsimp only)); refine box_ (N := 7) (cs := #[.slice none 0 0, .int .i64 0]) (t := 25) (fun gb240 hg w13 hbox hb => ?_); replace HO230 := Aside0.mk (Kd.R_below (kR_ HO230.out) hb); replace HO236 := Aside0.mk (Kd.N_below (Kd.N_elderB (kN_ HO236.out) gb240 (Nat.le_of_eq hg.symm)) hb); replace HB := (bs102_ HB hb); have BK240 := Aside0.mk (hbox); have GW240 := gk_ hg HK; have GE240 := Aside0.mk ((Nat.le_trans HW0.out (by rw [hg]; exact (keep_size (w := w) (g := g) (row := none) (hkA_ HK.out)) : w.heap.size ≤ gb240) : w0.heap.size ≤ gb240)); replace HK := (kw_ HK hb); have NB219_240 := nl_ hg BK219; have NB240_219 := ng_ hg BK219; replace BK219 := (bbA_ BK219 hb); have NB0_240 := nl102_ hg HI0; have NB240_0 := ng102_ hg HI0; replace HI0 := (ib102_ HI0 hb); clear hb hbox hg; have hnb14 := NB240_219.out; have hnc14 := NB219_240.out; have hnb15 := NB240_0.out; have hnc15 := NB0_240.out; have Z16 := zz2 BK240))
 go_loopg [8] k (fun kq v8 w' => ∃ (x8_1 : Int) (x1001_1 : Int) (x241000_1 : List (S28)) (u241000 : Value), v8 = .int .i64 x8_1 ∧ Aside0 (spec_l20Part.l0 kq a1 t234 x8_1 s0_0 x1001_1 x241000_1 t238 = some (r1, r2, r3)) ∧ Aside0 (kq ≤ k) ∧ Aside0 (Kd.N k28 28 w' w.heap.size (fun k_ => (w.heap.size ≤ k_) ∧ some k_ ≠ (u241000 : Value).ownBlock ∧ k_ ≠ gb219 ∧ k_ ≠ gb240 ∧ k_ ≠ g) v235 t234) ∧ Aside0 (Kd.N k28 28 w' w.heap.size (fun k_ => (w.heap.size ≤ k_) ∧ some k_ ≠ (v235 : Value).ownBlock ∧ k_ ≠ gb219 ∧ k_ ≠ gb240 ∧ k_ ≠ g) u241000 x241000_1) ∧ Aside0 (w'.heap[gb219]? = some (.cells #[(.slice none 0 0), .int .i64 0] 25 (0, 0))) ∧ Aside0 (w'.heap[gb240]? = some (.cells #[u241000, .int .i64 t238] 25 (0, 0))) ∧ Aside0 (IsS102 w0 w' g s0_0 x1001_1) ∧ Aside0 (KeepBut w w' g none) ∧ Aside0 (Below w0.heap.size w0 w'))
 case atStart => exact ⟨(0), (t239), (([] : List (S28))), (.slice none 0 0), (by first | rfl | (simp; done) | (simp [*]; done)), H', ⟨Nat.le_refl _⟩, ⟨by refine kN_ ?_; exact nfN_ gb240 HO236.out (fun _ hk => hk.2) (fun _ hk => ⟨hk.1.1.1, ⟨(by simp [Value.ownBlock]), ⟨hk.1.1.2.2.1, ⟨hk.1.2, hk.1.1.2.2.2⟩⟩⟩⟩)⟩, ⟨by first | exact Kd.S_nil _ _ _ _ _ | exact Kd.N_nil _ _ _ _ _ | exact Kd.V_nil _ _ _ _ _ | exact Kd.Q_nil _ _ _ _ _ | exact Kd.R_nil _ _ _ _ _⟩, ⟨by exact kf_ BK219.out⟩, ⟨by refine kb_ ?_; refine pz2 (cs := #[.slice none 0 0, .int .i64 0]) ?_; refine kb_ ?_; exact BK240.out⟩, ⟨is102_ HI0.out⟩, ⟨hkA_ HK.out⟩, ⟨hb102_ HB.out⟩⟩
 case round =>
  clear H'; (try clear c1); (try clear p2); (try clear c4); (try clear p6); (try clear c14); (try clear c15); (try clear Z16)
  obtain ⟨x8_1, x1001_1, x241000_1, u241000, rfl, HA, HK1, HO_5, HO_241000, BK219, BK240, HI0, HK, HB⟩ := hrel
  cases gk with
  | zero => exact absurd HA.out (by simp [spec_l20Part.l0])
  | succ k1 =>
   have H := HA.out; clear HA
   simp only [spec_l20Part.l0] at H
   by_cases c17 : x8_1 < (t234.length : Int)
   ·rw [if_pos c17] at H
    have c17b0 : decide (x8_1 < (t234.length : Int)) = true := decide_eq_true c17
    clear c17; have HC18 := Aside0.mk H; clear H
    obtain ⟨Ao19, co19, eo19⟩ := Kd.N_slice HO_5.out
    subst eo19
    go_upto_region 6 with (fail)
    go_cut [42] (fun v42 wc => ∃ (kq : Nat) (x42_17 : Bool) (x1001_17 : Int), v42 = .bool x42_17 ∧ Aside0 (spec_l20Part.j1 kq a1 t234 x8_1 x42_17 s0_0 x1001_17 x241000_1 t238 = some (r1, r2, r3)) ∧ Aside0 (kq ≤ k1) ∧ Aside0 (Kd.N k28 28 wc w.heap.size (fun k_ => (w.heap.size ≤ k_) ∧ some k_ ≠ (u241000 : Value).ownBlock ∧ k_ ≠ gb219 ∧ k_ ≠ gb240 ∧ k_ ≠ g) (.slice Ao19 t234.length co19) t234) ∧ Aside0 (Kd.N k28 28 wc w.heap.size (fun k_ => (w.heap.size ≤ k_) ∧ some k_ ≠ ((.slice Ao19 t234.length co19) : Value).ownBlock ∧ k_ ≠ gb219 ∧ k_ ≠ gb240 ∧ k_ ≠ g) u241000 x241000_1) ∧ Aside0 (wc.heap[gb219]? = some (.cells #[(.slice none 0 0), .int .i64 0] 25 (0, 0))) ∧ Aside0 (wc.heap[gb240]? = some (.cells #[u241000, .int .i64 t238] 25 (0, 0))) ∧ Aside0 (IsS102 w0 wc g s0_0 x1001_17) ∧ Aside0 (KeepBut w wc g none) ∧ Aside0 (Below w0.heap.size w0 wc))
    case first =>
     have H := HC18.out; clear HC18
     replace H := Option.bind_eq_some_iff.mp H
     obtain ⟨⟨t241, t242⟩, A200, H⟩ := H
     (try dsimp only at H)
     have A20 := Aside0.mk A200; clear A200
     by_cases c21 : t241 > 0
     ·rw [if_pos c21] at H
      have c21b0 : decide (0 < t241) = true := decide_eq_true c21
      clear c21
      (first | rw [c21b0] | (simp only [i64_w, i32_w]; rw [c21b0]) | skip)
      have H' := Aside0.mk H
      clear H
      go_wp2_with (first | ((with_reducible refine gate_callee (f := 40) rfl ?_); refine goesL_ (some 28) rfl rfl Try.func40 (by kernel_rfl) rfl #[.pointer (some ⟨g, 0, none⟩), .int .i64 3] rfl ar_ ?_; (with_reducible refine (spec_l20Rd_pick.calls k1 g s0_0 x1001_1 3 t241 t242 w0 _ ?side1 ?side2 A20.out).mono ?_); (case side1 => exact is102_ HI0.out); (case side2 => exact hb102_ HB.out); rintro e w22 ⟨rfl, hi, hb, hk⟩; refine ⟨_, rfl, ?_⟩; replace HO_5 := Aside0.mk (Kd.N_mono (Kd.N_keep (Kd.N_mono (ok := fun k_ => (((w.heap.size ≤ k_)) ∧ (some k_ ≠ (u241000 : Value).ownBlock ∧ (k_ ≠ gb219 ∧ (k_ ≠ gb240 ∧ k_ ≠ g))))) (kN_ HO_5.out) (fun k_ hk_ => (⟨hk_, hk_.2.2.2.2⟩ : _ ∧ k_ ≠ g))) hk (fun _ h => h.2)) (fun _ h => h.1)); replace HO_241000 := Aside0.mk (Kd.N_mono (Kd.N_keep (Kd.N_mono (ok := fun k_ => (((w.heap.size ≤ k_)) ∧ (some k_ ≠ (.slice Ao19 t234.length co19 : Value).ownBlock ∧ (k_ ≠ gb219 ∧ (k_ ≠ gb240 ∧ k_ ≠ g))))) (kN_ HO_241000.out) (fun k_ hk_ => (⟨hk_, hk_.2.2.2.2⟩ : _ ∧ k_ ≠ g))) hk (fun _ h => h.2)) (fun _ h => h.1)); replace BK219 := (bkA_ BK219 hk NB219_0); replace BK240 := (bkA_ BK240 hk NB240_0); replace HK := (kk_ HK hk); replace HB := Aside0.mk (hb); replace HI0 := Aside0.mk (hi); (try clear hb); (try clear hb2); (try clear hk); (try clear hi)))
      go_meet
      case rel => exact ⟨_, (true), (t242), (by first | rfl | (simp; done) | (simp [*]; done)), H', ⟨by have := HK1.out; first | omega | exact Nat.le_refl _⟩, ⟨by refine kN_ ?_; exact HO_5.out⟩, ⟨by refine kN_ ?_; exact HO_241000.out⟩, ⟨by refine kb_ ?_; exact BK219.out⟩, ⟨by refine kb_ ?_; exact BK240.out⟩, ⟨is102_ HI0.out⟩, ⟨hkA_ HK.out⟩, ⟨hb102_ HB.out⟩⟩
     ·rw [if_neg c21] at H
      have c21b0 : decide (0 < t241) = false := decide_eq_false c21
      clear c21
      (first | rw [c21b0] | (simp only [i64_w, i32_w]; rw [c21b0]) | skip)
      by_cases c23 : (x241000_1.length : Int) = 0
      ·rw [if_pos c23] at H
       have c23b0 : ((x241000_1.length : Int) == 0) = true := beq_iff_eq.mpr c23
       have c23b1 : ((x241000_1.length : Int) != 0) = false := bne_eq_false_iff_eq.mpr c23
       clear c23
       have H' := Aside0.mk H
       clear H
       go_wp2_with (first | ((with_reducible refine gate_callee (f := 40) rfl ?_); refine goesL_ (some 28) rfl rfl Try.func40 (by kernel_rfl) rfl #[.pointer (some ⟨g, 0, none⟩), .int .i64 3] rfl ar_ ?_; (with_reducible refine (spec_l20Rd_pick.calls k1 g s0_0 x1001_1 3 t241 t242 w0 _ ?side1 ?side2 A20.out).mono ?_); (case side1 => exact is102_ HI0.out); (case side2 => exact hb102_ HB.out); rintro e w24 ⟨rfl, hi, hb, hk⟩; refine ⟨_, rfl, ?_⟩; replace HO_5 := Aside0.mk (Kd.N_mono (Kd.N_keep (Kd.N_mono (ok := fun k_ => (((w.heap.size ≤ k_)) ∧ (some k_ ≠ (u241000 : Value).ownBlock ∧ (k_ ≠ gb219 ∧ (k_ ≠ gb240 ∧ k_ ≠ g))))) (kN_ HO_5.out) (fun k_ hk_ => (⟨hk_, hk_.2.2.2.2⟩ : _ ∧ k_ ≠ g))) hk (fun _ h => h.2)) (fun _ h => h.1)); replace HO_241000 := Aside0.mk (Kd.N_mono (Kd.N_keep (Kd.N_mono (ok := fun k_ => (((w.heap.size ≤ k_)) ∧ (some k_ ≠ (.slice Ao19 t234.length co19 : Value).ownBlock ∧ (k_ ≠ gb219 ∧ (k_ ≠ gb240 ∧ k_ ≠ g))))) (kN_ HO_241000.out) (fun k_ hk_ => (⟨hk_, hk_.2.2.2.2⟩ : _ ∧ k_ ≠ g))) hk (fun _ h => h.2)) (fun _ h => h.1)); replace BK219 := (bkA_ BK219 hk NB219_0); replace BK240 := (bkA_ BK240 hk NB240_0); replace HK := (kk_ HK hk); replace HB := Aside0.mk (hb); replace HI0 := Aside0.mk (hi); (try clear hb); (try clear hb2); (try clear hk); (try clear hi); have hnb25 := NB240_219.out; have hnc25 := NB219_240.out; have hnb26 := NB240_0.out; have hnc26 := NB0_240.out; have Z27 := zz2 BK240; obtain ⟨Ao28, co28, eo28⟩ := Kd.N_slice HO_241000.out; subst eo28))
       go_meet
       case rel => exact ⟨_, ((x8_1 == (wrap64 ((t234.length : Int) - 1)))), (t242), (by first | rfl | (simp; done) | (simp [*]; done)), H', ⟨by have := HK1.out; first | omega | exact Nat.le_refl _⟩, ⟨by refine kN_ ?_; exact HO_5.out⟩, ⟨by refine kN_ ?_; exact HO_241000.out⟩, ⟨by refine kb_ ?_; exact BK219.out⟩, ⟨by refine kb_ ?_; exact BK240.out⟩, ⟨is102_ HI0.out⟩, ⟨hkA_ HK.out⟩, ⟨hb102_ HB.out⟩⟩
      ·rw [if_neg c23] at H
       have c23b0 : ((x241000_1.length : Int) == 0) = false := beq_eq_false_iff_ne.mpr c23
       have c23b1 : ((x241000_1.length : Int) != 0) = true := bne_iff_ne.mpr c23
       have c23b2 : ¬ (x241000_1 = []) := fun h_ => c23 (by rw [h_]; rfl)
       have H' := Aside0.mk H
       clear H
       go_wp2_with (first | ((with_reducible refine gate_callee (f := 40) rfl ?_); refine goesL_ (some 28) rfl rfl Try.func40 (by kernel_rfl) rfl #[.pointer (some ⟨g, 0, none⟩), .int .i64 3] rfl ar_ ?_; (with_reducible refine (spec_l20Rd_pick.calls k1 g s0_0 x1001_1 3 t241 t242 w0 _ ?side1 ?side2 A20.out).mono ?_); (case side1 => exact is102_ HI0.out); (case side2 => exact hb102_ HB.out); rintro e w29 ⟨rfl, hi, hb, hk⟩; refine ⟨_, rfl, ?_⟩; replace HO_5 := Aside0.mk (Kd.N_mono (Kd.N_keep (Kd.N_mono (ok := fun k_ => (((w.heap.size ≤ k_)) ∧ (some k_ ≠ (u241000 : Value).ownBlock ∧ (k_ ≠ gb219 ∧ (k_ ≠ gb240 ∧ k_ ≠ g))))) (kN_ HO_5.out) (fun k_ hk_ => (⟨hk_, hk_.2.2.2.2⟩ : _ ∧ k_ ≠ g))) hk (fun _ h => h.2)) (fun _ h => h.1)); replace HO_241000 := Aside0.mk (Kd.N_mono (Kd.N_keep (Kd.N_mono (ok := fun k_ => (((w.heap.size ≤ k_)) ∧ (some k_ ≠ (.slice Ao19 t234.length co19 : Value).ownBlock ∧ (k_ ≠ gb219 ∧ (k_ ≠ gb240 ∧ k_ ≠ g))))) (kN_ HO_241000.out) (fun k_ hk_ => (⟨hk_, hk_.2.2.2.2⟩ : _ ∧ k_ ≠ g))) hk (fun _ h => h.2)) (fun _ h => h.1)); replace BK219 := (bkA_ BK219 hk NB219_0); replace BK240 := (bkA_ BK240 hk NB240_0); replace HK := (kk_ HK hk); replace HB := Aside0.mk (hb); replace HI0 := Aside0.mk (hi); (try clear hb); (try clear hb2); (try clear hk); (try clear hi); have hnb30 := NB240_219.out; have hnc30 := NB219_240.out; have hnb31 := NB240_0.out; have hnc31 := NB0_240.out; have Z32 := zz2 BK240; obtain ⟨Ao33, co33, eo33⟩ := Kd.N_slice HO_241000.out; subst eo33))
       go_meet
       case rel => exact ⟨_, (false), (t242), (by first | rfl | (simp; done) | (simp [*]; done)), H', ⟨by have := HK1.out; first | omega | exact Nat.le_refl _⟩, ⟨by refine kN_ ?_; exact HO_5.out⟩, ⟨by refine kN_ ?_; exact HO_241000.out⟩, ⟨by refine kb_ ?_; exact BK219.out⟩, ⟨by refine kb_ ?_; exact BK240.out⟩, ⟨is102_ HI0.out⟩, ⟨hkA_ HK.out⟩, ⟨hb102_ HB.out⟩⟩
    case rest =>
     clear HC18; (try clear c1); (try clear c2); (try clear p2); (try clear c3); (try clear c4); (try clear p6); (try clear c14); (try clear c15); (try clear c17); (try clear c17b0); (try clear c21); (try clear c21b0); (try clear c23); (try clear c23b0); (try clear c23b1); (try clear c23b2); (try clear c25); (try clear c26); (try clear c30); (try clear c31); (try clear Z16); (try clear Z27); (try clear Z32); (try clear p2); (try clear p6)
     obtain ⟨kq, x42_17, x1001_17, rfl, HA, HJ17, HO_5, HO_241000, BK219, BK240, HI0, HK, HB⟩ := hcut
     cases kq with
     | zero => exact absurd HA.out (by simp [spec_l20Part.j1])
     | succ kj17 =>
      have H := HA.out; clear HA
      simp only [spec_l20Part.j1] at H
      by_cases c34 : x42_17 = true
      ·subst c34
       rw [if_pos rfl] at H
       by_cases c35 : 0 ≤ x8_1
       ·rw [if_pos c35] at H
        have c35b0 : decide (0 ≤ x8_1) = true := decide_eq_true c35
        clear c35
        by_cases c36 : x8_1 < (t234.length : Int)
        ·rw [if_pos c36] at H
         have c36b0 : decide (x8_1 < (t234.length : Int)) = true := decide_eq_true c36
         clear c36
         by_cases c37 : x241000_1.length < 1759218604441
         ·rw [if_pos c37] at H
          have LMc37 := Aside0.mk c37; clear c37
          obtain ⟨y244, hy244⟩ : ∃ y_ : List (S28), y_ = (x241000_1 ++ [(⟨(rd_T28 t234 x8_1).f0, (rd_T28 t234 x8_1).f1, (rd_T28 t234 x8_1).f2, (rd_T28 t234 x8_1).f3, (rd_T28 t234 x8_1).f4, (rd_T28 t234 x8_1).f5, (rd_T28 t234 x8_1).f6, (rd_T28 t234 x8_1).f7, (rd_T28 t234 x8_1).f8⟩ : S28)]) := ⟨_, rfl⟩
          (first | replace H := sb_ hy244 H | rw [← hy244] at H)
          have Ny244 := Aside0.mk hy244; clear hy244
          have H' := Aside0.mk H
          clear H
          try go_wp2
          replace HO_5 := Aside0.mk (Kd.N_drew HO_5.out); replace HO_241000 := Aside0.mk (Kd.N_drew HO_241000.out); replace BK219 := Aside0.mk (blk_drew BK219.out); replace BK240 := Aside0.mk (blk_drew BK240.out); replace HI0 := Aside0.mk (IsS102.drew HI0.out); replace HK := Aside0.mk (keep_drew HK.out); replace HB := (bd_ HB)
          have p243 : 0 ≤ (x8_1 : Int) := of_decide_eq_true (by first | (with_reducible assumption) | assumption)
          have q243 : x8_1 < (t234.length : Int) := of_decide_eq_true (by first | (with_reducible assumption) | assumption)
          obtain ⟨ad243, A243_8, c243_8, e243, hx243_0, hx243_1, hx243_2, hx243_3, hx243_4, hx243_5, hx243_6, hx243_7, hx243_8, hl243_8, hi243_8⟩ := at_T28 (Kd.N_reads' HO_5.out).2.2 x8_1 p243 q243
          cases e243
          obtain ⟨ce243, hce243, hMe243, hcc243⟩ := Kd.N_get HO_5.out z28 x8_1 p243 (by first | exact q243 | exact of_decide_eq_true (by first | (with_reducible assumption) | assumption) | (have e_ := (Kd.N_reads' HO_5.out).1; omega))
          obtain ⟨ua243_8, uc243_8, rfl, ul243_8, ge243_8⟩ := k28_openF hMe243
          have hv243_8 := hcc243 8 _ rfl
          rw [add_field _ _ 8 (by omega)] at hv243_8
          replace hv243_8 := Option.some.inj (hv243_8.symm.trans hx243_8)
          injection hv243_8 with hva_ hvn_ hvc_
          rw [hva_] at ge243_8
          rw [hvc_] at ul243_8
          have HL243_8 := Aside0.mk (show Kd.V (Kd.int .u8) 5 _ w.heap.size _ _ ((rd_T28 t234 x8_1).f8) from Kd.V_mk ul243_8 ge243_8)
          clear hva_ hvn_ hvc_ ge243_8 ul243_8 hcc243 hce243; have HR243_8 := Aside0.mk hi243_8; have HC243_8 := Aside0.mk hl243_8; clear hi243_8 hl243_8
          replace p243 := eq_true p243
          replace q243 := eq_true q243
          refine start_ (n := 10) (S := fun w' => w'.cell? ⟨gb240, 0, none⟩ = some (u241000) ∧ w'.cell? ⟨gb240, 1, none⟩ = some (.int .i64 t238) ∧ w'.cell? (ad243.add ((x8_1).toNat * 9)) = some (.int .i64 ((rd_T28 t234 x8_1).f0)) ∧ w'.cell? ⟨(ad243.add ((x8_1).toNat * 9)).block, (ad243.add ((x8_1).toNat * 9)).off + 1, none⟩ = some (.int .i64 ((rd_T28 t234 x8_1).f1)) ∧ w'.cell? ⟨(ad243.add ((x8_1).toNat * 9)).block, (ad243.add ((x8_1).toNat * 9)).off + 2, none⟩ = some (.int .i64 ((rd_T28 t234 x8_1).f2)) ∧ w'.cell? ⟨(ad243.add ((x8_1).toNat * 9)).block, (ad243.add ((x8_1).toNat * 9)).off + 3, none⟩ = some (.int .i64 ((rd_T28 t234 x8_1).f3)) ∧ w'.cell? ⟨(ad243.add ((x8_1).toNat * 9)).block, (ad243.add ((x8_1).toNat * 9)).off + 4, none⟩ = some (.int .i64 ((rd_T28 t234 x8_1).f4)) ∧ w'.cell? ⟨(ad243.add ((x8_1).toNat * 9)).block, (ad243.add ((x8_1).toNat * 9)).off + 5, none⟩ = some (.int .i64 ((rd_T28 t234 x8_1).f5)) ∧ w'.cell? ⟨(ad243.add ((x8_1).toNat * 9)).block, (ad243.add ((x8_1).toNat * 9)).off + 6, none⟩ = some (.bool ((rd_T28 t234 x8_1).f6)) ∧ w'.cell? ⟨(ad243.add ((x8_1).toNat * 9)).block, (ad243.add ((x8_1).toNat * 9)).off + 7, none⟩ = some (.bool ((rd_T28 t234 x8_1).f7)) ∧ w'.cell? ⟨(ad243.add ((x8_1).toNat * 9)).block, (ad243.add ((x8_1).toNat * 9)).off + 8, none⟩ = some (.slice A243_8 ((rd_T28 t234 x8_1).f8).length c243_8)) (ds := [7, 9]) #[false, false, false, false, false, false, false, false, false, false] (by kernel_rfl) rfl rfl ⟨bc_ BK240 0, bc_ BK240 1, hx243_0, hx243_1, hx243_2, hx243_3, hx243_4, hx243_5, hx243_6, hx243_7, hx243_8⟩ (fun hHeld => ?_); refine with_tabW spec_l20Part.tab7 spec_l20Part.bits7 (fun HT_ HW_ => ?_)
          generalize wc.drew = w38 at HO_5 HO_241000 BK219 BK240 HI0 HK HB HL243_8 HR243_8 hx243_0 hx243_1 hx243_2 hx243_3 hx243_4 hx243_5 hx243_6 hx243_7 hx243_8 hHeld ⊢
          refine pu_ (i := 0) (N := some 43) HT_ ?_; refine pu_ (i := 2) (N := some 45) HT_ ?_; refine pu_ (i := 3) (N := some 46) HT_ ?_; refine pu_ (i := 4) (N := some 47) HT_ ?_; refine tk_ (i := 1) (N := some 44) HT_ HW_ hHeld ?_; refine tk_ (i := 5) (N := some 48) HT_ HW_ hHeld ?_
          refine on_ (i := 6) (N := some 49) HT_ (fun K hK => ?_)
          refine value_ (w1 := ?_) (v := ?_) (by rfl) rfl ?_ ?_
          rotate_left 2
          ·go_simp
           constructor
           ·rfl
           ·rfl
          refine hK.out _ _ ⟨(blk_cell (blk_alloc BK240.out _) 0).trans rfl, (blk_cell (blk_alloc BK240.out _) 1).trans rfl, (World.cell?_alloc_lt _ _ _ (World.block_lt_of_cell? _ _ (hHeld.2.2.1))).trans (hHeld.2.2.1), (World.cell?_alloc_lt _ _ _ (World.block_lt_of_cell? _ _ (hHeld.2.2.2.1))).trans (hHeld.2.2.2.1), (World.cell?_alloc_lt _ _ _ (World.block_lt_of_cell? _ _ (hHeld.2.2.2.2.1))).trans (hHeld.2.2.2.2.1), (World.cell?_alloc_lt _ _ _ (World.block_lt_of_cell? _ _ (hHeld.2.2.2.2.2.1))).trans (hHeld.2.2.2.2.2.1), (World.cell?_alloc_lt _ _ _ (World.block_lt_of_cell? _ _ (hHeld.2.2.2.2.2.2.1))).trans (hHeld.2.2.2.2.2.2.1), (World.cell?_alloc_lt _ _ _ (World.block_lt_of_cell? _ _ (hHeld.2.2.2.2.2.2.2.1))).trans (hHeld.2.2.2.2.2.2.2.1), (World.cell?_alloc_lt _ _ _ (World.block_lt_of_cell? _ _ (hHeld.2.2.2.2.2.2.2.2.1))).trans (hHeld.2.2.2.2.2.2.2.2.1), (World.cell?_alloc_lt _ _ _ (World.block_lt_of_cell? _ _ (hHeld.2.2.2.2.2.2.2.2.2.1))).trans (hHeld.2.2.2.2.2.2.2.2.2.1), (World.cell?_alloc_lt _ _ _ (World.block_lt_of_cell? _ _ (hHeld.2.2.2.2.2.2.2.2.2.2))).trans (hHeld.2.2.2.2.2.2.2.2.2.2)⟩ (fun hHeld => ?_)
          clear hK K; refine nm_ 49 ?_
          refine last_ (i := 7) (N := some 50) #[true, true, true, true, true, true, true, true, false, false] rfl rfl (one_of HT_.out (by kernel_rfl)) (by decide) (fun K hK => ?_)
          refine Kd.N_append_step k28 w.heap.size (by rfl) (.tmp 44) (.tmp 49) 23 28 (.agg #[(.int .i64 0), (.int .i64 0), (.int .i64 0), (.int .i64 0), (.int .i64 0), (.int .i64 0), (.bool false), (.bool false), (.slice none 0 0)]) 80 rfl Try.underlying23 info28 rfl (by decide) (by omega) u241000 x241000_1 (⟨(rd_T28 t234 x8_1).f0, (rd_T28 t234 x8_1).f1, (rd_T28 t234 x8_1).f2, (rd_T28 t234 x8_1).f3, (rd_T28 t234 x8_1).f4, (rd_T28 t234 x8_1).f5, (rd_T28 t234 x8_1).f6, (rd_T28 t234 x8_1).f7, (rd_T28 t234 x8_1).f8⟩ : S28) [.int .i64 ((rd_T28 t234 x8_1).f0), .int .i64 ((rd_T28 t234 x8_1).f1), .int .i64 ((rd_T28 t234 x8_1).f2), .int .i64 ((rd_T28 t234 x8_1).f3), .int .i64 ((rd_T28 t234 x8_1).f4), .int .i64 ((rd_T28 t234 x8_1).f5), .bool ((rd_T28 t234 x8_1).f6), .bool ((rd_T28 t234 x8_1).f7), .slice A243_8 ((rd_T28 t234 x8_1).f8).length c243_8] (fun k_ => (w.heap.size ≤ k_) ∧ some k_ ≠ (.slice (some ad243) t234.length co19 : Value).ownBlock ∧ k_ ≠ gb219 ∧ k_ ≠ gb240 ∧ k_ ≠ g) (fun k_ => ((fun k_ => (w.heap.size ≤ k_) ∧ some k_ ≠ (.slice (some ad243) t234.length co19 : Value).ownBlock ∧ k_ ≠ gb219 ∧ k_ ≠ gb240 ∧ k_ ≠ g)) k_ ∧ some k_ ≠ (u241000 : Value).ownBlock) rfl rfl ?aP (fun _ hk => hk) ?aF ?aO (Below.refl _ _) ?aS ?aL ?_
          (case aP => exact (k28_mkF _ _ (⟨(rd_T28 t234 x8_1).f0, (rd_T28 t234 x8_1).f1, (rd_T28 t234 x8_1).f2, (rd_T28 t234 x8_1).f3, (rd_T28 t234 x8_1).f4, (rd_T28 t234 x8_1).f5, (rd_T28 t234 x8_1).f6, (rd_T28 t234 x8_1).f7, (rd_T28 t234 x8_1).f8⟩ : S28) (Kd.V_reads' (Kd.V_mono (ok' := (fun k_ => ((fun k_ => (w.heap.size ≤ k_) ∧ some k_ ≠ (.slice (some ad243) t234.length co19 : Value).ownBlock ∧ k_ ≠ gb219 ∧ k_ ≠ gb240 ∧ k_ ≠ g)) k_ ∧ some k_ ≠ (u241000 : Value).ownBlock)) (HL243_8.out) (fun k_ hk => ⟨⟨hk.1.1, ⟨hk.2, ⟨hk.1.2.2.1, ⟨hk.1.2.2.2.1, hk.1.2.2.2.2⟩⟩⟩⟩, hk.1.2.1⟩))).2.1 (Kd.V_F (Kd.V_mono (ok' := (fun k_ => ((fun k_ => (w.heap.size ≤ k_) ∧ some k_ ≠ (.slice (some ad243) t234.length co19 : Value).ownBlock ∧ k_ ≠ gb219 ∧ k_ ≠ gb240 ∧ k_ ≠ g)) k_ ∧ some k_ ≠ (u241000 : Value).ownBlock)) (HL243_8.out) (fun k_ hk => ⟨⟨hk.1.1, ⟨hk.2, ⟨hk.1.2.2.1, ⟨hk.1.2.2.2.1, hk.1.2.2.2.2⟩⟩⟩⟩, hk.1.2.1⟩)))))
          (case aF => exact (fun k_ hk => ⟨(Nat.le_trans (keep_size (w := w) (g := g) (row := none) (hkA_ HK.out)) hk), Kd.fresh' (Kd.N_lt (kN_ HO_5.out)) k_ hk, fb_ BK219 k_ hk, fb_ BK240 k_ hk, IsS102.fresh (is102_ HI0.out) k_ hk⟩))
          (case aO => exact (kN_ HO_241000.out))
          (case aS => exact (keep_size (w := w) (g := g) (row := none) (hkA_ HK.out)))
          (case aL => have := LMc37.out; omega)
          intro v245 w39 ho hb hg hat
          rw [← Ny244.out] at ho
          have n0_ := Aside0.mk (Kd.N_afterv (ok := (fun k_ => (w.heap.size ≤ k_) ∧ k_ ≠ gb219 ∧ k_ ≠ gb240 ∧ k_ ≠ g)) (by refine kN_ ?_; exact Kd.N_mono HO_5.out (fun _ hk => ⟨⟨hk.1, ⟨hk.2.2.1, ⟨hk.2.2.2.1, hk.2.2.2.2⟩⟩⟩, hk.2.1⟩)) hg hat); have n1_ := (bgA_ BK219 hg (Kd.N_ne HO_241000.out BK219.out (by decide))); have n2_ := (bgA_ BK240 hg (Kd.N_ne HO_241000.out BK240.out (by decide))); have n3_ := Aside0.mk (IsS102.grown (is102_ HI0.out) hg (IsS102.own_neN HI0.out HO_241000.out (by decide))); have n4_ := Aside0.mk (Kd.V_afterv (ok := (fun k_ => (w.heap.size ≤ k_) ∧ some k_ ≠ (.slice (some ad243) t234.length co19 : Value).ownBlock ∧ k_ ≠ gb219 ∧ k_ ≠ gb240 ∧ k_ ≠ g)) (by refine kV_ ?_; exact Kd.V_mono HL243_8.out (fun _ hk => ⟨⟨hk.1.1, ⟨hk.2, ⟨hk.1.2.2.1, ⟨hk.1.2.2.2.1, hk.1.2.2.2.2⟩⟩⟩⟩, hk.1.2.1⟩)) hg hat); have n5_ := Aside0.mk (below_weaken (hb102_ HB.out) HL.out hb); have n6_ := Aside0.mk (KeepBut.trans (hkA_ HK.out) (KeepBut.of_grown hg g) (Kd.N_base2 HO_241000.out)); have n7_ := Aside0.mk (ho); clear HO_5 BK219 BK240 HI0 HL243_8 HB HK HO_241000; have HO_5 := n0_; have BK219 := n1_; have BK240 := n2_; have HI0 := n3_; have HL243_8 := n4_; have HB := n5_; have HK := n6_; have HO246 := n7_; clear n0_ n1_ n2_ n3_ n4_ n5_ n6_ n7_ ho hb hg hat
          obtain ⟨Ao40, co40, eo40⟩ := Kd.N_slice HO246.out
          (first | subst eo40 | (injection eo40 with f1_ f2_ f3_; have f4_ := f1_.symm; have f5_ := f3_.symm; clear f1_ f2_ f3_; subst f4_; subst f5_))
          refine hK.out _ _ ?_
          clear hK K; refine nm_ 50 ?_; refine pu_ (i := 8) (N := some 51) HT_ ?_
          refine last_ (i := 9) (N := none) #[true, true, true, true, true, true, true, true, true, true] rfl rfl (one_of HT_.out (by kernel_rfl)) (by decide) (fun K hK => ?_)
          have hs41 : w39.cell? ⟨gb240, 0, none⟩ = some (u241000) := bc_ BK240 0
          have hfs41 := blk_frozen BK240.out 0
          have hns41_0 := NB219_240.out; have hms41_0 := NB240_219.out
          refine skip_ (w1 := ?_) (by rfl) rfl ?_ ?_
          rotate_left
          ·go_simp
           rfl
          refine hK.out _ _ ?_
          clear hK K
          refine done_ (done_of HT_.out (by kernel_rfl)) ?_
          try go_wp2
          go_roundg kj17
          case measure => have := HK1.out; have := HJ17.out; omega
          case rel => exact ⟨(wrap64 (x8_1 + 1)), (x1001_17), (y244), (.slice Ao40 y244.length co40), (by first | rfl | (simp; done) | (simp [*]; done)), H', ⟨by have := HK1.out; have := HJ17.out; omega⟩, ⟨by refine kN_ ?_; exact nfN_ gb240 HO_5.out (fun _ hk => hk.1.2.2.1) (fun _ hk => ⟨hk.1.1.1, ⟨hk.1.2, ⟨hk.1.1.2.1, ⟨hk.1.1.2.2.1, hk.1.1.2.2.2⟩⟩⟩⟩)⟩, ⟨by refine kN_ ?_; exact nfN_ gb240 HO246.out (fun _ hk => hk.2.2.2.1) (fun _ hk => ⟨hk.1.1, ⟨hk.1.2.1, ⟨hk.1.2.2.1, ⟨hk.1.2.2.2.1, hk.1.2.2.2.2⟩⟩⟩⟩)⟩, ⟨by exact kf_ BK219.out⟩, ⟨by refine kb_ ?_; refine blk_put (cs := #[u241000, .int .i64 t238]) ?_ 0 _ rfl; refine kb_ ?_; exact BK240.out⟩, ⟨is102_ HI0.out⟩, ⟨hkA_ HK.out⟩, ⟨hb102_ HB.out⟩⟩
         ·rw [if_neg c37] at H
          exact absurd H (by simp)
        ·rw [if_neg c36] at H
         exact absurd H (by simp)
       ·rw [if_neg c35] at H
        exact absurd H (by simp)
      ·replace c34 := Bool.eq_false_iff.mpr c34
       subst c34
       rw [if_neg (show ¬ (false = true) by decide)] at H
       have H' := Aside0.mk H
       clear H
       go_wp2
       go_roundg kj17
       case measure => have := HK1.out; have := HJ17.out; omega
       case rel => exact ⟨(wrap64 (x8_1 + 1)), (x1001_17), (x241000_1), (u241000), (by first | rfl | (simp; done) | (simp [*]; done)), H', ⟨by have := HK1.out; have := HJ17.out; omega⟩, ⟨by refine kN_ ?_; exact HO_5.out⟩, ⟨by refine kN_ ?_; exact HO_241000.out⟩, ⟨by refine kb_ ?_; exact BK219.out⟩, ⟨by refine kb_ ?_; exact BK240.out⟩, ⟨is102_ HI0.out⟩, ⟨hkA_ HK.out⟩, ⟨hb102_ HB.out⟩⟩
   ·rw [if_neg c17] at H
    have c17b0 : decide (x8_1 < (t234.length : Int)) = false := decide_eq_false c17
    clear c17
    replace H := Option.bind_eq_some_iff.mp H
    obtain ⟨⟨t247, t248⟩, A420, H⟩ := H
    (try dsimp only at H)
    have A42 := Aside0.mk A420; clear A420
    by_cases c43 : t247 = true
    ·subst c43
     rw [if_pos rfl] at H
     replace H := Option.bind_eq_some_iff.mp H
     obtain ⟨⟨t249, t250⟩, A440, H⟩ := H
     (try dsimp only at H)
     have A44 := Aside0.mk A440; clear A440
     by_cases c45 : t249 = 0
     ·rw [if_pos c45] at H
      have c45b0 : (t249 == 0) = true := beq_iff_eq.mpr c45
      have c45b1 : (t249 != 0) = false := bne_eq_false_iff_eq.mpr c45
      clear c45
      replace H := Option.bind_eq_some_iff.mp H
      obtain ⟨⟨t251, t252⟩, A460, H⟩ := H
      (try dsimp only at H)
      have A46 := Aside0.mk A460; clear A460
      by_cases c47 : 0 < (x241000_1.length : Int)
      ·rw [if_pos c47] at H
       have c47b0 : decide (0 < (x241000_1.length : Int)) = true := decide_eq_true c47
       have c47b1 : decide (0 < x241000_1.length) = true := decide_eq_true (by omega)
       clear c47
       obtain ⟨y253, hy253⟩ : ∃ y_ : List (S28), y_ = (x241000_1.set (0 : Int).toNat (⟨(rd_T28 x241000_1 0).f0, (rd_T28 x241000_1 0).f1, (rd_T28 x241000_1 0).f2, (rd_T28 x241000_1 0).f3, (rd_T28 x241000_1 0).f4, t251, (rd_T28 x241000_1 0).f6, (rd_T28 x241000_1 0).f7, (rd_T28 x241000_1 0).f8⟩ : S28)) := ⟨_, rfl⟩
       (first | replace H := sb_ hy253 H | rw [← hy253] at H)
       have Ny253 := Aside0.mk hy253; clear hy253
       simp only [Option.some.injEq, Prod.mk.injEq] at H
       obtain ⟨rfl, rfl, rfl⟩ := H
       obtain ⟨Ao49, co49, eo49⟩ := Kd.N_slice HO_5.out
       subst eo49
       try go_wp2_with (first | ((with_reducible refine gate_callee (f := 80) rfl ?_); refine goesL_ (some 54) rfl rfl Try.func80 (by kernel_rfl) rfl #[.pointer (some ⟨g, 0, none⟩), .int .i64 a1] rfl ar_ ?_; (with_reducible refine (spec_l20Rd_odd.calls k1 g s0_0 x1001_1 a1 true t248 w0 _ ?side1 ?side2 A42.out).mono ?_); (case side1 => exact is102_ HI0.out); (case side2 => exact hb102_ HB.out); rintro e w50 ⟨rfl, hi, hb, hk⟩; refine ⟨_, rfl, ?_⟩; replace HO_5 := Aside0.mk (Kd.N_mono (Kd.N_keep (Kd.N_mono (ok := fun k_ => (((w.heap.size ≤ k_)) ∧ (some k_ ≠ (u241000 : Value).ownBlock ∧ (k_ ≠ gb219 ∧ (k_ ≠ gb240 ∧ k_ ≠ g))))) (kN_ HO_5.out) (fun k_ hk_ => (⟨hk_, hk_.2.2.2.2⟩ : _ ∧ k_ ≠ g))) hk (fun _ h => h.2)) (fun _ h => h.1)); replace HO_241000 := Aside0.mk (Kd.N_mono (Kd.N_keep (Kd.N_mono (ok := fun k_ => (((w.heap.size ≤ k_)) ∧ (some k_ ≠ (.slice Ao49 t234.length co49 : Value).ownBlock ∧ (k_ ≠ gb219 ∧ (k_ ≠ gb240 ∧ k_ ≠ g))))) (kN_ HO_241000.out) (fun k_ hk_ => (⟨hk_, hk_.2.2.2.2⟩ : _ ∧ k_ ≠ g))) hk (fun _ h => h.2)) (fun _ h => h.1)); replace BK219 := (bkA_ BK219 hk NB219_0); replace BK240 := (bkA_ BK240 hk NB240_0); replace HK := (kk_ HK hk); replace HB := Aside0.mk (hb); replace HI0 := Aside0.mk (hi); (try clear hb); (try clear hb2); (try clear hk); (try clear hi)) | ((with_reducible refine gate_callee (f := 40) rfl ?_); refine goesL_ (some 56) rfl rfl Try.func40 (by kernel_rfl) rfl #[.pointer (some ⟨g, 0, none⟩), .int .i64 4] rfl ar_ ?_; (with_reducible refine (spec_l20Rd_pick.calls k1 g s0_0 t248 4 t249 t250 w0 _ ?side1 ?side2 A44.out).mono ?_); (case side1 => exact is102_ HI0.out); (case side2 => exact hb102_ HB.out); rintro e w51 ⟨rfl, hi, hb, hk⟩; refine ⟨_, rfl, ?_⟩; replace HO_5 := Aside0.mk (Kd.N_mono (Kd.N_keep (Kd.N_mono (ok := fun k_ => (((w.heap.size ≤ k_)) ∧ (some k_ ≠ (u241000 : Value).ownBlock ∧ (k_ ≠ gb219 ∧ (k_ ≠ gb240 ∧ k_ ≠ g))))) (kN_ HO_5.out) (fun k_ hk_ => (⟨hk_, hk_.2.2.2.2⟩ : _ ∧ k_ ≠ g))) hk (fun _ h => h.2)) (fun _ h => h.1)); replace HO_241000 := Aside0.mk (Kd.N_mono (Kd.N_keep (Kd.N_mono (ok := fun k_ => (((w.heap.size ≤ k_)) ∧ (some k_ ≠ (.slice Ao49 t234.length co49 : Value).ownBlock ∧ (k_ ≠ gb219 ∧ (k_ ≠ gb240 ∧ k_ ≠ g))))) (kN_ HO_241000.out) (fun k_ hk_ => (⟨hk_, hk_.2.2.2.2⟩ : _ ∧ k_ ≠ g))) hk (fun _ h => h.2)) (fun _ h => h.1)); replace BK219 := (bkA_ BK219 hk NB219_0); replace BK240 := (bkA_ BK240 hk NB240_0); replace HK := (kk_ HK hk); replace HB := Aside0.mk (hb); replace HI0 := Aside0.mk (hi); (try clear hb); (try clear hb2); (try clear hk); (try clear hi)))
       replace HO_5 := Aside0.mk (Kd.N_drew HO_5.out); replace HO_241000 := Aside0.mk (Kd.N_drew HO_241000.out); replace BK219 := Aside0.mk (blk_drew BK219.out); replace BK240 := Aside0.mk (blk_drew BK240.out); replace HI0 := Aside0.mk (IsS102.drew HI0.out); replace HK := Aside0.mk (keep_drew HK.out); replace HB := (bd_ HB)
       refine start_ (n := 7) (S := fun w' => w'.cell? ⟨gb240, 0, none⟩ = some (u241000) ∧ w'.cell? ⟨gb240, 1, none⟩ = some (.int .i64 t238)) (ds := [6]) #[false, false, false, false, false, false, false] (by kernel_rfl) rfl rfl (cz2 BK240.out) (fun hHeld => ?_)
       generalize w51.drew = w52 at HO_5 HO_241000 BK219 BK240 HI0 HK HB hHeld ⊢
       refine pure_ (i := 0) (N := some 61) (v := ?_) (a' := ?_) #[true, false, false, false, false, false, false] rfl rfl (by kernel_rfl) (fun _ _ _ h => h) (Or.inl ⟨by rfl, ?_⟩) ?_ ?_
       rotate_left
       ·intro w'
        go_simp
        with_reducible rfl
       rotate_left
       ·simp only [Act.put, List.setIfInBounds_toArray, List.set_cons_zero, List.set_cons_succ, i64_w, i32_w]
        rfl
       refine pure_ (i := 2) (N := some 63) (v := ?_) (a' := ?_) #[true, false, true, false, false, false, false] rfl rfl (by kernel_rfl) (fun _ _ _ h => h) (Or.inl ⟨by rfl, ?_⟩) ?_ ?_
       rotate_left
       ·intro w'
        go_simp
        with_reducible rfl
       rotate_left
       ·simp only [Act.put, List.setIfInBounds_toArray, List.set_cons_zero, List.set_cons_succ, i64_w, i32_w]
        rfl
       refine take_ (i := 1) (N := some 62) (v := ?_) (a' := ?_) #[true, true, true, false, false, false, false] rfl rfl (by kernel_rfl) (fun _ _ _ h => h) (Or.inl ⟨by rfl, ?_⟩) hHeld ?_ ?_
       rotate_left
       ·rintro w' ⟨s0, s1⟩
        go_simp
        with_reducible rfl
       rotate_left
       ·simp only [Act.put, List.setIfInBounds_toArray, List.set_cons_zero, List.set_cons_succ, i64_w, i32_w]
        rfl
       refine one_ (i := 3) (N := some 64) #[true, true, true, true, false, false, false] rfl rfl (by kernel_rfl) (by decide) (fun K hK => ?_)
       refine goes_ Try.func40 (by kernel_rfl) rfl #[.pointer (some ⟨g, 0, none⟩), .int .i64 9] (by rfl) rfl rfl ar_ ?_
       with_reducible refine (spec_l20Rd_pick.calls k1 g s0_0 t250 9 t251 t252 w0 _ ?side1 ?side2 A46.out).mono ?_
       (case side1 => exact is102_ HI0.out)
       (case side2 => exact hb102_ HB.out)
       rintro e w53 ⟨rfl, hi, hb, hk⟩
       refine ⟨_, rfl, ?_⟩
       replace HO_5 := Aside0.mk (Kd.N_mono (Kd.N_keep (Kd.N_mono (ok := fun k_ => (((w.heap.size ≤ k_)) ∧ (some k_ ≠ (u241000 : Value).ownBlock ∧ (k_ ≠ gb219 ∧ (k_ ≠ gb240 ∧ k_ ≠ g))))) (kN_ HO_5.out) (fun k_ hk_ => (⟨hk_, hk_.2.2.2.2⟩ : _ ∧ k_ ≠ g))) hk (fun _ h => h.2)) (fun _ h => h.1)); replace HO_241000 := Aside0.mk (Kd.N_mono (Kd.N_keep (Kd.N_mono (ok := fun k_ => (((w.heap.size ≤ k_)) ∧ (some k_ ≠ (.slice Ao49 t234.length co49 : Value).ownBlock ∧ (k_ ≠ gb219 ∧ (k_ ≠ gb240 ∧ k_ ≠ g))))) (kN_ HO_241000.out) (fun k_ hk_ => (⟨hk_, hk_.2.2.2.2⟩ : _ ∧ k_ ≠ g))) hk (fun _ h => h.2)) (fun _ h => h.1)); replace BK219 := (bkA_ BK219 hk NB219_0); replace BK240 := (bkA_ BK240 hk NB240_0); replace HK := (kk_ HK hk); replace HB := Aside0.mk (hb); replace HI0 := Aside0.mk (hi); (try clear hb); (try clear hb2); (try clear hk); (try clear hi)
       have p48 : 0 ≤ (0 : Int) := (by omega)
       have q48 : (0 : Int) < ((x241000_1.length : Int) : Int) := of_decide_eq_true (by first | (with_reducible assumption) | assumption)
       have qi48 : (0 < x241000_1.length) = True := eq_true (by omega)
       obtain ⟨go48, co48, eo48, gb48, gl48, cl48, HG48⟩ := Kd.N_form HO_241000.out (by omega)
       (first | cases eo48 | (injection eo48 with ea_ en_ ec_; (first | subst ea_ | (injection ea_ with ea_; subst ea_)); subst ec_; clear en_))
       have GB48 := Aside0.mk gb48; have GG48 := Aside0.mk HG48; clear gb48 gl48 HG48
       obtain ⟨ce48, hcl48, hM48, hcc48, hfr48⟩ := Kd.N_elem HO_241000.out z28 (0 : Int) p48 q48
       obtain ⟨ua48_8, uc48_8, rfl, ul48_8, ge48_8⟩ := k28_openF hM48
       have hx48_0 : World.cell? _ ⟨go48, (0 : Int).toNat * 9, none⟩ = some (.int .i64 ((rd_T28 x241000_1 0).f0)) := hcc48 0 _ rfl
       have hx48_1 : World.cell? _ ⟨go48, (0 : Int).toNat * 9 + 1, none⟩ = some (.int .i64 ((rd_T28 x241000_1 0).f1)) := hcc48 1 _ rfl
       have hx48_2 : World.cell? _ ⟨go48, (0 : Int).toNat * 9 + 2, none⟩ = some (.int .i64 ((rd_T28 x241000_1 0).f2)) := hcc48 2 _ rfl
       have hx48_3 : World.cell? _ ⟨go48, (0 : Int).toNat * 9 + 3, none⟩ = some (.int .i64 ((rd_T28 x241000_1 0).f3)) := hcc48 3 _ rfl
       have hx48_4 : World.cell? _ ⟨go48, (0 : Int).toNat * 9 + 4, none⟩ = some (.int .i64 ((rd_T28 x241000_1 0).f4)) := hcc48 4 _ rfl
       have hx48_5 : World.cell? _ ⟨go48, (0 : Int).toNat * 9 + 5, none⟩ = some (.int .i64 ((rd_T28 x241000_1 0).f5)) := hcc48 5 _ rfl
       have hx48_6 : World.cell? _ ⟨go48, (0 : Int).toNat * 9 + 6, none⟩ = some (.bool ((rd_T28 x241000_1 0).f6)) := hcc48 6 _ rfl
       have hx48_7 : World.cell? _ ⟨go48, (0 : Int).toNat * 9 + 7, none⟩ = some (.bool ((rd_T28 x241000_1 0).f7)) := hcc48 7 _ rfl
       have hx48_8 : World.cell? _ ⟨go48, (0 : Int).toNat * 9 + 8, none⟩ = some (.slice ua48_8 ((rd_T28 x241000_1 0).f8).length uc48_8) := hcc48 8 _ rfl
       have hf48_0 : World.frozen? _ ⟨go48, (0 : Int).toNat * 9, none⟩ = false := hfr48 0
       have hf48_1 : World.frozen? _ ⟨go48, (0 : Int).toNat * 9 + 1, none⟩ = false := hfr48 1
       have hf48_2 : World.frozen? _ ⟨go48, (0 : Int).toNat * 9 + 2, none⟩ = false := hfr48 2
       have hf48_3 : World.frozen? _ ⟨go48, (0 : Int).toNat * 9 + 3, none⟩ = false := hfr48 3
       have hf48_4 : World.frozen? _ ⟨go48, (0 : Int).toNat * 9 + 4, none⟩ = false := hfr48 4
       have hf48_5 : World.frozen? _ ⟨go48, (0 : Int).toNat * 9 + 5, none⟩ = false := hfr48 5
       have hf48_6 : World.frozen? _ ⟨go48, (0 : Int).toNat * 9 + 6, none⟩ = false := hfr48 6
       have hf48_7 : World.frozen? _ ⟨go48, (0 : Int).toNat * 9 + 7, none⟩ = false := hfr48 7
       have hf48_8 : World.frozen? _ ⟨go48, (0 : Int).toNat * 9 + 8, none⟩ = false := hfr48 8
       clear hcl48 hcc48 hfr48 hM48
       (try rw [show ((0 : Int)).toNat = 0 from rfl] at hx48_0)
       (try simp only [Nat.reduceMul, Nat.zero_mul, Nat.zero_add, Nat.reduceAdd] at hx48_0)
       (try rw [show ((0 : Int)).toNat = 0 from rfl] at hf48_0)
       (try simp only [Nat.reduceMul, Nat.zero_mul, Nat.zero_add, Nat.reduceAdd] at hf48_0)
       (try rw [show ((0 : Int)).toNat = 0 from rfl] at hx48_1)
       (try simp only [Nat.reduceMul, Nat.zero_mul, Nat.zero_add, Nat.reduceAdd] at hx48_1)
       (try rw [show ((0 : Int)).toNat = 0 from rfl] at hf48_1)
       (try simp only [Nat.reduceMul, Nat.zero_mul, Nat.zero_add, Nat.reduceAdd] at hf48_1)
       (try rw [show ((0 : Int)).toNat = 0 from rfl] at hx48_2)
       (try simp only [Nat.reduceMul, Nat.zero_mul, Nat.zero_add, Nat.reduceAdd] at hx48_2)
       (try rw [show ((0 : Int)).toNat = 0 from rfl] at hf48_2)
       (try simp only [Nat.reduceMul, Nat.zero_mul, Nat.zero_add, Nat.reduceAdd] at hf48_2)
       (try rw [show ((0 : Int)).toNat = 0 from rfl] at hx48_3)
       (try simp only [Nat.reduceMul, Nat.zero_mul, Nat.zero_add, Nat.reduceAdd] at hx48_3)
       (try rw [show ((0 : Int)).toNat = 0 from rfl] at hf48_3)
       (try simp only [Nat.reduceMul, Nat.zero_mul, Nat.zero_add, Nat.reduceAdd] at hf48_3)
       (try rw [show ((0 : Int)).toNat = 0 from rfl] at hx48_4)
       (try simp only [Nat.reduceMul, Nat.zero_mul, Nat.zero_add, Nat.reduceAdd] at hx48_4)
       (try rw [show ((0 : Int)).toNat = 0 from rfl] at hf48_4)
       (try simp only [Nat.reduceMul, Nat.zero_mul, Nat.zero_add, Nat.reduceAdd] at hf48_4)
       (try rw [show ((0 : Int)).toNat = 0 from rfl] at hx48_5)
       (try simp only [Nat.reduceMul, Nat.zero_mul, Nat.zero_add, Nat.reduceAdd] at hx48_5)
       (try rw [show ((0 : Int)).toNat = 0 from rfl] at hf48_5)
       (try simp only [Nat.reduceMul, Nat.zero_mul, Nat.zero_add, Nat.reduceAdd] at hf48_5)
       (try rw [show ((0 : Int)).toNat = 0 from rfl] at hx48_6)
       (try simp only [Nat.reduceMul, Nat.zero_mul, Nat.zero_add, Nat.reduceAdd] at hx48_6)
       (try rw [show ((0 : Int)).toNat = 0 from rfl] at hf48_6)
       (try simp only [Nat.reduceMul, Nat.zero_mul, Nat.zero_add, Nat.reduceAdd] at hf48_6)
       (try rw [show ((0 : Int)).toNat = 0 from rfl] at hx48_7)
       (try simp only [Nat.reduceMul, Nat.zero_mul, Nat.zero_add, Nat.reduceAdd] at hx48_7)
       (try rw [show ((0 : Int)).toNat = 0 from rfl] at hf48_7)
       (try simp only [Nat.reduceMul, Nat.zero_mul, Nat.zero_add, Nat.reduceAdd] at hf48_7)
       (try rw [show ((0 : Int)).toNat = 0 from rfl] at hx48_8)
       (try simp only [Nat.reduceMul, Nat.zero_mul, Nat.zero_add, Nat.reduceAdd] at hx48_8)
       (try rw [show ((0 : Int)).toNat = 0 from rfl] at hf48_8)
       (try simp only [Nat.reduceMul, Nat.zero_mul, Nat.zero_add, Nat.reduceAdd] at hf48_8)
       replace p48 := eq_true p48
       replace q48 := eq_true q48
       have HN0_go48 := Aside0.mk (show g ≠ go48 from by have h_ := IsS102.own_neN HI0.out HO_241000.out (by decide); intro e_; exact h_ (by rw [e_]; rfl))
       have HX54 := Aside0.mk (show Kd.N k28 28 _ w.heap.size (fun k_ => (w.heap.size ≤ k_) ∧ some k_ ≠ (.slice Ao49 t234.length co49 : Value).ownBlock ∧ k_ ≠ gb219 ∧ k_ ≠ gb240 ∧ k_ ≠ g) (.slice (some ⟨go48, 0, none⟩) x241000_1.length co48) x241000_1 from (Kd.N_mono (HO_241000.out) (fun k_ hk => ⟨hk.1, ⟨hk.2.1, ⟨hk.2.2.1, ⟨hk.2.2.2.1, hk.2.2.2.2⟩⟩⟩⟩)))
       obtain ⟨ce54, hcl54, hM54, hcc54, hfr54⟩ := Kd.N_elem HX54.out z28 (0 : Int) (by omega) (by have h_ : (0 : Int) < ((x241000_1.length : Int) : Int) := of_decide_eq_true (by first | (with_reducible assumption) | assumption); first | exact h_ | (have e_ := (Kd.N_reads' HO_241000.out).1; omega) | simpa using h_)
       obtain ⟨ua54_8, uc54_8, rfl, ul54_8, ge54_8⟩ := k28_openF hM54
       have HP54 := (Kd.N_seg HX54.out (0 : Int) (by omega) (by have h_ : (0 : Int) < ((x241000_1.length : Int) : Int) := of_decide_eq_true (by first | (with_reducible assumption) | assumption); first | exact h_ | (have e_ := (Kd.N_reads' HO_241000.out).1; omega) | simpa using h_) (seg := [.int .i64 t251]) (j := 5) hcl54 hcc54 (show 6 ≤ 9 from by decide) (x' := (⟨(rd_T28 x241000_1 0).f0, (rd_T28 x241000_1 0).f1, (rd_T28 x241000_1 0).f2, (rd_T28 x241000_1 0).f3, (rd_T28 x241000_1 0).f4, t251, (rd_T28 x241000_1 0).f6, (rd_T28 x241000_1 0).f7, (rd_T28 x241000_1 0).f8⟩ : S28)) (k28_mkF _ _ (⟨(rd_T28 x241000_1 0).f0, (rd_T28 x241000_1 0).f1, (rd_T28 x241000_1 0).f2, (rd_T28 x241000_1 0).f3, (rd_T28 x241000_1 0).f4, t251, (rd_T28 x241000_1 0).f6, (rd_T28 x241000_1 0).f7, (rd_T28 x241000_1 0).f8⟩ : S28) ul54_8 ge54_8) (fun _ hk => hk)).1
       rw [← Ny253.out] at HP54
       have HQ54 := Aside0.mk HP54; clear hcl54 hcc54 hfr54 hM54 HP54
       refine hK.out _ _ (cz2 BK240.out) (fun hHeld => ?_)
       clear hK K; refine nm_ 64 ?_
       refine pure_ (i := 4) (N := some 65) (v := ?_) (a' := ?_) #[true, true, true, true, true, false, false] rfl rfl (by kernel_rfl) (fun _ _ _ h => h) (Or.inl ⟨by rfl, ?_⟩) ?_ ?_
       rotate_left
       ·intro w'
        go_simp
        with_reducible rfl
       rotate_left
       ·simp only [Act.put, List.setIfInBounds_toArray, List.set_cons_zero, List.set_cons_succ, i64_w, i32_w]
        rfl
       refine pure_ (i := 5) (N := some 66) (v := ?_) (a' := ?_) #[true, true, true, true, true, true, false] rfl rfl (by kernel_rfl) (fun _ _ _ h => h) (Or.inl ⟨by rfl, ?_⟩) ?_ ?_
       rotate_left
       ·intro w'
        go_simp
        with_reducible rfl
       rotate_left
       ·simp only [Act.put, List.setIfInBounds_toArray, List.set_cons_zero, List.set_cons_succ, i64_w, i32_w]
        rfl
       refine last_ (i := 6) (N := none) #[true, true, true, true, true, true, true] rfl rfl (by kernel_rfl) (by decide) (fun K hK => ?_)
       refine skip_ (w1 := ?_) (by rfl) rfl ?_ ?_
       rotate_left
       ·go_simp
        rfl
       refine hK.out _ _ ?_
       clear hK K
       refine done_ (by kernel_rfl) ?_
       obtain ⟨w55, h_w55⟩ : ∃ w_, (w53.setCell ⟨go48, 5, none⟩ (.int .i64 t251)) = w_ := ⟨_, rfl⟩
       have n0_ : Aside0 (Kd.N k28 28 w55 w.heap.size (fun k_ => (w.heap.size ≤ k_) ∧ some k_ ≠ (.slice (some ⟨go48, 0, none⟩) x241000_1.length co48 : Value).ownBlock ∧ k_ ≠ gb219 ∧ k_ ≠ gb240 ∧ k_ ≠ g) (.slice Ao49 t234.length co49) t234) := ⟨by subst h_w55; refine kN_ ?_; exact Kd.N_mono (Kd.N_far (p := ⟨go48, 5, none⟩) (Kd.N_mono HO_5.out (fun k_ hk => (⟨hk, fun e_ => hk.2.1 (by rw [e_]; rfl)⟩ : _ ∧ k_ ≠ go48))) (fun _ hk => hk.2) (.int .i64 t251)) (fun _ hk => ⟨hk.1.1, ⟨hk.1.2.1, ⟨hk.1.2.2.1, ⟨hk.1.2.2.2.1, hk.1.2.2.2.2⟩⟩⟩⟩)⟩
       have n1_ : Aside0 (Kd.N k28 28 w55 w.heap.size (fun k_ => (w.heap.size ≤ k_) ∧ some k_ ≠ (.slice Ao49 t234.length co49 : Value).ownBlock ∧ k_ ≠ gb219 ∧ k_ ≠ gb240 ∧ k_ ≠ g) (.slice (some ⟨go48, 0, none⟩) x241000_1.length co48) y253) := ⟨by subst h_w55; refine kN_ ?_; exact HQ54.out⟩
       have n2_ : Aside0 (w55.heap[gb219]? = some (.cells #[.slice none 0 0, .int .i64 0] 25 (0, 0))) := ⟨by subst h_w55; refine kb_ ?_; refine blk_far ?_ (by have h_ := Kd.N_away HO_241000.out (fun _ hk => hk.2.2.1); intro e_; exact h_ (by rw [e_]; rfl)) _; refine kb_ ?_; exact BK219.out⟩
       have n3_ : Aside0 (w55.heap[gb240]? = some (.cells #[.slice (some ⟨go48, 0, none⟩) x241000_1.length co48, .int .i64 t238] 25 (0, 0))) := ⟨by subst h_w55; refine kb_ ?_; refine blk_far ?_ (by have h_ := Kd.N_away HO_241000.out (fun _ hk => hk.2.2.2.1); intro e_; exact h_ (by rw [e_]; rfl)) _; refine kb_ ?_; exact BK240.out⟩
       have n4_ : Aside0 (IsS102 w0 w55 g s0_0 t252) := ⟨by subst h_w55; exact is102_ HI0.out⟩
       have n5_ : Aside0 (KeepBut w w55 g none) := ⟨by subst h_w55; exact hkA_ HK.out⟩
       have n6_ : Aside0 (Below w0.heap.size w0 w55) := ⟨by subst h_w55; repeat (first | (with_reducible first | exact HB.out | apply below_alloc | apply pw_below_drewN | apply below_drew1 | refine below_set ?_ (Nat.le_trans HL.out GB48.out) | refine below_set ?_ (IsS102.ge HI0.out) | refine below_set ?_ GE219.out | refine below_set ?_ GE240.out) | exact HB.out)⟩
       (try clear HO_5); (try clear HO_241000); (try clear BK219); (try clear BK240); (try clear HI0); (try clear HK); (try clear HB)
       (try rw [h_w55]); clear h_w55
       have HO_5 := n0_; have HO_241000 := n1_; have BK219 := n2_; have BK240 := n3_; have HI0 := n4_; have HK := n5_; have HB := n6_; clear n0_ n1_ n2_ n3_ n4_ n5_ n6_; have hnb56 := NB240_219.out; have hnc56 := NB219_240.out; have hnb57 := NB240_0.out; have hnc57 := NB0_240.out; have Z58 := zz2 BK240; have hnb59 := NB219_0.out; have hnc59 := NB0_219.out; have Z60 := zz2 BK219
       try go_wp2
       refine bodyPost_ret (results_cell_row rfl _ _ gb219 25 #[.slice (some ⟨go48, 0, none⟩) x241000_1.length co48, .int .i64 t238] (0, 0) _ rfl (by refine kb_ ?_; refine blk_put (cs := #[.slice (some ⟨go48, 0, none⟩) x241000_1.length co48, .int .i64 0]) ?_ 1 _ rfl; refine kb_ ?_; refine blk_put (cs := #[.slice none 0 0, .int .i64 0]) ?_ 0 _ rfl; refine kb_ ?_; exact BK219.out) Try.underlying25 rfl (by kernel_rfl)) rfl ?_
       exact ⟨_, by first | rfl | (simp [errW_none, errW_some] <;> rfl) | (simp [*, errW_none, errW_some] <;> rfl), by refine kN_ ?_; exact nfN_ gb219 HO_241000.out (fun _ hk => hk.2.2.1) (fun _ hk => hk.1.1), is102_ HI0.out, hb102_ HB.out, hkA_ HK.out⟩
      ·rw [if_neg c47] at H
       exact absurd H (by simp)
     ·rw [if_neg c45] at H
      have c45b0 : (t249 == 0) = false := beq_eq_false_iff_ne.mpr c45
      have c45b1 : (t249 != 0) = true := bne_iff_ne.mpr c45
      by_cases c61 : t249 = 1
      ·rw [if_pos c61] at H
       have c61b0 : (t249 == 1) = true := beq_iff_eq.mpr c61
       have c61b1 : (t249 != 1) = false := bne_eq_false_iff_eq.mpr c61
       clear c61
       by_cases c62 : 0 < (x241000_1.length : Int)
       ·rw [if_pos c62] at H
        have c62b0 : decide (0 < (x241000_1.length : Int)) = true := decide_eq_true c62
        have c62b1 : decide (0 < x241000_1.length) = true := decide_eq_true (by omega)
        clear c62
        obtain ⟨y254, hy254⟩ : ∃ y_ : List (S28), y_ = (x241000_1.set (0 : Int).toNat (⟨(rd_T28 x241000_1 0).f0, (rd_T28 x241000_1 0).f1, (rd_T28 x241000_1 0).f2, (rd_T28 x241000_1 0).f3, (rd_T28 x241000_1 0).f4, (rd_T28 x241000_1 0).f5, false, (rd_T28 x241000_1 0).f7, (rd_T28 x241000_1 0).f8⟩ : S28)) := ⟨_, rfl⟩
        (first | replace H := sb_ hy254 H | rw [← hy254] at H)
        have Ny254 := Aside0.mk hy254; clear hy254
        simp only [Option.some.injEq, Prod.mk.injEq] at H
        obtain ⟨rfl, rfl, rfl⟩ := H
        obtain ⟨Ao64, co64, eo64⟩ := Kd.N_slice HO_5.out
        subst eo64
        go_wp2_with (first | ((with_reducible refine gate_callee (f := 80) rfl ?_); refine goesL_ (some 54) rfl rfl Try.func80 (by kernel_rfl) rfl #[.pointer (some ⟨g, 0, none⟩), .int .i64 a1] rfl ar_ ?_; (with_reducible refine (spec_l20Rd_odd.calls k1 g s0_0 x1001_1 a1 true t248 w0 _ ?side1 ?side2 A42.out).mono ?_); (case side1 => exact is102_ HI0.out); (case side2 => exact hb102_ HB.out); rintro e w65 ⟨rfl, hi, hb, hk⟩; refine ⟨_, rfl, ?_⟩; replace HO_5 := Aside0.mk (Kd.N_mono (Kd.N_keep (Kd.N_mono (ok := fun k_ => (((w.heap.size ≤ k_)) ∧ (some k_ ≠ (u241000 : Value).ownBlock ∧ (k_ ≠ gb219 ∧ (k_ ≠ gb240 ∧ k_ ≠ g))))) (kN_ HO_5.out) (fun k_ hk_ => (⟨hk_, hk_.2.2.2.2⟩ : _ ∧ k_ ≠ g))) hk (fun _ h => h.2)) (fun _ h => h.1)); replace HO_241000 := Aside0.mk (Kd.N_mono (Kd.N_keep (Kd.N_mono (ok := fun k_ => (((w.heap.size ≤ k_)) ∧ (some k_ ≠ (.slice Ao64 t234.length co64 : Value).ownBlock ∧ (k_ ≠ gb219 ∧ (k_ ≠ gb240 ∧ k_ ≠ g))))) (kN_ HO_241000.out) (fun k_ hk_ => (⟨hk_, hk_.2.2.2.2⟩ : _ ∧ k_ ≠ g))) hk (fun _ h => h.2)) (fun _ h => h.1)); replace BK219 := (bkA_ BK219 hk NB219_0); replace BK240 := (bkA_ BK240 hk NB240_0); replace HK := (kk_ HK hk); replace HB := Aside0.mk (hb); replace HI0 := Aside0.mk (hi); (try clear hb); (try clear hb2); (try clear hk); (try clear hi)) | ((with_reducible refine gate_callee (f := 40) rfl ?_); refine goesL_ (some 56) rfl rfl Try.func40 (by kernel_rfl) rfl #[.pointer (some ⟨g, 0, none⟩), .int .i64 4] rfl ar_ ?_; (with_reducible refine (spec_l20Rd_pick.calls k1 g s0_0 t248 4 t249 t250 w0 _ ?side1 ?side2 A44.out).mono ?_); (case side1 => exact is102_ HI0.out); (case side2 => exact hb102_ HB.out); rintro e w66 ⟨rfl, hi, hb, hk⟩; refine ⟨_, rfl, ?_⟩; replace HO_5 := Aside0.mk (Kd.N_mono (Kd.N_keep (Kd.N_mono (ok := fun k_ => (((w.heap.size ≤ k_)) ∧ (some k_ ≠ (u241000 : Value).ownBlock ∧ (k_ ≠ gb219 ∧ (k_ ≠ gb240 ∧ k_ ≠ g))))) (kN_ HO_5.out) (fun k_ hk_ => (⟨hk_, hk_.2.2.2.2⟩ : _ ∧ k_ ≠ g))) hk (fun _ h => h.2)) (fun _ h => h.1)); replace HO_241000 := Aside0.mk (Kd.N_mono (Kd.N_keep (Kd.N_mono (ok := fun k_ => (((w.heap.size ≤ k_)) ∧ (some k_ ≠ (.slice Ao64 t234.length co64 : Value).ownBlock ∧ (k_ ≠ gb219 ∧ (k_ ≠ gb240 ∧ k_ ≠ g))))) (kN_ HO_241000.out) (fun k_ hk_ => (⟨hk_, hk_.2.2.2.2⟩ : _ ∧ k_ ≠ g))) hk (fun _ h => h.2)) (fun _ h => h.1)); replace BK219 := (bkA_ BK219 hk NB219_0); replace BK240 := (bkA_ BK240 hk NB240_0); replace HK := (kk_ HK hk); replace HB := Aside0.mk (hb); replace HI0 := Aside0.mk (hi); (try clear hb); (try clear hb2); (try clear hk); (try clear hi); have hnb67 := NB240_219.out; have hnc67 := NB219_240.out; have hnb68 := NB240_0.out; have hnc68 := NB0_240.out; have Z69 := zz2 BK240; have p63 : 0 ≤ (0 : Int) := (by omega); have q63 : (0 : Int) < ((x241000_1.length : Int) : Int) := of_decide_eq_true (by first | (with_reducible assumption) | assumption); have qi63 : (0 < x241000_1.length) = True := eq_true (by omega); obtain ⟨go63, co63, eo63, gb63, gl63, cl63, HG63⟩ := Kd.N_form HO_241000.out (by omega); (first | cases eo63 | (injection eo63 with ea_ en_ ec_; (first | subst ea_ | (injection ea_ with ea_; subst ea_)); subst ec_; clear en_)); have GB63 := Aside0.mk gb63; have GG63 := Aside0.mk HG63; clear gb63 gl63 HG63; obtain ⟨ce63, hcl63, hM63, hcc63, hfr63⟩ := Kd.N_elem HO_241000.out z28 (0 : Int) p63 q63; obtain ⟨ua63_8, uc63_8, rfl, ul63_8, ge63_8⟩ := k28_openF hM63; have hx63_0 : w66.cell? ⟨go63, (0 : Int).toNat * 9, none⟩ = some (.int .i64 ((rd_T28 x241000_1 0).f0)) := hcc63 0 _ rfl; have hx63_1 : w66.cell? ⟨go63, (0 : Int).toNat * 9 + 1, none⟩ = some (.int .i64 ((rd_T28 x241000_1 0).f1)) := hcc63 1 _ rfl; have hx63_2 : w66.cell? ⟨go63, (0 : Int).toNat * 9 + 2, none⟩ = some (.int .i64 ((rd_T28 x241000_1 0).f2)) := hcc63 2 _ rfl; have hx63_3 : w66.cell? ⟨go63, (0 : Int).toNat * 9 + 3, none⟩ = some (.int .i64 ((rd_T28 x241000_1 0).f3)) := hcc63 3 _ rfl; have hx63_4 : w66.cell? ⟨go63, (0 : Int).toNat * 9 + 4, none⟩ = some (.int .i64 ((rd_T28 x241000_1 0).f4)) := hcc63 4 _ rfl; have hx63_5 : w66.cell? ⟨go63, (0 : Int).toNat * 9 + 5, none⟩ = some (.int .i64 ((rd_T28 x241000_1 0).f5)) := hcc63 5 _ rfl; have hx63_6 : w66.cell? ⟨go63, (0 : Int).toNat * 9 + 6, none⟩ = some (.bool ((rd_T28 x241000_1 0).f6)) := hcc63 6 _ rfl; have hx63_7 : w66.cell? ⟨go63, (0 : Int).toNat * 9 + 7, none⟩ = some (.bool ((rd_T28 x241000_1 0).f7)) := hcc63 7 _ rfl; have hx63_8 : w66.cell? ⟨go63, (0 : Int).toNat * 9 + 8, none⟩ = some (.slice ua63_8 ((rd_T28 x241000_1 0).f8).length uc63_8) := hcc63 8 _ rfl; have hf63_0 : w66.frozen? ⟨go63, (0 : Int).toNat * 9, none⟩ = false := hfr63 0; have hf63_1 : w66.frozen? ⟨go63, (0 : Int).toNat * 9 + 1, none⟩ = false := hfr63 1; have hf63_2 : w66.frozen? ⟨go63, (0 : Int).toNat * 9 + 2, none⟩ = false := hfr63 2; have hf63_3 : w66.frozen? ⟨go63, (0 : Int).toNat * 9 + 3, none⟩ = false := hfr63 3; have hf63_4 : w66.frozen? ⟨go63, (0 : Int).toNat * 9 + 4, none⟩ = false := hfr63 4; have hf63_5 : w66.frozen? ⟨go63, (0 : Int).toNat * 9 + 5, none⟩ = false := hfr63 5; have hf63_6 : w66.frozen? ⟨go63, (0 : Int).toNat * 9 + 6, none⟩ = false := hfr63 6; have hf63_7 : w66.frozen? ⟨go63, (0 : Int).toNat * 9 + 7, none⟩ = false := hfr63 7; have hf63_8 : w66.frozen? ⟨go63, (0 : Int).toNat * 9 + 8, none⟩ = false := hfr63 8; clear hcl63 hcc63 hfr63 hM63; (try rw [show ((0 : Int)).toNat = 0 from rfl] at hx63_0); (try simp only [Nat.reduceMul, Nat.zero_mul, Nat.zero_add, Nat.reduceAdd] at hx63_0); (try rw [show ((0 : Int)).toNat = 0 from rfl] at hf63_0); (try simp only [Nat.reduceMul, Nat.zero_mul, Nat.zero_add, Nat.reduceAdd] at hf63_0); (try rw [show ((0 : Int)).toNat = 0 from rfl] at hx63_1); (try simp only [Nat.reduceMul, Nat.zero_mul, Nat.zero_add, Nat.reduceAdd] at hx63_1); (try rw [show ((0 : Int)).toNat = 0 from rfl] at hf63_1); (try simp only [Nat.reduceMul, Nat.zero_mul, Nat.zero_add, Nat.reduceAdd] at hf63_1); (try rw [show ((0 : Int)).toNat = 0 from rfl] at hx63_2); (try simp only [Nat.reduceMul, Nat.zero_mul, Nat.zero_add, Nat.reduceAdd] at hx63_2); (try rw [show ((0 : Int)).toNat = 0 from rfl] at hf63_2); (try simp only [Nat.reduceMul, Nat.zero_mul, Nat.zero_add, Nat.reduceAdd] at hf63_2); (try rw [show ((0 : Int)).toNat = 0 from rfl] at hx63_3); (try simp only [Nat.reduceMul, Nat.zero_mul, Nat.zero_add, Nat.reduceAdd] at hx63_3); (try rw [show ((0 : Int)).toNat = 0 from rfl] at hf63_3); (try simp only [Nat.reduceMul, Nat.zero_mul, Nat.zero_add, Nat.reduceAdd] at hf63_3); (try rw [show ((0 : Int)).toNat = 0 from rfl] at hx63_4); (try simp only [Nat.reduceMul, Nat.zero_mul, Nat.zero_add, Nat.reduceAdd] at hx63_4); (try rw [show ((0 : Int)).toNat = 0 from rfl] at hf63_4); (try simp only [Nat.reduceMul, Nat.zero_mul, Nat.zero_add, Nat.reduceAdd] at hf63_4); (try rw [show ((0 : Int)).toNat = 0 from rfl] at hx63_5); (try simp only [Nat.reduceMul, Nat.zero_mul, Nat.zero_add, Nat.reduceAdd] at hx63_5); (try rw [show ((0 : Int)).toNat = 0 from rfl] at hf63_5); (try simp only [Nat.reduceMul, Nat.zero_mul, Nat.zero_add, Nat.reduceAdd] at hf63_5); (try rw [show ((0 : Int)).toNat = 0 from rfl] at hx63_6); (try simp only [Nat.reduceMul, Nat.zero_mul, Nat.zero_add, Nat.reduceAdd] at hx63_6); (try rw [show ((0 : Int)).toNat = 0 from rfl] at hf63_6); (try simp only [Nat.reduceMul, Nat.zero_mul, Nat.zero_add, Nat.reduceAdd] at hf63_6); (try rw [show ((0 : Int)).toNat = 0 from rfl] at hx63_7); (try simp only [Nat.reduceMul, Nat.zero_mul, Nat.zero_add, Nat.reduceAdd] at hx63_7); (try rw [show ((0 : Int)).toNat = 0 from rfl] at hf63_7); (try simp only [Nat.reduceMul, Nat.zero_mul, Nat.zero_add, Nat.reduceAdd] at hf63_7); (try rw [show ((0 : Int)).toNat = 0 from rfl] at hx63_8); (try simp only [Nat.reduceMul, Nat.zero_mul, Nat.zero_add, Nat.reduceAdd] at hx63_8); (try rw [show ((0 : Int)).toNat = 0 from rfl] at hf63_8); (try simp only [Nat.reduceMul, Nat.zero_mul, Nat.zero_add, Nat.reduceAdd] at hf63_8); replace p63 := eq_true p63; replace q63 := eq_true q63; have HX70 := Aside0.mk (show Kd.N k28 28 w66 w.heap.size (fun k_ => (w.heap.size ≤ k_) ∧ some k_ ≠ (.slice Ao64 t234.length co64 : Value).ownBlock ∧ k_ ≠ gb219 ∧ k_ ≠ gb240 ∧ k_ ≠ g) (.slice (some ⟨go63, 0, none⟩) x241000_1.length co63) x241000_1 from (kN_ HO_241000.out)); obtain ⟨ce70, hcl70, hM70, hcc70, hfr70⟩ := Kd.N_elem HX70.out z28 (0 : Int) (by omega) (by have h_ : (0 : Int) < ((x241000_1.length : Int) : Int) := of_decide_eq_true (by first | (with_reducible assumption) | assumption); first | exact h_ | (have e_ := (Kd.N_reads' HO_241000.out).1; omega) | simpa using h_); obtain ⟨ua70_8, uc70_8, rfl, ul70_8, ge70_8⟩ := k28_openF hM70; have HP70 := Kd.N_seg HX70.out (0 : Int) (by omega) (by have h_ : (0 : Int) < ((x241000_1.length : Int) : Int) := of_decide_eq_true (by first | (with_reducible assumption) | assumption); first | exact h_ | (have e_ := (Kd.N_reads' HO_241000.out).1; omega) | simpa using h_) (seg := [.bool false]) (j := 6) hcl70 hcc70 (show 7 ≤ 9 from by decide) (x' := (⟨(rd_T28 x241000_1 0).f0, (rd_T28 x241000_1 0).f1, (rd_T28 x241000_1 0).f2, (rd_T28 x241000_1 0).f3, (rd_T28 x241000_1 0).f4, (rd_T28 x241000_1 0).f5, false, (rd_T28 x241000_1 0).f7, (rd_T28 x241000_1 0).f8⟩ : S28)) (k28_mkF _ _ (⟨(rd_T28 x241000_1 0).f0, (rd_T28 x241000_1 0).f1, (rd_T28 x241000_1 0).f2, (rd_T28 x241000_1 0).f3, (rd_T28 x241000_1 0).f4, (rd_T28 x241000_1 0).f5, false, (rd_T28 x241000_1 0).f7, (rd_T28 x241000_1 0).f8⟩ : S28) ul70_8 ge70_8) (fun _ hk => hk); have hx70_6 := hcc70 6 _ rfl; (try simp only [show (k28).sz = 9 from rfl, Nat.mul_one, Nat.add_zero] at hx70_6); (try rw [show ((0 : Int)).toNat = 0 from rfl] at hx70_6); (try simp only [Nat.reduceMul, Nat.zero_mul, Nat.zero_add, Nat.reduceAdd] at hx70_6); have hf70_6 := hfr70 6; (try simp only [show (k28).sz = 9 from rfl, Nat.mul_one, Nat.add_zero] at hf70_6); (try rw [show ((0 : Int)).toNat = 0 from rfl] at hf70_6); (try simp only [Nat.reduceMul, Nat.zero_mul, Nat.zero_add, Nat.reduceAdd] at hf70_6); clear hcl70 hcc70 hfr70 hM70) | ((with_reducible refine gate_store (t := 4) (p := 72) rfl ?_); refine store_event (t := 4) (p := 72) (v := ?vo_w71) (w1 := (w66.setCell ⟨go63, 6, none⟩ (.bool false))) ?hg ?ho ?hn ?hr ?_; (case ho => rfl); (case hg => rfl); (case hn => rfl); (case hr => first | (go_simp; done) | (go_simp; rfl)); intro w71 hw; have hg : w66.grownBy w71 (some go63) := (by rw [hw]; exact HP70.2); have hp_ : Kd.N k28 28 w71 w.heap.size (fun k_ => (w.heap.size ≤ k_) ∧ some k_ ≠ (.slice Ao64 t234.length co64 : Value).ownBlock ∧ k_ ≠ gb219 ∧ k_ ≠ gb240 ∧ k_ ≠ g) (.slice (some ⟨go63, 0, none⟩) x241000_1.length co63) y254 := (by rw [hw, Ny254.out]; exact HP70.1); clear HP70; replace HO_5 := Aside0.mk (Kd.N_afterv (v := (.slice (some ⟨go63, 0, none⟩) x241000_1.length co63)) (v1 := (.slice (some ⟨go63, 0, none⟩) x241000_1.length co63)) (ok := (fun k_ => (w.heap.size ≤ k_) ∧ k_ ≠ gb219 ∧ k_ ≠ gb240 ∧ k_ ≠ g)) (by refine kN_ ?_; exact Kd.N_mono HO_5.out (fun _ hk => ⟨⟨hk.1, ⟨hk.2.2.1, ⟨hk.2.2.2.1, hk.2.2.2.2⟩⟩⟩, hk.2.1⟩)) hg (.inl rfl)); replace BK219 := (bgA_ BK219 hg (Kd.N_ne HO_241000.out BK219.out (by decide))); replace BK240 := (bgA_ BK240 hg (Kd.N_ne HO_241000.out BK240.out (by decide))); replace HI0 := Aside0.mk (IsS102.grown (is102_ HI0.out) hg (IsS102.own_neN HI0.out HO_241000.out (by decide))); replace HB := Aside0.mk ((by rw [hw]; exact below_set (HB.out) (Nat.le_trans HL.out GB63.out) : Below w0.heap.size w0 w71)); replace HK := Aside0.mk (KeepBut.trans (hkA_ HK.out) (KeepBut.of_grown hg g) (Kd.N_base2 HO_241000.out)); replace HO_241000 := Aside0.mk (hp_); clear hg hw hp_; have Z72 := zz2 BK240; have hnb73 := NB219_0.out; have hnc73 := NB0_219.out; have Z74 := zz2 BK219))
        refine bodyPost_ret (results_cell_row rfl _ _ gb219 25 #[.slice (some ⟨go63, 0, none⟩) x241000_1.length co63, .int .i64 t238] (0, 0) _ rfl (by refine kb_ ?_; refine blk_put (cs := #[.slice (some ⟨go63, 0, none⟩) x241000_1.length co63, .int .i64 0]) ?_ 1 _ rfl; refine kb_ ?_; refine blk_put (cs := #[.slice none 0 0, .int .i64 0]) ?_ 0 _ rfl; refine kb_ ?_; exact BK219.out) Try.underlying25 rfl (by kernel_rfl)) rfl ?_
        exact ⟨_, by first | rfl | (simp [errW_none, errW_some] <;> rfl) | (simp [*, errW_none, errW_some] <;> rfl), by refine kN_ ?_; exact nfN_ gb219 HO_241000.out (fun _ hk => hk.2.2.1) (fun _ hk => hk.1.1), is102_ HI0.out, hb102_ HB.out, hkA_ HK.out⟩
       ·rw [if_neg c62] at H
        exact absurd H (by simp)
      ·rw [if_neg c61] at H
       have c61b0 : (t249 == 1) = false := beq_eq_false_iff_ne.mpr c61
       have c61b1 : (t249 != 1) = true := bne_iff_ne.mpr c61
       by_cases c75 : t249 = 2
       ·rw [if_pos c75] at H
        have c75b0 : (t249 == 2) = true := beq_iff_eq.mpr c75
        have c75b1 : (t249 != 2) = false := bne_eq_false_iff_eq.mpr c75
        clear c75
        by_cases c76 : 0 < (x241000_1.length : Int)
        ·rw [if_pos c76] at H
         have c76b0 : decide (0 < (x241000_1.length : Int)) = true := decide_eq_true c76
         have c76b1 : decide (0 < x241000_1.length) = true := decide_eq_true (by omega)
         clear c76
         by_cases c77 : x241000_1.length < 1759218604441
         ·rw [if_pos c77] at H
          have LMc77 := Aside0.mk c77; clear c77
          obtain ⟨y256, hy256⟩ : ∃ y_ : List (S28), y_ = (x241000_1 ++ [(⟨(rd_T28 x241000_1 0).f0, (rd_T28 x241000_1 0).f1, (rd_T28 x241000_1 0).f2, (rd_T28 x241000_1 0).f3, (rd_T28 x241000_1 0).f4, (rd_T28 x241000_1 0).f5, (rd_T28 x241000_1 0).f6, (rd_T28 x241000_1 0).f7, (rd_T28 x241000_1 0).f8⟩ : S28)]) := ⟨_, rfl⟩
          (first | replace H := sb_ hy256 H | rw [← hy256] at H)
          have Ny256 := Aside0.mk hy256; clear hy256
          simp only [Option.some.injEq, Prod.mk.injEq] at H
          obtain ⟨rfl, rfl, rfl⟩ := H
          obtain ⟨Ao78, co78, eo78⟩ := Kd.N_slice HO_5.out
          subst eo78
          try go_wp2_with (first | ((with_reducible refine gate_callee (f := 80) rfl ?_); refine goesL_ (some 54) rfl rfl Try.func80 (by kernel_rfl) rfl #[.pointer (some ⟨g, 0, none⟩), .int .i64 a1] rfl ar_ ?_; (with_reducible refine (spec_l20Rd_odd.calls k1 g s0_0 x1001_1 a1 true t248 w0 _ ?side1 ?side2 A42.out).mono ?_); (case side1 => exact is102_ HI0.out); (case side2 => exact hb102_ HB.out); rintro e w79 ⟨rfl, hi, hb, hk⟩; refine ⟨_, rfl, ?_⟩; replace HO_5 := Aside0.mk (Kd.N_mono (Kd.N_keep (Kd.N_mono (ok := fun k_ => (((w.heap.size ≤ k_)) ∧ (some k_ ≠ (u241000 : Value).ownBlock ∧ (k_ ≠ gb219 ∧ (k_ ≠ gb240 ∧ k_ ≠ g))))) (kN_ HO_5.out) (fun k_ hk_ => (⟨hk_, hk_.2.2.2.2⟩ : _ ∧ k_ ≠ g))) hk (fun _ h => h.2)) (fun _ h => h.1)); replace HO_241000 := Aside0.mk (Kd.N_mono (Kd.N_keep (Kd.N_mono (ok := fun k_ => (((w.heap.size ≤ k_)) ∧ (some k_ ≠ (.slice Ao78 t234.length co78 : Value).ownBlock ∧ (k_ ≠ gb219 ∧ (k_ ≠ gb240 ∧ k_ ≠ g))))) (kN_ HO_241000.out) (fun k_ hk_ => (⟨hk_, hk_.2.2.2.2⟩ : _ ∧ k_ ≠ g))) hk (fun _ h => h.2)) (fun _ h => h.1)); replace BK219 := (bkA_ BK219 hk NB219_0); replace BK240 := (bkA_ BK240 hk NB240_0); replace HK := (kk_ HK hk); replace HB := Aside0.mk (hb); replace HI0 := Aside0.mk (hi); (try clear hb); (try clear hb2); (try clear hk); (try clear hi)) | ((with_reducible refine gate_callee (f := 40) rfl ?_); refine goesL_ (some 56) rfl rfl Try.func40 (by kernel_rfl) rfl #[.pointer (some ⟨g, 0, none⟩), .int .i64 4] rfl ar_ ?_; (with_reducible refine (spec_l20Rd_pick.calls k1 g s0_0 t248 4 t249 t250 w0 _ ?side1 ?side2 A44.out).mono ?_); (case side1 => exact is102_ HI0.out); (case side2 => exact hb102_ HB.out); rintro e w80 ⟨rfl, hi, hb, hk⟩; refine ⟨_, rfl, ?_⟩; replace HO_5 := Aside0.mk (Kd.N_mono (Kd.N_keep (Kd.N_mono (ok := fun k_ => (((w.heap.size ≤ k_)) ∧ (some k_ ≠ (u241000 : Value).ownBlock ∧ (k_ ≠ gb219 ∧ (k_ ≠ gb240 ∧ k_ ≠ g))))) (kN_ HO_5.out) (fun k_ hk_ => (⟨hk_, hk_.2.2.2.2⟩ : _ ∧ k_ ≠ g))) hk (fun _ h => h.2)) (fun _ h => h.1)); replace HO_241000 := Aside0.mk (Kd.N_mono (Kd.N_keep (Kd.N_mono (ok := fun k_ => (((w.heap.size ≤ k_)) ∧ (some k_ ≠ (.slice Ao78 t234.length co78 : Value).ownBlock ∧ (k_ ≠ gb219 ∧ (k_ ≠ gb240 ∧ k_ ≠ g))))) (kN_ HO_241000.out) (fun k_ hk_ => (⟨hk_, hk_.2.2.2.2⟩ : _ ∧ k_ ≠ g))) hk (fun _ h => h.2)) (fun _ h => h.1)); replace BK219 := (bkA_ BK219 hk NB219_0); replace BK240 := (bkA_ BK240 hk NB240_0); replace HK := (kk_ HK hk); replace HB := Aside0.mk (hb); replace HI0 := Aside0.mk (hi); (try clear hb); (try clear hb2); (try clear hk); (try clear hi)))
          replace HO_5 := Aside0.mk (Kd.N_drew HO_5.out); replace HO_241000 := Aside0.mk (Kd.N_drew HO_241000.out); replace BK219 := Aside0.mk (blk_drew BK219.out); replace BK240 := Aside0.mk (blk_drew BK240.out); replace HI0 := Aside0.mk (IsS102.drew HI0.out); replace HK := Aside0.mk (keep_drew HK.out); replace HB := (bd_ HB)
          obtain ⟨Ao82, co82, eo82⟩ := Kd.N_slice HO_241000.out
          (first | subst eo82 | (injection eo82 with f1_ f2_ f3_; have f4_ := f1_.symm; have f5_ := f3_.symm; clear f1_ f2_ f3_; subst f4_; subst f5_))
          have p255 : 0 ≤ (0 : Int) := (by omega)
          have q255 : 0 < (x241000_1.length : Int) := of_decide_eq_true (by first | (with_reducible assumption) | assumption)
          obtain ⟨ad255, A255_8, c255_8, e255, hx255_0, hx255_1, hx255_2, hx255_3, hx255_4, hx255_5, hx255_6, hx255_7, hx255_8, hl255_8, hi255_8⟩ := at_T28 (Kd.N_reads' HO_241000.out).2.2 0 p255 q255
          cases e255
          obtain ⟨ce255, hce255, hMe255, hcc255⟩ := Kd.N_get HO_241000.out z28 0 p255 (by first | exact q255 | exact of_decide_eq_true (by first | (with_reducible assumption) | assumption) | (have e_ := (Kd.N_reads' HO_241000.out).1; omega))
          obtain ⟨ua255_8, uc255_8, rfl, ul255_8, ge255_8⟩ := k28_openF hMe255
          have hv255_8 := hcc255 8 _ rfl
          rw [add_field _ _ 8 (by omega)] at hv255_8
          replace hv255_8 := Option.some.inj (hv255_8.symm.trans hx255_8)
          injection hv255_8 with hva_ hvn_ hvc_
          rw [hva_] at ge255_8
          rw [hvc_] at ul255_8
          have HL255_8 := Aside0.mk (show Kd.V (Kd.int .u8) 5 _ w.heap.size _ _ ((rd_T28 x241000_1 0).f8) from Kd.V_mk ul255_8 ge255_8)
          clear hva_ hvn_ hvc_ ge255_8 ul255_8 hcc255 hce255
          have qi255 : (0 < x241000_1.length) = True := eq_true (by omega)
          (try rw [show ((0 : Int)).toNat = 0 from rfl] at hx255_0)
          (try rw [show 0 * 9 = 0 from rfl] at hx255_0)
          (try rw [Addr.add_zero'] at hx255_0)
          (try rw [show ((0 : Int)).toNat = 0 from rfl] at hx255_1)
          (try rw [show 0 * 9 = 0 from rfl] at hx255_1)
          (try rw [Addr.add_zero'] at hx255_1)
          (try rw [show ((0 : Int)).toNat = 0 from rfl] at hx255_2)
          (try rw [show 0 * 9 = 0 from rfl] at hx255_2)
          (try rw [Addr.add_zero'] at hx255_2)
          (try rw [show ((0 : Int)).toNat = 0 from rfl] at hx255_3)
          (try rw [show 0 * 9 = 0 from rfl] at hx255_3)
          (try rw [Addr.add_zero'] at hx255_3)
          (try rw [show ((0 : Int)).toNat = 0 from rfl] at hx255_4)
          (try rw [show 0 * 9 = 0 from rfl] at hx255_4)
          (try rw [Addr.add_zero'] at hx255_4)
          (try rw [show ((0 : Int)).toNat = 0 from rfl] at hx255_5)
          (try rw [show 0 * 9 = 0 from rfl] at hx255_5)
          (try rw [Addr.add_zero'] at hx255_5)
          (try rw [show ((0 : Int)).toNat = 0 from rfl] at hx255_6)
          (try rw [show 0 * 9 = 0 from rfl] at hx255_6)
          (try rw [Addr.add_zero'] at hx255_6)
          (try rw [show ((0 : Int)).toNat = 0 from rfl] at hx255_7)
          (try rw [show 0 * 9 = 0 from rfl] at hx255_7)
          (try rw [Addr.add_zero'] at hx255_7)
          (try rw [show ((0 : Int)).toNat = 0 from rfl] at hx255_8)
          (try rw [show 0 * 9 = 0 from rfl] at hx255_8)
          (try rw [Addr.add_zero'] at hx255_8)
          have HR255_8 := Aside0.mk hi255_8; have HC255_8 := Aside0.mk hl255_8; clear hi255_8 hl255_8
          replace p255 := eq_true p255
          replace q255 := eq_true q255
          refine start_ (n := 10) (S := fun w' => w'.cell? ⟨gb240, 0, none⟩ = some (.slice (some ad255) x241000_1.length co82) ∧ w'.cell? ⟨gb240, 1, none⟩ = some (.int .i64 t238) ∧ w'.cell? ad255 = some (.int .i64 ((rd_T28 x241000_1 0).f0)) ∧ w'.cell? ⟨ad255.block, ad255.off + 1, none⟩ = some (.int .i64 ((rd_T28 x241000_1 0).f1)) ∧ w'.cell? ⟨ad255.block, ad255.off + 2, none⟩ = some (.int .i64 ((rd_T28 x241000_1 0).f2)) ∧ w'.cell? ⟨ad255.block, ad255.off + 3, none⟩ = some (.int .i64 ((rd_T28 x241000_1 0).f3)) ∧ w'.cell? ⟨ad255.block, ad255.off + 4, none⟩ = some (.int .i64 ((rd_T28 x241000_1 0).f4)) ∧ w'.cell? ⟨ad255.block, ad255.off + 5, none⟩ = some (.int .i64 ((rd_T28 x241000_1 0).f5)) ∧ w'.cell? ⟨ad255.block, ad255.off + 6, none⟩ = some (.bool ((rd_T28 x241000_1 0).f6)) ∧ w'.cell? ⟨ad255.block, ad255.off + 7, none⟩ = some (.bool ((rd_T28 x241000_1 0).f7)) ∧ w'.cell? ⟨ad255.block, ad255.off + 8, none⟩ = some (.slice A255_8 ((rd_T28 x241000_1 0).f8).length c255_8)) (ds := [7, 9]) #[false, false, false, false, false, false, false, false, false, false] (by kernel_rfl) rfl rfl ⟨bc_ BK240 0, bc_ BK240 1, hx255_0, hx255_1, hx255_2, hx255_3, hx255_4, hx255_5, hx255_6, hx255_7, hx255_8⟩ (fun hHeld => ?_); refine with_tabW spec_l20Part.tab16 spec_l20Part.bits16 (fun HT_ HW_ => ?_)
          generalize w80.drew = w81 at HO_5 HO_241000 BK219 BK240 HI0 HK HB HL255_8 HR255_8 hx255_0 hx255_1 hx255_2 hx255_3 hx255_4 hx255_5 hx255_6 hx255_7 hx255_8 hHeld ⊢
          refine pu_ (i := 0) (N := some 75) HT_ ?_; refine pu_ (i := 2) (N := some 77) HT_ ?_; refine tk_ (i := 1) (N := some 76) HT_ HW_ hHeld ?_; refine tk_ (i := 3) (N := some 78) HT_ HW_ hHeld ?_; refine pu_ (i := 4) (N := some 79) HT_ ?_; refine tk_ (i := 5) (N := some 80) HT_ HW_ hHeld ?_
          refine on_ (i := 6) (N := some 81) HT_ (fun K hK => ?_)
          refine value_ (w1 := ?_) (v := ?_) (by rfl) rfl ?_ ?_
          rotate_left 2
          ·go_simp
           constructor
           ·rfl
           ·rfl
          refine hK.out _ _ ⟨(blk_cell (blk_alloc BK240.out _) 0).trans rfl, (blk_cell (blk_alloc BK240.out _) 1).trans rfl, (World.cell?_alloc_lt _ _ _ (World.block_lt_of_cell? _ _ (hHeld.2.2.1))).trans (hHeld.2.2.1), (World.cell?_alloc_lt _ _ _ (World.block_lt_of_cell? _ _ (hHeld.2.2.2.1))).trans (hHeld.2.2.2.1), (World.cell?_alloc_lt _ _ _ (World.block_lt_of_cell? _ _ (hHeld.2.2.2.2.1))).trans (hHeld.2.2.2.2.1), (World.cell?_alloc_lt _ _ _ (World.block_lt_of_cell? _ _ (hHeld.2.2.2.2.2.1))).trans (hHeld.2.2.2.2.2.1), (World.cell?_alloc_lt _ _ _ (World.block_lt_of_cell? _ _ (hHeld.2.2.2.2.2.2.1))).trans (hHeld.2.2.2.2.2.2.1), (World.cell?_alloc_lt _ _ _ (World.block_lt_of_cell? _ _ (hHeld.2.2.2.2.2.2.2.1))).trans (hHeld.2.2.2.2.2.2.2.1), (World.cell?_alloc_lt _ _ _ (World.block_lt_of_cell? _ _ (hHeld.2.2.2.2.2.2.2.2.1))).trans (hHeld.2.2.2.2.2.2.2.2.1), (World.cell?_alloc_lt _ _ _ (World.block_lt_of_cell? _ _ (hHeld.2.2.2.2.2.2.2.2.2.1))).trans (hHeld.2.2.2.2.2.2.2.2.2.1), (World.cell?_alloc_lt _ _ _ (World.block_lt_of_cell? _ _ (hHeld.2.2.2.2.2.2.2.2.2.2))).trans (hHeld.2.2.2.2.2.2.2.2.2.2)⟩ (fun hHeld => ?_)
          clear hK K; refine nm_ 81 ?_
          refine last_ (i := 7) (N := some 82) #[true, true, true, true, true, true, true, true, false, false] rfl rfl (one_of HT_.out (by kernel_rfl)) (by decide) (fun K hK => ?_)
          refine Kd.N_append_step k28 w.heap.size (by rfl) (.tmp 76) (.tmp 81) 23 28 (.agg #[(.int .i64 0), (.int .i64 0), (.int .i64 0), (.int .i64 0), (.int .i64 0), (.int .i64 0), (.bool false), (.bool false), (.slice none 0 0)]) 80 rfl Try.underlying23 info28 rfl (by decide) (by omega) (.slice (some ad255) x241000_1.length co82) x241000_1 (⟨(rd_T28 x241000_1 0).f0, (rd_T28 x241000_1 0).f1, (rd_T28 x241000_1 0).f2, (rd_T28 x241000_1 0).f3, (rd_T28 x241000_1 0).f4, (rd_T28 x241000_1 0).f5, (rd_T28 x241000_1 0).f6, (rd_T28 x241000_1 0).f7, (rd_T28 x241000_1 0).f8⟩ : S28) [.int .i64 ((rd_T28 x241000_1 0).f0), .int .i64 ((rd_T28 x241000_1 0).f1), .int .i64 ((rd_T28 x241000_1 0).f2), .int .i64 ((rd_T28 x241000_1 0).f3), .int .i64 ((rd_T28 x241000_1 0).f4), .int .i64 ((rd_T28 x241000_1 0).f5), .bool ((rd_T28 x241000_1 0).f6), .bool ((rd_T28 x241000_1 0).f7), .slice A255_8 ((rd_T28 x241000_1 0).f8).length c255_8] (fun k_ => (w.heap.size ≤ k_) ∧ some k_ ≠ (.slice Ao78 t234.length co78 : Value).ownBlock ∧ k_ ≠ gb219 ∧ k_ ≠ gb240 ∧ k_ ≠ g) (fun k_ => ((fun k_ => (w.heap.size ≤ k_) ∧ some k_ ≠ (.slice Ao78 t234.length co78 : Value).ownBlock ∧ k_ ≠ gb219 ∧ k_ ≠ gb240 ∧ k_ ≠ g)) k_ ∧ some k_ ≠ (.slice (some ad255) x241000_1.length co82 : Value).ownBlock) rfl rfl ?aP (fun _ hk => hk) ?aF ?aO (Below.refl _ _) ?aS ?aL ?_
          (case aP => exact (k28_mkF _ _ (⟨(rd_T28 x241000_1 0).f0, (rd_T28 x241000_1 0).f1, (rd_T28 x241000_1 0).f2, (rd_T28 x241000_1 0).f3, (rd_T28 x241000_1 0).f4, (rd_T28 x241000_1 0).f5, (rd_T28 x241000_1 0).f6, (rd_T28 x241000_1 0).f7, (rd_T28 x241000_1 0).f8⟩ : S28) (Kd.V_reads' (Kd.V_mono (ok' := (fun k_ => ((fun k_ => (w.heap.size ≤ k_) ∧ some k_ ≠ (.slice Ao78 t234.length co78 : Value).ownBlock ∧ k_ ≠ gb219 ∧ k_ ≠ gb240 ∧ k_ ≠ g)) k_ ∧ some k_ ≠ (.slice (some ad255) x241000_1.length co82 : Value).ownBlock)) (HL255_8.out) (fun k_ hk => ⟨⟨hk.1.1, ⟨hk.1.2.1, ⟨hk.1.2.2.1, ⟨hk.1.2.2.2.1, hk.1.2.2.2.2⟩⟩⟩⟩, hk.2⟩))).2.1 (Kd.V_F (Kd.V_mono (ok' := (fun k_ => ((fun k_ => (w.heap.size ≤ k_) ∧ some k_ ≠ (.slice Ao78 t234.length co78 : Value).ownBlock ∧ k_ ≠ gb219 ∧ k_ ≠ gb240 ∧ k_ ≠ g)) k_ ∧ some k_ ≠ (.slice (some ad255) x241000_1.length co82 : Value).ownBlock)) (HL255_8.out) (fun k_ hk => ⟨⟨hk.1.1, ⟨hk.1.2.1, ⟨hk.1.2.2.1, ⟨hk.1.2.2.2.1, hk.1.2.2.2.2⟩⟩⟩⟩, hk.2⟩)))))
          (case aF => exact (fun k_ hk => ⟨(Nat.le_trans (keep_size (w := w) (g := g) (row := none) (hkA_ HK.out)) hk), Kd.fresh' (Kd.N_lt (kN_ HO_5.out)) k_ hk, fb_ BK219 k_ hk, fb_ BK240 k_ hk, IsS102.fresh (is102_ HI0.out) k_ hk⟩))
          (case aO => exact (kN_ HO_241000.out))
          (case aS => exact (keep_size (w := w) (g := g) (row := none) (hkA_ HK.out)))
          (case aL => have := LMc77.out; omega)
          intro v257 w83 ho hb hg hat
          rw [← Ny256.out] at ho
          have n0_ := Aside0.mk (Kd.N_afterv (ok := (fun k_ => (w.heap.size ≤ k_) ∧ k_ ≠ gb219 ∧ k_ ≠ gb240 ∧ k_ ≠ g)) (by refine kN_ ?_; exact Kd.N_mono HO_5.out (fun _ hk => ⟨⟨hk.1, ⟨hk.2.2.1, ⟨hk.2.2.2.1, hk.2.2.2.2⟩⟩⟩, hk.2.1⟩)) hg hat); have n1_ := (bgA_ BK219 hg (Kd.N_ne HO_241000.out BK219.out (by decide))); have n2_ := (bgA_ BK240 hg (Kd.N_ne HO_241000.out BK240.out (by decide))); have n3_ := Aside0.mk (IsS102.grown (is102_ HI0.out) hg (IsS102.own_neN HI0.out HO_241000.out (by decide))); have n4_ := Aside0.mk (Kd.V_afterv (ok := (fun k_ => (w.heap.size ≤ k_) ∧ some k_ ≠ (.slice Ao78 t234.length co78 : Value).ownBlock ∧ k_ ≠ gb219 ∧ k_ ≠ gb240 ∧ k_ ≠ g)) (kV_ HL255_8.out) hg hat); have n5_ := Aside0.mk (below_weaken (hb102_ HB.out) HL.out hb); have n6_ := Aside0.mk (KeepBut.trans (hkA_ HK.out) (KeepBut.of_grown hg g) (Kd.N_base2 HO_241000.out)); have n7_ := Aside0.mk (ho); clear HO_5 BK219 BK240 HI0 HL255_8 HB HK HO_241000; have HO_5 := n0_; have BK219 := n1_; have BK240 := n2_; have HI0 := n3_; have HL255_8 := n4_; have HB := n5_; have HK := n6_; have HO258 := n7_; clear n0_ n1_ n2_ n3_ n4_ n5_ n6_ n7_ ho hb hg hat
          obtain ⟨Ao84, co84, eo84⟩ := Kd.N_slice HO258.out
          (first | subst eo84 | (injection eo84 with f1_ f2_ f3_; have f4_ := f1_.symm; have f5_ := f3_.symm; clear f1_ f2_ f3_; subst f4_; subst f5_))
          refine hK.out _ _ ?_
          clear hK K; refine nm_ 82 ?_; refine pu_ (i := 8) (N := some 83) HT_ ?_
          refine last_ (i := 9) (N := none) #[true, true, true, true, true, true, true, true, true, true] rfl rfl (one_of HT_.out (by kernel_rfl)) (by decide) (fun K hK => ?_)
          have hs85 : w83.cell? ⟨gb240, 0, none⟩ = some (.slice (some ad255) x241000_1.length co82) := bc_ BK240 0
          have hfs85 := blk_frozen BK240.out 0
          have hns85_0 := NB219_240.out; have hms85_0 := NB240_219.out
          refine skip_ (w1 := ?_) (by rfl) rfl ?_ ?_
          rotate_left
          ·go_simp
           rfl
          refine hK.out _ _ ?_
          clear hK K
          refine done_ (done_of HT_.out (by kernel_rfl)) ?_
          have hnb86 := NB240_219.out; have hnc86 := NB219_240.out; have hnb87 := NB240_0.out; have hnc87 := NB0_240.out; have Z88 := zz2 BK240; have hnb89 := NB219_0.out; have hnc89 := NB0_219.out; have Z90 := zz2 BK219
          try go_wp2
          refine bodyPost_ret (results_cell_row rfl _ _ gb219 25 #[.slice Ao84 y256.length co84, .int .i64 t238] (0, 0) _ rfl (by refine kb_ ?_; refine pz2 (cs := #[.slice none 0 0, .int .i64 0]) ?_; exact kf_ BK219.out) Try.underlying25 rfl (by kernel_rfl)) rfl ?_
          exact ⟨_, by first | rfl | (simp [errW_none, errW_some] <;> rfl) | (simp [*, errW_none, errW_some] <;> rfl), by refine kN_ ?_; exact Kd.N_mono (Kd.N_far (p := ⟨gb219, 1, none⟩) (Kd.N_far (p := ⟨gb219, 0, none⟩) (Kd.N_far (p := ⟨gb240, 0, none⟩) (Kd.N_mono (Kd.N_mono HO258.out (fun k_ hk => (⟨hk, hk.2.2.2.1⟩ : _ ∧ k_ ≠ gb240))) (fun k_ hk => (⟨hk, hk.1.2.2.1⟩ : _ ∧ k_ ≠ gb219))) (fun _ hk => hk.1.2) (.slice Ao84 y256.length co84)) (fun _ hk => hk.2) (.slice Ao84 y256.length co84)) (fun _ hk => hk.2) (.int .i64 t238)) (fun _ hk => hk.1.1.1), is102_ HI0.out, hb102_ HB.out, hkA_ HK.out⟩
         ·rw [if_neg c77] at H
          exact absurd H (by simp)
        ·rw [if_neg c76] at H
         exact absurd H (by simp)
       ·rw [if_neg c75] at H
        have c75b0 : (t249 == 2) = false := beq_eq_false_iff_ne.mpr c75
        have c75b1 : (t249 != 2) = true := bne_iff_ne.mpr c75
        obtain ⟨y259, hy259⟩ : ∃ y_ : List (S28), y_ = (([] : List (S28))) := ⟨_, rfl⟩
        (first | replace H := sb_ hy259 H | rw [← hy259] at H)
        have Ny259 := Aside0.mk hy259; clear hy259
        simp only [Option.some.injEq, Prod.mk.injEq] at H
        obtain ⟨rfl, rfl, rfl⟩ := H
        obtain ⟨Ao91, co91, eo91⟩ := Kd.N_slice HO_5.out
        subst eo91
        go_wp2_with (first | ((with_reducible refine gate_callee (f := 80) rfl ?_); refine goesL_ (some 54) rfl rfl Try.func80 (by kernel_rfl) rfl #[.pointer (some ⟨g, 0, none⟩), .int .i64 a1] rfl ar_ ?_; (with_reducible refine (spec_l20Rd_odd.calls k1 g s0_0 x1001_1 a1 true t248 w0 _ ?side1 ?side2 A42.out).mono ?_); (case side1 => exact is102_ HI0.out); (case side2 => exact hb102_ HB.out); rintro e w92 ⟨rfl, hi, hb, hk⟩; refine ⟨_, rfl, ?_⟩; replace HO_5 := Aside0.mk (Kd.N_mono (Kd.N_keep (Kd.N_mono (ok := fun k_ => (((w.heap.size ≤ k_)) ∧ (some k_ ≠ (u241000 : Value).ownBlock ∧ (k_ ≠ gb219 ∧ (k_ ≠ gb240 ∧ k_ ≠ g))))) (kN_ HO_5.out) (fun k_ hk_ => (⟨hk_, hk_.2.2.2.2⟩ : _ ∧ k_ ≠ g))) hk (fun _ h => h.2)) (fun _ h => h.1)); replace HO_241000 := Aside0.mk (Kd.N_mono (Kd.N_keep (Kd.N_mono (ok := fun k_ => (((w.heap.size ≤ k_)) ∧ (some k_ ≠ (.slice Ao91 t234.length co91 : Value).ownBlock ∧ (k_ ≠ gb219 ∧ (k_ ≠ gb240 ∧ k_ ≠ g))))) (kN_ HO_241000.out) (fun k_ hk_ => (⟨hk_, hk_.2.2.2.2⟩ : _ ∧ k_ ≠ g))) hk (fun _ h => h.2)) (fun _ h => h.1)); replace BK219 := (bkA_ BK219 hk NB219_0); replace BK240 := (bkA_ BK240 hk NB240_0); replace HK := (kk_ HK hk); replace HB := Aside0.mk (hb); replace HI0 := Aside0.mk (hi); (try clear hb); (try clear hb2); (try clear hk); (try clear hi)) | ((with_reducible refine gate_callee (f := 40) rfl ?_); refine goesL_ (some 56) rfl rfl Try.func40 (by kernel_rfl) rfl #[.pointer (some ⟨g, 0, none⟩), .int .i64 4] rfl ar_ ?_; (with_reducible refine (spec_l20Rd_pick.calls k1 g s0_0 t248 4 t249 t250 w0 _ ?side1 ?side2 A44.out).mono ?_); (case side1 => exact is102_ HI0.out); (case side2 => exact hb102_ HB.out); rintro e w93 ⟨rfl, hi, hb, hk⟩; refine ⟨_, rfl, ?_⟩; replace HO_5 := Aside0.mk (Kd.N_mono (Kd.N_keep (Kd.N_mono (ok := fun k_ => (((w.heap.size ≤ k_)) ∧ (some k_ ≠ (u241000 : Value).ownBlock ∧ (k_ ≠ gb219 ∧ (k_ ≠ gb240 ∧ k_ ≠ g))))) (kN_ HO_5.out) (fun k_ hk_ => (⟨hk_, hk_.2.2.2.2⟩ : _ ∧ k_ ≠ g))) hk (fun _ h => h.2)) (fun _ h => h.1)); replace HO_241000 := Aside0.mk (Kd.N_mono (Kd.N_keep (Kd.N_mono (ok := fun k_ => (((w.heap.size ≤ k_)) ∧ (some k_ ≠ (.slice Ao91 t234.length co91 : Value).ownBlock ∧ (k_ ≠ gb219 ∧ (k_ ≠ gb240 ∧ k_ ≠ g))))) (kN_ HO_241000.out) (fun k_ hk_ => (⟨hk_, hk_.2.2.2.2⟩ : _ ∧ k_ ≠ g))) hk (fun _ h => h.2)) (fun _ h => h.1)); replace BK219 := (bkA_ BK219 hk NB219_0); replace BK240 := (bkA_ BK240 hk NB240_0); replace HK := (kk_ HK hk); replace HB := Aside0.mk (hb); replace HI0 := Aside0.mk (hi); (try clear hb); (try clear hb2); (try clear hk); (try clear hi)) | ((with_reducible refine gate_dst (N := 57) rfl ?_); (try (refine gate_guard (by rfl) ?_; dsimp only)); refine Kd.N_lit k28 _ 28 ?hg (N' := 57) ?hd (xs := ([] : List (S28))) (inner := []) (ok := (fun k_ => (w.heap.size ≤ k_) ∧ some k_ ≠ (.slice Ao91 t234.length co91 : Value).ownBlock ∧ some k_ ≠ (u241000 : Value).ownBlock ∧ k_ ≠ gb219 ∧ k_ ≠ gb240 ∧ k_ ≠ g)) (okp := (fun k_ => (w.heap.size ≤ k_) ∧ some k_ ≠ (.slice Ao91 t234.length co91 : Value).ownBlock ∧ some k_ ≠ (u241000 : Value).ownBlock ∧ k_ ≠ gb219 ∧ k_ ≠ gb240 ∧ k_ ≠ g)) ?hr ?hp (fun _ hk => hk) ((show ∀ k_, w93.heap.size ≤ k_ → (fun k_ => (w.heap.size ≤ k_) ∧ some k_ ≠ (.slice Ao91 t234.length co91 : Value).ownBlock ∧ some k_ ≠ (u241000 : Value).ownBlock ∧ k_ ≠ gb219 ∧ k_ ≠ gb240 ∧ k_ ≠ g) k_ from fun k_ hk => ⟨(Nat.le_trans (keep_size (w := w) (g := g) (row := none) (hkA_ HK.out)) hk), Kd.fresh' (Kd.N_lt (kN_ HO_5.out)) k_ hk, Kd.fresh' (Kd.N_lt (kN_ HO_241000.out)) k_ hk, fb_ BK219 k_ hk, fb_ BK240 k_ hk, IsS102.fresh (is102_ HI0.out) k_ hk⟩) _ (Nat.le_refl _)) (Below.refl _ _) (Nat.le_refl _) (by simp) ?_; (case hd => rfl); (case hg => rfl); (case hr => first | (go_simp; done) | (go_simp; rfl)); (case hp => exact (Reps.none _ _)); intro v260 w94 ho95 hb hg_ hnew_; clear hg_ hnew_; (first | rw [← Ny259.out] at ho95 | (simp only [Int.reduceToNat] at ho95; rw [← Ny259.out] at ho95)); replace HO_5 := Aside0.mk (Kd.N_elder' (kN_ HO_5.out) (Kd.N_base ho95) hb); replace HO_241000 := Aside0.mk (Kd.N_elder' (kN_ HO_241000.out) (Kd.N_base ho95) hb); have HO261 := Aside0.mk (Kd.N_lower ho95 (keep_size (w := w) (g := g) (row := none) (hkA_ HK.out))); replace BK219 := (bbA_ BK219 hb); replace BK240 := (bbA_ BK240 hb); replace HI0 := (ib102_ HI0 hb); replace HK := (kw_ HK hb); replace HB := (bs102_ HB hb); clear hb ho95; obtain ⟨Ao96, co96, eo96⟩ := Kd.N_slice HO261.out; subst eo96; have hnb97 := NB240_219.out; have hnc97 := NB219_240.out; have hnb98 := NB240_0.out; have hnc98 := NB0_240.out; have Z99 := zz2 BK240; have hnb100 := NB219_0.out; have hnc100 := NB0_219.out; have Z101 := zz2 BK219))
        refine bodyPost_ret (results_cell_row rfl _ _ gb219 25 #[.slice Ao96 y259.length co96, .int .i64 t238] (0, 0) _ rfl (by refine kb_ ?_; refine pz2 (cs := #[.slice none 0 0, .int .i64 0]) ?_; exact kf_ BK219.out) Try.underlying25 rfl (by kernel_rfl)) rfl ?_
        exact ⟨_, by first | rfl | (simp [errW_none, errW_some] <;> rfl) | (simp [*, errW_none, errW_some] <;> rfl), by refine kN_ ?_; exact Kd.N_mono (Kd.N_far (p := ⟨gb219, 1, none⟩) (Kd.N_far (p := ⟨gb219, 0, none⟩) (Kd.N_far (p := ⟨gb240, 0, none⟩) (Kd.N_mono (Kd.N_mono HO261.out (fun k_ hk => (⟨hk, hk.2.2.2.2.1⟩ : _ ∧ k_ ≠ gb240))) (fun k_ hk => (⟨hk, hk.1.2.2.2.1⟩ : _ ∧ k_ ≠ gb219))) (fun _ hk => hk.1.2) (.slice Ao96 y259.length co96)) (fun _ hk => hk.2) (.slice Ao96 y259.length co96)) (fun _ hk => hk.2) (.int .i64 t238)) (fun _ hk => hk.1.1.1), is102_ HI0.out, hb102_ HB.out, hkA_ HK.out⟩
    ·replace c43 := Bool.eq_false_iff.mpr c43
     subst c43
     rw [if_neg (show ¬ (false = true) by decide)] at H
     simp only [Option.some.injEq, Prod.mk.injEq] at H
     obtain ⟨rfl, rfl, rfl⟩ := H
     obtain ⟨Ao102, co102, eo102⟩ := Kd.N_slice HO_5.out
     subst eo102
     go_wp2_with (first | ((with_reducible refine gate_callee (f := 80) rfl ?_); refine goesL_ (some 54) rfl rfl Try.func80 (by kernel_rfl) rfl #[.pointer (some ⟨g, 0, none⟩), .int .i64 a1] rfl ar_ ?_; (with_reducible refine (spec_l20Rd_odd.calls k1 g s0_0 x1001_1 a1 false t248 w0 _ ?side1 ?side2 A42.out).mono ?_); (case side1 => exact is102_ HI0.out); (case side2 => exact hb102_ HB.out); rintro e w103 ⟨rfl, hi, hb, hk⟩; refine ⟨_, rfl, ?_⟩; replace HO_5 := Aside0.mk (Kd.N_mono (Kd.N_keep (Kd.N_mono (ok := fun k_ => (((w.heap.size ≤ k_)) ∧ (some k_ ≠ (u241000 : Value).ownBlock ∧ (k_ ≠ gb219 ∧ (k_ ≠ gb240 ∧ k_ ≠ g))))) (kN_ HO_5.out) (fun k_ hk_ => (⟨hk_, hk_.2.2.2.2⟩ : _ ∧ k_ ≠ g))) hk (fun _ h => h.2)) (fun _ h => h.1)); replace HO_241000 := Aside0.mk (Kd.N_mono (Kd.N_keep (Kd.N_mono (ok := fun k_ => (((w.heap.size ≤ k_)) ∧ (some k_ ≠ (.slice Ao102 t234.length co102 : Value).ownBlock ∧ (k_ ≠ gb219 ∧ (k_ ≠ gb240 ∧ k_ ≠ g))))) (kN_ HO_241000.out) (fun k_ hk_ => (⟨hk_, hk_.2.2.2.2⟩ : _ ∧ k_ ≠ g))) hk (fun _ h => h.2)) (fun _ h => h.1)); replace BK219 := (bkA_ BK219 hk NB219_0); replace BK240 := (bkA_ BK240 hk NB240_0); replace HK := (kk_ HK hk); replace HB := Aside0.mk (hb); replace HI0 := Aside0.mk (hi); (try clear hb); (try clear hb2); (try clear hk); (try clear hi); have hnb104 := NB240_219.out; have hnc104 := NB219_240.out; have hnb105 := NB240_0.out; have hnc105 := NB0_240.out; have Z106 := zz2 BK240; obtain ⟨Ao107, co107, eo107⟩ := Kd.N_slice HO_241000.out; subst eo107; have hnb108 := NB219_0.out; have hnc108 := NB0_219.out; have Z109 := zz2 BK219))
     refine bodyPost_ret (results_cell_row rfl _ _ gb219 25 #[.slice Ao107 x241000_1.length co107, .int .i64 t238] (0, 0) _ rfl (by refine kb_ ?_; refine pz2 (cs := #[.slice none 0 0, .int .i64 0]) ?_; refine kb_ ?_; exact BK219.out) Try.underlying25 rfl (by kernel_rfl)) rfl ?_
     exact ⟨_, by first | rfl | (simp [errW_none, errW_some] <;> rfl) | (simp [*, errW_none, errW_some] <;> rfl), by refine kN_ ?_; exact nfN_ gb219 HO_241000.out (fun _ hk => hk.2.2.1) (fun _ hk => hk.1.1), is102_ HI0.out, hb102_ HB.out, hkA_ HK.out⟩
def spec_DrawPartWhole.f (k : Nat) (l0 : List Int) : Option ((List (S28)) × Int) := (spec_l20Open.f l0).bind fun bt263 => ((spec_l20Rd_pick.f k bt263.1 bt263.2 2).bind fun bt266 => (if bt266.1 = 0 then ((spec_l20Long.f k bt263.1 bt266.2).bind fun bt268 => ((spec_l20Rd_pick.f k bt263.1 bt268.2.2.2.2.2.2.2.2.2 6).bind fun bt280 => ((spec_PacketCut.f k bt268.1 bt268.2.1 bt268.2.2.1 bt268.2.2.2.1 bt268.2.2.2.2.1 bt268.2.2.2.2.2.1 bt268.2.2.2.2.2.2.1 bt268.2.2.2.2.2.2.2.1 bt268.2.2.2.2.2.2.2.2.1 (wrap64 (1 + bt280.1))).bind fun bt282 => (some (bt282.1, 3))))) else ((spec_l20Part.f k bt263.1 bt266.2 8).bind fun bt286 => (some (bt286.1, bt286.2.1)))))
theorem spec_DrawPartWhole.mono : ∀ a0 k, LeO (spec_DrawPartWhole.f k a0) (spec_DrawPartWhole.f (k + 1) a0) := by
 intro a0 k
 unfold spec_DrawPartWhole.f
 repeat' first | (with_reducible first | apply spec_PacketCut.mono | apply spec_l20Long.mono | apply spec_l20Part.mono | apply spec_l20Rd_pick.mono | exact LeO.refl _ | exact LeO.none _ | refine LeO.ite ?_ ?_ | refine LeO.bind ?_ fun _ => ?_) | apply spec_PacketCut.mono | apply spec_l20Long.mono | apply spec_l20Part.mono | apply spec_l20Rd_pick.mono | exact LeO.none _ | refine LeO.ite ?_ ?_ | refine LeO.bind ?_ fun _ => ?_
set_option maxHeartbeats 8000000 in
set_option maxRecDepth 100000 in
theorem spec_DrawPartWhole.calls (k : Nat) (A0 : Option Addr) (c0 : Nat) (l0 : List Int) (r1 : List (S28)) (r2 : Int) (w : World) (hr0 : Kd.C (Kd.int .u8) w A0 l0.length l0) (hc0 : l0.length ≤ c0) (h : spec_DrawPartWhole.f k l0 = some (r1, r2)) :
  Calls Try.prog 9 #[.slice A0 l0.length c0] w fun e w' => ∃ v0_ : Value, e = .returned (.agg #[v0_, .int .i64 r2]) ∧ Kd.N k28 28 w' w.heap.size (fun k_ => (w.heap.size ≤ k_)) v0_ r1 ∧ Below w.heap.size w w' := by
 have hu25 := Try.underlying25; have HR0 := Aside0.mk hr0; have HC0 := Aside0.mk hc0; clear hr0 hc0
 have HB := Aside0.mk (Below.refl w.heap.size w)
 have H : ((spec_l20Open.f l0).bind fun bt263 => ((spec_l20Rd_pick.f k bt263.1 bt263.2 2).bind fun bt266 => (if bt266.1 = 0 then ((spec_l20Long.f k bt263.1 bt266.2).bind fun bt268 => ((spec_l20Rd_pick.f k bt263.1 bt268.2.2.2.2.2.2.2.2.2 6).bind fun bt280 => ((spec_PacketCut.f k bt268.1 bt268.2.1 bt268.2.2.1 bt268.2.2.2.1 bt268.2.2.2.2.1 bt268.2.2.2.2.2.1 bt268.2.2.2.2.2.2.1 bt268.2.2.2.2.2.2.2.1 bt268.2.2.2.2.2.2.2.2.1 (wrap64 (1 + bt280.1))).bind fun bt282 => (some (bt282.1, 3))))) else ((spec_l20Part.f k bt263.1 bt266.2 8).bind fun bt286 => (some (bt286.1, bt286.2.1)))))) = some (r1, r2) := h
 clear h
 replace H := Option.bind_eq_some_iff.mp H
 obtain ⟨⟨t263, t264⟩, A20, H⟩ := H
 (try dsimp only at H)
 have A2 := Aside0.mk A20; clear A20
 replace H := Option.bind_eq_some_iff.mp H
 obtain ⟨⟨t266, t267⟩, A30, H⟩ := H
 (try dsimp only at H)
 have A3 := Aside0.mk A30; clear A30
 by_cases c4 : t266 = 0
 ·rw [if_pos c4] at H
  have c4b0 : (t266 == 0) = true := beq_iff_eq.mpr c4
  have c4b1 : (t266 != 0) = false := bne_eq_false_iff_eq.mpr c4
  clear c4
  replace H := Option.bind_eq_some_iff.mp H
  obtain ⟨⟨t268, t269, t270, t271, t272, t273, t274, t275, t276, t279⟩, A50, H⟩ := H
  (try dsimp only at H)
  have A5 := Aside0.mk A50; clear A50
  replace H := Option.bind_eq_some_iff.mp H
  obtain ⟨⟨t280, t281⟩, A60, H⟩ := H
  (try dsimp only at H)
  have A6 := Aside0.mk A60; clear A60
  replace H := Option.bind_eq_some_iff.mp H
  obtain ⟨⟨t282, t285⟩, A70, H⟩ := H
  (try dsimp only at H)
  have A7 := Aside0.mk A70; clear A70
  simp only [Option.some.injEq, Prod.mk.injEq] at H
  obtain ⟨rfl, rfl⟩ := H
  go_enter Try.func9, Try.ntmps9
  go_wp2_with (first | ((with_reducible refine gate_dst (N := 2) rfl ?_); refine box_ (N := 2) (cs := #[.slice none 0 0, .int .i64 0]) (t := 25) (fun gb262 hg w8 hbox hb => ?_); have BK262 := Aside0.mk (hbox); have GW262 := ge_ hg HB; have GE262 := ge_ hg HB; replace HB := (bs_ HB hb); clear hb hbox hg) | ((with_reducible refine gate_callee (f := 39) rfl ?_); refine goesL_ (some 7) rfl rfl Try.func39 (by kernel_rfl) rfl #[.slice A0 l0.length c0] rfl ar_ ?_; (with_reducible refine (spec_l20Open.calls _ _ l0 t263 t264 w _ ?side1 ?side2 ?side3 A2.out).mono ?_); (case side1 => exact hbA_ HB.out); (case side2 => exact HR0.out); (case side3 => exact HC0.out); rintro e w9 ⟨g265, rfl, hi, hb, hb2⟩; refine ⟨_, rfl, ?_⟩; replace HB := Aside0.mk (hb); have HI265 := Aside0.mk (hi); have NB265_262 := Aside0.mk (IsS102.ne_blk hi (bb_ BK262 hb2) (by decide)); have NB262_265 := Aside0.mk (Ne.symm (IsS102.ne_blk hi (bb_ BK262 hb2) (by decide))); replace BK262 := (bbA_ BK262 hb2); (try clear hb); (try clear hb2); (try clear hk); (try clear hi)) | ((with_reducible refine gate_callee (f := 40) rfl ?_); refine goesL_ (some 9) rfl rfl Try.func40 (by kernel_rfl) rfl #[.pointer (some ⟨g265, 0, none⟩), .int .i64 2] rfl ar_ ?_; (with_reducible refine (spec_l20Rd_pick.calls k g265 t263 t264 2 t266 t267 w _ ?side1 ?side2 A3.out).mono ?_); (case side1 => exact is102_ HI265.out); (case side2 => exact hb102_ HB.out); rintro e w10 ⟨rfl, hi, hb, hk⟩; refine ⟨_, rfl, ?_⟩; replace BK262 := (bkA_ BK262 hk NB262_265); replace HB := Aside0.mk (hb); replace HI265 := Aside0.mk (hi); (try clear hb); (try clear hb2); (try clear hk); (try clear hi)) | ((with_reducible refine gate_callee (f := 42) rfl ?_); refine goesL_ (some 13) rfl rfl Try.func42 (by kernel_rfl) rfl #[.pointer (some ⟨g265, 0, none⟩)] rfl ar_ ?_; (with_reducible refine (spec_l20Long.calls k g265 t263 t267 t268 t269 t270 t271 t272 t273 t274 t275 t276 t279 w _ ?side1 ?side2 A5.out).mono ?_); (case side1 => exact is102_ HI265.out); (case side2 => exact hb102_ HB.out); rintro e w11 ⟨v277, rfl, ho0, hi, hb, hk⟩; refine ⟨_, rfl, ?_⟩; replace BK262 := (bkA_ BK262 hk NB262_265); have HO278 := Aside0.mk (Kd.R_lower (Kd.R_newM (M := fun k_ => (w.heap.size ≤ k_)) ho0 (below_size (hb102_ HB.out)) (fun k_ h_ => h_)) (below_size (hb102_ HB.out))); replace HB := Aside0.mk (hb); replace HI265 := Aside0.mk (hi); (try clear hb); (try clear hb2); (try clear hk); (try clear hi); (try clear ho0)) | ((with_reducible refine gate_callee (f := 40) rfl ?_); refine goesL_ (some 15) rfl rfl Try.func40 (by kernel_rfl) rfl #[.pointer (some ⟨g265, 0, none⟩), .int .i64 6] rfl ar_ ?_; (with_reducible refine (spec_l20Rd_pick.calls k g265 t263 t279 6 t280 t281 w _ ?side1 ?side2 A6.out).mono ?_); (case side1 => exact is102_ HI265.out); (case side2 => exact hb102_ HB.out); rintro e w12 ⟨rfl, hi, hb, hk⟩; refine ⟨_, rfl, ?_⟩; replace BK262 := (bkA_ BK262 hk NB262_265); replace HO278 := (rk102_ HI265 HO278 hk); replace HB := Aside0.mk (hb); replace HI265 := Aside0.mk (hi); (try clear hb); (try clear hb2); (try clear hk); (try clear hi); obtain ⟨Ao13, co13, eo13⟩ := Kd.R_slice HO278.out; subst eo13) | ((with_reducible refine gate_callee (f := 41) rfl ?_); refine goesL_ (some 17) rfl rfl Try.func41 (by kernel_rfl) rfl #[.agg #[.int .i64 t268, .int .i64 t269, .int .i64 t270, .int .i64 t271, .int .i64 t272, .int .i64 t273, .bool t274, .bool t275, .slice Ao13 t276.length co13], .int .i64 (wrap64 (1 + t280))] rfl ar_ ?_; (with_reducible refine (spec_PacketCut.calls k t268 t269 t270 t271 t272 t273 t274 t275 _ _ t276 (wrap64 (1 + t280)) t282 t285 _ ?side1 ?side2 A7.out).mono ?_); (case side1 => exact kC_ (Kd.R_reads' HO278.out).2.2); (case side2 => exact (Kd.R_reads' HO278.out).2.1); rintro e w14 ⟨v283, rfl, ho0, hb⟩; refine ⟨_, rfl, ?_⟩; have HO284 := Aside0.mk (Kd.N_lower (Kd.N_mono (ok' := fun k_ => (w.heap.size ≤ k_) ∧ some k_ ≠ (.slice Ao13 t276.length co13 : Value).ownBlock ∧ k_ ≠ gb262 ∧ k_ ≠ g265) (Kd.S_N (Kd.S_bound ho0)) (fun k_ hk_ => ⟨(Nat.le_trans (below_size (hb102_ HB.out)) hk_.2.1), (Kd.fresh' (Kd.R_lt (kR_ HO278.out)) k_ hk_.2.1), (fb_ BK262 k_ hk_.2.1), (IsS102.fresh (is102_ HI265.out) k_ hk_.2.1)⟩)) (below_size (hb102_ HB.out))); replace HO278 := Aside0.mk (Kd.R_below (kR_ HO278.out) hb); replace BK262 := (bbA_ BK262 hb); replace HI265 := (ib102_ HI265 hb); replace HB := (bs102_ HB hb); (try clear hb); (try clear hb2); (try clear hk); (try clear hi); (try clear ho0); obtain ⟨Ao15, co15, eo15⟩ := Kd.N_slice HO284.out; subst eo15; have hnb16 := NB262_265.out; have hnc16 := NB265_262.out; have Z17 := zz2 BK262))
  refine bodyPost_ret (results_cell_row rfl _ _ gb262 25 #[.slice Ao15 t282.length co15, .int .i64 3] (0, 0) _ rfl (by refine kb_ ?_; refine pz2 (cs := #[.slice none 0 0, .int .i64 0]) ?_; refine kb_ ?_; exact BK262.out) Try.underlying25 rfl (by kernel_rfl)) rfl ?_
  exact ⟨_, by first | rfl | (simp [errW_none, errW_some] <;> rfl) | (simp [*, errW_none, errW_some] <;> rfl), by refine kN_ ?_; exact nfN_ gb262 HO284.out (fun _ hk => hk.2.2.1) (fun _ hk => hk.1.1), hb102_ HB.out⟩
 ·rw [if_neg c4] at H
  have c4b0 : (t266 == 0) = false := beq_eq_false_iff_ne.mpr c4
  have c4b1 : (t266 != 0) = true := bne_iff_ne.mpr c4
  replace H := Option.bind_eq_some_iff.mp H
  obtain ⟨⟨t286, t289, t290⟩, A180, H⟩ := H
  (try dsimp only at H)
  have A18 := Aside0.mk A180; clear A180
  simp only [Option.some.injEq, Prod.mk.injEq] at H
  obtain ⟨rfl, rfl⟩ := H
  go_enter Try.func9, Try.ntmps9
  go_wp2_with (first | ((with_reducible refine gate_dst (N := 2) rfl ?_); refine box_ (N := 2) (cs := #[.slice none 0 0, .int .i64 0]) (t := 25) (fun gb262 hg w19 hbox hb => ?_); have BK262 := Aside0.mk (hbox); have GW262 := ge_ hg HB; have GE262 := ge_ hg HB; replace HB := (bs_ HB hb); clear hb hbox hg) | ((with_reducible refine gate_callee (f := 39) rfl ?_); refine goesL_ (some 7) rfl rfl Try.func39 (by kernel_rfl) rfl #[.slice A0 l0.length c0] rfl ar_ ?_; (with_reducible refine (spec_l20Open.calls _ _ l0 t263 t264 w _ ?side1 ?side2 ?side3 A2.out).mono ?_); (case side1 => exact hbA_ HB.out); (case side2 => exact HR0.out); (case side3 => exact HC0.out); rintro e w20 ⟨g265, rfl, hi, hb, hb2⟩; refine ⟨_, rfl, ?_⟩; replace HB := Aside0.mk (hb); have HI265 := Aside0.mk (hi); have NB265_262 := Aside0.mk (IsS102.ne_blk hi (bb_ BK262 hb2) (by decide)); have NB262_265 := Aside0.mk (Ne.symm (IsS102.ne_blk hi (bb_ BK262 hb2) (by decide))); replace BK262 := (bbA_ BK262 hb2); (try clear hb); (try clear hb2); (try clear hk); (try clear hi)) | ((with_reducible refine gate_callee (f := 40) rfl ?_); refine goesL_ (some 9) rfl rfl Try.func40 (by kernel_rfl) rfl #[.pointer (some ⟨g265, 0, none⟩), .int .i64 2] rfl ar_ ?_; (with_reducible refine (spec_l20Rd_pick.calls k g265 t263 t264 2 t266 t267 w _ ?side1 ?side2 A3.out).mono ?_); (case side1 => exact is102_ HI265.out); (case side2 => exact hb102_ HB.out); rintro e w21 ⟨rfl, hi, hb, hk⟩; refine ⟨_, rfl, ?_⟩; replace BK262 := (bkA_ BK262 hk NB262_265); replace HB := Aside0.mk (hb); replace HI265 := Aside0.mk (hi); (try clear hb); (try clear hb2); (try clear hk); (try clear hi)) | ((with_reducible refine gate_callee (f := 43) rfl ?_); refine goesL_ (some 23) rfl rfl Try.func43 (by kernel_rfl) rfl #[.pointer (some ⟨g265, 0, none⟩), .int .i64 8] rfl ar_ ?_; (with_reducible refine (spec_l20Part.calls k g265 t263 t267 8 t286 t289 t290 w _ ?side1 ?side2 A18.out).mono ?_); (case side1 => exact is102_ HI265.out); (case side2 => exact hb102_ HB.out); rintro e w22 ⟨v287, rfl, ho0, hi, hb, hk⟩; refine ⟨_, rfl, ?_⟩; have HO288 := Aside0.mk (Kd.N_lower (Kd.N_mono (ok' := fun k_ => (w.heap.size ≤ k_) ∧ k_ ≠ gb262 ∧ k_ ≠ g265) ho0 (fun k_ hk_ => ⟨(Nat.le_trans (below_size (hb102_ HB.out)) hk_), (fb_ BK262 k_ hk_), (IsS102.fresh (is102_ HI265.out) k_ hk_)⟩)) (below_size (hb102_ HB.out))); replace BK262 := (bkA_ BK262 hk NB262_265); replace HB := Aside0.mk (hb); replace HI265 := Aside0.mk (hi); (try clear hb); (try clear hb2); (try clear hk); (try clear hi); (try clear ho0); obtain ⟨Ao23, co23, eo23⟩ := Kd.N_slice HO288.out; subst eo23; have hnb24 := NB262_265.out; have hnc24 := NB265_262.out; have Z25 := zz2 BK262))
  refine bodyPost_ret (results_cell_row rfl _ _ gb262 25 #[.slice Ao23 t286.length co23, .int .i64 t289] (0, 0) _ rfl (by refine kb_ ?_; refine pz2 (cs := #[.slice none 0 0, .int .i64 0]) ?_; refine kb_ ?_; exact BK262.out) Try.underlying25 rfl (by kernel_rfl)) rfl ?_
  exact ⟨_, by first | rfl | (simp [errW_none, errW_some] <;> rfl) | (simp [*, errW_none, errW_some] <;> rfl), by refine kN_ ?_; exact nfN_ gb262 HO288.out (fun _ hk => hk.2.1) (fun _ hk => hk.1.1), hb102_ HB.out⟩
def impl_in.f (a0 : Int) (a1 : Int) (a2 : Int) : Option (Bool) := if a0 ≥ a1 then (some (decide (a0 ≤ a2))) else (some false)
set_option maxHeartbeats 8000000 in
set_option maxRecDepth 100000 in
theorem impl_in.calls (a0 : Int) (a1 : Int) (a2 : Int) (r : Bool) (w : World) (h : impl_in.f a0 a1 a2 = some r) :
  Calls Try.prog 49 #[.int .i64 a0, .int .i64 a1, .int .i64 a2] w fun e w' => e = .returned (.bool r) ∧ Drawn0 w w' := by
 have H : (if a0 ≥ a1 then (some (decide (a0 ≤ a2))) else (some false)) = some r := h
 clear h
 by_cases c4 : a0 ≥ a1
 ·rw [if_pos c4] at H
  have c4b0 : decide (a1 ≤ a0) = true := decide_eq_true c4
  clear c4
  obtain rfl := Option.some.inj H
  go_enter Try.func49, Try.ntmps49
  go_wp2
  go_ret
  exact ⟨by first | rfl | (simp; done) | (simp [*]; done), by repeat (first | exact Drawn0.refl _ | apply Drawn0.step)⟩
 ·rw [if_neg c4] at H
  have c4b0 : decide (a1 ≤ a0) = false := decide_eq_false c4
  clear c4
  obtain rfl := Option.some.inj H
  go_enter Try.func49, Try.ntmps49
  go_wp2
  go_ret
  exact ⟨by first | rfl | (simp; done) | (simp [*]; done), by repeat (first | exact Drawn0.refl _ | apply Drawn0.step)⟩
def impl_word.f (a0 : Int) : Option (Bool) := (impl_in.f a0 0 65535).bind fun t291 => (some t291)
set_option maxHeartbeats 8000000 in
set_option maxRecDepth 100000 in
theorem impl_word.calls (a0 : Int) (r : Bool) (w : World) (h : impl_word.f a0 = some r) :
  Calls Try.prog 48 #[.int .i64 a0] w fun e w' => e = .returned (.bool r) ∧ Drawn0 w w' := by
 have H : ((impl_in.f a0 0 65535).bind fun t291 => (some t291)) = some r := h
 clear h
 replace H := Option.bind_eq_some_iff.mp H
 obtain ⟨t291, A20, H⟩ := H
 (try dsimp only at H)
 have A2 := Aside0.mk A20; clear A20
 obtain rfl := Option.some.inj H
 go_enter Try.func48, Try.ntmps48
 go_wp2_with (first | ((with_reducible refine gate_callee (f := 49) rfl ?_); refine goesL_ (some 4) rfl rfl Try.func49 (by kernel_rfl) rfl #[.int .i64 a0, .int .i64 0, .int .i64 65535] rfl ar_ ?_; (with_reducible refine (impl_in.calls a0 0 65535 t291 _ A2.out).mono ?_); rintro e w' ⟨rfl, ⟨nd, rfl⟩⟩; refine ⟨_, rfl, ?_⟩))
 go_ret
 exact ⟨by first | rfl | (simp; done) | (simp [*]; done), by repeat (first | exact Drawn0.refl _ | apply Drawn0.step)⟩
def impl_PacketOk.f (a0_0 : Int) (a0_1 : Int) (a0_2 : Int) (a0_3 : Int) (a0_4 : Int) (a0_5 : Int) (a0_6 : Bool) (a0_7 : Bool) (l0_8 : List Int) : Option (Bool) := (impl_word.f a0_0).bind fun t293 => (if t293 = true then ((impl_word.f a0_1).bind fun t294 => (if t294 = true then ((impl_in.f a0_2 0 255).bind fun t295 => (if t295 = true then ((impl_in.f a0_3 0 255).bind fun t296 => (if t296 = true then ((impl_in.f a0_4 0 255).bind fun t297 => (if t297 = true then ((impl_in.f a0_5 0 255).bind fun t298 => (if t298 = true then (if (l0_8.length : Int) ≤ 48 then (if a0_6 = true then (if (l0_8.length : Int) > 0 then (if a0_7 = true then (if a0_5 = 0 then (some (!a0_6)) else (some false)) else (some true)) else (some false)) else (if a0_7 = true then (if a0_5 = 0 then (some (!a0_6)) else (some false)) else (some true))) else (some false)) else (some false))) else (some false))) else (some false))) else (some false))) else (some false))) else (some false))
set_option maxHeartbeats 8000000 in
set_option maxRecDepth 100000 in
theorem impl_PacketOk.calls (a0_0 : Int) (a0_1 : Int) (a0_2 : Int) (a0_3 : Int) (a0_4 : Int) (a0_5 : Int) (a0_6 : Bool) (a0_7 : Bool) (A0_8 : Option Addr) (c0_8 : Nat) (l0_8 : List Int) (r : Bool) (w : World) (hr0_8 : Kd.C (Kd.int .u8) w A0_8 l0_8.length l0_8) (hc0_8 : l0_8.length ≤ c0_8) (h : impl_PacketOk.f a0_0 a0_1 a0_2 a0_3 a0_4 a0_5 a0_6 a0_7 l0_8 = some r) :
  Calls Try.prog 14 #[.agg #[.int .i64 a0_0, .int .i64 a0_1, .int .i64 a0_2, .int .i64 a0_3, .int .i64 a0_4, .int .i64 a0_5, .bool a0_6, .bool a0_7, .slice A0_8 l0_8.length c0_8]] w fun e w' => e = .returned (.bool r) ∧ Below w.heap.size w w' := by
 have hu28 := Try.underlying28; have HR0_8 := Aside0.mk hr0_8; have HC0_8 := Aside0.mk hc0_8; clear hr0_8 hc0_8
 have HB := Aside0.mk (Below.refl w.heap.size w)
 have H : ((impl_word.f a0_0).bind fun t293 => (if t293 = true then ((impl_word.f a0_1).bind fun t294 => (if t294 = true then ((impl_in.f a0_2 0 255).bind fun t295 => (if t295 = true then ((impl_in.f a0_3 0 255).bind fun t296 => (if t296 = true then ((impl_in.f a0_4 0 255).bind fun t297 => (if t297 = true then ((impl_in.f a0_5 0 255).bind fun t298 => (if t298 = true then (if (l0_8.length : Int) ≤ 48 then (if a0_6 = true then (if (l0_8.length : Int) > 0 then (if a0_7 = true then (if a0_5 = 0 then (some (!a0_6)) else (some false)) else (some true)) else (some false)) else (if a0_7 = true then (if a0_5 = 0 then (some (!a0_6)) else (some false)) else (some true))) else (some false)) else (some false))) else (some false))) else (some false))) else (some false))) else (some false))) else (some false))) = some r := h
 clear h
 replace H := Option.bind_eq_some_iff.mp H
 obtain ⟨t293, A20, H⟩ := H
 (try dsimp only at H)
 have A2 := Aside0.mk A20; clear A20
 by_cases c3 : t293 = true
 ·subst c3
  rw [if_pos rfl] at H
  replace H := Option.bind_eq_some_iff.mp H
  obtain ⟨t294, A40, H⟩ := H
  (try dsimp only at H)
  have A4 := Aside0.mk A40; clear A40
  by_cases c5 : t294 = true
  ·subst c5
   rw [if_pos rfl] at H
   replace H := Option.bind_eq_some_iff.mp H
   obtain ⟨t295, A60, H⟩ := H
   (try dsimp only at H)
   have A6 := Aside0.mk A60; clear A60
   by_cases c7 : t295 = true
   ·subst c7
    rw [if_pos rfl] at H
    replace H := Option.bind_eq_some_iff.mp H
    obtain ⟨t296, A80, H⟩ := H
    (try dsimp only at H)
    have A8 := Aside0.mk A80; clear A80
    by_cases c9 : t296 = true
    ·subst c9
     rw [if_pos rfl] at H
     replace H := Option.bind_eq_some_iff.mp H
     obtain ⟨t297, A100, H⟩ := H
     (try dsimp only at H)
     have A10 := Aside0.mk A100; clear A100
     by_cases c11 : t297 = true
     ·subst c11
      rw [if_pos rfl] at H
      replace H := Option.bind_eq_some_iff.mp H
      obtain ⟨t298, A120, H⟩ := H
      (try dsimp only at H)
      have A12 := Aside0.mk A120; clear A120
      by_cases c13 : t298 = true
      ·subst c13
       rw [if_pos rfl] at H
       by_cases c14 : (l0_8.length : Int) ≤ 48
       ·rw [if_pos c14] at H
        have c14b0 : decide ((l0_8.length : Int) ≤ 48) = true := decide_eq_true c14
        have c14b1 : decide (l0_8.length ≤ 48) = true := decide_eq_true (by omega)
        clear c14
        by_cases c15 : a0_6 = true
        ·subst c15
         rw [if_pos rfl] at H
         by_cases c16 : (l0_8.length : Int) > 0
         ·rw [if_pos c16] at H
          have c16b0 : decide (0 < (l0_8.length : Int)) = true := decide_eq_true c16
          have c16b1 : decide (0 < l0_8.length) = true := decide_eq_true (by omega)
          clear c16
          by_cases c17 : a0_7 = true
          ·subst c17
           rw [if_pos rfl] at H
           by_cases c18 : a0_5 = 0
           ·rw [if_pos c18] at H
            have c18b0 : (a0_5 == 0) = true := beq_iff_eq.mpr c18
            have c18b1 : (a0_5 != 0) = false := bne_eq_false_iff_eq.mpr c18
            clear c18
            obtain rfl := Option.some.inj H
            go_enter Try.func14, Try.ntmps14
            go_wp2_with (first | ((with_reducible refine gate_dst (N := 1) rfl ?_); (try (refine gate_guard (by rfl) ?_; dsimp only)); refine box_ (N := 1) (cs := #[.int .i64 a0_0, .int .i64 a0_1, .int .i64 a0_2, .int .i64 a0_3, .int .i64 a0_4, .int .i64 a0_5, .bool true, .bool true, .slice A0_8 l0_8.length c0_8]) (t := 28) (fun gb292 hg w19 hbox hb => ?_); have BK292 := Aside0.mk (hbox); have GW292 := ge_ hg HB; have GE292 := ge_ hg HB; replace HB := (bs_ HB hb); clear hb hbox hg; have Z20 := zz9 BK292) | ((with_reducible refine gate_callee (f := 48) rfl ?_); refine goesL_ (some 5) rfl rfl Try.func48 (by kernel_rfl) rfl #[.int .i64 a0_0] rfl ar_ ?_; (with_reducible refine (impl_word.calls a0_0 true _ A2.out).mono ?_); rintro e w' ⟨rfl, ⟨nd, rfl⟩⟩; refine ⟨_, rfl, ?_⟩) | (go_at_call 48; (with_reducible refine (impl_word.calls a0_1 true _ A4.out).mono ?_); rintro e w' ⟨rfl, ⟨nd, rfl⟩⟩) | (go_at_call 49; (with_reducible refine (impl_in.calls a0_2 0 255 true _ A6.out).mono ?_); rintro e w' ⟨rfl, ⟨nd, rfl⟩⟩) | (go_at_call 49; (with_reducible refine (impl_in.calls a0_3 0 255 true _ A8.out).mono ?_); rintro e w' ⟨rfl, ⟨nd, rfl⟩⟩) | (go_at_call 49; (with_reducible refine (impl_in.calls a0_4 0 255 true _ A10.out).mono ?_); rintro e w' ⟨rfl, ⟨nd, rfl⟩⟩) | (go_at_call 49; (with_reducible refine (impl_in.calls a0_5 0 255 true _ A12.out).mono ?_); rintro e w' ⟨rfl, ⟨nd, rfl⟩⟩))
            go_ret
            exact ⟨by first | rfl | (simp [errW_none, errW_some] <;> rfl) | (simp [*, errW_none, errW_some] <;> rfl), hbA_ HB.out⟩
           ·rw [if_neg c18] at H
            have c18b0 : (a0_5 == 0) = false := beq_eq_false_iff_ne.mpr c18
            have c18b1 : (a0_5 != 0) = true := bne_iff_ne.mpr c18
            obtain rfl := Option.some.inj H
            go_enter Try.func14, Try.ntmps14
            go_wp2_with (first | ((with_reducible refine gate_dst (N := 1) rfl ?_); (try (refine gate_guard (by rfl) ?_; dsimp only)); refine box_ (N := 1) (cs := #[.int .i64 a0_0, .int .i64 a0_1, .int .i64 a0_2, .int .i64 a0_3, .int .i64 a0_4, .int .i64 a0_5, .bool true, .bool true, .slice A0_8 l0_8.length c0_8]) (t := 28) (fun gb292 hg w21 hbox hb => ?_); have BK292 := Aside0.mk (hbox); have GW292 := ge_ hg HB; have GE292 := ge_ hg HB; replace HB := (bs_ HB hb); clear hb hbox hg; have Z22 := zz9 BK292) | ((with_reducible refine gate_callee (f := 48) rfl ?_); refine goesL_ (some 5) rfl rfl Try.func48 (by kernel_rfl) rfl #[.int .i64 a0_0] rfl ar_ ?_; (with_reducible refine (impl_word.calls a0_0 true _ A2.out).mono ?_); rintro e w' ⟨rfl, ⟨nd, rfl⟩⟩; refine ⟨_, rfl, ?_⟩) | (go_at_call 48; (with_reducible refine (impl_word.calls a0_1 true _ A4.out).mono ?_); rintro e w' ⟨rfl, ⟨nd, rfl⟩⟩) | (go_at_call 49; (with_reducible refine (impl_in.calls a0_2 0 255 true _ A6.out).mono ?_); rintro e w' ⟨rfl, ⟨nd, rfl⟩⟩) | (go_at_call 49; (with_reducible refine (impl_in.calls a0_3 0 255 true _ A8.out).mono ?_); rintro e w' ⟨rfl, ⟨nd, rfl⟩⟩) | (go_at_call 49; (with_reducible refine (impl_in.calls a0_4 0 255 true _ A10.out).mono ?_); rintro e w' ⟨rfl, ⟨nd, rfl⟩⟩) | (go_at_call 49; (with_reducible refine (impl_in.calls a0_5 0 255 true _ A12.out).mono ?_); rintro e w' ⟨rfl, ⟨nd, rfl⟩⟩))
            go_ret
            exact ⟨by first | rfl | (simp [errW_none, errW_some] <;> rfl) | (simp [*, errW_none, errW_some] <;> rfl), hbA_ HB.out⟩
          ·replace c17 := Bool.eq_false_iff.mpr c17
           subst c17
           rw [if_neg (show ¬ (false = true) by decide)] at H
           obtain rfl := Option.some.inj H
           go_enter Try.func14, Try.ntmps14
           go_wp2_with (first | ((with_reducible refine gate_dst (N := 1) rfl ?_); (try (refine gate_guard (by rfl) ?_; dsimp only)); refine box_ (N := 1) (cs := #[.int .i64 a0_0, .int .i64 a0_1, .int .i64 a0_2, .int .i64 a0_3, .int .i64 a0_4, .int .i64 a0_5, .bool true, .bool false, .slice A0_8 l0_8.length c0_8]) (t := 28) (fun gb292 hg w23 hbox hb => ?_); have BK292 := Aside0.mk (hbox); have GW292 := ge_ hg HB; have GE292 := ge_ hg HB; replace HB := (bs_ HB hb); clear hb hbox hg; have Z24 := zz9 BK292) | ((with_reducible refine gate_callee (f := 48) rfl ?_); refine goesL_ (some 5) rfl rfl Try.func48 (by kernel_rfl) rfl #[.int .i64 a0_0] rfl ar_ ?_; (with_reducible refine (impl_word.calls a0_0 true _ A2.out).mono ?_); rintro e w' ⟨rfl, ⟨nd, rfl⟩⟩; refine ⟨_, rfl, ?_⟩) | (go_at_call 48; (with_reducible refine (impl_word.calls a0_1 true _ A4.out).mono ?_); rintro e w' ⟨rfl, ⟨nd, rfl⟩⟩) | (go_at_call 49; (with_reducible refine (impl_in.calls a0_2 0 255 true _ A6.out).mono ?_); rintro e w' ⟨rfl, ⟨nd, rfl⟩⟩) | (go_at_call 49; (with_reducible refine (impl_in.calls a0_3 0 255 true _ A8.out).mono ?_); rintro e w' ⟨rfl, ⟨nd, rfl⟩⟩) | (go_at_call 49; (with_reducible refine (impl_in.calls a0_4 0 255 true _ A10.out).mono ?_); rintro e w' ⟨rfl, ⟨nd, rfl⟩⟩) | (go_at_call 49; (with_reducible refine (impl_in.calls a0_5 0 255 true _ A12.out).mono ?_); rintro e w' ⟨rfl, ⟨nd, rfl⟩⟩))
           go_ret
           exact ⟨by first | rfl | (simp [errW_none, errW_some] <;> rfl) | (simp [*, errW_none, errW_some] <;> rfl), hbA_ HB.out⟩
         ·rw [if_neg c16] at H
          have c16b0 : decide (0 < (l0_8.length : Int)) = false := decide_eq_false c16
          have c16b1 : decide (0 < l0_8.length) = false := decide_eq_false (by omega)
          clear c16
          obtain rfl := Option.some.inj H
          go_enter Try.func14, Try.ntmps14
          go_wp2_with (first | ((with_reducible refine gate_dst (N := 1) rfl ?_); (try (refine gate_guard (by rfl) ?_; dsimp only)); refine box_ (N := 1) (cs := #[.int .i64 a0_0, .int .i64 a0_1, .int .i64 a0_2, .int .i64 a0_3, .int .i64 a0_4, .int .i64 a0_5, .bool true, .bool a0_7, .slice A0_8 l0_8.length c0_8]) (t := 28) (fun gb292 hg w25 hbox hb => ?_); have BK292 := Aside0.mk (hbox); have GW292 := ge_ hg HB; have GE292 := ge_ hg HB; replace HB := (bs_ HB hb); clear hb hbox hg; have Z26 := zz9 BK292) | ((with_reducible refine gate_callee (f := 48) rfl ?_); refine goesL_ (some 5) rfl rfl Try.func48 (by kernel_rfl) rfl #[.int .i64 a0_0] rfl ar_ ?_; (with_reducible refine (impl_word.calls a0_0 true _ A2.out).mono ?_); rintro e w' ⟨rfl, ⟨nd, rfl⟩⟩; refine ⟨_, rfl, ?_⟩) | (go_at_call 48; (with_reducible refine (impl_word.calls a0_1 true _ A4.out).mono ?_); rintro e w' ⟨rfl, ⟨nd, rfl⟩⟩) | (go_at_call 49; (with_reducible refine (impl_in.calls a0_2 0 255 true _ A6.out).mono ?_); rintro e w' ⟨rfl, ⟨nd, rfl⟩⟩) | (go_at_call 49; (with_reducible refine (impl_in.calls a0_3 0 255 true _ A8.out).mono ?_); rintro e w' ⟨rfl, ⟨nd, rfl⟩⟩) | (go_at_call 49; (with_reducible refine (impl_in.calls a0_4 0 255 true _ A10.out).mono ?_); rintro e w' ⟨rfl, ⟨nd, rfl⟩⟩) | (go_at_call 49; (with_reducible refine (impl_in.calls a0_5 0 255 true _ A12.out).mono ?_); rintro e w' ⟨rfl, ⟨nd, rfl⟩⟩))
          go_ret
          exact ⟨by first | rfl | (simp [errW_none, errW_some] <;> rfl) | (simp [*, errW_none, errW_some] <;> rfl), hbA_ HB.out⟩
        ·replace c15 := Bool.eq_false_iff.mpr c15
         subst c15
         rw [if_neg (show ¬ (false = true) by decide)] at H
         by_cases c27 : a0_7 = true
         ·subst c27
          rw [if_pos rfl] at H
          by_cases c28 : a0_5 = 0
          ·rw [if_pos c28] at H
           have c28b0 : (a0_5 == 0) = true := beq_iff_eq.mpr c28
           have c28b1 : (a0_5 != 0) = false := bne_eq_false_iff_eq.mpr c28
           clear c28
           obtain rfl := Option.some.inj H
           go_enter Try.func14, Try.ntmps14
           go_wp2_with (first | ((with_reducible refine gate_dst (N := 1) rfl ?_); (try (refine gate_guard (by rfl) ?_; dsimp only)); refine box_ (N := 1) (cs := #[.int .i64 a0_0, .int .i64 a0_1, .int .i64 a0_2, .int .i64 a0_3, .int .i64 a0_4, .int .i64 a0_5, .bool false, .bool true, .slice A0_8 l0_8.length c0_8]) (t := 28) (fun gb292 hg w29 hbox hb => ?_); have BK292 := Aside0.mk (hbox); have GW292 := ge_ hg HB; have GE292 := ge_ hg HB; replace HB := (bs_ HB hb); clear hb hbox hg; have Z30 := zz9 BK292) | ((with_reducible refine gate_callee (f := 48) rfl ?_); refine goesL_ (some 5) rfl rfl Try.func48 (by kernel_rfl) rfl #[.int .i64 a0_0] rfl ar_ ?_; (with_reducible refine (impl_word.calls a0_0 true _ A2.out).mono ?_); rintro e w' ⟨rfl, ⟨nd, rfl⟩⟩; refine ⟨_, rfl, ?_⟩) | (go_at_call 48; (with_reducible refine (impl_word.calls a0_1 true _ A4.out).mono ?_); rintro e w' ⟨rfl, ⟨nd, rfl⟩⟩) | (go_at_call 49; (with_reducible refine (impl_in.calls a0_2 0 255 true _ A6.out).mono ?_); rintro e w' ⟨rfl, ⟨nd, rfl⟩⟩) | (go_at_call 49; (with_reducible refine (impl_in.calls a0_3 0 255 true _ A8.out).mono ?_); rintro e w' ⟨rfl, ⟨nd, rfl⟩⟩) | (go_at_call 49; (with_reducible refine (impl_in.calls a0_4 0 255 true _ A10.out).mono ?_); rintro e w' ⟨rfl, ⟨nd, rfl⟩⟩) | (go_at_call 49; (with_reducible refine (impl_in.calls a0_5 0 255 true _ A12.out).mono ?_); rintro e w' ⟨rfl, ⟨nd, rfl⟩⟩))
           go_ret
           exact ⟨by first | rfl | (simp [errW_none, errW_some] <;> rfl) | (simp [*, errW_none, errW_some] <;> rfl), hbA_ HB.out⟩
          ·rw [if_neg c28] at H
           have c28b0 : (a0_5 == 0) = false := beq_eq_false_iff_ne.mpr c28
           have c28b1 : (a0_5 != 0) = true := bne_iff_ne.mpr c28
           obtain rfl := Option.some.inj H
           go_enter Try.func14, Try.ntmps14
           go_wp2_with (first | ((with_reducible refine gate_dst (N := 1) rfl ?_); (try (refine gate_guard (by rfl) ?_; dsimp only)); refine box_ (N := 1) (cs := #[.int .i64 a0_0, .int .i64 a0_1, .int .i64 a0_2, .int .i64 a0_3, .int .i64 a0_4, .int .i64 a0_5, .bool false, .bool true, .slice A0_8 l0_8.length c0_8]) (t := 28) (fun gb292 hg w31 hbox hb => ?_); have BK292 := Aside0.mk (hbox); have GW292 := ge_ hg HB; have GE292 := ge_ hg HB; replace HB := (bs_ HB hb); clear hb hbox hg; have Z32 := zz9 BK292) | ((with_reducible refine gate_callee (f := 48) rfl ?_); refine goesL_ (some 5) rfl rfl Try.func48 (by kernel_rfl) rfl #[.int .i64 a0_0] rfl ar_ ?_; (with_reducible refine (impl_word.calls a0_0 true _ A2.out).mono ?_); rintro e w' ⟨rfl, ⟨nd, rfl⟩⟩; refine ⟨_, rfl, ?_⟩) | (go_at_call 48; (with_reducible refine (impl_word.calls a0_1 true _ A4.out).mono ?_); rintro e w' ⟨rfl, ⟨nd, rfl⟩⟩) | (go_at_call 49; (with_reducible refine (impl_in.calls a0_2 0 255 true _ A6.out).mono ?_); rintro e w' ⟨rfl, ⟨nd, rfl⟩⟩) | (go_at_call 49; (with_reducible refine (impl_in.calls a0_3 0 255 true _ A8.out).mono ?_); rintro e w' ⟨rfl, ⟨nd, rfl⟩⟩) | (go_at_call 49; (with_reducible refine (impl_in.calls a0_4 0 255 true _ A10.out).mono ?_); rintro e w' ⟨rfl, ⟨nd, rfl⟩⟩) | (go_at_call 49; (with_reducible refine (impl_in.calls a0_5 0 255 true _ A12.out).mono ?_); rintro e w' ⟨rfl, ⟨nd, rfl⟩⟩))
           go_ret
           exact ⟨by first | rfl | (simp [errW_none, errW_some] <;> rfl) | (simp [*, errW_none, errW_some] <;> rfl), hbA_ HB.out⟩
         ·replace c27 := Bool.eq_false_iff.mpr c27
          subst c27
          rw [if_neg (show ¬ (false = true) by decide)] at H
          obtain rfl := Option.some.inj H
          go_enter Try.func14, Try.ntmps14
          go_wp2_with (first | ((with_reducible refine gate_dst (N := 1) rfl ?_); (try (refine gate_guard (by rfl) ?_; dsimp only)); refine box_ (N := 1) (cs := #[.int .i64 a0_0, .int .i64 a0_1, .int .i64 a0_2, .int .i64 a0_3, .int .i64 a0_4, .int .i64 a0_5, .bool false, .bool false, .slice A0_8 l0_8.length c0_8]) (t := 28) (fun gb292 hg w33 hbox hb => ?_); have BK292 := Aside0.mk (hbox); have GW292 := ge_ hg HB; have GE292 := ge_ hg HB; replace HB := (bs_ HB hb); clear hb hbox hg; have Z34 := zz9 BK292) | ((with_reducible refine gate_callee (f := 48) rfl ?_); refine goesL_ (some 5) rfl rfl Try.func48 (by kernel_rfl) rfl #[.int .i64 a0_0] rfl ar_ ?_; (with_reducible refine (impl_word.calls a0_0 true _ A2.out).mono ?_); rintro e w' ⟨rfl, ⟨nd, rfl⟩⟩; refine ⟨_, rfl, ?_⟩) | (go_at_call 48; (with_reducible refine (impl_word.calls a0_1 true _ A4.out).mono ?_); rintro e w' ⟨rfl, ⟨nd, rfl⟩⟩) | (go_at_call 49; (with_reducible refine (impl_in.calls a0_2 0 255 true _ A6.out).mono ?_); rintro e w' ⟨rfl, ⟨nd, rfl⟩⟩) | (go_at_call 49; (with_reducible refine (impl_in.calls a0_3 0 255 true _ A8.out).mono ?_); rintro e w' ⟨rfl, ⟨nd, rfl⟩⟩) | (go_at_call 49; (with_reducible refine (impl_in.calls a0_4 0 255 true _ A10.out).mono ?_); rintro e w' ⟨rfl, ⟨nd, rfl⟩⟩) | (go_at_call 49; (with_reducible refine (impl_in.calls a0_5 0 255 true _ A12.out).mono ?_); rintro e w' ⟨rfl, ⟨nd, rfl⟩⟩))
          go_ret
          exact ⟨by first | rfl | (simp [errW_none, errW_some] <;> rfl) | (simp [*, errW_none, errW_some] <;> rfl), hbA_ HB.out⟩
       ·rw [if_neg c14] at H
        have c14b0 : decide ((l0_8.length : Int) ≤ 48) = false := decide_eq_false c14
        have c14b1 : decide (l0_8.length ≤ 48) = false := decide_eq_false (by omega)
        clear c14
        obtain rfl := Option.some.inj H
        go_enter Try.func14, Try.ntmps14
        go_wp2_with (first | ((with_reducible refine gate_dst (N := 1) rfl ?_); (try (refine gate_guard (by rfl) ?_; dsimp only)); refine box_ (N := 1) (cs := #[.int .i64 a0_0, .int .i64 a0_1, .int .i64 a0_2, .int .i64 a0_3, .int .i64 a0_4, .int .i64 a0_5, .bool a0_6, .bool a0_7, .slice A0_8 l0_8.length c0_8]) (t := 28) (fun gb292 hg w35 hbox hb => ?_); have BK292 := Aside0.mk (hbox); have GW292 := ge_ hg HB; have GE292 := ge_ hg HB; replace HB := (bs_ HB hb); clear hb hbox hg; have Z36 := zz9 BK292) | ((with_reducible refine gate_callee (f := 48) rfl ?_); refine goesL_ (some 5) rfl rfl Try.func48 (by kernel_rfl) rfl #[.int .i64 a0_0] rfl ar_ ?_; (with_reducible refine (impl_word.calls a0_0 true _ A2.out).mono ?_); rintro e w' ⟨rfl, ⟨nd, rfl⟩⟩; refine ⟨_, rfl, ?_⟩) | (go_at_call 48; (with_reducible refine (impl_word.calls a0_1 true _ A4.out).mono ?_); rintro e w' ⟨rfl, ⟨nd, rfl⟩⟩) | (go_at_call 49; (with_reducible refine (impl_in.calls a0_2 0 255 true _ A6.out).mono ?_); rintro e w' ⟨rfl, ⟨nd, rfl⟩⟩) | (go_at_call 49; (with_reducible refine (impl_in.calls a0_3 0 255 true _ A8.out).mono ?_); rintro e w' ⟨rfl, ⟨nd, rfl⟩⟩) | (go_at_call 49; (with_reducible refine (impl_in.calls a0_4 0 255 true _ A10.out).mono ?_); rintro e w' ⟨rfl, ⟨nd, rfl⟩⟩) | (go_at_call 49; (with_reducible refine (impl_in.calls a0_5 0 255 true _ A12.out).mono ?_); rintro e w' ⟨rfl, ⟨nd, rfl⟩⟩))
        go_ret
        exact ⟨by first | rfl | (simp [errW_none, errW_some] <;> rfl) | (simp [*, errW_none, errW_some] <;> rfl), hbA_ HB.out⟩
      ·replace c13 := Bool.eq_false_iff.mpr c13
       subst c13
       rw [if_neg (show ¬ (false = true) by decide)] at H
       obtain rfl := Option.some.inj H
       go_enter Try.func14, Try.ntmps14
       go_wp2_with (first | ((with_reducible refine gate_dst (N := 1) rfl ?_); (try (refine gate_guard (by rfl) ?_; dsimp only)); refine box_ (N := 1) (cs := #[.int .i64 a0_0, .int .i64 a0_1, .int .i64 a0_2, .int .i64 a0_3, .int .i64 a0_4, .int .i64 a0_5, .bool a0_6, .bool a0_7, .slice A0_8 l0_8.length c0_8]) (t := 28) (fun gb292 hg w37 hbox hb => ?_); have BK292 := Aside0.mk (hbox); have GW292 := ge_ hg HB; have GE292 := ge_ hg HB; replace HB := (bs_ HB hb); clear hb hbox hg; have Z38 := zz9 BK292) | ((with_reducible refine gate_callee (f := 48) rfl ?_); refine goesL_ (some 5) rfl rfl Try.func48 (by kernel_rfl) rfl #[.int .i64 a0_0] rfl ar_ ?_; (with_reducible refine (impl_word.calls a0_0 true _ A2.out).mono ?_); rintro e w' ⟨rfl, ⟨nd, rfl⟩⟩; refine ⟨_, rfl, ?_⟩) | (go_at_call 48; (with_reducible refine (impl_word.calls a0_1 true _ A4.out).mono ?_); rintro e w' ⟨rfl, ⟨nd, rfl⟩⟩) | (go_at_call 49; (with_reducible refine (impl_in.calls a0_2 0 255 true _ A6.out).mono ?_); rintro e w' ⟨rfl, ⟨nd, rfl⟩⟩) | (go_at_call 49; (with_reducible refine (impl_in.calls a0_3 0 255 true _ A8.out).mono ?_); rintro e w' ⟨rfl, ⟨nd, rfl⟩⟩) | (go_at_call 49; (with_reducible refine (impl_in.calls a0_4 0 255 true _ A10.out).mono ?_); rintro e w' ⟨rfl, ⟨nd, rfl⟩⟩) | (go_at_call 49; (with_reducible refine (impl_in.calls a0_5 0 255 false _ A12.out).mono ?_); rintro e w' ⟨rfl, ⟨nd, rfl⟩⟩))
       go_ret
       exact ⟨by first | rfl | (simp [errW_none, errW_some] <;> rfl) | (simp [*, errW_none, errW_some] <;> rfl), hbA_ HB.out⟩
     ·replace c11 := Bool.eq_false_iff.mpr c11
      subst c11
      rw [if_neg (show ¬ (false = true) by decide)] at H
      obtain rfl := Option.some.inj H
      go_enter Try.func14, Try.ntmps14
      go_wp2_with (first | ((with_reducible refine gate_dst (N := 1) rfl ?_); (try (refine gate_guard (by rfl) ?_; dsimp only)); refine box_ (N := 1) (cs := #[.int .i64 a0_0, .int .i64 a0_1, .int .i64 a0_2, .int .i64 a0_3, .int .i64 a0_4, .int .i64 a0_5, .bool a0_6, .bool a0_7, .slice A0_8 l0_8.length c0_8]) (t := 28) (fun gb292 hg w39 hbox hb => ?_); have BK292 := Aside0.mk (hbox); have GW292 := ge_ hg HB; have GE292 := ge_ hg HB; replace HB := (bs_ HB hb); clear hb hbox hg; have Z40 := zz9 BK292) | ((with_reducible refine gate_callee (f := 48) rfl ?_); refine goesL_ (some 5) rfl rfl Try.func48 (by kernel_rfl) rfl #[.int .i64 a0_0] rfl ar_ ?_; (with_reducible refine (impl_word.calls a0_0 true _ A2.out).mono ?_); rintro e w' ⟨rfl, ⟨nd, rfl⟩⟩; refine ⟨_, rfl, ?_⟩) | (go_at_call 48; (with_reducible refine (impl_word.calls a0_1 true _ A4.out).mono ?_); rintro e w' ⟨rfl, ⟨nd, rfl⟩⟩) | (go_at_call 49; (with_reducible refine (impl_in.calls a0_2 0 255 true _ A6.out).mono ?_); rintro e w' ⟨rfl, ⟨nd, rfl⟩⟩) | (go_at_call 49; (with_reducible refine (impl_in.calls a0_3 0 255 true _ A8.out).mono ?_); rintro e w' ⟨rfl, ⟨nd, rfl⟩⟩) | (go_at_call 49; (with_reducible refine (impl_in.calls a0_4 0 255 false _ A10.out).mono ?_); rintro e w' ⟨rfl, ⟨nd, rfl⟩⟩))
      go_ret
      exact ⟨by first | rfl | (simp [errW_none, errW_some] <;> rfl) | (simp [*, errW_none, errW_some] <;> rfl), hbA_ HB.out⟩
    ·replace c9 := Bool.eq_false_iff.mpr c9
     subst c9
     rw [if_neg (show ¬ (false = true) by decide)] at H
     obtain rfl := Option.some.inj H
     go_enter Try.func14, Try.ntmps14
     go_wp2_with (first | ((with_reducible refine gate_dst (N := 1) rfl ?_); (try (refine gate_guard (by rfl) ?_; dsimp only)); refine box_ (N := 1) (cs := #[.int .i64 a0_0, .int .i64 a0_1, .int .i64 a0_2, .int .i64 a0_3, .int .i64 a0_4, .int .i64 a0_5, .bool a0_6, .bool a0_7, .slice A0_8 l0_8.length c0_8]) (t := 28) (fun gb292 hg w41 hbox hb => ?_); have BK292 := Aside0.mk (hbox); have GW292 := ge_ hg HB; have GE292 := ge_ hg HB; replace HB := (bs_ HB hb); clear hb hbox hg; have Z42 := zz9 BK292) | ((with_reducible refine gate_callee (f := 48) rfl ?_); refine goesL_ (some 5) rfl rfl Try.func48 (by kernel_rfl) rfl #[.int .i64 a0_0] rfl ar_ ?_; (with_reducible refine (impl_word.calls a0_0 true _ A2.out).mono ?_); rintro e w' ⟨rfl, ⟨nd, rfl⟩⟩; refine ⟨_, rfl, ?_⟩) | (go_at_call 48; (with_reducible refine (impl_word.calls a0_1 true _ A4.out).mono ?_); rintro e w' ⟨rfl, ⟨nd, rfl⟩⟩) | (go_at_call 49; (with_reducible refine (impl_in.calls a0_2 0 255 true _ A6.out).mono ?_); rintro e w' ⟨rfl, ⟨nd, rfl⟩⟩) | (go_at_call 49; (with_reducible refine (impl_in.calls a0_3 0 255 false _ A8.out).mono ?_); rintro e w' ⟨rfl, ⟨nd, rfl⟩⟩))
     go_ret
     exact ⟨by first | rfl | (simp [errW_none, errW_some] <;> rfl) | (simp [*, errW_none, errW_some] <;> rfl), hbA_ HB.out⟩
   ·replace c7 := Bool.eq_false_iff.mpr c7
    subst c7
    rw [if_neg (show ¬ (false = true) by decide)] at H
    obtain rfl := Option.some.inj H
    go_enter Try.func14, Try.ntmps14
    go_wp2_with (first | ((with_reducible refine gate_dst (N := 1) rfl ?_); (try (refine gate_guard (by rfl) ?_; dsimp only)); refine box_ (N := 1) (cs := #[.int .i64 a0_0, .int .i64 a0_1, .int .i64 a0_2, .int .i64 a0_3, .int .i64 a0_4, .int .i64 a0_5, .bool a0_6, .bool a0_7, .slice A0_8 l0_8.length c0_8]) (t := 28) (fun gb292 hg w43 hbox hb => ?_); have BK292 := Aside0.mk (hbox); have GW292 := ge_ hg HB; have GE292 := ge_ hg HB; replace HB := (bs_ HB hb); clear hb hbox hg; have Z44 := zz9 BK292) | ((with_reducible refine gate_callee (f := 48) rfl ?_); refine goesL_ (some 5) rfl rfl Try.func48 (by kernel_rfl) rfl #[.int .i64 a0_0] rfl ar_ ?_; (with_reducible refine (impl_word.calls a0_0 true _ A2.out).mono ?_); rintro e w' ⟨rfl, ⟨nd, rfl⟩⟩; refine ⟨_, rfl, ?_⟩) | (go_at_call 48; (with_reducible refine (impl_word.calls a0_1 true _ A4.out).mono ?_); rintro e w' ⟨rfl, ⟨nd, rfl⟩⟩) | (go_at_call 49; (with_reducible refine (impl_in.calls a0_2 0 255 false _ A6.out).mono ?_); rintro e w' ⟨rfl, ⟨nd, rfl⟩⟩))
    go_ret
    exact ⟨by first | rfl | (simp [errW_none, errW_some] <;> rfl) | (simp [*, errW_none, errW_some] <;> rfl), hbA_ HB.out⟩
  ·replace c5 := Bool.eq_false_iff.mpr c5
   subst c5
   rw [if_neg (show ¬ (false = true) by decide)] at H
   obtain rfl := Option.some.inj H
   go_enter Try.func14, Try.ntmps14
   go_wp2_with (first | ((with_reducible refine gate_dst (N := 1) rfl ?_); (try (refine gate_guard (by rfl) ?_; dsimp only)); refine box_ (N := 1) (cs := #[.int .i64 a0_0, .int .i64 a0_1, .int .i64 a0_2, .int .i64 a0_3, .int .i64 a0_4, .int .i64 a0_5, .bool a0_6, .bool a0_7, .slice A0_8 l0_8.length c0_8]) (t := 28) (fun gb292 hg w45 hbox hb => ?_); have BK292 := Aside0.mk (hbox); have GW292 := ge_ hg HB; have GE292 := ge_ hg HB; replace HB := (bs_ HB hb); clear hb hbox hg; have Z46 := zz9 BK292) | ((with_reducible refine gate_callee (f := 48) rfl ?_); refine goesL_ (some 5) rfl rfl Try.func48 (by kernel_rfl) rfl #[.int .i64 a0_0] rfl ar_ ?_; (with_reducible refine (impl_word.calls a0_0 true _ A2.out).mono ?_); rintro e w' ⟨rfl, ⟨nd, rfl⟩⟩; refine ⟨_, rfl, ?_⟩) | (go_at_call 48; (with_reducible refine (impl_word.calls a0_1 false _ A4.out).mono ?_); rintro e w' ⟨rfl, ⟨nd, rfl⟩⟩))
   go_ret
   exact ⟨by first | rfl | (simp [errW_none, errW_some] <;> rfl) | (simp [*, errW_none, errW_some] <;> rfl), hbA_ HB.out⟩
 ·replace c3 := Bool.eq_false_iff.mpr c3
  subst c3
  rw [if_neg (show ¬ (false = true) by decide)] at H
  obtain rfl := Option.some.inj H
  go_enter Try.func14, Try.ntmps14
  go_wp2_with (first | ((with_reducible refine gate_dst (N := 1) rfl ?_); (try (refine gate_guard (by rfl) ?_; dsimp only)); refine box_ (N := 1) (cs := #[.int .i64 a0_0, .int .i64 a0_1, .int .i64 a0_2, .int .i64 a0_3, .int .i64 a0_4, .int .i64 a0_5, .bool a0_6, .bool a0_7, .slice A0_8 l0_8.length c0_8]) (t := 28) (fun gb292 hg w47 hbox hb => ?_); have BK292 := Aside0.mk (hbox); have GW292 := ge_ hg HB; have GE292 := ge_ hg HB; replace HB := (bs_ HB hb); clear hb hbox hg; have Z48 := zz9 BK292) | ((with_reducible refine gate_callee (f := 48) rfl ?_); refine goesL_ (some 5) rfl rfl Try.func48 (by kernel_rfl) rfl #[.int .i64 a0_0] rfl ar_ ?_; (with_reducible refine (impl_word.calls a0_0 false _ A2.out).mono ?_); rintro e w' ⟨rfl, ⟨nd, rfl⟩⟩; refine ⟨_, rfl, ?_⟩))
  go_ret
  exact ⟨by first | rfl | (simp [errW_none, errW_some] <;> rfl) | (simp [*, errW_none, errW_some] <;> rfl), hbA_ HB.out⟩
end Go.Proofs.Ytpbeljcgcdilnaa.PFnPartWhole
