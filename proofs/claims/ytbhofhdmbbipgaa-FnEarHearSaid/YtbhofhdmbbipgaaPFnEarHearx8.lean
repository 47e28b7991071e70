/- Printed by wip/xp/xprint.sh out of the translation, for this claim: what each function answers, as a plain function, and that the machine does just that. No condition. -/
import Derived.Test.YtbhofhdmbbipgaaPFnEarHearx0
import Derived.Test.YtbhofhdmbbipgaaPFnEarHearx3
import Derived.Test.YtbhofhdmbbipgaaPFnEarHearx6
import Derived.Test.YtbhofhdmbbipgaaPFnEarHearx7
namespace Go.Proofs.Ytbhofhdmbbipgaa.PFnEarHear
open Go.RowKit Go.Proofs.YtbhofhdmbbipgaaW.PrintWords Go.Proofs.YtbhofhdmbbipgaaW.PrintLast Go.Proofs.YtbhofhdmbbipgaaW.PrintMore
attribute [local go_sem] max2_int min2_int max_two min_two max_three min_three max_four min_four   -- for this text's walks alone
set_option linter.unusedVariables false
set_option linter.unusedSimpArgs false
def spec_l20Ear.l0 : Nat → Int → Int → List Int → Int → Int → Int → List Int → List (S96) → Option (Int × Int × List Int × (List (S96)) × Int)
 | 0, _, _, _, _, _, _, _, _ => none
 | k + 1, x1, x6, x1000, x1001, x304000, x304001, x304002, x304003 => if x6 > 0 then ((spec_l20Rd_pick.f k x1000 x1001 14).bind fun bt306 => ((spec_l20Rd_pick.f k x1000 bt306.2 5).bind fun bt308 => ((spec_l20Heard.f k (wrap64 ((wrap64 (x304000 + bt306.1)) - 4)) bt308.1).bind fun t310 => ((spec_EarHear.f k x304000 x304001 x304002 x304003 (wrap64 ((wrap64 (x304000 + bt306.1)) - 4)) t310).bind fun bt313 => ((spec_l20Rd_pick.f k x1000 bt308.2 4).bind fun bt321 => (if bt321.1 = 0 then ((spec_l20Rd_pick.f k x1000 bt321.2 5).bind fun bt323 => ((spec_EarRead.f k bt313.1 bt313.2.1 bt313.2.2.1 bt313.2.2.2 bt323.1).bind fun bt325 => (spec_l20Ear.l0 k x1 (wrap64 (x6 - 1)) x1000 bt323.2 bt325.1 bt325.2.1 bt325.2.2.1 bt325.2.2.2.1))) else (spec_l20Ear.l0 k x1 (wrap64 (x6 - 1)) x1000 bt321.2 bt313.1 bt313.2.1 bt313.2.2.1 bt313.2.2.2))))))) else ((spec_l20Rd_odd.f k x1000 x1001 x1).bind fun bt336 => (if bt336.1 = true then ((spec_l20Rd_pick.f k x1000 bt336.2 4).bind fun bt338 => (if bt338.1 = 0 then ((spec_l20Rd_pick.f k x1000 bt338.2 2).bind fun bt340 => (some (x304000, wrap64 (bt340.1 * 33), x304002, x304003, bt340.2))) else (if bt338.1 = 1 then (some ((-1), x304001, x304002, x304003, bt338.2)) else (if bt338.1 = 2 then ((spec_l20Rd_pick.f k x1000 bt338.2 40).bind fun bt342 => (if x304003.length < 8796093022208 then (some (x304000, x304001, x304002, (x304003 ++ [(⟨wrap64 ((wrap64 (x304000 + bt342.1)) - 3), 0⟩ : S96)]), bt342.2)) else (none))) else (if x304002.length + 20 < 140737488355328 then (some (x304000, x304001, (x304002 ++ List.replicate 20 0), x304003, bt338.2)) else (none)))))) else (some (x304000, x304001, x304002, x304003, bt336.2))))
def spec_l20Ear.f (k : Nat) (s0_0 : List Int) (s0_1 : Int) (a1 : Int) : Option (Int × Int × List Int × (List (S96)) × Int) := (spec_l20Rd_pick.f k s0_0 s0_1 3).bind fun bt299 => ((spec_l20Rd_pick.f k s0_0 bt299.2 20).bind fun bt301 => ((spec_l20Rd_pick.f k s0_0 bt301.2 6).bind fun bt304 => (spec_l20Ear.l0 k a1 bt304.1 s0_0 bt304.2 (wrap64 (100 + (wrap64 (bt299.1 * 40)))) (wrap64 (4 + bt301.1)) ([] : List Int) ([] : List (S96)))))
theorem spec_l20Ear.mono_l : ∀ k, (∀ y0 y1 y2 y3 y4 y5 y6 y7, LeO (spec_l20Ear.l0 k y0 y1 y2 y3 y4 y5 y6 y7) (spec_l20Ear.l0 (k + 1) y0 y1 y2 y3 y4 y5 y6 y7))
 | 0 => fun _ _ _ _ _ _ _ _ r h => by simp [spec_l20Ear.l0] at h
 | k + 1 => by
  have ih0 := spec_l20Ear.mono_l k
  ·intro y0 y1 y2 y3 y4 y5 y6 y7
   unfold spec_l20Ear.l0
   repeat' first | (with_reducible first | apply ih0 | apply spec_EarHear.mono | apply spec_EarRead.mono | apply spec_l20Heard.mono | apply spec_l20Rd_odd.mono | apply spec_l20Rd_pick.mono | exact LeO.refl _ | exact LeO.none _ | refine LeO.ite ?_ ?_ | refine LeO.bind ?_ fun _ => ?_) | apply ih0 | apply spec_EarHear.mono | apply spec_EarRead.mono | apply spec_l20Heard.mono | apply spec_l20Rd_odd.mono | apply spec_l20Rd_pick.mono | exact LeO.none _ | refine LeO.ite ?_ ?_ | refine LeO.bind ?_ fun _ => ?_
theorem spec_l20Ear.mono : ∀ a0 a1 a2 k, LeO (spec_l20Ear.f k a0 a1 a2) (spec_l20Ear.f (k + 1) a0 a1 a2) := by
 intro a0 a1 a2 k
 have ih0 := spec_l20Ear.mono_l k
 unfold spec_l20Ear.f
 repeat' first | (with_reducible first | apply ih0 | apply spec_EarHear.mono | apply spec_EarRead.mono | apply spec_l20Heard.mono | apply spec_l20Rd_odd.mono | apply spec_l20Rd_pick.mono | exact LeO.refl _ | exact LeO.none _ | refine LeO.ite ?_ ?_ | refine LeO.bind ?_ fun _ => ?_) | apply ih0 | apply spec_EarHear.mono | apply spec_EarRead.mono | apply spec_l20Heard.mono | apply spec_l20Rd_odd.mono | apply spec_l20Rd_pick.mono | exact LeO.none _ | refine LeO.ite ?_ ?_ | refine LeO.bind ?_ fun _ => ?_
def spec_l20Ear.T6 : Bool × List (List Nat × List Nat) := (true, [([], []), ([], []), ([], []), ([], []), ([3], [3]), ([2, 4, 4], [2, 4]), ([0, 1, 5, 5], [0, 1, 5]), ([6, 6, 0, 1, 2, 3, 4, 5, 6], [6])])
def spec_l20Ear.B6 : List Nat := [0, 0, 0, 0, 8, 28, 63, 127]
theorem spec_l20Ear.tab6 : rtab .any (opsOf Try.f74 6) = spec_l20Ear.T6 := by kernel_rfl
theorem spec_l20Ear.bits6 : waitsOk spec_l20Ear.T6.2 spec_l20Ear.B6 = true := by kernel_rfl
def spec_l20Ear.T8 : Bool × List (List Nat × List Nat) := (true, [([], []), ([], []), ([1], [1]), ([0, 2, 2], [0, 2]), ([3], [3]), ([4], [4]), ([4], [4]), ([5, 3, 0, 1, 2, 3, 4, 5], [5])])
def spec_l20Ear.B8 : List Nat := [0, 0, 2, 7, 15, 31, 31, 63]
theorem spec_l20Ear.tab8 : rtab .any (opsOf Try.f74 8) = spec_l20Ear.T8 := by kernel_rfl
theorem spec_l20Ear.bits8 : waitsOk spec_l20Ear.T8.2 spec_l20Ear.B8 = true := by kernel_rfl
def spec_l20Ear.T17 : Bool × List (List Nat × List Nat) := (true, [([], []), ([0], [0]), ([], []), ([2], [2]), ([], []), ([4], [4]), ([3, 5], [3, 5]), ([6], [6]), ([7], [7]), ([8], [8]), ([1, 9, 5], [1, 9]), ([0, 1, 2, 3, 4, 5, 6, 7, 8, 9, 10], []), ([11, 10, 10, 0, 1, 2, 3, 4, 5, 6, 7, 8, 9, 10], [10, 11])])
def spec_l20Ear.B17 : List Nat := [0, 1, 0, 4, 0, 16, 60, 124, 252, 508, 1023, 2047, 4095]
theorem spec_l20Ear.tab17 : rtab .any (opsOf Try.f74 17) = spec_l20Ear.T17 := by kernel_rfl
theorem spec_l20Ear.bits17 : waitsOk spec_l20Ear.T17.2 spec_l20Ear.B17 = true := by kernel_rfl
set_option maxHeartbeats 8000000 in
set_option maxRecDepth 100000 in
theorem spec_l20Ear.calls (k : Nat) (g : Nat) (s0_0 : List Int) (s0_1 : Int) (a1 : Int) (r1 : Int) (r2 : Int) (r3 : List Int) (r4 : List (S96)) (r5 : Int) (w0 w : World) (hI : IsS113 w0 w g s0_0 s0_1) (hB : Below w0.heap.size w0 w) (h : spec_l20Ear.f k s0_0 s0_1 a1 = some (r1, r2, r3, r4, r5)) :
  Calls Try.prog 74 #[.pointer (some ⟨g, 0, none⟩), .int .i64 a1] w fun e w' => ∃ v2_ v3_ : Value, e = .returned (.agg #[.int .i64 r1, .int .i64 r2, v2_, v3_]) ∧ Kd.R (Kd.int .u8) 5 w' w.heap.size (fun _ => True) v2_ r3 ∧ Kd.Q k96 96 w' w.heap.size (fun _ => True) v3_ r4 ∧ IsS113 w0 w' g s0_0 r5 ∧ Below w0.heap.size w0 w' ∧ KeepBut w w' g none := by
 have hu48 := Try.underlying48; have hu96 := Try.underlying96; have HI0 := Aside0.mk hI
 have HK := Aside0.mk (KeepBut.refl w g none)
 have HL := Aside0.mk hB.size; clear hI; have HW0 := Aside0.mk hB.size; have HB := Aside0.mk hB; clear hB
 have H : ((spec_l20Rd_pick.f k s0_0 s0_1 3).bind fun bt299 => ((spec_l20Rd_pick.f k s0_0 bt299.2 20).bind fun bt301 => ((spec_l20Rd_pick.f k s0_0 bt301.2 6).bind fun bt304 => (spec_l20Ear.l0 k a1 bt304.1 s0_0 bt304.2 (wrap64 (100 + (wrap64 (bt299.1 * 40)))) (wrap64 (4 + bt301.1)) ([] : List Int) ([] : List (S96)))))) = some (r1, r2, r3, r4, r5) := h
 clear h
 replace H := Option.bind_eq_some_iff.mp H
 obtain ⟨⟨t299, t300⟩, A30, H⟩ := H
 (try dsimp only at H)
 have A3 := Aside0.mk A30; clear A30
 replace H := Option.bind_eq_some_iff.mp H
 obtain ⟨⟨t301, t302⟩, A40, H⟩ := H
 (try dsimp only at H)
 have A4 := Aside0.mk A40; clear A40
 replace H := Option.bind_eq_some_iff.mp H
 obtain ⟨⟨t304, t305⟩, A50, H⟩ := H
 (try dsimp only at H)
 have A5 := Aside0.mk A50; clear A50
 have H' := Aside0.mk H
 clear H
 go_enter Try.func74, Try.ntmps74
 go_wp2_with (first | ((with_reducible refine gate_dst (N := 4) rfl ?_); refine box_ (N := 4) (cs := #[.int .i64 0, .int .i64 0, .slice none 0 0, .slice none 0 0]) (t := 48) (fun gb298 hg w6 hbox hb => ?_); replace HB := (bs113_ HB hb); have BK298 := Aside0.mk (hbox); have GW298 := gk_ hg HK; have GE298 := Aside0.mk ((Nat.le_trans HW0.out (by rw [hg]; exact (keep_size (w := w) (g := g) (row := none) (hkA_ HK.out)) : w.heap.size ≤ gb298) : w0.heap.size ≤ gb298)); replace HK := (kw_ HK hb); have NB0_298 := nl113_ hg HI0; have NB298_0 := ng113_ hg HI0; replace HI0 := (ib113_ HI0 hb); clear hb hbox hg) | ((with_reducible refine gate_callee (f := 54) rfl ?_); refine goesL_ (some 9) rfl rfl Try.func54 (by kernel_rfl) rfl #[.pointer (some ⟨g, 0, none⟩), .int .i64 3] rfl ar_ ?_; (with_reducible refine (spec_l20Rd_pick.calls k g s0_0 s0_1 3 t299 t300 w0 _ ?side1 ?side2 A3.out).mono ?_); (case side1 => exact is113_ HI0.out); (case side2 => exact hb113_ HB.out); rintro e w7 ⟨rfl, hi, hb, hk⟩; refine ⟨_, rfl, ?_⟩; replace BK298 := (bkA_ BK298 hk NB298_0); replace HK := (kk_ HK hk); replace HB := Aside0.mk (hb); replace HI0 := Aside0.mk (hi); (try clear hb); (try clear hb2); (try clear hk); (try clear hi)) | ((with_reducible refine gate_callee (f := 54) rfl ?_); refine goesL_ (some 13) rfl rfl Try.func54 (by kernel_rfl) rfl #[.pointer (some ⟨g, 0, none⟩), .int .i64 20] rfl ar_ ?_; (with_reducible refine (spec_l20Rd_pick.calls k g s0_0 t300 20 t301 t302 w0 _ ?side1 ?side2 A4.out).mono ?_); (case side1 => exact is113_ HI0.out); (case side2 => exact hb113_ HB.out); rintro e w8 ⟨rfl, hi, hb, hk⟩; refine ⟨_, rfl, ?_⟩; replace BK298 := (bkA_ BK298 hk NB298_0); replace HK := (kk_ HK hk); replace HB := Aside0.mk (hb); replace HI0 := Aside0.mk (hi); (try clear hb); (try clear hb2); (try clear hk); (try clear hi)) | ((with_reducible refine gate_dst (N := 5) rfl ?_); refine box_ (N := 5) (cs := #[.int .i64 0, .int .i64 0, .slice none 0 0, .slice none 0 0]) (t := 48) (fun gb303 hg w9 hbox hb => ?_); replace HB := (bs113_ HB hb); have BK303 := Aside0.mk (hbox); have GW303 := gk_ hg HK; have GE303 := Aside0.mk ((Nat.le_trans HW0.out (by rw [hg]; exact (keep_size (w := w) (g := g) (row := none) (hkA_ HK.out)) : w.heap.size ≤ gb303) : w0.heap.size ≤ gb303)); replace HK := (kw_ HK hb); have NB298_303 := nl_ hg BK298; have NB303_298 := ng_ hg BK298; replace BK298 := (bbA_ BK298 hb); have NB0_303 := nl113_ hg HI0; have NB303_0 := ng113_ hg HI0; replace HI0 := (ib113_ HI0 hb); clear hb hbox hg; have hnb10 := NB303_298.out; have hnc10 := NB298_303.out; have hnb11 := NB303_0.out; have hnc11 := NB0_303.out; have Z12 := zz4 BK303) | ((with_reducible refine gate_callee (f := 54) rfl ?_); refine goesL_ (some 17) rfl rfl Try.func54 (by kernel_rfl) rfl #[.pointer (some ⟨g, 0, none⟩), .int .i64 6] rfl ar_ ?_; (with_reducible refine (spec_l20Rd_pick.calls k g s0_0 t302 6 t304 t305 w0 _ ?side1 ?side2 A5.out).mono ?_); (case side1 => exact is113_ HI0.out); (case side2 => exact hb113_ HB.out); rintro e w13 ⟨rfl, hi, hb, hk⟩; refine ⟨_, rfl, ?_⟩; replace BK298 := Aside0.mk (KeepBut.blk hk (g' := gb298) (o := .cells #[.int .i64 0, .int .i64 0, .slice none 0 0, .slice none 0 0] 48 (0, 0)) (by exact kf_ BK298.out) NB298_0.out (by simp)); replace BK303 := Aside0.mk (KeepBut.blk hk (g' := gb303) (o := .cells #[.int .i64 (wrap64 (100 + (wrap64 (t299 * 40)))), .int .i64 (wrap64 (4 + t301)), .slice none 0 0, .slice none 0 0] 48 (0, 0)) (by refine kb_ ?_; refine pz4 (cs := #[.int .i64 0, .int .i64 0, .slice none 0 0, .slice none 0 0]) ?_; refine kb_ ?_; exact BK303.out) NB303_0.out (by simp)); replace HK := (kk_ HK hk); replace HB := Aside0.mk (hb); replace HI0 := Aside0.mk (hi); (try clear hb); (try clear hb2); (try clear hk); (try clear hi)))
 go_loopg [6] k (fun kq v6 w' => ∃ (x6_1 : Int) (x1001_1 : Int) (x304000_1 : Int) (x304001_1 : Int) (x304002_1 : List Int) (x304003_1 : List (S96)) (u304002 : Value) (u304003 : Value), v6 = .int .i64 x6_1 ∧ Aside0 (spec_l20Ear.l0 kq a1 x6_1 s0_0 x1001_1 x304000_1 x304001_1 x304002_1 x304003_1 = some (r1, r2, r3, r4, r5)) ∧ Aside0 (kq ≤ k) ∧ Aside0 (Kd.R (Kd.int .u8) 5 w' w.heap.size (fun _ => True) u304002 x304002_1) ∧ Aside0 (Kd.Q k96 96 w' w.heap.size (fun _ => True) u304003 x304003_1) ∧ Aside0 (w'.heap[gb298]? = some (.cells #[.int .i64 0, .int .i64 0, (.slice none 0 0), (.slice none 0 0)] 48 (0, 0))) ∧ Aside0 (w'.heap[gb303]? = some (.cells #[.int .i64 x304000_1, .int .i64 x304001_1, u304002, u304003] 48 (0, 0))) ∧ Aside0 (IsS113 w0 w' g s0_0 x1001_1) ∧ Aside0 (KeepBut w w' g none) ∧ Aside0 (Below w0.heap.size w0 w'))
 case atStart => exact ⟨(t304), (t305), (wrap64 (100 + (wrap64 (t299 * 40)))), (wrap64 (4 + t301)), (([] : List Int)), (([] : List (S96))), (.slice none 0 0), (.slice none 0 0), (by first | rfl | (simp; done) | (simp [*]; done)), H', ⟨Nat.le_refl _⟩, ⟨by first | exact Kd.R_nil _ _ _ _ _ | exact Kd.N_nil _ _ _ _ _ | exact Kd.V_nil _ _ _ _ _ | exact Kd.Q_nil _ _ _ _ _ | exact Kd.S_nil _ _ _ _ _⟩, ⟨Kd.Q_of_R (by first | exact Kd.R_nil _ _ _ _ _ | exact Kd.N_nil _ _ _ _ _ | exact Kd.V_nil _ _ _ _ _ | exact Kd.Q_nil _ _ _ _ _ | exact Kd.S_nil _ _ _ _ _)⟩, ⟨by refine kb_ ?_; exact BK298.out⟩, ⟨by refine kb_ ?_; exact BK303.out⟩, ⟨is113_ HI0.out⟩, ⟨hkA_ HK.out⟩, ⟨hb113_ HB.out⟩⟩
 case round =>
  clear H'; (try clear c1); (try clear p2); (try clear c5); (try clear p6); (try clear c7); (try clear c10); (try clear c11); (try clear Z12)
  obtain ⟨x6_1, x1001_1, x304000_1, x304001_1, x304002_1, x304003_1, u304002, u304003, rfl, HA, HK1, HO_304002, HO_304003, BK298, BK303, HI0, HK, HB⟩ := hrel
  cases gk with
  | zero => exact absurd HA.out (by simp [spec_l20Ear.l0])
  | succ k1 =>
   have H := HA.out; clear HA
   simp only [spec_l20Ear.l0] at H
   by_cases c14 : x6_1 > 0
   ·rw [if_pos c14] at H
    have c14b0 : decide (0 < x6_1) = true := decide_eq_true c14
    clear c14
    replace H := Option.bind_eq_some_iff.mp H
    obtain ⟨⟨t306, t307⟩, A150, H⟩ := H
    (try dsimp only at H)
    have A15 := Aside0.mk A150; clear A150
    replace H := Option.bind_eq_some_iff.mp H
    obtain ⟨⟨t308, t309⟩, A160, H⟩ := H
    (try dsimp only at H)
    have A16 := Aside0.mk A160; clear A160
    replace H := Option.bind_eq_some_iff.mp H
    obtain ⟨t310, A170, H⟩ := H
    (try dsimp only at H)
    have A17 := Aside0.mk A170; clear A170
    replace H := Option.bind_eq_some_iff.mp H
    obtain ⟨⟨t313, t314, t315, t318⟩, A180, H⟩ := H
    (try dsimp only at H)
    have A18 := Aside0.mk A180; clear A180
    replace H := Option.bind_eq_some_iff.mp H
    obtain ⟨⟨t321, t322⟩, A190, H⟩ := H
    (try dsimp only at H)
    have A19 := Aside0.mk A190; clear A190
    by_cases c20 : t321 = 0
    ·rw [if_pos c20] at H
     have c20b0 : (t321 == 0) = true := beq_iff_eq.mpr c20
     have c20b1 : (t321 != 0) = false := bne_eq_false_iff_eq.mpr c20
     clear c20
     replace H := Option.bind_eq_some_iff.mp H
     obtain ⟨⟨t323, t324⟩, A210, H⟩ := H
     (try dsimp only at H)
     have A21 := Aside0.mk A210; clear A210
     replace H := Option.bind_eq_some_iff.mp H
     obtain ⟨⟨t325, t326, t327, t330, t333⟩, A220, H⟩ := H
     (try dsimp only at H)
     have A22 := Aside0.mk A220; clear A220
     have H' := Aside0.mk H
     clear H
     try go_wp2
     replace HO_304002 := Aside0.mk (Kd.R_drew HO_304002.out); replace HO_304003 := Aside0.mk (Kd.Q_drew HO_304003.out); replace BK298 := Aside0.mk (blk_drew BK298.out); replace BK303 := Aside0.mk (blk_drew BK303.out); replace HI0 := Aside0.mk (IsS113.drew HI0.out); replace HK := Aside0.mk (keep_drew HK.out); replace HB := (bd_ HB)
     refine start_ (n := 7) (S := fun w' => w'.cell? ⟨gb303, 0, none⟩ = some (.int .i64 x304000_1) ∧ w'.cell? ⟨gb303, 1, none⟩ = some (.int .i64 x304001_1) ∧ w'.cell? ⟨gb303, 2, none⟩ = some (u304002) ∧ w'.cell? ⟨gb303, 3, none⟩ = some (u304003)) (ds := []) #[false, false, false, false, false, false, false] (by kernel_rfl) rfl rfl (cz4 BK303.out) (fun hHeld => ?_)
     generalize wr.drew = w23 at HO_304002 HO_304003 BK298 BK303 HI0 HK HB hHeld ⊢
     refine pure_ (i := 0) (N := some 22) (v := ?_) (a' := ?_) #[true, false, false, false, false, false, false] rfl rfl (by kernel_rfl) (fun _ _ _ h => h) (Or.inl ⟨by rfl, ?_⟩) ?_ ?_
     rotate_left
     ·intro w'
      go_simp
      with_reducible rfl
     rotate_left
     ·simp only [Act.put, List.setIfInBounds_toArray, List.set_cons_zero, List.set_cons_succ, i64_w, i32_w]
      rfl
     refine pure_ (i := 2) (N := some 24) (v := ?_) (a' := ?_) #[true, false, true, false, false, false, false] rfl rfl (by kernel_rfl) (fun _ _ _ h => h) (Or.inl ⟨by rfl, ?_⟩) ?_ ?_
     rotate_left
     ·intro w'
      go_simp
      with_reducible rfl
     rotate_left
     ·simp only [Act.put, List.setIfInBounds_toArray, List.set_cons_zero, List.set_cons_succ, i64_w, i32_w]
      rfl
     refine take_ (i := 1) (N := some 23) (v := ?_) (a' := ?_) #[true, true, true, false, false, false, false] rfl rfl (by kernel_rfl) (fun _ _ _ h => h) (Or.inl ⟨by rfl, ?_⟩) hHeld ?_ ?_
     rotate_left
     ·rintro w' ⟨s0, s1, s2, s3⟩
      go_simp
      with_reducible rfl
     rotate_left
     ·simp only [Act.put, List.setIfInBounds_toArray, List.set_cons_zero, List.set_cons_succ, i64_w, i32_w]
      rfl
     refine one_ (i := 3) (N := some 25) #[true, true, true, true, false, false, false] rfl rfl (by kernel_rfl) (by decide) (fun K hK => ?_)
     refine goes_ Try.func54 (by kernel_rfl) rfl #[.pointer (some ⟨g, 0, none⟩), .int .i64 14] (by rfl) rfl rfl ar_ ?_
     with_reducible refine (spec_l20Rd_pick.calls k1 g s0_0 x1001_1 14 t306 t307 w0 _ ?side1 ?side2 A15.out).mono ?_
     (case side1 => exact is113_ HI0.out)
     (case side2 => exact hb113_ HB.out)
     rintro e w24 ⟨rfl, hi, hb, hk⟩
     refine ⟨_, rfl, ?_⟩
     replace HO_304002 := (rk113_ HI0 HO_304002 hk); replace HO_304003 := Aside0.mk (Kd.Q_mono (Kd.Q_keep (IsS113.apartQ (show IsS113 w0 _ g s0_0 x1001_1 from is113_ HI0.out) (by (with_reducible repeat (first | apply Kd.Q_alloc | apply Kd.Q_drewN | apply Kd.Q_drew)); exact HO_304003.out) (by decide)) hk (fun _ h => h.2)) (fun _ h => h.1)); replace BK298 := (bkA_ BK298 hk NB298_0); replace BK303 := (bkA_ BK303 hk NB303_0); replace HK := (kk_ HK hk); replace HB := Aside0.mk (hb); replace HI0 := Aside0.mk (hi); (try clear hb); (try clear hb2); (try clear hk); (try clear hi)
     refine hK.out _ _ (cz4 BK303.out) (fun hHeld => ?_)
     clear hK K; refine nm_ 25 ?_
     refine pure_ (i := 4) (N := some 26) (v := ?_) (a' := ?_) #[true, true, true, true, true, false, false] rfl rfl (by kernel_rfl) (fun _ _ _ h => h) (Or.inl ⟨by rfl, ?_⟩) ?_ ?_
     rotate_left
     ·intro w'
      go_simp
      with_reducible rfl
     rotate_left
     ·simp only [Act.put, List.setIfInBounds_toArray, List.set_cons_zero, List.set_cons_succ, i64_w, i32_w]
      rfl
     refine pure_ (i := 5) (N := some 27) (v := ?_) (a' := ?_) #[true, true, true, true, true, true, false] rfl rfl (by kernel_rfl) (fun _ _ _ h => h) (Or.inl ⟨by rfl, ?_⟩) ?_ ?_
     rotate_left
     ·intro w'
      go_simp
      with_reducible rfl
     rotate_left
     ·simp only [Act.put, List.setIfInBounds_toArray, List.set_cons_zero, List.set_cons_succ, i64_w, i32_w]
      rfl
     refine pure_ (i := 6) (N := some 7) (v := ?_) (a' := ?_) #[true, true, true, true, true, true, true] rfl rfl (by kernel_rfl) (fun _ _ _ h => h) (Or.inl ⟨by rfl, ?_⟩) ?_ ?_
     rotate_left
     ·intro w'
      go_simp
      with_reducible rfl
     rotate_left
     ·simp only [Act.put, List.setIfInBounds_toArray, List.set_cons_zero, List.set_cons_succ, i64_w, i32_w]
      rfl
     refine done_ (by kernel_rfl) ?_
     try go_wp2
     replace HO_304002 := Aside0.mk (Kd.R_drew HO_304002.out); replace HO_304003 := Aside0.mk (Kd.Q_drew HO_304003.out); replace BK298 := Aside0.mk (blk_drew BK298.out); replace BK303 := Aside0.mk (blk_drew BK303.out); replace HI0 := Aside0.mk (IsS113.drew HI0.out); replace HK := Aside0.mk (keep_drew HK.out); replace HB := (bd_ HB)
     refine start_ (n := 8) (S := fun w' => w'.cell? ⟨gb303, 0, none⟩ = some (.int .i64 x304000_1) ∧ w'.cell? ⟨gb303, 1, none⟩ = some (.int .i64 x304001_1) ∧ w'.cell? ⟨gb303, 2, none⟩ = some (u304002) ∧ w'.cell? ⟨gb303, 3, none⟩ = some (u304003)) (ds := [7]) #[false, false, false, false, false, false, false, false] (by kernel_rfl) rfl rfl (cz4 BK303.out) (fun hHeld => ?_); refine with_tabW spec_l20Ear.tab6 spec_l20Ear.bits6 (fun HT_ HW_ => ?_)
     generalize w24.drew = w25 at HO_304002 HO_304003 BK298 BK303 HI0 HK HB hHeld ⊢
     refine pu_ (i := 1) (N := some 29) HT_ ?_; refine pu_ (i := 2) (N := some 30) HT_ ?_; refine pu_ (i := 3) (N := some 31) HT_ ?_; refine tk_ (i := 0) (N := some 28) HT_ HW_ hHeld ?_
     refine on_ (i := 4) (N := some 32) HT_ (fun K hK => ?_)
     refine goes_ Try.func54 (by kernel_rfl) rfl #[.pointer (some ⟨g, 0, none⟩), .int .i64 5] (by rfl) rfl rfl ar_ ?_
     with_reducible refine (spec_l20Rd_pick.calls k1 g s0_0 t307 5 t308 t309 w0 _ ?side1 ?side2 A16.out).mono ?_
     (case side1 => exact is113_ HI0.out)
     (case side2 => exact hb113_ HB.out)
     rintro e w26 ⟨rfl, hi, hb, hk⟩
     refine ⟨_, rfl, ?_⟩
     replace HO_304002 := (rk113_ HI0 HO_304002 hk); replace HO_304003 := Aside0.mk (Kd.Q_mono (Kd.Q_keep (IsS113.apartQ (show IsS113 w0 _ g s0_0 t307 from is113_ HI0.out) (by (with_reducible repeat (first | apply Kd.Q_alloc | apply Kd.Q_drewN | apply Kd.Q_drew)); exact HO_304003.out) (by decide)) hk (fun _ h => h.2)) (fun _ h => h.1)); replace BK298 := (bkA_ BK298 hk NB298_0); replace BK303 := (bkA_ BK303 hk NB303_0); replace HK := (kk_ HK hk); replace HB := Aside0.mk (hb); replace HI0 := Aside0.mk (hi); (try clear hb); (try clear hb2); (try clear hk); (try clear hi)
     refine hK.out _ _ (cz4 BK303.out) (fun hHeld => ?_)
     clear hK K; refine nm_ 32 ?_
     refine on_ (i := 5) (N := some 33) HT_ (fun K hK => ?_)
     refine goes_ Try.func76 (by kernel_rfl) rfl #[.int .i64 (wrap64 ((wrap64 (x304000_1 + t306)) - 4)), .int .i64 t308] (by rfl) rfl rfl ar_ ?_
     with_reducible refine (spec_l20Heard.calls k1 (wrap64 ((wrap64 (x304000_1 + t306)) - 4)) t308 t310 _ A17.out).mono ?_
     rintro e w27 ⟨v311, rfl, ho0, hb⟩
     refine ⟨_, rfl, ?_⟩
     replace HO_304003 := Aside0.mk (Kd.Q_below (by (with_reducible repeat (first | apply Kd.Q_alloc | apply Kd.Q_drewN | apply Kd.Q_drew)); exact HO_304003.out) hb); have HO312 := Aside0.mk (Kd.R_lower (Kd.R_new' ho0 (Kd.R_lt (kR_ HO_304002.out))) (keep_size (w := w) (g := g) (row := none) (hkA_ HK.out))); replace HO_304002 := Aside0.mk (Kd.R_elder' (kR_ HO_304002.out) (Kd.R_base ho0) hb); replace BK298 := (bbA_ BK298 hb); replace BK303 := (bbA_ BK303 hb); replace HI0 := (ib113_ HI0 hb); replace HK := (kw_ HK hb); replace HB := (bs113_ HB hb); (try clear hb); (try clear hb2); (try clear hk); (try clear hi); (try clear ho0)
     obtain ⟨Ao28, co28, eo28⟩ := Kd.R_slice HO_304002.out
     (first | subst eo28 | (injection eo28 with f1_ f2_ f3_; have f4_ := f1_.symm; have f5_ := f3_.symm; clear f1_ f2_ f3_; subst f4_; subst f5_))
     obtain ⟨Ao29, co29, eo29, _⟩ := Kd.Q_slice HO_304003.out
     (first | subst eo29 | (injection eo29 with f1_ f2_ f3_; have f4_ := f1_.symm; have f5_ := f3_.symm; clear f1_ f2_ f3_; subst f4_; subst f5_))
     obtain ⟨Ao30, co30, eo30⟩ := Kd.R_slice HO312.out
     (first | subst eo30 | (injection eo30 with f1_ f2_ f3_; have f4_ := f1_.symm; have f5_ := f3_.symm; clear f1_ f2_ f3_; subst f4_; subst f5_))
     refine hK.out _ _ (cz4 BK303.out) (fun hHeld => ?_)
     clear hK K; refine nm_ 33 ?_
     refine on_ (i := 6) (N := some 34) HT_ (fun K hK => ?_)
     refine goes_ Try.func24 (by kernel_rfl) rfl #[.agg #[.int .i64 x304000_1, .int .i64 x304001_1, .slice Ao28 x304002_1.length co28, .slice Ao29 x304003_1.length co29], .int .i64 (wrap64 ((wrap64 (x304000_1 + t306)) - 4)), .slice Ao30 t310.length co30] (by rfl) rfl rfl ar_ ?_
     with_reducible refine (spec_EarHear.calls k1 x304000_1 x304001_1 _ _ x304002_1 _ _ x304003_1 (wrap64 ((wrap64 (x304000_1 + t306)) - 4)) _ _ t310 t313 t314 t315 t318 _ ?side1 ?side2 ?side3 ?side4 ?side5 ?side6 A18.out).mono ?_
     (case side1 => exact kC_ (Kd.R_reads' HO_304002.out).2.2)
     (case side2 => exact (Kd.R_reads' HO_304002.out).2.1)
     (case side3 => exact kC_ (Kd.Q_reads' HO_304003.out).2.2)
     (case side4 => exact (Kd.Q_reads' HO_304003.out).2.1)
     (case side5 => exact kC_ (Kd.R_reads' HO312.out).2.2)
     (case side6 => exact (Kd.R_reads' HO312.out).2.1)
     rintro e w31 ⟨v316, v319, rfl, ho0, ho1, hb⟩
     refine ⟨_, rfl, ?_⟩
     have HO317 := Aside0.mk (Kd.R_lower (Kd.R_new' (Kd.R_new' ho0 (Kd.R_lt (kR_ HO_304002.out))) (Kd.R_lt (kR_ HO312.out))) (keep_size (w := w) (g := g) (row := none) (hkA_ HK.out))); replace HO_304002 := Aside0.mk (Kd.R_elder' (kR_ HO_304002.out) (Kd.R_base ho0) hb); replace HO312 := Aside0.mk (Kd.R_elder' (kR_ HO312.out) (Kd.R_base ho0) hb); have HO320 := Aside0.mk (Kd.Q_lower (Kd.Q_new' ho1 (Kd.Q_lt (by (with_reducible repeat (first | apply Kd.Q_alloc | apply Kd.Q_drewN | apply Kd.Q_drew)); exact HO_304003.out))) (keep_size (w := w) (g := g) (row := none) (hkA_ HK.out))); replace HO_304003 := Aside0.mk (Kd.Q_elder' (by (with_reducible repeat (first | apply Kd.Q_alloc | apply Kd.Q_drewN | apply Kd.Q_drew)); exact HO_304003.out) (Kd.Q_base ho1) hb); replace BK298 := (bbA_ BK298 hb); replace BK303 := (bbA_ BK303 hb); replace HI0 := (ib113_ HI0 hb); replace HK := (kw_ HK hb); replace HB := (bs113_ HB hb); (try clear hb); (try clear hb2); (try clear hk); (try clear hi); (try clear ho0); (try clear ho1)
     obtain ⟨Ao34, co34, eo34⟩ := Kd.R_slice HO317.out
     (first | subst eo34 | (injection eo34 with f1_ f2_ f3_; have f4_ := f1_.symm; have f5_ := f3_.symm; clear f1_ f2_ f3_; subst f4_; subst f5_))
     obtain ⟨Ao36, co36, eo36, _⟩ := Kd.Q_slice HO320.out
     (first | subst eo36 | (injection eo36 with f1_ f2_ f3_; have f4_ := f1_.symm; have f5_ := f3_.symm; clear f1_ f2_ f3_; subst f4_; subst f5_))
     refine hK.out _ _ (cz4 BK303.out) (fun hHeld => ?_)
     clear hK K; refine nm_ 34 ?_
     refine last_ (i := 7) (N := none) #[true, true, true, true, true, true, true, true] rfl rfl (one_of HT_.out (by kernel_rfl)) (by decide) (fun K hK => ?_)
     have hs32 : w31.cell? ⟨gb303, 0, none⟩ = some (.int .i64 x304000_1) := bc_ BK303 0
     have hfs32 := blk_frozen BK303.out 0
     have hns32_0 := NB298_303.out; have hms32_0 := NB303_298.out
     have hs33 : w31.cell? ⟨gb303, 1, none⟩ = some (.int .i64 x304001_1) := bc_ BK303 1
     have hfs33 := blk_frozen BK303.out 1
     have hns33_0 := NB298_303.out; have hms33_0 := NB303_298.out
     have hs35 : w31.cell? ⟨gb303, 2, none⟩ = some (.slice Ao28 x304002_1.length co28) := bc_ BK303 2
     have hfs35 := blk_frozen BK303.out 2
     have hns35_0 := NB298_303.out; have hms35_0 := NB303_298.out
     have hs37 : w31.cell? ⟨gb303, 3, none⟩ = some (.slice Ao29 x304003_1.length co29) := bc_ BK303 3
     have hfs37 := blk_frozen BK303.out 3
     have hns37_0 := NB298_303.out; have hms37_0 := NB303_298.out
     refine skip_ (w1 := ?_) (by rfl) rfl ?_ ?_
     rotate_left
     ·go_simp
      rfl
     refine hK.out _ _ ?_
     clear hK K
     refine done_ (done_of HT_.out (by kernel_rfl)) ?_
     try go_wp2_with (first | ((with_reducible refine gate_callee (f := 54) rfl ?_); refine goesL_ (some 36) rfl rfl Try.func54 (by kernel_rfl) rfl #[.pointer (some ⟨g, 0, none⟩), .int .i64 4] rfl ar_ ?_; (with_reducible refine (spec_l20Rd_pick.calls k1 g s0_0 t309 4 t321 t322 w0 _ ?side1 ?side2 A19.out).mono ?_); (case side1 => exact is113_ HI0.out); (case side2 => exact hb113_ HB.out); rintro e w38 ⟨rfl, hi, hb, hk⟩; refine ⟨_, rfl, ?_⟩; replace HO_304002 := Aside0.mk (Kd.R_mono (Kd.R_keep (IsS113.apart (show IsS113 w0 _ g s0_0 t309 from is113_ HI0.out) (by refine kR_ ?_; exact (rfm_ ((Kd.R_types HO_304002.out BK303.out (by decide))) (fun _ h_ => op1_ h_))) (by decide)) hk (fun _ h => h.2)) (fun _ h => h.1)); replace HO_304003 := Aside0.mk (Kd.Q_mono (Kd.Q_keep (IsS113.apartQ (show IsS113 w0 _ g s0_0 t309 from is113_ HI0.out) (by (with_reducible repeat (first | apply Kd.Q_alloc | apply Kd.Q_drewN | apply Kd.Q_drew)); exact (Kd.Q_mono (Kd.Q_far (p := ⟨gb303, 3, none⟩) (Kd.Q_far (p := ⟨gb303, 2, none⟩) (Kd.Q_far (p := ⟨gb303, 1, none⟩) (Kd.Q_far (p := ⟨gb303, 0, none⟩) (Kd.Q_types HO_304003.out BK303.out (by decide)) (fun _ hk => hk.2) (.int .i64 t313)) (fun _ hk => hk.2) (.int .i64 t314)) (fun _ hk => hk.2) (.slice Ao34 t315.length co34)) (fun _ hk => hk.2) (.slice Ao36 t318.length co36)) (fun _ h_ => op1_ h_))) (by decide)) hk (fun _ h => h.2)) (fun _ h => h.1)); replace BK298 := Aside0.mk (KeepBut.blk hk (g' := gb298) (o := .cells #[.int .i64 0, .int .i64 0, .slice none 0 0, .slice none 0 0] 48 (0, 0)) (by exact kf_ BK298.out) NB298_0.out (by simp)); replace HO312 := Aside0.mk (Kd.R_mono (Kd.R_keep (IsS113.apart (show IsS113 w0 _ g s0_0 t309 from is113_ HI0.out) (by refine kR_ ?_; exact (rfm_ ((Kd.R_types HO312.out BK303.out (by decide))) (fun _ h_ => op1_ h_))) (by decide)) hk (fun _ h => h.2)) (fun _ h => h.1)); replace HO317 := Aside0.mk (Kd.R_mono (Kd.R_keep (IsS113.apart (show IsS113 w0 _ g s0_0 t309 from is113_ HI0.out) (by refine kR_ ?_; exact (rfm_ ((Kd.R_types HO317.out BK303.out (by decide))) (fun _ h_ => op1_ h_))) (by decide)) hk (fun _ h => h.2)) (fun _ h => h.1)); replace HO320 := Aside0.mk (Kd.Q_mono (Kd.Q_keep (IsS113.apartQ (show IsS113 w0 _ g s0_0 t309 from is113_ HI0.out) (by (with_reducible repeat (first | apply Kd.Q_alloc | apply Kd.Q_drewN | apply Kd.Q_drew)); exact (Kd.Q_mono (Kd.Q_far (p := ⟨gb303, 3, none⟩) (Kd.Q_far (p := ⟨gb303, 2, none⟩) (Kd.Q_far (p := ⟨gb303, 1, none⟩) (Kd.Q_far (p := ⟨gb303, 0, none⟩) (Kd.Q_types HO320.out BK303.out (by decide)) (fun _ hk => hk.2) (.int .i64 t313)) (fun _ hk => hk.2) (.int .i64 t314)) (fun _ hk => hk.2) (.slice Ao34 t315.length co34)) (fun _ hk => hk.2) (.slice Ao36 t318.length co36)) (fun _ h_ => op1_ h_))) (by decide)) hk (fun _ h => h.2)) (fun _ h => h.1)); replace BK303 := Aside0.mk (KeepBut.blk hk (g' := gb303) (o := .cells #[.int .i64 t313, .int .i64 t314, .slice Ao34 t315.length co34, .slice Ao36 t318.length co36] 48 (0, 0)) (by refine kb_ ?_; refine pz4 (cs := #[.int .i64 x304000_1, .int .i64 x304001_1, .slice Ao28 x304002_1.length co28, .slice Ao29 x304003_1.length co29]) ?_; refine kb_ ?_; exact BK303.out) NB303_0.out (by simp)); replace HK := (kk_ HK hk); replace HB := Aside0.mk (hb); replace HI0 := Aside0.mk (hi); (try clear hb); (try clear hb2); (try clear hk); (try clear hi)))
     replace HO_304002 := Aside0.mk (Kd.R_drew HO_304002.out); replace HO_304003 := Aside0.mk (Kd.Q_drew HO_304003.out); replace HO312 := Aside0.mk (Kd.R_drew HO312.out); replace HO317 := Aside0.mk (Kd.R_drew HO317.out); replace HO320 := Aside0.mk (Kd.Q_drew HO320.out); replace BK298 := Aside0.mk (blk_drew BK298.out); replace BK303 := Aside0.mk (blk_drew BK303.out); replace HI0 := Aside0.mk (IsS113.drew HI0.out); replace HK := Aside0.mk (keep_drew HK.out); replace HB := (bd_ HB)
     refine start_ (n := 8) (S := fun w' => w'.cell? ⟨gb303, 0, none⟩ = some (.int .i64 t313) ∧ w'.cell? ⟨gb303, 1, none⟩ = some (.int .i64 t314) ∧ w'.cell? ⟨gb303, 2, none⟩ = some (.slice Ao34 t315.length co34) ∧ w'.cell? ⟨gb303, 3, none⟩ = some (.slice Ao36 t318.length co36)) (ds := [7]) #[false, false, false, false, false, false, false, false] (by kernel_rfl) rfl rfl (cz4 BK303.out) (fun hHeld => ?_); refine with_tabW spec_l20Ear.tab8 spec_l20Ear.bits8 (fun HT_ HW_ => ?_)
     generalize w38.drew = w39 at HO_304002 HO_304003 HO312 HO317 HO320 BK298 BK303 HI0 HK HB hHeld ⊢
     refine pu_ (i := 1) (N := some 40) HT_ ?_; refine tk_ (i := 0) (N := some 39) HT_ HW_ hHeld ?_
     refine on_ (i := 2) (N := some 41) HT_ (fun K hK => ?_)
     refine goes_ Try.func54 (by kernel_rfl) rfl #[.pointer (some ⟨g, 0, none⟩), .int .i64 5] (by rfl) rfl rfl ar_ ?_
     with_reducible refine (spec_l20Rd_pick.calls k1 g s0_0 t322 5 t323 t324 w0 _ ?side1 ?side2 A21.out).mono ?_
     (case side1 => exact is113_ HI0.out)
     (case side2 => exact hb113_ HB.out)
     rintro e w40 ⟨rfl, hi, hb, hk⟩
     refine ⟨_, rfl, ?_⟩
     replace HO_304002 := (rk113_ HI0 HO_304002 hk); replace HO_304003 := Aside0.mk (Kd.Q_mono (Kd.Q_keep (IsS113.apartQ (show IsS113 w0 _ g s0_0 t322 from is113_ HI0.out) (by (with_reducible repeat (first | apply Kd.Q_alloc | apply Kd.Q_drewN | apply Kd.Q_drew)); exact HO_304003.out) (by decide)) hk (fun _ h => h.2)) (fun _ h => h.1)); replace BK298 := (bkA_ BK298 hk NB298_0); replace BK303 := (bkA_ BK303 hk NB303_0); replace HO312 := (rk113_ HI0 HO312 hk); replace HO317 := (rk113_ HI0 HO317 hk); replace HO320 := Aside0.mk (Kd.Q_mono (Kd.Q_keep (IsS113.apartQ (show IsS113 w0 _ g s0_0 t322 from is113_ HI0.out) (by (with_reducible repeat (first | apply Kd.Q_alloc | apply Kd.Q_drewN | apply Kd.Q_drew)); exact HO320.out) (by decide)) hk (fun _ h => h.2)) (fun _ h => h.1)); replace HK := (kk_ HK hk); replace HB := Aside0.mk (hb); replace HI0 := Aside0.mk (hi); (try clear hb); (try clear hb2); (try clear hk); (try clear hi)
     refine hK.out _ _ (cz4 BK303.out) (fun hHeld => ?_)
     clear hK K; refine nm_ 41 ?_
     refine on_ (i := 3) (N := some 42) HT_ (fun K hK => ?_)
     refine goes_ Try.func40 (by kernel_rfl) rfl #[.agg #[.int .i64 t313, .int .i64 t314, .slice Ao34 t315.length co34, .slice Ao36 t318.length co36], .int .i64 t323] (by rfl) rfl rfl ar_ ?_
     with_reducible refine (spec_EarRead.calls k1 t313 t314 _ _ t315 _ _ t318 t323 t325 t326 t327 t330 t333 _ ?side1 ?side2 ?side3 ?side4 A22.out).mono ?_
     (case side1 => exact kC_ (Kd.R_reads' HO317.out).2.2)
     (case side2 => exact (Kd.R_reads' HO317.out).2.1)
     (case side3 => exact kC_ (Kd.Q_reads' HO320.out).2.2)
     (case side4 => exact (Kd.Q_reads' HO320.out).2.1)
     rintro e w41 ⟨v328, v331, v334, rfl, ho0, ho1, ho2, hb⟩
     refine ⟨_, rfl, ?_⟩
     have HO329 := Aside0.mk (Kd.R_lower (Kd.R_new' (Kd.R_new' (Kd.R_new' ho0 (Kd.R_lt (kR_ HO_304002.out))) (Kd.R_lt (kR_ HO312.out))) (Kd.R_lt (kR_ HO317.out))) (keep_size (w := w) (g := g) (row := none) (hkA_ HK.out))); have HO332 := Aside0.mk (Kd.R_lower (Kd.R_new' (Kd.R_new' ho1 (Kd.Q_lt (by (with_reducible repeat (first | apply Kd.Q_alloc | apply Kd.Q_drewN | apply Kd.Q_drew)); exact HO_304003.out))) (Kd.Q_lt (by (with_reducible repeat (first | apply Kd.Q_alloc | apply Kd.Q_drewN | apply Kd.Q_drew)); exact HO320.out))) (keep_size (w := w) (g := g) (row := none) (hkA_ HK.out))); replace HO_304003 := Aside0.mk (Kd.Q_elder' (by (with_reducible repeat (first | apply Kd.Q_alloc | apply Kd.Q_drewN | apply Kd.Q_drew)); exact HO_304003.out) (Kd.R_base ho1) hb); replace HO320 := Aside0.mk (Kd.Q_elder' (by (with_reducible repeat (first | apply Kd.Q_alloc | apply Kd.Q_drewN | apply Kd.Q_drew)); exact HO320.out) (Kd.R_base ho1) hb); have HO335 := Aside0.mk (Kd.R_lower (Kd.R_new' (Kd.R_new' (Kd.R_new' ho2 (Kd.R_lt (kR_ HO_304002.out))) (Kd.R_lt (kR_ HO312.out))) (Kd.R_lt (kR_ HO317.out))) (keep_size (w := w) (g := g) (row := none) (hkA_ HK.out))); replace HO_304002 := Aside0.mk (Kd.R_mono (Kd.R_told (Kd.R_told (Kd.R_old (kR_ HO_304002.out) hb) (Kd.R_base ho0)) (Kd.R_base ho2)) (fun _ h_ => op1_ h_)); replace HO312 := Aside0.mk (Kd.R_mono (Kd.R_told (Kd.R_told (Kd.R_old (kR_ HO312.out) hb) (Kd.R_base ho0)) (Kd.R_base ho2)) (fun _ h_ => op1_ h_)); replace HO317 := Aside0.mk (Kd.R_mono (Kd.R_told (Kd.R_told (Kd.R_old (kR_ HO317.out) hb) (Kd.R_base ho0)) (Kd.R_base ho2)) (fun _ h_ => op1_ h_)); replace BK298 := (bbA_ BK298 hb); replace BK303 := (bbA_ BK303 hb); replace HI0 := (ib113_ HI0 hb); replace HK := (kw_ HK hb); replace HB := (bs113_ HB hb); (try clear hb); (try clear hb2); (try clear hk); (try clear hi); (try clear ho0); (try clear ho1); (try clear ho2)
     obtain ⟨Ao44, co44, eo44⟩ := Kd.R_slice HO329.out
     (first | subst eo44 | (injection eo44 with f1_ f2_ f3_; have f4_ := f1_.symm; have f5_ := f3_.symm; clear f1_ f2_ f3_; subst f4_; subst f5_))
     obtain ⟨Ao46, co46, eo46⟩ := Kd.R_slice HO332.out
     (first | subst eo46 | (injection eo46 with f1_ f2_ f3_; have f4_ := f1_.symm; have f5_ := f3_.symm; clear f1_ f2_ f3_; subst f4_; subst f5_))
     refine hK.out _ _ (cz4 BK303.out) (fun hHeld => ?_)
     clear hK K; refine nm_ 42 ?_; refine pu_ (i := 4) (N := some 38) HT_ ?_; refine pu_ (i := 5) (N := some 43) HT_ ?_; refine pu_ (i := 6) (N := some 44) HT_ ?_
     refine last_ (i := 7) (N := none) #[true, true, true, true, true, true, true, true] rfl rfl (one_of HT_.out (by kernel_rfl)) (by decide) (fun K hK => ?_)
     have hs42 : w41.cell? ⟨gb303, 0, none⟩ = some (.int .i64 t313) := bc_ BK303 0
     have hfs42 := blk_frozen BK303.out 0
     have hns42_0 := NB298_303.out; have hms42_0 := NB303_298.out
     have hs43 : w41.cell? ⟨gb303, 1, none⟩ = some (.int .i64 t314) := bc_ BK303 1
     have hfs43 := blk_frozen BK303.out 1
     have hns43_0 := NB298_303.out; have hms43_0 := NB303_298.out
     have hs45 : w41.cell? ⟨gb303, 2, none⟩ = some (.slice Ao34 t315.length co34) := bc_ BK303 2
     have hfs45 := blk_frozen BK303.out 2
     have hns45_0 := NB298_303.out; have hms45_0 := NB303_298.out
     have hs47 : w41.cell? ⟨gb303, 3, none⟩ = some (.slice Ao36 t318.length co36) := bc_ BK303 3
     have hfs47 := blk_frozen BK303.out 3
     have hns47_0 := NB298_303.out; have hms47_0 := NB303_298.out
     refine skip_ (w1 := ?_) (by rfl) rfl ?_ ?_
     rotate_left
     ·go_simp
      rfl
     refine hK.out _ _ ?_
     clear hK K
     refine done_ (done_of HT_.out (by kernel_rfl)) ?_
     try go_wp2
     go_roundg k1
     case measure => have := HK1.out; omega
     case rel => exact ⟨(wrap64 (x6_1 - 1)), (t324), (t325), (t326), (t327), (t330), (.slice Ao44 t327.length co44), (.slice Ao46 t330.length co46), (by first | rfl | (simp; done) | (simp [*]; done)), H', ⟨by have := HK1.out; omega⟩, ⟨by refine kR_ ?_; exact rfm_ ((Kd.R_types HO329.out BK303.out (by decide))) (fun _ hk => trivial)⟩, ⟨Kd.Q_of_R (by refine kR_ ?_; exact rfm_ ((Kd.R_types HO332.out BK303.out (by decide))) (fun _ hk => trivial))⟩, ⟨by exact kf_ BK298.out⟩, ⟨by refine kb_ ?_; refine pz4 (cs := #[.int .i64 t313, .int .i64 t314, .slice Ao34 t315.length co34, .slice Ao36 t318.length co36]) ?_; refine kb_ ?_; exact BK303.out⟩, ⟨is113_ HI0.out⟩, ⟨hkA_ HK.out⟩, ⟨hb113_ HB.out⟩⟩
    ·rw [if_neg c20] at H
     have c20b0 : (t321 == 0) = false := beq_eq_false_iff_ne.mpr c20
     have c20b1 : (t321 != 0) = true := bne_iff_ne.mpr c20
     have H' := Aside0.mk H
     clear H
     try go_wp2
     replace HO_304002 := Aside0.mk (Kd.R_drew HO_304002.out); replace HO_304003 := Aside0.mk (Kd.Q_drew HO_304003.out); replace BK298 := Aside0.mk (blk_drew BK298.out); replace BK303 := Aside0.mk (blk_drew BK303.out); replace HI0 := Aside0.mk (IsS113.drew HI0.out); replace HK := Aside0.mk (keep_drew HK.out); replace HB := (bd_ HB)
     refine start_ (n := 7) (S := fun w' => w'.cell? ⟨gb303, 0, none⟩ = some (.int .i64 x304000_1) ∧ w'.cell? ⟨gb303, 1, none⟩ = some (.int .i64 x304001_1) ∧ w'.cell? ⟨gb303, 2, none⟩ = some (u304002) ∧ w'.cell? ⟨gb303, 3, none⟩ = some (u304003)) (ds := []) #[false, false, false, false, false, false, false] (by kernel_rfl) rfl rfl (cz4 BK303.out) (fun hHeld => ?_)
     generalize wr.drew = w48 at HO_304002 HO_304003 BK298 BK303 HI0 HK HB hHeld ⊢
     refine pure_ (i := 0) (N := some 22) (v := ?_) (a' := ?_) #[true, false, false, false, false, false, false] rfl rfl (by kernel_rfl) (fun _ _ _ h => h) (Or.inl ⟨by rfl, ?_⟩) ?_ ?_
     rotate_left
     ·intro w'
      go_simp
      with_reducible rfl
     rotate_left
     ·simp only [Act.put, List.setIfInBounds_toArray, List.set_cons_zero, List.set_cons_succ, i64_w, i32_w]
      rfl
     refine pure_ (i := 2) (N := some 24) (v := ?_) (a' := ?_) #[true, false, true, false, false, false, false] rfl rfl (by kernel_rfl) (fun _ _ _ h => h) (Or.inl ⟨by rfl, ?_⟩) ?_ ?_
     rotate_left
     ·intro w'
      go_simp
      with_reducible rfl
     rotate_left
     ·simp only [Act.put, List.setIfInBounds_toArray, List.set_cons_zero, List.set_cons_succ, i64_w, i32_w]
      rfl
     refine take_ (i := 1) (N := some 23) (v := ?_) (a' := ?_) #[true, true, true, false, false, false, false] rfl rfl (by kernel_rfl) (fun _ _ _ h => h) (Or.inl ⟨by rfl, ?_⟩) hHeld ?_ ?_
     rotate_left
     ·rintro w' ⟨s0, s1, s2, s3⟩
      go_simp
      with_reducible rfl
     rotate_left
     ·simp only [Act.put, List.setIfInBounds_toArray, List.set_cons_zero, List.set_cons_succ, i64_w, i32_w]
      rfl
     refine one_ (i := 3) (N := some 25) #[true, true, true, true, false, false, false] rfl rfl (by kernel_rfl) (by decide) (fun K hK => ?_)
     refine goes_ Try.func54 (by kernel_rfl) rfl #[.pointer (some ⟨g, 0, none⟩), .int .i64 14] (by rfl) rfl rfl ar_ ?_
     with_reducible refine (spec_l20Rd_pick.calls k1 g s0_0 x1001_1 14 t306 t307 w0 _ ?side1 ?side2 A15.out).mono ?_
     (case side1 => exact is113_ HI0.out)
     (case side2 => exact hb113_ HB.out)
     rintro e w49 ⟨rfl, hi, hb, hk⟩
     refine ⟨_, rfl, ?_⟩
     replace HO_304002 := (rk113_ HI0 HO_304002 hk); replace HO_304003 := Aside0.mk (Kd.Q_mono (Kd.Q_keep (IsS113.apartQ (show IsS113 w0 _ g s0_0 x1001_1 from is113_ HI0.out) (by (with_reducible repeat (first | apply Kd.Q_alloc | apply Kd.Q_drewN | apply Kd.Q_drew)); exact HO_304003.out) (by decide)) hk (fun _ h => h.2)) (fun _ h => h.1)); replace BK298 := (bkA_ BK298 hk NB298_0); replace BK303 := (bkA_ BK303 hk NB303_0); replace HK := (kk_ HK hk); replace HB := Aside0.mk (hb); replace HI0 := Aside0.mk (hi); (try clear hb); (try clear hb2); (try clear hk); (try clear hi)
     refine hK.out _ _ (cz4 BK303.out) (fun hHeld => ?_)
     clear hK K; refine nm_ 25 ?_
     refine pure_ (i := 4) (N := some 26) (v := ?_) (a' := ?_) #[true, true, true, true, true, false, false] rfl rfl (by kernel_rfl) (fun _ _ _ h => h) (Or.inl ⟨by rfl, ?_⟩) ?_ ?_
     rotate_left
     ·intro w'
      go_simp
      with_reducible rfl
     rotate_left
     ·simp only [Act.put, List.setIfInBounds_toArray, List.set_cons_zero, List.set_cons_succ, i64_w, i32_w]
      rfl
     refine pure_ (i := 5) (N := some 27) (v := ?_) (a' := ?_) #[true, true, true, true, true, true, false] rfl rfl (by kernel_rfl) (fun _ _ _ h => h) (Or.inl ⟨by rfl, ?_⟩) ?_ ?_
     rotate_left
     ·intro w'
      go_simp
      with_reducible rfl
     rotate_left
     ·simp only [Act.put, List.setIfInBounds_toArray, List.set_cons_zero, List.set_cons_succ, i64_w, i32_w]
      rfl
     refine pure_ (i := 6) (N := some 7) (v := ?_) (a' := ?_) #[true, true, true, true, true, true, true] rfl rfl (by kernel_rfl) (fun _ _ _ h => h) (Or.inl ⟨by rfl, ?_⟩) ?_ ?_
     rotate_left
     ·intro w'
      go_simp
      with_reducible rfl
     rotate_left
     ·simp only [Act.put, List.setIfInBounds_toArray, List.set_cons_zero, List.set_cons_succ, i64_w, i32_w]
      rfl
     refine done_ (by kernel_rfl) ?_
     try go_wp2
     replace HO_304002 := Aside0.mk (Kd.R_drew HO_304002.out); replace HO_304003 := Aside0.mk (Kd.Q_drew HO_304003.out); replace BK298 := Aside0.mk (blk_drew BK298.out); replace BK303 := Aside0.mk (blk_drew BK303.out); replace HI0 := Aside0.mk (IsS113.drew HI0.out); replace HK := Aside0.mk (keep_drew HK.out); replace HB := (bd_ HB)
     refine start_ (n := 8) (S := fun w' => w'.cell? ⟨gb303, 0, none⟩ = some (.int .i64 x304000_1) ∧ w'.cell? ⟨gb303, 1, none⟩ = some (.int .i64 x304001_1) ∧ w'.cell? ⟨gb303, 2, none⟩ = some (u304002) ∧ w'.cell? ⟨gb303, 3, none⟩ = some (u304003)) (ds := [7]) #[false, false, false, false, false, false, false, false] (by kernel_rfl) rfl rfl (cz4 BK303.out) (fun hHeld => ?_); refine with_tabW spec_l20Ear.tab6 spec_l20Ear.bits6 (fun HT_ HW_ => ?_)
     generalize w49.drew = w50 at HO_304002 HO_304003 BK298 BK303 HI0 HK HB hHeld ⊢
     refine pu_ (i := 1) (N := some 29) HT_ ?_; refine pu_ (i := 2) (N := some 30) HT_ ?_; refine pu_ (i := 3) (N := some 31) HT_ ?_; refine tk_ (i := 0) (N := some 28) HT_ HW_ hHeld ?_
     refine on_ (i := 4) (N := some 32) HT_ (fun K hK => ?_)
     refine goes_ Try.func54 (by kernel_rfl) rfl #[.pointer (some ⟨g, 0, none⟩), .int .i64 5] (by rfl) rfl rfl ar_ ?_
     with_reducible refine (spec_l20Rd_pick.calls k1 g s0_0 t307 5 t308 t309 w0 _ ?side1 ?side2 A16.out).mono ?_
     (case side1 => exact is113_ HI0.out)
     (case side2 => exact hb113_ HB.out)
     rintro e w51 ⟨rfl, hi, hb, hk⟩
     refine ⟨_, rfl, ?_⟩
     replace HO_304002 := (rk113_ HI0 HO_304002 hk); replace HO_304003 := Aside0.mk (Kd.Q_mono (Kd.Q_keep (IsS113.apartQ (show IsS113 w0 _ g s0_0 t307 from is113_ HI0.out) (by (with_reducible repeat (first | apply Kd.Q_alloc | apply Kd.Q_drewN | apply Kd.Q_drew)); exact HO_304003.out) (by decide)) hk (fun _ h => h.2)) (fun _ h => h.1)); replace BK298 := (bkA_ BK298 hk NB298_0); replace BK303 := (bkA_ BK303 hk NB303_0); replace HK := (kk_ HK hk); replace HB := Aside0.mk (hb); replace HI0 := Aside0.mk (hi); (try clear hb); (try clear hb2); (try clear hk); (try clear hi)
     refine hK.out _ _ (cz4 BK303.out) (fun hHeld => ?_)
     clear hK K; refine nm_ 32 ?_
     refine on_ (i := 5) (N := some 33) HT_ (fun K hK => ?_)
     refine goes_ Try.func76 (by kernel_rfl) rfl #[.int .i64 (wrap64 ((wrap64 (x304000_1 + t306)) - 4)), .int .i64 t308] (by rfl) rfl rfl ar_ ?_
     with_reducible refine (spec_l20Heard.calls k1 (wrap64 ((wrap64 (x304000_1 + t306)) - 4)) t308 t310 _ A17.out).mono ?_
     rintro e w52 ⟨v311, rfl, ho0, hb⟩
     refine ⟨_, rfl, ?_⟩
     replace HO_304003 := Aside0.mk (Kd.Q_below (by (with_reducible repeat (first | apply Kd.Q_alloc | apply Kd.Q_drewN | apply Kd.Q_drew)); exact HO_304003.out) hb); have HO312 := Aside0.mk (Kd.R_lower (Kd.R_new' ho0 (Kd.R_lt (kR_ HO_304002.out))) (keep_size (w := w) (g := g) (row := none) (hkA_ HK.out))); replace HO_304002 := Aside0.mk (Kd.R_elder' (kR_ HO_304002.out) (Kd.R_base ho0) hb); replace BK298 := (bbA_ BK298 hb); replace BK303 := (bbA_ BK303 hb); replace HI0 := (ib113_ HI0 hb); replace HK := (kw_ HK hb); replace HB := (bs113_ HB hb); (try clear hb); (try clear hb2); (try clear hk); (try clear hi); (try clear ho0)
     obtain ⟨Ao53, co53, eo53⟩ := Kd.R_slice HO_304002.out
     (first | subst eo53 | (injection eo53 with f1_ f2_ f3_; have f4_ := f1_.symm; have f5_ := f3_.symm; clear f1_ f2_ f3_; subst f4_; subst f5_))
     obtain ⟨Ao54, co54, eo54, _⟩ := Kd.Q_slice HO_304003.out
     (first | subst eo54 | (injection eo54 with f1_ f2_ f3_; have f4_ := f1_.symm; have f5_ := f3_.symm; clear f1_ f2_ f3_; subst f4_; subst f5_))
     obtain ⟨Ao55, co55, eo55⟩ := Kd.R_slice HO312.out
     (first | subst eo55 | (injection eo55 with f1_ f2_ f3_; have f4_ := f1_.symm; have f5_ := f3_.symm; clear f1_ f2_ f3_; subst f4_; subst f5_))
     refine hK.out _ _ (cz4 BK303.out) (fun hHeld => ?_)
     clear hK K; refine nm_ 33 ?_
     refine on_ (i := 6) (N := some 34) HT_ (fun K hK => ?_)
     refine goes_ Try.func24 (by kernel_rfl) rfl #[.agg #[.int .i64 x304000_1, .int .i64 x304001_1, .slice Ao53 x304002_1.length co53, .slice Ao54 x304003_1.length co54], .int .i64 (wrap64 ((wrap64 (x304000_1 + t306)) - 4)), .slice Ao55 t310.length co55] (by rfl) rfl rfl ar_ ?_
     with_reducible refine (spec_EarHear.calls k1 x304000_1 x304001_1 _ _ x304002_1 _ _ x304003_1 (wrap64 ((wrap64 (x304000_1 + t306)) - 4)) _ _ t310 t313 t314 t315 t318 _ ?side1 ?side2 ?side3 ?side4 ?side5 ?side6 A18.out).mono ?_
     (case side1 => exact kC_ (Kd.R_reads' HO_304002.out).2.2)
     (case side2 => exact (Kd.R_reads' HO_304002.out).2.1)
     (case side3 => exact kC_ (Kd.Q_reads' HO_304003.out).2.2)
     (case side4 => exact (Kd.Q_reads' HO_304003.out).2.1)
     (case side5 => exact kC_ (Kd.R_reads' HO312.out).2.2)
     (case side6 => exact (Kd.R_reads' HO312.out).2.1)
     rintro e w56 ⟨v316, v319, rfl, ho0, ho1, hb⟩
     refine ⟨_, rfl, ?_⟩
     have HO317 := Aside0.mk (Kd.R_lower (Kd.R_new' (Kd.R_new' ho0 (Kd.R_lt (kR_ HO_304002.out))) (Kd.R_lt (kR_ HO312.out))) (keep_size (w := w) (g := g) (row := none) (hkA_ HK.out))); replace HO_304002 := Aside0.mk (Kd.R_elder' (kR_ HO_304002.out) (Kd.R_base ho0) hb); replace HO312 := Aside0.mk (Kd.R_elder' (kR_ HO312.out) (Kd.R_base ho0) hb); have HO320 := Aside0.mk (Kd.Q_lower (Kd.Q_new' ho1 (Kd.Q_lt (by (with_reducible repeat (first | apply Kd.Q_alloc | apply Kd.Q_drewN | apply Kd.Q_drew)); exact HO_304003.out))) (keep_size (w := w) (g := g) (row := none) (hkA_ HK.out))); replace HO_304003 := Aside0.mk (Kd.Q_elder' (by (with_reducible repeat (first | apply Kd.Q_alloc | apply Kd.Q_drewN | apply Kd.Q_drew)); exact HO_304003.out) (Kd.Q_base ho1) hb); replace BK298 := (bbA_ BK298 hb); replace BK303 := (bbA_ BK303 hb); replace HI0 := (ib113_ HI0 hb); replace HK := (kw_ HK hb); replace HB := (bs113_ HB hb); (try clear hb); (try clear hb2); (try clear hk); (try clear hi); (try clear ho0); (try clear ho1)
     obtain ⟨Ao59, co59, eo59⟩ := Kd.R_slice HO317.out
     (first | subst eo59 | (injection eo59 with f1_ f2_ f3_; have f4_ := f1_.symm; have f5_ := f3_.symm; clear f1_ f2_ f3_; subst f4_; subst f5_))
     obtain ⟨Ao61, co61, eo61, _⟩ := Kd.Q_slice HO320.out
     (first | subst eo61 | (injection eo61 with f1_ f2_ f3_; have f4_ := f1_.symm; have f5_ := f3_.symm; clear f1_ f2_ f3_; subst f4_; subst f5_))
     refine hK.out _ _ (cz4 BK303.out) (fun hHeld => ?_)
     clear hK K; refine nm_ 34 ?_
     refine last_ (i := 7) (N := none) #[true, true, true, true, true, true, true, true] rfl rfl (one_of HT_.out (by kernel_rfl)) (by decide) (fun K hK => ?_)
     have hs57 : w56.cell? ⟨gb303, 0, none⟩ = some (.int .i64 x304000_1) := bc_ BK303 0
     have hfs57 := blk_frozen BK303.out 0
     have hns57_0 := NB298_303.out; have hms57_0 := NB303_298.out
     have hs58 : w56.cell? ⟨gb303, 1, none⟩ = some (.int .i64 x304001_1) := bc_ BK303 1
     have hfs58 := blk_frozen BK303.out 1
     have hns58_0 := NB298_303.out; have hms58_0 := NB303_298.out
     have hs60 : w56.cell? ⟨gb303, 2, none⟩ = some (.slice Ao53 x304002_1.length co53) := bc_ BK303 2
     have hfs60 := blk_frozen BK303.out 2
     have hns60_0 := NB298_303.out; have hms60_0 := NB303_298.out
     have hs62 : w56.cell? ⟨gb303, 3, none⟩ = some (.slice Ao54 x304003_1.length co54) := bc_ BK303 3
     have hfs62 := blk_frozen BK303.out 3
     have hns62_0 := NB298_303.out; have hms62_0 := NB303_298.out
     refine skip_ (w1 := ?_) (by rfl) rfl ?_ ?_
     rotate_left
     ·go_simp
      rfl
     refine hK.out _ _ ?_
     clear hK K
     refine done_ (done_of HT_.out (by kernel_rfl)) ?_
     try go_wp2_with (first | ((with_reducible refine gate_callee (f := 54) rfl ?_); refine goesL_ (some 36) rfl rfl Try.func54 (by kernel_rfl) rfl #[.pointer (some ⟨g, 0, none⟩), .int .i64 4] rfl ar_ ?_; (with_reducible refine (spec_l20Rd_pick.calls k1 g s0_0 t309 4 t321 t322 w0 _ ?side1 ?side2 A19.out).mono ?_); (case side1 => exact is113_ HI0.out); (case side2 => exact hb113_ HB.out); rintro e w63 ⟨rfl, hi, hb, hk⟩; refine ⟨_, rfl, ?_⟩; replace HO_304002 := Aside0.mk (Kd.R_mono (Kd.R_keep (IsS113.apart (show IsS113 w0 _ g s0_0 t309 from is113_ HI0.out) (by refine kR_ ?_; exact (rfm_ ((Kd.R_types HO_304002.out BK303.out (by decide))) (fun _ h_ => op1_ h_))) (by decide)) hk (fun _ h => h.2)) (fun _ h => h.1)); replace HO_304003 := Aside0.mk (Kd.Q_mono (Kd.Q_keep (IsS113.apartQ (show IsS113 w0 _ g s0_0 t309 from is113_ HI0.out) (by (with_reducible repeat (first | apply Kd.Q_alloc | apply Kd.Q_drewN | apply Kd.Q_drew)); exact (Kd.Q_mono (Kd.Q_far (p := ⟨gb303, 3, none⟩) (Kd.Q_far (p := ⟨gb303, 2, none⟩) (Kd.Q_far (p := ⟨gb303, 1, none⟩) (Kd.Q_far (p := ⟨gb303, 0, none⟩) (Kd.Q_types HO_304003.out BK303.out (by decide)) (fun _ hk => hk.2) (.int .i64 t313)) (fun _ hk => hk.2) (.int .i64 t314)) (fun _ hk => hk.2) (.slice Ao59 t315.length co59)) (fun _ hk => hk.2) (.slice Ao61 t318.length co61)) (fun _ h_ => op1_ h_))) (by decide)) hk (fun _ h => h.2)) (fun _ h => h.1)); replace BK298 := Aside0.mk (KeepBut.blk hk (g' := gb298) (o := .cells #[.int .i64 0, .int .i64 0, .slice none 0 0, .slice none 0 0] 48 (0, 0)) (by exact kf_ BK298.out) NB298_0.out (by simp)); replace HO312 := Aside0.mk (Kd.R_mono (Kd.R_keep (IsS113.apart (show IsS113 w0 _ g s0_0 t309 from is113_ HI0.out) (by refine kR_ ?_; exact (rfm_ ((Kd.R_types HO312.out BK303.out (by decide))) (fun _ h_ => op1_ h_))) (by decide)) hk (fun _ h => h.2)) (fun _ h => h.1)); replace HO317 := Aside0.mk (Kd.R_mono (Kd.R_keep (IsS113.apart (show IsS113 w0 _ g s0_0 t309 from is113_ HI0.out) (by refine kR_ ?_; exact (rfm_ ((Kd.R_types HO317.out BK303.out (by decide))) (fun _ h_ => op1_ h_))) (by decide)) hk (fun _ h => h.2)) (fun _ h => h.1)); replace HO320 := Aside0.mk (Kd.Q_mono (Kd.Q_keep (IsS113.apartQ (show IsS113 w0 _ g s0_0 t309 from is113_ HI0.out) (by (with_reducible repeat (first | apply Kd.Q_alloc | apply Kd.Q_drewN | apply Kd.Q_drew)); exact (Kd.Q_mono (Kd.Q_far (p := ⟨gb303, 3, none⟩) (Kd.Q_far (p := ⟨gb303, 2, none⟩) (Kd.Q_far (p := ⟨gb303, 1, none⟩) (Kd.Q_far (p := ⟨gb303, 0, none⟩) (Kd.Q_types HO320.out BK303.out (by decide)) (fun _ hk => hk.2) (.int .i64 t313)) (fun _ hk => hk.2) (.int .i64 t314)) (fun _ hk => hk.2) (.slice Ao59 t315.length co59)) (fun _ hk => hk.2) (.slice Ao61 t318.length co61)) (fun _ h_ => op1_ h_))) (by decide)) hk (fun _ h => h.2)) (fun _ h => h.1)); replace BK303 := Aside0.mk (KeepBut.blk hk (g' := gb303) (o := .cells #[.int .i64 t313, .int .i64 t314, .slice Ao59 t315.length co59, .slice Ao61 t318.length co61] 48 (0, 0)) (by refine kb_ ?_; refine pz4 (cs := #[.int .i64 x304000_1, .int .i64 x304001_1, .slice Ao53 x304002_1.length co53, .slice Ao54 x304003_1.length co54]) ?_; refine kb_ ?_; exact BK303.out) NB303_0.out (by simp)); replace HK := (kk_ HK hk); replace HB := Aside0.mk (hb); replace HI0 := Aside0.mk (hi); (try clear hb); (try clear hb2); (try clear hk); (try clear hi)))
     go_roundg k1
     case measure => have := HK1.out; omega
     case rel => exact ⟨(wrap64 (x6_1 - 1)), (t322), (t313), (t314), (t315), (t318), (.slice Ao59 t315.length co59), (.slice Ao61 t318.length co61), (by first | rfl | (simp; done) | (simp [*]; done)), H', ⟨by have := HK1.out; omega⟩, ⟨by refine kR_ ?_; exact Kd.R_mono HO317.out (fun _ hk => trivial)⟩, ⟨by (with_reducible repeat (first | apply Kd.Q_alloc | apply Kd.Q_drewN | apply Kd.Q_drew)); exact Kd.Q_mono HO320.out (fun _ hk => trivial)⟩, ⟨by refine kb_ ?_; exact BK298.out⟩, ⟨by refine kb_ ?_; exact BK303.out⟩, ⟨is113_ HI0.out⟩, ⟨hkA_ HK.out⟩, ⟨hb113_ HB.out⟩⟩
   ·rw [if_neg c14] at H
    have c14b0 : decide (0 < x6_1) = false := decide_eq_false c14
    clear c14
    replace H := Option.bind_eq_some_iff.mp H
    obtain ⟨⟨t336, t337⟩, A640, H⟩ := H
    (try dsimp only at H)
    have A64 := Aside0.mk A640; clear A640
    by_cases c65 : t336 = true
    ·subst c65
     rw [if_pos rfl] at H
     replace H := Option.bind_eq_some_iff.mp H
     obtain ⟨⟨t338, t339⟩, A660, H⟩ := H
     (try dsimp only at H)
     have A66 := Aside0.mk A660; clear A660
     by_cases c67 : t338 = 0
     ·rw [if_pos c67] at H
      have c67b0 : (t338 == 0) = true := beq_iff_eq.mpr c67
      have c67b1 : (t338 != 0) = false := bne_eq_false_iff_eq.mpr c67
      clear c67
      replace H := Option.bind_eq_some_iff.mp H
      obtain ⟨⟨t340, t341⟩, A680, H⟩ := H
      (try dsimp only at H)
      have A68 := Aside0.mk A680; clear A680
      simp only [Option.some.injEq, Prod.mk.injEq] at H
      obtain ⟨rfl, rfl, rfl, rfl, rfl⟩ := H
      go_wp2_with (first | ((with_reducible refine gate_callee (f := 90) rfl ?_); refine goesL_ (some 47) rfl rfl Try.func90 (by kernel_rfl) rfl #[.pointer (some ⟨g, 0, none⟩), .int .i64 a1] rfl ar_ ?_; (with_reducible refine (spec_l20Rd_odd.calls k1 g s0_0 x1001_1 a1 true t337 w0 _ ?side1 ?side2 A64.out).mono ?_); (case side1 => exact is113_ HI0.out); (case side2 => exact hb113_ HB.out); rintro e w69 ⟨rfl, hi, hb, hk⟩; refine ⟨_, rfl, ?_⟩; replace HO_304002 := (rk113_ HI0 HO_304002 hk); replace HO_304003 := Aside0.mk (Kd.Q_mono (Kd.Q_keep (IsS113.apartQ (show IsS113 w0 _ g s0_0 x1001_1 from is113_ HI0.out) (by (with_reducible repeat (first | apply Kd.Q_alloc | apply Kd.Q_drewN | apply Kd.Q_drew)); exact HO_304003.out) (by decide)) hk (fun _ h => h.2)) (fun _ h => h.1)); replace BK298 := (bkA_ BK298 hk NB298_0); replace BK303 := (bkA_ BK303 hk NB303_0); replace HK := (kk_ HK hk); replace HB := Aside0.mk (hb); replace HI0 := Aside0.mk (hi); (try clear hb); (try clear hb2); (try clear hk); (try clear hi)) | ((with_reducible refine gate_callee (f := 54) rfl ?_); refine goesL_ (some 49) rfl rfl Try.func54 (by kernel_rfl) rfl #[.pointer (some ⟨g, 0, none⟩), .int .i64 4] rfl ar_ ?_; (with_reducible refine (spec_l20Rd_pick.calls k1 g s0_0 t337 4 t338 t339 w0 _ ?side1 ?side2 A66.out).mono ?_); (case side1 => exact is113_ HI0.out); (case side2 => exact hb113_ HB.out); rintro e w70 ⟨rfl, hi, hb, hk⟩; refine ⟨_, rfl, ?_⟩; replace HO_304002 := (rk113_ HI0 HO_304002 hk); replace HO_304003 := Aside0.mk (Kd.Q_mono (Kd.Q_keep (IsS113.apartQ (show IsS113 w0 _ g s0_0 t337 from is113_ HI0.out) (by (with_reducible repeat (first | apply Kd.Q_alloc | apply Kd.Q_drewN | apply Kd.Q_drew)); exact HO_304003.out) (by decide)) hk (fun _ h => h.2)) (fun _ h => h.1)); replace BK298 := (bkA_ BK298 hk NB298_0); replace BK303 := (bkA_ BK303 hk NB303_0); replace HK := (kk_ HK hk); replace HB := Aside0.mk (hb); replace HI0 := Aside0.mk (hi); (try clear hb); (try clear hb2); (try clear hk); (try clear hi)) | ((with_reducible refine gate_callee (f := 54) rfl ?_); refine goesL_ (some 57) rfl rfl Try.func54 (by kernel_rfl) rfl #[.pointer (some ⟨g, 0, none⟩), .int .i64 2] rfl ar_ ?_; (with_reducible refine (spec_l20Rd_pick.calls k1 g s0_0 t339 2 t340 t341 w0 _ ?side1 ?side2 A68.out).mono ?_); (case side1 => exact is113_ HI0.out); (case side2 => exact hb113_ HB.out); rintro e w71 ⟨rfl, hi, hb, hk⟩; refine ⟨_, rfl, ?_⟩; replace HO_304002 := (rk113_ HI0 HO_304002 hk); replace HO_304003 := Aside0.mk (Kd.Q_mono (Kd.Q_keep (IsS113.apartQ (show IsS113 w0 _ g s0_0 t339 from is113_ HI0.out) (by (with_reducible repeat (first | apply Kd.Q_alloc | apply Kd.Q_drewN | apply Kd.Q_drew)); exact HO_304003.out) (by decide)) hk (fun _ h => h.2)) (fun _ h => h.1)); replace BK298 := (bkA_ BK298 hk NB298_0); replace BK303 := (bkA_ BK303 hk NB303_0); replace HK := (kk_ HK hk); replace HB := Aside0.mk (hb); replace HI0 := Aside0.mk (hi); (try clear hb); (try clear hb2); (try clear hk); (try clear hi); have hnb72 := NB303_298.out; have hnc72 := NB298_303.out; have hnb73 := NB303_0.out; have hnc73 := NB0_303.out; have Z74 := zz4 BK303; have hnb75 := NB298_0.out; have hnc75 := NB0_298.out; have Z76 := zz4 BK298; obtain ⟨Ao77, co77, eo77⟩ := Kd.R_slice HO_304002.out; subst eo77; obtain ⟨Ao78, co78, eo78, _⟩ := Kd.Q_slice HO_304003.out; subst eo78))
      refine bodyPost_ret (results_cell_row rfl _ _ gb298 48 #[.int .i64 x304000_1, .int .i64 (wrap64 (t340 * 33)), .slice Ao77 x304002_1.length co77, .slice Ao78 x304003_1.length co78] (0, 0) _ rfl (by refine kb_ ?_; refine pz4 (cs := #[.int .i64 0, .int .i64 0, .slice none 0 0, .slice none 0 0]) ?_; exact kf_ BK298.out) Try.underlying48 rfl (by kernel_rfl)) rfl ?_
      exact ⟨_, _, by first | rfl | (simp [errW_none, errW_some] <;> rfl) | (simp [*, errW_none, errW_some] <;> rfl), by refine kR_ ?_; exact rfm_ ((Kd.R_far (p := ⟨gb303, 1, none⟩) (Kd.R_types (Kd.R_types HO_304002.out BK303.out (by decide)) BK298.out (by decide)) (fun _ hk => hk.1.2) (.int .i64 (wrap64 (t340 * 33))))) (fun _ hk => trivial), by (with_reducible repeat (first | apply Kd.Q_alloc | apply Kd.Q_drewN | apply Kd.Q_drew)); exact Kd.Q_mono (Kd.Q_far (p := ⟨gb298, 3, none⟩) (Kd.Q_far (p := ⟨gb298, 2, none⟩) (Kd.Q_far (p := ⟨gb298, 1, none⟩) (Kd.Q_far (p := ⟨gb298, 0, none⟩) (Kd.Q_far (p := ⟨gb303, 1, none⟩) (Kd.Q_types (Kd.Q_types HO_304003.out BK303.out (by decide)) BK298.out (by decide)) (fun _ hk => hk.1.2) (.int .i64 (wrap64 (t340 * 33)))) (fun _ hk => hk.2) (.int .i64 x304000_1)) (fun _ hk => hk.2) (.int .i64 (wrap64 (t340 * 33)))) (fun _ hk => hk.2) (.slice Ao77 x304002_1.length co77)) (fun _ hk => hk.2) (.slice Ao78 x304003_1.length co78)) (fun _ hk => trivial), is113_ HI0.out, hb113_ HB.out, hkA_ HK.out⟩
     ·rw [if_neg c67] at H
      have c67b0 : (t338 == 0) = false := beq_eq_false_iff_ne.mpr c67
      have c67b1 : (t338 != 0) = true := bne_iff_ne.mpr c67
      by_cases c79 : t338 = 1
      ·rw [if_pos c79] at H
       have c79b0 : (t338 == 1) = true := beq_iff_eq.mpr c79
       have c79b1 : (t338 != 1) = false := bne_eq_false_iff_eq.mpr c79
       clear c79
       simp only [Option.some.injEq, Prod.mk.injEq] at H
       obtain ⟨rfl, rfl, rfl, rfl, rfl⟩ := H
       go_wp2_with (first | ((with_reducible refine gate_callee (f := 90) rfl ?_); refine goesL_ (some 47) rfl rfl Try.func90 (by kernel_rfl) rfl #[.pointer (some ⟨g, 0, none⟩), .int .i64 a1] rfl ar_ ?_; (with_reducible refine (spec_l20Rd_odd.calls k1 g s0_0 x1001_1 a1 true t337 w0 _ ?side1 ?side2 A64.out).mono ?_); (case side1 => exact is113_ HI0.out); (case side2 => exact hb113_ HB.out); rintro e w80 ⟨rfl, hi, hb, hk⟩; refine ⟨_, rfl, ?_⟩; replace HO_304002 := (rk113_ HI0 HO_304002 hk); replace HO_304003 := Aside0.mk (Kd.Q_mono (Kd.Q_keep (IsS113.apartQ (show IsS113 w0 _ g s0_0 x1001_1 from is113_ HI0.out) (by (with_reducible repeat (first | apply Kd.Q_alloc | apply Kd.Q_drewN | apply Kd.Q_drew)); exact HO_304003.out) (by decide)) hk (fun _ h => h.2)) (fun _ h => h.1)); replace BK298 := (bkA_ BK298 hk NB298_0); replace BK303 := (bkA_ BK303 hk NB303_0); replace HK := (kk_ HK hk); replace HB := Aside0.mk (hb); replace HI0 := Aside0.mk (hi); (try clear hb); (try clear hb2); (try clear hk); (try clear hi)) | ((with_reducible refine gate_callee (f := 54) rfl ?_); refine goesL_ (some 49) rfl rfl Try.func54 (by kernel_rfl) rfl #[.pointer (some ⟨g, 0, none⟩), .int .i64 4] rfl ar_ ?_; (with_reducible refine (spec_l20Rd_pick.calls k1 g s0_0 t337 4 t338 t339 w0 _ ?side1 ?side2 A66.out).mono ?_); (case side1 => exact is113_ HI0.out); (case side2 => exact hb113_ HB.out); rintro e w81 ⟨rfl, hi, hb, hk⟩; refine ⟨_, rfl, ?_⟩; replace HO_304002 := (rk113_ HI0 HO_304002 hk); replace HO_304003 := Aside0.mk (Kd.Q_mono (Kd.Q_keep (IsS113.apartQ (show IsS113 w0 _ g s0_0 t337 from is113_ HI0.out) (by (with_reducible repeat (first | apply Kd.Q_alloc | apply Kd.Q_drewN | apply Kd.Q_drew)); exact HO_304003.out) (by decide)) hk (fun _ h => h.2)) (fun _ h => h.1)); replace BK298 := (bkA_ BK298 hk NB298_0); replace BK303 := (bkA_ BK303 hk NB303_0); replace HK := (kk_ HK hk); replace HB := Aside0.mk (hb); replace HI0 := Aside0.mk (hi); (try clear hb); (try clear hb2); (try clear hk); (try clear hi); have hnb82 := NB303_298.out; have hnc82 := NB298_303.out; have hnb83 := NB303_0.out; have hnc83 := NB0_303.out; have Z84 := zz4 BK303; have hnb85 := NB298_0.out; have hnc85 := NB0_298.out; have Z86 := zz4 BK298; obtain ⟨Ao87, co87, eo87⟩ := Kd.R_slice HO_304002.out; subst eo87; obtain ⟨Ao88, co88, eo88, _⟩ := Kd.Q_slice HO_304003.out; subst eo88))
       refine bodyPost_ret (results_cell_row rfl _ _ gb298 48 #[.int .i64 (-1), .int .i64 x304001_1, .slice Ao87 x304002_1.length co87, .slice Ao88 x304003_1.length co88] (0, 0) _ rfl (by refine kb_ ?_; refine pz4 (cs := #[.int .i64 0, .int .i64 0, .slice none 0 0, .slice none 0 0]) ?_; exact kf_ BK298.out) Try.underlying48 rfl (by kernel_rfl)) rfl ?_
       exact ⟨_, _, by first | rfl | (simp [errW_none, errW_some] <;> rfl) | (simp [*, errW_none, errW_some] <;> rfl), by refine kR_ ?_; exact rfm_ ((Kd.R_far (p := ⟨gb303, 0, none⟩) (Kd.R_types (Kd.R_types HO_304002.out BK303.out (by decide)) BK298.out (by decide)) (fun _ hk => hk.1.2) (.int .i64 (-1)))) (fun _ hk => trivial), by (with_reducible repeat (first | apply Kd.Q_alloc | apply Kd.Q_drewN | apply Kd.Q_drew)); exact Kd.Q_mono (Kd.Q_far (p := ⟨gb298, 3, none⟩) (Kd.Q_far (p := ⟨gb298, 2, none⟩) (Kd.Q_far (p := ⟨gb298, 1, none⟩) (Kd.Q_far (p := ⟨gb298, 0, none⟩) (Kd.Q_far (p := ⟨gb303, 0, none⟩) (Kd.Q_types (Kd.Q_types HO_304003.out BK303.out (by decide)) BK298.out (by decide)) (fun _ hk => hk.1.2) (.int .i64 (-1))) (fun _ hk => hk.2) (.int .i64 (-1))) (fun _ hk => hk.2) (.int .i64 x304001_1)) (fun _ hk => hk.2) (.slice Ao87 x304002_1.length co87)) (fun _ hk => hk.2) (.slice Ao88 x304003_1.length co88)) (fun _ hk => trivial), is113_ HI0.out, hb113_ HB.out, hkA_ HK.out⟩
      ·rw [if_neg c79] at H
       have c79b0 : (t338 == 1) = false := beq_eq_false_iff_ne.mpr c79
       have c79b1 : (t338 != 1) = true := bne_iff_ne.mpr c79
       by_cases c89 : t338 = 2
       ·rw [if_pos c89] at H
        have c89b0 : (t338 == 2) = true := beq_iff_eq.mpr c89
        have c89b1 : (t338 != 2) = false := bne_eq_false_iff_eq.mpr c89
        clear c89
        replace H := Option.bind_eq_some_iff.mp H
        obtain ⟨⟨t342, t343⟩, A900, H⟩ := H
        (try dsimp only at H)
        have A90 := Aside0.mk A900; clear A900
        by_cases c91 : x304003_1.length < 8796093022208
        ·rw [if_pos c91] at H
         have LMc91 := Aside0.mk c91; clear c91
         obtain ⟨y344, hy344⟩ : ∃ y_ : List (S96), y_ = (x304003_1 ++ [(⟨wrap64 ((wrap64 (x304000_1 + t342)) - 3), 0⟩ : S96)]) := ⟨_, rfl⟩
         (first | replace H := sb_ hy344 H | rw [← hy344] at H)
         have Ny344 := Aside0.mk hy344; clear hy344
         simp only [Option.some.injEq, Prod.mk.injEq] at H
         obtain ⟨rfl, rfl, rfl, rfl, rfl⟩ := H
         try go_wp2_with (first | ((with_reducible refine gate_callee (f := 90) rfl ?_); refine goesL_ (some 47) rfl rfl Try.func90 (by kernel_rfl) rfl #[.pointer (some ⟨g, 0, none⟩), .int .i64 a1] rfl ar_ ?_; (with_reducible refine (spec_l20Rd_odd.calls k1 g s0_0 x1001_1 a1 true t337 w0 _ ?side1 ?side2 A64.out).mono ?_); (case side1 => exact is113_ HI0.out); (case side2 => exact hb113_ HB.out); rintro e w92 ⟨rfl, hi, hb, hk⟩; refine ⟨_, rfl, ?_⟩; replace HO_304002 := (rk113_ HI0 HO_304002 hk); replace HO_304003 := Aside0.mk (Kd.Q_mono (Kd.Q_keep (IsS113.apartQ (show IsS113 w0 _ g s0_0 x1001_1 from is113_ HI0.out) (by (with_reducible repeat (first | apply Kd.Q_alloc | apply Kd.Q_drewN | apply Kd.Q_drew)); exact HO_304003.out) (by decide)) hk (fun _ h => h.2)) (fun _ h => h.1)); replace BK298 := (bkA_ BK298 hk NB298_0); replace BK303 := (bkA_ BK303 hk NB303_0); replace HK := (kk_ HK hk); replace HB := Aside0.mk (hb); replace HI0 := Aside0.mk (hi); (try clear hb); (try clear hb2); (try clear hk); (try clear hi)) | ((with_reducible refine gate_callee (f := 54) rfl ?_); refine goesL_ (some 49) rfl rfl Try.func54 (by kernel_rfl) rfl #[.pointer (some ⟨g, 0, none⟩), .int .i64 4] rfl ar_ ?_; (with_reducible refine (spec_l20Rd_pick.calls k1 g s0_0 t337 4 t338 t339 w0 _ ?side1 ?side2 A66.out).mono ?_); (case side1 => exact is113_ HI0.out); (case side2 => exact hb113_ HB.out); rintro e w93 ⟨rfl, hi, hb, hk⟩; refine ⟨_, rfl, ?_⟩; replace HO_304002 := (rk113_ HI0 HO_304002 hk); replace HO_304003 := Aside0.mk (Kd.Q_mono (Kd.Q_keep (IsS113.apartQ (show IsS113 w0 _ g s0_0 t337 from is113_ HI0.out) (by (with_reducible repeat (first | apply Kd.Q_alloc | apply Kd.Q_drewN | apply Kd.Q_drew)); exact HO_304003.out) (by decide)) hk (fun _ h => h.2)) (fun _ h => h.1)); replace BK298 := (bkA_ BK298 hk NB298_0); replace BK303 := (bkA_ BK303 hk NB303_0); replace HK := (kk_ HK hk); replace HB := Aside0.mk (hb); replace HI0 := Aside0.mk (hi); (try clear hb); (try clear hb2); (try clear hk); (try clear hi)))
         replace HO_304002 := Aside0.mk (Kd.R_drew HO_304002.out); replace HO_304003 := Aside0.mk (Kd.Q_drew HO_304003.out); replace BK298 := Aside0.mk (blk_drew BK298.out); replace BK303 := Aside0.mk (blk_drew BK303.out); replace HI0 := Aside0.mk (IsS113.drew HI0.out); replace HK := Aside0.mk (keep_drew HK.out); replace HB := (bd_ HB)
         refine start_ (n := 13) (S := fun w' => w'.cell? ⟨gb303, 0, none⟩ = some (.int .i64 x304000_1) ∧ w'.cell? ⟨gb303, 1, none⟩ = some (.int .i64 x304001_1) ∧ w'.cell? ⟨gb303, 2, none⟩ = some (u304002) ∧ w'.cell? ⟨gb303, 3, none⟩ = some (u304003)) (ds := [12]) #[false, false, false, false, false, false, false, false, false, false, false, false, false] (by kernel_rfl) rfl rfl (cz4 BK303.out) (fun hHeld => ?_); refine with_tabW spec_l20Ear.tab17 spec_l20Ear.bits17 (fun HT_ HW_ => ?_)
         generalize w93.drew = w94 at HO_304002 HO_304003 BK298 BK303 HI0 HK HB hHeld ⊢
         refine pu_ (i := 0) (N := some 65) HT_ ?_; refine pu_ (i := 2) (N := some 67) HT_ ?_; refine pu_ (i := 4) (N := some 69) HT_ ?_; refine tk_ (i := 1) (N := some 66) HT_ HW_ hHeld ?_; refine tk_ (i := 3) (N := some 68) HT_ HW_ hHeld ?_
         refine on_ (i := 5) (N := some 70) HT_ (fun K hK => ?_)
         refine goes_ Try.func54 (by kernel_rfl) rfl #[.pointer (some ⟨g, 0, none⟩), .int .i64 40] (by rfl) rfl rfl ar_ ?_
         with_reducible refine (spec_l20Rd_pick.calls k1 g s0_0 t339 40 t342 t343 w0 _ ?side1 ?side2 A90.out).mono ?_
         (case side1 => exact is113_ HI0.out)
         (case side2 => exact hb113_ HB.out)
         rintro e w95 ⟨rfl, hi, hb, hk⟩
         refine ⟨_, rfl, ?_⟩
         replace HO_304002 := (rk113_ HI0 HO_304002 hk); replace HO_304003 := Aside0.mk (Kd.Q_mono (Kd.Q_keep (IsS113.apartQ (show IsS113 w0 _ g s0_0 t339 from is113_ HI0.out) (by (with_reducible repeat (first | apply Kd.Q_alloc | apply Kd.Q_drewN | apply Kd.Q_drew)); exact HO_304003.out) (by decide)) hk (fun _ h => h.2)) (fun _ h => h.1)); replace BK298 := (bkA_ BK298 hk NB298_0); replace BK303 := (bkA_ BK303 hk NB303_0); replace HK := (kk_ HK hk); replace HB := Aside0.mk (hb); replace HI0 := Aside0.mk (hi); (try clear hb); (try clear hb2); (try clear hk); (try clear hi)
         refine hK.out _ _ (cz4 BK303.out) (fun hHeld => ?_)
         clear hK K; refine nm_ 70 ?_; refine pu_ (i := 6) (N := some 71) HT_ ?_; refine pu_ (i := 7) (N := some 72) HT_ ?_; refine pu_ (i := 8) (N := some 73) HT_ ?_
         refine on_ (i := 9) (N := some 74) HT_ (fun K hK => ?_)
         refine value_ (w1 := ?_) (v := ?_) (by rfl) rfl ?_ ?_
         rotate_left 2
         ·go_simp
          constructor
          ·rfl
          ·rfl
         refine hK.out _ _ ⟨(blk_cell (blk_alloc BK303.out _) 0).trans rfl, (blk_cell (blk_alloc BK303.out _) 1).trans rfl, (blk_cell (blk_alloc BK303.out _) 2).trans rfl, (blk_cell (blk_alloc BK303.out _) 3).trans rfl⟩ (fun hHeld => ?_)
         clear hK K; refine nm_ 74 ?_
         refine on_ (i := 10) (N := some 75) HT_ (fun K hK => ?_)
         refine Kd.Q_append_step k96 w.heap.size (by rfl) (.tmp 66) (.tmp 74) 46 96 (.agg #[(.int .i64 0), (.int .u8 0)]) 16 rfl Try.underlying46 info96 rfl (by decide) (by omega) u304003 x304003_1 (⟨wrap64 ((wrap64 (x304000_1 + t342)) - 3), 0⟩ : S96) [.int .i64 (wrap64 ((wrap64 (x304000_1 + t342)) - 3)), .int .u8 0] (fun _ => True) (fun _ => False) rfl rfl ?aP (fun _ hk => hk.elim) ?aF ?aO (Below.refl _ _) ?aS ?aL ?_
         (case aP => exact k96_mkM _ _ _ (⟨wrap64 ((wrap64 (x304000_1 + t342)) - 3), 0⟩ : S96))
         (case aF => exact (fun _ _ => trivial))
         (case aO => exact (by (with_reducible repeat (first | apply Kd.Q_alloc | apply Kd.Q_drewN | apply Kd.Q_drew)); exact HO_304003.out))
         (case aS => exact (keep_size (w := w) (g := g) (row := none) (hkA_ HK.out)))
         (case aL => have := LMc91.out; omega)
         intro v345 w96 ho hb hg hat
         rw [← Ny344.out] at ho
         have n0_ := Aside0.mk (Kd.R_over' (kR_ HO_304002.out) (Kd.Q_typed (by (with_reducible repeat (first | apply Kd.Q_alloc | apply Kd.Q_drewN | apply Kd.Q_drew)); exact HO_304003.out)) (by decide) hg); have n1_ := (bgA_ BK298 hg (Kd.Q_ne HO_304003.out BK298.out (by decide))); have n2_ := (bgA_ BK303 hg (Kd.Q_ne HO_304003.out BK303.out (by decide))); have n3_ := Aside0.mk (IsS113.grown (is113_ HI0.out) hg (IsS113.own_neQ HI0.out HO_304003.out (by decide))); have n4_ := Aside0.mk (below_weaken (hb113_ HB.out) HL.out hb); have n5_ := Aside0.mk (KeepBut.trans (hkA_ HK.out) (KeepBut.of_grown hg g) (Kd.Q_base2 HO_304003.out)); have n6_ := Aside0.mk (ho); clear HO_304002 BK298 BK303 HI0 HB HK HO_304003; have HO_304002 := n0_; have BK298 := n1_; have BK303 := n2_; have HI0 := n3_; have HB := n4_; have HK := n5_; have HO346 := n6_; clear n0_ n1_ n2_ n3_ n4_ n5_ n6_ ho hb hg hat
         obtain ⟨Ao97, co97, eo97, _⟩ := Kd.Q_slice HO346.out
         (first | subst eo97 | (injection eo97 with f1_ f2_ f3_; have f4_ := f1_.symm; have f5_ := f3_.symm; clear f1_ f2_ f3_; subst f4_; subst f5_))
         refine hK.out _ _ (cz4 BK303.out) (fun hHeld => ?_)
         clear hK K; refine nm_ 75 ?_; refine pu_ (i := 11) (N := some 76) HT_ ?_
         refine last_ (i := 12) (N := none) #[true, true, true, true, true, true, true, true, true, true, true, true, true] rfl rfl (one_of HT_.out (by kernel_rfl)) (by decide) (fun K hK => ?_)
         have hs98 : w96.cell? ⟨gb303, 3, none⟩ = some (u304003) := bc_ BK303 3
         have hfs98 := blk_frozen BK303.out 3
         have hns98_0 := NB298_303.out; have hms98_0 := NB303_298.out
         refine skip_ (w1 := ?_) (by rfl) rfl ?_ ?_
         rotate_left
         ·go_simp
          rfl
         refine hK.out _ _ ?_
         clear hK K
         refine done_ (done_of HT_.out (by kernel_rfl)) ?_
         have hnb99 := NB303_298.out; have hnc99 := NB298_303.out; have hnb100 := NB303_0.out; have hnc100 := NB0_303.out; have Z101 := zz4 BK303; have hnb102 := NB298_0.out; have hnc102 := NB0_298.out; have Z103 := zz4 BK298
         obtain ⟨Ao104, co104, eo104⟩ := Kd.R_slice HO_304002.out
         subst eo104
         try go_wp2
         refine bodyPost_ret (results_cell_row rfl _ _ gb298 48 #[.int .i64 x304000_1, .int .i64 x304001_1, .slice Ao104 x304002_1.length co104, .slice Ao97 y344.length co97] (0, 0) _ rfl (by refine kb_ ?_; refine pz4 (cs := #[.int .i64 0, .int .i64 0, .slice none 0 0, .slice none 0 0]) ?_; exact kf_ BK298.out) Try.underlying48 rfl (by kernel_rfl)) rfl ?_
         exact ⟨_, _, by first | rfl | (simp [errW_none, errW_some] <;> rfl) | (simp [*, errW_none, errW_some] <;> rfl), by refine kR_ ?_; exact rfm_ ((Kd.R_far (p := ⟨gb303, 3, none⟩) (Kd.R_types (Kd.R_types HO_304002.out BK303.out (by decide)) BK298.out (by decide)) (fun _ hk => hk.1.2) (.slice Ao97 y344.length co97))) (fun _ hk => trivial), by (with_reducible repeat (first | apply Kd.Q_alloc | apply Kd.Q_drewN | apply Kd.Q_drew)); exact Kd.Q_mono (Kd.Q_far (p := ⟨gb298, 3, none⟩) (Kd.Q_far (p := ⟨gb298, 2, none⟩) (Kd.Q_far (p := ⟨gb298, 1, none⟩) (Kd.Q_far (p := ⟨gb298, 0, none⟩) (Kd.Q_far (p := ⟨gb303, 3, none⟩) (Kd.Q_types (Kd.Q_types HO346.out BK303.out (by decide)) BK298.out (by decide)) (fun _ hk => hk.1.2) (.slice Ao97 y344.length co97)) (fun _ hk => hk.2) (.int .i64 x304000_1)) (fun _ hk => hk.2) (.int .i64 x304001_1)) (fun _ hk => hk.2) (.slice Ao104 x304002_1.length co104)) (fun _ hk => hk.2) (.slice Ao97 y344.length co97)) (fun _ hk => trivial), is113_ HI0.out, hb113_ HB.out, hkA_ HK.out⟩
        ·rw [if_neg c91] at H
         exact absurd H (by simp)
       ·rw [if_neg c89] at H
        have c89b0 : (t338 == 2) = false := beq_eq_false_iff_ne.mpr c89
        have c89b1 : (t338 != 2) = true := bne_iff_ne.mpr c89
        by_cases c105 : x304002_1.length + 20 < 140737488355328
        ·rw [if_pos c105] at H
         have LMc105 := Aside0.mk c105; clear c105
         obtain ⟨y347, hy347⟩ : ∃ y_ : List Int, y_ = (x304002_1 ++ List.replicate 20 0) := ⟨_, rfl⟩
         (first | replace H := sb_ hy347 H | rw [← hy347] at H)
         have Ny347 := Aside0.mk hy347; clear hy347
         simp only [Option.some.injEq, Prod.mk.injEq] at H
         obtain ⟨rfl, rfl, rfl, rfl, rfl⟩ := H
         go_wp2_with (first | ((with_reducible refine gate_callee (f := 90) rfl ?_); refine goesL_ (some 47) rfl rfl Try.func90 (by kernel_rfl) rfl #[.pointer (some ⟨g, 0, none⟩), .int .i64 a1] rfl ar_ ?_; (with_reducible refine (spec_l20Rd_odd.calls k1 g s0_0 x1001_1 a1 true t337 w0 _ ?side1 ?side2 A64.out).mono ?_); (case side1 => exact is113_ HI0.out); (case side2 => exact hb113_ HB.out); rintro e w106 ⟨rfl, hi, hb, hk⟩; refine ⟨_, rfl, ?_⟩; replace HO_304002 := (rk113_ HI0 HO_304002 hk); replace HO_304003 := Aside0.mk (Kd.Q_mono (Kd.Q_keep (IsS113.apartQ (show IsS113 w0 _ g s0_0 x1001_1 from is113_ HI0.out) (by (with_reducible repeat (first | apply Kd.Q_alloc | apply Kd.Q_drewN | apply Kd.Q_drew)); exact HO_304003.out) (by decide)) hk (fun _ h => h.2)) (fun _ h => h.1)); replace BK298 := (bkA_ BK298 hk NB298_0); replace BK303 := (bkA_ BK303 hk NB303_0); replace HK := (kk_ HK hk); replace HB := Aside0.mk (hb); replace HI0 := Aside0.mk (hi); (try clear hb); (try clear hb2); (try clear hk); (try clear hi)) | ((with_reducible refine gate_callee (f := 54) rfl ?_); refine goesL_ (some 49) rfl rfl Try.func54 (by kernel_rfl) rfl #[.pointer (some ⟨g, 0, none⟩), .int .i64 4] rfl ar_ ?_; (with_reducible refine (spec_l20Rd_pick.calls k1 g s0_0 t337 4 t338 t339 w0 _ ?side1 ?side2 A66.out).mono ?_); (case side1 => exact is113_ HI0.out); (case side2 => exact hb113_ HB.out); rintro e w107 ⟨rfl, hi, hb, hk⟩; refine ⟨_, rfl, ?_⟩; replace HO_304002 := (rk113_ HI0 HO_304002 hk); replace HO_304003 := Aside0.mk (Kd.Q_mono (Kd.Q_keep (IsS113.apartQ (show IsS113 w0 _ g s0_0 t337 from is113_ HI0.out) (by (with_reducible repeat (first | apply Kd.Q_alloc | apply Kd.Q_drewN | apply Kd.Q_drew)); exact HO_304003.out) (by decide)) hk (fun _ h => h.2)) (fun _ h => h.1)); replace BK298 := (bkA_ BK298 hk NB298_0); replace BK303 := (bkA_ BK303 hk NB303_0); replace HK := (kk_ HK hk); replace HB := Aside0.mk (hb); replace HI0 := Aside0.mk (hi); (try clear hb); (try clear hb2); (try clear hk); (try clear hi); have hnb108 := NB303_298.out; have hnc108 := NB298_303.out; have hnb109 := NB303_0.out; have hnc109 := NB0_303.out; have Z110 := zz4 BK303) | (at_builtin; refine Kd.R_append_zeros (Kd.int .u8) w.heap.size rfl (.tmp 51) (.const (.int .i64 20)) 22 3 5 (.int .u8 0) 1 rfl Try.underlying22 Try.underlying3 info5 rfl (by decide) (by omega) u304002 x304002_1 0 (20 : Int) (fun _ => True) rfl rfl rfl ?aF ?aO (by omega) (Below.refl _ _) ?aS ?aL ?_; (case aF => exact (fun _ _ => trivial)); (case aO => exact (kR_ HO_304002.out)); (case aS => exact (keep_size (w := w) (g := g) (row := none) (hkA_ HK.out))); (case aL => have := LMc105.out; omega); intro v348 w111 ho hb hg hat; (first | (simp only [Int.reduceToNat] at ho; rw [← Ny347.out] at ho) | rw [← Ny347.out] at ho); replace HO_304003 := Aside0.mk (Kd.Q_over' (by (with_reducible repeat (first | apply Kd.Q_alloc | apply Kd.Q_drewN | apply Kd.Q_drew)); exact HO_304003.out) (Kd.R_typed (kR_ HO_304002.out)) (by decide) hg); replace BK298 := (bgA_ BK298 hg (Kd.R_ne HO_304002.out BK298.out (by decide))); replace BK303 := (bgA_ BK303 hg (Kd.R_ne HO_304002.out BK303.out (by decide))); replace HI0 := Aside0.mk (IsS113.grown (is113_ HI0.out) hg (IsS113.own_ne HI0.out HO_304002.out (by decide))); replace HB := Aside0.mk (below_weaken (hb113_ HB.out) HL.out hb); replace HK := Aside0.mk (KeepBut.trans (hkA_ HK.out) (KeepBut.of_grown hg g) (Kd.R_base2 HO_304002.out)); have HO349 := Aside0.mk (ho); clear HO_304002; clear ho hb hg hat; obtain ⟨Ao112, co112, eo112⟩ := Kd.R_slice HO349.out; subst eo112; have Z113 := zz4 BK303; have hnb114 := NB298_0.out; have hnc114 := NB0_298.out; have Z115 := zz4 BK298; obtain ⟨Ao116, co116, eo116, _⟩ := Kd.Q_slice HO_304003.out; subst eo116))
         refine bodyPost_ret (results_cell_row rfl _ _ gb298 48 #[.int .i64 x304000_1, .int .i64 x304001_1, .slice Ao112 y347.length co112, .slice Ao116 x304003_1.length co116] (0, 0) _ rfl (by refine kb_ ?_; refine pz4 (cs := #[.int .i64 0, .int .i64 0, .slice none 0 0, .slice none 0 0]) ?_; exact kf_ BK298.out) Try.underlying48 rfl (by kernel_rfl)) rfl ?_
         exact ⟨_, _, by first | rfl | (simp [errW_none, errW_some] <;> rfl) | (simp [*, errW_none, errW_some] <;> rfl), by refine kR_ ?_; exact rfm_ ((Kd.R_far (p := ⟨gb303, 2, none⟩) (Kd.R_types (Kd.R_types HO349.out BK303.out (by decide)) BK298.out (by decide)) (fun _ hk => hk.1.2) (.slice Ao112 y347.length co112))) (fun _ hk => trivial), by (with_reducible repeat (first | apply Kd.Q_alloc | apply Kd.Q_drewN | apply Kd.Q_drew)); exact Kd.Q_mono (Kd.Q_far (p := ⟨gb298, 3, none⟩) (Kd.Q_far (p := ⟨gb298, 2, none⟩) (Kd.Q_far (p := ⟨gb298, 1, none⟩) (Kd.Q_far (p := ⟨gb298, 0, none⟩) (Kd.Q_far (p := ⟨gb303, 2, none⟩) (Kd.Q_types (Kd.Q_types HO_304003.out BK303.out (by decide)) BK298.out (by decide)) (fun _ hk => hk.1.2) (.slice Ao112 y347.length co112)) (fun _ hk => hk.2) (.int .i64 x304000_1)) (fun _ hk => hk.2) (.int .i64 x304001_1)) (fun _ hk => hk.2) (.slice Ao112 y347.length co112)) (fun _ hk => hk.2) (.slice Ao116 x304003_1.length co116)) (fun _ hk => trivial), is113_ HI0.out, hb113_ HB.out, hkA_ HK.out⟩
        ·rw [if_neg c105] at H
         exact absurd H (by simp)
    ·replace c65 := Bool.eq_false_iff.mpr c65
     subst c65
     rw [if_neg (show ¬ (false = true) by decide)] at H
     simp only [Option.some.injEq, Prod.mk.injEq] at H
     obtain ⟨rfl, rfl, rfl, rfl, rfl⟩ := H
     go_wp2_with (first | ((with_reducible refine gate_callee (f := 90) rfl ?_); refine goesL_ (some 47) rfl rfl Try.func90 (by kernel_rfl) rfl #[.pointer (some ⟨g, 0, none⟩), .int .i64 a1] rfl ar_ ?_; (with_reducible refine (spec_l20Rd_odd.calls k1 g s0_0 x1001_1 a1 false t337 w0 _ ?side1 ?side2 A64.out).mono ?_); (case side1 => exact is113_ HI0.out); (case side2 => exact hb113_ HB.out); rintro e w117 ⟨rfl, hi, hb, hk⟩; refine ⟨_, rfl, ?_⟩; replace HO_304002 := (rk113_ HI0 HO_304002 hk); replace HO_304003 := Aside0.mk (Kd.Q_mono (Kd.Q_keep (IsS113.apartQ (show IsS113 w0 _ g s0_0 x1001_1 from is113_ HI0.out) (by (with_reducible repeat (first | apply Kd.Q_alloc | apply Kd.Q_drewN | apply Kd.Q_drew)); exact HO_304003.out) (by decide)) hk (fun _ h => h.2)) (fun _ h => h.1)); replace BK298 := (bkA_ BK298 hk NB298_0); replace BK303 := (bkA_ BK303 hk NB303_0); replace HK := (kk_ HK hk); replace HB := Aside0.mk (hb); replace HI0 := Aside0.mk (hi); (try clear hb); (try clear hb2); (try clear hk); (try clear hi); have hnb118 := NB303_298.out; have hnc118 := NB298_303.out; have hnb119 := NB303_0.out; have hnc119 := NB0_303.out; have Z120 := zz4 BK303; have hnb121 := NB298_0.out; have hnc121 := NB0_298.out; have Z122 := zz4 BK298; obtain ⟨Ao123, co123, eo123⟩ := Kd.R_slice HO_304002.out; subst eo123; obtain ⟨Ao124, co124, eo124, _⟩ := Kd.Q_slice HO_304003.out; subst eo124))
     refine bodyPost_ret (results_cell_row rfl _ _ gb298 48 #[.int .i64 x304000_1, .int .i64 x304001_1, .slice Ao123 x304002_1.length co123, .slice Ao124 x304003_1.length co124] (0, 0) _ rfl (by refine kb_ ?_; refine pz4 (cs := #[.int .i64 0, .int .i64 0, .slice none 0 0, .slice none 0 0]) ?_; refine kb_ ?_; exact BK298.out) Try.underlying48 rfl (by kernel_rfl)) rfl ?_
     exact ⟨_, _, by first | rfl | (simp [errW_none, errW_some] <;> rfl) | (simp [*, errW_none, errW_some] <;> rfl), by refine kR_ ?_; exact rfm_ ((Kd.R_types HO_304002.out BK298.out (by decide))) (fun _ hk => trivial), by (with_reducible repeat (first | apply Kd.Q_alloc | apply Kd.Q_drewN | apply Kd.Q_drew)); exact Kd.Q_mono (Kd.Q_far (p := ⟨gb298, 3, none⟩) (Kd.Q_far (p := ⟨gb298, 2, none⟩) (Kd.Q_far (p := ⟨gb298, 1, none⟩) (Kd.Q_far (p := ⟨gb298, 0, none⟩) (Kd.Q_types HO_304003.out BK298.out (by decide)) (fun _ hk => hk.2) (.int .i64 x304000_1)) (fun _ hk => hk.2) (.int .i64 x304001_1)) (fun _ hk => hk.2) (.slice Ao123 x304002_1.length co123)) (fun _ hk => hk.2) (.slice Ao124 x304003_1.length co124)) (fun _ hk => trivial), is113_ HI0.out, hb113_ HB.out, hkA_ HK.out⟩
def spec_l20Rd_bytes.l0 : Nat → Int → List Int → List Int → Int → Option (List Int × Int)
 | 0, _, _, _, _ => none
 | k + 1, x1, x5, x1000, x1001 => if x1 > 0 then ((spec_l20Rd_pick.f k x1000 x1001 3).bind fun bt353 => (if bt353.1 = 0 then ((spec_l20Rd_pick.f k x1000 bt353.2 256).bind fun bt355 => (if x5.length < 140737488355328 then (spec_l20Rd_bytes.l0 k (wrap64 (x1 - 1)) (x5 ++ [(bt355.1) % 256]) x1000 bt355.2) else (none))) else ((spec_l20Rd_pick.f k x1000 bt353.2 3).bind fun bt360 => (if x5.length < 140737488355328 then (spec_l20Rd_bytes.l0 k (wrap64 (x1 - 1)) (x5 ++ [(wrap64 (bt360.1 + 97)) % 256]) x1000 bt360.2) else (none))))) else (some (x5, x1001))
def spec_l20Rd_bytes.f (k : Nat) (s0_0 : List Int) (s0_1 : Int) (a1 : Int) : Option (List Int × Int) := spec_l20Rd_bytes.l0 k a1 (([] : List Int)) s0_0 s0_1
theorem spec_l20Rd_bytes.mono_l : ∀ k, (∀ y0 y1 y2 y3, LeO (spec_l20Rd_bytes.l0 k y0 y1 y2 y3) (spec_l20Rd_bytes.l0 (k + 1) y0 y1 y2 y3))
 | 0 => fun _ _ _ _ r h => by simp [spec_l20Rd_bytes.l0] at h
 | k + 1 => by
  have ih0 := spec_l20Rd_bytes.mono_l k
  ·intro y0 y1 y2 y3
   unfold spec_l20Rd_bytes.l0
   repeat' first | (with_reducible first | apply ih0 | apply spec_l20Rd_pick.mono | exact LeO.refl _ | exact LeO.none _ | refine LeO.ite ?_ ?_ | refine LeO.bind ?_ fun _ => ?_) | apply ih0 | apply spec_l20Rd_pick.mono | exact LeO.none _ | refine LeO.ite ?_ ?_ | refine LeO.bind ?_ fun _ => ?_
theorem spec_l20Rd_bytes.mono : ∀ a0 a1 a2 k, LeO (spec_l20Rd_bytes.f k a0 a1 a2) (spec_l20Rd_bytes.f (k + 1) a0 a1 a2) := by
 intro a0 a1 a2 k
 have ih0 := spec_l20Rd_bytes.mono_l k
 unfold spec_l20Rd_bytes.f
 repeat' first | (with_reducible first | apply ih0 | apply spec_l20Rd_pick.mono | exact LeO.refl _ | exact LeO.none _ | refine LeO.ite ?_ ?_ | refine LeO.bind ?_ fun _ => ?_) | apply ih0 | apply spec_l20Rd_pick.mono | exact LeO.none _ | refine LeO.ite ?_ ?_ | refine LeO.bind ?_ fun _ => ?_
set_option maxHeartbeats 8000000 in
set_option maxRecDepth 100000 in
theorem spec_l20Rd_bytes.calls (k : Nat) (g : Nat) (s0_0 : List Int) (s0_1 : Int) (a1 : Int) (r1 : List Int) (r2 : Int) (w0 w : World) (hI : IsS113 w0 w g s0_0 s0_1) (hB : Below w0.heap.size w0 w) (h : spec_l20Rd_bytes.f k s0_0 s0_1 a1 = some (r1, r2)) :
  Calls Try.prog 75 #[.pointer (some ⟨g, 0, none⟩), .int .i64 a1] w fun e w' => ∃ v0_ : Value, e = .returned (v0_) ∧ Kd.R (Kd.int .u8) 5 w' w.heap.size (fun _ => True) v0_ r1 ∧ IsS113 w0 w' g s0_0 r2 ∧ Below w0.heap.size w0 w' ∧ KeepBut w w' g none := by
 have HI0 := Aside0.mk hI
 have HK := Aside0.mk (KeepBut.refl w g none)
 have HL := Aside0.mk hB.size; clear hI; have HW0 := Aside0.mk hB.size; have HB := Aside0.mk hB; clear hB
 have H : (spec_l20Rd_bytes.l0 k a1 (([] : List Int)) s0_0 s0_1) = some (r1, r2) := h
 clear h
 obtain ⟨y350, hy350⟩ : ∃ y_ : List Int, y_ = (([] : List Int)) := ⟨_, rfl⟩
 (first | replace H := sb_ hy350 H | rw [← hy350] at H)
 have Ny350 := Aside0.mk hy350; clear hy350
 have H' := Aside0.mk H
 clear H
 go_enter Try.func75, Try.ntmps75
 go_wp2_with (first | ((with_reducible refine gate_dst (N := 6) rfl ?_); refine Kd.R_lit (Kd.int .u8) _ 5 ?hg (N := 6) ?hd (xs := ([] : List Int)) (inner := []) (ok := fun _ => True) (okp := fun _ => True) ?hr ?hp (fun _ hk => hk) trivial (Below.refl _ _) (Nat.le_refl _) (by simp) ?_; (case hd => rfl); (case hg => rfl); (case hr => first | (go_simp; done) | (go_simp; rfl)); (case hp => exact (Reps.none _ _)); intro v351 w3 ho4 hb hg_ hnew_; clear hg_ hnew_; (first | rw [← Ny350.out] at ho4 | (simp only [Int.reduceToNat] at ho4; rw [← Ny350.out] at ho4)); have HO352 := Aside0.mk (Kd.R_lower ho4 (keep_size (w := w) (g := g) (row := none) (hkA_ HK.out))); replace HI0 := (ib113_ HI0 hb); replace HK := (kw_ HK hb); replace HB := (bs113_ HB hb); clear hb ho4))
 go_loopg [1, 5] k (fun kq v1 v5 w' => ∃ (x1_1 : Int) (x5_1 : List Int) (x1001_1 : Int), v1 = .int .i64 x1_1 ∧ Aside0 (spec_l20Rd_bytes.l0 kq x1_1 x5_1 s0_0 x1001_1 = some (r1, r2)) ∧ Aside0 (kq ≤ k) ∧ Aside0 (Kd.R (Kd.int .u8) 5 w' w.heap.size (fun _ => True) v5 x5_1) ∧ Aside0 (IsS113 w0 w' g s0_0 x1001_1) ∧ Aside0 (KeepBut w w' g none) ∧ Aside0 (Below w0.heap.size w0 w'))
 case atStart => exact ⟨(a1), (y350), (s0_1), (by first | rfl | (simp; done) | (simp [*]; done)), H', ⟨Nat.le_refl _⟩, ⟨kR_ HO352.out⟩, ⟨is113_ HI0.out⟩, ⟨hkA_ HK.out⟩, ⟨hb113_ HB.out⟩⟩
 case round =>
  clear H'; (try clear p2)
  obtain ⟨x1_1, x5_1, x1001_1, rfl, HA, HK1, HO_5, HI0, HK, HB⟩ := hrel
  cases gk with
  | zero => exact absurd HA.out (by simp [spec_l20Rd_bytes.l0])
  | succ k1 =>
   have H := HA.out; clear HA
   simp only [spec_l20Rd_bytes.l0] at H
   by_cases c5 : x1_1 > 0
   ·rw [if_pos c5] at H
    have c5b0 : decide (0 < x1_1) = true := decide_eq_true c5
    clear c5
    replace H := Option.bind_eq_some_iff.mp H
    obtain ⟨⟨t353, t354⟩, A60, H⟩ := H
    (try dsimp only at H)
    have A6 := Aside0.mk A60; clear A60
    by_cases c7 : t353 = 0
    ·rw [if_pos c7] at H
     have c7b0 : (t353 == 0) = true := beq_iff_eq.mpr c7
     have c7b1 : (t353 != 0) = false := bne_eq_false_iff_eq.mpr c7
     clear c7
     replace H := Option.bind_eq_some_iff.mp H
     obtain ⟨⟨t355, t356⟩, A80, H⟩ := H
     (try dsimp only at H)
     have A8 := Aside0.mk A80; clear A80
     by_cases c9 : x5_1.length < 140737488355328
     ·rw [if_pos c9] at H
      have LMc9 := Aside0.mk c9; clear c9
      obtain ⟨y357, hy357⟩ : ∃ y_ : List Int, y_ = (x5_1 ++ [(t355) % 256]) := ⟨_, rfl⟩
      (first | replace H := sb_ hy357 H | rw [← hy357] at H)
      have Ny357 := Aside0.mk hy357; clear hy357
      have H' := Aside0.mk H
      clear H
      go_wp2_with (first | ((with_reducible refine gate_callee (f := 54) rfl ?_); refine goesL_ (some 12) rfl rfl Try.func54 (by kernel_rfl) rfl #[.pointer (some ⟨g, 0, none⟩), .int .i64 3] rfl ar_ ?_; (with_reducible refine (spec_l20Rd_pick.calls k1 g s0_0 x1001_1 3 t353 t354 w0 _ ?side1 ?side2 A6.out).mono ?_); (case side1 => exact is113_ HI0.out); (case side2 => exact hb113_ HB.out); rintro e w10 ⟨rfl, hi, hb, hk⟩; refine ⟨_, rfl, ?_⟩; replace HO_5 := (rk113_ HI0 HO_5 hk); replace HK := (kk_ HK hk); replace HB := Aside0.mk (hb); replace HI0 := Aside0.mk (hi); (try clear hb); (try clear hb2); (try clear hk); (try clear hi)) | ((with_reducible refine gate_callee (f := 54) rfl ?_); refine goesL_ (some 16) rfl rfl Try.func54 (by kernel_rfl) rfl #[.pointer (some ⟨g, 0, none⟩), .int .i64 256] rfl ar_ ?_; (with_reducible refine (spec_l20Rd_pick.calls k1 g s0_0 t354 256 t355 t356 w0 _ ?side1 ?side2 A8.out).mono ?_); (case side1 => exact is113_ HI0.out); (case side2 => exact hb113_ HB.out); rintro e w11 ⟨rfl, hi, hb, hk⟩; refine ⟨_, rfl, ?_⟩; replace HO_5 := (rk113_ HI0 HO_5 hk); replace HK := (kk_ HK hk); replace HB := Aside0.mk (hb); replace HI0 := Aside0.mk (hi); (try clear hb); (try clear hb2); (try clear hk); (try clear hi)) | ((with_reducible refine gate_builtin (b := .append) (xs := #[.tmp 14, .tmp 18]) rfl ?_); at_builtin; refine Kd.R_append (Kd.int .u8) w.heap.size rfl (.tmp 14) (.tmp 18) 22 5 (.int .u8 0) 1 rfl Try.underlying22 info5 rfl (by decide) (by omega) u5 x5_1 ((t355) % 256) [.int .u8 ((t355) % 256)] (fun _ => True) (fun _ => False) rfl rfl ?aP (fun _ hk => hk.elim) ?aF ?aO (Below.refl _ _) ?aS ?aL ?_; (case aP => exact rfl); (case aF => exact (fun _ _ => trivial)); (case aO => exact (kR_ HO_5.out)); (case aS => exact (keep_size (w := w) (g := g) (row := none) (hkA_ HK.out))); (case aL => have := LMc9.out; omega); intro v358 w12 ho hb hg hat; rw [← Ny357.out] at ho; replace HI0 := Aside0.mk (IsS113.grown (is113_ HI0.out) hg (IsS113.own_ne HI0.out HO_5.out (by decide))); replace HB := Aside0.mk (below_weaken (hb113_ HB.out) HL.out hb); replace HK := Aside0.mk (KeepBut.trans (hkA_ HK.out) (KeepBut.of_grown hg g) (Kd.R_base2 HO_5.out)); have HO359 := Aside0.mk (ho); clear HO_5; clear ho hb hg hat))
      go_roundg k1
      case measure => have := HK1.out; omega
      case rel => exact ⟨(wrap64 (x1_1 - 1)), (y357), (t356), (by first | rfl | (simp; done) | (simp [*]; done)), H', ⟨by have := HK1.out; omega⟩, ⟨kR_ HO359.out⟩, ⟨is113_ HI0.out⟩, ⟨hkA_ HK.out⟩, ⟨hb113_ HB.out⟩⟩
     ·rw [if_neg c9] at H
      exact absurd H (by simp)
    ·rw [if_neg c7] at H
     have c7b0 : (t353 == 0) = false := beq_eq_false_iff_ne.mpr c7
     have c7b1 : (t353 != 0) = true := bne_iff_ne.mpr c7
     replace H := Option.bind_eq_some_iff.mp H
     obtain ⟨⟨t360, t361⟩, A130, H⟩ := H
     (try dsimp only at H)
     have A13 := Aside0.mk A130; clear A130
     by_cases c14 : x5_1.length < 140737488355328
     ·rw [if_pos c14] at H
      have LMc14 := Aside0.mk c14; clear c14
      obtain ⟨y362, hy362⟩ : ∃ y_ : List Int, y_ = (x5_1 ++ [(wrap64 (t360 + 97)) % 256]) := ⟨_, rfl⟩
      (first | replace H := sb_ hy362 H | rw [← hy362] at H)
      have Ny362 := Aside0.mk hy362; clear hy362
      have H' := Aside0.mk H
      clear H
      go_wp2_with (first | ((with_reducible refine gate_callee (f := 54) rfl ?_); refine goesL_ (some 12) rfl rfl Try.func54 (by kernel_rfl) rfl #[.pointer (some ⟨g, 0, none⟩), .int .i64 3] rfl ar_ ?_; (with_reducible refine (spec_l20Rd_pick.calls k1 g s0_0 x1001_1 3 t353 t354 w0 _ ?side1 ?side2 A6.out).mono ?_); (case side1 => exact is113_ HI0.out); (case side2 => exact hb113_ HB.out); rintro e w15 ⟨rfl, hi, hb, hk⟩; refine ⟨_, rfl, ?_⟩; replace HO_5 := (rk113_ HI0 HO_5 hk); replace HK := (kk_ HK hk); replace HB := Aside0.mk (hb); replace HI0 := Aside0.mk (hi); (try clear hb); (try clear hb2); (try clear hk); (try clear hi)) | ((with_reducible refine gate_callee (f := 54) rfl ?_); refine goesL_ (some 22) rfl rfl Try.func54 (by kernel_rfl) rfl #[.pointer (some ⟨g, 0, none⟩), .int .i64 3] rfl ar_ ?_; (with_reducible refine (spec_l20Rd_pick.calls k1 g s0_0 t354 3 t360 t361 w0 _ ?side1 ?side2 A13.out).mono ?_); (case side1 => exact is113_ HI0.out); (case side2 => exact hb113_ HB.out); rintro e w16 ⟨rfl, hi, hb, hk⟩; refine ⟨_, rfl, ?_⟩; replace HO_5 := (rk113_ HI0 HO_5 hk); replace HK := (kk_ HK hk); replace HB := Aside0.mk (hb); replace HI0 := Aside0.mk (hi); (try clear hb); (try clear hb2); (try clear hk); (try clear hi)) | ((with_reducible refine gate_builtin (b := .append) (xs := #[.tmp 20, .tmp 25]) rfl ?_); at_builtin; refine Kd.R_append (Kd.int .u8) w.heap.size rfl (.tmp 20) (.tmp 25) 22 5 (.int .u8 0) 1 rfl Try.underlying22 info5 rfl (by decide) (by omega) u5 x5_1 ((wrap64 (t360 + 97)) % 256) [.int .u8 ((wrap64 (t360 + 97)) % 256)] (fun _ => True) (fun _ => False) rfl rfl ?aP (fun _ hk => hk.elim) ?aF ?aO (Below.refl _ _) ?aS ?aL ?_; (case aP => exact rfl); (case aF => exact (fun _ _ => trivial)); (case aO => exact (kR_ HO_5.out)); (case aS => exact (keep_size (w := w) (g := g) (row := none) (hkA_ HK.out))); (case aL => have := LMc14.out; omega); intro v363 w17 ho hb hg hat; rw [← Ny362.out] at ho; replace HI0 := Aside0.mk (IsS113.grown (is113_ HI0.out) hg (IsS113.own_ne HI0.out HO_5.out (by decide))); replace HB := Aside0.mk (below_weaken (hb113_ HB.out) HL.out hb); replace HK := Aside0.mk (KeepBut.trans (hkA_ HK.out) (KeepBut.of_grown hg g) (Kd.R_base2 HO_5.out)); have HO364 := Aside0.mk (ho); clear HO_5; clear ho hb hg hat))
      go_roundg k1
      case measure => have := HK1.out; omega
      case rel => exact ⟨(wrap64 (x1_1 - 1)), (y362), (t361), (by first | rfl | (simp; done) | (simp [*]; done)), H', ⟨by have := HK1.out; omega⟩, ⟨kR_ HO364.out⟩, ⟨is113_ HI0.out⟩, ⟨hkA_ HK.out⟩, ⟨hb113_ HB.out⟩⟩
     ·rw [if_neg c14] at H
      exact absurd H (by simp)
   ·rw [if_neg c5] at H
    have c5b0 : decide (0 < x1_1) = false := decide_eq_false c5
    clear c5
    simp only [Option.some.injEq, Prod.mk.injEq] at H
    obtain ⟨rfl, rfl⟩ := H
    go_wp2
    go_ret
    exact ⟨_, by first | rfl | (simp [errW_none, errW_some] <;> rfl) | (simp [*, errW_none, errW_some] <;> rfl), kR_ HO_5.out, is113_ HI0.out, hb113_ HB.out, hkA_ HK.out⟩
def spec_DrawEarHear.f (k : Nat) (l0 : List Int) : Option (Int × Int × List Int × (List (S96)) × Int × List Int) := (spec_l20Open.f l0).bind fun bt366 => ((spec_l20Ear.f k bt366.1 bt366.2 15).bind fun bt369 => ((spec_l20Rd_pick.f k bt366.1 bt369.2.2.2.2 16).bind fun bt379 => ((spec_l20Rd_pick.f k bt366.1 bt379.2 5).bind fun bt381 => (if bt381.1 = 0 then ((spec_l20Rd_pick.f k bt366.1 bt381.2 9).bind fun bt383 => ((spec_l20Rd_bytes.f k bt366.1 bt383.2 bt383.1).bind fun bt385 => (some (bt369.1, bt369.2.1, bt369.2.2.1, bt369.2.2.2.1, mx (wrap64 ((wrap64 (bt369.1 + bt379.1)) - 5)) 0, bt385.1)))) else ((spec_l20Rd_pick.f k bt366.1 bt381.2 9).bind fun bt389 => ((spec_l20Heard.f k (mx (wrap64 ((wrap64 (bt369.1 + bt379.1)) - 5)) 0) bt389.1).bind fun t391 => (some (bt369.1, bt369.2.1, bt369.2.2.1, bt369.2.2.2.1, mx (wrap64 ((wrap64 (bt369.1 + bt379.1)) - 5)) 0, t391))))))))
theorem spec_DrawEarHear.mono : ∀ a0 k, LeO (spec_DrawEarHear.f k a0) (spec_DrawEarHear.f (k + 1) a0) := by
 intro a0 k
 unfold spec_DrawEarHear.f
 repeat' first | (with_reducible first | apply spec_l20Ear.mono | apply spec_l20Heard.mono | apply spec_l20Rd_bytes.mono | apply spec_l20Rd_pick.mono | exact LeO.refl _ | exact LeO.none _ | refine LeO.ite ?_ ?_ | refine LeO.bind ?_ fun _ => ?_) | apply spec_l20Ear.mono | apply spec_l20Heard.mono | apply spec_l20Rd_bytes.mono | apply spec_l20Rd_pick.mono | exact LeO.none _ | refine LeO.ite ?_ ?_ | refine LeO.bind ?_ fun _ => ?_
def spec_DrawEarHear.T3 : Bool × List (List Nat × List Nat) := (true, [([], []), ([0], [0]), ([], []), ([2], [2]), ([1, 3], [1, 3]), ([4], [4]), ([5], [5]), ([6, 3, 0, 1, 2, 3, 4, 5, 6], [6])])
def spec_DrawEarHear.B3 : List Nat := [0, 1, 0, 4, 15, 31, 63, 127]
theorem spec_DrawEarHear.tab3 : rtab .any (opsOf Try.f33 3) = spec_DrawEarHear.T3 := by kernel_rfl
theorem spec_DrawEarHear.bits3 : waitsOk spec_DrawEarHear.T3.2 spec_DrawEarHear.B3 = true := by kernel_rfl
def spec_DrawEarHear.T5 : Bool × List (List Nat × List Nat) := (true, [([], []), ([], []), ([], []), ([], []), ([3], [3]), ([2, 4, 4], [2, 4]), ([0, 5, 0], [0]), ([1, 6, 0, 1, 6], [1]), ([5, 7, 0, 1, 2, 3, 4, 5, 6, 7], [5])])
def spec_DrawEarHear.B5 : List Nat := [0, 0, 0, 0, 8, 28, 61, 127, 255]
theorem spec_DrawEarHear.tab5 : rtab .any (opsOf Try.f33 5) = spec_DrawEarHear.T5 := by kernel_rfl
theorem spec_DrawEarHear.bits5 : waitsOk spec_DrawEarHear.T5.2 spec_DrawEarHear.B5 = true := by kernel_rfl
def spec_DrawEarHear.T6 : Bool × List (List Nat × List Nat) := (true, [([], []), ([], []), ([], []), ([], []), ([3], [3]), ([2, 4, 4], [2, 4]), ([0, 5, 0], [0]), ([1, 6, 0, 1, 6], [1]), ([5, 7, 0, 1, 2, 3, 4, 5, 6, 7], [5])])
def spec_DrawEarHear.B6 : List Nat := [0, 0, 0, 0, 8, 28, 61, 127, 255]
theorem spec_DrawEarHear.tab6 : rtab .any (opsOf Try.f33 6) = spec_DrawEarHear.T6 := by kernel_rfl
theorem spec_DrawEarHear.bits6 : waitsOk spec_DrawEarHear.T6.2 spec_DrawEarHear.B6 = true := by kernel_rfl
set_option maxHeartbeats 8000000 in
set_option maxRecDepth 100000 in
theorem spec_DrawEarHear.calls (k : Nat) (A0 : Option Addr) (c0 : Nat) (l0 : List Int) (r1 : Int) (r2 : Int) (r3 : List Int) (r4 : List (S96)) (r5 : Int) (r6 : List Int) (w : World) (hr0 : Kd.C (Kd.int .u8) w A0 l0.length l0) (hc0 : l0.length ≤ c0) (h : spec_DrawEarHear.f k l0 = some (r1, r2, r3, r4, r5, r6)) :
  Calls Try.prog 33 #[.slice A0 l0.length c0] w fun e w' => ∃ v2_ v3_ v5_ : Value, e = .returned (.tuple #[.agg #[.int .i64 r1, .int .i64 r2, v2_, v3_], .int .i64 r5, v5_]) ∧ Kd.R (Kd.int .u8) 5 w' w.heap.size (fun k_ => some k_ ≠ (v5_ : Value).ownBlock) v2_ r3 ∧ Kd.Q k96 96 w' w.heap.size (fun _ => True) v3_ r4 ∧ Kd.R (Kd.int .u8) 5 w' w.heap.size (fun k_ => some k_ ≠ (v2_ : Value).ownBlock) v5_ r6 ∧ Below w.heap.size w w' := by
 have hu48 := Try.underlying48; have HR0 := Aside0.mk hr0; have HC0 := Aside0.mk hc0; clear hr0 hc0
 have HB := Aside0.mk (Below.refl w.heap.size w)
 have H : ((spec_l20Open.f l0).bind fun bt366 => ((spec_l20Ear.f k bt366.1 bt366.2 15).bind fun bt369 => ((spec_l20Rd_pick.f k bt366.1 bt369.2.2.2.2 16).bind fun bt379 => ((spec_l20Rd_pick.f k bt366.1 bt379.2 5).bind fun bt381 => (if bt381.1 = 0 then ((spec_l20Rd_pick.f k bt366.1 bt381.2 9).bind fun bt383 => ((spec_l20Rd_bytes.f k bt366.1 bt383.2 bt383.1).bind fun bt385 => (some (bt369.1, bt369.2.1, bt369.2.2.1, bt369.2.2.2.1, mx (wrap64 ((wrap64 (bt369.1 + bt379.1)) - 5)) 0, bt385.1)))) else ((spec_l20Rd_pick.f k bt366.1 bt381.2 9).bind fun bt389 => ((spec_l20Heard.f k (mx (wrap64 ((wrap64 (bt369.1 + bt379.1)) - 5)) 0) bt389.1).bind fun t391 => (some (bt369.1, bt369.2.1, bt369.2.2.1, bt369.2.2.2.1, mx (wrap64 ((wrap64 (bt369.1 + bt379.1)) - 5)) 0, t391))))))))) = some (r1, r2, r3, r4, r5, r6) := h
 clear h
 replace H := Option.bind_eq_some_iff.mp H
 obtain ⟨⟨t366, t367⟩, A20, H⟩ := H
 (try dsimp only at H)
 have A2 := Aside0.mk A20; clear A20
 replace H := Option.bind_eq_some_iff.mp H
 obtain ⟨⟨t369, t370, t371, t374, t377⟩, A30, H⟩ := H
 (try dsimp only at H)
 have A3 := Aside0.mk A30; clear A30
 replace H := Option.bind_eq_some_iff.mp H
 obtain ⟨⟨t379, t380⟩, A40, H⟩ := H
 (try dsimp only at H)
 have A4 := Aside0.mk A40; clear A40
 obtain ⟨ji5, hji5⟩ : ∃ j_ : Int, (mx (wrap64 ((wrap64 (t369 + t379)) - 5)) 0) = j_ := ⟨_, rfl⟩
 (first | rw [hji5] at H | simp only [hji5] at H)
 (try rw [hji5] at A2)
 (try rw [hji5] at A3)
 (try rw [hji5] at A4)
 (try (have hji5l : 0 ≤ ji5 := by (rw [← hji5]; unfold mx; (repeat' split) <;> omega)))
 (try (have hji5m : 0 ≤ ji5 := by omega))
 have hji5_ : (if (wrap64 ((wrap64 (t369 + t379)) - 5)) < 0 then 0 else (wrap64 ((wrap64 (t369 + t379)) - 5))) = ji5 := hji5
 replace H := Option.bind_eq_some_iff.mp H
 obtain ⟨⟨t381, t382⟩, A60, H⟩ := H
 (try dsimp only at H)
 have A6 := Aside0.mk A60; clear A60
 by_cases c7 : t381 = 0
 ·rw [if_pos c7] at H
  have c7b0 : (t381 == 0) = true := beq_iff_eq.mpr c7
  have c7b1 : (t381 != 0) = false := bne_eq_false_iff_eq.mpr c7
  clear c7
  replace H := Option.bind_eq_some_iff.mp H
  obtain ⟨⟨t383, t384⟩, A80, H⟩ := H
  (try dsimp only at H)
  have A8 := Aside0.mk A80; clear A80
  replace H := Option.bind_eq_some_iff.mp H
  obtain ⟨⟨t385, t388⟩, A90, H⟩ := H
  (try dsimp only at H)
  have A9 := Aside0.mk A90; clear A90
  simp only [Option.some.injEq, Prod.mk.injEq] at H
  obtain ⟨rfl, rfl, rfl, rfl, rfl, rfl⟩ := H
  go_enter Try.func33, Try.ntmps33
  try go_wp2_with (first | ((with_reducible refine gate_dst (N := 2) rfl ?_); refine box_ (N := 2) (cs := #[.int .i64 0, .int .i64 0, .slice none 0 0, .slice none 0 0]) (t := 48) (fun gb365 hg w10 hbox hb => ?_); have BK365 := Aside0.mk (hbox); have GW365 := ge_ hg HB; have GE365 := ge_ hg HB; replace HB := (bs_ HB hb); clear hb hbox hg) | ((with_reducible refine gate_callee (f := 52) rfl ?_); refine goesL_ (some 9) rfl rfl Try.func52 (by kernel_rfl) rfl #[.slice A0 l0.length c0] rfl ar_ ?_; (with_reducible refine (spec_l20Open.calls _ _ l0 t366 t367 w _ ?side1 ?side2 ?side3 A2.out).mono ?_); (case side1 => exact hbA_ HB.out); (case side2 => exact HR0.out); (case side3 => exact HC0.out); rintro e w11 ⟨g368, rfl, hi, hb, hb2⟩; refine ⟨_, rfl, ?_⟩; replace HB := Aside0.mk (hb); have HI368 := Aside0.mk (hi); have NB368_365 := Aside0.mk (IsS113.ne_blk hi (bb_ BK365 hb2) (by decide)); have NB365_368 := Aside0.mk (Ne.symm (IsS113.ne_blk hi (bb_ BK365 hb2) (by decide))); replace BK365 := (bbA_ BK365 hb2); (try clear hb); (try clear hb2); (try clear hk); (try clear hi)) | ((with_reducible refine gate_callee (f := 74) rfl ?_); refine goesL_ (some 11) rfl rfl Try.func74 (by kernel_rfl) rfl #[.pointer (some ⟨g368, 0, none⟩), .int .i64 15] rfl ar_ ?_; (with_reducible refine (spec_l20Ear.calls k g368 t366 t367 15 t369 t370 t371 t374 t377 w _ ?side1 ?side2 A3.out).mono ?_); (case side1 => exact is113_ HI368.out); (case side2 => exact hb113_ HB.out); rintro e w12 ⟨v372, v375, rfl, ho0, ho1, hi, hb, hk⟩; refine ⟨_, rfl, ?_⟩; replace BK365 := (bkA_ BK365 hk NB365_368); have HO373 := Aside0.mk (Kd.R_lower ho0 (below_size (hb113_ HB.out))); have HO376 := Aside0.mk (Kd.Q_lower ho1 (below_size (hb113_ HB.out))); replace HB := Aside0.mk (hb); replace HI368 := Aside0.mk (hi); (try clear hb); (try clear hb2); (try clear hk); (try clear hi); (try clear ho0); (try clear ho1)) | ((with_reducible refine gate_dst (N := 6) rfl ?_); refine box_ (N := 6) (cs := #[.int .i64 0, .int .i64 0, .slice none 0 0, .slice none 0 0]) (t := 48) (fun gb378 hg w13 hbox hb => ?_); replace HO373 := Aside0.mk (Kd.R_below (kR_ HO373.out) hb); replace HO376 := Aside0.mk (Kd.Q_below (by (with_reducible repeat (first | apply Kd.Q_alloc | apply Kd.Q_drewN | apply Kd.Q_drew)); exact HO376.out) hb); have BK378 := Aside0.mk (hbox); have GW378 := ge113_ hg HB; have GE378 := ge113_ hg HB; replace HB := (bs113_ HB hb); have NB365_378 := nl_ hg BK365; have NB378_365 := ng_ hg BK365; replace BK365 := (bbA_ BK365 hb); have NB368_378 := nl113_ hg HI368; have NB378_368 := ng113_ hg HI368; replace HI368 := (ib113_ HI368 hb); clear hb hbox hg; have hnb14 := NB378_365.out; have hnc14 := NB365_378.out; have hnb15 := NB378_368.out; have hnc15 := NB368_378.out; have Z16 := zz4 BK378; obtain ⟨Ao17, co17, eo17⟩ := Kd.R_slice HO373.out; subst eo17; obtain ⟨Ao18, co18, eo18, _⟩ := Kd.Q_slice HO376.out; subst eo18))
  obtain ⟨w19, h_w19⟩ : ∃ w_, ((((w13.setCell ⟨gb378, 0, none⟩ (.int .i64 t369)).setCell ⟨gb378, 1, none⟩ (.int .i64 t370)).setCell ⟨gb378, 2, none⟩ (.slice Ao17 t371.length co17)).setCell ⟨gb378, 3, none⟩ (.slice Ao18 t374.length co18)) = w_ := ⟨_, rfl⟩
  have n0_ : Aside0 (Kd.R (Kd.int .u8) 5 w19 w.heap.size (fun _ => True) (.slice Ao17 t371.length co17) t371) := ⟨by subst h_w19; refine kR_ ?_; exact rfm_ ((Kd.R_types HO373.out BK378.out (by decide))) (fun _ hk => trivial)⟩
  have n1_ : Aside0 (Kd.Q k96 96 w19 w.heap.size (fun _ => True) (.slice Ao18 t374.length co18) t374) := ⟨by subst h_w19; (with_reducible repeat (first | apply Kd.Q_alloc | apply Kd.Q_drewN | apply Kd.Q_drew)); exact Kd.Q_mono (Kd.Q_far (p := ⟨gb378, 3, none⟩) (Kd.Q_far (p := ⟨gb378, 2, none⟩) (Kd.Q_far (p := ⟨gb378, 1, none⟩) (Kd.Q_far (p := ⟨gb378, 0, none⟩) (Kd.Q_types HO376.out BK378.out (by decide)) (fun _ hk => hk.2) (.int .i64 t369)) (fun _ hk => hk.2) (.int .i64 t370)) (fun _ hk => hk.2) (.slice Ao17 t371.length co17)) (fun _ hk => hk.2) (.slice Ao18 t374.length co18)) (fun _ hk => trivial)⟩
  have n2_ : Aside0 (w19.heap[gb365]? = some (.cells #[.int .i64 0, .int .i64 0, .slice none 0 0, .slice none 0 0] 48 (0, 0))) := ⟨by subst h_w19; exact kf_ BK365.out⟩
  have n3_ : Aside0 (w19.heap[gb378]? = some (.cells #[.int .i64 t369, .int .i64 t370, .slice Ao17 t371.length co17, .slice Ao18 t374.length co18] 48 (0, 0))) := ⟨by subst h_w19; refine kb_ ?_; refine pz4 (cs := #[.int .i64 0, .int .i64 0, .slice none 0 0, .slice none 0 0]) ?_; refine kb_ ?_; exact BK378.out⟩
  have n4_ : Aside0 (IsS113 w w19 g368 t366 t377) := ⟨by subst h_w19; exact is113_ HI368.out⟩
  have n5_ : Aside0 (Below w.heap.size w w19) := ⟨by subst h_w19; exact hb113_ HB.out⟩
  (try clear HO373); (try clear HO376); (try clear BK365); (try clear BK378); (try clear HI368); (try clear HB)
  (try rw [h_w19]); clear h_w19
  have HO373 := n0_; have HO376 := n1_; have BK365 := n2_; have BK378 := n3_; have HI368 := n4_; have HB := n5_; clear n0_ n1_ n2_ n3_ n4_ n5_; replace HO373 := Aside0.mk (Kd.R_drew HO373.out); replace HO376 := Aside0.mk (Kd.Q_drew HO376.out); replace BK365 := Aside0.mk (blk_drew BK365.out); replace BK378 := Aside0.mk (blk_drew BK378.out); replace HI368 := Aside0.mk (IsS113.drew HI368.out); replace HB := (bd_ HB)
  refine start_ (n := 8) (S := fun w' => w'.cell? ⟨gb378, 0, none⟩ = some (.int .i64 t369) ∧ w'.cell? ⟨gb378, 1, none⟩ = some (.int .i64 t370) ∧ w'.cell? ⟨gb378, 2, none⟩ = some (.slice Ao17 t371.length co17) ∧ w'.cell? ⟨gb378, 3, none⟩ = some (.slice Ao18 t374.length co18)) (ds := []) #[false, false, false, false, false, false, false, false] (by kernel_rfl) rfl rfl (cz4 BK378.out) (fun hHeld => ?_); refine with_tabW spec_DrawEarHear.tab3 spec_DrawEarHear.bits3 (fun HT_ HW_ => ?_)
  generalize w19.drew = w20 at HO373 HO376 BK365 BK378 HI368 HB hHeld ⊢
  refine pu_ (i := 0) (N := some 12) HT_ ?_; refine pu_ (i := 2) (N := some 14) HT_ ?_; refine tk_ (i := 1) (N := some 13) HT_ HW_ hHeld ?_
  refine on_ (i := 3) (N := some 15) HT_ (fun K hK => ?_)
  refine goes_ Try.func54 (by kernel_rfl) rfl #[.pointer (some ⟨g368, 0, none⟩), .int .i64 16] (by rfl) rfl rfl ar_ ?_
  with_reducible refine (spec_l20Rd_pick.calls k g368 t366 t377 16 t379 t380 w _ ?side1 ?side2 A4.out).mono ?_
  (case side1 => exact is113_ HI368.out)
  (case side2 => exact hb113_ HB.out)
  rintro e w21 ⟨rfl, hi, hb, hk⟩
  refine ⟨_, rfl, ?_⟩
  replace BK365 := (bkA_ BK365 hk NB365_368); replace HO373 := (rk113_ HI368 HO373 hk); replace HO376 := Aside0.mk (Kd.Q_mono (Kd.Q_keep (IsS113.apartQ (show IsS113 w _ g368 t366 t377 from is113_ HI368.out) (by (with_reducible repeat (first | apply Kd.Q_alloc | apply Kd.Q_drewN | apply Kd.Q_drew)); exact HO376.out) (by decide)) hk (fun _ h => h.2)) (fun _ h => h.1)); replace BK378 := (bkA_ BK378 hk NB378_368); replace HB := Aside0.mk (hb); replace HI368 := Aside0.mk (hi); (try clear hb); (try clear hb2); (try clear hk); (try clear hi)
  refine hK.out _ _ (cz4 BK378.out) (fun hHeld => ?_)
  clear hK K; refine nm_ 15 ?_; refine pu_ (i := 4) (N := some 16) HT_ ?_; refine pu_ (i := 5) (N := some 17) HT_ ?_; refine pu_ (i := 6) (N := some 18) HT_ ?_; refine pu_ (i := 7) (N := some 7) HT_ ?_
  refine done_ (done_of HT_.out (by kernel_rfl)) ?_
  try go_wp2_with (first | ((with_reducible refine gate_callee (f := 54) rfl ?_); refine goesL_ (some 20) rfl rfl Try.func54 (by kernel_rfl) rfl #[.pointer (some ⟨g368, 0, none⟩), .int .i64 5] rfl ar_ ?_; (with_reducible refine (spec_l20Rd_pick.calls k g368 t366 t380 5 t381 t382 w _ ?side1 ?side2 A6.out).mono ?_); (case side1 => exact is113_ HI368.out); (case side2 => exact hb113_ HB.out); rintro e w22 ⟨rfl, hi, hb, hk⟩; refine ⟨_, rfl, ?_⟩; replace BK365 := (bkA_ BK365 hk NB365_368); replace HO373 := (rk113_ HI368 HO373 hk); replace HO376 := Aside0.mk (Kd.Q_mono (Kd.Q_keep (IsS113.apartQ (show IsS113 w _ g368 t366 t380 from is113_ HI368.out) (by (with_reducible repeat (first | apply Kd.Q_alloc | apply Kd.Q_drewN | apply Kd.Q_drew)); exact HO376.out) (by decide)) hk (fun _ h => h.2)) (fun _ h => h.1)); replace BK378 := (bkA_ BK378 hk NB378_368); replace HB := Aside0.mk (hb); replace HI368 := Aside0.mk (hi); (try clear hb); (try clear hb2); (try clear hk); (try clear hi)))
  replace HO373 := Aside0.mk (Kd.R_drew HO373.out); replace HO376 := Aside0.mk (Kd.Q_drew HO376.out); replace BK365 := Aside0.mk (blk_drew BK365.out); replace BK378 := Aside0.mk (blk_drew BK378.out); replace HI368 := Aside0.mk (IsS113.drew HI368.out); replace HB := (bd_ HB)
  refine start_ (n := 9) (S := fun w' => w'.cell? ⟨gb378, 0, none⟩ = some (.int .i64 t369) ∧ w'.cell? ⟨gb378, 1, none⟩ = some (.int .i64 t370) ∧ w'.cell? ⟨gb378, 2, none⟩ = some (.slice Ao17 t371.length co17) ∧ w'.cell? ⟨gb378, 3, none⟩ = some (.slice Ao18 t374.length co18)) (ds := []) #[false, false, false, false, false, false, false, false, false] (by kernel_rfl) rfl rfl (cz4 BK378.out) (fun hHeld => ?_); refine with_tabW spec_DrawEarHear.tab5 spec_DrawEarHear.bits5 (fun HT_ HW_ => ?_)
  generalize w22.drew = w23 at HO373 HO376 BK365 BK378 HI368 HB hHeld ⊢
  refine pu_ (i := 1) (N := some 23) HT_ ?_; refine pu_ (i := 2) (N := some 24) HT_ ?_; refine pu_ (i := 3) (N := some 25) HT_ ?_; refine tk_ (i := 0) (N := some 22) HT_ HW_ hHeld ?_
  refine on_ (i := 4) (N := some 26) HT_ (fun K hK => ?_)
  refine goes_ Try.func54 (by kernel_rfl) rfl #[.pointer (some ⟨g368, 0, none⟩), .int .i64 9] (by rfl) rfl rfl ar_ ?_
  with_reducible refine (spec_l20Rd_pick.calls k g368 t366 t382 9 t383 t384 w _ ?side1 ?side2 A8.out).mono ?_
  (case side1 => exact is113_ HI368.out)
  (case side2 => exact hb113_ HB.out)
  rintro e w24 ⟨rfl, hi, hb, hk⟩
  refine ⟨_, rfl, ?_⟩
  replace BK365 := (bkA_ BK365 hk NB365_368); replace HO373 := (rk113_ HI368 HO373 hk); replace HO376 := Aside0.mk (Kd.Q_mono (Kd.Q_keep (IsS113.apartQ (show IsS113 w _ g368 t366 t382 from is113_ HI368.out) (by (with_reducible repeat (first | apply Kd.Q_alloc | apply Kd.Q_drewN | apply Kd.Q_drew)); exact HO376.out) (by decide)) hk (fun _ h => h.2)) (fun _ h => h.1)); replace BK378 := (bkA_ BK378 hk NB378_368); replace HB := Aside0.mk (hb); replace HI368 := Aside0.mk (hi); (try clear hb); (try clear hb2); (try clear hk); (try clear hi)
  refine hK.out _ _ (cz4 BK378.out) (fun hHeld => ?_)
  clear hK K; refine nm_ 26 ?_
  refine on_ (i := 5) (N := some 27) HT_ (fun K hK => ?_)
  refine goes_ Try.func75 (by kernel_rfl) rfl #[.pointer (some ⟨g368, 0, none⟩), .int .i64 t383] (by rfl) rfl rfl ar_ ?_
  with_reducible refine (spec_l20Rd_bytes.calls k g368 t366 t384 t383 t385 t388 w _ ?side1 ?side2 A9.out).mono ?_
  (case side1 => exact is113_ HI368.out)
  (case side2 => exact hb113_ HB.out)
  rintro e w25 ⟨v386, rfl, ho0, hi, hb, hk⟩
  refine ⟨_, rfl, ?_⟩
  replace BK365 := (bkA_ BK365 hk NB365_368); replace HO376 := Aside0.mk (Kd.Q_mono (Kd.Q_keep (IsS113.apartQ (show IsS113 w _ g368 t366 t384 from is113_ HI368.out) (by (with_reducible repeat (first | apply Kd.Q_alloc | apply Kd.Q_drewN | apply Kd.Q_drew)); exact HO376.out) (by decide)) hk (fun _ h => h.2)) (fun _ h => h.1)); replace BK378 := (bkA_ BK378 hk NB378_368); have HO387 := Aside0.mk (Kd.R_lower (Kd.R_new' ho0 (Kd.R_lt (kR_ HO373.out))) (below_size (hb113_ HB.out))); replace HO373 := Aside0.mk (Kd.R_mono (Kd.R_told (Kd.R_oldK (IsS113.apart (show IsS113 w _ g368 t366 t384 from is113_ HI368.out) (kR_ HO373.out) (by decide)) hk) (Kd.R_base ho0)) (fun _ h_ => op1_ h_)); replace HB := Aside0.mk (hb); replace HI368 := Aside0.mk (hi); (try clear hb); (try clear hb2); (try clear hk); (try clear hi); (try clear ho0)
  refine hK.out _ _ (cz4 BK378.out) (fun hHeld => ?_)
  clear hK K; refine nm_ 27 ?_
  refine on_ (i := 6) (N := none) HT_ (fun K hK => ?_)
  have hs26 : w25.cell? ⟨gb365, 0, none⟩ = some (.int .i64 0) := bc_ BK365 0
  have hfs26 := blk_frozen BK365.out 0
  have hns26_1 := NB378_365.out; have hms26_1 := NB365_378.out
  have hs27 : w25.cell? ⟨gb365, 1, none⟩ = some (.int .i64 0) := bc_ BK365 1
  have hfs27 := blk_frozen BK365.out 1
  have hns27_1 := NB378_365.out; have hms27_1 := NB365_378.out
  have hs28 : w25.cell? ⟨gb365, 2, none⟩ = some (.slice none 0 0) := bc_ BK365 2
  have hfs28 := blk_frozen BK365.out 2
  have hns28_1 := NB378_365.out; have hms28_1 := NB365_378.out
  have hs29 : w25.cell? ⟨gb365, 3, none⟩ = some (.slice none 0 0) := bc_ BK365 3
  have hfs29 := blk_frozen BK365.out 3
  have hns29_1 := NB378_365.out; have hms29_1 := NB365_378.out
  refine skip_ (w1 := ?_) (by rfl) rfl ?_ ?_
  rotate_left
  ·go_simp
   rfl
  refine hK.out _ _ ⟨((cell_far (p := ⟨gb365, _, none⟩) NB378_365.out _).trans (((cell_far (p := ⟨gb365, _, none⟩) NB378_365.out _).trans (((cell_far (p := ⟨gb365, _, none⟩) NB378_365.out _).trans (((cell_far (p := ⟨gb365, _, none⟩) NB378_365.out _).trans (hHeld.1)))))))), ((cell_far (p := ⟨gb365, _, none⟩) NB378_365.out _).trans (((cell_far (p := ⟨gb365, _, none⟩) NB378_365.out _).trans (((cell_far (p := ⟨gb365, _, none⟩) NB378_365.out _).trans (((cell_far (p := ⟨gb365, _, none⟩) NB378_365.out _).trans (hHeld.2.1)))))))), ((cell_far (p := ⟨gb365, _, none⟩) NB378_365.out _).trans (((cell_far (p := ⟨gb365, _, none⟩) NB378_365.out _).trans (((cell_far (p := ⟨gb365, _, none⟩) NB378_365.out _).trans (((cell_far (p := ⟨gb365, _, none⟩) NB378_365.out _).trans (hHeld.2.2.1)))))))), ((cell_far (p := ⟨gb365, _, none⟩) NB378_365.out _).trans (((cell_far (p := ⟨gb365, _, none⟩) NB378_365.out _).trans (((cell_far (p := ⟨gb365, _, none⟩) NB378_365.out _).trans (((cell_far (p := ⟨gb365, _, none⟩) NB378_365.out _).trans (hHeld.2.2.2))))))))⟩ (fun hHeld => ?_)
  clear hK K; refine pu_ (i := 7) (N := some 3) HT_ ?_; refine pu_ (i := 8) (N := some 4) HT_ ?_
  refine done_ (done_of HT_.out (by kernel_rfl)) ?_
  try go_wp2
  refine bodyPost_ret (results_ctt rfl _ _ gb365 48 #[.int .i64 t369, .int .i64 t370, .slice Ao17 t371.length co17, .slice Ao18 t374.length co18] (0, 0) _ rfl (by refine kb_ ?_; refine pz4 (cs := #[.int .i64 0, .int .i64 0, .slice none 0 0, .slice none 0 0]) ?_; refine kb_ ?_; exact BK365.out) Try.underlying48 rfl (by kernel_rfl)) rfl ?_
  exact ⟨_, _, _, by first | rfl | (simp [errW_none, errW_some] <;> rfl) | (simp only [← hji5]; first | rfl | (simp [errW_none, errW_some] <;> rfl)) | (simp [*, errW_none, errW_some] <;> rfl), by refine kR_ ?_; exact rfm_ ((Kd.R_types HO373.out BK365.out (by decide))) (fun _ hk => hk.1.2), by (with_reducible repeat (first | apply Kd.Q_alloc | apply Kd.Q_drewN | apply Kd.Q_drew)); exact Kd.Q_mono (Kd.Q_far (p := ⟨gb365, 3, none⟩) (Kd.Q_far (p := ⟨gb365, 2, none⟩) (Kd.Q_far (p := ⟨gb365, 1, none⟩) (Kd.Q_far (p := ⟨gb365, 0, none⟩) (Kd.Q_types HO376.out BK365.out (by decide)) (fun _ hk => hk.2) (.int .i64 t369)) (fun _ hk => hk.2) (.int .i64 t370)) (fun _ hk => hk.2) (.slice Ao17 t371.length co17)) (fun _ hk => hk.2) (.slice Ao18 t374.length co18)) (fun _ hk => trivial), by refine kR_ ?_; exact rfm_ ((Kd.R_types HO387.out BK365.out (by decide))) (fun _ hk => hk.1.2), hb113_ HB.out⟩
 ·rw [if_neg c7] at H
  have c7b0 : (t381 == 0) = false := beq_eq_false_iff_ne.mpr c7
  have c7b1 : (t381 != 0) = true := bne_iff_ne.mpr c7
  replace H := Option.bind_eq_some_iff.mp H
  obtain ⟨⟨t389, t390⟩, A300, H⟩ := H
  (try dsimp only at H)
  have A30 := Aside0.mk A300; clear A300
  replace H := Option.bind_eq_some_iff.mp H
  obtain ⟨t391, A310, H⟩ := H
  (try dsimp only at H)
  have A31 := Aside0.mk A310; clear A310
  simp only [Option.some.injEq, Prod.mk.injEq] at H
  obtain ⟨rfl, rfl, rfl, rfl, rfl, rfl⟩ := H
  go_enter Try.func33, Try.ntmps33
  try go_wp2_with (first | ((with_reducible refine gate_dst (N := 2) rfl ?_); refine box_ (N := 2) (cs := #[.int .i64 0, .int .i64 0, .slice none 0 0, .slice none 0 0]) (t := 48) (fun gb365 hg w32 hbox hb => ?_); have BK365 := Aside0.mk (hbox); have GW365 := ge_ hg HB; have GE365 := ge_ hg HB; replace HB := (bs_ HB hb); clear hb hbox hg) | ((with_reducible refine gate_callee (f := 52) rfl ?_); refine goesL_ (some 9) rfl rfl Try.func52 (by kernel_rfl) rfl #[.slice A0 l0.length c0] rfl ar_ ?_; (with_reducible refine (spec_l20Open.calls _ _ l0 t366 t367 w _ ?side1 ?side2 ?side3 A2.out).mono ?_); (case side1 => exact hbA_ HB.out); (case side2 => exact HR0.out); (case side3 => exact HC0.out); rintro e w33 ⟨g368, rfl, hi, hb, hb2⟩; refine ⟨_, rfl, ?_⟩; replace HB := Aside0.mk (hb); have HI368 := Aside0.mk (hi); have NB368_365 := Aside0.mk (IsS113.ne_blk hi (bb_ BK365 hb2) (by decide)); have NB365_368 := Aside0.mk (Ne.symm (IsS113.ne_blk hi (bb_ BK365 hb2) (by decide))); replace BK365 := (bbA_ BK365 hb2); (try clear hb); (try clear hb2); (try clear hk); (try clear hi)) | ((with_reducible refine gate_callee (f := 74) rfl ?_); refine goesL_ (some 11) rfl rfl Try.func74 (by kernel_rfl) rfl #[.pointer (some ⟨g368, 0, none⟩), .int .i64 15] rfl ar_ ?_; (with_reducible refine (spec_l20Ear.calls k g368 t366 t367 15 t369 t370 t371 t374 t377 w _ ?side1 ?side2 A3.out).mono ?_); (case side1 => exact is113_ HI368.out); (case side2 => exact hb113_ HB.out); rintro e w34 ⟨v372, v375, rfl, ho0, ho1, hi, hb, hk⟩; refine ⟨_, rfl, ?_⟩; replace BK365 := (bkA_ BK365 hk NB365_368); have HO373 := Aside0.mk (Kd.R_lower ho0 (below_size (hb113_ HB.out))); have HO376 := Aside0.mk (Kd.Q_lower ho1 (below_size (hb113_ HB.out))); replace HB := Aside0.mk (hb); replace HI368 := Aside0.mk (hi); (try clear hb); (try clear hb2); (try clear hk); (try clear hi); (try clear ho0); (try clear ho1)) | ((with_reducible refine gate_dst (N := 6) rfl ?_); refine box_ (N := 6) (cs := #[.int .i64 0, .int .i64 0, .slice none 0 0, .slice none 0 0]) (t := 48) (fun gb378 hg w35 hbox hb => ?_); replace HO373 := Aside0.mk (Kd.R_below (kR_ HO373.out) hb); replace HO376 := Aside0.mk (Kd.Q_below (by (with_reducible repeat (first | apply Kd.Q_alloc | apply Kd.Q_drewN | apply Kd.Q_drew)); exact HO376.out) hb); have BK378 := Aside0.mk (hbox); have GW378 := ge113_ hg HB; have GE378 := ge113_ hg HB; replace HB := (bs113_ HB hb); have NB365_378 := nl_ hg BK365; have NB378_365 := ng_ hg BK365; replace BK365 := (bbA_ BK365 hb); have NB368_378 := nl113_ hg HI368; have NB378_368 := ng113_ hg HI368; replace HI368 := (ib113_ HI368 hb); clear hb hbox hg; have hnb36 := NB378_365.out; have hnc36 := NB365_378.out; have hnb37 := NB378_368.out; have hnc37 := NB368_378.out; have Z38 := zz4 BK378; obtain ⟨Ao39, co39, eo39⟩ := Kd.R_slice HO373.out; subst eo39; obtain ⟨Ao40, co40, eo40, _⟩ := Kd.Q_slice HO376.out; subst eo40))
  obtain ⟨w41, h_w41⟩ : ∃ w_, ((((w35.setCell ⟨gb378, 0, none⟩ (.int .i64 t369)).setCell ⟨gb378, 1, none⟩ (.int .i64 t370)).setCell ⟨gb378, 2, none⟩ (.slice Ao39 t371.length co39)).setCell ⟨gb378, 3, none⟩ (.slice Ao40 t374.length co40)) = w_ := ⟨_, rfl⟩
  have n0_ : Aside0 (Kd.R (Kd.int .u8) 5 w41 w.heap.size (fun _ => True) (.slice Ao39 t371.length co39) t371) := ⟨by subst h_w41; refine kR_ ?_; exact rfm_ ((Kd.R_types HO373.out BK378.out (by decide))) (fun _ hk => trivial)⟩
  have n1_ : Aside0 (Kd.Q k96 96 w41 w.heap.size (fun _ => True) (.slice Ao40 t374.length co40) t374) := ⟨by subst h_w41; (with_reducible repeat (first | apply Kd.Q_alloc | apply Kd.Q_drewN | apply Kd.Q_drew)); exact Kd.Q_mono (Kd.Q_far (p := ⟨gb378, 3, none⟩) (Kd.Q_far (p := ⟨gb378, 2, none⟩) (Kd.Q_far (p := ⟨gb378, 1, none⟩) (Kd.Q_far (p := ⟨gb378, 0, none⟩) (Kd.Q_types HO376.out BK378.out (by decide)) (fun _ hk => hk.2) (.int .i64 t369)) (fun _ hk => hk.2) (.int .i64 t370)) (fun _ hk => hk.2) (.slice Ao39 t371.length co39)) (fun _ hk => hk.2) (.slice Ao40 t374.length co40)) (fun _ hk => trivial)⟩
  have n2_ : Aside0 (w41.heap[gb365]? = some (.cells #[.int .i64 0, .int .i64 0, .slice none 0 0, .slice none 0 0] 48 (0, 0))) := ⟨by subst h_w41; exact kf_ BK365.out⟩
  have n3_ : Aside0 (w41.heap[gb378]? = some (.cells #[.int .i64 t369, .int .i64 t370, .slice Ao39 t371.length co39, .slice Ao40 t374.length co40] 48 (0, 0))) := ⟨by subst h_w41; refine kb_ ?_; refine pz4 (cs := #[.int .i64 0, .int .i64 0, .slice none 0 0, .slice none 0 0]) ?_; refine kb_ ?_; exact BK378.out⟩
  have n4_ : Aside0 (IsS113 w w41 g368 t366 t377) := ⟨by subst h_w41; exact is113_ HI368.out⟩
  have n5_ : Aside0 (Below w.heap.size w w41) := ⟨by subst h_w41; exact hb113_ HB.out⟩
  (try clear HO373); (try clear HO376); (try clear BK365); (try clear BK378); (try clear HI368); (try clear HB)
  (try rw [h_w41]); clear h_w41
  have HO373 := n0_; have HO376 := n1_; have BK365 := n2_; have BK378 := n3_; have HI368 := n4_; have HB := n5_; clear n0_ n1_ n2_ n3_ n4_ n5_; replace HO373 := Aside0.mk (Kd.R_drew HO373.out); replace HO376 := Aside0.mk (Kd.Q_drew HO376.out); replace BK365 := Aside0.mk (blk_drew BK365.out); replace BK378 := Aside0.mk (blk_drew BK378.out); replace HI368 := Aside0.mk (IsS113.drew HI368.out); replace HB := (bd_ HB)
  refine start_ (n := 8) (S := fun w' => w'.cell? ⟨gb378, 0, none⟩ = some (.int .i64 t369) ∧ w'.cell? ⟨gb378, 1, none⟩ = some (.int .i64 t370) ∧ w'.cell? ⟨gb378, 2, none⟩ = some (.slice Ao39 t371.length co39) ∧ w'.cell? ⟨gb378, 3, none⟩ = some (.slice Ao40 t374.length co40)) (ds := []) #[false, false, false, false, false, false, false, false] (by kernel_rfl) rfl rfl (cz4 BK378.out) (fun hHeld => ?_); refine with_tabW spec_DrawEarHear.tab3 spec_DrawEarHear.bits3 (fun HT_ HW_ => ?_)
  generalize w41.drew = w42 at HO373 HO376 BK365 BK378 HI368 HB hHeld ⊢
  refine pu_ (i := 0) (N := some 12) HT_ ?_; refine pu_ (i := 2) (N := some 14) HT_ ?_; refine tk_ (i := 1) (N := some 13) HT_ HW_ hHeld ?_
  refine on_ (i := 3) (N := some 15) HT_ (fun K hK => ?_)
  refine goes_ Try.func54 (by kernel_rfl) rfl #[.pointer (some ⟨g368, 0, none⟩), .int .i64 16] (by rfl) rfl rfl ar_ ?_
  with_reducible refine (spec_l20Rd_pick.calls k g368 t366 t377 16 t379 t380 w _ ?side1 ?side2 A4.out).mono ?_
  (case side1 => exact is113_ HI368.out)
  (case side2 => exact hb113_ HB.out)
  rintro e w43 ⟨rfl, hi, hb, hk⟩
  refine ⟨_, rfl, ?_⟩
  replace BK365 := (bkA_ BK365 hk NB365_368); replace HO373 := (rk113_ HI368 HO373 hk); replace HO376 := Aside0.mk (Kd.Q_mono (Kd.Q_keep (IsS113.apartQ (show IsS113 w _ g368 t366 t377 from is113_ HI368.out) (by (with_reducible repeat (first | apply Kd.Q_alloc | apply Kd.Q_drewN | apply Kd.Q_drew)); exact HO376.out) (by decide)) hk (fun _ h => h.2)) (fun _ h => h.1)); replace BK378 := (bkA_ BK378 hk NB378_368); replace HB := Aside0.mk (hb); replace HI368 := Aside0.mk (hi); (try clear hb); (try clear hb2); (try clear hk); (try clear hi)
  refine hK.out _ _ (cz4 BK378.out) (fun hHeld => ?_)
  clear hK K; refine nm_ 15 ?_; refine pu_ (i := 4) (N := some 16) HT_ ?_; refine pu_ (i := 5) (N := some 17) HT_ ?_; refine pu_ (i := 6) (N := some 18) HT_ ?_; refine pu_ (i := 7) (N := some 7) HT_ ?_
  refine done_ (done_of HT_.out (by kernel_rfl)) ?_
  try go_wp2_with (first | ((with_reducible refine gate_callee (f := 54) rfl ?_); refine goesL_ (some 20) rfl rfl Try.func54 (by kernel_rfl) rfl #[.pointer (some ⟨g368, 0, none⟩), .int .i64 5] rfl ar_ ?_; (with_reducible refine (spec_l20Rd_pick.calls k g368 t366 t380 5 t381 t382 w _ ?side1 ?side2 A6.out).mono ?_); (case side1 => exact is113_ HI368.out); (case side2 => exact hb113_ HB.out); rintro e w44 ⟨rfl, hi, hb, hk⟩; refine ⟨_, rfl, ?_⟩; replace BK365 := (bkA_ BK365 hk NB365_368); replace HO373 := (rk113_ HI368 HO373 hk); replace HO376 := Aside0.mk (Kd.Q_mono (Kd.Q_keep (IsS113.apartQ (show IsS113 w _ g368 t366 t380 from is113_ HI368.out) (by (with_reducible repeat (first | apply Kd.Q_alloc | apply Kd.Q_drewN | apply Kd.Q_drew)); exact HO376.out) (by decide)) hk (fun _ h => h.2)) (fun _ h => h.1)); replace BK378 := (bkA_ BK378 hk NB378_368); replace HB := Aside0.mk (hb); replace HI368 := Aside0.mk (hi); (try clear hb); (try clear hb2); (try clear hk); (try clear hi)))
  replace HO373 := Aside0.mk (Kd.R_drew HO373.out); replace HO376 := Aside0.mk (Kd.Q_drew HO376.out); replace BK365 := Aside0.mk (blk_drew BK365.out); replace BK378 := Aside0.mk (blk_drew BK378.out); replace HI368 := Aside0.mk (IsS113.drew HI368.out); replace HB := (bd_ HB)
  refine start_ (n := 9) (S := fun w' => w'.cell? ⟨gb378, 0, none⟩ = some (.int .i64 t369) ∧ w'.cell? ⟨gb378, 1, none⟩ = some (.int .i64 t370) ∧ w'.cell? ⟨gb378, 2, none⟩ = some (.slice Ao39 t371.length co39) ∧ w'.cell? ⟨gb378, 3, none⟩ = some (.slice Ao40 t374.length co40)) (ds := []) #[false, false, false, false, false, false, false, false, false] (by kernel_rfl) rfl rfl (cz4 BK378.out) (fun hHeld => ?_); refine with_tabW spec_DrawEarHear.tab6 spec_DrawEarHear.bits6 (fun HT_ HW_ => ?_)
  generalize w44.drew = w45 at HO373 HO376 BK365 BK378 HI368 HB hHeld ⊢
  refine pu_ (i := 1) (N := some 29) HT_ ?_; refine pu_ (i := 2) (N := some 30) HT_ ?_; refine pu_ (i := 3) (N := some 31) HT_ ?_; refine tk_ (i := 0) (N := some 28) HT_ HW_ hHeld ?_
  refine on_ (i := 4) (N := some 32) HT_ (fun K hK => ?_)
  refine goes_ Try.func54 (by kernel_rfl) rfl #[.pointer (some ⟨g368, 0, none⟩), .int .i64 9] (by rfl) rfl rfl ar_ ?_
  with_reducible refine (spec_l20Rd_pick.calls k g368 t366 t382 9 t389 t390 w _ ?side1 ?side2 A30.out).mono ?_
  (case side1 => exact is113_ HI368.out)
  (case side2 => exact hb113_ HB.out)
  rintro e w46 ⟨rfl, hi, hb, hk⟩
  refine ⟨_, rfl, ?_⟩
  replace BK365 := (bkA_ BK365 hk NB365_368); replace HO373 := (rk113_ HI368 HO373 hk); replace HO376 := Aside0.mk (Kd.Q_mono (Kd.Q_keep (IsS113.apartQ (show IsS113 w _ g368 t366 t382 from is113_ HI368.out) (by (with_reducible repeat (first | apply Kd.Q_alloc | apply Kd.Q_drewN | apply Kd.Q_drew)); exact HO376.out) (by decide)) hk (fun _ h => h.2)) (fun _ h => h.1)); replace BK378 := (bkA_ BK378 hk NB378_368); replace HB := Aside0.mk (hb); replace HI368 := Aside0.mk (hi); (try clear hb); (try clear hb2); (try clear hk); (try clear hi)
  refine hK.out _ _ (cz4 BK378.out) (fun hHeld => ?_)
  clear hK K; refine nm_ 32 ?_
  refine on_ (i := 5) (N := some 33) HT_ (fun K hK => ?_)
  refine goes_ Try.func76 (by kernel_rfl) rfl #[.int .i64 ji5, .int .i64 t389] (by rfl) rfl rfl (by (try simp only [List.map_toArray, List.map_cons, List.map_nil]); first | done | (simp only [hji5]; rfl) | rfl | (simp only [List.length_drop, List.length_take]; rfl)) ?_
  with_reducible refine (spec_l20Heard.calls k ji5 t389 t391 _ A31.out).mono ?_
  rintro e w47 ⟨v392, rfl, ho0, hb⟩
  refine ⟨_, rfl, ?_⟩
  replace HO376 := Aside0.mk (Kd.Q_below (by (with_reducible repeat (first | apply Kd.Q_alloc | apply Kd.Q_drewN | apply Kd.Q_drew)); exact HO376.out) hb); have HO393 := Aside0.mk (Kd.R_lower (Kd.R_new' ho0 (Kd.R_lt (kR_ HO373.out))) (below_size (hb113_ HB.out))); replace HO373 := Aside0.mk (Kd.R_elder' (kR_ HO373.out) (Kd.R_base ho0) hb); replace BK365 := (bbA_ BK365 hb); replace HI368 := (ib113_ HI368 hb); replace BK378 := (bbA_ BK378 hb); replace HB := (bs113_ HB hb); (try clear hb); (try clear hb2); (try clear hk); (try clear hi); (try clear ho0)
  refine hK.out _ _ (cz4 BK378.out) (fun hHeld => ?_)
  clear hK K; refine nm_ 33 ?_
  refine on_ (i := 6) (N := none) HT_ (fun K hK => ?_)
  have hs48 : w47.cell? ⟨gb365, 0, none⟩ = some (.int .i64 0) := bc_ BK365 0
  have hfs48 := blk_frozen BK365.out 0
  have hns48_1 := NB378_365.out; have hms48_1 := NB365_378.out
  have hs49 : w47.cell? ⟨gb365, 1, none⟩ = some (.int .i64 0) := bc_ BK365 1
  have hfs49 := blk_frozen BK365.out 1
  have hns49_1 := NB378_365.out; have hms49_1 := NB365_378.out
  have hs50 : w47.cell? ⟨gb365, 2, none⟩ = some (.slice none 0 0) := bc_ BK365 2
  have hfs50 := blk_frozen BK365.out 2
  have hns50_1 := NB378_365.out; have hms50_1 := NB365_378.out
  have hs51 : w47.cell? ⟨gb365, 3, none⟩ = some (.slice none 0 0) := bc_ BK365 3
  have hfs51 := blk_frozen BK365.out 3
  have hns51_1 := NB378_365.out; have hms51_1 := NB365_378.out
  refine skip_ (w1 := ?_) (by rfl) rfl ?_ ?_
  rotate_left
  ·go_simp
   rfl
  refine hK.out _ _ ⟨((cell_far (p := ⟨gb365, _, none⟩) NB378_365.out _).trans (((cell_far (p := ⟨gb365, _, none⟩) NB378_365.out _).trans (((cell_far (p := ⟨gb365, _, none⟩) NB378_365.out _).trans (((cell_far (p := ⟨gb365, _, none⟩) NB378_365.out _).trans (hHeld.1)))))))), ((cell_far (p := ⟨gb365, _, none⟩) NB378_365.out _).trans (((cell_far (p := ⟨gb365, _, none⟩) NB378_365.out _).trans (((cell_far (p := ⟨gb365, _, none⟩) NB378_365.out _).trans (((cell_far (p := ⟨gb365, _, none⟩) NB378_365.out _).trans (hHeld.2.1)))))))), ((cell_far (p := ⟨gb365, _, none⟩) NB378_365.out _).trans (((cell_far (p := ⟨gb365, _, none⟩) NB378_365.out _).trans (((cell_far (p := ⟨gb365, _, none⟩) NB378_365.out _).trans (((cell_far (p := ⟨gb365, _, none⟩) NB378_365.out _).trans (hHeld.2.2.1)))))))), ((cell_far (p := ⟨gb365, _, none⟩) NB378_365.out _).trans (((cell_far (p := ⟨gb365, _, none⟩) NB378_365.out _).trans (((cell_far (p := ⟨gb365, _, none⟩) NB378_365.out _).trans (((cell_far (p := ⟨gb365, _, none⟩) NB378_365.out _).trans (hHeld.2.2.2))))))))⟩ (fun hHeld => ?_)
  clear hK K; refine pu_ (i := 7) (N := some 3) HT_ ?_; refine pu_ (i := 8) (N := some 4) HT_ ?_
  refine done_ (done_of HT_.out (by kernel_rfl)) ?_
  try go_wp2
  refine bodyPost_ret (results_ctt rfl _ _ gb365 48 #[.int .i64 t369, .int .i64 t370, .slice Ao39 t371.length co39, .slice Ao40 t374.length co40] (0, 0) _ rfl (by refine kb_ ?_; refine pz4 (cs := #[.int .i64 0, .int .i64 0, .slice none 0 0, .slice none 0 0]) ?_; refine kb_ ?_; exact BK365.out) Try.underlying48 rfl (by kernel_rfl)) rfl ?_
  exact ⟨_, _, _, by first | rfl | (simp [errW_none, errW_some] <;> rfl) | (simp only [← hji5]; first | rfl | (simp [errW_none, errW_some] <;> rfl)) | (simp [*, errW_none, errW_some] <;> rfl), by refine kR_ ?_; exact rfm_ ((Kd.R_types HO373.out BK365.out (by decide))) (fun _ hk => hk.1.2), by (with_reducible repeat (first | apply Kd.Q_alloc | apply Kd.Q_drewN | apply Kd.Q_drew)); exact Kd.Q_mono (Kd.Q_far (p := ⟨gb365, 3, none⟩) (Kd.Q_far (p := ⟨gb365, 2, none⟩) (Kd.Q_far (p := ⟨gb365, 1, none⟩) (Kd.Q_far (p := ⟨gb365, 0, none⟩) (Kd.Q_types HO376.out BK365.out (by decide)) (fun _ hk => hk.2) (.int .i64 t369)) (fun _ hk => hk.2) (.int .i64 t370)) (fun _ hk => hk.2) (.slice Ao39 t371.length co39)) (fun _ hk => hk.2) (.slice Ao40 t374.length co40)) (fun _ hk => trivial), by refine kR_ ?_; exact rfm_ ((Kd.R_types HO393.out BK365.out (by decide))) (fun _ hk => hk.1.2), hb113_ HB.out⟩
end Go.Proofs.Ytbhofhdmbbipgaa.PFnEarHear
