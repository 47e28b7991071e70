/- Printed by wip/xp/xprint.sh out of the translation, for this claim: what each function answers, as a plain function, and that the machine does just that. No condition. -/
import Derived.Test.YtpbeljcgcdilnaaPFnClientOkx0
import Derived.Test.YtpbeljcgcdilnaaPFnClientOkx1
import Derived.Test.YtpbeljcgcdilnaaPFnClientOkx4
namespace Go.Proofs.Ytpbeljcgcdilnaa.PFnClientOk
open Go.RowKit Go.Proofs.YtpbeljcgcdilnaaW.PrintWords Go.Proofs.YtpbeljcgcdilnaaW.PrintLast Go.Proofs.YtpbeljcgcdilnaaW.PrintMore
attribute [local go_sem] max2_int min2_int max_two min_two max_three min_three max_four min_four   -- for this text's walks alone
set_option linter.unusedVariables false
set_option linter.unusedSimpArgs false
def spec_l20Asking.l0 : Nat → Int → Int → List Int → Int → Int → List Int → List (S81) → List Int → Option (Int × List Int × (List (S81)) × List Int × Int)
 | 0, _, _, _, _, _, _, _, _ => none
 | k + 1, x1, x6, x1000, x1001, x308000, x308001, x308002, x308003 => if x6 > 0 then ((spec_l20Rd_pick.f k x1000 x1001 3).bind fun bt310 => (if bt310.1 = 0 then ((spec_l20Words.f k x1000 bt310.2 0).bind fun bt312 => ((spec_ClientHear.f k x308000 x308001 x308002 x308003 bt312.1 bt312.2.1).bind fun bt317 => (spec_l20Asking.l0 k x1 (wrap64 (x6 - 1)) x1000 bt312.2.2 bt317.1 bt317.2.1 bt317.2.2.1 bt317.2.2.2.1))) else (if bt310.1 = 1 then ((spec_l20Rd_pick.f k x1000 bt310.2 6).bind fun bt328 => (if bt328.1 = 0 then ((spec_ClientOver.f k x308000 x308001 x308002 x308003).bind fun bt330 => (spec_l20Asking.l0 k x1 (wrap64 (x6 - 1)) x1000 bt328.2 bt330.1 bt330.2.1 bt330.2.2.1 bt330.2.2.2)) else (spec_l20Asking.l0 k x1 (wrap64 (x6 - 1)) x1000 bt328.2 x308000 x308001 x308002 x308003))) else ((spec_l20Rd_pick.f k x1000 bt310.2 5).bind fun bt340 => ((spec_l20Rd_bytes.f k x1000 bt340.2 bt340.1).bind fun bt342 => ((spec_ClientAsk.f k x308000 x308001 x308002 x308003 bt342.1).bind fun bt346 => (spec_l20Asking.l0 k x1 (wrap64 (x6 - 1)) x1000 bt342.2 bt346.1 bt346.2.1 bt346.2.2.1 bt346.2.2.2.1))))))) else ((spec_l20Rd_odd.f k x1000 x1001 x1).bind fun bt360 => (if bt360.1 = true then ((spec_l20Rd_pick.f k x1000 bt360.2 4).bind fun bt362 => (if bt362.1 = 0 then (some (wrap64 (x308000 + 1), x308001, x308002, x308003, bt362.2)) else (if bt362.1 = 1 then (if x308001.length < 17592186044416 then (some (x308000, (x308001 ++ [0]), x308002, x308003, bt362.2)) else (none)) else (if bt362.1 = 2 then (some (257, x308001, x308002, x308003, bt362.2)) else (if 10 ≤ 281474976710656 then (if x308002.length < 4398046511104 then (some (wrap64 (x308000 + 1), x308001, (x308002 ++ [(⟨x308000, (List.replicate 10 0)⟩ : S81)]), x308003, bt362.2)) else (none)) else (none)))))) else (some (x308000, x308001, x308002, x308003, bt360.2))))
def spec_l20Asking.f (k : Nat) (s0_0 : List Int) (s0_1 : Int) (a1 : Int) : Option (Int × List Int × (List (S81)) × List Int × Int) := (spec_l20Rd_pick.f k s0_0 s0_1 12).bind fun bt308 => (spec_l20Asking.l0 k a1 bt308.1 s0_0 bt308.2 0 ([] : List Int) ([] : List (S81)) ([] : List Int))
theorem spec_l20Asking.mono_l : ∀ k, (∀ y0 y1 y2 y3 y4 y5 y6 y7, LeO (spec_l20Asking.l0 k y0 y1 y2 y3 y4 y5 y6 y7) (spec_l20Asking.l0 (k + 1) y0 y1 y2 y3 y4 y5 y6 y7))
 | 0 => fun _ _ _ _ _ _ _ _ r h => by simp [spec_l20Asking.l0] at h
 | k + 1 => by
  have ih0 := spec_l20Asking.mono_l k
  ·intro y0 y1 y2 y3 y4 y5 y6 y7
   unfold spec_l20Asking.l0
   repeat' first | (with_reducible first | apply ih0 | apply spec_ClientAsk.mono | apply spec_ClientHear.mono | apply spec_ClientOver.mono | apply spec_l20Rd_bytes.mono | apply spec_l20Rd_odd.mono | apply spec_l20Rd_pick.mono | apply spec_l20Words.mono | exact LeO.refl _ | exact LeO.none _ | refine LeO.ite ?_ ?_ | refine LeO.bind ?_ fun _ => ?_) | apply ih0 | apply spec_ClientAsk.mono | apply spec_ClientHear.mono | apply spec_ClientOver.mono | apply spec_l20Rd_bytes.mono | apply spec_l20Rd_odd.mono | apply spec_l20Rd_pick.mono | apply spec_l20Words.mono | exact LeO.none _ | refine LeO.ite ?_ ?_ | refine LeO.bind ?_ fun _ => ?_
theorem spec_l20Asking.mono : ∀ a0 a1 a2 k, LeO (spec_l20Asking.f k a0 a1 a2) (spec_l20Asking.f (k + 1) a0 a1 a2) := by
 intro a0 a1 a2 k
 have ih0 := spec_l20Asking.mono_l k
 unfold spec_l20Asking.f
 repeat' first | (with_reducible first | apply ih0 | apply spec_ClientAsk.mono | apply spec_ClientHear.mono | apply spec_ClientOver.mono | apply spec_l20Rd_bytes.mono | apply spec_l20Rd_odd.mono | apply spec_l20Rd_pick.mono | apply spec_l20Words.mono | exact LeO.refl _ | exact LeO.none _ | refine LeO.ite ?_ ?_ | refine LeO.bind ?_ fun _ => ?_) | apply ih0 | apply spec_ClientAsk.mono | apply spec_ClientHear.mono | apply spec_ClientOver.mono | apply spec_l20Rd_bytes.mono | apply spec_l20Rd_odd.mono | apply spec_l20Rd_pick.mono | apply spec_l20Words.mono | exact LeO.none _ | refine LeO.ite ?_ ?_ | refine LeO.bind ?_ fun _ => ?_
def spec_l20Asking.T6 : Bool × List (List Nat × List Nat) := (true, [([], []), ([], []), ([], []), ([2], [2]), ([1, 3, 3], [1, 3]), ([0, 4, 4], [0, 4]), ([5], [5]), ([6], [6]), ([6], [6]), ([6], [6]), ([7, 5, 0, 1, 2, 3, 4, 5, 6, 7], [7])])
def spec_l20Asking.B6 : List Nat := [0, 0, 0, 4, 14, 31, 63, 127, 127, 127, 255]
theorem spec_l20Asking.tab6 : rtab .any (opsOf Try.f50 6) = spec_l20Asking.T6 := by kernel_rfl
theorem spec_l20Asking.bits6 : waitsOk spec_l20Asking.T6.2 spec_l20Asking.B6 = true := by kernel_rfl
def spec_l20Asking.T8 : Bool × List (List Nat × List Nat) := (true, [([], []), ([], []), ([1], [1]), ([0, 2, 2], [0, 2]), ([3], [3]), ([4], [4]), ([4], [4]), ([5, 3, 0, 1, 2, 3, 4, 5], [5])])
def spec_l20Asking.B8 : List Nat := [0, 0, 2, 7, 15, 31, 31, 63]
theorem spec_l20Asking.tab8 : rtab .any (opsOf Try.f50 8) = spec_l20Asking.T8 := by kernel_rfl
theorem spec_l20Asking.bits8 : waitsOk spec_l20Asking.T8.2 spec_l20Asking.B8 = true := by kernel_rfl
def spec_l20Asking.T14 : Bool × List (List Nat × List Nat) := (true, [([], []), ([0], [0]), ([], []), ([2], [2]), ([], []), ([3, 4], [3, 4]), ([5], [5]), ([1, 6], [1, 6]), ([0, 1, 2, 3, 4, 5, 6, 7], []), ([8, 7, 7, 0, 1, 2, 3, 4, 5, 6, 7], [7, 8])])
def spec_l20Asking.B14 : List Nat := [0, 1, 0, 4, 0, 28, 60, 127, 255, 511]
theorem spec_l20Asking.tab14 : rtab .any (opsOf Try.f50 14) = spec_l20Asking.T14 := by kernel_rfl
theorem spec_l20Asking.bits14 : waitsOk spec_l20Asking.T14.2 spec_l20Asking.B14 = true := by kernel_rfl
set_option maxHeartbeats 8000000 in
set_option maxRecDepth 100000 in
theorem spec_l20Asking.calls (k : Nat) (g : Nat) (s0_0 : List Int) (s0_1 : Int) (a1 : Int) (r1 : Int) (r2 : List Int) (r3 : List (S81)) (r4 : List Int) (r5 : Int) (w0 w : World) (hI : IsS102 w0 w g s0_0 s0_1) (hB : Below w0.heap.size w0 w) (h : spec_l20Asking.f k s0_0 s0_1 a1 = some (r1, r2, r3, r4, r5)) :
  Calls Try.prog 50 #[.pointer (some ⟨g, 0, none⟩), .int .i64 a1] w fun e w' => ∃ v1_ v2_ v3_ : Value, e = .returned (.agg #[.int .i64 r1, v1_, v2_, v3_]) ∧ Kd.R (Kd.int .i64) 3 w' w.heap.size (fun k_ => some k_ ≠ (v3_ : Value).ownBlock) v1_ r2 ∧ Kd.S k81 81 w' w.heap.size (fun _ => True) v2_ r3 ∧ Kd.R (Kd.int .i64) 3 w' w.heap.size (fun k_ => some k_ ≠ (v1_ : Value).ownBlock) v3_ r4 ∧ IsS102 w0 w' g s0_0 r5 ∧ Below w0.heap.size w0 w' ∧ KeepBut w w' g none := by
 have hu38 := Try.underlying38; have hu81 := Try.underlying81; have HI0 := Aside0.mk hI
 have HK := Aside0.mk (KeepBut.refl w g none)
 have HL := Aside0.mk hB.size; clear hI; have HW0 := Aside0.mk hB.size; have HB := Aside0.mk hB; clear hB
 have H : ((spec_l20Rd_pick.f k s0_0 s0_1 12).bind fun bt308 => (spec_l20Asking.l0 k a1 bt308.1 s0_0 bt308.2 0 ([] : List Int) ([] : List (S81)) ([] : List Int))) = some (r1, r2, r3, r4, r5) := h
 clear h
 replace H := Option.bind_eq_some_iff.mp H
 obtain ⟨⟨t308, t309⟩, A30, H⟩ := H
 (try dsimp only at H)
 have A3 := Aside0.mk A30; clear A30
 have H' := Aside0.mk H
 clear H
 go_enter Try.func50, Try.ntmps50
 go_wp2_with (first | ((with_reducible refine gate_dst (N := 4) rfl ?_); refine box_ (N := 4) (cs := #[.int .i64 0, .slice none 0 0, .slice none 0 0, .slice none 0 0]) (t := 38) (fun gb306 hg w4 hbox hb => ?_); replace HB := (bs102_ HB hb); have BK306 := Aside0.mk (hbox); have GW306 := gk_ hg HK; have GE306 := Aside0.mk ((Nat.le_trans HW0.out (by rw [hg]; exact (keep_size (w := w) (g := g) (row := none) (hkA_ HK.out)) : w.heap.size ≤ gb306) : w0.heap.size ≤ gb306)); replace HK := (kw_ HK hb); have NB0_306 := nl102_ hg HI0; have NB306_0 := ng102_ hg HI0; replace HI0 := (ib102_ HI0 hb); clear hb hbox hg) | ((with_reducible refine gate_dst (N := 5) rfl ?_); refine box_ (N := 5) (cs := #[.int .i64 0, .slice none 0 0, .slice none 0 0, .slice none 0 0]) (t := 38) (fun gb307 hg w5 hbox hb => ?_); replace HB := (bs102_ HB hb); have BK307 := Aside0.mk (hbox); have GW307 := gk_ hg HK; have GE307 := Aside0.mk ((Nat.le_trans HW0.out (by rw [hg]; exact (keep_size (w := w) (g := g) (row := none) (hkA_ HK.out)) : w.heap.size ≤ gb307) : w0.heap.size ≤ gb307)); replace HK := (kw_ HK hb); have NB306_307 := nl_ hg BK306; have NB307_306 := ng_ hg BK306; replace BK306 := (bbA_ BK306 hb); have NB0_307 := nl102_ hg HI0; have NB307_0 := ng102_ hg HI0; replace HI0 := (ib102_ HI0 hb); clear hb hbox hg; have hnb6 := NB307_306.out; have hnc6 := NB306_307.out; have hnb7 := NB307_0.out; have hnc7 := NB0_307.out; have Z8 := zz4 BK307) | ((with_reducible refine gate_callee (f := 40) rfl ?_); refine goesL_ (some 9) rfl rfl Try.func40 (by kernel_rfl) rfl #[.pointer (some ⟨g, 0, none⟩), .int .i64 12] rfl ar_ ?_; (with_reducible refine (spec_l20Rd_pick.calls k g s0_0 s0_1 12 t308 t309 w0 _ ?side1 ?side2 A3.out).mono ?_); (case side1 => exact is102_ HI0.out); (case side2 => exact hb102_ HB.out); rintro e w9 ⟨rfl, hi, hb, hk⟩; refine ⟨_, rfl, ?_⟩; replace BK306 := Aside0.mk (KeepBut.blk hk (g' := gb306) (o := .cells #[.int .i64 0, .slice none 0 0, .slice none 0 0, .slice none 0 0] 38 (0, 0)) (by exact kf_ BK306.out) NB306_0.out (by simp)); replace BK307 := Aside0.mk (KeepBut.blk hk (g' := gb307) (o := .cells #[.int .i64 0, .slice none 0 0, .slice none 0 0, .slice none 0 0] 38 (0, 0)) (by refine kb_ ?_; refine pz4 (cs := #[.int .i64 0, .slice none 0 0, .slice none 0 0, .slice none 0 0]) ?_; refine kb_ ?_; exact BK307.out) NB307_0.out (by simp)); replace HK := (kk_ HK hk); replace HB := Aside0.mk (hb); replace HI0 := Aside0.mk (hi); (try clear hb); (try clear hb2); (try clear hk); (try clear hi)))
 go_loopg [6] k (fun kq v6 w' => ∃ (x6_1 : Int) (x1001_1 : Int) (x308000_1 : Int) (x308001_1 : List Int) (x308002_1 : List (S81)) (x308003_1 : List Int) (u308001 : Value) (u308002 : Value) (u308003 : Value), v6 = .int .i64 x6_1 ∧ Aside0 (spec_l20Asking.l0 kq a1 x6_1 s0_0 x1001_1 x308000_1 x308001_1 x308002_1 x308003_1 = some (r1, r2, r3, r4, r5)) ∧ Aside0 (kq ≤ k) ∧ Aside0 (Kd.R (Kd.int .i64) 3 w' w.heap.size (fun k_ => some k_ ≠ (u308003 : Value).ownBlock) u308001 x308001_1) ∧ Aside0 (Kd.S k81 81 w' w.heap.size (fun _ => True) u308002 x308002_1) ∧ Aside0 (Kd.R (Kd.int .i64) 3 w' w.heap.size (fun k_ => some k_ ≠ (u308001 : Value).ownBlock) u308003 x308003_1) ∧ Aside0 (w'.heap[gb306]? = some (.cells #[.int .i64 0, (.slice none 0 0), (.slice none 0 0), (.slice none 0 0)] 38 (0, 0))) ∧ Aside0 (w'.heap[gb307]? = some (.cells #[.int .i64 x308000_1, u308001, u308002, u308003] 38 (0, 0))) ∧ Aside0 (IsS102 w0 w' g s0_0 x1001_1) ∧ Aside0 (KeepBut w w' g none) ∧ Aside0 (Below w0.heap.size w0 w'))
 case atStart => exact ⟨(t308), (t309), (0), (([] : List Int)), (([] : List (S81))), (([] : List Int)), (.slice none 0 0), (.slice none 0 0), (.slice none 0 0), (by first | rfl | (simp; done) | (simp [*]; done)), H', ⟨Nat.le_refl _⟩, ⟨by first | exact Kd.R_nil _ _ _ _ _ | exact Kd.N_nil _ _ _ _ _ | exact Kd.V_nil _ _ _ _ _ | exact Kd.Q_nil _ _ _ _ _ | exact Kd.S_nil _ _ _ _ _⟩, ⟨by first | exact Kd.S_nil _ _ _ _ _ | exact Kd.N_nil _ _ _ _ _ | exact Kd.V_nil _ _ _ _ _ | exact Kd.Q_nil _ _ _ _ _ | exact Kd.R_nil _ _ _ _ _⟩, ⟨by first | exact Kd.R_nil _ _ _ _ _ | exact Kd.N_nil _ _ _ _ _ | exact Kd.V_nil _ _ _ _ _ | exact Kd.Q_nil _ _ _ _ _ | exact Kd.S_nil _ _ _ _ _⟩, ⟨by refine kb_ ?_; exact BK306.out⟩, ⟨by refine kb_ ?_; exact BK307.out⟩, ⟨is102_ HI0.out⟩, ⟨hkA_ HK.out⟩, ⟨hb102_ HB.out⟩⟩
 case round =>
  clear H'; (try clear p2); (try clear c4); (try clear c5); (try clear c6); (try clear c7); (try clear Z8)
  obtain ⟨x6_1, x1001_1, x308000_1, x308001_1, x308002_1, x308003_1, u308001, u308002, u308003, rfl, HA, HK1, HO_308001, HO_308002, HO_308003, BK306, BK307, HI0, HK, HB⟩ := hrel
  cases gk with
  | zero => exact absurd HA.out (by simp [spec_l20Asking.l0])
  | succ k1 =>
   have H := HA.out; clear HA
   simp only [spec_l20Asking.l0] at H
   by_cases c10 : x6_1 > 0
   ·rw [if_pos c10] at H
    have c10b0 : decide (0 < x6_1) = true := decide_eq_true c10
    clear c10
    replace H := Option.bind_eq_some_iff.mp H
    obtain ⟨⟨t310, t311⟩, A110, H⟩ := H
    (try dsimp only at H)
    have A11 := Aside0.mk A110; clear A110
    by_cases c12 : t310 = 0
    ·rw [if_pos c12] at H
     have c12b0 : (t310 == 0) = true := beq_iff_eq.mpr c12
     have c12b1 : (t310 != 0) = false := bne_eq_false_iff_eq.mpr c12
     clear c12
     replace H := Option.bind_eq_some_iff.mp H
     obtain ⟨⟨t312, t313, t316⟩, A130, H⟩ := H
     (try dsimp only at H)
     have A13 := Aside0.mk A130; clear A130
     replace H := Option.bind_eq_some_iff.mp H
     obtain ⟨⟨t317, t318, t321, t324, t327⟩, A140, H⟩ := H
     (try dsimp only at H)
     have A14 := Aside0.mk A140; clear A140
     have H' := Aside0.mk H
     clear H
     try go_wp2_with (first | ((with_reducible refine gate_callee (f := 40) rfl ?_); refine goesL_ (some 15) rfl rfl Try.func40 (by kernel_rfl) rfl #[.pointer (some ⟨g, 0, none⟩), .int .i64 3] rfl ar_ ?_; (with_reducible refine (spec_l20Rd_pick.calls k1 g s0_0 x1001_1 3 t310 t311 w0 _ ?side1 ?side2 A11.out).mono ?_); (case side1 => exact is102_ HI0.out); (case side2 => exact hb102_ HB.out); rintro e w15 ⟨rfl, hi, hb, hk⟩; refine ⟨_, rfl, ?_⟩; replace HO_308001 := (rk102_ HI0 HO_308001 hk); replace HO_308002 := Aside0.mk (Kd.S_mono (Kd.S_keep (IsS102.apartS (show IsS102 w0 _ g s0_0 x1001_1 from is102_ HI0.out) (kS_ HO_308002.out) (by decide)) hk (fun _ h => h.2)) (fun _ h => h.1)); replace HO_308003 := (rk102_ HI0 HO_308003 hk); replace BK306 := (bkA_ BK306 hk NB306_0); replace BK307 := (bkA_ BK307 hk NB307_0); replace HK := (kk_ HK hk); replace HB := Aside0.mk (hb); replace HI0 := Aside0.mk (hi); (try clear hb); (try clear hb2); (try clear hk); (try clear hi)))
     replace HO_308001 := Aside0.mk (Kd.R_drew HO_308001.out); replace HO_308002 := Aside0.mk (Kd.S_drew HO_308002.out); replace HO_308003 := Aside0.mk (Kd.R_drew HO_308003.out); replace BK306 := Aside0.mk (blk_drew BK306.out); replace BK307 := Aside0.mk (blk_drew BK307.out); replace HI0 := Aside0.mk (IsS102.drew HI0.out); replace HK := Aside0.mk (keep_drew HK.out); replace HB := (bd_ HB)
     refine start_ (n := 8) (S := fun w' => w'.cell? ⟨gb307, 0, none⟩ = some (.int .i64 x308000_1) ∧ w'.cell? ⟨gb307, 1, none⟩ = some (u308001) ∧ w'.cell? ⟨gb307, 2, none⟩ = some (u308002) ∧ w'.cell? ⟨gb307, 3, none⟩ = some (u308003)) (ds := [7]) #[false, false, false, false, false, false, false, false] (by kernel_rfl) rfl rfl (cz4 BK307.out) (fun hHeld => ?_); refine with_tabW spec_l20Asking.tab8 spec_l20Asking.bits8 (fun HT_ HW_ => ?_)
     generalize w15.drew = w16 at HO_308001 HO_308002 HO_308003 BK306 BK307 HI0 HK HB hHeld ⊢
     refine pu_ (i := 1) (N := some 30) HT_ ?_; refine tk_ (i := 0) (N := some 29) HT_ HW_ hHeld ?_
     refine on_ (i := 2) (N := some 31) HT_ (fun K hK => ?_)
     refine goes_ Try.func85 (by kernel_rfl) rfl #[.pointer (some ⟨g, 0, none⟩), .int .i64 0] (by rfl) rfl rfl ar_ ?_
     with_reducible refine (spec_l20Words.calls k1 g s0_0 t311 0 t312 t313 t316 w0 _ ?side1 ?side2 A13.out).mono ?_
     (case side1 => exact is102_ HI0.out)
     (case side2 => exact hb102_ HB.out)
     rintro e w17 ⟨v314, rfl, ho0, hi, hb, hk⟩
     refine ⟨_, rfl, ?_⟩
     replace HO_308001 := (rk102_ HI0 HO_308001 hk); replace HO_308002 := Aside0.mk (Kd.S_mono (Kd.S_told (Kd.S_oldK (IsS102.apartS (show IsS102 w0 _ g s0_0 t311 from is102_ HI0.out) (kS_ HO_308002.out) (by decide)) hk) (Kd.R_base ho0)) (fun _ h_ => op1_ h_)); replace HO_308003 := (rk102_ HI0 HO_308003 hk); replace BK306 := (bkA_ BK306 hk NB306_0); replace BK307 := (bkA_ BK307 hk NB307_0); have HO315 := Aside0.mk (Kd.R_lower ho0 (keep_size (w := w) (g := g) (row := none) (hkA_ HK.out))); replace HK := (kk_ HK hk); replace HB := Aside0.mk (hb); replace HI0 := Aside0.mk (hi); (try clear hb); (try clear hb2); (try clear hk); (try clear hi); (try clear ho0)
     obtain ⟨Ao18, co18, eo18⟩ := Kd.R_slice HO_308001.out
     (first | subst eo18 | (injection eo18 with f1_ f2_ f3_; have f4_ := f1_.symm; have f5_ := f3_.symm; clear f1_ f2_ f3_; subst f4_; subst f5_))
     obtain ⟨Ao19, co19, eo19⟩ := Kd.S_slice HO_308002.out
     (first | subst eo19 | (injection eo19 with f1_ f2_ f3_; have f4_ := f1_.symm; have f5_ := f3_.symm; clear f1_ f2_ f3_; subst f4_; subst f5_))
     obtain ⟨Ao20, co20, eo20⟩ := Kd.R_slice HO_308003.out
     (first | subst eo20 | (injection eo20 with f1_ f2_ f3_; have f4_ := f1_.symm; have f5_ := f3_.symm; clear f1_ f2_ f3_; subst f4_; subst f5_))
     obtain ⟨Ao21, co21, eo21⟩ := Kd.R_slice HO315.out
     (first | subst eo21 | (injection eo21 with f1_ f2_ f3_; have f4_ := f1_.symm; have f5_ := f3_.symm; clear f1_ f2_ f3_; subst f4_; subst f5_))
     refine hK.out _ _ (cz4 BK307.out) (fun hHeld => ?_)
     clear hK K; refine nm_ 31 ?_
     refine on_ (i := 3) (N := some 32) HT_ (fun K hK => ?_)
     refine goes_ Try.func84 (by kernel_rfl) rfl #[.agg #[.int .i64 x308000_1, .slice Ao18 x308001_1.length co18, .slice Ao19 x308002_1.length co19, .slice Ao20 x308003_1.length co20], .agg #[.int .i64 t312, .slice Ao21 t313.length co21]] (by rfl) rfl rfl ar_ ?_
     with_reducible refine (spec_ClientHear.calls k1 x308000_1 _ _ x308001_1 _ _ x308002_1 _ _ x308003_1 t312 _ _ t313 t317 t318 t321 t324 t327 _ ?side1 ?side2 ?side3 ?side4 ?side5 ?side6 ?side7 ?side8 A14.out).mono ?_
     (case side1 => exact kC_ (Kd.R_reads' HO_308001.out).2.2)
     (case side2 => exact (Kd.R_reads' HO_308001.out).2.1)
     (case side3 => exact kC_ (Kd.S_reads' HO_308002.out).2.2)
     (case side4 => exact (Kd.S_reads' HO_308002.out).2.1)
     (case side5 => exact kC_ (Kd.R_reads' HO_308003.out).2.2)
     (case side6 => exact (Kd.R_reads' HO_308003.out).2.1)
     (case side7 => exact kC_ (Kd.R_reads' HO315.out).2.2)
     (case side8 => exact (Kd.R_reads' HO315.out).2.1)
     rintro e w22 ⟨v319, v322, v325, rfl, ho0, ho1, ho2, hb⟩
     refine ⟨_, rfl, ?_⟩
     have HO320 := Aside0.mk (Kd.R_lower (Kd.R_new' (Kd.R_new' ho0 (Kd.R_lt (kR_ HO_308001.out))) (Kd.R_lt (kR_ HO_308003.out))) (keep_size (w := w) (g := g) (row := none) (hkA_ HK.out))); have HO323 := Aside0.mk (Kd.S_lower (Kd.S_new' (Kd.S_new' ho1 (Kd.S_lt (kS_ HO_308002.out))) (Kd.R_lt (kR_ HO315.out))) (keep_size (w := w) (g := g) (row := none) (hkA_ HK.out))); replace HO_308002 := Aside0.mk (Kd.S_elder' (kS_ HO_308002.out) (Kd.S_base ho1) hb); replace HO315 := Aside0.mk (Kd.R_below (kR_ HO315.out) hb); have HO326 := Aside0.mk (Kd.R_lower (Kd.R_new' (Kd.R_new' ho2 (Kd.R_lt (kR_ HO_308001.out))) (Kd.R_lt (kR_ HO_308003.out))) (keep_size (w := w) (g := g) (row := none) (hkA_ HK.out))); replace HO_308001 := Aside0.mk (Kd.R_mono (Kd.R_told (Kd.R_told (Kd.R_old (kR_ HO_308001.out) hb) (Kd.R_base ho0)) (Kd.R_base ho2)) (fun _ h_ => op1_ h_)); replace HO_308003 := Aside0.mk (Kd.R_mono (Kd.R_told (Kd.R_told (Kd.R_old (kR_ HO_308003.out) hb) (Kd.R_base ho0)) (Kd.R_base ho2)) (fun _ h_ => op1_ h_)); replace BK306 := (bbA_ BK306 hb); replace BK307 := (bbA_ BK307 hb); replace HI0 := (ib102_ HI0 hb); replace HK := (kw_ HK hb); replace HB := (bs102_ HB hb); (try clear hb); (try clear hb2); (try clear hk); (try clear hi); (try clear ho0); (try clear ho1); (try clear ho2)
     obtain ⟨Ao24, co24, eo24⟩ := Kd.R_slice HO320.out
     (first | subst eo24 | (injection eo24 with f1_ f2_ f3_; have f4_ := f1_.symm; have f5_ := f3_.symm; clear f1_ f2_ f3_; subst f4_; subst f5_))
     obtain ⟨Ao26, co26, eo26⟩ := Kd.S_slice HO323.out
     (first | subst eo26 | (injection eo26 with f1_ f2_ f3_; have f4_ := f1_.symm; have f5_ := f3_.symm; clear f1_ f2_ f3_; subst f4_; subst f5_))
     obtain ⟨Ao28, co28, eo28⟩ := Kd.R_slice HO326.out
     (first | subst eo28 | (injection eo28 with f1_ f2_ f3_; have f4_ := f1_.symm; have f5_ := f3_.symm; clear f1_ f2_ f3_; subst f4_; subst f5_))
     refine hK.out _ _ (cz4 BK307.out) (fun hHeld => ?_)
     clear hK K; refine nm_ 32 ?_; refine pu_ (i := 4) (N := some 28) HT_ ?_; refine pu_ (i := 5) (N := some 33) HT_ ?_; refine pu_ (i := 6) (N := some 34) HT_ ?_
     refine last_ (i := 7) (N := none) #[true, true, true, true, true, true, true, true] rfl rfl (one_of HT_.out (by kernel_rfl)) (by decide) (fun K hK => ?_)
     have hs23 : w22.cell? ⟨gb307, 0, none⟩ = some (.int .i64 x308000_1) := bc_ BK307 0
     have hfs23 := blk_frozen BK307.out 0
     have hns23_0 := NB306_307.out; have hms23_0 := NB307_306.out
     have hs25 : w22.cell? ⟨gb307, 1, none⟩ = some (.slice Ao18 x308001_1.length co18) := bc_ BK307 1
     have hfs25 := blk_frozen BK307.out 1
     have hns25_0 := NB306_307.out; have hms25_0 := NB307_306.out
     have hs27 : w22.cell? ⟨gb307, 2, none⟩ = some (.slice Ao19 x308002_1.length co19) := bc_ BK307 2
     have hfs27 := blk_frozen BK307.out 2
     have hns27_0 := NB306_307.out; have hms27_0 := NB307_306.out
     have hs29 : w22.cell? ⟨gb307, 3, none⟩ = some (.slice Ao20 x308003_1.length co20) := bc_ BK307 3
     have hfs29 := blk_frozen BK307.out 3
     have hns29_0 := NB306_307.out; have hms29_0 := NB307_306.out
     refine skip_ (w1 := ?_) (by rfl) rfl ?_ ?_
     rotate_left
     ·go_simp
      rfl
     refine hK.out _ _ ?_
     clear hK K
     refine done_ (done_of HT_.out (by kernel_rfl)) ?_
     try go_wp2
     go_roundg k1
     case measure => have := HK1.out; omega
     case rel => exact ⟨(wrap64 (x6_1 - 1)), (t316), (t317), (t318), (t321), (t324), (.slice Ao24 t318.length co24), (.slice Ao26 t321.length co26), (.slice Ao28 t324.length co28), (by first | rfl | (simp; done) | (simp [*]; done)), H', ⟨by have := HK1.out; omega⟩, ⟨by refine kR_ ?_; exact rfm_ ((Kd.R_types HO320.out BK307.out (by decide))) (fun _ hk => hk.1.1.1)⟩, ⟨by refine kS_ ?_; exact Kd.S_mono (Kd.S_far (p := ⟨gb307, 3, none⟩) (Kd.S_far (p := ⟨gb307, 2, none⟩) (Kd.S_far (p := ⟨gb307, 1, none⟩) (Kd.S_far (p := ⟨gb307, 0, none⟩) (Kd.S_types HO323.out BK307.out (by decide)) (fun _ hk => hk.2) (.int .i64 t317)) (fun _ hk => hk.2) (.slice Ao24 t318.length co24)) (fun _ hk => hk.2) (.slice Ao26 t321.length co26)) (fun _ hk => hk.2) (.slice Ao28 t324.length co28)) (fun _ hk => trivial)⟩, ⟨by refine kR_ ?_; exact rfm_ ((Kd.R_types HO326.out BK307.out (by decide))) (fun _ hk => hk.1.1.1)⟩, ⟨by exact kf_ BK306.out⟩, ⟨by refine kb_ ?_; refine pz4 (cs := #[.int .i64 x308000_1, .slice Ao18 x308001_1.length co18, .slice Ao19 x308002_1.length co19, .slice Ao20 x308003_1.length co20]) ?_; refine kb_ ?_; exact BK307.out⟩, ⟨is102_ HI0.out⟩, ⟨hkA_ HK.out⟩, ⟨hb102_ HB.out⟩⟩
    ·rw [if_neg c12] at H
     have c12b0 : (t310 == 0) = false := beq_eq_false_iff_ne.mpr c12
     have c12b1 : (t310 != 0) = true := bne_iff_ne.mpr c12
     by_cases c30 : t310 = 1
     ·rw [if_pos c30] at H
      have c30b0 : (t310 == 1) = true := beq_iff_eq.mpr c30
      have c30b1 : (t310 != 1) = false := bne_eq_false_iff_eq.mpr c30
      clear c30
      replace H := Option.bind_eq_some_iff.mp H
      obtain ⟨⟨t328, t329⟩, A310, H⟩ := H
      (try dsimp only at H)
      have A31 := Aside0.mk A310; clear A310
      by_cases c32 : t328 = 0
      ·rw [if_pos c32] at H
       have c32b0 : (t328 == 0) = true := beq_iff_eq.mpr c32
       have c32b1 : (t328 != 0) = false := bne_eq_false_iff_eq.mpr c32
       clear c32
       replace H := Option.bind_eq_some_iff.mp H
       obtain ⟨⟨t330, t331, t334, t337⟩, A330, H⟩ := H
       (try dsimp only at H)
       have A33 := Aside0.mk A330; clear A330
       have H' := Aside0.mk H
       clear H
       go_wp2_with (first | ((with_reducible refine gate_callee (f := 40) rfl ?_); refine goesL_ (some 15) rfl rfl Try.func40 (by kernel_rfl) rfl #[.pointer (some ⟨g, 0, none⟩), .int .i64 3] rfl ar_ ?_; (with_reducible refine (spec_l20Rd_pick.calls k1 g s0_0 x1001_1 3 t310 t311 w0 _ ?side1 ?side2 A11.out).mono ?_); (case side1 => exact is102_ HI0.out); (case side2 => exact hb102_ HB.out); rintro e w34 ⟨rfl, hi, hb, hk⟩; refine ⟨_, rfl, ?_⟩; replace HO_308001 := (rk102_ HI0 HO_308001 hk); replace HO_308002 := Aside0.mk (Kd.S_mono (Kd.S_keep (IsS102.apartS (show IsS102 w0 _ g s0_0 x1001_1 from is102_ HI0.out) (kS_ HO_308002.out) (by decide)) hk (fun _ h => h.2)) (fun _ h => h.1)); replace HO_308003 := (rk102_ HI0 HO_308003 hk); replace BK306 := (bkA_ BK306 hk NB306_0); replace BK307 := (bkA_ BK307 hk NB307_0); replace HK := (kk_ HK hk); replace HB := Aside0.mk (hb); replace HI0 := Aside0.mk (hi); (try clear hb); (try clear hb2); (try clear hk); (try clear hi)) | ((with_reducible refine gate_callee (f := 40) rfl ?_); refine goesL_ (some 38) rfl rfl Try.func40 (by kernel_rfl) rfl #[.pointer (some ⟨g, 0, none⟩), .int .i64 6] rfl ar_ ?_; (with_reducible refine (spec_l20Rd_pick.calls k1 g s0_0 t311 6 t328 t329 w0 _ ?side1 ?side2 A31.out).mono ?_); (case side1 => exact is102_ HI0.out); (case side2 => exact hb102_ HB.out); rintro e w35 ⟨rfl, hi, hb, hk⟩; refine ⟨_, rfl, ?_⟩; replace HO_308001 := (rk102_ HI0 HO_308001 hk); replace HO_308002 := Aside0.mk (Kd.S_mono (Kd.S_keep (IsS102.apartS (show IsS102 w0 _ g s0_0 t311 from is102_ HI0.out) (kS_ HO_308002.out) (by decide)) hk (fun _ h => h.2)) (fun _ h => h.1)); replace HO_308003 := (rk102_ HI0 HO_308003 hk); replace BK306 := (bkA_ BK306 hk NB306_0); replace BK307 := (bkA_ BK307 hk NB307_0); replace HK := (kk_ HK hk); replace HB := Aside0.mk (hb); replace HI0 := Aside0.mk (hi); (try clear hb); (try clear hb2); (try clear hk); (try clear hi); have hnb36 := NB307_306.out; have hnc36 := NB306_307.out; have hnb37 := NB307_0.out; have hnc37 := NB0_307.out; have Z38 := zz4 BK307; obtain ⟨Ao39, co39, eo39⟩ := Kd.R_slice HO_308001.out; subst eo39; obtain ⟨Ao40, co40, eo40⟩ := Kd.S_slice HO_308002.out; subst eo40; obtain ⟨Ao41, co41, eo41⟩ := Kd.R_slice HO_308003.out; subst eo41) | ((with_reducible refine gate_callee (f := 86) rfl ?_); refine goesL_ (some 41) rfl rfl Try.func86 (by kernel_rfl) rfl #[.agg #[.int .i64 x308000_1, .slice Ao39 x308001_1.length co39, .slice Ao40 x308002_1.length co40, .slice Ao41 x308003_1.length co41]] rfl ar_ ?_; (with_reducible refine (spec_ClientOver.calls k1 x308000_1 _ _ x308001_1 _ _ x308002_1 _ _ x308003_1 t330 t331 t334 t337 _ ?side1 ?side2 ?side3 ?side4 ?side5 ?side6 A33.out).mono ?_); (case side1 => exact kC_ (Kd.R_reads' HO_308001.out).2.2); (case side2 => exact (Kd.R_reads' HO_308001.out).2.1); (case side3 => exact kC_ (Kd.S_reads' HO_308002.out).2.2); (case side4 => exact (Kd.S_reads' HO_308002.out).2.1); (case side5 => exact kC_ (Kd.R_reads' HO_308003.out).2.2); (case side6 => exact (Kd.R_reads' HO_308003.out).2.1); rintro e w42 ⟨v332, v335, v338, rfl, ho0, ho1, ho2, hb⟩; refine ⟨_, rfl, ?_⟩; have HO333 := Aside0.mk (Kd.R_lower (Kd.R_new' (Kd.R_new' ho0 (Kd.R_lt (kR_ HO_308001.out))) (Kd.R_lt (kR_ HO_308003.out))) (keep_size (w := w) (g := g) (row := none) (hkA_ HK.out))); have HO336 := Aside0.mk (Kd.S_lower (Kd.S_new' ho1 (Kd.S_lt (kS_ HO_308002.out))) (keep_size (w := w) (g := g) (row := none) (hkA_ HK.out))); replace HO_308002 := Aside0.mk (Kd.S_elder' (kS_ HO_308002.out) (Kd.S_base ho1) hb); have HO339 := Aside0.mk (Kd.R_lower (Kd.R_new' (Kd.R_new' ho2 (Kd.R_lt (kR_ HO_308001.out))) (Kd.R_lt (kR_ HO_308003.out))) (keep_size (w := w) (g := g) (row := none) (hkA_ HK.out))); replace HO_308001 := Aside0.mk (Kd.R_mono (Kd.R_told (Kd.R_told (Kd.R_old (kR_ HO_308001.out) hb) (Kd.R_base ho0)) (Kd.R_base ho2)) (fun _ h_ => op1_ h_)); replace HO_308003 := Aside0.mk (Kd.R_mono (Kd.R_told (Kd.R_told (Kd.R_old (kR_ HO_308003.out) hb) (Kd.R_base ho0)) (Kd.R_base ho2)) (fun _ h_ => op1_ h_)); replace BK306 := (bbA_ BK306 hb); replace BK307 := (bbA_ BK307 hb); replace HI0 := (ib102_ HI0 hb); replace HK := (kw_ HK hb); replace HB := (bs102_ HB hb); (try clear hb); (try clear hb2); (try clear hk); (try clear hi); (try clear ho0); (try clear ho1); (try clear ho2); have Z43 := zz4 BK307; obtain ⟨Ao44, co44, eo44⟩ := Kd.R_slice HO333.out; subst eo44; obtain ⟨Ao45, co45, eo45⟩ := Kd.S_slice HO336.out; subst eo45; obtain ⟨Ao46, co46, eo46⟩ := Kd.R_slice HO339.out; subst eo46))
       go_roundg k1
       case measure => have := HK1.out; omega
       case rel => exact ⟨(wrap64 (x6_1 - 1)), (t329), (t330), (t331), (t334), (t337), (.slice Ao44 t331.length co44), (.slice Ao45 t334.length co45), (.slice Ao46 t337.length co46), (by first | rfl | (simp; done) | (simp [*]; done)), H', ⟨by have := HK1.out; omega⟩, ⟨by refine kR_ ?_; exact rfm_ ((Kd.R_types HO333.out BK307.out (by decide))) (fun _ hk => hk.1.1.1)⟩, ⟨by refine kS_ ?_; exact Kd.S_mono (Kd.S_far (p := ⟨gb307, 3, none⟩) (Kd.S_far (p := ⟨gb307, 2, none⟩) (Kd.S_far (p := ⟨gb307, 1, none⟩) (Kd.S_far (p := ⟨gb307, 0, none⟩) (Kd.S_types HO336.out BK307.out (by decide)) (fun _ hk => hk.2) (.int .i64 t330)) (fun _ hk => hk.2) (.slice Ao44 t331.length co44)) (fun _ hk => hk.2) (.slice Ao45 t334.length co45)) (fun _ hk => hk.2) (.slice Ao46 t337.length co46)) (fun _ hk => trivial)⟩, ⟨by refine kR_ ?_; exact rfm_ ((Kd.R_types HO339.out BK307.out (by decide))) (fun _ hk => hk.1.1.1)⟩, ⟨by exact kf_ BK306.out⟩, ⟨by refine kb_ ?_; refine pz4 (cs := #[.int .i64 x308000_1, .slice Ao39 x308001_1.length co39, .slice Ao40 x308002_1.length co40, .slice Ao41 x308003_1.length co41]) ?_; refine kb_ ?_; exact BK307.out⟩, ⟨is102_ HI0.out⟩, ⟨hkA_ HK.out⟩, ⟨hb102_ HB.out⟩⟩
      ·rw [if_neg c32] at H
       have c32b0 : (t328 == 0) = false := beq_eq_false_iff_ne.mpr c32
       have c32b1 : (t328 != 0) = true := bne_iff_ne.mpr c32
       have H' := Aside0.mk H
       clear H
       go_wp2_with (first | ((with_reducible refine gate_callee (f := 40) rfl ?_); refine goesL_ (some 15) rfl rfl Try.func40 (by kernel_rfl) rfl #[.pointer (some ⟨g, 0, none⟩), .int .i64 3] rfl ar_ ?_; (with_reducible refine (spec_l20Rd_pick.calls k1 g s0_0 x1001_1 3 t310 t311 w0 _ ?side1 ?side2 A11.out).mono ?_); (case side1 => exact is102_ HI0.out); (case side2 => exact hb102_ HB.out); rintro e w47 ⟨rfl, hi, hb, hk⟩; refine ⟨_, rfl, ?_⟩; replace HO_308001 := (rk102_ HI0 HO_308001 hk); replace HO_308002 := Aside0.mk (Kd.S_mono (Kd.S_keep (IsS102.apartS (show IsS102 w0 _ g s0_0 x1001_1 from is102_ HI0.out) (kS_ HO_308002.out) (by decide)) hk (fun _ h => h.2)) (fun _ h => h.1)); replace HO_308003 := (rk102_ HI0 HO_308003 hk); replace BK306 := (bkA_ BK306 hk NB306_0); replace BK307 := (bkA_ BK307 hk NB307_0); replace HK := (kk_ HK hk); replace HB := Aside0.mk (hb); replace HI0 := Aside0.mk (hi); (try clear hb); (try clear hb2); (try clear hk); (try clear hi)) | ((with_reducible refine gate_callee (f := 40) rfl ?_); refine goesL_ (some 38) rfl rfl Try.func40 (by kernel_rfl) rfl #[.pointer (some ⟨g, 0, none⟩), .int .i64 6] rfl ar_ ?_; (with_reducible refine (spec_l20Rd_pick.calls k1 g s0_0 t311 6 t328 t329 w0 _ ?side1 ?side2 A31.out).mono ?_); (case side1 => exact is102_ HI0.out); (case side2 => exact hb102_ HB.out); rintro e w48 ⟨rfl, hi, hb, hk⟩; refine ⟨_, rfl, ?_⟩; replace HO_308001 := (rk102_ HI0 HO_308001 hk); replace HO_308002 := Aside0.mk (Kd.S_mono (Kd.S_keep (IsS102.apartS (show IsS102 w0 _ g s0_0 t311 from is102_ HI0.out) (kS_ HO_308002.out) (by decide)) hk (fun _ h => h.2)) (fun _ h => h.1)); replace HO_308003 := (rk102_ HI0 HO_308003 hk); replace BK306 := (bkA_ BK306 hk NB306_0); replace BK307 := (bkA_ BK307 hk NB307_0); replace HK := (kk_ HK hk); replace HB := Aside0.mk (hb); replace HI0 := Aside0.mk (hi); (try clear hb); (try clear hb2); (try clear hk); (try clear hi)))
       go_roundg k1
       case measure => have := HK1.out; omega
       case rel => exact ⟨(wrap64 (x6_1 - 1)), (t329), (x308000_1), (x308001_1), (x308002_1), (x308003_1), (u308001), (u308002), (u308003), (by first | rfl | (simp; done) | (simp [*]; done)), H', ⟨by have := HK1.out; omega⟩, ⟨kR_ HO_308001.out⟩, ⟨by refine kS_ ?_; exact HO_308002.out⟩, ⟨kR_ HO_308003.out⟩, ⟨by refine kb_ ?_; exact BK306.out⟩, ⟨by refine kb_ ?_; exact BK307.out⟩, ⟨is102_ HI0.out⟩, ⟨hkA_ HK.out⟩, ⟨hb102_ HB.out⟩⟩
     ·rw [if_neg c30] at H
      have c30b0 : (t310 == 1) = false := beq_eq_false_iff_ne.mpr c30
      have c30b1 : (t310 != 1) = true := bne_iff_ne.mpr c30
      replace H := Option.bind_eq_some_iff.mp H
      obtain ⟨⟨t340, t341⟩, A490, H⟩ := H
      (try dsimp only at H)
      have A49 := Aside0.mk A490; clear A490
      replace H := Option.bind_eq_some_iff.mp H
      obtain ⟨⟨t342, t345⟩, A500, H⟩ := H
      (try dsimp only at H)
      have A50 := Aside0.mk A500; clear A500
      replace H := Option.bind_eq_some_iff.mp H
      obtain ⟨⟨t346, t347, t350, t353, t356, t359⟩, A510, H⟩ := H
      (try dsimp only at H)
      have A51 := Aside0.mk A510; clear A510
      have H' := Aside0.mk H
      clear H
      try go_wp2_with (first | ((with_reducible refine gate_callee (f := 40) rfl ?_); refine goesL_ (some 15) rfl rfl Try.func40 (by kernel_rfl) rfl #[.pointer (some ⟨g, 0, none⟩), .int .i64 3] rfl ar_ ?_; (with_reducible refine (spec_l20Rd_pick.calls k1 g s0_0 x1001_1 3 t310 t311 w0 _ ?side1 ?side2 A11.out).mono ?_); (case side1 => exact is102_ HI0.out); (case side2 => exact hb102_ HB.out); rintro e w52 ⟨rfl, hi, hb, hk⟩; refine ⟨_, rfl, ?_⟩; replace HO_308001 := (rk102_ HI0 HO_308001 hk); replace HO_308002 := Aside0.mk (Kd.S_mono (Kd.S_keep (IsS102.apartS (show IsS102 w0 _ g s0_0 x1001_1 from is102_ HI0.out) (kS_ HO_308002.out) (by decide)) hk (fun _ h => h.2)) (fun _ h => h.1)); replace HO_308003 := (rk102_ HI0 HO_308003 hk); replace BK306 := (bkA_ BK306 hk NB306_0); replace BK307 := (bkA_ BK307 hk NB307_0); replace HK := (kk_ HK hk); replace HB := Aside0.mk (hb); replace HI0 := Aside0.mk (hi); (try clear hb); (try clear hb2); (try clear hk); (try clear hi)))
      replace HO_308001 := Aside0.mk (Kd.R_drew HO_308001.out); replace HO_308002 := Aside0.mk (Kd.S_drew HO_308002.out); replace HO_308003 := Aside0.mk (Kd.R_drew HO_308003.out); replace BK306 := Aside0.mk (blk_drew BK306.out); replace BK307 := Aside0.mk (blk_drew BK307.out); replace HI0 := Aside0.mk (IsS102.drew HI0.out); replace HK := Aside0.mk (keep_drew HK.out); replace HB := (bd_ HB)
      refine start_ (n := 11) (S := fun w' => w'.cell? ⟨gb307, 0, none⟩ = some (.int .i64 x308000_1) ∧ w'.cell? ⟨gb307, 1, none⟩ = some (u308001) ∧ w'.cell? ⟨gb307, 2, none⟩ = some (u308002) ∧ w'.cell? ⟨gb307, 3, none⟩ = some (u308003)) (ds := [10]) #[false, false, false, false, false, false, false, false, false, false, false] (by kernel_rfl) rfl rfl (cz4 BK307.out) (fun hHeld => ?_); refine with_tabW spec_l20Asking.tab6 spec_l20Asking.bits6 (fun HT_ HW_ => ?_)
      generalize w52.drew = w53 at HO_308001 HO_308002 HO_308003 BK306 BK307 HI0 HK HB hHeld ⊢
      refine pu_ (i := 1) (N := some 18) HT_ ?_; refine pu_ (i := 2) (N := some 19) HT_ ?_; refine tk_ (i := 0) (N := some 17) HT_ HW_ hHeld ?_
      refine on_ (i := 3) (N := some 20) HT_ (fun K hK => ?_)
      refine goes_ Try.func40 (by kernel_rfl) rfl #[.pointer (some ⟨g, 0, none⟩), .int .i64 5] (by rfl) rfl rfl ar_ ?_
      with_reducible refine (spec_l20Rd_pick.calls k1 g s0_0 t311 5 t340 t341 w0 _ ?side1 ?side2 A49.out).mono ?_
      (case side1 => exact is102_ HI0.out)
      (case side2 => exact hb102_ HB.out)
      rintro e w54 ⟨rfl, hi, hb, hk⟩
      refine ⟨_, rfl, ?_⟩
      replace HO_308001 := (rk102_ HI0 HO_308001 hk); replace HO_308002 := Aside0.mk (Kd.S_mono (Kd.S_keep (IsS102.apartS (show IsS102 w0 _ g s0_0 t311 from is102_ HI0.out) (kS_ HO_308002.out) (by decide)) hk (fun _ h => h.2)) (fun _ h => h.1)); replace HO_308003 := (rk102_ HI0 HO_308003 hk); replace BK306 := (bkA_ BK306 hk NB306_0); replace BK307 := (bkA_ BK307 hk NB307_0); replace HK := (kk_ HK hk); replace HB := Aside0.mk (hb); replace HI0 := Aside0.mk (hi); (try clear hb); (try clear hb2); (try clear hk); (try clear hi)
      refine hK.out _ _ (cz4 BK307.out) (fun hHeld => ?_)
      clear hK K; refine nm_ 20 ?_
      refine on_ (i := 4) (N := some 21) HT_ (fun K hK => ?_)
      refine goes_ Try.func79 (by kernel_rfl) rfl #[.pointer (some ⟨g, 0, none⟩), .int .i64 t340] (by rfl) rfl rfl ar_ ?_
      with_reducible refine (spec_l20Rd_bytes.calls k1 g s0_0 t341 t340 t342 t345 w0 _ ?side1 ?side2 A50.out).mono ?_
      (case side1 => exact is102_ HI0.out)
      (case side2 => exact hb102_ HB.out)
      rintro e w55 ⟨v343, rfl, ho0, hi, hb, hk⟩
      refine ⟨_, rfl, ?_⟩
      replace HO_308001 := (rk102_ HI0 HO_308001 hk); replace HO_308002 := Aside0.mk (Kd.S_mono (Kd.S_told (Kd.S_oldK (IsS102.apartS (show IsS102 w0 _ g s0_0 t341 from is102_ HI0.out) (kS_ HO_308002.out) (by decide)) hk) (Kd.R_base ho0)) (fun _ h_ => op1_ h_)); replace HO_308003 := (rk102_ HI0 HO_308003 hk); replace BK306 := (bkA_ BK306 hk NB306_0); replace BK307 := (bkA_ BK307 hk NB307_0); have HO344 := Aside0.mk (Kd.R_lower ho0 (keep_size (w := w) (g := g) (row := none) (hkA_ HK.out))); replace HK := (kk_ HK hk); replace HB := Aside0.mk (hb); replace HI0 := Aside0.mk (hi); (try clear hb); (try clear hb2); (try clear hk); (try clear hi); (try clear ho0)
      obtain ⟨Ao56, co56, eo56⟩ := Kd.R_slice HO_308001.out
      (first | subst eo56 | (injection eo56 with f1_ f2_ f3_; have f4_ := f1_.symm; have f5_ := f3_.symm; clear f1_ f2_ f3_; subst f4_; subst f5_))
      obtain ⟨Ao57, co57, eo57⟩ := Kd.S_slice HO_308002.out
      (first | subst eo57 | (injection eo57 with f1_ f2_ f3_; have f4_ := f1_.symm; have f5_ := f3_.symm; clear f1_ f2_ f3_; subst f4_; subst f5_))
      obtain ⟨Ao58, co58, eo58⟩ := Kd.R_slice HO_308003.out
      (first | subst eo58 | (injection eo58 with f1_ f2_ f3_; have f4_ := f1_.symm; have f5_ := f3_.symm; clear f1_ f2_ f3_; subst f4_; subst f5_))
      obtain ⟨Ao59, co59, eo59⟩ := Kd.R_slice HO344.out
      (first | subst eo59 | (injection eo59 with f1_ f2_ f3_; have f4_ := f1_.symm; have f5_ := f3_.symm; clear f1_ f2_ f3_; subst f4_; subst f5_))
      refine hK.out _ _ (cz4 BK307.out) (fun hHeld => ?_)
      clear hK K; refine nm_ 21 ?_
      refine on_ (i := 5) (N := some 22) HT_ (fun K hK => ?_)
      refine goes_ Try.func87 (by kernel_rfl) rfl #[.agg #[.int .i64 x308000_1, .slice Ao56 x308001_1.length co56, .slice Ao57 x308002_1.length co57, .slice Ao58 x308003_1.length co58], .slice Ao59 t342.length co59] (by rfl) rfl rfl ar_ ?_
      with_reducible refine (spec_ClientAsk.calls k1 x308000_1 _ _ x308001_1 _ _ x308002_1 _ _ x308003_1 _ _ t342 t346 t347 t350 t353 t356 t359 _ ?side1 ?side2 ?side3 ?side4 ?side5 ?side6 ?side7 ?side8 A51.out).mono ?_
      (case side1 => exact kC_ (Kd.R_reads' HO_308001.out).2.2)
      (case side2 => exact (Kd.R_reads' HO_308001.out).2.1)
      (case side3 => exact kC_ (Kd.S_reads' HO_308002.out).2.2)
      (case side4 => exact (Kd.S_reads' HO_308002.out).2.1)
      (case side5 => exact kC_ (Kd.R_reads' HO_308003.out).2.2)
      (case side6 => exact (Kd.R_reads' HO_308003.out).2.1)
      (case side7 => exact kC_ (Kd.R_reads' HO344.out).2.2)
      (case side8 => exact (Kd.R_reads' HO344.out).2.1)
      rintro e w60 ⟨v348, v351, v354, v357, rfl, ho0, ho1, ho2, ho3, hb⟩
      refine ⟨_, rfl, ?_⟩
      have HO349 := Aside0.mk (Kd.R_lower (Kd.R_new' (Kd.R_new' ho0 (Kd.R_lt (kR_ HO_308001.out))) (Kd.R_lt (kR_ HO_308003.out))) (keep_size (w := w) (g := g) (row := none) (hkA_ HK.out))); have HO352 := Aside0.mk (Kd.S_lower (Kd.S_new' (Kd.S_new' ho1 (Kd.S_lt (kS_ HO_308002.out))) (Kd.R_lt (kR_ HO344.out))) (keep_size (w := w) (g := g) (row := none) (hkA_ HK.out))); replace HO_308002 := Aside0.mk (Kd.S_mono (Kd.S_told (Kd.S_told (Kd.S_old (kS_ HO_308002.out) hb) (Kd.S_base ho1)) (Kd.R_base ho3)) (fun _ h_ => op1_ h_)); have HO355 := Aside0.mk (Kd.R_lower (Kd.R_new' (Kd.R_new' ho2 (Kd.R_lt (kR_ HO_308001.out))) (Kd.R_lt (kR_ HO_308003.out))) (keep_size (w := w) (g := g) (row := none) (hkA_ HK.out))); replace HO_308001 := Aside0.mk (Kd.R_mono (Kd.R_told (Kd.R_told (Kd.R_old (kR_ HO_308001.out) hb) (Kd.R_base ho0)) (Kd.R_base ho2)) (fun _ h_ => op1_ h_)); replace HO_308003 := Aside0.mk (Kd.R_mono (Kd.R_told (Kd.R_told (Kd.R_old (kR_ HO_308003.out) hb) (Kd.R_base ho0)) (Kd.R_base ho2)) (fun _ h_ => op1_ h_)); have HO358 := Aside0.mk (Kd.R_lower (Kd.R_new' ho3 (Kd.R_lt (kR_ HO344.out))) (keep_size (w := w) (g := g) (row := none) (hkA_ HK.out))); replace HO344 := Aside0.mk (Kd.R_elder' (kR_ HO344.out) (Kd.R_base ho3) hb); replace BK306 := (bbA_ BK306 hb); replace BK307 := (bbA_ BK307 hb); replace HI0 := (ib102_ HI0 hb); replace HK := (kw_ HK hb); replace HB := (bs102_ HB hb); (try clear hb); (try clear hb2); (try clear hk); (try clear hi); (try clear ho0); (try clear ho1); (try clear ho2); (try clear ho3)
      obtain ⟨Ao62, co62, eo62⟩ := Kd.R_slice HO349.out
      (first | subst eo62 | (injection eo62 with f1_ f2_ f3_; have f4_ := f1_.symm; have f5_ := f3_.symm; clear f1_ f2_ f3_; subst f4_; subst f5_))
      obtain ⟨Ao64, co64, eo64⟩ := Kd.S_slice HO352.out
      (first | subst eo64 | (injection eo64 with f1_ f2_ f3_; have f4_ := f1_.symm; have f5_ := f3_.symm; clear f1_ f2_ f3_; subst f4_; subst f5_))
      obtain ⟨Ao66, co66, eo66⟩ := Kd.R_slice HO355.out
      (first | subst eo66 | (injection eo66 with f1_ f2_ f3_; have f4_ := f1_.symm; have f5_ := f3_.symm; clear f1_ f2_ f3_; subst f4_; subst f5_))
      refine hK.out _ _ (cz4 BK307.out) (fun hHeld => ?_)
      clear hK K; refine nm_ 22 ?_; refine pu_ (i := 6) (N := some 16) HT_ ?_; refine pu_ (i := 7) (N := some 23) HT_ ?_; refine pu_ (i := 8) (N := some 24) HT_ ?_; refine pu_ (i := 9) (N := some 25) HT_ ?_
      refine last_ (i := 10) (N := none) #[true, true, true, true, true, true, true, true, true, true, true] rfl rfl (one_of HT_.out (by kernel_rfl)) (by decide) (fun K hK => ?_)
      have hs61 : w60.cell? ⟨gb307, 0, none⟩ = some (.int .i64 x308000_1) := bc_ BK307 0
      have hfs61 := blk_frozen BK307.out 0
      have hns61_0 := NB306_307.out; have hms61_0 := NB307_306.out
      have hs63 : w60.cell? ⟨gb307, 1, none⟩ = some (.slice Ao56 x308001_1.length co56) := bc_ BK307 1
      have hfs63 := blk_frozen BK307.out 1
      have hns63_0 := NB306_307.out; have hms63_0 := NB307_306.out
      have hs65 : w60.cell? ⟨gb307, 2, none⟩ = some (.slice Ao57 x308002_1.length co57) := bc_ BK307 2
      have hfs65 := blk_frozen BK307.out 2
      have hns65_0 := NB306_307.out; have hms65_0 := NB307_306.out
      have hs67 : w60.cell? ⟨gb307, 3, none⟩ = some (.slice Ao58 x308003_1.length co58) := bc_ BK307 3
      have hfs67 := blk_frozen BK307.out 3
      have hns67_0 := NB306_307.out; have hms67_0 := NB307_306.out
      refine skip_ (w1 := ?_) (by rfl) rfl ?_ ?_
      rotate_left
      ·go_simp
       rfl
      refine hK.out _ _ ?_
      clear hK K
      refine done_ (done_of HT_.out (by kernel_rfl)) ?_
      try go_wp2
      go_roundg k1
      case measure => have := HK1.out; omega
      case rel => exact ⟨(wrap64 (x6_1 - 1)), (t345), (t346), (t347), (t350), (t353), (.slice Ao62 t347.length co62), (.slice Ao64 t350.length co64), (.slice Ao66 t353.length co66), (by first | rfl | (simp; done) | (simp [*]; done)), H', ⟨by have := HK1.out; omega⟩, ⟨by refine kR_ ?_; exact rfm_ ((Kd.R_types HO349.out BK307.out (by decide))) (fun _ hk => hk.1.1.1)⟩, ⟨by refine kS_ ?_; exact Kd.S_mono (Kd.S_far (p := ⟨gb307, 3, none⟩) (Kd.S_far (p := ⟨gb307, 2, none⟩) (Kd.S_far (p := ⟨gb307, 1, none⟩) (Kd.S_far (p := ⟨gb307, 0, none⟩) (Kd.S_types HO352.out BK307.out (by decide)) (fun _ hk => hk.2) (.int .i64 t346)) (fun _ hk => hk.2) (.slice Ao62 t347.length co62)) (fun _ hk => hk.2) (.slice Ao64 t350.length co64)) (fun _ hk => hk.2) (.slice Ao66 t353.length co66)) (fun _ hk => trivial)⟩, ⟨by refine kR_ ?_; exact rfm_ ((Kd.R_types HO355.out BK307.out (by decide))) (fun _ hk => hk.1.1.1)⟩, ⟨by exact kf_ BK306.out⟩, ⟨by refine kb_ ?_; refine pz4 (cs := #[.int .i64 x308000_1, .slice Ao56 x308001_1.length co56, .slice Ao57 x308002_1.length co57, .slice Ao58 x308003_1.length co58]) ?_; refine kb_ ?_; exact BK307.out⟩, ⟨is102_ HI0.out⟩, ⟨hkA_ HK.out⟩, ⟨hb102_ HB.out⟩⟩
   ·rw [if_neg c10] at H
    have c10b0 : decide (0 < x6_1) = false := decide_eq_false c10
    clear c10
    replace H := Option.bind_eq_some_iff.mp H
    obtain ⟨⟨t360, t361⟩, A680, H⟩ := H
    (try dsimp only at H)
    have A68 := Aside0.mk A680; clear A680
    by_cases c69 : t360 = true
    ·subst c69
     rw [if_pos rfl] at H
     replace H := Option.bind_eq_some_iff.mp H
     obtain ⟨⟨t362, t363⟩, A700, H⟩ := H
     (try dsimp only at H)
     have A70 := Aside0.mk A700; clear A700
     by_cases c71 : t362 = 0
     ·rw [if_pos c71] at H
      have c71b0 : (t362 == 0) = true := beq_iff_eq.mpr c71
      have c71b1 : (t362 != 0) = false := bne_eq_false_iff_eq.mpr c71
      clear c71
      simp only [Option.some.injEq, Prod.mk.injEq] at H
      obtain ⟨rfl, rfl, rfl, rfl, rfl⟩ := H
      go_wp2_with (first | ((with_reducible refine gate_callee (f := 80) rfl ?_); refine goesL_ (some 44) rfl rfl Try.func80 (by kernel_rfl) rfl #[.pointer (some ⟨g, 0, none⟩), .int .i64 a1] rfl ar_ ?_; (with_reducible refine (spec_l20Rd_odd.calls k1 g s0_0 x1001_1 a1 true t361 w0 _ ?side1 ?side2 A68.out).mono ?_); (case side1 => exact is102_ HI0.out); (case side2 => exact hb102_ HB.out); rintro e w72 ⟨rfl, hi, hb, hk⟩; refine ⟨_, rfl, ?_⟩; replace HO_308001 := (rk102_ HI0 HO_308001 hk); replace HO_308002 := Aside0.mk (Kd.S_mono (Kd.S_keep (IsS102.apartS (show IsS102 w0 _ g s0_0 x1001_1 from is102_ HI0.out) (kS_ HO_308002.out) (by decide)) hk (fun _ h => h.2)) (fun _ h => h.1)); replace HO_308003 := (rk102_ HI0 HO_308003 hk); replace BK306 := (bkA_ BK306 hk NB306_0); replace BK307 := (bkA_ BK307 hk NB307_0); replace HK := (kk_ HK hk); replace HB := Aside0.mk (hb); replace HI0 := Aside0.mk (hi); (try clear hb); (try clear hb2); (try clear hk); (try clear hi)) | ((with_reducible refine gate_callee (f := 40) rfl ?_); refine goesL_ (some 46) rfl rfl Try.func40 (by kernel_rfl) rfl #[.pointer (some ⟨g, 0, none⟩), .int .i64 4] rfl ar_ ?_; (with_reducible refine (spec_l20Rd_pick.calls k1 g s0_0 t361 4 t362 t363 w0 _ ?side1 ?side2 A70.out).mono ?_); (case side1 => exact is102_ HI0.out); (case side2 => exact hb102_ HB.out); rintro e w73 ⟨rfl, hi, hb, hk⟩; refine ⟨_, rfl, ?_⟩; replace HO_308001 := (rk102_ HI0 HO_308001 hk); replace HO_308002 := Aside0.mk (Kd.S_mono (Kd.S_keep (IsS102.apartS (show IsS102 w0 _ g s0_0 t361 from is102_ HI0.out) (kS_ HO_308002.out) (by decide)) hk (fun _ h => h.2)) (fun _ h => h.1)); replace HO_308003 := (rk102_ HI0 HO_308003 hk); replace BK306 := (bkA_ BK306 hk NB306_0); replace BK307 := (bkA_ BK307 hk NB307_0); replace HK := (kk_ HK hk); replace HB := Aside0.mk (hb); replace HI0 := Aside0.mk (hi); (try clear hb); (try clear hb2); (try clear hk); (try clear hi); have hnb74 := NB307_306.out; have hnc74 := NB306_307.out; have hnb75 := NB307_0.out; have hnc75 := NB0_307.out; have Z76 := zz4 BK307; have hnb77 := NB306_0.out; have hnc77 := NB0_306.out; have Z78 := zz4 BK306; obtain ⟨Ao79, co79, eo79⟩ := Kd.R_slice HO_308001.out; subst eo79; obtain ⟨Ao80, co80, eo80⟩ := Kd.S_slice HO_308002.out; subst eo80; obtain ⟨Ao81, co81, eo81⟩ := Kd.R_slice HO_308003.out; subst eo81))
      refine bodyPost_ret (results_cell_row rfl _ _ gb306 38 #[.int .i64 (wrap64 (x308000_1 + 1)), .slice Ao79 x308001_1.length co79, .slice Ao80 x308002_1.length co80, .slice Ao81 x308003_1.length co81] (0, 0) _ rfl (by refine kb_ ?_; refine pz4 (cs := #[.int .i64 0, .slice none 0 0, .slice none 0 0, .slice none 0 0]) ?_; exact kf_ BK306.out) Try.underlying38 rfl (by kernel_rfl)) rfl ?_
      exact ⟨_, _, _, by first | rfl | (simp [errW_none, errW_some] <;> rfl) | (simp [*, errW_none, errW_some] <;> rfl), by refine kR_ ?_; exact rfm_ ((Kd.R_far (p := ⟨gb307, 0, none⟩) (Kd.R_types (Kd.R_types HO_308001.out BK307.out (by decide)) BK306.out (by decide)) (fun _ hk => hk.1.2) (.int .i64 (wrap64 (x308000_1 + 1))))) (fun _ hk => hk.1.1), by refine kS_ ?_; exact Kd.S_mono (Kd.S_far (p := ⟨gb306, 3, none⟩) (Kd.S_far (p := ⟨gb306, 2, none⟩) (Kd.S_far (p := ⟨gb306, 1, none⟩) (Kd.S_far (p := ⟨gb306, 0, none⟩) (Kd.S_far (p := ⟨gb307, 0, none⟩) (Kd.S_types (Kd.S_types HO_308002.out BK307.out (by decide)) BK306.out (by decide)) (fun _ hk => hk.1.2) (.int .i64 (wrap64 (x308000_1 + 1)))) (fun _ hk => hk.2) (.int .i64 (wrap64 (x308000_1 + 1)))) (fun _ hk => hk.2) (.slice Ao79 x308001_1.length co79)) (fun _ hk => hk.2) (.slice Ao80 x308002_1.length co80)) (fun _ hk => hk.2) (.slice Ao81 x308003_1.length co81)) (fun _ hk => trivial), by refine kR_ ?_; exact rfm_ ((Kd.R_far (p := ⟨gb307, 0, none⟩) (Kd.R_types (Kd.R_types HO_308003.out BK307.out (by decide)) BK306.out (by decide)) (fun _ hk => hk.1.2) (.int .i64 (wrap64 (x308000_1 + 1))))) (fun _ hk => hk.1.1), is102_ HI0.out, hb102_ HB.out, hkA_ HK.out⟩
     ·rw [if_neg c71] at H
      have c71b0 : (t362 == 0) = false := beq_eq_false_iff_ne.mpr c71
      have c71b1 : (t362 != 0) = true := bne_iff_ne.mpr c71
      by_cases c82 : t362 = 1
      ·rw [if_pos c82] at H
       have c82b0 : (t362 == 1) = true := beq_iff_eq.mpr c82
       have c82b1 : (t362 != 1) = false := bne_eq_false_iff_eq.mpr c82
       clear c82
       by_cases c83 : x308001_1.length < 17592186044416
       ·rw [if_pos c83] at H
        have LMc83 := Aside0.mk c83; clear c83
        obtain ⟨y364, hy364⟩ : ∃ y_ : List Int, y_ = (x308001_1 ++ [0]) := ⟨_, rfl⟩
        (first | replace H := sb_ hy364 H | rw [← hy364] at H)
        have Ny364 := Aside0.mk hy364; clear hy364
        simp only [Option.some.injEq, Prod.mk.injEq] at H
        obtain ⟨rfl, rfl, rfl, rfl, rfl⟩ := H
        go_wp2_with (first | ((with_reducible refine gate_callee (f := 80) rfl ?_); refine goesL_ (some 44) rfl rfl Try.func80 (by kernel_rfl) rfl #[.pointer (some ⟨g, 0, none⟩), .int .i64 a1] rfl ar_ ?_; (with_reducible refine (spec_l20Rd_odd.calls k1 g s0_0 x1001_1 a1 true t361 w0 _ ?side1 ?side2 A68.out).mono ?_); (case side1 => exact is102_ HI0.out); (case side2 => exact hb102_ HB.out); rintro e w84 ⟨rfl, hi, hb, hk⟩; refine ⟨_, rfl, ?_⟩; replace HO_308001 := (rk102_ HI0 HO_308001 hk); replace HO_308002 := Aside0.mk (Kd.S_mono (Kd.S_keep (IsS102.apartS (show IsS102 w0 _ g s0_0 x1001_1 from is102_ HI0.out) (kS_ HO_308002.out) (by decide)) hk (fun _ h => h.2)) (fun _ h => h.1)); replace HO_308003 := (rk102_ HI0 HO_308003 hk); replace BK306 := (bkA_ BK306 hk NB306_0); replace BK307 := (bkA_ BK307 hk NB307_0); replace HK := (kk_ HK hk); replace HB := Aside0.mk (hb); replace HI0 := Aside0.mk (hi); (try clear hb); (try clear hb2); (try clear hk); (try clear hi)) | ((with_reducible refine gate_callee (f := 40) rfl ?_); refine goesL_ (some 46) rfl rfl Try.func40 (by kernel_rfl) rfl #[.pointer (some ⟨g, 0, none⟩), .int .i64 4] rfl ar_ ?_; (with_reducible refine (spec_l20Rd_pick.calls k1 g s0_0 t361 4 t362 t363 w0 _ ?side1 ?side2 A70.out).mono ?_); (case side1 => exact is102_ HI0.out); (case side2 => exact hb102_ HB.out); rintro e w85 ⟨rfl, hi, hb, hk⟩; refine ⟨_, rfl, ?_⟩; replace HO_308001 := (rk102_ HI0 HO_308001 hk); replace HO_308002 := Aside0.mk (Kd.S_mono (Kd.S_keep (IsS102.apartS (show IsS102 w0 _ g s0_0 t361 from is102_ HI0.out) (kS_ HO_308002.out) (by decide)) hk (fun _ h => h.2)) (fun _ h => h.1)); replace HO_308003 := (rk102_ HI0 HO_308003 hk); replace BK306 := (bkA_ BK306 hk NB306_0); replace BK307 := (bkA_ BK307 hk NB307_0); replace HK := (kk_ HK hk); replace HB := Aside0.mk (hb); replace HI0 := Aside0.mk (hi); (try clear hb); (try clear hb2); (try clear hk); (try clear hi); have hnb86 := NB307_306.out; have hnc86 := NB306_307.out; have hnb87 := NB307_0.out; have hnc87 := NB0_307.out; have Z88 := zz4 BK307) | ((with_reducible refine gate_builtin (b := .append) (xs := #[.tmp 69, .tmp 70]) rfl ?_); at_builtin; refine Kd.R_append (Kd.int .i64) w.heap.size rfl (.tmp 69) (.tmp 70) 35 3 (.int .i64 0) 8 rfl Try.underlying35 info3 rfl (by decide) (by omega) u308001 x308001_1 0 [.int .i64 0] (fun k_ => some k_ ≠ (u308003 : Value).ownBlock) (fun _ => False) rfl rfl ?aP (fun _ hk => hk.elim) ?aF ?aO (Below.refl _ _) ?aS ?aL ?_; (case aP => exact rfl); (case aF => exact (fun k_ hk => Kd.fresh' (Kd.R_lt (kR_ HO_308003.out)) k_ hk)); (case aO => exact (kR_ HO_308001.out)); (case aS => exact (keep_size (w := w) (g := g) (row := none) (hkA_ HK.out))); (case aL => have := LMc83.out; omega); intro v365 w89 ho hb hg hat; rw [← Ny364.out] at ho; replace HO_308002 := Aside0.mk (Kd.S_over' (kS_ HO_308002.out) (Kd.R_typed (kR_ HO_308001.out)) (by decide) hg); replace HO_308003 := Aside0.mk (Kd.R_after (ok := (fun _ => True)) (by refine kR_ ?_; exact Kd.R_mono HO_308003.out (fun _ hk => ⟨trivial, hk⟩)) hg hat); replace BK306 := (bgA_ BK306 hg (Kd.R_ne HO_308001.out BK306.out (by decide))); replace BK307 := (bgA_ BK307 hg (Kd.R_ne HO_308001.out BK307.out (by decide))); replace HI0 := Aside0.mk (IsS102.grown (is102_ HI0.out) hg (IsS102.own_ne HI0.out HO_308001.out (by decide))); replace HB := Aside0.mk (below_weaken (hb102_ HB.out) HL.out hb); replace HK := Aside0.mk (KeepBut.trans (hkA_ HK.out) (KeepBut.of_grown hg g) (Kd.R_base2 HO_308001.out)); have HO366 := Aside0.mk (ho); clear HO_308001; clear ho hb hg hat; obtain ⟨Ao90, co90, eo90⟩ := Kd.R_slice HO366.out; subst eo90; have Z91 := zz4 BK307; have hnb92 := NB306_0.out; have hnc92 := NB0_306.out; have Z93 := zz4 BK306; obtain ⟨Ao94, co94, eo94⟩ := Kd.S_slice HO_308002.out; subst eo94; obtain ⟨Ao95, co95, eo95⟩ := Kd.R_slice HO_308003.out; subst eo95))
        refine bodyPost_ret (results_cell_row rfl _ _ gb306 38 #[.int .i64 x308000_1, .slice Ao90 y364.length co90, .slice Ao94 x308002_1.length co94, .slice Ao95 x308003_1.length co95] (0, 0) _ rfl (by refine kb_ ?_; refine pz4 (cs := #[.int .i64 0, .slice none 0 0, .slice none 0 0, .slice none 0 0]) ?_; exact kf_ BK306.out) Try.underlying38 rfl (by kernel_rfl)) rfl ?_
        exact ⟨_, _, _, by first | rfl | (simp [errW_none, errW_some] <;> rfl) | (simp [*, errW_none, errW_some] <;> rfl), by refine kR_ ?_; exact rfm_ ((Kd.R_far (p := ⟨gb307, 1, none⟩) (Kd.R_types (Kd.R_types HO366.out BK307.out (by decide)) BK306.out (by decide)) (fun _ hk => hk.1.2) (.slice Ao90 y364.length co90))) (fun _ hk => hk.1.1), by refine kS_ ?_; exact Kd.S_mono (Kd.S_far (p := ⟨gb306, 3, none⟩) (Kd.S_far (p := ⟨gb306, 2, none⟩) (Kd.S_far (p := ⟨gb306, 1, none⟩) (Kd.S_far (p := ⟨gb306, 0, none⟩) (Kd.S_far (p := ⟨gb307, 1, none⟩) (Kd.S_types (Kd.S_types HO_308002.out BK307.out (by decide)) BK306.out (by decide)) (fun _ hk => hk.1.2) (.slice Ao90 y364.length co90)) (fun _ hk => hk.2) (.int .i64 x308000_1)) (fun _ hk => hk.2) (.slice Ao90 y364.length co90)) (fun _ hk => hk.2) (.slice Ao94 x308002_1.length co94)) (fun _ hk => hk.2) (.slice Ao95 x308003_1.length co95)) (fun _ hk => trivial), by refine kR_ ?_; exact rfm_ ((Kd.R_far (p := ⟨gb307, 1, none⟩) (Kd.R_types (Kd.R_types HO_308003.out BK307.out (by decide)) BK306.out (by decide)) (fun _ hk => hk.1.2) (.slice Ao90 y364.length co90))) (fun _ hk => hk.1.1.2), is102_ HI0.out, hb102_ HB.out, hkA_ HK.out⟩
       ·rw [if_neg c83] at H
        exact absurd H (by simp)
      ·rw [if_neg c82] at H
       have c82b0 : (t362 == 1) = false := beq_eq_false_iff_ne.mpr c82
       have c82b1 : (t362 != 1) = true := bne_iff_ne.mpr c82
       by_cases c96 : t362 = 2
       ·rw [if_pos c96] at H
        have c96b0 : (t362 == 2) = true := beq_iff_eq.mpr c96
        have c96b1 : (t362 != 2) = false := bne_eq_false_iff_eq.mpr c96
        clear c96
        simp only [Option.some.injEq, Prod.mk.injEq] at H
        obtain ⟨rfl, rfl, rfl, rfl, rfl⟩ := H
        go_wp2_with (first | ((with_reducible refine gate_callee (f := 80) rfl ?_); refine goesL_ (some 44) rfl rfl Try.func80 (by kernel_rfl) rfl #[.pointer (some ⟨g, 0, none⟩), .int .i64 a1] rfl ar_ ?_; (with_reducible refine (spec_l20Rd_odd.calls k1 g s0_0 x1001_1 a1 true t361 w0 _ ?side1 ?side2 A68.out).mono ?_); (case side1 => exact is102_ HI0.out); (case side2 => exact hb102_ HB.out); rintro e w97 ⟨rfl, hi, hb, hk⟩; refine ⟨_, rfl, ?_⟩; replace HO_308001 := (rk102_ HI0 HO_308001 hk); replace HO_308002 := Aside0.mk (Kd.S_mono (Kd.S_keep (IsS102.apartS (show IsS102 w0 _ g s0_0 x1001_1 from is102_ HI0.out) (kS_ HO_308002.out) (by decide)) hk (fun _ h => h.2)) (fun _ h => h.1)); replace HO_308003 := (rk102_ HI0 HO_308003 hk); replace BK306 := (bkA_ BK306 hk NB306_0); replace BK307 := (bkA_ BK307 hk NB307_0); replace HK := (kk_ HK hk); replace HB := Aside0.mk (hb); replace HI0 := Aside0.mk (hi); (try clear hb); (try clear hb2); (try clear hk); (try clear hi)) | ((with_reducible refine gate_callee (f := 40) rfl ?_); refine goesL_ (some 46) rfl rfl Try.func40 (by kernel_rfl) rfl #[.pointer (some ⟨g, 0, none⟩), .int .i64 4] rfl ar_ ?_; (with_reducible refine (spec_l20Rd_pick.calls k1 g s0_0 t361 4 t362 t363 w0 _ ?side1 ?side2 A70.out).mono ?_); (case side1 => exact is102_ HI0.out); (case side2 => exact hb102_ HB.out); rintro e w98 ⟨rfl, hi, hb, hk⟩; refine ⟨_, rfl, ?_⟩; replace HO_308001 := (rk102_ HI0 HO_308001 hk); replace HO_308002 := Aside0.mk (Kd.S_mono (Kd.S_keep (IsS102.apartS (show IsS102 w0 _ g s0_0 t361 from is102_ HI0.out) (kS_ HO_308002.out) (by decide)) hk (fun _ h => h.2)) (fun _ h => h.1)); replace HO_308003 := (rk102_ HI0 HO_308003 hk); replace BK306 := (bkA_ BK306 hk NB306_0); replace BK307 := (bkA_ BK307 hk NB307_0); replace HK := (kk_ HK hk); replace HB := Aside0.mk (hb); replace HI0 := Aside0.mk (hi); (try clear hb); (try clear hb2); (try clear hk); (try clear hi); have hnb99 := NB307_306.out; have hnc99 := NB306_307.out; have hnb100 := NB307_0.out; have hnc100 := NB0_307.out; have Z101 := zz4 BK307; have hnb102 := NB306_0.out; have hnc102 := NB0_306.out; have Z103 := zz4 BK306; obtain ⟨Ao104, co104, eo104⟩ := Kd.R_slice HO_308001.out; subst eo104; obtain ⟨Ao105, co105, eo105⟩ := Kd.S_slice HO_308002.out; subst eo105; obtain ⟨Ao106, co106, eo106⟩ := Kd.R_slice HO_308003.out; subst eo106))
        refine bodyPost_ret (results_cell_row rfl _ _ gb306 38 #[.int .i64 257, .slice Ao104 x308001_1.length co104, .slice Ao105 x308002_1.length co105, .slice Ao106 x308003_1.length co106] (0, 0) _ rfl (by refine kb_ ?_; refine pz4 (cs := #[.int .i64 0, .slice none 0 0, .slice none 0 0, .slice none 0 0]) ?_; exact kf_ BK306.out) Try.underlying38 rfl (by kernel_rfl)) rfl ?_
        exact ⟨_, _, _, by first | rfl | (simp [errW_none, errW_some] <;> rfl) | (simp [*, errW_none, errW_some] <;> rfl), by refine kR_ ?_; exact rfm_ ((Kd.R_far (p := ⟨gb307, 0, none⟩) (Kd.R_types (Kd.R_types HO_308001.out BK307.out (by decide)) BK306.out (by decide)) (fun _ hk => hk.1.2) (.int .i64 257))) (fun _ hk => hk.1.1), by refine kS_ ?_; exact Kd.S_mono (Kd.S_far (p := ⟨gb306, 3, none⟩) (Kd.S_far (p := ⟨gb306, 2, none⟩) (Kd.S_far (p := ⟨gb306, 1, none⟩) (Kd.S_far (p := ⟨gb306, 0, none⟩) (Kd.S_far (p := ⟨gb307, 0, none⟩) (Kd.S_types (Kd.S_types HO_308002.out BK307.out (by decide)) BK306.out (by decide)) (fun _ hk => hk.1.2) (.int .i64 257)) (fun _ hk => hk.2) (.int .i64 257)) (fun _ hk => hk.2) (.slice Ao104 x308001_1.length co104)) (fun _ hk => hk.2) (.slice Ao105 x308002_1.length co105)) (fun _ hk => hk.2) (.slice Ao106 x308003_1.length co106)) (fun _ hk => trivial), by refine kR_ ?_; exact rfm_ ((Kd.R_far (p := ⟨gb307, 0, none⟩) (Kd.R_types (Kd.R_types HO_308003.out BK307.out (by decide)) BK306.out (by decide)) (fun _ hk => hk.1.2) (.int .i64 257))) (fun _ hk => hk.1.1), is102_ HI0.out, hb102_ HB.out, hkA_ HK.out⟩
       ·rw [if_neg c96] at H
        have c96b0 : (t362 == 2) = false := beq_eq_false_iff_ne.mpr c96
        have c96b1 : (t362 != 2) = true := bne_iff_ne.mpr c96
        by_cases c107 : 10 ≤ 281474976710656
        ·rw [if_pos c107] at H
         have c107b0 := eq_true c107
         have c107b1 : decide (10 ≤ 281474976710656) = true := decide_eq_true c107
         clear c107
         obtain ⟨y367, hy367⟩ : ∃ y_ : List Int, y_ = (List.replicate 10 0) := ⟨_, rfl⟩
         (first | replace H := sb_ hy367 H | rw [← hy367] at H)
         have Ny367 := Aside0.mk hy367; clear hy367
         by_cases c108 : x308002_1.length < 4398046511104
         ·rw [if_pos c108] at H
          have LMc108 := Aside0.mk c108; clear c108
          obtain ⟨y370, hy370⟩ : ∃ y_ : List (S81), y_ = (x308002_1 ++ [(⟨x308000_1, y367⟩ : S81)]) := ⟨_, rfl⟩
          (first | replace H := sb_ hy370 H | rw [← hy370] at H)
          have Ny370 := Aside0.mk hy370; clear hy370
          simp only [Option.some.injEq, Prod.mk.injEq] at H
          obtain ⟨rfl, rfl, rfl, rfl, rfl⟩ := H
          try go_wp2_with (first | ((with_reducible refine gate_callee (f := 80) rfl ?_); refine goesL_ (some 44) rfl rfl Try.func80 (by kernel_rfl) rfl #[.pointer (some ⟨g, 0, none⟩), .int .i64 a1] rfl ar_ ?_; (with_reducible refine (spec_l20Rd_odd.calls k1 g s0_0 x1001_1 a1 true t361 w0 _ ?side1 ?side2 A68.out).mono ?_); (case side1 => exact is102_ HI0.out); (case side2 => exact hb102_ HB.out); rintro e w109 ⟨rfl, hi, hb, hk⟩; refine ⟨_, rfl, ?_⟩; replace HO_308001 := (rk102_ HI0 HO_308001 hk); replace HO_308002 := Aside0.mk (Kd.S_mono (Kd.S_keep (IsS102.apartS (show IsS102 w0 _ g s0_0 x1001_1 from is102_ HI0.out) (kS_ HO_308002.out) (by decide)) hk (fun _ h => h.2)) (fun _ h => h.1)); replace HO_308003 := (rk102_ HI0 HO_308003 hk); replace BK306 := (bkA_ BK306 hk NB306_0); replace BK307 := (bkA_ BK307 hk NB307_0); replace HK := (kk_ HK hk); replace HB := Aside0.mk (hb); replace HI0 := Aside0.mk (hi); (try clear hb); (try clear hb2); (try clear hk); (try clear hi)) | ((with_reducible refine gate_callee (f := 40) rfl ?_); refine goesL_ (some 46) rfl rfl Try.func40 (by kernel_rfl) rfl #[.pointer (some ⟨g, 0, none⟩), .int .i64 4] rfl ar_ ?_; (with_reducible refine (spec_l20Rd_pick.calls k1 g s0_0 t361 4 t362 t363 w0 _ ?side1 ?side2 A70.out).mono ?_); (case side1 => exact is102_ HI0.out); (case side2 => exact hb102_ HB.out); rintro e w110 ⟨rfl, hi, hb, hk⟩; refine ⟨_, rfl, ?_⟩; replace HO_308001 := (rk102_ HI0 HO_308001 hk); replace HO_308002 := Aside0.mk (Kd.S_mono (Kd.S_keep (IsS102.apartS (show IsS102 w0 _ g s0_0 t361 from is102_ HI0.out) (kS_ HO_308002.out) (by decide)) hk (fun _ h => h.2)) (fun _ h => h.1)); replace HO_308003 := (rk102_ HI0 HO_308003 hk); replace BK306 := (bkA_ BK306 hk NB306_0); replace BK307 := (bkA_ BK307 hk NB307_0); replace HK := (kk_ HK hk); replace HB := Aside0.mk (hb); replace HI0 := Aside0.mk (hi); (try clear hb); (try clear hb2); (try clear hk); (try clear hi)))
          replace HO_308001 := Aside0.mk (Kd.R_drew HO_308001.out); replace HO_308002 := Aside0.mk (Kd.S_drew HO_308002.out); replace HO_308003 := Aside0.mk (Kd.R_drew HO_308003.out); replace BK306 := Aside0.mk (blk_drew BK306.out); replace BK307 := Aside0.mk (blk_drew BK307.out); replace HI0 := Aside0.mk (IsS102.drew HI0.out); replace HK := Aside0.mk (keep_drew HK.out); replace HB := (bd_ HB)
          refine start_ (n := 10) (S := fun w' => w'.cell? ⟨gb307, 0, none⟩ = some (.int .i64 x308000_1) ∧ w'.cell? ⟨gb307, 1, none⟩ = some (u308001) ∧ w'.cell? ⟨gb307, 2, none⟩ = some (u308002) ∧ w'.cell? ⟨gb307, 3, none⟩ = some (u308003)) (ds := [9]) #[false, false, false, false, false, false, false, false, false, false] (by kernel_rfl) rfl rfl (cz4 BK307.out) (fun hHeld => ?_); refine with_tabW spec_l20Asking.tab14 spec_l20Asking.bits14 (fun HT_ HW_ => ?_)
          generalize w110.drew = w111 at HO_308001 HO_308002 HO_308003 BK306 BK307 HI0 HK HB hHeld ⊢
          refine pu_ (i := 0) (N := some 47) HT_ ?_; refine pu_ (i := 2) (N := some 49) HT_ ?_; refine tk_ (i := 1) (N := some 48) HT_ HW_ hHeld ?_; refine tk_ (i := 3) (N := some 50) HT_ HW_ hHeld ?_
          refine on_ (i := 4) (N := some 51) HT_ (fun K hK => ?_)
          refine Kd.R_make_step (Kd.int .u8) _ 5 (by rfl) (N := 51) rfl 22 _ _ rfl 10 rfl rfl Try.underlying22 (.int .u8 0) 1 info5 rfl (by decide) (by omega) 0 (ok := fun _ => True) (okp := fun _ => True) rfl (fun _ hk => hk) trivial (by omega) (by omega) (Below.refl _ _) (Nat.le_refl _) ?_
          intro v368 w112 ho113 hb hg_ hnew_
          clear hg_ hnew_
          (first | rw [← Ny367.out] at ho113 | (simp only [Int.reduceToNat] at ho113; rw [← Ny367.out] at ho113))
          have n0_ := Aside0.mk (Kd.R_below (kR_ HO_308001.out) hb); have n1_ := Aside0.mk (Kd.S_elder' (kS_ HO_308002.out) (Kd.R_base ho113) hb); have n2_ := Aside0.mk (Kd.R_below (kR_ HO_308003.out) hb); have n3_ := Aside0.mk (Kd.R_lower ho113 (keep_size (w := w) (g := g) (row := none) (hkA_ HK.out))); have n4_ := (bbA_ BK306 hb); have n5_ := (bbA_ BK307 hb); have n6_ := (ib102_ HI0 hb); have n7_ := (kw_ HK hb); have n8_ := (bs102_ HB hb); clear HO_308001 HO_308002 HO_308003 BK306 BK307 HI0 HK HB; have HO_308001 := n0_; have HO_308002 := n1_; have HO_308003 := n2_; have HO369 := n3_; have BK306 := n4_; have BK307 := n5_; have HI0 := n6_; have HK := n7_; have HB := n8_; clear n0_ n1_ n2_ n3_ n4_ n5_ n6_ n7_ n8_ hb ho113
          obtain ⟨Ao114, co114, eo114⟩ := Kd.R_slice HO369.out
          (first | subst eo114 | (injection eo114 with f1_ f2_ f3_; have f4_ := f1_.symm; have f5_ := f3_.symm; clear f1_ f2_ f3_; subst f4_; subst f5_))
          refine hK.out _ _ (cz4 BK307.out) (fun hHeld => ?_)
          clear hK K; refine nm_ 51 ?_; refine pu_ (i := 5) (N := some 52) HT_ ?_
          refine on_ (i := 6) (N := some 53) HT_ (fun K hK => ?_)
          refine value_ (w1 := ?_) (v := ?_) (by rfl) rfl ?_ ?_
          rotate_left 2
          ·go_simp
           constructor
           ·rfl
           ·rfl
          refine hK.out _ _ ⟨(blk_cell (blk_alloc BK307.out _) 0).trans rfl, (blk_cell (blk_alloc BK307.out _) 1).trans rfl, (blk_cell (blk_alloc BK307.out _) 2).trans rfl, (blk_cell (blk_alloc BK307.out _) 3).trans rfl⟩ (fun hHeld => ?_)
          clear hK K; refine nm_ 53 ?_
          refine on_ (i := 7) (N := some 54) HT_ (fun K hK => ?_)
          refine Kd.S_append_step k81 w.heap.size (by rfl) (.tmp 48) (.tmp 53) 36 81 (.agg #[(.int .i64 0), (.slice none 0 0)]) 32 rfl Try.underlying36 info81 rfl (by decide) (by omega) u308002 x308002_1 (⟨x308000_1, y367⟩ : S81) [.int .i64 x308000_1, .slice Ao114 y367.length co114] (fun _ => True) (fun k_ => some k_ = (.slice Ao114 y367.length co114 : Value).ownBlock) rfl rfl ?aP (fun k_ hk_ => ((Kd.R_mono (ok' := fun k_ => ((fun _ => True)) k_ ∧ some k_ ≠ (u308002 : Value).ownBlock) (Kd.R_apart' (HO369.out) (Kd.S_typed HO_308002.out) (by decide)) (fun k_ hk => ⟨trivial, hk.2⟩))).1 k_ hk_.symm) ?aF ?aO (Below.refl _ _) ?aS ?aL ?_
          (case aP => exact k81_mkM _ _ _ (⟨x308000_1, y367⟩ : S81) (Kd.R_mono (Kd.R_tight rfl (Kd.R_mono (ok' := fun k_ => ((fun _ => True)) k_ ∧ some k_ ≠ (u308002 : Value).ownBlock) (Kd.R_apart' (HO369.out) (Kd.S_typed HO_308002.out) (by decide)) (fun k_ hk => ⟨trivial, hk.2⟩))) (fun _ h_ => h_)))
          (case aF => exact (fun _ _ => trivial))
          (case aO => exact (by refine kS_ ?_; exact Kd.S_mono HO_308002.out (fun k_ hk => ⟨trivial, fun e_ => hk.2 e_⟩)))
          (case aS => exact (keep_size (w := w) (g := g) (row := none) (hkA_ HK.out)))
          (case aL => have := LMc108.out; omega)
          intro v371 w115 ho hb hg hat
          rw [← Ny370.out] at ho
          have n0_ := Aside0.mk (Kd.R_over' (kR_ HO_308001.out) (Kd.S_typed (kS_ HO_308002.out)) (by decide) hg); have n1_ := Aside0.mk (Kd.R_over' (kR_ HO_308003.out) (Kd.S_typed (kS_ HO_308002.out)) (by decide) hg); have n2_ := (bgA_ BK306 hg (Kd.S_ne HO_308002.out BK306.out (by decide))); have n3_ := (bgA_ BK307 hg (Kd.S_ne HO_308002.out BK307.out (by decide))); have n4_ := Aside0.mk (IsS102.grown (is102_ HI0.out) hg (IsS102.own_neS HI0.out HO_308002.out (by decide))); have n5_ := Aside0.mk (below_weaken (hb102_ HB.out) HL.out hb); have n6_ := Aside0.mk (KeepBut.trans (hkA_ HK.out) (KeepBut.of_grown hg g) (Kd.S_base2 HO_308002.out)); have n7_ := Aside0.mk (ho); clear HO_308001 HO_308003 BK306 BK307 HI0 HB HK HO_308002 HO369; have HO_308001 := n0_; have HO_308003 := n1_; have BK306 := n2_; have BK307 := n3_; have HI0 := n4_; have HB := n5_; have HK := n6_; have HO372 := n7_; clear n0_ n1_ n2_ n3_ n4_ n5_ n6_ n7_ ho hb hg hat
          obtain ⟨Ao116, co116, eo116⟩ := Kd.S_slice HO372.out
          (first | subst eo116 | (injection eo116 with f1_ f2_ f3_; have f4_ := f1_.symm; have f5_ := f3_.symm; clear f1_ f2_ f3_; subst f4_; subst f5_))
          refine hK.out _ _ (cz4 BK307.out) (fun hHeld => ?_)
          clear hK K; refine nm_ 54 ?_; refine pu_ (i := 8) (N := some 55) HT_ ?_
          refine last_ (i := 9) (N := none) #[true, true, true, true, true, true, true, true, true, true] rfl rfl (one_of HT_.out (by kernel_rfl)) (by decide) (fun K hK => ?_)
          have hs117 : w115.cell? ⟨gb307, 2, none⟩ = some (u308002) := bc_ BK307 2
          have hfs117 := blk_frozen BK307.out 2
          have hns117_0 := NB306_307.out; have hms117_0 := NB307_306.out
          refine skip_ (w1 := ?_) (by rfl) rfl ?_ ?_
          rotate_left
          ·go_simp
           rfl
          refine hK.out _ _ ?_
          clear hK K
          refine done_ (done_of HT_.out (by kernel_rfl)) ?_
          have hnb118 := NB307_306.out; have hnc118 := NB306_307.out; have hnb119 := NB307_0.out; have hnc119 := NB0_307.out; have Z120 := zz4 BK307; have hnb121 := NB306_0.out; have hnc121 := NB0_306.out; have Z122 := zz4 BK306
          obtain ⟨Ao123, co123, eo123⟩ := Kd.R_slice HO_308001.out
          subst eo123
          obtain ⟨Ao124, co124, eo124⟩ := Kd.R_slice HO_308003.out
          subst eo124
          try go_wp2
          refine bodyPost_ret (results_cell_row rfl _ _ gb306 38 #[.int .i64 (wrap64 (x308000_1 + 1)), .slice Ao123 x308001_1.length co123, .slice Ao116 y370.length co116, .slice Ao124 x308003_1.length co124] (0, 0) _ rfl (by refine kb_ ?_; refine pz4 (cs := #[.int .i64 0, .slice none 0 0, .slice none 0 0, .slice none 0 0]) ?_; exact kf_ BK306.out) Try.underlying38 rfl (by kernel_rfl)) rfl ?_
          exact ⟨_, _, _, by first | rfl | (simp [errW_none, errW_some] <;> rfl) | (simp [*, errW_none, errW_some] <;> rfl), by refine kR_ ?_; exact rfm_ ((Kd.R_far (p := ⟨gb307, 0, none⟩) (Kd.R_far (p := ⟨gb307, 2, none⟩) (Kd.R_types (Kd.R_types HO_308001.out BK307.out (by decide)) BK306.out (by decide)) (fun _ hk => hk.1.2) (.slice Ao116 y370.length co116)) (fun _ hk => hk.1.2) (.int .i64 (wrap64 (x308000_1 + 1))))) (fun _ hk => hk.1.1), by refine kS_ ?_; exact Kd.S_mono (Kd.S_far (p := ⟨gb306, 3, none⟩) (Kd.S_far (p := ⟨gb306, 2, none⟩) (Kd.S_far (p := ⟨gb306, 1, none⟩) (Kd.S_far (p := ⟨gb306, 0, none⟩) (Kd.S_far (p := ⟨gb307, 0, none⟩) (Kd.S_far (p := ⟨gb307, 2, none⟩) (Kd.S_types (Kd.S_types HO372.out BK307.out (by decide)) BK306.out (by decide)) (fun _ hk => hk.1.2) (.slice Ao116 y370.length co116)) (fun _ hk => hk.1.2) (.int .i64 (wrap64 (x308000_1 + 1)))) (fun _ hk => hk.2) (.int .i64 (wrap64 (x308000_1 + 1)))) (fun _ hk => hk.2) (.slice Ao123 x308001_1.length co123)) (fun _ hk => hk.2) (.slice Ao116 y370.length co116)) (fun _ hk => hk.2) (.slice Ao124 x308003_1.length co124)) (fun _ hk => trivial), by refine kR_ ?_; exact rfm_ ((Kd.R_far (p := ⟨gb307, 0, none⟩) (Kd.R_far (p := ⟨gb307, 2, none⟩) (Kd.R_types (Kd.R_types HO_308003.out BK307.out (by decide)) BK306.out (by decide)) (fun _ hk => hk.1.2) (.slice Ao116 y370.length co116)) (fun _ hk => hk.1.2) (.int .i64 (wrap64 (x308000_1 + 1))))) (fun _ hk => hk.1.1), is102_ HI0.out, hb102_ HB.out, hkA_ HK.out⟩
         ·rw [if_neg c108] at H
          exact absurd H (by simp)
        ·rw [if_neg c107] at H
         exact absurd H (by simp)
    ·replace c69 := Bool.eq_false_iff.mpr c69
     subst c69
     rw [if_neg (show ¬ (false = true) by decide)] at H
     simp only [Option.some.injEq, Prod.mk.injEq] at H
     obtain ⟨rfl, rfl, rfl, rfl, rfl⟩ := H
     go_wp2_with (first | ((with_reducible refine gate_callee (f := 80) rfl ?_); refine goesL_ (some 44) rfl rfl Try.func80 (by kernel_rfl) rfl #[.pointer (some ⟨g, 0, none⟩), .int .i64 a1] rfl ar_ ?_; (with_reducible refine (spec_l20Rd_odd.calls k1 g s0_0 x1001_1 a1 false t361 w0 _ ?side1 ?side2 A68.out).mono ?_); (case side1 => exact is102_ HI0.out); (case side2 => exact hb102_ HB.out); rintro e w125 ⟨rfl, hi, hb, hk⟩; refine ⟨_, rfl, ?_⟩; replace HO_308001 := (rk102_ HI0 HO_308001 hk); replace HO_308002 := Aside0.mk (Kd.S_mono (Kd.S_keep (IsS102.apartS (show IsS102 w0 _ g s0_0 x1001_1 from is102_ HI0.out) (kS_ HO_308002.out) (by decide)) hk (fun _ h => h.2)) (fun _ h => h.1)); replace HO_308003 := (rk102_ HI0 HO_308003 hk); replace BK306 := (bkA_ BK306 hk NB306_0); replace BK307 := (bkA_ BK307 hk NB307_0); replace HK := (kk_ HK hk); replace HB := Aside0.mk (hb); replace HI0 := Aside0.mk (hi); (try clear hb); (try clear hb2); (try clear hk); (try clear hi); have hnb126 := NB307_306.out; have hnc126 := NB306_307.out; have hnb127 := NB307_0.out; have hnc127 := NB0_307.out; have Z128 := zz4 BK307; have hnb129 := NB306_0.out; have hnc129 := NB0_306.out; have Z130 := zz4 BK306; obtain ⟨Ao131, co131, eo131⟩ := Kd.R_slice HO_308001.out; subst eo131; obtain ⟨Ao132, co132, eo132⟩ := Kd.S_slice HO_308002.out; subst eo132; obtain ⟨Ao133, co133, eo133⟩ := Kd.R_slice HO_308003.out; subst eo133))
     refine bodyPost_ret (results_cell_row rfl _ _ gb306 38 #[.int .i64 x308000_1, .slice Ao131 x308001_1.length co131, .slice Ao132 x308002_1.length co132, .slice Ao133 x308003_1.length co133] (0, 0) _ rfl (by refine kb_ ?_; refine pz4 (cs := #[.int .i64 0, .slice none 0 0, .slice none 0 0, .slice none 0 0]) ?_; refine kb_ ?_; exact BK306.out) Try.underlying38 rfl (by kernel_rfl)) rfl ?_
     exact ⟨_, _, _, by first | rfl | (simp [errW_none, errW_some] <;> rfl) | (simp [*, errW_none, errW_some] <;> rfl), by refine kR_ ?_; exact rfm_ ((Kd.R_types HO_308001.out BK306.out (by decide))) (fun _ hk => hk.1), by refine kS_ ?_; exact Kd.S_mono (Kd.S_far (p := ⟨gb306, 3, none⟩) (Kd.S_far (p := ⟨gb306, 2, none⟩) (Kd.S_far (p := ⟨gb306, 1, none⟩) (Kd.S_far (p := ⟨gb306, 0, none⟩) (Kd.S_types HO_308002.out BK306.out (by decide)) (fun _ hk => hk.2) (.int .i64 x308000_1)) (fun _ hk => hk.2) (.slice Ao131 x308001_1.length co131)) (fun _ hk => hk.2) (.slice Ao132 x308002_1.length co132)) (fun _ hk => hk.2) (.slice Ao133 x308003_1.length co133)) (fun _ hk => trivial), by refine kR_ ?_; exact rfm_ ((Kd.R_types HO_308003.out BK306.out (by decide))) (fun _ hk => hk.1), is102_ HI0.out, hb102_ HB.out, hkA_ HK.out⟩
def spec_DrawClientOk.f (k : Nat) (l0 : List Int) : Option (Int × List Int × (List (S81)) × List Int) := (spec_l20Open.f l0).bind fun bt374 => ((spec_l20Asking.f k bt374.1 bt374.2 2).bind fun bt377 => (some (bt377.1, bt377.2.1, bt377.2.2.1, bt377.2.2.2.1)))
theorem spec_DrawClientOk.mono : ∀ a0 k, LeO (spec_DrawClientOk.f k a0) (spec_DrawClientOk.f (k + 1) a0) := by
 intro a0 k
 unfold spec_DrawClientOk.f
 repeat' first | (with_reducible first | apply spec_l20Asking.mono | exact LeO.refl _ | exact LeO.none _ | refine LeO.ite ?_ ?_ | refine LeO.bind ?_ fun _ => ?_) | apply spec_l20Asking.mono | exact LeO.none _ | refine LeO.ite ?_ ?_ | refine LeO.bind ?_ fun _ => ?_
set_option maxHeartbeats 8000000 in
set_option maxRecDepth 100000 in
theorem spec_DrawClientOk.calls (k : Nat) (A0 : Option Addr) (c0 : Nat) (l0 : List Int) (r1 : Int) (r2 : List Int) (r3 : List (S81)) (r4 : List Int) (w : World) (hr0 : Kd.C (Kd.int .u8) w A0 l0.length l0) (hc0 : l0.length ≤ c0) (h : spec_DrawClientOk.f k l0 = some (r1, r2, r3, r4)) :
  Calls Try.prog 15 #[.slice A0 l0.length c0] w fun e w' => ∃ v1_ v2_ v3_ : Value, e = .returned (.agg #[.int .i64 r1, v1_, v2_, v3_]) ∧ Kd.R (Kd.int .i64) 3 w' w.heap.size (fun k_ => some k_ ≠ (v3_ : Value).ownBlock) v1_ r2 ∧ Kd.S k81 81 w' w.heap.size (fun _ => True) v2_ r3 ∧ Kd.R (Kd.int .i64) 3 w' w.heap.size (fun k_ => some k_ ≠ (v1_ : Value).ownBlock) v3_ r4 ∧ Below w.heap.size w w' := by
 have hu38 := Try.underlying38; have HR0 := Aside0.mk hr0; have HC0 := Aside0.mk hc0; clear hr0 hc0
 have HB := Aside0.mk (Below.refl w.heap.size w)
 have H : ((spec_l20Open.f l0).bind fun bt374 => ((spec_l20Asking.f k bt374.1 bt374.2 2).bind fun bt377 => (some (bt377.1, bt377.2.1, bt377.2.2.1, bt377.2.2.2.1)))) = some (r1, r2, r3, r4) := h
 clear h
 replace H := Option.bind_eq_some_iff.mp H
 obtain ⟨⟨t374, t375⟩, A20, H⟩ := H
 (try dsimp only at H)
 have A2 := Aside0.mk A20; clear A20
 replace H := Option.bind_eq_some_iff.mp H
 obtain ⟨⟨t377, t378, t381, t384, t387⟩, A30, H⟩ := H
 (try dsimp only at H)
 have A3 := Aside0.mk A30; clear A30
 simp only [Option.some.injEq, Prod.mk.injEq] at H
 obtain ⟨rfl, rfl, rfl, rfl⟩ := H
 go_enter Try.func15, Try.ntmps15
 go_wp2_with (first | ((with_reducible refine gate_dst (N := 2) rfl ?_); refine box_ (N := 2) (cs := #[.int .i64 0, .slice none 0 0, .slice none 0 0, .slice none 0 0]) (t := 38) (fun gb373 hg w4 hbox hb => ?_); have BK373 := Aside0.mk (hbox); have GW373 := ge_ hg HB; have GE373 := ge_ hg HB; replace HB := (bs_ HB hb); clear hb hbox hg) | ((with_reducible refine gate_callee (f := 39) rfl ?_); refine goesL_ (some 4) rfl rfl Try.func39 (by kernel_rfl) rfl #[.slice A0 l0.length c0] rfl ar_ ?_; (with_reducible refine (spec_l20Open.calls _ _ l0 t374 t375 w _ ?side1 ?side2 ?side3 A2.out).mono ?_); (case side1 => exact hbA_ HB.out); (case side2 => exact HR0.out); (case side3 => exact HC0.out); rintro e w5 ⟨g376, rfl, hi, hb, hb2⟩; refine ⟨_, rfl, ?_⟩; replace HB := Aside0.mk (hb); have HI376 := Aside0.mk (hi); have NB376_373 := Aside0.mk (IsS102.ne_blk hi (bb_ BK373 hb2) (by decide)); have NB373_376 := Aside0.mk (Ne.symm (IsS102.ne_blk hi (bb_ BK373 hb2) (by decide))); replace BK373 := (bbA_ BK373 hb2); (try clear hb); (try clear hb2); (try clear hk); (try clear hi)) | ((with_reducible refine gate_callee (f := 50) rfl ?_); refine goesL_ (some 5) rfl rfl Try.func50 (by kernel_rfl) rfl #[.pointer (some ⟨g376, 0, none⟩), .int .i64 2] rfl ar_ ?_; (with_reducible refine (spec_l20Asking.calls k g376 t374 t375 2 t377 t378 t381 t384 t387 w _ ?side1 ?side2 A3.out).mono ?_); (case side1 => exact is102_ HI376.out); (case side2 => exact hb102_ HB.out); rintro e w6 ⟨v379, v382, v385, rfl, ho0, ho1, ho2, hi, hb, hk⟩; refine ⟨_, rfl, ?_⟩; replace BK373 := (bkA_ BK373 hk NB373_376); have HO380 := Aside0.mk (Kd.R_lower ho0 (below_size (hb102_ HB.out))); have HO383 := Aside0.mk (Kd.S_lower ho1 (below_size (hb102_ HB.out))); have HO386 := Aside0.mk (Kd.R_lower ho2 (below_size (hb102_ HB.out))); replace HB := Aside0.mk (hb); replace HI376 := Aside0.mk (hi); (try clear hb); (try clear hb2); (try clear hk); (try clear hi); (try clear ho0); (try clear ho1); (try clear ho2); have hnb7 := NB373_376.out; have hnc7 := NB376_373.out; have Z8 := zz4 BK373; obtain ⟨Ao9, co9, eo9⟩ := Kd.R_slice HO380.out; subst eo9; obtain ⟨Ao10, co10, eo10⟩ := Kd.S_slice HO383.out; subst eo10; obtain ⟨Ao11, co11, eo11⟩ := Kd.R_slice HO386.out; subst eo11))
 refine bodyPost_ret (results_cell_row rfl _ _ gb373 38 #[.int .i64 t377, .slice Ao9 t378.length co9, .slice Ao10 t381.length co10, .slice Ao11 t384.length co11] (0, 0) _ rfl (by refine kb_ ?_; refine pz4 (cs := #[.int .i64 0, .slice none 0 0, .slice none 0 0, .slice none 0 0]) ?_; refine kb_ ?_; exact BK373.out) Try.underlying38 rfl (by kernel_rfl)) rfl ?_
 exact ⟨_, _, _, by first | rfl | (simp [errW_none, errW_some] <;> rfl) | (simp [*, errW_none, errW_some] <;> rfl), by refine kR_ ?_; exact rfm_ ((Kd.R_types HO380.out BK373.out (by decide))) (fun _ hk => hk.1), by refine kS_ ?_; exact Kd.S_mono (Kd.S_far (p := ⟨gb373, 3, none⟩) (Kd.S_far (p := ⟨gb373, 2, none⟩) (Kd.S_far (p := ⟨gb373, 1, none⟩) (Kd.S_far (p := ⟨gb373, 0, none⟩) (Kd.S_types HO383.out BK373.out (by decide)) (fun _ hk => hk.2) (.int .i64 t377)) (fun _ hk => hk.2) (.slice Ao9 t378.length co9)) (fun _ hk => hk.2) (.slice Ao10 t381.length co10)) (fun _ hk => hk.2) (.slice Ao11 t384.length co11)) (fun _ hk => trivial), by refine kR_ ?_; exact rfm_ ((Kd.R_types HO386.out BK373.out (by decide))) (fun _ hk => hk.1), hb102_ HB.out⟩
def slices_Grow_int_int.f (l0 : List Int) (a1 : Int) : Option (List Int) := if l0.length = 0 ∧ 0 ≤ a1 ∧ a1.toNat * 8 ≤ 140737488355328 then some [] else none
theorem slices_Grow_int_int.calls (A0 : Option Addr) (c0 : Nat) (l0 : List Int) (a1 : Int) (r : List Int) (w : World) (hr0 : Kd.C (Kd.int .i64) w A0 l0.length l0) (hc0 : A0 = none ∧ c0 = 0) (h : slices_Grow_int_int.f l0 a1 = some r) :
    Calls Try.prog 88 #[.slice A0 l0.length c0, .int .i64 a1] w fun e w' => ∃ v0_ : Value, e = .returned (v0_) ∧ Kd.R (Kd.int .i64) 3 w' w.heap.size (fun _ => True) v0_ r ∧ Below w.heap.size w w' := by
  obtain ⟨⟨hl0, h0, hle⟩, rfl⟩ : (l0.length = 0 ∧ 0 ≤ a1 ∧ a1.toNat * 8 ≤ 140737488355328) ∧ [] = r := by
    unfold slices_Grow_int_int.f at h; split at h
    · exact ⟨by assumption, Option.some.inj h⟩
    · cases h
  obtain rfl : l0 = [] := List.eq_nil_of_length_eq_zero hl0
  obtain ⟨rfl, rfl⟩ := hc0
  clear h hl0 hr0
  have hb : a1 ≤ 140737488355328 := by omega
  have HLE := Aside0.mk hle; clear hle
  have hneg : decide (a1 < 0) = false := decide_eq_false (by omega)
  by_cases hz : a1 = 0
  · subst hz
    clear hneg
    go_enter Try.func88, Try.ntmps88
    go_wp2
    go_ret
    exact ⟨_, rfl, Kd.R_nil _ _ _ _ _, Below.refl _ _⟩
  · have hp : decide (a1 > 0) = true := decide_eq_true (by omega)
    have hp2 : decide (0 < a1) = true := decide_eq_true (by omega)
    clear hz
    go_enter Try.func88, Try.ntmps88
    go_wp2_with (first
      | ((with_reducible refine gate_dst (N := 22) rfl ?_); refine Kd.R_append_zeros (Kd.int .i64) w.heap.size rfl _ _ 35 3 3 (.int .i64 0) 8 rfl Try.underlying35 Try.underlying3 info3 rfl (by decide) (by decide) (.slice none 0 0) [] 0 a1 (fun _ => True) rfl rfl (rfl) (fun _ _ => trivial) (Kd.R_nil _ _ _ _ _) h0 (Below.refl _ _) (Nat.le_refl _) (by simpa using HLE.out) ?_; intro v1 w1 ho hb1 hg hat; obtain ⟨A1, c1, hv1, hc1, _⟩ := Kd.R_reads ho; have HO := Aside0.mk ho; clear ho hat hg; have HB := Aside0.mk hb1; clear hb1; subst hv1))
    go_ret
    refine ⟨_, rfl, ?_, HB.out⟩
    have h2 := Kd.R_take (m := 0) HO.out (Nat.zero_le _)
    simpa using h2
mutual
def slices_Concat_int_int.l0 : Nat → List (List Int) → Int → List (List Int) → Int → Int → Option (List Int)
 | 0, _, _, _, _, _ => none
 | k + 1, x0, x3, x9, x10, x11 => if x11 < x10 then (if 0 ≤ x11 then (if x11 < (x9.length : Int) then (if (wrap64 (x3 + ((rd_L5 x9 x11).length : Int))) < 0 then (none) else (slices_Concat_int_int.l0 k x0 (wrap64 (x3 + ((rd_L5 x9 x11).length : Int))) x9 x10 (wrap64 (x11 + 1)))) else (none)) else (none)) else ((slices_Grow_int_int.f ([] : List Int) x3).bind fun t389 => (slices_Concat_int_int.l1 k t389 x0 (x0.length : Int) 0))
def slices_Concat_int_int.l1 : Nat → List Int → List (List Int) → Int → Int → Option (List Int)
 | 0, _, _, _, _ => none
 | k + 1, x6, x25, x26, x27 => if x27 < x26 then (if 0 ≤ x27 then (if x27 < (x25.length : Int) then (if x6.length + (rd_L5 x25 x27).length < 17592186044416 then (slices_Concat_int_int.l1 k (x6 ++ (rd_L5 x25 x27)) x25 x26 (wrap64 (x27 + 1))) else (none)) else (none)) else (none)) else (some x6)
end
def slices_Concat_int_int.f (k : Nat) (l0 : List (List Int)) : Option (List Int) := slices_Concat_int_int.l0 k l0 0 l0 (l0.length : Int) 0
theorem slices_Concat_int_int.mono_l : ∀ k, (∀ y0 y1 y2 y3 y4, LeO (slices_Concat_int_int.l0 k y0 y1 y2 y3 y4) (slices_Concat_int_int.l0 (k + 1) y0 y1 y2 y3 y4)) ∧ (∀ y0 y1 y2 y3, LeO (slices_Concat_int_int.l1 k y0 y1 y2 y3) (slices_Concat_int_int.l1 (k + 1) y0 y1 y2 y3))
 | 0 => ⟨fun _ _ _ _ _ r h => by simp [slices_Concat_int_int.l0] at h, fun _ _ _ _ r h => by simp [slices_Concat_int_int.l1] at h⟩
 | k + 1 => by
  obtain ⟨ih0, ih1⟩ := slices_Concat_int_int.mono_l k
  refine ⟨?_, ?_⟩
  ·intro y0 y1 y2 y3 y4
   unfold slices_Concat_int_int.l0
   repeat' first | (with_reducible first | apply ih0 | apply ih1 | exact LeO.refl _ | exact LeO.none _ | refine LeO.ite ?_ ?_ | refine LeO.bind ?_ fun _ => ?_) | apply ih0 | apply ih1 | exact LeO.none _ | refine LeO.ite ?_ ?_ | refine LeO.bind ?_ fun _ => ?_
  ·intro y0 y1 y2 y3
   unfold slices_Concat_int_int.l1
   repeat' first | (with_reducible first | apply ih0 | apply ih1 | exact LeO.refl _ | exact LeO.none _ | refine LeO.ite ?_ ?_ | refine LeO.bind ?_ fun _ => ?_) | apply ih0 | apply ih1 | exact LeO.none _ | refine LeO.ite ?_ ?_ | refine LeO.bind ?_ fun _ => ?_
theorem slices_Concat_int_int.mono : ∀ a0 k, LeO (slices_Concat_int_int.f k a0) (slices_Concat_int_int.f (k + 1) a0) := by
 intro a0 k
 obtain ⟨ih0, ih1⟩ := slices_Concat_int_int.mono_l k
 unfold slices_Concat_int_int.f
 repeat' first | (with_reducible first | apply ih0 | apply ih1 | exact LeO.refl _ | exact LeO.none _ | refine LeO.ite ?_ ?_ | refine LeO.bind ?_ fun _ => ?_) | apply ih0 | apply ih1 | exact LeO.none _ | refine LeO.ite ?_ ?_ | refine LeO.bind ?_ fun _ => ?_
set_option maxHeartbeats 8000000 in
set_option maxRecDepth 100000 in
theorem slices_Concat_int_int.calls (k : Nat) (A0 : Option Addr) (c0 : Nat) (l0 : List (List Int)) (r : List Int) (w : World) (hr0 : Kd.C (Kd.slice 3 (Kd.int .i64)) w A0 l0.length l0) (hc0 : l0.length ≤ c0) (h : slices_Concat_int_int.f k l0 = some r) :
  Calls Try.prog 51 #[.slice A0 l0.length c0] w fun e w' => ∃ v0_ : Value, e = .returned (v0_) ∧ Kd.R (Kd.int .i64) 3 w' w.heap.size (fun _ => True) v0_ r ∧ Below w.heap.size w w' := by
 have HR0 := Aside0.mk hr0; have HC0 := Aside0.mk hc0; clear hr0 hc0
 have HB := Aside0.mk (Below.refl w.heap.size w)
 have H : (slices_Concat_int_int.l0 k l0 0 l0 (l0.length : Int) 0) = some r := h
 clear h
 have H' := Aside0.mk H
 clear H
 go_enter Try.func51, Try.ntmps51
 go_wp2
 go_loopg [3, 11] k (fun kq v3 v11 w' => ∃ (x3_1 : Int) (x11_1 : Int), v3 = .int .i64 x3_1 ∧ v11 = .int .i64 x11_1 ∧ Aside0 (slices_Concat_int_int.l0 kq l0 x3_1 l0 (l0.length : Int) x11_1 = some r) ∧ Aside0 (kq ≤ k) ∧ Aside0 (Below w.heap.size w w'))
 case atStart => exact ⟨(0), (0), (by first | rfl | (simp; done) | (simp [*]; done)), (by first | rfl | (simp; done) | (simp [*]; done)), H', ⟨Nat.le_refl _⟩, ⟨hbA_ HB.out⟩⟩
 case round =>
  clear H'
  obtain ⟨x3_1, x11_1, rfl, rfl, HA, HK1, HB⟩ := hrel
  cases gk with
  | zero => exact absurd HA.out (by simp [slices_Concat_int_int.l0])
  | succ k1 =>
   have H := HA.out; clear HA
   simp only [slices_Concat_int_int.l0] at H
   by_cases c2 : x11_1 < (l0.length : Int)
   ·rw [if_pos c2] at H
    have c2b0 : decide (x11_1 < (l0.length : Int)) = true := decide_eq_true c2
    clear c2
    by_cases c3 : 0 ≤ x11_1
    ·rw [if_pos c3] at H
     have c3b0 : decide (0 ≤ x11_1) = true := decide_eq_true c3
     clear c3
     by_cases c4 : x11_1 < (l0.length : Int)
     ·rw [if_pos c4] at H
      have c4b0 : decide (x11_1 < (l0.length : Int)) = true := decide_eq_true c4
      clear c4
      by_cases c5 : (wrap64 (x3_1 + ((rd_L5 l0 x11_1).length : Int))) < 0
      ·rw [if_pos c5] at H
       exact absurd H (by simp)
      ·rw [if_neg c5] at H
       have c5b0 : decide ((wrap64 (x3_1 + ((rd_L5 l0 x11_1).length : Int))) < 0) = false := decide_eq_false c5
       clear c5
       have H' := Aside0.mk H
       clear H
       have p388 : 0 ≤ (x11_1 : Int) := of_decide_eq_true (by first | (with_reducible assumption) | assumption)
       have q388 : x11_1 < (l0.length : Int) := of_decide_eq_true (by first | (with_reducible assumption) | assumption)
       obtain ⟨ad388, A388_0, c388_0, e388, hx388_0, hl388_0, hi388_0⟩ := at_L5 HR0.out x11_1 p388 q388
       cases e388
       replace hx388_0 := cc_ HB hx388_0
       have HR388_0 := Aside0.mk hi388_0; have HC388_0 := Aside0.mk hl388_0; clear hi388_0 hl388_0
       replace p388 := eq_true p388
       replace q388 := eq_true q388
       go_wp2
       go_roundg k1
       case measure => have := HK1.out; omega
       case rel => exact ⟨(wrap64 (x3_1 + ((rd_L5 l0 x11_1).length : Int))), (wrap64 (x11_1 + 1)), (by first | rfl | (simp; done) | (simp [*]; done)), (by first | rfl | (simp; done) | (simp [*]; done)), H', ⟨by have := HK1.out; omega⟩, ⟨hbA_ HB.out⟩⟩
     ·rw [if_neg c4] at H
      exact absurd H (by simp)
    ·rw [if_neg c3] at H
     exact absurd H (by simp)
   ·rw [if_neg c2] at H
    have c2b0 : decide (x11_1 < (l0.length : Int)) = false := decide_eq_false c2
    clear c2
    replace H := Option.bind_eq_some_iff.mp H
    obtain ⟨t389, A60, H⟩ := H
    (try dsimp only at H)
    have A6 := Aside0.mk A60; clear A60
    have H' := Aside0.mk H
    clear H
    go_wp2_with (first | ((with_reducible refine gate_callee (f := 88) rfl ?_); refine goesL_ (some 24) rfl rfl Try.func88 (by kernel_rfl) rfl #[.slice none 0 0, .int .i64 x3_1] rfl ar_ ?_; (refine (slices_Grow_int_int.calls _ _ ([] : List Int) x3_1 t389 _ ?side1 ?side2 A6.out).mono ?_); (case side1 => exact Kd.C_nil _ _); (case side2 => first | exact Nat.le_refl _ | exact ⟨rfl, rfl⟩); rintro e w7 ⟨v390, rfl, ho0, hb⟩; refine ⟨_, rfl, ?_⟩; have HO391 := Aside0.mk (Kd.R_lower ho0 (below_size (hbA_ HB.out))); replace HB := (bs_ HB hb); (try clear hb); (try clear hb2); (try clear hk); (try clear hi); (try clear ho0)))
    go_loopg [6, 27] k1 (fun kq v6 v27 w' => ∃ (x6_2 : List Int) (x27_2 : Int), v27 = .int .i64 x27_2 ∧ Aside0 (slices_Concat_int_int.l1 kq x6_2 l0 (l0.length : Int) x27_2 = some r) ∧ Aside0 (kq ≤ k1) ∧ Aside0 (Kd.R (Kd.int .i64) 3 w' w.heap.size (fun _ => True) v6 x6_2) ∧ Aside0 (Below w.heap.size w w'))
    case atStart => exact ⟨(t389), (0), (by first | rfl | (simp; done) | (simp [*]; done)), H', ⟨Nat.le_refl _⟩, ⟨kR_ HO391.out⟩, ⟨hbA_ HB.out⟩⟩
    case round =>
     clear H'; (try clear c2); (try clear c2b0); (try clear p2); (try clear c3); (try clear c3b0); (try clear p3); (try clear q3); (try clear hx3); (try clear c4); (try clear c4b0); (try clear c5); (try clear c5b0); (try clear p6); (try clear hx388_0); (try clear p388); (try clear q388)
     obtain ⟨x6_2, x27_2, rfl, HA, HK2, HO_6, HB⟩ := hrel
     cases gk with
     | zero => exact absurd HA.out (by simp [slices_Concat_int_int.l1])
     | succ k2 =>
      have H := HA.out; clear HA
      simp only [slices_Concat_int_int.l1] at H
      by_cases c8 : x27_2 < (l0.length : Int)
      ·rw [if_pos c8] at H
       have c8b0 : decide (x27_2 < (l0.length : Int)) = true := decide_eq_true c8
       clear c8
       by_cases c9 : 0 ≤ x27_2
       ·rw [if_pos c9] at H
        have c9b0 : decide (0 ≤ x27_2) = true := decide_eq_true c9
        clear c9
        by_cases c10 : x27_2 < (l0.length : Int)
        ·rw [if_pos c10] at H
         have c10b0 : decide (x27_2 < (l0.length : Int)) = true := decide_eq_true c10
         clear c10
         by_cases c11 : x6_2.length + (rd_L5 l0 x27_2).length < 17592186044416
         ·rw [if_pos c11] at H
          have LMc11 := Aside0.mk c11; clear c11
          obtain ⟨y393, hy393⟩ : ∃ y_ : List Int, y_ = (x6_2 ++ (rd_L5 l0 x27_2)) := ⟨_, rfl⟩
          (first | replace H := sb_ hy393 H | rw [← hy393] at H)
          have Ny393 := Aside0.mk hy393; clear hy393
          have H' := Aside0.mk H
          clear H
          have p392 : 0 ≤ (x27_2 : Int) := of_decide_eq_true (by first | (with_reducible assumption) | assumption)
          have q392 : x27_2 < (l0.length : Int) := of_decide_eq_true (by first | (with_reducible assumption) | assumption)
          obtain ⟨ad392, A392_0, c392_0, e392, hx392_0, hl392_0, hi392_0⟩ := at_L5 HR0.out x27_2 p392 q392
          cases e392
          replace hx392_0 := cc_ HB hx392_0
          have HR392_0 := Aside0.mk hi392_0; have HC392_0 := Aside0.mk hl392_0; clear hi392_0 hl392_0
          replace p392 := eq_true p392
          replace q392 := eq_true q392
          go_wp2_with (first | ((with_reducible refine gate_builtin (b := .append) (xs := #[.tmp 31, .tmp 32]) rfl ?_); at_builtin; refine Kd.R_append_rows (Kd.int .i64) (w0 := w) w.heap.size rfl (.tmp 31) (.tmp 32) 35 3 (.int .i64 0) 8 rfl Try.underlying35 info3 rfl (by decide) (by omega) u6 x6_2 (rd_L5 l0 x27_2) _ _ _ (fun _ => True) (fun _ => False) rfl rfl ?aO ?aR (fun _ _ h => h) (fun _ h => h.elim) ?aF ?aB ?aS ?aL ?_; (case aR => exact kC_ (Kd.C_below HR392_0.out HB.out)); (case aB => exact (hbA_ HB.out)); (case aF => exact (fun _ _ => trivial)); (case aO => exact (kR_ HO_6.out)); (case aS => exact (below_size (hbA_ HB.out))); (case aL => have := LMc11.out; omega); intro v394 w12 ho hb hg hat; rw [← Ny393.out] at ho; replace HB := Aside0.mk (hb); have HO395 := Aside0.mk (ho); clear HO_6; clear ho hb hg hat))
          go_roundg k2
          case measure => have := HK1.out; have := HK2.out; omega
          case rel => exact ⟨(y393), (wrap64 (x27_2 + 1)), (by first | rfl | (simp; done) | (simp [*]; done)), H', ⟨by have := HK1.out; have := HK2.out; omega⟩, ⟨kR_ HO395.out⟩, ⟨hbA_ HB.out⟩⟩
         ·rw [if_neg c11] at H
          exact absurd H (by simp)
        ·rw [if_neg c10] at H
         exact absurd H (by simp)
       ·rw [if_neg c9] at H
        exact absurd H (by simp)
      ·rw [if_neg c8] at H
       have c8b0 : decide (x27_2 < (l0.length : Int)) = false := decide_eq_false c8
       clear c8
       obtain rfl := Option.some.inj H
       go_wp2
       go_ret
       exact ⟨_, by first | rfl | (simp [errW_none, errW_some] <;> rfl) | (simp [*, errW_none, errW_some] <;> rfl), kR_ HO_6.out, hbA_ HB.out⟩
end Go.Proofs.Ytpbeljcgcdilnaa.PFnClientOk
