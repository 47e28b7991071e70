/- Printed by wip/xp/xprint.sh out of the translation, for this claim: what each function answers, as a plain function, and that the machine does just that. No condition. -/
import Derived.Test.YtgemkjclamlmbaaPFnListeningx0
import Derived.Test.YtgemkjclamlmbaaPFnListeningx2
import Derived.Test.YtgemkjclamlmbaaPFnListeningx3
namespace Go.Proofs.Ytgemkjclamlmbaa.PFnListening
open Go.RowKit Go.Proofs.YtgemkjclamlmbaaW.PrintWords Go.Proofs.YtgemkjclamlmbaaW.PrintLast Go.Proofs.YtgemkjclamlmbaaW.PrintMore
attribute [local go_sem] max2_int min2_int max_two min_two max_three min_three max_four min_four   -- for this text's walks alone
set_option linter.unusedVariables false
set_option linter.unusedSimpArgs false
mutual
def impl_Ear_hear.l0 : Nat → Int → List Int → Int → Int → Int → Int → List Int → List (S50) → Int → Int → List Int → List (S50) → Option (Int × Int × List Int × (List (S50)))
 | 0, _, _, _, _, _, _, _, _, _, _, _, _ => none
 | k + 1, x1, x15, x16, x17, x167000, x167001, x167002, x167003, x177000, x177001, x177002, x177003 => if x17 < x16 then (if 0 ≤ x17 then (if x17 < (x15.length : Int) then (if (wrap64 (x1 + x17)) < x167000 then (impl_Ear_hear.j1 k x1 (rd x15 x17) (wrap64 (x1 + x17)) x15 x16 x17 true x167000 x167001 x167002 x167003 x177000 x177001 x177002 x177003) else ((impl_Ear_free.f x167000 x167001 x167002 x167003).bind fun t178 => (impl_Ear_hear.j1 k x1 (rd x15 x17) (wrap64 (x1 + x17)) x15 x16 x17 (decide ((wrap64 (x1 + x17)) ≥ (wrap64 (x167000 + t178)))) x167000 x167001 x167002 x167003 x177000 x177001 x177002 x177003))) else (none)) else (none)) else (impl_Ear_hear.l1 k x177000 x177001 x177002 x177003)
def impl_Ear_hear.j1 : Nat → Int → Int → Int → List Int → Int → Int → Bool → Int → Int → List Int → List (S50) → Int → Int → List Int → List (S50) → Option (Int × Int × List Int × (List (S50)))
 | 0, _, _, _, _, _, _, _, _, _, _, _, _, _, _, _ => none
 | k + 1, x1, x9, x10, x15, x16, x17, x37, x167000, x167001, x167002, x167003, x177000, x177001, x177002, x177003 => if x37 = true then (impl_Ear_hear.l0 k x1 x15 x16 (wrap64 (x17 + 1)) x167000 x167001 x167002 x167003 x177000 x177001 x177002 x177003) else ((impl_Early_int.f k x177003 x10).bind fun bt179 => (if bt179.2 = true then (impl_Ear_hear.l0 k x1 x15 x16 (wrap64 (x17 + 1)) x167000 x167001 x167002 x167003 x177000 x177001 x177002 x177003) else (if 0 ≤ bt179.1 then (if bt179.1 ≤ (x177003.length : Int) then (if x177003.length < 8796093022208 then (impl_Ear_hear.l0 k x1 x15 x16 (wrap64 (x17 + 1)) x167000 x167001 x167002 x167003 x177000 x177001 x177002 (x177003.take (bt179.1 : Int).toNat ++ [(⟨x10, x9⟩ : S50)] ++ x177003.drop (bt179.1 : Int).toNat)) else (none)) else (none)) else (none))))
def impl_Ear_hear.l1 : Nat → Int → Int → List Int → List (S50) → Option (Int × Int × List Int × (List (S50)))
 | 0, _, _, _, _ => none
 | k + 1, x177000, x177001, x177002, x177003 => if (x177003.length : Int) > 0 then (if 0 < (x177003.length : Int) then (if ((rd_T50 x177003 0).f0) = x177000 then (if x177002.length < 140737488355328 then (if 1 ≤ (x177003.length : Int) then (impl_Ear_hear.l1 k (wrap64 (x177000 + 1)) x177001 (x177002 ++ [(rd_T50 x177003 0).f1]) (x177003.drop (1 : Int).toNat)) else (none)) else (none)) else ((impl_Ear_copy.f x177000 x177001 x177002 x177003).bind fun bt192 => (some (bt192.1, bt192.2.1, bt192.2.2.1, bt192.2.2.2)))) else (none)) else ((impl_Ear_copy.f x177000 x177001 x177002 x177003).bind fun bt200 => (some (bt200.1, bt200.2.1, bt200.2.2.1, bt200.2.2.2)))
end
def impl_Ear_hear.f (k : Nat) (a0_0 : Int) (a0_1 : Int) (l0_2 : List Int) (l0_3 : List (S50)) (a1 : Int) (l2 : List Int) : Option (Int × Int × List Int × (List (S50))) := (impl_Ear_copy.f a0_0 a0_1 l0_2 l0_3).bind fun bt168 => (impl_Ear_hear.l0 k a1 l2 (l2.length : Int) 0 a0_0 a0_1 l0_2 l0_3 bt168.1 bt168.2.1 bt168.2.2.1 bt168.2.2.2)
theorem impl_Ear_hear.mono_l : ∀ k, (∀ y0 y1 y2 y3 y4 y5 y6 y7 y8 y9 y10 y11, LeO (impl_Ear_hear.l0 k y0 y1 y2 y3 y4 y5 y6 y7 y8 y9 y10 y11) (impl_Ear_hear.l0 (k + 1) y0 y1 y2 y3 y4 y5 y6 y7 y8 y9 y10 y11)) ∧ (∀ y0 y1 y2 y3 y4 y5 y6 y7 y8 y9 y10 y11 y12 y13 y14, LeO (impl_Ear_hear.j1 k y0 y1 y2 y3 y4 y5 y6 y7 y8 y9 y10 y11 y12 y13 y14) (impl_Ear_hear.j1 (k + 1) y0 y1 y2 y3 y4 y5 y6 y7 y8 y9 y10 y11 y12 y13 y14)) ∧ (∀ y0 y1 y2 y3, LeO (impl_Ear_hear.l1 k y0 y1 y2 y3) (impl_Ear_hear.l1 (k + 1) y0 y1 y2 y3))
 | 0 => ⟨fun _ _ _ _ _ _ _ _ _ _ _ _ r h => by simp [impl_Ear_hear.l0] at h, fun _ _ _ _ _ _ _ _ _ _ _ _ _ _ _ r h => by simp [impl_Ear_hear.j1] at h, fun _ _ _ _ r h => by simp [impl_Ear_hear.l1] at h⟩
 | k + 1 => by
  obtain ⟨ih0, ih1, ih2⟩ := impl_Ear_hear.mono_l k
  refine ⟨?_, ?_, ?_⟩
  ·intro y0 y1 y2 y3 y4 y5 y6 y7 y8 y9 y10 y11
   unfold impl_Ear_hear.l0
   repeat' first | (with_reducible first | apply ih0 | apply ih1 | apply ih2 | apply impl_Early_int.mono | exact LeO.refl _ | exact LeO.none _ | refine LeO.ite ?_ ?_ | refine LeO.bind ?_ fun _ => ?_) | apply ih0 | apply ih1 | apply ih2 | apply impl_Early_int.mono | exact LeO.none _ | refine LeO.ite ?_ ?_ | refine LeO.bind ?_ fun _ => ?_
  ·intro y0 y1 y2 y3 y4 y5 y6 y7 y8 y9 y10 y11 y12 y13 y14
   unfold impl_Ear_hear.j1
   repeat' first | (with_reducible first | apply ih0 | apply ih1 | apply ih2 | apply impl_Early_int.mono | exact LeO.refl _ | exact LeO.none _ | refine LeO.ite ?_ ?_ | refine LeO.bind ?_ fun _ => ?_) | apply ih0 | apply ih1 | apply ih2 | apply impl_Early_int.mono | exact LeO.none _ | refine LeO.ite ?_ ?_ | refine LeO.bind ?_ fun _ => ?_
  ·intro y0 y1 y2 y3
   unfold impl_Ear_hear.l1
   repeat' first | (with_reducible first | apply ih0 | apply ih1 | apply ih2 | apply impl_Early_int.mono | exact LeO.refl _ | exact LeO.none _ | refine LeO.ite ?_ ?_ | refine LeO.bind ?_ fun _ => ?_) | apply ih0 | apply ih1 | apply ih2 | apply impl_Early_int.mono | exact LeO.none _ | refine LeO.ite ?_ ?_ | refine LeO.bind ?_ fun _ => ?_
theorem impl_Ear_hear.mono : ∀ a0 a1 a2 a3 a4 a5 k, LeO (impl_Ear_hear.f k a0 a1 a2 a3 a4 a5) (impl_Ear_hear.f (k + 1) a0 a1 a2 a3 a4 a5) := by
 intro a0 a1 a2 a3 a4 a5 k
 obtain ⟨ih0, ih1, ih2⟩ := impl_Ear_hear.mono_l k
 unfold impl_Ear_hear.f
 repeat' first | (with_reducible first | apply ih0 | apply ih1 | apply ih2 | apply impl_Early_int.mono | exact LeO.refl _ | exact LeO.none _ | refine LeO.ite ?_ ?_ | refine LeO.bind ?_ fun _ => ?_) | apply ih0 | apply ih1 | apply ih2 | apply impl_Early_int.mono | exact LeO.none _ | refine LeO.ite ?_ ?_ | refine LeO.bind ?_ fun _ => ?_
def impl_Ear_hear.T6 : Bool × List (List Nat × List Nat) := (true, [([], []), ([], []), ([1], [1]), ([0, 2], [0, 2]), ([3], [3]), ([4], [4]), ([4], [4]), ([6, 4], [4, 6]), ([4], [4]), ([8, 4, 4], [4, 8]), ([7, 9, 4], [4, 7, 9]), ([5, 10, 4], [4, 5, 10]), ([4, 11], [4, 11])])
def impl_Ear_hear.B6 : List Nat := [0, 0, 2, 7, 15, 31, 31, 95, 31, 287, 991, 2047, 4095]
theorem impl_Ear_hear.tab6 : rtab .any (opsOf Try.f19 6) = impl_Ear_hear.T6 := by kernel_rfl
theorem impl_Ear_hear.bits6 : waitsOk impl_Ear_hear.T6.2 impl_Ear_hear.B6 = true := by kernel_rfl
def impl_Ear_hear.T11 : Bool × List (List Nat × List Nat) := (true, [([], []), ([0], [0]), ([1], [1]), ([2], [2]), ([3], [3]), ([4], [4]), ([5, 4], [4, 5]), ([6, 4], [4, 6]), ([7, 4], [4, 7]), ([8, 4], [4, 8]), ([4], [4]), ([10, 4], [4, 10]), ([9, 11, 4], [4, 9, 11]), ([4, 12], [4, 12])])
def impl_Ear_hear.B11 : List Nat := [0, 1, 3, 7, 15, 31, 63, 127, 255, 511, 31, 1055, 4095, 8191]
theorem impl_Ear_hear.tab11 : rtab .any (opsOf Try.f19 11) = impl_Ear_hear.T11 := by kernel_rfl
theorem impl_Ear_hear.bits11 : waitsOk impl_Ear_hear.T11.2 impl_Ear_hear.B11 = true := by kernel_rfl
def impl_Ear_hear.T12 : Bool × List (List Nat × List Nat) := (true, [([], []), ([0], [0]), ([], []), ([2], [2]), ([3], [3]), ([4], [4]), ([5], [5]), ([6], [6]), ([1, 7], [1, 7]), ([0, 1, 2, 3, 4, 5, 6, 7, 8], []), ([9, 8, 8, 0, 1, 2, 3, 4, 5, 6, 7, 8], [8, 9])])
def impl_Ear_hear.B12 : List Nat := [0, 1, 0, 4, 12, 28, 60, 124, 255, 511, 1023]
theorem impl_Ear_hear.tab12 : rtab .any (opsOf Try.f19 12) = impl_Ear_hear.T12 := by kernel_rfl
theorem impl_Ear_hear.bits12 : waitsOk impl_Ear_hear.T12.2 impl_Ear_hear.B12 = true := by kernel_rfl
set_option maxHeartbeats 8000000 in
set_option maxRecDepth 100000 in
theorem impl_Ear_hear.calls (k : Nat) (a0_0 : Int) (a0_1 : Int) (A0_2 : Option Addr) (c0_2 : Nat) (l0_2 : List Int) (A0_3 : Option Addr) (c0_3 : Nat) (l0_3 : List (S50)) (a1 : Int) (A2 : Option Addr) (c2 : Nat) (l2 : List Int) (r1 : Int) (r2 : Int) (r3 : List Int) (r4 : List (S50)) (w : World) (hr0_2 : Kd.C (Kd.int .u8) w A0_2 l0_2.length l0_2) (hc0_2 : l0_2.length ≤ c0_2) (hr0_3 : Kd.C k50 w A0_3 l0_3.length l0_3) (hc0_3 : l0_3.length ≤ c0_3) (hr2 : Kd.C (Kd.int .u8) w A2 l2.length l2) (hc2 : l2.length ≤ c2) (h : impl_Ear_hear.f k a0_0 a0_1 l0_2 l0_3 a1 l2 = some (r1, r2, r3, r4)) :
  Calls Try.prog 19 #[.agg #[.int .i64 a0_0, .int .i64 a0_1, .slice A0_2 l0_2.length c0_2, .slice A0_3 l0_3.length c0_3], .int .i64 a1, .slice A2 l2.length c2] w fun e w' => ∃ v2_ v3_ : Value, e = .returned (.agg #[.int .i64 r1, .int .i64 r2, v2_, v3_]) ∧ Kd.R (Kd.int .u8) 5 w' w.heap.size (fun _ => True) v2_ r3 ∧ Kd.R k50 50 w' w.heap.size (fun _ => True) v3_ r4 ∧ Below w.heap.size w w' := by
 have hu29 := Try.underlying29; have hu50 := Try.underlying50; have HR0_2 := Aside0.mk hr0_2; have HC0_2 := Aside0.mk hc0_2; clear hr0_2 hc0_2; have HR0_3 := Aside0.mk hr0_3; have HC0_3 := Aside0.mk hc0_3; clear hr0_3 hc0_3; have HR2 := Aside0.mk hr2; have HC2 := Aside0.mk hc2; clear hr2 hc2
 have HB := Aside0.mk (Below.refl w.heap.size w)
 have H : ((impl_Ear_copy.f a0_0 a0_1 l0_2 l0_3).bind fun bt168 => (impl_Ear_hear.l0 k a1 l2 (l2.length : Int) 0 a0_0 a0_1 l0_2 l0_3 bt168.1 bt168.2.1 bt168.2.2.1 bt168.2.2.2)) = some (r1, r2, r3, r4) := h
 clear h
 replace H := Option.bind_eq_some_iff.mp H
 obtain ⟨⟨t168, t169, t170, t173⟩, A40, H⟩ := H
 (try dsimp only at H)
 have A4 := Aside0.mk A40; clear A40
 have H' := Aside0.mk H
 clear H
 go_enter Try.func19, Try.ntmps19
 go_wp2_with (first | ((with_reducible refine gate_dst (N := 3) rfl ?_); refine box_ (N := 3) (cs := #[.int .i64 a0_0, .int .i64 a0_1, .slice A0_2 l0_2.length c0_2, .slice A0_3 l0_3.length c0_3]) (t := 29) (fun gb166 hg w5 hbox hb => ?_); have BK166 := Aside0.mk (hbox); have GW166 := ge_ hg HB; have GE166 := ge_ hg HB; replace HB := (bs_ HB hb); clear hb hbox hg) | ((with_reducible refine gate_dst (N := 6) rfl ?_); refine box_ (N := 6) (cs := #[.int .i64 0, .int .i64 0, .slice none 0 0, .slice none 0 0]) (t := 29) (fun gb167 hg w6 hbox hb => ?_); have BK167 := Aside0.mk (hbox); have GW167 := ge_ hg HB; have GE167 := ge_ hg HB; replace HB := (bs_ HB hb); have NB166_167 := nl_ hg BK166; have NB167_166 := ng_ hg BK166; replace BK166 := (bbA_ BK166 hb); clear hb hbox hg; have hnb7 := NB166_167.out; have hnc7 := NB167_166.out; have Z8 := zz4 BK166) | ((with_reducible refine gate_callee (f := 24) rfl ?_); refine goesL_ (some 14) rfl rfl Try.func24 (by kernel_rfl) rfl #[.agg #[.int .i64 a0_0, .int .i64 a0_1, .slice A0_2 l0_2.length c0_2, .slice A0_3 l0_3.length c0_3]] rfl ar_ ?_; (with_reducible refine (impl_Ear_copy.calls a0_0 a0_1 _ _ l0_2 _ _ l0_3 t168 t169 t170 t173 _ ?side1 ?side2 ?side3 ?side4 A4.out).mono ?_); (case side1 => exact kC_ (Kd.C_below HR0_2.out HB.out)); (case side2 => exact HC0_2.out); (case side3 => exact kC_ (Kd.C_below HR0_3.out HB.out)); (case side4 => exact HC0_3.out); rintro e w9 ⟨v171, v174, rfl, ho0, ho1, hb⟩; refine ⟨_, rfl, ?_⟩; have HO172 := Aside0.mk (Kd.R_lower ho0 (below_size (hbA_ HB.out))); have HO175 := Aside0.mk (Kd.R_lower ho1 (below_size (hbA_ HB.out))); replace BK166 := (bbA_ BK166 hb); replace BK167 := (bbA_ BK167 hb); replace HB := (bs_ HB hb); (try clear hb); (try clear hb2); (try clear hk); (try clear hi); (try clear ho0); (try clear ho1)) | ((with_reducible refine gate_dst (N := 7) rfl ?_); refine box_ (N := 7) (cs := #[.int .i64 0, .int .i64 0, .slice none 0 0, .slice none 0 0]) (t := 29) (fun gb176 hg w10 hbox hb => ?_); replace HO172 := Aside0.mk (Kd.R_below (kR_ HO172.out) hb); replace HO175 := Aside0.mk (Kd.R_below (kR_ HO175.out) hb); have BK176 := Aside0.mk (hbox); have GW176 := ge_ hg HB; have GE176 := ge_ hg HB; replace HB := (bs_ HB hb); have NB166_176 := nl_ hg BK166; have NB176_166 := ng_ hg BK166; replace BK166 := (bbA_ BK166 hb); have NB167_176 := nl_ hg BK167; have NB176_167 := ng_ hg BK167; replace BK167 := (bbA_ BK167 hb); clear hb hbox hg; have hnb11 := NB176_166.out; have hnc11 := NB166_176.out; have hnb12 := NB176_167.out; have hnc12 := NB167_176.out; have Z13 := zz4 BK176; obtain ⟨Ao14, co14, eo14⟩ := Kd.R_slice HO172.out; subst eo14; obtain ⟨Ao15, co15, eo15⟩ := Kd.R_slice HO175.out; subst eo15))
 go_loopg [17] k (fun kq v17 w' => ∃ (x17_1 : Int) (x177003_1 : List (S50)) (u177003 : Value), v17 = .int .i64 x17_1 ∧ Aside0 (impl_Ear_hear.l0 kq a1 l2 (l2.length : Int) x17_1 a0_0 a0_1 l0_2 l0_3 t168 t169 t170 x177003_1 = some (r1, r2, r3, r4)) ∧ Aside0 (kq ≤ k) ∧ Aside0 (Kd.R (Kd.int .u8) 5 w' w.heap.size (fun _ => True) (.slice Ao14 t170.length co14) t170) ∧ Aside0 (Kd.Q k50 50 w' w.heap.size (fun _ => True) u177003 x177003_1) ∧ Aside0 (w'.heap[gb166]? = some (.cells #[.int .i64 a0_0, .int .i64 a0_1, (.slice A0_2 l0_2.length c0_2), (.slice A0_3 l0_3.length c0_3)] 29 (0, 0))) ∧ Aside0 (w'.heap[gb167]? = some (.cells #[.int .i64 0, .int .i64 0, (.slice none 0 0), (.slice none 0 0)] 29 (0, 0))) ∧ Aside0 (w'.heap[gb176]? = some (.cells #[.int .i64 t168, .int .i64 t169, (.slice Ao14 t170.length co14), u177003] 29 (0, 0))) ∧ Aside0 (Below w.heap.size w w'))
 case atStart => exact ⟨(0), (t173), (.slice Ao15 t173.length co15), (by first | rfl | (simp; done) | (simp [*]; done)), H', ⟨Nat.le_refl _⟩, ⟨by refine kR_ ?_; exact rfm_ ((Kd.R_types HO172.out BK176.out (by decide))) (fun _ hk => trivial)⟩, ⟨Kd.Q_of_R (by refine kR_ ?_; exact rfm_ ((Kd.R_types HO175.out BK176.out (by decide))) (fun _ hk => trivial))⟩, ⟨by exact kf_ BK166.out⟩, ⟨by exact kf_ BK167.out⟩, ⟨by refine kb_ ?_; refine pz4 (cs := #[.int .i64 0, .int .i64 0, .slice none 0 0, .slice none 0 0]) ?_; refine kb_ ?_; exact BK176.out⟩, ⟨hbA_ HB.out⟩⟩
 case round =>
  clear H'; (try clear c1); (try clear c2); (try clear p2); (try clear c7); (try clear c11); (try clear c12); (try clear Z13); (try clear Z8)
  obtain ⟨x17_1, x177003_1, u177003, rfl, HA, HK1, HO_177002, HO_177003, BK166, BK167, BK176, HB⟩ := hrel
  cases gk with
  | zero => exact absurd HA.out (by simp [impl_Ear_hear.l0])
  | succ k1 =>
   have H := HA.out; clear HA
   simp only [impl_Ear_hear.l0] at H
   by_cases c16 : x17_1 < (l2.length : Int)
   ·rw [if_pos c16] at H
    have c16b0 : decide (x17_1 < (l2.length : Int)) = true := decide_eq_true c16
    clear c16
    by_cases c17 : 0 ≤ x17_1
    ·rw [if_pos c17] at H
     have c17b0 : decide (0 ≤ x17_1) = true := decide_eq_true c17
     clear c17
     by_cases c18 : x17_1 < (l2.length : Int)
     ·rw [if_pos c18] at H
      have c18b0 : decide (x17_1 < (l2.length : Int)) = true := decide_eq_true c18
      clear c18; have HC19 := Aside0.mk H; clear H
      have p177 : 0 ≤ (x17_1 : Int) := of_decide_eq_true (by first | (with_reducible assumption) | assumption)
      have q177 : x17_1 < (l2.length : Int) := of_decide_eq_true (by first | (with_reducible assumption) | assumption)
      obtain ⟨ad177, e177, hx177_0⟩ := Kd.at_int HR2.out x17_1 p177 q177
      cases e177
      replace hx177_0 := cc_ HB hx177_0
      replace p177 := eq_true p177
      replace q177 := eq_true q177
      go_upto_region 6 with (fail)
      go_cut [37] (fun v37 wc => ∃ (kq : Nat) (x37_18 : Bool), v37 = .bool x37_18 ∧ Aside0 (impl_Ear_hear.j1 kq a1 (rd l2 x17_1) (wrap64 (a1 + x17_1)) l2 (l2.length : Int) x17_1 x37_18 a0_0 a0_1 l0_2 l0_3 t168 t169 t170 x177003_1 = some (r1, r2, r3, r4)) ∧ Aside0 (kq ≤ k1) ∧ Aside0 (Kd.R (Kd.int .u8) 5 wc w.heap.size (fun _ => True) (.slice Ao14 t170.length co14) t170) ∧ Aside0 (Kd.Q k50 50 wc w.heap.size (fun _ => True) u177003 x177003_1) ∧ Aside0 (wc.heap[gb166]? = some (.cells #[.int .i64 a0_0, .int .i64 a0_1, (.slice A0_2 l0_2.length c0_2), (.slice A0_3 l0_3.length c0_3)] 29 (0, 0))) ∧ Aside0 (wc.heap[gb167]? = some (.cells #[.int .i64 0, .int .i64 0, (.slice none 0 0), (.slice none 0 0)] 29 (0, 0))) ∧ Aside0 (wc.heap[gb176]? = some (.cells #[.int .i64 t168, .int .i64 t169, (.slice Ao14 t170.length co14), u177003] 29 (0, 0))) ∧ Aside0 (Below w.heap.size w wc))
      case first =>
       have H := HC19.out; clear HC19
       by_cases c20 : (wrap64 (a1 + x17_1)) < a0_0
       ·rw [if_pos c20] at H
        have c20b0 : decide ((wrap64 (a1 + x17_1)) < a0_0) = true := decide_eq_true c20
        clear c20
        (first | rw [c20b0] | (simp only [i64_w, i32_w]; rw [c20b0]) | skip)
        have H' := Aside0.mk H
        clear H
        try go_wp2
        replace HO_177002 := Aside0.mk (Kd.R_drew HO_177002.out); replace HO_177003 := Aside0.mk (Kd.Q_drew HO_177003.out); replace BK166 := Aside0.mk (blk_drew BK166.out); replace BK167 := Aside0.mk (blk_drew BK167.out); replace BK176 := Aside0.mk (blk_drew BK176.out); replace HB := (bd_ HB)
        refine start_ (n := 13) (S := fun w' => w'.cell? ⟨gb166, 0, none⟩ = some (.int .i64 a0_0) ∧ w'.cell? ⟨gb166, 1, none⟩ = some (.int .i64 a0_1) ∧ w'.cell? ⟨gb166, 2, none⟩ = some (.slice A0_2 l0_2.length c0_2) ∧ w'.cell? ⟨gb166, 3, none⟩ = some (.slice A0_3 l0_3.length c0_3)) (ds := []) #[false, false, false, false, false, false, false, false, false, false, false, false, false] (by kernel_rfl) rfl rfl (cz4 BK166.out) (fun hHeld => ?_); refine with_tabW impl_Ear_hear.tab6 impl_Ear_hear.bits6 (fun HT_ HW_ => ?_)
        generalize wr.drew = w21 at HO_177002 HO_177003 BK166 BK167 BK176 HB hHeld ⊢
        refine pu_ (i := 0) (N := some 25) HT_ ?_; refine pu_ (i := 1) (N := some 26) HT_ ?_; refine tk_ (i := 2) (N := some 27) HT_ HW_ hHeld ?_; refine pu_ (i := 3) (N := some 28) HT_ ?_; refine pu_ (i := 4) (N := some 29) HT_ ?_; refine pn_ (i := 5) (N := some 30) HT_ ?_; refine pn_ (i := 6) (N := some 31) HT_ ?_; refine pn_ (i := 7) (N := some 32) HT_ ?_; refine pn_ (i := 8) (N := some 33) HT_ ?_; refine pn_ (i := 9) (N := some 34) HT_ ?_; refine pn_ (i := 10) (N := some 35) HT_ ?_; refine pn_ (i := 11) (N := some 36) HT_ ?_; refine pu_ (i := 12) (N := some 37) HT_ ?_
        refine done_ (done_of HT_.out (by kernel_rfl)) ?_
        try go_wp2
        go_meet
        case rel => exact ⟨_, (true), (by first | rfl | (simp; done) | (simp [*]; done)), H', ⟨by have := HK1.out; first | omega | exact Nat.le_refl _⟩, ⟨kR_ HO_177002.out⟩, ⟨by (with_reducible repeat (first | apply Kd.Q_alloc | apply Kd.Q_drewN | apply Kd.Q_drew)); exact HO_177003.out⟩, ⟨by refine kb_ ?_; exact BK166.out⟩, ⟨by refine kb_ ?_; exact BK167.out⟩, ⟨by refine kb_ ?_; exact BK176.out⟩, ⟨hbA_ HB.out⟩⟩
       ·rw [if_neg c20] at H
        have c20b0 : decide ((wrap64 (a1 + x17_1)) < a0_0) = false := decide_eq_false c20
        clear c20
        (first | rw [c20b0] | (simp only [i64_w, i32_w]; rw [c20b0]) | skip)
        replace H := Option.bind_eq_some_iff.mp H
        obtain ⟨t178, A220, H⟩ := H
        (try dsimp only at H)
        have A22 := Aside0.mk A220; clear A220
        have H' := Aside0.mk H
        clear H
        try go_wp2
        replace HO_177002 := Aside0.mk (Kd.R_drew HO_177002.out); replace HO_177003 := Aside0.mk (Kd.Q_drew HO_177003.out); replace BK166 := Aside0.mk (blk_drew BK166.out); replace BK167 := Aside0.mk (blk_drew BK167.out); replace BK176 := Aside0.mk (blk_drew BK176.out); replace HB := (bd_ HB)
        refine start_ (n := 13) (S := fun w' => w'.cell? ⟨gb166, 0, none⟩ = some (.int .i64 a0_0) ∧ w'.cell? ⟨gb166, 1, none⟩ = some (.int .i64 a0_1) ∧ w'.cell? ⟨gb166, 2, none⟩ = some (.slice A0_2 l0_2.length c0_2) ∧ w'.cell? ⟨gb166, 3, none⟩ = some (.slice A0_3 l0_3.length c0_3)) (ds := []) #[false, false, false, false, false, false, false, false, false, false, false, false, false] (by kernel_rfl) rfl rfl (cz4 BK166.out) (fun hHeld => ?_); refine with_tabW impl_Ear_hear.tab6 impl_Ear_hear.bits6 (fun HT_ HW_ => ?_)
        generalize wr.drew = w23 at HO_177002 HO_177003 BK166 BK167 BK176 HB hHeld ⊢
        refine pu_ (i := 0) (N := some 25) HT_ ?_; refine pu_ (i := 1) (N := some 26) HT_ ?_; refine tk_ (i := 2) (N := some 27) HT_ HW_ hHeld ?_; refine pu_ (i := 3) (N := some 28) HT_ ?_; refine pu_ (i := 4) (N := some 29) HT_ ?_; refine pu_ (i := 5) (N := some 30) HT_ ?_; refine pu_ (i := 6) (N := some 31) HT_ ?_; refine tk_ (i := 7) (N := some 32) HT_ HW_ hHeld ?_; refine tk_ (i := 8) (N := some 33) HT_ HW_ hHeld ?_
        refine on_ (i := 9) (N := some 34) HT_ (fun K hK => ?_)
        refine goes_ Try.func26 (by kernel_rfl) rfl #[.agg #[.int .i64 a0_0, .int .i64 a0_1, .slice A0_2 l0_2.length c0_2, .slice A0_3 l0_3.length c0_3]] (by rfl) rfl rfl ar_ ?_
        with_reducible refine (impl_Ear_free.calls a0_0 a0_1 _ _ l0_2 _ _ l0_3 t178 _ ?side1 ?side2 ?side3 ?side4 A22.out).mono ?_
        (case side1 => exact kC_ (Kd.C_below HR0_2.out HB.out))
        (case side2 => exact HC0_2.out)
        (case side3 => exact kC_ (Kd.C_below HR0_3.out HB.out))
        (case side4 => exact HC0_3.out)
        rintro e w24 ⟨rfl, hb⟩
        refine ⟨_, rfl, ?_⟩
        replace HO_177002 := Aside0.mk (Kd.R_below (kR_ HO_177002.out) hb); replace HO_177003 := Aside0.mk (Kd.Q_below (by (with_reducible repeat (first | apply Kd.Q_alloc | apply Kd.Q_drewN | apply Kd.Q_drew)); exact HO_177003.out) hb); replace BK166 := (bbA_ BK166 hb); replace BK167 := (bbA_ BK167 hb); replace BK176 := (bbA_ BK176 hb); replace HB := (bs_ HB hb); (try clear hb); (try clear hb2); (try clear hk); (try clear hi)
        refine hK.out _ _ (cz4 BK166.out) (fun hHeld => ?_)
        clear hK K; refine nm_ 34 ?_; refine pu_ (i := 10) (N := some 35) HT_ ?_; refine pu_ (i := 11) (N := some 36) HT_ ?_; refine pu_ (i := 12) (N := some 37) HT_ ?_
        refine done_ (done_of HT_.out (by kernel_rfl)) ?_
        try go_wp2
        go_meet
        case rel => exact ⟨_, (decide ((wrap64 (a1 + x17_1)) ≥ (wrap64 (a0_0 + t178)))), (by first | rfl | (simp; done) | (simp [*]; done)), H', ⟨by have := HK1.out; first | omega | exact Nat.le_refl _⟩, ⟨kR_ HO_177002.out⟩, ⟨by (with_reducible repeat (first | apply Kd.Q_alloc | apply Kd.Q_drewN | apply Kd.Q_drew)); exact HO_177003.out⟩, ⟨by refine kb_ ?_; exact BK166.out⟩, ⟨by refine kb_ ?_; exact BK167.out⟩, ⟨by refine kb_ ?_; exact BK176.out⟩, ⟨hbA_ HB.out⟩⟩
      case rest =>
       clear HC19; (try clear c1); (try clear p1); (try clear q1); (try clear hx1); (try clear c2); (try clear p2); (try clear p6); (try clear c7); (try clear c11); (try clear c12); (try clear c16); (try clear c16b0); (try clear c17); (try clear c17b0); (try clear p17); (try clear q17); (try clear hx17); (try clear c18); (try clear c18b0); (try clear c19); (try clear c20); (try clear c20b0); (try clear c24); (try clear Z13); (try clear Z8); (try clear hx177_0); (try clear p177); (try clear p2); (try clear q177)
       obtain ⟨kq, x37_18, rfl, HA, HJ18, HO_177002, HO_177003, BK166, BK167, BK176, HB⟩ := hcut
       cases kq with
       | zero => exact absurd HA.out (by simp [impl_Ear_hear.j1])
       | succ kj18 =>
        have H := HA.out; clear HA
        simp only [impl_Ear_hear.j1] at H
        by_cases c25 : x37_18 = true
        ·subst c25
         rw [if_pos rfl] at H
         have H' := Aside0.mk H
         clear H
         go_wp2
         go_roundg kj18
         case measure => have := HK1.out; have := HJ18.out; omega
         case rel => exact ⟨(wrap64 (x17_1 + 1)), (x177003_1), (u177003), (by first | rfl | (simp; done) | (simp [*]; done)), H', ⟨by have := HK1.out; have := HJ18.out; omega⟩, ⟨kR_ HO_177002.out⟩, ⟨by (with_reducible repeat (first | apply Kd.Q_alloc | apply Kd.Q_drewN | apply Kd.Q_drew)); exact HO_177003.out⟩, ⟨by refine kb_ ?_; exact BK166.out⟩, ⟨by refine kb_ ?_; exact BK167.out⟩, ⟨by refine kb_ ?_; exact BK176.out⟩, ⟨hbA_ HB.out⟩⟩
        ·replace c25 := Bool.eq_false_iff.mpr c25
         subst c25
         rw [if_neg (show ¬ (false = true) by decide)] at H
         replace H := Option.bind_eq_some_iff.mp H
         obtain ⟨⟨t179, t180⟩, A260, H⟩ := H
         (try dsimp only at H)
         have A26 := Aside0.mk A260; clear A260
         by_cases c27 : t180 = true
         ·subst c27
          rw [if_pos rfl] at H
          have H' := Aside0.mk H
          clear H; have hnb28 := NB176_166.out; have hnc28 := NB166_176.out; have hnb29 := NB176_167.out; have hnc29 := NB167_176.out; have Z30 := zz4 BK176
          obtain ⟨Ao31, co31, eo31, _⟩ := Kd.Q_slice HO_177003.out
          subst eo31
          go_wp2_with (first | ((with_reducible refine gate_callee (f := 29) rfl ?_); refine goesL_ (some 42) rfl rfl Try.func29 (by kernel_rfl) rfl #[.slice Ao31 x177003_1.length co31, .int .i64 (wrap64 (a1 + x17_1)), .func (.func 30) #[] #[]] rfl ar_ ?_; (with_reducible refine (impl_Early_int.calls kj18 _ _ x177003_1 (wrap64 (a1 + x17_1)) t179 true _ ?side1 ?side2 A26.out).mono ?_); (case side1 => exact kC_ (Kd.Q_reads' HO_177003.out).2.2); (case side2 => exact (Kd.Q_reads' HO_177003.out).2.1); rintro e w32 ⟨rfl, hb⟩; refine ⟨_, rfl, ?_⟩; replace HO_177002 := Aside0.mk (Kd.R_below (kR_ HO_177002.out) hb); replace HO_177003 := Aside0.mk (Kd.Q_below (by (with_reducible repeat (first | apply Kd.Q_alloc | apply Kd.Q_drewN | apply Kd.Q_drew)); exact HO_177003.out) hb); replace BK166 := (bbA_ BK166 hb); replace BK167 := (bbA_ BK167 hb); replace BK176 := (bbA_ BK176 hb); replace HB := (bs_ HB hb); (try clear hb); (try clear hb2); (try clear hk); (try clear hi)))
          go_roundg kj18
          case measure => have := HK1.out; have := HJ18.out; omega
          case rel => exact ⟨(wrap64 (x17_1 + 1)), (x177003_1), (.slice Ao31 x177003_1.length co31), (by first | rfl | (simp; done) | (simp [*]; done)), H', ⟨by have := HK1.out; have := HJ18.out; omega⟩, ⟨kR_ HO_177002.out⟩, ⟨by (with_reducible repeat (first | apply Kd.Q_alloc | apply Kd.Q_drewN | apply Kd.Q_drew)); exact HO_177003.out⟩, ⟨by refine kb_ ?_; exact BK166.out⟩, ⟨by refine kb_ ?_; exact BK167.out⟩, ⟨by refine kb_ ?_; exact BK176.out⟩, ⟨hbA_ HB.out⟩⟩
         ·replace c27 := Bool.eq_false_iff.mpr c27
          subst c27
          rw [if_neg (show ¬ (false = true) by decide)] at H
          by_cases c33 : 0 ≤ t179
          ·rw [if_pos c33] at H
           have c33b0 := eq_true c33
           have c33b1 : decide (0 ≤ t179) = true := decide_eq_true c33
           clear c33
           by_cases c34 : t179 ≤ (x177003_1.length : Int)
           ·rw [if_pos c34] at H
            have c34b0 := eq_true c34
            have c34b1 : decide (t179 ≤ (x177003_1.length : Int)) = true := decide_eq_true c34
            clear c34
            by_cases c35 : x177003_1.length < 8796093022208
            ·rw [if_pos c35] at H
             have LMc35 := Aside0.mk c35; clear c35
             obtain ⟨y181, hy181⟩ : ∃ y_ : List (S50), y_ = (x177003_1.take (t179 : Int).toNat ++ [(⟨(wrap64 (a1 + x17_1)), (rd l2 x17_1)⟩ : S50)] ++ x177003_1.drop (t179 : Int).toNat) := ⟨_, rfl⟩
             (first | replace H := sb_ hy181 H | rw [← hy181] at H)
             have Ny181 := Aside0.mk hy181; clear hy181
             have H' := Aside0.mk H
             clear H; have hnb36 := NB176_166.out; have hnc36 := NB166_176.out; have hnb37 := NB176_167.out; have hnc37 := NB167_176.out; have Z38 := zz4 BK176
             obtain ⟨Ao39, co39, eo39, _⟩ := Kd.Q_slice HO_177003.out
             subst eo39
             go_wp2_with (first | ((with_reducible refine gate_callee (f := 29) rfl ?_); refine goesL_ (some 42) rfl rfl Try.func29 (by kernel_rfl) rfl #[.slice Ao39 x177003_1.length co39, .int .i64 (wrap64 (a1 + x17_1)), .func (.func 30) #[] #[]] rfl ar_ ?_; (with_reducible refine (impl_Early_int.calls kj18 _ _ x177003_1 (wrap64 (a1 + x17_1)) t179 false _ ?side1 ?side2 A26.out).mono ?_); (case side1 => exact kC_ (Kd.Q_reads' HO_177003.out).2.2); (case side2 => exact (Kd.Q_reads' HO_177003.out).2.1); rintro e w40 ⟨rfl, hb⟩; refine ⟨_, rfl, ?_⟩; replace HO_177002 := Aside0.mk (Kd.R_below (kR_ HO_177002.out) hb); replace HO_177003 := Aside0.mk (Kd.Q_below (by (with_reducible repeat (first | apply Kd.Q_alloc | apply Kd.Q_drewN | apply Kd.Q_drew)); exact HO_177003.out) hb); replace BK166 := (bbA_ BK166 hb); replace BK167 := (bbA_ BK167 hb); replace BK176 := (bbA_ BK176 hb); replace HB := (bs_ HB hb); (try clear hb); (try clear hb2); (try clear hk); (try clear hi); have Z41 := zz4 BK176) | ((with_reducible refine gate_callee (f := 31) rfl ?_); refine goesL_ (some 54) rfl rfl Try.func31 (by kernel_rfl) rfl #[.slice Ao39 x177003_1.length co39, .int .i64 t179, _] rfl ar_ ?_; refine Calls.mono (impl_Early_31.calls k50 rfl (w0 := w) w.heap.size (.slice Ao39 x177003_1.length co39) x177003_1 (⟨(wrap64 (a1 + x17_1)), (rd l2 x17_1)⟩ : S50) [.int .i64 (wrap64 (a1 + x17_1)), .int .u8 (rd l2 x17_1)] (fun _ => True) (fun _ => False) t179 (of_decide_eq_true (by first | (with_reducible assumption) | assumption)) (of_decide_eq_true (by first | (with_reducible assumption) | assumption)) ?aP (fun _ hk => hk.elim) ?aF ?aO ?aB ?aS ?aL) ?_; (case aP => exact k50_mkM _ _ _ (⟨(wrap64 (a1 + x17_1)), (rd l2 x17_1)⟩ : S50)); (case aB => exact (hbA_ HB.out)); (case aF => exact (fun _ _ => trivial)); (case aO => exact (by (with_reducible repeat (first | apply Kd.Q_alloc | apply Kd.Q_drewN | apply Kd.Q_drew)); exact HO_177003.out)); (case aS => exact (below_size (hbA_ HB.out))); (case aL => have := LMc35.out; omega); rintro e w42 ⟨v182, rfl, ho, hb, hg, hat⟩; refine ⟨_, rfl, ?_⟩; rw [← Ny181.out] at ho; replace HO_177002 := Aside0.mk (Kd.R_over' (kR_ HO_177002.out) (Kd.Q_typed (by (with_reducible repeat (first | apply Kd.Q_alloc | apply Kd.Q_drewN | apply Kd.Q_drew)); exact HO_177003.out)) (by decide) hg); replace BK166 := (bgA_ BK166 hg (Kd.Q_ne HO_177003.out BK166.out (by decide))); replace BK167 := (bgA_ BK167 hg (Kd.Q_ne HO_177003.out BK167.out (by decide))); replace BK176 := (bgA_ BK176 hg (Kd.Q_ne HO_177003.out BK176.out (by decide))); replace HB := Aside0.mk (hb); have HO183 := Aside0.mk (ho); clear HO_177003; clear ho hb hg hat; obtain ⟨Ao43, co43, eo43, _⟩ := Kd.Q_slice HO183.out; subst eo43; have Z44 := zz4 BK176))
             go_roundg kj18
             case measure => have := HK1.out; have := HJ18.out; omega
             case rel => exact ⟨(wrap64 (x17_1 + 1)), (y181), (.slice Ao43 y181.length co43), (by first | rfl | (simp; done) | (simp [*]; done)), H', ⟨by have := HK1.out; have := HJ18.out; omega⟩, ⟨by refine kR_ ?_; exact Kd.R_mono (Kd.R_f gb176 3 (.slice Ao43 y181.length co43) (Kd.R_types HO_177002.out BK176.out (by decide))) (fun _ hk => trivial)⟩, ⟨by (with_reducible repeat (first | apply Kd.Q_alloc | apply Kd.Q_drewN | apply Kd.Q_drew)); exact Kd.Q_mono (Kd.Q_far (p := ⟨gb176, 3, none⟩) (Kd.Q_types HO183.out BK176.out (by decide)) (fun _ hk => hk.2) (.slice Ao43 y181.length co43)) (fun _ hk => trivial)⟩, ⟨by exact kf_ BK166.out⟩, ⟨by exact kf_ BK167.out⟩, ⟨by refine kb_ ?_; refine blk_put (cs := #[.int .i64 t168, .int .i64 t169, .slice Ao14 t170.length co14, .slice Ao39 x177003_1.length co39]) ?_ 3 _ rfl; refine kb_ ?_; exact BK176.out⟩, ⟨hbA_ HB.out⟩⟩
            ·rw [if_neg c35] at H
             exact absurd H (by simp)
           ·rw [if_neg c34] at H
            exact absurd H (by simp)
          ·rw [if_neg c33] at H
           exact absurd H (by simp)
     ·rw [if_neg c18] at H
      exact absurd H (by simp)
    ·rw [if_neg c17] at H
     exact absurd H (by simp)
   ·rw [if_neg c16] at H
    have c16b0 : decide (x17_1 < (l2.length : Int)) = false := decide_eq_false c16
    clear c16
    have H' := Aside0.mk H
    clear H
    go_wp2
    go_loopg [] k1 (fun kq w' => ∃ (x177000_2 : Int) (x177002_2 : List Int) (x177003_2 : List (S50)) (u177002 : Value) (u177003 : Value), Aside0 (impl_Ear_hear.l1 kq x177000_2 t169 x177002_2 x177003_2 = some (r1, r2, r3, r4)) ∧ Aside0 (kq ≤ k1) ∧ Aside0 (Kd.R (Kd.int .u8) 5 w' w.heap.size (fun _ => True) u177002 x177002_2) ∧ Aside0 (Kd.Q k50 50 w' w.heap.size (fun _ => True) u177003 x177003_2) ∧ Aside0 (w'.heap[gb166]? = some (.cells #[.int .i64 a0_0, .int .i64 a0_1, (.slice A0_2 l0_2.length c0_2), (.slice A0_3 l0_3.length c0_3)] 29 (0, 0))) ∧ Aside0 (w'.heap[gb167]? = some (.cells #[.int .i64 0, .int .i64 0, (.slice none 0 0), (.slice none 0 0)] 29 (0, 0))) ∧ Aside0 (w'.heap[gb176]? = some (.cells #[.int .i64 x177000_2, .int .i64 t169, u177002, u177003] 29 (0, 0))) ∧ Aside0 (Below w.heap.size w w'))
    case atStart => exact ⟨(t168), (t170), (x177003_1), (.slice Ao14 t170.length co14), (u177003), H', ⟨Nat.le_refl _⟩, ⟨kR_ HO_177002.out⟩, ⟨by (with_reducible repeat (first | apply Kd.Q_alloc | apply Kd.Q_drewN | apply Kd.Q_drew)); exact HO_177003.out⟩, ⟨by refine kb_ ?_; exact BK166.out⟩, ⟨by refine kb_ ?_; exact BK167.out⟩, ⟨by refine kb_ ?_; exact BK176.out⟩, ⟨hbA_ HB.out⟩⟩
    case round =>
     clear H'; (try clear c1); (try clear p1); (try clear q1); (try clear hx1); (try clear c2); (try clear p2); (try clear c3); (try clear p6); (try clear c7); (try clear c11); (try clear c12); (try clear c16); (try clear c16b0); (try clear c17); (try clear c17b0); (try clear p17); (try clear q17); (try clear hx17); (try clear c18); (try clear c18b0); (try clear c19); (try clear c20); (try clear c20b0); (try clear c24); (try clear c25); (try clear c26); (try clear c27); (try clear c28); (try clear c29); (try clear c31); (try clear c33); (try clear c33b0); (try clear c33b1); (try clear c34); (try clear c34b0); (try clear c34b1); (try clear c35); (try clear c36); (try clear c37); (try clear Z13); (try clear Z30); (try clear Z38); (try clear Z41); (try clear Z44); (try clear Z8); (try clear hx177_0); (try clear p1); (try clear p17); (try clear p177); (try clear p2); (try clear p6); (try clear q1); (try clear q17); (try clear q177)
     obtain ⟨x177000_2, x177002_2, x177003_2, u177002, u177003, HA, HK2, HO_177002, HO_177003, BK166, BK167, BK176, HB⟩ := hrel
     cases gk with
     | zero => exact absurd HA.out (by simp [impl_Ear_hear.l1])
     | succ k2 =>
      have H := HA.out; clear HA
      simp only [impl_Ear_hear.l1] at H
      by_cases c45 : (x177003_2.length : Int) > 0
      ·rw [if_pos c45] at H
       have c45b0 : decide (0 < (x177003_2.length : Int)) = true := decide_eq_true c45
       have c45b1 : decide (0 < x177003_2.length) = true := decide_eq_true (by omega)
       clear c45
       by_cases c46 : 0 < (x177003_2.length : Int)
       ·rw [if_pos c46] at H
        have c46b0 : decide (0 < (x177003_2.length : Int)) = true := decide_eq_true c46
        have c46b1 : decide (0 < x177003_2.length) = true := decide_eq_true (by omega)
        clear c46
        by_cases c47 : ((rd_T50 x177003_2 0).f0) = x177000_2
        ·rw [if_pos c47] at H
         have c47b0 : (((rd_T50 x177003_2 0).f0) == x177000_2) = true := beq_iff_eq.mpr c47
         have c47b1 : (((rd_T50 x177003_2 0).f0) != x177000_2) = false := bne_eq_false_iff_eq.mpr c47
         clear c47
         by_cases c48 : x177002_2.length < 140737488355328
         ·rw [if_pos c48] at H
          have LMc48 := Aside0.mk c48; clear c48
          obtain ⟨y186, hy186⟩ : ∃ y_ : List Int, y_ = (x177002_2 ++ [(rd_T50 x177003_2 0).f1]) := ⟨_, rfl⟩
          (first | replace H := sb_ hy186 H | rw [← hy186] at H)
          have Ny186 := Aside0.mk hy186; clear hy186
          by_cases c49 : 1 ≤ (x177003_2.length : Int)
          ·rw [if_pos c49] at H
           have c49b0 := eq_true c49
           have c49b1 : decide (1 ≤ (x177003_2.length : Int)) = true := decide_eq_true c49
           clear c49
           obtain ⟨y189, hy189⟩ : ∃ y_ : List (S50), y_ = (x177003_2.drop (1 : Int).toNat) := ⟨_, rfl⟩
           (first | replace H := sb_ hy189 H | rw [← hy189] at H)
           have Ny189 := Aside0.mk hy189; clear hy189
           have H' := Aside0.mk H
           clear H
           try go_wp2
           replace HO_177002 := Aside0.mk (Kd.R_drew HO_177002.out); replace HO_177003 := Aside0.mk (Kd.Q_drew HO_177003.out); replace BK166 := Aside0.mk (blk_drew BK166.out); replace BK167 := Aside0.mk (blk_drew BK167.out); replace BK176 := Aside0.mk (blk_drew BK176.out); replace HB := (bd_ HB)
           obtain ⟨Ao51, co51, eo51, _⟩ := Kd.Q_slice HO_177003.out
           (first | subst eo51 | (injection eo51 with f1_ f2_ f3_; have f4_ := f1_.symm; have f5_ := f3_.symm; clear f1_ f2_ f3_; subst f4_; subst f5_))
           have p184 : 0 ≤ (0 : Int) := (by omega)
           have q184 : 0 < (x177003_2.length : Int) := of_decide_eq_true (by first | (with_reducible assumption) | assumption)
           obtain ⟨ad184, e184, hx184_0, hx184_1⟩ := at_T50 (Kd.Q_reads' HO_177003.out).2.2 0 p184 q184
           cases e184
           have qi184 : (0 < x177003_2.length) = True := eq_true (by omega)
           (try rw [show ((0 : Int)).toNat = 0 from rfl] at hx184_0)
           (try rw [show 0 * 2 = 0 from rfl] at hx184_0)
           (try rw [Addr.add_zero'] at hx184_0)
           (try rw [show ((0 : Int)).toNat = 0 from rfl] at hx184_1)
           (try rw [show 0 * 2 = 0 from rfl] at hx184_1)
           (try rw [Addr.add_zero'] at hx184_1)
           replace p184 := eq_true p184
           replace q184 := eq_true q184
           refine start_ (n := 14) (S := fun w' => w'.cell? ⟨gb176, 0, none⟩ = some (.int .i64 x177000_2) ∧ w'.cell? ⟨gb176, 1, none⟩ = some (.int .i64 t169) ∧ w'.cell? ⟨gb176, 2, none⟩ = some (u177002) ∧ w'.cell? ⟨gb176, 3, none⟩ = some (.slice (some ad184) x177003_2.length co51) ∧ w'.cell? ad184 = some (.int .i64 ((rd_T50 x177003_2 0).f0)) ∧ w'.cell? ⟨ad184.block, ad184.off + 1, none⟩ = some (.int .u8 ((rd_T50 x177003_2 0).f1))) (ds := []) #[false, false, false, false, false, false, false, false, false, false, false, false, false, false] (by kernel_rfl) rfl rfl ⟨bc_ BK176 0, bc_ BK176 1, bc_ BK176 2, bc_ BK176 3, hx184_0, hx184_1⟩ (fun hHeld => ?_); refine with_tabW impl_Ear_hear.tab11 impl_Ear_hear.bits11 (fun HT_ HW_ => ?_)
           generalize wr.drew = w50 at HO_177002 HO_177003 BK166 BK167 BK176 HB hx184_0 hx184_1 hHeld ⊢
           refine pu_ (i := 0) (N := some 57) HT_ ?_; refine tk_ (i := 1) (N := some 58) HT_ HW_ hHeld ?_; refine pu_ (i := 2) (N := some 59) HT_ ?_; refine pu_ (i := 3) (N := some 60) HT_ ?_; refine pu_ (i := 4) (N := some 61) HT_ ?_; refine pu_ (i := 5) (N := some 62) HT_ ?_; refine pu_ (i := 10) (N := some 67) HT_ ?_; refine tk_ (i := 6) (N := some 63) HT_ HW_ hHeld ?_; refine pu_ (i := 7) (N := some 64) HT_ ?_; refine pu_ (i := 8) (N := some 65) HT_ ?_; refine tk_ (i := 9) (N := some 66) HT_ HW_ hHeld ?_; refine tk_ (i := 11) (N := some 68) HT_ HW_ hHeld ?_; refine pu_ (i := 12) (N := some 69) HT_ ?_; refine pu_ (i := 13) (N := some 70) HT_ ?_
           refine done_ (done_of HT_.out (by kernel_rfl)) ?_
           try go_wp2
           replace HO_177002 := Aside0.mk (Kd.R_drew HO_177002.out); replace HO_177003 := Aside0.mk (Kd.Q_drew HO_177003.out); replace BK166 := Aside0.mk (blk_drew BK166.out); replace BK167 := Aside0.mk (blk_drew BK167.out); replace BK176 := Aside0.mk (blk_drew BK176.out); replace HB := (bd_ HB)
           have p185 : 0 ≤ (0 : Int) := (by omega)
           have q185 : 0 < (x177003_2.length : Int) := of_decide_eq_true (by first | (with_reducible assumption) | assumption)
           obtain ⟨ad185, e185, hx185_0, hx185_1⟩ := at_T50 (Kd.Q_reads' HO_177003.out).2.2 0 p185 q185
           obtain rfl : ad184 = ad185 := (by injection e185)
           have qi185 : (0 < x177003_2.length) = True := eq_true (by omega)
           (try rw [show ((0 : Int)).toNat = 0 from rfl] at hx185_0)
           (try rw [show 0 * 2 = 0 from rfl] at hx185_0)
           (try rw [Addr.add_zero'] at hx185_0)
           (try rw [show ((0 : Int)).toNat = 0 from rfl] at hx185_1)
           (try rw [show 0 * 2 = 0 from rfl] at hx185_1)
           (try rw [Addr.add_zero'] at hx185_1)
           replace p185 := eq_true p185
           replace q185 := eq_true q185
           refine start_ (n := 11) (S := fun w' => w'.cell? ⟨gb176, 0, none⟩ = some (.int .i64 x177000_2) ∧ w'.cell? ⟨gb176, 1, none⟩ = some (.int .i64 t169) ∧ w'.cell? ⟨gb176, 2, none⟩ = some (u177002) ∧ w'.cell? ⟨gb176, 3, none⟩ = some (.slice (some ad184) x177003_2.length co51) ∧ w'.cell? ad184 = some (.int .i64 ((rd_T50 x177003_2 0).f0)) ∧ w'.cell? ⟨ad184.block, ad184.off + 1, none⟩ = some (.int .u8 ((rd_T50 x177003_2 0).f1))) (ds := [8, 10]) #[false, false, false, false, false, false, false, false, false, false, false] (by kernel_rfl) rfl rfl ⟨bc_ BK176 0, bc_ BK176 1, bc_ BK176 2, bc_ BK176 3, hx185_0, hx185_1⟩ (fun hHeld => ?_); refine with_tabW impl_Ear_hear.tab12 impl_Ear_hear.bits12 (fun HT_ HW_ => ?_)
           generalize w50.drew = w52 at HO_177002 HO_177003 BK166 BK167 BK176 HB hx185_0 hx185_1 hHeld ⊢
           refine pu_ (i := 0) (N := some 71) HT_ ?_; refine pu_ (i := 2) (N := some 73) HT_ ?_; refine tk_ (i := 1) (N := some 72) HT_ HW_ hHeld ?_; refine tk_ (i := 3) (N := some 74) HT_ HW_ hHeld ?_; refine pu_ (i := 4) (N := some 75) HT_ ?_; refine pu_ (i := 5) (N := some 76) HT_ ?_; refine tk_ (i := 6) (N := some 77) HT_ HW_ hHeld ?_
           refine on_ (i := 7) (N := some 78) HT_ (fun K hK => ?_)
           refine value_ (w1 := ?_) (v := ?_) (by rfl) rfl ?_ ?_
           rotate_left 2
           ·go_simp
            constructor
            ·rfl
            ·rfl
           refine hK.out _ _ ⟨(blk_cell (blk_alloc BK176.out _) 0).trans rfl, (blk_cell (blk_alloc BK176.out _) 1).trans rfl, (blk_cell (blk_alloc BK176.out _) 2).trans rfl, (blk_cell (blk_alloc BK176.out _) 3).trans rfl, (World.cell?_alloc_lt _ _ _ (World.block_lt_of_cell? _ _ (hHeld.2.2.2.2.1))).trans (hHeld.2.2.2.2.1), (World.cell?_alloc_lt _ _ _ (World.block_lt_of_cell? _ _ (hHeld.2.2.2.2.2))).trans (hHeld.2.2.2.2.2)⟩ (fun hHeld => ?_)
           clear hK K; refine nm_ 78 ?_
           refine last_ (i := 8) (N := some 79) #[true, true, true, true, true, true, true, true, true, false, false] rfl rfl (one_of HT_.out (by kernel_rfl)) (by decide) (fun K hK => ?_)
           refine Kd.R_append_step (Kd.int .u8) (w0 := w) w.heap.size (by rfl) (.tmp 72) (.tmp 78) 22 5 (.int .u8 0) 1 rfl Try.underlying22 info5 rfl (by decide) (by omega) u177002 x177002_2 ((rd_T50 x177003_2 0).f1) [.int .u8 ((rd_T50 x177003_2 0).f1)] (fun _ => True) (fun _ => False) rfl rfl ?aP (fun _ hk => hk.elim) ?aF ?aO ?aB ?aS ?aL ?_
           (case aP => exact rfl)
           (case aB => exact (hbA_ HB.out))
           (case aF => exact (fun _ _ => trivial))
           (case aO => exact (kR_ HO_177002.out))
           (case aS => exact (below_size (hbA_ HB.out)))
           (case aL => have := LMc48.out; omega)
           intro v187 w53 ho hb hg hat
           rw [← Ny186.out] at ho
           have n0_ := Aside0.mk (Kd.Q_over' (by (with_reducible repeat (first | apply Kd.Q_alloc | apply Kd.Q_drewN | apply Kd.Q_drew)); exact HO_177003.out) (Kd.R_typed (kR_ HO_177002.out)) (by decide) hg); have n1_ := (bgA_ BK166 hg (Kd.R_ne HO_177002.out BK166.out (by decide))); have n2_ := (bgA_ BK167 hg (Kd.R_ne HO_177002.out BK167.out (by decide))); have n3_ := (bgA_ BK176 hg (Kd.R_ne HO_177002.out BK176.out (by decide))); have n4_ := Aside0.mk (hb); have n5_ := Aside0.mk (ho); clear HO_177003 BK166 BK167 BK176 HB HO_177002; have HO_177003 := n0_; have BK166 := n1_; have BK167 := n2_; have BK176 := n3_; have HB := n4_; have HO188 := n5_; clear n0_ n1_ n2_ n3_ n4_ n5_ ho hb hg hat
           obtain ⟨Ao54, co54, eo54⟩ := Kd.R_slice HO188.out
           (first | subst eo54 | (injection eo54 with f1_ f2_ f3_; have f4_ := f1_.symm; have f5_ := f3_.symm; clear f1_ f2_ f3_; subst f4_; subst f5_))
           refine hK.out _ _ ?_
           clear hK K; refine nm_ 79 ?_; refine pu_ (i := 9) (N := some 80) HT_ ?_
           refine last_ (i := 10) (N := none) #[true, true, true, true, true, true, true, true, true, true, true] rfl rfl (one_of HT_.out (by kernel_rfl)) (by decide) (fun K hK => ?_)
           have hs55 : w53.cell? ⟨gb176, 2, none⟩ = some (u177002) := bc_ BK176 2
           have hfs55 := blk_frozen BK176.out 2
           have hns55_0 := NB166_176.out; have hns55_1 := NB167_176.out; have hms55_0 := NB176_166.out; have hms55_1 := NB176_167.out
           refine skip_ (w1 := ?_) (by rfl) rfl ?_ ?_
           rotate_left
           ·go_simp
            rfl
           refine hK.out _ _ ?_
           clear hK K
           refine done_ (done_of HT_.out (by kernel_rfl)) ?_
           obtain ⟨w56, h_w56⟩ : ∃ w_, (w53.setCell ⟨gb176, 2, none⟩ (.slice Ao54 y186.length co54)) = w_ := ⟨_, rfl⟩
           have n0_ : Aside0 (Kd.Q k50 50 w56 w.heap.size (fun _ => True) (.slice (some ad184) x177003_2.length co51) x177003_2) := ⟨by subst h_w56; (with_reducible repeat (first | apply Kd.Q_alloc | apply Kd.Q_drewN | apply Kd.Q_drew)); exact Kd.Q_mono (Kd.Q_far (p := ⟨gb176, 2, none⟩) (Kd.Q_types HO_177003.out BK176.out (by decide)) (fun _ hk => hk.2) (.slice Ao54 y186.length co54)) (fun _ hk => trivial)⟩
           have n1_ : Aside0 (Kd.R (Kd.int .u8) 5 w56 w.heap.size (fun _ => True) (.slice Ao54 y186.length co54) y186) := ⟨by subst h_w56; refine kR_ ?_; exact Kd.R_mono (Kd.R_f gb176 2 (.slice Ao54 y186.length co54) (Kd.R_types HO188.out BK176.out (by decide))) (fun _ hk => trivial)⟩
           have n2_ : Aside0 (w56.heap[gb166]? = some (.cells #[.int .i64 a0_0, .int .i64 a0_1, .slice A0_2 l0_2.length c0_2, .slice A0_3 l0_3.length c0_3] 29 (0, 0))) := ⟨by subst h_w56; exact kf_ BK166.out⟩
           have n3_ : Aside0 (w56.heap[gb167]? = some (.cells #[.int .i64 0, .int .i64 0, .slice none 0 0, .slice none 0 0] 29 (0, 0))) := ⟨by subst h_w56; exact kf_ BK167.out⟩
           have n4_ : Aside0 (w56.heap[gb176]? = some (.cells #[.int .i64 x177000_2, .int .i64 t169, .slice Ao54 y186.length co54, .slice (some ad184) x177003_2.length co51] 29 (0, 0))) := ⟨by subst h_w56; refine kb_ ?_; refine blk_put (cs := #[.int .i64 x177000_2, .int .i64 t169, u177002, .slice (some ad184) x177003_2.length co51]) ?_ 2 _ rfl; refine kb_ ?_; exact BK176.out⟩
           have n5_ : Aside0 (Below w.heap.size w w56) := ⟨by subst h_w56; exact hbA_ HB.out⟩
           (try clear HO_177003); (try clear HO188); (try clear BK166); (try clear BK167); (try clear BK176); (try clear HB)
           (try rw [h_w56]); clear h_w56
           have HO_177003 := n0_; have HO188 := n1_; have BK166 := n2_; have BK167 := n3_; have BK176 := n4_; have HB := n5_; clear n0_ n1_ n2_ n3_ n4_ n5_; have hnb57 := NB176_166.out; have hnc57 := NB166_176.out; have hnb58 := NB176_167.out; have hnc58 := NB167_176.out; have Z59 := zz4 BK176
           have q60 : (1 : Int) ≤ ((x177003_2.length : Int) : Int) := of_decide_eq_true (by first | (with_reducible assumption) | assumption)
           obtain ⟨i060, hi060, _, hsz60, _⟩ := info_parts info50
           have hcut60 := cut_from (P := Try.prog) 27 50 .i64 Try.underlying27 hi060 2 hsz60 (some ad184) x177003_2.length co51 1 (by omega) q60
           have hr60 := Kd.Q_drop (k := (1 : Int).toNat) HO_177003.out (by omega)
           obtain ⟨A60, hA60⟩ : ∃ A1, A1 = (if co51 = (1 : Int).toNat then (some ad184) else ((some ad184) : Option Addr).map (·.add ((1 : Int).toNat * 2))) := ⟨_, rfl⟩
           obtain ⟨c60, hc60⟩ : ∃ c1, c1 = co51 - (1 : Int).toNat := ⟨_, rfl⟩
           have hy60 : y189.length = x177003_2.length - (1 : Int).toNat := (by rw [Ny189.out, List.length_drop])
           rw [← Ny189.out] at hr60
           rw [← hy60, ← hA60, ← hc60] at hcut60
           replace hr60 : Kd.Q k50 50 w56 w.heap.size (fun _ => True) (.slice A60 y189.length c60) y189 := (by rw [hA60, hc60, hy60]; exact hr60)
           have HE60 : Aside0 ((Value.slice A60 y189.length c60).ownBlock = (.slice (some ad184) x177003_2.length co51 : Value).ownBlock) := ⟨by rw [hA60]; split <;> (cases ((some ad184) : Option Addr) <;> first | rfl | simp [Value.ownBlock, add_block])⟩
           clear hy60 hi060 hsz60 HO_177003 hA60 hc60; have HO191 := Aside0.mk hr60; clear hr60
           replace q60 := eq_true q60
           try go_wp2
           go_roundg k2
           case measure => have := HK1.out; have := HK2.out; omega
           case rel => exact ⟨(wrap64 (x177000_2 + 1)), (y186), (y189), (.slice Ao54 y186.length co54), (.slice A60 y189.length c60), H', ⟨by have := HK1.out; have := HK2.out; omega⟩, ⟨by refine kR_ ?_; exact rfm_ ((Kd.R_types HO188.out BK176.out (by decide))) (fun _ hk => trivial)⟩, ⟨by (with_reducible repeat (first | apply Kd.Q_alloc | apply Kd.Q_drewN | apply Kd.Q_drew)); exact Kd.Q_mono (Kd.Q_far (p := ⟨gb176, 0, none⟩) (Kd.Q_far (p := ⟨gb176, 3, none⟩) (Kd.Q_types HO191.out BK176.out (by decide)) (fun _ hk => hk.2) (.slice A60 y189.length c60)) (fun _ hk => hk.2) (.int .i64 (wrap64 (x177000_2 + 1)))) (fun _ hk => trivial)⟩, ⟨by exact kf_ BK166.out⟩, ⟨by exact kf_ BK167.out⟩, ⟨by refine kb_ ?_; refine blk_put (cs := #[.int .i64 x177000_2, .int .i64 t169, .slice Ao54 y186.length co54, .slice A60 y189.length c60]) ?_ 0 _ rfl; refine kb_ ?_; refine blk_put (cs := #[.int .i64 x177000_2, .int .i64 t169, .slice Ao54 y186.length co54, .slice (some ad184) x177003_2.length co51]) ?_ 3 _ rfl; refine kb_ ?_; exact BK176.out⟩, ⟨hbA_ HB.out⟩⟩
          ·rw [if_neg c49] at H
           exact absurd H (by simp)
         ·rw [if_neg c48] at H
          exact absurd H (by simp)
        ·rw [if_neg c47] at H
         have c47b0 : (((rd_T50 x177003_2 0).f0) == x177000_2) = false := beq_eq_false_iff_ne.mpr c47
         have c47b1 : (((rd_T50 x177003_2 0).f0) != x177000_2) = true := bne_iff_ne.mpr c47
         replace H := Option.bind_eq_some_iff.mp H
         obtain ⟨⟨t192, t193, t194, t197⟩, A610, H⟩ := H
         (try dsimp only at H)
         have A61 := Aside0.mk A610; clear A610
         simp only [Option.some.injEq, Prod.mk.injEq] at H
         obtain ⟨rfl, rfl, rfl, rfl⟩ := H
         try go_wp2
         replace HO_177002 := Aside0.mk (Kd.R_drew HO_177002.out); replace HO_177003 := Aside0.mk (Kd.Q_drew HO_177003.out); replace BK166 := Aside0.mk (blk_drew BK166.out); replace BK167 := Aside0.mk (blk_drew BK167.out); replace BK176 := Aside0.mk (blk_drew BK176.out); replace HB := (bd_ HB)
         obtain ⟨Ao63, co63, eo63, _⟩ := Kd.Q_slice HO_177003.out
         (first | subst eo63 | (injection eo63 with f1_ f2_ f3_; have f4_ := f1_.symm; have f5_ := f3_.symm; clear f1_ f2_ f3_; subst f4_; subst f5_))
         have p184 : 0 ≤ (0 : Int) := (by omega)
         have q184 : 0 < (x177003_2.length : Int) := of_decide_eq_true (by first | (with_reducible assumption) | assumption)
         obtain ⟨ad184, e184, hx184_0, hx184_1⟩ := at_T50 (Kd.Q_reads' HO_177003.out).2.2 0 p184 q184
         cases e184
         have qi184 : (0 < x177003_2.length) = True := eq_true (by omega)
         (try rw [show ((0 : Int)).toNat = 0 from rfl] at hx184_0)
         (try rw [show 0 * 2 = 0 from rfl] at hx184_0)
         (try rw [Addr.add_zero'] at hx184_0)
         (try rw [show ((0 : Int)).toNat = 0 from rfl] at hx184_1)
         (try rw [show 0 * 2 = 0 from rfl] at hx184_1)
         (try rw [Addr.add_zero'] at hx184_1)
         replace p184 := eq_true p184
         replace q184 := eq_true q184
         refine start_ (n := 14) (S := fun w' => w'.cell? ⟨gb176, 0, none⟩ = some (.int .i64 x177000_2) ∧ w'.cell? ⟨gb176, 1, none⟩ = some (.int .i64 t169) ∧ w'.cell? ⟨gb176, 2, none⟩ = some (u177002) ∧ w'.cell? ⟨gb176, 3, none⟩ = some (.slice (some ad184) x177003_2.length co63) ∧ w'.cell? ad184 = some (.int .i64 ((rd_T50 x177003_2 0).f0)) ∧ w'.cell? ⟨ad184.block, ad184.off + 1, none⟩ = some (.int .u8 ((rd_T50 x177003_2 0).f1))) (ds := []) #[false, false, false, false, false, false, false, false, false, false, false, false, false, false] (by kernel_rfl) rfl rfl ⟨bc_ BK176 0, bc_ BK176 1, bc_ BK176 2, bc_ BK176 3, hx184_0, hx184_1⟩ (fun hHeld => ?_); refine with_tabW impl_Ear_hear.tab11 impl_Ear_hear.bits11 (fun HT_ HW_ => ?_)
         generalize wr.drew = w62 at HO_177002 HO_177003 BK166 BK167 BK176 HB hx184_0 hx184_1 hHeld ⊢
         refine pu_ (i := 0) (N := some 57) HT_ ?_; refine tk_ (i := 1) (N := some 58) HT_ HW_ hHeld ?_; refine pu_ (i := 2) (N := some 59) HT_ ?_; refine pu_ (i := 3) (N := some 60) HT_ ?_; refine pu_ (i := 4) (N := some 61) HT_ ?_; refine pu_ (i := 5) (N := some 62) HT_ ?_; refine pu_ (i := 10) (N := some 67) HT_ ?_; refine tk_ (i := 6) (N := some 63) HT_ HW_ hHeld ?_; refine pu_ (i := 7) (N := some 64) HT_ ?_; refine pu_ (i := 8) (N := some 65) HT_ ?_; refine tk_ (i := 9) (N := some 66) HT_ HW_ hHeld ?_; refine tk_ (i := 11) (N := some 68) HT_ HW_ hHeld ?_; refine pu_ (i := 12) (N := some 69) HT_ ?_; refine pu_ (i := 13) (N := some 70) HT_ ?_
         refine done_ (done_of HT_.out (by kernel_rfl)) ?_
         have hnb64 := NB176_166.out; have hnc64 := NB166_176.out; have hnb65 := NB176_167.out; have hnc65 := NB167_176.out; have Z66 := zz4 BK176
         obtain ⟨Ao67, co67, eo67⟩ := Kd.R_slice HO_177002.out
         subst eo67
         try go_wp2_with (first | ((with_reducible refine gate_callee (f := 24) rfl ?_); refine goesL_ (some 90) rfl rfl Try.func24 (by kernel_rfl) rfl #[.agg #[.int .i64 x177000_2, .int .i64 t169, .slice Ao67 x177002_2.length co67, .slice (some ad184) x177003_2.length co63]] rfl ar_ ?_; (with_reducible refine (impl_Ear_copy.calls x177000_2 t169 _ _ x177002_2 _ _ x177003_2 t192 t193 t194 t197 _ ?side1 ?side2 ?side3 ?side4 A61.out).mono ?_); (case side1 => exact kC_ (Kd.R_reads' HO_177002.out).2.2); (case side2 => exact (Kd.R_reads' HO_177002.out).2.1); (case side3 => exact kC_ (Kd.Q_reads' HO_177003.out).2.2); (case side4 => exact (Kd.Q_reads' HO_177003.out).2.1); rintro e w68 ⟨v195, v198, rfl, ho0, ho1, hb⟩; refine ⟨_, rfl, ?_⟩; have HO196 := Aside0.mk (Kd.R_lower (Kd.R_new' ho0 (Kd.R_lt (kR_ HO_177002.out))) (below_size (hbA_ HB.out))); replace HO_177002 := Aside0.mk (Kd.R_elder' (kR_ HO_177002.out) (Kd.R_base ho0) hb); have HO199 := Aside0.mk (Kd.R_lower (Kd.R_new' ho1 (Kd.Q_lt (by (with_reducible repeat (first | apply Kd.Q_alloc | apply Kd.Q_drewN | apply Kd.Q_drew)); exact HO_177003.out))) (below_size (hbA_ HB.out))); replace HO_177003 := Aside0.mk (Kd.Q_elder' (by (with_reducible repeat (first | apply Kd.Q_alloc | apply Kd.Q_drewN | apply Kd.Q_drew)); exact HO_177003.out) (Kd.R_base ho1) hb); replace BK166 := (bbA_ BK166 hb); replace BK167 := (bbA_ BK167 hb); replace BK176 := (bbA_ BK176 hb); replace HB := (bs_ HB hb); (try clear hb); (try clear hb2); (try clear hk); (try clear hi); (try clear ho0); (try clear ho1); have hnb69 := NB167_166.out; have hnc69 := NB166_167.out; have Z70 := zz4 BK167; obtain ⟨Ao71, co71, eo71⟩ := Kd.R_slice HO196.out; subst eo71; obtain ⟨Ao72, co72, eo72⟩ := Kd.R_slice HO199.out; subst eo72))
         refine bodyPost_ret (results_cell_row rfl _ _ gb167 29 #[.int .i64 t192, .int .i64 t193, .slice Ao71 t194.length co71, .slice Ao72 t197.length co72] (0, 0) _ rfl (by refine kb_ ?_; refine pz4 (cs := #[.int .i64 0, .int .i64 0, .slice none 0 0, .slice none 0 0]) ?_; refine kb_ ?_; exact BK167.out) Try.underlying29 rfl (by kernel_rfl)) rfl ?_
         exact ⟨_, _, by first | rfl | (simp [errW_none, errW_some] <;> rfl) | (simp [*, errW_none, errW_some] <;> rfl), by refine kR_ ?_; exact rfm_ ((Kd.R_types HO196.out BK167.out (by decide))) (fun _ hk => trivial), by refine kR_ ?_; exact rfm_ ((Kd.R_types HO199.out BK167.out (by decide))) (fun _ hk => trivial), hbA_ HB.out⟩
       ·rw [if_neg c46] at H
        exact absurd H (by simp)
      ·rw [if_neg c45] at H
       have c45b0 : decide (0 < (x177003_2.length : Int)) = false := decide_eq_false c45
       have c45b1 : decide (0 < x177003_2.length) = false := decide_eq_false (by omega)
       clear c45
       replace H := Option.bind_eq_some_iff.mp H
       obtain ⟨⟨t200, t201, t202, t205⟩, A730, H⟩ := H
       (try dsimp only at H)
       have A73 := Aside0.mk A730; clear A730
       simp only [Option.some.injEq, Prod.mk.injEq] at H
       obtain ⟨rfl, rfl, rfl, rfl⟩ := H
       try go_wp2
       replace HO_177002 := Aside0.mk (Kd.R_drew HO_177002.out); replace HO_177003 := Aside0.mk (Kd.Q_drew HO_177003.out); replace BK166 := Aside0.mk (blk_drew BK166.out); replace BK167 := Aside0.mk (blk_drew BK167.out); replace BK176 := Aside0.mk (blk_drew BK176.out); replace HB := (bd_ HB)
       obtain ⟨Ao75, co75, eo75, _⟩ := Kd.Q_slice HO_177003.out
       (first | subst eo75 | (injection eo75 with f1_ f2_ f3_; have f4_ := f1_.symm; have f5_ := f3_.symm; clear f1_ f2_ f3_; subst f4_; subst f5_))
       refine start_ (n := 14) (S := fun w' => w'.cell? ⟨gb176, 0, none⟩ = some (.int .i64 x177000_2) ∧ w'.cell? ⟨gb176, 1, none⟩ = some (.int .i64 t169) ∧ w'.cell? ⟨gb176, 2, none⟩ = some (u177002) ∧ w'.cell? ⟨gb176, 3, none⟩ = some (.slice Ao75 x177003_2.length co75)) (ds := []) #[false, false, false, false, false, false, false, false, false, false, false, false, false, false] (by kernel_rfl) rfl rfl (cz4 BK176.out) (fun hHeld => ?_); refine with_tabW impl_Ear_hear.tab11 impl_Ear_hear.bits11 (fun HT_ HW_ => ?_)
       generalize wr.drew = w74 at HO_177002 HO_177003 BK166 BK167 BK176 HB hHeld ⊢
       refine pu_ (i := 0) (N := some 57) HT_ ?_; refine tk_ (i := 1) (N := some 58) HT_ HW_ hHeld ?_; refine pu_ (i := 2) (N := some 59) HT_ ?_; refine pu_ (i := 3) (N := some 60) HT_ ?_; refine pu_ (i := 4) (N := some 61) HT_ ?_; refine pn_ (i := 5) (N := some 62) HT_ ?_; refine pn_ (i := 6) (N := some 63) HT_ ?_; refine pn_ (i := 7) (N := some 64) HT_ ?_; refine pn_ (i := 8) (N := some 65) HT_ ?_; refine pn_ (i := 9) (N := some 66) HT_ ?_; refine pn_ (i := 10) (N := some 67) HT_ ?_; refine pn_ (i := 11) (N := some 68) HT_ ?_; refine pn_ (i := 12) (N := some 69) HT_ ?_; refine pu_ (i := 13) (N := some 70) HT_ ?_
       refine done_ (done_of HT_.out (by kernel_rfl)) ?_
       have hnb76 := NB176_166.out; have hnc76 := NB166_176.out; have hnb77 := NB176_167.out; have hnc77 := NB167_176.out; have Z78 := zz4 BK176
       obtain ⟨Ao79, co79, eo79⟩ := Kd.R_slice HO_177002.out
       subst eo79
       try go_wp2_with (first | ((with_reducible refine gate_callee (f := 24) rfl ?_); refine goesL_ (some 90) rfl rfl Try.func24 (by kernel_rfl) rfl #[.agg #[.int .i64 x177000_2, .int .i64 t169, .slice Ao79 x177002_2.length co79, .slice Ao75 x177003_2.length co75]] rfl ar_ ?_; (with_reducible refine (impl_Ear_copy.calls x177000_2 t169 _ _ x177002_2 _ _ x177003_2 t200 t201 t202 t205 _ ?side1 ?side2 ?side3 ?side4 A73.out).mono ?_); (case side1 => exact kC_ (Kd.R_reads' HO_177002.out).2.2); (case side2 => exact (Kd.R_reads' HO_177002.out).2.1); (case side3 => exact kC_ (Kd.Q_reads' HO_177003.out).2.2); (case side4 => exact (Kd.Q_reads' HO_177003.out).2.1); rintro e w80 ⟨v203, v206, rfl, ho0, ho1, hb⟩; refine ⟨_, rfl, ?_⟩; have HO204 := Aside0.mk (Kd.R_lower (Kd.R_new' ho0 (Kd.R_lt (kR_ HO_177002.out))) (below_size (hbA_ HB.out))); replace HO_177002 := Aside0.mk (Kd.R_elder' (kR_ HO_177002.out) (Kd.R_base ho0) hb); have HO207 := Aside0.mk (Kd.R_lower (Kd.R_new' ho1 (Kd.Q_lt (by (with_reducible repeat (first | apply Kd.Q_alloc | apply Kd.Q_drewN | apply Kd.Q_drew)); exact HO_177003.out))) (below_size (hbA_ HB.out))); replace HO_177003 := Aside0.mk (Kd.Q_elder' (by (with_reducible repeat (first | apply Kd.Q_alloc | apply Kd.Q_drewN | apply Kd.Q_drew)); exact HO_177003.out) (Kd.R_base ho1) hb); replace BK166 := (bbA_ BK166 hb); replace BK167 := (bbA_ BK167 hb); replace BK176 := (bbA_ BK176 hb); replace HB := (bs_ HB hb); (try clear hb); (try clear hb2); (try clear hk); (try clear hi); (try clear ho0); (try clear ho1); have hnb81 := NB167_166.out; have hnc81 := NB166_167.out; have Z82 := zz4 BK167; obtain ⟨Ao83, co83, eo83⟩ := Kd.R_slice HO204.out; subst eo83; obtain ⟨Ao84, co84, eo84⟩ := Kd.R_slice HO207.out; subst eo84))
       refine bodyPost_ret (results_cell_row rfl _ _ gb167 29 #[.int .i64 t200, .int .i64 t201, .slice Ao83 t202.length co83, .slice Ao84 t205.length co84] (0, 0) _ rfl (by refine kb_ ?_; refine pz4 (cs := #[.int .i64 0, .int .i64 0, .slice none 0 0, .slice none 0 0]) ?_; refine kb_ ?_; exact BK167.out) Try.underlying29 rfl (by kernel_rfl)) rfl ?_
       exact ⟨_, _, by first | rfl | (simp [errW_none, errW_some] <;> rfl) | (simp [*, errW_none, errW_some] <;> rfl), by refine kR_ ?_; exact rfm_ ((Kd.R_types HO204.out BK167.out (by decide))) (fun _ hk => trivial), by refine kR_ ?_; exact rfm_ ((Kd.R_types HO207.out BK167.out (by decide))) (fun _ hk => trivial), hbA_ HB.out⟩
def impl_EarHear.j0 : Nat → Int → List Int → Bool → Int → Int → List Int → List (S50) → Option (Int × Int × List Int × (List (S50)))
 | 0, _, _, _, _, _, _, _ => none
 | k + 1, x1, x2, x15, x209000, x209001, x209002, x209003 => if x15 = true then (some (0, 0, ([] : List Int), ([] : List (S50)))) else ((impl_Ear_hear.f k x209000 x209001 x209002 x209003 x1 x2).bind fun bt212 => (if bt212.1 > 1000000 then (some (0, 0, ([] : List Int), ([] : List (S50)))) else (some (bt212.1, bt212.2.1, bt212.2.2.1, bt212.2.2.2))))
def impl_EarHear.f (k : Nat) (a0_0 : Int) (a0_1 : Int) (l0_2 : List Int) (l0_3 : List (S50)) (a1 : Int) (l2 : List Int) : Option (Int × Int × List Int × (List (S50))) := (impl_EarOk.f k a0_0 a0_1 l0_2 l0_3).bind fun t210 => (if t210 = true then ((impl_in.f a1 0 1000000).bind fun t211 => (impl_EarHear.j0 k a1 l2 (!t211) a0_0 a0_1 l0_2 l0_3)) else (impl_EarHear.j0 k a1 l2 true a0_0 a0_1 l0_2 l0_3))
theorem impl_EarHear.mono_l : ∀ k, (∀ y0 y1 y2 y3 y4 y5 y6, LeO (impl_EarHear.j0 k y0 y1 y2 y3 y4 y5 y6) (impl_EarHear.j0 (k + 1) y0 y1 y2 y3 y4 y5 y6))
 | 0 => fun _ _ _ _ _ _ _ r h => by simp [impl_EarHear.j0] at h
 | k + 1 => by
  have ih0 := impl_EarHear.mono_l k
  ·intro y0 y1 y2 y3 y4 y5 y6
   unfold impl_EarHear.j0
   repeat' first | (with_reducible first | apply ih0 | apply impl_EarOk.mono | apply impl_Ear_hear.mono | exact LeO.refl _ | exact LeO.none _ | refine LeO.ite ?_ ?_ | refine LeO.bind ?_ fun _ => ?_) | apply ih0 | apply impl_EarOk.mono | apply impl_Ear_hear.mono | exact LeO.none _ | refine LeO.ite ?_ ?_ | refine LeO.bind ?_ fun _ => ?_
theorem impl_EarHear.mono : ∀ a0 a1 a2 a3 a4 a5 k, LeO (impl_EarHear.f k a0 a1 a2 a3 a4 a5) (impl_EarHear.f (k + 1) a0 a1 a2 a3 a4 a5) := by
 intro a0 a1 a2 a3 a4 a5 k
 have ih0 := impl_EarHear.mono_l k
 unfold impl_EarHear.f
 repeat' first | (with_reducible first | apply ih0 | apply impl_EarOk.mono | apply impl_Ear_hear.mono | exact LeO.refl _ | exact LeO.none _ | refine LeO.ite ?_ ?_ | refine LeO.bind ?_ fun _ => ?_) | apply ih0 | apply impl_EarOk.mono | apply impl_Ear_hear.mono | exact LeO.none _ | refine LeO.ite ?_ ?_ | refine LeO.bind ?_ fun _ => ?_
set_option maxHeartbeats 8000000 in
set_option maxRecDepth 100000 in
theorem impl_EarHear.calls (k : Nat) (a0_0 : Int) (a0_1 : Int) (A0_2 : Option Addr) (c0_2 : Nat) (l0_2 : List Int) (A0_3 : Option Addr) (c0_3 : Nat) (l0_3 : List (S50)) (a1 : Int) (A2 : Option Addr) (c2 : Nat) (l2 : List Int) (r1 : Int) (r2 : Int) (r3 : List Int) (r4 : List (S50)) (w : World) (hr0_2 : Kd.C (Kd.int .u8) w A0_2 l0_2.length l0_2) (hc0_2 : l0_2.length ≤ c0_2) (hr0_3 : Kd.C k50 w A0_3 l0_3.length l0_3) (hc0_3 : l0_3.length ≤ c0_3) (hr2 : Kd.C (Kd.int .u8) w A2 l2.length l2) (hc2 : l2.length ≤ c2) (h : impl_EarHear.f k a0_0 a0_1 l0_2 l0_3 a1 l2 = some (r1, r2, r3, r4)) :
  Calls Try.prog 7 #[.agg #[.int .i64 a0_0, .int .i64 a0_1, .slice A0_2 l0_2.length c0_2, .slice A0_3 l0_3.length c0_3], .int .i64 a1, .slice A2 l2.length c2] w fun e w' => ∃ v2_ v3_ : Value, e = .returned (.agg #[.int .i64 r1, .int .i64 r2, v2_, v3_]) ∧ Kd.R (Kd.int .u8) 5 w' w.heap.size (fun _ => True) v2_ r3 ∧ Kd.R k50 50 w' w.heap.size (fun _ => True) v3_ r4 ∧ Below w.heap.size w w' := by
 have hu29 := Try.underlying29; have HR0_2 := Aside0.mk hr0_2; have HC0_2 := Aside0.mk hc0_2; clear hr0_2 hc0_2; have HR0_3 := Aside0.mk hr0_3; have HC0_3 := Aside0.mk hc0_3; clear hr0_3 hc0_3; have HR2 := Aside0.mk hr2; have HC2 := Aside0.mk hc2; clear hr2 hc2
 have HB := Aside0.mk (Below.refl w.heap.size w)
 have H : ((impl_EarOk.f k a0_0 a0_1 l0_2 l0_3).bind fun t210 => (if t210 = true then ((impl_in.f a1 0 1000000).bind fun t211 => (impl_EarHear.j0 k a1 l2 (!t211) a0_0 a0_1 l0_2 l0_3)) else (impl_EarHear.j0 k a1 l2 true a0_0 a0_1 l0_2 l0_3))) = some (r1, r2, r3, r4) := h
 clear h; have HC4 := Aside0.mk H; clear H
 go_enter Try.func7, Try.ntmps7
 go_upto_region 1 with (first | ((with_reducible refine gate_dst (N := 3) rfl ?_); refine box_ (N := 3) (cs := #[.int .i64 a0_0, .int .i64 a0_1, .slice A0_2 l0_2.length c0_2, .slice A0_3 l0_3.length c0_3]) (t := 29) (fun gb208 hg w5 hbox hb => ?_); have BK208 := Aside0.mk (hbox); have GW208 := ge_ hg HB; have GE208 := ge_ hg HB; replace HB := (bs_ HB hb); clear hb hbox hg) | ((with_reducible refine gate_dst (N := 6) rfl ?_); refine box_ (N := 6) (cs := #[.int .i64 0, .int .i64 0, .slice none 0 0, .slice none 0 0]) (t := 29) (fun gb209 hg w6 hbox hb => ?_); have BK209 := Aside0.mk (hbox); have GW209 := ge_ hg HB; have GE209 := ge_ hg HB; replace HB := (bs_ HB hb); have NB208_209 := nl_ hg BK208; have NB209_208 := ng_ hg BK208; replace BK208 := (bbA_ BK208 hb); clear hb hbox hg))
 (try simp only [Act.put, List.setIfInBounds_toArray, List.set_cons_zero, List.set_cons_succ])
 go_cut [15] (fun v15 wc => ∃ (kq : Nat) (x15_3 : Bool), v15 = .bool x15_3 ∧ Aside0 (impl_EarHear.j0 kq a1 l2 x15_3 a0_0 a0_1 l0_2 l0_3 = some (r1, r2, r3, r4)) ∧ Aside0 (kq ≤ k) ∧ Aside0 (wc.heap[gb208]? = some (.cells #[.int .i64 a0_0, .int .i64 a0_1, (.slice A0_2 l0_2.length c0_2), (.slice A0_3 l0_3.length c0_3)] 29 (0, 0))) ∧ Aside0 (wc.heap[gb209]? = some (.cells #[.int .i64 0, .int .i64 0, (.slice none 0 0), (.slice none 0 0)] 29 (0, 0))) ∧ Aside0 (Below w.heap.size w wc))
 case first =>
  have H := HC4.out; clear HC4
  replace H := Option.bind_eq_some_iff.mp H
  obtain ⟨t210, A70, H⟩ := H
  (try dsimp only at H)
  have A7 := Aside0.mk A70; clear A70
  by_cases c8 : t210 = true
  ·subst c8
   rw [if_pos rfl] at H
   replace H := Option.bind_eq_some_iff.mp H
   obtain ⟨t211, A90, H⟩ := H
   (try dsimp only at H)
   have A9 := Aside0.mk A90; clear A90
   have H' := Aside0.mk H
   clear H; have hnb10 := NB208_209.out; have hnc10 := NB209_208.out; have Z11 := zz4 BK208
   go_wp2_with (first | ((with_reducible refine gate_callee (f := 11) rfl ?_); refine goesL_ (some 9) rfl rfl Try.func11 (by kernel_rfl) rfl #[.agg #[.int .i64 a0_0, .int .i64 a0_1, .slice A0_2 l0_2.length c0_2, .slice A0_3 l0_3.length c0_3]] rfl ar_ ?_; (with_reducible refine (impl_EarOk.calls k a0_0 a0_1 _ _ l0_2 _ _ l0_3 true _ ?side1 ?side2 ?side3 ?side4 A7.out).mono ?_); (case side1 => exact kC_ (Kd.C_below HR0_2.out HB.out)); (case side2 => exact HC0_2.out); (case side3 => exact kC_ (Kd.C_below HR0_3.out HB.out)); (case side4 => exact HC0_3.out); rintro e w12 ⟨rfl, hb⟩; refine ⟨_, rfl, ?_⟩; replace BK208 := (bbA_ BK208 hb); replace BK209 := (bbA_ BK209 hb); replace HB := (bs_ HB hb); (try clear hb); (try clear hb2); (try clear hk); (try clear hi)) | (go_at_call 18; (with_reducible refine (impl_in.calls a1 0 1000000 t211 _ A9.out).mono ?_); rintro e w' ⟨rfl, ⟨nd, rfl⟩⟩))
   go_meet
   case rel => exact ⟨_, (!t211), (by first | rfl | (simp; done) | (simp [*]; done)), H', ⟨by first | omega | exact Nat.le_refl _⟩, ⟨by refine kb_ ?_; exact BK208.out⟩, ⟨by refine kb_ ?_; exact BK209.out⟩, ⟨hbA_ HB.out⟩⟩
  ·replace c8 := Bool.eq_false_iff.mpr c8
   subst c8
   rw [if_neg (show ¬ (false = true) by decide)] at H
   have H' := Aside0.mk H
   clear H; have hnb13 := NB208_209.out; have hnc13 := NB209_208.out; have Z14 := zz4 BK208
   go_wp2_with (first | ((with_reducible refine gate_callee (f := 11) rfl ?_); refine goesL_ (some 9) rfl rfl Try.func11 (by kernel_rfl) rfl #[.agg #[.int .i64 a0_0, .int .i64 a0_1, .slice A0_2 l0_2.length c0_2, .slice A0_3 l0_3.length c0_3]] rfl ar_ ?_; (with_reducible refine (impl_EarOk.calls k a0_0 a0_1 _ _ l0_2 _ _ l0_3 false _ ?side1 ?side2 ?side3 ?side4 A7.out).mono ?_); (case side1 => exact kC_ (Kd.C_below HR0_2.out HB.out)); (case side2 => exact HC0_2.out); (case side3 => exact kC_ (Kd.C_below HR0_3.out HB.out)); (case side4 => exact HC0_3.out); rintro e w15 ⟨rfl, hb⟩; refine ⟨_, rfl, ?_⟩; replace BK208 := (bbA_ BK208 hb); replace BK209 := (bbA_ BK209 hb); replace HB := (bs_ HB hb); (try clear hb); (try clear hb2); (try clear hk); (try clear hi)))
   go_meet
   case rel => exact ⟨_, (true), (by first | rfl | (simp; done) | (simp [*]; done)), H', ⟨by first | omega | exact Nat.le_refl _⟩, ⟨by refine kb_ ?_; exact BK208.out⟩, ⟨by refine kb_ ?_; exact BK209.out⟩, ⟨hbA_ HB.out⟩⟩
 case rest =>
  clear HC4; (try clear c1); (try clear c2); (try clear p2); (try clear c7); (try clear c8); (try clear c10); (try clear c11); (try clear c13); (try clear Z11); (try clear Z14)
  obtain ⟨kq, x15_3, rfl, HA, HJ3, BK208, BK209, HB⟩ := hcut
  cases kq with
  | zero => exact absurd HA.out (by simp [impl_EarHear.j0])
  | succ kj3 =>
   have H := HA.out; clear HA
   simp only [impl_EarHear.j0] at H
   by_cases c16 : x15_3 = true
   ·subst c16
    rw [if_pos rfl] at H
    simp only [Option.some.injEq, Prod.mk.injEq] at H
    obtain ⟨rfl, rfl, rfl, rfl⟩ := H
    have hnb17 := NB209_208.out; have hnc17 := NB208_209.out; have Z18 := zz4 BK209
    go_wp2
    refine bodyPost_ret (results_cell_row rfl _ _ gb209 29 #[.int .i64 0, .int .i64 0, .slice none 0 0, .slice none 0 0] (0, 0) _ rfl (by refine kb_ ?_; refine pz4 (cs := #[.int .i64 0, .int .i64 0, .slice none 0 0, .slice none 0 0]) ?_; refine kb_ ?_; exact BK209.out) Try.underlying29 rfl (by kernel_rfl)) rfl ?_
    exact ⟨_, _, by first | rfl | (simp [errW_none, errW_some] <;> rfl) | (simp [*, errW_none, errW_some] <;> rfl), by first | exact Kd.R_nil _ _ _ _ _ | exact Kd.N_nil _ _ _ _ _ | exact Kd.V_nil _ _ _ _ _ | exact Kd.Q_nil _ _ _ _ _ | exact Kd.S_nil _ _ _ _ _, by first | exact Kd.R_nil _ _ _ _ _ | exact Kd.N_nil _ _ _ _ _ | exact Kd.V_nil _ _ _ _ _ | exact Kd.Q_nil _ _ _ _ _ | exact Kd.S_nil _ _ _ _ _, hbA_ HB.out⟩
   ·replace c16 := Bool.eq_false_iff.mpr c16
    subst c16
    rw [if_neg (show ¬ (false = true) by decide)] at H
    replace H := Option.bind_eq_some_iff.mp H
    obtain ⟨⟨t212, t213, t214, t217⟩, A190, H⟩ := H
    (try dsimp only at H)
    have A19 := Aside0.mk A190; clear A190
    by_cases c20 : t212 > 1000000
    ·rw [if_pos c20] at H
     have c20b0 : decide (1000000 < t212) = true := decide_eq_true c20
     clear c20
     simp only [Option.some.injEq, Prod.mk.injEq] at H
     obtain ⟨rfl, rfl, rfl, rfl⟩ := H
     have hnb21 := NB208_209.out; have hnc21 := NB209_208.out; have Z22 := zz4 BK208
     go_wp2_with (first | ((with_reducible refine gate_callee (f := 19) rfl ?_); refine goesL_ (some 20) rfl rfl Try.func19 (by kernel_rfl) rfl #[.agg #[.int .i64 a0_0, .int .i64 a0_1, .slice A0_2 l0_2.length c0_2, .slice A0_3 l0_3.length c0_3], .int .i64 a1, .slice A2 l2.length c2] rfl ar_ ?_; (with_reducible refine (impl_Ear_hear.calls kj3 a0_0 a0_1 _ _ l0_2 _ _ l0_3 a1 _ _ l2 t212 t213 t214 t217 _ ?side1 ?side2 ?side3 ?side4 ?side5 ?side6 A19.out).mono ?_); (case side1 => exact kC_ (Kd.C_below HR0_2.out HB.out)); (case side2 => exact HC0_2.out); (case side3 => exact kC_ (Kd.C_below HR0_3.out HB.out)); (case side4 => exact HC0_3.out); (case side5 => exact kC_ (Kd.C_below HR2.out HB.out)); (case side6 => exact HC2.out); rintro e w23 ⟨v215, v218, rfl, ho0, ho1, hb⟩; refine ⟨_, rfl, ?_⟩; have HO216 := Aside0.mk (Kd.R_lower ho0 (below_size (hbA_ HB.out))); have HO219 := Aside0.mk (Kd.R_lower ho1 (below_size (hbA_ HB.out))); replace BK208 := (bbA_ BK208 hb); replace BK209 := (bbA_ BK209 hb); replace HB := (bs_ HB hb); (try clear hb); (try clear hb2); (try clear hk); (try clear hi); (try clear ho0); (try clear ho1)) | ((with_reducible refine gate_dst (N := 7) rfl ?_); refine box_ (N := 7) (cs := #[.int .i64 0, .int .i64 0, .slice none 0 0, .slice none 0 0]) (t := 29) (fun gb220 hg w24 hbox hb => ?_); replace HO216 := Aside0.mk (Kd.R_below (kR_ HO216.out) hb); replace HO219 := Aside0.mk (Kd.R_below (kR_ HO219.out) hb); have BK220 := Aside0.mk (hbox); have GW220 := ge_ hg HB; have GE220 := ge_ hg HB; replace HB := (bs_ HB hb); have NB208_220 := nl_ hg BK208; have NB220_208 := ng_ hg BK208; replace BK208 := (bbA_ BK208 hb); have NB209_220 := nl_ hg BK209; have NB220_209 := ng_ hg BK209; replace BK209 := (bbA_ BK209 hb); clear hb hbox hg; have hnb25 := NB220_208.out; have hnc25 := NB208_220.out; have hnb26 := NB220_209.out; have hnc26 := NB209_220.out; have Z27 := zz4 BK220; obtain ⟨Ao28, co28, eo28⟩ := Kd.R_slice HO216.out; subst eo28; obtain ⟨Ao29, co29, eo29⟩ := Kd.R_slice HO219.out; subst eo29; have Z30 := zz4 BK209))
     refine bodyPost_ret (results_cell_row rfl _ _ gb209 29 #[.int .i64 0, .int .i64 0, .slice none 0 0, .slice none 0 0] (0, 0) _ rfl (by refine kb_ ?_; refine pz4 (cs := #[.int .i64 0, .int .i64 0, .slice none 0 0, .slice none 0 0]) ?_; exact kf_ BK209.out) Try.underlying29 rfl (by kernel_rfl)) rfl ?_
     exact ⟨_, _, by first | rfl | (simp [errW_none, errW_some] <;> rfl) | (simp [*, errW_none, errW_some] <;> rfl), by first | exact Kd.R_nil _ _ _ _ _ | exact Kd.N_nil _ _ _ _ _ | exact Kd.V_nil _ _ _ _ _ | exact Kd.Q_nil _ _ _ _ _ | exact Kd.S_nil _ _ _ _ _, by first | exact Kd.R_nil _ _ _ _ _ | exact Kd.N_nil _ _ _ _ _ | exact Kd.V_nil _ _ _ _ _ | exact Kd.Q_nil _ _ _ _ _ | exact Kd.S_nil _ _ _ _ _, hbA_ HB.out⟩
    ·rw [if_neg c20] at H
     have c20b0 : decide (1000000 < t212) = false := decide_eq_false c20
     clear c20
     simp only [Option.some.injEq, Prod.mk.injEq] at H
     obtain ⟨rfl, rfl, rfl, rfl⟩ := H
     have hnb31 := NB208_209.out; have hnc31 := NB209_208.out; have Z32 := zz4 BK208
     go_wp2_with (first | ((with_reducible refine gate_callee (f := 19) rfl ?_); refine goesL_ (some 20) rfl rfl Try.func19 (by kernel_rfl) rfl #[.agg #[.int .i64 a0_0, .int .i64 a0_1, .slice A0_2 l0_2.length c0_2, .slice A0_3 l0_3.length c0_3], .int .i64 a1, .slice A2 l2.length c2] rfl ar_ ?_; (with_reducible refine (impl_Ear_hear.calls kj3 a0_0 a0_1 _ _ l0_2 _ _ l0_3 a1 _ _ l2 t212 t213 t214 t217 _ ?side1 ?side2 ?side3 ?side4 ?side5 ?side6 A19.out).mono ?_); (case side1 => exact kC_ (Kd.C_below HR0_2.out HB.out)); (case side2 => exact HC0_2.out); (case side3 => exact kC_ (Kd.C_below HR0_3.out HB.out)); (case side4 => exact HC0_3.out); (case side5 => exact kC_ (Kd.C_below HR2.out HB.out)); (case side6 => exact HC2.out); rintro e w33 ⟨v215, v218, rfl, ho0, ho1, hb⟩; refine ⟨_, rfl, ?_⟩; have HO216 := Aside0.mk (Kd.R_lower ho0 (below_size (hbA_ HB.out))); have HO219 := Aside0.mk (Kd.R_lower ho1 (below_size (hbA_ HB.out))); replace BK208 := (bbA_ BK208 hb); replace BK209 := (bbA_ BK209 hb); replace HB := (bs_ HB hb); (try clear hb); (try clear hb2); (try clear hk); (try clear hi); (try clear ho0); (try clear ho1)) | ((with_reducible refine gate_dst (N := 7) rfl ?_); refine box_ (N := 7) (cs := #[.int .i64 0, .int .i64 0, .slice none 0 0, .slice none 0 0]) (t := 29) (fun gb220 hg w34 hbox hb => ?_); replace HO216 := Aside0.mk (Kd.R_below (kR_ HO216.out) hb); replace HO219 := Aside0.mk (Kd.R_below (kR_ HO219.out) hb); have BK220 := Aside0.mk (hbox); have GW220 := ge_ hg HB; have GE220 := ge_ hg HB; replace HB := (bs_ HB hb); have NB208_220 := nl_ hg BK208; have NB220_208 := ng_ hg BK208; replace BK208 := (bbA_ BK208 hb); have NB209_220 := nl_ hg BK209; have NB220_209 := ng_ hg BK209; replace BK209 := (bbA_ BK209 hb); clear hb hbox hg; have hnb35 := NB220_208.out; have hnc35 := NB208_220.out; have hnb36 := NB220_209.out; have hnc36 := NB209_220.out; have Z37 := zz4 BK220; obtain ⟨Ao38, co38, eo38⟩ := Kd.R_slice HO216.out; subst eo38; obtain ⟨Ao39, co39, eo39⟩ := Kd.R_slice HO219.out; subst eo39; have Z40 := zz4 BK209))
     refine bodyPost_ret (results_cell_row rfl _ _ gb209 29 #[.int .i64 t212, .int .i64 t213, .slice Ao38 t214.length co38, .slice Ao39 t217.length co39] (0, 0) _ rfl (by refine kb_ ?_; refine pz4 (cs := #[.int .i64 0, .int .i64 0, .slice none 0 0, .slice none 0 0]) ?_; exact kf_ BK209.out) Try.underlying29 rfl (by kernel_rfl)) rfl ?_
     exact ⟨_, _, by first | rfl | (simp [errW_none, errW_some] <;> rfl) | (simp [*, errW_none, errW_some] <;> rfl), by refine kR_ ?_; exact rfm_ ((Kd.R_far (p := ⟨gb220, 3, none⟩) (Kd.R_far (p := ⟨gb220, 2, none⟩) (Kd.R_far (p := ⟨gb220, 1, none⟩) (Kd.R_far (p := ⟨gb220, 0, none⟩) (Kd.R_types (Kd.R_types HO216.out BK220.out (by decide)) BK209.out (by decide)) (fun _ hk => hk.1.2) (.int .i64 t212)) (fun _ hk => hk.1.2) (.int .i64 t213)) (fun _ hk => hk.1.2) (.slice Ao38 t214.length co38)) (fun _ hk => hk.1.2) (.slice Ao39 t217.length co39))) (fun _ hk => trivial), by refine kR_ ?_; exact rfm_ ((Kd.R_far (p := ⟨gb220, 3, none⟩) (Kd.R_far (p := ⟨gb220, 2, none⟩) (Kd.R_far (p := ⟨gb220, 1, none⟩) (Kd.R_far (p := ⟨gb220, 0, none⟩) (Kd.R_types (Kd.R_types HO219.out BK220.out (by decide)) BK209.out (by decide)) (fun _ hk => hk.1.2) (.int .i64 t212)) (fun _ hk => hk.1.2) (.int .i64 t213)) (fun _ hk => hk.1.2) (.slice Ao38 t214.length co38)) (fun _ hk => hk.1.2) (.slice Ao39 t217.length co39))) (fun _ hk => trivial), hbA_ HB.out⟩
def spec_l1In.f (a0 : Int) (a1 : Int) (a2 : Int) : Option (Bool) := if a0 ≥ a1 then (some (decide (a0 ≤ a2))) else (some false)
set_option maxHeartbeats 8000000 in
set_option maxRecDepth 100000 in
theorem spec_l1In.calls (a0 : Int) (a1 : Int) (a2 : Int) (r : Bool) (w : World) (h : spec_l1In.f a0 a1 a2 = some r) :
  Calls Try.prog 21 #[.int .i64 a0, .int .i64 a1, .int .i64 a2] w fun e w' => e = .returned (.bool r) ∧ Drawn0 w w' := by
 have H : (if a0 ≥ a1 then (some (decide (a0 ≤ a2))) else (some false)) = some r := h
 clear h
 by_cases c4 : a0 ≥ a1
 ·rw [if_pos c4] at H
  have c4b0 : decide (a1 ≤ a0) = true := decide_eq_true c4
  clear c4
  obtain rfl := Option.some.inj H
  go_enter Try.func21, Try.ntmps21
  go_wp2
  go_ret
  exact ⟨by first | rfl | (simp; done) | (simp [*]; done), by repeat (first | exact Drawn0.refl _ | apply Drawn0.step)⟩
 ·rw [if_neg c4] at H
  have c4b0 : decide (a1 ≤ a0) = false := decide_eq_false c4
  clear c4
  obtain rfl := Option.some.inj H
  go_enter Try.func21, Try.ntmps21
  go_wp2
  go_ret
  exact ⟨by first | rfl | (simp; done) | (simp [*]; done), by repeat (first | exact Drawn0.refl _ | apply Drawn0.step)⟩
mutual
def spec_EarOk.j0 : Nat → Bool → Int → Int → List Int → List (S50) → Option (Bool)
 | 0, _, _, _, _, _ => none
 | k + 1, x21, x222000, x222001, x222002, x222003 => if x21 = true then (some false) else (spec_EarOk.l0 k 0 x222000 x222001 x222002 x222003)
def spec_EarOk.l0 : Nat → Int → Int → Int → List Int → List (S50) → Option (Bool)
 | 0, _, _, _, _, _ => none
 | k + 1, x3, x222000, x222001, x222002, x222003 => if x3 < (x222003.length : Int) then (if 0 ≤ x3 then (if ((rd_T50 x222003 x3).f0) ≤ x222000 then (spec_EarOk.j2 k x3 true x222000 x222001 x222002 x222003) else (if ((rd_T50 x222003 x3).f0) ≥ (wrap64 ((wrap64 (x222000 + x222001)) - (x222002.length : Int))) then (spec_EarOk.j2 k x3 true x222000 x222001 x222002 x222003) else (if x3 > 0 then (if 0 ≤ (wrap64 (x3 - 1)) then (if (wrap64 (x3 - 1)) < (x222003.length : Int) then (spec_EarOk.j2 k x3 (decide (((rd_T50 x222003 (wrap64 (x3 - 1))).f0) ≥ ((rd_T50 x222003 x3).f0))) x222000 x222001 x222002 x222003) else (none)) else (none)) else (spec_EarOk.j2 k x3 false x222000 x222001 x222002 x222003)))) else (none)) else (some true)
def spec_EarOk.j2 : Nat → Int → Bool → Int → Int → List Int → List (S50) → Option (Bool)
 | 0, _, _, _, _, _, _ => none
 | k + 1, x3, x75, x222000, x222001, x222002, x222003 => if x75 = true then (some false) else (spec_EarOk.l0 k (wrap64 (x3 + 1)) x222000 x222001 x222002 x222003)
end
def spec_EarOk.f (k : Nat) (a0_0 : Int) (a0_1 : Int) (l0_2 : List Int) (l0_3 : List (S50)) : Option (Bool) := (spec_l1In.f a0_0 0 1000000).bind fun t222 => (if t222 = true then ((spec_l1In.f a0_1 1 32).bind fun t223 => (if t223 = true then (spec_EarOk.j0 k (decide ((l0_2.length : Int) > a0_1)) a0_0 a0_1 l0_2 l0_3) else (spec_EarOk.j0 k true a0_0 a0_1 l0_2 l0_3))) else (spec_EarOk.j0 k true a0_0 a0_1 l0_2 l0_3))
theorem spec_EarOk.mono_l : ∀ k, (∀ y0 y1 y2 y3 y4, LeO (spec_EarOk.j0 k y0 y1 y2 y3 y4) (spec_EarOk.j0 (k + 1) y0 y1 y2 y3 y4)) ∧ (∀ y0 y1 y2 y3 y4, LeO (spec_EarOk.l0 k y0 y1 y2 y3 y4) (spec_EarOk.l0 (k + 1) y0 y1 y2 y3 y4)) ∧ (∀ y0 y1 y2 y3 y4 y5, LeO (spec_EarOk.j2 k y0 y1 y2 y3 y4 y5) (spec_EarOk.j2 (k + 1) y0 y1 y2 y3 y4 y5))
 | 0 => ⟨fun _ _ _ _ _ r h => by simp [spec_EarOk.j0] at h, fun _ _ _ _ _ r h => by simp [spec_EarOk.l0] at h, fun _ _ _ _ _ _ r h => by simp [spec_EarOk.j2] at h⟩
 | k + 1 => by
  obtain ⟨ih0, ih1, ih2⟩ := spec_EarOk.mono_l k
  refine ⟨?_, ?_, ?_⟩
  ·intro y0 y1 y2 y3 y4
   unfold spec_EarOk.j0
   repeat' first | (with_reducible first | apply ih0 | apply ih1 | apply ih2 | exact LeO.refl _ | exact LeO.none _ | refine LeO.ite ?_ ?_ | refine LeO.bind ?_ fun _ => ?_) | apply ih0 | apply ih1 | apply ih2 | exact LeO.none _ | refine LeO.ite ?_ ?_ | refine LeO.bind ?_ fun _ => ?_
  ·intro y0 y1 y2 y3 y4
   unfold spec_EarOk.l0
   repeat' first | (with_reducible first | apply ih0 | apply ih1 | apply ih2 | exact LeO.refl _ | exact LeO.none _ | refine LeO.ite ?_ ?_ | refine LeO.bind ?_ fun _ => ?_) | apply ih0 | apply ih1 | apply ih2 | exact LeO.none _ | refine LeO.ite ?_ ?_ | refine LeO.bind ?_ fun _ => ?_
  ·intro y0 y1 y2 y3 y4 y5
   unfold spec_EarOk.j2
   repeat' first | (with_reducible first | apply ih0 | apply ih1 | apply ih2 | exact LeO.refl _ | exact LeO.none _ | refine LeO.ite ?_ ?_ | refine LeO.bind ?_ fun _ => ?_) | apply ih0 | apply ih1 | apply ih2 | exact LeO.none _ | refine LeO.ite ?_ ?_ | refine LeO.bind ?_ fun _ => ?_
theorem spec_EarOk.mono : ∀ a0 a1 a2 a3 k, LeO (spec_EarOk.f k a0 a1 a2 a3) (spec_EarOk.f (k + 1) a0 a1 a2 a3) := by
 intro a0 a1 a2 a3 k
 obtain ⟨ih0, ih1, ih2⟩ := spec_EarOk.mono_l k
 unfold spec_EarOk.f
 repeat' first | (with_reducible first | apply ih0 | apply ih1 | apply ih2 | exact LeO.refl _ | exact LeO.none _ | refine LeO.ite ?_ ?_ | refine LeO.bind ?_ fun _ => ?_) | apply ih0 | apply ih1 | apply ih2 | exact LeO.none _ | refine LeO.ite ?_ ?_ | refine LeO.bind ?_ fun _ => ?_
set_option maxHeartbeats 8000000 in
set_option maxRecDepth 100000 in
theorem spec_EarOk.calls (k : Nat) (a0_0 : Int) (a0_1 : Int) (A0_2 : Option Addr) (c0_2 : Nat) (l0_2 : List Int) (A0_3 : Option Addr) (c0_3 : Nat) (l0_3 : List (S50)) (r : Bool) (w : World) (hr0_2 : Kd.C (Kd.int .u8) w A0_2 l0_2.length l0_2) (hc0_2 : l0_2.length ≤ c0_2) (hr0_3 : Kd.C k50 w A0_3 l0_3.length l0_3) (hc0_3 : l0_3.length ≤ c0_3) (h : spec_EarOk.f k a0_0 a0_1 l0_2 l0_3 = some r) :
  Calls Try.prog 20 #[.agg #[.int .i64 a0_0, .int .i64 a0_1, .slice A0_2 l0_2.length c0_2, .slice A0_3 l0_3.length c0_3]] w fun e w' => e = .returned (.bool r) ∧ Below w.heap.size w w' := by
 have hu29 := Try.underlying29; have HR0_2 := Aside0.mk hr0_2; have HC0_2 := Aside0.mk hc0_2; clear hr0_2 hc0_2; have HR0_3 := Aside0.mk hr0_3; have HC0_3 := Aside0.mk hc0_3; clear hr0_3 hc0_3
 have HB := Aside0.mk (Below.refl w.heap.size w)
 have H : ((spec_l1In.f a0_0 0 1000000).bind fun t222 => (if t222 = true then ((spec_l1In.f a0_1 1 32).bind fun t223 => (if t223 = true then (spec_EarOk.j0 k (decide ((l0_2.length : Int) > a0_1)) a0_0 a0_1 l0_2 l0_3) else (spec_EarOk.j0 k true a0_0 a0_1 l0_2 l0_3))) else (spec_EarOk.j0 k true a0_0 a0_1 l0_2 l0_3))) = some r := h
 clear h; have HC2 := Aside0.mk H; clear H
 go_enter Try.func20, Try.ntmps20
 go_upto_region 1 with (first | ((with_reducible refine gate_dst (N := 1) rfl ?_); (try (refine gate_guard (by rfl) ?_; dsimp only)); refine box_ (N := 1) (cs := #[.int .i64 a0_0, .int .i64 a0_1, .slice A0_2 l0_2.length c0_2, .slice A0_3 l0_3.length c0_3]) (t := 29) (fun gb221 hg w3 hbox hb => ?_); have BK221 := Aside0.mk (hbox); have GW221 := ge_ hg HB; have GE221 := ge_ hg HB; replace HB := (bs_ HB hb); clear hb hbox hg))
 repeat (go_quiet (first | ((with_reducible refine gate_dst (N := 1) rfl ?_); (try (refine gate_guard (by rfl) ?_; dsimp only)); refine box_ (N := 1) (cs := #[.int .i64 a0_0, .int .i64 a0_1, .slice A0_2 l0_2.length c0_2, .slice A0_3 l0_3.length c0_3]) (t := 29) (fun gb221 hg w3 hbox hb => ?_); have BK221 := Aside0.mk (hbox); have GW221 := ge_ hg HB; have GE221 := ge_ hg HB; replace HB := (bs_ HB hb); clear hb hbox hg)); go_upto_region 1 with (first | ((with_reducible refine gate_dst (N := 1) rfl ?_); (try (refine gate_guard (by rfl) ?_; dsimp only)); refine box_ (N := 1) (cs := #[.int .i64 a0_0, .int .i64 a0_1, .slice A0_2 l0_2.length c0_2, .slice A0_3 l0_3.length c0_3]) (t := 29) (fun gb221 hg w3 hbox hb => ?_); have BK221 := Aside0.mk (hbox); have GW221 := ge_ hg HB; have GE221 := ge_ hg HB; replace HB := (bs_ HB hb); clear hb hbox hg)))
 (try simp only [Act.put, List.setIfInBounds_toArray, List.set_cons_zero, List.set_cons_succ])
 go_cut [21] (fun v21 wc => ∃ (kq : Nat) (x21_1 : Bool), v21 = .bool x21_1 ∧ Aside0 (spec_EarOk.j0 kq x21_1 a0_0 a0_1 l0_2 l0_3 = some r) ∧ Aside0 (kq ≤ k) ∧ Aside0 (wc.heap[gb221]? = some (.cells #[.int .i64 a0_0, .int .i64 a0_1, (.slice A0_2 l0_2.length c0_2), (.slice A0_3 l0_3.length c0_3)] 29 (0, 0))) ∧ Aside0 (Below w.heap.size w wc))
 case first =>
  have H := HC2.out; clear HC2
  replace H := Option.bind_eq_some_iff.mp H
  obtain ⟨t222, A40, H⟩ := H
  (try dsimp only at H)
  have A4 := Aside0.mk A40; clear A40
  by_cases c5 : t222 = true
  ·subst c5
   rw [if_pos rfl] at H
   replace H := Option.bind_eq_some_iff.mp H
   obtain ⟨t223, A60, H⟩ := H
   (try dsimp only at H)
   have A6 := Aside0.mk A60; clear A60
   by_cases c7 : t223 = true
   ·subst c7
    rw [if_pos rfl] at H
    have H' := Aside0.mk H
    clear H; have Z8 := zz4 BK221
    go_wp2_with (first | (go_at_call 21; (with_reducible refine (spec_l1In.calls a0_0 0 1000000 true _ A4.out).mono ?_); rintro e w' ⟨rfl, ⟨nd, rfl⟩⟩; (try first | exact ⟨rfl, _, World.drewN_drewN _ _ _⟩ | exact ⟨rfl, _, Eq.trans (World.drewN_drewN _ _ _) (congrArg (World.drewN _) (Nat.add_assoc _ _ _))⟩)) | (go_at_call 21; (with_reducible refine (spec_l1In.calls a0_1 1 32 true _ A6.out).mono ?_); rintro e w' ⟨rfl, ⟨nd, rfl⟩⟩; (try first | exact ⟨rfl, _, World.drewN_drewN _ _ _⟩ | exact ⟨rfl, _, Eq.trans (World.drewN_drewN _ _ _) (congrArg (World.drewN _) (Nat.add_assoc _ _ _))⟩)))
    repeat (go_quiet (first | (go_at_call 21; (with_reducible refine (spec_l1In.calls a0_0 0 1000000 true _ A4.out).mono ?_); rintro e w' ⟨rfl, ⟨nd, rfl⟩⟩; (try first | exact ⟨rfl, _, World.drewN_drewN _ _ _⟩ | exact ⟨rfl, _, Eq.trans (World.drewN_drewN _ _ _) (congrArg (World.drewN _) (Nat.add_assoc _ _ _))⟩)) | (go_at_call 21; (with_reducible refine (spec_l1In.calls a0_1 1 32 true _ A6.out).mono ?_); rintro e w' ⟨rfl, ⟨nd, rfl⟩⟩; (try first | exact ⟨rfl, _, World.drewN_drewN _ _ _⟩ | exact ⟨rfl, _, Eq.trans (World.drewN_drewN _ _ _) (congrArg (World.drewN _) (Nat.add_assoc _ _ _))⟩))); try go_wp2_with (first | (go_at_call 21; (with_reducible refine (spec_l1In.calls a0_0 0 1000000 true _ A4.out).mono ?_); rintro e w' ⟨rfl, ⟨nd, rfl⟩⟩; (try first | exact ⟨rfl, _, World.drewN_drewN _ _ _⟩ | exact ⟨rfl, _, Eq.trans (World.drewN_drewN _ _ _) (congrArg (World.drewN _) (Nat.add_assoc _ _ _))⟩)) | (go_at_call 21; (with_reducible refine (spec_l1In.calls a0_1 1 32 true _ A6.out).mono ?_); rintro e w' ⟨rfl, ⟨nd, rfl⟩⟩; (try first | exact ⟨rfl, _, World.drewN_drewN _ _ _⟩ | exact ⟨rfl, _, Eq.trans (World.drewN_drewN _ _ _) (congrArg (World.drewN _) (Nat.add_assoc _ _ _))⟩))))
    go_meet
    case rel => exact ⟨_, (decide ((l0_2.length : Int) > a0_1)), (by first | rfl | (simp; done) | (simp [*]; done)), H', ⟨by first | omega | exact Nat.le_refl _⟩, ⟨by refine kb_ ?_; exact BK221.out⟩, ⟨hbA_ HB.out⟩⟩
   ·replace c7 := Bool.eq_false_iff.mpr c7
    subst c7
    rw [if_neg (show ¬ (false = true) by decide)] at H
    have H' := Aside0.mk H
    clear H; have Z9 := zz4 BK221
    go_wp2_with (first | (go_at_call 21; (with_reducible refine (spec_l1In.calls a0_0 0 1000000 true _ A4.out).mono ?_); rintro e w' ⟨rfl, ⟨nd, rfl⟩⟩; (try first | exact ⟨rfl, _, World.drewN_drewN _ _ _⟩ | exact ⟨rfl, _, Eq.trans (World.drewN_drewN _ _ _) (congrArg (World.drewN _) (Nat.add_assoc _ _ _))⟩)) | (go_at_call 21; (with_reducible refine (spec_l1In.calls a0_1 1 32 false _ A6.out).mono ?_); rintro e w' ⟨rfl, ⟨nd, rfl⟩⟩; (try first | exact ⟨rfl, _, World.drewN_drewN _ _ _⟩ | exact ⟨rfl, _, Eq.trans (World.drewN_drewN _ _ _) (congrArg (World.drewN _) (Nat.add_assoc _ _ _))⟩)))
    repeat (go_quiet (first | (go_at_call 21; (with_reducible refine (spec_l1In.calls a0_0 0 1000000 true _ A4.out).mono ?_); rintro e w' ⟨rfl, ⟨nd, rfl⟩⟩; (try first | exact ⟨rfl, _, World.drewN_drewN _ _ _⟩ | exact ⟨rfl, _, Eq.trans (World.drewN_drewN _ _ _) (congrArg (World.drewN _) (Nat.add_assoc _ _ _))⟩)) | (go_at_call 21; (with_reducible refine (spec_l1In.calls a0_1 1 32 false _ A6.out).mono ?_); rintro e w' ⟨rfl, ⟨nd, rfl⟩⟩; (try first | exact ⟨rfl, _, World.drewN_drewN _ _ _⟩ | exact ⟨rfl, _, Eq.trans (World.drewN_drewN _ _ _) (congrArg (World.drewN _) (Nat.add_assoc _ _ _))⟩))); try go_wp2_with (first | (go_at_call 21; (with_reducible refine (spec_l1In.calls a0_0 0 1000000 true _ A4.out).mono ?_); rintro e w' ⟨rfl, ⟨nd, rfl⟩⟩; (try first | exact ⟨rfl, _, World.drewN_drewN _ _ _⟩ | exact ⟨rfl, _, Eq.trans (World.drewN_drewN _ _ _) (congrArg (World.drewN _) (Nat.add_assoc _ _ _))⟩)) | (go_at_call 21; (with_reducible refine (spec_l1In.calls a0_1 1 32 false _ A6.out).mono ?_); rintro e w' ⟨rfl, ⟨nd, rfl⟩⟩; (try first | exact ⟨rfl, _, World.drewN_drewN _ _ _⟩ | exact ⟨rfl, _, Eq.trans (World.drewN_drewN _ _ _) (congrArg (World.drewN _) (Nat.add_assoc _ _ _))⟩))))
    go_meet
    case rel => exact ⟨_, (true), (by first | rfl | (simp; done) | (simp [*]; done)), H', ⟨by first | omega | exact Nat.le_refl _⟩, ⟨by refine kb_ ?_; exact BK221.out⟩, ⟨hbA_ HB.out⟩⟩
  ·replace c5 := Bool.eq_false_iff.mpr c5
   subst c5
   rw [if_neg (show ¬ (false = true) by decide)] at H
   have H' := Aside0.mk H
   clear H; have Z10 := zz4 BK221
   go_wp2_with (first | (go_at_call 21; (with_reducible refine (spec_l1In.calls a0_0 0 1000000 false _ A4.out).mono ?_); rintro e w' ⟨rfl, ⟨nd, rfl⟩⟩; (try first | exact ⟨rfl, _, World.drewN_drewN _ _ _⟩ | exact ⟨rfl, _, Eq.trans (World.drewN_drewN _ _ _) (congrArg (World.drewN _) (Nat.add_assoc _ _ _))⟩)))
   repeat (go_quiet (first | (go_at_call 21; (with_reducible refine (spec_l1In.calls a0_0 0 1000000 false _ A4.out).mono ?_); rintro e w' ⟨rfl, ⟨nd, rfl⟩⟩; (try first | exact ⟨rfl, _, World.drewN_drewN _ _ _⟩ | exact ⟨rfl, _, Eq.trans (World.drewN_drewN _ _ _) (congrArg (World.drewN _) (Nat.add_assoc _ _ _))⟩))); try go_wp2_with (first | (go_at_call 21; (with_reducible refine (spec_l1In.calls a0_0 0 1000000 false _ A4.out).mono ?_); rintro e w' ⟨rfl, ⟨nd, rfl⟩⟩; (try first | exact ⟨rfl, _, World.drewN_drewN _ _ _⟩ | exact ⟨rfl, _, Eq.trans (World.drewN_drewN _ _ _) (congrArg (World.drewN _) (Nat.add_assoc _ _ _))⟩))))
   go_meet
   case rel => exact ⟨_, (true), (by first | rfl | (simp; done) | (simp [*]; done)), H', ⟨by first | omega | exact Nat.le_refl _⟩, ⟨by refine kb_ ?_; exact BK221.out⟩, ⟨hbA_ HB.out⟩⟩
 case rest =>
  clear HC2; (try clear c2); (try clear p2); (try clear c5); (try clear c7); (try clear Z10); (try clear Z8); (try clear Z9)
  obtain ⟨kq, x21_1, rfl, HA, HJ1, BK221, HB⟩ := hcut
  cases kq with
  | zero => exact absurd HA.out (by simp [spec_EarOk.j0])
  | succ kj1 =>
   have H := HA.out; clear HA
   simp only [spec_EarOk.j0] at H
   by_cases c11 : x21_1 = true
   ·subst c11
    rw [if_pos rfl] at H
    obtain rfl := Option.some.inj H
    go_wp2
    repeat (go_quiet (fail); try go_wp2)
    go_ret
    exact ⟨by first | rfl | (simp [errW_none, errW_some] <;> rfl) | (simp [*, errW_none, errW_some] <;> rfl), hbA_ HB.out⟩
   ·replace c11 := Bool.eq_false_iff.mpr c11
    subst c11
    rw [if_neg (show ¬ (false = true) by decide)] at H
    have H' := Aside0.mk H
    clear H
    go_wp2
    repeat (go_quiet (fail); try go_wp2)
    go_loopg [3] kj1 (fun kq v3 w' => ∃ (x3_2 : Int), v3 = .int .i64 x3_2 ∧ Aside0 (spec_EarOk.l0 kq x3_2 a0_0 a0_1 l0_2 l0_3 = some r) ∧ Aside0 (kq ≤ kj1) ∧ Aside0 (w'.heap[gb221]? = some (.cells #[.int .i64 a0_0, .int .i64 a0_1, (.slice A0_2 l0_2.length c0_2), (.slice A0_3 l0_3.length c0_3)] 29 (0, 0))) ∧ Aside0 (Below w.heap.size w w'))
    case atStart => exact ⟨(0), (by first | rfl | (simp; done) | (simp [*]; done)), H', ⟨Nat.le_refl _⟩, ⟨by refine kb_ ?_; exact BK221.out⟩, ⟨hbA_ HB.out⟩⟩
    case round =>
     clear H'; (try clear c1); (try clear c2); (try clear p2); (try clear c5); (try clear c7); (try clear c11); (try clear Z10); (try clear Z8); (try clear Z9); (try clear p2)
     obtain ⟨x3_2, rfl, HA, HK2, BK221, HB⟩ := hrel
     cases gk with
     | zero => exact absurd HA.out (by simp [spec_EarOk.l0])
     | succ k2 =>
      have H := HA.out; clear HA
      simp only [spec_EarOk.l0] at H
      by_cases c12 : x3_2 < (l0_3.length : Int)
      ·rw [if_pos c12] at H
       have c12b0 : decide (x3_2 < (l0_3.length : Int)) = true := decide_eq_true c12
       clear c12; have HC13 := Aside0.mk H; clear H; have Z14 := zz4 BK221
       go_upto_region 6 with (fail)
       repeat (go_quiet (fail); go_upto_region 6 with (fail))
       go_cut [75] (fun v75 wc => ∃ (kq : Nat) (x75_12 : Bool), v75 = .bool x75_12 ∧ Aside0 (spec_EarOk.j2 kq x3_2 x75_12 a0_0 a0_1 l0_2 l0_3 = some r) ∧ Aside0 (kq ≤ k2) ∧ Aside0 (wc.heap[gb221]? = some (.cells #[.int .i64 a0_0, .int .i64 a0_1, (.slice A0_2 l0_2.length c0_2), (.slice A0_3 l0_3.length c0_3)] 29 (0, 0))) ∧ Aside0 (Below w.heap.size w wc))
       case first =>
        have H := HC13.out; clear HC13
        by_cases c15 : 0 ≤ x3_2
        ·rw [if_pos c15] at H
         have c15b0 : decide (0 ≤ x3_2) = true := decide_eq_true c15
         clear c15
         (first | rw [c15b0] | (simp only [i64_w, i32_w]; rw [c15b0]) | skip)
         by_cases c16 : ((rd_T50 l0_3 x3_2).f0) ≤ a0_0
         ·rw [if_pos c16] at H
          have c16b0 : decide (((rd_T50 l0_3 x3_2).f0) ≤ a0_0) = true := decide_eq_true c16
          clear c16
          have H' := Aside0.mk H
          clear H; have Z17 := zz4 BK221
          have p224 : 0 ≤ (x3_2 : Int) := of_decide_eq_true (by first | (with_reducible assumption) | assumption)
          have q224 : x3_2 < (l0_3.length : Int) := of_decide_eq_true (by first | (with_reducible assumption) | assumption)
          obtain ⟨ad224, e224, hx224_0, hx224_1⟩ := at_T50 HR0_3.out x3_2 p224 q224
          cases e224
          replace hx224_0 := cc_ HB hx224_0
          replace hx224_1 := cc_ HB hx224_1
          replace p224 := eq_true p224
          replace q224 := eq_true q224
          go_wp2
          repeat (go_quiet (fail); try go_wp2)
          go_meet
          case rel => exact ⟨_, (true), (by first | rfl | (simp; done) | (simp [*]; done)), H', ⟨by have := HJ1.out; have := HK2.out; first | omega | exact Nat.le_refl _⟩, ⟨by refine kb_ ?_; exact BK221.out⟩, ⟨hbA_ HB.out⟩⟩
         ·rw [if_neg c16] at H
          have c16b0 : decide (((rd_T50 l0_3 x3_2).f0) ≤ a0_0) = false := decide_eq_false c16
          clear c16
          by_cases c18 : ((rd_T50 l0_3 x3_2).f0) ≥ (wrap64 ((wrap64 (a0_0 + a0_1)) - (l0_2.length : Int)))
          ·rw [if_pos c18] at H
           have c18b0 : decide ((wrap64 ((wrap64 (a0_0 + a0_1)) - (l0_2.length : Int))) ≤ ((rd_T50 l0_3 x3_2).f0)) = true := decide_eq_true c18
           clear c18
           have H' := Aside0.mk H
           clear H; have Z19 := zz4 BK221
           have p224 : 0 ≤ (x3_2 : Int) := of_decide_eq_true (by first | (with_reducible assumption) | assumption)
           have q224 : x3_2 < (l0_3.length : Int) := of_decide_eq_true (by first | (with_reducible assumption) | assumption)
           obtain ⟨ad224, e224, hx224_0, hx224_1⟩ := at_T50 HR0_3.out x3_2 p224 q224
           cases e224
           replace hx224_0 := cc_ HB hx224_0
           replace hx224_1 := cc_ HB hx224_1
           replace p224 := eq_true p224
           replace q224 := eq_true q224
           have p225 : 0 ≤ (x3_2 : Int) := of_decide_eq_true (by first | (with_reducible assumption) | assumption)
           have q225 : x3_2 < (l0_3.length : Int) := of_decide_eq_true (by first | (with_reducible assumption) | assumption)
           obtain ⟨ad225, e225, hx225_0, hx225_1⟩ := at_T50 HR0_3.out x3_2 p225 q225
           obtain rfl : ad224 = ad225 := (by injection e225)
           replace hx225_0 := cc_ HB hx225_0
           replace hx225_1 := cc_ HB hx225_1
           replace p225 := eq_true p225
           replace q225 := eq_true q225
           go_wp2
           repeat (go_quiet (fail); try go_wp2)
           go_meet
           case rel => exact ⟨_, (true), (by first | rfl | (simp; done) | (simp [*]; done)), H', ⟨by have := HJ1.out; have := HK2.out; first | omega | exact Nat.le_refl _⟩, ⟨by refine kb_ ?_; exact BK221.out⟩, ⟨hbA_ HB.out⟩⟩
          ·rw [if_neg c18] at H
           have c18b0 : decide ((wrap64 ((wrap64 (a0_0 + a0_1)) - (l0_2.length : Int))) ≤ ((rd_T50 l0_3 x3_2).f0)) = false := decide_eq_false c18
           clear c18
           by_cases c20 : x3_2 > 0
           ·rw [if_pos c20] at H
            have c20b0 : decide (0 < x3_2) = true := decide_eq_true c20
            clear c20
            obtain ⟨ji21, hji21⟩ : ∃ j_ : Int, (wrap64 (x3_2 - 1)) = j_ := ⟨_, rfl⟩
            (first | rw [hji21] at H | simp only [hji21] at H)
            have hji21w : (IntKind.i64.wrap (x3_2 - 1)) = ji21 := (i64_w _).trans hji21
            by_cases c22 : 0 ≤ (ji21)
            ·rw [if_pos c22] at H
             have c22b0 : decide (0 ≤ (ji21)) = true := decide_eq_true c22
             clear c22
             by_cases c23 : (ji21) < (l0_3.length : Int)
             ·rw [if_pos c23] at H
              have c23b0 : decide ((ji21) < (l0_3.length : Int)) = true := decide_eq_true c23
              clear c23
              have H' := Aside0.mk H
              clear H; have Z24 := zz4 BK221
              have p224 : 0 ≤ (x3_2 : Int) := of_decide_eq_true (by first | (with_reducible assumption) | assumption)
              have q224 : x3_2 < (l0_3.length : Int) := of_decide_eq_true (by first | (with_reducible assumption) | assumption)
              obtain ⟨ad224, e224, hx224_0, hx224_1⟩ := at_T50 HR0_3.out x3_2 p224 q224
              cases e224
              replace hx224_0 := cc_ HB hx224_0
              replace hx224_1 := cc_ HB hx224_1
              replace p224 := eq_true p224
              replace q224 := eq_true q224
              have p225 : 0 ≤ (x3_2 : Int) := of_decide_eq_true (by first | (with_reducible assumption) | assumption)
              have q225 : x3_2 < (l0_3.length : Int) := of_decide_eq_true (by first | (with_reducible assumption) | assumption)
              obtain ⟨ad225, e225, hx225_0, hx225_1⟩ := at_T50 HR0_3.out x3_2 p225 q225
              obtain rfl : ad224 = ad225 := (by injection e225)
              replace hx225_0 := cc_ HB hx225_0
              replace hx225_1 := cc_ HB hx225_1
              replace p225 := eq_true p225
              replace q225 := eq_true q225
              have p226 : 0 ≤ ((ji21) : Int) := of_decide_eq_true (by first | (with_reducible assumption) | assumption)
              have q226 : (ji21) < (l0_3.length : Int) := of_decide_eq_true (by first | (with_reducible assumption) | assumption)
              obtain ⟨ad226, e226, hx226_0, hx226_1⟩ := at_T50 HR0_3.out (ji21) p226 q226
              obtain rfl : ad224 = ad226 := (by injection e226)
              replace hx226_0 := cc_ HB hx226_0
              replace hx226_1 := cc_ HB hx226_1
              replace p226 := eq_true p226
              replace q226 := eq_true q226
              have p227 : 0 ≤ (x3_2 : Int) := of_decide_eq_true (by first | (with_reducible assumption) | assumption)
              have q227 : x3_2 < (l0_3.length : Int) := of_decide_eq_true (by first | (with_reducible assumption) | assumption)
              obtain ⟨ad227, e227, hx227_0, hx227_1⟩ := at_T50 HR0_3.out x3_2 p227 q227
              obtain rfl : ad224 = ad227 := (by injection e227)
              replace hx227_0 := cc_ HB hx227_0
              replace hx227_1 := cc_ HB hx227_1
              replace p227 := eq_true p227
              replace q227 := eq_true q227
              go_wp2
              repeat (go_quiet (fail); try go_wp2)
              first | go_meet | ((try simp only [← hji21]); go_meet)
              case rel => exact ⟨_, (decide (((rd_T50 l0_3 (ji21)).f0) ≥ ((rd_T50 l0_3 x3_2).f0))), (by first | rfl | (simp; done) | (simp only [← hji21] <;> (first | rfl | simp)) | (simp [*]; done)), H', ⟨by have := HJ1.out; have := HK2.out; first | omega | exact Nat.le_refl _⟩, ⟨by refine kb_ ?_; exact BK221.out⟩, ⟨hbA_ HB.out⟩⟩
             ·rw [if_neg c23] at H
              exact absurd H (by simp)
            ·rw [if_neg c22] at H
             exact absurd H (by simp)
           ·rw [if_neg c20] at H
            have c20b0 : decide (0 < x3_2) = false := decide_eq_false c20
            clear c20
            have H' := Aside0.mk H
            clear H; have Z25 := zz4 BK221
            have p224 : 0 ≤ (x3_2 : Int) := of_decide_eq_true (by first | (with_reducible assumption) | assumption)
            have q224 : x3_2 < (l0_3.length : Int) := of_decide_eq_true (by first | (with_reducible assumption) | assumption)
            obtain ⟨ad224, e224, hx224_0, hx224_1⟩ := at_T50 HR0_3.out x3_2 p224 q224
            cases e224
            replace hx224_0 := cc_ HB hx224_0
            replace hx224_1 := cc_ HB hx224_1
            replace p224 := eq_true p224
            replace q224 := eq_true q224
            have p225 : 0 ≤ (x3_2 : Int) := of_decide_eq_true (by first | (with_reducible assumption) | assumption)
            have q225 : x3_2 < (l0_3.length : Int) := of_decide_eq_true (by first | (with_reducible assumption) | assumption)
            obtain ⟨ad225, e225, hx225_0, hx225_1⟩ := at_T50 HR0_3.out x3_2 p225 q225
            obtain rfl : ad224 = ad225 := (by injection e225)
            replace hx225_0 := cc_ HB hx225_0
            replace hx225_1 := cc_ HB hx225_1
            replace p225 := eq_true p225
            replace q225 := eq_true q225
            go_wp2
            repeat (go_quiet (fail); try go_wp2)
            go_meet
            case rel => exact ⟨_, (false), (by first | rfl | (simp; done) | (simp [*]; done)), H', ⟨by have := HJ1.out; have := HK2.out; first | omega | exact Nat.le_refl _⟩, ⟨by refine kb_ ?_; exact BK221.out⟩, ⟨hbA_ HB.out⟩⟩
        ·rw [if_neg c15] at H
         exact absurd H (by simp)
       case rest =>
        clear HC13; (try clear c1); (try clear c2); (try clear p2); (try clear q2); (try clear hx2); (try clear c5); (try clear p6); (try clear c7); (try clear c11); (try clear c12); (try clear c12b0); (try clear c15); (try clear c15b0); (try clear c16); (try clear c16b0); (try clear c18); (try clear c18b0); (try clear c20); (try clear c20b0); (try clear c22); (try clear c22b0); (try clear p22); (try clear q22); (try clear hx22); (try clear c23); (try clear c23b0); (try clear Z10); (try clear Z14); (try clear Z17); (try clear Z19); (try clear Z24); (try clear Z25); (try clear Z8); (try clear Z9); (try clear hx224_0); (try clear hx224_1); (try clear hx225_0); (try clear hx225_1); (try clear hx226_0); (try clear hx226_1); (try clear hx227_0); (try clear hx227_1); (try clear p2); (try clear p224); (try clear p225); (try clear p226); (try clear p227); (try clear q224); (try clear q225); (try clear q226); (try clear q227)
        obtain ⟨kq, x75_12, rfl, HA, HJ12, BK221, HB⟩ := hcut
        cases kq with
        | zero => exact absurd HA.out (by simp [spec_EarOk.j2])
        | succ kj12 =>
         have H := HA.out; clear HA
         simp only [spec_EarOk.j2] at H
         by_cases c26 : x75_12 = true
         ·subst c26
          rw [if_pos rfl] at H
          obtain rfl := Option.some.inj H
          go_wp2
          repeat (go_quiet (fail); try go_wp2)
          go_ret
          exact ⟨by first | rfl | (simp [errW_none, errW_some] <;> rfl) | (simp [*, errW_none, errW_some] <;> rfl), hbA_ HB.out⟩
         ·replace c26 := Bool.eq_false_iff.mpr c26
          subst c26
          rw [if_neg (show ¬ (false = true) by decide)] at H
          have H' := Aside0.mk H
          clear H
          go_wp2
          repeat (go_quiet (fail); try go_wp2)
          go_roundg kj12
          case measure => have := HJ1.out; have := HK2.out; have := HJ12.out; omega
          case rel => exact ⟨(wrap64 (x3_2 + 1)), (by first | rfl | (simp; done) | (simp [*]; done)), H', ⟨by have := HJ1.out; have := HK2.out; have := HJ12.out; omega⟩, ⟨by refine kb_ ?_; exact BK221.out⟩, ⟨hbA_ HB.out⟩⟩
      ·rw [if_neg c12] at H
       have c12b0 : decide (x3_2 < (l0_3.length : Int)) = false := decide_eq_false c12
       clear c12
       obtain rfl := Option.some.inj H
       have Z27 := zz4 BK221
       go_wp2
       repeat (go_quiet (fail); try go_wp2)
       go_ret
       exact ⟨by first | rfl | (simp [errW_none, errW_some] <;> rfl) | (simp [*, errW_none, errW_some] <;> rfl), hbA_ HB.out⟩
def spec_EarFree.f (k : Nat) (a0_0 : Int) (a0_1 : Int) (l0_2 : List Int) (l0_3 : List (S50)) : Option (Int) := (spec_EarOk.f k a0_0 a0_1 l0_2 l0_3).bind fun t229 => (if t229 = true then (some (wrap64 (a0_1 - (l0_2.length : Int)))) else (some 0))
theorem spec_EarFree.mono : ∀ a0 a1 a2 a3 k, LeO (spec_EarFree.f k a0 a1 a2 a3) (spec_EarFree.f (k + 1) a0 a1 a2 a3) := by
 intro a0 a1 a2 a3 k
 unfold spec_EarFree.f
 repeat' first | (with_reducible first | apply spec_EarOk.mono | exact LeO.refl _ | exact LeO.none _ | refine LeO.ite ?_ ?_ | refine LeO.bind ?_ fun _ => ?_) | apply spec_EarOk.mono | exact LeO.none _ | refine LeO.ite ?_ ?_ | refine LeO.bind ?_ fun _ => ?_
set_option maxHeartbeats 8000000 in
set_option maxRecDepth 100000 in
theorem spec_EarFree.calls (k : Nat) (a0_0 : Int) (a0_1 : Int) (A0_2 : Option Addr) (c0_2 : Nat) (l0_2 : List Int) (A0_3 : Option Addr) (c0_3 : Nat) (l0_3 : List (S50)) (r : Int) (w : World) (hr0_2 : Kd.C (Kd.int .u8) w A0_2 l0_2.length l0_2) (hc0_2 : l0_2.length ≤ c0_2) (hr0_3 : Kd.C k50 w A0_3 l0_3.length l0_3) (hc0_3 : l0_3.length ≤ c0_3) (h : spec_EarFree.f k a0_0 a0_1 l0_2 l0_3 = some r) :
  Calls Try.prog 22 #[.agg #[.int .i64 a0_0, .int .i64 a0_1, .slice A0_2 l0_2.length c0_2, .slice A0_3 l0_3.length c0_3]] w fun e w' => e = .returned (.int .i64 r) ∧ Below w.heap.size w w' := by
 have hu29 := Try.underlying29; have HR0_2 := Aside0.mk hr0_2; have HC0_2 := Aside0.mk hc0_2; clear hr0_2 hc0_2; have HR0_3 := Aside0.mk hr0_3; have HC0_3 := Aside0.mk hc0_3; clear hr0_3 hc0_3
 have HB := Aside0.mk (Below.refl w.heap.size w)
 have H : ((spec_EarOk.f k a0_0 a0_1 l0_2 l0_3).bind fun t229 => (if t229 = true then (some (wrap64 (a0_1 - (l0_2.length : Int)))) else (some 0))) = some r := h
 clear h
 replace H := Option.bind_eq_some_iff.mp H
 obtain ⟨t229, A20, H⟩ := H
 (try dsimp only at H)
 have A2 := Aside0.mk A20; clear A20
 by_cases c3 : t229 = true
 ·subst c3
  rw [if_pos rfl] at H
  obtain rfl := Option.some.inj H
  go_enter Try.func22, Try.ntmps22
  go_wp2_with (first | ((with_reducible refine gate_dst (N := 1) rfl ?_); refine box_ (N := 1) (cs := #[.int .i64 a0_0, .int .i64 a0_1, .slice A0_2 l0_2.length c0_2, .slice A0_3 l0_3.length c0_3]) (t := 29) (fun gb228 hg w4 hbox hb => ?_); have BK228 := Aside0.mk (hbox); have GW228 := ge_ hg HB; have GE228 := ge_ hg HB; replace HB := (bs_ HB hb); clear hb hbox hg; have Z5 := zz4 BK228) | ((with_reducible refine gate_callee (f := 20) rfl ?_); refine goesL_ (some 4) rfl rfl Try.func20 (by kernel_rfl) rfl #[.agg #[.int .i64 a0_0, .int .i64 a0_1, .slice A0_2 l0_2.length c0_2, .slice A0_3 l0_3.length c0_3]] rfl ar_ ?_; (with_reducible refine (spec_EarOk.calls k a0_0 a0_1 _ _ l0_2 _ _ l0_3 true _ ?side1 ?side2 ?side3 ?side4 A2.out).mono ?_); (case side1 => exact kC_ (Kd.C_below HR0_2.out HB.out)); (case side2 => exact HC0_2.out); (case side3 => exact kC_ (Kd.C_below HR0_3.out HB.out)); (case side4 => exact HC0_3.out); rintro e w6 ⟨rfl, hb⟩; refine ⟨_, rfl, ?_⟩; replace BK228 := (bbA_ BK228 hb); replace HB := (bs_ HB hb); (try clear hb); (try clear hb2); (try clear hk); (try clear hi); have Z7 := zz4 BK228))
  go_ret
  exact ⟨by first | rfl | (simp [errW_none, errW_some] <;> rfl) | (simp [*, errW_none, errW_some] <;> rfl), hbA_ HB.out⟩
 ·replace c3 := Bool.eq_false_iff.mpr c3
  subst c3
  rw [if_neg (show ¬ (false = true) by decide)] at H
  obtain rfl := Option.some.inj H
  go_enter Try.func22, Try.ntmps22
  go_wp2_with (first | ((with_reducible refine gate_dst (N := 1) rfl ?_); refine box_ (N := 1) (cs := #[.int .i64 a0_0, .int .i64 a0_1, .slice A0_2 l0_2.length c0_2, .slice A0_3 l0_3.length c0_3]) (t := 29) (fun gb228 hg w8 hbox hb => ?_); have BK228 := Aside0.mk (hbox); have GW228 := ge_ hg HB; have GE228 := ge_ hg HB; replace HB := (bs_ HB hb); clear hb hbox hg; have Z9 := zz4 BK228) | ((with_reducible refine gate_callee (f := 20) rfl ?_); refine goesL_ (some 4) rfl rfl Try.func20 (by kernel_rfl) rfl #[.agg #[.int .i64 a0_0, .int .i64 a0_1, .slice A0_2 l0_2.length c0_2, .slice A0_3 l0_3.length c0_3]] rfl ar_ ?_; (with_reducible refine (spec_EarOk.calls k a0_0 a0_1 _ _ l0_2 _ _ l0_3 false _ ?side1 ?side2 ?side3 ?side4 A2.out).mono ?_); (case side1 => exact kC_ (Kd.C_below HR0_2.out HB.out)); (case side2 => exact HC0_2.out); (case side3 => exact kC_ (Kd.C_below HR0_3.out HB.out)); (case side4 => exact HC0_3.out); rintro e w10 ⟨rfl, hb⟩; refine ⟨_, rfl, ?_⟩; replace BK228 := (bbA_ BK228 hb); replace HB := (bs_ HB hb); (try clear hb); (try clear hb2); (try clear hk); (try clear hi)))
  go_ret
  exact ⟨by first | rfl | (simp [errW_none, errW_some] <;> rfl) | (simp [*, errW_none, errW_some] <;> rfl), hbA_ HB.out⟩
end Go.Proofs.Ytgemkjclamlmbaa.PFnListening
