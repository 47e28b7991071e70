/- Printed by wip/xp/xprint.sh out of the translation, for this claim: what each function answers, as a plain function, and that the machine does just that. No condition. -/
import Derived.Test.YtdoohdbfpnmndaaPFnWholeAskingx0
import Derived.Test.YtdoohdbfpnmndaaPFnWholeAskingx1
import Derived.Test.YtdoohdbfpnmndaaPFnWholeAskingx2
namespace Go.Proofs.Ytdoohdbfpnmndaa.PFnWholeAsking
open Go.RowKit Go.Proofs.YtdoohdbfpnmndaaW.PrintWords Go.Proofs.YtdoohdbfpnmndaaW.PrintLast Go.Proofs.YtdoohdbfpnmndaaW.PrintMore
attribute [local go_sem] max2_int min2_int max_two min_two max_three min_three max_four min_four   -- for this text's walks alone
set_option linter.unusedVariables false
set_option linter.unusedSimpArgs false
mutual
def impl_NearHear.j0 : Nat → Int → Int → Bool → List (S63) → List (S65) → Int → Int → Int → Int → Option ((List (S63)) × (List (S65)) × (List (List Int)))
 | 0, _, _, _, _, _, _, _, _, _ => none
 | k + 1, x1, x3, x27, x137000, x137001, x138000, x138001, x138002, x138003 => if x27 = true then (some (([] : List (S63)), ([] : List (S65)), ([] : List (List Int)))) else ((impl_Near_at.f x137000 x137001 x138002).bind fun t142 => (if t142 < 0 then (if x138003 = x1 then (impl_NearHear.j1 k x3 false x137000 x137001 x138000 x138001 x138002 x138003) else ((impl_NearHear_has.f x137001 x138000 x138001 x138002 x138003).bind fun t143 => (impl_NearHear.j1 k x3 (!t143) x137000 x137001 x138000 x138001 x138002 x138003))) else (impl_NearHear.j1 k x3 false x137000 x137001 x138000 x138001 x138002 x138003)))
def impl_NearHear.j1 : Nat → Int → Bool → List (S63) → List (S65) → Int → Int → Int → Int → Option ((List (S63)) × (List (S65)) × (List (List Int)))
 | 0, _, _, _, _, _, _, _, _ => none
 | k + 1, x3, x47, x137000, x137001, x138000, x138001, x138002, x138003 => if x47 = true then ((impl_Near_copy.f k x137000 x137001).bind fun bt144 => (some (bt144.1, bt144.2, ([] : List (List Int))))) else ((impl_Near_copy.f k x137000 x137001).bind fun bt150 => ((some (bt150.1.filter (fun h_ => !(h_.f0 == x138002)) : List (S63))).bind fun y157 => (if y157.length < 5864062014805 then ((some (y157 ++ [(⟨x138002, x138001, wrap64 (x3 + 20)⟩ : S63)] : List (S63))).bind fun y160 => (if 0 ≤ (mx 0 (wrap64 ((y160.length : Int) - 4))) then (if (mx 0 (wrap64 ((y160.length : Int) - 4))) ≤ (y160.length : Int) then (impl_NearHear.l0 k ([] : List (List Int)) x137001 (x137001.length : Int) 0 x138000 x138001 x138002 x138003 (y160.drop ((mx 0 (wrap64 ((y160.length : Int) - 4))) : Int).toNat) bt150.2) else (none)) else (none))) else (none))))
def impl_NearHear.l0 : Nat → List (List Int) → List (S65) → Int → Int → Int → Int → Int → Int → List (S63) → List (S65) → Option ((List (S63)) × (List (S65)) × (List (List Int)))
 | 0, _, _, _, _, _, _, _, _, _, _ => none
 | k + 1, x12, x79, x80, x81, x138000, x138001, x138002, x138003, x157000, x157001 => if x81 < x80 then (if 0 ≤ x81 then (if x81 < (x79.length : Int) then ((impl_NearHear_waits.f ((rd_T65 x79 x81).f0) ((rd_T65 x79 x81).f1) x138000 x138001 x138002 x138003).bind fun t168 => (if t168 = true then ((impl_clone_byte.f ((rd_T65 x79 x81).f1)).bind fun t169 => (if x12.length < 5864062014805 then (impl_NearHear.l0 k (x12 ++ [t169]) x79 x80 (wrap64 (x81 + 1)) x138000 x138001 x138002 x138003 x157000 x157001) else (none))) else (impl_NearHear.l0 k x12 x79 x80 (wrap64 (x81 + 1)) x138000 x138001 x138002 x138003 x157000 x157001))) else (none)) else (none)) else ((impl_Near_copy.f k x157000 (x157001.filter (fun h_ => !(h_.f0 == x138002)))).bind fun bt178 => (some (bt178.1, bt178.2, x12)))
end
def impl_NearHear.f (k : Nat) (l0_0 : List (S63)) (l0_1 : List (S65)) (a1 : Int) (a2_0 : Int) (a2_1 : Int) (a2_2 : Int) (a2_3 : Int) (a3 : Int) : Option ((List (S63)) × (List (S65)) × (List (List Int))) := (impl_NearOk.f k l0_0 l0_1).bind fun t139 => (if t139 = true then ((impl_QueryOk.f a2_0 a2_1 a2_2 a2_3).bind fun t140 => (if t140 = true then ((impl_in.f a3 0 999980).bind fun t141 => (impl_NearHear.j0 k a1 a3 (!t141) l0_0 l0_1 a2_0 a2_1 a2_2 a2_3)) else (impl_NearHear.j0 k a1 a3 true l0_0 l0_1 a2_0 a2_1 a2_2 a2_3))) else (impl_NearHear.j0 k a1 a3 true l0_0 l0_1 a2_0 a2_1 a2_2 a2_3))
theorem impl_NearHear.mono_l : ∀ k, (∀ y0 y1 y2 y3 y4 y5 y6 y7 y8, LeO (impl_NearHear.j0 k y0 y1 y2 y3 y4 y5 y6 y7 y8) (impl_NearHear.j0 (k + 1) y0 y1 y2 y3 y4 y5 y6 y7 y8)) ∧ (∀ y0 y1 y2 y3 y4 y5 y6 y7, LeO (impl_NearHear.j1 k y0 y1 y2 y3 y4 y5 y6 y7) (impl_NearHear.j1 (k + 1) y0 y1 y2 y3 y4 y5 y6 y7)) ∧ (∀ y0 y1 y2 y3 y4 y5 y6 y7 y8 y9, LeO (impl_NearHear.l0 k y0 y1 y2 y3 y4 y5 y6 y7 y8 y9) (impl_NearHear.l0 (k + 1) y0 y1 y2 y3 y4 y5 y6 y7 y8 y9))
 | 0 => ⟨fun _ _ _ _ _ _ _ _ _ r h => by simp [impl_NearHear.j0] at h, fun _ _ _ _ _ _ _ _ r h => by simp [impl_NearHear.j1] at h, fun _ _ _ _ _ _ _ _ _ _ r h => by simp [impl_NearHear.l0] at h⟩
 | k + 1 => by
  obtain ⟨ih0, ih1, ih2⟩ := impl_NearHear.mono_l k
  refine ⟨?_, ?_, ?_⟩
  ·intro y0 y1 y2 y3 y4 y5 y6 y7 y8
   unfold impl_NearHear.j0
   repeat' first | (with_reducible first | apply ih0 | apply ih1 | apply ih2 | apply impl_NearOk.mono | apply impl_Near_copy.mono | exact LeO.refl _ | exact LeO.none _ | refine LeO.ite ?_ ?_ | refine LeO.bind ?_ fun _ => ?_) | apply ih0 | apply ih1 | apply ih2 | apply impl_NearOk.mono | apply impl_Near_copy.mono | exact LeO.none _ | refine LeO.ite ?_ ?_ | refine LeO.bind ?_ fun _ => ?_
  ·intro y0 y1 y2 y3 y4 y5 y6 y7
   unfold impl_NearHear.j1
   repeat' first | (with_reducible first | apply ih0 | apply ih1 | apply ih2 | apply impl_NearOk.mono | apply impl_Near_copy.mono | exact LeO.refl _ | exact LeO.none _ | refine LeO.ite ?_ ?_ | refine LeO.bind ?_ fun _ => ?_) | apply ih0 | apply ih1 | apply ih2 | apply impl_NearOk.mono | apply impl_Near_copy.mono | exact LeO.none _ | refine LeO.ite ?_ ?_ | refine LeO.bind ?_ fun _ => ?_
  ·intro y0 y1 y2 y3 y4 y5 y6 y7 y8 y9
   unfold impl_NearHear.l0
   repeat' first | (with_reducible first | apply ih0 | apply ih1 | apply ih2 | apply impl_NearOk.mono | apply impl_Near_copy.mono | exact LeO.refl _ | exact LeO.none _ | refine LeO.ite ?_ ?_ | refine LeO.bind ?_ fun _ => ?_) | apply ih0 | apply ih1 | apply ih2 | apply impl_NearOk.mono | apply impl_Near_copy.mono | exact LeO.none _ | refine LeO.ite ?_ ?_ | refine LeO.bind ?_ fun _ => ?_
theorem impl_NearHear.mono : ∀ a0 a1 a2 a3 a4 a5 a6 a7 k, LeO (impl_NearHear.f k a0 a1 a2 a3 a4 a5 a6 a7) (impl_NearHear.f (k + 1) a0 a1 a2 a3 a4 a5 a6 a7) := by
 intro a0 a1 a2 a3 a4 a5 a6 a7 k
 obtain ⟨ih0, ih1, ih2⟩ := impl_NearHear.mono_l k
 unfold impl_NearHear.f
 repeat' first | (with_reducible first | apply ih0 | apply ih1 | apply ih2 | apply impl_NearOk.mono | apply impl_Near_copy.mono | exact LeO.refl _ | exact LeO.none _ | refine LeO.ite ?_ ?_ | refine LeO.bind ?_ fun _ => ?_) | apply ih0 | apply ih1 | apply ih2 | apply impl_NearOk.mono | apply impl_Near_copy.mono | exact LeO.none _ | refine LeO.ite ?_ ?_ | refine LeO.bind ?_ fun _ => ?_
set_option maxHeartbeats 8000000 in
set_option maxRecDepth 100000 in
theorem impl_NearHear.calls (k : Nat) (A0_0 : Option Addr) (c0_0 : Nat) (l0_0 : List (S63)) (A0_1 : Option Addr) (c0_1 : Nat) (l0_1 : List (S65)) (a1 : Int) (a2_0 : Int) (a2_1 : Int) (a2_2 : Int) (a2_3 : Int) (a3 : Int) (r1 : List (S63)) (r2 : List (S65)) (r3 : List (List Int)) (w : World) (hr0_0 : Kd.C k63 w A0_0 l0_0.length l0_0) (hc0_0 : l0_0.length ≤ c0_0) (hr0_1 : Kd.C k65 w A0_1 l0_1.length l0_1) (hc0_1 : l0_1.length ≤ c0_1) (h : impl_NearHear.f k l0_0 l0_1 a1 a2_0 a2_1 a2_2 a2_3 a3 = some (r1, r2, r3)) :
  Calls Try.prog 10 #[.agg #[.slice A0_0 l0_0.length c0_0, .slice A0_1 l0_1.length c0_1], .int .i64 a1, .agg #[.int .i64 a2_0, .int .i64 a2_1, .int .i64 a2_2, .int .i64 a2_3], .int .i64 a3] w fun e w' => ∃ v0_ v1_ v2_ : Value, e = .returned (.tuple #[.agg #[v0_, v1_], v2_]) ∧ Kd.R k63 63 w' w.heap.size (fun _ => True) v0_ r1 ∧ Kd.S k65 65 w' w.heap.size (fun _ => True) v1_ r2 ∧ Kd.S (Kd.slice 5 (Kd.int .u8)) 44 w' w.heap.size (fun _ => True) v2_ r3 ∧ Below w.heap.size w w' := by
 have hu32 := Try.underlying32; have hu37 := Try.underlying37; have hu63 := Try.underlying63; have hu65 := Try.underlying65; have HR0_0 := Aside0.mk hr0_0; have HC0_0 := Aside0.mk hc0_0; clear hr0_0 hc0_0; have HR0_1 := Aside0.mk hr0_1; have HC0_1 := Aside0.mk hc0_1; clear hr0_1 hc0_1
 have HB := Aside0.mk (Below.refl w.heap.size w)
 have H : ((impl_NearOk.f k l0_0 l0_1).bind fun t139 => (if t139 = true then ((impl_QueryOk.f a2_0 a2_1 a2_2 a2_3).bind fun t140 => (if t140 = true then ((impl_in.f a3 0 999980).bind fun t141 => (impl_NearHear.j0 k a1 a3 (!t141) l0_0 l0_1 a2_0 a2_1 a2_2 a2_3)) else (impl_NearHear.j0 k a1 a3 true l0_0 l0_1 a2_0 a2_1 a2_2 a2_3))) else (impl_NearHear.j0 k a1 a3 true l0_0 l0_1 a2_0 a2_1 a2_2 a2_3))) = some (r1, r2, r3) := h
 clear h; have HC5 := Aside0.mk H; clear H
 go_enter Try.func10, Try.ntmps10
 go_upto_region 1 with (first | ((with_reducible refine gate_dst (N := 4) rfl ?_); refine box_ (N := 4) (cs := #[.slice A0_0 l0_0.length c0_0, .slice A0_1 l0_1.length c0_1]) (t := 32) (fun gb136 hg w6 hbox hb => ?_); have BK136 := Aside0.mk (hbox); have GW136 := ge_ hg HB; have GE136 := ge_ hg HB; replace HB := (bs_ HB hb); clear hb hbox hg) | ((with_reducible refine gate_dst (N := 6) rfl ?_); refine box_ (N := 6) (cs := #[.int .i64 a2_0, .int .i64 a2_1, .int .i64 a2_2, .int .i64 a2_3]) (t := 37) (fun gb137 hg w7 hbox hb => ?_); have BK137 := Aside0.mk (hbox); have GW137 := ge_ hg HB; have GE137 := ge_ hg HB; replace HB := (bs_ HB hb); have NB136_137 := nl_ hg BK136; have NB137_136 := ng_ hg BK136; replace BK136 := (bbA_ BK136 hb); clear hb hbox hg) | ((with_reducible refine gate_dst (N := 8) rfl ?_); refine box_ (N := 8) (cs := #[.slice none 0 0, .slice none 0 0]) (t := 32) (fun gb138 hg w8 hbox hb => ?_); have BK138 := Aside0.mk (hbox); have GW138 := ge_ hg HB; have GE138 := ge_ hg HB; replace HB := (bs_ HB hb); have NB136_138 := nl_ hg BK136; have NB138_136 := ng_ hg BK136; replace BK136 := (bbA_ BK136 hb); have NB137_138 := nl_ hg BK137; have NB138_137 := ng_ hg BK137; replace BK137 := (bbA_ BK137 hb); clear hb hbox hg))
 (try simp only [Act.put, List.setIfInBounds_toArray, List.set_cons_zero, List.set_cons_succ])
 go_cut [27] (fun v27 wc => ∃ (kq : Nat) (x27_4 : Bool), v27 = .bool x27_4 ∧ Aside0 (impl_NearHear.j0 kq a1 a3 x27_4 l0_0 l0_1 a2_0 a2_1 a2_2 a2_3 = some (r1, r2, r3)) ∧ Aside0 (kq ≤ k) ∧ Aside0 (wc.heap[gb136]? = some (.cells #[(.slice A0_0 l0_0.length c0_0), (.slice A0_1 l0_1.length c0_1)] 32 (0, 0))) ∧ Aside0 (wc.heap[gb137]? = some (.cells #[.int .i64 a2_0, .int .i64 a2_1, .int .i64 a2_2, .int .i64 a2_3] 37 (0, 0))) ∧ Aside0 (wc.heap[gb138]? = some (.cells #[(.slice none 0 0), (.slice none 0 0)] 32 (0, 0))) ∧ Aside0 (Below w.heap.size w wc))
 case first =>
  have H := HC5.out; clear HC5
  replace H := Option.bind_eq_some_iff.mp H
  obtain ⟨t139, A90, H⟩ := H
  (try dsimp only at H)
  have A9 := Aside0.mk A90; clear A90
  by_cases c10 : t139 = true
  ·subst c10
   rw [if_pos rfl] at H
   replace H := Option.bind_eq_some_iff.mp H
   obtain ⟨t140, A110, H⟩ := H
   (try dsimp only at H)
   have A11 := Aside0.mk A110; clear A110
   by_cases c12 : t140 = true
   ·subst c12
    rw [if_pos rfl] at H
    replace H := Option.bind_eq_some_iff.mp H
    obtain ⟨t141, A130, H⟩ := H
    (try dsimp only at H)
    have A13 := Aside0.mk A130; clear A130
    have H' := Aside0.mk H
    clear H; have hnb14 := NB136_137.out; have hnc14 := NB137_136.out; have hnb15 := NB136_138.out; have hnc15 := NB138_136.out; have Z16 := zz2 BK136
    go_wp2_with (first | ((with_reducible refine gate_callee (f := 20) rfl ?_); refine goesL_ (some 16) rfl rfl Try.func20 (by kernel_rfl) rfl #[.agg #[.slice A0_0 l0_0.length c0_0, .slice A0_1 l0_1.length c0_1]] rfl ar_ ?_; (with_reducible refine (impl_NearOk.calls k _ _ l0_0 _ _ l0_1 true _ ?side1 ?side2 ?side3 ?side4 A9.out).mono ?_); (case side1 => exact kC_ (Kd.C_below HR0_0.out HB.out)); (case side2 => exact HC0_0.out); (case side3 => exact kC_ (Kd.C_below HR0_1.out HB.out)); (case side4 => exact HC0_1.out); rintro e w17 ⟨rfl, hb⟩; refine ⟨_, rfl, ?_⟩; replace BK136 := (bbA_ BK136 hb); replace BK137 := (bbA_ BK137 hb); replace BK138 := (bbA_ BK138 hb); replace HB := (bs_ HB hb); (try clear hb); (try clear hb2); (try clear hk); (try clear hi); have hnb18 := NB137_138.out; have hnc18 := NB138_137.out; have Z19 := zz4 BK137) | (go_at_call 21; (with_reducible refine (impl_QueryOk.calls a2_0 a2_1 a2_2 a2_3 true _ A11.out).mono ?_); rintro e w20 ⟨rfl, hb⟩; replace BK136 := (bbA_ BK136 hb); replace BK137 := (bbA_ BK137 hb); replace BK138 := (bbA_ BK138 hb); replace HB := (bs_ HB hb); (try clear hb); (try clear hb2); (try clear hk); (try clear hi)) | (go_at_call 37; (with_reducible refine (impl_in.calls a3 0 999980 t141 _ A13.out).mono ?_); rintro e w' ⟨rfl, ⟨nd, rfl⟩⟩))
    go_meet
    case rel => exact ⟨_, (!t141), (by first | rfl | (simp; done) | (simp [*]; done)), H', ⟨by first | omega | exact Nat.le_refl _⟩, ⟨by refine kb_ ?_; exact BK136.out⟩, ⟨by refine kb_ ?_; exact BK137.out⟩, ⟨by refine kb_ ?_; exact BK138.out⟩, ⟨hbA_ HB.out⟩⟩
   ·replace c12 := Bool.eq_false_iff.mpr c12
    subst c12
    rw [if_neg (show ¬ (false = true) by decide)] at H
    have H' := Aside0.mk H
    clear H; have hnb21 := NB136_137.out; have hnc21 := NB137_136.out; have hnb22 := NB136_138.out; have hnc22 := NB138_136.out; have Z23 := zz2 BK136
    go_wp2_with (first | ((with_reducible refine gate_callee (f := 20) rfl ?_); refine goesL_ (some 16) rfl rfl Try.func20 (by kernel_rfl) rfl #[.agg #[.slice A0_0 l0_0.length c0_0, .slice A0_1 l0_1.length c0_1]] rfl ar_ ?_; (with_reducible refine (impl_NearOk.calls k _ _ l0_0 _ _ l0_1 true _ ?side1 ?side2 ?side3 ?side4 A9.out).mono ?_); (case side1 => exact kC_ (Kd.C_below HR0_0.out HB.out)); (case side2 => exact HC0_0.out); (case side3 => exact kC_ (Kd.C_below HR0_1.out HB.out)); (case side4 => exact HC0_1.out); rintro e w24 ⟨rfl, hb⟩; refine ⟨_, rfl, ?_⟩; replace BK136 := (bbA_ BK136 hb); replace BK137 := (bbA_ BK137 hb); replace BK138 := (bbA_ BK138 hb); replace HB := (bs_ HB hb); (try clear hb); (try clear hb2); (try clear hk); (try clear hi); have hnb25 := NB137_138.out; have hnc25 := NB138_137.out; have Z26 := zz4 BK137) | (go_at_call 21; (with_reducible refine (impl_QueryOk.calls a2_0 a2_1 a2_2 a2_3 false _ A11.out).mono ?_); rintro e w27 ⟨rfl, hb⟩; replace BK136 := (bbA_ BK136 hb); replace BK137 := (bbA_ BK137 hb); replace BK138 := (bbA_ BK138 hb); replace HB := (bs_ HB hb); (try clear hb); (try clear hb2); (try clear hk); (try clear hi)))
    go_meet
    case rel => exact ⟨_, (true), (by first | rfl | (simp; done) | (simp [*]; done)), H', ⟨by first | omega | exact Nat.le_refl _⟩, ⟨by refine kb_ ?_; exact BK136.out⟩, ⟨by refine kb_ ?_; exact BK137.out⟩, ⟨by refine kb_ ?_; exact BK138.out⟩, ⟨hbA_ HB.out⟩⟩
  ·replace c10 := Bool.eq_false_iff.mpr c10
   subst c10
   rw [if_neg (show ¬ (false = true) by decide)] at H
   have H' := Aside0.mk H
   clear H; have hnb28 := NB136_137.out; have hnc28 := NB137_136.out; have hnb29 := NB136_138.out; have hnc29 := NB138_136.out; have Z30 := zz2 BK136
   go_wp2_with (first | ((with_reducible refine gate_callee (f := 20) rfl ?_); refine goesL_ (some 16) rfl rfl Try.func20 (by kernel_rfl) rfl #[.agg #[.slice A0_0 l0_0.length c0_0, .slice A0_1 l0_1.length c0_1]] rfl ar_ ?_; (with_reducible refine (impl_NearOk.calls k _ _ l0_0 _ _ l0_1 false _ ?side1 ?side2 ?side3 ?side4 A9.out).mono ?_); (case side1 => exact kC_ (Kd.C_below HR0_0.out HB.out)); (case side2 => exact HC0_0.out); (case side3 => exact kC_ (Kd.C_below HR0_1.out HB.out)); (case side4 => exact HC0_1.out); rintro e w31 ⟨rfl, hb⟩; refine ⟨_, rfl, ?_⟩; replace BK136 := (bbA_ BK136 hb); replace BK137 := (bbA_ BK137 hb); replace BK138 := (bbA_ BK138 hb); replace HB := (bs_ HB hb); (try clear hb); (try clear hb2); (try clear hk); (try clear hi)))
   go_meet
   case rel => exact ⟨_, (true), (by first | rfl | (simp; done) | (simp [*]; done)), H', ⟨by first | omega | exact Nat.le_refl _⟩, ⟨by refine kb_ ?_; exact BK136.out⟩, ⟨by refine kb_ ?_; exact BK137.out⟩, ⟨by refine kb_ ?_; exact BK138.out⟩, ⟨hbA_ HB.out⟩⟩
 case rest =>
  clear HC5; (try clear c1); (try clear c2); (try clear p2); (try clear c10); (try clear c12); (try clear c14); (try clear c15); (try clear c18); (try clear c20); (try clear c21); (try clear c22); (try clear c25); (try clear c28); (try clear c29); (try clear Z16); (try clear Z19); (try clear Z23); (try clear Z26); (try clear Z30)
  obtain ⟨kq, x27_4, rfl, HA, HJ4, BK136, BK137, BK138, HB⟩ := hcut
  cases kq with
  | zero => exact absurd HA.out (by simp [impl_NearHear.j0])
  | succ kj4 =>
   have H := HA.out; clear HA
   simp only [impl_NearHear.j0] at H
   by_cases c32 : x27_4 = true
   ·subst c32
    rw [if_pos rfl] at H
    simp only [Option.some.injEq, Prod.mk.injEq] at H
    obtain ⟨rfl, rfl, rfl⟩ := H
    have hnb33 := NB138_136.out; have hnc33 := NB136_138.out; have hnb34 := NB138_137.out; have hnc34 := NB137_138.out; have Z35 := zz2 BK138
    go_wp2
    refine bodyPost_ret (results_ct rfl _ _ gb138 32 #[.slice none 0 0, .slice none 0 0] (0, 0) _ rfl (by refine kb_ ?_; refine pz2 (cs := #[.slice none 0 0, .slice none 0 0]) ?_; refine kb_ ?_; exact BK138.out) Try.underlying32 rfl (by kernel_rfl)) rfl ?_
    exact ⟨_, _, _, by first | rfl | (simp [errW_none, errW_some] <;> rfl) | (simp [*, errW_none, errW_some] <;> rfl), by first | exact Kd.R_nil _ _ _ _ _ | exact Kd.N_nil _ _ _ _ _ | exact Kd.V_nil _ _ _ _ _ | exact Kd.Q_nil _ _ _ _ _ | exact Kd.S_nil _ _ _ _ _, by first | exact Kd.S_nil _ _ _ _ _ | exact Kd.N_nil _ _ _ _ _ | exact Kd.V_nil _ _ _ _ _ | exact Kd.Q_nil _ _ _ _ _ | exact Kd.R_nil _ _ _ _ _, by first | exact Kd.S_nil _ _ _ _ _ | exact Kd.N_nil _ _ _ _ _ | exact Kd.V_nil _ _ _ _ _ | exact Kd.Q_nil _ _ _ _ _ | exact Kd.R_nil _ _ _ _ _, hbA_ HB.out⟩
   ·replace c32 := Bool.eq_false_iff.mpr c32
    subst c32
    rw [if_neg (show ¬ (false = true) by decide)] at H; have HC36 := Aside0.mk H; clear H; have hnb37 := NB137_136.out; have hnc37 := NB136_137.out; have hnb38 := NB137_138.out; have hnc38 := NB138_137.out; have Z39 := zz4 BK137
    go_upto_region 4 with (fail)
    go_cut [47] (fun v47 wc => ∃ (kq : Nat) (x47_35 : Bool), v47 = .bool x47_35 ∧ Aside0 (impl_NearHear.j1 kq a3 x47_35 l0_0 l0_1 a2_0 a2_1 a2_2 a2_3 = some (r1, r2, r3)) ∧ Aside0 (kq ≤ kj4) ∧ Aside0 (wc.heap[gb136]? = some (.cells #[(.slice A0_0 l0_0.length c0_0), (.slice A0_1 l0_1.length c0_1)] 32 (0, 0))) ∧ Aside0 (wc.heap[gb137]? = some (.cells #[.int .i64 a2_0, .int .i64 a2_1, .int .i64 a2_2, .int .i64 a2_3] 37 (0, 0))) ∧ Aside0 (wc.heap[gb138]? = some (.cells #[(.slice none 0 0), (.slice none 0 0)] 32 (0, 0))) ∧ Aside0 (Below w.heap.size w wc))
    case first =>
     have H := HC36.out; clear HC36
     replace H := Option.bind_eq_some_iff.mp H
     obtain ⟨t142, A400, H⟩ := H
     (try dsimp only at H)
     have A40 := Aside0.mk A400; clear A400
     by_cases c41 : t142 < 0
     ·rw [if_pos c41] at H
      have c41b0 : decide (t142 < 0) = true := decide_eq_true c41
      clear c41
      (first | rw [c41b0] | (simp only [i64_w, i32_w]; rw [c41b0]) | skip)
      by_cases c42 : a2_3 = a1
      ·rw [if_pos c42] at H
       have c42b0 : (a2_3 == a1) = true := beq_iff_eq.mpr c42
       have c42b1 : (a2_3 != a1) = false := bne_eq_false_iff_eq.mpr c42
       clear c42
       have H' := Aside0.mk H
       clear H; have hnb43 := NB136_137.out; have hnc43 := NB137_136.out; have hnb44 := NB136_138.out; have hnc44 := NB138_136.out; have Z45 := zz2 BK136; have hnb46 := NB137_138.out; have hnc46 := NB138_137.out; have Z47 := zz4 BK137
       go_wp2_with (first | ((with_reducible refine gate_callee (f := 39) rfl ?_); refine goesL_ (some 33) rfl rfl Try.func39 (by kernel_rfl) rfl #[.agg #[.slice A0_0 l0_0.length c0_0, .slice A0_1 l0_1.length c0_1], .int .i64 a2_2] rfl ar_ ?_; (with_reducible refine (impl_Near_at.calls _ _ l0_0 _ _ l0_1 a2_2 t142 _ ?side1 ?side2 ?side3 ?side4 A40.out).mono ?_); (case side1 => exact kC_ (Kd.C_below HR0_0.out HB.out)); (case side2 => exact HC0_0.out); (case side3 => exact kC_ (Kd.C_below HR0_1.out HB.out)); (case side4 => exact HC0_1.out); rintro e w48 ⟨rfl, hb⟩; refine ⟨_, rfl, ?_⟩; replace BK136 := (bbA_ BK136 hb); replace BK137 := (bbA_ BK137 hb); replace BK138 := (bbA_ BK138 hb); replace HB := (bs_ HB hb); (try clear hb); (try clear hb2); (try clear hk); (try clear hi); have Z49 := zz4 BK137))
       go_meet
       case rel => exact ⟨_, (false), (by first | rfl | (simp; done) | (simp [*]; done)), H', ⟨by have := HJ4.out; first | omega | exact Nat.le_refl _⟩, ⟨by refine kb_ ?_; exact BK136.out⟩, ⟨by refine kb_ ?_; exact BK137.out⟩, ⟨by refine kb_ ?_; exact BK138.out⟩, ⟨hbA_ HB.out⟩⟩
      ·rw [if_neg c42] at H
       have c42b0 : (a2_3 == a1) = false := beq_eq_false_iff_ne.mpr c42
       have c42b1 : (a2_3 != a1) = true := bne_iff_ne.mpr c42
       replace H := Option.bind_eq_some_iff.mp H
       obtain ⟨t143, A500, H⟩ := H
       (try dsimp only at H)
       have A50 := Aside0.mk A500; clear A500
       have H' := Aside0.mk H
       clear H; have hnb51 := NB136_137.out; have hnc51 := NB137_136.out; have hnb52 := NB136_138.out; have hnc52 := NB138_136.out; have Z53 := zz2 BK136; have hnb54 := NB137_138.out; have hnc54 := NB138_137.out; have Z55 := zz4 BK137
       go_wp2_with (first | ((with_reducible refine gate_callee (f := 39) rfl ?_); refine goesL_ (some 33) rfl rfl Try.func39 (by kernel_rfl) rfl #[.agg #[.slice A0_0 l0_0.length c0_0, .slice A0_1 l0_1.length c0_1], .int .i64 a2_2] rfl ar_ ?_; (with_reducible refine (impl_Near_at.calls _ _ l0_0 _ _ l0_1 a2_2 t142 _ ?side1 ?side2 ?side3 ?side4 A40.out).mono ?_); (case side1 => exact kC_ (Kd.C_below HR0_0.out HB.out)); (case side2 => exact HC0_0.out); (case side3 => exact kC_ (Kd.C_below HR0_1.out HB.out)); (case side4 => exact HC0_1.out); rintro e w56 ⟨rfl, hb⟩; refine ⟨_, rfl, ?_⟩; replace BK136 := (bbA_ BK136 hb); replace BK137 := (bbA_ BK137 hb); replace BK138 := (bbA_ BK138 hb); replace HB := (bs_ HB hb); (try clear hb); (try clear hb2); (try clear hk); (try clear hi); have Z57 := zz4 BK137; have Z58 := zz2 BK136) | (go_at_call 40; (with_reducible refine (impl_NearHear_has.calls _ _ l0_1 a2_0 a2_1 a2_2 a2_3 t143 _ ?side1 ?side2 A50.out ?hqq).mono ?_); (case hqq => exact kf_ BK137.out); (case side1 => exact kC_ (Kd.C_below HR0_1.out HB.out)); (case side2 => exact HC0_1.out); rintro e w59 ⟨rfl, hb⟩; replace BK136 := (bbA_ BK136 hb); replace BK137 := (bbA_ BK137 hb); replace BK138 := (bbA_ BK138 hb); replace HB := (bs_ HB hb); (try clear hb); (try clear hb2); (try clear hk); (try clear hi)))
       go_meet
       case rel => exact ⟨_, (!t143), (by first | rfl | (simp; done) | (simp [*]; done)), H', ⟨by have := HJ4.out; first | omega | exact Nat.le_refl _⟩, ⟨by refine kb_ ?_; exact BK136.out⟩, ⟨by refine kb_ ?_; exact BK137.out⟩, ⟨by refine kb_ ?_; exact BK138.out⟩, ⟨hbA_ HB.out⟩⟩
     ·rw [if_neg c41] at H
      have c41b0 : decide (t142 < 0) = false := decide_eq_false c41
      clear c41
      (first | rw [c41b0] | (simp only [i64_w, i32_w]; rw [c41b0]) | skip)
      have H' := Aside0.mk H
      clear H; have hnb60 := NB136_137.out; have hnc60 := NB137_136.out; have hnb61 := NB136_138.out; have hnc61 := NB138_136.out; have Z62 := zz2 BK136; have hnb63 := NB137_138.out; have hnc63 := NB138_137.out; have Z64 := zz4 BK137
      go_wp2_with (first | ((with_reducible refine gate_callee (f := 39) rfl ?_); refine goesL_ (some 33) rfl rfl Try.func39 (by kernel_rfl) rfl #[.agg #[.slice A0_0 l0_0.length c0_0, .slice A0_1 l0_1.length c0_1], .int .i64 a2_2] rfl ar_ ?_; (with_reducible refine (impl_Near_at.calls _ _ l0_0 _ _ l0_1 a2_2 t142 _ ?side1 ?side2 ?side3 ?side4 A40.out).mono ?_); (case side1 => exact kC_ (Kd.C_below HR0_0.out HB.out)); (case side2 => exact HC0_0.out); (case side3 => exact kC_ (Kd.C_below HR0_1.out HB.out)); (case side4 => exact HC0_1.out); rintro e w65 ⟨rfl, hb⟩; refine ⟨_, rfl, ?_⟩; replace BK136 := (bbA_ BK136 hb); replace BK137 := (bbA_ BK137 hb); replace BK138 := (bbA_ BK138 hb); replace HB := (bs_ HB hb); (try clear hb); (try clear hb2); (try clear hk); (try clear hi)))
      go_meet
      case rel => exact ⟨_, (false), (by first | rfl | (simp; done) | (simp [*]; done)), H', ⟨by have := HJ4.out; first | omega | exact Nat.le_refl _⟩, ⟨by refine kb_ ?_; exact BK136.out⟩, ⟨by refine kb_ ?_; exact BK137.out⟩, ⟨by refine kb_ ?_; exact BK138.out⟩, ⟨hbA_ HB.out⟩⟩
    case rest =>
     clear HC36; (try clear c1); (try clear c2); (try clear p2); (try clear c3); (try clear c4); (try clear c5); (try clear c6); (try clear c10); (try clear c12); (try clear c14); (try clear c15); (try clear c18); (try clear c20); (try clear c21); (try clear c22); (try clear c25); (try clear c28); (try clear c29); (try clear c32); (try clear c33); (try clear c34); (try clear c37); (try clear c38); (try clear c39); (try clear c41); (try clear c41b0); (try clear c42); (try clear c42b0); (try clear c42b1); (try clear c43); (try clear c44); (try clear c46); (try clear c51); (try clear c52); (try clear c54); (try clear c60); (try clear c61); (try clear c63); (try clear Z16); (try clear Z19); (try clear Z23); (try clear Z26); (try clear Z30); (try clear Z35); (try clear Z39); (try clear Z45); (try clear Z47); (try clear Z49); (try clear Z53); (try clear Z55); (try clear Z57); (try clear Z58); (try clear Z62); (try clear Z64); (try clear p2)
     obtain ⟨kq, x47_35, rfl, HA, HJ35, BK136, BK137, BK138, HB⟩ := hcut
     cases kq with
     | zero => exact absurd HA.out (by simp [impl_NearHear.j1])
     | succ kj35 =>
      have H := HA.out; clear HA
      simp only [impl_NearHear.j1] at H
      by_cases c66 : x47_35 = true
      ·subst c66
       rw [if_pos rfl] at H
       replace H := Option.bind_eq_some_iff.mp H
       obtain ⟨⟨t144, t147⟩, A670, H⟩ := H
       (try dsimp only at H)
       have A67 := Aside0.mk A670; clear A670
       simp only [Option.some.injEq, Prod.mk.injEq] at H
       obtain ⟨rfl, rfl, rfl⟩ := H
       have hnb68 := NB136_137.out; have hnc68 := NB137_136.out; have hnb69 := NB136_138.out; have hnc69 := NB138_136.out; have Z70 := zz2 BK136
       go_wp2_with (first | ((with_reducible refine gate_callee (f := 41) rfl ?_); refine goesL_ (some 49) rfl rfl Try.func41 (by kernel_rfl) rfl #[.agg #[.slice A0_0 l0_0.length c0_0, .slice A0_1 l0_1.length c0_1]] rfl ar_ ?_; (with_reducible refine (impl_Near_copy.calls kj35 _ _ l0_0 _ _ l0_1 t144 t147 _ ?side1 ?side2 ?side3 ?side4 A67.out).mono ?_); (case side1 => exact kC_ (Kd.C_below HR0_0.out HB.out)); (case side2 => exact HC0_0.out); (case side3 => exact kC_ (Kd.C_below HR0_1.out HB.out)); (case side4 => exact HC0_1.out); rintro e w71 ⟨v145, v148, rfl, ho0, ho1, hb⟩; refine ⟨_, rfl, ?_⟩; have HO146 := Aside0.mk (Kd.R_lower ho0 (below_size (hbA_ HB.out))); have HO149 := Aside0.mk (Kd.S_lower ho1 (below_size (hbA_ HB.out))); replace BK136 := (bbA_ BK136 hb); replace BK137 := (bbA_ BK137 hb); replace BK138 := (bbA_ BK138 hb); replace HB := (bs_ HB hb); (try clear hb); (try clear hb2); (try clear hk); (try clear hi); (try clear ho0); (try clear ho1); obtain ⟨Ao72, co72, eo72⟩ := Kd.R_slice HO146.out; subst eo72; have hnb73 := NB138_137.out; have hnc73 := NB137_138.out; have Z74 := zz2 BK138; obtain ⟨Ao75, co75, eo75⟩ := Kd.S_slice HO149.out; subst eo75))
       refine bodyPost_ret (results_ct rfl _ _ gb138 32 #[.slice Ao72 t144.length co72, .slice Ao75 t147.length co75] (0, 0) _ rfl (by refine kb_ ?_; refine pz2 (cs := #[.slice none 0 0, .slice none 0 0]) ?_; refine kb_ ?_; exact BK138.out) Try.underlying32 rfl (by kernel_rfl)) rfl ?_
       exact ⟨_, _, _, by first | rfl | (simp [errW_none, errW_some] <;> rfl) | (simp [*, errW_none, errW_some] <;> rfl), by refine kR_ ?_; exact rfm_ ((Kd.R_types HO146.out BK138.out (by decide))) (fun _ hk => trivial), by refine kS_ ?_; exact Kd.S_mono (Kd.S_far (p := ⟨gb138, 1, none⟩) (Kd.S_far (p := ⟨gb138, 0, none⟩) (Kd.S_types HO149.out BK138.out (by decide)) (fun _ hk => hk.2) (.slice Ao72 t144.length co72)) (fun _ hk => hk.2) (.slice Ao75 t147.length co75)) (fun _ hk => trivial), by first | exact Kd.S_nil _ _ _ _ _ | exact Kd.N_nil _ _ _ _ _ | exact Kd.V_nil _ _ _ _ _ | exact Kd.Q_nil _ _ _ _ _ | exact Kd.R_nil _ _ _ _ _, hbA_ HB.out⟩
      ·replace c66 := Bool.eq_false_iff.mpr c66
       subst c66
       rw [if_neg (show ¬ (false = true) by decide)] at H
       replace H := Option.bind_eq_some_iff.mp H
       obtain ⟨⟨t150, t153⟩, A760, H⟩ := H
       (try dsimp only at H)
       have A76 := Aside0.mk A760; clear A760
       obtain ⟨y157, hy157⟩ : ∃ y_ : List (S63), y_ = (t150.filter (fun h_ => !(h_.f0 == a2_2))) := ⟨_, rfl⟩
       (first | replace H := sb_ hy157 H | rw [← hy157] at H)
       have Ny157 := Aside0.mk hy157; clear hy157
       by_cases c77 : y157.length < 5864062014805
       ·rw [if_pos c77] at H
        have LMc77 := Aside0.mk c77; clear c77
        obtain ⟨y160, hy160⟩ : ∃ y_ : List (S63), y_ = (y157 ++ [(⟨a2_2, a2_1, wrap64 (a3 + 20)⟩ : S63)]) := ⟨_, rfl⟩
        (first | replace H := sb_ hy160 H | rw [← hy160] at H)
        have Ny160 := Aside0.mk hy160; clear hy160
        obtain ⟨ji78, hji78⟩ : ∃ j_ : Int, (mx 0 (wrap64 ((y160.length : Int) - 4))) = j_ := ⟨_, rfl⟩
        (first | rw [hji78] at H | simp only [hji78] at H)
        (try rw [hji78] at A76)
        (try (have hji78l : 0 ≤ ji78 := by (rw [← hji78]; unfold mx; (repeat' split) <;> omega)))
        (try (have hji78m : 0 ≤ ji78 := by omega))
        have hji78_ : (if 0 < (wrap64 ((y160.length : Int) - 4)) then (wrap64 ((y160.length : Int) - 4)) else 0) = ji78 := hji78
        by_cases c79 : 0 ≤ (ji78)
        ·rw [if_pos c79] at H
         have c79b0 := eq_true c79
         have c79b1 : decide (0 ≤ (ji78)) = true := decide_eq_true c79
         clear c79
         by_cases c80 : (ji78) ≤ (y160.length : Int)
         ·rw [if_pos c80] at H
          have c80b0 := eq_true c80
          have c80b1 : decide ((ji78) ≤ (y160.length : Int)) = true := decide_eq_true c80
          clear c80
          obtain ⟨y163, hy163⟩ : ∃ y_ : List (S63), y_ = (y160.drop ((ji78) : Int).toNat) := ⟨_, rfl⟩
          (first | replace H := sb_ hy163 H | rw [← hy163] at H)
          have Ny163 := Aside0.mk hy163; clear hy163
          have H' := Aside0.mk H
          clear H; have hnb81 := NB136_137.out; have hnc81 := NB137_136.out; have hnb82 := NB136_138.out; have hnc82 := NB138_136.out; have Z83 := zz2 BK136
          go_wp2_with (first | ((with_reducible refine gate_callee (f := 41) rfl ?_); refine goesL_ (some 51) rfl rfl Try.func41 (by kernel_rfl) rfl #[.agg #[.slice A0_0 l0_0.length c0_0, .slice A0_1 l0_1.length c0_1]] rfl ar_ ?_; (with_reducible refine (impl_Near_copy.calls kj35 _ _ l0_0 _ _ l0_1 t150 t153 _ ?side1 ?side2 ?side3 ?side4 A76.out).mono ?_); (case side1 => exact kC_ (Kd.C_below HR0_0.out HB.out)); (case side2 => exact HC0_0.out); (case side3 => exact kC_ (Kd.C_below HR0_1.out HB.out)); (case side4 => exact HC0_1.out); rintro e w84 ⟨v151, v154, rfl, ho0, ho1, hb⟩; refine ⟨_, rfl, ?_⟩; have HO152 := Aside0.mk (Kd.R_lower ho0 (below_size (hbA_ HB.out))); have HO155 := Aside0.mk (Kd.S_lower ho1 (below_size (hbA_ HB.out))); replace BK136 := (bbA_ BK136 hb); replace BK137 := (bbA_ BK137 hb); replace BK138 := (bbA_ BK138 hb); replace HB := (bs_ HB hb); (try clear hb); (try clear hb2); (try clear hk); (try clear hi); (try clear ho0); (try clear ho1)) | ((with_reducible refine gate_dst (N := 11) rfl ?_); refine box_ (N := 11) (cs := #[.slice none 0 0, .slice none 0 0]) (t := 32) (fun gb156 hg w85 hbox hb => ?_); replace HO152 := Aside0.mk (Kd.R_below (kR_ HO152.out) hb); replace HO155 := Aside0.mk (Kd.S_below (kS_ HO155.out) hb); have BK156 := Aside0.mk (hbox); have GW156 := ge_ hg HB; have GE156 := ge_ hg HB; replace HB := (bs_ HB hb); have NB136_156 := nl_ hg BK136; have NB156_136 := ng_ hg BK136; replace BK136 := (bbA_ BK136 hb); have NB137_156 := nl_ hg BK137; have NB156_137 := ng_ hg BK137; replace BK137 := (bbA_ BK137 hb); have NB138_156 := nl_ hg BK138; have NB156_138 := ng_ hg BK138; replace BK138 := (bbA_ BK138 hb); clear hb hbox hg; obtain ⟨Ao86, co86, eo86⟩ := Kd.R_slice HO152.out; subst eo86; have hnb87 := NB156_136.out; have hnc87 := NB136_156.out; have hnb88 := NB156_137.out; have hnc88 := NB137_156.out; have hnb89 := NB156_138.out; have hnc89 := NB138_156.out; have Z90 := zz2 BK156; obtain ⟨Ao91, co91, eo91⟩ := Kd.S_slice HO155.out; subst eo91) | ((with_reducible refine gate_store (t := 32) (p := 11) rfl ?_); refine store_event (t := 32) (p := 11) (v := ?vo_w92) (w1 := ((w85.setCell ⟨gb156, 0, none⟩ (.slice Ao86 t150.length co86)).setCell ⟨gb156, 1, none⟩ (.slice Ao91 t153.length co91))) ?hg ?ho ?hn ?hr ?_; (case ho => rfl); (case hg => rfl); (case hn => rfl); (case hr => first | (go_simp; done) | (go_simp; rfl)); intro w92 hw; have n0_ : Aside0 (Kd.R k63 63 w92 w.heap.size (fun _ => True) (.slice Ao86 t150.length co86) t150) := ⟨(by rw [hw]; exact (by refine kR_ ?_; exact rfm_ ((Kd.R_types HO152.out BK156.out (by decide))) (fun _ hk => trivial)))⟩; have n1_ : Aside0 (Kd.S k65 65 w92 w.heap.size (fun _ => True) (.slice Ao91 t153.length co91) t153) := ⟨(by rw [hw]; exact (by refine kS_ ?_; exact Kd.S_mono (Kd.S_far (p := ⟨gb156, 1, none⟩) (Kd.S_far (p := ⟨gb156, 0, none⟩) (Kd.S_types HO155.out BK156.out (by decide)) (fun _ hk => hk.2) (.slice Ao86 t150.length co86)) (fun _ hk => hk.2) (.slice Ao91 t153.length co91)) (fun _ hk => trivial)))⟩; have n2_ : Aside0 (w92.heap[gb136]? = some (.cells #[.slice A0_0 l0_0.length c0_0, .slice A0_1 l0_1.length c0_1] 32 (0, 0))) := ⟨(by rw [hw]; exact (by exact kf_ BK136.out))⟩; have n3_ : Aside0 (w92.heap[gb137]? = some (.cells #[.int .i64 a2_0, .int .i64 a2_1, .int .i64 a2_2, .int .i64 a2_3] 37 (0, 0))) := ⟨(by rw [hw]; exact (by exact kf_ BK137.out))⟩; have n4_ : Aside0 (w92.heap[gb138]? = some (.cells #[.slice none 0 0, .slice none 0 0] 32 (0, 0))) := ⟨(by rw [hw]; exact (by exact kf_ BK138.out))⟩; have n5_ : Aside0 (w92.heap[gb156]? = some (.cells #[.slice Ao86 t150.length co86, .slice Ao91 t153.length co91] 32 (0, 0))) := ⟨(by rw [hw]; exact (by refine kb_ ?_; refine pz2 (cs := #[.slice none 0 0, .slice none 0 0]) ?_; refine kb_ ?_; exact BK156.out))⟩; have n6_ : Aside0 (Below w.heap.size w w92) := ⟨(by rw [hw]; exact (hbA_ HB.out))⟩; clear hw; clear HO152; clear HO155; clear BK136; clear BK137; clear BK138; clear BK156; clear HB; have HO152 := n0_; have HO155 := n1_; have BK136 := n2_; have BK137 := n3_; have BK138 := n4_; have BK156 := n5_; have HB := n6_; clear n0_ n1_ n2_ n3_ n4_ n5_ n6_; have Z93 := zz2 BK156; have hnb94 := NB137_138.out; have hnc94 := NB138_137.out; have Z95 := zz4 BK137) | ((with_reducible refine gate_callee (f := 42) rfl ?_); refine goesL_ (some 55) rfl rfl Try.func42 (by kernel_rfl) rfl #[.slice Ao86 t150.length co86, .func (.func 43) #[] #[.pointer (some ⟨gb137, 0, none⟩)]] rfl (by (try simp only [List.map_toArray, List.map_cons, List.map_nil]); first | done | rfl) ?_; refine (impl_NearEntry_42.calls (w0 := w) (base := w.heap.size) (gq := gb137) (A := Ao86) (n := t150.length) (c := co86) a2_0 a2_1 a2_2 a2_3 (kR_ HO152.out) (hbA_ HB.out) (below_size (hbA_ HB.out)) (kb_ BK137.out)).mono ?_; rintro e w96 ⟨m_, rfl, em_, ho, hb, hg⟩; refine ⟨_, rfl, ?_⟩; rw [← Ny157.out] at ho em_; subst em_; replace BK136 := (bgA_ BK136 hg (Kd.R_ne HO152.out BK136.out (by decide))); replace BK137 := (bgA_ BK137 hg (Kd.R_ne HO152.out BK137.out (by decide))); replace BK138 := (bgA_ BK138 hg (Kd.R_ne HO152.out BK138.out (by decide))); replace HO155 := Aside0.mk (Kd.S_over' (v := (.slice Ao86 t150.length co86)) (kS_ HO155.out) (Kd.R_typed HO152.out) (by decide) hg); replace BK156 := (bgA_ BK156 hg (Kd.R_ne HO152.out BK156.out (by decide))); replace HO152 := Aside0.mk (ho); replace HB := Aside0.mk (hb); clear ho hb hg; have Z98 := zz2 BK156; have Z99 := zz4 BK137) | ((with_reducible refine gate_builtin (b := .append) (xs := #[.tmp 58, .tmp 66]) rfl ?_); at_builtin; refine Kd.R_append k63 (w0 := w) w.heap.size rfl (.tmp 58) (.tmp 66) 29 63 (.agg #[(.int .i64 0), (.int .i64 0), (.int .i64 0)]) 24 rfl Try.underlying29 info63 rfl (by decide) (by omega) (.slice Ao86 y157.length co86) y157 (⟨a2_2, a2_1, wrap64 (a3 + 20)⟩ : S63) [.int .i64 a2_2, .int .i64 a2_1, .int .i64 (wrap64 (a3 + 20))] (fun _ => True) (fun _ => False) rfl (by first | (go_simp; done) | (go_simp; rfl)) ?aP (fun _ hk => hk.elim) ?aF ?aO ?aB ?aS ?aL ?_; (case aP => exact k63_mkM _ _ _ (⟨a2_2, a2_1, wrap64 (a3 + 20)⟩ : S63)); (case aB => exact (hbA_ HB.out)); (case aF => exact (fun _ _ => trivial)); (case aO => exact (by refine kR_ ?_; exact Kd.R_mono (Kd.R_f gb156 0 (.slice Ao86 y157.length co86) (Kd.R_types HO152.out BK156.out (by decide))) (fun _ hk => trivial))); (case aS => exact (below_size (hbA_ HB.out))); (case aL => have := LMc77.out; omega); intro v161 w100 ho hb hg hat; rw [← Ny160.out] at ho; replace BK136 := Aside0.mk (blk_grown (g := gb136) (o := .cells #[.slice A0_0 l0_0.length c0_0, .slice A0_1 l0_1.length c0_1] 32 (0, 0)) (by exact kf_ BK136.out) hg (Kd.R_ne HO152.out BK136.out (by decide))); replace BK137 := Aside0.mk (blk_grown (g := gb137) (o := .cells #[.int .i64 a2_0, .int .i64 a2_1, .int .i64 a2_2, .int .i64 a2_3] 37 (0, 0)) (by exact kf_ BK137.out) hg (Kd.R_ne HO152.out BK137.out (by decide))); replace BK138 := Aside0.mk (blk_grown (g := gb138) (o := .cells #[.slice none 0 0, .slice none 0 0] 32 (0, 0)) (by exact kf_ BK138.out) hg (Kd.R_ne HO152.out BK138.out (by decide))); replace HO155 := Aside0.mk (Kd.S_over' (by refine kS_ ?_; exact (Kd.S_mono (Kd.S_far (p := ⟨gb156, 0, none⟩) (Kd.S_types HO155.out BK156.out (by decide)) (fun _ hk => hk.2) (.slice Ao86 y157.length co86)) (fun _ h_ => op1_ h_))) (Kd.R_typed (by refine kR_ ?_; exact (Kd.R_mono (Kd.R_f gb156 0 (.slice Ao86 y157.length co86) (Kd.R_types HO152.out BK156.out (by decide))) (fun _ h_ => op1_ h_)))) (by decide) hg); replace BK156 := Aside0.mk (blk_grown (g := gb156) (o := .cells #[.slice Ao86 y157.length co86, .slice Ao91 t153.length co91] 32 (0, 0)) (by refine kb_ ?_; refine blk_put (cs := #[.slice Ao86 t150.length co86, .slice Ao91 t153.length co91]) ?_ 0 _ rfl; refine kb_ ?_; exact BK156.out) hg (Kd.R_ne HO152.out BK156.out (by decide))); replace HB := Aside0.mk (hb); have HO162 := Aside0.mk (ho); clear HO152; clear ho hb hg hat; obtain ⟨Ao101, co101, eo101⟩ := Kd.R_slice HO162.out; subst eo101; have Z102 := zz2 BK156) | ((with_reducible refine gate_store (t := 29) (p := 68) rfl ?_); refine store_event (t := 29) (p := 68) (v := ?vo_w103) (w1 := (w100.setCell ⟨gb156, 0, none⟩ (.slice Ao101 y160.length co101))) ?hg ?ho ?hn ?hr ?_; (case ho => rfl); (case hg => rfl); (case hn => rfl); (case hr => first | (go_simp; done) | (go_simp; rfl)); intro w103 hw; have n0_ : Aside0 (Kd.S k65 65 w103 w.heap.size (fun _ => True) (.slice Ao91 t153.length co91) t153) := ⟨(by rw [hw]; exact (by refine kS_ ?_; exact Kd.S_mono (Kd.S_far (p := ⟨gb156, 0, none⟩) (Kd.S_types HO155.out BK156.out (by decide)) (fun _ hk => hk.2) (.slice Ao101 y160.length co101)) (fun _ hk => trivial)))⟩; have n1_ : Aside0 (Kd.R k63 63 w103 w.heap.size (fun _ => True) (.slice Ao101 y160.length co101) y160) := ⟨(by rw [hw]; exact (by refine kR_ ?_; exact Kd.R_mono (Kd.R_f gb156 0 (.slice Ao101 y160.length co101) (Kd.R_types HO162.out BK156.out (by decide))) (fun _ hk => trivial)))⟩; have n2_ : Aside0 (w103.heap[gb136]? = some (.cells #[.slice A0_0 l0_0.length c0_0, .slice A0_1 l0_1.length c0_1] 32 (0, 0))) := ⟨(by rw [hw]; exact (by exact kf_ BK136.out))⟩; have n3_ : Aside0 (w103.heap[gb137]? = some (.cells #[.int .i64 a2_0, .int .i64 a2_1, .int .i64 a2_2, .int .i64 a2_3] 37 (0, 0))) := ⟨(by rw [hw]; exact (by exact kf_ BK137.out))⟩; have n4_ : Aside0 (w103.heap[gb138]? = some (.cells #[.slice none 0 0, .slice none 0 0] 32 (0, 0))) := ⟨(by rw [hw]; exact (by exact kf_ BK138.out))⟩; have n5_ : Aside0 (w103.heap[gb156]? = some (.cells #[.slice Ao101 y160.length co101, .slice Ao91 t153.length co91] 32 (0, 0))) := ⟨(by rw [hw]; exact (by refine kb_ ?_; refine blk_put (cs := #[.slice Ao86 y157.length co86, .slice Ao91 t153.length co91]) ?_ 0 _ rfl; refine kb_ ?_; exact BK156.out))⟩; have n6_ : Aside0 (Below w.heap.size w w103) := ⟨(by rw [hw]; exact (hbA_ HB.out))⟩; clear hw; clear HO155; clear HO162; clear BK136; clear BK137; clear BK138; clear BK156; clear HB; have HO155 := n0_; have HO162 := n1_; have BK136 := n2_; have BK137 := n3_; have BK138 := n4_; have BK156 := n5_; have HB := n6_; clear n0_ n1_ n2_ n3_ n4_ n5_ n6_; have Z104 := zz2 BK156; have q105 : ((ji78) : Int) ≤ ((y160.length : Int) : Int) := of_decide_eq_true (by first | (with_reducible assumption) | assumption); obtain ⟨i0105, hi0105, _, hsz105, _⟩ := info_parts info63; have hcut105 := cut_from (P := Try.prog) 29 63 .i64 Try.underlying29 hi0105 3 hsz105 Ao101 y160.length co101 (ji78) (of_decide_eq_true (by first | (with_reducible assumption) | assumption)) q105; have hr105 := Kd.Q_drop (k := ((ji78) : Int).toNat) (Kd.Q_of_R HO162.out) (by omega); obtain ⟨A105, hA105⟩ : ∃ A1, A1 = (if co101 = ((ji78) : Int).toNat then Ao101 else (Ao101 : Option Addr).map (·.add (((ji78) : Int).toNat * 3))) := ⟨_, rfl⟩; obtain ⟨c105, hc105⟩ : ∃ c1, c1 = co101 - ((ji78) : Int).toNat := ⟨_, rfl⟩; have hy105 : y163.length = y160.length - ((ji78) : Int).toNat := (by rw [Ny163.out, List.length_drop]); rw [← Ny163.out] at hr105; rw [← hy105, ← hA105, ← hc105] at hcut105; replace hr105 : Kd.Q k63 63 w103 w.heap.size (fun _ => True) (.slice A105 y163.length c105) y163 := (by rw [hA105, hc105, hy105]; exact hr105); have HE105 : Aside0 ((Value.slice A105 y163.length c105).ownBlock = (.slice Ao101 y160.length co101 : Value).ownBlock) := ⟨by rw [hA105]; split <;> (cases (Ao101 : Option Addr) <;> first | rfl | simp [Value.ownBlock, add_block])⟩; clear hy105 hi0105 hsz105 HO162 hA105 hc105; have HO165 := Aside0.mk hr105; clear hr105; replace q105 := eq_true q105; have Z106 := zz2 BK136))
          go_loopg [12, 81] kj35 (fun kq v12 v81 w' => ∃ (x12_3 : List (List Int)) (x81_3 : Int), v81 = .int .i64 x81_3 ∧ Aside0 (impl_NearHear.l0 kq x12_3 l0_1 (l0_1.length : Int) x81_3 a2_0 a2_1 a2_2 a2_3 y163 t153 = some (r1, r2, r3)) ∧ Aside0 (kq ≤ kj35) ∧ Aside0 (Kd.S (Kd.slice 5 (Kd.int .u8)) 44 w' w.heap.size (fun _ => True) v12 x12_3) ∧ Aside0 (Kd.Q k63 63 w' w.heap.size (fun _ => True) (.slice A105 y163.length c105) y163) ∧ Aside0 (Kd.S k65 65 w' w.heap.size (fun _ => True) (.slice Ao91 t153.length co91) t153) ∧ Aside0 (w'.heap[gb136]? = some (.cells #[(.slice A0_0 l0_0.length c0_0), (.slice A0_1 l0_1.length c0_1)] 32 (0, 0))) ∧ Aside0 (w'.heap[gb137]? = some (.cells #[.int .i64 a2_0, .int .i64 a2_1, .int .i64 a2_2, .int .i64 a2_3] 37 (0, 0))) ∧ Aside0 (w'.heap[gb138]? = some (.cells #[(.slice none 0 0), (.slice none 0 0)] 32 (0, 0))) ∧ Aside0 (w'.heap[gb156]? = some (.cells #[(.slice A105 y163.length c105), (.slice Ao91 t153.length co91)] 32 (0, 0))) ∧ Aside0 (Below w.heap.size w w'))
          case atStart => exact ⟨(([] : List (List Int))), (0), (by first | rfl | (simp; done) | (simp [*]; done)), H', ⟨Nat.le_refl _⟩, ⟨by first | exact Kd.S_nil _ _ _ _ _ | exact Kd.N_nil _ _ _ _ _ | exact Kd.V_nil _ _ _ _ _ | exact Kd.Q_nil _ _ _ _ _ | exact Kd.R_nil _ _ _ _ _⟩, ⟨by (with_reducible repeat (first | apply Kd.Q_alloc | apply Kd.Q_drewN | apply Kd.Q_drew)); exact Kd.Q_mono (Kd.Q_far (p := ⟨gb156, 0, none⟩) (Kd.Q_types HO165.out BK156.out (by decide)) (fun _ hk => hk.2) (.slice A105 y163.length c105)) (fun _ hk => trivial)⟩, ⟨by refine kS_ ?_; exact Kd.S_mono (Kd.S_far (p := ⟨gb156, 0, none⟩) (Kd.S_types HO155.out BK156.out (by decide)) (fun _ hk => hk.2) (.slice A105 y163.length c105)) (fun _ hk => trivial)⟩, ⟨by exact kf_ BK136.out⟩, ⟨by exact kf_ BK137.out⟩, ⟨by exact kf_ BK138.out⟩, ⟨by refine kb_ ?_; refine blk_put (cs := #[.slice Ao101 y160.length co101, .slice Ao91 t153.length co91]) ?_ 0 _ rfl; refine kb_ ?_; exact BK156.out⟩, ⟨hbA_ HB.out⟩⟩
          case round =>
           clear H'; (try clear c1); (try clear q1); (try clear c2); (try clear p2); (try clear c3); (try clear c4); (try clear c5); (try clear c6); (try clear p6); (try clear c7); (try clear c8); (try clear c9); (try clear c10); (try clear q10); (try clear c12); (try clear c14); (try clear c15); (try clear c18); (try clear c20); (try clear c21); (try clear c22); (try clear c25); (try clear c28); (try clear c29); (try clear c32); (try clear c33); (try clear c34); (try clear c37); (try clear c38); (try clear c39); (try clear c41); (try clear c41b0); (try clear c42); (try clear c42b0); (try clear c42b1); (try clear c43); (try clear c44); (try clear c46); (try clear c51); (try clear c52); (try clear c54); (try clear c60); (try clear c61); (try clear c63); (try clear p64); (try clear c66); (try clear c68); (try clear c69); (try clear c73); (try clear c77); (try clear c79); (try clear c79b0); (try clear c79b1); (try clear c80); (try clear c80b0); (try clear c80b1); (try clear c81); (try clear c82); (try clear c87); (try clear c88); (try clear c89); (try clear c94); (try clear c105); (try clear q105); (try clear Z102); (try clear Z104); (try clear Z106); (try clear Z16); (try clear Z19); (try clear Z23); (try clear Z26); (try clear Z30); (try clear Z35); (try clear Z39); (try clear Z45); (try clear Z47); (try clear Z49); (try clear Z53); (try clear Z55); (try clear Z57); (try clear Z58); (try clear Z62); (try clear Z64); (try clear Z70); (try clear Z74); (try clear Z83); (try clear Z90); (try clear Z93); (try clear Z95); (try clear Z98); (try clear Z99)
           (try clear p2); (try clear q105)
           obtain ⟨x12_3, x81_3, rfl, HA, HK3, HO_12, HO_157000, HO_157001, BK136, BK137, BK138, BK156, HB⟩ := hrel
           cases gk with
           | zero => exact absurd HA.out (by simp [impl_NearHear.l0])
           | succ k3 =>
            have H := HA.out; clear HA
            simp only [impl_NearHear.l0] at H
            by_cases c107 : x81_3 < (l0_1.length : Int)
            ·rw [if_pos c107] at H
             have c107b0 : decide (x81_3 < (l0_1.length : Int)) = true := decide_eq_true c107
             clear c107
             by_cases c108 : 0 ≤ x81_3
             ·rw [if_pos c108] at H
              have c108b0 : decide (0 ≤ x81_3) = true := decide_eq_true c108
              clear c108
              by_cases c109 : x81_3 < (l0_1.length : Int)
              ·rw [if_pos c109] at H
               have c109b0 : decide (x81_3 < (l0_1.length : Int)) = true := decide_eq_true c109
               clear c109
               replace H := Option.bind_eq_some_iff.mp H
               obtain ⟨t168, A1100, H⟩ := H
               (try dsimp only at H)
               have A110 := Aside0.mk A1100; clear A1100
               by_cases c111 : t168 = true
               ·subst c111
                rw [if_pos rfl] at H
                replace H := Option.bind_eq_some_iff.mp H
                obtain ⟨t169, A1120, H⟩ := H
                (try dsimp only at H)
                have A112 := Aside0.mk A1120; clear A1120
                by_cases c113 : x12_3.length < 5864062014805
                ·rw [if_pos c113] at H
                 have LMc113 := Aside0.mk c113; clear c113
                 obtain ⟨y172, hy172⟩ : ∃ y_ : List (List Int), y_ = (x12_3 ++ [t169]) := ⟨_, rfl⟩
                 (first | replace H := sb_ hy172 H | rw [← hy172] at H)
                 have Ny172 := Aside0.mk hy172; clear hy172
                 have H' := Aside0.mk H
                 clear H
                 have p166 : 0 ≤ (x81_3 : Int) := of_decide_eq_true (by first | (with_reducible assumption) | assumption)
                 have q166 : x81_3 < (l0_1.length : Int) := of_decide_eq_true (by first | (with_reducible assumption) | assumption)
                 obtain ⟨ad166, A166_1, c166_1, e166, hx166_0, hx166_1, hl166_1, hi166_1⟩ := at_T65 HR0_1.out x81_3 p166 q166
                 cases e166
                 replace hx166_0 := cc_ HB hx166_0
                 replace hx166_1 := cc_ HB hx166_1
                 have HR166_1 := Aside0.mk hi166_1; have HC166_1 := Aside0.mk hl166_1; clear hi166_1 hl166_1
                 replace p166 := eq_true p166
                 replace q166 := eq_true q166
                 go_wp2_with (first | ((with_reducible refine gate_dst (N := 14) rfl ?_); refine box_ (N := 14) (cs := #[.int .i64 0, .slice none 0 0]) (t := 65) (fun gb167 hg w114 hbox hb => ?_); replace HO_12 := Aside0.mk (Kd.S_below (kS_ HO_12.out) hb); replace HO_157000 := Aside0.mk (Kd.Q_below (by (with_reducible repeat (first | apply Kd.Q_alloc | apply Kd.Q_drewN | apply Kd.Q_drew)); exact HO_157000.out) hb); replace HO_157001 := Aside0.mk (Kd.S_below (Kd.S_elderB (kS_ HO_157001.out) gb167 (Nat.le_of_eq hg.symm)) hb); have BK167 := Aside0.mk (hbox); have GW167 := ge_ hg HB; have GE167 := ge_ hg HB; replace HB := (bs_ HB hb); have NB136_167 := nl_ hg BK136; have NB167_136 := ng_ hg BK136; replace BK136 := (bbA_ BK136 hb); have NB137_167 := nl_ hg BK137; have NB167_137 := ng_ hg BK137; replace BK137 := (bbA_ BK137 hb); have NB138_167 := nl_ hg BK138; have NB167_138 := ng_ hg BK138; replace BK138 := (bbA_ BK138 hb); have NB156_167 := nl_ hg BK156; have NB167_156 := ng_ hg BK156; replace BK156 := (bbA_ BK156 hb); clear hb hbox hg; have hnb115 := NB167_136.out; have hnc115 := NB136_167.out; have hnb116 := NB167_137.out; have hnc116 := NB137_167.out; have hnb117 := NB167_138.out; have hnc117 := NB138_167.out; have hnb118 := NB167_156.out; have hnc118 := NB156_167.out; have Z119 := zz2 BK167; have hnb120 := NB137_136.out; have hnc120 := NB136_137.out; have hnb121 := NB137_138.out; have hnc121 := NB138_137.out; have hnb122 := NB137_156.out; have hnc122 := NB156_137.out; have Z123 := zz4 BK137) | ((with_reducible refine gateT_ (u := 85) rfl ?_); refine goesB_ (u := 85) (some 87) rfl rfl Try.func38 (by kernel_rfl) rfl #[.agg #[.int .i64 ((rd_T65 l0_1 x81_3).f0), .slice A166_1 ((rd_T65 l0_1 x81_3).f1).length c166_1]] #[.pointer (some ⟨gb137, 0, none⟩)] rfl rfl ar_ ?_; refine (impl_NearHear_waits.calls ((rd_T65 l0_1 x81_3).f0) _ _ ((rd_T65 l0_1 x81_3).f1) a2_0 a2_1 a2_2 a2_3 true _ ?side1 ?side2 A110.out ?hqq).mono ?_; (case hqq => exact kf_ BK137.out); (case side1 => exact Kd.C_below HR166_1.out (hbA_ HB.out)); (case side2 => exact HC166_1.out); rintro e w124 ⟨rfl, hb⟩; refine ⟨_, rfl, ?_⟩; replace HO_12 := Aside0.mk (Kd.S_below (by refine kS_ ?_; exact (Kd.S_mono (Kd.S_far (p := ⟨gb167, 1, none⟩) (Kd.S_far (p := ⟨gb167, 0, none⟩) (Kd.S_types HO_12.out BK167.out (by decide)) (fun _ hk => hk.2) (.int .i64 ((rd_T65 l0_1 x81_3).f0))) (fun _ hk => hk.2) (.slice A166_1 ((rd_T65 l0_1 x81_3).f1).length c166_1)) (fun _ h_ => op1_ h_))) hb); replace HO_157000 := Aside0.mk (Kd.Q_below (by (with_reducible repeat (first | apply Kd.Q_alloc | apply Kd.Q_drewN | apply Kd.Q_drew)); exact (Kd.Q_mono (Kd.Q_far (p := ⟨gb167, 1, none⟩) (Kd.Q_far (p := ⟨gb167, 0, none⟩) (Kd.Q_types HO_157000.out BK167.out (by decide)) (fun _ hk => hk.2) (.int .i64 ((rd_T65 l0_1 x81_3).f0))) (fun _ hk => hk.2) (.slice A166_1 ((rd_T65 l0_1 x81_3).f1).length c166_1)) (fun _ h_ => op1_ h_))) hb); replace HO_157001 := Aside0.mk (Kd.S_below (by refine kS_ ?_; exact (nfS_ gb167 HO_157001.out (fun _ hk => hk.2) (fun _ h_ => op1_ h_))) hb); replace BK136 := Aside0.mk (blk_below (g := gb136) (o := .cells #[.slice A0_0 l0_0.length c0_0, .slice (some ad166) l0_1.length c0_1] 32 (0, 0)) (by exact kf_ BK136.out) hb); replace BK137 := Aside0.mk (blk_below (g := gb137) (o := .cells #[.int .i64 a2_0, .int .i64 a2_1, .int .i64 a2_2, .int .i64 a2_3] 37 (0, 0)) (by exact kf_ BK137.out) hb); replace BK138 := Aside0.mk (blk_below (g := gb138) (o := .cells #[.slice none 0 0, .slice none 0 0] 32 (0, 0)) (by exact kf_ BK138.out) hb); replace BK156 := Aside0.mk (blk_below (g := gb156) (o := .cells #[.slice A105 y163.length c105, .slice Ao91 t153.length co91] 32 (0, 0)) (by exact kf_ BK156.out) hb); replace BK167 := Aside0.mk (blk_below (g := gb167) (o := .cells #[.int .i64 ((rd_T65 l0_1 x81_3).f0), .slice A166_1 ((rd_T65 l0_1 x81_3).f1).length c166_1] 65 (0, 0)) (by refine kb_ ?_; refine pz2 (cs := #[.int .i64 0, .slice none 0 0]) ?_; refine kb_ ?_; exact BK167.out) hb); replace HB := (bs_ HB hb); (try clear hb); (try clear hb2); (try clear hk); (try clear hi); have Z125 := zz2 BK167) | ((with_reducible refine gate_callee (f := 44) rfl ?_); refine goesL_ (some 91) rfl rfl Try.func44 (by kernel_rfl) rfl #[.slice A166_1 ((rd_T65 l0_1 x81_3).f1).length c166_1] rfl ar_ ?_; (with_reducible refine (impl_clone_byte.calls _ _ ((rd_T65 l0_1 x81_3).f1) t169 _ ?side1 ?side2 A112.out).mono ?_); (case side1 => exact kC_ (Kd.C_below HR166_1.out HB.out)); (case side2 => exact HC166_1.out); rintro e w126 ⟨v170, rfl, ho0, hb⟩; refine ⟨_, rfl, ?_⟩; replace HO_12 := Aside0.mk (Kd.S_elder' (kS_ HO_12.out) (Kd.R_base ho0) hb); replace HO_157000 := Aside0.mk (Kd.Q_below (by (with_reducible repeat (first | apply Kd.Q_alloc | apply Kd.Q_drewN | apply Kd.Q_drew)); exact HO_157000.out) hb); replace HO_157001 := Aside0.mk (Kd.S_elder' (kS_ HO_157001.out) (Kd.R_base ho0) hb); have HO171 := Aside0.mk (Kd.R_lower ho0 (below_size (hbA_ HB.out))); replace BK136 := (bbA_ BK136 hb); replace BK137 := (bbA_ BK137 hb); replace BK138 := (bbA_ BK138 hb); replace BK156 := (bbA_ BK156 hb); replace BK167 := (bbA_ BK167 hb); replace HB := (bs_ HB hb); (try clear hb); (try clear hb2); (try clear hk); (try clear hi); (try clear ho0); obtain ⟨Ao128, co128, eo128⟩ := Kd.R_slice HO171.out; subst eo128) | ((with_reducible refine gate_builtin (b := .append) (xs := #[.tmp 88, .tmp 92]) rfl ?_); at_builtin; refine Kd.S_append (Kd.slice 5 (Kd.int .u8)) (w0 := w) w.heap.size rfl (.tmp 88) (.tmp 92) 33 44 (.slice none 0 0) 24 rfl Try.underlying33 info44 rfl (by decide) (by omega) u12 x12_3 t169 [.slice Ao128 t169.length co128] (fun _ => True) (fun k_ => some k_ = (.slice Ao128 t169.length co128 : Value).ownBlock) rfl rfl ?aP (fun k_ hk_ => ((Kd.R_mono (ok' := fun k_ => ((fun _ => True)) k_ ∧ some k_ ≠ (u12 : Value).ownBlock) (Kd.R_apart' (HO171.out) (Kd.S_typed HO_12.out) (by decide)) (fun k_ hk => ⟨trivial, hk.2⟩))).1 k_ hk_.symm) ?aF ?aO ?aB ?aS ?aL ?_; (case aP => exact Kd.M_row (Kd.R_mono (Kd.R_tight rfl (Kd.R_mono (ok' := fun k_ => ((fun _ => True)) k_ ∧ some k_ ≠ (u12 : Value).ownBlock) (Kd.R_apart' (HO171.out) (Kd.S_typed HO_12.out) (by decide)) (fun k_ hk => ⟨trivial, hk.2⟩))) (fun _ h_ => h_))); (case aB => exact (hbA_ HB.out)); (case aF => exact (fun _ _ => trivial)); (case aO => exact (by refine kS_ ?_; exact Kd.S_mono HO_12.out (fun k_ hk => ⟨trivial, fun e_ => hk.2 e_⟩))); (case aS => exact (below_size (hbA_ HB.out))); (case aL => have := LMc113.out; omega); intro v173 w127 ho hb hg hat; rw [← Ny172.out] at ho; replace HO_157000 := Aside0.mk (Kd.Q_over' (by (with_reducible repeat (first | apply Kd.Q_alloc | apply Kd.Q_drewN | apply Kd.Q_drew)); exact HO_157000.out) (Kd.S_typed (kS_ HO_12.out)) (by decide) hg); replace HO_157001 := Aside0.mk (Kd.S_over' (kS_ HO_157001.out) (Kd.S_typed (kS_ HO_12.out)) (by decide) hg); replace BK136 := (bgA_ BK136 hg (Kd.S_ne HO_12.out BK136.out (by decide))); replace BK137 := (bgA_ BK137 hg (Kd.S_ne HO_12.out BK137.out (by decide))); replace BK138 := (bgA_ BK138 hg (Kd.S_ne HO_12.out BK138.out (by decide))); replace BK156 := (bgA_ BK156 hg (Kd.S_ne HO_12.out BK156.out (by decide))); replace BK167 := (bgA_ BK167 hg (Kd.S_ne HO_12.out BK167.out (by decide))); replace HB := Aside0.mk (hb); have HO174 := Aside0.mk (ho); clear HO_12 HO171; clear ho hb hg hat))
                 go_roundg k3
                 case measure => have := HJ4.out; have := HJ35.out; have := HK3.out; omega
                 case rel => exact ⟨(y172), (wrap64 (x81_3 + 1)), (by first | rfl | (simp; done) | (simp [*]; done)), H', ⟨by have := HJ4.out; have := HJ35.out; have := HK3.out; omega⟩, ⟨by refine kS_ ?_; exact HO174.out⟩, ⟨by (with_reducible repeat (first | apply Kd.Q_alloc | apply Kd.Q_drewN | apply Kd.Q_drew)); exact HO_157000.out⟩, ⟨by refine kS_ ?_; exact Kd.S_mono HO_157001.out (fun _ hk => trivial)⟩, ⟨by refine kb_ ?_; exact BK136.out⟩, ⟨by refine kb_ ?_; exact BK137.out⟩, ⟨by refine kb_ ?_; exact BK138.out⟩, ⟨by refine kb_ ?_; exact BK156.out⟩, ⟨hbA_ HB.out⟩⟩
                ·rw [if_neg c113] at H
                 exact absurd H (by simp)
               ·replace c111 := Bool.eq_false_iff.mpr c111
                subst c111
                rw [if_neg (show ¬ (false = true) by decide)] at H
                have H' := Aside0.mk H
                clear H
                have p166 : 0 ≤ (x81_3 : Int) := of_decide_eq_true (by first | (with_reducible assumption) | assumption)
                have q166 : x81_3 < (l0_1.length : Int) := of_decide_eq_true (by first | (with_reducible assumption) | assumption)
                obtain ⟨ad166, A166_1, c166_1, e166, hx166_0, hx166_1, hl166_1, hi166_1⟩ := at_T65 HR0_1.out x81_3 p166 q166
                cases e166
                replace hx166_0 := cc_ HB hx166_0
                replace hx166_1 := cc_ HB hx166_1
                have HR166_1 := Aside0.mk hi166_1; have HC166_1 := Aside0.mk hl166_1; clear hi166_1 hl166_1
                replace p166 := eq_true p166
                replace q166 := eq_true q166
                go_wp2_with (first | ((with_reducible refine gate_dst (N := 14) rfl ?_); refine box_ (N := 14) (cs := #[.int .i64 0, .slice none 0 0]) (t := 65) (fun gb167 hg w129 hbox hb => ?_); replace HO_12 := Aside0.mk (Kd.S_below (kS_ HO_12.out) hb); replace HO_157000 := Aside0.mk (Kd.Q_below (by (with_reducible repeat (first | apply Kd.Q_alloc | apply Kd.Q_drewN | apply Kd.Q_drew)); exact HO_157000.out) hb); replace HO_157001 := Aside0.mk (Kd.S_below (Kd.S_elderB (kS_ HO_157001.out) gb167 (Nat.le_of_eq hg.symm)) hb); have BK167 := Aside0.mk (hbox); have GW167 := ge_ hg HB; have GE167 := ge_ hg HB; replace HB := (bs_ HB hb); have NB136_167 := nl_ hg BK136; have NB167_136 := ng_ hg BK136; replace BK136 := (bbA_ BK136 hb); have NB137_167 := nl_ hg BK137; have NB167_137 := ng_ hg BK137; replace BK137 := (bbA_ BK137 hb); have NB138_167 := nl_ hg BK138; have NB167_138 := ng_ hg BK138; replace BK138 := (bbA_ BK138 hb); have NB156_167 := nl_ hg BK156; have NB167_156 := ng_ hg BK156; replace BK156 := (bbA_ BK156 hb); clear hb hbox hg; have hnb130 := NB167_136.out; have hnc130 := NB136_167.out; have hnb131 := NB167_137.out; have hnc131 := NB137_167.out; have hnb132 := NB167_138.out; have hnc132 := NB138_167.out; have hnb133 := NB167_156.out; have hnc133 := NB156_167.out; have Z134 := zz2 BK167; have hnb135 := NB137_136.out; have hnc135 := NB136_137.out; have hnb136 := NB137_138.out; have hnc136 := NB138_137.out; have hnb137 := NB137_156.out; have hnc137 := NB156_137.out; have Z138 := zz4 BK137) | ((with_reducible refine gateT_ (u := 85) rfl ?_); refine goesB_ (u := 85) (some 87) rfl rfl Try.func38 (by kernel_rfl) rfl #[.agg #[.int .i64 ((rd_T65 l0_1 x81_3).f0), .slice A166_1 ((rd_T65 l0_1 x81_3).f1).length c166_1]] #[.pointer (some ⟨gb137, 0, none⟩)] rfl rfl ar_ ?_; refine (impl_NearHear_waits.calls ((rd_T65 l0_1 x81_3).f0) _ _ ((rd_T65 l0_1 x81_3).f1) a2_0 a2_1 a2_2 a2_3 false _ ?side1 ?side2 A110.out ?hqq).mono ?_; (case hqq => exact kf_ BK137.out); (case side1 => exact Kd.C_below HR166_1.out (hbA_ HB.out)); (case side2 => exact HC166_1.out); rintro e w139 ⟨rfl, hb⟩; refine ⟨_, rfl, ?_⟩; replace HO_12 := Aside0.mk (Kd.S_below (by refine kS_ ?_; exact (Kd.S_mono (Kd.S_far (p := ⟨gb167, 1, none⟩) (Kd.S_far (p := ⟨gb167, 0, none⟩) (Kd.S_types HO_12.out BK167.out (by decide)) (fun _ hk => hk.2) (.int .i64 ((rd_T65 l0_1 x81_3).f0))) (fun _ hk => hk.2) (.slice A166_1 ((rd_T65 l0_1 x81_3).f1).length c166_1)) (fun _ h_ => op1_ h_))) hb); replace HO_157000 := Aside0.mk (Kd.Q_below (by (with_reducible repeat (first | apply Kd.Q_alloc | apply Kd.Q_drewN | apply Kd.Q_drew)); exact (Kd.Q_mono (Kd.Q_far (p := ⟨gb167, 1, none⟩) (Kd.Q_far (p := ⟨gb167, 0, none⟩) (Kd.Q_types HO_157000.out BK167.out (by decide)) (fun _ hk => hk.2) (.int .i64 ((rd_T65 l0_1 x81_3).f0))) (fun _ hk => hk.2) (.slice A166_1 ((rd_T65 l0_1 x81_3).f1).length c166_1)) (fun _ h_ => op1_ h_))) hb); replace HO_157001 := Aside0.mk (Kd.S_below (by refine kS_ ?_; exact (nfS_ gb167 HO_157001.out (fun _ hk => hk.2) (fun _ h_ => op1_ h_))) hb); replace BK136 := Aside0.mk (blk_below (g := gb136) (o := .cells #[.slice A0_0 l0_0.length c0_0, .slice (some ad166) l0_1.length c0_1] 32 (0, 0)) (by exact kf_ BK136.out) hb); replace BK137 := Aside0.mk (blk_below (g := gb137) (o := .cells #[.int .i64 a2_0, .int .i64 a2_1, .int .i64 a2_2, .int .i64 a2_3] 37 (0, 0)) (by exact kf_ BK137.out) hb); replace BK138 := Aside0.mk (blk_below (g := gb138) (o := .cells #[.slice none 0 0, .slice none 0 0] 32 (0, 0)) (by exact kf_ BK138.out) hb); replace BK156 := Aside0.mk (blk_below (g := gb156) (o := .cells #[.slice A105 y163.length c105, .slice Ao91 t153.length co91] 32 (0, 0)) (by exact kf_ BK156.out) hb); replace BK167 := Aside0.mk (blk_below (g := gb167) (o := .cells #[.int .i64 ((rd_T65 l0_1 x81_3).f0), .slice A166_1 ((rd_T65 l0_1 x81_3).f1).length c166_1] 65 (0, 0)) (by refine kb_ ?_; refine pz2 (cs := #[.int .i64 0, .slice none 0 0]) ?_; refine kb_ ?_; exact BK167.out) hb); replace HB := (bs_ HB hb); (try clear hb); (try clear hb2); (try clear hk); (try clear hi)))
                go_roundg k3
                case measure => have := HJ4.out; have := HJ35.out; have := HK3.out; omega
                case rel => exact ⟨(x12_3), (wrap64 (x81_3 + 1)), (by first | rfl | (simp; done) | (simp [*]; done)), H', ⟨by have := HJ4.out; have := HJ35.out; have := HK3.out; omega⟩, ⟨by refine kS_ ?_; exact HO_12.out⟩, ⟨by (with_reducible repeat (first | apply Kd.Q_alloc | apply Kd.Q_drewN | apply Kd.Q_drew)); exact HO_157000.out⟩, ⟨by refine kS_ ?_; exact Kd.S_mono HO_157001.out (fun _ hk => trivial)⟩, ⟨by refine kb_ ?_; exact BK136.out⟩, ⟨by refine kb_ ?_; exact BK137.out⟩, ⟨by refine kb_ ?_; exact BK138.out⟩, ⟨by refine kb_ ?_; exact BK156.out⟩, ⟨hbA_ HB.out⟩⟩
              ·rw [if_neg c109] at H
               exact absurd H (by simp)
             ·rw [if_neg c108] at H
              exact absurd H (by simp)
            ·rw [if_neg c107] at H
             have c107b0 : decide (x81_3 < (l0_1.length : Int)) = false := decide_eq_false c107
             clear c107
             obtain ⟨y175, hy175⟩ : ∃ y_ : List (S65), y_ = (t153.filter (fun h_ => !(h_.f0 == a2_2))) := ⟨_, rfl⟩
             (first | replace H := sb_ hy175 H | rw [← hy175] at H)
             have Ny175 := Aside0.mk hy175; clear hy175
             replace H := Option.bind_eq_some_iff.mp H
             obtain ⟨⟨t178, t181⟩, A1400, H⟩ := H
             (try dsimp only at H)
             have A140 := Aside0.mk A1400; clear A1400
             simp only [Option.some.injEq, Prod.mk.injEq] at H
             obtain ⟨rfl, rfl, rfl⟩ := H
             have hnb141 := NB156_136.out; have hnc141 := NB136_156.out; have hnb142 := NB156_137.out; have hnc142 := NB137_156.out; have hnb143 := NB156_138.out; have hnc143 := NB138_156.out; have Z144 := zz2 BK156; have hnb145 := NB137_136.out; have hnc145 := NB136_137.out; have hnb146 := NB137_138.out; have hnc146 := NB138_137.out; have Z147 := zz4 BK137
             go_wp2_with (first | ((with_reducible refine gate_callee (f := 45) rfl ?_); refine goesL_ (some 98) rfl rfl Try.func45 (by kernel_rfl) rfl #[.slice Ao91 t153.length co91, .func (.func 38) #[] #[.pointer (some ⟨gb137, 0, none⟩)]] rfl (by (try simp only [List.map_toArray, List.map_cons, List.map_nil]); first | done | rfl) ?_; refine (impl_NearHeld_45.calls (w0 := w) (base := w.heap.size) (gq := gb137) (A := Ao91) (n := t153.length) (c := co91) a2_0 a2_1 a2_2 a2_3 (kS_ HO_157001.out) (hbA_ HB.out) (below_size (hbA_ HB.out)) (kb_ BK137.out)).mono ?_; rintro e w148 ⟨m_, rfl, em_, ho, hb, hg⟩; refine ⟨_, rfl, ?_⟩; rw [← Ny175.out] at ho em_; subst em_; replace HO_12 := Aside0.mk (Kd.S_over' (v := (.slice Ao91 t153.length co91)) (kS_ HO_12.out) (Kd.S_typed HO_157001.out) (by decide) hg); replace HO_157000 := Aside0.mk (Kd.Q_over' (v := (.slice Ao91 t153.length co91)) (by (with_reducible repeat (first | apply Kd.Q_alloc | apply Kd.Q_drewN | apply Kd.Q_drew)); exact HO_157000.out) (Kd.S_typed HO_157001.out) (by decide) hg); replace BK136 := (bgA_ BK136 hg (Kd.S_ne HO_157001.out BK136.out (by decide))); replace BK137 := (bgA_ BK137 hg (Kd.S_ne HO_157001.out BK137.out (by decide))); replace BK138 := (bgA_ BK138 hg (Kd.S_ne HO_157001.out BK138.out (by decide))); replace BK156 := (bgA_ BK156 hg (Kd.S_ne HO_157001.out BK156.out (by decide))); replace HO_157001 := Aside0.mk (ho); replace HB := Aside0.mk (hb); clear ho hb hg; have Z150 := zz2 BK156) | ((with_reducible refine gate_callee (f := 41) rfl ?_); refine goesL_ (some 101) rfl rfl Try.func41 (by kernel_rfl) rfl #[.agg #[.slice A105 y163.length c105, .slice Ao91 y175.length co91]] rfl ar_ ?_; (with_reducible refine (impl_Near_copy.calls k3 _ _ y163 _ _ y175 t178 t181 _ ?side1 ?side2 ?side3 ?side4 A140.out).mono ?_); (case side1 => refine (Kd.Q_reads' (e := 63) (base := w.heap.size) (ok := fun k_ => True) (n := y163.length) (c := c105) ?_).2.2; exact (by (with_reducible repeat (first | apply Kd.Q_alloc | apply Kd.Q_drewN | apply Kd.Q_drew)); exact (Kd.Q_mono (Kd.Q_far (p := ⟨gb156, 1, none⟩) (Kd.Q_types HO_157000.out BK156.out (by decide)) (fun _ hk => hk.2) (.slice Ao91 y175.length co91)) (fun _ h_ => op1_ h_)))); (case side2 => exact (Kd.Q_reads' HO_157000.out).2.1); (case side3 => refine (Kd.S_reads' (e := 65) (base := w.heap.size) (ok := fun k_ => True) (n := y175.length) (c := co91) ?_).2.2; exact (by refine kS_ ?_; exact (Kd.S_mono (Kd.S_far (p := ⟨gb156, 1, none⟩) (Kd.S_types HO_157001.out BK156.out (by decide)) (fun _ hk => hk.2) (.slice Ao91 y175.length co91)) (fun _ h_ => op1_ h_)))); (case side4 => exact (Kd.S_reads' HO_157001.out).2.1); rintro e w151 ⟨v179, v182, rfl, ho0, ho1, hb⟩; refine ⟨_, rfl, ?_⟩; replace HO_12 := Aside0.mk (Kd.S_below (by refine kS_ ?_; exact (Kd.S_mono (Kd.S_far (p := ⟨gb156, 1, none⟩) (Kd.S_types HO_12.out BK156.out (by decide)) (fun _ hk => hk.2) (.slice Ao91 y175.length co91)) (fun _ h_ => op1_ h_))) hb); have HO180 := Aside0.mk (Kd.R_lower (Kd.R_new' ho0 (Kd.Q_lt (by (with_reducible repeat (first | apply Kd.Q_alloc | apply Kd.Q_drewN | apply Kd.Q_drew)); exact (Kd.Q_mono (Kd.Q_far (p := ⟨gb156, 1, none⟩) (Kd.Q_types HO_157000.out BK156.out (by decide)) (fun _ hk => hk.2) (.slice Ao91 y175.length co91)) (fun _ h_ => op1_ h_))))) (below_size (hbA_ HB.out))); replace HO_157000 := Aside0.mk (Kd.Q_elder' (by (with_reducible repeat (first | apply Kd.Q_alloc | apply Kd.Q_drewN | apply Kd.Q_drew)); exact (Kd.Q_mono (Kd.Q_far (p := ⟨gb156, 1, none⟩) (Kd.Q_types HO_157000.out BK156.out (by decide)) (fun _ hk => hk.2) (.slice Ao91 y175.length co91)) (fun _ h_ => op1_ h_))) (Kd.R_base ho0) hb); have HO183 := Aside0.mk (Kd.S_lower (Kd.S_new' ho1 (Kd.S_lt (by refine kS_ ?_; exact (Kd.S_mono (Kd.S_far (p := ⟨gb156, 1, none⟩) (Kd.S_types HO_157001.out BK156.out (by decide)) (fun _ hk => hk.2) (.slice Ao91 y175.length co91)) (fun _ h_ => op1_ h_))))) (below_size (hbA_ HB.out))); replace HO_157001 := Aside0.mk (Kd.S_elder' (by refine kS_ ?_; exact (Kd.S_mono (Kd.S_far (p := ⟨gb156, 1, none⟩) (Kd.S_types HO_157001.out BK156.out (by decide)) (fun _ hk => hk.2) (.slice Ao91 y175.length co91)) (fun _ h_ => op1_ h_))) (Kd.S_base ho1) hb); replace BK136 := Aside0.mk (blk_below (g := gb136) (o := .cells #[.slice A0_0 l0_0.length c0_0, .slice A0_1 l0_1.length c0_1] 32 (0, 0)) (by exact kf_ BK136.out) hb); replace BK137 := Aside0.mk (blk_below (g := gb137) (o := .cells #[.int .i64 a2_0, .int .i64 a2_1, .int .i64 a2_2, .int .i64 a2_3] 37 (0, 0)) (by exact kf_ BK137.out) hb); replace BK138 := Aside0.mk (blk_below (g := gb138) (o := .cells #[.slice none 0 0, .slice none 0 0] 32 (0, 0)) (by exact kf_ BK138.out) hb); replace BK156 := Aside0.mk (blk_below (g := gb156) (o := .cells #[.slice A105 y163.length c105, .slice Ao91 y175.length co91] 32 (0, 0)) (by refine kb_ ?_; refine blk_put (cs := #[.slice A105 y163.length c105, .slice Ao91 t153.length co91]) ?_ 1 _ rfl; refine kb_ ?_; exact BK156.out) hb); replace HB := (bs_ HB hb); (try clear hb); (try clear hb2); (try clear hk); (try clear hi); (try clear ho0); (try clear ho1); obtain ⟨Ao152, co152, eo152⟩ := Kd.S_slice HO_12.out; subst eo152; have hq153 := (Kd.S_reads' HO_12.out).2.1; have hr153 := Aside0.mk (Kd.S_clip HO_12.out (Nat.le_refl _) hq153); clear HO_12; have HO185 := hr153; clear hr153) | (go_at_call 46; (with_reducible refine (slices_Clip_byte_byte_46.calls _ _ _ _ hq153).mono ?_); rintro e w' ⟨rfl, rfl⟩; obtain ⟨Ao154, co154, eo154⟩ := Kd.R_slice HO180.out; subst eo154; have hnb155 := NB138_136.out; have hnc155 := NB136_138.out; have Z156 := zz2 BK138; obtain ⟨Ao157, co157, eo157⟩ := Kd.S_slice HO183.out; subst eo157))
             refine bodyPost_ret (results_ct rfl _ _ gb138 32 #[.slice Ao154 t178.length co154, .slice Ao157 t181.length co157] (0, 0) _ rfl (by refine kb_ ?_; refine pz2 (cs := #[.slice none 0 0, .slice none 0 0]) ?_; refine kb_ ?_; exact BK138.out) Try.underlying32 rfl (by kernel_rfl)) rfl ?_
             exact ⟨_, _, _, by first | rfl | (simp [errW_none, errW_some] <;> rfl) | (simp only [← hji78]; first | rfl | (simp [errW_none, errW_some] <;> rfl)) | (simp [*, errW_none, errW_some] <;> rfl), by refine kR_ ?_; exact rfm_ ((Kd.R_types HO180.out BK138.out (by decide))) (fun _ hk => trivial), by refine kS_ ?_; exact Kd.S_mono (Kd.S_far (p := ⟨gb138, 1, none⟩) (Kd.S_far (p := ⟨gb138, 0, none⟩) (Kd.S_types HO183.out BK138.out (by decide)) (fun _ hk => hk.2) (.slice Ao154 t178.length co154)) (fun _ hk => hk.2) (.slice Ao157 t181.length co157)) (fun _ hk => trivial), by refine kS_ ?_; exact Kd.S_mono (Kd.S_far (p := ⟨gb138, 1, none⟩) (Kd.S_far (p := ⟨gb138, 0, none⟩) (Kd.S_types HO185.out BK138.out (by decide)) (fun _ hk => hk.2) (.slice Ao154 t178.length co154)) (fun _ hk => hk.2) (.slice Ao157 t181.length co157)) (fun _ hk => trivial), hbA_ HB.out⟩
         ·rw [if_neg c80] at H
          exact absurd H (by simp)
        ·rw [if_neg c79] at H
         exact absurd H (by simp)
       ·rw [if_neg c77] at H
        exact absurd H (by simp)
def laws_sameBytes.f (l0 : List Int) (l1 : List Int) : Option (Bool) := some ((strOfNums l0).toList == (strOfNums l1).toList)
set_option maxHeartbeats 8000000 in
set_option maxRecDepth 100000 in
theorem laws_sameBytes.calls (A0 : Option Addr) (c0 : Nat) (l0 : List Int) (A1 : Option Addr) (c1 : Nat) (l1 : List Int) (r : Bool) (w : World) (hr0 : Kd.C (Kd.int .u8) w A0 l0.length l0) (hc0 : l0.length ≤ c0) (hr1 : Kd.C (Kd.int .u8) w A1 l1.length l1) (hc1 : l1.length ≤ c1) (h : laws_sameBytes.f l0 l1 = some r) :
  Calls Try.prog 60 #[.slice A0 l0.length c0, .slice A1 l1.length c1] w fun e w' => e = .returned (.bool r) ∧ Drawn0 w w' := by
 have HR0 := Aside0.mk hr0; have HC0 := Aside0.mk hc0; clear hr0 hc0; have HR1 := Aside0.mk hr1; have HC1 := Aside0.mk hc1; clear hr1 hc1
 have H : (some ((strOfNums l0).toList == (strOfNums l1).toList)) = some r := h
 clear h
 obtain rfl := Option.some.inj H
 have hcv3 := Kd.C_string (P := Try.prog) (A := A0) (c := c0) Try.underlying44 Try.underlying5 Try.underlying9 HR0.out
 have hcv4 := Kd.C_string (P := Try.prog) (A := A1) (c := c1) Try.underlying44 Try.underlying5 Try.underlying9 HR1.out
 go_enter Try.func60, Try.ntmps60
 go_wp2
 go_ret
 exact ⟨by first | rfl | (simp; done) | (simp [*]; done), by repeat (first | exact Drawn0.refl _ | apply Drawn0.step)⟩
def laws_sameLists.l0 : Nat → List (List Int) → List (List Int) → Int → Option (Bool)
 | 0, _, _, _ => none
 | k + 1, x0, x1, x5 => if x5 < (x0.length : Int) then (if 0 ≤ x5 then (if x5 < (x1.length : Int) then ((laws_sameBytes.f (rd_L3 x0 x5) (rd_L3 x1 x5)).bind fun t188 => (if t188 = true then (laws_sameLists.l0 k x0 x1 (wrap64 (x5 + 1))) else (some false))) else (none)) else (none)) else (some true)
def laws_sameLists.f (k : Nat) (l0 : List (List Int)) (l1 : List (List Int)) : Option (Bool) := if (l0.length : Int) = (l1.length : Int) then (laws_sameLists.l0 k l0 l1 0) else (some false)
theorem laws_sameLists.mono_l : ∀ k, (∀ y0 y1 y2, LeO (laws_sameLists.l0 k y0 y1 y2) (laws_sameLists.l0 (k + 1) y0 y1 y2))
 | 0 => fun _ _ _ r h => by simp [laws_sameLists.l0] at h
 | k + 1 => by
  have ih0 := laws_sameLists.mono_l k
  ·intro y0 y1 y2
   unfold laws_sameLists.l0
   repeat' first | (with_reducible first | apply ih0 | exact LeO.refl _ | exact LeO.none _ | refine LeO.ite ?_ ?_ | refine LeO.bind ?_ fun _ => ?_) | apply ih0 | exact LeO.none _ | refine LeO.ite ?_ ?_ | refine LeO.bind ?_ fun _ => ?_
theorem laws_sameLists.mono : ∀ a0 a1 k, LeO (laws_sameLists.f k a0 a1) (laws_sameLists.f (k + 1) a0 a1) := by
 intro a0 a1 k
 have ih0 := laws_sameLists.mono_l k
 unfold laws_sameLists.f
 repeat' first | (with_reducible first | apply ih0 | exact LeO.refl _ | exact LeO.none _ | refine LeO.ite ?_ ?_ | refine LeO.bind ?_ fun _ => ?_) | apply ih0 | exact LeO.none _ | refine LeO.ite ?_ ?_ | refine LeO.bind ?_ fun _ => ?_
set_option maxHeartbeats 8000000 in
set_option maxRecDepth 100000 in
theorem laws_sameLists.calls (k : Nat) (A0 : Option Addr) (c0 : Nat) (l0 : List (List Int)) (A1 : Option Addr) (c1 : Nat) (l1 : List (List Int)) (r : Bool) (w : World) (hr0 : Kd.C (Kd.slice 5 (Kd.int .u8)) w A0 l0.length l0) (hc0 : l0.length ≤ c0) (hr1 : Kd.C (Kd.slice 5 (Kd.int .u8)) w A1 l1.length l1) (hc1 : l1.length ≤ c1) (h : laws_sameLists.f k l0 l1 = some r) :
  Calls Try.prog 19 #[.slice A0 l0.length c0, .slice A1 l1.length c1] w fun e w' => e = .returned (.bool r) ∧ Drawn0 w w' := by
 have HR0 := Aside0.mk hr0; have HC0 := Aside0.mk hc0; clear hr0 hc0; have HR1 := Aside0.mk hr1; have HC1 := Aside0.mk hc1; clear hr1 hc1
 have H : (if (l0.length : Int) = (l1.length : Int) then (laws_sameLists.l0 k l0 l1 0) else (some false)) = some r := h
 clear h
 by_cases c3 : (l0.length : Int) = (l1.length : Int)
 ·rw [if_pos c3] at H
  have c3b0 : ((l0.length : Int) == (l1.length : Int)) = true := beq_iff_eq.mpr c3
  have c3b1 : ((l0.length : Int) != (l1.length : Int)) = false := bne_eq_false_iff_eq.mpr c3
  have c3b2 : (l0.length == l1.length) = true := by first | simpa using c3 | (simp at c3 ⊢; omega)
  clear c3
  have H' := Aside0.mk H
  clear H
  go_enter Try.func19, Try.ntmps19
  go_wp2
  repeat (go_quiet (fail); try go_wp2)
  go_loopg [5] k (fun kq v5 w' => ∃ (x5_1 : Int), v5 = .int .i64 x5_1 ∧ Aside0 (laws_sameLists.l0 kq l0 l1 x5_1 = some r) ∧ Aside0 (kq ≤ k) ∧ Drawn0 w w')
  case atStart => exact ⟨(0), (by first | rfl | (simp; done) | (simp [*]; done)), H', ⟨Nat.le_refl _⟩, by repeat (first | exact Drawn0.refl _ | apply Drawn0.step)⟩
  case round =>
   clear H'; (try clear c1); (try clear p2); (try clear c3); (try clear c3b0); (try clear c3b1); (try clear c3b2)
   obtain ⟨x5_1, rfl, HA, HK1, ⟨m1, rfl⟩⟩ := hrel
   cases gk with
   | zero => exact absurd HA.out (by simp [laws_sameLists.l0])
   | succ k1 =>
    have H := HA.out; clear HA
    simp only [laws_sameLists.l0] at H
    by_cases c4 : x5_1 < (l0.length : Int)
    ·rw [if_pos c4] at H
     have c4b0 : decide (x5_1 < (l0.length : Int)) = true := decide_eq_true c4
     clear c4
     by_cases c5 : 0 ≤ x5_1
     ·rw [if_pos c5] at H
      have c5b0 : decide (0 ≤ x5_1) = true := decide_eq_true c5
      clear c5
      by_cases c6 : x5_1 < (l1.length : Int)
      ·rw [if_pos c6] at H
       have c6b0 : decide (x5_1 < (l1.length : Int)) = true := decide_eq_true c6
       clear c6
       replace H := Option.bind_eq_some_iff.mp H
       obtain ⟨t188, A70, H⟩ := H
       (try dsimp only at H)
       have A7 := Aside0.mk A70; clear A70
       by_cases c8 : t188 = true
       ·subst c8
        rw [if_pos rfl] at H
        have H' := Aside0.mk H
        clear H
        have p186 : 0 ≤ (x5_1 : Int) := of_decide_eq_true (by first | (with_reducible assumption) | assumption)
        have q186 : x5_1 < (l0.length : Int) := of_decide_eq_true (by first | (with_reducible assumption) | assumption)
        obtain ⟨ad186, A186_0, c186_0, e186, hx186_0, hl186_0, hi186_0⟩ := at_L3 HR0.out x5_1 p186 q186
        cases e186
        have HR186_0 := Aside0.mk hi186_0; have HC186_0 := Aside0.mk hl186_0; clear hi186_0 hl186_0
        replace p186 := eq_true p186
        replace q186 := eq_true q186
        have p187 : 0 ≤ (x5_1 : Int) := of_decide_eq_true (by first | (with_reducible assumption) | assumption)
        have q187 : x5_1 < (l1.length : Int) := of_decide_eq_true (by first | (with_reducible assumption) | assumption)
        obtain ⟨ad187, A187_0, c187_0, e187, hx187_0, hl187_0, hi187_0⟩ := at_L3 HR1.out x5_1 p187 q187
        cases e187
        have HR187_0 := Aside0.mk hi187_0; have HC187_0 := Aside0.mk hl187_0; clear hi187_0 hl187_0
        replace p187 := eq_true p187
        replace q187 := eq_true q187
        go_wp2_with (first | (go_at_call 60; (with_reducible refine (laws_sameBytes.calls _ _ (rd_L3 l0 x5_1) _ _ (rd_L3 l1 x5_1) true _ ?side1 ?side2 ?side3 ?side4 A7.out).mono ?_); (case side1 => exact kC_ HR186_0.out); (case side2 => exact HC186_0.out); (case side3 => exact kC_ HR187_0.out); (case side4 => exact HC187_0.out); rintro e w' ⟨rfl, ⟨nd, rfl⟩⟩; (try first | exact ⟨rfl, _, World.drewN_drewN _ _ _⟩ | exact ⟨rfl, _, Eq.trans (World.drewN_drewN _ _ _) (congrArg (World.drewN _) (Nat.add_assoc _ _ _))⟩)))
        repeat (go_quiet (first | (go_at_call 60; (with_reducible refine (laws_sameBytes.calls _ _ (rd_L3 l0 x5_1) _ _ (rd_L3 l1 x5_1) true _ ?side1 ?side2 ?side3 ?side4 A7.out).mono ?_); (case side1 => exact kC_ HR186_0.out); (case side2 => exact HC186_0.out); (case side3 => exact kC_ HR187_0.out); (case side4 => exact HC187_0.out); rintro e w' ⟨rfl, ⟨nd, rfl⟩⟩; (try first | exact ⟨rfl, _, World.drewN_drewN _ _ _⟩ | exact ⟨rfl, _, Eq.trans (World.drewN_drewN _ _ _) (congrArg (World.drewN _) (Nat.add_assoc _ _ _))⟩))); try go_wp2_with (first | (go_at_call 60; (with_reducible refine (laws_sameBytes.calls _ _ (rd_L3 l0 x5_1) _ _ (rd_L3 l1 x5_1) true _ ?side1 ?side2 ?side3 ?side4 A7.out).mono ?_); (case side1 => exact kC_ HR186_0.out); (case side2 => exact HC186_0.out); (case side3 => exact kC_ HR187_0.out); (case side4 => exact HC187_0.out); rintro e w' ⟨rfl, ⟨nd, rfl⟩⟩; (try first | exact ⟨rfl, _, World.drewN_drewN _ _ _⟩ | exact ⟨rfl, _, Eq.trans (World.drewN_drewN _ _ _) (congrArg (World.drewN _) (Nat.add_assoc _ _ _))⟩))))
        go_roundg k1
        case measure => have := HK1.out; omega
        case rel => exact ⟨(wrap64 (x5_1 + 1)), (by first | rfl | (simp; done) | (simp [*]; done)), H', ⟨by have := HK1.out; omega⟩, by repeat (first | exact Drawn0.refl _ | apply Drawn0.step)⟩
       ·replace c8 := Bool.eq_false_iff.mpr c8
        subst c8
        rw [if_neg (show ¬ (false = true) by decide)] at H
        obtain rfl := Option.some.inj H
        have p186 : 0 ≤ (x5_1 : Int) := of_decide_eq_true (by first | (with_reducible assumption) | assumption)
        have q186 : x5_1 < (l0.length : Int) := of_decide_eq_true (by first | (with_reducible assumption) | assumption)
        obtain ⟨ad186, A186_0, c186_0, e186, hx186_0, hl186_0, hi186_0⟩ := at_L3 HR0.out x5_1 p186 q186
        cases e186
        have HR186_0 := Aside0.mk hi186_0; have HC186_0 := Aside0.mk hl186_0; clear hi186_0 hl186_0
        replace p186 := eq_true p186
        replace q186 := eq_true q186
        have p187 : 0 ≤ (x5_1 : Int) := of_decide_eq_true (by first | (with_reducible assumption) | assumption)
        have q187 : x5_1 < (l1.length : Int) := of_decide_eq_true (by first | (with_reducible assumption) | assumption)
        obtain ⟨ad187, A187_0, c187_0, e187, hx187_0, hl187_0, hi187_0⟩ := at_L3 HR1.out x5_1 p187 q187
        cases e187
        have HR187_0 := Aside0.mk hi187_0; have HC187_0 := Aside0.mk hl187_0; clear hi187_0 hl187_0
        replace p187 := eq_true p187
        replace q187 := eq_true q187
        go_wp2_with (first | (go_at_call 60; (with_reducible refine (laws_sameBytes.calls _ _ (rd_L3 l0 x5_1) _ _ (rd_L3 l1 x5_1) false _ ?side1 ?side2 ?side3 ?side4 A7.out).mono ?_); (case side1 => exact kC_ HR186_0.out); (case side2 => exact HC186_0.out); (case side3 => exact kC_ HR187_0.out); (case side4 => exact HC187_0.out); rintro e w' ⟨rfl, ⟨nd, rfl⟩⟩; (try first | exact ⟨rfl, _, World.drewN_drewN _ _ _⟩ | exact ⟨rfl, _, Eq.trans (World.drewN_drewN _ _ _) (congrArg (World.drewN _) (Nat.add_assoc _ _ _))⟩)))
        repeat (go_quiet (first | (go_at_call 60; (with_reducible refine (laws_sameBytes.calls _ _ (rd_L3 l0 x5_1) _ _ (rd_L3 l1 x5_1) false _ ?side1 ?side2 ?side3 ?side4 A7.out).mono ?_); (case side1 => exact kC_ HR186_0.out); (case side2 => exact HC186_0.out); (case side3 => exact kC_ HR187_0.out); (case side4 => exact HC187_0.out); rintro e w' ⟨rfl, ⟨nd, rfl⟩⟩; (try first | exact ⟨rfl, _, World.drewN_drewN _ _ _⟩ | exact ⟨rfl, _, Eq.trans (World.drewN_drewN _ _ _) (congrArg (World.drewN _) (Nat.add_assoc _ _ _))⟩))); try go_wp2_with (first | (go_at_call 60; (with_reducible refine (laws_sameBytes.calls _ _ (rd_L3 l0 x5_1) _ _ (rd_L3 l1 x5_1) false _ ?side1 ?side2 ?side3 ?side4 A7.out).mono ?_); (case side1 => exact kC_ HR186_0.out); (case side2 => exact HC186_0.out); (case side3 => exact kC_ HR187_0.out); (case side4 => exact HC187_0.out); rintro e w' ⟨rfl, ⟨nd, rfl⟩⟩; (try first | exact ⟨rfl, _, World.drewN_drewN _ _ _⟩ | exact ⟨rfl, _, Eq.trans (World.drewN_drewN _ _ _) (congrArg (World.drewN _) (Nat.add_assoc _ _ _))⟩))))
        go_ret
        exact ⟨by first | rfl | (simp; done) | (simp [*]; done), by repeat (first | exact Drawn0.refl _ | apply Drawn0.step)⟩
      ·rw [if_neg c6] at H
       exact absurd H (by simp)
     ·rw [if_neg c5] at H
      exact absurd H (by simp)
    ·rw [if_neg c4] at H
     have c4b0 : decide (x5_1 < (l0.length : Int)) = false := decide_eq_false c4
     clear c4
     obtain rfl := Option.some.inj H
     go_wp2
     repeat (go_quiet (fail); try go_wp2)
     go_ret
     exact ⟨by first | rfl | (simp; done) | (simp [*]; done), by repeat (first | exact Drawn0.refl _ | apply Drawn0.step)⟩
 ·rw [if_neg c3] at H
  have c3b0 : ((l0.length : Int) == (l1.length : Int)) = false := beq_eq_false_iff_ne.mpr c3
  have c3b1 : ((l0.length : Int) != (l1.length : Int)) = true := bne_iff_ne.mpr c3
  have c3b2 : (l0.length == l1.length) = false := by first | simpa using c3 | (simp at c3 ⊢; omega)
  obtain rfl := Option.some.inj H
  go_enter Try.func19, Try.ntmps19
  go_wp2
  repeat (go_quiet (fail); try go_wp2)
  go_ret
  exact ⟨by first | rfl | (simp; done) | (simp [*]; done), by repeat (first | exact Drawn0.refl _ | apply Drawn0.step)⟩
def impl_bytesOf.l0 : Nat → Int → List Int → Int → Option (List Int)
 | 0, _, _, _ => none
 | k + 1, x0, x5, x6 => if x6 ≥ 0 then (if 0 ≤ x6 then (if x6 < (x5.length : Int) then (impl_bytesOf.l0 k (x0 / 256) (x5.set (x6 : Int).toNat ((x0) % 256)) (wrap64 (x6 - 1))) else (none)) else (none)) else (some x5)
def impl_bytesOf.f (k : Nat) (a0 : Int) (a1 : Int) : Option (List Int) := if 0 ≤ a1 then (if (a1 : Int).toNat ≤ 281474976710656 then (impl_bytesOf.l0 k a0 (List.replicate (a1 : Int).toNat 0) (wrap64 (a1 - 1))) else (none)) else (none)
theorem impl_bytesOf.mono_l : ∀ k, (∀ y0 y1 y2, LeO (impl_bytesOf.l0 k y0 y1 y2) (impl_bytesOf.l0 (k + 1) y0 y1 y2))
 | 0 => fun _ _ _ r h => by simp [impl_bytesOf.l0] at h
 | k + 1 => by
  have ih0 := impl_bytesOf.mono_l k
  ·intro y0 y1 y2
   unfold impl_bytesOf.l0
   repeat' first | (with_reducible first | apply ih0 | exact LeO.refl _ | exact LeO.none _ | refine LeO.ite ?_ ?_ | refine LeO.bind ?_ fun _ => ?_) | apply ih0 | exact LeO.none _ | refine LeO.ite ?_ ?_ | refine LeO.bind ?_ fun _ => ?_
theorem impl_bytesOf.mono : ∀ a0 a1 k, LeO (impl_bytesOf.f k a0 a1) (impl_bytesOf.f (k + 1) a0 a1) := by
 intro a0 a1 k
 have ih0 := impl_bytesOf.mono_l k
 unfold impl_bytesOf.f
 repeat' first | (with_reducible first | apply ih0 | exact LeO.refl _ | exact LeO.none _ | refine LeO.ite ?_ ?_ | refine LeO.bind ?_ fun _ => ?_) | apply ih0 | exact LeO.none _ | refine LeO.ite ?_ ?_ | refine LeO.bind ?_ fun _ => ?_
set_option maxHeartbeats 8000000 in
set_option maxRecDepth 100000 in
theorem impl_bytesOf.calls (k : Nat) (a0 : Int) (a1 : Int) (r : List Int) (w : World) (h : impl_bytesOf.f k a0 a1 = some r) :
  Calls Try.prog 79 #[.int .i64 a0, .int .i64 a1] w fun e w' => ∃ v0_ : Value, e = .returned (v0_) ∧ Kd.R (Kd.int .u8) 5 w' w.heap.size (fun _ => True) v0_ r ∧ Below w.heap.size w w' := by
 have HB := Aside0.mk (Below.refl w.heap.size w)
 have H : (if 0 ≤ a1 then (if (a1 : Int).toNat ≤ 281474976710656 then (impl_bytesOf.l0 k a0 (List.replicate (a1 : Int).toNat 0) (wrap64 (a1 - 1))) else (none)) else (none)) = some r := h
 clear h
 by_cases c3 : 0 ≤ a1
 ·rw [if_pos c3] at H
  have c3b0 := eq_true c3
  have c3b1 : decide (0 ≤ a1) = true := decide_eq_true c3
  clear c3
  by_cases c4 : (a1 : Int).toNat ≤ 281474976710656
  ·rw [if_pos c4] at H
   have c4b0 := eq_true c4
   have c4b1 : decide ((a1 : Int).toNat ≤ 281474976710656) = true := decide_eq_true c4
   clear c4
   obtain ⟨y189, hy189⟩ : ∃ y_ : List Int, y_ = (List.replicate (a1 : Int).toNat 0) := ⟨_, rfl⟩
   (first | replace H := sb_ hy189 H | rw [← hy189] at H)
   have Ny189 := Aside0.mk hy189; clear hy189
   have H' := Aside0.mk H
   clear H
   go_enter Try.func79, Try.ntmps79
   go_wp2_with (first | ((with_reducible refine gate_dst (N := 8) rfl ?_); refine Kd.R_make (Kd.int .u8) _ 5 rfl (N := 8) rfl 44 _ _ rfl a1 rfl rfl Try.underlying44 (.int .u8 0) 1 info5 rfl (by decide) (by omega) 0 (ok := fun _ => True) (okp := fun _ => True) rfl (fun _ hk => hk) trivial (of_decide_eq_true (by first | (with_reducible assumption) | assumption)) (Nat.le_trans (Nat.mul_le_mul_right _ (of_decide_eq_true (by first | (with_reducible assumption) | assumption) : a1.toNat ≤ 281474976710656)) (by omega)) (Below.refl _ _) (Nat.le_refl _) ?_; intro v190 w5 ho6 hb hg_ hnew_; clear hg_ hnew_; (first | rw [← Ny189.out] at ho6 | (simp only [Int.reduceToNat] at ho6; rw [← Ny189.out] at ho6)); have HO191 := Aside0.mk (Kd.R_lower ho6 (below_size (hbA_ HB.out))); replace HB := (bs_ HB hb); clear hb ho6))
   go_loopg [0, 6] k (fun kq v0 v6 w' => ∃ (x0_1 : Int) (x5_1 : List Int) (x6_1 : Int), v0 = .int .i64 x0_1 ∧ v6 = .int .i64 x6_1 ∧ Aside0 (impl_bytesOf.l0 kq x0_1 x5_1 x6_1 = some r) ∧ Aside0 (kq ≤ k) ∧ Aside0 (Kd.R (Kd.int .u8) 5 w' w.heap.size (fun _ => True) v190 x5_1) ∧ Aside0 (Below w.heap.size w w'))
   case atStart => exact ⟨(a0), (y189), (wrap64 (a1 - 1)), (by first | rfl | (simp; done) | (simp [*]; done)), (by first | rfl | (simp; done) | (simp [*]; done)), H', ⟨Nat.le_refl _⟩, ⟨kR_ HO191.out⟩, ⟨hbA_ HB.out⟩⟩
   case round =>
    clear H'; (try clear p2); (try clear c3); (try clear c3b0); (try clear c3b1); (try clear c4); (try clear c4b0); (try clear c4b1); (try clear p6)
    obtain ⟨x0_1, x5_1, x6_1, rfl, rfl, HA, HK1, HO_5, HB⟩ := hrel
    cases gk with
    | zero => exact absurd HA.out (by simp [impl_bytesOf.l0])
    | succ k1 =>
     have H := HA.out; clear HA
     simp only [impl_bytesOf.l0] at H
     by_cases c7 : x6_1 ≥ 0
     ·rw [if_pos c7] at H
      have c7b0 : decide (0 ≤ x6_1) = true := decide_eq_true c7
      clear c7
      by_cases c8 : 0 ≤ x6_1
      ·rw [if_pos c8] at H
       have c8b0 : decide (0 ≤ x6_1) = true := decide_eq_true c8
       clear c8
       by_cases c9 : x6_1 < (x5_1.length : Int)
       ·rw [if_pos c9] at H
        have c9b0 : decide (x6_1 < (x5_1.length : Int)) = true := decide_eq_true c9
        clear c9
        obtain ⟨y192, hy192⟩ : ∃ y_ : List Int, y_ = (x5_1.set (x6_1 : Int).toNat ((x0_1) % 256)) := ⟨_, rfl⟩
        (first | replace H := sb_ hy192 H | rw [← hy192] at H)
        have Ny192 := Aside0.mk hy192; clear hy192
        have H' := Aside0.mk H
        clear H
        have p10 : 0 ≤ (x6_1 : Int) := of_decide_eq_true (by first | (with_reducible assumption) | assumption)
        have q10 : (x6_1 : Int) < ((x5_1.length : Int) : Int) := of_decide_eq_true (by first | (with_reducible assumption) | assumption)
        obtain ⟨go10, co10, eo10, gb10, gl10, cl10, HG10⟩ := Kd.R_form HO_5.out (by omega)
        (first | cases eo10 | (injection eo10 with ea_ en_ ec_; (first | subst ea_ | (injection ea_ with ea_; subst ea_)); subst ec_; clear en_))
        have GB10 := Aside0.mk gb10; have GG10 := Aside0.mk HG10; clear gb10 gl10 HG10
        obtain ⟨hx10_0, hf10_0⟩ := Kd.R_celln 0 HO_5.out (x6_1 : Int) p10 q10
        replace p10 := eq_true p10
        replace q10 := eq_true q10
        have HP11 := Kd.R_putg HO_5.out (x6_1 : Int) ((x0_1) % 256)
        go_wp2_with (first | ((with_reducible refine gate_store (t := 5) (p := 19) rfl ?_); refine store_event (t := 5) (p := 19) (v := ?vo_w12) (w1 := (wr.setCell ⟨go10, (x6_1 : Int).toNat, none⟩ (.int .u8 ((x0_1) % 256)))) ?hg ?ho ?hn ?hr ?_; (case ho => rfl); (case hg => rfl); (case hn => rfl); (case hr => first | (go_simp; done) | (go_simp; rfl)); intro w12 hw; have hg : wr.grownBy w12 (some go10) := (by rw [hw]; exact HP11.2); have hp_ : Kd.R (Kd.int .u8) 5 w12 w.heap.size (fun _ => True) (.slice (some ⟨go10, 0, none⟩) x5_1.length co10) y192 := (by rw [hw, Ny192.out]; exact HP11.1); clear HP11; replace HO_5 := Aside0.mk (hp_); replace HB := Aside0.mk ((by rw [hw]; exact below_set (HB.out) GB10.out : Below w.heap.size w w12)); clear hg hw hp_))
        go_roundg k1
        case measure => have := HK1.out; omega
        case rel => exact ⟨(x0_1 / 256), (y192), (wrap64 (x6_1 - 1)), (by first | rfl | (simp; done) | (simp [*]; done)), (by first | rfl | (simp; done) | (simp [*]; done)), H', ⟨by have := HK1.out; omega⟩, ⟨kR_ HO_5.out⟩, ⟨hbA_ HB.out⟩⟩
       ·rw [if_neg c9] at H
        exact absurd H (by simp)
      ·rw [if_neg c8] at H
       exact absurd H (by simp)
     ·rw [if_neg c7] at H
      have c7b0 : decide (0 ≤ x6_1) = false := decide_eq_false c7
      clear c7
      obtain rfl := Option.some.inj H
      go_wp2
      go_ret
      exact ⟨_, by first | rfl | (simp [errW_none, errW_some] <;> rfl) | (simp [*, errW_none, errW_some] <;> rfl), kR_ HO_5.out, hbA_ HB.out⟩
  ·rw [if_neg c4] at H
   exact absurd H (by simp)
 ·rw [if_neg c3] at H
  exact absurd H (by simp)
def impl_BytesOf.f (k : Nat) (a0 : Int) (a1 : Int) : Option (List Int) := (impl_in.f a1 1 4).bind fun t193 => (if t193 = true then (if 0 ≤ (wrap64 (8 * a1)) then ((impl_in.f a0 0 (wrap64 ((shl .i64 1 (wrap64 (8 * a1))) - 1))).bind fun t194 => (if t194 = true then ((impl_bytesOf.f k a0 a1).bind fun t195 => (some t195)) else (some ([] : List Int)))) else (none)) else (some ([] : List Int)))
theorem impl_BytesOf.mono : ∀ a0 a1 k, LeO (impl_BytesOf.f k a0 a1) (impl_BytesOf.f (k + 1) a0 a1) := by
 intro a0 a1 k
 unfold impl_BytesOf.f
 repeat' first | (with_reducible first | apply impl_bytesOf.mono | exact LeO.refl _ | exact LeO.none _ | refine LeO.ite ?_ ?_ | refine LeO.bind ?_ fun _ => ?_) | apply impl_bytesOf.mono | exact LeO.none _ | refine LeO.ite ?_ ?_ | refine LeO.bind ?_ fun _ => ?_
set_option maxHeartbeats 8000000 in
set_option maxRecDepth 100000 in
theorem impl_BytesOf.calls (k : Nat) (a0 : Int) (a1 : Int) (r : List Int) (w : World) (h : impl_BytesOf.f k a0 a1 = some r) :
  Calls Try.prog 63 #[.int .i64 a0, .int .i64 a1] w fun e w' => ∃ v0_ : Value, e = .returned (v0_) ∧ Kd.R (Kd.int .u8) 5 w' w.heap.size (fun _ => True) v0_ r ∧ Below w.heap.size w w' := by
 have HB := Aside0.mk (Below.refl w.heap.size w)
 have H : ((impl_in.f a1 1 4).bind fun t193 => (if t193 = true then (if 0 ≤ (wrap64 (8 * a1)) then ((impl_in.f a0 0 (wrap64 ((shl .i64 1 (wrap64 (8 * a1))) - 1))).bind fun t194 => (if t194 = true then ((impl_bytesOf.f k a0 a1).bind fun t195 => (some t195)) else (some ([] : List Int)))) else (none)) else (some ([] : List Int)))) = some r := h
 clear h
 replace H := Option.bind_eq_some_iff.mp H
 obtain ⟨t193, A30, H⟩ := H
 (try dsimp only at H)
 have A3 := Aside0.mk A30; clear A30
 by_cases c4 : t193 = true
 ·subst c4
  rw [if_pos rfl] at H
  obtain ⟨ji5, hji5⟩ : ∃ j_ : Int, (wrap64 (8 * a1)) = j_ := ⟨_, rfl⟩
  (first | rw [hji5] at H | simp only [hji5] at H)
  (try rw [hji5] at A3)
  have hji5w : (IntKind.i64.wrap (8 * a1)) = ji5 := (i64_w _).trans hji5
  by_cases c6 : 0 ≤ (ji5)
  ·rw [if_pos c6] at H
   have c6b0 := eq_true c6
   have c6b1 : decide (0 ≤ (ji5)) = true := decide_eq_true c6
   clear c6
   obtain ⟨ji7, hji7⟩ : ∃ j_ : Int, (shl .i64 1 (ji5)) = j_ := ⟨_, rfl⟩
   (first | rw [hji7] at H | simp only [hji7] at H)
   (try rw [hji7] at A3)
   have hji7_ : (IntKind.i64.wrap (1 * 2 ^ min (ji5).toNat 64)) = ji7 := hji7
   have hji7z : (ji5) ≤ 64 → (IntKind.i64.wrap (1 * 2 ^ (ji5).toNat)) = ji7 := shl_small hji7
   have hji7u : (IntKind.i64.wrap (2 ^ min (ji5).toNat 64)) = ji7 := by have h_ := hji7_; rw [Int.one_mul] at h_; exact h_
   have hji7v : (ji5) ≤ 64 → (IntKind.i64.wrap (2 ^ (ji5).toNat)) = ji7 := fun hle_ => by have h_ := hji7z hle_; rw [Int.one_mul] at h_; exact h_
   have hji7y : (wrap64 (1 * 2 ^ min (ji5).toNat 64)) = ji7 := (i64_w _).symm.trans hji7_
   have hji7x : (ji5) ≤ 64 → (wrap64 (1 * 2 ^ (ji5).toNat)) = ji7 := fun h_ => (i64_w _).symm.trans (hji7z h_)
   replace H := Option.bind_eq_some_iff.mp H
   obtain ⟨t194, A80, H⟩ := H
   (try dsimp only at H)
   have A8 := Aside0.mk A80; clear A80
   by_cases c9 : t194 = true
   ·subst c9
    rw [if_pos rfl] at H
    replace H := Option.bind_eq_some_iff.mp H
    obtain ⟨t195, A100, H⟩ := H
    (try dsimp only at H)
    have A10 := Aside0.mk A100; clear A100
    obtain rfl := Option.some.inj H
    go_enter Try.func63, Try.ntmps63
    go_wp2_with (first | ((with_reducible refine gate_callee (f := 37) rfl ?_); refine goesL_ (some 6) rfl rfl Try.func37 (by kernel_rfl) rfl #[.int .i64 a1, .int .i64 1, .int .i64 4] rfl ar_ ?_; (with_reducible refine (impl_in.calls a1 1 4 true _ A3.out).mono ?_); rintro e w' ⟨rfl, ⟨nd, rfl⟩⟩; refine ⟨_, rfl, ?_⟩) | (go_at_call 37; (with_reducible refine (impl_in.calls a0 0 (wrap64 ((ji7) - 1)) true _ A8.out).mono ?_); rintro e w' ⟨rfl, ⟨nd, rfl⟩⟩) | ((with_reducible refine gate_callee (f := 79) rfl ?_); refine goesL_ (some 19) rfl rfl Try.func79 (by kernel_rfl) rfl #[.int .i64 a0, .int .i64 a1] rfl ar_ ?_; (with_reducible refine (impl_bytesOf.calls k a0 a1 t195 _ A10.out).mono ?_); rintro e w11 ⟨v196, rfl, ho0, hb⟩; refine ⟨_, rfl, ?_⟩; have HO197 := Aside0.mk (Kd.R_lower ho0 (below_size (hbA_ HB.out))); replace HB := (bs_ HB hb); (try clear hb); (try clear hb2); (try clear hk); (try clear hi); (try clear ho0)))
    go_ret
    exact ⟨_, by first | rfl | (simp [errW_none, errW_some] <;> rfl) | (simp only [← hji5, ← hji7]; first | rfl | (simp [errW_none, errW_some] <;> rfl)) | (simp [*, errW_none, errW_some] <;> rfl), kR_ HO197.out, hbA_ HB.out⟩
   ·replace c9 := Bool.eq_false_iff.mpr c9
    subst c9
    rw [if_neg (show ¬ (false = true) by decide)] at H
    obtain rfl := Option.some.inj H
    go_enter Try.func63, Try.ntmps63
    go_wp2_with (first | ((with_reducible refine gate_callee (f := 37) rfl ?_); refine goesL_ (some 6) rfl rfl Try.func37 (by kernel_rfl) rfl #[.int .i64 a1, .int .i64 1, .int .i64 4] rfl ar_ ?_; (with_reducible refine (impl_in.calls a1 1 4 true _ A3.out).mono ?_); rintro e w' ⟨rfl, ⟨nd, rfl⟩⟩; refine ⟨_, rfl, ?_⟩) | (go_at_call 37; (with_reducible refine (impl_in.calls a0 0 (wrap64 ((ji7) - 1)) false _ A8.out).mono ?_); rintro e w' ⟨rfl, ⟨nd, rfl⟩⟩))
    go_ret
    exact ⟨_, by first | rfl | (simp [errW_none, errW_some] <;> rfl) | (simp only [← hji5, ← hji7]; first | rfl | (simp [errW_none, errW_some] <;> rfl)) | (simp [*, errW_none, errW_some] <;> rfl), by first | exact Kd.R_nil _ _ _ _ _ | exact Kd.N_nil _ _ _ _ _ | exact Kd.V_nil _ _ _ _ _ | exact Kd.Q_nil _ _ _ _ _ | exact Kd.S_nil _ _ _ _ _, hbA_ HB.out⟩
  ·rw [if_neg c6] at H
   exact absurd H (by simp)
 ·replace c4 := Bool.eq_false_iff.mpr c4
  subst c4
  rw [if_neg (show ¬ (false = true) by decide)] at H
  obtain rfl := Option.some.inj H
  go_enter Try.func63, Try.ntmps63
  go_wp2_with (first | ((with_reducible refine gate_callee (f := 37) rfl ?_); refine goesL_ (some 6) rfl rfl Try.func37 (by kernel_rfl) rfl #[.int .i64 a1, .int .i64 1, .int .i64 4] rfl ar_ ?_; (with_reducible refine (impl_in.calls a1 1 4 false _ A3.out).mono ?_); rintro e w' ⟨rfl, ⟨nd, rfl⟩⟩; refine ⟨_, rfl, ?_⟩))
  go_ret
  exact ⟨_, by first | rfl | (simp [errW_none, errW_some] <;> rfl) | (simp [*, errW_none, errW_some] <;> rfl), by first | exact Kd.R_nil _ _ _ _ _ | exact Kd.N_nil _ _ _ _ _ | exact Kd.V_nil _ _ _ _ _ | exact Kd.Q_nil _ _ _ _ _ | exact Kd.S_nil _ _ _ _ _, hbA_ HB.out⟩
def laws_alive.f (k : Nat)  : Option (Bool) := (impl_BytesOf.f k 5 1).bind fun t198 => (if (t198.length : Int) = 1 then ((impl_BytesOf.f k 256 1).bind fun t201 => (some ((t201.length : Int) == 0))) else (some false))
theorem laws_alive.mono : ∀ k, LeO (laws_alive.f k ) (laws_alive.f (k + 1) ) := by
 intro  k
 unfold laws_alive.f
 repeat' first | (with_reducible first | apply impl_BytesOf.mono | exact LeO.refl _ | exact LeO.none _ | refine LeO.ite ?_ ?_ | refine LeO.bind ?_ fun _ => ?_) | apply impl_BytesOf.mono | exact LeO.none _ | refine LeO.ite ?_ ?_ | refine LeO.bind ?_ fun _ => ?_
set_option maxHeartbeats 8000000 in
set_option maxRecDepth 100000 in
theorem laws_alive.calls (k : Nat)  (r : Bool) (w : World) (h : laws_alive.f k  = some r) :
  Calls Try.prog 22 #[] w fun e w' => e = .returned (.bool r) ∧ Below w.heap.size w w' := by
 have HB := Aside0.mk (Below.refl w.heap.size w)
 have H : ((impl_BytesOf.f k 5 1).bind fun t198 => (if (t198.length : Int) = 1 then ((impl_BytesOf.f k 256 1).bind fun t201 => (some ((t201.length : Int) == 0))) else (some false))) = some r := h
 clear h
 replace H := Option.bind_eq_some_iff.mp H
 obtain ⟨t198, A10, H⟩ := H
 (try dsimp only at H)
 have A1 := Aside0.mk A10; clear A10
 by_cases c2 : (t198.length : Int) = 1
 ·rw [if_pos c2] at H
  have c2b0 : ((t198.length : Int) == 1) = true := beq_iff_eq.mpr c2
  have c2b1 : ((t198.length : Int) != 1) = false := bne_eq_false_iff_eq.mpr c2
  clear c2
  replace H := Option.bind_eq_some_iff.mp H
  obtain ⟨t201, A30, H⟩ := H
  (try dsimp only at H)
  have A3 := Aside0.mk A30; clear A30
  obtain rfl := Option.some.inj H
  go_enter Try.func22, Try.ntmps22
  go_wp2_with (first | ((with_reducible refine gate_callee (f := 63) rfl ?_); refine goesL_ (some 1) rfl rfl Try.func63 (by kernel_rfl) rfl #[.int .i64 5, .int .i64 1] rfl ar_ ?_; (with_reducible refine (impl_BytesOf.calls k 5 1 t198 _ A1.out).mono ?_); rintro e w4 ⟨v199, rfl, ho0, hb⟩; refine ⟨_, rfl, ?_⟩; have HO200 := Aside0.mk (Kd.R_lower ho0 (below_size (hbA_ HB.out))); replace HB := (bs_ HB hb); (try clear hb); (try clear hb2); (try clear hk); (try clear hi); (try clear ho0); obtain ⟨Ao5, co5, eo5⟩ := Kd.R_slice HO200.out; subst eo5) | (go_at_call 63; (with_reducible refine (impl_BytesOf.calls k 256 1 t201 _ A3.out).mono ?_); rintro e w6 ⟨v202, rfl, ho0, hb⟩; have HO203 := Aside0.mk (Kd.R_lower (Kd.R_new' ho0 (Kd.R_lt (kR_ HO200.out))) (below_size (hbA_ HB.out))); replace HO200 := Aside0.mk (Kd.R_elder' (kR_ HO200.out) (Kd.R_base ho0) hb); replace HB := (bs_ HB hb); (try clear hb); (try clear hb2); (try clear hk); (try clear hi); (try clear ho0); obtain ⟨Ao7, co7, eo7⟩ := Kd.R_slice HO203.out; subst eo7))
  go_ret
  exact ⟨by first | rfl | (simp [errW_none, errW_some] <;> rfl) | (simp [*, errW_none, errW_some] <;> rfl), hbA_ HB.out⟩
 ·rw [if_neg c2] at H
  have c2b0 : ((t198.length : Int) == 1) = false := beq_eq_false_iff_ne.mpr c2
  have c2b1 : ((t198.length : Int) != 1) = true := bne_iff_ne.mpr c2
  obtain rfl := Option.some.inj H
  go_enter Try.func22, Try.ntmps22
  go_wp2_with (first | ((with_reducible refine gate_callee (f := 63) rfl ?_); refine goesL_ (some 1) rfl rfl Try.func63 (by kernel_rfl) rfl #[.int .i64 5, .int .i64 1] rfl ar_ ?_; (with_reducible refine (impl_BytesOf.calls k 5 1 t198 _ A1.out).mono ?_); rintro e w8 ⟨v199, rfl, ho0, hb⟩; refine ⟨_, rfl, ?_⟩; have HO200 := Aside0.mk (Kd.R_lower ho0 (below_size (hbA_ HB.out))); replace HB := (bs_ HB hb); (try clear hb); (try clear hb2); (try clear hk); (try clear hi); (try clear ho0); obtain ⟨Ao9, co9, eo9⟩ := Kd.R_slice HO200.out; subst eo9))
  go_ret
  exact ⟨by first | rfl | (simp [errW_none, errW_some] <;> rfl) | (simp [*, errW_none, errW_some] <;> rfl), hbA_ HB.out⟩
def impl_Near_find.f (l0_0 : List (S63)) (l0_1 : List (S65)) (a1 : Int) (a2 : Int) : Option (Int) := (impl_Near_at.f l0_0 l0_1 a1).bind fun t205 => (if t205 ≥ 0 then (if 0 ≤ t205 then (if t205 < (l0_0.length : Int) then (if ((rd_T63 l0_0 t205).f2) > a2 then (some ((rd_T63 l0_0 t205).f1)) else (some (-1))) else (none)) else (none)) else (some (-1)))
set_option maxHeartbeats 8000000 in
set_option maxRecDepth 100000 in
theorem impl_Near_find.calls (A0_0 : Option Addr) (c0_0 : Nat) (l0_0 : List (S63)) (A0_1 : Option Addr) (c0_1 : Nat) (l0_1 : List (S65)) (a1 : Int) (a2 : Int) (r : Int) (w : World) (hr0_0 : Kd.C k63 w A0_0 l0_0.length l0_0) (hc0_0 : l0_0.length ≤ c0_0) (hr0_1 : Kd.C k65 w A0_1 l0_1.length l0_1) (hc0_1 : l0_1.length ≤ c0_1) (h : impl_Near_find.f l0_0 l0_1 a1 a2 = some r) :
  Calls Try.prog 64 #[.agg #[.slice A0_0 l0_0.length c0_0, .slice A0_1 l0_1.length c0_1], .int .i64 a1, .int .i64 a2] w fun e w' => e = .returned (.int .i64 r) ∧ Below w.heap.size w w' := by
 have hu32 := Try.underlying32; have HR0_0 := Aside0.mk hr0_0; have HC0_0 := Aside0.mk hc0_0; clear hr0_0 hc0_0; have HR0_1 := Aside0.mk hr0_1; have HC0_1 := Aside0.mk hc0_1; clear hr0_1 hc0_1
 have HB := Aside0.mk (Below.refl w.heap.size w)
 have H : ((impl_Near_at.f l0_0 l0_1 a1).bind fun t205 => (if t205 ≥ 0 then (if 0 ≤ t205 then (if t205 < (l0_0.length : Int) then (if ((rd_T63 l0_0 t205).f2) > a2 then (some ((rd_T63 l0_0 t205).f1)) else (some (-1))) else (none)) else (none)) else (some (-1)))) = some r := h
 clear h
 replace H := Option.bind_eq_some_iff.mp H
 obtain ⟨t205, A40, H⟩ := H
 (try dsimp only at H)
 have A4 := Aside0.mk A40; clear A40
 by_cases c5 : t205 ≥ 0
 ·rw [if_pos c5] at H
  have c5b0 : decide (0 ≤ t205) = true := decide_eq_true c5
  clear c5
  by_cases c6 : 0 ≤ t205
  ·rw [if_pos c6] at H
   have c6b0 : decide (0 ≤ t205) = true := decide_eq_true c6
   clear c6
   by_cases c7 : t205 < (l0_0.length : Int)
   ·rw [if_pos c7] at H
    have c7b0 : decide (t205 < (l0_0.length : Int)) = true := decide_eq_true c7
    clear c7
    by_cases c8 : ((rd_T63 l0_0 t205).f2) > a2
    ·rw [if_pos c8] at H
     have c8b0 : decide (a2 < ((rd_T63 l0_0 t205).f2)) = true := decide_eq_true c8
     clear c8
     obtain rfl := Option.some.inj H
     go_enter Try.func64, Try.ntmps64
     go_wp2_with (first | ((with_reducible refine gate_dst (N := 3) rfl ?_); refine box_ (N := 3) (cs := #[.slice A0_0 l0_0.length c0_0, .slice A0_1 l0_1.length c0_1]) (t := 32) (fun gb204 hg w9 hbox hb => ?_); have BK204 := Aside0.mk (hbox); have GW204 := ge_ hg HB; have GE204 := ge_ hg HB; replace HB := (bs_ HB hb); clear hb hbox hg; have Z10 := zz2 BK204) | ((with_reducible refine gate_callee (f := 39) rfl ?_); refine goesL_ (some 10) rfl rfl Try.func39 (by kernel_rfl) rfl #[.agg #[.slice A0_0 l0_0.length c0_0, .slice A0_1 l0_1.length c0_1], .int .i64 a1] rfl ar_ ?_; (with_reducible refine (impl_Near_at.calls _ _ l0_0 _ _ l0_1 a1 t205 _ ?side1 ?side2 ?side3 ?side4 A4.out).mono ?_); (case side1 => exact kC_ (Kd.C_below HR0_0.out HB.out)); (case side2 => exact HC0_0.out); (case side3 => exact kC_ (Kd.C_below HR0_1.out HB.out)); (case side4 => exact HC0_1.out); rintro e w11 ⟨rfl, hb⟩; refine ⟨_, rfl, ?_⟩; replace BK204 := (bbA_ BK204 hb); replace HB := (bs_ HB hb); (try clear hb); (try clear hb2); (try clear hk); (try clear hi); have Z12 := zz2 BK204; have p206 : 0 ≤ (t205 : Int) := of_decide_eq_true (by first | (with_reducible assumption) | assumption); have q206 : t205 < (l0_0.length : Int) := of_decide_eq_true (by first | (with_reducible assumption) | assumption); obtain ⟨ad206, e206, hx206_0, hx206_1, hx206_2⟩ := at_T63 HR0_0.out t205 p206 q206; cases e206; replace hx206_0 := cc_ HB hx206_0; replace hx206_1 := cc_ HB hx206_1; replace hx206_2 := cc_ HB hx206_2; replace p206 := eq_true p206; replace q206 := eq_true q206; have p207 : 0 ≤ (t205 : Int) := of_decide_eq_true (by first | (with_reducible assumption) | assumption); have q207 : t205 < (l0_0.length : Int) := of_decide_eq_true (by first | (with_reducible assumption) | assumption); obtain ⟨ad207, e207, hx207_0, hx207_1, hx207_2⟩ := at_T63 HR0_0.out t205 p207 q207; obtain rfl : ad206 = ad207 := (by injection e207); replace hx207_0 := cc_ HB hx207_0; replace hx207_1 := cc_ HB hx207_1; replace hx207_2 := cc_ HB hx207_2; replace p207 := eq_true p207; replace q207 := eq_true q207))
     go_ret
     exact ⟨by first | rfl | (simp [errW_none, errW_some] <;> rfl) | (simp [*, errW_none, errW_some] <;> rfl), hbA_ HB.out⟩
    ·rw [if_neg c8] at H
     have c8b0 : decide (a2 < ((rd_T63 l0_0 t205).f2)) = false := decide_eq_false c8
     clear c8
     obtain rfl := Option.some.inj H
     go_enter Try.func64, Try.ntmps64
     go_wp2_with (first | ((with_reducible refine gate_dst (N := 3) rfl ?_); refine box_ (N := 3) (cs := #[.slice A0_0 l0_0.length c0_0, .slice A0_1 l0_1.length c0_1]) (t := 32) (fun gb204 hg w13 hbox hb => ?_); have BK204 := Aside0.mk (hbox); have GW204 := ge_ hg HB; have GE204 := ge_ hg HB; replace HB := (bs_ HB hb); clear hb hbox hg; have Z14 := zz2 BK204) | ((with_reducible refine gate_callee (f := 39) rfl ?_); refine goesL_ (some 10) rfl rfl Try.func39 (by kernel_rfl) rfl #[.agg #[.slice A0_0 l0_0.length c0_0, .slice A0_1 l0_1.length c0_1], .int .i64 a1] rfl ar_ ?_; (with_reducible refine (impl_Near_at.calls _ _ l0_0 _ _ l0_1 a1 t205 _ ?side1 ?side2 ?side3 ?side4 A4.out).mono ?_); (case side1 => exact kC_ (Kd.C_below HR0_0.out HB.out)); (case side2 => exact HC0_0.out); (case side3 => exact kC_ (Kd.C_below HR0_1.out HB.out)); (case side4 => exact HC0_1.out); rintro e w15 ⟨rfl, hb⟩; refine ⟨_, rfl, ?_⟩; replace BK204 := (bbA_ BK204 hb); replace HB := (bs_ HB hb); (try clear hb); (try clear hb2); (try clear hk); (try clear hi); have Z16 := zz2 BK204; have p206 : 0 ≤ (t205 : Int) := of_decide_eq_true (by first | (with_reducible assumption) | assumption); have q206 : t205 < (l0_0.length : Int) := of_decide_eq_true (by first | (with_reducible assumption) | assumption); obtain ⟨ad206, e206, hx206_0, hx206_1, hx206_2⟩ := at_T63 HR0_0.out t205 p206 q206; cases e206; replace hx206_0 := cc_ HB hx206_0; replace hx206_1 := cc_ HB hx206_1; replace hx206_2 := cc_ HB hx206_2; replace p206 := eq_true p206; replace q206 := eq_true q206))
     go_ret
     exact ⟨by first | rfl | (simp [errW_none, errW_some] <;> rfl) | (simp [*, errW_none, errW_some] <;> rfl), hbA_ HB.out⟩
   ·rw [if_neg c7] at H
    exact absurd H (by simp)
  ·rw [if_neg c6] at H
   exact absurd H (by simp)
 ·rw [if_neg c5] at H
  have c5b0 : decide (0 ≤ t205) = false := decide_eq_false c5
  clear c5
  obtain rfl := Option.some.inj H
  go_enter Try.func64, Try.ntmps64
  go_wp2_with (first | ((with_reducible refine gate_dst (N := 3) rfl ?_); refine box_ (N := 3) (cs := #[.slice A0_0 l0_0.length c0_0, .slice A0_1 l0_1.length c0_1]) (t := 32) (fun gb204 hg w17 hbox hb => ?_); have BK204 := Aside0.mk (hbox); have GW204 := ge_ hg HB; have GE204 := ge_ hg HB; replace HB := (bs_ HB hb); clear hb hbox hg; have Z18 := zz2 BK204) | ((with_reducible refine gate_callee (f := 39) rfl ?_); refine goesL_ (some 10) rfl rfl Try.func39 (by kernel_rfl) rfl #[.agg #[.slice A0_0 l0_0.length c0_0, .slice A0_1 l0_1.length c0_1], .int .i64 a1] rfl ar_ ?_; (with_reducible refine (impl_Near_at.calls _ _ l0_0 _ _ l0_1 a1 t205 _ ?side1 ?side2 ?side3 ?side4 A4.out).mono ?_); (case side1 => exact kC_ (Kd.C_below HR0_0.out HB.out)); (case side2 => exact HC0_0.out); (case side3 => exact kC_ (Kd.C_below HR0_1.out HB.out)); (case side4 => exact HC0_1.out); rintro e w19 ⟨rfl, hb⟩; refine ⟨_, rfl, ?_⟩; replace BK204 := (bbA_ BK204 hb); replace HB := (bs_ HB hb); (try clear hb); (try clear hb2); (try clear hk); (try clear hi)))
  go_ret
  exact ⟨by first | rfl | (simp [errW_none, errW_some] <;> rfl) | (simp [*, errW_none, errW_some] <;> rfl), hbA_ HB.out⟩
def impl_NearFind.f (k : Nat) (l0_0 : List (S63)) (l0_1 : List (S65)) (a1 : Int) (a2 : Int) : Option (Int) := (impl_NearOk.f k l0_0 l0_1).bind fun t209 => (if t209 = true then ((impl_Near_find.f l0_0 l0_1 a1 a2).bind fun t210 => (some t210)) else (some (-1)))
theorem impl_NearFind.mono : ∀ a0 a1 a2 a3 k, LeO (impl_NearFind.f k a0 a1 a2 a3) (impl_NearFind.f (k + 1) a0 a1 a2 a3) := by
 intro a0 a1 a2 a3 k
 unfold impl_NearFind.f
 repeat' first | (with_reducible first | apply impl_NearOk.mono | exact LeO.refl _ | exact LeO.none _ | refine LeO.ite ?_ ?_ | refine LeO.bind ?_ fun _ => ?_) | apply impl_NearOk.mono | exact LeO.none _ | refine LeO.ite ?_ ?_ | refine LeO.bind ?_ fun _ => ?_
set_option maxHeartbeats 8000000 in
set_option maxRecDepth 100000 in
theorem impl_NearFind.calls (k : Nat) (A0_0 : Option Addr) (c0_0 : Nat) (l0_0 : List (S63)) (A0_1 : Option Addr) (c0_1 : Nat) (l0_1 : List (S65)) (a1 : Int) (a2 : Int) (r : Int) (w : World) (hr0_0 : Kd.C k63 w A0_0 l0_0.length l0_0) (hc0_0 : l0_0.length ≤ c0_0) (hr0_1 : Kd.C k65 w A0_1 l0_1.length l0_1) (hc0_1 : l0_1.length ≤ c0_1) (h : impl_NearFind.f k l0_0 l0_1 a1 a2 = some r) :
  Calls Try.prog 24 #[.agg #[.slice A0_0 l0_0.length c0_0, .slice A0_1 l0_1.length c0_1], .int .i64 a1, .int .i64 a2] w fun e w' => e = .returned (.int .i64 r) ∧ Below w.heap.size w w' := by
 have hu32 := Try.underlying32; have HR0_0 := Aside0.mk hr0_0; have HC0_0 := Aside0.mk hc0_0; clear hr0_0 hc0_0; have HR0_1 := Aside0.mk hr0_1; have HC0_1 := Aside0.mk hc0_1; clear hr0_1 hc0_1
 have HB := Aside0.mk (Below.refl w.heap.size w)
 have H : ((impl_NearOk.f k l0_0 l0_1).bind fun t209 => (if t209 = true then ((impl_Near_find.f l0_0 l0_1 a1 a2).bind fun t210 => (some t210)) else (some (-1)))) = some r := h
 clear h
 replace H := Option.bind_eq_some_iff.mp H
 obtain ⟨t209, A40, H⟩ := H
 (try dsimp only at H)
 have A4 := Aside0.mk A40; clear A40
 by_cases c5 : t209 = true
 ·subst c5
  rw [if_pos rfl] at H
  replace H := Option.bind_eq_some_iff.mp H
  obtain ⟨t210, A60, H⟩ := H
  (try dsimp only at H)
  have A6 := Aside0.mk A60; clear A60
  obtain rfl := Option.some.inj H
  go_enter Try.func24, Try.ntmps24
  go_wp2_with (first | ((with_reducible refine gate_dst (N := 3) rfl ?_); refine box_ (N := 3) (cs := #[.slice A0_0 l0_0.length c0_0, .slice A0_1 l0_1.length c0_1]) (t := 32) (fun gb208 hg w7 hbox hb => ?_); have BK208 := Aside0.mk (hbox); have GW208 := ge_ hg HB; have GE208 := ge_ hg HB; replace HB := (bs_ HB hb); clear hb hbox hg; have Z8 := zz2 BK208) | ((with_reducible refine gate_callee (f := 20) rfl ?_); refine goesL_ (some 8) rfl rfl Try.func20 (by kernel_rfl) rfl #[.agg #[.slice A0_0 l0_0.length c0_0, .slice A0_1 l0_1.length c0_1]] rfl ar_ ?_; (with_reducible refine (impl_NearOk.calls k _ _ l0_0 _ _ l0_1 true _ ?side1 ?side2 ?side3 ?side4 A4.out).mono ?_); (case side1 => exact kC_ (Kd.C_below HR0_0.out HB.out)); (case side2 => exact HC0_0.out); (case side3 => exact kC_ (Kd.C_below HR0_1.out HB.out)); (case side4 => exact HC0_1.out); rintro e w9 ⟨rfl, hb⟩; refine ⟨_, rfl, ?_⟩; replace BK208 := (bbA_ BK208 hb); replace HB := (bs_ HB hb); (try clear hb); (try clear hb2); (try clear hk); (try clear hi); have Z10 := zz2 BK208) | ((with_reducible refine gate_callee (f := 64) rfl ?_); refine goesL_ (some 13) rfl rfl Try.func64 (by kernel_rfl) rfl #[.agg #[.slice A0_0 l0_0.length c0_0, .slice A0_1 l0_1.length c0_1], .int .i64 a1, .int .i64 a2] rfl ar_ ?_; (with_reducible refine (impl_Near_find.calls _ _ l0_0 _ _ l0_1 a1 a2 t210 _ ?side1 ?side2 ?side3 ?side4 A6.out).mono ?_); (case side1 => exact kC_ (Kd.C_below HR0_0.out HB.out)); (case side2 => exact HC0_0.out); (case side3 => exact kC_ (Kd.C_below HR0_1.out HB.out)); (case side4 => exact HC0_1.out); rintro e w11 ⟨rfl, hb⟩; refine ⟨_, rfl, ?_⟩; replace BK208 := (bbA_ BK208 hb); replace HB := (bs_ HB hb); (try clear hb); (try clear hb2); (try clear hk); (try clear hi)))
  go_ret
  exact ⟨by first | rfl | (simp [errW_none, errW_some] <;> rfl) | (simp [*, errW_none, errW_some] <;> rfl), hbA_ HB.out⟩
 ·replace c5 := Bool.eq_false_iff.mpr c5
  subst c5
  rw [if_neg (show ¬ (false = true) by decide)] at H
  obtain rfl := Option.some.inj H
  go_enter Try.func24, Try.ntmps24
  go_wp2_with (first | ((with_reducible refine gate_dst (N := 3) rfl ?_); refine box_ (N := 3) (cs := #[.slice A0_0 l0_0.length c0_0, .slice A0_1 l0_1.length c0_1]) (t := 32) (fun gb208 hg w12 hbox hb => ?_); have BK208 := Aside0.mk (hbox); have GW208 := ge_ hg HB; have GE208 := ge_ hg HB; replace HB := (bs_ HB hb); clear hb hbox hg; have Z13 := zz2 BK208) | ((with_reducible refine gate_callee (f := 20) rfl ?_); refine goesL_ (some 8) rfl rfl Try.func20 (by kernel_rfl) rfl #[.agg #[.slice A0_0 l0_0.length c0_0, .slice A0_1 l0_1.length c0_1]] rfl ar_ ?_; (with_reducible refine (impl_NearOk.calls k _ _ l0_0 _ _ l0_1 false _ ?side1 ?side2 ?side3 ?side4 A4.out).mono ?_); (case side1 => exact kC_ (Kd.C_below HR0_0.out HB.out)); (case side2 => exact HC0_0.out); (case side3 => exact kC_ (Kd.C_below HR0_1.out HB.out)); (case side4 => exact HC0_1.out); rintro e w14 ⟨rfl, hb⟩; refine ⟨_, rfl, ?_⟩; replace BK208 := (bbA_ BK208 hb); replace HB := (bs_ HB hb); (try clear hb); (try clear hb2); (try clear hk); (try clear hi)))
  go_ret
  exact ⟨by first | rfl | (simp [errW_none, errW_some] <;> rfl) | (simp [*, errW_none, errW_some] <;> rfl), hbA_ HB.out⟩
def IsS104 (w0 W : World) (g : Nat) (f0 : List Int) (f1 : Int) : Prop := ∃ A0 c0, W.heap[g]? = some (.cells #[.slice A0 f0.length c0, .int .i64 f1] 104 (0, 0)) ∧ w0.heap.size ≤ g ∧ Kd.C (Kd.int .u8) w0 A0 f0.length f0
theorem IsS104.grown {w0 W : World} {g : Nat} {f0 : List Int} {f1 : Int} {W1 : World} {row : Option Nat} (h : IsS104 w0 W g f0 f1) (hw : W.grownBy W1 row) (hne : some g ≠ row) : IsS104 w0 W1 g f0 f1 := by
 obtain ⟨A0, c0, hb, hg, hr0⟩ := h
 exact ⟨A0, c0, blk_grown hb hw hne, hg, hr0⟩
theorem IsS104.kept {w0 W : World} {g : Nat} {f0 : List Int} {f1 : Int} {W1 : World} {S : Nat → Prop} (h : IsS104 w0 W g f0 f1) (hk : Kept W W1 S) (hne : ¬ S g) : IsS104 w0 W1 g f0 f1 := by
 obtain ⟨A0, c0, hb, hg, hr0⟩ := h
 exact ⟨A0, c0, blk_kept hb hk hne, hg, hr0⟩
theorem IsS104.below {w0 W : World} {g : Nat} {f0 : List Int} {f1 : Int} {W1 : World} (h : IsS104 w0 W g f0 f1) (hw : Below W.heap.size W W1) : IsS104 w0 W1 g f0 f1 := h.grown (grown_of_below hw none) (by simp)
theorem IsS104.alloc {w0 W : World} {g : Nat} {f0 : List Int} {f1 : Int} (h : IsS104 w0 W g f0 f1) (o : Obj) : IsS104 w0 (W.alloc o) g f0 f1 := h.below (below_alloc (Below.refl _ _) o)
theorem IsS104.drewN {w0 W : World} {g : Nat} {f0 : List Int} {f1 : Int} (h : IsS104 w0 W g f0 f1) (m : Nat) : IsS104 w0 (W.drewN m) g f0 f1 := h
theorem IsS104.drew {w0 W : World} {g : Nat} {f0 : List Int} {f1 : Int} (h : IsS104 w0 W g f0 f1) : IsS104 w0 W.drew g f0 f1 := h
theorem IsS104.at_ {w0 W : World} {g : Nat} {f0 : List Int} {f1 : Int} {w' : World} {m : Nat} (hq : W.drewN m = w') (h : IsS104 w0 W g f0 f1) : IsS104 w0 w' g f0 f1 := by subst hq; exact IsS104.drewN h m
theorem IsS104.apart {w0 W : World} {g : Nat} {f0 : List Int} {f1 : Int} {α : Type} {d : Kd α} {e : Nat} {base : Nat} {ok : Nat → Prop} {v : Value} {xs : List α} (h : IsS104 w0 W g f0 f1) (ho : d.R e W base ok v xs) (ht : ∀ q, q ∈ e :: d.E → q ≠ 104) : d.R e W base (fun k => ok k ∧ k ≠ g) v xs := by
 obtain ⟨A0, c0, hb, hg, hr0⟩ := h
 exact Kd.R_types ho hb ht
theorem IsS104.own_ne {w0 W : World} {g : Nat} {f0 : List Int} {f1 : Int} {α : Type} {d : Kd α} {e : Nat} {base : Nat} {ok : Nat → Prop} {v : Value} {xs : List α} (h : IsS104 w0 W g f0 f1) (ho : d.R e W base ok v xs) (ht : e ≠ 104) : some g ≠ v.ownBlock := by
 obtain ⟨A0, c0, hb, hg, hr0⟩ := h
 exact Kd.R_ne ho hb ht
theorem IsS104.apartQ {w0 W : World} {g : Nat} {f0 : List Int} {f1 : Int} {α : Type} {d : Kd α} {e : Nat} {base : Nat} {ok : Nat → Prop} {v : Value} {xs : List α} (h : IsS104 w0 W g f0 f1) (ho : d.Q e W base ok v xs) (ht : ∀ q, q ∈ e :: d.E → q ≠ 104) : d.Q e W base (fun k => ok k ∧ k ≠ g) v xs := by
 obtain ⟨A0, c0, hb, hg, hr0⟩ := h
 exact Kd.Q_types ho hb ht
theorem IsS104.own_neQ {w0 W : World} {g : Nat} {f0 : List Int} {f1 : Int} {α : Type} {d : Kd α} {e : Nat} {base : Nat} {ok : Nat → Prop} {v : Value} {xs : List α} (h : IsS104 w0 W g f0 f1) (ho : d.Q e W base ok v xs) (ht : e ≠ 104) : some g ≠ v.ownBlock := by
 obtain ⟨A0, c0, hb, hg, hr0⟩ := h
 exact Kd.Q_ne ho hb ht
theorem IsS104.apartS {w0 W : World} {g : Nat} {f0 : List Int} {f1 : Int} {α : Type} {d : Kd α} {e : Nat} {base : Nat} {ok : Nat → Prop} {v : Value} {xs : List α} (h : IsS104 w0 W g f0 f1) (ho : d.S e W base ok v xs) (ht : ∀ q, q ∈ e :: d.E → q ≠ 104) : d.S e W base (fun k => ok k ∧ k ≠ g) v xs := by
 obtain ⟨A0, c0, hb, hg, hr0⟩ := h
 exact Kd.S_types ho hb ht
theorem IsS104.own_neS {w0 W : World} {g : Nat} {f0 : List Int} {f1 : Int} {α : Type} {d : Kd α} {e : Nat} {base : Nat} {ok : Nat → Prop} {v : Value} {xs : List α} (h : IsS104 w0 W g f0 f1) (ho : d.S e W base ok v xs) (ht : e ≠ 104) : some g ≠ v.ownBlock := by
 obtain ⟨A0, c0, hb, hg, hr0⟩ := h
 exact Kd.S_ne ho hb ht
theorem IsS104.lt {w0 W : World} {g : Nat} {f0 : List Int} {f1 : Int} (h : IsS104 w0 W g f0 f1) : g < W.heap.size := by
 obtain ⟨A0, c0, hb, hg, hr0⟩ := h
 exact blk_lt hb
theorem IsS104.ge {w0 W : World} {g : Nat} {f0 : List Int} {f1 : Int} (h : IsS104 w0 W g f0 f1) : w0.heap.size ≤ g := by
 obtain ⟨A0, c0, hb, hg, hr0⟩ := h
 exact hg
theorem IsS104.ne_blk {w0 W : World} {g : Nat} {f0 : List Int} {f1 : Int} {a : Nat} {cs : Array Value} {t : TypeId} {fr : Nat × Nat} (h : IsS104 w0 W g f0 f1) (hb2 : W.heap[a]? = some (.cells cs t fr)) (ht : t ≠ 104) : g ≠ a := by
 obtain ⟨A0, c0, hb, hg, hr0⟩ := h
 rintro rfl
 rw [hb] at hb2
 injection hb2 with hb2
 injection hb2 with _ ht2
 exact ht ht2.symm
theorem IsS104.far {w0 W : World} {g : Nat} {f0 : List Int} {f1 : Int} {p : Addr} (h : IsS104 w0 W g f0 f1) (hne : g ≠ p.block) (u : Value) : IsS104 w0 (W.setCell p u) g f0 f1 := by
 obtain ⟨A0, c0, hb, hg, hr0⟩ := h
 exact ⟨A0, c0, blk_far hb hne u, hg, hr0⟩
theorem cellS104_0 {W : World} {g : Nat} {A0 : Option Addr} {c0 : Nat} {f0 : List Int} {f1 : Int} (h : W.heap[g]? = some (.cells #[.slice A0 f0.length c0, .int .i64 f1] 104 (0, 0))) : W.cell? ⟨g, 0, none⟩ = some (.slice A0 f0.length c0) := (blk_cell h 0).trans rfl
theorem cellS104_1 {W : World} {g : Nat} {A0 : Option Addr} {c0 : Nat} {f0 : List Int} {f1 : Int} (h : W.heap[g]? = some (.cells #[.slice A0 f0.length c0, .int .i64 f1] 104 (0, 0))) : W.cell? ⟨g, 1, none⟩ = some (.int .i64 f1) := (blk_cell h 1).trans rfl
theorem IsS104.set_1 {w0 W : World} {g : Nat} {f0 : List Int} {f1 : Int} (h : IsS104 w0 W g f0 f1) (x : Int) : IsS104 w0 (W.setCell ⟨g, 1, none⟩ (.int .i64 x)) g f0 x := by
 obtain ⟨A0, c0, hb, hg, hr0⟩ := h
 exact ⟨A0, c0, by simpa using blk_set hb 1 (.int .i64 x), hg, hr0⟩
theorem is104_ {P Q : Prop} (q : Q) (h : Q → P := by intro q_; repeat (first | (with_reducible first | exact q_ | apply IsS104.alloc | apply IsS104.drewN | apply IsS104.drew | apply IsS104.set_1 | refine IsS104.far ?_ (Aside0.out (by assumption)) _) | exact q_)) : P := h q
theorem hb104_ {P Q : Prop} (q : Q) (h : Q → P := by intro q_; repeat (first | (with_reducible first | exact q_ | apply below_alloc | apply pw_below_drewN | apply below_drew1 | refine below_set ?_ (Aside0.out (by assumption)) | refine below_set ?_ (IsS104.ge (Aside0.out (by assumption)))) | exact q_)) : P := h q
theorem ge104_ {w W W0 : World} {g : Nat} (hg : g = W.heap.size) (HB : Aside0 (Below w.heap.size w W0)) (t : Below w.heap.size w W0 → Below w.heap.size w W := by intro q_; repeat (first | (with_reducible first | exact q_ | apply below_alloc | apply pw_below_drewN | apply below_drew1 | refine below_set ?_ (Aside0.out (by assumption)) | refine below_set ?_ (IsS104.ge (Aside0.out (by assumption)))) | exact q_)) : Aside0 (w.heap.size ≤ g) := ⟨hg ▸ below_size (t HB.out)⟩
theorem bs104_ {w W W0 W2 : World} (HB : Aside0 (Below w.heap.size w W0)) (hb : Below W.heap.size W W2) (t : Below w.heap.size w W0 → Below w.heap.size w W := by intro q_; repeat (first | (with_reducible first | exact q_ | apply below_alloc | apply pw_below_drewN | apply below_drew1 | refine below_set ?_ (Aside0.out (by assumption)) | refine below_set ?_ (IsS104.ge (Aside0.out (by assumption)))) | exact q_)) : Aside0 (Below w.heap.size w W2) := ⟨below_step (t HB.out) hb⟩
theorem nl104_ {w0 W W0 : World} {g g2 : Nat} {f0 : List Int} {f1 : Int} {g0 : List Int} {g1 : Int} (hg : g2 = W.heap.size) (h : Aside0 (IsS104 w0 W0 g f0 f1)) (t : IsS104 w0 W0 g f0 f1 → IsS104 w0 W g g0 g1 := by intro q_; repeat (first | (with_reducible first | exact q_ | apply IsS104.alloc | apply IsS104.drewN | apply IsS104.drew | apply IsS104.set_1 | refine IsS104.far ?_ (Aside0.out (by assumption)) _) | exact q_)) : Aside0 (g ≠ g2) := ⟨hg ▸ Nat.ne_of_lt (IsS104.lt (t h.out))⟩
theorem ng104_ {w0 W W0 : World} {g g2 : Nat} {f0 : List Int} {f1 : Int} {g0 : List Int} {g1 : Int} (hg : g2 = W.heap.size) (h : Aside0 (IsS104 w0 W0 g f0 f1)) (t : IsS104 w0 W0 g f0 f1 → IsS104 w0 W g g0 g1 := by intro q_; repeat (first | (with_reducible first | exact q_ | apply IsS104.alloc | apply IsS104.drewN | apply IsS104.drew | apply IsS104.set_1 | refine IsS104.far ?_ (Aside0.out (by assumption)) _) | exact q_)) : Aside0 (g2 ≠ g) := ⟨hg ▸ Nat.ne_of_gt (IsS104.lt (t h.out))⟩
theorem ib104_ {w0 W W0 W2 : World} {g : Nat} {f0 : List Int} {f1 : Int} {g0 : List Int} {g1 : Int} (h : Aside0 (IsS104 w0 W0 g f0 f1)) (hb : Below W.heap.size W W2) (t : IsS104 w0 W0 g f0 f1 → IsS104 w0 W g g0 g1 := by intro q_; repeat (first | (with_reducible first | exact q_ | apply IsS104.alloc | apply IsS104.drewN | apply IsS104.drew | apply IsS104.set_1 | refine IsS104.far ?_ (Aside0.out (by assumption)) _) | exact q_)) : Aside0 (IsS104 w0 W2 g g0 g1) := ⟨IsS104.below (t h.out) hb⟩
theorem rk104_ {w0 W0 W1 W W2 : World} {g : Nat} {f0 : List Int} {f1 : Int} {g0 : List Int} {g1 : Int} {α : Type} {d : Kd α} {e : Nat} {base : Nat} {ok : Nat → Prop} {v : Value} {xs : List α} (h : Aside0 (IsS104 w0 W0 g f0 f1)) (ho : Aside0 (d.R e W1 base ok v xs)) (hk : KeepBut W W2 g none) (t : IsS104 w0 W0 g f0 f1 → IsS104 w0 W g g0 g1 := by intro q_; repeat (first | (with_reducible first | exact q_ | apply IsS104.alloc | apply IsS104.drewN | apply IsS104.drew | apply IsS104.set_1 | refine IsS104.far ?_ (Aside0.out (by assumption)) _) | exact q_)) (s : d.R e W1 base ok v xs → d.R e W base ok v xs := by intro q_; (with_reducible repeat (first | apply Kd.R_alloc | apply Kd.R_drewN | apply Kd.R_drew)); exact q_) (ht : ∀ q, q ∈ e :: d.E → q ≠ 104 := by decide) : Aside0 (d.R e W2 base ok v xs) := ⟨Kd.R_mono (Kd.R_keep (IsS104.apart (t h.out) (s ho.out) ht) hk (fun _ h => h.2)) (fun _ h => h.1)⟩
def spec_l20Open.f (l0 : List Int) : Option (List Int × Int) := if (l0.length : Int) > 2000 then (if 2000 ≤ (l0.length : Int) then (some (l0.take 2000, 0)) else (none)) else (some (l0, 0))
set_option maxHeartbeats 8000000 in
set_option maxRecDepth 100000 in
theorem spec_l20Open.calls (A0 : Option Addr) (c0 : Nat) (l0 : List Int) (r1 : List Int) (r2 : Int) (w0 w : World) (hB : Below w0.heap.size w0 w) (hr0 : Kd.C (Kd.int .u8) w0 A0 l0.length l0) (hc0 : l0.length ≤ c0) (h : spec_l20Open.f l0 = some (r1, r2)) :
  Calls Try.prog 56 #[.slice A0 l0.length c0] w fun e w' => ∃ g_ : Nat, e = .returned (.pointer (some ⟨g_, 0, none⟩)) ∧ IsS104 w0 w' g_ r1 r2 ∧ Below w0.heap.size w0 w' ∧ Below w.heap.size w w' := by
 have hu104 := Try.underlying104; have HR0 := Aside0.mk hr0; have HC0 := Aside0.mk hc0; clear hr0 hc0
 have HBW := Aside0.mk (Below.refl w.heap.size w)
 have HW0 := Aside0.mk hB.size; have HB := Aside0.mk hB; clear hB
 have H : (if (l0.length : Int) > 2000 then (if 2000 ≤ (l0.length : Int) then (some (l0.take 2000, 0)) else (none)) else (some (l0, 0))) = some (r1, r2) := h
 clear h
 by_cases c2 : (l0.length : Int) > 2000
 ·rw [if_pos c2] at H
  have c2b0 : decide (2000 < (l0.length : Int)) = true := decide_eq_true c2
  have c2b1 : decide (2000 < l0.length) = true := decide_eq_true (by omega)
  clear c2
  by_cases c3 : 2000 ≤ (l0.length : Int)
  ·rw [if_pos c3] at H
   have c3b0 := eq_true c3
   have c3b1 : decide (2000 ≤ (l0.length : Int)) = true := decide_eq_true c3
   clear c3
   simp only [Option.some.injEq, Prod.mk.injEq] at H
   obtain ⟨rfl, rfl⟩ := H
   obtain ⟨i04, hi04, _, hsz4, _⟩ := info_parts info5
   obtain ⟨hcut4, hA4, hC4⟩ := print_take_of (P := Try.prog) (Value.int .u8) 0 44 5 .i64 Try.underlying44 hi04 hsz4 A0 c0 l0 2000 (by omega) (of_decide_eq_true (by first | (with_reducible assumption) | assumption)) HC0.out
   have HR211 := Aside0.mk (Kd.C_of_reads (h1 := fun _ => rfl) (hA4 _ (Kd.reads_of_C HR0.out)))
   have HC211 := Aside0.mk hC4; clear hA4 hC4 hi04 hsz4
   go_enter Try.func56, Try.ntmps56
   go_wp2_with (first | ((with_reducible refine gate_dst (N := 10) rfl ?_); refine box_ (N := 10) (cs := #[.slice A0 (l0.take 2000).length c0, .int .i64 0]) (t := 104) (fun gb212 hg w5 hbox hb => ?_); replace HB := (bs_ HB hb); have BK212 := Aside0.mk (hbox); have GW212 := Aside0.mk ((by rw [hg]; exact (below_size (hb0_ HBW.out)) : w.heap.size ≤ gb212)); have GE212 := Aside0.mk ((Nat.le_trans HW0.out (by rw [hg]; exact (below_size (hb0_ HBW.out)) : w.heap.size ≤ gb212) : w0.heap.size ≤ gb212)); replace HBW := Aside0.mk (below_step HBW.out hb); clear hb hbox hg))
   go_ret
   exact ⟨_, rfl, (show IsS104 w0 _ gb212 (l0.take 2000) 0 from ⟨_, _, by refine kb_ ?_; exact BK212.out, GE212.out, HR211.out⟩), hbA_ HB.out, by repeat (first | (with_reducible first | exact HBW.out | apply below_alloc | apply pw_below_drewN | apply below_drew1 | refine below_set ?_ GW212.out) | exact HBW.out)⟩
  ·rw [if_neg c3] at H
   exact absurd H (by simp)
 ·rw [if_neg c2] at H
  have c2b0 : decide (2000 < (l0.length : Int)) = false := decide_eq_false c2
  have c2b1 : decide (2000 < l0.length) = false := decide_eq_false (by omega)
  clear c2
  simp only [Option.some.injEq, Prod.mk.injEq] at H
  obtain ⟨rfl, rfl⟩ := H
  go_enter Try.func56, Try.ntmps56
  go_wp2_with (first | ((with_reducible refine gate_dst (N := 10) rfl ?_); refine box_ (N := 10) (cs := #[.slice A0 l0.length c0, .int .i64 0]) (t := 104) (fun gb213 hg w6 hbox hb => ?_); replace HB := (bs_ HB hb); have BK213 := Aside0.mk (hbox); have GW213 := Aside0.mk ((by rw [hg]; exact (below_size (hb0_ HBW.out)) : w.heap.size ≤ gb213)); have GE213 := Aside0.mk ((Nat.le_trans HW0.out (by rw [hg]; exact (below_size (hb0_ HBW.out)) : w.heap.size ≤ gb213) : w0.heap.size ≤ gb213)); replace HBW := Aside0.mk (below_step HBW.out hb); clear hb hbox hg))
  go_ret
  exact ⟨_, rfl, (show IsS104 w0 _ gb213 l0 0 from ⟨_, _, by refine kb_ ?_; exact BK213.out, GE213.out, HR0.out⟩), hbA_ HB.out, by repeat (first | (with_reducible first | exact HBW.out | apply below_alloc | apply pw_below_drewN | apply below_drew1 | refine below_set ?_ GW213.out) | exact HBW.out)⟩
def spec_l1In.f (a0 : Int) (a1 : Int) (a2 : Int) : Option (Bool) := if a0 ≥ a1 then (some (decide (a0 ≤ a2))) else (some false)
set_option maxHeartbeats 8000000 in
set_option maxRecDepth 100000 in
theorem spec_l1In.calls (a0 : Int) (a1 : Int) (a2 : Int) (r : Bool) (w : World) (h : spec_l1In.f a0 a1 a2 = some r) :
  Calls Try.prog 33 #[.int .i64 a0, .int .i64 a1, .int .i64 a2] w fun e w' => e = .returned (.bool r) ∧ Drawn0 w w' := by
 have H : (if a0 ≥ a1 then (some (decide (a0 ≤ a2))) else (some false)) = some r := h
 clear h
 by_cases c4 : a0 ≥ a1
 ·rw [if_pos c4] at H
  have c4b0 : decide (a1 ≤ a0) = true := decide_eq_true c4
  clear c4
  obtain rfl := Option.some.inj H
  go_enter Try.func33, Try.ntmps33
  go_wp2
  go_ret
  exact ⟨by first | rfl | (simp; done) | (simp [*]; done), by repeat (first | exact Drawn0.refl _ | apply Drawn0.step)⟩
 ·rw [if_neg c4] at H
  have c4b0 : decide (a1 ≤ a0) = false := decide_eq_false c4
  clear c4
  obtain rfl := Option.some.inj H
  go_enter Try.func33, Try.ntmps33
  go_wp2
  go_ret
  exact ⟨by first | rfl | (simp; done) | (simp [*]; done), by repeat (first | exact Drawn0.refl _ | apply Drawn0.step)⟩
end Go.Proofs.Ytdoohdbfpnmndaa.PFnWholeAsking
