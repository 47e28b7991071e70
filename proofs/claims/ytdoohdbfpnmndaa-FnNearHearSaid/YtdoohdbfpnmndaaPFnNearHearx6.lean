/- Printed by wip/xp/xprint.sh out of the translation, for this claim: what each function answers, as a plain function, and that the machine does just that. No condition. -/
import Derived.Test.YtdoohdbfpnmndaaPFnNearHearx0
import Derived.Test.YtdoohdbfpnmndaaPFnNearHearx3
import Derived.Test.YtdoohdbfpnmndaaPFnNearHearx4
import Derived.Test.YtdoohdbfpnmndaaPFnNearHearx5
namespace Go.Proofs.Ytdoohdbfpnmndaa.PFnNearHear
open Go.RowKit Go.Proofs.YtdoohdbfpnmndaaW.PrintWords Go.Proofs.YtdoohdbfpnmndaaW.PrintLast Go.Proofs.YtdoohdbfpnmndaaW.PrintMore
attribute [local go_sem] max2_int min2_int max_two min_two max_three min_three max_four min_four   -- for this text's walks alone
set_option linter.unusedVariables false
set_option linter.unusedSimpArgs false
mutual
def impl_NearHear.j0 : Nat → Int → Int → Bool → List (S63) → List (S65) → Int → Int → Int → Int → Option ((List (S63)) × (List (S65)) × (List (List Int)))
 | 0, _, _, _, _, _, _, _, _, _ => none
 | k + 1, x1, x3, x27, x226000, x226001, x227000, x227001, x227002, x227003 => if x27 = true then (some (([] : List (S63)), ([] : List (S65)), ([] : List (List Int)))) else ((impl_Near_at.f x226000 x226001 x227002).bind fun t231 => (if t231 < 0 then (if x227003 = x1 then (impl_NearHear.j1 k x3 false x226000 x226001 x227000 x227001 x227002 x227003) else ((impl_NearHear_has.f x226001 x227000 x227001 x227002 x227003).bind fun t232 => (impl_NearHear.j1 k x3 (!t232) x226000 x226001 x227000 x227001 x227002 x227003))) else (impl_NearHear.j1 k x3 false x226000 x226001 x227000 x227001 x227002 x227003)))
def impl_NearHear.j1 : Nat → Int → Bool → List (S63) → List (S65) → Int → Int → Int → Int → Option ((List (S63)) × (List (S65)) × (List (List Int)))
 | 0, _, _, _, _, _, _, _, _ => none
 | k + 1, x3, x47, x226000, x226001, x227000, x227001, x227002, x227003 => if x47 = true then ((impl_Near_copy.f k x226000 x226001).bind fun bt233 => (some (bt233.1, bt233.2, ([] : List (List Int))))) else ((impl_Near_copy.f k x226000 x226001).bind fun bt239 => ((some (bt239.1.filter (fun h_ => !(h_.f0 == x227002)) : List (S63))).bind fun y246 => (if y246.length < 5864062014805 then ((some (y246 ++ [(⟨x227002, x227001, wrap64 (x3 + 20)⟩ : S63)] : List (S63))).bind fun y249 => (if 0 ≤ (mx 0 (wrap64 ((y249.length : Int) - 4))) then (if (mx 0 (wrap64 ((y249.length : Int) - 4))) ≤ (y249.length : Int) then (impl_NearHear.l0 k ([] : List (List Int)) x226001 (x226001.length : Int) 0 x227000 x227001 x227002 x227003 (y249.drop ((mx 0 (wrap64 ((y249.length : Int) - 4))) : Int).toNat) bt239.2) else (none)) else (none))) else (none))))
def impl_NearHear.l0 : Nat → List (List Int) → List (S65) → Int → Int → Int → Int → Int → Int → List (S63) → List (S65) → Option ((List (S63)) × (List (S65)) × (List (List Int)))
 | 0, _, _, _, _, _, _, _, _, _, _ => none
 | k + 1, x12, x79, x80, x81, x227000, x227001, x227002, x227003, x246000, x246001 => if x81 < x80 then (if 0 ≤ x81 then (if x81 < (x79.length : Int) then ((impl_NearHear_waits.f ((rd_T65 x79 x81).f0) ((rd_T65 x79 x81).f1) x227000 x227001 x227002 x227003).bind fun t257 => (if t257 = true then ((impl_clone_byte.f ((rd_T65 x79 x81).f1)).bind fun t258 => (if x12.length < 5864062014805 then (impl_NearHear.l0 k (x12 ++ [t258]) x79 x80 (wrap64 (x81 + 1)) x227000 x227001 x227002 x227003 x246000 x246001) else (none))) else (impl_NearHear.l0 k x12 x79 x80 (wrap64 (x81 + 1)) x227000 x227001 x227002 x227003 x246000 x246001))) else (none)) else (none)) else ((impl_Near_copy.f k x246000 (x246001.filter (fun h_ => !(h_.f0 == x227002)))).bind fun bt267 => (some (bt267.1, bt267.2, x12)))
end
def impl_NearHear.f (k : Nat) (l0_0 : List (S63)) (l0_1 : List (S65)) (a1 : Int) (a2_0 : Int) (a2_1 : Int) (a2_2 : Int) (a2_3 : Int) (a3 : Int) : Option ((List (S63)) × (List (S65)) × (List (List Int))) := (impl_NearOk.f k l0_0 l0_1).bind fun t228 => (if t228 = true then ((impl_QueryOk.f a2_0 a2_1 a2_2 a2_3).bind fun t229 => (if t229 = true then ((impl_in.f a3 0 999980).bind fun t230 => (impl_NearHear.j0 k a1 a3 (!t230) l0_0 l0_1 a2_0 a2_1 a2_2 a2_3)) else (impl_NearHear.j0 k a1 a3 true l0_0 l0_1 a2_0 a2_1 a2_2 a2_3))) else (impl_NearHear.j0 k a1 a3 true l0_0 l0_1 a2_0 a2_1 a2_2 a2_3))
theorem impl_NearHear.mono_l : ∀ k, (∀ y0 y1 y2 y3 y4 y5 y6 y7 y8, LeO (impl_NearHear.j0 k y0 y1 y2 y3 y4 y5 y6 y7 y8) (impl_NearHear.j0 (k + 1) y0 y1 y2 y3 y4 y5 y6 y7 y8)) ∧ (∀ y0 y1 y2 y3 y4 y5 y6 y7, LeO (impl_NearHear.j1 k y0 y1 y2 y3 y4 y5 y6 y7) (impl_NearHear.j1 (k + 1) y0 y1 y2 y3 y4 y5 y6 y7)) ∧ (∀ y0 y1 y2 y3 y4 y5 y6 y7 y8 y9, LeO (impl_NearHear.l0 k y0 y1 y2 y3 y4 y5 y6 y7 y8 y9) (impl_NearHear.l0 (k + 1) y0 y1 y2 y3 y4 y5 y6 y7 y8 y9))
 | 0 => ⟨fun _ _ _ _ _ _ _ _ _ r h => by simp [impl_NearHear.j0] at h, fun _ _ _ _ _ _ _ _ r h => by simp [impl_NearHear.j1] at h, fun _ _ _ _ _ _ _ _ _ _ r h => by simp [impl_NearHear.l0] at h⟩
 | k + 1 => by
  obtain ⟨ih0, ih1, ih2⟩ := impl_NearHear.mono_l k
  refine ⟨?_, ?_, ?_⟩
  ·intro y0 y1 y2 y3 y4 y5 y6 y7 y8
   unfold impl_NearHear.j0
   repeat' first | (with_reducible first | apply ih0 | apply ih1 | apply ih2 | apply impl_NearOk.mono | apply impl_Near_copy.mono | exact LeO.refl _ | exact LeO.none _ | refine LeO.ite ?_ ?_ | refine LeO.bind ?_ fun _ => ?_) | apply ih0 | apply ih1 | apply ih2 | apply impl_NearOk.mono | apply impl_Near_copy.mono | exact LeO.none _ | refine LeO.ite ?_ ?_ | refine LeO.bind ?_ fun _ => ?_
  ·intro y0 y1 y2 y3 y4 y5 y6 y7
   unfold impl_NearHear.j1
   repeat' first | (with_reducible first | apply ih0 | apply ih1 | apply ih2 | apply impl_NearOk.mono | apply impl_Near_copy.mono | exact LeO.refl _ | exact LeO.none _ | refine LeO.ite ?_ ?_ | refine LeO.bind ?_ fun _ => ?_) | apply ih0 | apply ih1 | apply ih2 | apply impl_NearOk.mono | apply impl_Near_copy.mono | exact LeO.none _ | refine LeO.ite ?_ ?_ | refine LeO.bind ?_ fun _ => ?_
  ·intro y0 y1 y2 y3 y4 y5 y6 y7 y8 y9
   unfold impl_NearHear.l0
   repeat' first | (with_reducible first | apply ih0 | apply ih1 | apply ih2 | apply impl_NearOk.mono | apply impl_Near_copy.mono | exact LeO.refl _ | exact LeO.none _ | refine LeO.ite ?_ ?_ | refine LeO.bind ?_ fun _ => ?_) | apply ih0 | apply ih1 | apply ih2 | apply impl_NearOk.mono | apply impl_Near_copy.mono | exact LeO.none _ | refine LeO.ite ?_ ?_ | refine LeO.bind ?_ fun _ => ?_
theorem impl_NearHear.mono : ∀ a0 a1 a2 a3 a4 a5 a6 a7 k, LeO (impl_NearHear.f k a0 a1 a2 a3 a4 a5 a6 a7) (impl_NearHear.f (k + 1) a0 a1 a2 a3 a4 a5 a6 a7) := by
 intro a0 a1 a2 a3 a4 a5 a6 a7 k
 obtain ⟨ih0, ih1, ih2⟩ := impl_NearHear.mono_l k
 unfold impl_NearHear.f
 repeat' first | (with_reducible first | apply ih0 | apply ih1 | apply ih2 | apply impl_NearOk.mono | apply impl_Near_copy.mono | exact LeO.refl _ | exact LeO.none _ | refine LeO.ite ?_ ?_ | refine LeO.bind ?_ fun _ => ?_) | apply ih0 | apply ih1 | apply ih2 | apply impl_NearOk.mono | apply impl_Near_copy.mono | exact LeO.none _ | refine LeO.ite ?_ ?_ | refine LeO.bind ?_ fun _ => ?_
set_option maxHeartbeats 8000000 in
set_option maxRecDepth 100000 in
theorem impl_NearHear.calls (k : Nat) (A0_0 : Option Addr) (c0_0 : Nat) (l0_0 : List (S63)) (A0_1 : Option Addr) (c0_1 : Nat) (l0_1 : List (S65)) (a1 : Int) (a2_0 : Int) (a2_1 : Int) (a2_2 : Int) (a2_3 : Int) (a3 : Int) (r1 : List (S63)) (r2 : List (S65)) (r3 : List (List Int)) (w : World) (hr0_0 : Kd.C k63 w A0_0 l0_0.length l0_0) (hc0_0 : l0_0.length ≤ c0_0) (hr0_1 : Kd.C k65 w A0_1 l0_1.length l0_1) (hc0_1 : l0_1.length ≤ c0_1) (h : impl_NearHear.f k l0_0 l0_1 a1 a2_0 a2_1 a2_2 a2_3 a3 = some (r1, r2, r3)) :
  Calls Try.prog 10 #[.agg #[.slice A0_0 l0_0.length c0_0, .slice A0_1 l0_1.length c0_1], .int .i64 a1, .agg #[.int .i64 a2_0, .int .i64 a2_1, .int .i64 a2_2, .int .i64 a2_3], .int .i64 a3] w fun e w' => ∃ v0_ v1_ v2_ : Value, e = .returned (.tuple #[.agg #[v0_, v1_], v2_]) ∧ Kd.R k63 63 w' w.heap.size (fun _ => True) v0_ r1 ∧ Kd.S k65 65 w' w.heap.size (fun _ => True) v1_ r2 ∧ Kd.S (Kd.slice 5 (Kd.int .u8)) 44 w' w.heap.size (fun _ => True) v2_ r3 ∧ Below w.heap.size w w' := by
 have hu32 := Try.underlying32; have hu37 := Try.underlying37; have hu63 := Try.underlying63; have hu65 := Try.underlying65; have HR0_0 := Aside0.mk hr0_0; have HC0_0 := Aside0.mk hc0_0; clear hr0_0 hc0_0; have HR0_1 := Aside0.mk hr0_1; have HC0_1 := Aside0.mk hc0_1; clear hr0_1 hc0_1
 have HB := Aside0.mk (Below.refl w.heap.size w)
 have H : ((impl_NearOk.f k l0_0 l0_1).bind fun t228 => (if t228 = true then ((impl_QueryOk.f a2_0 a2_1 a2_2 a2_3).bind fun t229 => (if t229 = true then ((impl_in.f a3 0 999980).bind fun t230 => (impl_NearHear.j0 k a1 a3 (!t230) l0_0 l0_1 a2_0 a2_1 a2_2 a2_3)) else (impl_NearHear.j0 k a1 a3 true l0_0 l0_1 a2_0 a2_1 a2_2 a2_3))) else (impl_NearHear.j0 k a1 a3 true l0_0 l0_1 a2_0 a2_1 a2_2 a2_3))) = some (r1, r2, r3) := h
 clear h; have HC5 := Aside0.mk H; clear H
 go_enter Try.func10, Try.ntmps10
 go_upto_region 1 with (first | ((with_reducible refine gate_dst (N := 4) rfl ?_); refine box_ (N := 4) (cs := #[.slice A0_0 l0_0.length c0_0, .slice A0_1 l0_1.length c0_1]) (t := 32) (fun gb225 hg w6 hbox hb => ?_); have BK225 := Aside0.mk (hbox); have GW225 := ge_ hg HB; have GE225 := ge_ hg HB; replace HB := (bs_ HB hb); clear hb hbox hg) | ((with_reducible refine gate_dst (N := 6) rfl ?_); refine box_ (N := 6) (cs := #[.int .i64 a2_0, .int .i64 a2_1, .int .i64 a2_2, .int .i64 a2_3]) (t := 37) (fun gb226 hg w7 hbox hb => ?_); have BK226 := Aside0.mk (hbox); have GW226 := ge_ hg HB; have GE226 := ge_ hg HB; replace HB := (bs_ HB hb); have NB225_226 := nl_ hg BK225; have NB226_225 := ng_ hg BK225; replace BK225 := (bbA_ BK225 hb); clear hb hbox hg) | ((with_reducible refine gate_dst (N := 8) rfl ?_); refine box_ (N := 8) (cs := #[.slice none 0 0, .slice none 0 0]) (t := 32) (fun gb227 hg w8 hbox hb => ?_); have BK227 := Aside0.mk (hbox); have GW227 := ge_ hg HB; have GE227 := ge_ hg HB; replace HB := (bs_ HB hb); have NB225_227 := nl_ hg BK225; have NB227_225 := ng_ hg BK225; replace BK225 := (bbA_ BK225 hb); have NB226_227 := nl_ hg BK226; have NB227_226 := ng_ hg BK226; replace BK226 := (bbA_ BK226 hb); clear hb hbox hg))
 (try simp only [Act.put, List.setIfInBounds_toArray, List.set_cons_zero, List.set_cons_succ])
 go_cut [27] (fun v27 wc => ∃ (kq : Nat) (x27_4 : Bool), v27 = .bool x27_4 ∧ Aside0 (impl_NearHear.j0 kq a1 a3 x27_4 l0_0 l0_1 a2_0 a2_1 a2_2 a2_3 = some (r1, r2, r3)) ∧ Aside0 (kq ≤ k) ∧ Aside0 (wc.heap[gb225]? = some (.cells #[(.slice A0_0 l0_0.length c0_0), (.slice A0_1 l0_1.length c0_1)] 32 (0, 0))) ∧ Aside0 (wc.heap[gb226]? = some (.cells #[.int .i64 a2_0, .int .i64 a2_1, .int .i64 a2_2, .int .i64 a2_3] 37 (0, 0))) ∧ Aside0 (wc.heap[gb227]? = some (.cells #[(.slice none 0 0), (.slice none 0 0)] 32 (0, 0))) ∧ Aside0 (Below w.heap.size w wc))
 case first =>
  have H := HC5.out; clear HC5
  replace H := Option.bind_eq_some_iff.mp H
  obtain ⟨t228, A90, H⟩ := H
  (try dsimp only at H)
  have A9 := Aside0.mk A90; clear A90
  by_cases c10 : t228 = true
  ·subst c10
   rw [if_pos rfl] at H
   replace H := Option.bind_eq_some_iff.mp H
   obtain ⟨t229, A110, H⟩ := H
   (try dsimp only at H)
   have A11 := Aside0.mk A110; clear A110
   by_cases c12 : t229 = true
   ·subst c12
    rw [if_pos rfl] at H
    replace H := Option.bind_eq_some_iff.mp H
    obtain ⟨t230, A130, H⟩ := H
    (try dsimp only at H)
    have A13 := Aside0.mk A130; clear A130
    have H' := Aside0.mk H
    clear H; have hnb14 := NB225_226.out; have hnc14 := NB226_225.out; have hnb15 := NB225_227.out; have hnc15 := NB227_225.out; have Z16 := zz2 BK225
    go_wp2_with (first | ((with_reducible refine gate_callee (f := 20) rfl ?_); refine goesL_ (some 16) rfl rfl Try.func20 (by kernel_rfl) rfl #[.agg #[.slice A0_0 l0_0.length c0_0, .slice A0_1 l0_1.length c0_1]] rfl ar_ ?_; (with_reducible refine (impl_NearOk.calls k _ _ l0_0 _ _ l0_1 true _ ?side1 ?side2 ?side3 ?side4 A9.out).mono ?_); (case side1 => exact kC_ (Kd.C_below HR0_0.out HB.out)); (case side2 => exact HC0_0.out); (case side3 => exact kC_ (Kd.C_below HR0_1.out HB.out)); (case side4 => exact HC0_1.out); rintro e w17 ⟨rfl, hb⟩; refine ⟨_, rfl, ?_⟩; replace BK225 := (bbA_ BK225 hb); replace BK226 := (bbA_ BK226 hb); replace BK227 := (bbA_ BK227 hb); replace HB := (bs_ HB hb); (try clear hb); (try clear hb2); (try clear hk); (try clear hi); have hnb18 := NB226_227.out; have hnc18 := NB227_226.out; have Z19 := zz4 BK226) | (go_at_call 21; (with_reducible refine (impl_QueryOk.calls a2_0 a2_1 a2_2 a2_3 true _ A11.out).mono ?_); rintro e w20 ⟨rfl, hb⟩; replace BK225 := (bbA_ BK225 hb); replace BK226 := (bbA_ BK226 hb); replace BK227 := (bbA_ BK227 hb); replace HB := (bs_ HB hb); (try clear hb); (try clear hb2); (try clear hk); (try clear hi)) | (go_at_call 37; (with_reducible refine (impl_in.calls a3 0 999980 t230 _ A13.out).mono ?_); rintro e w' ⟨rfl, ⟨nd, rfl⟩⟩))
    go_meet
    case rel => exact ⟨_, (!t230), (by first | rfl | (simp; done) | (simp [*]; done)), H', ⟨by first | omega | exact Nat.le_refl _⟩, ⟨by refine kb_ ?_; exact BK225.out⟩, ⟨by refine kb_ ?_; exact BK226.out⟩, ⟨by refine kb_ ?_; exact BK227.out⟩, ⟨hbA_ HB.out⟩⟩
   ·replace c12 := Bool.eq_false_iff.mpr c12
    subst c12
    rw [if_neg (show ¬ (false = true) by decide)] at H
    have H' := Aside0.mk H
    clear H; have hnb21 := NB225_226.out; have hnc21 := NB226_225.out; have hnb22 := NB225_227.out; have hnc22 := NB227_225.out; have Z23 := zz2 BK225
    go_wp2_with (first | ((with_reducible refine gate_callee (f := 20) rfl ?_); refine goesL_ (some 16) rfl rfl Try.func20 (by kernel_rfl) rfl #[.agg #[.slice A0_0 l0_0.length c0_0, .slice A0_1 l0_1.length c0_1]] rfl ar_ ?_; (with_reducible refine (impl_NearOk.calls k _ _ l0_0 _ _ l0_1 true _ ?side1 ?side2 ?side3 ?side4 A9.out).mono ?_); (case side1 => exact kC_ (Kd.C_below HR0_0.out HB.out)); (case side2 => exact HC0_0.out); (case side3 => exact kC_ (Kd.C_below HR0_1.out HB.out)); (case side4 => exact HC0_1.out); rintro e w24 ⟨rfl, hb⟩; refine ⟨_, rfl, ?_⟩; replace BK225 := (bbA_ BK225 hb); replace BK226 := (bbA_ BK226 hb); replace BK227 := (bbA_ BK227 hb); replace HB := (bs_ HB hb); (try clear hb); (try clear hb2); (try clear hk); (try clear hi); have hnb25 := NB226_227.out; have hnc25 := NB227_226.out; have Z26 := zz4 BK226) | (go_at_call 21; (with_reducible refine (impl_QueryOk.calls a2_0 a2_1 a2_2 a2_3 false _ A11.out).mono ?_); rintro e w27 ⟨rfl, hb⟩; replace BK225 := (bbA_ BK225 hb); replace BK226 := (bbA_ BK226 hb); replace BK227 := (bbA_ BK227 hb); replace HB := (bs_ HB hb); (try clear hb); (try clear hb2); (try clear hk); (try clear hi)))
    go_meet
    case rel => exact ⟨_, (true), (by first | rfl | (simp; done) | (simp [*]; done)), H', ⟨by first | omega | exact Nat.le_refl _⟩, ⟨by refine kb_ ?_; exact BK225.out⟩, ⟨by refine kb_ ?_; exact BK226.out⟩, ⟨by refine kb_ ?_; exact BK227.out⟩, ⟨hbA_ HB.out⟩⟩
  ·replace c10 := Bool.eq_false_iff.mpr c10
   subst c10
   rw [if_neg (show ¬ (false = true) by decide)] at H
   have H' := Aside0.mk H
   clear H; have hnb28 := NB225_226.out; have hnc28 := NB226_225.out; have hnb29 := NB225_227.out; have hnc29 := NB227_225.out; have Z30 := zz2 BK225
   go_wp2_with (first | ((with_reducible refine gate_callee (f := 20) rfl ?_); refine goesL_ (some 16) rfl rfl Try.func20 (by kernel_rfl) rfl #[.agg #[.slice A0_0 l0_0.length c0_0, .slice A0_1 l0_1.length c0_1]] rfl ar_ ?_; (with_reducible refine (impl_NearOk.calls k _ _ l0_0 _ _ l0_1 false _ ?side1 ?side2 ?side3 ?side4 A9.out).mono ?_); (case side1 => exact kC_ (Kd.C_below HR0_0.out HB.out)); (case side2 => exact HC0_0.out); (case side3 => exact kC_ (Kd.C_below HR0_1.out HB.out)); (case side4 => exact HC0_1.out); rintro e w31 ⟨rfl, hb⟩; refine ⟨_, rfl, ?_⟩; replace BK225 := (bbA_ BK225 hb); replace BK226 := (bbA_ BK226 hb); replace BK227 := (bbA_ BK227 hb); replace HB := (bs_ HB hb); (try clear hb); (try clear hb2); (try clear hk); (try clear hi)))
   go_meet
   case rel => exact ⟨_, (true), (by first | rfl | (simp; done) | (simp [*]; done)), H', ⟨by first | omega | exact Nat.le_refl _⟩, ⟨by refine kb_ ?_; exact BK225.out⟩, ⟨by refine kb_ ?_; exact BK226.out⟩, ⟨by refine kb_ ?_; exact BK227.out⟩, ⟨hbA_ HB.out⟩⟩
 case rest =>
  clear HC5; (try clear c1); (try clear c2); (try clear p2); (try clear c10); (try clear c12); (try clear c14); (try clear c15); (try clear c18); (try clear c20); (try clear c21); (try clear c22); (try clear c25); (try clear c28); (try clear c29); (try clear Z16); (try clear Z19); (try clear Z23); (try clear Z26); (try clear Z30)
  obtain ⟨kq, x27_4, rfl, HA, HJ4, BK225, BK226, BK227, HB⟩ := hcut
  cases kq with
  | zero => exact absurd HA.out (by simp [impl_NearHear.j0])
  | succ kj4 =>
   have H := HA.out; clear HA
   simp only [impl_NearHear.j0] at H
   by_cases c32 : x27_4 = true
   ·subst c32
    rw [if_pos rfl] at H
    simp only [Option.some.injEq, Prod.mk.injEq] at H
    obtain ⟨rfl, rfl, rfl⟩ := H
    have hnb33 := NB227_225.out; have hnc33 := NB225_227.out; have hnb34 := NB227_226.out; have hnc34 := NB226_227.out; have Z35 := zz2 BK227
    go_wp2
    refine bodyPost_ret (results_ct rfl _ _ gb227 32 #[.slice none 0 0, .slice none 0 0] (0, 0) _ rfl (by refine kb_ ?_; refine pz2 (cs := #[.slice none 0 0, .slice none 0 0]) ?_; refine kb_ ?_; exact BK227.out) Try.underlying32 rfl (by kernel_rfl)) rfl ?_
    exact ⟨_, _, _, by first | rfl | (simp [errW_none, errW_some] <;> rfl) | (simp [*, errW_none, errW_some] <;> rfl), by first | exact Kd.R_nil _ _ _ _ _ | exact Kd.N_nil _ _ _ _ _ | exact Kd.V_nil _ _ _ _ _ | exact Kd.Q_nil _ _ _ _ _ | exact Kd.S_nil _ _ _ _ _, by first | exact Kd.S_nil _ _ _ _ _ | exact Kd.N_nil _ _ _ _ _ | exact Kd.V_nil _ _ _ _ _ | exact Kd.Q_nil _ _ _ _ _ | exact Kd.R_nil _ _ _ _ _, by first | exact Kd.S_nil _ _ _ _ _ | exact Kd.N_nil _ _ _ _ _ | exact Kd.V_nil _ _ _ _ _ | exact Kd.Q_nil _ _ _ _ _ | exact Kd.R_nil _ _ _ _ _, hbA_ HB.out⟩
   ·replace c32 := Bool.eq_false_iff.mpr c32
    subst c32
    rw [if_neg (show ¬ (false = true) by decide)] at H; have HC36 := Aside0.mk H; clear H; have hnb37 := NB226_225.out; have hnc37 := NB225_226.out; have hnb38 := NB226_227.out; have hnc38 := NB227_226.out; have Z39 := zz4 BK226
    go_upto_region 4 with (fail)
    go_cut [47] (fun v47 wc => ∃ (kq : Nat) (x47_35 : Bool), v47 = .bool x47_35 ∧ Aside0 (impl_NearHear.j1 kq a3 x47_35 l0_0 l0_1 a2_0 a2_1 a2_2 a2_3 = some (r1, r2, r3)) ∧ Aside0 (kq ≤ kj4) ∧ Aside0 (wc.heap[gb225]? = some (.cells #[(.slice A0_0 l0_0.length c0_0), (.slice A0_1 l0_1.length c0_1)] 32 (0, 0))) ∧ Aside0 (wc.heap[gb226]? = some (.cells #[.int .i64 a2_0, .int .i64 a2_1, .int .i64 a2_2, .int .i64 a2_3] 37 (0, 0))) ∧ Aside0 (wc.heap[gb227]? = some (.cells #[(.slice none 0 0), (.slice none 0 0)] 32 (0, 0))) ∧ Aside0 (Below w.heap.size w wc))
    case first =>
     have H := HC36.out; clear HC36
     replace H := Option.bind_eq_some_iff.mp H
     obtain ⟨t231, A400, H⟩ := H
     (try dsimp only at H)
     have A40 := Aside0.mk A400; clear A400
     by_cases c41 : t231 < 0
     ·rw [if_pos c41] at H
      have c41b0 : decide (t231 < 0) = true := decide_eq_true c41
      clear c41
      (first | rw [c41b0] | (simp only [i64_w, i32_w]; rw [c41b0]) | skip)
      by_cases c42 : a2_3 = a1
      ·rw [if_pos c42] at H
       have c42b0 : (a2_3 == a1) = true := beq_iff_eq.mpr c42
       have c42b1 : (a2_3 != a1) = false := bne_eq_false_iff_eq.mpr c42
       clear c42
       have H' := Aside0.mk H
       clear H; have hnb43 := NB225_226.out; have hnc43 := NB226_225.out; have hnb44 := NB225_227.out; have hnc44 := NB227_225.out; have Z45 := zz2 BK225; have hnb46 := NB226_227.out; have hnc46 := NB227_226.out; have Z47 := zz4 BK226
       go_wp2_with (first | ((with_reducible refine gate_callee (f := 39) rfl ?_); refine goesL_ (some 33) rfl rfl Try.func39 (by kernel_rfl) rfl #[.agg #[.slice A0_0 l0_0.length c0_0, .slice A0_1 l0_1.length c0_1], .int .i64 a2_2] rfl ar_ ?_; (with_reducible refine (impl_Near_at.calls _ _ l0_0 _ _ l0_1 a2_2 t231 _ ?side1 ?side2 ?side3 ?side4 A40.out).mono ?_); (case side1 => exact kC_ (Kd.C_below HR0_0.out HB.out)); (case side2 => exact HC0_0.out); (case side3 => exact kC_ (Kd.C_below HR0_1.out HB.out)); (case side4 => exact HC0_1.out); rintro e w48 ⟨rfl, hb⟩; refine ⟨_, rfl, ?_⟩; replace BK225 := (bbA_ BK225 hb); replace BK226 := (bbA_ BK226 hb); replace BK227 := (bbA_ BK227 hb); replace HB := (bs_ HB hb); (try clear hb); (try clear hb2); (try clear hk); (try clear hi); have Z49 := zz4 BK226))
       go_meet
       case rel => exact ⟨_, (false), (by first | rfl | (simp; done) | (simp [*]; done)), H', ⟨by have := HJ4.out; first | omega | exact Nat.le_refl _⟩, ⟨by refine kb_ ?_; exact BK225.out⟩, ⟨by refine kb_ ?_; exact BK226.out⟩, ⟨by refine kb_ ?_; exact BK227.out⟩, ⟨hbA_ HB.out⟩⟩
      ·rw [if_neg c42] at H
       have c42b0 : (a2_3 == a1) = false := beq_eq_false_iff_ne.mpr c42
       have c42b1 : (a2_3 != a1) = true := bne_iff_ne.mpr c42
       replace H := Option.bind_eq_some_iff.mp H
       obtain ⟨t232, A500, H⟩ := H
       (try dsimp only at H)
       have A50 := Aside0.mk A500; clear A500
       have H' := Aside0.mk H
       clear H; have hnb51 := NB225_226.out; have hnc51 := NB226_225.out; have hnb52 := NB225_227.out; have hnc52 := NB227_225.out; have Z53 := zz2 BK225; have hnb54 := NB226_227.out; have hnc54 := NB227_226.out; have Z55 := zz4 BK226
       go_wp2_with (first | ((with_reducible refine gate_callee (f := 39) rfl ?_); refine goesL_ (some 33) rfl rfl Try.func39 (by kernel_rfl) rfl #[.agg #[.slice A0_0 l0_0.length c0_0, .slice A0_1 l0_1.length c0_1], .int .i64 a2_2] rfl ar_ ?_; (with_reducible refine (impl_Near_at.calls _ _ l0_0 _ _ l0_1 a2_2 t231 _ ?side1 ?side2 ?side3 ?side4 A40.out).mono ?_); (case side1 => exact kC_ (Kd.C_below HR0_0.out HB.out)); (case side2 => exact HC0_0.out); (case side3 => exact kC_ (Kd.C_below HR0_1.out HB.out)); (case side4 => exact HC0_1.out); rintro e w56 ⟨rfl, hb⟩; refine ⟨_, rfl, ?_⟩; replace BK225 := (bbA_ BK225 hb); replace BK226 := (bbA_ BK226 hb); replace BK227 := (bbA_ BK227 hb); replace HB := (bs_ HB hb); (try clear hb); (try clear hb2); (try clear hk); (try clear hi); have Z57 := zz4 BK226; have Z58 := zz2 BK225) | (go_at_call 40; (with_reducible refine (impl_NearHear_has.calls _ _ l0_1 a2_0 a2_1 a2_2 a2_3 t232 _ ?side1 ?side2 A50.out ?hqq).mono ?_); (case hqq => exact kf_ BK226.out); (case side1 => exact kC_ (Kd.C_below HR0_1.out HB.out)); (case side2 => exact HC0_1.out); rintro e w59 ⟨rfl, hb⟩; replace BK225 := (bbA_ BK225 hb); replace BK226 := (bbA_ BK226 hb); replace BK227 := (bbA_ BK227 hb); replace HB := (bs_ HB hb); (try clear hb); (try clear hb2); (try clear hk); (try clear hi)))
       go_meet
       case rel => exact ⟨_, (!t232), (by first | rfl | (simp; done) | (simp [*]; done)), H', ⟨by have := HJ4.out; first | omega | exact Nat.le_refl _⟩, ⟨by refine kb_ ?_; exact BK225.out⟩, ⟨by refine kb_ ?_; exact BK226.out⟩, ⟨by refine kb_ ?_; exact BK227.out⟩, ⟨hbA_ HB.out⟩⟩
     ·rw [if_neg c41] at H
      have c41b0 : decide (t231 < 0) = false := decide_eq_false c41
      clear c41
      (first | rw [c41b0] | (simp only [i64_w, i32_w]; rw [c41b0]) | skip)
      have H' := Aside0.mk H
      clear H; have hnb60 := NB225_226.out; have hnc60 := NB226_225.out; have hnb61 := NB225_227.out; have hnc61 := NB227_225.out; have Z62 := zz2 BK225; have hnb63 := NB226_227.out; have hnc63 := NB227_226.out; have Z64 := zz4 BK226
      go_wp2_with (first | ((with_reducible refine gate_callee (f := 39) rfl ?_); refine goesL_ (some 33) rfl rfl Try.func39 (by kernel_rfl) rfl #[.agg #[.slice A0_0 l0_0.length c0_0, .slice A0_1 l0_1.length c0_1], .int .i64 a2_2] rfl ar_ ?_; (with_reducible refine (impl_Near_at.calls _ _ l0_0 _ _ l0_1 a2_2 t231 _ ?side1 ?side2 ?side3 ?side4 A40.out).mono ?_); (case side1 => exact kC_ (Kd.C_below HR0_0.out HB.out)); (case side2 => exact HC0_0.out); (case side3 => exact kC_ (Kd.C_below HR0_1.out HB.out)); (case side4 => exact HC0_1.out); rintro e w65 ⟨rfl, hb⟩; refine ⟨_, rfl, ?_⟩; replace BK225 := (bbA_ BK225 hb); replace BK226 := (bbA_ BK226 hb); replace BK227 := (bbA_ BK227 hb); replace HB := (bs_ HB hb); (try clear hb); (try clear hb2); (try clear hk); (try clear hi)))
      go_meet
      case rel => exact ⟨_, (false), (by first | rfl | (simp; done) | (simp [*]; done)), H', ⟨by have := HJ4.out; first | omega | exact Nat.le_refl _⟩, ⟨by refine kb_ ?_; exact BK225.out⟩, ⟨by refine kb_ ?_; exact BK226.out⟩, ⟨by refine kb_ ?_; exact BK227.out⟩, ⟨hbA_ HB.out⟩⟩
    case rest =>
     clear HC36; (try clear c1); (try clear c2); (try clear p2); (try clear c3); (try clear c4); (try clear c5); (try clear c6); (try clear c10); (try clear c12); (try clear c14); (try clear c15); (try clear c18); (try clear c20); (try clear c21); (try clear c22); (try clear c25); (try clear c28); (try clear c29); (try clear c32); (try clear c33); (try clear c34); (try clear c37); (try clear c38); (try clear c39); (try clear c41); (try clear c41b0); (try clear c42); (try clear c42b0); (try clear c42b1); (try clear c43); (try clear c44); (try clear c46); (try clear c51); (try clear c52); (try clear c54); (try clear c60); (try clear c61); (try clear c63); (try clear Z16); (try clear Z19); (try clear Z23); (try clear Z26); (try clear Z30); (try clear Z35); (try clear Z39); (try clear Z45); (try clear Z47); (try clear Z49); (try clear Z53); (try clear Z55); (try clear Z57); (try clear Z58); (try clear Z62); (try clear Z64); (try clear p2)
     obtain ⟨kq, x47_35, rfl, HA, HJ35, BK225, BK226, BK227, HB⟩ := hcut
     cases kq with
     | zero => exact absurd HA.out (by simp [impl_NearHear.j1])
     | succ kj35 =>
      have H := HA.out; clear HA
      simp only [impl_NearHear.j1] at H
      by_cases c66 : x47_35 = true
      ·subst c66
       rw [if_pos rfl] at H
       replace H := Option.bind_eq_some_iff.mp H
       obtain ⟨⟨t233, t236⟩, A670, H⟩ := H
       (try dsimp only at H)
       have A67 := Aside0.mk A670; clear A670
       simp only [Option.some.injEq, Prod.mk.injEq] at H
       obtain ⟨rfl, rfl, rfl⟩ := H
       have hnb68 := NB225_226.out; have hnc68 := NB226_225.out; have hnb69 := NB225_227.out; have hnc69 := NB227_225.out; have Z70 := zz2 BK225
       go_wp2_with (first | ((with_reducible refine gate_callee (f := 41) rfl ?_); refine goesL_ (some 49) rfl rfl Try.func41 (by kernel_rfl) rfl #[.agg #[.slice A0_0 l0_0.length c0_0, .slice A0_1 l0_1.length c0_1]] rfl ar_ ?_; (with_reducible refine (impl_Near_copy.calls kj35 _ _ l0_0 _ _ l0_1 t233 t236 _ ?side1 ?side2 ?side3 ?side4 A67.out).mono ?_); (case side1 => exact kC_ (Kd.C_below HR0_0.out HB.out)); (case side2 => exact HC0_0.out); (case side3 => exact kC_ (Kd.C_below HR0_1.out HB.out)); (case side4 => exact HC0_1.out); rintro e w71 ⟨v234, v237, rfl, ho0, ho1, hb⟩; refine ⟨_, rfl, ?_⟩; have HO235 := Aside0.mk (Kd.R_lower ho0 (below_size (hbA_ HB.out))); have HO238 := Aside0.mk (Kd.S_lower ho1 (below_size (hbA_ HB.out))); replace BK225 := (bbA_ BK225 hb); replace BK226 := (bbA_ BK226 hb); replace BK227 := (bbA_ BK227 hb); replace HB := (bs_ HB hb); (try clear hb); (try clear hb2); (try clear hk); (try clear hi); (try clear ho0); (try clear ho1); obtain ⟨Ao72, co72, eo72⟩ := Kd.R_slice HO235.out; subst eo72; have hnb73 := NB227_226.out; have hnc73 := NB226_227.out; have Z74 := zz2 BK227; obtain ⟨Ao75, co75, eo75⟩ := Kd.S_slice HO238.out; subst eo75))
       refine bodyPost_ret (results_ct rfl _ _ gb227 32 #[.slice Ao72 t233.length co72, .slice Ao75 t236.length co75] (0, 0) _ rfl (by refine kb_ ?_; refine pz2 (cs := #[.slice none 0 0, .slice none 0 0]) ?_; refine kb_ ?_; exact BK227.out) Try.underlying32 rfl (by kernel_rfl)) rfl ?_
       exact ⟨_, _, _, by first | rfl | (simp [errW_none, errW_some] <;> rfl) | (simp [*, errW_none, errW_some] <;> rfl), by refine kR_ ?_; exact rfm_ ((Kd.R_types HO235.out BK227.out (by decide))) (fun _ hk => trivial), by refine kS_ ?_; exact Kd.S_mono (Kd.S_far (p := ⟨gb227, 1, none⟩) (Kd.S_far (p := ⟨gb227, 0, none⟩) (Kd.S_types HO238.out BK227.out (by decide)) (fun _ hk => hk.2) (.slice Ao72 t233.length co72)) (fun _ hk => hk.2) (.slice Ao75 t236.length co75)) (fun _ hk => trivial), by first | exact Kd.S_nil _ _ _ _ _ | exact Kd.N_nil _ _ _ _ _ | exact Kd.V_nil _ _ _ _ _ | exact Kd.Q_nil _ _ _ _ _ | exact Kd.R_nil _ _ _ _ _, hbA_ HB.out⟩
      ·replace c66 := Bool.eq_false_iff.mpr c66
       subst c66
       rw [if_neg (show ¬ (false = true) by decide)] at H
       replace H := Option.bind_eq_some_iff.mp H
       obtain ⟨⟨t239, t242⟩, A760, H⟩ := H
       (try dsimp only at H)
       have A76 := Aside0.mk A760; clear A760
       obtain ⟨y246, hy246⟩ : ∃ y_ : List (S63), y_ = (t239.filter (fun h_ => !(h_.f0 == a2_2))) := ⟨_, rfl⟩
       (first | replace H := sb_ hy246 H | rw [← hy246] at H)
       have Ny246 := Aside0.mk hy246; clear hy246
       by_cases c77 : y246.length < 5864062014805
       ·rw [if_pos c77] at H
        have LMc77 := Aside0.mk c77; clear c77
        obtain ⟨y249, hy249⟩ : ∃ y_ : List (S63), y_ = (y246 ++ [(⟨a2_2, a2_1, wrap64 (a3 + 20)⟩ : S63)]) := ⟨_, rfl⟩
        (first | replace H := sb_ hy249 H | rw [← hy249] at H)
        have Ny249 := Aside0.mk hy249; clear hy249
        obtain ⟨ji78, hji78⟩ : ∃ j_ : Int, (mx 0 (wrap64 ((y249.length : Int) - 4))) = j_ := ⟨_, rfl⟩
        (first | rw [hji78] at H | simp only [hji78] at H)
        (try rw [hji78] at A76)
        (try (have hji78l : 0 ≤ ji78 := by (rw [← hji78]; unfold mx; (repeat' split) <;> omega)))
        (try (have hji78m : 0 ≤ ji78 := by omega))
        have hji78_ : (if 0 < (wrap64 ((y249.length : Int) - 4)) then (wrap64 ((y249.length : Int) - 4)) else 0) = ji78 := hji78
        by_cases c79 : 0 ≤ (ji78)
        ·rw [if_pos c79] at H
         have c79b0 := eq_true c79
         have c79b1 : decide (0 ≤ (ji78)) = true := decide_eq_true c79
         clear c79
         by_cases c80 : (ji78) ≤ (y249.length : Int)
         ·rw [if_pos c80] at H
          have c80b0 := eq_true c80
          have c80b1 : decide ((ji78) ≤ (y249.length : Int)) = true := decide_eq_true c80
          clear c80
          obtain ⟨y252, hy252⟩ : ∃ y_ : List (S63), y_ = (y249.drop ((ji78) : Int).toNat) := ⟨_, rfl⟩
          (first | replace H := sb_ hy252 H | rw [← hy252] at H)
          have Ny252 := Aside0.mk hy252; clear hy252
          have H' := Aside0.mk H
          clear H; have hnb81 := NB225_226.out; have hnc81 := NB226_225.out; have hnb82 := NB225_227.out; have hnc82 := NB227_225.out; have Z83 := zz2 BK225
          go_wp2_with (first | ((with_reducible refine gate_callee (f := 41) rfl ?_); refine goesL_ (some 51) rfl rfl Try.func41 (by kernel_rfl) rfl #[.agg #[.slice A0_0 l0_0.length c0_0, .slice A0_1 l0_1.length c0_1]] rfl ar_ ?_; (with_reducible refine (impl_Near_copy.calls kj35 _ _ l0_0 _ _ l0_1 t239 t242 _ ?side1 ?side2 ?side3 ?side4 A76.out).mono ?_); (case side1 => exact kC_ (Kd.C_below HR0_0.out HB.out)); (case side2 => exact HC0_0.out); (case side3 => exact kC_ (Kd.C_below HR0_1.out HB.out)); (case side4 => exact HC0_1.out); rintro e w84 ⟨v240, v243, rfl, ho0, ho1, hb⟩; refine ⟨_, rfl, ?_⟩; have HO241 := Aside0.mk (Kd.R_lower ho0 (below_size (hbA_ HB.out))); have HO244 := Aside0.mk (Kd.S_lower ho1 (below_size (hbA_ HB.out))); replace BK225 := (bbA_ BK225 hb); replace BK226 := (bbA_ BK226 hb); replace BK227 := (bbA_ BK227 hb); replace HB := (bs_ HB hb); (try clear hb); (try clear hb2); (try clear hk); (try clear hi); (try clear ho0); (try clear ho1)) | ((with_reducible refine gate_dst (N := 11) rfl ?_); refine box_ (N := 11) (cs := #[.slice none 0 0, .slice none 0 0]) (t := 32) (fun gb245 hg w85 hbox hb => ?_); replace HO241 := Aside0.mk (Kd.R_below (kR_ HO241.out) hb); replace HO244 := Aside0.mk (Kd.S_below (kS_ HO244.out) hb); have BK245 := Aside0.mk (hbox); have GW245 := ge_ hg HB; have GE245 := ge_ hg HB; replace HB := (bs_ HB hb); have NB225_245 := nl_ hg BK225; have NB245_225 := ng_ hg BK225; replace BK225 := (bbA_ BK225 hb); have NB226_245 := nl_ hg BK226; have NB245_226 := ng_ hg BK226; replace BK226 := (bbA_ BK226 hb); have NB227_245 := nl_ hg BK227; have NB245_227 := ng_ hg BK227; replace BK227 := (bbA_ BK227 hb); clear hb hbox hg; obtain ⟨Ao86, co86, eo86⟩ := Kd.R_slice HO241.out; subst eo86; have hnb87 := NB245_225.out; have hnc87 := NB225_245.out; have hnb88 := NB245_226.out; have hnc88 := NB226_245.out; have hnb89 := NB245_227.out; have hnc89 := NB227_245.out; have Z90 := zz2 BK245; obtain ⟨Ao91, co91, eo91⟩ := Kd.S_slice HO244.out; subst eo91) | ((with_reducible refine gate_store (t := 32) (p := 11) rfl ?_); refine store_event (t := 32) (p := 11) (v := ?vo_w92) (w1 := ((w85.setCell ⟨gb245, 0, none⟩ (.slice Ao86 t239.length co86)).setCell ⟨gb245, 1, none⟩ (.slice Ao91 t242.length co91))) ?hg ?ho ?hn ?hr ?_; (case ho => rfl); (case hg => rfl); (case hn => rfl); (case hr => first | (go_simp; done) | (go_simp; rfl)); intro w92 hw; have n0_ : Aside0 (Kd.R k63 63 w92 w.heap.size (fun _ => True) (.slice Ao86 t239.length co86) t239) := ⟨(by rw [hw]; exact (by refine kR_ ?_; exact rfm_ ((Kd.R_types HO241.out BK245.out (by decide))) (fun _ hk => trivial)))⟩; have n1_ : Aside0 (Kd.S k65 65 w92 w.heap.size (fun _ => True) (.slice Ao91 t242.length co91) t242) := ⟨(by rw [hw]; exact (by refine kS_ ?_; exact Kd.S_mono (Kd.S_far (p := ⟨gb245, 1, none⟩) (Kd.S_far (p := ⟨gb245, 0, none⟩) (Kd.S_types HO244.out BK245.out (by decide)) (fun _ hk => hk.2) (.slice Ao86 t239.length co86)) (fun _ hk => hk.2) (.slice Ao91 t242.length co91)) (fun _ hk => trivial)))⟩; have n2_ : Aside0 (w92.heap[gb225]? = some (.cells #[.slice A0_0 l0_0.length c0_0, .slice A0_1 l0_1.length c0_1] 32 (0, 0))) := ⟨(by rw [hw]; exact (by exact kf_ BK225.out))⟩; have n3_ : Aside0 (w92.heap[gb226]? = some (.cells #[.int .i64 a2_0, .int .i64 a2_1, .int .i64 a2_2, .int .i64 a2_3] 37 (0, 0))) := ⟨(by rw [hw]; exact (by exact kf_ BK226.out))⟩; have n4_ : Aside0 (w92.heap[gb227]? = some (.cells #[.slice none 0 0, .slice none 0 0] 32 (0, 0))) := ⟨(by rw [hw]; exact (by exact kf_ BK227.out))⟩; have n5_ : Aside0 (w92.heap[gb245]? = some (.cells #[.slice Ao86 t239.length co86, .slice Ao91 t242.length co91] 32 (0, 0))) := ⟨(by rw [hw]; exact (by refine kb_ ?_; refine pz2 (cs := #[.slice none 0 0, .slice none 0 0]) ?_; refine kb_ ?_; exact BK245.out))⟩; have n6_ : Aside0 (Below w.heap.size w w92) := ⟨(by rw [hw]; exact (hbA_ HB.out))⟩; clear hw; clear HO241; clear HO244; clear BK225; clear BK226; clear BK227; clear BK245; clear HB; have HO241 := n0_; have HO244 := n1_; have BK225 := n2_; have BK226 := n3_; have BK227 := n4_; have BK245 := n5_; have HB := n6_; clear n0_ n1_ n2_ n3_ n4_ n5_ n6_; have Z93 := zz2 BK245; have hnb94 := NB226_227.out; have hnc94 := NB227_226.out; have Z95 := zz4 BK226) | ((with_reducible refine gate_callee (f := 42) rfl ?_); refine goesL_ (some 55) rfl rfl Try.func42 (by kernel_rfl) rfl #[.slice Ao86 t239.length co86, .func (.func 43) #[] #[.pointer (some ⟨gb226, 0, none⟩)]] rfl (by (try simp only [List.map_toArray, List.map_cons, List.map_nil]); first | done | rfl) ?_; refine (impl_NearEntry_42.calls (w0 := w) (base := w.heap.size) (gq := gb226) (A := Ao86) (n := t239.length) (c := co86) a2_0 a2_1 a2_2 a2_3 (kR_ HO241.out) (hbA_ HB.out) (below_size (hbA_ HB.out)) (kb_ BK226.out)).mono ?_; rintro e w96 ⟨m_, rfl, em_, ho, hb, hg⟩; refine ⟨_, rfl, ?_⟩; rw [← Ny246.out] at ho em_; subst em_; replace BK225 := (bgA_ BK225 hg (Kd.R_ne HO241.out BK225.out (by decide))); replace BK226 := (bgA_ BK226 hg (Kd.R_ne HO241.out BK226.out (by decide))); replace BK227 := (bgA_ BK227 hg (Kd.R_ne HO241.out BK227.out (by decide))); replace HO244 := Aside0.mk (Kd.S_over' (v := (.slice Ao86 t239.length co86)) (kS_ HO244.out) (Kd.R_typed HO241.out) (by decide) hg); replace BK245 := (bgA_ BK245 hg (Kd.R_ne HO241.out BK245.out (by decide))); replace HO241 := Aside0.mk (ho); replace HB := Aside0.mk (hb); clear ho hb hg; have Z98 := zz2 BK245; have Z99 := zz4 BK226) | ((with_reducible refine gate_builtin (b := .append) (xs := #[.tmp 58, .tmp 66]) rfl ?_); at_builtin; refine Kd.R_append k63 (w0 := w) w.heap.size rfl (.tmp 58) (.tmp 66) 29 63 (.agg #[(.int .i64 0), (.int .i64 0), (.int .i64 0)]) 24 rfl Try.underlying29 info63 rfl (by decide) (by omega) (.slice Ao86 y246.length co86) y246 (⟨a2_2, a2_1, wrap64 (a3 + 20)⟩ : S63) [.int .i64 a2_2, .int .i64 a2_1, .int .i64 (wrap64 (a3 + 20))] (fun _ => True) (fun _ => False) rfl (by first | (go_simp; done) | (go_simp; rfl)) ?aP (fun _ hk => hk.elim) ?aF ?aO ?aB ?aS ?aL ?_; (case aP => exact k63_mkM _ _ _ (⟨a2_2, a2_1, wrap64 (a3 + 20)⟩ : S63)); (case aB => exact (hbA_ HB.out)); (case aF => exact (fun _ _ => trivial)); (case aO => exact (by refine kR_ ?_; exact Kd.R_mono (Kd.R_f gb245 0 (.slice Ao86 y246.length co86) (Kd.R_types HO241.out BK245.out (by decide))) (fun _ hk => trivial))); (case aS => exact (below_size (hbA_ HB.out))); (case aL => have := LMc77.out; omega); intro v250 w100 ho hb hg hat; rw [← Ny249.out] at ho; replace BK225 := Aside0.mk (blk_grown (g := gb225) (o := .cells #[.slice A0_0 l0_0.length c0_0, .slice A0_1 l0_1.length c0_1] 32 (0, 0)) (by exact kf_ BK225.out) hg (Kd.R_ne HO241.out BK225.out (by decide))); replace BK226 := Aside0.mk (blk_grown (g := gb226) (o := .cells #[.int .i64 a2_0, .int .i64 a2_1, .int .i64 a2_2, .int .i64 a2_3] 37 (0, 0)) (by exact kf_ BK226.out) hg (Kd.R_ne HO241.out BK226.out (by decide))); replace BK227 := Aside0.mk (blk_grown (g := gb227) (o := .cells #[.slice none 0 0, .slice none 0 0] 32 (0, 0)) (by exact kf_ BK227.out) hg (Kd.R_ne HO241.out BK227.out (by decide))); replace HO244 := Aside0.mk (Kd.S_over' (by refine kS_ ?_; exact (Kd.S_mono (Kd.S_far (p := ⟨gb245, 0, none⟩) (Kd.S_types HO244.out BK245.out (by decide)) (fun _ hk => hk.2) (.slice Ao86 y246.length co86)) (fun _ h_ => op1_ h_))) (Kd.R_typed (by refine kR_ ?_; exact (Kd.R_mono (Kd.R_f gb245 0 (.slice Ao86 y246.length co86) (Kd.R_types HO241.out BK245.out (by decide))) (fun _ h_ => op1_ h_)))) (by decide) hg); replace BK245 := Aside0.mk (blk_grown (g := gb245) (o := .cells #[.slice Ao86 y246.length co86, .slice Ao91 t242.length co91] 32 (0, 0)) (by refine kb_ ?_; refine blk_put (cs := #[.slice Ao86 t239.length co86, .slice Ao91 t242.length co91]) ?_ 0 _ rfl; refine kb_ ?_; exact BK245.out) hg (Kd.R_ne HO241.out BK245.out (by decide))); replace HB := Aside0.mk (hb); have HO251 := Aside0.mk (ho); clear HO241; clear ho hb hg hat; obtain ⟨Ao101, co101, eo101⟩ := Kd.R_slice HO251.out; subst eo101; have Z102 := zz2 BK245) | ((with_reducible refine gate_store (t := 29) (p := 68) rfl ?_); refine store_event (t := 29) (p := 68) (v := ?vo_w103) (w1 := (w100.setCell ⟨gb245, 0, none⟩ (.slice Ao101 y249.length co101))) ?hg ?ho ?hn ?hr ?_; (case ho => rfl); (case hg => rfl); (case hn => rfl); (case hr => first | (go_simp; done) | (go_simp; rfl)); intro w103 hw; have n0_ : Aside0 (Kd.S k65 65 w103 w.heap.size (fun _ => True) (.slice Ao91 t242.length co91) t242) := ⟨(by rw [hw]; exact (by refine kS_ ?_; exact Kd.S_mono (Kd.S_far (p := ⟨gb245, 0, none⟩) (Kd.S_types HO244.out BK245.out (by decide)) (fun _ hk => hk.2) (.slice Ao101 y249.length co101)) (fun _ hk => trivial)))⟩; have n1_ : Aside0 (Kd.R k63 63 w103 w.heap.size (fun _ => True) (.slice Ao101 y249.length co101) y249) := ⟨(by rw [hw]; exact (by refine kR_ ?_; exact Kd.R_mono (Kd.R_f gb245 0 (.slice Ao101 y249.length co101) (Kd.R_types HO251.out BK245.out (by decide))) (fun _ hk => trivial)))⟩; have n2_ : Aside0 (w103.heap[gb225]? = some (.cells #[.slice A0_0 l0_0.length c0_0, .slice A0_1 l0_1.length c0_1] 32 (0, 0))) := ⟨(by rw [hw]; exact (by exact kf_ BK225.out))⟩; have n3_ : Aside0 (w103.heap[gb226]? = some (.cells #[.int .i64 a2_0, .int .i64 a2_1, .int .i64 a2_2, .int .i64 a2_3] 37 (0, 0))) := ⟨(by rw [hw]; exact (by exact kf_ BK226.out))⟩; have n4_ : Aside0 (w103.heap[gb227]? = some (.cells #[.slice none 0 0, .slice none 0 0] 32 (0, 0))) := ⟨(by rw [hw]; exact (by exact kf_ BK227.out))⟩; have n5_ : Aside0 (w103.heap[gb245]? = some (.cells #[.slice Ao101 y249.length co101, .slice Ao91 t242.length co91] 32 (0, 0))) := ⟨(by rw [hw]; exact (by refine kb_ ?_; refine blk_put (cs := #[.slice Ao86 y246.length co86, .slice Ao91 t242.length co91]) ?_ 0 _ rfl; refine kb_ ?_; exact BK245.out))⟩; have n6_ : Aside0 (Below w.heap.size w w103) := ⟨(by rw [hw]; exact (hbA_ HB.out))⟩; clear hw; clear HO244; clear HO251; clear BK225; clear BK226; clear BK227; clear BK245; clear HB; have HO244 := n0_; have HO251 := n1_; have BK225 := n2_; have BK226 := n3_; have BK227 := n4_; have BK245 := n5_; have HB := n6_; clear n0_ n1_ n2_ n3_ n4_ n5_ n6_; have Z104 := zz2 BK245; have q105 : ((ji78) : Int) ≤ ((y249.length : Int) : Int) := of_decide_eq_true (by first | (with_reducible assumption) | assumption); obtain ⟨i0105, hi0105, _, hsz105, _⟩ := info_parts info63; have hcut105 := cut_from (P := Try.prog) 29 63 .i64 Try.underlying29 hi0105 3 hsz105 Ao101 y249.length co101 (ji78) (of_decide_eq_true (by first | (with_reducible assumption) | assumption)) q105; have hr105 := Kd.Q_drop (k := ((ji78) : Int).toNat) (Kd.Q_of_R HO251.out) (by omega); obtain ⟨A105, hA105⟩ : ∃ A1, A1 = (if co101 = ((ji78) : Int).toNat then Ao101 else (Ao101 : Option Addr).map (·.add (((ji78) : Int).toNat * 3))) := ⟨_, rfl⟩; obtain ⟨c105, hc105⟩ : ∃ c1, c1 = co101 - ((ji78) : Int).toNat := ⟨_, rfl⟩; have hy105 : y252.length = y249.length - ((ji78) : Int).toNat := (by rw [Ny252.out, List.length_drop]); rw [← Ny252.out] at hr105; rw [← hy105, ← hA105, ← hc105] at hcut105; replace hr105 : Kd.Q k63 63 w103 w.heap.size (fun _ => True) (.slice A105 y252.length c105) y252 := (by rw [hA105, hc105, hy105]; exact hr105); have HE105 : Aside0 ((Value.slice A105 y252.length c105).ownBlock = (.slice Ao101 y249.length co101 : Value).ownBlock) := ⟨by rw [hA105]; split <;> (cases (Ao101 : Option Addr) <;> first | rfl | simp [Value.ownBlock, add_block])⟩; clear hy105 hi0105 hsz105 HO251 hA105 hc105; have HO254 := Aside0.mk hr105; clear hr105; replace q105 := eq_true q105; have Z106 := zz2 BK225))
          go_loopg [12, 81] kj35 (fun kq v12 v81 w' => ∃ (x12_3 : List (List Int)) (x81_3 : Int), v81 = .int .i64 x81_3 ∧ Aside0 (impl_NearHear.l0 kq x12_3 l0_1 (l0_1.length : Int) x81_3 a2_0 a2_1 a2_2 a2_3 y252 t242 = some (r1, r2, r3)) ∧ Aside0 (kq ≤ kj35) ∧ Aside0 (Kd.S (Kd.slice 5 (Kd.int .u8)) 44 w' w.heap.size (fun _ => True) v12 x12_3) ∧ Aside0 (Kd.Q k63 63 w' w.heap.size (fun _ => True) (.slice A105 y252.length c105) y252) ∧ Aside0 (Kd.S k65 65 w' w.heap.size (fun _ => True) (.slice Ao91 t242.length co91) t242) ∧ Aside0 (w'.heap[gb225]? = some (.cells #[(.slice A0_0 l0_0.length c0_0), (.slice A0_1 l0_1.length c0_1)] 32 (0, 0))) ∧ Aside0 (w'.heap[gb226]? = some (.cells #[.int .i64 a2_0, .int .i64 a2_1, .int .i64 a2_2, .int .i64 a2_3] 37 (0, 0))) ∧ Aside0 (w'.heap[gb227]? = some (.cells #[(.slice none 0 0), (.slice none 0 0)] 32 (0, 0))) ∧ Aside0 (w'.heap[gb245]? = some (.cells #[(.slice A105 y252.length c105), (.slice Ao91 t242.length co91)] 32 (0, 0))) ∧ Aside0 (Below w.heap.size w w'))
          case atStart => exact ⟨(([] : List (List Int))), (0), (by first | rfl | (simp; done) | (simp [*]; done)), H', ⟨Nat.le_refl _⟩, ⟨by first | exact Kd.S_nil _ _ _ _ _ | exact Kd.N_nil _ _ _ _ _ | exact Kd.V_nil _ _ _ _ _ | exact Kd.Q_nil _ _ _ _ _ | exact Kd.R_nil _ _ _ _ _⟩, ⟨by (with_reducible repeat (first | apply Kd.Q_alloc | apply Kd.Q_drewN | apply Kd.Q_drew)); exact Kd.Q_mono (Kd.Q_far (p := ⟨gb245, 0, none⟩) (Kd.Q_types HO254.out BK245.out (by decide)) (fun _ hk => hk.2) (.slice A105 y252.length c105)) (fun _ hk => trivial)⟩, ⟨by refine kS_ ?_; exact Kd.S_mono (Kd.S_far (p := ⟨gb245, 0, none⟩) (Kd.S_types HO244.out BK245.out (by decide)) (fun _ hk => hk.2) (.slice A105 y252.length c105)) (fun _ hk => trivial)⟩, ⟨by exact kf_ BK225.out⟩, ⟨by exact kf_ BK226.out⟩, ⟨by exact kf_ BK227.out⟩, ⟨by refine kb_ ?_; refine blk_put (cs := #[.slice Ao101 y249.length co101, .slice Ao91 t242.length co91]) ?_ 0 _ rfl; refine kb_ ?_; exact BK245.out⟩, ⟨hbA_ HB.out⟩⟩
          case round =>
           clear H'; (try clear c1); (try clear q1); (try clear c2); (try clear p2); (try clear c3); (try clear c4); (try clear c5); (try clear c6); (try clear p6); (try clear c7); (try clear c8); (try clear c9); (try clear c10); (try clear q10); (try clear c12); (try clear c14); (try clear c15); (try clear c18); (try clear c20); (try clear c21); (try clear c22); (try clear c25); (try clear c28); (try clear c29); (try clear c32); (try clear c33); (try clear c34); (try clear c37); (try clear c38); (try clear c39); (try clear c41); (try clear c41b0); (try clear c42); (try clear c42b0); (try clear c42b1); (try clear c43); (try clear c44); (try clear c46); (try clear c51); (try clear c52); (try clear c54); (try clear c60); (try clear c61); (try clear c63); (try clear p64); (try clear c66); (try clear c68); (try clear c69); (try clear c73); (try clear c77); (try clear c79); (try clear c79b0); (try clear c79b1); (try clear c80); (try clear c80b0); (try clear c80b1); (try clear c81); (try clear c82); (try clear c87); (try clear c88); (try clear c89); (try clear c94); (try clear c105); (try clear q105); (try clear Z102); (try clear Z104); (try clear Z106); (try clear Z16); (try clear Z19); (try clear Z23); (try clear Z26); (try clear Z30); (try clear Z35); (try clear Z39); (try clear Z45); (try clear Z47); (try clear Z49); (try clear Z53); (try clear Z55); (try clear Z57); (try clear Z58); (try clear Z62); (try clear Z64); (try clear Z70); (try clear Z74); (try clear Z83); (try clear Z90); (try clear Z93); (try clear Z95); (try clear Z98); (try clear Z99)
           (try clear p2); (try clear q105)
           obtain ⟨x12_3, x81_3, rfl, HA, HK3, HO_12, HO_246000, HO_246001, BK225, BK226, BK227, BK245, HB⟩ := hrel
           cases gk with
           | zero => exact absurd HA.out (by simp [impl_NearHear.l0])
           | succ k3 =>
            have H := HA.out; clear HA
            simp only [impl_NearHear.l0] at H
            by_cases c107 : x81_3 < (l0_1.length : Int)
            ·rw [if_pos c107] at H
             have c107b0 : decide (x81_3 < (l0_1.length : Int)) = true := decide_eq_true c107
             clear c107
             by_cases c108 : 0 ≤ x81_3
             ·rw [if_pos c108] at H
              have c108b0 : decide (0 ≤ x81_3) = true := decide_eq_true c108
              clear c108
              by_cases c109 : x81_3 < (l0_1.length : Int)
              ·rw [if_pos c109] at H
               have c109b0 : decide (x81_3 < (l0_1.length : Int)) = true := decide_eq_true c109
               clear c109
               replace H := Option.bind_eq_some_iff.mp H
               obtain ⟨t257, A1100, H⟩ := H
               (try dsimp only at H)
               have A110 := Aside0.mk A1100; clear A1100
               by_cases c111 : t257 = true
               ·subst c111
                rw [if_pos rfl] at H
                replace H := Option.bind_eq_some_iff.mp H
                obtain ⟨t258, A1120, H⟩ := H
                (try dsimp only at H)
                have A112 := Aside0.mk A1120; clear A1120
                by_cases c113 : x12_3.length < 5864062014805
                ·rw [if_pos c113] at H
                 have LMc113 := Aside0.mk c113; clear c113
                 obtain ⟨y261, hy261⟩ : ∃ y_ : List (List Int), y_ = (x12_3 ++ [t258]) := ⟨_, rfl⟩
                 (first | replace H := sb_ hy261 H | rw [← hy261] at H)
                 have Ny261 := Aside0.mk hy261; clear hy261
                 have H' := Aside0.mk H
                 clear H
                 have p255 : 0 ≤ (x81_3 : Int) := of_decide_eq_true (by first | (with_reducible assumption) | assumption)
                 have q255 : x81_3 < (l0_1.length : Int) := of_decide_eq_true (by first | (with_reducible assumption) | assumption)
                 obtain ⟨ad255, A255_1, c255_1, e255, hx255_0, hx255_1, hl255_1, hi255_1⟩ := at_T65 HR0_1.out x81_3 p255 q255
                 cases e255
                 replace hx255_0 := cc_ HB hx255_0
                 replace hx255_1 := cc_ HB hx255_1
                 have HR255_1 := Aside0.mk hi255_1; have HC255_1 := Aside0.mk hl255_1; clear hi255_1 hl255_1
                 replace p255 := eq_true p255
                 replace q255 := eq_true q255
                 go_wp2_with (first | ((with_reducible refine gate_dst (N := 14) rfl ?_); refine box_ (N := 14) (cs := #[.int .i64 0, .slice none 0 0]) (t := 65) (fun gb256 hg w114 hbox hb => ?_); replace HO_12 := Aside0.mk (Kd.S_below (kS_ HO_12.out) hb); replace HO_246000 := Aside0.mk (Kd.Q_below (by (with_reducible repeat (first | apply Kd.Q_alloc | apply Kd.Q_drewN | apply Kd.Q_drew)); exact HO_246000.out) hb); replace HO_246001 := Aside0.mk (Kd.S_below (Kd.S_elderB (kS_ HO_246001.out) gb256 (Nat.le_of_eq hg.symm)) hb); have BK256 := Aside0.mk (hbox); have GW256 := ge_ hg HB; have GE256 := ge_ hg HB; replace HB := (bs_ HB hb); have NB225_256 := nl_ hg BK225; have NB256_225 := ng_ hg BK225; replace BK225 := (bbA_ BK225 hb); have NB226_256 := nl_ hg BK226; have NB256_226 := ng_ hg BK226; replace BK226 := (bbA_ BK226 hb); have NB227_256 := nl_ hg BK227; have NB256_227 := ng_ hg BK227; replace BK227 := (bbA_ BK227 hb); have NB245_256 := nl_ hg BK245; have NB256_245 := ng_ hg BK245; replace BK245 := (bbA_ BK245 hb); clear hb hbox hg; have hnb115 := NB256_225.out; have hnc115 := NB225_256.out; have hnb116 := NB256_226.out; have hnc116 := NB226_256.out; have hnb117 := NB256_227.out; have hnc117 := NB227_256.out; have hnb118 := NB256_245.out; have hnc118 := NB245_256.out; have Z119 := zz2 BK256; have hnb120 := NB226_225.out; have hnc120 := NB225_226.out; have hnb121 := NB226_227.out; have hnc121 := NB227_226.out; have hnb122 := NB226_245.out; have hnc122 := NB245_226.out; have Z123 := zz4 BK226) | ((with_reducible refine gateT_ (u := 85) rfl ?_); refine goesB_ (u := 85) (some 87) rfl rfl Try.func38 (by kernel_rfl) rfl #[.agg #[.int .i64 ((rd_T65 l0_1 x81_3).f0), .slice A255_1 ((rd_T65 l0_1 x81_3).f1).length c255_1]] #[.pointer (some ⟨gb226, 0, none⟩)] rfl rfl ar_ ?_; refine (impl_NearHear_waits.calls ((rd_T65 l0_1 x81_3).f0) _ _ ((rd_T65 l0_1 x81_3).f1) a2_0 a2_1 a2_2 a2_3 true _ ?side1 ?side2 A110.out ?hqq).mono ?_; (case hqq => exact kf_ BK226.out); (case side1 => exact Kd.C_below HR255_1.out (hbA_ HB.out)); (case side2 => exact HC255_1.out); rintro e w124 ⟨rfl, hb⟩; refine ⟨_, rfl, ?_⟩; replace HO_12 := Aside0.mk (Kd.S_below (by refine kS_ ?_; exact (Kd.S_mono (Kd.S_far (p := ⟨gb256, 1, none⟩) (Kd.S_far (p := ⟨gb256, 0, none⟩) (Kd.S_types HO_12.out BK256.out (by decide)) (fun _ hk => hk.2) (.int .i64 ((rd_T65 l0_1 x81_3).f0))) (fun _ hk => hk.2) (.slice A255_1 ((rd_T65 l0_1 x81_3).f1).length c255_1)) (fun _ h_ => op1_ h_))) hb); replace HO_246000 := Aside0.mk (Kd.Q_below (by (with_reducible repeat (first | apply Kd.Q_alloc | apply Kd.Q_drewN | apply Kd.Q_drew)); exact (Kd.Q_mono (Kd.Q_far (p := ⟨gb256, 1, none⟩) (Kd.Q_far (p := ⟨gb256, 0, none⟩) (Kd.Q_types HO_246000.out BK256.out (by decide)) (fun _ hk => hk.2) (.int .i64 ((rd_T65 l0_1 x81_3).f0))) (fun _ hk => hk.2) (.slice A255_1 ((rd_T65 l0_1 x81_3).f1).length c255_1)) (fun _ h_ => op1_ h_))) hb); replace HO_246001 := Aside0.mk (Kd.S_below (by refine kS_ ?_; exact (nfS_ gb256 HO_246001.out (fun _ hk => hk.2) (fun _ h_ => op1_ h_))) hb); replace BK225 := Aside0.mk (blk_below (g := gb225) (o := .cells #[.slice A0_0 l0_0.length c0_0, .slice (some ad255) l0_1.length c0_1] 32 (0, 0)) (by exact kf_ BK225.out) hb); replace BK226 := Aside0.mk (blk_below (g := gb226) (o := .cells #[.int .i64 a2_0, .int .i64 a2_1, .int .i64 a2_2, .int .i64 a2_3] 37 (0, 0)) (by exact kf_ BK226.out) hb); replace BK227 := Aside0.mk (blk_below (g := gb227) (o := .cells #[.slice none 0 0, .slice none 0 0] 32 (0, 0)) (by exact kf_ BK227.out) hb); replace BK245 := Aside0.mk (blk_below (g := gb245) (o := .cells #[.slice A105 y252.length c105, .slice Ao91 t242.length co91] 32 (0, 0)) (by exact kf_ BK245.out) hb); replace BK256 := Aside0.mk (blk_below (g := gb256) (o := .cells #[.int .i64 ((rd_T65 l0_1 x81_3).f0), .slice A255_1 ((rd_T65 l0_1 x81_3).f1).length c255_1] 65 (0, 0)) (by refine kb_ ?_; refine pz2 (cs := #[.int .i64 0, .slice none 0 0]) ?_; refine kb_ ?_; exact BK256.out) hb); replace HB := (bs_ HB hb); (try clear hb); (try clear hb2); (try clear hk); (try clear hi); have Z125 := zz2 BK256) | ((with_reducible refine gate_callee (f := 44) rfl ?_); refine goesL_ (some 91) rfl rfl Try.func44 (by kernel_rfl) rfl #[.slice A255_1 ((rd_T65 l0_1 x81_3).f1).length c255_1] rfl ar_ ?_; (with_reducible refine (impl_clone_byte.calls _ _ ((rd_T65 l0_1 x81_3).f1) t258 _ ?side1 ?side2 A112.out).mono ?_); (case side1 => exact kC_ (Kd.C_below HR255_1.out HB.out)); (case side2 => exact HC255_1.out); rintro e w126 ⟨v259, rfl, ho0, hb⟩; refine ⟨_, rfl, ?_⟩; replace HO_12 := Aside0.mk (Kd.S_elder' (kS_ HO_12.out) (Kd.R_base ho0) hb); replace HO_246000 := Aside0.mk (Kd.Q_below (by (with_reducible repeat (first | apply Kd.Q_alloc | apply Kd.Q_drewN | apply Kd.Q_drew)); exact HO_246000.out) hb); replace HO_246001 := Aside0.mk (Kd.S_elder' (kS_ HO_246001.out) (Kd.R_base ho0) hb); have HO260 := Aside0.mk (Kd.R_lower ho0 (below_size (hbA_ HB.out))); replace BK225 := (bbA_ BK225 hb); replace BK226 := (bbA_ BK226 hb); replace BK227 := (bbA_ BK227 hb); replace BK245 := (bbA_ BK245 hb); replace BK256 := (bbA_ BK256 hb); replace HB := (bs_ HB hb); (try clear hb); (try clear hb2); (try clear hk); (try clear hi); (try clear ho0); obtain ⟨Ao128, co128, eo128⟩ := Kd.R_slice HO260.out; subst eo128) | ((with_reducible refine gate_builtin (b := .append) (xs := #[.tmp 88, .tmp 92]) rfl ?_); at_builtin; refine Kd.S_append (Kd.slice 5 (Kd.int .u8)) (w0 := w) w.heap.size rfl (.tmp 88) (.tmp 92) 33 44 (.slice none 0 0) 24 rfl Try.underlying33 info44 rfl (by decide) (by omega) u12 x12_3 t258 [.slice Ao128 t258.length co128] (fun _ => True) (fun k_ => some k_ = (.slice Ao128 t258.length co128 : Value).ownBlock) rfl rfl ?aP (fun k_ hk_ => ((Kd.R_mono (ok' := fun k_ => ((fun _ => True)) k_ ∧ some k_ ≠ (u12 : Value).ownBlock) (Kd.R_apart' (HO260.out) (Kd.S_typed HO_12.out) (by decide)) (fun k_ hk => ⟨trivial, hk.2⟩))).1 k_ hk_.symm) ?aF ?aO ?aB ?aS ?aL ?_; (case aP => exact Kd.M_row (Kd.R_mono (Kd.R_tight rfl (Kd.R_mono (ok' := fun k_ => ((fun _ => True)) k_ ∧ some k_ ≠ (u12 : Value).ownBlock) (Kd.R_apart' (HO260.out) (Kd.S_typed HO_12.out) (by decide)) (fun k_ hk => ⟨trivial, hk.2⟩))) (fun _ h_ => h_))); (case aB => exact (hbA_ HB.out)); (case aF => exact (fun _ _ => trivial)); (case aO => exact (by refine kS_ ?_; exact Kd.S_mono HO_12.out (fun k_ hk => ⟨trivial, fun e_ => hk.2 e_⟩))); (case aS => exact (below_size (hbA_ HB.out))); (case aL => have := LMc113.out; omega); intro v262 w127 ho hb hg hat; rw [← Ny261.out] at ho; replace HO_246000 := Aside0.mk (Kd.Q_over' (by (with_reducible repeat (first | apply Kd.Q_alloc | apply Kd.Q_drewN | apply Kd.Q_drew)); exact HO_246000.out) (Kd.S_typed (kS_ HO_12.out)) (by decide) hg); replace HO_246001 := Aside0.mk (Kd.S_over' (kS_ HO_246001.out) (Kd.S_typed (kS_ HO_12.out)) (by decide) hg); replace BK225 := (bgA_ BK225 hg (Kd.S_ne HO_12.out BK225.out (by decide))); replace BK226 := (bgA_ BK226 hg (Kd.S_ne HO_12.out BK226.out (by decide))); replace BK227 := (bgA_ BK227 hg (Kd.S_ne HO_12.out BK227.out (by decide))); replace BK245 := (bgA_ BK245 hg (Kd.S_ne HO_12.out BK245.out (by decide))); replace BK256 := (bgA_ BK256 hg (Kd.S_ne HO_12.out BK256.out (by decide))); replace HB := Aside0.mk (hb); have HO263 := Aside0.mk (ho); clear HO_12 HO260; clear ho hb hg hat))
                 go_roundg k3
                 case measure => have := HJ4.out; have := HJ35.out; have := HK3.out; omega
                 case rel => exact ⟨(y261), (wrap64 (x81_3 + 1)), (by first | rfl | (simp; done) | (simp [*]; done)), H', ⟨by have := HJ4.out; have := HJ35.out; have := HK3.out; omega⟩, ⟨by refine kS_ ?_; exact HO263.out⟩, ⟨by (with_reducible repeat (first | apply Kd.Q_alloc | apply Kd.Q_drewN | apply Kd.Q_drew)); exact HO_246000.out⟩, ⟨by refine kS_ ?_; exact Kd.S_mono HO_246001.out (fun _ hk => trivial)⟩, ⟨by refine kb_ ?_; exact BK225.out⟩, ⟨by refine kb_ ?_; exact BK226.out⟩, ⟨by refine kb_ ?_; exact BK227.out⟩, ⟨by refine kb_ ?_; exact BK245.out⟩, ⟨hbA_ HB.out⟩⟩
                ·rw [if_neg c113] at H
                 exact absurd H (by simp)
               ·replace c111 := Bool.eq_false_iff.mpr c111
                subst c111
                rw [if_neg (show ¬ (false = true) by decide)] at H
                have H' := Aside0.mk H
                clear H
                have p255 : 0 ≤ (x81_3 : Int) := of_decide_eq_true (by first | (with_reducible assumption) | assumption)
                have q255 : x81_3 < (l0_1.length : Int) := of_decide_eq_true (by first | (with_reducible assumption) | assumption)
                obtain ⟨ad255, A255_1, c255_1, e255, hx255_0, hx255_1, hl255_1, hi255_1⟩ := at_T65 HR0_1.out x81_3 p255 q255
                cases e255
                replace hx255_0 := cc_ HB hx255_0
                replace hx255_1 := cc_ HB hx255_1
                have HR255_1 := Aside0.mk hi255_1; have HC255_1 := Aside0.mk hl255_1; clear hi255_1 hl255_1
                replace p255 := eq_true p255
                replace q255 := eq_true q255
                go_wp2_with (first | ((with_reducible refine gate_dst (N := 14) rfl ?_); refine box_ (N := 14) (cs := #[.int .i64 0, .slice none 0 0]) (t := 65) (fun gb256 hg w129 hbox hb => ?_); replace HO_12 := Aside0.mk (Kd.S_below (kS_ HO_12.out) hb); replace HO_246000 := Aside0.mk (Kd.Q_below (by (with_reducible repeat (first | apply Kd.Q_alloc | apply Kd.Q_drewN | apply Kd.Q_drew)); exact HO_246000.out) hb); replace HO_246001 := Aside0.mk (Kd.S_below (Kd.S_elderB (kS_ HO_246001.out) gb256 (Nat.le_of_eq hg.symm)) hb); have BK256 := Aside0.mk (hbox); have GW256 := ge_ hg HB; have GE256 := ge_ hg HB; replace HB := (bs_ HB hb); have NB225_256 := nl_ hg BK225; have NB256_225 := ng_ hg BK225; replace BK225 := (bbA_ BK225 hb); have NB226_256 := nl_ hg BK226; have NB256_226 := ng_ hg BK226; replace BK226 := (bbA_ BK226 hb); have NB227_256 := nl_ hg BK227; have NB256_227 := ng_ hg BK227; replace BK227 := (bbA_ BK227 hb); have NB245_256 := nl_ hg BK245; have NB256_245 := ng_ hg BK245; replace BK245 := (bbA_ BK245 hb); clear hb hbox hg; have hnb130 := NB256_225.out; have hnc130 := NB225_256.out; have hnb131 := NB256_226.out; have hnc131 := NB226_256.out; have hnb132 := NB256_227.out; have hnc132 := NB227_256.out; have hnb133 := NB256_245.out; have hnc133 := NB245_256.out; have Z134 := zz2 BK256; have hnb135 := NB226_225.out; have hnc135 := NB225_226.out; have hnb136 := NB226_227.out; have hnc136 := NB227_226.out; have hnb137 := NB226_245.out; have hnc137 := NB245_226.out; have Z138 := zz4 BK226) | ((with_reducible refine gateT_ (u := 85) rfl ?_); refine goesB_ (u := 85) (some 87) rfl rfl Try.func38 (by kernel_rfl) rfl #[.agg #[.int .i64 ((rd_T65 l0_1 x81_3).f0), .slice A255_1 ((rd_T65 l0_1 x81_3).f1).length c255_1]] #[.pointer (some ⟨gb226, 0, none⟩)] rfl rfl ar_ ?_; refine (impl_NearHear_waits.calls ((rd_T65 l0_1 x81_3).f0) _ _ ((rd_T65 l0_1 x81_3).f1) a2_0 a2_1 a2_2 a2_3 false _ ?side1 ?side2 A110.out ?hqq).mono ?_; (case hqq => exact kf_ BK226.out); (case side1 => exact Kd.C_below HR255_1.out (hbA_ HB.out)); (case side2 => exact HC255_1.out); rintro e w139 ⟨rfl, hb⟩; refine ⟨_, rfl, ?_⟩; replace HO_12 := Aside0.mk (Kd.S_below (by refine kS_ ?_; exact (Kd.S_mono (Kd.S_far (p := ⟨gb256, 1, none⟩) (Kd.S_far (p := ⟨gb256, 0, none⟩) (Kd.S_types HO_12.out BK256.out (by decide)) (fun _ hk => hk.2) (.int .i64 ((rd_T65 l0_1 x81_3).f0))) (fun _ hk => hk.2) (.slice A255_1 ((rd_T65 l0_1 x81_3).f1).length c255_1)) (fun _ h_ => op1_ h_))) hb); replace HO_246000 := Aside0.mk (Kd.Q_below (by (with_reducible repeat (first | apply Kd.Q_alloc | apply Kd.Q_drewN | apply Kd.Q_drew)); exact (Kd.Q_mono (Kd.Q_far (p := ⟨gb256, 1, none⟩) (Kd.Q_far (p := ⟨gb256, 0, none⟩) (Kd.Q_types HO_246000.out BK256.out (by decide)) (fun _ hk => hk.2) (.int .i64 ((rd_T65 l0_1 x81_3).f0))) (fun _ hk => hk.2) (.slice A255_1 ((rd_T65 l0_1 x81_3).f1).length c255_1)) (fun _ h_ => op1_ h_))) hb); replace HO_246001 := Aside0.mk (Kd.S_below (by refine kS_ ?_; exact (nfS_ gb256 HO_246001.out (fun _ hk => hk.2) (fun _ h_ => op1_ h_))) hb); replace BK225 := Aside0.mk (blk_below (g := gb225) (o := .cells #[.slice A0_0 l0_0.length c0_0, .slice (some ad255) l0_1.length c0_1] 32 (0, 0)) (by exact kf_ BK225.out) hb); replace BK226 := Aside0.mk (blk_below (g := gb226) (o := .cells #[.int .i64 a2_0, .int .i64 a2_1, .int .i64 a2_2, .int .i64 a2_3] 37 (0, 0)) (by exact kf_ BK226.out) hb); replace BK227 := Aside0.mk (blk_below (g := gb227) (o := .cells #[.slice none 0 0, .slice none 0 0] 32 (0, 0)) (by exact kf_ BK227.out) hb); replace BK245 := Aside0.mk (blk_below (g := gb245) (o := .cells #[.slice A105 y252.length c105, .slice Ao91 t242.length co91] 32 (0, 0)) (by exact kf_ BK245.out) hb); replace BK256 := Aside0.mk (blk_below (g := gb256) (o := .cells #[.int .i64 ((rd_T65 l0_1 x81_3).f0), .slice A255_1 ((rd_T65 l0_1 x81_3).f1).length c255_1] 65 (0, 0)) (by refine kb_ ?_; refine pz2 (cs := #[.int .i64 0, .slice none 0 0]) ?_; refine kb_ ?_; exact BK256.out) hb); replace HB := (bs_ HB hb); (try clear hb); (try clear hb2); (try clear hk); (try clear hi)))
                go_roundg k3
                case measure => have := HJ4.out; have := HJ35.out; have := HK3.out; omega
                case rel => exact ⟨(x12_3), (wrap64 (x81_3 + 1)), (by first | rfl | (simp; done) | (simp [*]; done)), H', ⟨by have := HJ4.out; have := HJ35.out; have := HK3.out; omega⟩, ⟨by refine kS_ ?_; exact HO_12.out⟩, ⟨by (with_reducible repeat (first | apply Kd.Q_alloc | apply Kd.Q_drewN | apply Kd.Q_drew)); exact HO_246000.out⟩, ⟨by refine kS_ ?_; exact Kd.S_mono HO_246001.out (fun _ hk => trivial)⟩, ⟨by refine kb_ ?_; exact BK225.out⟩, ⟨by refine kb_ ?_; exact BK226.out⟩, ⟨by refine kb_ ?_; exact BK227.out⟩, ⟨by refine kb_ ?_; exact BK245.out⟩, ⟨hbA_ HB.out⟩⟩
              ·rw [if_neg c109] at H
               exact absurd H (by simp)
             ·rw [if_neg c108] at H
              exact absurd H (by simp)
            ·rw [if_neg c107] at H
             have c107b0 : decide (x81_3 < (l0_1.length : Int)) = false := decide_eq_false c107
             clear c107
             obtain ⟨y264, hy264⟩ : ∃ y_ : List (S65), y_ = (t242.filter (fun h_ => !(h_.f0 == a2_2))) := ⟨_, rfl⟩
             (first | replace H := sb_ hy264 H | rw [← hy264] at H)
             have Ny264 := Aside0.mk hy264; clear hy264
             replace H := Option.bind_eq_some_iff.mp H
             obtain ⟨⟨t267, t270⟩, A1400, H⟩ := H
             (try dsimp only at H)
             have A140 := Aside0.mk A1400; clear A1400
             simp only [Option.some.injEq, Prod.mk.injEq] at H
             obtain ⟨rfl, rfl, rfl⟩ := H
             have hnb141 := NB245_225.out; have hnc141 := NB225_245.out; have hnb142 := NB245_226.out; have hnc142 := NB226_245.out; have hnb143 := NB245_227.out; have hnc143 := NB227_245.out; have Z144 := zz2 BK245; have hnb145 := NB226_225.out; have hnc145 := NB225_226.out; have hnb146 := NB226_227.out; have hnc146 := NB227_226.out; have Z147 := zz4 BK226
             go_wp2_with (first | ((with_reducible refine gate_callee (f := 45) rfl ?_); refine goesL_ (some 98) rfl rfl Try.func45 (by kernel_rfl) rfl #[.slice Ao91 t242.length co91, .func (.func 38) #[] #[.pointer (some ⟨gb226, 0, none⟩)]] rfl (by (try simp only [List.map_toArray, List.map_cons, List.map_nil]); first | done | rfl) ?_; refine (impl_NearHeld_45.calls (w0 := w) (base := w.heap.size) (gq := gb226) (A := Ao91) (n := t242.length) (c := co91) a2_0 a2_1 a2_2 a2_3 (kS_ HO_246001.out) (hbA_ HB.out) (below_size (hbA_ HB.out)) (kb_ BK226.out)).mono ?_; rintro e w148 ⟨m_, rfl, em_, ho, hb, hg⟩; refine ⟨_, rfl, ?_⟩; rw [← Ny264.out] at ho em_; subst em_; replace HO_12 := Aside0.mk (Kd.S_over' (v := (.slice Ao91 t242.length co91)) (kS_ HO_12.out) (Kd.S_typed HO_246001.out) (by decide) hg); replace HO_246000 := Aside0.mk (Kd.Q_over' (v := (.slice Ao91 t242.length co91)) (by (with_reducible repeat (first | apply Kd.Q_alloc | apply Kd.Q_drewN | apply Kd.Q_drew)); exact HO_246000.out) (Kd.S_typed HO_246001.out) (by decide) hg); replace BK225 := (bgA_ BK225 hg (Kd.S_ne HO_246001.out BK225.out (by decide))); replace BK226 := (bgA_ BK226 hg (Kd.S_ne HO_246001.out BK226.out (by decide))); replace BK227 := (bgA_ BK227 hg (Kd.S_ne HO_246001.out BK227.out (by decide))); replace BK245 := (bgA_ BK245 hg (Kd.S_ne HO_246001.out BK245.out (by decide))); replace HO_246001 := Aside0.mk (ho); replace HB := Aside0.mk (hb); clear ho hb hg; have Z150 := zz2 BK245) | ((with_reducible refine gate_callee (f := 41) rfl ?_); refine goesL_ (some 101) rfl rfl Try.func41 (by kernel_rfl) rfl #[.agg #[.slice A105 y252.length c105, .slice Ao91 y264.length co91]] rfl ar_ ?_; (with_reducible refine (impl_Near_copy.calls k3 _ _ y252 _ _ y264 t267 t270 _ ?side1 ?side2 ?side3 ?side4 A140.out).mono ?_); (case side1 => refine (Kd.Q_reads' (e := 63) (base := w.heap.size) (ok := fun k_ => True) (n := y252.length) (c := c105) ?_).2.2; exact (by (with_reducible repeat (first | apply Kd.Q_alloc | apply Kd.Q_drewN | apply Kd.Q_drew)); exact (Kd.Q_mono (Kd.Q_far (p := ⟨gb245, 1, none⟩) (Kd.Q_types HO_246000.out BK245.out (by decide)) (fun _ hk => hk.2) (.slice Ao91 y264.length co91)) (fun _ h_ => op1_ h_)))); (case side2 => exact (Kd.Q_reads' HO_246000.out).2.1); (case side3 => refine (Kd.S_reads' (e := 65) (base := w.heap.size) (ok := fun k_ => True) (n := y264.length) (c := co91) ?_).2.2; exact (by refine kS_ ?_; exact (Kd.S_mono (Kd.S_far (p := ⟨gb245, 1, none⟩) (Kd.S_types HO_246001.out BK245.out (by decide)) (fun _ hk => hk.2) (.slice Ao91 y264.length co91)) (fun _ h_ => op1_ h_)))); (case side4 => exact (Kd.S_reads' HO_246001.out).2.1); rintro e w151 ⟨v268, v271, rfl, ho0, ho1, hb⟩; refine ⟨_, rfl, ?_⟩; replace HO_12 := Aside0.mk (Kd.S_below (by refine kS_ ?_; exact (Kd.S_mono (Kd.S_far (p := ⟨gb245, 1, none⟩) (Kd.S_types HO_12.out BK245.out (by decide)) (fun _ hk => hk.2) (.slice Ao91 y264.length co91)) (fun _ h_ => op1_ h_))) hb); have HO269 := Aside0.mk (Kd.R_lower (Kd.R_new' ho0 (Kd.Q_lt (by (with_reducible repeat (first | apply Kd.Q_alloc | apply Kd.Q_drewN | apply Kd.Q_drew)); exact (Kd.Q_mono (Kd.Q_far (p := ⟨gb245, 1, none⟩) (Kd.Q_types HO_246000.out BK245.out (by decide)) (fun _ hk => hk.2) (.slice Ao91 y264.length co91)) (fun _ h_ => op1_ h_))))) (below_size (hbA_ HB.out))); replace HO_246000 := Aside0.mk (Kd.Q_elder' (by (with_reducible repeat (first | apply Kd.Q_alloc | apply Kd.Q_drewN | apply Kd.Q_drew)); exact (Kd.Q_mono (Kd.Q_far (p := ⟨gb245, 1, none⟩) (Kd.Q_types HO_246000.out BK245.out (by decide)) (fun _ hk => hk.2) (.slice Ao91 y264.length co91)) (fun _ h_ => op1_ h_))) (Kd.R_base ho0) hb); have HO272 := Aside0.mk (Kd.S_lower (Kd.S_new' ho1 (Kd.S_lt (by refine kS_ ?_; exact (Kd.S_mono (Kd.S_far (p := ⟨gb245, 1, none⟩) (Kd.S_types HO_246001.out BK245.out (by decide)) (fun _ hk => hk.2) (.slice Ao91 y264.length co91)) (fun _ h_ => op1_ h_))))) (below_size (hbA_ HB.out))); replace HO_246001 := Aside0.mk (Kd.S_elder' (by refine kS_ ?_; exact (Kd.S_mono (Kd.S_far (p := ⟨gb245, 1, none⟩) (Kd.S_types HO_246001.out BK245.out (by decide)) (fun _ hk => hk.2) (.slice Ao91 y264.length co91)) (fun _ h_ => op1_ h_))) (Kd.S_base ho1) hb); replace BK225 := Aside0.mk (blk_below (g := gb225) (o := .cells #[.slice A0_0 l0_0.length c0_0, .slice A0_1 l0_1.length c0_1] 32 (0, 0)) (by exact kf_ BK225.out) hb); replace BK226 := Aside0.mk (blk_below (g := gb226) (o := .cells #[.int .i64 a2_0, .int .i64 a2_1, .int .i64 a2_2, .int .i64 a2_3] 37 (0, 0)) (by exact kf_ BK226.out) hb); replace BK227 := Aside0.mk (blk_below (g := gb227) (o := .cells #[.slice none 0 0, .slice none 0 0] 32 (0, 0)) (by exact kf_ BK227.out) hb); replace BK245 := Aside0.mk (blk_below (g := gb245) (o := .cells #[.slice A105 y252.length c105, .slice Ao91 y264.length co91] 32 (0, 0)) (by refine kb_ ?_; refine blk_put (cs := #[.slice A105 y252.length c105, .slice Ao91 t242.length co91]) ?_ 1 _ rfl; refine kb_ ?_; exact BK245.out) hb); replace HB := (bs_ HB hb); (try clear hb); (try clear hb2); (try clear hk); (try clear hi); (try clear ho0); (try clear ho1); obtain ⟨Ao152, co152, eo152⟩ := Kd.S_slice HO_12.out; subst eo152; have hq153 := (Kd.S_reads' HO_12.out).2.1; have hr153 := Aside0.mk (Kd.S_clip HO_12.out (Nat.le_refl _) hq153); clear HO_12; have HO274 := hr153; clear hr153) | (go_at_call 46; (with_reducible refine (slices_Clip_byte_byte_46.calls _ _ _ _ hq153).mono ?_); rintro e w' ⟨rfl, rfl⟩; obtain ⟨Ao154, co154, eo154⟩ := Kd.R_slice HO269.out; subst eo154; have hnb155 := NB227_225.out; have hnc155 := NB225_227.out; have Z156 := zz2 BK227; obtain ⟨Ao157, co157, eo157⟩ := Kd.S_slice HO272.out; subst eo157))
             refine bodyPost_ret (results_ct rfl _ _ gb227 32 #[.slice Ao154 t267.length co154, .slice Ao157 t270.length co157] (0, 0) _ rfl (by refine kb_ ?_; refine pz2 (cs := #[.slice none 0 0, .slice none 0 0]) ?_; refine kb_ ?_; exact BK227.out) Try.underlying32 rfl (by kernel_rfl)) rfl ?_
             exact ⟨_, _, _, by first | rfl | (simp [errW_none, errW_some] <;> rfl) | (simp only [← hji78]; first | rfl | (simp [errW_none, errW_some] <;> rfl)) | (simp [*, errW_none, errW_some] <;> rfl), by refine kR_ ?_; exact rfm_ ((Kd.R_types HO269.out BK227.out (by decide))) (fun _ hk => trivial), by refine kS_ ?_; exact Kd.S_mono (Kd.S_far (p := ⟨gb227, 1, none⟩) (Kd.S_far (p := ⟨gb227, 0, none⟩) (Kd.S_types HO272.out BK227.out (by decide)) (fun _ hk => hk.2) (.slice Ao154 t267.length co154)) (fun _ hk => hk.2) (.slice Ao157 t270.length co157)) (fun _ hk => trivial), by refine kS_ ?_; exact Kd.S_mono (Kd.S_far (p := ⟨gb227, 1, none⟩) (Kd.S_far (p := ⟨gb227, 0, none⟩) (Kd.S_types HO274.out BK227.out (by decide)) (fun _ hk => hk.2) (.slice Ao154 t267.length co154)) (fun _ hk => hk.2) (.slice Ao157 t270.length co157)) (fun _ hk => trivial), hbA_ HB.out⟩
         ·rw [if_neg c80] at H
          exact absurd H (by simp)
        ·rw [if_neg c79] at H
         exact absurd H (by simp)
       ·rw [if_neg c77] at H
        exact absurd H (by simp)
def IsS104 (w0 W : World) (g : Nat) (f0 : List Int) (f1 : Int) : Prop := ∃ A0 c0, W.heap[g]? = some (.cells #[.slice A0 f0.length c0, .int .i64 f1] 104 (0, 0)) ∧ w0.heap.size ≤ g ∧ Kd.C (Kd.int .u8) w0 A0 f0.length f0
theorem IsS104.grown {w0 W : World} {g : Nat} {f0 : List Int} {f1 : Int} {W1 : World} {row : Option Nat} (h : IsS104 w0 W g f0 f1) (hw : W.grownBy W1 row) (hne : some g ≠ row) : IsS104 w0 W1 g f0 f1 := by
 obtain ⟨A0, c0, hb, hg, hr0⟩ := h
 exact ⟨A0, c0, blk_grown hb hw hne, hg, hr0⟩
theorem IsS104.kept {w0 W : World} {g : Nat} {f0 : List Int} {f1 : Int} {W1 : World} {S : Nat → Prop} (h : IsS104 w0 W g f0 f1) (hk : Kept W W1 S) (hne : ¬ S g) : IsS104 w0 W1 g f0 f1 := by
 obtain ⟨A0, c0, hb, hg, hr0⟩ := h
 exact ⟨A0, c0, blk_kept hb hk hne, hg, hr0⟩
theorem IsS104.below {w0 W : World} {g : Nat} {f0 : List Int} {f1 : Int} {W1 : World} (h : IsS104 w0 W g f0 f1) (hw : Below W.heap.size W W1) : IsS104 w0 W1 g f0 f1 := h.grown (grown_of_below hw none) (by simp)
theorem IsS104.alloc {w0 W : World} {g : Nat} {f0 : List Int} {f1 : Int} (h : IsS104 w0 W g f0 f1) (o : Obj) : IsS104 w0 (W.alloc o) g f0 f1 := h.below (below_alloc (Below.refl _ _) o)
theorem IsS104.drewN {w0 W : World} {g : Nat} {f0 : List Int} {f1 : Int} (h : IsS104 w0 W g f0 f1) (m : Nat) : IsS104 w0 (W.drewN m) g f0 f1 := h
theorem IsS104.drew {w0 W : World} {g : Nat} {f0 : List Int} {f1 : Int} (h : IsS104 w0 W g f0 f1) : IsS104 w0 W.drew g f0 f1 := h
theorem IsS104.at_ {w0 W : World} {g : Nat} {f0 : List Int} {f1 : Int} {w' : World} {m : Nat} (hq : W.drewN m = w') (h : IsS104 w0 W g f0 f1) : IsS104 w0 w' g f0 f1 := by subst hq; exact IsS104.drewN h m
theorem IsS104.apart {w0 W : World} {g : Nat} {f0 : List Int} {f1 : Int} {α : Type} {d : Kd α} {e : Nat} {base : Nat} {ok : Nat → Prop} {v : Value} {xs : List α} (h : IsS104 w0 W g f0 f1) (ho : d.R e W base ok v xs) (ht : ∀ q, q ∈ e :: d.E → q ≠ 104) : d.R e W base (fun k => ok k ∧ k ≠ g) v xs := by
 obtain ⟨A0, c0, hb, hg, hr0⟩ := h
 exact Kd.R_types ho hb ht
theorem IsS104.own_ne {w0 W : World} {g : Nat} {f0 : List Int} {f1 : Int} {α : Type} {d : Kd α} {e : Nat} {base : Nat} {ok : Nat → Prop} {v : Value} {xs : List α} (h : IsS104 w0 W g f0 f1) (ho : d.R e W base ok v xs) (ht : e ≠ 104) : some g ≠ v.ownBlock := by
 obtain ⟨A0, c0, hb, hg, hr0⟩ := h
 exact Kd.R_ne ho hb ht
theorem IsS104.apartQ {w0 W : World} {g : Nat} {f0 : List Int} {f1 : Int} {α : Type} {d : Kd α} {e : Nat} {base : Nat} {ok : Nat → Prop} {v : Value} {xs : List α} (h : IsS104 w0 W g f0 f1) (ho : d.Q e W base ok v xs) (ht : ∀ q, q ∈ e :: d.E → q ≠ 104) : d.Q e W base (fun k => ok k ∧ k ≠ g) v xs := by
 obtain ⟨A0, c0, hb, hg, hr0⟩ := h
 exact Kd.Q_types ho hb ht
theorem IsS104.own_neQ {w0 W : World} {g : Nat} {f0 : List Int} {f1 : Int} {α : Type} {d : Kd α} {e : Nat} {base : Nat} {ok : Nat → Prop} {v : Value} {xs : List α} (h : IsS104 w0 W g f0 f1) (ho : d.Q e W base ok v xs) (ht : e ≠ 104) : some g ≠ v.ownBlock := by
 obtain ⟨A0, c0, hb, hg, hr0⟩ := h
 exact Kd.Q_ne ho hb ht
theorem IsS104.lt {w0 W : World} {g : Nat} {f0 : List Int} {f1 : Int} (h : IsS104 w0 W g f0 f1) : g < W.heap.size := by
 obtain ⟨A0, c0, hb, hg, hr0⟩ := h
 exact blk_lt hb
theorem IsS104.ge {w0 W : World} {g : Nat} {f0 : List Int} {f1 : Int} (h : IsS104 w0 W g f0 f1) : w0.heap.size ≤ g := by
 obtain ⟨A0, c0, hb, hg, hr0⟩ := h
 exact hg
theorem IsS104.ne_blk {w0 W : World} {g : Nat} {f0 : List Int} {f1 : Int} {a : Nat} {cs : Array Value} {t : TypeId} {fr : Nat × Nat} (h : IsS104 w0 W g f0 f1) (hb2 : W.heap[a]? = some (.cells cs t fr)) (ht : t ≠ 104) : g ≠ a := by
 obtain ⟨A0, c0, hb, hg, hr0⟩ := h
 rintro rfl
 rw [hb] at hb2
 injection hb2 with hb2
 injection hb2 with _ ht2
 exact ht ht2.symm
theorem IsS104.far {w0 W : World} {g : Nat} {f0 : List Int} {f1 : Int} {p : Addr} (h : IsS104 w0 W g f0 f1) (hne : g ≠ p.block) (u : Value) : IsS104 w0 (W.setCell p u) g f0 f1 := by
 obtain ⟨A0, c0, hb, hg, hr0⟩ := h
 exact ⟨A0, c0, blk_far hb hne u, hg, hr0⟩
theorem cellS104_0 {W : World} {g : Nat} {A0 : Option Addr} {c0 : Nat} {f0 : List Int} {f1 : Int} (h : W.heap[g]? = some (.cells #[.slice A0 f0.length c0, .int .i64 f1] 104 (0, 0))) : W.cell? ⟨g, 0, none⟩ = some (.slice A0 f0.length c0) := (blk_cell h 0).trans rfl
theorem cellS104_1 {W : World} {g : Nat} {A0 : Option Addr} {c0 : Nat} {f0 : List Int} {f1 : Int} (h : W.heap[g]? = some (.cells #[.slice A0 f0.length c0, .int .i64 f1] 104 (0, 0))) : W.cell? ⟨g, 1, none⟩ = some (.int .i64 f1) := (blk_cell h 1).trans rfl
theorem IsS104.set_1 {w0 W : World} {g : Nat} {f0 : List Int} {f1 : Int} (h : IsS104 w0 W g f0 f1) (x : Int) : IsS104 w0 (W.setCell ⟨g, 1, none⟩ (.int .i64 x)) g f0 x := by
 obtain ⟨A0, c0, hb, hg, hr0⟩ := h
 exact ⟨A0, c0, by simpa using blk_set hb 1 (.int .i64 x), hg, hr0⟩
theorem is104_ {P Q : Prop} (q : Q) (h : Q → P := by intro q_; repeat (first | (with_reducible first | exact q_ | apply IsS104.alloc | apply IsS104.drewN | apply IsS104.drew | apply IsS104.set_1 | refine IsS104.far ?_ (Aside0.out (by assumption)) _) | exact q_)) : P := h q
theorem hb104_ {P Q : Prop} (q : Q) (h : Q → P := by intro q_; repeat (first | (with_reducible first | exact q_ | apply below_alloc | apply pw_below_drewN | apply below_drew1 | refine below_set ?_ (Aside0.out (by assumption)) | refine below_set ?_ (IsS104.ge (Aside0.out (by assumption)))) | exact q_)) : P := h q
theorem bs104_ {w W W0 W2 : World} (HB : Aside0 (Below w.heap.size w W0)) (hb : Below W.heap.size W W2) (t : Below w.heap.size w W0 → Below w.heap.size w W := by intro q_; repeat (first | (with_reducible first | exact q_ | apply below_alloc | apply pw_below_drewN | apply below_drew1 | refine below_set ?_ (Aside0.out (by assumption)) | refine below_set ?_ (IsS104.ge (Aside0.out (by assumption)))) | exact q_)) : Aside0 (Below w.heap.size w W2) := ⟨below_step (t HB.out) hb⟩
theorem nl104_ {w0 W W0 : World} {g g2 : Nat} {f0 : List Int} {f1 : Int} {g0 : List Int} {g1 : Int} (hg : g2 = W.heap.size) (h : Aside0 (IsS104 w0 W0 g f0 f1)) (t : IsS104 w0 W0 g f0 f1 → IsS104 w0 W g g0 g1 := by intro q_; repeat (first | (with_reducible first | exact q_ | apply IsS104.alloc | apply IsS104.drewN | apply IsS104.drew | apply IsS104.set_1 | refine IsS104.far ?_ (Aside0.out (by assumption)) _) | exact q_)) : Aside0 (g ≠ g2) := ⟨hg ▸ Nat.ne_of_lt (IsS104.lt (t h.out))⟩
theorem ng104_ {w0 W W0 : World} {g g2 : Nat} {f0 : List Int} {f1 : Int} {g0 : List Int} {g1 : Int} (hg : g2 = W.heap.size) (h : Aside0 (IsS104 w0 W0 g f0 f1)) (t : IsS104 w0 W0 g f0 f1 → IsS104 w0 W g g0 g1 := by intro q_; repeat (first | (with_reducible first | exact q_ | apply IsS104.alloc | apply IsS104.drewN | apply IsS104.drew | apply IsS104.set_1 | refine IsS104.far ?_ (Aside0.out (by assumption)) _) | exact q_)) : Aside0 (g2 ≠ g) := ⟨hg ▸ Nat.ne_of_gt (IsS104.lt (t h.out))⟩
theorem ib104_ {w0 W W0 W2 : World} {g : Nat} {f0 : List Int} {f1 : Int} {g0 : List Int} {g1 : Int} (h : Aside0 (IsS104 w0 W0 g f0 f1)) (hb : Below W.heap.size W W2) (t : IsS104 w0 W0 g f0 f1 → IsS104 w0 W g g0 g1 := by intro q_; repeat (first | (with_reducible first | exact q_ | apply IsS104.alloc | apply IsS104.drewN | apply IsS104.drew | apply IsS104.set_1 | refine IsS104.far ?_ (Aside0.out (by assumption)) _) | exact q_)) : Aside0 (IsS104 w0 W2 g g0 g1) := ⟨IsS104.below (t h.out) hb⟩
theorem rk104_ {w0 W0 W1 W W2 : World} {g : Nat} {f0 : List Int} {f1 : Int} {g0 : List Int} {g1 : Int} {α : Type} {d : Kd α} {e : Nat} {base : Nat} {ok : Nat → Prop} {v : Value} {xs : List α} (h : Aside0 (IsS104 w0 W0 g f0 f1)) (ho : Aside0 (d.R e W1 base ok v xs)) (hk : KeepBut W W2 g none) (t : IsS104 w0 W0 g f0 f1 → IsS104 w0 W g g0 g1 := by intro q_; repeat (first | (with_reducible first | exact q_ | apply IsS104.alloc | apply IsS104.drewN | apply IsS104.drew | apply IsS104.set_1 | refine IsS104.far ?_ (Aside0.out (by assumption)) _) | exact q_)) (s : d.R e W1 base ok v xs → d.R e W base ok v xs := by intro q_; (with_reducible repeat (first | apply Kd.R_alloc | apply Kd.R_drewN | apply Kd.R_drew)); exact q_) (ht : ∀ q, q ∈ e :: d.E → q ≠ 104 := by decide) : Aside0 (d.R e W2 base ok v xs) := ⟨Kd.R_mono (Kd.R_keep (IsS104.apart (t h.out) (s ho.out) ht) hk (fun _ h => h.2)) (fun _ h => h.1)⟩
def spec_l20Open.f (l0 : List Int) : Option (List Int × Int) := if (l0.length : Int) > 2000 then (if 2000 ≤ (l0.length : Int) then (some (l0.take 2000, 0)) else (none)) else (some (l0, 0))
set_option maxHeartbeats 8000000 in
set_option maxRecDepth 100000 in
theorem spec_l20Open.calls (A0 : Option Addr) (c0 : Nat) (l0 : List Int) (r1 : List Int) (r2 : Int) (w0 w : World) (hB : Below w0.heap.size w0 w) (hr0 : Kd.C (Kd.int .u8) w0 A0 l0.length l0) (hc0 : l0.length ≤ c0) (h : spec_l20Open.f l0 = some (r1, r2)) :
  Calls Try.prog 56 #[.slice A0 l0.length c0] w fun e w' => ∃ g_ : Nat, e = .returned (.pointer (some ⟨g_, 0, none⟩)) ∧ IsS104 w0 w' g_ r1 r2 ∧ Below w0.heap.size w0 w' ∧ Below w.heap.size w w' := by
 have hu104 := Try.underlying104; have HR0 := Aside0.mk hr0; have HC0 := Aside0.mk hc0; clear hr0 hc0
 have HBW := Aside0.mk (Below.refl w.heap.size w)
 have HW0 := Aside0.mk hB.size; have HB := Aside0.mk hB; clear hB
 have H : (if (l0.length : Int) > 2000 then (if 2000 ≤ (l0.length : Int) then (some (l0.take 2000, 0)) else (none)) else (some (l0, 0))) = some (r1, r2) := h
 clear h
 by_cases c2 : (l0.length : Int) > 2000
 ·rw [if_pos c2] at H
  have c2b0 : decide (2000 < (l0.length : Int)) = true := decide_eq_true c2
  have c2b1 : decide (2000 < l0.length) = true := decide_eq_true (by omega)
  clear c2
  by_cases c3 : 2000 ≤ (l0.length : Int)
  ·rw [if_pos c3] at H
   have c3b0 := eq_true c3
   have c3b1 : decide (2000 ≤ (l0.length : Int)) = true := decide_eq_true c3
   clear c3
   simp only [Option.some.injEq, Prod.mk.injEq] at H
   obtain ⟨rfl, rfl⟩ := H
   obtain ⟨i04, hi04, _, hsz4, _⟩ := info_parts info5
   obtain ⟨hcut4, hA4, hC4⟩ := print_take_of (P := Try.prog) (Value.int .u8) 0 44 5 .i64 Try.underlying44 hi04 hsz4 A0 c0 l0 2000 (by omega) (of_decide_eq_true (by first | (with_reducible assumption) | assumption)) HC0.out
   have HR275 := Aside0.mk (Kd.C_of_reads (h1 := fun _ => rfl) (hA4 _ (Kd.reads_of_C HR0.out)))
   have HC275 := Aside0.mk hC4; clear hA4 hC4 hi04 hsz4
   go_enter Try.func56, Try.ntmps56
   go_wp2_with (first | ((with_reducible refine gate_dst (N := 10) rfl ?_); refine box_ (N := 10) (cs := #[.slice A0 (l0.take 2000).length c0, .int .i64 0]) (t := 104) (fun gb276 hg w5 hbox hb => ?_); replace HB := (bs_ HB hb); have BK276 := Aside0.mk (hbox); have GW276 := Aside0.mk ((by rw [hg]; exact (below_size (hb0_ HBW.out)) : w.heap.size ≤ gb276)); have GE276 := Aside0.mk ((Nat.le_trans HW0.out (by rw [hg]; exact (below_size (hb0_ HBW.out)) : w.heap.size ≤ gb276) : w0.heap.size ≤ gb276)); replace HBW := Aside0.mk (below_step HBW.out hb); clear hb hbox hg))
   go_ret
   exact ⟨_, rfl, (show IsS104 w0 _ gb276 (l0.take 2000) 0 from ⟨_, _, by refine kb_ ?_; exact BK276.out, GE276.out, HR275.out⟩), hbA_ HB.out, by repeat (first | (with_reducible first | exact HBW.out | apply below_alloc | apply pw_below_drewN | apply below_drew1 | refine below_set ?_ GW276.out) | exact HBW.out)⟩
  ·rw [if_neg c3] at H
   exact absurd H (by simp)
 ·rw [if_neg c2] at H
  have c2b0 : decide (2000 < (l0.length : Int)) = false := decide_eq_false c2
  have c2b1 : decide (2000 < l0.length) = false := decide_eq_false (by omega)
  clear c2
  simp only [Option.some.injEq, Prod.mk.injEq] at H
  obtain ⟨rfl, rfl⟩ := H
  go_enter Try.func56, Try.ntmps56
  go_wp2_with (first | ((with_reducible refine gate_dst (N := 10) rfl ?_); refine box_ (N := 10) (cs := #[.slice A0 l0.length c0, .int .i64 0]) (t := 104) (fun gb277 hg w6 hbox hb => ?_); replace HB := (bs_ HB hb); have BK277 := Aside0.mk (hbox); have GW277 := Aside0.mk ((by rw [hg]; exact (below_size (hb0_ HBW.out)) : w.heap.size ≤ gb277)); have GE277 := Aside0.mk ((Nat.le_trans HW0.out (by rw [hg]; exact (below_size (hb0_ HBW.out)) : w.heap.size ≤ gb277) : w0.heap.size ≤ gb277)); replace HBW := Aside0.mk (below_step HBW.out hb); clear hb hbox hg))
  go_ret
  exact ⟨_, rfl, (show IsS104 w0 _ gb277 l0 0 from ⟨_, _, by refine kb_ ?_; exact BK277.out, GE277.out, HR0.out⟩), hbA_ HB.out, by repeat (first | (with_reducible first | exact HBW.out | apply below_alloc | apply pw_below_drewN | apply below_drew1 | refine below_set ?_ GW277.out) | exact HBW.out)⟩
def spec_l20Rd_pick.j0 : Nat → Int → Bool → List Int → Int → Option (Int × Int)
 | 0, _, _, _, _ => none
 | k + 1, x1, x24, x1000, x1001 => if x24 = true then (some (0, x1001)) else (if (wrap64 (x1001 - 1)) < (x1000.length : Int) then (if 0 ≤ (wrap64 (x1001 - 1)) then (if x1 = 0 then (none) else (some (Int.tmod (wrap64 (rd x1000 (wrap64 (x1001 - 1)))) x1, x1001))) else (none)) else (if (x1000.length : Int) = 0 then (none) else (if 0 ≤ (Int.tmod (wrap64 (x1001 - 1)) (x1000.length : Int)) then (if (Int.tmod (wrap64 (x1001 - 1)) (x1000.length : Int)) < (x1000.length : Int) then (if 0 ≤ (Int.tmod (wrap64 ((wrap64 ((wrap64 (x1001 - 1)) * 7)) + 3)) (x1000.length : Int)) then (if (Int.tmod (wrap64 ((wrap64 ((wrap64 (x1001 - 1)) * 7)) + 3)) (x1000.length : Int)) < (x1000.length : Int) then (if x1 = 0 then (none) else (some (Int.tmod (Go.bits .xor .i64 (wrap64 ((wrap64 ((wrap64 ((wrap64 ((wrap64 (rd x1000 (Int.tmod (wrap64 (x1001 - 1)) (x1000.length : Int)))) * 131)) + (wrap64 ((wrap64 (rd x1000 (Int.tmod (wrap64 ((wrap64 ((wrap64 (x1001 - 1)) * 7)) + 3)) (x1000.length : Int)))) * 1117)))) + (wrap64 ((wrap64 (x1001 - 1)) * 29)))) + (wrap64 ((wrap64 (Int.tdiv (wrap64 (x1001 - 1)) (x1000.length : Int))) * 53)))) (wrap64 (Int.tdiv (wrap64 ((wrap64 ((wrap64 ((wrap64 ((wrap64 (rd x1000 (Int.tmod (wrap64 (x1001 - 1)) (x1000.length : Int)))) * 131)) + (wrap64 ((wrap64 (rd x1000 (Int.tmod (wrap64 ((wrap64 ((wrap64 (x1001 - 1)) * 7)) + 3)) (x1000.length : Int)))) * 1117)))) + (wrap64 ((wrap64 (x1001 - 1)) * 29)))) + (wrap64 ((wrap64 (Int.tdiv (wrap64 (x1001 - 1)) (x1000.length : Int))) * 53)))) 64))) x1, x1001))) else (none)) else (none)) else (none)) else (none))))
def spec_l20Rd_pick.f (k : Nat) (s0_0 : List Int) (s0_1 : Int) (a1 : Int) : Option (Int × Int) := if a1 < 1 then (spec_l20Rd_pick.j0 k a1 true s0_0 (wrap64 (s0_1 + 1))) else (spec_l20Rd_pick.j0 k a1 ((s0_0.length : Int) == 0) s0_0 (wrap64 (s0_1 + 1)))
theorem spec_l20Rd_pick.mono_l : ∀ k, (∀ y0 y1 y2 y3, LeO (spec_l20Rd_pick.j0 k y0 y1 y2 y3) (spec_l20Rd_pick.j0 (k + 1) y0 y1 y2 y3))
 | 0 => fun _ _ _ _ r h => by simp [spec_l20Rd_pick.j0] at h
 | k + 1 => by
  have ih0 := spec_l20Rd_pick.mono_l k
  ·intro y0 y1 y2 y3
   unfold spec_l20Rd_pick.j0
   repeat' first | (with_reducible first | apply ih0 | exact LeO.refl _ | exact LeO.none _ | refine LeO.ite ?_ ?_ | refine LeO.bind ?_ fun _ => ?_) | apply ih0 | exact LeO.none _ | refine LeO.ite ?_ ?_ | refine LeO.bind ?_ fun _ => ?_
theorem spec_l20Rd_pick.mono : ∀ a0 a1 a2 k, LeO (spec_l20Rd_pick.f k a0 a1 a2) (spec_l20Rd_pick.f (k + 1) a0 a1 a2) := by
 intro a0 a1 a2 k
 have ih0 := spec_l20Rd_pick.mono_l k
 unfold spec_l20Rd_pick.f
 repeat' first | (with_reducible first | apply ih0 | exact LeO.refl _ | exact LeO.none _ | refine LeO.ite ?_ ?_ | refine LeO.bind ?_ fun _ => ?_) | apply ih0 | exact LeO.none _ | refine LeO.ite ?_ ?_ | refine LeO.bind ?_ fun _ => ?_
set_option maxHeartbeats 8000000 in
set_option maxRecDepth 100000 in
theorem spec_l20Rd_pick.calls (k : Nat) (g : Nat) (s0_0 : List Int) (s0_1 : Int) (a1 : Int) (r1 : Int) (r2 : Int) (w0 w : World) (hI : IsS104 w0 w g s0_0 s0_1) (hB : Below w0.heap.size w0 w) (h : spec_l20Rd_pick.f k s0_0 s0_1 a1 = some (r1, r2)) :
  Calls Try.prog 58 #[.pointer (some ⟨g, 0, none⟩), .int .i64 a1] w fun e w' => e = .returned (.int .i64 r1) ∧ IsS104 w0 w' g s0_0 r2 ∧ Below w0.heap.size w0 w' ∧ KeepBut w w' g none := by
 have HI0 := Aside0.mk hI
 have HK := Aside0.mk (KeepBut.refl w g none)
 have HL := Aside0.mk hB.size; clear hI; have HW0 := Aside0.mk hB.size; have HB := Aside0.mk hB; clear hB
 have H : (if a1 < 1 then (spec_l20Rd_pick.j0 k a1 true s0_0 (wrap64 (s0_1 + 1))) else (spec_l20Rd_pick.j0 k a1 ((s0_0.length : Int) == 0) s0_0 (wrap64 (s0_1 + 1)))) = some (r1, r2) := h
 clear h; have HC3 := Aside0.mk H; clear H
 obtain ⟨ASz4_0, cSz4_0, HGz4, hgz4, HSz4_0⟩ := HI0.out
 have hcz4_0 := cellS104_0 HGz4
 have hcz4_1 := cellS104_1 HGz4
 have hfz4_1 := blk_frozen HGz4 1; clear HGz4 hgz4
 go_enter Try.func58, Try.ntmps58
 go_upto_region 2 with (fail)
 repeat (go_quiet (fail); go_upto_region 2 with (fail))
 go_cut [24] (fun v24 wc => ∃ (kq : Nat) (x24_2 : Bool), v24 = .bool x24_2 ∧ Aside0 (spec_l20Rd_pick.j0 kq a1 x24_2 s0_0 (wrap64 (s0_1 + 1)) = some (r1, r2)) ∧ Aside0 (kq ≤ k) ∧ Aside0 (IsS104 w0 wc g s0_0 (wrap64 (s0_1 + 1))) ∧ Aside0 (KeepBut w wc g none) ∧ Aside0 (Below w0.heap.size w0 wc))
 case first =>
  have H := HC3.out; clear HC3
  by_cases c5 : a1 < 1
  ·rw [if_pos c5] at H
   have c5b0 : decide (a1 < 1) = true := decide_eq_true c5
   clear c5
   (first | rw [c5b0] | (simp only [i64_w, i32_w]; rw [c5b0]) | skip)
   have H' := Aside0.mk H
   clear H
   go_wp2
   repeat (go_quiet (fail); try go_wp2)
   go_meet
   case rel => exact ⟨_, (true), (by first | rfl | (simp; done) | (simp [*]; done)), H', ⟨by first | omega | exact Nat.le_refl _⟩, ⟨is104_ HI0.out⟩, ⟨hkA_ HK.out⟩, ⟨hb104_ HB.out⟩⟩
  ·rw [if_neg c5] at H
   have c5b0 : decide (a1 < 1) = false := decide_eq_false c5
   clear c5
   (first | rw [c5b0] | (simp only [i64_w, i32_w]; rw [c5b0]) | skip)
   have H' := Aside0.mk H
   clear H
   obtain ⟨ASz6_0, cSz6_0, HGz6, hgz6, HSz6_0⟩ := HI0.out
   have hcz6_0 := cellS104_0 HGz6
   have hcz6_1 := cellS104_1 HGz6
   have hfz6_1 := blk_frozen HGz6 1; clear HGz6 hgz6
   go_wp2
   repeat (go_quiet (fail); try go_wp2)
   go_meet
   case rel => exact ⟨_, (((s0_0.length : Int) == 0)), (by first | rfl | (simp; done) | (simp [*]; done)), H', ⟨by first | omega | exact Nat.le_refl _⟩, ⟨is104_ HI0.out⟩, ⟨hkA_ HK.out⟩, ⟨hb104_ HB.out⟩⟩
 case rest =>
  clear HC3; (try clear p2); (try clear c5); (try clear c5b0); (try clear p6); (try clear hcz4_0); (try clear hcz4_1); (try clear hcz6_0); (try clear hcz6_1); (try clear hfz4_1); (try clear hfz6_1)
  obtain ⟨kq, x24_2, rfl, HA, HJ2, HI0, HK, HB⟩ := hcut
  cases kq with
  | zero => exact absurd HA.out (by simp [spec_l20Rd_pick.j0])
  | succ kj2 =>
   have H := HA.out; clear HA
   simp only [spec_l20Rd_pick.j0] at H
   by_cases c7 : x24_2 = true
   ·subst c7
    rw [if_pos rfl] at H
    simp only [Option.some.injEq, Prod.mk.injEq] at H
    obtain ⟨rfl, rfl⟩ := H
    go_wp2
    repeat (go_quiet (fail); try go_wp2)
    go_ret
    exact ⟨by first | rfl | (simp [errW_none, errW_some] <;> rfl) | (simp [*, errW_none, errW_some] <;> rfl), is104_ HI0.out, hb104_ HB.out, hkA_ HK.out⟩
   ·replace c7 := Bool.eq_false_iff.mpr c7
    subst c7
    rw [if_neg (show ¬ (false = true) by decide)] at H
    by_cases c8 : (wrap64 ((wrap64 (s0_1 + 1)) - 1)) < (s0_0.length : Int)
    ·rw [if_pos c8] at H
     have c8b0 : decide ((wrap64 ((wrap64 (s0_1 + 1)) - 1)) < (s0_0.length : Int)) = true := decide_eq_true c8
     clear c8
     obtain ⟨ji9, hji9⟩ : ∃ j_ : Int, (wrap64 ((wrap64 (s0_1 + 1)) - 1)) = j_ := ⟨_, rfl⟩
     (first | rw [hji9] at H | simp only [hji9] at H)
     (try rw [hji9] at c8b0)
     have hji9w : (IntKind.i64.wrap ((wrap64 (s0_1 + 1)) - 1)) = ji9 := (i64_w _).trans hji9
     by_cases c10 : 0 ≤ (ji9)
     ·rw [if_pos c10] at H
      have c10b0 : decide (0 ≤ (ji9)) = true := decide_eq_true c10
      clear c10
      by_cases c11 : a1 = 0
      ·rw [if_pos c11] at H
       exact absurd H (by simp)
      ·rw [if_neg c11] at H
       have c11b0 : (a1 == 0) = false := beq_eq_false_iff_ne.mpr c11
       have c11b1 : (a1 != 0) = true := bne_iff_ne.mpr c11
       simp only [Option.some.injEq, Prod.mk.injEq] at H
       obtain ⟨rfl, rfl⟩ := H
       obtain ⟨ASz12_0, cSz12_0, HGz12, hgz12, HSz12_0⟩ := HI0.out
       have hcz12_0 := cellS104_0 HGz12
       have hcz12_1 := cellS104_1 HGz12
       have hfz12_1 := blk_frozen HGz12 1; clear HGz12 hgz12
       have p278 : 0 ≤ ((ji9) : Int) := of_decide_eq_true (by first | (with_reducible assumption) | assumption)
       have q278 : (ji9) < (s0_0.length : Int) := of_decide_eq_true (by first | (with_reducible assumption) | assumption)
       obtain ⟨ad278, e278, hx278_0⟩ := Kd.at_int HSz12_0 (ji9) p278 q278
       cases e278
       replace hx278_0 := pw_cell_below HB.out hx278_0
       replace p278 := eq_true p278
       replace q278 := eq_true q278
       go_wp2
       repeat (go_quiet (fail); try go_wp2)
       go_ret
       exact ⟨by first | rfl | (simp [errW_none, errW_some] <;> rfl) | (simp only [← hji9]; first | rfl | (simp [errW_none, errW_some] <;> rfl)) | (simp [*, errW_none, errW_some] <;> rfl), is104_ HI0.out, hb104_ HB.out, hkA_ HK.out⟩
     ·rw [if_neg c10] at H
      exact absurd H (by simp)
    ·rw [if_neg c8] at H
     have c8b0 : decide ((wrap64 ((wrap64 (s0_1 + 1)) - 1)) < (s0_0.length : Int)) = false := decide_eq_false c8
     clear c8
     by_cases c13 : (s0_0.length : Int) = 0
     ·rw [if_pos c13] at H
      exact absurd H (by simp)
     ·rw [if_neg c13] at H
      have c13b0 : ((s0_0.length : Int) == 0) = false := beq_eq_false_iff_ne.mpr c13
      have c13b1 : ((s0_0.length : Int) != 0) = true := bne_iff_ne.mpr c13
      have c13b2 : ¬ (s0_0 = []) := fun h_ => c13 (by rw [h_]; rfl)
      obtain ⟨ji14, hji14⟩ : ∃ j_ : Int, (Int.tmod (wrap64 ((wrap64 (s0_1 + 1)) - 1)) (s0_0.length : Int)) = j_ := ⟨_, rfl⟩
      (first | rw [hji14] at H | simp only [hji14] at H)
      by_cases c15 : 0 ≤ (ji14)
      ·rw [if_pos c15] at H
       have c15b0 : decide (0 ≤ (ji14)) = true := decide_eq_true c15
       clear c15
       by_cases c16 : (ji14) < (s0_0.length : Int)
       ·rw [if_pos c16] at H
        have c16b0 : decide ((ji14) < (s0_0.length : Int)) = true := decide_eq_true c16
        clear c16
        obtain ⟨ji17, hji17⟩ : ∃ j_ : Int, (Int.tmod (wrap64 ((wrap64 ((wrap64 ((wrap64 (s0_1 + 1)) - 1)) * 7)) + 3)) (s0_0.length : Int)) = j_ := ⟨_, rfl⟩
        (first | rw [hji17] at H | simp only [hji17] at H)
        by_cases c18 : 0 ≤ (ji17)
        ·rw [if_pos c18] at H
         have c18b0 : decide (0 ≤ (ji17)) = true := decide_eq_true c18
         clear c18
         by_cases c19 : (ji17) < (s0_0.length : Int)
         ·rw [if_pos c19] at H
          have c19b0 : decide ((ji17) < (s0_0.length : Int)) = true := decide_eq_true c19
          clear c19
          by_cases c20 : a1 = 0
          ·rw [if_pos c20] at H
           exact absurd H (by simp)
          ·rw [if_neg c20] at H
           have c20b0 : (a1 == 0) = false := beq_eq_false_iff_ne.mpr c20
           have c20b1 : (a1 != 0) = true := bne_iff_ne.mpr c20
           simp only [Option.some.injEq, Prod.mk.injEq] at H
           obtain ⟨rfl, rfl⟩ := H
           obtain ⟨ASz21_0, cSz21_0, HGz21, hgz21, HSz21_0⟩ := HI0.out
           have hcz21_0 := cellS104_0 HGz21
           have hcz21_1 := cellS104_1 HGz21
           have hfz21_1 := blk_frozen HGz21 1; clear HGz21 hgz21
           have p279 : 0 ≤ ((ji14) : Int) := of_decide_eq_true (by first | (with_reducible assumption) | assumption)
           have q279 : (ji14) < (s0_0.length : Int) := of_decide_eq_true (by first | (with_reducible assumption) | assumption)
           obtain ⟨ad279, e279, hx279_0⟩ := Kd.at_int HSz21_0 (ji14) p279 q279
           cases e279
           replace hx279_0 := pw_cell_below HB.out hx279_0
           replace p279 := eq_true p279
           replace q279 := eq_true q279
           have p280 : 0 ≤ ((ji17) : Int) := of_decide_eq_true (by first | (with_reducible assumption) | assumption)
           have q280 : (ji17) < (s0_0.length : Int) := of_decide_eq_true (by first | (with_reducible assumption) | assumption)
           obtain ⟨ad280, e280, hx280_0⟩ := Kd.at_int HSz21_0 (ji17) p280 q280
           obtain rfl : ad279 = ad280 := (by injection e280)
           replace hx280_0 := pw_cell_below HB.out hx280_0
           replace p280 := eq_true p280
           replace q280 := eq_true q280
           go_wp2
           repeat (go_quiet (fail); try go_wp2)
           go_ret
           exact ⟨by first | rfl | (simp [errW_none, errW_some] <;> rfl) | (simp only [← hji14, ← hji17]; first | rfl | (simp [errW_none, errW_some] <;> rfl)) | (simp [*, errW_none, errW_some] <;> rfl), is104_ HI0.out, hb104_ HB.out, hkA_ HK.out⟩
         ·rw [if_neg c19] at H
          exact absurd H (by simp)
        ·rw [if_neg c18] at H
         exact absurd H (by simp)
       ·rw [if_neg c16] at H
        exact absurd H (by simp)
      ·rw [if_neg c15] at H
       exact absurd H (by simp)
def spec_l20Rd_odd.f (k : Nat) (s0_0 : List Int) (s0_1 : Int) (a1 : Int) : Option (Bool × Int) := if a1 > 0 then ((spec_l20Rd_pick.f k s0_0 s0_1 a1).bind fun bt281 => (some ((bt281.1 == (wrap64 (a1 - 1))), bt281.2))) else (some (false, s0_1))
theorem spec_l20Rd_odd.mono : ∀ a0 a1 a2 k, LeO (spec_l20Rd_odd.f k a0 a1 a2) (spec_l20Rd_odd.f (k + 1) a0 a1 a2) := by
 intro a0 a1 a2 k
 unfold spec_l20Rd_odd.f
 repeat' first | (with_reducible first | apply spec_l20Rd_pick.mono | exact LeO.refl _ | exact LeO.none _ | refine LeO.ite ?_ ?_ | refine LeO.bind ?_ fun _ => ?_) | apply spec_l20Rd_pick.mono | exact LeO.none _ | refine LeO.ite ?_ ?_ | refine LeO.bind ?_ fun _ => ?_
set_option maxHeartbeats 8000000 in
set_option maxRecDepth 100000 in
theorem spec_l20Rd_odd.calls (k : Nat) (g : Nat) (s0_0 : List Int) (s0_1 : Int) (a1 : Int) (r1 : Bool) (r2 : Int) (w0 w : World) (hI : IsS104 w0 w g s0_0 s0_1) (hB : Below w0.heap.size w0 w) (h : spec_l20Rd_odd.f k s0_0 s0_1 a1 = some (r1, r2)) :
  Calls Try.prog 78 #[.pointer (some ⟨g, 0, none⟩), .int .i64 a1] w fun e w' => e = .returned (.bool r1) ∧ IsS104 w0 w' g s0_0 r2 ∧ Below w0.heap.size w0 w' ∧ KeepBut w w' g none := by
 have HI0 := Aside0.mk hI
 have HK := Aside0.mk (KeepBut.refl w g none)
 have HL := Aside0.mk hB.size; clear hI; have HW0 := Aside0.mk hB.size; have HB := Aside0.mk hB; clear hB
 have H : (if a1 > 0 then ((spec_l20Rd_pick.f k s0_0 s0_1 a1).bind fun bt281 => (some ((bt281.1 == (wrap64 (a1 - 1))), bt281.2))) else (some (false, s0_1))) = some (r1, r2) := h
 clear h
 by_cases c3 : a1 > 0
 ·rw [if_pos c3] at H
  have c3b0 : decide (0 < a1) = true := decide_eq_true c3
  clear c3
  replace H := Option.bind_eq_some_iff.mp H
  obtain ⟨⟨t281, t282⟩, A40, H⟩ := H
  (try dsimp only at H)
  have A4 := Aside0.mk A40; clear A40
  simp only [Option.some.injEq, Prod.mk.injEq] at H
  obtain ⟨rfl, rfl⟩ := H
  go_enter Try.func78, Try.ntmps78
  go_wp2_with (first | (go_at_call 58; (with_reducible refine (spec_l20Rd_pick.calls k g s0_0 s0_1 a1 t281 t282 w0 _ ?side1 ?side2 A4.out).mono ?_); (case side1 => exact is104_ HI0.out); (case side2 => exact hb104_ HB.out); rintro e w5 ⟨rfl, hi, hb, hk⟩; replace HK := (kk_ HK hk); replace HB := Aside0.mk (hb); replace HI0 := Aside0.mk (hi); (try clear hb); (try clear hb2); (try clear hk); (try clear hi)))
  go_ret
  exact ⟨by first | rfl | (simp [errW_none, errW_some] <;> rfl) | (simp [*, errW_none, errW_some] <;> rfl), is104_ HI0.out, hb104_ HB.out, hkA_ HK.out⟩
 ·rw [if_neg c3] at H
  have c3b0 : decide (0 < a1) = false := decide_eq_false c3
  clear c3
  simp only [Option.some.injEq, Prod.mk.injEq] at H
  obtain ⟨rfl, rfl⟩ := H
  go_enter Try.func78, Try.ntmps78
  go_wp2
  go_ret
  exact ⟨by first | rfl | (simp [errW_none, errW_some] <;> rfl) | (simp [*, errW_none, errW_some] <;> rfl), is104_ HI0.out, hb104_ HB.out, hkA_ HK.out⟩
def spec_l20Query.f (k : Nat) (s0_0 : List Int) (s0_1 : Int) (a1 : Int) : Option (Int × Int × Int × Int × Int) := (spec_l20Rd_pick.f k s0_0 s0_1 2).bind fun bt284 => ((spec_l20Rd_pick.f k s0_0 bt284.2 4).bind fun bt286 => ((spec_l20Rd_pick.f k s0_0 bt286.2 6).bind fun bt288 => ((spec_l20Rd_pick.f k s0_0 bt288.2 6).bind fun bt290 => ((spec_l20Rd_odd.f k s0_0 bt290.2 a1).bind fun bt293 => (if bt293.1 = true then ((spec_l20Rd_pick.f k s0_0 bt293.2 3).bind fun bt295 => (if bt295.1 = 0 then ((spec_l20Rd_pick.f k s0_0 bt295.2 5).bind fun bt297 => (some (bt297.1, bt286.1, bt288.1, bt290.1, bt297.2))) else (if bt295.1 = 1 then (some (wrap64 (1 + bt284.1), 255, bt288.1, bt290.1, bt295.2)) else ((spec_l20Rd_pick.f k s0_0 bt295.2 2).bind fun bt299 => (some (wrap64 (1 + bt284.1), bt286.1, wrap64 (65536 - (wrap64 (bt299.1 * 70000))), bt290.1, bt299.2)))))) else (some (wrap64 (1 + bt284.1), bt286.1, bt288.1, bt290.1, bt293.2)))))))
theorem spec_l20Query.mono : ∀ a0 a1 a2 k, LeO (spec_l20Query.f k a0 a1 a2) (spec_l20Query.f (k + 1) a0 a1 a2) := by
 intro a0 a1 a2 k
 unfold spec_l20Query.f
 repeat' first | (with_reducible first | apply spec_l20Rd_odd.mono | apply spec_l20Rd_pick.mono | exact LeO.refl _ | exact LeO.none _ | refine LeO.ite ?_ ?_ | refine LeO.bind ?_ fun _ => ?_) | apply spec_l20Rd_odd.mono | apply spec_l20Rd_pick.mono | exact LeO.none _ | refine LeO.ite ?_ ?_ | refine LeO.bind ?_ fun _ => ?_
set_option maxHeartbeats 8000000 in
set_option maxRecDepth 100000 in
theorem spec_l20Query.calls (k : Nat) (g : Nat) (s0_0 : List Int) (s0_1 : Int) (a1 : Int) (r1 : Int) (r2 : Int) (r3 : Int) (r4 : Int) (r5 : Int) (w0 w : World) (hI : IsS104 w0 w g s0_0 s0_1) (hB : Below w0.heap.size w0 w) (h : spec_l20Query.f k s0_0 s0_1 a1 = some (r1, r2, r3, r4, r5)) :
  Calls Try.prog 59 #[.pointer (some ⟨g, 0, none⟩), .int .i64 a1] w fun e w' => e = .returned (.agg #[.int .i64 r1, .int .i64 r2, .int .i64 r3, .int .i64 r4]) ∧ IsS104 w0 w' g s0_0 r5 ∧ Below w0.heap.size w0 w' ∧ KeepBut w w' g none := by
 have hu37 := Try.underlying37; have HI0 := Aside0.mk hI
 have HK := Aside0.mk (KeepBut.refl w g none)
 have HL := Aside0.mk hB.size; clear hI; have HW0 := Aside0.mk hB.size; have HB := Aside0.mk hB; clear hB
 have H : ((spec_l20Rd_pick.f k s0_0 s0_1 2).bind fun bt284 => ((spec_l20Rd_pick.f k s0_0 bt284.2 4).bind fun bt286 => ((spec_l20Rd_pick.f k s0_0 bt286.2 6).bind fun bt288 => ((spec_l20Rd_pick.f k s0_0 bt288.2 6).bind fun bt290 => ((spec_l20Rd_odd.f k s0_0 bt290.2 a1).bind fun bt293 => (if bt293.1 = true then ((spec_l20Rd_pick.f k s0_0 bt293.2 3).bind fun bt295 => (if bt295.1 = 0 then ((spec_l20Rd_pick.f k s0_0 bt295.2 5).bind fun bt297 => (some (bt297.1, bt286.1, bt288.1, bt290.1, bt297.2))) else (if bt295.1 = 1 then (some (wrap64 (1 + bt284.1), 255, bt288.1, bt290.1, bt295.2)) else ((spec_l20Rd_pick.f k s0_0 bt295.2 2).bind fun bt299 => (some (wrap64 (1 + bt284.1), bt286.1, wrap64 (65536 - (wrap64 (bt299.1 * 70000))), bt290.1, bt299.2)))))) else (some (wrap64 (1 + bt284.1), bt286.1, bt288.1, bt290.1, bt293.2)))))))) = some (r1, r2, r3, r4, r5) := h
 clear h
 replace H := Option.bind_eq_some_iff.mp H
 obtain ⟨⟨t284, t285⟩, A30, H⟩ := H
 (try dsimp only at H)
 have A3 := Aside0.mk A30; clear A30
 replace H := Option.bind_eq_some_iff.mp H
 obtain ⟨⟨t286, t287⟩, A40, H⟩ := H
 (try dsimp only at H)
 have A4 := Aside0.mk A40; clear A40
 replace H := Option.bind_eq_some_iff.mp H
 obtain ⟨⟨t288, t289⟩, A50, H⟩ := H
 (try dsimp only at H)
 have A5 := Aside0.mk A50; clear A50
 replace H := Option.bind_eq_some_iff.mp H
 obtain ⟨⟨t290, t291⟩, A60, H⟩ := H
 (try dsimp only at H)
 have A6 := Aside0.mk A60; clear A60
 replace H := Option.bind_eq_some_iff.mp H
 obtain ⟨⟨t293, t294⟩, A70, H⟩ := H
 (try dsimp only at H)
 have A7 := Aside0.mk A70; clear A70
 by_cases c8 : t293 = true
 ·subst c8
  rw [if_pos rfl] at H
  replace H := Option.bind_eq_some_iff.mp H
  obtain ⟨⟨t295, t296⟩, A90, H⟩ := H
  (try dsimp only at H)
  have A9 := Aside0.mk A90; clear A90
  by_cases c10 : t295 = 0
  ·rw [if_pos c10] at H
   have c10b0 : (t295 == 0) = true := beq_iff_eq.mpr c10
   have c10b1 : (t295 != 0) = false := bne_eq_false_iff_eq.mpr c10
   clear c10
   replace H := Option.bind_eq_some_iff.mp H
   obtain ⟨⟨t297, t298⟩, A110, H⟩ := H
   (try dsimp only at H)
   have A11 := Aside0.mk A110; clear A110
   simp only [Option.some.injEq, Prod.mk.injEq] at H
   obtain ⟨rfl, rfl, rfl, rfl, rfl⟩ := H
   go_enter Try.func59, Try.ntmps59
   go_wp2_with (first | ((with_reducible refine gate_dst (N := 4) rfl ?_); refine box_ (N := 4) (cs := #[.int .i64 0, .int .i64 0, .int .i64 0, .int .i64 0]) (t := 37) (fun gb283 hg w12 hbox hb => ?_); replace HB := (bs104_ HB hb); have BK283 := Aside0.mk (hbox); have GW283 := gk_ hg HK; have GE283 := Aside0.mk ((Nat.le_trans HW0.out (by rw [hg]; exact (keep_size (w := w) (g := g) (row := none) (hkA_ HK.out)) : w.heap.size ≤ gb283) : w0.heap.size ≤ gb283)); replace HK := (kw_ HK hb); have NB0_283 := nl104_ hg HI0; have NB283_0 := ng104_ hg HI0; replace HI0 := (ib104_ HI0 hb); clear hb hbox hg) | ((with_reducible refine gate_callee (f := 58) rfl ?_); refine goesL_ (some 7) rfl rfl Try.func58 (by kernel_rfl) rfl #[.pointer (some ⟨g, 0, none⟩), .int .i64 2] rfl ar_ ?_; (with_reducible refine (spec_l20Rd_pick.calls k g s0_0 s0_1 2 t284 t285 w0 _ ?side1 ?side2 A3.out).mono ?_); (case side1 => exact is104_ HI0.out); (case side2 => exact hb104_ HB.out); rintro e w13 ⟨rfl, hi, hb, hk⟩; refine ⟨_, rfl, ?_⟩; replace BK283 := (bkA_ BK283 hk NB283_0); replace HK := (kk_ HK hk); replace HB := Aside0.mk (hb); replace HI0 := Aside0.mk (hi); (try clear hb); (try clear hb2); (try clear hk); (try clear hi)) | ((with_reducible refine gate_callee (f := 58) rfl ?_); refine goesL_ (some 10) rfl rfl Try.func58 (by kernel_rfl) rfl #[.pointer (some ⟨g, 0, none⟩), .int .i64 4] rfl ar_ ?_; (with_reducible refine (spec_l20Rd_pick.calls k g s0_0 t285 4 t286 t287 w0 _ ?side1 ?side2 A4.out).mono ?_); (case side1 => exact is104_ HI0.out); (case side2 => exact hb104_ HB.out); rintro e w14 ⟨rfl, hi, hb, hk⟩; refine ⟨_, rfl, ?_⟩; replace BK283 := (bkA_ BK283 hk NB283_0); replace HK := (kk_ HK hk); replace HB := Aside0.mk (hb); replace HI0 := Aside0.mk (hi); (try clear hb); (try clear hb2); (try clear hk); (try clear hi)) | ((with_reducible refine gate_callee (f := 58) rfl ?_); refine goesL_ (some 12) rfl rfl Try.func58 (by kernel_rfl) rfl #[.pointer (some ⟨g, 0, none⟩), .int .i64 6] rfl ar_ ?_; (with_reducible refine (spec_l20Rd_pick.calls k g s0_0 t287 6 t288 t289 w0 _ ?side1 ?side2 A5.out).mono ?_); (case side1 => exact is104_ HI0.out); (case side2 => exact hb104_ HB.out); rintro e w15 ⟨rfl, hi, hb, hk⟩; refine ⟨_, rfl, ?_⟩; replace BK283 := (bkA_ BK283 hk NB283_0); replace HK := (kk_ HK hk); replace HB := Aside0.mk (hb); replace HI0 := Aside0.mk (hi); (try clear hb); (try clear hb2); (try clear hk); (try clear hi)) | ((with_reducible refine gate_callee (f := 58) rfl ?_); refine goesL_ (some 14) rfl rfl Try.func58 (by kernel_rfl) rfl #[.pointer (some ⟨g, 0, none⟩), .int .i64 6] rfl ar_ ?_; (with_reducible refine (spec_l20Rd_pick.calls k g s0_0 t289 6 t290 t291 w0 _ ?side1 ?side2 A6.out).mono ?_); (case side1 => exact is104_ HI0.out); (case side2 => exact hb104_ HB.out); rintro e w16 ⟨rfl, hi, hb, hk⟩; refine ⟨_, rfl, ?_⟩; replace BK283 := (bkA_ BK283 hk NB283_0); replace HK := (kk_ HK hk); replace HB := Aside0.mk (hb); replace HI0 := Aside0.mk (hi); (try clear hb); (try clear hb2); (try clear hk); (try clear hi)) | ((with_reducible refine gate_dst (N := 5) rfl ?_); refine box_ (N := 5) (cs := #[.int .i64 0, .int .i64 0, .int .i64 0, .int .i64 0]) (t := 37) (fun gb292 hg w17 hbox hb => ?_); replace HB := (bs104_ HB hb); have BK292 := Aside0.mk (hbox); have GW292 := gk_ hg HK; have GE292 := Aside0.mk ((Nat.le_trans HW0.out (by rw [hg]; exact (keep_size (w := w) (g := g) (row := none) (hkA_ HK.out)) : w.heap.size ≤ gb292) : w0.heap.size ≤ gb292)); replace HK := (kw_ HK hb); have NB283_292 := nl_ hg BK283; have NB292_283 := ng_ hg BK283; replace BK283 := (bbA_ BK283 hb); have NB0_292 := nl104_ hg HI0; have NB292_0 := ng104_ hg HI0; replace HI0 := (ib104_ HI0 hb); clear hb hbox hg; have hnb18 := NB292_283.out; have hnc18 := NB283_292.out; have hnb19 := NB292_0.out; have hnc19 := NB0_292.out; have Z20 := zz4 BK292) | ((with_reducible refine gate_callee (f := 78) rfl ?_); refine goesL_ (some 18) rfl rfl Try.func78 (by kernel_rfl) rfl #[.pointer (some ⟨g, 0, none⟩), .int .i64 a1] rfl ar_ ?_; (with_reducible refine (spec_l20Rd_odd.calls k g s0_0 t291 a1 true t294 w0 _ ?side1 ?side2 A7.out).mono ?_); (case side1 => exact is104_ HI0.out); (case side2 => exact hb104_ HB.out); rintro e w21 ⟨rfl, hi, hb, hk⟩; refine ⟨_, rfl, ?_⟩; replace BK283 := Aside0.mk (KeepBut.blk hk (g' := gb283) (o := .cells #[.int .i64 0, .int .i64 0, .int .i64 0, .int .i64 0] 37 (0, 0)) (by exact kf_ BK283.out) NB283_0.out (by simp)); replace BK292 := Aside0.mk (KeepBut.blk hk (g' := gb292) (o := .cells #[.int .i64 (wrap64 (1 + t284)), .int .i64 t286, .int .i64 t288, .int .i64 t290] 37 (0, 0)) (by refine kb_ ?_; refine pz4 (cs := #[.int .i64 0, .int .i64 0, .int .i64 0, .int .i64 0]) ?_; refine kb_ ?_; exact BK292.out) NB292_0.out (by simp)); replace HK := (kk_ HK hk); replace HB := Aside0.mk (hb); replace HI0 := Aside0.mk (hi); (try clear hb); (try clear hb2); (try clear hk); (try clear hi)) | ((with_reducible refine gate_callee (f := 58) rfl ?_); refine goesL_ (some 20) rfl rfl Try.func58 (by kernel_rfl) rfl #[.pointer (some ⟨g, 0, none⟩), .int .i64 3] rfl ar_ ?_; (with_reducible refine (spec_l20Rd_pick.calls k g s0_0 t294 3 t295 t296 w0 _ ?side1 ?side2 A9.out).mono ?_); (case side1 => exact is104_ HI0.out); (case side2 => exact hb104_ HB.out); rintro e w22 ⟨rfl, hi, hb, hk⟩; refine ⟨_, rfl, ?_⟩; replace BK283 := (bkA_ BK283 hk NB283_0); replace BK292 := (bkA_ BK292 hk NB292_0); replace HK := (kk_ HK hk); replace HB := Aside0.mk (hb); replace HI0 := Aside0.mk (hi); (try clear hb); (try clear hb2); (try clear hk); (try clear hi)) | ((with_reducible refine gate_callee (f := 58) rfl ?_); refine goesL_ (some 29) rfl rfl Try.func58 (by kernel_rfl) rfl #[.pointer (some ⟨g, 0, none⟩), .int .i64 5] rfl ar_ ?_; (with_reducible refine (spec_l20Rd_pick.calls k g s0_0 t296 5 t297 t298 w0 _ ?side1 ?side2 A11.out).mono ?_); (case side1 => exact is104_ HI0.out); (case side2 => exact hb104_ HB.out); rintro e w23 ⟨rfl, hi, hb, hk⟩; refine ⟨_, rfl, ?_⟩; replace BK283 := (bkA_ BK283 hk NB283_0); replace BK292 := (bkA_ BK292 hk NB292_0); replace HK := (kk_ HK hk); replace HB := Aside0.mk (hb); replace HI0 := Aside0.mk (hi); (try clear hb); (try clear hb2); (try clear hk); (try clear hi); have Z24 := zz4 BK292; have hnb25 := NB283_0.out; have hnc25 := NB0_283.out; have Z26 := zz4 BK283))
   refine bodyPost_ret (results_cell_row rfl _ _ gb283 37 #[.int .i64 t297, .int .i64 t286, .int .i64 t288, .int .i64 t290] (0, 0) _ rfl (by refine kb_ ?_; refine pz4 (cs := #[.int .i64 0, .int .i64 0, .int .i64 0, .int .i64 0]) ?_; exact kf_ BK283.out) Try.underlying37 rfl (by kernel_rfl)) rfl ?_
   exact ⟨by first | rfl | (simp [errW_none, errW_some] <;> rfl) | (simp [*, errW_none, errW_some] <;> rfl), is104_ HI0.out, hb104_ HB.out, hkA_ HK.out⟩
  ·rw [if_neg c10] at H
   have c10b0 : (t295 == 0) = false := beq_eq_false_iff_ne.mpr c10
   have c10b1 : (t295 != 0) = true := bne_iff_ne.mpr c10
   by_cases c27 : t295 = 1
   ·rw [if_pos c27] at H
    have c27b0 : (t295 == 1) = true := beq_iff_eq.mpr c27
    have c27b1 : (t295 != 1) = false := bne_eq_false_iff_eq.mpr c27
    clear c27
    simp only [Option.some.injEq, Prod.mk.injEq] at H
    obtain ⟨rfl, rfl, rfl, rfl, rfl⟩ := H
    go_enter Try.func59, Try.ntmps59
    go_wp2_with (first | ((with_reducible refine gate_dst (N := 4) rfl ?_); refine box_ (N := 4) (cs := #[.int .i64 0, .int .i64 0, .int .i64 0, .int .i64 0]) (t := 37) (fun gb283 hg w28 hbox hb => ?_); replace HB := (bs104_ HB hb); have BK283 := Aside0.mk (hbox); have GW283 := gk_ hg HK; have GE283 := Aside0.mk ((Nat.le_trans HW0.out (by rw [hg]; exact (keep_size (w := w) (g := g) (row := none) (hkA_ HK.out)) : w.heap.size ≤ gb283) : w0.heap.size ≤ gb283)); replace HK := (kw_ HK hb); have NB0_283 := nl104_ hg HI0; have NB283_0 := ng104_ hg HI0; replace HI0 := (ib104_ HI0 hb); clear hb hbox hg) | ((with_reducible refine gate_callee (f := 58) rfl ?_); refine goesL_ (some 7) rfl rfl Try.func58 (by kernel_rfl) rfl #[.pointer (some ⟨g, 0, none⟩), .int .i64 2] rfl ar_ ?_; (with_reducible refine (spec_l20Rd_pick.calls k g s0_0 s0_1 2 t284 t285 w0 _ ?side1 ?side2 A3.out).mono ?_); (case side1 => exact is104_ HI0.out); (case side2 => exact hb104_ HB.out); rintro e w29 ⟨rfl, hi, hb, hk⟩; refine ⟨_, rfl, ?_⟩; replace BK283 := (bkA_ BK283 hk NB283_0); replace HK := (kk_ HK hk); replace HB := Aside0.mk (hb); replace HI0 := Aside0.mk (hi); (try clear hb); (try clear hb2); (try clear hk); (try clear hi)) | ((with_reducible refine gate_callee (f := 58) rfl ?_); refine goesL_ (some 10) rfl rfl Try.func58 (by kernel_rfl) rfl #[.pointer (some ⟨g, 0, none⟩), .int .i64 4] rfl ar_ ?_; (with_reducible refine (spec_l20Rd_pick.calls k g s0_0 t285 4 t286 t287 w0 _ ?side1 ?side2 A4.out).mono ?_); (case side1 => exact is104_ HI0.out); (case side2 => exact hb104_ HB.out); rintro e w30 ⟨rfl, hi, hb, hk⟩; refine ⟨_, rfl, ?_⟩; replace BK283 := (bkA_ BK283 hk NB283_0); replace HK := (kk_ HK hk); replace HB := Aside0.mk (hb); replace HI0 := Aside0.mk (hi); (try clear hb); (try clear hb2); (try clear hk); (try clear hi)) | ((with_reducible refine gate_callee (f := 58) rfl ?_); refine goesL_ (some 12) rfl rfl Try.func58 (by kernel_rfl) rfl #[.pointer (some ⟨g, 0, none⟩), .int .i64 6] rfl ar_ ?_; (with_reducible refine (spec_l20Rd_pick.calls k g s0_0 t287 6 t288 t289 w0 _ ?side1 ?side2 A5.out).mono ?_); (case side1 => exact is104_ HI0.out); (case side2 => exact hb104_ HB.out); rintro e w31 ⟨rfl, hi, hb, hk⟩; refine ⟨_, rfl, ?_⟩; replace BK283 := (bkA_ BK283 hk NB283_0); replace HK := (kk_ HK hk); replace HB := Aside0.mk (hb); replace HI0 := Aside0.mk (hi); (try clear hb); (try clear hb2); (try clear hk); (try clear hi)) | ((with_reducible refine gate_callee (f := 58) rfl ?_); refine goesL_ (some 14) rfl rfl Try.func58 (by kernel_rfl) rfl #[.pointer (some ⟨g, 0, none⟩), .int .i64 6] rfl ar_ ?_; (with_reducible refine (spec_l20Rd_pick.calls k g s0_0 t289 6 t290 t291 w0 _ ?side1 ?side2 A6.out).mono ?_); (case side1 => exact is104_ HI0.out); (case side2 => exact hb104_ HB.out); rintro e w32 ⟨rfl, hi, hb, hk⟩; refine ⟨_, rfl, ?_⟩; replace BK283 := (bkA_ BK283 hk NB283_0); replace HK := (kk_ HK hk); replace HB := Aside0.mk (hb); replace HI0 := Aside0.mk (hi); (try clear hb); (try clear hb2); (try clear hk); (try clear hi)) | ((with_reducible refine gate_dst (N := 5) rfl ?_); refine box_ (N := 5) (cs := #[.int .i64 0, .int .i64 0, .int .i64 0, .int .i64 0]) (t := 37) (fun gb292 hg w33 hbox hb => ?_); replace HB := (bs104_ HB hb); have BK292 := Aside0.mk (hbox); have GW292 := gk_ hg HK; have GE292 := Aside0.mk ((Nat.le_trans HW0.out (by rw [hg]; exact (keep_size (w := w) (g := g) (row := none) (hkA_ HK.out)) : w.heap.size ≤ gb292) : w0.heap.size ≤ gb292)); replace HK := (kw_ HK hb); have NB283_292 := nl_ hg BK283; have NB292_283 := ng_ hg BK283; replace BK283 := (bbA_ BK283 hb); have NB0_292 := nl104_ hg HI0; have NB292_0 := ng104_ hg HI0; replace HI0 := (ib104_ HI0 hb); clear hb hbox hg; have hnb34 := NB292_283.out; have hnc34 := NB283_292.out; have hnb35 := NB292_0.out; have hnc35 := NB0_292.out; have Z36 := zz4 BK292) | ((with_reducible refine gate_callee (f := 78) rfl ?_); refine goesL_ (some 18) rfl rfl Try.func78 (by kernel_rfl) rfl #[.pointer (some ⟨g, 0, none⟩), .int .i64 a1] rfl ar_ ?_; (with_reducible refine (spec_l20Rd_odd.calls k g s0_0 t291 a1 true t294 w0 _ ?side1 ?side2 A7.out).mono ?_); (case side1 => exact is104_ HI0.out); (case side2 => exact hb104_ HB.out); rintro e w37 ⟨rfl, hi, hb, hk⟩; refine ⟨_, rfl, ?_⟩; replace BK283 := Aside0.mk (KeepBut.blk hk (g' := gb283) (o := .cells #[.int .i64 0, .int .i64 0, .int .i64 0, .int .i64 0] 37 (0, 0)) (by exact kf_ BK283.out) NB283_0.out (by simp)); replace BK292 := Aside0.mk (KeepBut.blk hk (g' := gb292) (o := .cells #[.int .i64 (wrap64 (1 + t284)), .int .i64 t286, .int .i64 t288, .int .i64 t290] 37 (0, 0)) (by refine kb_ ?_; refine pz4 (cs := #[.int .i64 0, .int .i64 0, .int .i64 0, .int .i64 0]) ?_; refine kb_ ?_; exact BK292.out) NB292_0.out (by simp)); replace HK := (kk_ HK hk); replace HB := Aside0.mk (hb); replace HI0 := Aside0.mk (hi); (try clear hb); (try clear hb2); (try clear hk); (try clear hi)) | ((with_reducible refine gate_callee (f := 58) rfl ?_); refine goesL_ (some 20) rfl rfl Try.func58 (by kernel_rfl) rfl #[.pointer (some ⟨g, 0, none⟩), .int .i64 3] rfl ar_ ?_; (with_reducible refine (spec_l20Rd_pick.calls k g s0_0 t294 3 t295 t296 w0 _ ?side1 ?side2 A9.out).mono ?_); (case side1 => exact is104_ HI0.out); (case side2 => exact hb104_ HB.out); rintro e w38 ⟨rfl, hi, hb, hk⟩; refine ⟨_, rfl, ?_⟩; replace BK283 := (bkA_ BK283 hk NB283_0); replace BK292 := (bkA_ BK292 hk NB292_0); replace HK := (kk_ HK hk); replace HB := Aside0.mk (hb); replace HI0 := Aside0.mk (hi); (try clear hb); (try clear hb2); (try clear hk); (try clear hi); have Z39 := zz4 BK292; have hnb40 := NB283_0.out; have hnc40 := NB0_283.out; have Z41 := zz4 BK283))
    refine bodyPost_ret (results_cell_row rfl _ _ gb283 37 #[.int .i64 (wrap64 (1 + t284)), .int .i64 255, .int .i64 t288, .int .i64 t290] (0, 0) _ rfl (by refine kb_ ?_; refine pz4 (cs := #[.int .i64 0, .int .i64 0, .int .i64 0, .int .i64 0]) ?_; exact kf_ BK283.out) Try.underlying37 rfl (by kernel_rfl)) rfl ?_
    exact ⟨by first | rfl | (simp [errW_none, errW_some] <;> rfl) | (simp [*, errW_none, errW_some] <;> rfl), is104_ HI0.out, hb104_ HB.out, hkA_ HK.out⟩
   ·rw [if_neg c27] at H
    have c27b0 : (t295 == 1) = false := beq_eq_false_iff_ne.mpr c27
    have c27b1 : (t295 != 1) = true := bne_iff_ne.mpr c27
    replace H := Option.bind_eq_some_iff.mp H
    obtain ⟨⟨t299, t300⟩, A420, H⟩ := H
    (try dsimp only at H)
    have A42 := Aside0.mk A420; clear A420
    simp only [Option.some.injEq, Prod.mk.injEq] at H
    obtain ⟨rfl, rfl, rfl, rfl, rfl⟩ := H
    go_enter Try.func59, Try.ntmps59
    go_wp2_with (first | ((with_reducible refine gate_dst (N := 4) rfl ?_); refine box_ (N := 4) (cs := #[.int .i64 0, .int .i64 0, .int .i64 0, .int .i64 0]) (t := 37) (fun gb283 hg w43 hbox hb => ?_); replace HB := (bs104_ HB hb); have BK283 := Aside0.mk (hbox); have GW283 := gk_ hg HK; have GE283 := Aside0.mk ((Nat.le_trans HW0.out (by rw [hg]; exact (keep_size (w := w) (g := g) (row := none) (hkA_ HK.out)) : w.heap.size ≤ gb283) : w0.heap.size ≤ gb283)); replace HK := (kw_ HK hb); have NB0_283 := nl104_ hg HI0; have NB283_0 := ng104_ hg HI0; replace HI0 := (ib104_ HI0 hb); clear hb hbox hg) | ((with_reducible refine gate_callee (f := 58) rfl ?_); refine goesL_ (some 7) rfl rfl Try.func58 (by kernel_rfl) rfl #[.pointer (some ⟨g, 0, none⟩), .int .i64 2] rfl ar_ ?_; (with_reducible refine (spec_l20Rd_pick.calls k g s0_0 s0_1 2 t284 t285 w0 _ ?side1 ?side2 A3.out).mono ?_); (case side1 => exact is104_ HI0.out); (case side2 => exact hb104_ HB.out); rintro e w44 ⟨rfl, hi, hb, hk⟩; refine ⟨_, rfl, ?_⟩; replace BK283 := (bkA_ BK283 hk NB283_0); replace HK := (kk_ HK hk); replace HB := Aside0.mk (hb); replace HI0 := Aside0.mk (hi); (try clear hb); (try clear hb2); (try clear hk); (try clear hi)) | ((with_reducible refine gate_callee (f := 58) rfl ?_); refine goesL_ (some 10) rfl rfl Try.func58 (by kernel_rfl) rfl #[.pointer (some ⟨g, 0, none⟩), .int .i64 4] rfl ar_ ?_; (with_reducible refine (spec_l20Rd_pick.calls k g s0_0 t285 4 t286 t287 w0 _ ?side1 ?side2 A4.out).mono ?_); (case side1 => exact is104_ HI0.out); (case side2 => exact hb104_ HB.out); rintro e w45 ⟨rfl, hi, hb, hk⟩; refine ⟨_, rfl, ?_⟩; replace BK283 := (bkA_ BK283 hk NB283_0); replace HK := (kk_ HK hk); replace HB := Aside0.mk (hb); replace HI0 := Aside0.mk (hi); (try clear hb); (try clear hb2); (try clear hk); (try clear hi)) | ((with_reducible refine gate_callee (f := 58) rfl ?_); refine goesL_ (some 12) rfl rfl Try.func58 (by kernel_rfl) rfl #[.pointer (some ⟨g, 0, none⟩), .int .i64 6] rfl ar_ ?_; (with_reducible refine (spec_l20Rd_pick.calls k g s0_0 t287 6 t288 t289 w0 _ ?side1 ?side2 A5.out).mono ?_); (case side1 => exact is104_ HI0.out); (case side2 => exact hb104_ HB.out); rintro e w46 ⟨rfl, hi, hb, hk⟩; refine ⟨_, rfl, ?_⟩; replace BK283 := (bkA_ BK283 hk NB283_0); replace HK := (kk_ HK hk); replace HB := Aside0.mk (hb); replace HI0 := Aside0.mk (hi); (try clear hb); (try clear hb2); (try clear hk); (try clear hi)) | ((with_reducible refine gate_callee (f := 58) rfl ?_); refine goesL_ (some 14) rfl rfl Try.func58 (by kernel_rfl) rfl #[.pointer (some ⟨g, 0, none⟩), .int .i64 6] rfl ar_ ?_; (with_reducible refine (spec_l20Rd_pick.calls k g s0_0 t289 6 t290 t291 w0 _ ?side1 ?side2 A6.out).mono ?_); (case side1 => exact is104_ HI0.out); (case side2 => exact hb104_ HB.out); rintro e w47 ⟨rfl, hi, hb, hk⟩; refine ⟨_, rfl, ?_⟩; replace BK283 := (bkA_ BK283 hk NB283_0); replace HK := (kk_ HK hk); replace HB := Aside0.mk (hb); replace HI0 := Aside0.mk (hi); (try clear hb); (try clear hb2); (try clear hk); (try clear hi)) | ((with_reducible refine gate_dst (N := 5) rfl ?_); refine box_ (N := 5) (cs := #[.int .i64 0, .int .i64 0, .int .i64 0, .int .i64 0]) (t := 37) (fun gb292 hg w48 hbox hb => ?_); replace HB := (bs104_ HB hb); have BK292 := Aside0.mk (hbox); have GW292 := gk_ hg HK; have GE292 := Aside0.mk ((Nat.le_trans HW0.out (by rw [hg]; exact (keep_size (w := w) (g := g) (row := none) (hkA_ HK.out)) : w.heap.size ≤ gb292) : w0.heap.size ≤ gb292)); replace HK := (kw_ HK hb); have NB283_292 := nl_ hg BK283; have NB292_283 := ng_ hg BK283; replace BK283 := (bbA_ BK283 hb); have NB0_292 := nl104_ hg HI0; have NB292_0 := ng104_ hg HI0; replace HI0 := (ib104_ HI0 hb); clear hb hbox hg; have hnb49 := NB292_283.out; have hnc49 := NB283_292.out; have hnb50 := NB292_0.out; have hnc50 := NB0_292.out; have Z51 := zz4 BK292) | ((with_reducible refine gate_callee (f := 78) rfl ?_); refine goesL_ (some 18) rfl rfl Try.func78 (by kernel_rfl) rfl #[.pointer (some ⟨g, 0, none⟩), .int .i64 a1] rfl ar_ ?_; (with_reducible refine (spec_l20Rd_odd.calls k g s0_0 t291 a1 true t294 w0 _ ?side1 ?side2 A7.out).mono ?_); (case side1 => exact is104_ HI0.out); (case side2 => exact hb104_ HB.out); rintro e w52 ⟨rfl, hi, hb, hk⟩; refine ⟨_, rfl, ?_⟩; replace BK283 := Aside0.mk (KeepBut.blk hk (g' := gb283) (o := .cells #[.int .i64 0, .int .i64 0, .int .i64 0, .int .i64 0] 37 (0, 0)) (by exact kf_ BK283.out) NB283_0.out (by simp)); replace BK292 := Aside0.mk (KeepBut.blk hk (g' := gb292) (o := .cells #[.int .i64 (wrap64 (1 + t284)), .int .i64 t286, .int .i64 t288, .int .i64 t290] 37 (0, 0)) (by refine kb_ ?_; refine pz4 (cs := #[.int .i64 0, .int .i64 0, .int .i64 0, .int .i64 0]) ?_; refine kb_ ?_; exact BK292.out) NB292_0.out (by simp)); replace HK := (kk_ HK hk); replace HB := Aside0.mk (hb); replace HI0 := Aside0.mk (hi); (try clear hb); (try clear hb2); (try clear hk); (try clear hi)) | ((with_reducible refine gate_callee (f := 58) rfl ?_); refine goesL_ (some 20) rfl rfl Try.func58 (by kernel_rfl) rfl #[.pointer (some ⟨g, 0, none⟩), .int .i64 3] rfl ar_ ?_; (with_reducible refine (spec_l20Rd_pick.calls k g s0_0 t294 3 t295 t296 w0 _ ?side1 ?side2 A9.out).mono ?_); (case side1 => exact is104_ HI0.out); (case side2 => exact hb104_ HB.out); rintro e w53 ⟨rfl, hi, hb, hk⟩; refine ⟨_, rfl, ?_⟩; replace BK283 := (bkA_ BK283 hk NB283_0); replace BK292 := (bkA_ BK292 hk NB292_0); replace HK := (kk_ HK hk); replace HB := Aside0.mk (hb); replace HI0 := Aside0.mk (hi); (try clear hb); (try clear hb2); (try clear hk); (try clear hi)) | ((with_reducible refine gate_callee (f := 58) rfl ?_); refine goesL_ (some 22) rfl rfl Try.func58 (by kernel_rfl) rfl #[.pointer (some ⟨g, 0, none⟩), .int .i64 2] rfl ar_ ?_; (with_reducible refine (spec_l20Rd_pick.calls k g s0_0 t296 2 t299 t300 w0 _ ?side1 ?side2 A42.out).mono ?_); (case side1 => exact is104_ HI0.out); (case side2 => exact hb104_ HB.out); rintro e w54 ⟨rfl, hi, hb, hk⟩; refine ⟨_, rfl, ?_⟩; replace BK283 := (bkA_ BK283 hk NB283_0); replace BK292 := (bkA_ BK292 hk NB292_0); replace HK := (kk_ HK hk); replace HB := Aside0.mk (hb); replace HI0 := Aside0.mk (hi); (try clear hb); (try clear hb2); (try clear hk); (try clear hi); have Z55 := zz4 BK292; have hnb56 := NB283_0.out; have hnc56 := NB0_283.out; have Z57 := zz4 BK283))
    refine bodyPost_ret (results_cell_row rfl _ _ gb283 37 #[.int .i64 (wrap64 (1 + t284)), .int .i64 t286, .int .i64 (wrap64 (65536 - (wrap64 (t299 * 70000)))), .int .i64 t290] (0, 0) _ rfl (by refine kb_ ?_; refine pz4 (cs := #[.int .i64 0, .int .i64 0, .int .i64 0, .int .i64 0]) ?_; exact kf_ BK283.out) Try.underlying37 rfl (by kernel_rfl)) rfl ?_
    exact ⟨by first | rfl | (simp [errW_none, errW_some] <;> rfl) | (simp [*, errW_none, errW_some] <;> rfl), is104_ HI0.out, hb104_ HB.out, hkA_ HK.out⟩
 ·replace c8 := Bool.eq_false_iff.mpr c8
  subst c8
  rw [if_neg (show ¬ (false = true) by decide)] at H
  simp only [Option.some.injEq, Prod.mk.injEq] at H
  obtain ⟨rfl, rfl, rfl, rfl, rfl⟩ := H
  go_enter Try.func59, Try.ntmps59
  go_wp2_with (first | ((with_reducible refine gate_dst (N := 4) rfl ?_); refine box_ (N := 4) (cs := #[.int .i64 0, .int .i64 0, .int .i64 0, .int .i64 0]) (t := 37) (fun gb283 hg w58 hbox hb => ?_); replace HB := (bs104_ HB hb); have BK283 := Aside0.mk (hbox); have GW283 := gk_ hg HK; have GE283 := Aside0.mk ((Nat.le_trans HW0.out (by rw [hg]; exact (keep_size (w := w) (g := g) (row := none) (hkA_ HK.out)) : w.heap.size ≤ gb283) : w0.heap.size ≤ gb283)); replace HK := (kw_ HK hb); have NB0_283 := nl104_ hg HI0; have NB283_0 := ng104_ hg HI0; replace HI0 := (ib104_ HI0 hb); clear hb hbox hg) | ((with_reducible refine gate_callee (f := 58) rfl ?_); refine goesL_ (some 7) rfl rfl Try.func58 (by kernel_rfl) rfl #[.pointer (some ⟨g, 0, none⟩), .int .i64 2] rfl ar_ ?_; (with_reducible refine (spec_l20Rd_pick.calls k g s0_0 s0_1 2 t284 t285 w0 _ ?side1 ?side2 A3.out).mono ?_); (case side1 => exact is104_ HI0.out); (case side2 => exact hb104_ HB.out); rintro e w59 ⟨rfl, hi, hb, hk⟩; refine ⟨_, rfl, ?_⟩; replace BK283 := (bkA_ BK283 hk NB283_0); replace HK := (kk_ HK hk); replace HB := Aside0.mk (hb); replace HI0 := Aside0.mk (hi); (try clear hb); (try clear hb2); (try clear hk); (try clear hi)) | ((with_reducible refine gate_callee (f := 58) rfl ?_); refine goesL_ (some 10) rfl rfl Try.func58 (by kernel_rfl) rfl #[.pointer (some ⟨g, 0, none⟩), .int .i64 4] rfl ar_ ?_; (with_reducible refine (spec_l20Rd_pick.calls k g s0_0 t285 4 t286 t287 w0 _ ?side1 ?side2 A4.out).mono ?_); (case side1 => exact is104_ HI0.out); (case side2 => exact hb104_ HB.out); rintro e w60 ⟨rfl, hi, hb, hk⟩; refine ⟨_, rfl, ?_⟩; replace BK283 := (bkA_ BK283 hk NB283_0); replace HK := (kk_ HK hk); replace HB := Aside0.mk (hb); replace HI0 := Aside0.mk (hi); (try clear hb); (try clear hb2); (try clear hk); (try clear hi)) | ((with_reducible refine gate_callee (f := 58) rfl ?_); refine goesL_ (some 12) rfl rfl Try.func58 (by kernel_rfl) rfl #[.pointer (some ⟨g, 0, none⟩), .int .i64 6] rfl ar_ ?_; (with_reducible refine (spec_l20Rd_pick.calls k g s0_0 t287 6 t288 t289 w0 _ ?side1 ?side2 A5.out).mono ?_); (case side1 => exact is104_ HI0.out); (case side2 => exact hb104_ HB.out); rintro e w61 ⟨rfl, hi, hb, hk⟩; refine ⟨_, rfl, ?_⟩; replace BK283 := (bkA_ BK283 hk NB283_0); replace HK := (kk_ HK hk); replace HB := Aside0.mk (hb); replace HI0 := Aside0.mk (hi); (try clear hb); (try clear hb2); (try clear hk); (try clear hi)) | ((with_reducible refine gate_callee (f := 58) rfl ?_); refine goesL_ (some 14) rfl rfl Try.func58 (by kernel_rfl) rfl #[.pointer (some ⟨g, 0, none⟩), .int .i64 6] rfl ar_ ?_; (with_reducible refine (spec_l20Rd_pick.calls k g s0_0 t289 6 t290 t291 w0 _ ?side1 ?side2 A6.out).mono ?_); (case side1 => exact is104_ HI0.out); (case side2 => exact hb104_ HB.out); rintro e w62 ⟨rfl, hi, hb, hk⟩; refine ⟨_, rfl, ?_⟩; replace BK283 := (bkA_ BK283 hk NB283_0); replace HK := (kk_ HK hk); replace HB := Aside0.mk (hb); replace HI0 := Aside0.mk (hi); (try clear hb); (try clear hb2); (try clear hk); (try clear hi)) | ((with_reducible refine gate_dst (N := 5) rfl ?_); refine box_ (N := 5) (cs := #[.int .i64 0, .int .i64 0, .int .i64 0, .int .i64 0]) (t := 37) (fun gb292 hg w63 hbox hb => ?_); replace HB := (bs104_ HB hb); have BK292 := Aside0.mk (hbox); have GW292 := gk_ hg HK; have GE292 := Aside0.mk ((Nat.le_trans HW0.out (by rw [hg]; exact (keep_size (w := w) (g := g) (row := none) (hkA_ HK.out)) : w.heap.size ≤ gb292) : w0.heap.size ≤ gb292)); replace HK := (kw_ HK hb); have NB283_292 := nl_ hg BK283; have NB292_283 := ng_ hg BK283; replace BK283 := (bbA_ BK283 hb); have NB0_292 := nl104_ hg HI0; have NB292_0 := ng104_ hg HI0; replace HI0 := (ib104_ HI0 hb); clear hb hbox hg; have hnb64 := NB292_283.out; have hnc64 := NB283_292.out; have hnb65 := NB292_0.out; have hnc65 := NB0_292.out; have Z66 := zz4 BK292) | ((with_reducible refine gate_callee (f := 78) rfl ?_); refine goesL_ (some 18) rfl rfl Try.func78 (by kernel_rfl) rfl #[.pointer (some ⟨g, 0, none⟩), .int .i64 a1] rfl ar_ ?_; (with_reducible refine (spec_l20Rd_odd.calls k g s0_0 t291 a1 false t294 w0 _ ?side1 ?side2 A7.out).mono ?_); (case side1 => exact is104_ HI0.out); (case side2 => exact hb104_ HB.out); rintro e w67 ⟨rfl, hi, hb, hk⟩; refine ⟨_, rfl, ?_⟩; replace BK283 := Aside0.mk (KeepBut.blk hk (g' := gb283) (o := .cells #[.int .i64 0, .int .i64 0, .int .i64 0, .int .i64 0] 37 (0, 0)) (by exact kf_ BK283.out) NB283_0.out (by simp)); replace BK292 := Aside0.mk (KeepBut.blk hk (g' := gb292) (o := .cells #[.int .i64 (wrap64 (1 + t284)), .int .i64 t286, .int .i64 t288, .int .i64 t290] 37 (0, 0)) (by refine kb_ ?_; refine pz4 (cs := #[.int .i64 0, .int .i64 0, .int .i64 0, .int .i64 0]) ?_; refine kb_ ?_; exact BK292.out) NB292_0.out (by simp)); replace HK := (kk_ HK hk); replace HB := Aside0.mk (hb); replace HI0 := Aside0.mk (hi); (try clear hb); (try clear hb2); (try clear hk); (try clear hi); have Z68 := zz4 BK292; have hnb69 := NB283_0.out; have hnc69 := NB0_283.out; have Z70 := zz4 BK283))
  refine bodyPost_ret (results_cell_row rfl _ _ gb283 37 #[.int .i64 (wrap64 (1 + t284)), .int .i64 t286, .int .i64 t288, .int .i64 t290] (0, 0) _ rfl (by refine kb_ ?_; refine pz4 (cs := #[.int .i64 0, .int .i64 0, .int .i64 0, .int .i64 0]) ?_; refine kb_ ?_; exact BK283.out) Try.underlying37 rfl (by kernel_rfl)) rfl ?_
  exact ⟨by first | rfl | (simp [errW_none, errW_some] <;> rfl) | (simp [*, errW_none, errW_some] <;> rfl), is104_ HI0.out, hb104_ HB.out, hkA_ HK.out⟩
def spec_l20Rd_bytes.l0 : Nat → Int → List Int → List Int → Int → Option (List Int × Int)
 | 0, _, _, _, _ => none
 | k + 1, x1, x5, x1000, x1001 => if x1 > 0 then ((spec_l20Rd_pick.f k x1000 x1001 3).bind fun bt304 => (if bt304.1 = 0 then ((spec_l20Rd_pick.f k x1000 bt304.2 256).bind fun bt306 => (if x5.length < 140737488355328 then (spec_l20Rd_bytes.l0 k (wrap64 (x1 - 1)) (x5 ++ [(bt306.1) % 256]) x1000 bt306.2) else (none))) else ((spec_l20Rd_pick.f k x1000 bt304.2 3).bind fun bt311 => (if x5.length < 140737488355328 then (spec_l20Rd_bytes.l0 k (wrap64 (x1 - 1)) (x5 ++ [(wrap64 (bt311.1 + 97)) % 256]) x1000 bt311.2) else (none))))) else (some (x5, x1001))
def spec_l20Rd_bytes.f (k : Nat) (s0_0 : List Int) (s0_1 : Int) (a1 : Int) : Option (List Int × Int) := spec_l20Rd_bytes.l0 k a1 (([] : List Int)) s0_0 s0_1
theorem spec_l20Rd_bytes.mono_l : ∀ k, (∀ y0 y1 y2 y3, LeO (spec_l20Rd_bytes.l0 k y0 y1 y2 y3) (spec_l20Rd_bytes.l0 (k + 1) y0 y1 y2 y3))
 | 0 => fun _ _ _ _ r h => by simp [spec_l20Rd_bytes.l0] at h
 | k + 1 => by
  have ih0 := spec_l20Rd_bytes.mono_l k
  ·intro y0 y1 y2 y3
   unfold spec_l20Rd_bytes.l0
   repeat' first | (with_reducible first | apply ih0 | apply spec_l20Rd_pick.mono | exact LeO.refl _ | exact LeO.none _ | refine LeO.ite ?_ ?_ | refine LeO.bind ?_ fun _ => ?_) | apply ih0 | apply spec_l20Rd_pick.mono | exact LeO.none _ | refine LeO.ite ?_ ?_ | refine LeO.bind ?_ fun _ => ?_
theorem spec_l20Rd_bytes.mono : ∀ a0 a1 a2 k, LeO (spec_l20Rd_bytes.f k a0 a1 a2) (spec_l20Rd_bytes.f (k + 1) a0 a1 a2) := by
 intro a0 a1 a2 k
 have ih0 := spec_l20Rd_bytes.mono_l k
 unfold spec_l20Rd_bytes.f
 repeat' first | (with_reducible first | apply ih0 | apply spec_l20Rd_pick.mono | exact LeO.refl _ | exact LeO.none _ | refine LeO.ite ?_ ?_ | refine LeO.bind ?_ fun _ => ?_) | apply ih0 | apply spec_l20Rd_pick.mono | exact LeO.none _ | refine LeO.ite ?_ ?_ | refine LeO.bind ?_ fun _ => ?_
set_option maxHeartbeats 8000000 in
set_option maxRecDepth 100000 in
theorem spec_l20Rd_bytes.calls (k : Nat) (g : Nat) (s0_0 : List Int) (s0_1 : Int) (a1 : Int) (r1 : List Int) (r2 : Int) (w0 w : World) (hI : IsS104 w0 w g s0_0 s0_1) (hB : Below w0.heap.size w0 w) (h : spec_l20Rd_bytes.f k s0_0 s0_1 a1 = some (r1, r2)) :
  Calls Try.prog 65 #[.pointer (some ⟨g, 0, none⟩), .int .i64 a1] w fun e w' => ∃ v0_ : Value, e = .returned (v0_) ∧ Kd.R (Kd.int .u8) 5 w' w.heap.size (fun _ => True) v0_ r1 ∧ IsS104 w0 w' g s0_0 r2 ∧ Below w0.heap.size w0 w' ∧ KeepBut w w' g none := by
 have HI0 := Aside0.mk hI
 have HK := Aside0.mk (KeepBut.refl w g none)
 have HL := Aside0.mk hB.size; clear hI; have HW0 := Aside0.mk hB.size; have HB := Aside0.mk hB; clear hB
 have H : (spec_l20Rd_bytes.l0 k a1 (([] : List Int)) s0_0 s0_1) = some (r1, r2) := h
 clear h
 obtain ⟨y301, hy301⟩ : ∃ y_ : List Int, y_ = (([] : List Int)) := ⟨_, rfl⟩
 (first | replace H := sb_ hy301 H | rw [← hy301] at H)
 have Ny301 := Aside0.mk hy301; clear hy301
 have H' := Aside0.mk H
 clear H
 go_enter Try.func65, Try.ntmps65
 go_wp2_with (first | ((with_reducible refine gate_dst (N := 6) rfl ?_); refine Kd.R_lit (Kd.int .u8) _ 5 ?hg (N := 6) ?hd (xs := ([] : List Int)) (inner := []) (ok := fun _ => True) (okp := fun _ => True) ?hr ?hp (fun _ hk => hk) trivial (Below.refl _ _) (Nat.le_refl _) (by simp) ?_; (case hd => rfl); (case hg => rfl); (case hr => first | (go_simp; done) | (go_simp; rfl)); (case hp => exact (Reps.none _ _)); intro v302 w3 ho4 hb hg_ hnew_; clear hg_ hnew_; (first | rw [← Ny301.out] at ho4 | (simp only [Int.reduceToNat] at ho4; rw [← Ny301.out] at ho4)); have HO303 := Aside0.mk (Kd.R_lower ho4 (keep_size (w := w) (g := g) (row := none) (hkA_ HK.out))); replace HI0 := (ib104_ HI0 hb); replace HK := (kw_ HK hb); replace HB := (bs104_ HB hb); clear hb ho4))
 go_loopg [1, 5] k (fun kq v1 v5 w' => ∃ (x1_1 : Int) (x5_1 : List Int) (x1001_1 : Int), v1 = .int .i64 x1_1 ∧ Aside0 (spec_l20Rd_bytes.l0 kq x1_1 x5_1 s0_0 x1001_1 = some (r1, r2)) ∧ Aside0 (kq ≤ k) ∧ Aside0 (Kd.R (Kd.int .u8) 5 w' w.heap.size (fun _ => True) v5 x5_1) ∧ Aside0 (IsS104 w0 w' g s0_0 x1001_1) ∧ Aside0 (KeepBut w w' g none) ∧ Aside0 (Below w0.heap.size w0 w'))
 case atStart => exact ⟨(a1), (y301), (s0_1), (by first | rfl | (simp; done) | (simp [*]; done)), H', ⟨Nat.le_refl _⟩, ⟨kR_ HO303.out⟩, ⟨is104_ HI0.out⟩, ⟨hkA_ HK.out⟩, ⟨hb104_ HB.out⟩⟩
 case round =>
  clear H'; (try clear p2)
  obtain ⟨x1_1, x5_1, x1001_1, rfl, HA, HK1, HO_5, HI0, HK, HB⟩ := hrel
  cases gk with
  | zero => exact absurd HA.out (by simp [spec_l20Rd_bytes.l0])
  | succ k1 =>
   have H := HA.out; clear HA
   simp only [spec_l20Rd_bytes.l0] at H
   by_cases c5 : x1_1 > 0
   ·rw [if_pos c5] at H
    have c5b0 : decide (0 < x1_1) = true := decide_eq_true c5
    clear c5
    replace H := Option.bind_eq_some_iff.mp H
    obtain ⟨⟨t304, t305⟩, A60, H⟩ := H
    (try dsimp only at H)
    have A6 := Aside0.mk A60; clear A60
    by_cases c7 : t304 = 0
    ·rw [if_pos c7] at H
     have c7b0 : (t304 == 0) = true := beq_iff_eq.mpr c7
     have c7b1 : (t304 != 0) = false := bne_eq_false_iff_eq.mpr c7
     clear c7
     replace H := Option.bind_eq_some_iff.mp H
     obtain ⟨⟨t306, t307⟩, A80, H⟩ := H
     (try dsimp only at H)
     have A8 := Aside0.mk A80; clear A80
     by_cases c9 : x5_1.length < 140737488355328
     ·rw [if_pos c9] at H
      have LMc9 := Aside0.mk c9; clear c9
      obtain ⟨y308, hy308⟩ : ∃ y_ : List Int, y_ = (x5_1 ++ [(t306) % 256]) := ⟨_, rfl⟩
      (first | replace H := sb_ hy308 H | rw [← hy308] at H)
      have Ny308 := Aside0.mk hy308; clear hy308
      have H' := Aside0.mk H
      clear H
      go_wp2_with (first | ((with_reducible refine gate_callee (f := 58) rfl ?_); refine goesL_ (some 12) rfl rfl Try.func58 (by kernel_rfl) rfl #[.pointer (some ⟨g, 0, none⟩), .int .i64 3] rfl ar_ ?_; (with_reducible refine (spec_l20Rd_pick.calls k1 g s0_0 x1001_1 3 t304 t305 w0 _ ?side1 ?side2 A6.out).mono ?_); (case side1 => exact is104_ HI0.out); (case side2 => exact hb104_ HB.out); rintro e w10 ⟨rfl, hi, hb, hk⟩; refine ⟨_, rfl, ?_⟩; replace HO_5 := (rk104_ HI0 HO_5 hk); replace HK := (kk_ HK hk); replace HB := Aside0.mk (hb); replace HI0 := Aside0.mk (hi); (try clear hb); (try clear hb2); (try clear hk); (try clear hi)) | ((with_reducible refine gate_callee (f := 58) rfl ?_); refine goesL_ (some 16) rfl rfl Try.func58 (by kernel_rfl) rfl #[.pointer (some ⟨g, 0, none⟩), .int .i64 256] rfl ar_ ?_; (with_reducible refine (spec_l20Rd_pick.calls k1 g s0_0 t305 256 t306 t307 w0 _ ?side1 ?side2 A8.out).mono ?_); (case side1 => exact is104_ HI0.out); (case side2 => exact hb104_ HB.out); rintro e w11 ⟨rfl, hi, hb, hk⟩; refine ⟨_, rfl, ?_⟩; replace HO_5 := (rk104_ HI0 HO_5 hk); replace HK := (kk_ HK hk); replace HB := Aside0.mk (hb); replace HI0 := Aside0.mk (hi); (try clear hb); (try clear hb2); (try clear hk); (try clear hi)) | ((with_reducible refine gate_builtin (b := .append) (xs := #[.tmp 14, .tmp 18]) rfl ?_); at_builtin; refine Kd.R_append (Kd.int .u8) w.heap.size rfl (.tmp 14) (.tmp 18) 44 5 (.int .u8 0) 1 rfl Try.underlying44 info5 rfl (by decide) (by omega) u5 x5_1 ((t306) % 256) [.int .u8 ((t306) % 256)] (fun _ => True) (fun _ => False) rfl rfl ?aP (fun _ hk => hk.elim) ?aF ?aO (Below.refl _ _) ?aS ?aL ?_; (case aP => exact rfl); (case aF => exact (fun _ _ => trivial)); (case aO => exact (kR_ HO_5.out)); (case aS => exact (keep_size (w := w) (g := g) (row := none) (hkA_ HK.out))); (case aL => have := LMc9.out; omega); intro v309 w12 ho hb hg hat; rw [← Ny308.out] at ho; replace HI0 := Aside0.mk (IsS104.grown (is104_ HI0.out) hg (IsS104.own_ne HI0.out HO_5.out (by decide))); replace HB := Aside0.mk (below_weaken (hb104_ HB.out) HL.out hb); replace HK := Aside0.mk (KeepBut.trans (hkA_ HK.out) (KeepBut.of_grown hg g) (Kd.R_base2 HO_5.out)); have HO310 := Aside0.mk (ho); clear HO_5; clear ho hb hg hat))
      go_roundg k1
      case measure => have := HK1.out; omega
      case rel => exact ⟨(wrap64 (x1_1 - 1)), (y308), (t307), (by first | rfl | (simp; done) | (simp [*]; done)), H', ⟨by have := HK1.out; omega⟩, ⟨kR_ HO310.out⟩, ⟨is104_ HI0.out⟩, ⟨hkA_ HK.out⟩, ⟨hb104_ HB.out⟩⟩
     ·rw [if_neg c9] at H
      exact absurd H (by simp)
    ·rw [if_neg c7] at H
     have c7b0 : (t304 == 0) = false := beq_eq_false_iff_ne.mpr c7
     have c7b1 : (t304 != 0) = true := bne_iff_ne.mpr c7
     replace H := Option.bind_eq_some_iff.mp H
     obtain ⟨⟨t311, t312⟩, A130, H⟩ := H
     (try dsimp only at H)
     have A13 := Aside0.mk A130; clear A130
     by_cases c14 : x5_1.length < 140737488355328
     ·rw [if_pos c14] at H
      have LMc14 := Aside0.mk c14; clear c14
      obtain ⟨y313, hy313⟩ : ∃ y_ : List Int, y_ = (x5_1 ++ [(wrap64 (t311 + 97)) % 256]) := ⟨_, rfl⟩
      (first | replace H := sb_ hy313 H | rw [← hy313] at H)
      have Ny313 := Aside0.mk hy313; clear hy313
      have H' := Aside0.mk H
      clear H
      go_wp2_with (first | ((with_reducible refine gate_callee (f := 58) rfl ?_); refine goesL_ (some 12) rfl rfl Try.func58 (by kernel_rfl) rfl #[.pointer (some ⟨g, 0, none⟩), .int .i64 3] rfl ar_ ?_; (with_reducible refine (spec_l20Rd_pick.calls k1 g s0_0 x1001_1 3 t304 t305 w0 _ ?side1 ?side2 A6.out).mono ?_); (case side1 => exact is104_ HI0.out); (case side2 => exact hb104_ HB.out); rintro e w15 ⟨rfl, hi, hb, hk⟩; refine ⟨_, rfl, ?_⟩; replace HO_5 := (rk104_ HI0 HO_5 hk); replace HK := (kk_ HK hk); replace HB := Aside0.mk (hb); replace HI0 := Aside0.mk (hi); (try clear hb); (try clear hb2); (try clear hk); (try clear hi)) | ((with_reducible refine gate_callee (f := 58) rfl ?_); refine goesL_ (some 22) rfl rfl Try.func58 (by kernel_rfl) rfl #[.pointer (some ⟨g, 0, none⟩), .int .i64 3] rfl ar_ ?_; (with_reducible refine (spec_l20Rd_pick.calls k1 g s0_0 t305 3 t311 t312 w0 _ ?side1 ?side2 A13.out).mono ?_); (case side1 => exact is104_ HI0.out); (case side2 => exact hb104_ HB.out); rintro e w16 ⟨rfl, hi, hb, hk⟩; refine ⟨_, rfl, ?_⟩; replace HO_5 := (rk104_ HI0 HO_5 hk); replace HK := (kk_ HK hk); replace HB := Aside0.mk (hb); replace HI0 := Aside0.mk (hi); (try clear hb); (try clear hb2); (try clear hk); (try clear hi)) | ((with_reducible refine gate_builtin (b := .append) (xs := #[.tmp 20, .tmp 25]) rfl ?_); at_builtin; refine Kd.R_append (Kd.int .u8) w.heap.size rfl (.tmp 20) (.tmp 25) 44 5 (.int .u8 0) 1 rfl Try.underlying44 info5 rfl (by decide) (by omega) u5 x5_1 ((wrap64 (t311 + 97)) % 256) [.int .u8 ((wrap64 (t311 + 97)) % 256)] (fun _ => True) (fun _ => False) rfl rfl ?aP (fun _ hk => hk.elim) ?aF ?aO (Below.refl _ _) ?aS ?aL ?_; (case aP => exact rfl); (case aF => exact (fun _ _ => trivial)); (case aO => exact (kR_ HO_5.out)); (case aS => exact (keep_size (w := w) (g := g) (row := none) (hkA_ HK.out))); (case aL => have := LMc14.out; omega); intro v314 w17 ho hb hg hat; rw [← Ny313.out] at ho; replace HI0 := Aside0.mk (IsS104.grown (is104_ HI0.out) hg (IsS104.own_ne HI0.out HO_5.out (by decide))); replace HB := Aside0.mk (below_weaken (hb104_ HB.out) HL.out hb); replace HK := Aside0.mk (KeepBut.trans (hkA_ HK.out) (KeepBut.of_grown hg g) (Kd.R_base2 HO_5.out)); have HO315 := Aside0.mk (ho); clear HO_5; clear ho hb hg hat))
      go_roundg k1
      case measure => have := HK1.out; omega
      case rel => exact ⟨(wrap64 (x1_1 - 1)), (y313), (t312), (by first | rfl | (simp; done) | (simp [*]; done)), H', ⟨by have := HK1.out; omega⟩, ⟨kR_ HO315.out⟩, ⟨is104_ HI0.out⟩, ⟨hkA_ HK.out⟩, ⟨hb104_ HB.out⟩⟩
     ·rw [if_neg c14] at H
      exact absurd H (by simp)
   ·rw [if_neg c5] at H
    have c5b0 : decide (0 < x1_1) = false := decide_eq_false c5
    clear c5
    simp only [Option.some.injEq, Prod.mk.injEq] at H
    obtain ⟨rfl, rfl⟩ := H
    go_wp2
    go_ret
    exact ⟨_, by first | rfl | (simp [errW_none, errW_some] <;> rfl) | (simp [*, errW_none, errW_some] <;> rfl), kR_ HO_5.out, is104_ HI0.out, hb104_ HB.out, hkA_ HK.out⟩
end Go.Proofs.Ytdoohdbfpnmndaa.PFnNearHear
