/- Printed by wip/xp/xprint.sh out of the translation, for this claim: what each function answers, as a plain function, and that the machine does just that. No condition. -/
import Derived.Test.YtjiodkbbmhhccaaPFnExactEarReadx0
import Derived.Test.YtjiodkbbmhhccaaPFnExactEarReadx3
import Derived.Test.YtjiodkbbmhhccaaPFnExactEarReadx5
import Derived.Test.YtjiodkbbmhhccaaPFnExactEarReadx6
import Derived.Test.YtjiodkbbmhhccaaPFnExactEarReadx7
import Derived.Test.YtjiodkbbmhhccaaPFnExactEarReadx8
namespace Go.Proofs.Ytjiodkbbmhhccaa.PFnExactEarRead
open Go.RowKit Go.Proofs.YtjiodkbbmhhccaaW.PrintWords Go.Proofs.YtjiodkbbmhhccaaW.PrintLast Go.Proofs.YtjiodkbbmhhccaaW.PrintMore
attribute [local go_sem] max2_int min2_int max_two min_two max_three min_three max_four min_four   -- for this text's walks alone
set_option linter.unusedVariables false
set_option linter.unusedSimpArgs false

/-! ### laws_FnExactEarRead: function 5 -/
mutual
def laws_FnExactEarRead.j0 : Nat → Int → List Int → List Int → Bool → Int → Int → List Int → List (S97) → Int → Int → List Int → List (S70) → Int → Int → List Int → List (S70) → Int → Int → List Int → List (S70) → Option (Bool)
  | 0, _, _, _, _, _, _, _, _, _, _, _, _, _, _, _, _, _, _, _, _ => none
  | k + 1, x1, x7, x10, x45, x226000, x226001, x226002, x226003, x247000, x247001, x247002, x247003, x256000, x256001, x256002, x256003, x268000, x268001, x268002, x268003 => if x45 = true then (some false) else ((laws_toEar.f k x226000 x226001 x226002 x226003).bind fun bt270 => ((laws_eqEar.f k x256000 x256001 x256002 x256003 bt270.1 bt270.2.1 bt270.2.2.1 bt270.2.2.2).bind fun t278 => (if t278 = true then ((laws_markEar.f k x256000 x256001 x256002 x256003 1).bind fun bt279 => (if bt279.1 < 0 then (laws_FnExactEarRead.j1 k x1 x7 x10 true x226000 x226001 x226002 x226003 x247000 x247001 x247002 x247003 x268000 x268001 x268002 x268003) else ((laws_eqEar.f k x268000 x268001 x268002 x268003 x247000 x247001 x247002 x247003).bind fun t282 => (if t282 = true then ((laws_eqByteS.f k x10 x7).bind fun t283 => (laws_FnExactEarRead.j1 k x1 x7 x10 (!t283) x226000 x226001 x226002 x226003 x247000 x247001 x247002 x247003 x268000 x268001 x268002 x268003)) else (laws_FnExactEarRead.j1 k x1 x7 x10 true x226000 x226001 x226002 x226003 x247000 x247001 x247002 x247003 x268000 x268001 x268002 x268003))))) else (some false))))
def laws_FnExactEarRead.j1 : Nat → Int → List Int → List Int → Bool → Int → Int → List Int → List (S97) → Int → Int → List Int → List (S70) → Int → Int → List Int → List (S70) → Option (Bool)
  | 0, _, _, _, _, _, _, _, _, _, _, _, _, _, _, _, _ => none
  | k + 1, x1, x7, x10, x67, x226000, x226001, x226002, x226003, x247000, x247001, x247002, x247003, x268000, x268001, x268002, x268003 => if x67 = true then (some false) else ((laws_markEar.f k x268000 x268001 x268002 x268003 1).bind fun bt284 => ((laws_markByteS.f k x10 bt284.1).bind fun bt287 => ((laws_heldEar.f k x268000 x268001 bt284.2.1 bt284.2.2 1).bind fun t289 => (if t289 < 0 then (some false) else ((laws_heldByteS.f k bt287.2 t289).bind fun t290 => (if t290 < 0 then (some false) else (if t290 = bt287.1 then ((laws_toEar.f k x226000 x226001 x226002 x226003).bind fun bt291 => ((impl_EarRead.f k bt291.1 bt291.2.1 bt291.2.2.1 bt291.2.2.2 x1).bind fun bt299 => ((laws_eqEar.f k bt299.1 bt299.2.1 bt299.2.2.1 bt299.2.2.2.1 x247000 x247001 x247002 x247003).bind fun t311 => (if t311 = true then ((laws_eqByteS.f k bt299.2.2.2.2 x7).bind fun t312 => (laws_FnExactEarRead.j2 k bt287.2 bt287.1 (!t312) x268000 x268001 bt284.2.1 bt284.2.2)) else (laws_FnExactEarRead.j2 k bt287.2 bt287.1 true x268000 x268001 bt284.2.1 bt284.2.2))))) else (some false))))))))
def laws_FnExactEarRead.j2 : Nat → List Int → Int → Bool → Int → Int → List Int → List (S70) → Option (Bool)
  | 0, _, _, _, _, _, _, _ => none
  | k + 1, x10, x12, x103, x268000, x268001, x268002, x268003 => if x103 = true then (some false) else ((laws_heldEar.f k x268000 x268001 x268002 x268003 1).bind fun t313 => (if t313 < 0 then (some false) else ((laws_heldByteS.f k x10 t313).bind fun t314 => (if t314 < 0 then (some false) else (if t314 = x12 then (some true) else (some false))))))
end
def laws_FnExactEarRead.f (k : Nat) (a0_0 : Int) (a0_1 : Int) (l0_2 : List Int) (l0_3 : List (S97)) (a1 : Int) : Option (Bool) := (laws_szEar.f a0_0 a0_1 l0_2 l0_3 1048576).bind fun t226 => (if t226 < 0 then (some true) else ((laws_toEar.f k a0_0 a0_1 l0_2 l0_3).bind fun bt227 => ((spec_EarRead.f k bt227.1 bt227.2.1 bt227.2.2.1 bt227.2.2.2 a1).bind fun bt235 => ((laws_toEar.f k a0_0 a0_1 l0_2 l0_3).bind fun bt247 => ((impl_EarRead.f k bt247.1 bt247.2.1 bt247.2.2.1 bt247.2.2.2 a1).bind fun bt256 => ((laws_eqEar.f k bt256.1 bt256.2.1 bt256.2.2.1 bt256.2.2.2.1 bt235.1 bt235.2.1 bt235.2.2.1 bt235.2.2.2.1).bind fun t268 => (if t268 = true then ((laws_eqByteS.f k bt256.2.2.2.2 bt235.2.2.2.2).bind fun t269 => (laws_FnExactEarRead.j0 k a1 bt235.2.2.2.2 bt256.2.2.2.2 (!t269) a0_0 a0_1 l0_2 l0_3 bt235.1 bt235.2.1 bt235.2.2.1 bt235.2.2.2.1 bt247.1 bt247.2.1 bt247.2.2.1 bt247.2.2.2 bt256.1 bt256.2.1 bt256.2.2.1 bt256.2.2.2.1)) else (laws_FnExactEarRead.j0 k a1 bt235.2.2.2.2 bt256.2.2.2.2 true a0_0 a0_1 l0_2 l0_3 bt235.1 bt235.2.1 bt235.2.2.1 bt235.2.2.2.1 bt247.1 bt247.2.1 bt247.2.2.1 bt247.2.2.2 bt256.1 bt256.2.1 bt256.2.2.1 bt256.2.2.2.1))))))))
theorem laws_FnExactEarRead.mono_l : ∀ k, (∀ y0 y1 y2 y3 y4 y5 y6 y7 y8 y9 y10 y11 y12 y13 y14 y15 y16 y17 y18 y19, LeO (laws_FnExactEarRead.j0 k y0 y1 y2 y3 y4 y5 y6 y7 y8 y9 y10 y11 y12 y13 y14 y15 y16 y17 y18 y19) (laws_FnExactEarRead.j0 (k + 1) y0 y1 y2 y3 y4 y5 y6 y7 y8 y9 y10 y11 y12 y13 y14 y15 y16 y17 y18 y19)) ∧ (∀ y0 y1 y2 y3 y4 y5 y6 y7 y8 y9 y10 y11 y12 y13 y14 y15, LeO (laws_FnExactEarRead.j1 k y0 y1 y2 y3 y4 y5 y6 y7 y8 y9 y10 y11 y12 y13 y14 y15) (laws_FnExactEarRead.j1 (k + 1) y0 y1 y2 y3 y4 y5 y6 y7 y8 y9 y10 y11 y12 y13 y14 y15)) ∧ (∀ y0 y1 y2 y3 y4 y5 y6, LeO (laws_FnExactEarRead.j2 k y0 y1 y2 y3 y4 y5 y6) (laws_FnExactEarRead.j2 (k + 1) y0 y1 y2 y3 y4 y5 y6))
  | 0 => ⟨fun _ _ _ _ _ _ _ _ _ _ _ _ _ _ _ _ _ _ _ _ r h => by simp [laws_FnExactEarRead.j0] at h, fun _ _ _ _ _ _ _ _ _ _ _ _ _ _ _ _ r h => by simp [laws_FnExactEarRead.j1] at h, fun _ _ _ _ _ _ _ r h => by simp [laws_FnExactEarRead.j2] at h⟩
  | k + 1 => by
    obtain ⟨ih0, ih1, ih2⟩ := laws_FnExactEarRead.mono_l k
    refine ⟨?_, ?_, ?_⟩
    · intro y0 y1 y2 y3 y4 y5 y6 y7 y8 y9 y10 y11 y12 y13 y14 y15 y16 y17 y18 y19
      unfold laws_FnExactEarRead.j0
      repeat' first
      | (with_reducible exact ih0 _ _ _ _ _ _ _ _ _ _ _ _ _ _ _ _ _ _ _ _)
      | (with_reducible exact ih1 _ _ _ _ _ _ _ _ _ _ _ _ _ _ _ _)
      | (with_reducible exact ih2 _ _ _ _ _ _ _)
      | (with_reducible exact impl_EarRead.mono _ _ _ _ _ _)
      | (with_reducible exact laws_eqByteS.mono _ _ _)
      | (with_reducible exact laws_eqEar.mono _ _ _ _ _ _ _ _ _)
      | (with_reducible exact laws_heldByteS.mono _ _ _)
      | (with_reducible exact laws_heldEar.mono _ _ _ _ _ _)
      | (with_reducible exact laws_markByteS.mono _ _ _)
      | (with_reducible exact laws_markEar.mono _ _ _ _ _ _)
      | (with_reducible exact laws_toEar.mono _ _ _ _ _)
      | (with_reducible exact spec_EarRead.mono _ _ _ _ _ _)
      | (with_reducible exact LeO.refl _)
      | (with_reducible exact LeO.none _)
      | (with_reducible refine LeO.ite ?_ ?_)
      | (with_reducible refine LeO.bind ?_ (fun _ => ?_))
      | exact ih0 _ _ _ _ _ _ _ _ _ _ _ _ _ _ _ _ _ _ _ _
      | exact ih1 _ _ _ _ _ _ _ _ _ _ _ _ _ _ _ _
      | exact ih2 _ _ _ _ _ _ _
      | exact impl_EarRead.mono _ _ _ _ _ _
      | exact laws_eqByteS.mono _ _ _
      | exact laws_eqEar.mono _ _ _ _ _ _ _ _ _
      | exact laws_heldByteS.mono _ _ _
      | exact laws_heldEar.mono _ _ _ _ _ _
      | exact laws_markByteS.mono _ _ _
      | exact laws_markEar.mono _ _ _ _ _ _
      | exact laws_toEar.mono _ _ _ _ _
      | exact spec_EarRead.mono _ _ _ _ _ _
      | exact LeO.none _
      | refine LeO.ite ?_ ?_
      | refine LeO.bind ?_ (fun _ => ?_)
    · intro y0 y1 y2 y3 y4 y5 y6 y7 y8 y9 y10 y11 y12 y13 y14 y15
      unfold laws_FnExactEarRead.j1
      repeat' first
      | (with_reducible exact ih0 _ _ _ _ _ _ _ _ _ _ _ _ _ _ _ _ _ _ _ _)
      | (with_reducible exact ih1 _ _ _ _ _ _ _ _ _ _ _ _ _ _ _ _)
      | (with_reducible exact ih2 _ _ _ _ _ _ _)
      | (with_reducible exact impl_EarRead.mono _ _ _ _ _ _)
      | (with_reducible exact laws_eqByteS.mono _ _ _)
      | (with_reducible exact laws_eqEar.mono _ _ _ _ _ _ _ _ _)
      | (with_reducible exact laws_heldByteS.mono _ _ _)
      | (with_reducible exact laws_heldEar.mono _ _ _ _ _ _)
      | (with_reducible exact laws_markByteS.mono _ _ _)
      | (with_reducible exact laws_markEar.mono _ _ _ _ _ _)
      | (with_reducible exact laws_toEar.mono _ _ _ _ _)
      | (with_reducible exact spec_EarRead.mono _ _ _ _ _ _)
      | (with_reducible exact LeO.refl _)
      | (with_reducible exact LeO.none _)
      | (with_reducible refine LeO.ite ?_ ?_)
      | (with_reducible refine LeO.bind ?_ (fun _ => ?_))
      | exact ih0 _ _ _ _ _ _ _ _ _ _ _ _ _ _ _ _ _ _ _ _
      | exact ih1 _ _ _ _ _ _ _ _ _ _ _ _ _ _ _ _
      | exact ih2 _ _ _ _ _ _ _
      | exact impl_EarRead.mono _ _ _ _ _ _
      | exact laws_eqByteS.mono _ _ _
      | exact laws_eqEar.mono _ _ _ _ _ _ _ _ _
      | exact laws_heldByteS.mono _ _ _
      | exact laws_heldEar.mono _ _ _ _ _ _
      | exact laws_markByteS.mono _ _ _
      | exact laws_markEar.mono _ _ _ _ _ _
      | exact laws_toEar.mono _ _ _ _ _
      | exact spec_EarRead.mono _ _ _ _ _ _
      | exact LeO.none _
      | refine LeO.ite ?_ ?_
      | refine LeO.bind ?_ (fun _ => ?_)
    · intro y0 y1 y2 y3 y4 y5 y6
      unfold laws_FnExactEarRead.j2
      repeat' first
      | (with_reducible exact ih0 _ _ _ _ _ _ _ _ _ _ _ _ _ _ _ _ _ _ _ _)
      | (with_reducible exact ih1 _ _ _ _ _ _ _ _ _ _ _ _ _ _ _ _)
      | (with_reducible exact ih2 _ _ _ _ _ _ _)
      | (with_reducible exact impl_EarRead.mono _ _ _ _ _ _)
      | (with_reducible exact laws_eqByteS.mono _ _ _)
      | (with_reducible exact laws_eqEar.mono _ _ _ _ _ _ _ _ _)
      | (with_reducible exact laws_heldByteS.mono _ _ _)
      | (with_reducible exact laws_heldEar.mono _ _ _ _ _ _)
      | (with_reducible exact laws_markByteS.mono _ _ _)
      | (with_reducible exact laws_markEar.mono _ _ _ _ _ _)
      | (with_reducible exact laws_toEar.mono _ _ _ _ _)
      | (with_reducible exact spec_EarRead.mono _ _ _ _ _ _)
      | (with_reducible exact LeO.refl _)
      | (with_reducible exact LeO.none _)
      | (with_reducible refine LeO.ite ?_ ?_)
      | (with_reducible refine LeO.bind ?_ (fun _ => ?_))
      | exact ih0 _ _ _ _ _ _ _ _ _ _ _ _ _ _ _ _ _ _ _ _
      | exact ih1 _ _ _ _ _ _ _ _ _ _ _ _ _ _ _ _
      | exact ih2 _ _ _ _ _ _ _
      | exact impl_EarRead.mono _ _ _ _ _ _
      | exact laws_eqByteS.mono _ _ _
      | exact laws_eqEar.mono _ _ _ _ _ _ _ _ _
      | exact laws_heldByteS.mono _ _ _
      | exact laws_heldEar.mono _ _ _ _ _ _
      | exact laws_markByteS.mono _ _ _
      | exact laws_markEar.mono _ _ _ _ _ _
      | exact laws_toEar.mono _ _ _ _ _
      | exact spec_EarRead.mono _ _ _ _ _ _
      | exact LeO.none _
      | refine LeO.ite ?_ ?_
      | refine LeO.bind ?_ (fun _ => ?_)
theorem laws_FnExactEarRead.mono : ∀ a0 a1 a2 a3 a4 k, LeO (laws_FnExactEarRead.f k a0 a1 a2 a3 a4) (laws_FnExactEarRead.f (k + 1) a0 a1 a2 a3 a4) := by
  intro a0 a1 a2 a3 a4 k
  obtain ⟨ih0, ih1, ih2⟩ := laws_FnExactEarRead.mono_l k
  unfold laws_FnExactEarRead.f
  repeat' first
      | (with_reducible exact ih0 _ _ _ _ _ _ _ _ _ _ _ _ _ _ _ _ _ _ _ _)
      | (with_reducible exact ih1 _ _ _ _ _ _ _ _ _ _ _ _ _ _ _ _)
      | (with_reducible exact ih2 _ _ _ _ _ _ _)
      | (with_reducible exact impl_EarRead.mono _ _ _ _ _ _)
      | (with_reducible exact laws_eqByteS.mono _ _ _)
      | (with_reducible exact laws_eqEar.mono _ _ _ _ _ _ _ _ _)
      | (with_reducible exact laws_heldByteS.mono _ _ _)
      | (with_reducible exact laws_heldEar.mono _ _ _ _ _ _)
      | (with_reducible exact laws_markByteS.mono _ _ _)
      | (with_reducible exact laws_markEar.mono _ _ _ _ _ _)
      | (with_reducible exact laws_toEar.mono _ _ _ _ _)
      | (with_reducible exact spec_EarRead.mono _ _ _ _ _ _)
      | (with_reducible exact LeO.refl _)
      | (with_reducible exact LeO.none _)
      | (with_reducible refine LeO.ite ?_ ?_)
      | (with_reducible refine LeO.bind ?_ (fun _ => ?_))
      | exact ih0 _ _ _ _ _ _ _ _ _ _ _ _ _ _ _ _ _ _ _ _
      | exact ih1 _ _ _ _ _ _ _ _ _ _ _ _ _ _ _ _
      | exact ih2 _ _ _ _ _ _ _
      | exact impl_EarRead.mono _ _ _ _ _ _
      | exact laws_eqByteS.mono _ _ _
      | exact laws_eqEar.mono _ _ _ _ _ _ _ _ _
      | exact laws_heldByteS.mono _ _ _
      | exact laws_heldEar.mono _ _ _ _ _ _
      | exact laws_markByteS.mono _ _ _
      | exact laws_markEar.mono _ _ _ _ _ _
      | exact laws_toEar.mono _ _ _ _ _
      | exact spec_EarRead.mono _ _ _ _ _ _
      | exact LeO.none _
      | refine LeO.ite ?_ ?_
      | refine LeO.bind ?_ (fun _ => ?_)
set_option maxHeartbeats 8000000 in
set_option maxRecDepth 100000 in
theorem laws_FnExactEarRead.calls (k : Nat) (a0_0 : Int) (a0_1 : Int) (A0_2 : Option Addr) (c0_2 : Nat) (l0_2 : List Int) (A0_3 : Option Addr) (c0_3 : Nat) (l0_3 : List (S97)) (a1 : Int) (r : Bool) (w : World) (hr0_2 : Kd.C (Kd.int .u8) w A0_2 l0_2.length l0_2) (hc0_2 : l0_2.length ≤ c0_2) (hr0_3 : Kd.C k97 w A0_3 l0_3.length l0_3) (hc0_3 : l0_3.length ≤ c0_3) (h : laws_FnExactEarRead.f k a0_0 a0_1 l0_2 l0_3 a1 = some r) (hlw : r = true) :
    Calls Try.prog 5 #[.agg #[.int .i64 a0_0, .int .i64 a0_1, .slice A0_2 l0_2.length c0_2, .slice A0_3 l0_3.length c0_3], .int .i64 a1] w fun e w' => e = .returned (.bool r) ∧ Below w.heap.size w w' := by
  have hu39 := Try.underlying39
  have hu25 := Try.underlying25
  have HLW := Aside0.mk hlw
  clear hlw
  have HR0_2 := Aside0.mk hr0_2
  have HC0_2 := Aside0.mk hc0_2
  clear hr0_2 hc0_2
  have HR0_3 := Aside0.mk hr0_3
  have HC0_3 := Aside0.mk hc0_3
  clear hr0_3 hc0_3
  have HB := Aside0.mk (Below.refl w.heap.size w)
  have H : ((laws_szEar.f a0_0 a0_1 l0_2 l0_3 1048576).bind fun t226 => (if t226 < 0 then (some true) else ((laws_toEar.f k a0_0 a0_1 l0_2 l0_3).bind fun bt227 => ((spec_EarRead.f k bt227.1 bt227.2.1 bt227.2.2.1 bt227.2.2.2 a1).bind fun bt235 => ((laws_toEar.f k a0_0 a0_1 l0_2 l0_3).bind fun bt247 => ((impl_EarRead.f k bt247.1 bt247.2.1 bt247.2.2.1 bt247.2.2.2 a1).bind fun bt256 => ((laws_eqEar.f k bt256.1 bt256.2.1 bt256.2.2.1 bt256.2.2.2.1 bt235.1 bt235.2.1 bt235.2.2.1 bt235.2.2.2.1).bind fun t268 => (if t268 = true then ((laws_eqByteS.f k bt256.2.2.2.2 bt235.2.2.2.2).bind fun t269 => (laws_FnExactEarRead.j0 k a1 bt235.2.2.2.2 bt256.2.2.2.2 (!t269) a0_0 a0_1 l0_2 l0_3 bt235.1 bt235.2.1 bt235.2.2.1 bt235.2.2.2.1 bt247.1 bt247.2.1 bt247.2.2.1 bt247.2.2.2 bt256.1 bt256.2.1 bt256.2.2.1 bt256.2.2.2.1)) else (laws_FnExactEarRead.j0 k a1 bt235.2.2.2.2 bt256.2.2.2.2 true a0_0 a0_1 l0_2 l0_3 bt235.1 bt235.2.1 bt235.2.2.1 bt235.2.2.2.1 bt247.1 bt247.2.1 bt247.2.2.1 bt247.2.2.2 bt256.1 bt256.2.1 bt256.2.2.1 bt256.2.2.2.1))))))))) = some r := h
  clear h
  replace H := Option.bind_eq_some_iff.mp H
  obtain ⟨t226, A30, H⟩ := H
  replace H : (if t226 < 0 then (some true) else ((laws_toEar.f k a0_0 a0_1 l0_2 l0_3).bind fun bt227 => ((spec_EarRead.f k bt227.1 bt227.2.1 bt227.2.2.1 bt227.2.2.2 a1).bind fun bt235 => ((laws_toEar.f k a0_0 a0_1 l0_2 l0_3).bind fun bt247 => ((impl_EarRead.f k bt247.1 bt247.2.1 bt247.2.2.1 bt247.2.2.2 a1).bind fun bt256 => ((laws_eqEar.f k bt256.1 bt256.2.1 bt256.2.2.1 bt256.2.2.2.1 bt235.1 bt235.2.1 bt235.2.2.1 bt235.2.2.2.1).bind fun t268 => (if t268 = true then ((laws_eqByteS.f k bt256.2.2.2.2 bt235.2.2.2.2).bind fun t269 => (laws_FnExactEarRead.j0 k a1 bt235.2.2.2.2 bt256.2.2.2.2 (!t269) a0_0 a0_1 l0_2 l0_3 bt235.1 bt235.2.1 bt235.2.2.1 bt235.2.2.2.1 bt247.1 bt247.2.1 bt247.2.2.1 bt247.2.2.2 bt256.1 bt256.2.1 bt256.2.2.1 bt256.2.2.2.1)) else (laws_FnExactEarRead.j0 k a1 bt235.2.2.2.2 bt256.2.2.2.2 true a0_0 a0_1 l0_2 l0_3 bt235.1 bt235.2.1 bt235.2.2.1 bt235.2.2.2.1 bt247.1 bt247.2.1 bt247.2.2.1 bt247.2.2.2 bt256.1 bt256.2.1 bt256.2.2.1 bt256.2.2.2.1)))))))) = some r := H
  have A3 := Aside0.mk A30
  clear A30
  by_cases c4 : t226 < 0
  · rw [if_pos c4] at H
    have c4b0 : decide (t226 < 0) = true := decide_eq_true c4
    clear c4
    obtain rfl := Option.some.inj H
    go_enter Try.func5, Try.ntmps5
    go_wp2_with (first | ((with_reducible refine gate_dst (N := 2) rfl ?_); refine box_event ?hg (N := 2) ?hd (cs := #[.int .i64 a0_0, .int .i64 a0_1, .slice A0_2 l0_2.length c0_2, .slice A0_3 l0_3.length c0_3]) (t := 39) ?hr ?_; (case hd => rfl); (case hg => rfl); (case hr => first | (go_simp; done) | (go_simp; rfl)); intro gb225 hg w5 hbox hb; have n0_ := Aside0.mk (below_step (hb0_ HB.out) hb); have n1_ := Aside0.mk (hbox); have n2_ := Aside0.mk ((by rw [hg]; exact (below_size (hb0_ HB.out)) : w.heap.size ≤ gb225)); have n3_ := Aside0.mk ((by rw [hg]; exact (below_size (hb0_ HB.out)) : w.heap.size ≤ gb225)); clear HB; have HB := n0_; have BK225 := n1_; have GW225 := n2_; have GE225 := n3_; clear n0_ n1_ n2_ n3_; clear hb hbox hg; have hcz6_0 : w5.cell? ⟨gb225, 0, none⟩ = some (.int .i64 a0_0) := (blk_cell BK225.out 0).trans rfl; have hcz6_1 : w5.cell? ⟨gb225, 1, none⟩ = some (.int .i64 a0_1) := (blk_cell BK225.out 1).trans rfl; have hcz6_2 : w5.cell? ⟨gb225, 2, none⟩ = some (.slice A0_2 l0_2.length c0_2) := (blk_cell BK225.out 2).trans rfl; have hcz6_3 : w5.cell? ⟨gb225, 3, none⟩ = some (.slice A0_3 l0_3.length c0_3) := (blk_cell BK225.out 3).trans rfl; have hfz6_0 := blk_frozen BK225.out 0; have hfz6_1 := blk_frozen BK225.out 1; have hfz6_2 := blk_frozen BK225.out 2; have hfz6_3 := blk_frozen BK225.out 3) | ((with_reducible refine gate_callee (f := 19) rfl ?_); refine goesL_ (some 18) rfl rfl Try.func19 (by kernel_rfl) rfl #[.agg #[.int .i64 a0_0, .int .i64 a0_1, .slice A0_2 l0_2.length c0_2, .slice A0_3 l0_3.length c0_3], .int .i64 1048576] rfl ar_ ?_; (with_reducible refine (laws_szEar.calls a0_0 a0_1 _ _ l0_2 _ _ l0_3 1048576 t226 _ ?side1 ?side2 ?side3 ?side4 A3.out).mono ?_); (case side1 => exact kC_ (Kd.C_below HR0_2.out HB.out)); (case side2 => exact HC0_2.out); (case side3 => exact kC_ (Kd.C_below HR0_3.out HB.out)); (case side4 => exact HC0_3.out); rintro e w7 ⟨rfl, hb⟩; refine ⟨_, rfl, ?_⟩; have n0_ := Aside0.mk (blk_below (g := gb225) (o := .cells #[.int .i64 a0_0, .int .i64 a0_1, .slice A0_2 l0_2.length c0_2, .slice A0_3 l0_3.length c0_3] 39 (0, 0)) (kb_ BK225.out) hb); have n1_ := Aside0.mk (below_step (hb1_ HB.out GE225.out) hb); clear BK225; clear HB; have BK225 := n0_; have HB := n1_; clear n0_ n1_; (try clear hb); (try clear hb2); (try clear hk); (try clear hi)))
    go_ret
    exact ⟨by first | rfl | (simp [errW_none, errW_some] <;> rfl) | (simp [*, errW_none, errW_some] <;> rfl), by repeat (first | (with_reducible first | exact HB.out | apply below_alloc | apply pw_below_drewN | apply below_drew1 | refine below_set ?_ GE225.out) | exact HB.out)⟩
  · rw [if_neg c4] at H
    have c4b0 : decide (t226 < 0) = false := decide_eq_false c4
    clear c4
    replace H := Option.bind_eq_some_iff.mp H
    obtain ⟨⟨t227, t228, t229, t232⟩, A80, H⟩ := H
    replace H : ((spec_EarRead.f k t227 t228 t229 t232 a1).bind fun bt235 => ((laws_toEar.f k a0_0 a0_1 l0_2 l0_3).bind fun bt247 => ((impl_EarRead.f k bt247.1 bt247.2.1 bt247.2.2.1 bt247.2.2.2 a1).bind fun bt256 => ((laws_eqEar.f k bt256.1 bt256.2.1 bt256.2.2.1 bt256.2.2.2.1 bt235.1 bt235.2.1 bt235.2.2.1 bt235.2.2.2.1).bind fun t268 => (if t268 = true then ((laws_eqByteS.f k bt256.2.2.2.2 bt235.2.2.2.2).bind fun t269 => (laws_FnExactEarRead.j0 k a1 bt235.2.2.2.2 bt256.2.2.2.2 (!t269) a0_0 a0_1 l0_2 l0_3 bt235.1 bt235.2.1 bt235.2.2.1 bt235.2.2.2.1 bt247.1 bt247.2.1 bt247.2.2.1 bt247.2.2.2 bt256.1 bt256.2.1 bt256.2.2.1 bt256.2.2.2.1)) else (laws_FnExactEarRead.j0 k a1 bt235.2.2.2.2 bt256.2.2.2.2 true a0_0 a0_1 l0_2 l0_3 bt235.1 bt235.2.1 bt235.2.2.1 bt235.2.2.2.1 bt247.1 bt247.2.1 bt247.2.2.1 bt247.2.2.2 bt256.1 bt256.2.1 bt256.2.2.1 bt256.2.2.2.1)))))) = some r := H
    have A8 := Aside0.mk A80
    clear A80
    replace H := Option.bind_eq_some_iff.mp H
    obtain ⟨⟨t235, t236, t237, t240, t243⟩, A90, H⟩ := H
    replace H : ((laws_toEar.f k a0_0 a0_1 l0_2 l0_3).bind fun bt247 => ((impl_EarRead.f k bt247.1 bt247.2.1 bt247.2.2.1 bt247.2.2.2 a1).bind fun bt256 => ((laws_eqEar.f k bt256.1 bt256.2.1 bt256.2.2.1 bt256.2.2.2.1 t235 t236 t237 t240).bind fun t268 => (if t268 = true then ((laws_eqByteS.f k bt256.2.2.2.2 t243).bind fun t269 => (laws_FnExactEarRead.j0 k a1 t243 bt256.2.2.2.2 (!t269) a0_0 a0_1 l0_2 l0_3 t235 t236 t237 t240 bt247.1 bt247.2.1 bt247.2.2.1 bt247.2.2.2 bt256.1 bt256.2.1 bt256.2.2.1 bt256.2.2.2.1)) else (laws_FnExactEarRead.j0 k a1 t243 bt256.2.2.2.2 true a0_0 a0_1 l0_2 l0_3 t235 t236 t237 t240 bt247.1 bt247.2.1 bt247.2.2.1 bt247.2.2.2 bt256.1 bt256.2.1 bt256.2.2.1 bt256.2.2.2.1))))) = some r := H
    have A9 := Aside0.mk A90
    clear A90
    replace H := Option.bind_eq_some_iff.mp H
    obtain ⟨⟨t247, t248, t249, t252⟩, A100, H⟩ := H
    replace H : ((impl_EarRead.f k t247 t248 t249 t252 a1).bind fun bt256 => ((laws_eqEar.f k bt256.1 bt256.2.1 bt256.2.2.1 bt256.2.2.2.1 t235 t236 t237 t240).bind fun t268 => (if t268 = true then ((laws_eqByteS.f k bt256.2.2.2.2 t243).bind fun t269 => (laws_FnExactEarRead.j0 k a1 t243 bt256.2.2.2.2 (!t269) a0_0 a0_1 l0_2 l0_3 t235 t236 t237 t240 t247 t248 t249 t252 bt256.1 bt256.2.1 bt256.2.2.1 bt256.2.2.2.1)) else (laws_FnExactEarRead.j0 k a1 t243 bt256.2.2.2.2 true a0_0 a0_1 l0_2 l0_3 t235 t236 t237 t240 t247 t248 t249 t252 bt256.1 bt256.2.1 bt256.2.2.1 bt256.2.2.2.1)))) = some r := H
    have A10 := Aside0.mk A100
    clear A100
    replace H := Option.bind_eq_some_iff.mp H
    obtain ⟨⟨t256, t257, t258, t261, t264⟩, A110, H⟩ := H
    replace H : ((laws_eqEar.f k t256 t257 t258 t261 t235 t236 t237 t240).bind fun t268 => (if t268 = true then ((laws_eqByteS.f k t264 t243).bind fun t269 => (laws_FnExactEarRead.j0 k a1 t243 t264 (!t269) a0_0 a0_1 l0_2 l0_3 t235 t236 t237 t240 t247 t248 t249 t252 t256 t257 t258 t261)) else (laws_FnExactEarRead.j0 k a1 t243 t264 true a0_0 a0_1 l0_2 l0_3 t235 t236 t237 t240 t247 t248 t249 t252 t256 t257 t258 t261))) = some r := H
    have A11 := Aside0.mk A110
    clear A110
    have HC12 := Aside0.mk H
    clear H
    go_enter Try.func5, Try.ntmps5
    go_upto_region 8 with (first | ((with_reducible refine gate_dst (N := 2) rfl ?_); refine box_event ?hg (N := 2) ?hd (cs := #[.int .i64 a0_0, .int .i64 a0_1, .slice A0_2 l0_2.length c0_2, .slice A0_3 l0_3.length c0_3]) (t := 39) ?hr ?_; (case hd => rfl); (case hg => rfl); (case hr => first | (go_simp; done) | (go_simp; rfl)); intro gb225 hg w13 hbox hb; have n0_ := Aside0.mk (below_step (hb0_ HB.out) hb); have n1_ := Aside0.mk (hbox); have n2_ := Aside0.mk ((by rw [hg]; exact (below_size (hb0_ HB.out)) : w.heap.size ≤ gb225)); have n3_ := Aside0.mk ((by rw [hg]; exact (below_size (hb0_ HB.out)) : w.heap.size ≤ gb225)); clear HB; have HB := n0_; have BK225 := n1_; have GW225 := n2_; have GE225 := n3_; clear n0_ n1_ n2_ n3_; clear hb hbox hg; have hcz14_0 : w13.cell? ⟨gb225, 0, none⟩ = some (.int .i64 a0_0) := (blk_cell BK225.out 0).trans rfl; have hcz14_1 : w13.cell? ⟨gb225, 1, none⟩ = some (.int .i64 a0_1) := (blk_cell BK225.out 1).trans rfl; have hcz14_2 : w13.cell? ⟨gb225, 2, none⟩ = some (.slice A0_2 l0_2.length c0_2) := (blk_cell BK225.out 2).trans rfl; have hcz14_3 : w13.cell? ⟨gb225, 3, none⟩ = some (.slice A0_3 l0_3.length c0_3) := (blk_cell BK225.out 3).trans rfl; have hfz14_0 := blk_frozen BK225.out 0; have hfz14_1 := blk_frozen BK225.out 1; have hfz14_2 := blk_frozen BK225.out 2; have hfz14_3 := blk_frozen BK225.out 3) | ((with_reducible refine gate_callee (f := 19) rfl ?_); refine goesL_ (some 18) rfl rfl Try.func19 (by kernel_rfl) rfl #[.agg #[.int .i64 a0_0, .int .i64 a0_1, .slice A0_2 l0_2.length c0_2, .slice A0_3 l0_3.length c0_3], .int .i64 1048576] rfl ar_ ?_; (with_reducible refine (laws_szEar.calls a0_0 a0_1 _ _ l0_2 _ _ l0_3 1048576 t226 _ ?side1 ?side2 ?side3 ?side4 A3.out).mono ?_); (case side1 => exact kC_ (Kd.C_below HR0_2.out HB.out)); (case side2 => exact HC0_2.out); (case side3 => exact kC_ (Kd.C_below HR0_3.out HB.out)); (case side4 => exact HC0_3.out); rintro e w15 ⟨rfl, hb⟩; refine ⟨_, rfl, ?_⟩; have n0_ := Aside0.mk (blk_below (g := gb225) (o := .cells #[.int .i64 a0_0, .int .i64 a0_1, .slice A0_2 l0_2.length c0_2, .slice A0_3 l0_3.length c0_3] 39 (0, 0)) (kb_ BK225.out) hb); have n1_ := Aside0.mk (below_step (hb1_ HB.out GE225.out) hb); clear BK225; clear HB; have BK225 := n0_; have HB := n1_; clear n0_ n1_; (try clear hb); (try clear hb2); (try clear hk); (try clear hi); have hcz16_0 : w15.cell? ⟨gb225, 0, none⟩ = some (.int .i64 a0_0) := (blk_cell BK225.out 0).trans rfl; have hcz16_1 : w15.cell? ⟨gb225, 1, none⟩ = some (.int .i64 a0_1) := (blk_cell BK225.out 1).trans rfl; have hcz16_2 : w15.cell? ⟨gb225, 2, none⟩ = some (.slice A0_2 l0_2.length c0_2) := (blk_cell BK225.out 2).trans rfl; have hcz16_3 : w15.cell? ⟨gb225, 3, none⟩ = some (.slice A0_3 l0_3.length c0_3) := (blk_cell BK225.out 3).trans rfl; have hfz16_0 := blk_frozen BK225.out 0; have hfz16_1 := blk_frozen BK225.out 1; have hfz16_2 := blk_frozen BK225.out 2; have hfz16_3 := blk_frozen BK225.out 3) | ((with_reducible refine gate_callee (f := 20) rfl ?_); refine goesL_ (some 23) rfl rfl Try.func20 (by kernel_rfl) rfl #[.agg #[.int .i64 a0_0, .int .i64 a0_1, .slice A0_2 l0_2.length c0_2, .slice A0_3 l0_3.length c0_3]] rfl ar_ ?_; (with_reducible refine (laws_toEar.calls k a0_0 a0_1 _ _ l0_2 _ _ l0_3 t227 t228 t229 t232 _ ?side1 ?side2 ?side3 ?side4 A8.out).mono ?_); (case side1 => exact kC_ (Kd.C_below HR0_2.out HB.out)); (case side2 => exact HC0_2.out); (case side3 => exact kC_ (Kd.C_below HR0_3.out HB.out)); (case side4 => exact HC0_3.out); rintro e w17 ⟨v230, v233, rfl, ho0, ho1, hb⟩; refine ⟨_, rfl, ?_⟩; have n0_ := Aside0.mk (Kd.R_lower ho0 (below_size (hb1_ HB.out GE225.out))); have n1_ := Aside0.mk (Kd.R_lower ho1 (below_size (hb1_ HB.out GE225.out))); have n2_ := Aside0.mk (blk_below (g := gb225) (o := .cells #[.int .i64 a0_0, .int .i64 a0_1, .slice A0_2 l0_2.length c0_2, .slice A0_3 l0_3.length c0_3] 39 (0, 0)) (kb_ BK225.out) hb); have n3_ := Aside0.mk (below_step (hb1_ HB.out GE225.out) hb); clear BK225; clear HB; have HO231 := n0_; have HO234 := n1_; have BK225 := n2_; have HB := n3_; clear n0_ n1_ n2_ n3_; (try clear hb); (try clear hb2); (try clear hk); (try clear hi); (try clear ho0); (try clear ho1); obtain ⟨Ao18, co18, eo18⟩ := Kd.R_slice HO231.out; subst eo18; obtain ⟨Ao19, co19, eo19⟩ := Kd.R_slice HO234.out; subst eo19) | ((with_reducible refine gate_callee (f := 16) rfl ?_); refine goesL_ (some 25) rfl rfl Try.func16 (by kernel_rfl) rfl #[.agg #[.int .i64 t227, .int .i64 t228, .slice Ao18 t229.length co18, .slice Ao19 t232.length co19], .int .i64 a1] rfl ar_ ?_; (with_reducible refine (spec_EarRead.calls k t227 t228 _ _ t229 _ _ t232 a1 t235 t236 t237 t240 t243 _ ?side1 ?side2 ?side3 ?side4 A9.out).mono ?_); (case side1 => exact kC_ (Kd.R_reads' HO231.out).2.2); (case side2 => exact (Kd.R_reads' HO231.out).2.1); (case side3 => exact kC_ (Kd.R_reads' HO234.out).2.2); (case side4 => exact (Kd.R_reads' HO234.out).2.1); rintro e w20 ⟨v238, v241, v244, rfl, ho0, ho1, ho2, hb⟩; refine ⟨_, rfl, ?_⟩; have n0_ := Aside0.mk (Kd.R_mono (Kd.R_told (Kd.R_told (Kd.R_old (kR_ HO231.out) hb) (Kd.R_base ho0)) (Kd.R_base ho2)) (fun _ h_ => op1_ h_)); have n1_ := Aside0.mk (Kd.R_elder' (kR_ HO234.out) (Kd.R_base ho1) hb); have n2_ := Aside0.mk (Kd.R_lower (Kd.R_new' ho0 (Kd.R_lt (kR_ HO231.out))) (below_size (hb1_ HB.out GE225.out))); have n3_ := Aside0.mk (Kd.R_lower (Kd.R_new' ho1 (Kd.R_lt (kR_ HO234.out))) (below_size (hb1_ HB.out GE225.out))); have n4_ := Aside0.mk (Kd.R_lower (Kd.R_new' ho2 (Kd.R_lt (kR_ HO231.out))) (below_size (hb1_ HB.out GE225.out))); have n5_ := Aside0.mk (blk_below (g := gb225) (o := .cells #[.int .i64 a0_0, .int .i64 a0_1, .slice A0_2 l0_2.length c0_2, .slice A0_3 l0_3.length c0_3] 39 (0, 0)) (kb_ BK225.out) hb); have n6_ := Aside0.mk (below_step (hb1_ HB.out GE225.out) hb); clear HO231; clear HO234; clear BK225; clear HB; have HO231 := n0_; have HO234 := n1_; have HO239 := n2_; have HO242 := n3_; have HO245 := n4_; have BK225 := n5_; have HB := n6_; clear n0_ n1_ n2_ n3_ n4_ n5_ n6_; (try clear hb); (try clear hb2); (try clear hk); (try clear hi); (try clear ho0); (try clear ho1); (try clear ho2)) | ((with_reducible refine gate_dst (N := 6) rfl ?_); refine box_event ?hg (N := 6) ?hd (cs := #[.int .i64 0, .int .i64 0, .slice none 0 0, .slice none 0 0]) (t := 25) ?hr ?_; (case hd => rfl); (case hg => rfl); (case hr => first | (go_simp; done) | (go_simp; rfl)); intro gb246 hg w21 hbox hb; have n0_ := Aside0.mk (Kd.R_below (kR_ HO231.out) hb); have n1_ := Aside0.mk (Kd.R_below (kR_ HO234.out) hb); have n2_ := Aside0.mk (Kd.R_below (kR_ HO239.out) hb); have n3_ := Aside0.mk (Kd.R_below (kR_ HO242.out) hb); have n4_ := Aside0.mk (Kd.R_below (kR_ HO245.out) hb); have n5_ := Aside0.mk (blk_below (g := gb225) (o := .cells #[.int .i64 a0_0, .int .i64 a0_1, .slice A0_2 l0_2.length c0_2, .slice A0_3 l0_3.length c0_3] 39 (0, 0)) (kb_ BK225.out) hb); have n6_ := Aside0.mk (below_step (hb1_ HB.out GE225.out) hb); have n7_ := Aside0.mk (hbox); have n8_ := Aside0.mk ((by rw [hg]; exact (below_size (hb1_ HB.out GE225.out)) : w.heap.size ≤ gb246)); have n9_ := Aside0.mk ((by rw [hg]; exact (below_size (hb1_ HB.out GE225.out)) : w.heap.size ≤ gb246)); have n10_ := Aside0.mk ((by rw [hg]; exact Nat.ne_of_lt (blk_lt (g := gb225) (o := .cells #[.int .i64 a0_0, .int .i64 a0_1, .slice A0_2 l0_2.length c0_2, .slice A0_3 l0_3.length c0_3] 39 (0, 0)) (kb_ BK225.out)) : gb225 ≠ gb246)); have n11_ := Aside0.mk ((by rw [hg]; exact Nat.ne_of_gt (blk_lt (g := gb225) (o := .cells #[.int .i64 a0_0, .int .i64 a0_1, .slice A0_2 l0_2.length c0_2, .slice A0_3 l0_3.length c0_3] 39 (0, 0)) (kb_ BK225.out)) : gb246 ≠ gb225)); clear HO231; clear HO234; clear HO239; clear HO242; clear HO245; clear BK225; clear HB; have HO231 := n0_; have HO234 := n1_; have HO239 := n2_; have HO242 := n3_; have HO245 := n4_; have BK225 := n5_; have HB := n6_; have BK246 := n7_; have GW246 := n8_; have GE246 := n9_; have NB225_246 := n10_; have NB246_225 := n11_; clear n0_ n1_ n2_ n3_ n4_ n5_ n6_ n7_ n8_ n9_ n10_ n11_; clear hb hbox hg; have hnb22 := NB246_225.out; have hnc22 := NB225_246.out; have hcz23_0 : w21.cell? ⟨gb246, 0, none⟩ = some (.int .i64 0) := (blk_cell BK246.out 0).trans rfl; have hcz23_1 : w21.cell? ⟨gb246, 1, none⟩ = some (.int .i64 0) := (blk_cell BK246.out 1).trans rfl; have hcz23_2 : w21.cell? ⟨gb246, 2, none⟩ = some (.slice none 0 0) := (blk_cell BK246.out 2).trans rfl; have hcz23_3 : w21.cell? ⟨gb246, 3, none⟩ = some (.slice none 0 0) := (blk_cell BK246.out 3).trans rfl; have hfz23_0 := blk_frozen BK246.out 0; have hfz23_1 := blk_frozen BK246.out 1; have hfz23_2 := blk_frozen BK246.out 2; have hfz23_3 := blk_frozen BK246.out 3; obtain ⟨Ao24, co24, eo24⟩ := Kd.R_slice HO239.out; subst eo24; obtain ⟨Ao25, co25, eo25⟩ := Kd.R_slice HO242.out; subst eo25; have hcz26_0 : w21.cell? ⟨gb225, 0, none⟩ = some (.int .i64 a0_0) := (blk_cell BK225.out 0).trans rfl; have hcz26_1 : w21.cell? ⟨gb225, 1, none⟩ = some (.int .i64 a0_1) := (blk_cell BK225.out 1).trans rfl; have hcz26_2 : w21.cell? ⟨gb225, 2, none⟩ = some (.slice A0_2 l0_2.length c0_2) := (blk_cell BK225.out 2).trans rfl; have hcz26_3 : w21.cell? ⟨gb225, 3, none⟩ = some (.slice A0_3 l0_3.length c0_3) := (blk_cell BK225.out 3).trans rfl; have hfz26_0 := blk_frozen BK225.out 0; have hfz26_1 := blk_frozen BK225.out 1; have hfz26_2 := blk_frozen BK225.out 2; have hfz26_3 := blk_frozen BK225.out 3) | ((with_reducible refine gate_callee (f := 20) rfl ?_); refine goesL_ (some 29) rfl rfl Try.func20 (by kernel_rfl) rfl #[.agg #[.int .i64 a0_0, .int .i64 a0_1, .slice A0_2 l0_2.length c0_2, .slice A0_3 l0_3.length c0_3]] rfl ar_ ?_; (with_reducible refine (laws_toEar.calls k a0_0 a0_1 _ _ l0_2 _ _ l0_3 t247 t248 t249 t252 _ ?side1 ?side2 ?side3 ?side4 A10.out).mono ?_); (case side1 => exact Kd.C_below HR0_2.out (hb2_ HB.out GE225.out GE246.out)); (case side2 => exact HC0_2.out); (case side3 => exact Kd.C_below HR0_3.out (hb2_ HB.out GE225.out GE246.out)); (case side4 => exact HC0_3.out); rintro e w27 ⟨v250, v253, rfl, ho0, ho1, hb⟩; refine ⟨_, rfl, ?_⟩; have n0_ := Aside0.mk (Kd.R_elder' (by refine kR_ ?_; exact (Kd.R_mono (Kd.R_f gb246 3 (.slice Ao25 t240.length co25) (Kd.R_f gb246 2 (.slice Ao24 t237.length co24) (Kd.R_f gb246 1 (.int .i64 t236) (Kd.R_f gb246 0 (.int .i64 t235) (Kd.R_types HO231.out BK246.out (by decide)))))) (fun _ h_ => op1_ h_))) (Kd.R_base ho0) hb); have n1_ := Aside0.mk (Kd.R_elder' (by refine kR_ ?_; exact (Kd.R_mono (Kd.R_f gb246 3 (.slice Ao25 t240.length co25) (Kd.R_f gb246 2 (.slice Ao24 t237.length co24) (Kd.R_f gb246 1 (.int .i64 t236) (Kd.R_f gb246 0 (.int .i64 t235) (Kd.R_types HO234.out BK246.out (by decide)))))) (fun _ h_ => op1_ h_))) (Kd.R_base ho1) hb); have n2_ := Aside0.mk (Kd.R_elder' (by refine kR_ ?_; exact (Kd.R_mono (Kd.R_f gb246 3 (.slice Ao25 t240.length co25) (Kd.R_f gb246 2 (.slice Ao24 t237.length co24) (Kd.R_f gb246 1 (.int .i64 t236) (Kd.R_f gb246 0 (.int .i64 t235) (Kd.R_types HO239.out BK246.out (by decide)))))) (fun _ h_ => op1_ h_))) (Kd.R_base ho0) hb); have n3_ := Aside0.mk (Kd.R_elder' (by refine kR_ ?_; exact (Kd.R_mono (Kd.R_f gb246 3 (.slice Ao25 t240.length co25) (Kd.R_f gb246 2 (.slice Ao24 t237.length co24) (Kd.R_f gb246 1 (.int .i64 t236) (Kd.R_f gb246 0 (.int .i64 t235) (Kd.R_types HO242.out BK246.out (by decide)))))) (fun _ h_ => op1_ h_))) (Kd.R_base ho1) hb); have n4_ := Aside0.mk (Kd.R_elder' (by refine kR_ ?_; exact (Kd.R_mono (Kd.R_f gb246 3 (.slice Ao25 t240.length co25) (Kd.R_f gb246 2 (.slice Ao24 t237.length co24) (Kd.R_f gb246 1 (.int .i64 t236) (Kd.R_f gb246 0 (.int .i64 t235) (Kd.R_types HO245.out BK246.out (by decide)))))) (fun _ h_ => op1_ h_))) (Kd.R_base ho0) hb); have n5_ := Aside0.mk (Kd.R_lower (Kd.R_new' (Kd.R_new' (Kd.R_new' ho0 (Kd.R_lt (by refine kR_ ?_; exact (Kd.R_mono (Kd.R_f gb246 3 (.slice Ao25 t240.length co25) (Kd.R_f gb246 2 (.slice Ao24 t237.length co24) (Kd.R_f gb246 1 (.int .i64 t236) (Kd.R_f gb246 0 (.int .i64 t235) (Kd.R_types HO231.out BK246.out (by decide)))))) (fun _ h_ => op1_ h_))))) (Kd.R_lt (by refine kR_ ?_; exact (Kd.R_mono (Kd.R_f gb246 3 (.slice Ao25 t240.length co25) (Kd.R_f gb246 2 (.slice Ao24 t237.length co24) (Kd.R_f gb246 1 (.int .i64 t236) (Kd.R_f gb246 0 (.int .i64 t235) (Kd.R_types HO239.out BK246.out (by decide)))))) (fun _ h_ => op1_ h_))))) (Kd.R_lt (by refine kR_ ?_; exact (Kd.R_mono (Kd.R_f gb246 3 (.slice Ao25 t240.length co25) (Kd.R_f gb246 2 (.slice Ao24 t237.length co24) (Kd.R_f gb246 1 (.int .i64 t236) (Kd.R_f gb246 0 (.int .i64 t235) (Kd.R_types HO245.out BK246.out (by decide)))))) (fun _ h_ => op1_ h_))))) (below_size (hb2_ HB.out GE225.out GE246.out))); have n6_ := Aside0.mk (Kd.R_lower (Kd.R_new' (Kd.R_new' ho1 (Kd.R_lt (by refine kR_ ?_; exact (Kd.R_mono (Kd.R_f gb246 3 (.slice Ao25 t240.length co25) (Kd.R_f gb246 2 (.slice Ao24 t237.length co24) (Kd.R_f gb246 1 (.int .i64 t236) (Kd.R_f gb246 0 (.int .i64 t235) (Kd.R_types HO234.out BK246.out (by decide)))))) (fun _ h_ => op1_ h_))))) (Kd.R_lt (by refine kR_ ?_; exact (Kd.R_mono (Kd.R_f gb246 3 (.slice Ao25 t240.length co25) (Kd.R_f gb246 2 (.slice Ao24 t237.length co24) (Kd.R_f gb246 1 (.int .i64 t236) (Kd.R_f gb246 0 (.int .i64 t235) (Kd.R_types HO242.out BK246.out (by decide)))))) (fun _ h_ => op1_ h_))))) (below_size (hb2_ HB.out GE225.out GE246.out))); have n7_ := Aside0.mk (blk_below (g := gb225) (o := .cells #[.int .i64 a0_0, .int .i64 a0_1, .slice A0_2 l0_2.length c0_2, .slice A0_3 l0_3.length c0_3] 39 (0, 0)) (by refine kb_ ?_; refine blk_far ?_ NB225_246.out _; refine kb_ ?_; refine blk_far ?_ NB225_246.out _; refine kb_ ?_; refine blk_far ?_ NB225_246.out _; refine kb_ ?_; refine blk_far ?_ NB225_246.out _; refine kb_ ?_; exact BK225.out) hb); have n8_ := Aside0.mk (blk_below (g := gb246) (o := .cells #[.int .i64 t235, .int .i64 t236, .slice Ao24 t237.length co24, .slice Ao25 t240.length co25] 25 (0, 0)) (by refine kb_ ?_; refine blk_put (cs := #[.int .i64 t235, .int .i64 t236, .slice Ao24 t237.length co24, .slice none 0 0]) ?_ 3 _ rfl; refine kb_ ?_; refine blk_put (cs := #[.int .i64 t235, .int .i64 t236, .slice none 0 0, .slice none 0 0]) ?_ 2 _ rfl; refine kb_ ?_; refine blk_put (cs := #[.int .i64 t235, .int .i64 0, .slice none 0 0, .slice none 0 0]) ?_ 1 _ rfl; refine kb_ ?_; refine blk_put (cs := #[.int .i64 0, .int .i64 0, .slice none 0 0, .slice none 0 0]) ?_ 0 _ rfl; refine kb_ ?_; exact BK246.out) hb); have n9_ := Aside0.mk (below_step (hb2_ HB.out GE225.out GE246.out) hb); clear HO231; clear HO234; clear HO239; clear HO242; clear HO245; clear BK225; clear BK246; clear HB; have HO231 := n0_; have HO234 := n1_; have HO239 := n2_; have HO242 := n3_; have HO245 := n4_; have HO251 := n5_; have HO254 := n6_; have BK225 := n7_; have BK246 := n8_; have HB := n9_; clear n0_ n1_ n2_ n3_ n4_ n5_ n6_ n7_ n8_ n9_; (try clear hb); (try clear hb2); (try clear hk); (try clear hi); (try clear ho0); (try clear ho1)) | ((with_reducible refine gate_dst (N := 8) rfl ?_); refine box_event ?hg (N := 8) ?hd (cs := #[.int .i64 0, .int .i64 0, .slice none 0 0, .slice none 0 0]) (t := 25) ?hr ?_; (case hd => rfl); (case hg => rfl); (case hr => first | (go_simp; done) | (go_simp; rfl)); intro gb255 hg w28 hbox hb; have n0_ := Aside0.mk (Kd.R_below (kR_ HO231.out) hb); have n1_ := Aside0.mk (Kd.R_below (kR_ HO234.out) hb); have n2_ := Aside0.mk (Kd.R_below (kR_ HO239.out) hb); have n3_ := Aside0.mk (Kd.R_below (kR_ HO242.out) hb); have n4_ := Aside0.mk (Kd.R_below (kR_ HO245.out) hb); have n5_ := Aside0.mk (Kd.R_below (kR_ HO251.out) hb); have n6_ := Aside0.mk (Kd.R_below (kR_ HO254.out) hb); have n7_ := Aside0.mk (blk_below (g := gb225) (o := .cells #[.int .i64 a0_0, .int .i64 a0_1, .slice A0_2 l0_2.length c0_2, .slice A0_3 l0_3.length c0_3] 39 (0, 0)) (kb_ BK225.out) hb); have n8_ := Aside0.mk (blk_below (g := gb246) (o := .cells #[.int .i64 t235, .int .i64 t236, .slice Ao24 t237.length co24, .slice Ao25 t240.length co25] 25 (0, 0)) (kb_ BK246.out) hb); have n9_ := Aside0.mk (below_step (hb2_ HB.out GE225.out GE246.out) hb); have n10_ := Aside0.mk (hbox); have n11_ := Aside0.mk ((by rw [hg]; exact (below_size (hb2_ HB.out GE225.out GE246.out)) : w.heap.size ≤ gb255)); have n12_ := Aside0.mk ((by rw [hg]; exact (below_size (hb2_ HB.out GE225.out GE246.out)) : w.heap.size ≤ gb255)); have n13_ := Aside0.mk ((by rw [hg]; exact Nat.ne_of_lt (blk_lt (g := gb225) (o := .cells #[.int .i64 a0_0, .int .i64 a0_1, .slice A0_2 l0_2.length c0_2, .slice A0_3 l0_3.length c0_3] 39 (0, 0)) (kb_ BK225.out)) : gb225 ≠ gb255)); have n14_ := Aside0.mk ((by rw [hg]; exact Nat.ne_of_gt (blk_lt (g := gb225) (o := .cells #[.int .i64 a0_0, .int .i64 a0_1, .slice A0_2 l0_2.length c0_2, .slice A0_3 l0_3.length c0_3] 39 (0, 0)) (kb_ BK225.out)) : gb255 ≠ gb225)); have n15_ := Aside0.mk ((by rw [hg]; exact Nat.ne_of_lt (blk_lt (g := gb246) (o := .cells #[.int .i64 t235, .int .i64 t236, .slice Ao24 t237.length co24, .slice Ao25 t240.length co25] 25 (0, 0)) (kb_ BK246.out)) : gb246 ≠ gb255)); have n16_ := Aside0.mk ((by rw [hg]; exact Nat.ne_of_gt (blk_lt (g := gb246) (o := .cells #[.int .i64 t235, .int .i64 t236, .slice Ao24 t237.length co24, .slice Ao25 t240.length co25] 25 (0, 0)) (kb_ BK246.out)) : gb255 ≠ gb246)); clear HO231; clear HO234; clear HO239; clear HO242; clear HO245; clear HO251; clear HO254; clear BK225; clear BK246; clear HB; have HO231 := n0_; have HO234 := n1_; have HO239 := n2_; have HO242 := n3_; have HO245 := n4_; have HO251 := n5_; have HO254 := n6_; have BK225 := n7_; have BK246 := n8_; have HB := n9_; have BK255 := n10_; have GW255 := n11_; have GE255 := n12_; have NB225_255 := n13_; have NB255_225 := n14_; have NB246_255 := n15_; have NB255_246 := n16_; clear n0_ n1_ n2_ n3_ n4_ n5_ n6_ n7_ n8_ n9_ n10_ n11_ n12_ n13_ n14_ n15_ n16_; clear hb hbox hg; have hnb29 := NB255_225.out; have hnc29 := NB225_255.out; have hnb30 := NB255_246.out; have hnc30 := NB246_255.out; have hcz31_0 : w28.cell? ⟨gb255, 0, none⟩ = some (.int .i64 0) := (blk_cell BK255.out 0).trans rfl; have hcz31_1 : w28.cell? ⟨gb255, 1, none⟩ = some (.int .i64 0) := (blk_cell BK255.out 1).trans rfl; have hcz31_2 : w28.cell? ⟨gb255, 2, none⟩ = some (.slice none 0 0) := (blk_cell BK255.out 2).trans rfl; have hcz31_3 : w28.cell? ⟨gb255, 3, none⟩ = some (.slice none 0 0) := (blk_cell BK255.out 3).trans rfl; have hfz31_0 := blk_frozen BK255.out 0; have hfz31_1 := blk_frozen BK255.out 1; have hfz31_2 := blk_frozen BK255.out 2; have hfz31_3 := blk_frozen BK255.out 3; obtain ⟨Ao32, co32, eo32⟩ := Kd.R_slice HO251.out; subst eo32; obtain ⟨Ao33, co33, eo33⟩ := Kd.R_slice HO254.out; subst eo33) | ((with_reducible refine gate_callee (f := 14) rfl ?_); refine goesL_ (some 33) rfl rfl Try.func14 (by kernel_rfl) rfl #[.agg #[.int .i64 t247, .int .i64 t248, .slice Ao32 t249.length co32, .slice Ao33 t252.length co33], .int .i64 a1] rfl ar_ ?_; (with_reducible refine (impl_EarRead.calls k t247 t248 _ _ t249 _ _ t252 a1 t256 t257 t258 t261 t264 _ ?side1 ?side2 ?side3 ?side4 A11.out).mono ?_); (case side1 => refine (Kd.R_reads' (e := 5) (base := w.heap.size) (ok := fun k_ => (((True ∧ some k_ ≠ (.slice Ao18 t229.length co18 : Value).ownBlock) ∧ some k_ ≠ (.slice Ao24 t237.length co24 : Value).ownBlock) ∧ some k_ ≠ (v244 : Value).ownBlock)) (n := t249.length) (c := co32) ?_).2.2; exact (by refine kR_ ?_; exact (Kd.R_mono (Kd.R_f gb255 3 (.slice Ao33 t252.length co33) (Kd.R_f gb255 2 (.slice Ao32 t249.length co32) (Kd.R_f gb255 1 (.int .i64 t248) (Kd.R_f gb255 0 (.int .i64 t247) (Kd.R_types HO251.out BK255.out (by decide)))))) (fun _ h_ => op1_ h_)))); (case side2 => exact (Kd.R_reads' HO251.out).2.1); (case side3 => refine (Kd.R_reads' (e := 70) (base := w.heap.size) (ok := fun k_ => ((True ∧ some k_ ≠ (.slice Ao19 t232.length co19 : Value).ownBlock) ∧ some k_ ≠ (.slice Ao25 t240.length co25 : Value).ownBlock)) (n := t252.length) (c := co33) ?_).2.2; exact (by refine kR_ ?_; exact (Kd.R_mono (Kd.R_f gb255 3 (.slice Ao33 t252.length co33) (Kd.R_f gb255 2 (.slice Ao32 t249.length co32) (Kd.R_f gb255 1 (.int .i64 t248) (Kd.R_f gb255 0 (.int .i64 t247) (Kd.R_types HO254.out BK255.out (by decide)))))) (fun _ h_ => op1_ h_)))); (case side4 => exact (Kd.R_reads' HO254.out).2.1); rintro e w34 ⟨v259, v262, v265, rfl, ho0, ho1, ho2, hb⟩; refine ⟨_, rfl, ?_⟩; have n0_ := Aside0.mk (Kd.R_mono (Kd.R_told (Kd.R_told (Kd.R_old (by refine kR_ ?_; exact (Kd.R_mono (Kd.R_f gb255 3 (.slice Ao33 t252.length co33) (Kd.R_f gb255 2 (.slice Ao32 t249.length co32) (Kd.R_f gb255 1 (.int .i64 t248) (Kd.R_f gb255 0 (.int .i64 t247) (Kd.R_types HO231.out BK255.out (by decide)))))) (fun _ h_ => op1_ h_))) hb) (Kd.R_base ho0)) (Kd.R_base ho2)) (fun _ h_ => op1_ h_)); have n1_ := Aside0.mk (Kd.R_elder' (by refine kR_ ?_; exact (Kd.R_mono (Kd.R_f gb255 3 (.slice Ao33 t252.length co33) (Kd.R_f gb255 2 (.slice Ao32 t249.length co32) (Kd.R_f gb255 1 (.int .i64 t248) (Kd.R_f gb255 0 (.int .i64 t247) (Kd.R_types HO234.out BK255.out (by decide)))))) (fun _ h_ => op1_ h_))) (Kd.R_base ho1) hb); have n2_ := Aside0.mk (Kd.R_mono (Kd.R_told (Kd.R_told (Kd.R_old (by refine kR_ ?_; exact (Kd.R_mono (Kd.R_f gb255 3 (.slice Ao33 t252.length co33) (Kd.R_f gb255 2 (.slice Ao32 t249.length co32) (Kd.R_f gb255 1 (.int .i64 t248) (Kd.R_f gb255 0 (.int .i64 t247) (Kd.R_types HO239.out BK255.out (by decide)))))) (fun _ h_ => op1_ h_))) hb) (Kd.R_base ho0)) (Kd.R_base ho2)) (fun _ h_ => op1_ h_)); have n3_ := Aside0.mk (Kd.R_elder' (by refine kR_ ?_; exact (Kd.R_mono (Kd.R_f gb255 3 (.slice Ao33 t252.length co33) (Kd.R_f gb255 2 (.slice Ao32 t249.length co32) (Kd.R_f gb255 1 (.int .i64 t248) (Kd.R_f gb255 0 (.int .i64 t247) (Kd.R_types HO242.out BK255.out (by decide)))))) (fun _ h_ => op1_ h_))) (Kd.R_base ho1) hb); have n4_ := Aside0.mk (Kd.R_mono (Kd.R_told (Kd.R_told (Kd.R_old (by refine kR_ ?_; exact (Kd.R_mono (Kd.R_f gb255 3 (.slice Ao33 t252.length co33) (Kd.R_f gb255 2 (.slice Ao32 t249.length co32) (Kd.R_f gb255 1 (.int .i64 t248) (Kd.R_f gb255 0 (.int .i64 t247) (Kd.R_types HO245.out BK255.out (by decide)))))) (fun _ h_ => op1_ h_))) hb) (Kd.R_base ho0)) (Kd.R_base ho2)) (fun _ h_ => op1_ h_)); have n5_ := Aside0.mk (Kd.R_mono (Kd.R_told (Kd.R_told (Kd.R_old (by refine kR_ ?_; exact (Kd.R_mono (Kd.R_f gb255 3 (.slice Ao33 t252.length co33) (Kd.R_f gb255 2 (.slice Ao32 t249.length co32) (Kd.R_f gb255 1 (.int .i64 t248) (Kd.R_f gb255 0 (.int .i64 t247) (Kd.R_types HO251.out BK255.out (by decide)))))) (fun _ h_ => op1_ h_))) hb) (Kd.R_base ho0)) (Kd.R_base ho2)) (fun _ h_ => op1_ h_)); have n6_ := Aside0.mk (Kd.R_elder' (by refine kR_ ?_; exact (Kd.R_mono (Kd.R_f gb255 3 (.slice Ao33 t252.length co33) (Kd.R_f gb255 2 (.slice Ao32 t249.length co32) (Kd.R_f gb255 1 (.int .i64 t248) (Kd.R_f gb255 0 (.int .i64 t247) (Kd.R_types HO254.out BK255.out (by decide)))))) (fun _ h_ => op1_ h_))) (Kd.R_base ho1) hb); have n7_ := Aside0.mk (Kd.R_lower (Kd.R_new' (Kd.R_new' (Kd.R_new' (Kd.R_new' ho0 (Kd.R_lt (by refine kR_ ?_; exact (Kd.R_mono (Kd.R_f gb255 3 (.slice Ao33 t252.length co33) (Kd.R_f gb255 2 (.slice Ao32 t249.length co32) (Kd.R_f gb255 1 (.int .i64 t248) (Kd.R_f gb255 0 (.int .i64 t247) (Kd.R_types HO231.out BK255.out (by decide)))))) (fun _ h_ => op1_ h_))))) (Kd.R_lt (by refine kR_ ?_; exact (Kd.R_mono (Kd.R_f gb255 3 (.slice Ao33 t252.length co33) (Kd.R_f gb255 2 (.slice Ao32 t249.length co32) (Kd.R_f gb255 1 (.int .i64 t248) (Kd.R_f gb255 0 (.int .i64 t247) (Kd.R_types HO239.out BK255.out (by decide)))))) (fun _ h_ => op1_ h_))))) (Kd.R_lt (by refine kR_ ?_; exact (Kd.R_mono (Kd.R_f gb255 3 (.slice Ao33 t252.length co33) (Kd.R_f gb255 2 (.slice Ao32 t249.length co32) (Kd.R_f gb255 1 (.int .i64 t248) (Kd.R_f gb255 0 (.int .i64 t247) (Kd.R_types HO245.out BK255.out (by decide)))))) (fun _ h_ => op1_ h_))))) (Kd.R_lt (by refine kR_ ?_; exact (Kd.R_mono (Kd.R_f gb255 3 (.slice Ao33 t252.length co33) (Kd.R_f gb255 2 (.slice Ao32 t249.length co32) (Kd.R_f gb255 1 (.int .i64 t248) (Kd.R_f gb255 0 (.int .i64 t247) (Kd.R_types HO251.out BK255.out (by decide)))))) (fun _ h_ => op1_ h_))))) (below_size (hb3_ HB.out GE225.out GE246.out GE255.out))); have n8_ := Aside0.mk (Kd.R_lower (Kd.R_new' (Kd.R_new' (Kd.R_new' ho1 (Kd.R_lt (by refine kR_ ?_; exact (Kd.R_mono (Kd.R_f gb255 3 (.slice Ao33 t252.length co33) (Kd.R_f gb255 2 (.slice Ao32 t249.length co32) (Kd.R_f gb255 1 (.int .i64 t248) (Kd.R_f gb255 0 (.int .i64 t247) (Kd.R_types HO234.out BK255.out (by decide)))))) (fun _ h_ => op1_ h_))))) (Kd.R_lt (by refine kR_ ?_; exact (Kd.R_mono (Kd.R_f gb255 3 (.slice Ao33 t252.length co33) (Kd.R_f gb255 2 (.slice Ao32 t249.length co32) (Kd.R_f gb255 1 (.int .i64 t248) (Kd.R_f gb255 0 (.int .i64 t247) (Kd.R_types HO242.out BK255.out (by decide)))))) (fun _ h_ => op1_ h_))))) (Kd.R_lt (by refine kR_ ?_; exact (Kd.R_mono (Kd.R_f gb255 3 (.slice Ao33 t252.length co33) (Kd.R_f gb255 2 (.slice Ao32 t249.length co32) (Kd.R_f gb255 1 (.int .i64 t248) (Kd.R_f gb255 0 (.int .i64 t247) (Kd.R_types HO254.out BK255.out (by decide)))))) (fun _ h_ => op1_ h_))))) (below_size (hb3_ HB.out GE225.out GE246.out GE255.out))); have n9_ := Aside0.mk (Kd.R_lower (Kd.R_new' (Kd.R_new' (Kd.R_new' (Kd.R_new' ho2 (Kd.R_lt (by refine kR_ ?_; exact (Kd.R_mono (Kd.R_f gb255 3 (.slice Ao33 t252.length co33) (Kd.R_f gb255 2 (.slice Ao32 t249.length co32) (Kd.R_f gb255 1 (.int .i64 t248) (Kd.R_f gb255 0 (.int .i64 t247) (Kd.R_types HO231.out BK255.out (by decide)))))) (fun _ h_ => op1_ h_))))) (Kd.R_lt (by refine kR_ ?_; exact (Kd.R_mono (Kd.R_f gb255 3 (.slice Ao33 t252.length co33) (Kd.R_f gb255 2 (.slice Ao32 t249.length co32) (Kd.R_f gb255 1 (.int .i64 t248) (Kd.R_f gb255 0 (.int .i64 t247) (Kd.R_types HO239.out BK255.out (by decide)))))) (fun _ h_ => op1_ h_))))) (Kd.R_lt (by refine kR_ ?_; exact (Kd.R_mono (Kd.R_f gb255 3 (.slice Ao33 t252.length co33) (Kd.R_f gb255 2 (.slice Ao32 t249.length co32) (Kd.R_f gb255 1 (.int .i64 t248) (Kd.R_f gb255 0 (.int .i64 t247) (Kd.R_types HO245.out BK255.out (by decide)))))) (fun _ h_ => op1_ h_))))) (Kd.R_lt (by refine kR_ ?_; exact (Kd.R_mono (Kd.R_f gb255 3 (.slice Ao33 t252.length co33) (Kd.R_f gb255 2 (.slice Ao32 t249.length co32) (Kd.R_f gb255 1 (.int .i64 t248) (Kd.R_f gb255 0 (.int .i64 t247) (Kd.R_types HO251.out BK255.out (by decide)))))) (fun _ h_ => op1_ h_))))) (below_size (hb3_ HB.out GE225.out GE246.out GE255.out))); have n10_ := Aside0.mk (blk_below (g := gb225) (o := .cells #[.int .i64 a0_0, .int .i64 a0_1, .slice A0_2 l0_2.length c0_2, .slice A0_3 l0_3.length c0_3] 39 (0, 0)) (by refine kb_ ?_; refine blk_far ?_ NB225_255.out _; refine kb_ ?_; refine blk_far ?_ NB225_255.out _; refine kb_ ?_; refine blk_far ?_ NB225_255.out _; refine kb_ ?_; refine blk_far ?_ NB225_255.out _; refine kb_ ?_; exact BK225.out) hb); have n11_ := Aside0.mk (blk_below (g := gb246) (o := .cells #[.int .i64 t235, .int .i64 t236, .slice Ao24 t237.length co24, .slice Ao25 t240.length co25] 25 (0, 0)) (by refine kb_ ?_; refine blk_far ?_ NB246_255.out _; refine kb_ ?_; refine blk_far ?_ NB246_255.out _; refine kb_ ?_; refine blk_far ?_ NB246_255.out _; refine kb_ ?_; refine blk_far ?_ NB246_255.out _; refine kb_ ?_; exact BK246.out) hb); have n12_ := Aside0.mk (blk_below (g := gb255) (o := .cells #[.int .i64 t247, .int .i64 t248, .slice Ao32 t249.length co32, .slice Ao33 t252.length co33] 25 (0, 0)) (by refine kb_ ?_; refine blk_put (cs := #[.int .i64 t247, .int .i64 t248, .slice Ao32 t249.length co32, .slice none 0 0]) ?_ 3 _ rfl; refine kb_ ?_; refine blk_put (cs := #[.int .i64 t247, .int .i64 t248, .slice none 0 0, .slice none 0 0]) ?_ 2 _ rfl; refine kb_ ?_; refine blk_put (cs := #[.int .i64 t247, .int .i64 0, .slice none 0 0, .slice none 0 0]) ?_ 1 _ rfl; refine kb_ ?_; refine blk_put (cs := #[.int .i64 0, .int .i64 0, .slice none 0 0, .slice none 0 0]) ?_ 0 _ rfl; refine kb_ ?_; exact BK255.out) hb); have n13_ := Aside0.mk (below_step (hb3_ HB.out GE225.out GE246.out GE255.out) hb); clear HO231; clear HO234; clear HO239; clear HO242; clear HO245; clear HO251; clear HO254; clear BK225; clear BK246; clear BK255; clear HB; have HO231 := n0_; have HO234 := n1_; have HO239 := n2_; have HO242 := n3_; have HO245 := n4_; have HO251 := n5_; have HO254 := n6_; have HO260 := n7_; have HO263 := n8_; have HO266 := n9_; have BK225 := n10_; have BK246 := n11_; have BK255 := n12_; have HB := n13_; clear n0_ n1_ n2_ n3_ n4_ n5_ n6_ n7_ n8_ n9_ n10_ n11_ n12_ n13_; (try clear hb); (try clear hb2); (try clear hk); (try clear hi); (try clear ho0); (try clear ho1); (try clear ho2)) | ((with_reducible refine gate_dst (N := 9) rfl ?_); refine box_event ?hg (N := 9) ?hd (cs := #[.int .i64 0, .int .i64 0, .slice none 0 0, .slice none 0 0]) (t := 25) ?hr ?_; (case hd => rfl); (case hg => rfl); (case hr => first | (go_simp; done) | (go_simp; rfl)); intro gb267 hg w35 hbox hb; have n0_ := Aside0.mk (Kd.R_below (kR_ HO231.out) hb); have n1_ := Aside0.mk (Kd.R_below (kR_ HO234.out) hb); have n2_ := Aside0.mk (Kd.R_below (kR_ HO239.out) hb); have n3_ := Aside0.mk (Kd.R_below (kR_ HO242.out) hb); have n4_ := Aside0.mk (Kd.R_below (kR_ HO245.out) hb); have n5_ := Aside0.mk (Kd.R_below (kR_ HO251.out) hb); have n6_ := Aside0.mk (Kd.R_below (kR_ HO254.out) hb); have n7_ := Aside0.mk (Kd.R_below (kR_ HO260.out) hb); have n8_ := Aside0.mk (Kd.R_below (kR_ HO263.out) hb); have n9_ := Aside0.mk (Kd.R_below (kR_ HO266.out) hb); have n10_ := Aside0.mk (blk_below (g := gb225) (o := .cells #[.int .i64 a0_0, .int .i64 a0_1, .slice A0_2 l0_2.length c0_2, .slice A0_3 l0_3.length c0_3] 39 (0, 0)) (kb_ BK225.out) hb); have n11_ := Aside0.mk (blk_below (g := gb246) (o := .cells #[.int .i64 t235, .int .i64 t236, .slice Ao24 t237.length co24, .slice Ao25 t240.length co25] 25 (0, 0)) (kb_ BK246.out) hb); have n12_ := Aside0.mk (blk_below (g := gb255) (o := .cells #[.int .i64 t247, .int .i64 t248, .slice Ao32 t249.length co32, .slice Ao33 t252.length co33] 25 (0, 0)) (kb_ BK255.out) hb); have n13_ := Aside0.mk (below_step (hb3_ HB.out GE225.out GE246.out GE255.out) hb); have n14_ := Aside0.mk (hbox); have n15_ := Aside0.mk ((by rw [hg]; exact (below_size (hb3_ HB.out GE225.out GE246.out GE255.out)) : w.heap.size ≤ gb267)); have n16_ := Aside0.mk ((by rw [hg]; exact (below_size (hb3_ HB.out GE225.out GE246.out GE255.out)) : w.heap.size ≤ gb267)); have n17_ := Aside0.mk ((by rw [hg]; exact Nat.ne_of_lt (blk_lt (g := gb225) (o := .cells #[.int .i64 a0_0, .int .i64 a0_1, .slice A0_2 l0_2.length c0_2, .slice A0_3 l0_3.length c0_3] 39 (0, 0)) (kb_ BK225.out)) : gb225 ≠ gb267)); have n18_ := Aside0.mk ((by rw [hg]; exact Nat.ne_of_gt (blk_lt (g := gb225) (o := .cells #[.int .i64 a0_0, .int .i64 a0_1, .slice A0_2 l0_2.length c0_2, .slice A0_3 l0_3.length c0_3] 39 (0, 0)) (kb_ BK225.out)) : gb267 ≠ gb225)); have n19_ := Aside0.mk ((by rw [hg]; exact Nat.ne_of_lt (blk_lt (g := gb246) (o := .cells #[.int .i64 t235, .int .i64 t236, .slice Ao24 t237.length co24, .slice Ao25 t240.length co25] 25 (0, 0)) (kb_ BK246.out)) : gb246 ≠ gb267)); have n20_ := Aside0.mk ((by rw [hg]; exact Nat.ne_of_gt (blk_lt (g := gb246) (o := .cells #[.int .i64 t235, .int .i64 t236, .slice Ao24 t237.length co24, .slice Ao25 t240.length co25] 25 (0, 0)) (kb_ BK246.out)) : gb267 ≠ gb246)); have n21_ := Aside0.mk ((by rw [hg]; exact Nat.ne_of_lt (blk_lt (g := gb255) (o := .cells #[.int .i64 t247, .int .i64 t248, .slice Ao32 t249.length co32, .slice Ao33 t252.length co33] 25 (0, 0)) (kb_ BK255.out)) : gb255 ≠ gb267)); have n22_ := Aside0.mk ((by rw [hg]; exact Nat.ne_of_gt (blk_lt (g := gb255) (o := .cells #[.int .i64 t247, .int .i64 t248, .slice Ao32 t249.length co32, .slice Ao33 t252.length co33] 25 (0, 0)) (kb_ BK255.out)) : gb267 ≠ gb255)); clear HO231; clear HO234; clear HO239; clear HO242; clear HO245; clear HO251; clear HO254; clear HO260; clear HO263; clear HO266; clear BK225; clear BK246; clear BK255; clear HB; have HO231 := n0_; have HO234 := n1_; have HO239 := n2_; have HO242 := n3_; have HO245 := n4_; have HO251 := n5_; have HO254 := n6_; have HO260 := n7_; have HO263 := n8_; have HO266 := n9_; have BK225 := n10_; have BK246 := n11_; have BK255 := n12_; have HB := n13_; have BK267 := n14_; have GW267 := n15_; have GE267 := n16_; have NB225_267 := n17_; have NB267_225 := n18_; have NB246_267 := n19_; have NB267_246 := n20_; have NB255_267 := n21_; have NB267_255 := n22_; clear n0_ n1_ n2_ n3_ n4_ n5_ n6_ n7_ n8_ n9_ n10_ n11_ n12_ n13_ n14_ n15_ n16_ n17_ n18_ n19_ n20_ n21_ n22_; clear hb hbox hg; have hnb36 := NB267_225.out; have hnc36 := NB225_267.out; have hnb37 := NB267_246.out; have hnc37 := NB246_267.out; have hnb38 := NB267_255.out; have hnc38 := NB255_267.out; have hcz39_0 : w35.cell? ⟨gb267, 0, none⟩ = some (.int .i64 0) := (blk_cell BK267.out 0).trans rfl; have hcz39_1 : w35.cell? ⟨gb267, 1, none⟩ = some (.int .i64 0) := (blk_cell BK267.out 1).trans rfl; have hcz39_2 : w35.cell? ⟨gb267, 2, none⟩ = some (.slice none 0 0) := (blk_cell BK267.out 2).trans rfl; have hcz39_3 : w35.cell? ⟨gb267, 3, none⟩ = some (.slice none 0 0) := (blk_cell BK267.out 3).trans rfl; have hfz39_0 := blk_frozen BK267.out 0; have hfz39_1 := blk_frozen BK267.out 1; have hfz39_2 := blk_frozen BK267.out 2; have hfz39_3 := blk_frozen BK267.out 3; obtain ⟨Ao40, co40, eo40⟩ := Kd.R_slice HO260.out; subst eo40; obtain ⟨Ao41, co41, eo41⟩ := Kd.R_slice HO263.out; subst eo41))
    (try simp only [Act.put, List.setIfInBounds_toArray, List.set_cons_zero, List.set_cons_succ])
    go_cut [45] (fun v45 wc => ∃ (kq : Nat) (x45_11 : Bool), v45 = .bool x45_11 ∧ Aside0 (laws_FnExactEarRead.j0 kq a1 t243 t264 x45_11 a0_0 a0_1 l0_2 l0_3 t235 t236 t237 t240 t247 t248 t249 t252 t256 t257 t258 t261 = some r) ∧ Aside0 (kq ≤ k) ∧ Aside0 (Kd.R (Kd.int .u8) 5 wc w.heap.size (fun k_ => some k_ ≠ (v265 : Value).ownBlock ∧ some k_ ≠ ((.slice Ao24 t237.length co24) : Value).ownBlock ∧ some k_ ≠ ((.slice Ao32 t249.length co32) : Value).ownBlock ∧ some k_ ≠ ((.slice Ao40 t258.length co40) : Value).ownBlock) v244 t243) ∧ Aside0 (Kd.R (Kd.int .u8) 5 wc w.heap.size (fun k_ => some k_ ≠ (v244 : Value).ownBlock ∧ some k_ ≠ ((.slice Ao24 t237.length co24) : Value).ownBlock ∧ some k_ ≠ ((.slice Ao32 t249.length co32) : Value).ownBlock ∧ some k_ ≠ ((.slice Ao40 t258.length co40) : Value).ownBlock) v265 t264) ∧ Aside0 (Kd.R (Kd.int .u8) 5 wc w.heap.size (fun k_ => some k_ ≠ (v244 : Value).ownBlock ∧ some k_ ≠ (v265 : Value).ownBlock ∧ some k_ ≠ ((.slice Ao32 t249.length co32) : Value).ownBlock ∧ some k_ ≠ ((.slice Ao40 t258.length co40) : Value).ownBlock) (.slice Ao24 t237.length co24) t237) ∧ Aside0 (Kd.R k70 70 wc w.heap.size (fun k_ => some k_ ≠ ((.slice Ao33 t252.length co33) : Value).ownBlock ∧ some k_ ≠ ((.slice Ao41 t261.length co41) : Value).ownBlock) (.slice Ao25 t240.length co25) t240) ∧ Aside0 (Kd.R (Kd.int .u8) 5 wc w.heap.size (fun k_ => some k_ ≠ (v244 : Value).ownBlock ∧ some k_ ≠ (v265 : Value).ownBlock ∧ some k_ ≠ ((.slice Ao24 t237.length co24) : Value).ownBlock ∧ some k_ ≠ ((.slice Ao40 t258.length co40) : Value).ownBlock) (.slice Ao32 t249.length co32) t249) ∧ Aside0 (Kd.R k70 70 wc w.heap.size (fun k_ => some k_ ≠ ((.slice Ao25 t240.length co25) : Value).ownBlock ∧ some k_ ≠ ((.slice Ao41 t261.length co41) : Value).ownBlock) (.slice Ao33 t252.length co33) t252) ∧ Aside0 (Kd.R (Kd.int .u8) 5 wc w.heap.size (fun k_ => some k_ ≠ (v244 : Value).ownBlock ∧ some k_ ≠ (v265 : Value).ownBlock ∧ some k_ ≠ ((.slice Ao24 t237.length co24) : Value).ownBlock ∧ some k_ ≠ ((.slice Ao32 t249.length co32) : Value).ownBlock) (.slice Ao40 t258.length co40) t258) ∧ Aside0 (Kd.R k70 70 wc w.heap.size (fun k_ => some k_ ≠ ((.slice Ao25 t240.length co25) : Value).ownBlock ∧ some k_ ≠ ((.slice Ao33 t252.length co33) : Value).ownBlock) (.slice Ao41 t261.length co41) t261) ∧ Aside0 (wc.heap[gb225]? = some (.cells #[.int .i64 a0_0, .int .i64 a0_1, (.slice A0_2 l0_2.length c0_2), (.slice A0_3 l0_3.length c0_3)] 39 (0, 0))) ∧ Aside0 (wc.heap[gb246]? = some (.cells #[.int .i64 t235, .int .i64 t236, (.slice Ao24 t237.length co24), (.slice Ao25 t240.length co25)] 25 (0, 0))) ∧ Aside0 (wc.heap[gb255]? = some (.cells #[.int .i64 t247, .int .i64 t248, (.slice Ao32 t249.length co32), (.slice Ao33 t252.length co33)] 25 (0, 0))) ∧ Aside0 (wc.heap[gb267]? = some (.cells #[.int .i64 t256, .int .i64 t257, (.slice Ao40 t258.length co40), (.slice Ao41 t261.length co41)] 25 (0, 0))) ∧ Aside0 (Below w.heap.size w wc))
    case first =>
      have H := HC12.out
      clear HC12
      replace H := Option.bind_eq_some_iff.mp H
      obtain ⟨t268, A420, H⟩ := H
      replace H : (if t268 = true then ((laws_eqByteS.f k t264 t243).bind fun t269 => (laws_FnExactEarRead.j0 k a1 t243 t264 (!t269) a0_0 a0_1 l0_2 l0_3 t235 t236 t237 t240 t247 t248 t249 t252 t256 t257 t258 t261)) else (laws_FnExactEarRead.j0 k a1 t243 t264 true a0_0 a0_1 l0_2 l0_3 t235 t236 t237 t240 t247 t248 t249 t252 t256 t257 t258 t261)) = some r := H
      have A42 := Aside0.mk A420
      clear A420
      by_cases c43 : t268 = true
      · subst c43
        have H1 : ((laws_eqByteS.f k t264 t243).bind fun t269 => (laws_FnExactEarRead.j0 k a1 t243 t264 (!t269) a0_0 a0_1 l0_2 l0_3 t235 t236 t237 t240 t247 t248 t249 t252 t256 t257 t258 t261)) = some r := by rw [if_pos rfl] at H; exact H
        clear H
        have H := H1
        clear H1
        replace H := Option.bind_eq_some_iff.mp H
        obtain ⟨t269, A440, H⟩ := H
        replace H : (laws_FnExactEarRead.j0 k a1 t243 t264 (!t269) a0_0 a0_1 l0_2 l0_3 t235 t236 t237 t240 t247 t248 t249 t252 t256 t257 t258 t261) = some r := H
        have A44 := Aside0.mk A440
        clear A440
        have H' := Aside0.mk H
        clear H
        have hnb45 := NB267_225.out
        have hnc45 := NB225_267.out
        have hnb46 := NB267_246.out
        have hnc46 := NB246_267.out
        have hnb47 := NB267_255.out
        have hnc47 := NB255_267.out
        have hcz48_0 : w35.cell? ⟨gb267, 0, none⟩ = some (.int .i64 0) := (blk_cell BK267.out 0).trans rfl
        have hcz48_1 : w35.cell? ⟨gb267, 1, none⟩ = some (.int .i64 0) := (blk_cell BK267.out 1).trans rfl
        have hcz48_2 : w35.cell? ⟨gb267, 2, none⟩ = some (.slice none 0 0) := (blk_cell BK267.out 2).trans rfl
        have hcz48_3 : w35.cell? ⟨gb267, 3, none⟩ = some (.slice none 0 0) := (blk_cell BK267.out 3).trans rfl
        have hfz48_0 := blk_frozen BK267.out 0
        have hfz48_1 := blk_frozen BK267.out 1
        have hfz48_2 := blk_frozen BK267.out 2
        have hfz48_3 := blk_frozen BK267.out 3
        have hnb49 := NB246_225.out
        have hnc49 := NB225_246.out
        have hnb50 := NB246_255.out
        have hnc50 := NB255_246.out
        have hcz51_0 : w35.cell? ⟨gb246, 0, none⟩ = some (.int .i64 t235) := (blk_cell BK246.out 0).trans rfl
        have hcz51_1 : w35.cell? ⟨gb246, 1, none⟩ = some (.int .i64 t236) := (blk_cell BK246.out 1).trans rfl
        have hcz51_2 : w35.cell? ⟨gb246, 2, none⟩ = some (.slice Ao24 t237.length co24) := (blk_cell BK246.out 2).trans rfl
        have hcz51_3 : w35.cell? ⟨gb246, 3, none⟩ = some (.slice Ao25 t240.length co25) := (blk_cell BK246.out 3).trans rfl
        have hfz51_0 := blk_frozen BK246.out 0
        have hfz51_1 := blk_frozen BK246.out 1
        have hfz51_2 := blk_frozen BK246.out 2
        have hfz51_3 := blk_frozen BK246.out 3
        go_wp2_with (first | ((with_reducible refine gate_callee (f := 21) rfl ?_); refine goesL_ (some 38) rfl rfl Try.func21 (by kernel_rfl) rfl #[.agg #[.int .i64 t256, .int .i64 t257, .slice Ao40 t258.length co40, .slice Ao41 t261.length co41], .agg #[.int .i64 t235, .int .i64 t236, .slice Ao24 t237.length co24, .slice Ao25 t240.length co25]] rfl ar_ ?_; (with_reducible refine (laws_eqEar.calls k t256 t257 _ _ t258 _ _ t261 t235 t236 _ _ t237 _ _ t240 true _ ?side1 ?side2 ?side3 ?side4 ?side5 ?side6 ?side7 ?side8 A42.out).mono ?_); (case side1 => refine (Kd.R_reads' (e := 5) (base := w.heap.size) (ok := fun k_ => ((((some k_ ≠ (v265 : Value).ownBlock ∧ some k_ ≠ (.slice Ao18 t229.length co18 : Value).ownBlock) ∧ some k_ ≠ (.slice Ao24 t237.length co24 : Value).ownBlock) ∧ some k_ ≠ (v244 : Value).ownBlock) ∧ some k_ ≠ (.slice Ao32 t249.length co32 : Value).ownBlock)) (n := t258.length) (c := co40) ?_).2.2; exact (by refine kR_ ?_; exact (Kd.R_mono (Kd.R_f gb267 3 (.slice Ao41 t261.length co41) (Kd.R_f gb267 2 (.slice Ao40 t258.length co40) (Kd.R_f gb267 1 (.int .i64 t257) (Kd.R_f gb267 0 (.int .i64 t256) (Kd.R_types HO260.out BK267.out (by decide)))))) (fun _ h_ => op1_ h_)))); (case side2 => exact (Kd.R_reads' HO260.out).2.1); (case side3 => refine (Kd.R_reads' (e := 70) (base := w.heap.size) (ok := fun k_ => (((True ∧ some k_ ≠ (.slice Ao19 t232.length co19 : Value).ownBlock) ∧ some k_ ≠ (.slice Ao25 t240.length co25 : Value).ownBlock) ∧ some k_ ≠ (.slice Ao33 t252.length co33 : Value).ownBlock)) (n := t261.length) (c := co41) ?_).2.2; exact (by refine kR_ ?_; exact (Kd.R_mono (Kd.R_f gb267 3 (.slice Ao41 t261.length co41) (Kd.R_f gb267 2 (.slice Ao40 t258.length co40) (Kd.R_f gb267 1 (.int .i64 t257) (Kd.R_f gb267 0 (.int .i64 t256) (Kd.R_types HO263.out BK267.out (by decide)))))) (fun _ h_ => op1_ h_)))); (case side4 => exact (Kd.R_reads' HO263.out).2.1); (case side5 => refine (Kd.R_reads' (e := 5) (base := w.heap.size) (ok := fun k_ => ((((some k_ ≠ (v244 : Value).ownBlock ∧ some k_ ≠ (.slice Ao18 t229.length co18 : Value).ownBlock) ∧ some k_ ≠ (.slice Ao32 t249.length co32 : Value).ownBlock) ∧ some k_ ≠ (.slice Ao40 t258.length co40 : Value).ownBlock) ∧ some k_ ≠ (v265 : Value).ownBlock)) (n := t237.length) (c := co24) ?_).2.2; exact (by refine kR_ ?_; exact (Kd.R_mono (Kd.R_f gb267 3 (.slice Ao41 t261.length co41) (Kd.R_f gb267 2 (.slice Ao40 t258.length co40) (Kd.R_f gb267 1 (.int .i64 t257) (Kd.R_f gb267 0 (.int .i64 t256) (Kd.R_types HO239.out BK267.out (by decide)))))) (fun _ h_ => op1_ h_)))); (case side6 => exact (Kd.R_reads' HO239.out).2.1); (case side7 => refine (Kd.R_reads' (e := 70) (base := w.heap.size) (ok := fun k_ => (((True ∧ some k_ ≠ (.slice Ao19 t232.length co19 : Value).ownBlock) ∧ some k_ ≠ (.slice Ao33 t252.length co33 : Value).ownBlock) ∧ some k_ ≠ (.slice Ao41 t261.length co41 : Value).ownBlock)) (n := t240.length) (c := co25) ?_).2.2; exact (by refine kR_ ?_; exact (Kd.R_mono (Kd.R_f gb267 3 (.slice Ao41 t261.length co41) (Kd.R_f gb267 2 (.slice Ao40 t258.length co40) (Kd.R_f gb267 1 (.int .i64 t257) (Kd.R_f gb267 0 (.int .i64 t256) (Kd.R_types HO242.out BK267.out (by decide)))))) (fun _ h_ => op1_ h_)))); (case side8 => exact (Kd.R_reads' HO242.out).2.1); rintro e w52 ⟨rfl, hb⟩; refine ⟨_, rfl, ?_⟩; have n0_ := Aside0.mk (Kd.R_below (by refine kR_ ?_; exact (Kd.R_mono (Kd.R_f gb267 3 (.slice Ao41 t261.length co41) (Kd.R_f gb267 2 (.slice Ao40 t258.length co40) (Kd.R_f gb267 1 (.int .i64 t257) (Kd.R_f gb267 0 (.int .i64 t256) (Kd.R_types HO231.out BK267.out (by decide)))))) (fun _ h_ => op1_ h_))) hb); have n1_ := Aside0.mk (Kd.R_below (by refine kR_ ?_; exact (Kd.R_mono (Kd.R_f gb267 3 (.slice Ao41 t261.length co41) (Kd.R_f gb267 2 (.slice Ao40 t258.length co40) (Kd.R_f gb267 1 (.int .i64 t257) (Kd.R_f gb267 0 (.int .i64 t256) (Kd.R_types HO234.out BK267.out (by decide)))))) (fun _ h_ => op1_ h_))) hb); have n2_ := Aside0.mk (Kd.R_below (by refine kR_ ?_; exact (Kd.R_mono (Kd.R_f gb267 3 (.slice Ao41 t261.length co41) (Kd.R_f gb267 2 (.slice Ao40 t258.length co40) (Kd.R_f gb267 1 (.int .i64 t257) (Kd.R_f gb267 0 (.int .i64 t256) (Kd.R_types HO239.out BK267.out (by decide)))))) (fun _ h_ => op1_ h_))) hb); have n3_ := Aside0.mk (Kd.R_below (by refine kR_ ?_; exact (Kd.R_mono (Kd.R_f gb267 3 (.slice Ao41 t261.length co41) (Kd.R_f gb267 2 (.slice Ao40 t258.length co40) (Kd.R_f gb267 1 (.int .i64 t257) (Kd.R_f gb267 0 (.int .i64 t256) (Kd.R_types HO242.out BK267.out (by decide)))))) (fun _ h_ => op1_ h_))) hb); have n4_ := Aside0.mk (Kd.R_below (by refine kR_ ?_; exact (Kd.R_mono (Kd.R_f gb267 3 (.slice Ao41 t261.length co41) (Kd.R_f gb267 2 (.slice Ao40 t258.length co40) (Kd.R_f gb267 1 (.int .i64 t257) (Kd.R_f gb267 0 (.int .i64 t256) (Kd.R_types HO245.out BK267.out (by decide)))))) (fun _ h_ => op1_ h_))) hb); have n5_ := Aside0.mk (Kd.R_below (by refine kR_ ?_; exact (Kd.R_mono (Kd.R_f gb267 3 (.slice Ao41 t261.length co41) (Kd.R_f gb267 2 (.slice Ao40 t258.length co40) (Kd.R_f gb267 1 (.int .i64 t257) (Kd.R_f gb267 0 (.int .i64 t256) (Kd.R_types HO251.out BK267.out (by decide)))))) (fun _ h_ => op1_ h_))) hb); have n6_ := Aside0.mk (Kd.R_below (by refine kR_ ?_; exact (Kd.R_mono (Kd.R_f gb267 3 (.slice Ao41 t261.length co41) (Kd.R_f gb267 2 (.slice Ao40 t258.length co40) (Kd.R_f gb267 1 (.int .i64 t257) (Kd.R_f gb267 0 (.int .i64 t256) (Kd.R_types HO254.out BK267.out (by decide)))))) (fun _ h_ => op1_ h_))) hb); have n7_ := Aside0.mk (Kd.R_below (by refine kR_ ?_; exact (Kd.R_mono (Kd.R_f gb267 3 (.slice Ao41 t261.length co41) (Kd.R_f gb267 2 (.slice Ao40 t258.length co40) (Kd.R_f gb267 1 (.int .i64 t257) (Kd.R_f gb267 0 (.int .i64 t256) (Kd.R_types HO260.out BK267.out (by decide)))))) (fun _ h_ => op1_ h_))) hb); have n8_ := Aside0.mk (Kd.R_below (by refine kR_ ?_; exact (Kd.R_mono (Kd.R_f gb267 3 (.slice Ao41 t261.length co41) (Kd.R_f gb267 2 (.slice Ao40 t258.length co40) (Kd.R_f gb267 1 (.int .i64 t257) (Kd.R_f gb267 0 (.int .i64 t256) (Kd.R_types HO263.out BK267.out (by decide)))))) (fun _ h_ => op1_ h_))) hb); have n9_ := Aside0.mk (Kd.R_below (by refine kR_ ?_; exact (Kd.R_mono (Kd.R_f gb267 3 (.slice Ao41 t261.length co41) (Kd.R_f gb267 2 (.slice Ao40 t258.length co40) (Kd.R_f gb267 1 (.int .i64 t257) (Kd.R_f gb267 0 (.int .i64 t256) (Kd.R_types HO266.out BK267.out (by decide)))))) (fun _ h_ => op1_ h_))) hb); have n10_ := Aside0.mk (blk_below (g := gb225) (o := .cells #[.int .i64 a0_0, .int .i64 a0_1, .slice A0_2 l0_2.length c0_2, .slice A0_3 l0_3.length c0_3] 39 (0, 0)) (by refine kb_ ?_; refine blk_far ?_ NB225_267.out _; refine kb_ ?_; refine blk_far ?_ NB225_267.out _; refine kb_ ?_; refine blk_far ?_ NB225_267.out _; refine kb_ ?_; refine blk_far ?_ NB225_267.out _; refine kb_ ?_; exact BK225.out) hb); have n11_ := Aside0.mk (blk_below (g := gb246) (o := .cells #[.int .i64 t235, .int .i64 t236, .slice Ao24 t237.length co24, .slice Ao25 t240.length co25] 25 (0, 0)) (by refine kb_ ?_; refine blk_far ?_ NB246_267.out _; refine kb_ ?_; refine blk_far ?_ NB246_267.out _; refine kb_ ?_; refine blk_far ?_ NB246_267.out _; refine kb_ ?_; refine blk_far ?_ NB246_267.out _; refine kb_ ?_; exact BK246.out) hb); have n12_ := Aside0.mk (blk_below (g := gb255) (o := .cells #[.int .i64 t247, .int .i64 t248, .slice Ao32 t249.length co32, .slice Ao33 t252.length co33] 25 (0, 0)) (by refine kb_ ?_; refine blk_far ?_ NB255_267.out _; refine kb_ ?_; refine blk_far ?_ NB255_267.out _; refine kb_ ?_; refine blk_far ?_ NB255_267.out _; refine kb_ ?_; refine blk_far ?_ NB255_267.out _; refine kb_ ?_; exact BK255.out) hb); have n13_ := Aside0.mk (blk_below (g := gb267) (o := .cells #[.int .i64 t256, .int .i64 t257, .slice Ao40 t258.length co40, .slice Ao41 t261.length co41] 25 (0, 0)) (by refine kb_ ?_; refine blk_put (cs := #[.int .i64 t256, .int .i64 t257, .slice Ao40 t258.length co40, .slice none 0 0]) ?_ 3 _ rfl; refine kb_ ?_; refine blk_put (cs := #[.int .i64 t256, .int .i64 t257, .slice none 0 0, .slice none 0 0]) ?_ 2 _ rfl; refine kb_ ?_; refine blk_put (cs := #[.int .i64 t256, .int .i64 0, .slice none 0 0, .slice none 0 0]) ?_ 1 _ rfl; refine kb_ ?_; refine blk_put (cs := #[.int .i64 0, .int .i64 0, .slice none 0 0, .slice none 0 0]) ?_ 0 _ rfl; refine kb_ ?_; exact BK267.out) hb); have n14_ := Aside0.mk (below_step (hb4_ HB.out GE225.out GE246.out GE255.out GE267.out) hb); clear HO231; clear HO234; clear HO239; clear HO242; clear HO245; clear HO251; clear HO254; clear HO260; clear HO263; clear HO266; clear BK225; clear BK246; clear BK255; clear BK267; clear HB; have HO231 := n0_; have HO234 := n1_; have HO239 := n2_; have HO242 := n3_; have HO245 := n4_; have HO251 := n5_; have HO254 := n6_; have HO260 := n7_; have HO263 := n8_; have HO266 := n9_; have BK225 := n10_; have BK246 := n11_; have BK255 := n12_; have BK267 := n13_; have HB := n14_; clear n0_ n1_ n2_ n3_ n4_ n5_ n6_ n7_ n8_ n9_ n10_ n11_ n12_ n13_ n14_; (try clear hb); (try clear hb2); (try clear hk); (try clear hi); obtain ⟨Ao53, co53, eo53⟩ := Kd.R_slice HO266.out; subst eo53; obtain ⟨Ao54, co54, eo54⟩ := Kd.R_slice HO245.out; subst eo54) | (go_at_call 22; (with_reducible refine (laws_eqByteS.calls k _ _ t264 _ _ t243 t269 _ ?side1 ?side2 ?side3 ?side4 A44.out).mono ?_); (case side1 => exact kC_ (Kd.R_reads' HO266.out).2.2); (case side2 => exact (Kd.R_reads' HO266.out).2.1); (case side3 => exact kC_ (Kd.R_reads' HO245.out).2.2); (case side4 => exact (Kd.R_reads' HO245.out).2.1); rintro e w' ⟨rfl, ⟨nd, rfl⟩⟩))
        go_meet
        case rel => exact ⟨_, (!t269), (by first | rfl | (simp; done) | (simp [*]; done)), H', ⟨by first | omega | exact Nat.le_refl _⟩, ⟨by refine kR_ ?_; exact Kd.R_mono HO245.out (fun _ hk => op2_ hk)⟩, ⟨by refine kR_ ?_; exact Kd.R_mono HO266.out (fun _ hk => op2_ hk)⟩, ⟨by refine kR_ ?_; exact Kd.R_mono HO239.out (fun _ hk => op2_ hk)⟩, ⟨by refine kR_ ?_; exact Kd.R_mono HO242.out (fun _ hk => op2_ hk)⟩, ⟨by refine kR_ ?_; exact Kd.R_mono HO251.out (fun _ hk => op2_ hk)⟩, ⟨by refine kR_ ?_; exact Kd.R_mono HO254.out (fun _ hk => op2_ hk)⟩, ⟨by refine kR_ ?_; exact Kd.R_mono HO260.out (fun _ hk => op2_ hk)⟩, ⟨by refine kR_ ?_; exact Kd.R_mono HO263.out (fun _ hk => op2_ hk)⟩, ⟨by refine kb_ ?_; exact BK225.out⟩, ⟨by refine kb_ ?_; exact BK246.out⟩, ⟨by refine kb_ ?_; exact BK255.out⟩, ⟨by refine kb_ ?_; exact BK267.out⟩, ⟨by repeat (first | (with_reducible first | exact HB.out | apply below_alloc | apply pw_below_drewN | apply below_drew1 | refine below_set ?_ GE225.out | refine below_set ?_ GE246.out | refine below_set ?_ GE255.out | refine below_set ?_ GE267.out) | exact HB.out)⟩⟩
      · replace c43 := Bool.eq_false_iff.mpr c43
        subst c43
        have H1 : (laws_FnExactEarRead.j0 k a1 t243 t264 true a0_0 a0_1 l0_2 l0_3 t235 t236 t237 t240 t247 t248 t249 t252 t256 t257 t258 t261) = some r := by rw [if_neg (show ¬ (false = true) by decide)] at H; exact H
        clear H
        have H := H1
        clear H1
        have H' := Aside0.mk H
        clear H
        have hnb55 := NB267_225.out
        have hnc55 := NB225_267.out
        have hnb56 := NB267_246.out
        have hnc56 := NB246_267.out
        have hnb57 := NB267_255.out
        have hnc57 := NB255_267.out
        have hcz58_0 : w35.cell? ⟨gb267, 0, none⟩ = some (.int .i64 0) := (blk_cell BK267.out 0).trans rfl
        have hcz58_1 : w35.cell? ⟨gb267, 1, none⟩ = some (.int .i64 0) := (blk_cell BK267.out 1).trans rfl
        have hcz58_2 : w35.cell? ⟨gb267, 2, none⟩ = some (.slice none 0 0) := (blk_cell BK267.out 2).trans rfl
        have hcz58_3 : w35.cell? ⟨gb267, 3, none⟩ = some (.slice none 0 0) := (blk_cell BK267.out 3).trans rfl
        have hfz58_0 := blk_frozen BK267.out 0
        have hfz58_1 := blk_frozen BK267.out 1
        have hfz58_2 := blk_frozen BK267.out 2
        have hfz58_3 := blk_frozen BK267.out 3
        have hnb59 := NB246_225.out
        have hnc59 := NB225_246.out
        have hnb60 := NB246_255.out
        have hnc60 := NB255_246.out
        have hcz61_0 : w35.cell? ⟨gb246, 0, none⟩ = some (.int .i64 t235) := (blk_cell BK246.out 0).trans rfl
        have hcz61_1 : w35.cell? ⟨gb246, 1, none⟩ = some (.int .i64 t236) := (blk_cell BK246.out 1).trans rfl
        have hcz61_2 : w35.cell? ⟨gb246, 2, none⟩ = some (.slice Ao24 t237.length co24) := (blk_cell BK246.out 2).trans rfl
        have hcz61_3 : w35.cell? ⟨gb246, 3, none⟩ = some (.slice Ao25 t240.length co25) := (blk_cell BK246.out 3).trans rfl
        have hfz61_0 := blk_frozen BK246.out 0
        have hfz61_1 := blk_frozen BK246.out 1
        have hfz61_2 := blk_frozen BK246.out 2
        have hfz61_3 := blk_frozen BK246.out 3
        go_wp2_with (first | ((with_reducible refine gate_callee (f := 21) rfl ?_); refine goesL_ (some 38) rfl rfl Try.func21 (by kernel_rfl) rfl #[.agg #[.int .i64 t256, .int .i64 t257, .slice Ao40 t258.length co40, .slice Ao41 t261.length co41], .agg #[.int .i64 t235, .int .i64 t236, .slice Ao24 t237.length co24, .slice Ao25 t240.length co25]] rfl ar_ ?_; (with_reducible refine (laws_eqEar.calls k t256 t257 _ _ t258 _ _ t261 t235 t236 _ _ t237 _ _ t240 false _ ?side1 ?side2 ?side3 ?side4 ?side5 ?side6 ?side7 ?side8 A42.out).mono ?_); (case side1 => refine (Kd.R_reads' (e := 5) (base := w.heap.size) (ok := fun k_ => ((((some k_ ≠ (v265 : Value).ownBlock ∧ some k_ ≠ (.slice Ao18 t229.length co18 : Value).ownBlock) ∧ some k_ ≠ (.slice Ao24 t237.length co24 : Value).ownBlock) ∧ some k_ ≠ (v244 : Value).ownBlock) ∧ some k_ ≠ (.slice Ao32 t249.length co32 : Value).ownBlock)) (n := t258.length) (c := co40) ?_).2.2; exact (by refine kR_ ?_; exact (Kd.R_mono (Kd.R_f gb267 3 (.slice Ao41 t261.length co41) (Kd.R_f gb267 2 (.slice Ao40 t258.length co40) (Kd.R_f gb267 1 (.int .i64 t257) (Kd.R_f gb267 0 (.int .i64 t256) (Kd.R_types HO260.out BK267.out (by decide)))))) (fun _ h_ => op1_ h_)))); (case side2 => exact (Kd.R_reads' HO260.out).2.1); (case side3 => refine (Kd.R_reads' (e := 70) (base := w.heap.size) (ok := fun k_ => (((True ∧ some k_ ≠ (.slice Ao19 t232.length co19 : Value).ownBlock) ∧ some k_ ≠ (.slice Ao25 t240.length co25 : Value).ownBlock) ∧ some k_ ≠ (.slice Ao33 t252.length co33 : Value).ownBlock)) (n := t261.length) (c := co41) ?_).2.2; exact (by refine kR_ ?_; exact (Kd.R_mono (Kd.R_f gb267 3 (.slice Ao41 t261.length co41) (Kd.R_f gb267 2 (.slice Ao40 t258.length co40) (Kd.R_f gb267 1 (.int .i64 t257) (Kd.R_f gb267 0 (.int .i64 t256) (Kd.R_types HO263.out BK267.out (by decide)))))) (fun _ h_ => op1_ h_)))); (case side4 => exact (Kd.R_reads' HO263.out).2.1); (case side5 => refine (Kd.R_reads' (e := 5) (base := w.heap.size) (ok := fun k_ => ((((some k_ ≠ (v244 : Value).ownBlock ∧ some k_ ≠ (.slice Ao18 t229.length co18 : Value).ownBlock) ∧ some k_ ≠ (.slice Ao32 t249.length co32 : Value).ownBlock) ∧ some k_ ≠ (.slice Ao40 t258.length co40 : Value).ownBlock) ∧ some k_ ≠ (v265 : Value).ownBlock)) (n := t237.length) (c := co24) ?_).2.2; exact (by refine kR_ ?_; exact (Kd.R_mono (Kd.R_f gb267 3 (.slice Ao41 t261.length co41) (Kd.R_f gb267 2 (.slice Ao40 t258.length co40) (Kd.R_f gb267 1 (.int .i64 t257) (Kd.R_f gb267 0 (.int .i64 t256) (Kd.R_types HO239.out BK267.out (by decide)))))) (fun _ h_ => op1_ h_)))); (case side6 => exact (Kd.R_reads' HO239.out).2.1); (case side7 => refine (Kd.R_reads' (e := 70) (base := w.heap.size) (ok := fun k_ => (((True ∧ some k_ ≠ (.slice Ao19 t232.length co19 : Value).ownBlock) ∧ some k_ ≠ (.slice Ao33 t252.length co33 : Value).ownBlock) ∧ some k_ ≠ (.slice Ao41 t261.length co41 : Value).ownBlock)) (n := t240.length) (c := co25) ?_).2.2; exact (by refine kR_ ?_; exact (Kd.R_mono (Kd.R_f gb267 3 (.slice Ao41 t261.length co41) (Kd.R_f gb267 2 (.slice Ao40 t258.length co40) (Kd.R_f gb267 1 (.int .i64 t257) (Kd.R_f gb267 0 (.int .i64 t256) (Kd.R_types HO242.out BK267.out (by decide)))))) (fun _ h_ => op1_ h_)))); (case side8 => exact (Kd.R_reads' HO242.out).2.1); rintro e w62 ⟨rfl, hb⟩; refine ⟨_, rfl, ?_⟩; have n0_ := Aside0.mk (Kd.R_below (by refine kR_ ?_; exact (Kd.R_mono (Kd.R_f gb267 3 (.slice Ao41 t261.length co41) (Kd.R_f gb267 2 (.slice Ao40 t258.length co40) (Kd.R_f gb267 1 (.int .i64 t257) (Kd.R_f gb267 0 (.int .i64 t256) (Kd.R_types HO231.out BK267.out (by decide)))))) (fun _ h_ => op1_ h_))) hb); have n1_ := Aside0.mk (Kd.R_below (by refine kR_ ?_; exact (Kd.R_mono (Kd.R_f gb267 3 (.slice Ao41 t261.length co41) (Kd.R_f gb267 2 (.slice Ao40 t258.length co40) (Kd.R_f gb267 1 (.int .i64 t257) (Kd.R_f gb267 0 (.int .i64 t256) (Kd.R_types HO234.out BK267.out (by decide)))))) (fun _ h_ => op1_ h_))) hb); have n2_ := Aside0.mk (Kd.R_below (by refine kR_ ?_; exact (Kd.R_mono (Kd.R_f gb267 3 (.slice Ao41 t261.length co41) (Kd.R_f gb267 2 (.slice Ao40 t258.length co40) (Kd.R_f gb267 1 (.int .i64 t257) (Kd.R_f gb267 0 (.int .i64 t256) (Kd.R_types HO239.out BK267.out (by decide)))))) (fun _ h_ => op1_ h_))) hb); have n3_ := Aside0.mk (Kd.R_below (by refine kR_ ?_; exact (Kd.R_mono (Kd.R_f gb267 3 (.slice Ao41 t261.length co41) (Kd.R_f gb267 2 (.slice Ao40 t258.length co40) (Kd.R_f gb267 1 (.int .i64 t257) (Kd.R_f gb267 0 (.int .i64 t256) (Kd.R_types HO242.out BK267.out (by decide)))))) (fun _ h_ => op1_ h_))) hb); have n4_ := Aside0.mk (Kd.R_below (by refine kR_ ?_; exact (Kd.R_mono (Kd.R_f gb267 3 (.slice Ao41 t261.length co41) (Kd.R_f gb267 2 (.slice Ao40 t258.length co40) (Kd.R_f gb267 1 (.int .i64 t257) (Kd.R_f gb267 0 (.int .i64 t256) (Kd.R_types HO245.out BK267.out (by decide)))))) (fun _ h_ => op1_ h_))) hb); have n5_ := Aside0.mk (Kd.R_below (by refine kR_ ?_; exact (Kd.R_mono (Kd.R_f gb267 3 (.slice Ao41 t261.length co41) (Kd.R_f gb267 2 (.slice Ao40 t258.length co40) (Kd.R_f gb267 1 (.int .i64 t257) (Kd.R_f gb267 0 (.int .i64 t256) (Kd.R_types HO251.out BK267.out (by decide)))))) (fun _ h_ => op1_ h_))) hb); have n6_ := Aside0.mk (Kd.R_below (by refine kR_ ?_; exact (Kd.R_mono (Kd.R_f gb267 3 (.slice Ao41 t261.length co41) (Kd.R_f gb267 2 (.slice Ao40 t258.length co40) (Kd.R_f gb267 1 (.int .i64 t257) (Kd.R_f gb267 0 (.int .i64 t256) (Kd.R_types HO254.out BK267.out (by decide)))))) (fun _ h_ => op1_ h_))) hb); have n7_ := Aside0.mk (Kd.R_below (by refine kR_ ?_; exact (Kd.R_mono (Kd.R_f gb267 3 (.slice Ao41 t261.length co41) (Kd.R_f gb267 2 (.slice Ao40 t258.length co40) (Kd.R_f gb267 1 (.int .i64 t257) (Kd.R_f gb267 0 (.int .i64 t256) (Kd.R_types HO260.out BK267.out (by decide)))))) (fun _ h_ => op1_ h_))) hb); have n8_ := Aside0.mk (Kd.R_below (by refine kR_ ?_; exact (Kd.R_mono (Kd.R_f gb267 3 (.slice Ao41 t261.length co41) (Kd.R_f gb267 2 (.slice Ao40 t258.length co40) (Kd.R_f gb267 1 (.int .i64 t257) (Kd.R_f gb267 0 (.int .i64 t256) (Kd.R_types HO263.out BK267.out (by decide)))))) (fun _ h_ => op1_ h_))) hb); have n9_ := Aside0.mk (Kd.R_below (by refine kR_ ?_; exact (Kd.R_mono (Kd.R_f gb267 3 (.slice Ao41 t261.length co41) (Kd.R_f gb267 2 (.slice Ao40 t258.length co40) (Kd.R_f gb267 1 (.int .i64 t257) (Kd.R_f gb267 0 (.int .i64 t256) (Kd.R_types HO266.out BK267.out (by decide)))))) (fun _ h_ => op1_ h_))) hb); have n10_ := Aside0.mk (blk_below (g := gb225) (o := .cells #[.int .i64 a0_0, .int .i64 a0_1, .slice A0_2 l0_2.length c0_2, .slice A0_3 l0_3.length c0_3] 39 (0, 0)) (by refine kb_ ?_; refine blk_far ?_ NB225_267.out _; refine kb_ ?_; refine blk_far ?_ NB225_267.out _; refine kb_ ?_; refine blk_far ?_ NB225_267.out _; refine kb_ ?_; refine blk_far ?_ NB225_267.out _; refine kb_ ?_; exact BK225.out) hb); have n11_ := Aside0.mk (blk_below (g := gb246) (o := .cells #[.int .i64 t235, .int .i64 t236, .slice Ao24 t237.length co24, .slice Ao25 t240.length co25] 25 (0, 0)) (by refine kb_ ?_; refine blk_far ?_ NB246_267.out _; refine kb_ ?_; refine blk_far ?_ NB246_267.out _; refine kb_ ?_; refine blk_far ?_ NB246_267.out _; refine kb_ ?_; refine blk_far ?_ NB246_267.out _; refine kb_ ?_; exact BK246.out) hb); have n12_ := Aside0.mk (blk_below (g := gb255) (o := .cells #[.int .i64 t247, .int .i64 t248, .slice Ao32 t249.length co32, .slice Ao33 t252.length co33] 25 (0, 0)) (by refine kb_ ?_; refine blk_far ?_ NB255_267.out _; refine kb_ ?_; refine blk_far ?_ NB255_267.out _; refine kb_ ?_; refine blk_far ?_ NB255_267.out _; refine kb_ ?_; refine blk_far ?_ NB255_267.out _; refine kb_ ?_; exact BK255.out) hb); have n13_ := Aside0.mk (blk_below (g := gb267) (o := .cells #[.int .i64 t256, .int .i64 t257, .slice Ao40 t258.length co40, .slice Ao41 t261.length co41] 25 (0, 0)) (by refine kb_ ?_; refine blk_put (cs := #[.int .i64 t256, .int .i64 t257, .slice Ao40 t258.length co40, .slice none 0 0]) ?_ 3 _ rfl; refine kb_ ?_; refine blk_put (cs := #[.int .i64 t256, .int .i64 t257, .slice none 0 0, .slice none 0 0]) ?_ 2 _ rfl; refine kb_ ?_; refine blk_put (cs := #[.int .i64 t256, .int .i64 0, .slice none 0 0, .slice none 0 0]) ?_ 1 _ rfl; refine kb_ ?_; refine blk_put (cs := #[.int .i64 0, .int .i64 0, .slice none 0 0, .slice none 0 0]) ?_ 0 _ rfl; refine kb_ ?_; exact BK267.out) hb); have n14_ := Aside0.mk (below_step (hb4_ HB.out GE225.out GE246.out GE255.out GE267.out) hb); clear HO231; clear HO234; clear HO239; clear HO242; clear HO245; clear HO251; clear HO254; clear HO260; clear HO263; clear HO266; clear BK225; clear BK246; clear BK255; clear BK267; clear HB; have HO231 := n0_; have HO234 := n1_; have HO239 := n2_; have HO242 := n3_; have HO245 := n4_; have HO251 := n5_; have HO254 := n6_; have HO260 := n7_; have HO263 := n8_; have HO266 := n9_; have BK225 := n10_; have BK246 := n11_; have BK255 := n12_; have BK267 := n13_; have HB := n14_; clear n0_ n1_ n2_ n3_ n4_ n5_ n6_ n7_ n8_ n9_ n10_ n11_ n12_ n13_ n14_; (try clear hb); (try clear hb2); (try clear hk); (try clear hi)))
        go_meet
        case rel => exact ⟨_, (true), (by first | rfl | (simp; done) | (simp [*]; done)), H', ⟨by first | omega | exact Nat.le_refl _⟩, ⟨by refine kR_ ?_; exact Kd.R_mono HO245.out (fun _ hk => op2_ hk)⟩, ⟨by refine kR_ ?_; exact Kd.R_mono HO266.out (fun _ hk => op2_ hk)⟩, ⟨by refine kR_ ?_; exact Kd.R_mono HO239.out (fun _ hk => op2_ hk)⟩, ⟨by refine kR_ ?_; exact Kd.R_mono HO242.out (fun _ hk => op2_ hk)⟩, ⟨by refine kR_ ?_; exact Kd.R_mono HO251.out (fun _ hk => op2_ hk)⟩, ⟨by refine kR_ ?_; exact Kd.R_mono HO254.out (fun _ hk => op2_ hk)⟩, ⟨by refine kR_ ?_; exact Kd.R_mono HO260.out (fun _ hk => op2_ hk)⟩, ⟨by refine kR_ ?_; exact Kd.R_mono HO263.out (fun _ hk => op2_ hk)⟩, ⟨by refine kb_ ?_; exact BK225.out⟩, ⟨by refine kb_ ?_; exact BK246.out⟩, ⟨by refine kb_ ?_; exact BK255.out⟩, ⟨by refine kb_ ?_; exact BK267.out⟩, ⟨by repeat (first | (with_reducible first | exact HB.out | apply below_alloc | apply pw_below_drewN | apply below_drew1 | refine below_set ?_ GE225.out | refine below_set ?_ GE246.out | refine below_set ?_ GE255.out | refine below_set ?_ GE267.out) | exact HB.out)⟩⟩
    case rest =>
      clear HC12
      try clear c1
      try clear c2
      try clear p2
      try clear c3
      try clear c4
      try clear c4b0
      try clear c5
      try clear c6
      try clear c14
      try clear c16
      try clear c19
      try clear c20
      try clear c21
      try clear c22
      try clear c29
      try clear c30
      try clear c36
      try clear c37
      try clear c38
      try clear c43
      try clear c45
      try clear c46
      try clear c47
      try clear c49
      try clear c50
      try clear c55
      try clear c56
      try clear c57
      try clear c59
      try clear c60
      try clear hcz14_0
      try clear hcz14_1
      try clear hcz14_2
      try clear hcz14_3
      try clear hcz16_0
      try clear hcz16_1
      try clear hcz16_2
      try clear hcz16_3
      try clear hcz23_0
      try clear hcz23_1
      try clear hcz23_2
      try clear hcz23_3
      try clear hcz26_0
      try clear hcz26_1
      try clear hcz26_2
      try clear hcz26_3
      try clear hcz31_0
      try clear hcz31_1
      try clear hcz31_2
      try clear hcz31_3
      try clear hcz39_0
      try clear hcz39_1
      try clear hcz39_2
      try clear hcz39_3
      try clear hcz48_0
      try clear hcz48_1
      try clear hcz48_2
      try clear hcz48_3
      try clear hcz51_0
      try clear hcz51_1
      try clear hcz51_2
      try clear hcz51_3
      try clear hcz58_0
      try clear hcz58_1
      try clear hcz58_2
      try clear hcz58_3
      try clear hcz61_0
      try clear hcz61_1
      try clear hcz61_2
      try clear hcz61_3
      try clear hcz6_0
      try clear hcz6_1
      try clear hcz6_2
      try clear hcz6_3
      try clear hfz14_0
      try clear hfz14_1
      try clear hfz14_2
      try clear hfz14_3
      try clear hfz16_0
      try clear hfz16_1
      try clear hfz16_2
      try clear hfz16_3
      try clear hfz23_0
      try clear hfz23_1
      try clear hfz23_2
      try clear hfz23_3
      try clear hfz26_0
      try clear hfz26_1
      try clear hfz26_2
      try clear hfz26_3
      try clear hfz31_0
      try clear hfz31_1
      try clear hfz31_2
      try clear hfz31_3
      try clear hfz39_0
      try clear hfz39_1
      try clear hfz39_2
      try clear hfz39_3
      try clear hfz48_0
      try clear hfz48_1
      try clear hfz48_2
      try clear hfz48_3
      try clear hfz51_0
      try clear hfz51_1
      try clear hfz51_2
      try clear hfz51_3
      try clear hfz58_0
      try clear hfz58_1
      try clear hfz58_2
      try clear hfz58_3
      try clear hfz61_0
      try clear hfz61_1
      try clear hfz61_2
      try clear hfz61_3
      try clear hfz6_0
      try clear hfz6_1
      try clear hfz6_2
      try clear hfz6_3
      obtain ⟨kq, x45_11, rfl, HA, HJ11, HO_7, HO_10, HO_247002, HO_247003, HO_256002, HO_256003, HO_268002, HO_268003, BK225, BK246, BK255, BK267, HB⟩ := hcut
      cases kq with
      | zero => exact absurd HA.out (by simp [laws_FnExactEarRead.j0])
      | succ kj11 =>
        have H := HA.out
        clear HA
        simp only [laws_FnExactEarRead.j0] at H
        by_cases c63 : x45_11 = true
        · subst c63
          have H1 : (some false) = some r := by rw [if_pos rfl] at H; exact H
          clear H
          have H := H1
          clear H1
          exact absurd (Option.some.inj H) (by rw [HLW.out]; exact Bool.false_ne_true)
        · replace c63 := Bool.eq_false_iff.mpr c63
          subst c63
          have H1 : ((laws_toEar.f kj11 a0_0 a0_1 l0_2 l0_3).bind fun bt270 => ((laws_eqEar.f kj11 t247 t248 t249 t252 bt270.1 bt270.2.1 bt270.2.2.1 bt270.2.2.2).bind fun t278 => (if t278 = true then ((laws_markEar.f kj11 t247 t248 t249 t252 1).bind fun bt279 => (if bt279.1 < 0 then (laws_FnExactEarRead.j1 kj11 a1 t243 t264 true a0_0 a0_1 l0_2 l0_3 t235 t236 t237 t240 t256 t257 t258 t261) else ((laws_eqEar.f kj11 t256 t257 t258 t261 t235 t236 t237 t240).bind fun t282 => (if t282 = true then ((laws_eqByteS.f kj11 t264 t243).bind fun t283 => (laws_FnExactEarRead.j1 kj11 a1 t243 t264 (!t283) a0_0 a0_1 l0_2 l0_3 t235 t236 t237 t240 t256 t257 t258 t261)) else (laws_FnExactEarRead.j1 kj11 a1 t243 t264 true a0_0 a0_1 l0_2 l0_3 t235 t236 t237 t240 t256 t257 t258 t261))))) else (some false)))) = some r := by rw [if_neg (show ¬ (false = true) by decide)] at H; exact H
          clear H
          have H := H1
          clear H1
          replace H := Option.bind_eq_some_iff.mp H
          obtain ⟨⟨t270, t271, t272, t275⟩, A640, H⟩ := H
          replace H : ((laws_eqEar.f kj11 t247 t248 t249 t252 t270 t271 t272 t275).bind fun t278 => (if t278 = true then ((laws_markEar.f kj11 t247 t248 t249 t252 1).bind fun bt279 => (if bt279.1 < 0 then (laws_FnExactEarRead.j1 kj11 a1 t243 t264 true a0_0 a0_1 l0_2 l0_3 t235 t236 t237 t240 t256 t257 t258 t261) else ((laws_eqEar.f kj11 t256 t257 t258 t261 t235 t236 t237 t240).bind fun t282 => (if t282 = true then ((laws_eqByteS.f kj11 t264 t243).bind fun t283 => (laws_FnExactEarRead.j1 kj11 a1 t243 t264 (!t283) a0_0 a0_1 l0_2 l0_3 t235 t236 t237 t240 t256 t257 t258 t261)) else (laws_FnExactEarRead.j1 kj11 a1 t243 t264 true a0_0 a0_1 l0_2 l0_3 t235 t236 t237 t240 t256 t257 t258 t261))))) else (some false))) = some r := H
          have A64 := Aside0.mk A640
          clear A640
          replace H := Option.bind_eq_some_iff.mp H
          obtain ⟨t278, A650, H⟩ := H
          replace H : (if t278 = true then ((laws_markEar.f kj11 t247 t248 t249 t252 1).bind fun bt279 => (if bt279.1 < 0 then (laws_FnExactEarRead.j1 kj11 a1 t243 t264 true a0_0 a0_1 l0_2 l0_3 t235 t236 t237 t240 t256 t257 t258 t261) else ((laws_eqEar.f kj11 t256 t257 t258 t261 t235 t236 t237 t240).bind fun t282 => (if t282 = true then ((laws_eqByteS.f kj11 t264 t243).bind fun t283 => (laws_FnExactEarRead.j1 kj11 a1 t243 t264 (!t283) a0_0 a0_1 l0_2 l0_3 t235 t236 t237 t240 t256 t257 t258 t261)) else (laws_FnExactEarRead.j1 kj11 a1 t243 t264 true a0_0 a0_1 l0_2 l0_3 t235 t236 t237 t240 t256 t257 t258 t261))))) else (some false)) = some r := H
          have A65 := Aside0.mk A650
          clear A650
          by_cases c66 : t278 = true
          · subst c66
            have H1 : ((laws_markEar.f kj11 t247 t248 t249 t252 1).bind fun bt279 => (if bt279.1 < 0 then (laws_FnExactEarRead.j1 kj11 a1 t243 t264 true a0_0 a0_1 l0_2 l0_3 t235 t236 t237 t240 t256 t257 t258 t261) else ((laws_eqEar.f kj11 t256 t257 t258 t261 t235 t236 t237 t240).bind fun t282 => (if t282 = true then ((laws_eqByteS.f kj11 t264 t243).bind fun t283 => (laws_FnExactEarRead.j1 kj11 a1 t243 t264 (!t283) a0_0 a0_1 l0_2 l0_3 t235 t236 t237 t240 t256 t257 t258 t261)) else (laws_FnExactEarRead.j1 kj11 a1 t243 t264 true a0_0 a0_1 l0_2 l0_3 t235 t236 t237 t240 t256 t257 t258 t261))))) = some r := by rw [if_pos rfl] at H; exact H
            clear H
            have H := H1
            clear H1
            replace H := Option.bind_eq_some_iff.mp H
            obtain ⟨⟨t279, t280, t281⟩, A670, H⟩ := H
            replace H : (if t279 < 0 then (laws_FnExactEarRead.j1 kj11 a1 t243 t264 true a0_0 a0_1 l0_2 l0_3 t235 t236 t237 t240 t256 t257 t258 t261) else ((laws_eqEar.f kj11 t256 t257 t258 t261 t235 t236 t237 t240).bind fun t282 => (if t282 = true then ((laws_eqByteS.f kj11 t264 t243).bind fun t283 => (laws_FnExactEarRead.j1 kj11 a1 t243 t264 (!t283) a0_0 a0_1 l0_2 l0_3 t235 t236 t237 t240 t256 t257 t258 t261)) else (laws_FnExactEarRead.j1 kj11 a1 t243 t264 true a0_0 a0_1 l0_2 l0_3 t235 t236 t237 t240 t256 t257 t258 t261)))) = some r := H
            have A67 := Aside0.mk A670
            clear A670
            have HC68 := Aside0.mk H
            clear H
            try go_wp2
            have n0_ := Aside0.mk (Kd.R_drew HO_7.out)
            have n1_ := Aside0.mk (Kd.R_drew HO_10.out)
            have n2_ := Aside0.mk (Kd.R_drew HO_247002.out)
            have n3_ := Aside0.mk (Kd.R_drew HO_247003.out)
            have n4_ := Aside0.mk (Kd.R_drew HO_256002.out)
            have n5_ := Aside0.mk (Kd.R_drew HO_256003.out)
            have n6_ := Aside0.mk (Kd.R_drew HO_268002.out)
            have n7_ := Aside0.mk (Kd.R_drew HO_268003.out)
            have n8_ := Aside0.mk (blk_drew BK225.out)
            have n9_ := Aside0.mk (blk_drew BK246.out)
            have n10_ := Aside0.mk (blk_drew BK255.out)
            have n11_ := Aside0.mk (blk_drew BK267.out)
            have n12_ := Aside0.mk (below_drew1 HB.out)
            clear HO_7
            clear HO_10
            clear HO_247002
            clear HO_247003
            clear HO_256002
            clear HO_256003
            clear HO_268002
            clear HO_268003
            clear BK225
            clear BK246
            clear BK255
            clear BK267
            clear HB
            have HO_7 := n0_
            have HO_10 := n1_
            have HO_247002 := n2_
            have HO_247003 := n3_
            have HO_256002 := n4_
            have HO_256003 := n5_
            have HO_268002 := n6_
            have HO_268003 := n7_
            have BK225 := n8_
            have BK246 := n9_
            have BK255 := n10_
            have BK267 := n11_
            have HB := n12_
            clear n0_ n1_ n2_ n3_ n4_ n5_ n6_ n7_ n8_ n9_ n10_ n11_ n12_
            refine start_ (n := 5) (S := fun w' => w'.cell? ⟨gb255, 0, none⟩ = some (.int .i64 t247) ∧ w'.cell? ⟨gb255, 1, none⟩ = some (.int .i64 t248) ∧ w'.cell? ⟨gb255, 2, none⟩ = some (.slice Ao32 t249.length co32) ∧ w'.cell? ⟨gb255, 3, none⟩ = some (.slice Ao33 t252.length co33) ∧ w'.cell? ⟨gb225, 0, none⟩ = some (.int .i64 a0_0) ∧ w'.cell? ⟨gb225, 1, none⟩ = some (.int .i64 a0_1) ∧ w'.cell? ⟨gb225, 2, none⟩ = some (.slice A0_2 l0_2.length c0_2) ∧ w'.cell? ⟨gb225, 3, none⟩ = some (.slice A0_3 l0_3.length c0_3)) (ds := []) #[false, false, false, false, false] (by kernel_rfl) rfl rfl ⟨(blk_cell BK255.out 0).trans rfl, (blk_cell BK255.out 1).trans rfl, (blk_cell BK255.out 2).trans rfl, (blk_cell BK255.out 3).trans rfl, (blk_cell BK225.out 0).trans rfl, (blk_cell BK225.out 1).trans rfl, (blk_cell BK225.out 2).trans rfl, (blk_cell BK225.out 3).trans rfl⟩ (fun hHeld => ?_)
            generalize wc.drew = w69 at HO_7 HO_10 HO_247002 HO_247003 HO_256002 HO_256003 HO_268002 HO_268003 BK225 BK246 BK255 BK267 HB hHeld ⊢
            refine take_ (i := 0) (N := some 46) (v := ?_) (a' := ?_) #[true, false, false, false, false] rfl rfl (by kernel_rfl) (fun _ _ _ h => h) (Or.inl ⟨by rfl, ?_⟩) hHeld ?_ ?_
            rotate_left
            · rintro w' ⟨s0, s1, s2, s3, s4, s5, s6, s7⟩
              go_simp
              with_reducible rfl
            rotate_left
            · simp only [Act.put, List.setIfInBounds_toArray, List.set_cons_zero, List.set_cons_succ, i64_w, i32_w]
              rfl
            refine take_ (i := 1) (N := some 47) (v := ?_) (a' := ?_) #[true, true, false, false, false] rfl rfl (by kernel_rfl) (fun _ _ _ h => h) (Or.inl ⟨by rfl, ?_⟩) hHeld ?_ ?_
            rotate_left
            · rintro w' ⟨s0, s1, s2, s3, s4, s5, s6, s7⟩
              go_simp
              with_reducible rfl
            rotate_left
            · simp only [Act.put, List.setIfInBounds_toArray, List.set_cons_zero, List.set_cons_succ, i64_w, i32_w]
              rfl
            refine one_ (i := 2) (N := some 48) #[true, true, true, false, false] rfl rfl (by kernel_rfl) (by decide) (fun K hK => ?_)
            refine goes_ Try.func20 (by kernel_rfl) rfl #[.agg #[.int .i64 a0_0, .int .i64 a0_1, .slice A0_2 l0_2.length c0_2, .slice A0_3 l0_3.length c0_3]] (by rfl) rfl rfl ar_ ?_
            with_reducible refine (laws_toEar.calls kj11 a0_0 a0_1 _ _ l0_2 _ _ l0_3 t270 t271 t272 t275 _ ?side1 ?side2 ?side3 ?side4 A64.out).mono ?_
            (case side1 => exact kC_ (Kd.C_below HR0_2.out HB.out))
            (case side2 => exact HC0_2.out)
            (case side3 => exact kC_ (Kd.C_below HR0_3.out HB.out))
            (case side4 => exact HC0_3.out)
            rintro e w70 ⟨v273, v276, rfl, ho0, ho1, hb⟩
            refine ⟨_, rfl, ?_⟩
            have n0_ := Aside0.mk (Kd.R_elder' (kR_ HO_7.out) (Kd.R_base ho0) hb)
            have n1_ := Aside0.mk (Kd.R_elder' (kR_ HO_10.out) (Kd.R_base ho0) hb)
            have n2_ := Aside0.mk (Kd.R_elder' (kR_ HO_247002.out) (Kd.R_base ho0) hb)
            have n3_ := Aside0.mk (Kd.R_elder' (kR_ HO_247003.out) (Kd.R_base ho1) hb)
            have n4_ := Aside0.mk (Kd.R_elder' (kR_ HO_256002.out) (Kd.R_base ho0) hb)
            have n5_ := Aside0.mk (Kd.R_elder' (kR_ HO_256003.out) (Kd.R_base ho1) hb)
            have n6_ := Aside0.mk (Kd.R_elder' (kR_ HO_268002.out) (Kd.R_base ho0) hb)
            have n7_ := Aside0.mk (Kd.R_elder' (kR_ HO_268003.out) (Kd.R_base ho1) hb)
            have n8_ := Aside0.mk (Kd.R_lower (Kd.R_new' (Kd.R_new' (Kd.R_new' (Kd.R_new' (Kd.R_new' ho0 (Kd.R_lt (kR_ HO_7.out))) (Kd.R_lt (kR_ HO_10.out))) (Kd.R_lt (kR_ HO_247002.out))) (Kd.R_lt (kR_ HO_256002.out))) (Kd.R_lt (kR_ HO_268002.out))) (below_size (hb4_ HB.out GE225.out GE246.out GE255.out GE267.out)))
            have n9_ := Aside0.mk (Kd.R_lower (Kd.R_new' (Kd.R_new' (Kd.R_new' ho1 (Kd.R_lt (kR_ HO_247003.out))) (Kd.R_lt (kR_ HO_256003.out))) (Kd.R_lt (kR_ HO_268003.out))) (below_size (hb4_ HB.out GE225.out GE246.out GE255.out GE267.out)))
            have n10_ := Aside0.mk (blk_below (g := gb225) (o := .cells #[.int .i64 a0_0, .int .i64 a0_1, .slice A0_2 l0_2.length c0_2, .slice A0_3 l0_3.length c0_3] 39 (0, 0)) (kb_ BK225.out) hb)
            have n11_ := Aside0.mk (blk_below (g := gb246) (o := .cells #[.int .i64 t235, .int .i64 t236, .slice Ao24 t237.length co24, .slice Ao25 t240.length co25] 25 (0, 0)) (kb_ BK246.out) hb)
            have n12_ := Aside0.mk (blk_below (g := gb255) (o := .cells #[.int .i64 t247, .int .i64 t248, .slice Ao32 t249.length co32, .slice Ao33 t252.length co33] 25 (0, 0)) (kb_ BK255.out) hb)
            have n13_ := Aside0.mk (blk_below (g := gb267) (o := .cells #[.int .i64 t256, .int .i64 t257, .slice Ao40 t258.length co40, .slice Ao41 t261.length co41] 25 (0, 0)) (kb_ BK267.out) hb)
            have n14_ := Aside0.mk (below_step (hb4_ HB.out GE225.out GE246.out GE255.out GE267.out) hb)
            clear HO_7
            clear HO_10
            clear HO_247002
            clear HO_247003
            clear HO_256002
            clear HO_256003
            clear HO_268002
            clear HO_268003
            clear BK225
            clear BK246
            clear BK255
            clear BK267
            clear HB
            have HO_7 := n0_
            have HO_10 := n1_
            have HO_247002 := n2_
            have HO_247003 := n3_
            have HO_256002 := n4_
            have HO_256003 := n5_
            have HO_268002 := n6_
            have HO_268003 := n7_
            have HO274 := n8_
            have HO277 := n9_
            have BK225 := n10_
            have BK246 := n11_
            have BK255 := n12_
            have BK267 := n13_
            have HB := n14_
            clear n0_ n1_ n2_ n3_ n4_ n5_ n6_ n7_ n8_ n9_ n10_ n11_ n12_ n13_ n14_
            (try clear hb)
            (try clear hb2)
            (try clear hk)
            (try clear hi)
            (try clear ho0)
            (try clear ho1)
            obtain ⟨Ao71, co71, eo71⟩ := Kd.R_slice HO274.out
            (first | subst eo71 | (injection eo71 with f1_ f2_ f3_; have f4_ := f1_.symm; have f5_ := f3_.symm; clear f1_ f2_ f3_; subst f4_; subst f5_))
            obtain ⟨Ao72, co72, eo72⟩ := Kd.R_slice HO277.out
            (first | subst eo72 | (injection eo72 with f1_ f2_ f3_; have f4_ := f1_.symm; have f5_ := f3_.symm; clear f1_ f2_ f3_; subst f4_; subst f5_))
            refine hK.out _ _ ⟨(blk_cell BK255.out 0).trans rfl, (blk_cell BK255.out 1).trans rfl, (blk_cell BK255.out 2).trans rfl, (blk_cell BK255.out 3).trans rfl, (blk_cell BK225.out 0).trans rfl, (blk_cell BK225.out 1).trans rfl, (blk_cell BK225.out 2).trans rfl, (blk_cell BK225.out 3).trans rfl⟩ (fun hHeld => ?_)
            clear hK K
            refine norm_ (a' := ?_) ?_ ?_
            rotate_left
            · show Act.put _ (some 48) _ = _
              simp only [Act.put, List.setIfInBounds_toArray, List.set_cons_zero, List.set_cons_succ, i64_w, i32_w]
              rfl
            refine one_ (i := 3) (N := some 49) #[true, true, true, true, false] rfl rfl (by kernel_rfl) (by decide) (fun K hK => ?_)
            refine goes_ Try.func21 (by kernel_rfl) rfl #[.agg #[.int .i64 t247, .int .i64 t248, .slice Ao32 t249.length co32, .slice Ao33 t252.length co33], .agg #[.int .i64 t270, .int .i64 t271, .slice Ao71 t272.length co71, .slice Ao72 t275.length co72]] (by rfl) rfl rfl ar_ ?_
            with_reducible refine (laws_eqEar.calls kj11 t247 t248 _ _ t249 _ _ t252 t270 t271 _ _ t272 _ _ t275 true _ ?side1 ?side2 ?side3 ?side4 ?side5 ?side6 ?side7 ?side8 A65.out).mono ?_
            (case side1 => exact kC_ (Kd.R_reads' HO_256002.out).2.2)
            (case side2 => exact (Kd.R_reads' HO_256002.out).2.1)
            (case side3 => exact kC_ (Kd.R_reads' HO_256003.out).2.2)
            (case side4 => exact (Kd.R_reads' HO_256003.out).2.1)
            (case side5 => exact kC_ (Kd.R_reads' HO274.out).2.2)
            (case side6 => exact (Kd.R_reads' HO274.out).2.1)
            (case side7 => exact kC_ (Kd.R_reads' HO277.out).2.2)
            (case side8 => exact (Kd.R_reads' HO277.out).2.1)
            rintro e w73 ⟨rfl, hb⟩
            refine ⟨_, rfl, ?_⟩
            have n0_ := Aside0.mk (Kd.R_below (kR_ HO_7.out) hb)
            have n1_ := Aside0.mk (Kd.R_below (kR_ HO_10.out) hb)
            have n2_ := Aside0.mk (Kd.R_below (kR_ HO_247002.out) hb)
            have n3_ := Aside0.mk (Kd.R_below (kR_ HO_247003.out) hb)
            have n4_ := Aside0.mk (Kd.R_below (kR_ HO_256002.out) hb)
            have n5_ := Aside0.mk (Kd.R_below (kR_ HO_256003.out) hb)
            have n6_ := Aside0.mk (Kd.R_below (kR_ HO_268002.out) hb)
            have n7_ := Aside0.mk (Kd.R_below (kR_ HO_268003.out) hb)
            have n8_ := Aside0.mk (Kd.R_below (kR_ HO274.out) hb)
            have n9_ := Aside0.mk (Kd.R_below (kR_ HO277.out) hb)
            have n10_ := Aside0.mk (blk_below (g := gb225) (o := .cells #[.int .i64 a0_0, .int .i64 a0_1, .slice A0_2 l0_2.length c0_2, .slice A0_3 l0_3.length c0_3] 39 (0, 0)) (kb_ BK225.out) hb)
            have n11_ := Aside0.mk (blk_below (g := gb246) (o := .cells #[.int .i64 t235, .int .i64 t236, .slice Ao24 t237.length co24, .slice Ao25 t240.length co25] 25 (0, 0)) (kb_ BK246.out) hb)
            have n12_ := Aside0.mk (blk_below (g := gb255) (o := .cells #[.int .i64 t247, .int .i64 t248, .slice Ao32 t249.length co32, .slice Ao33 t252.length co33] 25 (0, 0)) (kb_ BK255.out) hb)
            have n13_ := Aside0.mk (blk_below (g := gb267) (o := .cells #[.int .i64 t256, .int .i64 t257, .slice Ao40 t258.length co40, .slice Ao41 t261.length co41] 25 (0, 0)) (kb_ BK267.out) hb)
            have n14_ := Aside0.mk (below_step (hb4_ HB.out GE225.out GE246.out GE255.out GE267.out) hb)
            clear HO_7
            clear HO_10
            clear HO_247002
            clear HO_247003
            clear HO_256002
            clear HO_256003
            clear HO_268002
            clear HO_268003
            clear HO274
            clear HO277
            clear BK225
            clear BK246
            clear BK255
            clear BK267
            clear HB
            have HO_7 := n0_
            have HO_10 := n1_
            have HO_247002 := n2_
            have HO_247003 := n3_
            have HO_256002 := n4_
            have HO_256003 := n5_
            have HO_268002 := n6_
            have HO_268003 := n7_
            have HO274 := n8_
            have HO277 := n9_
            have BK225 := n10_
            have BK246 := n11_
            have BK255 := n12_
            have BK267 := n13_
            have HB := n14_
            clear n0_ n1_ n2_ n3_ n4_ n5_ n6_ n7_ n8_ n9_ n10_ n11_ n12_ n13_ n14_
            (try clear hb)
            (try clear hb2)
            (try clear hk)
            (try clear hi)
            refine hK.out _ _ ⟨(blk_cell BK255.out 0).trans rfl, (blk_cell BK255.out 1).trans rfl, (blk_cell BK255.out 2).trans rfl, (blk_cell BK255.out 3).trans rfl, (blk_cell BK225.out 0).trans rfl, (blk_cell BK225.out 1).trans rfl, (blk_cell BK225.out 2).trans rfl, (blk_cell BK225.out 3).trans rfl⟩ (fun hHeld => ?_)
            clear hK K
            refine norm_ (a' := ?_) ?_ ?_
            rotate_left
            · show Act.put _ (some 49) _ = _
              simp only [Act.put, List.setIfInBounds_toArray, List.set_cons_zero, List.set_cons_succ, i64_w, i32_w]
              rfl
            refine pure_ (i := 4) (N := some 50) (v := ?_) (a' := ?_) #[true, true, true, true, true] rfl rfl (by kernel_rfl) (fun _ _ _ h => h) (Or.inl ⟨by rfl, ?_⟩) ?_ ?_
            rotate_left
            · intro w'
              go_simp
              with_reducible rfl
            rotate_left
            · simp only [Act.put, List.setIfInBounds_toArray, List.set_cons_zero, List.set_cons_succ, i64_w, i32_w]
              rfl
            refine done_ (by kernel_rfl) ?_
            have hnb74 := NB255_225.out
            have hnc74 := NB225_255.out
            have hnb75 := NB255_246.out
            have hnc75 := NB246_255.out
            have hnb76 := NB255_267.out
            have hnc76 := NB267_255.out
            have hcz77_0 : w73.cell? ⟨gb255, 0, none⟩ = some (.int .i64 t247) := (blk_cell BK255.out 0).trans rfl
            have hcz77_1 : w73.cell? ⟨gb255, 1, none⟩ = some (.int .i64 t248) := (blk_cell BK255.out 1).trans rfl
            have hcz77_2 : w73.cell? ⟨gb255, 2, none⟩ = some (.slice Ao32 t249.length co32) := (blk_cell BK255.out 2).trans rfl
            have hcz77_3 : w73.cell? ⟨gb255, 3, none⟩ = some (.slice Ao33 t252.length co33) := (blk_cell BK255.out 3).trans rfl
            have hfz77_0 := blk_frozen BK255.out 0
            have hfz77_1 := blk_frozen BK255.out 1
            have hfz77_2 := blk_frozen BK255.out 2
            have hfz77_3 := blk_frozen BK255.out 3
            go_upto_region 14 with (first | ((with_reducible refine gate_callee (f := 23) rfl ?_); refine goesL_ (some 53) rfl rfl Try.func23 (by kernel_rfl) rfl #[.agg #[.int .i64 t247, .int .i64 t248, .slice Ao32 t249.length co32, .slice Ao33 t252.length co33], .int .i64 1] rfl ar_ ?_; (with_reducible refine (laws_markEar.calls kj11 t247 t248 (fun k_ => some k_ = (.slice Ao32 t249.length co32 : Value).ownBlock) (.slice Ao32 t249.length co32) t249 (fun k_ => some k_ = (.slice Ao33 t252.length co33 : Value).ownBlock) (.slice Ao33 t252.length co33) t252 1 t279 t280 t281 w _ ?side1 ?side2 ?side3 A67.out).mono ?_); (case side1 => repeat (first | (with_reducible first | exact HB.out | apply below_alloc | apply pw_below_drewN | apply below_drew1 | refine below_set ?_ GE225.out | refine below_set ?_ GE246.out | refine below_set ?_ GE255.out | refine below_set ?_ GE267.out) | exact HB.out)); (case side2 => exact Kd.R_tight rfl HO_256002.out); (case side3 => exact Kd.R_tight rfl HO_256003.out); rintro e w78 ⟨rfl, hy0, hy1, hb, hkp⟩; refine ⟨_, rfl, ?_⟩; have n0_ := Aside0.mk (Kd.R_mono (ok' := fun k_ => some k_ ≠ (v265 : Value).ownBlock ∧ some k_ ≠ (.slice Ao24 t237.length co24 : Value).ownBlock ∧ some k_ ≠ (.slice Ao32 t249.length co32 : Value).ownBlock ∧ some k_ ≠ (.slice Ao40 t258.length co40 : Value).ownBlock ∧ some k_ ≠ (.slice Ao71 t272.length co71 : Value).ownBlock) (Kd.R_keptB ((Kd.R_apart' HO_7.out (Kd.R_typed HO_256003.out) (by decide))) hkp (fun k_ hk_ hs_ => Or.elim hs_ (fun e_ => (hk_.1.1.2.2.1) e_) (fun e_ => (hk_.2) e_))) (fun k_ hk_ => ⟨hk_.1.1.1.1, hk_.1.1.1.2.1, hk_.1.1.1.2.2.1, hk_.1.1.1.2.2.2, hk_.1.1.2⟩)); have n1_ := Aside0.mk (Kd.R_mono (ok' := fun k_ => some k_ ≠ (v244 : Value).ownBlock ∧ some k_ ≠ (.slice Ao24 t237.length co24 : Value).ownBlock ∧ some k_ ≠ (.slice Ao32 t249.length co32 : Value).ownBlock ∧ some k_ ≠ (.slice Ao40 t258.length co40 : Value).ownBlock ∧ some k_ ≠ (.slice Ao71 t272.length co71 : Value).ownBlock) (Kd.R_keptB ((Kd.R_apart' HO_10.out (Kd.R_typed HO_256003.out) (by decide))) hkp (fun k_ hk_ hs_ => Or.elim hs_ (fun e_ => (hk_.1.1.2.2.1) e_) (fun e_ => (hk_.2) e_))) (fun k_ hk_ => ⟨hk_.1.1.1.1, hk_.1.1.1.2.1, hk_.1.1.1.2.2.1, hk_.1.1.1.2.2.2, hk_.1.1.2⟩)); have n2_ := Aside0.mk (Kd.R_mono (ok' := fun k_ => some k_ ≠ (v244 : Value).ownBlock ∧ some k_ ≠ (v265 : Value).ownBlock ∧ some k_ ≠ (.slice Ao32 t249.length co32 : Value).ownBlock ∧ some k_ ≠ (.slice Ao40 t258.length co40 : Value).ownBlock ∧ some k_ ≠ (.slice Ao71 t272.length co71 : Value).ownBlock) (Kd.R_keptB ((Kd.R_apart' HO_247002.out (Kd.R_typed HO_256003.out) (by decide))) hkp (fun k_ hk_ hs_ => Or.elim hs_ (fun e_ => (hk_.1.1.2.2.1) e_) (fun e_ => (hk_.2) e_))) (fun k_ hk_ => ⟨hk_.1.1.1.1, hk_.1.1.1.2.1, hk_.1.1.1.2.2.1, hk_.1.1.1.2.2.2, hk_.1.1.2⟩)); have n3_ := Aside0.mk (Kd.R_mono (ok' := fun k_ => some k_ ≠ (.slice Ao33 t252.length co33 : Value).ownBlock ∧ some k_ ≠ (.slice Ao41 t261.length co41 : Value).ownBlock ∧ some k_ ≠ (.slice Ao72 t275.length co72 : Value).ownBlock) (Kd.R_keptB ((Kd.R_apart' HO_247003.out (Kd.R_typed HO_256002.out) (by decide))) hkp (fun k_ hk_ hs_ => Or.elim hs_ (fun e_ => (hk_.2) e_) (fun e_ => (hk_.1.1.1) e_))) (fun k_ hk_ => ⟨hk_.1.1.1.1, hk_.1.1.1.2, hk_.1.1.2⟩)); have n4_ := Aside0.mk (Kd.R_reok rfl hy0 (fun k_ e_ => HO_256002.out.1 k_ e_)); have n5_ := Aside0.mk (Kd.R_reok rfl hy1 (fun k_ e_ => HO_256003.out.1 k_ e_)); have n6_ := Aside0.mk (Kd.R_mono (ok' := fun k_ => some k_ ≠ (v244 : Value).ownBlock ∧ some k_ ≠ (v265 : Value).ownBlock ∧ some k_ ≠ (.slice Ao24 t237.length co24 : Value).ownBlock ∧ some k_ ≠ (.slice Ao32 t249.length co32 : Value).ownBlock ∧ some k_ ≠ (.slice Ao71 t272.length co71 : Value).ownBlock) (Kd.R_keptB ((Kd.R_apart' HO_268002.out (Kd.R_typed HO_256003.out) (by decide))) hkp (fun k_ hk_ hs_ => Or.elim hs_ (fun e_ => (hk_.1.1.2.2.2) e_) (fun e_ => (hk_.2) e_))) (fun k_ hk_ => ⟨hk_.1.1.1.1, hk_.1.1.1.2.1, hk_.1.1.1.2.2.1, hk_.1.1.1.2.2.2, hk_.1.1.2⟩)); have n7_ := Aside0.mk (Kd.R_mono (ok' := fun k_ => some k_ ≠ (.slice Ao25 t240.length co25 : Value).ownBlock ∧ some k_ ≠ (.slice Ao33 t252.length co33 : Value).ownBlock ∧ some k_ ≠ (.slice Ao72 t275.length co72 : Value).ownBlock) (Kd.R_keptB ((Kd.R_apart' HO_268003.out (Kd.R_typed HO_256002.out) (by decide))) hkp (fun k_ hk_ hs_ => Or.elim hs_ (fun e_ => (hk_.2) e_) (fun e_ => (hk_.1.1.2) e_))) (fun k_ hk_ => ⟨hk_.1.1.1.1, hk_.1.1.1.2, hk_.1.1.2⟩)); have n8_ := Aside0.mk (blk_kept (kb_ BK225.out) hkp (fun hs_ => Or.elim hs_ (fun e_ => (fun e_ => (Kd.R_ne HO_256002.out BK225.out (by decide)) e_) e_) (fun e_ => (fun e_ => (Kd.R_ne HO_256003.out BK225.out (by decide)) e_) e_))); have n9_ := Aside0.mk (blk_kept (kb_ BK246.out) hkp (fun hs_ => Or.elim hs_ (fun e_ => (fun e_ => (Kd.R_ne HO_256002.out BK246.out (by decide)) e_) e_) (fun e_ => (fun e_ => (Kd.R_ne HO_256003.out BK246.out (by decide)) e_) e_))); have n10_ := Aside0.mk (blk_kept (kb_ BK255.out) hkp (fun hs_ => Or.elim hs_ (fun e_ => (fun e_ => (Kd.R_ne HO_256002.out BK255.out (by decide)) e_) e_) (fun e_ => (fun e_ => (Kd.R_ne HO_256003.out BK255.out (by decide)) e_) e_))); have n11_ := Aside0.mk (blk_kept (kb_ BK267.out) hkp (fun hs_ => Or.elim hs_ (fun e_ => (fun e_ => (Kd.R_ne HO_256002.out BK267.out (by decide)) e_) e_) (fun e_ => (fun e_ => (Kd.R_ne HO_256003.out BK267.out (by decide)) e_) e_))); have n12_ := Aside0.mk (Kd.R_mono (ok' := fun k_ => some k_ ≠ (v244 : Value).ownBlock ∧ some k_ ≠ (v265 : Value).ownBlock ∧ some k_ ≠ (.slice Ao24 t237.length co24 : Value).ownBlock ∧ some k_ ≠ (.slice Ao32 t249.length co32 : Value).ownBlock ∧ some k_ ≠ (.slice Ao40 t258.length co40 : Value).ownBlock) (Kd.R_keptB ((Kd.R_apart' HO274.out (Kd.R_typed HO_256003.out) (by decide))) hkp (fun k_ hk_ hs_ => Or.elim hs_ (fun e_ => (hk_.1.1.2) e_) (fun e_ => (hk_.2) e_))) (fun k_ hk_ => ⟨hk_.1.1.1.1.1.1.2, hk_.1.1.1.1.1.2, hk_.1.1.1.1.2, hk_.1.1.1.2, hk_.1.1.2⟩)); have n13_ := Aside0.mk (Kd.R_mono (ok' := fun k_ => some k_ ≠ (.slice Ao25 t240.length co25 : Value).ownBlock ∧ some k_ ≠ (.slice Ao33 t252.length co33 : Value).ownBlock ∧ some k_ ≠ (.slice Ao41 t261.length co41 : Value).ownBlock) (Kd.R_keptB ((Kd.R_apart' HO277.out (Kd.R_typed HO_256002.out) (by decide))) hkp (fun k_ hk_ hs_ => Or.elim hs_ (fun e_ => (hk_.2) e_) (fun e_ => (hk_.1.1.2) e_))) (fun k_ hk_ => ⟨hk_.1.1.1.1.2, hk_.1.1.1.2, hk_.1.1.2⟩)); have n14_ := Aside0.mk (hb); clear HO_7; clear HO_10; clear HO_247002; clear HO_247003; clear HO_256002; clear HO_256003; clear HO_268002; clear HO_268003; clear BK225; clear BK246; clear BK255; clear BK267; clear HO274; clear HO277; clear HB; have HO_7 := n0_; have HO_10 := n1_; have HO_247002 := n2_; have HO_247003 := n3_; have HO_256002 := n4_; have HO_256003 := n5_; have HO_268002 := n6_; have HO_268003 := n7_; have BK225 := n8_; have BK246 := n9_; have BK255 := n10_; have BK267 := n11_; have HO274 := n12_; have HO277 := n13_; have HB := n14_; clear n0_ n1_ n2_ n3_ n4_ n5_ n6_ n7_ n8_ n9_ n10_ n11_ n12_ n13_ n14_; (try clear hb); (try clear hkp); (try clear hy0); (try clear hy1)))
            (try simp only [Act.put, List.setIfInBounds_toArray, List.set_cons_zero, List.set_cons_succ])
            go_cut [67] (fun v67 wc => ∃ (kq : Nat) (x67_67 : Bool), v67 = .bool x67_67 ∧ Aside0 (laws_FnExactEarRead.j1 kq a1 t243 t264 x67_67 a0_0 a0_1 l0_2 l0_3 t235 t236 t237 t240 t256 t257 t258 t261 = some r) ∧ Aside0 (kq ≤ kj11) ∧ Aside0 (Kd.R (Kd.int .u8) 5 wc w.heap.size (fun k_ => some k_ ≠ (v265 : Value).ownBlock ∧ some k_ ≠ ((.slice Ao24 t237.length co24) : Value).ownBlock ∧ some k_ ≠ ((.slice Ao32 t249.length co32) : Value).ownBlock ∧ some k_ ≠ ((.slice Ao40 t258.length co40) : Value).ownBlock) v244 t243) ∧ Aside0 (Kd.R (Kd.int .u8) 5 wc w.heap.size (fun k_ => some k_ ≠ (v244 : Value).ownBlock ∧ some k_ ≠ ((.slice Ao24 t237.length co24) : Value).ownBlock ∧ some k_ ≠ ((.slice Ao32 t249.length co32) : Value).ownBlock ∧ some k_ ≠ ((.slice Ao40 t258.length co40) : Value).ownBlock) v265 t264) ∧ Aside0 (Kd.R (Kd.int .u8) 5 wc w.heap.size (fun k_ => some k_ ≠ (v244 : Value).ownBlock ∧ some k_ ≠ (v265 : Value).ownBlock ∧ some k_ ≠ ((.slice Ao32 t249.length co32) : Value).ownBlock ∧ some k_ ≠ ((.slice Ao40 t258.length co40) : Value).ownBlock) (.slice Ao24 t237.length co24) t237) ∧ Aside0 (Kd.R k70 70 wc w.heap.size (fun k_ => some k_ ≠ ((.slice Ao33 t252.length co33) : Value).ownBlock ∧ some k_ ≠ ((.slice Ao41 t261.length co41) : Value).ownBlock) (.slice Ao25 t240.length co25) t240) ∧ Aside0 (Kd.R (Kd.int .u8) 5 wc w.heap.size (fun k_ => some k_ ≠ (v244 : Value).ownBlock ∧ some k_ ≠ (v265 : Value).ownBlock ∧ some k_ ≠ ((.slice Ao24 t237.length co24) : Value).ownBlock ∧ some k_ ≠ ((.slice Ao40 t258.length co40) : Value).ownBlock) (.slice Ao32 t249.length co32) t280) ∧ Aside0 (Kd.R k70 70 wc w.heap.size (fun k_ => some k_ ≠ ((.slice Ao25 t240.length co25) : Value).ownBlock ∧ some k_ ≠ ((.slice Ao41 t261.length co41) : Value).ownBlock) (.slice Ao33 t252.length co33) t281) ∧ Aside0 (Kd.R (Kd.int .u8) 5 wc w.heap.size (fun k_ => some k_ ≠ (v244 : Value).ownBlock ∧ some k_ ≠ (v265 : Value).ownBlock ∧ some k_ ≠ ((.slice Ao24 t237.length co24) : Value).ownBlock ∧ some k_ ≠ ((.slice Ao32 t249.length co32) : Value).ownBlock) (.slice Ao40 t258.length co40) t258) ∧ Aside0 (Kd.R k70 70 wc w.heap.size (fun k_ => some k_ ≠ ((.slice Ao25 t240.length co25) : Value).ownBlock ∧ some k_ ≠ ((.slice Ao33 t252.length co33) : Value).ownBlock) (.slice Ao41 t261.length co41) t261) ∧ Aside0 (wc.heap[gb225]? = some (.cells #[.int .i64 a0_0, .int .i64 a0_1, (.slice A0_2 l0_2.length c0_2), (.slice A0_3 l0_3.length c0_3)] 39 (0, 0))) ∧ Aside0 (wc.heap[gb246]? = some (.cells #[.int .i64 t235, .int .i64 t236, (.slice Ao24 t237.length co24), (.slice Ao25 t240.length co25)] 25 (0, 0))) ∧ Aside0 (wc.heap[gb255]? = some (.cells #[.int .i64 t247, .int .i64 t248, (.slice Ao32 t249.length co32), (.slice Ao33 t252.length co33)] 25 (0, 0))) ∧ Aside0 (wc.heap[gb267]? = some (.cells #[.int .i64 t256, .int .i64 t257, (.slice Ao40 t258.length co40), (.slice Ao41 t261.length co41)] 25 (0, 0))) ∧ Aside0 (Below w.heap.size w wc))
            case first =>
              have H := HC68.out
              clear HC68
              by_cases c79 : t279 < 0
              · rw [if_pos c79] at H
                have c79b0 : decide (t279 < 0) = true := decide_eq_true c79
                clear c79
                (first | rw [c79b0] | (simp only [i64_w, i32_w]; rw [c79b0]) | skip)
                have H' := Aside0.mk H
                clear H
                go_wp2
                go_meet
                case rel => exact ⟨_, (true), (by first | rfl | (simp; done) | (simp [*]; done)), H', ⟨by have := HJ11.out; first | omega | exact Nat.le_refl _⟩, ⟨by refine kR_ ?_; exact Kd.R_mono HO_7.out (fun _ hk => op2_ hk)⟩, ⟨by refine kR_ ?_; exact Kd.R_mono HO_10.out (fun _ hk => op2_ hk)⟩, ⟨by refine kR_ ?_; exact Kd.R_mono HO_247002.out (fun _ hk => op2_ hk)⟩, ⟨by refine kR_ ?_; exact Kd.R_mono HO_247003.out (fun _ hk => op2_ hk)⟩, ⟨by refine kR_ ?_; exact Kd.R_mono HO_256002.out (fun _ hk => op2_ hk)⟩, ⟨by refine kR_ ?_; exact Kd.R_mono HO_256003.out (fun _ hk => op2_ hk)⟩, ⟨by refine kR_ ?_; exact Kd.R_mono HO_268002.out (fun _ hk => op2_ hk)⟩, ⟨by refine kR_ ?_; exact Kd.R_mono HO_268003.out (fun _ hk => op2_ hk)⟩, ⟨by refine kb_ ?_; exact BK225.out⟩, ⟨by refine kb_ ?_; exact BK246.out⟩, ⟨by refine kb_ ?_; exact BK255.out⟩, ⟨by refine kb_ ?_; exact BK267.out⟩, ⟨by repeat (first | (with_reducible first | exact HB.out | apply below_alloc | apply pw_below_drewN | apply below_drew1 | refine below_set ?_ GE225.out | refine below_set ?_ GE246.out | refine below_set ?_ GE255.out | refine below_set ?_ GE267.out) | exact HB.out)⟩⟩
              · rw [if_neg c79] at H
                have c79b0 : decide (t279 < 0) = false := decide_eq_false c79
                clear c79
                (first | rw [c79b0] | (simp only [i64_w, i32_w]; rw [c79b0]) | skip)
                replace H := Option.bind_eq_some_iff.mp H
                obtain ⟨t282, A800, H⟩ := H
                replace H : (if t282 = true then ((laws_eqByteS.f kj11 t264 t243).bind fun t283 => (laws_FnExactEarRead.j1 kj11 a1 t243 t264 (!t283) a0_0 a0_1 l0_2 l0_3 t235 t236 t237 t240 t256 t257 t258 t261)) else (laws_FnExactEarRead.j1 kj11 a1 t243 t264 true a0_0 a0_1 l0_2 l0_3 t235 t236 t237 t240 t256 t257 t258 t261)) = some r := H
                have A80 := Aside0.mk A800
                clear A800
                by_cases c81 : t282 = true
                · subst c81
                  have H1 : ((laws_eqByteS.f kj11 t264 t243).bind fun t283 => (laws_FnExactEarRead.j1 kj11 a1 t243 t264 (!t283) a0_0 a0_1 l0_2 l0_3 t235 t236 t237 t240 t256 t257 t258 t261)) = some r := by rw [if_pos rfl] at H; exact H
                  clear H
                  have H := H1
                  clear H1
                  replace H := Option.bind_eq_some_iff.mp H
                  obtain ⟨t283, A820, H⟩ := H
                  replace H : (laws_FnExactEarRead.j1 kj11 a1 t243 t264 (!t283) a0_0 a0_1 l0_2 l0_3 t235 t236 t237 t240 t256 t257 t258 t261) = some r := H
                  have A82 := Aside0.mk A820
                  clear A820
                  have H' := Aside0.mk H
                  clear H
                  have hnb83 := NB267_225.out
                  have hnc83 := NB225_267.out
                  have hnb84 := NB267_246.out
                  have hnc84 := NB246_267.out
                  have hnb85 := NB267_255.out
                  have hnc85 := NB255_267.out
                  have hcz86_0 : w78.cell? ⟨gb267, 0, none⟩ = some (.int .i64 t256) := (blk_cell BK267.out 0).trans rfl
                  have hcz86_1 : w78.cell? ⟨gb267, 1, none⟩ = some (.int .i64 t257) := (blk_cell BK267.out 1).trans rfl
                  have hcz86_2 : w78.cell? ⟨gb267, 2, none⟩ = some (.slice Ao40 t258.length co40) := (blk_cell BK267.out 2).trans rfl
                  have hcz86_3 : w78.cell? ⟨gb267, 3, none⟩ = some (.slice Ao41 t261.length co41) := (blk_cell BK267.out 3).trans rfl
                  have hfz86_0 := blk_frozen BK267.out 0
                  have hfz86_1 := blk_frozen BK267.out 1
                  have hfz86_2 := blk_frozen BK267.out 2
                  have hfz86_3 := blk_frozen BK267.out 3
                  have hnb87 := NB246_225.out
                  have hnc87 := NB225_246.out
                  have hnb88 := NB246_255.out
                  have hnc88 := NB255_246.out
                  have hcz89_0 : w78.cell? ⟨gb246, 0, none⟩ = some (.int .i64 t235) := (blk_cell BK246.out 0).trans rfl
                  have hcz89_1 : w78.cell? ⟨gb246, 1, none⟩ = some (.int .i64 t236) := (blk_cell BK246.out 1).trans rfl
                  have hcz89_2 : w78.cell? ⟨gb246, 2, none⟩ = some (.slice Ao24 t237.length co24) := (blk_cell BK246.out 2).trans rfl
                  have hcz89_3 : w78.cell? ⟨gb246, 3, none⟩ = some (.slice Ao25 t240.length co25) := (blk_cell BK246.out 3).trans rfl
                  have hfz89_0 := blk_frozen BK246.out 0
                  have hfz89_1 := blk_frozen BK246.out 1
                  have hfz89_2 := blk_frozen BK246.out 2
                  have hfz89_3 := blk_frozen BK246.out 3
                  go_wp2_with (first | (go_at_call 21; (with_reducible refine (laws_eqEar.calls kj11 t256 t257 _ _ t258 _ _ t261 t235 t236 _ _ t237 _ _ t240 true _ ?side1 ?side2 ?side3 ?side4 ?side5 ?side6 ?side7 ?side8 A80.out).mono ?_); (case side1 => exact kC_ (Kd.R_reads' HO_268002.out).2.2); (case side2 => exact (Kd.R_reads' HO_268002.out).2.1); (case side3 => exact kC_ (Kd.R_reads' HO_268003.out).2.2); (case side4 => exact (Kd.R_reads' HO_268003.out).2.1); (case side5 => exact kC_ (Kd.R_reads' HO_247002.out).2.2); (case side6 => exact (Kd.R_reads' HO_247002.out).2.1); (case side7 => exact kC_ (Kd.R_reads' HO_247003.out).2.2); (case side8 => exact (Kd.R_reads' HO_247003.out).2.1); rintro e w90 ⟨rfl, hb⟩; have n0_ := Aside0.mk (Kd.R_below (kR_ HO_7.out) hb); have n1_ := Aside0.mk (Kd.R_below (kR_ HO_10.out) hb); have n2_ := Aside0.mk (Kd.R_below (kR_ HO_247002.out) hb); have n3_ := Aside0.mk (Kd.R_below (kR_ HO_247003.out) hb); have n4_ := Aside0.mk (Kd.R_below (kR_ HO_256002.out) hb); have n5_ := Aside0.mk (Kd.R_below (kR_ HO_256003.out) hb); have n6_ := Aside0.mk (Kd.R_below (kR_ HO_268002.out) hb); have n7_ := Aside0.mk (Kd.R_below (kR_ HO_268003.out) hb); have n8_ := Aside0.mk (Kd.R_below (kR_ HO274.out) hb); have n9_ := Aside0.mk (Kd.R_below (kR_ HO277.out) hb); have n10_ := Aside0.mk (blk_below (g := gb225) (o := .cells #[.int .i64 a0_0, .int .i64 a0_1, .slice A0_2 l0_2.length c0_2, .slice A0_3 l0_3.length c0_3] 39 (0, 0)) (kb_ BK225.out) hb); have n11_ := Aside0.mk (blk_below (g := gb246) (o := .cells #[.int .i64 t235, .int .i64 t236, .slice Ao24 t237.length co24, .slice Ao25 t240.length co25] 25 (0, 0)) (kb_ BK246.out) hb); have n12_ := Aside0.mk (blk_below (g := gb255) (o := .cells #[.int .i64 t247, .int .i64 t248, .slice Ao32 t249.length co32, .slice Ao33 t252.length co33] 25 (0, 0)) (kb_ BK255.out) hb); have n13_ := Aside0.mk (blk_below (g := gb267) (o := .cells #[.int .i64 t256, .int .i64 t257, .slice Ao40 t258.length co40, .slice Ao41 t261.length co41] 25 (0, 0)) (kb_ BK267.out) hb); have n14_ := Aside0.mk (below_step (hb4_ HB.out GE225.out GE246.out GE255.out GE267.out) hb); clear HO_7; clear HO_10; clear HO_247002; clear HO_247003; clear HO_256002; clear HO_256003; clear HO_268002; clear HO_268003; clear HO274; clear HO277; clear BK225; clear BK246; clear BK255; clear BK267; clear HB; have HO_7 := n0_; have HO_10 := n1_; have HO_247002 := n2_; have HO_247003 := n3_; have HO_256002 := n4_; have HO_256003 := n5_; have HO_268002 := n6_; have HO_268003 := n7_; have HO274 := n8_; have HO277 := n9_; have BK225 := n10_; have BK246 := n11_; have BK255 := n12_; have BK267 := n13_; have HB := n14_; clear n0_ n1_ n2_ n3_ n4_ n5_ n6_ n7_ n8_ n9_ n10_ n11_ n12_ n13_ n14_; (try clear hb); (try clear hb2); (try clear hk); (try clear hi); obtain ⟨Ao91, co91, eo91⟩ := Kd.R_slice HO_10.out; subst eo91; obtain ⟨Ao92, co92, eo92⟩ := Kd.R_slice HO_7.out; subst eo92) | (go_at_call 22; (with_reducible refine (laws_eqByteS.calls kj11 _ _ t264 _ _ t243 t283 _ ?side1 ?side2 ?side3 ?side4 A82.out).mono ?_); (case side1 => exact kC_ (Kd.R_reads' HO_10.out).2.2); (case side2 => exact (Kd.R_reads' HO_10.out).2.1); (case side3 => exact kC_ (Kd.R_reads' HO_7.out).2.2); (case side4 => exact (Kd.R_reads' HO_7.out).2.1); rintro e w' ⟨rfl, ⟨nd, rfl⟩⟩))
                  go_meet
                  case rel => exact ⟨_, (!t283), (by first | rfl | (simp; done) | (simp [*]; done)), H', ⟨by have := HJ11.out; first | omega | exact Nat.le_refl _⟩, ⟨by refine kR_ ?_; exact Kd.R_mono HO_7.out (fun _ hk => op2_ hk)⟩, ⟨by refine kR_ ?_; exact Kd.R_mono HO_10.out (fun _ hk => op2_ hk)⟩, ⟨by refine kR_ ?_; exact Kd.R_mono HO_247002.out (fun _ hk => op2_ hk)⟩, ⟨by refine kR_ ?_; exact Kd.R_mono HO_247003.out (fun _ hk => op2_ hk)⟩, ⟨by refine kR_ ?_; exact Kd.R_mono HO_256002.out (fun _ hk => op2_ hk)⟩, ⟨by refine kR_ ?_; exact Kd.R_mono HO_256003.out (fun _ hk => op2_ hk)⟩, ⟨by refine kR_ ?_; exact Kd.R_mono HO_268002.out (fun _ hk => op2_ hk)⟩, ⟨by refine kR_ ?_; exact Kd.R_mono HO_268003.out (fun _ hk => op2_ hk)⟩, ⟨by refine kb_ ?_; exact BK225.out⟩, ⟨by refine kb_ ?_; exact BK246.out⟩, ⟨by refine kb_ ?_; exact BK255.out⟩, ⟨by refine kb_ ?_; exact BK267.out⟩, ⟨by repeat (first | (with_reducible first | exact HB.out | apply below_alloc | apply pw_below_drewN | apply below_drew1 | refine below_set ?_ GE225.out | refine below_set ?_ GE246.out | refine below_set ?_ GE255.out | refine below_set ?_ GE267.out) | exact HB.out)⟩⟩
                · replace c81 := Bool.eq_false_iff.mpr c81
                  subst c81
                  have H1 : (laws_FnExactEarRead.j1 kj11 a1 t243 t264 true a0_0 a0_1 l0_2 l0_3 t235 t236 t237 t240 t256 t257 t258 t261) = some r := by rw [if_neg (show ¬ (false = true) by decide)] at H; exact H
                  clear H
                  have H := H1
                  clear H1
                  have H' := Aside0.mk H
                  clear H
                  have hnb93 := NB267_225.out
                  have hnc93 := NB225_267.out
                  have hnb94 := NB267_246.out
                  have hnc94 := NB246_267.out
                  have hnb95 := NB267_255.out
                  have hnc95 := NB255_267.out
                  have hcz96_0 : w78.cell? ⟨gb267, 0, none⟩ = some (.int .i64 t256) := (blk_cell BK267.out 0).trans rfl
                  have hcz96_1 : w78.cell? ⟨gb267, 1, none⟩ = some (.int .i64 t257) := (blk_cell BK267.out 1).trans rfl
                  have hcz96_2 : w78.cell? ⟨gb267, 2, none⟩ = some (.slice Ao40 t258.length co40) := (blk_cell BK267.out 2).trans rfl
                  have hcz96_3 : w78.cell? ⟨gb267, 3, none⟩ = some (.slice Ao41 t261.length co41) := (blk_cell BK267.out 3).trans rfl
                  have hfz96_0 := blk_frozen BK267.out 0
                  have hfz96_1 := blk_frozen BK267.out 1
                  have hfz96_2 := blk_frozen BK267.out 2
                  have hfz96_3 := blk_frozen BK267.out 3
                  have hnb97 := NB246_225.out
                  have hnc97 := NB225_246.out
                  have hnb98 := NB246_255.out
                  have hnc98 := NB255_246.out
                  have hcz99_0 : w78.cell? ⟨gb246, 0, none⟩ = some (.int .i64 t235) := (blk_cell BK246.out 0).trans rfl
                  have hcz99_1 : w78.cell? ⟨gb246, 1, none⟩ = some (.int .i64 t236) := (blk_cell BK246.out 1).trans rfl
                  have hcz99_2 : w78.cell? ⟨gb246, 2, none⟩ = some (.slice Ao24 t237.length co24) := (blk_cell BK246.out 2).trans rfl
                  have hcz99_3 : w78.cell? ⟨gb246, 3, none⟩ = some (.slice Ao25 t240.length co25) := (blk_cell BK246.out 3).trans rfl
                  have hfz99_0 := blk_frozen BK246.out 0
                  have hfz99_1 := blk_frozen BK246.out 1
                  have hfz99_2 := blk_frozen BK246.out 2
                  have hfz99_3 := blk_frozen BK246.out 3
                  go_wp2_with (first | (go_at_call 21; (with_reducible refine (laws_eqEar.calls kj11 t256 t257 _ _ t258 _ _ t261 t235 t236 _ _ t237 _ _ t240 false _ ?side1 ?side2 ?side3 ?side4 ?side5 ?side6 ?side7 ?side8 A80.out).mono ?_); (case side1 => exact kC_ (Kd.R_reads' HO_268002.out).2.2); (case side2 => exact (Kd.R_reads' HO_268002.out).2.1); (case side3 => exact kC_ (Kd.R_reads' HO_268003.out).2.2); (case side4 => exact (Kd.R_reads' HO_268003.out).2.1); (case side5 => exact kC_ (Kd.R_reads' HO_247002.out).2.2); (case side6 => exact (Kd.R_reads' HO_247002.out).2.1); (case side7 => exact kC_ (Kd.R_reads' HO_247003.out).2.2); (case side8 => exact (Kd.R_reads' HO_247003.out).2.1); rintro e w100 ⟨rfl, hb⟩; have n0_ := Aside0.mk (Kd.R_below (kR_ HO_7.out) hb); have n1_ := Aside0.mk (Kd.R_below (kR_ HO_10.out) hb); have n2_ := Aside0.mk (Kd.R_below (kR_ HO_247002.out) hb); have n3_ := Aside0.mk (Kd.R_below (kR_ HO_247003.out) hb); have n4_ := Aside0.mk (Kd.R_below (kR_ HO_256002.out) hb); have n5_ := Aside0.mk (Kd.R_below (kR_ HO_256003.out) hb); have n6_ := Aside0.mk (Kd.R_below (kR_ HO_268002.out) hb); have n7_ := Aside0.mk (Kd.R_below (kR_ HO_268003.out) hb); have n8_ := Aside0.mk (Kd.R_below (kR_ HO274.out) hb); have n9_ := Aside0.mk (Kd.R_below (kR_ HO277.out) hb); have n10_ := Aside0.mk (blk_below (g := gb225) (o := .cells #[.int .i64 a0_0, .int .i64 a0_1, .slice A0_2 l0_2.length c0_2, .slice A0_3 l0_3.length c0_3] 39 (0, 0)) (kb_ BK225.out) hb); have n11_ := Aside0.mk (blk_below (g := gb246) (o := .cells #[.int .i64 t235, .int .i64 t236, .slice Ao24 t237.length co24, .slice Ao25 t240.length co25] 25 (0, 0)) (kb_ BK246.out) hb); have n12_ := Aside0.mk (blk_below (g := gb255) (o := .cells #[.int .i64 t247, .int .i64 t248, .slice Ao32 t249.length co32, .slice Ao33 t252.length co33] 25 (0, 0)) (kb_ BK255.out) hb); have n13_ := Aside0.mk (blk_below (g := gb267) (o := .cells #[.int .i64 t256, .int .i64 t257, .slice Ao40 t258.length co40, .slice Ao41 t261.length co41] 25 (0, 0)) (kb_ BK267.out) hb); have n14_ := Aside0.mk (below_step (hb4_ HB.out GE225.out GE246.out GE255.out GE267.out) hb); clear HO_7; clear HO_10; clear HO_247002; clear HO_247003; clear HO_256002; clear HO_256003; clear HO_268002; clear HO_268003; clear HO274; clear HO277; clear BK225; clear BK246; clear BK255; clear BK267; clear HB; have HO_7 := n0_; have HO_10 := n1_; have HO_247002 := n2_; have HO_247003 := n3_; have HO_256002 := n4_; have HO_256003 := n5_; have HO_268002 := n6_; have HO_268003 := n7_; have HO274 := n8_; have HO277 := n9_; have BK225 := n10_; have BK246 := n11_; have BK255 := n12_; have BK267 := n13_; have HB := n14_; clear n0_ n1_ n2_ n3_ n4_ n5_ n6_ n7_ n8_ n9_ n10_ n11_ n12_ n13_ n14_; (try clear hb); (try clear hb2); (try clear hk); (try clear hi)))
                  go_meet
                  case rel => exact ⟨_, (true), (by first | rfl | (simp; done) | (simp [*]; done)), H', ⟨by have := HJ11.out; first | omega | exact Nat.le_refl _⟩, ⟨by refine kR_ ?_; exact Kd.R_mono HO_7.out (fun _ hk => op2_ hk)⟩, ⟨by refine kR_ ?_; exact Kd.R_mono HO_10.out (fun _ hk => op2_ hk)⟩, ⟨by refine kR_ ?_; exact Kd.R_mono HO_247002.out (fun _ hk => op2_ hk)⟩, ⟨by refine kR_ ?_; exact Kd.R_mono HO_247003.out (fun _ hk => op2_ hk)⟩, ⟨by refine kR_ ?_; exact Kd.R_mono HO_256002.out (fun _ hk => op2_ hk)⟩, ⟨by refine kR_ ?_; exact Kd.R_mono HO_256003.out (fun _ hk => op2_ hk)⟩, ⟨by refine kR_ ?_; exact Kd.R_mono HO_268002.out (fun _ hk => op2_ hk)⟩, ⟨by refine kR_ ?_; exact Kd.R_mono HO_268003.out (fun _ hk => op2_ hk)⟩, ⟨by refine kb_ ?_; exact BK225.out⟩, ⟨by refine kb_ ?_; exact BK246.out⟩, ⟨by refine kb_ ?_; exact BK255.out⟩, ⟨by refine kb_ ?_; exact BK267.out⟩, ⟨by repeat (first | (with_reducible first | exact HB.out | apply below_alloc | apply pw_below_drewN | apply below_drew1 | refine below_set ?_ GE225.out | refine below_set ?_ GE246.out | refine below_set ?_ GE255.out | refine below_set ?_ GE267.out) | exact HB.out)⟩⟩
            case rest =>
              clear HC68
              try clear c1
              try clear c2
              try clear p2
              try clear c3
              try clear c4
              try clear c4b0
              try clear c5
              try clear c6
              try clear c7
              try clear c8
              try clear c9
              try clear c14
              try clear c16
              try clear c19
              try clear c20
              try clear c21
              try clear c22
              try clear c23
              try clear c29
              try clear c30
              try clear c36
              try clear c37
              try clear c38
              try clear c43
              try clear c45
              try clear c46
              try clear c47
              try clear c49
              try clear c50
              try clear c55
              try clear c56
              try clear c57
              try clear c59
              try clear c60
              try clear c63
              try clear c66
              try clear c74
              try clear c75
              try clear c76
              try clear c79
              try clear c79b0
              try clear c81
              try clear c83
              try clear c84
              try clear c85
              try clear c87
              try clear c88
              try clear c93
              try clear c94
              try clear c95
              try clear c97
              try clear c98
              try clear hcz14_0
              try clear hcz14_1
              try clear hcz14_2
              try clear hcz14_3
              try clear hcz16_0
              try clear hcz16_1
              try clear hcz16_2
              try clear hcz16_3
              try clear hcz23_0
              try clear hcz23_1
              try clear hcz23_2
              try clear hcz23_3
              try clear hcz26_0
              try clear hcz26_1
              try clear hcz26_2
              try clear hcz26_3
              try clear hcz31_0
              try clear hcz31_1
              try clear hcz31_2
              try clear hcz31_3
              try clear hcz39_0
              try clear hcz39_1
              try clear hcz39_2
              try clear hcz39_3
              try clear hcz48_0
              try clear hcz48_1
              try clear hcz48_2
              try clear hcz48_3
              try clear hcz51_0
              try clear hcz51_1
              try clear hcz51_2
              try clear hcz51_3
              try clear hcz58_0
              try clear hcz58_1
              try clear hcz58_2
              try clear hcz58_3
              try clear hcz61_0
              try clear hcz61_1
              try clear hcz61_2
              try clear hcz61_3
              try clear hcz6_0
              try clear hcz6_1
              try clear hcz6_2
              try clear hcz6_3
              try clear hcz77_0
              try clear hcz77_1
              try clear hcz77_2
              try clear hcz77_3
              try clear hcz86_0
              try clear hcz86_1
              try clear hcz86_2
              try clear hcz86_3
              try clear hcz89_0
              try clear hcz89_1
              try clear hcz89_2
              try clear hcz89_3
              try clear hcz96_0
              try clear hcz96_1
              try clear hcz96_2
              try clear hcz96_3
              try clear hcz99_0
              try clear hcz99_1
              try clear hcz99_2
              try clear hcz99_3
              try clear hfz14_0
              try clear hfz14_1
              try clear hfz14_2
              try clear hfz14_3
              try clear hfz16_0
              try clear hfz16_1
              try clear hfz16_2
              try clear hfz16_3
              try clear hfz23_0
              try clear hfz23_1
              try clear hfz23_2
              try clear hfz23_3
              try clear hfz26_0
              try clear hfz26_1
              try clear hfz26_2
              try clear hfz26_3
              try clear hfz31_0
              try clear hfz31_1
              try clear hfz31_2
              try clear hfz31_3
              try clear hfz39_0
              try clear hfz39_1
              try clear hfz39_2
              try clear hfz39_3
              try clear hfz48_0
              try clear hfz48_1
              try clear hfz48_2
              try clear hfz48_3
              try clear hfz51_0
              try clear hfz51_1
              try clear hfz51_2
              try clear hfz51_3
              try clear hfz58_0
              try clear hfz58_1
              try clear hfz58_2
              try clear hfz58_3
              try clear hfz61_0
              try clear hfz61_1
              try clear hfz61_2
              try clear hfz61_3
              try clear hfz6_0
              try clear hfz6_1
              try clear hfz6_2
              try clear hfz6_3
              try clear hfz77_0
              try clear hfz77_1
              try clear hfz77_2
              try clear hfz77_3
              try clear hfz86_0
              try clear hfz86_1
              try clear hfz86_2
              try clear hfz86_3
              try clear hfz89_0
              try clear hfz89_1
              try clear hfz89_2
              try clear hfz89_3
              try clear hfz96_0
              try clear hfz96_1
              try clear hfz96_2
              try clear hfz96_3
              try clear hfz99_0
              try clear hfz99_1
              try clear hfz99_2
              try clear hfz99_3
              try clear p2
              obtain ⟨kq, x67_67, rfl, HA, HJ67, HO_7, HO_10, HO_247002, HO_247003, HO_256002, HO_256003, HO_268002, HO_268003, BK225, BK246, BK255, BK267, HB⟩ := hcut
              have hl256002_67 := (Kd.R_reads' HO_256002.out).1
              rw [hl256002_67] at HO_256002
              (try simp only [hl256002_67])
              (try simp only [hl256002_67] at BK225)
              (try simp only [hl256002_67] at BK246)
              (try simp only [hl256002_67] at BK255)
              (try simp only [hl256002_67] at BK267)
              (try simp only [hl256002_67] at HO_7)
              (try simp only [hl256002_67] at HO_10)
              (try simp only [hl256002_67] at HO_247002)
              (try simp only [hl256002_67] at HO_247003)
              (try simp only [hl256002_67] at HO_256003)
              (try simp only [hl256002_67] at HO_268002)
              (try simp only [hl256002_67] at HO_268003)
              have hl256003_67 := (Kd.R_reads' HO_256003.out).1
              rw [hl256003_67] at HO_256003
              (try simp only [hl256003_67])
              (try simp only [hl256003_67] at BK225)
              (try simp only [hl256003_67] at BK246)
              (try simp only [hl256003_67] at BK255)
              (try simp only [hl256003_67] at BK267)
              (try simp only [hl256003_67] at HO_7)
              (try simp only [hl256003_67] at HO_10)
              (try simp only [hl256003_67] at HO_247002)
              (try simp only [hl256003_67] at HO_247003)
              (try simp only [hl256003_67] at HO_256002)
              (try simp only [hl256003_67] at HO_268002)
              (try simp only [hl256003_67] at HO_268003)
              cases kq with
              | zero => exact absurd HA.out (by simp [laws_FnExactEarRead.j1])
              | succ kj67 =>
                have H := HA.out
                clear HA
                simp only [laws_FnExactEarRead.j1] at H
                by_cases c101 : x67_67 = true
                · subst c101
                  have H1 : (some false) = some r := by rw [if_pos rfl] at H; exact H
                  clear H
                  have H := H1
                  clear H1
                  exact absurd (Option.some.inj H) (by rw [HLW.out]; exact Bool.false_ne_true)
                · replace c101 := Bool.eq_false_iff.mpr c101
                  subst c101
                  have H1 : ((laws_markEar.f kj67 t256 t257 t258 t261 1).bind fun bt284 => ((laws_markByteS.f kj67 t264 bt284.1).bind fun bt287 => ((laws_heldEar.f kj67 t256 t257 bt284.2.1 bt284.2.2 1).bind fun t289 => (if t289 < 0 then (some false) else ((laws_heldByteS.f kj67 bt287.2 t289).bind fun t290 => (if t290 < 0 then (some false) else (if t290 = bt287.1 then ((laws_toEar.f kj67 a0_0 a0_1 l0_2 l0_3).bind fun bt291 => ((impl_EarRead.f kj67 bt291.1 bt291.2.1 bt291.2.2.1 bt291.2.2.2 a1).bind fun bt299 => ((laws_eqEar.f kj67 bt299.1 bt299.2.1 bt299.2.2.1 bt299.2.2.2.1 t235 t236 t237 t240).bind fun t311 => (if t311 = true then ((laws_eqByteS.f kj67 bt299.2.2.2.2 t243).bind fun t312 => (laws_FnExactEarRead.j2 kj67 bt287.2 bt287.1 (!t312) t256 t257 bt284.2.1 bt284.2.2)) else (laws_FnExactEarRead.j2 kj67 bt287.2 bt287.1 true t256 t257 bt284.2.1 bt284.2.2))))) else (some false)))))))) = some r := by rw [if_neg (show ¬ (false = true) by decide)] at H; exact H
                  clear H
                  have H := H1
                  clear H1
                  replace H := Option.bind_eq_some_iff.mp H
                  obtain ⟨⟨t284, t285, t286⟩, A1020, H⟩ := H
                  replace H : ((laws_markByteS.f kj67 t264 t284).bind fun bt287 => ((laws_heldEar.f kj67 t256 t257 t285 t286 1).bind fun t289 => (if t289 < 0 then (some false) else ((laws_heldByteS.f kj67 bt287.2 t289).bind fun t290 => (if t290 < 0 then (some false) else (if t290 = bt287.1 then ((laws_toEar.f kj67 a0_0 a0_1 l0_2 l0_3).bind fun bt291 => ((impl_EarRead.f kj67 bt291.1 bt291.2.1 bt291.2.2.1 bt291.2.2.2 a1).bind fun bt299 => ((laws_eqEar.f kj67 bt299.1 bt299.2.1 bt299.2.2.1 bt299.2.2.2.1 t235 t236 t237 t240).bind fun t311 => (if t311 = true then ((laws_eqByteS.f kj67 bt299.2.2.2.2 t243).bind fun t312 => (laws_FnExactEarRead.j2 kj67 bt287.2 bt287.1 (!t312) t256 t257 t285 t286)) else (laws_FnExactEarRead.j2 kj67 bt287.2 bt287.1 true t256 t257 t285 t286))))) else (some false))))))) = some r := H
                  have A102 := Aside0.mk A1020
                  clear A1020
                  replace H := Option.bind_eq_some_iff.mp H
                  obtain ⟨⟨t287, t288⟩, A1030, H⟩ := H
                  replace H : ((laws_heldEar.f kj67 t256 t257 t285 t286 1).bind fun t289 => (if t289 < 0 then (some false) else ((laws_heldByteS.f kj67 t288 t289).bind fun t290 => (if t290 < 0 then (some false) else (if t290 = t287 then ((laws_toEar.f kj67 a0_0 a0_1 l0_2 l0_3).bind fun bt291 => ((impl_EarRead.f kj67 bt291.1 bt291.2.1 bt291.2.2.1 bt291.2.2.2 a1).bind fun bt299 => ((laws_eqEar.f kj67 bt299.1 bt299.2.1 bt299.2.2.1 bt299.2.2.2.1 t235 t236 t237 t240).bind fun t311 => (if t311 = true then ((laws_eqByteS.f kj67 bt299.2.2.2.2 t243).bind fun t312 => (laws_FnExactEarRead.j2 kj67 t288 t287 (!t312) t256 t257 t285 t286)) else (laws_FnExactEarRead.j2 kj67 t288 t287 true t256 t257 t285 t286))))) else (some false)))))) = some r := H
                  have A103 := Aside0.mk A1030
                  clear A1030
                  replace H := Option.bind_eq_some_iff.mp H
                  obtain ⟨t289, A1040, H⟩ := H
                  replace H : (if t289 < 0 then (some false) else ((laws_heldByteS.f kj67 t288 t289).bind fun t290 => (if t290 < 0 then (some false) else (if t290 = t287 then ((laws_toEar.f kj67 a0_0 a0_1 l0_2 l0_3).bind fun bt291 => ((impl_EarRead.f kj67 bt291.1 bt291.2.1 bt291.2.2.1 bt291.2.2.2 a1).bind fun bt299 => ((laws_eqEar.f kj67 bt299.1 bt299.2.1 bt299.2.2.1 bt299.2.2.2.1 t235 t236 t237 t240).bind fun t311 => (if t311 = true then ((laws_eqByteS.f kj67 bt299.2.2.2.2 t243).bind fun t312 => (laws_FnExactEarRead.j2 kj67 t288 t287 (!t312) t256 t257 t285 t286)) else (laws_FnExactEarRead.j2 kj67 t288 t287 true t256 t257 t285 t286))))) else (some false))))) = some r := H
                  have A104 := Aside0.mk A1040
                  clear A1040
                  by_cases c105 : t289 < 0
                  · rw [if_pos c105] at H
                    have c105b0 : decide (t289 < 0) = true := decide_eq_true c105
                    clear c105
                    exact absurd (Option.some.inj H) (by rw [HLW.out]; exact Bool.false_ne_true)
                  · rw [if_neg c105] at H
                    have c105b0 : decide (t289 < 0) = false := decide_eq_false c105
                    clear c105
                    replace H := Option.bind_eq_some_iff.mp H
                    obtain ⟨t290, A1060, H⟩ := H
                    replace H : (if t290 < 0 then (some false) else (if t290 = t287 then ((laws_toEar.f kj67 a0_0 a0_1 l0_2 l0_3).bind fun bt291 => ((impl_EarRead.f kj67 bt291.1 bt291.2.1 bt291.2.2.1 bt291.2.2.2 a1).bind fun bt299 => ((laws_eqEar.f kj67 bt299.1 bt299.2.1 bt299.2.2.1 bt299.2.2.2.1 t235 t236 t237 t240).bind fun t311 => (if t311 = true then ((laws_eqByteS.f kj67 bt299.2.2.2.2 t243).bind fun t312 => (laws_FnExactEarRead.j2 kj67 t288 t287 (!t312) t256 t257 t285 t286)) else (laws_FnExactEarRead.j2 kj67 t288 t287 true t256 t257 t285 t286))))) else (some false))) = some r := H
                    have A106 := Aside0.mk A1060
                    clear A1060
                    by_cases c107 : t290 < 0
                    · rw [if_pos c107] at H
                      have c107b0 : decide (t290 < 0) = true := decide_eq_true c107
                      clear c107
                      exact absurd (Option.some.inj H) (by rw [HLW.out]; exact Bool.false_ne_true)
                    · rw [if_neg c107] at H
                      have c107b0 : decide (t290 < 0) = false := decide_eq_false c107
                      clear c107
                      by_cases c108 : t290 = t287
                      · rw [if_pos c108] at H
                        have c108b0 : (t290 == t287) = true := beq_iff_eq.mpr c108
                        have c108b1 : (t290 != t287) = false := bne_eq_false_iff_eq.mpr c108
                        clear c108
                        replace H := Option.bind_eq_some_iff.mp H
                        obtain ⟨⟨t291, t292, t293, t296⟩, A1090, H⟩ := H
                        replace H : ((impl_EarRead.f kj67 t291 t292 t293 t296 a1).bind fun bt299 => ((laws_eqEar.f kj67 bt299.1 bt299.2.1 bt299.2.2.1 bt299.2.2.2.1 t235 t236 t237 t240).bind fun t311 => (if t311 = true then ((laws_eqByteS.f kj67 bt299.2.2.2.2 t243).bind fun t312 => (laws_FnExactEarRead.j2 kj67 t288 t287 (!t312) t256 t257 t285 t286)) else (laws_FnExactEarRead.j2 kj67 t288 t287 true t256 t257 t285 t286)))) = some r := H
                        have A109 := Aside0.mk A1090
                        clear A1090
                        replace H := Option.bind_eq_some_iff.mp H
                        obtain ⟨⟨t299, t300, t301, t304, t307⟩, A1100, H⟩ := H
                        replace H : ((laws_eqEar.f kj67 t299 t300 t301 t304 t235 t236 t237 t240).bind fun t311 => (if t311 = true then ((laws_eqByteS.f kj67 t307 t243).bind fun t312 => (laws_FnExactEarRead.j2 kj67 t288 t287 (!t312) t256 t257 t285 t286)) else (laws_FnExactEarRead.j2 kj67 t288 t287 true t256 t257 t285 t286))) = some r := H
                        have A110 := Aside0.mk A1100
                        clear A1100
                        have HC111 := Aside0.mk H
                        clear H
                        have hnb112 := NB267_225.out
                        have hnc112 := NB225_267.out
                        have hnb113 := NB267_246.out
                        have hnc113 := NB246_267.out
                        have hnb114 := NB267_255.out
                        have hnc114 := NB255_267.out
                        have hcz115_0 : wc.cell? ⟨gb267, 0, none⟩ = some (.int .i64 t256) := (blk_cell BK267.out 0).trans rfl
                        have hcz115_1 : wc.cell? ⟨gb267, 1, none⟩ = some (.int .i64 t257) := (blk_cell BK267.out 1).trans rfl
                        have hcz115_2 : wc.cell? ⟨gb267, 2, none⟩ = some (.slice Ao40 t258.length co40) := (blk_cell BK267.out 2).trans rfl
                        have hcz115_3 : wc.cell? ⟨gb267, 3, none⟩ = some (.slice Ao41 t261.length co41) := (blk_cell BK267.out 3).trans rfl
                        have hfz115_0 := blk_frozen BK267.out 0
                        have hfz115_1 := blk_frozen BK267.out 1
                        have hfz115_2 := blk_frozen BK267.out 2
                        have hfz115_3 := blk_frozen BK267.out 3
                        go_upto_region 29 with (first | ((with_reducible refine gate_callee (f := 23) rfl ?_); refine goesL_ (some 70) rfl rfl Try.func23 (by kernel_rfl) rfl #[.agg #[.int .i64 t256, .int .i64 t257, .slice Ao40 t258.length co40, .slice Ao41 t261.length co41], .int .i64 1] rfl ar_ ?_; (with_reducible refine (laws_markEar.calls kj67 t256 t257 (fun k_ => some k_ = (.slice Ao40 t258.length co40 : Value).ownBlock) (.slice Ao40 t258.length co40) t258 (fun k_ => some k_ = (.slice Ao41 t261.length co41 : Value).ownBlock) (.slice Ao41 t261.length co41) t261 1 t284 t285 t286 w _ ?side1 ?side2 ?side3 A102.out).mono ?_); (case side1 => repeat (first | (with_reducible first | exact HB.out | apply below_alloc | apply pw_below_drewN | apply below_drew1 | refine below_set ?_ GE225.out | refine below_set ?_ GE246.out | refine below_set ?_ GE255.out | refine below_set ?_ GE267.out) | exact HB.out)); (case side2 => exact Kd.R_tight rfl HO_268002.out); (case side3 => exact Kd.R_tight rfl HO_268003.out); rintro e w116 ⟨rfl, hy0, hy1, hb, hkp⟩; refine ⟨_, rfl, ?_⟩; have n0_ := Aside0.mk (Kd.R_mono (ok' := fun k_ => some k_ ≠ (v265 : Value).ownBlock ∧ some k_ ≠ (.slice Ao24 t237.length co24 : Value).ownBlock ∧ some k_ ≠ (.slice Ao32 t280.length co32 : Value).ownBlock ∧ some k_ ≠ (.slice Ao40 t258.length co40 : Value).ownBlock) (Kd.R_keptB ((Kd.R_apart' HO_7.out (Kd.R_typed HO_268003.out) (by decide))) hkp (fun k_ hk_ hs_ => Or.elim hs_ (fun e_ => (hk_.1.2.2.2) e_) (fun e_ => (hk_.2) e_))) (fun k_ hk_ => ⟨hk_.1.1.1, hk_.1.1.2.1, hk_.1.1.2.2.1, hk_.1.1.2.2.2⟩)); have n1_ := Aside0.mk (Kd.R_mono (ok' := fun k_ => some k_ ≠ (v244 : Value).ownBlock ∧ some k_ ≠ (.slice Ao24 t237.length co24 : Value).ownBlock ∧ some k_ ≠ (.slice Ao32 t280.length co32 : Value).ownBlock ∧ some k_ ≠ (.slice Ao40 t258.length co40 : Value).ownBlock) (Kd.R_keptB ((Kd.R_apart' HO_10.out (Kd.R_typed HO_268003.out) (by decide))) hkp (fun k_ hk_ hs_ => Or.elim hs_ (fun e_ => (hk_.1.2.2.2) e_) (fun e_ => (hk_.2) e_))) (fun k_ hk_ => ⟨hk_.1.1.1, hk_.1.1.2.1, hk_.1.1.2.2.1, hk_.1.1.2.2.2⟩)); have n2_ := Aside0.mk (Kd.R_mono (ok' := fun k_ => some k_ ≠ (v244 : Value).ownBlock ∧ some k_ ≠ (v265 : Value).ownBlock ∧ some k_ ≠ (.slice Ao32 t280.length co32 : Value).ownBlock ∧ some k_ ≠ (.slice Ao40 t258.length co40 : Value).ownBlock) (Kd.R_keptB ((Kd.R_apart' HO_247002.out (Kd.R_typed HO_268003.out) (by decide))) hkp (fun k_ hk_ hs_ => Or.elim hs_ (fun e_ => (hk_.1.2.2.2) e_) (fun e_ => (hk_.2) e_))) (fun k_ hk_ => ⟨hk_.1.1.1, hk_.1.1.2.1, hk_.1.1.2.2.1, hk_.1.1.2.2.2⟩)); have n3_ := Aside0.mk (Kd.R_mono (ok' := fun k_ => some k_ ≠ (.slice Ao33 t281.length co33 : Value).ownBlock ∧ some k_ ≠ (.slice Ao41 t261.length co41 : Value).ownBlock) (Kd.R_keptB ((Kd.R_apart' HO_247003.out (Kd.R_typed HO_268002.out) (by decide))) hkp (fun k_ hk_ hs_ => Or.elim hs_ (fun e_ => (hk_.2) e_) (fun e_ => (hk_.1.2) e_))) (fun k_ hk_ => ⟨hk_.1.1.1, hk_.1.1.2⟩)); have n4_ := Aside0.mk (Kd.R_mono (ok' := fun k_ => some k_ ≠ (v244 : Value).ownBlock ∧ some k_ ≠ (v265 : Value).ownBlock ∧ some k_ ≠ (.slice Ao24 t237.length co24 : Value).ownBlock ∧ some k_ ≠ (.slice Ao40 t258.length co40 : Value).ownBlock) (Kd.R_keptB ((Kd.R_apart' HO_256002.out (Kd.R_typed HO_268003.out) (by decide))) hkp (fun k_ hk_ hs_ => Or.elim hs_ (fun e_ => (hk_.1.2.2.2) e_) (fun e_ => (hk_.2) e_))) (fun k_ hk_ => ⟨hk_.1.1.1, hk_.1.1.2.1, hk_.1.1.2.2.1, hk_.1.1.2.2.2⟩)); have n5_ := Aside0.mk (Kd.R_mono (ok' := fun k_ => some k_ ≠ (.slice Ao25 t240.length co25 : Value).ownBlock ∧ some k_ ≠ (.slice Ao41 t261.length co41 : Value).ownBlock) (Kd.R_keptB ((Kd.R_apart' HO_256003.out (Kd.R_typed HO_268002.out) (by decide))) hkp (fun k_ hk_ hs_ => Or.elim hs_ (fun e_ => (hk_.2) e_) (fun e_ => (hk_.1.2) e_))) (fun k_ hk_ => ⟨hk_.1.1.1, hk_.1.1.2⟩)); have n6_ := Aside0.mk (Kd.R_reok rfl hy0 (fun k_ e_ => HO_268002.out.1 k_ e_)); have n7_ := Aside0.mk (Kd.R_reok rfl hy1 (fun k_ e_ => HO_268003.out.1 k_ e_)); have n8_ := Aside0.mk (blk_kept (kb_ BK225.out) hkp (fun hs_ => Or.elim hs_ (fun e_ => (fun e_ => (Kd.R_ne HO_268002.out BK225.out (by decide)) e_) e_) (fun e_ => (fun e_ => (Kd.R_ne HO_268003.out BK225.out (by decide)) e_) e_))); have n9_ := Aside0.mk (blk_kept (kb_ BK246.out) hkp (fun hs_ => Or.elim hs_ (fun e_ => (fun e_ => (Kd.R_ne HO_268002.out BK246.out (by decide)) e_) e_) (fun e_ => (fun e_ => (Kd.R_ne HO_268003.out BK246.out (by decide)) e_) e_))); have n10_ := Aside0.mk (blk_kept (kb_ BK255.out) hkp (fun hs_ => Or.elim hs_ (fun e_ => (fun e_ => (Kd.R_ne HO_268002.out BK255.out (by decide)) e_) e_) (fun e_ => (fun e_ => (Kd.R_ne HO_268003.out BK255.out (by decide)) e_) e_))); have n11_ := Aside0.mk (blk_kept (kb_ BK267.out) hkp (fun hs_ => Or.elim hs_ (fun e_ => (fun e_ => (Kd.R_ne HO_268002.out BK267.out (by decide)) e_) e_) (fun e_ => (fun e_ => (Kd.R_ne HO_268003.out BK267.out (by decide)) e_) e_))); have n12_ := Aside0.mk (hb); clear HO_7; clear HO_10; clear HO_247002; clear HO_247003; clear HO_256002; clear HO_256003; clear HO_268002; clear HO_268003; clear BK225; clear BK246; clear BK255; clear BK267; clear HB; have HO_7 := n0_; have HO_10 := n1_; have HO_247002 := n2_; have HO_247003 := n3_; have HO_256002 := n4_; have HO_256003 := n5_; have HO_268002 := n6_; have HO_268003 := n7_; have BK225 := n8_; have BK246 := n9_; have BK255 := n10_; have BK267 := n11_; have HB := n12_; clear n0_ n1_ n2_ n3_ n4_ n5_ n6_ n7_ n8_ n9_ n10_ n11_ n12_; (try clear hb); (try clear hkp); (try clear hy0); (try clear hy1); obtain ⟨Ao117, co117, eo117⟩ := Kd.R_slice HO_10.out; subst eo117) | ((with_reducible refine gate_callee (f := 24) rfl ?_); refine goesL_ (some 73) rfl rfl Try.func24 (by kernel_rfl) rfl #[.slice Ao117 t264.length co117, .int .i64 t284] rfl ar_ ?_; (with_reducible refine (laws_markByteS.calls kj67 (fun k_ => some k_ = (.slice Ao117 t264.length co117 : Value).ownBlock) (.slice Ao117 t264.length co117) t264 t284 t287 t288 w _ ?side1 ?side2 A103.out).mono ?_); (case side1 => repeat (first | (with_reducible first | exact HB.out | apply below_alloc | apply pw_below_drewN | apply below_drew1 | refine below_set ?_ GE225.out | refine below_set ?_ GE246.out | refine below_set ?_ GE255.out | refine below_set ?_ GE267.out) | exact HB.out)); (case side2 => exact Kd.R_tight rfl HO_10.out); rintro e w118 ⟨rfl, hy0, hb, hkp⟩; refine ⟨_, rfl, ?_⟩; have n0_ := Aside0.mk (Kd.R_mono (ok' := fun k_ => some k_ ≠ (.slice Ao117 t264.length co117 : Value).ownBlock ∧ some k_ ≠ (.slice Ao24 t237.length co24 : Value).ownBlock ∧ some k_ ≠ (.slice Ao32 t280.length co32 : Value).ownBlock ∧ some k_ ≠ (.slice Ao40 t258.length co40 : Value).ownBlock) (Kd.R_keptB (HO_7.out) hkp (fun k_ hk_ hs_ => (hk_.1) hs_)) (fun k_ hk_ => ⟨hk_.1.1, hk_.1.2.1, hk_.1.2.2.1, hk_.1.2.2.2⟩)); have n1_ := Aside0.mk (Kd.R_reok rfl hy0 (fun k_ e_ => HO_10.out.1 k_ e_)); have n2_ := Aside0.mk (Kd.R_mono (ok' := fun k_ => some k_ ≠ (v244 : Value).ownBlock ∧ some k_ ≠ (.slice Ao117 t264.length co117 : Value).ownBlock ∧ some k_ ≠ (.slice Ao32 t280.length co32 : Value).ownBlock ∧ some k_ ≠ (.slice Ao40 t258.length co40 : Value).ownBlock) (Kd.R_keptB (HO_247002.out) hkp (fun k_ hk_ hs_ => (hk_.2.1) hs_)) (fun k_ hk_ => ⟨hk_.1.1, hk_.1.2.1, hk_.1.2.2.1, hk_.1.2.2.2⟩)); have n3_ := Aside0.mk (Kd.R_mono (ok' := fun k_ => some k_ ≠ (.slice Ao33 t281.length co33 : Value).ownBlock ∧ some k_ ≠ (.slice Ao41 t261.length co41 : Value).ownBlock) (Kd.R_keptB ((Kd.R_apart' HO_247003.out (Kd.R_typed HO_10.out) (by decide))) hkp (fun k_ hk_ hs_ => (hk_.2) hs_)) (fun k_ hk_ => ⟨hk_.1.1.1, hk_.1.1.2⟩)); have n4_ := Aside0.mk (Kd.R_mono (ok' := fun k_ => some k_ ≠ (v244 : Value).ownBlock ∧ some k_ ≠ (.slice Ao117 t264.length co117 : Value).ownBlock ∧ some k_ ≠ (.slice Ao24 t237.length co24 : Value).ownBlock ∧ some k_ ≠ (.slice Ao40 t258.length co40 : Value).ownBlock) (Kd.R_keptB (HO_256002.out) hkp (fun k_ hk_ hs_ => (hk_.2.1) hs_)) (fun k_ hk_ => ⟨hk_.1.1, hk_.1.2.1, hk_.1.2.2.1, hk_.1.2.2.2⟩)); have n5_ := Aside0.mk (Kd.R_mono (ok' := fun k_ => some k_ ≠ (.slice Ao25 t240.length co25 : Value).ownBlock ∧ some k_ ≠ (.slice Ao41 t261.length co41 : Value).ownBlock) (Kd.R_keptB ((Kd.R_apart' HO_256003.out (Kd.R_typed HO_10.out) (by decide))) hkp (fun k_ hk_ hs_ => (hk_.2) hs_)) (fun k_ hk_ => ⟨hk_.1.1.1, hk_.1.1.2⟩)); have n6_ := Aside0.mk (Kd.R_mono (ok' := fun k_ => some k_ ≠ (v244 : Value).ownBlock ∧ some k_ ≠ (.slice Ao117 t264.length co117 : Value).ownBlock ∧ some k_ ≠ (.slice Ao24 t237.length co24 : Value).ownBlock ∧ some k_ ≠ (.slice Ao32 t280.length co32 : Value).ownBlock) (Kd.R_keptB (HO_268002.out) hkp (fun k_ hk_ hs_ => (hk_.2.1) hs_)) (fun k_ hk_ => ⟨hk_.1.1, hk_.1.2.1, hk_.1.2.2.1, hk_.1.2.2.2⟩)); have n7_ := Aside0.mk (Kd.R_mono (ok' := fun k_ => some k_ ≠ (.slice Ao25 t240.length co25 : Value).ownBlock ∧ some k_ ≠ (.slice Ao33 t281.length co33 : Value).ownBlock) (Kd.R_keptB ((Kd.R_apart' HO_268003.out (Kd.R_typed HO_10.out) (by decide))) hkp (fun k_ hk_ hs_ => (hk_.2) hs_)) (fun k_ hk_ => ⟨hk_.1.1.1, hk_.1.1.2⟩)); have n8_ := Aside0.mk (blk_kept (kb_ BK225.out) hkp (fun hs_ => (fun e_ => (Kd.R_ne HO_10.out BK225.out (by decide)) e_) hs_)); have n9_ := Aside0.mk (blk_kept (kb_ BK246.out) hkp (fun hs_ => (fun e_ => (Kd.R_ne HO_10.out BK246.out (by decide)) e_) hs_)); have n10_ := Aside0.mk (blk_kept (kb_ BK255.out) hkp (fun hs_ => (fun e_ => (Kd.R_ne HO_10.out BK255.out (by decide)) e_) hs_)); have n11_ := Aside0.mk (blk_kept (kb_ BK267.out) hkp (fun hs_ => (fun e_ => (Kd.R_ne HO_10.out BK267.out (by decide)) e_) hs_)); have n12_ := Aside0.mk (hb); clear HO_7; clear HO_10; clear HO_247002; clear HO_247003; clear HO_256002; clear HO_256003; clear HO_268002; clear HO_268003; clear BK225; clear BK246; clear BK255; clear BK267; clear HB; have HO_7 := n0_; have HO_10 := n1_; have HO_247002 := n2_; have HO_247003 := n3_; have HO_256002 := n4_; have HO_256003 := n5_; have HO_268002 := n6_; have HO_268003 := n7_; have BK225 := n8_; have BK246 := n9_; have BK255 := n10_; have BK267 := n11_; have HB := n12_; clear n0_ n1_ n2_ n3_ n4_ n5_ n6_ n7_ n8_ n9_ n10_ n11_ n12_; (try clear hb); (try clear hkp); (try clear hy0); have hcz119_0 : w118.cell? ⟨gb267, 0, none⟩ = some (.int .i64 t256) := (blk_cell BK267.out 0).trans rfl; have hcz119_1 : w118.cell? ⟨gb267, 1, none⟩ = some (.int .i64 t257) := (blk_cell BK267.out 1).trans rfl; have hcz119_2 : w118.cell? ⟨gb267, 2, none⟩ = some (.slice Ao40 t258.length co40) := (blk_cell BK267.out 2).trans rfl; have hcz119_3 : w118.cell? ⟨gb267, 3, none⟩ = some (.slice Ao41 t261.length co41) := (blk_cell BK267.out 3).trans rfl; have hfz119_0 := blk_frozen BK267.out 0; have hfz119_1 := blk_frozen BK267.out 1; have hfz119_2 := blk_frozen BK267.out 2; have hfz119_3 := blk_frozen BK267.out 3) | ((with_reducible refine gate_callee (f := 25) rfl ?_); refine goesL_ (some 76) rfl rfl Try.func25 (by kernel_rfl) rfl #[.agg #[.int .i64 t256, .int .i64 t257, .slice Ao40 t285.length co40, .slice Ao41 t286.length co41], .int .i64 1] rfl (by (try simp only [List.map_toArray, List.map_cons, List.map_nil]); first | done | (rw [show t285.length = t258.length from (Kd.R_reads' HO_268002.out).1.symm, show t286.length = t261.length from (Kd.R_reads' HO_268003.out).1.symm] <;> rfl) | rfl | (simp only [List.length_drop, List.length_take]; rfl)) ?_; (with_reducible refine (laws_heldEar.calls kj67 t256 t257 _ _ t285 _ _ t286 1 t289 _ ?side1 ?side2 ?side3 ?side4 A104.out).mono ?_); (case side1 => exact kC_ (Kd.R_reads' HO_268002.out).2.2); (case side2 => rw [show t285.length = t258.length from (Kd.R_reads' HO_268002.out).1.symm]; exact (Kd.R_reads' HO_268002.out).2.1); (case side3 => exact kC_ (Kd.R_reads' HO_268003.out).2.2); (case side4 => rw [show t286.length = t261.length from (Kd.R_reads' HO_268003.out).1.symm]; exact (Kd.R_reads' HO_268003.out).2.1); rintro e w120 ⟨rfl, hb⟩; refine ⟨_, rfl, ?_⟩; have n0_ := Aside0.mk (Kd.R_below (kR_ HO_7.out) hb); have n1_ := Aside0.mk (Kd.R_below (kR_ HO_10.out) hb); have n2_ := Aside0.mk (Kd.R_below (kR_ HO_247002.out) hb); have n3_ := Aside0.mk (Kd.R_below (kR_ HO_247003.out) hb); have n4_ := Aside0.mk (Kd.R_below (kR_ HO_256002.out) hb); have n5_ := Aside0.mk (Kd.R_below (kR_ HO_256003.out) hb); have n6_ := Aside0.mk (Kd.R_below (kR_ HO_268002.out) hb); have n7_ := Aside0.mk (Kd.R_below (kR_ HO_268003.out) hb); have n8_ := Aside0.mk (blk_below (g := gb225) (o := .cells #[.int .i64 a0_0, .int .i64 a0_1, .slice A0_2 l0_2.length c0_2, .slice A0_3 l0_3.length c0_3] 39 (0, 0)) (kb_ BK225.out) hb); have n9_ := Aside0.mk (blk_below (g := gb246) (o := .cells #[.int .i64 t235, .int .i64 t236, .slice Ao24 t237.length co24, .slice Ao25 t240.length co25] 25 (0, 0)) (kb_ BK246.out) hb); have n10_ := Aside0.mk (blk_below (g := gb255) (o := .cells #[.int .i64 t247, .int .i64 t248, .slice Ao32 t280.length co32, .slice Ao33 t281.length co33] 25 (0, 0)) (kb_ BK255.out) hb); have n11_ := Aside0.mk (blk_below (g := gb267) (o := .cells #[.int .i64 t256, .int .i64 t257, .slice Ao40 t258.length co40, .slice Ao41 t261.length co41] 25 (0, 0)) (kb_ BK267.out) hb); have n12_ := Aside0.mk (below_step (hb4_ HB.out GE225.out GE246.out GE255.out GE267.out) hb); clear HO_7; clear HO_10; clear HO_247002; clear HO_247003; clear HO_256002; clear HO_256003; clear HO_268002; clear HO_268003; clear BK225; clear BK246; clear BK255; clear BK267; clear HB; have HO_7 := n0_; have HO_10 := n1_; have HO_247002 := n2_; have HO_247003 := n3_; have HO_256002 := n4_; have HO_256003 := n5_; have HO_268002 := n6_; have HO_268003 := n7_; have BK225 := n8_; have BK246 := n9_; have BK255 := n10_; have BK267 := n11_; have HB := n12_; clear n0_ n1_ n2_ n3_ n4_ n5_ n6_ n7_ n8_ n9_ n10_ n11_ n12_; (try clear hb); (try clear hb2); (try clear hk); (try clear hi)) | ((with_reducible refine gate_callee (f := 26) rfl ?_); refine goesL_ (some 81) rfl rfl Try.func26 (by kernel_rfl) rfl #[.slice Ao117 t288.length co117, .int .i64 t289] rfl (by (try simp only [List.map_toArray, List.map_cons, List.map_nil]); first | done | (rw [show t288.length = t264.length from (Kd.R_reads' HO_10.out).1.symm] <;> rfl) | rfl | (simp only [List.length_drop, List.length_take]; rfl)) ?_; (with_reducible refine (laws_heldByteS.calls kj67 _ _ t288 t289 t290 _ ?side1 ?side2 A106.out).mono ?_); (case side1 => exact kC_ (Kd.R_reads' HO_10.out).2.2); (case side2 => rw [show t288.length = t264.length from (Kd.R_reads' HO_10.out).1.symm]; exact (Kd.R_reads' HO_10.out).2.1); rintro e w' ⟨rfl, ⟨nd, rfl⟩⟩; refine ⟨_, rfl, ?_⟩; (try (rw [drewN_self w120]; generalize hq_ : World.drewN w120 _ = w120; have n0_ : Aside0 (Kd.R (Kd.int .u8) 5 w120 w.heap.size (fun k_ => some k_ ≠ (.slice Ao24 t237.length co24 : Value).ownBlock ∧ some k_ ≠ (.slice Ao32 t280.length co32 : Value).ownBlock ∧ some k_ ≠ (.slice Ao40 t258.length co40 : Value).ownBlock ∧ some k_ ≠ (v244 : Value).ownBlock) (.slice Ao117 t264.length co117) t288) := ⟨by rw [← hq_]; exact (by refine kR_ ?_; exact Kd.R_mono HO_10.out (fun _ hk => op2_ hk))⟩; have n1_ : Aside0 (Kd.R (Kd.int .u8) 5 w120 w.heap.size (fun k_ => some k_ ≠ (.slice Ao117 t264.length co117 : Value).ownBlock ∧ some k_ ≠ (.slice Ao32 t280.length co32 : Value).ownBlock ∧ some k_ ≠ (.slice Ao40 t258.length co40 : Value).ownBlock ∧ some k_ ≠ (v244 : Value).ownBlock) (.slice Ao24 t237.length co24) t237) := ⟨by rw [← hq_]; exact (by refine kR_ ?_; exact Kd.R_mono HO_247002.out (fun _ hk => op2_ hk))⟩; have n2_ : Aside0 (Kd.R k70 70 w120 w.heap.size (fun k_ => some k_ ≠ (.slice Ao33 t281.length co33 : Value).ownBlock ∧ some k_ ≠ (.slice Ao41 t261.length co41 : Value).ownBlock) (.slice Ao25 t240.length co25) t240) := ⟨by rw [← hq_]; exact (kR_ HO_247003.out)⟩; have n3_ : Aside0 (Kd.R (Kd.int .u8) 5 w120 w.heap.size (fun k_ => some k_ ≠ (.slice Ao117 t264.length co117 : Value).ownBlock ∧ some k_ ≠ (.slice Ao24 t237.length co24 : Value).ownBlock ∧ some k_ ≠ (.slice Ao40 t258.length co40 : Value).ownBlock ∧ some k_ ≠ (v244 : Value).ownBlock) (.slice Ao32 t280.length co32) t280) := ⟨by rw [← hq_]; exact (by refine kR_ ?_; exact Kd.R_mono HO_256002.out (fun _ hk => op2_ hk))⟩; have n4_ : Aside0 (Kd.R k70 70 w120 w.heap.size (fun k_ => some k_ ≠ (.slice Ao25 t240.length co25 : Value).ownBlock ∧ some k_ ≠ (.slice Ao41 t261.length co41 : Value).ownBlock) (.slice Ao33 t281.length co33) t281) := ⟨by rw [← hq_]; exact (kR_ HO_256003.out)⟩; have n5_ : Aside0 (Kd.R (Kd.int .u8) 5 w120 w.heap.size (fun k_ => some k_ ≠ (.slice Ao117 t264.length co117 : Value).ownBlock ∧ some k_ ≠ (.slice Ao24 t237.length co24 : Value).ownBlock ∧ some k_ ≠ (.slice Ao32 t280.length co32 : Value).ownBlock ∧ some k_ ≠ (v244 : Value).ownBlock) (.slice Ao40 t258.length co40) t285) := ⟨by rw [← hq_]; exact (by refine kR_ ?_; exact Kd.R_mono HO_268002.out (fun _ hk => op2_ hk))⟩; have n6_ : Aside0 (Kd.R k70 70 w120 w.heap.size (fun k_ => some k_ ≠ (.slice Ao25 t240.length co25 : Value).ownBlock ∧ some k_ ≠ (.slice Ao33 t281.length co33 : Value).ownBlock) (.slice Ao41 t261.length co41) t286) := ⟨by rw [← hq_]; exact (kR_ HO_268003.out)⟩; have n7_ : Aside0 (Kd.R (Kd.int .u8) 5 w120 w.heap.size (fun k_ => some k_ ≠ (.slice Ao117 t264.length co117 : Value).ownBlock ∧ some k_ ≠ (.slice Ao24 t237.length co24 : Value).ownBlock ∧ some k_ ≠ (.slice Ao32 t280.length co32 : Value).ownBlock ∧ some k_ ≠ (.slice Ao40 t258.length co40 : Value).ownBlock) v244 t243) := ⟨by rw [← hq_]; exact (kR_ HO_7.out)⟩; have n8_ : Aside0 (w120.heap[gb225]? = some (.cells #[.int .i64 a0_0, .int .i64 a0_1, .slice A0_2 l0_2.length c0_2, .slice A0_3 l0_3.length c0_3] 39 (0, 0))) := ⟨by rw [← hq_]; exact (kb_ BK225.out)⟩; have n9_ : Aside0 (w120.heap[gb246]? = some (.cells #[.int .i64 t235, .int .i64 t236, .slice Ao24 t237.length co24, .slice Ao25 t240.length co25] 25 (0, 0))) := ⟨by rw [← hq_]; exact (kb_ BK246.out)⟩; have n10_ : Aside0 (w120.heap[gb255]? = some (.cells #[.int .i64 t247, .int .i64 t248, .slice Ao32 t280.length co32, .slice Ao33 t281.length co33] 25 (0, 0))) := ⟨by rw [← hq_]; exact (kb_ BK255.out)⟩; have n11_ : Aside0 (w120.heap[gb267]? = some (.cells #[.int .i64 t256, .int .i64 t257, .slice Ao40 t258.length co40, .slice Ao41 t261.length co41] 25 (0, 0))) := ⟨by rw [← hq_]; exact (kb_ BK267.out)⟩; have n12_ : Aside0 (Below w.heap.size w w120) := ⟨by rw [← hq_]; exact (hb4_ HB.out GE225.out GE246.out GE255.out GE267.out)⟩; clear HO_10 HO_247002 HO_247003 HO_256002 HO_256003 HO_268002 HO_268003 HO_7 BK225 BK246 BK255 BK267 HB hq_; have HO_10 := n0_; have HO_247002 := n1_; have HO_247003 := n2_; have HO_256002 := n3_; have HO_256003 := n4_; have HO_268002 := n5_; have HO_268003 := n6_; have HO_7 := n7_; have BK225 := n8_; have BK246 := n9_; have BK255 := n10_; have BK267 := n11_; have HB := n12_; clear n0_ n1_ n2_ n3_ n4_ n5_ n6_ n7_ n8_ n9_ n10_ n11_ n12_)); have hnb121 := NB225_246.out; have hnc121 := NB246_225.out; have hnb122 := NB225_255.out; have hnc122 := NB255_225.out; have hcz123_0 : w120.cell? ⟨gb225, 0, none⟩ = some (.int .i64 a0_0) := (blk_cell BK225.out 0).trans rfl; have hcz123_1 : w120.cell? ⟨gb225, 1, none⟩ = some (.int .i64 a0_1) := (blk_cell BK225.out 1).trans rfl; have hcz123_2 : w120.cell? ⟨gb225, 2, none⟩ = some (.slice A0_2 l0_2.length c0_2) := (blk_cell BK225.out 2).trans rfl; have hcz123_3 : w120.cell? ⟨gb225, 3, none⟩ = some (.slice A0_3 l0_3.length c0_3) := (blk_cell BK225.out 3).trans rfl; have hfz123_0 := blk_frozen BK225.out 0; have hfz123_1 := blk_frozen BK225.out 1; have hfz123_2 := blk_frozen BK225.out 2; have hfz123_3 := blk_frozen BK225.out 3) | ((with_reducible refine gate_callee (f := 20) rfl ?_); refine goesL_ (some 89) rfl rfl Try.func20 (by kernel_rfl) rfl #[.agg #[.int .i64 a0_0, .int .i64 a0_1, .slice A0_2 l0_2.length c0_2, .slice A0_3 l0_3.length c0_3]] rfl ar_ ?_; (with_reducible refine (laws_toEar.calls kj67 a0_0 a0_1 _ _ l0_2 _ _ l0_3 t291 t292 t293 t296 _ ?side1 ?side2 ?side3 ?side4 A109.out).mono ?_); (case side1 => exact kC_ (Kd.C_below HR0_2.out HB.out)); (case side2 => exact HC0_2.out); (case side3 => exact kC_ (Kd.C_below HR0_3.out HB.out)); (case side4 => exact HC0_3.out); rintro e w124 ⟨v294, v297, rfl, ho0, ho1, hb⟩; refine ⟨_, rfl, ?_⟩; have n0_ := Aside0.mk (Kd.R_elder' (kR_ HO_7.out) (Kd.R_base ho0) hb); have n1_ := Aside0.mk (Kd.R_elder' (kR_ HO_10.out) (Kd.R_base ho0) hb); have n2_ := Aside0.mk (Kd.R_elder' (kR_ HO_247002.out) (Kd.R_base ho0) hb); have n3_ := Aside0.mk (Kd.R_elder' (kR_ HO_247003.out) (Kd.R_base ho1) hb); have n4_ := Aside0.mk (Kd.R_elder' (kR_ HO_256002.out) (Kd.R_base ho0) hb); have n5_ := Aside0.mk (Kd.R_elder' (kR_ HO_256003.out) (Kd.R_base ho1) hb); have n6_ := Aside0.mk (Kd.R_elder' (kR_ HO_268002.out) (Kd.R_base ho0) hb); have n7_ := Aside0.mk (Kd.R_elder' (kR_ HO_268003.out) (Kd.R_base ho1) hb); have n8_ := Aside0.mk (Kd.R_lower (Kd.R_new' (Kd.R_new' (Kd.R_new' (Kd.R_new' (Kd.R_new' ho0 (Kd.R_lt (kR_ HO_7.out))) (Kd.R_lt (kR_ HO_10.out))) (Kd.R_lt (kR_ HO_247002.out))) (Kd.R_lt (kR_ HO_256002.out))) (Kd.R_lt (kR_ HO_268002.out))) (below_size (hb4_ HB.out GE225.out GE246.out GE255.out GE267.out))); have n9_ := Aside0.mk (Kd.R_lower (Kd.R_new' (Kd.R_new' (Kd.R_new' ho1 (Kd.R_lt (kR_ HO_247003.out))) (Kd.R_lt (kR_ HO_256003.out))) (Kd.R_lt (kR_ HO_268003.out))) (below_size (hb4_ HB.out GE225.out GE246.out GE255.out GE267.out))); have n10_ := Aside0.mk (blk_below (g := gb225) (o := .cells #[.int .i64 a0_0, .int .i64 a0_1, .slice A0_2 l0_2.length c0_2, .slice A0_3 l0_3.length c0_3] 39 (0, 0)) (kb_ BK225.out) hb); have n11_ := Aside0.mk (blk_below (g := gb246) (o := .cells #[.int .i64 t235, .int .i64 t236, .slice Ao24 t237.length co24, .slice Ao25 t240.length co25] 25 (0, 0)) (kb_ BK246.out) hb); have n12_ := Aside0.mk (blk_below (g := gb255) (o := .cells #[.int .i64 t247, .int .i64 t248, .slice Ao32 t280.length co32, .slice Ao33 t281.length co33] 25 (0, 0)) (kb_ BK255.out) hb); have n13_ := Aside0.mk (blk_below (g := gb267) (o := .cells #[.int .i64 t256, .int .i64 t257, .slice Ao40 t258.length co40, .slice Ao41 t261.length co41] 25 (0, 0)) (kb_ BK267.out) hb); have n14_ := Aside0.mk (below_step (hb4_ HB.out GE225.out GE246.out GE255.out GE267.out) hb); clear HO_7; clear HO_10; clear HO_247002; clear HO_247003; clear HO_256002; clear HO_256003; clear HO_268002; clear HO_268003; clear BK225; clear BK246; clear BK255; clear BK267; clear HB; have HO_7 := n0_; have HO_10 := n1_; have HO_247002 := n2_; have HO_247003 := n3_; have HO_256002 := n4_; have HO_256003 := n5_; have HO_268002 := n6_; have HO_268003 := n7_; have HO295 := n8_; have HO298 := n9_; have BK225 := n10_; have BK246 := n11_; have BK255 := n12_; have BK267 := n13_; have HB := n14_; clear n0_ n1_ n2_ n3_ n4_ n5_ n6_ n7_ n8_ n9_ n10_ n11_ n12_ n13_ n14_; (try clear hb); (try clear hb2); (try clear hk); (try clear hi); (try clear ho0); (try clear ho1); obtain ⟨Ao125, co125, eo125⟩ := Kd.R_slice HO295.out; subst eo125; obtain ⟨Ao126, co126, eo126⟩ := Kd.R_slice HO298.out; subst eo126) | ((with_reducible refine gate_callee (f := 14) rfl ?_); refine goesL_ (some 91) rfl rfl Try.func14 (by kernel_rfl) rfl #[.agg #[.int .i64 t291, .int .i64 t292, .slice Ao125 t293.length co125, .slice Ao126 t296.length co126], .int .i64 a1] rfl ar_ ?_; (with_reducible refine (impl_EarRead.calls kj67 t291 t292 _ _ t293 _ _ t296 a1 t299 t300 t301 t304 t307 _ ?side1 ?side2 ?side3 ?side4 A110.out).mono ?_); (case side1 => exact kC_ (Kd.R_reads' HO295.out).2.2); (case side2 => exact (Kd.R_reads' HO295.out).2.1); (case side3 => exact kC_ (Kd.R_reads' HO298.out).2.2); (case side4 => exact (Kd.R_reads' HO298.out).2.1); rintro e w127 ⟨v302, v305, v308, rfl, ho0, ho1, ho2, hb⟩; refine ⟨_, rfl, ?_⟩; have n0_ := Aside0.mk (Kd.R_mono (Kd.R_told (Kd.R_told (Kd.R_old (kR_ HO_7.out) hb) (Kd.R_base ho0)) (Kd.R_base ho2)) (fun _ h_ => op1_ h_)); have n1_ := Aside0.mk (Kd.R_mono (Kd.R_told (Kd.R_told (Kd.R_old (kR_ HO_10.out) hb) (Kd.R_base ho0)) (Kd.R_base ho2)) (fun _ h_ => op1_ h_)); have n2_ := Aside0.mk (Kd.R_mono (Kd.R_told (Kd.R_told (Kd.R_old (kR_ HO_247002.out) hb) (Kd.R_base ho0)) (Kd.R_base ho2)) (fun _ h_ => op1_ h_)); have n3_ := Aside0.mk (Kd.R_elder' (kR_ HO_247003.out) (Kd.R_base ho1) hb); have n4_ := Aside0.mk (Kd.R_mono (Kd.R_told (Kd.R_told (Kd.R_old (kR_ HO_256002.out) hb) (Kd.R_base ho0)) (Kd.R_base ho2)) (fun _ h_ => op1_ h_)); have n5_ := Aside0.mk (Kd.R_elder' (kR_ HO_256003.out) (Kd.R_base ho1) hb); have n6_ := Aside0.mk (Kd.R_mono (Kd.R_told (Kd.R_told (Kd.R_old (kR_ HO_268002.out) hb) (Kd.R_base ho0)) (Kd.R_base ho2)) (fun _ h_ => op1_ h_)); have n7_ := Aside0.mk (Kd.R_elder' (kR_ HO_268003.out) (Kd.R_base ho1) hb); have n8_ := Aside0.mk (Kd.R_mono (Kd.R_told (Kd.R_told (Kd.R_old (kR_ HO295.out) hb) (Kd.R_base ho0)) (Kd.R_base ho2)) (fun _ h_ => op1_ h_)); have n9_ := Aside0.mk (Kd.R_elder' (kR_ HO298.out) (Kd.R_base ho1) hb); have n10_ := Aside0.mk (Kd.R_lower (Kd.R_new' (Kd.R_new' (Kd.R_new' (Kd.R_new' (Kd.R_new' (Kd.R_new' ho0 (Kd.R_lt (kR_ HO_7.out))) (Kd.R_lt (kR_ HO_10.out))) (Kd.R_lt (kR_ HO_247002.out))) (Kd.R_lt (kR_ HO_256002.out))) (Kd.R_lt (kR_ HO_268002.out))) (Kd.R_lt (kR_ HO295.out))) (below_size (hb4_ HB.out GE225.out GE246.out GE255.out GE267.out))); have n11_ := Aside0.mk (Kd.R_lower (Kd.R_new' (Kd.R_new' (Kd.R_new' (Kd.R_new' ho1 (Kd.R_lt (kR_ HO_247003.out))) (Kd.R_lt (kR_ HO_256003.out))) (Kd.R_lt (kR_ HO_268003.out))) (Kd.R_lt (kR_ HO298.out))) (below_size (hb4_ HB.out GE225.out GE246.out GE255.out GE267.out))); have n12_ := Aside0.mk (Kd.R_lower (Kd.R_new' (Kd.R_new' (Kd.R_new' (Kd.R_new' (Kd.R_new' (Kd.R_new' ho2 (Kd.R_lt (kR_ HO_7.out))) (Kd.R_lt (kR_ HO_10.out))) (Kd.R_lt (kR_ HO_247002.out))) (Kd.R_lt (kR_ HO_256002.out))) (Kd.R_lt (kR_ HO_268002.out))) (Kd.R_lt (kR_ HO295.out))) (below_size (hb4_ HB.out GE225.out GE246.out GE255.out GE267.out))); have n13_ := Aside0.mk (blk_below (g := gb225) (o := .cells #[.int .i64 a0_0, .int .i64 a0_1, .slice A0_2 l0_2.length c0_2, .slice A0_3 l0_3.length c0_3] 39 (0, 0)) (kb_ BK225.out) hb); have n14_ := Aside0.mk (blk_below (g := gb246) (o := .cells #[.int .i64 t235, .int .i64 t236, .slice Ao24 t237.length co24, .slice Ao25 t240.length co25] 25 (0, 0)) (kb_ BK246.out) hb); have n15_ := Aside0.mk (blk_below (g := gb255) (o := .cells #[.int .i64 t247, .int .i64 t248, .slice Ao32 t280.length co32, .slice Ao33 t281.length co33] 25 (0, 0)) (kb_ BK255.out) hb); have n16_ := Aside0.mk (blk_below (g := gb267) (o := .cells #[.int .i64 t256, .int .i64 t257, .slice Ao40 t258.length co40, .slice Ao41 t261.length co41] 25 (0, 0)) (kb_ BK267.out) hb); have n17_ := Aside0.mk (below_step (hb4_ HB.out GE225.out GE246.out GE255.out GE267.out) hb); clear HO_7; clear HO_10; clear HO_247002; clear HO_247003; clear HO_256002; clear HO_256003; clear HO_268002; clear HO_268003; clear HO295; clear HO298; clear BK225; clear BK246; clear BK255; clear BK267; clear HB; have HO_7 := n0_; have HO_10 := n1_; have HO_247002 := n2_; have HO_247003 := n3_; have HO_256002 := n4_; have HO_256003 := n5_; have HO_268002 := n6_; have HO_268003 := n7_; have HO295 := n8_; have HO298 := n9_; have HO303 := n10_; have HO306 := n11_; have HO309 := n12_; have BK225 := n13_; have BK246 := n14_; have BK255 := n15_; have BK267 := n16_; have HB := n17_; clear n0_ n1_ n2_ n3_ n4_ n5_ n6_ n7_ n8_ n9_ n10_ n11_ n12_ n13_ n14_ n15_ n16_ n17_; (try clear hb); (try clear hb2); (try clear hk); (try clear hi); (try clear ho0); (try clear ho1); (try clear ho2)) | ((with_reducible refine gate_dst (N := 14) rfl ?_); refine box_event ?hg (N := 14) ?hd (cs := #[.int .i64 0, .int .i64 0, .slice none 0 0, .slice none 0 0]) (t := 25) ?hr ?_; (case hd => rfl); (case hg => rfl); (case hr => first | (go_simp; done) | (go_simp; rfl)); intro gb310 hg w128 hbox hb; have n0_ := Aside0.mk (Kd.R_below (kR_ HO_7.out) hb); have n1_ := Aside0.mk (Kd.R_below (kR_ HO_10.out) hb); have n2_ := Aside0.mk (Kd.R_below (kR_ HO_247002.out) hb); have n3_ := Aside0.mk (Kd.R_below (kR_ HO_247003.out) hb); have n4_ := Aside0.mk (Kd.R_below (kR_ HO_256002.out) hb); have n5_ := Aside0.mk (Kd.R_below (kR_ HO_256003.out) hb); have n6_ := Aside0.mk (Kd.R_below (kR_ HO_268002.out) hb); have n7_ := Aside0.mk (Kd.R_below (kR_ HO_268003.out) hb); have n8_ := Aside0.mk (Kd.R_below (kR_ HO295.out) hb); have n9_ := Aside0.mk (Kd.R_below (kR_ HO298.out) hb); have n10_ := Aside0.mk (Kd.R_below (kR_ HO303.out) hb); have n11_ := Aside0.mk (Kd.R_below (kR_ HO306.out) hb); have n12_ := Aside0.mk (Kd.R_below (kR_ HO309.out) hb); have n13_ := Aside0.mk (blk_below (g := gb225) (o := .cells #[.int .i64 a0_0, .int .i64 a0_1, .slice A0_2 l0_2.length c0_2, .slice A0_3 l0_3.length c0_3] 39 (0, 0)) (kb_ BK225.out) hb); have n14_ := Aside0.mk (blk_below (g := gb246) (o := .cells #[.int .i64 t235, .int .i64 t236, .slice Ao24 t237.length co24, .slice Ao25 t240.length co25] 25 (0, 0)) (kb_ BK246.out) hb); have n15_ := Aside0.mk (blk_below (g := gb255) (o := .cells #[.int .i64 t247, .int .i64 t248, .slice Ao32 t280.length co32, .slice Ao33 t281.length co33] 25 (0, 0)) (kb_ BK255.out) hb); have n16_ := Aside0.mk (blk_below (g := gb267) (o := .cells #[.int .i64 t256, .int .i64 t257, .slice Ao40 t258.length co40, .slice Ao41 t261.length co41] 25 (0, 0)) (kb_ BK267.out) hb); have n17_ := Aside0.mk (below_step (hb4_ HB.out GE225.out GE246.out GE255.out GE267.out) hb); have n18_ := Aside0.mk (hbox); have n19_ := Aside0.mk ((by rw [hg]; exact (below_size (hb4_ HB.out GE225.out GE246.out GE255.out GE267.out)) : w.heap.size ≤ gb310)); have n20_ := Aside0.mk ((by rw [hg]; exact (below_size (hb4_ HB.out GE225.out GE246.out GE255.out GE267.out)) : w.heap.size ≤ gb310)); have n21_ := Aside0.mk ((by rw [hg]; exact Nat.ne_of_lt (blk_lt (g := gb225) (o := .cells #[.int .i64 a0_0, .int .i64 a0_1, .slice A0_2 l0_2.length c0_2, .slice A0_3 l0_3.length c0_3] 39 (0, 0)) (kb_ BK225.out)) : gb225 ≠ gb310)); have n22_ := Aside0.mk ((by rw [hg]; exact Nat.ne_of_gt (blk_lt (g := gb225) (o := .cells #[.int .i64 a0_0, .int .i64 a0_1, .slice A0_2 l0_2.length c0_2, .slice A0_3 l0_3.length c0_3] 39 (0, 0)) (kb_ BK225.out)) : gb310 ≠ gb225)); have n23_ := Aside0.mk ((by rw [hg]; exact Nat.ne_of_lt (blk_lt (g := gb246) (o := .cells #[.int .i64 t235, .int .i64 t236, .slice Ao24 t237.length co24, .slice Ao25 t240.length co25] 25 (0, 0)) (kb_ BK246.out)) : gb246 ≠ gb310)); have n24_ := Aside0.mk ((by rw [hg]; exact Nat.ne_of_gt (blk_lt (g := gb246) (o := .cells #[.int .i64 t235, .int .i64 t236, .slice Ao24 t237.length co24, .slice Ao25 t240.length co25] 25 (0, 0)) (kb_ BK246.out)) : gb310 ≠ gb246)); have n25_ := Aside0.mk ((by rw [hg]; exact Nat.ne_of_lt (blk_lt (g := gb255) (o := .cells #[.int .i64 t247, .int .i64 t248, .slice Ao32 t280.length co32, .slice Ao33 t281.length co33] 25 (0, 0)) (kb_ BK255.out)) : gb255 ≠ gb310)); have n26_ := Aside0.mk ((by rw [hg]; exact Nat.ne_of_gt (blk_lt (g := gb255) (o := .cells #[.int .i64 t247, .int .i64 t248, .slice Ao32 t280.length co32, .slice Ao33 t281.length co33] 25 (0, 0)) (kb_ BK255.out)) : gb310 ≠ gb255)); have n27_ := Aside0.mk ((by rw [hg]; exact Nat.ne_of_lt (blk_lt (g := gb267) (o := .cells #[.int .i64 t256, .int .i64 t257, .slice Ao40 t258.length co40, .slice Ao41 t261.length co41] 25 (0, 0)) (kb_ BK267.out)) : gb267 ≠ gb310)); have n28_ := Aside0.mk ((by rw [hg]; exact Nat.ne_of_gt (blk_lt (g := gb267) (o := .cells #[.int .i64 t256, .int .i64 t257, .slice Ao40 t258.length co40, .slice Ao41 t261.length co41] 25 (0, 0)) (kb_ BK267.out)) : gb310 ≠ gb267)); clear HO_7; clear HO_10; clear HO_247002; clear HO_247003; clear HO_256002; clear HO_256003; clear HO_268002; clear HO_268003; clear HO295; clear HO298; clear HO303; clear HO306; clear HO309; clear BK225; clear BK246; clear BK255; clear BK267; clear HB; have HO_7 := n0_; have HO_10 := n1_; have HO_247002 := n2_; have HO_247003 := n3_; have HO_256002 := n4_; have HO_256003 := n5_; have HO_268002 := n6_; have HO_268003 := n7_; have HO295 := n8_; have HO298 := n9_; have HO303 := n10_; have HO306 := n11_; have HO309 := n12_; have BK225 := n13_; have BK246 := n14_; have BK255 := n15_; have BK267 := n16_; have HB := n17_; have BK310 := n18_; have GW310 := n19_; have GE310 := n20_; have NB225_310 := n21_; have NB310_225 := n22_; have NB246_310 := n23_; have NB310_246 := n24_; have NB255_310 := n25_; have NB310_255 := n26_; have NB267_310 := n27_; have NB310_267 := n28_; clear n0_ n1_ n2_ n3_ n4_ n5_ n6_ n7_ n8_ n9_ n10_ n11_ n12_ n13_ n14_ n15_ n16_ n17_ n18_ n19_ n20_ n21_ n22_ n23_ n24_ n25_ n26_ n27_ n28_; clear hb hbox hg; have hnb129 := NB310_225.out; have hnc129 := NB225_310.out; have hnb130 := NB310_246.out; have hnc130 := NB246_310.out; have hnb131 := NB310_255.out; have hnc131 := NB255_310.out; have hnb132 := NB310_267.out; have hnc132 := NB267_310.out; have hcz133_0 : w128.cell? ⟨gb310, 0, none⟩ = some (.int .i64 0) := (blk_cell BK310.out 0).trans rfl; have hcz133_1 : w128.cell? ⟨gb310, 1, none⟩ = some (.int .i64 0) := (blk_cell BK310.out 1).trans rfl; have hcz133_2 : w128.cell? ⟨gb310, 2, none⟩ = some (.slice none 0 0) := (blk_cell BK310.out 2).trans rfl; have hcz133_3 : w128.cell? ⟨gb310, 3, none⟩ = some (.slice none 0 0) := (blk_cell BK310.out 3).trans rfl; have hfz133_0 := blk_frozen BK310.out 0; have hfz133_1 := blk_frozen BK310.out 1; have hfz133_2 := blk_frozen BK310.out 2; have hfz133_3 := blk_frozen BK310.out 3; obtain ⟨Ao134, co134, eo134⟩ := Kd.R_slice HO303.out; subst eo134; obtain ⟨Ao135, co135, eo135⟩ := Kd.R_slice HO306.out; subst eo135))
                        (try simp only [Act.put, List.setIfInBounds_toArray, List.set_cons_zero, List.set_cons_succ])
                        go_cut [103] (fun v103 wc => ∃ (kq : Nat) (x103_110 : Bool), v103 = .bool x103_110 ∧ Aside0 (laws_FnExactEarRead.j2 kq t288 t287 x103_110 t256 t257 t285 t286 = some r) ∧ Aside0 (kq ≤ kj67) ∧ Aside0 (Kd.R (Kd.int .u8) 5 wc w.heap.size (fun k_ => some k_ ≠ ((.slice Ao24 t237.length co24) : Value).ownBlock ∧ some k_ ≠ ((.slice Ao32 t280.length co32) : Value).ownBlock ∧ some k_ ≠ ((.slice Ao40 t258.length co40) : Value).ownBlock ∧ some k_ ≠ ((.slice Ao134 t301.length co134) : Value).ownBlock) (.slice Ao117 t264.length co117) t288) ∧ Aside0 (Kd.R (Kd.int .u8) 5 wc w.heap.size (fun k_ => some k_ ≠ ((.slice Ao117 t264.length co117) : Value).ownBlock ∧ some k_ ≠ ((.slice Ao32 t280.length co32) : Value).ownBlock ∧ some k_ ≠ ((.slice Ao40 t258.length co40) : Value).ownBlock ∧ some k_ ≠ ((.slice Ao134 t301.length co134) : Value).ownBlock) (.slice Ao24 t237.length co24) t237) ∧ Aside0 (Kd.R k70 70 wc w.heap.size (fun k_ => some k_ ≠ ((.slice Ao33 t281.length co33) : Value).ownBlock ∧ some k_ ≠ ((.slice Ao41 t261.length co41) : Value).ownBlock ∧ some k_ ≠ ((.slice Ao135 t304.length co135) : Value).ownBlock) (.slice Ao25 t240.length co25) t240) ∧ Aside0 (Kd.R (Kd.int .u8) 5 wc w.heap.size (fun k_ => some k_ ≠ ((.slice Ao117 t264.length co117) : Value).ownBlock ∧ some k_ ≠ ((.slice Ao24 t237.length co24) : Value).ownBlock ∧ some k_ ≠ ((.slice Ao40 t258.length co40) : Value).ownBlock ∧ some k_ ≠ ((.slice Ao134 t301.length co134) : Value).ownBlock) (.slice Ao32 t280.length co32) t280) ∧ Aside0 (Kd.R k70 70 wc w.heap.size (fun k_ => some k_ ≠ ((.slice Ao25 t240.length co25) : Value).ownBlock ∧ some k_ ≠ ((.slice Ao41 t261.length co41) : Value).ownBlock ∧ some k_ ≠ ((.slice Ao135 t304.length co135) : Value).ownBlock) (.slice Ao33 t281.length co33) t281) ∧ Aside0 (Kd.R (Kd.int .u8) 5 wc w.heap.size (fun k_ => some k_ ≠ ((.slice Ao117 t264.length co117) : Value).ownBlock ∧ some k_ ≠ ((.slice Ao24 t237.length co24) : Value).ownBlock ∧ some k_ ≠ ((.slice Ao32 t280.length co32) : Value).ownBlock ∧ some k_ ≠ ((.slice Ao134 t301.length co134) : Value).ownBlock) (.slice Ao40 t258.length co40) t285) ∧ Aside0 (Kd.R k70 70 wc w.heap.size (fun k_ => some k_ ≠ ((.slice Ao25 t240.length co25) : Value).ownBlock ∧ some k_ ≠ ((.slice Ao33 t281.length co33) : Value).ownBlock ∧ some k_ ≠ ((.slice Ao135 t304.length co135) : Value).ownBlock) (.slice Ao41 t261.length co41) t286) ∧ Aside0 (Kd.R (Kd.int .u8) 5 wc w.heap.size (fun k_ => some k_ ≠ ((.slice Ao117 t264.length co117) : Value).ownBlock ∧ some k_ ≠ ((.slice Ao24 t237.length co24) : Value).ownBlock ∧ some k_ ≠ ((.slice Ao32 t280.length co32) : Value).ownBlock ∧ some k_ ≠ ((.slice Ao40 t258.length co40) : Value).ownBlock) (.slice Ao134 t301.length co134) t301) ∧ Aside0 (Kd.R k70 70 wc w.heap.size (fun k_ => some k_ ≠ ((.slice Ao25 t240.length co25) : Value).ownBlock ∧ some k_ ≠ ((.slice Ao33 t281.length co33) : Value).ownBlock ∧ some k_ ≠ ((.slice Ao41 t261.length co41) : Value).ownBlock) (.slice Ao135 t304.length co135) t304) ∧ Aside0 (wc.heap[gb225]? = some (.cells #[.int .i64 a0_0, .int .i64 a0_1, (.slice A0_2 l0_2.length c0_2), (.slice A0_3 l0_3.length c0_3)] 39 (0, 0))) ∧ Aside0 (wc.heap[gb246]? = some (.cells #[.int .i64 t235, .int .i64 t236, (.slice Ao24 t237.length co24), (.slice Ao25 t240.length co25)] 25 (0, 0))) ∧ Aside0 (wc.heap[gb255]? = some (.cells #[.int .i64 t247, .int .i64 t248, (.slice Ao32 t280.length co32), (.slice Ao33 t281.length co33)] 25 (0, 0))) ∧ Aside0 (wc.heap[gb267]? = some (.cells #[.int .i64 t256, .int .i64 t257, (.slice Ao40 t258.length co40), (.slice Ao41 t261.length co41)] 25 (0, 0))) ∧ Aside0 (wc.heap[gb310]? = some (.cells #[.int .i64 t299, .int .i64 t300, (.slice Ao134 t301.length co134), (.slice Ao135 t304.length co135)] 25 (0, 0))) ∧ Aside0 (Below w.heap.size w wc))
                        case first =>
                          have H := HC111.out
                          clear HC111
                          replace H := Option.bind_eq_some_iff.mp H
                          obtain ⟨t311, A1360, H⟩ := H
                          replace H : (if t311 = true then ((laws_eqByteS.f kj67 t307 t243).bind fun t312 => (laws_FnExactEarRead.j2 kj67 t288 t287 (!t312) t256 t257 t285 t286)) else (laws_FnExactEarRead.j2 kj67 t288 t287 true t256 t257 t285 t286)) = some r := H
                          have A136 := Aside0.mk A1360
                          clear A1360
                          by_cases c137 : t311 = true
                          · subst c137
                            have H1 : ((laws_eqByteS.f kj67 t307 t243).bind fun t312 => (laws_FnExactEarRead.j2 kj67 t288 t287 (!t312) t256 t257 t285 t286)) = some r := by rw [if_pos rfl] at H; exact H
                            clear H
                            have H := H1
                            clear H1
                            replace H := Option.bind_eq_some_iff.mp H
                            obtain ⟨t312, A1380, H⟩ := H
                            replace H : (laws_FnExactEarRead.j2 kj67 t288 t287 (!t312) t256 t257 t285 t286) = some r := H
                            have A138 := Aside0.mk A1380
                            clear A1380
                            have H' := Aside0.mk H
                            clear H
                            have hnb139 := NB310_225.out
                            have hnc139 := NB225_310.out
                            have hnb140 := NB310_246.out
                            have hnc140 := NB246_310.out
                            have hnb141 := NB310_255.out
                            have hnc141 := NB255_310.out
                            have hnb142 := NB310_267.out
                            have hnc142 := NB267_310.out
                            have hcz143_0 : w128.cell? ⟨gb310, 0, none⟩ = some (.int .i64 0) := (blk_cell BK310.out 0).trans rfl
                            have hcz143_1 : w128.cell? ⟨gb310, 1, none⟩ = some (.int .i64 0) := (blk_cell BK310.out 1).trans rfl
                            have hcz143_2 : w128.cell? ⟨gb310, 2, none⟩ = some (.slice none 0 0) := (blk_cell BK310.out 2).trans rfl
                            have hcz143_3 : w128.cell? ⟨gb310, 3, none⟩ = some (.slice none 0 0) := (blk_cell BK310.out 3).trans rfl
                            have hfz143_0 := blk_frozen BK310.out 0
                            have hfz143_1 := blk_frozen BK310.out 1
                            have hfz143_2 := blk_frozen BK310.out 2
                            have hfz143_3 := blk_frozen BK310.out 3
                            have hnb144 := NB246_225.out
                            have hnc144 := NB225_246.out
                            have hnb145 := NB246_255.out
                            have hnc145 := NB255_246.out
                            have hnb146 := NB246_267.out
                            have hnc146 := NB267_246.out
                            have hcz147_0 : w128.cell? ⟨gb246, 0, none⟩ = some (.int .i64 t235) := (blk_cell BK246.out 0).trans rfl
                            have hcz147_1 : w128.cell? ⟨gb246, 1, none⟩ = some (.int .i64 t236) := (blk_cell BK246.out 1).trans rfl
                            have hcz147_2 : w128.cell? ⟨gb246, 2, none⟩ = some (.slice Ao24 t237.length co24) := (blk_cell BK246.out 2).trans rfl
                            have hcz147_3 : w128.cell? ⟨gb246, 3, none⟩ = some (.slice Ao25 t240.length co25) := (blk_cell BK246.out 3).trans rfl
                            have hfz147_0 := blk_frozen BK246.out 0
                            have hfz147_1 := blk_frozen BK246.out 1
                            have hfz147_2 := blk_frozen BK246.out 2
                            have hfz147_3 := blk_frozen BK246.out 3
                            go_wp2_with (first | ((with_reducible refine gate_callee (f := 21) rfl ?_); refine goesL_ (some 96) rfl rfl Try.func21 (by kernel_rfl) rfl #[.agg #[.int .i64 t299, .int .i64 t300, .slice Ao134 t301.length co134, .slice Ao135 t304.length co135], .agg #[.int .i64 t235, .int .i64 t236, .slice Ao24 t237.length co24, .slice Ao25 t240.length co25]] rfl ar_ ?_; (with_reducible refine (laws_eqEar.calls kj67 t299 t300 _ _ t301 _ _ t304 t235 t236 _ _ t237 _ _ t240 true _ ?side1 ?side2 ?side3 ?side4 ?side5 ?side6 ?side7 ?side8 A136.out).mono ?_); (case side1 => refine (Kd.R_reads' (e := 5) (base := w.heap.size) (ok := fun k_ => ((((((some k_ ≠ (v308 : Value).ownBlock ∧ some k_ ≠ (v244 : Value).ownBlock) ∧ some k_ ≠ (.slice Ao117 t264.length co117 : Value).ownBlock) ∧ some k_ ≠ (.slice Ao24 t237.length co24 : Value).ownBlock) ∧ some k_ ≠ (.slice Ao32 t280.length co32 : Value).ownBlock) ∧ some k_ ≠ (.slice Ao40 t258.length co40 : Value).ownBlock) ∧ some k_ ≠ (.slice Ao125 t293.length co125 : Value).ownBlock)) (n := t301.length) (c := co134) ?_).2.2; exact (by refine kR_ ?_; exact (Kd.R_mono (Kd.R_f gb310 3 (.slice Ao135 t304.length co135) (Kd.R_f gb310 2 (.slice Ao134 t301.length co134) (Kd.R_f gb310 1 (.int .i64 t300) (Kd.R_f gb310 0 (.int .i64 t299) (Kd.R_types HO303.out BK310.out (by decide)))))) (fun _ h_ => op1_ h_)))); (case side2 => exact (Kd.R_reads' HO303.out).2.1); (case side3 => refine (Kd.R_reads' (e := 70) (base := w.heap.size) (ok := fun k_ => ((((True ∧ some k_ ≠ (.slice Ao25 t240.length co25 : Value).ownBlock) ∧ some k_ ≠ (.slice Ao33 t281.length co33 : Value).ownBlock) ∧ some k_ ≠ (.slice Ao41 t261.length co41 : Value).ownBlock) ∧ some k_ ≠ (.slice Ao126 t296.length co126 : Value).ownBlock)) (n := t304.length) (c := co135) ?_).2.2; exact (by refine kR_ ?_; exact (Kd.R_mono (Kd.R_f gb310 3 (.slice Ao135 t304.length co135) (Kd.R_f gb310 2 (.slice Ao134 t301.length co134) (Kd.R_f gb310 1 (.int .i64 t300) (Kd.R_f gb310 0 (.int .i64 t299) (Kd.R_types HO306.out BK310.out (by decide)))))) (fun _ h_ => op1_ h_)))); (case side4 => exact (Kd.R_reads' HO306.out).2.1); (case side5 => refine (Kd.R_reads' (e := 5) (base := w.heap.size) (ok := fun k_ => ((((some k_ ≠ (v244 : Value).ownBlock ∧ (some k_ ≠ (.slice Ao117 t264.length co117 : Value).ownBlock ∧ (some k_ ≠ (.slice Ao32 t280.length co32 : Value).ownBlock ∧ some k_ ≠ (.slice Ao40 t258.length co40 : Value).ownBlock))) ∧ some k_ ≠ (.slice Ao125 t293.length co125 : Value).ownBlock) ∧ some k_ ≠ (.slice Ao134 t301.length co134 : Value).ownBlock) ∧ some k_ ≠ (v308 : Value).ownBlock)) (n := t237.length) (c := co24) ?_).2.2; exact (by refine kR_ ?_; exact (Kd.R_mono (Kd.R_f gb310 3 (.slice Ao135 t304.length co135) (Kd.R_f gb310 2 (.slice Ao134 t301.length co134) (Kd.R_f gb310 1 (.int .i64 t300) (Kd.R_f gb310 0 (.int .i64 t299) (Kd.R_types HO_247002.out BK310.out (by decide)))))) (fun _ h_ => op1_ h_)))); (case side6 => exact (Kd.R_reads' HO_247002.out).2.1); (case side7 => refine (Kd.R_reads' (e := 70) (base := w.heap.size) (ok := fun k_ => (((some k_ ≠ (.slice Ao33 t281.length co33 : Value).ownBlock ∧ some k_ ≠ (.slice Ao41 t261.length co41 : Value).ownBlock) ∧ some k_ ≠ (.slice Ao126 t296.length co126 : Value).ownBlock) ∧ some k_ ≠ (.slice Ao135 t304.length co135 : Value).ownBlock)) (n := t240.length) (c := co25) ?_).2.2; exact (by refine kR_ ?_; exact (Kd.R_mono (Kd.R_f gb310 3 (.slice Ao135 t304.length co135) (Kd.R_f gb310 2 (.slice Ao134 t301.length co134) (Kd.R_f gb310 1 (.int .i64 t300) (Kd.R_f gb310 0 (.int .i64 t299) (Kd.R_types HO_247003.out BK310.out (by decide)))))) (fun _ h_ => op1_ h_)))); (case side8 => exact (Kd.R_reads' HO_247003.out).2.1); rintro e w148 ⟨rfl, hb⟩; refine ⟨_, rfl, ?_⟩; have n0_ := Aside0.mk (Kd.R_below (by refine kR_ ?_; exact (Kd.R_mono (Kd.R_f gb310 3 (.slice Ao135 t304.length co135) (Kd.R_f gb310 2 (.slice Ao134 t301.length co134) (Kd.R_f gb310 1 (.int .i64 t300) (Kd.R_f gb310 0 (.int .i64 t299) (Kd.R_types HO_7.out BK310.out (by decide)))))) (fun _ h_ => op1_ h_))) hb); have n1_ := Aside0.mk (Kd.R_below (by refine kR_ ?_; exact (Kd.R_mono (Kd.R_f gb310 3 (.slice Ao135 t304.length co135) (Kd.R_f gb310 2 (.slice Ao134 t301.length co134) (Kd.R_f gb310 1 (.int .i64 t300) (Kd.R_f gb310 0 (.int .i64 t299) (Kd.R_types HO_10.out BK310.out (by decide)))))) (fun _ h_ => op1_ h_))) hb); have n2_ := Aside0.mk (Kd.R_below (by refine kR_ ?_; exact (Kd.R_mono (Kd.R_f gb310 3 (.slice Ao135 t304.length co135) (Kd.R_f gb310 2 (.slice Ao134 t301.length co134) (Kd.R_f gb310 1 (.int .i64 t300) (Kd.R_f gb310 0 (.int .i64 t299) (Kd.R_types HO_247002.out BK310.out (by decide)))))) (fun _ h_ => op1_ h_))) hb); have n3_ := Aside0.mk (Kd.R_below (by refine kR_ ?_; exact (Kd.R_mono (Kd.R_f gb310 3 (.slice Ao135 t304.length co135) (Kd.R_f gb310 2 (.slice Ao134 t301.length co134) (Kd.R_f gb310 1 (.int .i64 t300) (Kd.R_f gb310 0 (.int .i64 t299) (Kd.R_types HO_247003.out BK310.out (by decide)))))) (fun _ h_ => op1_ h_))) hb); have n4_ := Aside0.mk (Kd.R_below (by refine kR_ ?_; exact (Kd.R_mono (Kd.R_f gb310 3 (.slice Ao135 t304.length co135) (Kd.R_f gb310 2 (.slice Ao134 t301.length co134) (Kd.R_f gb310 1 (.int .i64 t300) (Kd.R_f gb310 0 (.int .i64 t299) (Kd.R_types HO_256002.out BK310.out (by decide)))))) (fun _ h_ => op1_ h_))) hb); have n5_ := Aside0.mk (Kd.R_below (by refine kR_ ?_; exact (Kd.R_mono (Kd.R_f gb310 3 (.slice Ao135 t304.length co135) (Kd.R_f gb310 2 (.slice Ao134 t301.length co134) (Kd.R_f gb310 1 (.int .i64 t300) (Kd.R_f gb310 0 (.int .i64 t299) (Kd.R_types HO_256003.out BK310.out (by decide)))))) (fun _ h_ => op1_ h_))) hb); have n6_ := Aside0.mk (Kd.R_below (by refine kR_ ?_; exact (Kd.R_mono (Kd.R_f gb310 3 (.slice Ao135 t304.length co135) (Kd.R_f gb310 2 (.slice Ao134 t301.length co134) (Kd.R_f gb310 1 (.int .i64 t300) (Kd.R_f gb310 0 (.int .i64 t299) (Kd.R_types HO_268002.out BK310.out (by decide)))))) (fun _ h_ => op1_ h_))) hb); have n7_ := Aside0.mk (Kd.R_below (by refine kR_ ?_; exact (Kd.R_mono (Kd.R_f gb310 3 (.slice Ao135 t304.length co135) (Kd.R_f gb310 2 (.slice Ao134 t301.length co134) (Kd.R_f gb310 1 (.int .i64 t300) (Kd.R_f gb310 0 (.int .i64 t299) (Kd.R_types HO_268003.out BK310.out (by decide)))))) (fun _ h_ => op1_ h_))) hb); have n8_ := Aside0.mk (Kd.R_below (by refine kR_ ?_; exact (Kd.R_mono (Kd.R_f gb310 3 (.slice Ao135 t304.length co135) (Kd.R_f gb310 2 (.slice Ao134 t301.length co134) (Kd.R_f gb310 1 (.int .i64 t300) (Kd.R_f gb310 0 (.int .i64 t299) (Kd.R_types HO295.out BK310.out (by decide)))))) (fun _ h_ => op1_ h_))) hb); have n9_ := Aside0.mk (Kd.R_below (by refine kR_ ?_; exact (Kd.R_mono (Kd.R_f gb310 3 (.slice Ao135 t304.length co135) (Kd.R_f gb310 2 (.slice Ao134 t301.length co134) (Kd.R_f gb310 1 (.int .i64 t300) (Kd.R_f gb310 0 (.int .i64 t299) (Kd.R_types HO298.out BK310.out (by decide)))))) (fun _ h_ => op1_ h_))) hb); have n10_ := Aside0.mk (Kd.R_below (by refine kR_ ?_; exact (Kd.R_mono (Kd.R_f gb310 3 (.slice Ao135 t304.length co135) (Kd.R_f gb310 2 (.slice Ao134 t301.length co134) (Kd.R_f gb310 1 (.int .i64 t300) (Kd.R_f gb310 0 (.int .i64 t299) (Kd.R_types HO303.out BK310.out (by decide)))))) (fun _ h_ => op1_ h_))) hb); have n11_ := Aside0.mk (Kd.R_below (by refine kR_ ?_; exact (Kd.R_mono (Kd.R_f gb310 3 (.slice Ao135 t304.length co135) (Kd.R_f gb310 2 (.slice Ao134 t301.length co134) (Kd.R_f gb310 1 (.int .i64 t300) (Kd.R_f gb310 0 (.int .i64 t299) (Kd.R_types HO306.out BK310.out (by decide)))))) (fun _ h_ => op1_ h_))) hb); have n12_ := Aside0.mk (Kd.R_below (by refine kR_ ?_; exact (Kd.R_mono (Kd.R_f gb310 3 (.slice Ao135 t304.length co135) (Kd.R_f gb310 2 (.slice Ao134 t301.length co134) (Kd.R_f gb310 1 (.int .i64 t300) (Kd.R_f gb310 0 (.int .i64 t299) (Kd.R_types HO309.out BK310.out (by decide)))))) (fun _ h_ => op1_ h_))) hb); have n13_ := Aside0.mk (blk_below (g := gb225) (o := .cells #[.int .i64 a0_0, .int .i64 a0_1, .slice A0_2 l0_2.length c0_2, .slice A0_3 l0_3.length c0_3] 39 (0, 0)) (by refine kb_ ?_; refine blk_far ?_ NB225_310.out _; refine kb_ ?_; refine blk_far ?_ NB225_310.out _; refine kb_ ?_; refine blk_far ?_ NB225_310.out _; refine kb_ ?_; refine blk_far ?_ NB225_310.out _; refine kb_ ?_; exact BK225.out) hb); have n14_ := Aside0.mk (blk_below (g := gb246) (o := .cells #[.int .i64 t235, .int .i64 t236, .slice Ao24 t237.length co24, .slice Ao25 t240.length co25] 25 (0, 0)) (by refine kb_ ?_; refine blk_far ?_ NB246_310.out _; refine kb_ ?_; refine blk_far ?_ NB246_310.out _; refine kb_ ?_; refine blk_far ?_ NB246_310.out _; refine kb_ ?_; refine blk_far ?_ NB246_310.out _; refine kb_ ?_; exact BK246.out) hb); have n15_ := Aside0.mk (blk_below (g := gb255) (o := .cells #[.int .i64 t247, .int .i64 t248, .slice Ao32 t280.length co32, .slice Ao33 t281.length co33] 25 (0, 0)) (by refine kb_ ?_; refine blk_far ?_ NB255_310.out _; refine kb_ ?_; refine blk_far ?_ NB255_310.out _; refine kb_ ?_; refine blk_far ?_ NB255_310.out _; refine kb_ ?_; refine blk_far ?_ NB255_310.out _; refine kb_ ?_; exact BK255.out) hb); have n16_ := Aside0.mk (blk_below (g := gb267) (o := .cells #[.int .i64 t256, .int .i64 t257, .slice Ao40 t258.length co40, .slice Ao41 t261.length co41] 25 (0, 0)) (by refine kb_ ?_; refine blk_far ?_ NB267_310.out _; refine kb_ ?_; refine blk_far ?_ NB267_310.out _; refine kb_ ?_; refine blk_far ?_ NB267_310.out _; refine kb_ ?_; refine blk_far ?_ NB267_310.out _; refine kb_ ?_; exact BK267.out) hb); have n17_ := Aside0.mk (blk_below (g := gb310) (o := .cells #[.int .i64 t299, .int .i64 t300, .slice Ao134 t301.length co134, .slice Ao135 t304.length co135] 25 (0, 0)) (by refine kb_ ?_; refine blk_put (cs := #[.int .i64 t299, .int .i64 t300, .slice Ao134 t301.length co134, .slice none 0 0]) ?_ 3 _ rfl; refine kb_ ?_; refine blk_put (cs := #[.int .i64 t299, .int .i64 t300, .slice none 0 0, .slice none 0 0]) ?_ 2 _ rfl; refine kb_ ?_; refine blk_put (cs := #[.int .i64 t299, .int .i64 0, .slice none 0 0, .slice none 0 0]) ?_ 1 _ rfl; refine kb_ ?_; refine blk_put (cs := #[.int .i64 0, .int .i64 0, .slice none 0 0, .slice none 0 0]) ?_ 0 _ rfl; refine kb_ ?_; exact BK310.out) hb); have n18_ := Aside0.mk (below_step (by repeat (first | (with_reducible first | exact HB.out | apply below_alloc | apply pw_below_drewN | apply below_drew1 | refine below_set ?_ GE225.out | refine below_set ?_ GE246.out | refine below_set ?_ GE255.out | refine below_set ?_ GE267.out | refine below_set ?_ GE310.out) | exact HB.out)) hb); clear HO_7; clear HO_10; clear HO_247002; clear HO_247003; clear HO_256002; clear HO_256003; clear HO_268002; clear HO_268003; clear HO295; clear HO298; clear HO303; clear HO306; clear HO309; clear BK225; clear BK246; clear BK255; clear BK267; clear BK310; clear HB; have HO_7 := n0_; have HO_10 := n1_; have HO_247002 := n2_; have HO_247003 := n3_; have HO_256002 := n4_; have HO_256003 := n5_; have HO_268002 := n6_; have HO_268003 := n7_; have HO295 := n8_; have HO298 := n9_; have HO303 := n10_; have HO306 := n11_; have HO309 := n12_; have BK225 := n13_; have BK246 := n14_; have BK255 := n15_; have BK267 := n16_; have BK310 := n17_; have HB := n18_; clear n0_ n1_ n2_ n3_ n4_ n5_ n6_ n7_ n8_ n9_ n10_ n11_ n12_ n13_ n14_ n15_ n16_ n17_ n18_; (try clear hb); (try clear hb2); (try clear hk); (try clear hi); obtain ⟨Ao149, co149, eo149⟩ := Kd.R_slice HO309.out; subst eo149; obtain ⟨Ao150, co150, eo150⟩ := Kd.R_slice HO_7.out; subst eo150) | (go_at_call 22; (with_reducible refine (laws_eqByteS.calls kj67 _ _ t307 _ _ t243 t312 _ ?side1 ?side2 ?side3 ?side4 A138.out).mono ?_); (case side1 => exact kC_ (Kd.R_reads' HO309.out).2.2); (case side2 => exact (Kd.R_reads' HO309.out).2.1); (case side3 => exact kC_ (Kd.R_reads' HO_7.out).2.2); (case side4 => exact (Kd.R_reads' HO_7.out).2.1); rintro e w' ⟨rfl, ⟨nd, rfl⟩⟩))
                            go_meet
                            case rel => exact ⟨_, (!t312), (by first | rfl | (simp; done) | (simp [*]; done)), H', ⟨by have := HJ11.out; have := HJ67.out; first | omega | exact Nat.le_refl _⟩, ⟨by (try simp only [hl256002_67]); (try simp only [hl256003_67]); refine kR_ ?_; exact Kd.R_mono HO_10.out (fun _ hk => op2_ hk)⟩, ⟨by (try simp only [hl256002_67]); (try simp only [hl256003_67]); refine kR_ ?_; exact Kd.R_mono HO_247002.out (fun _ hk => op2_ hk)⟩, ⟨by (try simp only [hl256002_67]); (try simp only [hl256003_67]); refine kR_ ?_; exact Kd.R_mono HO_247003.out (fun _ hk => op2_ hk)⟩, ⟨by (try simp only [hl256002_67]); (try simp only [hl256003_67]); refine kR_ ?_; exact Kd.R_mono HO_256002.out (fun _ hk => op2_ hk)⟩, ⟨by (try simp only [hl256002_67]); (try simp only [hl256003_67]); refine kR_ ?_; exact Kd.R_mono HO_256003.out (fun _ hk => op2_ hk)⟩, ⟨by (try simp only [hl256002_67]); (try simp only [hl256003_67]); refine kR_ ?_; exact Kd.R_mono HO_268002.out (fun _ hk => op2_ hk)⟩, ⟨by (try simp only [hl256002_67]); (try simp only [hl256003_67]); refine kR_ ?_; exact Kd.R_mono HO_268003.out (fun _ hk => op2_ hk)⟩, ⟨by (try simp only [hl256002_67]); (try simp only [hl256003_67]); refine kR_ ?_; exact Kd.R_mono HO303.out (fun _ hk => op2_ hk)⟩, ⟨by (try simp only [hl256002_67]); (try simp only [hl256003_67]); refine kR_ ?_; exact Kd.R_mono HO306.out (fun _ hk => op2_ hk)⟩, ⟨by (try simp only [hl256002_67]); (try simp only [hl256003_67]); refine kb_ ?_; exact BK225.out⟩, ⟨by (try simp only [hl256002_67]); (try simp only [hl256003_67]); refine kb_ ?_; exact BK246.out⟩, ⟨by (try simp only [hl256002_67]); (try simp only [hl256003_67]); refine kb_ ?_; exact BK255.out⟩, ⟨by (try simp only [hl256002_67]); (try simp only [hl256003_67]); refine kb_ ?_; exact BK267.out⟩, ⟨by (try simp only [hl256002_67]); (try simp only [hl256003_67]); refine kb_ ?_; exact BK310.out⟩, ⟨by repeat (first | (with_reducible first | exact HB.out | apply below_alloc | apply pw_below_drewN | apply below_drew1 | refine below_set ?_ GE225.out | refine below_set ?_ GE246.out | refine below_set ?_ GE255.out | refine below_set ?_ GE267.out | refine below_set ?_ GE310.out) | exact HB.out)⟩⟩
                          · replace c137 := Bool.eq_false_iff.mpr c137
                            subst c137
                            have H1 : (laws_FnExactEarRead.j2 kj67 t288 t287 true t256 t257 t285 t286) = some r := by rw [if_neg (show ¬ (false = true) by decide)] at H; exact H
                            clear H
                            have H := H1
                            clear H1
                            have H' := Aside0.mk H
                            clear H
                            have hnb151 := NB310_225.out
                            have hnc151 := NB225_310.out
                            have hnb152 := NB310_246.out
                            have hnc152 := NB246_310.out
                            have hnb153 := NB310_255.out
                            have hnc153 := NB255_310.out
                            have hnb154 := NB310_267.out
                            have hnc154 := NB267_310.out
                            have hcz155_0 : w128.cell? ⟨gb310, 0, none⟩ = some (.int .i64 0) := (blk_cell BK310.out 0).trans rfl
                            have hcz155_1 : w128.cell? ⟨gb310, 1, none⟩ = some (.int .i64 0) := (blk_cell BK310.out 1).trans rfl
                            have hcz155_2 : w128.cell? ⟨gb310, 2, none⟩ = some (.slice none 0 0) := (blk_cell BK310.out 2).trans rfl
                            have hcz155_3 : w128.cell? ⟨gb310, 3, none⟩ = some (.slice none 0 0) := (blk_cell BK310.out 3).trans rfl
                            have hfz155_0 := blk_frozen BK310.out 0
                            have hfz155_1 := blk_frozen BK310.out 1
                            have hfz155_2 := blk_frozen BK310.out 2
                            have hfz155_3 := blk_frozen BK310.out 3
                            have hnb156 := NB246_225.out
                            have hnc156 := NB225_246.out
                            have hnb157 := NB246_255.out
                            have hnc157 := NB255_246.out
                            have hnb158 := NB246_267.out
                            have hnc158 := NB267_246.out
                            have hcz159_0 : w128.cell? ⟨gb246, 0, none⟩ = some (.int .i64 t235) := (blk_cell BK246.out 0).trans rfl
                            have hcz159_1 : w128.cell? ⟨gb246, 1, none⟩ = some (.int .i64 t236) := (blk_cell BK246.out 1).trans rfl
                            have hcz159_2 : w128.cell? ⟨gb246, 2, none⟩ = some (.slice Ao24 t237.length co24) := (blk_cell BK246.out 2).trans rfl
                            have hcz159_3 : w128.cell? ⟨gb246, 3, none⟩ = some (.slice Ao25 t240.length co25) := (blk_cell BK246.out 3).trans rfl
                            have hfz159_0 := blk_frozen BK246.out 0
                            have hfz159_1 := blk_frozen BK246.out 1
                            have hfz159_2 := blk_frozen BK246.out 2
                            have hfz159_3 := blk_frozen BK246.out 3
                            go_wp2_with (first | ((with_reducible refine gate_callee (f := 21) rfl ?_); refine goesL_ (some 96) rfl rfl Try.func21 (by kernel_rfl) rfl #[.agg #[.int .i64 t299, .int .i64 t300, .slice Ao134 t301.length co134, .slice Ao135 t304.length co135], .agg #[.int .i64 t235, .int .i64 t236, .slice Ao24 t237.length co24, .slice Ao25 t240.length co25]] rfl ar_ ?_; (with_reducible refine (laws_eqEar.calls kj67 t299 t300 _ _ t301 _ _ t304 t235 t236 _ _ t237 _ _ t240 false _ ?side1 ?side2 ?side3 ?side4 ?side5 ?side6 ?side7 ?side8 A136.out).mono ?_); (case side1 => refine (Kd.R_reads' (e := 5) (base := w.heap.size) (ok := fun k_ => ((((((some k_ ≠ (v308 : Value).ownBlock ∧ some k_ ≠ (v244 : Value).ownBlock) ∧ some k_ ≠ (.slice Ao117 t264.length co117 : Value).ownBlock) ∧ some k_ ≠ (.slice Ao24 t237.length co24 : Value).ownBlock) ∧ some k_ ≠ (.slice Ao32 t280.length co32 : Value).ownBlock) ∧ some k_ ≠ (.slice Ao40 t258.length co40 : Value).ownBlock) ∧ some k_ ≠ (.slice Ao125 t293.length co125 : Value).ownBlock)) (n := t301.length) (c := co134) ?_).2.2; exact (by refine kR_ ?_; exact (Kd.R_mono (Kd.R_f gb310 3 (.slice Ao135 t304.length co135) (Kd.R_f gb310 2 (.slice Ao134 t301.length co134) (Kd.R_f gb310 1 (.int .i64 t300) (Kd.R_f gb310 0 (.int .i64 t299) (Kd.R_types HO303.out BK310.out (by decide)))))) (fun _ h_ => op1_ h_)))); (case side2 => exact (Kd.R_reads' HO303.out).2.1); (case side3 => refine (Kd.R_reads' (e := 70) (base := w.heap.size) (ok := fun k_ => ((((True ∧ some k_ ≠ (.slice Ao25 t240.length co25 : Value).ownBlock) ∧ some k_ ≠ (.slice Ao33 t281.length co33 : Value).ownBlock) ∧ some k_ ≠ (.slice Ao41 t261.length co41 : Value).ownBlock) ∧ some k_ ≠ (.slice Ao126 t296.length co126 : Value).ownBlock)) (n := t304.length) (c := co135) ?_).2.2; exact (by refine kR_ ?_; exact (Kd.R_mono (Kd.R_f gb310 3 (.slice Ao135 t304.length co135) (Kd.R_f gb310 2 (.slice Ao134 t301.length co134) (Kd.R_f gb310 1 (.int .i64 t300) (Kd.R_f gb310 0 (.int .i64 t299) (Kd.R_types HO306.out BK310.out (by decide)))))) (fun _ h_ => op1_ h_)))); (case side4 => exact (Kd.R_reads' HO306.out).2.1); (case side5 => refine (Kd.R_reads' (e := 5) (base := w.heap.size) (ok := fun k_ => ((((some k_ ≠ (v244 : Value).ownBlock ∧ (some k_ ≠ (.slice Ao117 t264.length co117 : Value).ownBlock ∧ (some k_ ≠ (.slice Ao32 t280.length co32 : Value).ownBlock ∧ some k_ ≠ (.slice Ao40 t258.length co40 : Value).ownBlock))) ∧ some k_ ≠ (.slice Ao125 t293.length co125 : Value).ownBlock) ∧ some k_ ≠ (.slice Ao134 t301.length co134 : Value).ownBlock) ∧ some k_ ≠ (v308 : Value).ownBlock)) (n := t237.length) (c := co24) ?_).2.2; exact (by refine kR_ ?_; exact (Kd.R_mono (Kd.R_f gb310 3 (.slice Ao135 t304.length co135) (Kd.R_f gb310 2 (.slice Ao134 t301.length co134) (Kd.R_f gb310 1 (.int .i64 t300) (Kd.R_f gb310 0 (.int .i64 t299) (Kd.R_types HO_247002.out BK310.out (by decide)))))) (fun _ h_ => op1_ h_)))); (case side6 => exact (Kd.R_reads' HO_247002.out).2.1); (case side7 => refine (Kd.R_reads' (e := 70) (base := w.heap.size) (ok := fun k_ => (((some k_ ≠ (.slice Ao33 t281.length co33 : Value).ownBlock ∧ some k_ ≠ (.slice Ao41 t261.length co41 : Value).ownBlock) ∧ some k_ ≠ (.slice Ao126 t296.length co126 : Value).ownBlock) ∧ some k_ ≠ (.slice Ao135 t304.length co135 : Value).ownBlock)) (n := t240.length) (c := co25) ?_).2.2; exact (by refine kR_ ?_; exact (Kd.R_mono (Kd.R_f gb310 3 (.slice Ao135 t304.length co135) (Kd.R_f gb310 2 (.slice Ao134 t301.length co134) (Kd.R_f gb310 1 (.int .i64 t300) (Kd.R_f gb310 0 (.int .i64 t299) (Kd.R_types HO_247003.out BK310.out (by decide)))))) (fun _ h_ => op1_ h_)))); (case side8 => exact (Kd.R_reads' HO_247003.out).2.1); rintro e w160 ⟨rfl, hb⟩; refine ⟨_, rfl, ?_⟩; have n0_ := Aside0.mk (Kd.R_below (by refine kR_ ?_; exact (Kd.R_mono (Kd.R_f gb310 3 (.slice Ao135 t304.length co135) (Kd.R_f gb310 2 (.slice Ao134 t301.length co134) (Kd.R_f gb310 1 (.int .i64 t300) (Kd.R_f gb310 0 (.int .i64 t299) (Kd.R_types HO_7.out BK310.out (by decide)))))) (fun _ h_ => op1_ h_))) hb); have n1_ := Aside0.mk (Kd.R_below (by refine kR_ ?_; exact (Kd.R_mono (Kd.R_f gb310 3 (.slice Ao135 t304.length co135) (Kd.R_f gb310 2 (.slice Ao134 t301.length co134) (Kd.R_f gb310 1 (.int .i64 t300) (Kd.R_f gb310 0 (.int .i64 t299) (Kd.R_types HO_10.out BK310.out (by decide)))))) (fun _ h_ => op1_ h_))) hb); have n2_ := Aside0.mk (Kd.R_below (by refine kR_ ?_; exact (Kd.R_mono (Kd.R_f gb310 3 (.slice Ao135 t304.length co135) (Kd.R_f gb310 2 (.slice Ao134 t301.length co134) (Kd.R_f gb310 1 (.int .i64 t300) (Kd.R_f gb310 0 (.int .i64 t299) (Kd.R_types HO_247002.out BK310.out (by decide)))))) (fun _ h_ => op1_ h_))) hb); have n3_ := Aside0.mk (Kd.R_below (by refine kR_ ?_; exact (Kd.R_mono (Kd.R_f gb310 3 (.slice Ao135 t304.length co135) (Kd.R_f gb310 2 (.slice Ao134 t301.length co134) (Kd.R_f gb310 1 (.int .i64 t300) (Kd.R_f gb310 0 (.int .i64 t299) (Kd.R_types HO_247003.out BK310.out (by decide)))))) (fun _ h_ => op1_ h_))) hb); have n4_ := Aside0.mk (Kd.R_below (by refine kR_ ?_; exact (Kd.R_mono (Kd.R_f gb310 3 (.slice Ao135 t304.length co135) (Kd.R_f gb310 2 (.slice Ao134 t301.length co134) (Kd.R_f gb310 1 (.int .i64 t300) (Kd.R_f gb310 0 (.int .i64 t299) (Kd.R_types HO_256002.out BK310.out (by decide)))))) (fun _ h_ => op1_ h_))) hb); have n5_ := Aside0.mk (Kd.R_below (by refine kR_ ?_; exact (Kd.R_mono (Kd.R_f gb310 3 (.slice Ao135 t304.length co135) (Kd.R_f gb310 2 (.slice Ao134 t301.length co134) (Kd.R_f gb310 1 (.int .i64 t300) (Kd.R_f gb310 0 (.int .i64 t299) (Kd.R_types HO_256003.out BK310.out (by decide)))))) (fun _ h_ => op1_ h_))) hb); have n6_ := Aside0.mk (Kd.R_below (by refine kR_ ?_; exact (Kd.R_mono (Kd.R_f gb310 3 (.slice Ao135 t304.length co135) (Kd.R_f gb310 2 (.slice Ao134 t301.length co134) (Kd.R_f gb310 1 (.int .i64 t300) (Kd.R_f gb310 0 (.int .i64 t299) (Kd.R_types HO_268002.out BK310.out (by decide)))))) (fun _ h_ => op1_ h_))) hb); have n7_ := Aside0.mk (Kd.R_below (by refine kR_ ?_; exact (Kd.R_mono (Kd.R_f gb310 3 (.slice Ao135 t304.length co135) (Kd.R_f gb310 2 (.slice Ao134 t301.length co134) (Kd.R_f gb310 1 (.int .i64 t300) (Kd.R_f gb310 0 (.int .i64 t299) (Kd.R_types HO_268003.out BK310.out (by decide)))))) (fun _ h_ => op1_ h_))) hb); have n8_ := Aside0.mk (Kd.R_below (by refine kR_ ?_; exact (Kd.R_mono (Kd.R_f gb310 3 (.slice Ao135 t304.length co135) (Kd.R_f gb310 2 (.slice Ao134 t301.length co134) (Kd.R_f gb310 1 (.int .i64 t300) (Kd.R_f gb310 0 (.int .i64 t299) (Kd.R_types HO295.out BK310.out (by decide)))))) (fun _ h_ => op1_ h_))) hb); have n9_ := Aside0.mk (Kd.R_below (by refine kR_ ?_; exact (Kd.R_mono (Kd.R_f gb310 3 (.slice Ao135 t304.length co135) (Kd.R_f gb310 2 (.slice Ao134 t301.length co134) (Kd.R_f gb310 1 (.int .i64 t300) (Kd.R_f gb310 0 (.int .i64 t299) (Kd.R_types HO298.out BK310.out (by decide)))))) (fun _ h_ => op1_ h_))) hb); have n10_ := Aside0.mk (Kd.R_below (by refine kR_ ?_; exact (Kd.R_mono (Kd.R_f gb310 3 (.slice Ao135 t304.length co135) (Kd.R_f gb310 2 (.slice Ao134 t301.length co134) (Kd.R_f gb310 1 (.int .i64 t300) (Kd.R_f gb310 0 (.int .i64 t299) (Kd.R_types HO303.out BK310.out (by decide)))))) (fun _ h_ => op1_ h_))) hb); have n11_ := Aside0.mk (Kd.R_below (by refine kR_ ?_; exact (Kd.R_mono (Kd.R_f gb310 3 (.slice Ao135 t304.length co135) (Kd.R_f gb310 2 (.slice Ao134 t301.length co134) (Kd.R_f gb310 1 (.int .i64 t300) (Kd.R_f gb310 0 (.int .i64 t299) (Kd.R_types HO306.out BK310.out (by decide)))))) (fun _ h_ => op1_ h_))) hb); have n12_ := Aside0.mk (Kd.R_below (by refine kR_ ?_; exact (Kd.R_mono (Kd.R_f gb310 3 (.slice Ao135 t304.length co135) (Kd.R_f gb310 2 (.slice Ao134 t301.length co134) (Kd.R_f gb310 1 (.int .i64 t300) (Kd.R_f gb310 0 (.int .i64 t299) (Kd.R_types HO309.out BK310.out (by decide)))))) (fun _ h_ => op1_ h_))) hb); have n13_ := Aside0.mk (blk_below (g := gb225) (o := .cells #[.int .i64 a0_0, .int .i64 a0_1, .slice A0_2 l0_2.length c0_2, .slice A0_3 l0_3.length c0_3] 39 (0, 0)) (by refine kb_ ?_; refine blk_far ?_ NB225_310.out _; refine kb_ ?_; refine blk_far ?_ NB225_310.out _; refine kb_ ?_; refine blk_far ?_ NB225_310.out _; refine kb_ ?_; refine blk_far ?_ NB225_310.out _; refine kb_ ?_; exact BK225.out) hb); have n14_ := Aside0.mk (blk_below (g := gb246) (o := .cells #[.int .i64 t235, .int .i64 t236, .slice Ao24 t237.length co24, .slice Ao25 t240.length co25] 25 (0, 0)) (by refine kb_ ?_; refine blk_far ?_ NB246_310.out _; refine kb_ ?_; refine blk_far ?_ NB246_310.out _; refine kb_ ?_; refine blk_far ?_ NB246_310.out _; refine kb_ ?_; refine blk_far ?_ NB246_310.out _; refine kb_ ?_; exact BK246.out) hb); have n15_ := Aside0.mk (blk_below (g := gb255) (o := .cells #[.int .i64 t247, .int .i64 t248, .slice Ao32 t280.length co32, .slice Ao33 t281.length co33] 25 (0, 0)) (by refine kb_ ?_; refine blk_far ?_ NB255_310.out _; refine kb_ ?_; refine blk_far ?_ NB255_310.out _; refine kb_ ?_; refine blk_far ?_ NB255_310.out _; refine kb_ ?_; refine blk_far ?_ NB255_310.out _; refine kb_ ?_; exact BK255.out) hb); have n16_ := Aside0.mk (blk_below (g := gb267) (o := .cells #[.int .i64 t256, .int .i64 t257, .slice Ao40 t258.length co40, .slice Ao41 t261.length co41] 25 (0, 0)) (by refine kb_ ?_; refine blk_far ?_ NB267_310.out _; refine kb_ ?_; refine blk_far ?_ NB267_310.out _; refine kb_ ?_; refine blk_far ?_ NB267_310.out _; refine kb_ ?_; refine blk_far ?_ NB267_310.out _; refine kb_ ?_; exact BK267.out) hb); have n17_ := Aside0.mk (blk_below (g := gb310) (o := .cells #[.int .i64 t299, .int .i64 t300, .slice Ao134 t301.length co134, .slice Ao135 t304.length co135] 25 (0, 0)) (by refine kb_ ?_; refine blk_put (cs := #[.int .i64 t299, .int .i64 t300, .slice Ao134 t301.length co134, .slice none 0 0]) ?_ 3 _ rfl; refine kb_ ?_; refine blk_put (cs := #[.int .i64 t299, .int .i64 t300, .slice none 0 0, .slice none 0 0]) ?_ 2 _ rfl; refine kb_ ?_; refine blk_put (cs := #[.int .i64 t299, .int .i64 0, .slice none 0 0, .slice none 0 0]) ?_ 1 _ rfl; refine kb_ ?_; refine blk_put (cs := #[.int .i64 0, .int .i64 0, .slice none 0 0, .slice none 0 0]) ?_ 0 _ rfl; refine kb_ ?_; exact BK310.out) hb); have n18_ := Aside0.mk (below_step (by repeat (first | (with_reducible first | exact HB.out | apply below_alloc | apply pw_below_drewN | apply below_drew1 | refine below_set ?_ GE225.out | refine below_set ?_ GE246.out | refine below_set ?_ GE255.out | refine below_set ?_ GE267.out | refine below_set ?_ GE310.out) | exact HB.out)) hb); clear HO_7; clear HO_10; clear HO_247002; clear HO_247003; clear HO_256002; clear HO_256003; clear HO_268002; clear HO_268003; clear HO295; clear HO298; clear HO303; clear HO306; clear HO309; clear BK225; clear BK246; clear BK255; clear BK267; clear BK310; clear HB; have HO_7 := n0_; have HO_10 := n1_; have HO_247002 := n2_; have HO_247003 := n3_; have HO_256002 := n4_; have HO_256003 := n5_; have HO_268002 := n6_; have HO_268003 := n7_; have HO295 := n8_; have HO298 := n9_; have HO303 := n10_; have HO306 := n11_; have HO309 := n12_; have BK225 := n13_; have BK246 := n14_; have BK255 := n15_; have BK267 := n16_; have BK310 := n17_; have HB := n18_; clear n0_ n1_ n2_ n3_ n4_ n5_ n6_ n7_ n8_ n9_ n10_ n11_ n12_ n13_ n14_ n15_ n16_ n17_ n18_; (try clear hb); (try clear hb2); (try clear hk); (try clear hi)))
                            go_meet
                            case rel => exact ⟨_, (true), (by first | rfl | (simp; done) | (simp [*]; done)), H', ⟨by have := HJ11.out; have := HJ67.out; first | omega | exact Nat.le_refl _⟩, ⟨by (try simp only [hl256002_67]); (try simp only [hl256003_67]); refine kR_ ?_; exact Kd.R_mono HO_10.out (fun _ hk => op2_ hk)⟩, ⟨by (try simp only [hl256002_67]); (try simp only [hl256003_67]); refine kR_ ?_; exact Kd.R_mono HO_247002.out (fun _ hk => op2_ hk)⟩, ⟨by (try simp only [hl256002_67]); (try simp only [hl256003_67]); refine kR_ ?_; exact Kd.R_mono HO_247003.out (fun _ hk => op2_ hk)⟩, ⟨by (try simp only [hl256002_67]); (try simp only [hl256003_67]); refine kR_ ?_; exact Kd.R_mono HO_256002.out (fun _ hk => op2_ hk)⟩, ⟨by (try simp only [hl256002_67]); (try simp only [hl256003_67]); refine kR_ ?_; exact Kd.R_mono HO_256003.out (fun _ hk => op2_ hk)⟩, ⟨by (try simp only [hl256002_67]); (try simp only [hl256003_67]); refine kR_ ?_; exact Kd.R_mono HO_268002.out (fun _ hk => op2_ hk)⟩, ⟨by (try simp only [hl256002_67]); (try simp only [hl256003_67]); refine kR_ ?_; exact Kd.R_mono HO_268003.out (fun _ hk => op2_ hk)⟩, ⟨by (try simp only [hl256002_67]); (try simp only [hl256003_67]); refine kR_ ?_; exact Kd.R_mono HO303.out (fun _ hk => op2_ hk)⟩, ⟨by (try simp only [hl256002_67]); (try simp only [hl256003_67]); refine kR_ ?_; exact Kd.R_mono HO306.out (fun _ hk => op2_ hk)⟩, ⟨by (try simp only [hl256002_67]); (try simp only [hl256003_67]); refine kb_ ?_; exact BK225.out⟩, ⟨by (try simp only [hl256002_67]); (try simp only [hl256003_67]); refine kb_ ?_; exact BK246.out⟩, ⟨by (try simp only [hl256002_67]); (try simp only [hl256003_67]); refine kb_ ?_; exact BK255.out⟩, ⟨by (try simp only [hl256002_67]); (try simp only [hl256003_67]); refine kb_ ?_; exact BK267.out⟩, ⟨by (try simp only [hl256002_67]); (try simp only [hl256003_67]); refine kb_ ?_; exact BK310.out⟩, ⟨by repeat (first | (with_reducible first | exact HB.out | apply below_alloc | apply pw_below_drewN | apply below_drew1 | refine below_set ?_ GE225.out | refine below_set ?_ GE246.out | refine below_set ?_ GE255.out | refine below_set ?_ GE267.out | refine below_set ?_ GE310.out) | exact HB.out)⟩⟩
                        case rest =>
                          clear HC111
                          try clear c1
                          try clear c2
                          try clear p2
                          try clear c3
                          try clear c4
                          try clear c4b0
                          try clear c5
                          try clear c6
                          try clear c7
                          try clear c8
                          try clear c9
                          try clear c10
                          try clear c11
                          try clear c12
                          try clear c13
                          try clear c14
                          try clear c15
                          try clear c16
                          try clear c19
                          try clear c20
                          try clear c21
                          try clear c22
                          try clear c23
                          try clear c24
                          try clear c25
                          try clear c26
                          try clear c29
                          try clear c30
                          try clear c36
                          try clear c37
                          try clear c38
                          try clear c43
                          try clear c45
                          try clear c46
                          try clear c47
                          try clear c49
                          try clear c50
                          try clear c55
                          try clear c56
                          try clear c57
                          try clear c59
                          try clear c60
                          try clear c63
                          try clear c66
                          try clear c74
                          try clear c75
                          try clear c76
                          try clear c79
                          try clear c79b0
                          try clear c81
                          try clear c83
                          try clear c84
                          try clear c85
                          try clear c87
                          try clear c88
                          try clear c93
                          try clear c94
                          try clear c95
                          try clear c97
                          try clear c98
                          try clear c101
                          try clear c105
                          try clear c105b0
                          try clear c107
                          try clear c107b0
                          try clear c108
                          try clear c108b0
                          try clear c108b1
                          try clear c112
                          try clear c113
                          try clear c114
                          try clear c121
                          try clear c122
                          try clear c129
                          try clear c130
                          try clear c131
                          try clear c132
                          try clear c137
                          try clear c139
                          try clear c140
                          try clear c141
                          try clear c142
                          try clear c144
                          try clear c145
                          try clear c146
                          try clear c151
                          try clear c152
                          try clear c153
                          try clear c154
                          try clear c156
                          try clear c157
                          try clear c158
                          try clear hcz115_0
                          try clear hcz115_1
                          try clear hcz115_2
                          try clear hcz115_3
                          try clear hcz119_0
                          try clear hcz119_1
                          try clear hcz119_2
                          try clear hcz119_3
                          try clear hcz123_0
                          try clear hcz123_1
                          try clear hcz123_2
                          try clear hcz123_3
                          try clear hcz133_0
                          try clear hcz133_1
                          try clear hcz133_2
                          try clear hcz133_3
                          try clear hcz143_0
                          try clear hcz143_1
                          try clear hcz143_2
                          try clear hcz143_3
                          try clear hcz147_0
                          try clear hcz147_1
                          try clear hcz147_2
                          try clear hcz147_3
                          try clear hcz14_0
                          try clear hcz14_1
                          try clear hcz14_2
                          try clear hcz14_3
                          try clear hcz155_0
                          try clear hcz155_1
                          try clear hcz155_2
                          try clear hcz155_3
                          try clear hcz159_0
                          try clear hcz159_1
                          try clear hcz159_2
                          try clear hcz159_3
                          try clear hcz16_0
                          try clear hcz16_1
                          try clear hcz16_2
                          try clear hcz16_3
                          try clear hcz23_0
                          try clear hcz23_1
                          try clear hcz23_2
                          try clear hcz23_3
                          try clear hcz26_0
                          try clear hcz26_1
                          try clear hcz26_2
                          try clear hcz26_3
                          try clear hcz31_0
                          try clear hcz31_1
                          try clear hcz31_2
                          try clear hcz31_3
                          try clear hcz39_0
                          try clear hcz39_1
                          try clear hcz39_2
                          try clear hcz39_3
                          try clear hcz48_0
                          try clear hcz48_1
                          try clear hcz48_2
                          try clear hcz48_3
                          try clear hcz51_0
                          try clear hcz51_1
                          try clear hcz51_2
                          try clear hcz51_3
                          try clear hcz58_0
                          try clear hcz58_1
                          try clear hcz58_2
                          try clear hcz58_3
                          try clear hcz61_0
                          try clear hcz61_1
                          try clear hcz61_2
                          try clear hcz61_3
                          try clear hcz6_0
                          try clear hcz6_1
                          try clear hcz6_2
                          try clear hcz6_3
                          try clear hcz77_0
                          try clear hcz77_1
                          try clear hcz77_2
                          try clear hcz77_3
                          try clear hcz86_0
                          try clear hcz86_1
                          try clear hcz86_2
                          try clear hcz86_3
                          try clear hcz89_0
                          try clear hcz89_1
                          try clear hcz89_2
                          try clear hcz89_3
                          try clear hcz96_0
                          try clear hcz96_1
                          try clear hcz96_2
                          try clear hcz96_3
                          try clear hcz99_0
                          try clear hcz99_1
                          try clear hcz99_2
                          try clear hcz99_3
                          try clear hfz115_0
                          try clear hfz115_1
                          try clear hfz115_2
                          try clear hfz115_3
                          try clear hfz119_0
                          try clear hfz119_1
                          try clear hfz119_2
                          try clear hfz119_3
                          try clear hfz123_0
                          try clear hfz123_1
                          try clear hfz123_2
                          try clear hfz123_3
                          try clear hfz133_0
                          try clear hfz133_1
                          try clear hfz133_2
                          try clear hfz133_3
                          try clear hfz143_0
                          try clear hfz143_1
                          try clear hfz143_2
                          try clear hfz143_3
                          try clear hfz147_0
                          try clear hfz147_1
                          try clear hfz147_2
                          try clear hfz147_3
                          try clear hfz14_0
                          try clear hfz14_1
                          try clear hfz14_2
                          try clear hfz14_3
                          try clear hfz155_0
                          try clear hfz155_1
                          try clear hfz155_2
                          try clear hfz155_3
                          try clear hfz159_0
                          try clear hfz159_1
                          try clear hfz159_2
                          try clear hfz159_3
                          try clear hfz16_0
                          try clear hfz16_1
                          try clear hfz16_2
                          try clear hfz16_3
                          try clear hfz23_0
                          try clear hfz23_1
                          try clear hfz23_2
                          try clear hfz23_3
                          try clear hfz26_0
                          try clear hfz26_1
                          try clear hfz26_2
                          try clear hfz26_3
                          try clear hfz31_0
                          try clear hfz31_1
                          try clear hfz31_2
                          try clear hfz31_3
                          try clear hfz39_0
                          try clear hfz39_1
                          try clear hfz39_2
                          try clear hfz39_3
                          try clear hfz48_0
                          try clear hfz48_1
                          try clear hfz48_2
                          try clear hfz48_3
                          try clear hfz51_0
                          try clear hfz51_1
                          try clear hfz51_2
                          try clear hfz51_3
                          try clear hfz58_0
                          try clear hfz58_1
                          try clear hfz58_2
                          try clear hfz58_3
                          try clear hfz61_0
                          try clear hfz61_1
                          try clear hfz61_2
                          try clear hfz61_3
                          try clear hfz6_0
                          try clear hfz6_1
                          try clear hfz6_2
                          try clear hfz6_3
                          try clear hfz77_0
                          try clear hfz77_1
                          try clear hfz77_2
                          try clear hfz77_3
                          try clear hfz86_0
                          try clear hfz86_1
                          try clear hfz86_2
                          try clear hfz86_3
                          try clear hfz89_0
                          try clear hfz89_1
                          try clear hfz89_2
                          try clear hfz89_3
                          try clear hfz96_0
                          try clear hfz96_1
                          try clear hfz96_2
                          try clear hfz96_3
                          try clear hfz99_0
                          try clear hfz99_1
                          try clear hfz99_2
                          try clear hfz99_3
                          try clear p2
                          obtain ⟨kq, x103_110, rfl, HA, HJ110, HO_10, HO_247002, HO_247003, HO_256002, HO_256003, HO_268002, HO_268003, HO_311002, HO_311003, BK225, BK246, BK255, BK267, BK310, HB⟩ := hcut
                          have hl10_110 := (Kd.R_reads' HO_10.out).1
                          rw [hl10_110] at HO_10
                          (try simp only [hl10_110])
                          (try simp only [hl10_110] at BK225)
                          (try simp only [hl10_110] at BK246)
                          (try simp only [hl10_110] at BK255)
                          (try simp only [hl10_110] at BK267)
                          (try simp only [hl10_110] at BK310)
                          (try simp only [hl10_110] at HO_247002)
                          (try simp only [hl10_110] at HO_247003)
                          (try simp only [hl10_110] at HO_256002)
                          (try simp only [hl10_110] at HO_256003)
                          (try simp only [hl10_110] at HO_268002)
                          (try simp only [hl10_110] at HO_268003)
                          (try simp only [hl10_110] at HO_311002)
                          (try simp only [hl10_110] at HO_311003)
                          have hl268002_110 := (Kd.R_reads' HO_268002.out).1
                          rw [hl268002_110] at HO_268002
                          (try simp only [hl268002_110])
                          (try simp only [hl268002_110] at BK225)
                          (try simp only [hl268002_110] at BK246)
                          (try simp only [hl268002_110] at BK255)
                          (try simp only [hl268002_110] at BK267)
                          (try simp only [hl268002_110] at BK310)
                          (try simp only [hl268002_110] at HO_10)
                          (try simp only [hl268002_110] at HO_247002)
                          (try simp only [hl268002_110] at HO_247003)
                          (try simp only [hl268002_110] at HO_256002)
                          (try simp only [hl268002_110] at HO_256003)
                          (try simp only [hl268002_110] at HO_268003)
                          (try simp only [hl268002_110] at HO_311002)
                          (try simp only [hl268002_110] at HO_311003)
                          have hl268003_110 := (Kd.R_reads' HO_268003.out).1
                          rw [hl268003_110] at HO_268003
                          (try simp only [hl268003_110])
                          (try simp only [hl268003_110] at BK225)
                          (try simp only [hl268003_110] at BK246)
                          (try simp only [hl268003_110] at BK255)
                          (try simp only [hl268003_110] at BK267)
                          (try simp only [hl268003_110] at BK310)
                          (try simp only [hl268003_110] at HO_10)
                          (try simp only [hl268003_110] at HO_247002)
                          (try simp only [hl268003_110] at HO_247003)
                          (try simp only [hl268003_110] at HO_256002)
                          (try simp only [hl268003_110] at HO_256003)
                          (try simp only [hl268003_110] at HO_268002)
                          (try simp only [hl268003_110] at HO_311002)
                          (try simp only [hl268003_110] at HO_311003)
                          cases kq with
                          | zero => exact absurd HA.out (by simp [laws_FnExactEarRead.j2])
                          | succ kj110 =>
                            have H := HA.out
                            clear HA
                            simp only [laws_FnExactEarRead.j2] at H
                            by_cases c161 : x103_110 = true
                            · subst c161
                              have H1 : (some false) = some r := by rw [if_pos rfl] at H; exact H
                              clear H
                              have H := H1
                              clear H1
                              exact absurd (Option.some.inj H) (by rw [HLW.out]; exact Bool.false_ne_true)
                            · replace c161 := Bool.eq_false_iff.mpr c161
                              subst c161
                              have H1 : ((laws_heldEar.f kj110 t256 t257 t285 t286 1).bind fun t313 => (if t313 < 0 then (some false) else ((laws_heldByteS.f kj110 t288 t313).bind fun t314 => (if t314 < 0 then (some false) else (if t314 = t287 then (some true) else (some false)))))) = some r := by rw [if_neg (show ¬ (false = true) by decide)] at H; exact H
                              clear H
                              have H := H1
                              clear H1
                              replace H := Option.bind_eq_some_iff.mp H
                              obtain ⟨t313, A1620, H⟩ := H
                              replace H : (if t313 < 0 then (some false) else ((laws_heldByteS.f kj110 t288 t313).bind fun t314 => (if t314 < 0 then (some false) else (if t314 = t287 then (some true) else (some false))))) = some r := H
                              have A162 := Aside0.mk A1620
                              clear A1620
                              by_cases c163 : t313 < 0
                              · rw [if_pos c163] at H
                                have c163b0 : decide (t313 < 0) = true := decide_eq_true c163
                                clear c163
                                exact absurd (Option.some.inj H) (by rw [HLW.out]; exact Bool.false_ne_true)
                              · rw [if_neg c163] at H
                                have c163b0 : decide (t313 < 0) = false := decide_eq_false c163
                                clear c163
                                replace H := Option.bind_eq_some_iff.mp H
                                obtain ⟨t314, A1640, H⟩ := H
                                replace H : (if t314 < 0 then (some false) else (if t314 = t287 then (some true) else (some false))) = some r := H
                                have A164 := Aside0.mk A1640
                                clear A1640
                                by_cases c165 : t314 < 0
                                · rw [if_pos c165] at H
                                  have c165b0 : decide (t314 < 0) = true := decide_eq_true c165
                                  clear c165
                                  exact absurd (Option.some.inj H) (by rw [HLW.out]; exact Bool.false_ne_true)
                                · rw [if_neg c165] at H
                                  have c165b0 : decide (t314 < 0) = false := decide_eq_false c165
                                  clear c165
                                  by_cases c166 : t314 = t287
                                  · rw [if_pos c166] at H
                                    have c166b0 : (t314 == t287) = true := beq_iff_eq.mpr c166
                                    have c166b1 : (t314 != t287) = false := bne_eq_false_iff_eq.mpr c166
                                    clear c166
                                    obtain rfl := Option.some.inj H
                                    have hnb167 := NB267_225.out
                                    have hnc167 := NB225_267.out
                                    have hnb168 := NB267_246.out
                                    have hnc168 := NB246_267.out
                                    have hnb169 := NB267_255.out
                                    have hnc169 := NB255_267.out
                                    have hnb170 := NB267_310.out
                                    have hnc170 := NB310_267.out
                                    have hcz171_0 : wc.cell? ⟨gb267, 0, none⟩ = some (.int .i64 t256) := (blk_cell BK267.out 0).trans rfl
                                    have hcz171_1 : wc.cell? ⟨gb267, 1, none⟩ = some (.int .i64 t257) := (blk_cell BK267.out 1).trans rfl
                                    have hcz171_2 : wc.cell? ⟨gb267, 2, none⟩ = some (.slice Ao40 t285.length co40) := (blk_cell BK267.out 2).trans rfl
                                    have hcz171_3 : wc.cell? ⟨gb267, 3, none⟩ = some (.slice Ao41 t286.length co41) := (blk_cell BK267.out 3).trans rfl
                                    have hfz171_0 := blk_frozen BK267.out 0
                                    have hfz171_1 := blk_frozen BK267.out 1
                                    have hfz171_2 := blk_frozen BK267.out 2
                                    have hfz171_3 := blk_frozen BK267.out 3
                                    go_wp2_with (first | ((with_reducible refine gate_callee (f := 25) rfl ?_); refine goesL_ (some 106) rfl rfl Try.func25 (by kernel_rfl) rfl #[.agg #[.int .i64 t256, .int .i64 t257, .slice Ao40 t285.length co40, .slice Ao41 t286.length co41], .int .i64 1] rfl ar_ ?_; (with_reducible refine (laws_heldEar.calls kj110 t256 t257 _ _ t285 _ _ t286 1 t313 _ ?side1 ?side2 ?side3 ?side4 A162.out).mono ?_); (case side1 => exact kC_ (Kd.R_reads' HO_268002.out).2.2); (case side2 => exact (Kd.R_reads' HO_268002.out).2.1); (case side3 => exact kC_ (Kd.R_reads' HO_268003.out).2.2); (case side4 => exact (Kd.R_reads' HO_268003.out).2.1); rintro e w172 ⟨rfl, hb⟩; refine ⟨_, rfl, ?_⟩; have n0_ := Aside0.mk (Kd.R_below (kR_ HO_10.out) hb); have n1_ := Aside0.mk (Kd.R_below (kR_ HO_247002.out) hb); have n2_ := Aside0.mk (Kd.R_below (kR_ HO_247003.out) hb); have n3_ := Aside0.mk (Kd.R_below (kR_ HO_256002.out) hb); have n4_ := Aside0.mk (Kd.R_below (kR_ HO_256003.out) hb); have n5_ := Aside0.mk (Kd.R_below (kR_ HO_268002.out) hb); have n6_ := Aside0.mk (Kd.R_below (kR_ HO_268003.out) hb); have n7_ := Aside0.mk (Kd.R_below (kR_ HO_311002.out) hb); have n8_ := Aside0.mk (Kd.R_below (kR_ HO_311003.out) hb); have n9_ := Aside0.mk (blk_below (g := gb225) (o := .cells #[.int .i64 a0_0, .int .i64 a0_1, .slice A0_2 l0_2.length c0_2, .slice A0_3 l0_3.length c0_3] 39 (0, 0)) (kb_ BK225.out) hb); have n10_ := Aside0.mk (blk_below (g := gb246) (o := .cells #[.int .i64 t235, .int .i64 t236, .slice Ao24 t237.length co24, .slice Ao25 t240.length co25] 25 (0, 0)) (kb_ BK246.out) hb); have n11_ := Aside0.mk (blk_below (g := gb255) (o := .cells #[.int .i64 t247, .int .i64 t248, .slice Ao32 t280.length co32, .slice Ao33 t281.length co33] 25 (0, 0)) (kb_ BK255.out) hb); have n12_ := Aside0.mk (blk_below (g := gb267) (o := .cells #[.int .i64 t256, .int .i64 t257, .slice Ao40 t285.length co40, .slice Ao41 t286.length co41] 25 (0, 0)) (kb_ BK267.out) hb); have n13_ := Aside0.mk (blk_below (g := gb310) (o := .cells #[.int .i64 t299, .int .i64 t300, .slice Ao134 t301.length co134, .slice Ao135 t304.length co135] 25 (0, 0)) (kb_ BK310.out) hb); have n14_ := Aside0.mk (below_step (by repeat (first | (with_reducible first | exact HB.out | apply below_alloc | apply pw_below_drewN | apply below_drew1 | refine below_set ?_ GE225.out | refine below_set ?_ GE246.out | refine below_set ?_ GE255.out | refine below_set ?_ GE267.out | refine below_set ?_ GE310.out) | exact HB.out)) hb); clear HO_10; clear HO_247002; clear HO_247003; clear HO_256002; clear HO_256003; clear HO_268002; clear HO_268003; clear HO_311002; clear HO_311003; clear BK225; clear BK246; clear BK255; clear BK267; clear BK310; clear HB; have HO_10 := n0_; have HO_247002 := n1_; have HO_247003 := n2_; have HO_256002 := n3_; have HO_256003 := n4_; have HO_268002 := n5_; have HO_268003 := n6_; have HO_311002 := n7_; have HO_311003 := n8_; have BK225 := n9_; have BK246 := n10_; have BK255 := n11_; have BK267 := n12_; have BK310 := n13_; have HB := n14_; clear n0_ n1_ n2_ n3_ n4_ n5_ n6_ n7_ n8_ n9_ n10_ n11_ n12_ n13_ n14_; (try clear hb); (try clear hb2); (try clear hk); (try clear hi)) | ((with_reducible refine gate_callee (f := 26) rfl ?_); refine goesL_ (some 111) rfl rfl Try.func26 (by kernel_rfl) rfl #[.slice Ao117 t288.length co117, .int .i64 t313] rfl ar_ ?_; (with_reducible refine (laws_heldByteS.calls kj110 _ _ t288 t313 t314 _ ?side1 ?side2 A164.out).mono ?_); (case side1 => exact kC_ (Kd.R_reads' HO_10.out).2.2); (case side2 => exact (Kd.R_reads' HO_10.out).2.1); rintro e w' ⟨rfl, ⟨nd, rfl⟩⟩; refine ⟨_, rfl, ?_⟩))
                                    go_ret
                                    exact ⟨by first | rfl | (simp [errW_none, errW_some] <;> rfl) | (simp [*, errW_none, errW_some] <;> rfl), by repeat (first | (with_reducible first | exact HB.out | apply below_alloc | apply pw_below_drewN | apply below_drew1 | refine below_set ?_ GE225.out | refine below_set ?_ GE246.out | refine below_set ?_ GE255.out | refine below_set ?_ GE267.out | refine below_set ?_ GE310.out) | exact HB.out)⟩
                                  · rw [if_neg c166] at H
                                    have c166b0 : (t314 == t287) = false := beq_eq_false_iff_ne.mpr c166
                                    have c166b1 : (t314 != t287) = true := bne_iff_ne.mpr c166
                                    exact absurd (Option.some.inj H) (by rw [HLW.out]; exact Bool.false_ne_true)
                      · rw [if_neg c108] at H
                        have c108b0 : (t290 == t287) = false := beq_eq_false_iff_ne.mpr c108
                        have c108b1 : (t290 != t287) = true := bne_iff_ne.mpr c108
                        exact absurd (Option.some.inj H) (by rw [HLW.out]; exact Bool.false_ne_true)
          · replace c66 := Bool.eq_false_iff.mpr c66
            subst c66
            have H1 : (some false) = some r := by rw [if_neg (show ¬ (false = true) by decide)] at H; exact H
            clear H
            have H := H1
            clear H1
            exact absurd (Option.some.inj H) (by rw [HLW.out]; exact Bool.false_ne_true)

def laws_FnExactEarRead.Pure : Prop := ∀ (a0_0 : Int) (a0_1 : Int) (l0_2 : List Int) (l0_3 : List (S97)) (a1 : Int), ((Lit.int .i64 a0_0).wf = true) → ((Lit.int .i64 a0_1).wf = true) → (l0_2.length ≤ maxLen ∧ ∀ y0_ ∈ l0_2, (Lit.int .u8 y0_).wf = true) → (l0_3.length ≤ maxLen ∧ ∀ y0_ ∈ l0_3, ((Lit.int .i64 y0_.f0).wf = true) ∧ ((Lit.int .u8 y0_.f1).wf = true)) → ((Lit.int .i64 a1).wf = true) → ∃ k, laws_FnExactEarRead.f k a0_0 a0_1 l0_2 l0_3 a1 = some true

end Go.Proofs.Ytjiodkbbmhhccaa.PFnExactEarRead
