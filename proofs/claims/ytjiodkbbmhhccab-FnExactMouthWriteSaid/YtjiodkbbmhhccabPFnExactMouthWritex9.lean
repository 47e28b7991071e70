/- Printed by wip/xp/xprint.sh out of the translation, for this claim: what each function answers, as a plain function, and that the machine does just that. No condition. -/
import Derived.Test.YtjiodkbbmhhccabPFnExactMouthWritex0
import Derived.Test.YtjiodkbbmhhccabPFnExactMouthWritex4
import Derived.Test.YtjiodkbbmhhccabPFnExactMouthWritex6
import Derived.Test.YtjiodkbbmhhccabPFnExactMouthWritex7
import Derived.Test.YtjiodkbbmhhccabPFnExactMouthWritex8
namespace Go.Proofs.Ytjiodkbbmhhccab.PFnExactMouthWrite
open Go.RowKit Go.Proofs.YtjiodkbbmhhccabW.PrintWords Go.Proofs.YtjiodkbbmhhccabW.PrintLast Go.Proofs.YtjiodkbbmhhccabW.PrintMore
attribute [local go_sem] max2_int min2_int max_two min_two max_three min_three max_four min_four   -- for this text's walks alone
set_option linter.unusedVariables false
set_option linter.unusedSimpArgs false

/-! ### laws_FnExactMouthWrite: function 5 -/
mutual
def laws_FnExactMouthWrite.j0 : Nat → List Int → Int → List Int → Int → Bool → Int → List Int → Int → Int → List (S64) → Int → List Int → Int → Int → List (S60) → Int → List Int → Int → Int → List (S60) → Int → List Int → Int → Int → List (S60) → Option (Bool)
  | 0, _, _, _, _, _, _, _, _, _, _, _, _, _, _, _, _, _, _, _, _, _, _, _, _, _ => none
  | k + 1, x1, x7, x9, x11, x51, x251000, x251001, x251002, x251003, x251004, x275000, x275001, x275002, x275003, x275004, x285000, x285001, x285002, x285003, x285004, x299000, x299001, x299002, x299003, x299004 => if x51 = true then (some false) else ((laws_toMouth.f k x251000 x251001 x251002 x251003 x251004).bind fun bt300 => ((laws_eqMouth.f k x285000 x285001 x285002 x285003 x285004 bt300.1 bt300.2.1 bt300.2.2.1 bt300.2.2.2.1 bt300.2.2.2.2).bind fun t309 => (if t309 = true then ((laws_toByteS.f k x1).bind fun t310 => ((laws_eqByteS.f k x9 t310).bind fun t313 => (if t313 = true then ((laws_markMouth.f k x285000 x285001 x285002 x285003 x285004 1).bind fun bt314 => ((laws_markByteS.f k x9 bt314.1).bind fun bt317 => (if bt317.1 < 0 then (laws_FnExactMouthWrite.j1 k x1 x7 true x251000 x251001 x251002 x251003 x251004 x275000 x275001 x275002 x275003 x275004 x299000 x299001 x299002 x299003 x299004) else ((laws_eqMouth.f k x299000 x299001 x299002 x299003 x299004 x275000 x275001 x275002 x275003 x275004).bind fun t319 => (if t319 = true then (laws_FnExactMouthWrite.j1 k x1 x7 (x11 != x7) x251000 x251001 x251002 x251003 x251004 x275000 x275001 x275002 x275003 x275004 x299000 x299001 x299002 x299003 x299004) else (laws_FnExactMouthWrite.j1 k x1 x7 true x251000 x251001 x251002 x251003 x251004 x275000 x275001 x275002 x275003 x275004 x299000 x299001 x299002 x299003 x299004)))))) else (some false)))) else (some false))))
def laws_FnExactMouthWrite.j1 : Nat → List Int → Int → Bool → Int → List Int → Int → Int → List (S64) → Int → List Int → Int → Int → List (S60) → Int → List Int → Int → Int → List (S60) → Option (Bool)
  | 0, _, _, _, _, _, _, _, _, _, _, _, _, _, _, _, _, _, _ => none
  | k + 1, x1, x7, x80, x251000, x251001, x251002, x251003, x251004, x275000, x275001, x275002, x275003, x275004, x299000, x299001, x299002, x299003, x299004 => if x80 = true then (some false) else ((laws_markMouth.f k x299000 x299001 x299002 x299003 x299004 1).bind fun bt320 => ((laws_heldMouth.f k x299000 bt320.2.1 x299002 x299003 bt320.2.2 1).bind fun t323 => (if t323 < 0 then (some false) else (if t323 = bt320.1 then ((laws_toMouth.f k x251000 x251001 x251002 x251003 x251004).bind fun bt324 => ((laws_toByteS.f k x1).bind fun t333 => ((impl_MouthWrite.f k bt324.1 bt324.2.1 bt324.2.2.1 bt324.2.2.2.1 bt324.2.2.2.2 t333).bind fun bt336 => ((laws_eqMouth.f k bt336.1 bt336.2.1 bt336.2.2.1 bt336.2.2.2.1 bt336.2.2.2.2.1 x275000 x275001 x275002 x275003 x275004).bind fun t347 => (if t347 = true then (laws_FnExactMouthWrite.j2 k bt320.1 (bt336.2.2.2.2.2 != x7) x299000 bt320.2.1 x299002 x299003 bt320.2.2) else (laws_FnExactMouthWrite.j2 k bt320.1 true x299000 bt320.2.1 x299002 x299003 bt320.2.2)))))) else (some false)))))
def laws_FnExactMouthWrite.j2 : Nat → Int → Bool → Int → List Int → Int → Int → List (S60) → Option (Bool)
  | 0, _, _, _, _, _, _, _ => none
  | k + 1, x13, x108, x299000, x299001, x299002, x299003, x299004 => if x108 = true then (some false) else ((laws_heldMouth.f k x299000 x299001 x299002 x299003 x299004 1).bind fun t348 => (if t348 < 0 then (some false) else (if t348 = x13 then (some true) else (some false))))
end
def laws_FnExactMouthWrite.f (k : Nat) (a0_0 : Int) (l0_1 : List Int) (a0_2 : Int) (a0_3 : Int) (l0_4 : List (S64)) (l1 : List Int) : Option (Bool) := if (l1.length : Int) > 1048576 then (some true) else ((laws_szMouth.f a0_0 l0_1 a0_2 a0_3 l0_4 1048576).bind fun t251 => (if t251 < 0 then (some true) else ((laws_toMouth.f k a0_0 l0_1 a0_2 a0_3 l0_4).bind fun bt252 => ((laws_toByteS.f k l1).bind fun t261 => ((spec_MouthWrite.f k bt252.1 bt252.2.1 bt252.2.2.1 bt252.2.2.2.1 bt252.2.2.2.2 t261).bind fun bt264 => ((laws_toMouth.f k a0_0 l0_1 a0_2 a0_3 l0_4).bind fun bt275 => ((laws_toByteS.f k l1).bind fun t285 => ((impl_MouthWrite.f k bt275.1 bt275.2.1 bt275.2.2.1 bt275.2.2.2.1 bt275.2.2.2.2 t285).bind fun bt288 => ((laws_eqMouth.f k bt288.1 bt288.2.1 bt288.2.2.1 bt288.2.2.2.1 bt288.2.2.2.2.1 bt264.1 bt264.2.1 bt264.2.2.1 bt264.2.2.2.1 bt264.2.2.2.2.1).bind fun t299 => (if t299 = true then (laws_FnExactMouthWrite.j0 k l1 bt264.2.2.2.2.2 t285 bt288.2.2.2.2.2 (bt288.2.2.2.2.2 != bt264.2.2.2.2.2) a0_0 l0_1 a0_2 a0_3 l0_4 bt264.1 bt264.2.1 bt264.2.2.1 bt264.2.2.2.1 bt264.2.2.2.2.1 bt275.1 bt275.2.1 bt275.2.2.1 bt275.2.2.2.1 bt275.2.2.2.2 bt288.1 bt288.2.1 bt288.2.2.1 bt288.2.2.2.1 bt288.2.2.2.2.1) else (laws_FnExactMouthWrite.j0 k l1 bt264.2.2.2.2.2 t285 bt288.2.2.2.2.2 true a0_0 l0_1 a0_2 a0_3 l0_4 bt264.1 bt264.2.1 bt264.2.2.1 bt264.2.2.2.1 bt264.2.2.2.2.1 bt275.1 bt275.2.1 bt275.2.2.1 bt275.2.2.2.1 bt275.2.2.2.2 bt288.1 bt288.2.1 bt288.2.2.1 bt288.2.2.2.1 bt288.2.2.2.2.1)))))))))))
theorem laws_FnExactMouthWrite.mono_l : ∀ k, (∀ y0 y1 y2 y3 y4 y5 y6 y7 y8 y9 y10 y11 y12 y13 y14 y15 y16 y17 y18 y19 y20 y21 y22 y23 y24, LeO (laws_FnExactMouthWrite.j0 k y0 y1 y2 y3 y4 y5 y6 y7 y8 y9 y10 y11 y12 y13 y14 y15 y16 y17 y18 y19 y20 y21 y22 y23 y24) (laws_FnExactMouthWrite.j0 (k + 1) y0 y1 y2 y3 y4 y5 y6 y7 y8 y9 y10 y11 y12 y13 y14 y15 y16 y17 y18 y19 y20 y21 y22 y23 y24)) ∧ (∀ y0 y1 y2 y3 y4 y5 y6 y7 y8 y9 y10 y11 y12 y13 y14 y15 y16 y17, LeO (laws_FnExactMouthWrite.j1 k y0 y1 y2 y3 y4 y5 y6 y7 y8 y9 y10 y11 y12 y13 y14 y15 y16 y17) (laws_FnExactMouthWrite.j1 (k + 1) y0 y1 y2 y3 y4 y5 y6 y7 y8 y9 y10 y11 y12 y13 y14 y15 y16 y17)) ∧ (∀ y0 y1 y2 y3 y4 y5 y6, LeO (laws_FnExactMouthWrite.j2 k y0 y1 y2 y3 y4 y5 y6) (laws_FnExactMouthWrite.j2 (k + 1) y0 y1 y2 y3 y4 y5 y6))
  | 0 => ⟨fun _ _ _ _ _ _ _ _ _ _ _ _ _ _ _ _ _ _ _ _ _ _ _ _ _ r h => by simp [laws_FnExactMouthWrite.j0] at h, fun _ _ _ _ _ _ _ _ _ _ _ _ _ _ _ _ _ _ r h => by simp [laws_FnExactMouthWrite.j1] at h, fun _ _ _ _ _ _ _ r h => by simp [laws_FnExactMouthWrite.j2] at h⟩
  | k + 1 => by
    obtain ⟨ih0, ih1, ih2⟩ := laws_FnExactMouthWrite.mono_l k
    refine ⟨?_, ?_, ?_⟩
    · intro y0 y1 y2 y3 y4 y5 y6 y7 y8 y9 y10 y11 y12 y13 y14 y15 y16 y17 y18 y19 y20 y21 y22 y23 y24
      unfold laws_FnExactMouthWrite.j0
      repeat' first
      | (with_reducible exact ih0 _ _ _ _ _ _ _ _ _ _ _ _ _ _ _ _ _ _ _ _ _ _ _ _ _)
      | (with_reducible exact ih1 _ _ _ _ _ _ _ _ _ _ _ _ _ _ _ _ _ _)
      | (with_reducible exact ih2 _ _ _ _ _ _ _)
      | (with_reducible exact impl_MouthWrite.mono _ _ _ _ _ _ _)
      | (with_reducible exact laws_eqByteS.mono _ _ _)
      | (with_reducible exact laws_eqMouth.mono _ _ _ _ _ _ _ _ _ _ _)
      | (with_reducible exact laws_heldMouth.mono _ _ _ _ _ _ _)
      | (with_reducible exact laws_markByteS.mono _ _ _)
      | (with_reducible exact laws_markMouth.mono _ _ _ _ _ _ _)
      | (with_reducible exact laws_toByteS.mono _ _)
      | (with_reducible exact laws_toMouth.mono _ _ _ _ _ _)
      | (with_reducible exact spec_MouthWrite.mono _ _ _ _ _ _ _)
      | (with_reducible exact LeO.refl _)
      | (with_reducible exact LeO.none _)
      | (with_reducible refine LeO.ite ?_ ?_)
      | (with_reducible refine LeO.bind ?_ (fun _ => ?_))
      | exact ih0 _ _ _ _ _ _ _ _ _ _ _ _ _ _ _ _ _ _ _ _ _ _ _ _ _
      | exact ih1 _ _ _ _ _ _ _ _ _ _ _ _ _ _ _ _ _ _
      | exact ih2 _ _ _ _ _ _ _
      | exact impl_MouthWrite.mono _ _ _ _ _ _ _
      | exact laws_eqByteS.mono _ _ _
      | exact laws_eqMouth.mono _ _ _ _ _ _ _ _ _ _ _
      | exact laws_heldMouth.mono _ _ _ _ _ _ _
      | exact laws_markByteS.mono _ _ _
      | exact laws_markMouth.mono _ _ _ _ _ _ _
      | exact laws_toByteS.mono _ _
      | exact laws_toMouth.mono _ _ _ _ _ _
      | exact spec_MouthWrite.mono _ _ _ _ _ _ _
      | exact LeO.none _
      | refine LeO.ite ?_ ?_
      | refine LeO.bind ?_ (fun _ => ?_)
    · intro y0 y1 y2 y3 y4 y5 y6 y7 y8 y9 y10 y11 y12 y13 y14 y15 y16 y17
      unfold laws_FnExactMouthWrite.j1
      repeat' first
      | (with_reducible exact ih0 _ _ _ _ _ _ _ _ _ _ _ _ _ _ _ _ _ _ _ _ _ _ _ _ _)
      | (with_reducible exact ih1 _ _ _ _ _ _ _ _ _ _ _ _ _ _ _ _ _ _)
      | (with_reducible exact ih2 _ _ _ _ _ _ _)
      | (with_reducible exact impl_MouthWrite.mono _ _ _ _ _ _ _)
      | (with_reducible exact laws_eqByteS.mono _ _ _)
      | (with_reducible exact laws_eqMouth.mono _ _ _ _ _ _ _ _ _ _ _)
      | (with_reducible exact laws_heldMouth.mono _ _ _ _ _ _ _)
      | (with_reducible exact laws_markByteS.mono _ _ _)
      | (with_reducible exact laws_markMouth.mono _ _ _ _ _ _ _)
      | (with_reducible exact laws_toByteS.mono _ _)
      | (with_reducible exact laws_toMouth.mono _ _ _ _ _ _)
      | (with_reducible exact spec_MouthWrite.mono _ _ _ _ _ _ _)
      | (with_reducible exact LeO.refl _)
      | (with_reducible exact LeO.none _)
      | (with_reducible refine LeO.ite ?_ ?_)
      | (with_reducible refine LeO.bind ?_ (fun _ => ?_))
      | exact ih0 _ _ _ _ _ _ _ _ _ _ _ _ _ _ _ _ _ _ _ _ _ _ _ _ _
      | exact ih1 _ _ _ _ _ _ _ _ _ _ _ _ _ _ _ _ _ _
      | exact ih2 _ _ _ _ _ _ _
      | exact impl_MouthWrite.mono _ _ _ _ _ _ _
      | exact laws_eqByteS.mono _ _ _
      | exact laws_eqMouth.mono _ _ _ _ _ _ _ _ _ _ _
      | exact laws_heldMouth.mono _ _ _ _ _ _ _
      | exact laws_markByteS.mono _ _ _
      | exact laws_markMouth.mono _ _ _ _ _ _ _
      | exact laws_toByteS.mono _ _
      | exact laws_toMouth.mono _ _ _ _ _ _
      | exact spec_MouthWrite.mono _ _ _ _ _ _ _
      | exact LeO.none _
      | refine LeO.ite ?_ ?_
      | refine LeO.bind ?_ (fun _ => ?_)
    · intro y0 y1 y2 y3 y4 y5 y6
      unfold laws_FnExactMouthWrite.j2
      repeat' first
      | (with_reducible exact ih0 _ _ _ _ _ _ _ _ _ _ _ _ _ _ _ _ _ _ _ _ _ _ _ _ _)
      | (with_reducible exact ih1 _ _ _ _ _ _ _ _ _ _ _ _ _ _ _ _ _ _)
      | (with_reducible exact ih2 _ _ _ _ _ _ _)
      | (with_reducible exact impl_MouthWrite.mono _ _ _ _ _ _ _)
      | (with_reducible exact laws_eqByteS.mono _ _ _)
      | (with_reducible exact laws_eqMouth.mono _ _ _ _ _ _ _ _ _ _ _)
      | (with_reducible exact laws_heldMouth.mono _ _ _ _ _ _ _)
      | (with_reducible exact laws_markByteS.mono _ _ _)
      | (with_reducible exact laws_markMouth.mono _ _ _ _ _ _ _)
      | (with_reducible exact laws_toByteS.mono _ _)
      | (with_reducible exact laws_toMouth.mono _ _ _ _ _ _)
      | (with_reducible exact spec_MouthWrite.mono _ _ _ _ _ _ _)
      | (with_reducible exact LeO.refl _)
      | (with_reducible exact LeO.none _)
      | (with_reducible refine LeO.ite ?_ ?_)
      | (with_reducible refine LeO.bind ?_ (fun _ => ?_))
      | exact ih0 _ _ _ _ _ _ _ _ _ _ _ _ _ _ _ _ _ _ _ _ _ _ _ _ _
      | exact ih1 _ _ _ _ _ _ _ _ _ _ _ _ _ _ _ _ _ _
      | exact ih2 _ _ _ _ _ _ _
      | exact impl_MouthWrite.mono _ _ _ _ _ _ _
      | exact laws_eqByteS.mono _ _ _
      | exact laws_eqMouth.mono _ _ _ _ _ _ _ _ _ _ _
      | exact laws_heldMouth.mono _ _ _ _ _ _ _
      | exact laws_markByteS.mono _ _ _
      | exact laws_markMouth.mono _ _ _ _ _ _ _
      | exact laws_toByteS.mono _ _
      | exact laws_toMouth.mono _ _ _ _ _ _
      | exact spec_MouthWrite.mono _ _ _ _ _ _ _
      | exact LeO.none _
      | refine LeO.ite ?_ ?_
      | refine LeO.bind ?_ (fun _ => ?_)
theorem laws_FnExactMouthWrite.mono : ∀ a0 a1 a2 a3 a4 a5 k, LeO (laws_FnExactMouthWrite.f k a0 a1 a2 a3 a4 a5) (laws_FnExactMouthWrite.f (k + 1) a0 a1 a2 a3 a4 a5) := by
  intro a0 a1 a2 a3 a4 a5 k
  obtain ⟨ih0, ih1, ih2⟩ := laws_FnExactMouthWrite.mono_l k
  unfold laws_FnExactMouthWrite.f
  repeat' first
      | (with_reducible exact ih0 _ _ _ _ _ _ _ _ _ _ _ _ _ _ _ _ _ _ _ _ _ _ _ _ _)
      | (with_reducible exact ih1 _ _ _ _ _ _ _ _ _ _ _ _ _ _ _ _ _ _)
      | (with_reducible exact ih2 _ _ _ _ _ _ _)
      | (with_reducible exact impl_MouthWrite.mono _ _ _ _ _ _ _)
      | (with_reducible exact laws_eqByteS.mono _ _ _)
      | (with_reducible exact laws_eqMouth.mono _ _ _ _ _ _ _ _ _ _ _)
      | (with_reducible exact laws_heldMouth.mono _ _ _ _ _ _ _)
      | (with_reducible exact laws_markByteS.mono _ _ _)
      | (with_reducible exact laws_markMouth.mono _ _ _ _ _ _ _)
      | (with_reducible exact laws_toByteS.mono _ _)
      | (with_reducible exact laws_toMouth.mono _ _ _ _ _ _)
      | (with_reducible exact spec_MouthWrite.mono _ _ _ _ _ _ _)
      | (with_reducible exact LeO.refl _)
      | (with_reducible exact LeO.none _)
      | (with_reducible refine LeO.ite ?_ ?_)
      | (with_reducible refine LeO.bind ?_ (fun _ => ?_))
      | exact ih0 _ _ _ _ _ _ _ _ _ _ _ _ _ _ _ _ _ _ _ _ _ _ _ _ _
      | exact ih1 _ _ _ _ _ _ _ _ _ _ _ _ _ _ _ _ _ _
      | exact ih2 _ _ _ _ _ _ _
      | exact impl_MouthWrite.mono _ _ _ _ _ _ _
      | exact laws_eqByteS.mono _ _ _
      | exact laws_eqMouth.mono _ _ _ _ _ _ _ _ _ _ _
      | exact laws_heldMouth.mono _ _ _ _ _ _ _
      | exact laws_markByteS.mono _ _ _
      | exact laws_markMouth.mono _ _ _ _ _ _ _
      | exact laws_toByteS.mono _ _
      | exact laws_toMouth.mono _ _ _ _ _ _
      | exact spec_MouthWrite.mono _ _ _ _ _ _ _
      | exact LeO.none _
      | refine LeO.ite ?_ ?_
      | refine LeO.bind ?_ (fun _ => ?_)
set_option maxHeartbeats 8000000 in
set_option maxRecDepth 100000 in
theorem laws_FnExactMouthWrite.calls (k : Nat) (a0_0 : Int) (A0_1 : Option Addr) (c0_1 : Nat) (l0_1 : List Int) (a0_2 : Int) (a0_3 : Int) (A0_4 : Option Addr) (c0_4 : Nat) (l0_4 : List (S64)) (A1 : Option Addr) (c1 : Nat) (l1 : List Int) (r : Bool) (w : World) (hr0_1 : Kd.C (Kd.int .u8) w A0_1 l0_1.length l0_1) (hc0_1 : l0_1.length ≤ c0_1) (hr0_4 : Kd.C k64 w A0_4 l0_4.length l0_4) (hc0_4 : l0_4.length ≤ c0_4) (hr1 : Kd.C (Kd.int .u8) w A1 l1.length l1) (hc1 : l1.length ≤ c1) (h : laws_FnExactMouthWrite.f k a0_0 l0_1 a0_2 a0_3 l0_4 l1 = some r) (hlw : r = true) :
    Calls Try.prog 5 #[.agg #[.int .i64 a0_0, .slice A0_1 l0_1.length c0_1, .int .i64 a0_2, .int .i64 a0_3, .slice A0_4 l0_4.length c0_4], .slice A1 l1.length c1] w fun e w' => e = .returned (.bool r) ∧ Below w.heap.size w w' := by
  have hu37 := Try.underlying37
  have hu25 := Try.underlying25
  have HLW := Aside0.mk hlw
  clear hlw
  have HR0_1 := Aside0.mk hr0_1
  have HC0_1 := Aside0.mk hc0_1
  clear hr0_1 hc0_1
  have HR0_4 := Aside0.mk hr0_4
  have HC0_4 := Aside0.mk hc0_4
  clear hr0_4 hc0_4
  have HR1 := Aside0.mk hr1
  have HC1 := Aside0.mk hc1
  clear hr1 hc1
  have HB := Aside0.mk (Below.refl w.heap.size w)
  have H : (if (l1.length : Int) > 1048576 then (some true) else ((laws_szMouth.f a0_0 l0_1 a0_2 a0_3 l0_4 1048576).bind fun t251 => (if t251 < 0 then (some true) else ((laws_toMouth.f k a0_0 l0_1 a0_2 a0_3 l0_4).bind fun bt252 => ((laws_toByteS.f k l1).bind fun t261 => ((spec_MouthWrite.f k bt252.1 bt252.2.1 bt252.2.2.1 bt252.2.2.2.1 bt252.2.2.2.2 t261).bind fun bt264 => ((laws_toMouth.f k a0_0 l0_1 a0_2 a0_3 l0_4).bind fun bt275 => ((laws_toByteS.f k l1).bind fun t285 => ((impl_MouthWrite.f k bt275.1 bt275.2.1 bt275.2.2.1 bt275.2.2.2.1 bt275.2.2.2.2 t285).bind fun bt288 => ((laws_eqMouth.f k bt288.1 bt288.2.1 bt288.2.2.1 bt288.2.2.2.1 bt288.2.2.2.2.1 bt264.1 bt264.2.1 bt264.2.2.1 bt264.2.2.2.1 bt264.2.2.2.2.1).bind fun t299 => (if t299 = true then (laws_FnExactMouthWrite.j0 k l1 bt264.2.2.2.2.2 t285 bt288.2.2.2.2.2 (bt288.2.2.2.2.2 != bt264.2.2.2.2.2) a0_0 l0_1 a0_2 a0_3 l0_4 bt264.1 bt264.2.1 bt264.2.2.1 bt264.2.2.2.1 bt264.2.2.2.2.1 bt275.1 bt275.2.1 bt275.2.2.1 bt275.2.2.2.1 bt275.2.2.2.2 bt288.1 bt288.2.1 bt288.2.2.1 bt288.2.2.2.1 bt288.2.2.2.2.1) else (laws_FnExactMouthWrite.j0 k l1 bt264.2.2.2.2.2 t285 bt288.2.2.2.2.2 true a0_0 l0_1 a0_2 a0_3 l0_4 bt264.1 bt264.2.1 bt264.2.2.1 bt264.2.2.2.1 bt264.2.2.2.2.1 bt275.1 bt275.2.1 bt275.2.2.1 bt275.2.2.2.1 bt275.2.2.2.2 bt288.1 bt288.2.1 bt288.2.2.1 bt288.2.2.2.1 bt288.2.2.2.2.1)))))))))))) = some r := h
  clear h
  by_cases c3 : (l1.length : Int) > 1048576
  · rw [if_pos c3] at H
    have c3b0 : decide (1048576 < (l1.length : Int)) = true := decide_eq_true c3
    have c3b1 : decide (1048576 < l1.length) = true := decide_eq_true (by omega)
    clear c3
    obtain rfl := Option.some.inj H
    go_enter Try.func5, Try.ntmps5
    go_wp2_with (first | ((with_reducible refine gate_dst (N := 2) rfl ?_); refine box_event ?hg (N := 2) ?hd (cs := #[.int .i64 a0_0, .slice A0_1 l0_1.length c0_1, .int .i64 a0_2, .int .i64 a0_3, .slice A0_4 l0_4.length c0_4]) (t := 37) ?hr ?_; (case hd => rfl); (case hg => rfl); (case hr => first | (go_simp; done) | (go_simp; rfl)); intro gb250 hg w4 hbox hb; have n0_ := Aside0.mk (below_step (hb0_ HB.out) hb); have n1_ := Aside0.mk (hbox); have n2_ := Aside0.mk ((by rw [hg]; exact (below_size (hb0_ HB.out)) : w.heap.size ≤ gb250)); have n3_ := Aside0.mk ((by rw [hg]; exact (below_size (hb0_ HB.out)) : w.heap.size ≤ gb250)); clear HB; have HB := n0_; have BK250 := n1_; have GW250 := n2_; have GE250 := n3_; clear n0_ n1_ n2_ n3_; clear hb hbox hg))
    go_ret
    exact ⟨by first | rfl | (simp [errW_none, errW_some] <;> rfl) | (simp [*, errW_none, errW_some] <;> rfl), by repeat (first | (with_reducible first | exact HB.out | apply below_alloc | apply pw_below_drewN | apply below_drew1 | refine below_set ?_ GE250.out) | exact HB.out)⟩
  · rw [if_neg c3] at H
    have c3b0 : decide (1048576 < (l1.length : Int)) = false := decide_eq_false c3
    have c3b1 : decide (1048576 < l1.length) = false := decide_eq_false (by omega)
    clear c3
    replace H := Option.bind_eq_some_iff.mp H
    obtain ⟨t251, A50, H⟩ := H
    replace H : (if t251 < 0 then (some true) else ((laws_toMouth.f k a0_0 l0_1 a0_2 a0_3 l0_4).bind fun bt252 => ((laws_toByteS.f k l1).bind fun t261 => ((spec_MouthWrite.f k bt252.1 bt252.2.1 bt252.2.2.1 bt252.2.2.2.1 bt252.2.2.2.2 t261).bind fun bt264 => ((laws_toMouth.f k a0_0 l0_1 a0_2 a0_3 l0_4).bind fun bt275 => ((laws_toByteS.f k l1).bind fun t285 => ((impl_MouthWrite.f k bt275.1 bt275.2.1 bt275.2.2.1 bt275.2.2.2.1 bt275.2.2.2.2 t285).bind fun bt288 => ((laws_eqMouth.f k bt288.1 bt288.2.1 bt288.2.2.1 bt288.2.2.2.1 bt288.2.2.2.2.1 bt264.1 bt264.2.1 bt264.2.2.1 bt264.2.2.2.1 bt264.2.2.2.2.1).bind fun t299 => (if t299 = true then (laws_FnExactMouthWrite.j0 k l1 bt264.2.2.2.2.2 t285 bt288.2.2.2.2.2 (bt288.2.2.2.2.2 != bt264.2.2.2.2.2) a0_0 l0_1 a0_2 a0_3 l0_4 bt264.1 bt264.2.1 bt264.2.2.1 bt264.2.2.2.1 bt264.2.2.2.2.1 bt275.1 bt275.2.1 bt275.2.2.1 bt275.2.2.2.1 bt275.2.2.2.2 bt288.1 bt288.2.1 bt288.2.2.1 bt288.2.2.2.1 bt288.2.2.2.2.1) else (laws_FnExactMouthWrite.j0 k l1 bt264.2.2.2.2.2 t285 bt288.2.2.2.2.2 true a0_0 l0_1 a0_2 a0_3 l0_4 bt264.1 bt264.2.1 bt264.2.2.1 bt264.2.2.2.1 bt264.2.2.2.2.1 bt275.1 bt275.2.1 bt275.2.2.1 bt275.2.2.2.1 bt275.2.2.2.2 bt288.1 bt288.2.1 bt288.2.2.1 bt288.2.2.2.1 bt288.2.2.2.2.1)))))))))) = some r := H
    have A5 := Aside0.mk A50
    clear A50
    by_cases c6 : t251 < 0
    · rw [if_pos c6] at H
      have c6b0 : decide (t251 < 0) = true := decide_eq_true c6
      clear c6
      obtain rfl := Option.some.inj H
      go_enter Try.func5, Try.ntmps5
      go_wp2_with (first | ((with_reducible refine gate_dst (N := 2) rfl ?_); refine box_event ?hg (N := 2) ?hd (cs := #[.int .i64 a0_0, .slice A0_1 l0_1.length c0_1, .int .i64 a0_2, .int .i64 a0_3, .slice A0_4 l0_4.length c0_4]) (t := 37) ?hr ?_; (case hd => rfl); (case hg => rfl); (case hr => first | (go_simp; done) | (go_simp; rfl)); intro gb250 hg w7 hbox hb; have n0_ := Aside0.mk (below_step (hb0_ HB.out) hb); have n1_ := Aside0.mk (hbox); have n2_ := Aside0.mk ((by rw [hg]; exact (below_size (hb0_ HB.out)) : w.heap.size ≤ gb250)); have n3_ := Aside0.mk ((by rw [hg]; exact (below_size (hb0_ HB.out)) : w.heap.size ≤ gb250)); clear HB; have HB := n0_; have BK250 := n1_; have GW250 := n2_; have GE250 := n3_; clear n0_ n1_ n2_ n3_; clear hb hbox hg; have hcz8_0 : w7.cell? ⟨gb250, 0, none⟩ = some (.int .i64 a0_0) := (blk_cell BK250.out 0).trans rfl; have hcz8_1 : w7.cell? ⟨gb250, 1, none⟩ = some (.slice A0_1 l0_1.length c0_1) := (blk_cell BK250.out 1).trans rfl; have hcz8_2 : w7.cell? ⟨gb250, 2, none⟩ = some (.int .i64 a0_2) := (blk_cell BK250.out 2).trans rfl; have hcz8_3 : w7.cell? ⟨gb250, 3, none⟩ = some (.int .i64 a0_3) := (blk_cell BK250.out 3).trans rfl; have hcz8_4 : w7.cell? ⟨gb250, 4, none⟩ = some (.slice A0_4 l0_4.length c0_4) := (blk_cell BK250.out 4).trans rfl; have hfz8_0 := blk_frozen BK250.out 0; have hfz8_1 := blk_frozen BK250.out 1; have hfz8_2 := blk_frozen BK250.out 2; have hfz8_3 := blk_frozen BK250.out 3; have hfz8_4 := blk_frozen BK250.out 4) | ((with_reducible refine gate_callee (f := 13) rfl ?_); refine goesL_ (some 22) rfl rfl Try.func13 (by kernel_rfl) rfl #[.agg #[.int .i64 a0_0, .slice A0_1 l0_1.length c0_1, .int .i64 a0_2, .int .i64 a0_3, .slice A0_4 l0_4.length c0_4], .int .i64 1048576] rfl ar_ ?_; (with_reducible refine (laws_szMouth.calls a0_0 _ _ l0_1 a0_2 a0_3 _ _ l0_4 1048576 t251 _ ?side1 ?side2 ?side3 ?side4 A5.out).mono ?_); (case side1 => exact kC_ (Kd.C_below HR0_1.out HB.out)); (case side2 => exact HC0_1.out); (case side3 => exact kC_ (Kd.C_below HR0_4.out HB.out)); (case side4 => exact HC0_4.out); rintro e w9 ⟨rfl, hb⟩; refine ⟨_, rfl, ?_⟩; have n0_ := Aside0.mk (blk_below (g := gb250) (o := .cells #[.int .i64 a0_0, .slice A0_1 l0_1.length c0_1, .int .i64 a0_2, .int .i64 a0_3, .slice A0_4 l0_4.length c0_4] 37 (0, 0)) (kb_ BK250.out) hb); have n1_ := Aside0.mk (below_step (hb1_ HB.out GE250.out) hb); clear BK250; clear HB; have BK250 := n0_; have HB := n1_; clear n0_ n1_; (try clear hb); (try clear hb2); (try clear hk); (try clear hi)))
      go_ret
      exact ⟨by first | rfl | (simp [errW_none, errW_some] <;> rfl) | (simp [*, errW_none, errW_some] <;> rfl), by repeat (first | (with_reducible first | exact HB.out | apply below_alloc | apply pw_below_drewN | apply below_drew1 | refine below_set ?_ GE250.out) | exact HB.out)⟩
    · rw [if_neg c6] at H
      have c6b0 : decide (t251 < 0) = false := decide_eq_false c6
      clear c6
      replace H := Option.bind_eq_some_iff.mp H
      obtain ⟨⟨t252, t253, t256, t257, t258⟩, A100, H⟩ := H
      replace H : ((laws_toByteS.f k l1).bind fun t261 => ((spec_MouthWrite.f k t252 t253 t256 t257 t258 t261).bind fun bt264 => ((laws_toMouth.f k a0_0 l0_1 a0_2 a0_3 l0_4).bind fun bt275 => ((laws_toByteS.f k l1).bind fun t285 => ((impl_MouthWrite.f k bt275.1 bt275.2.1 bt275.2.2.1 bt275.2.2.2.1 bt275.2.2.2.2 t285).bind fun bt288 => ((laws_eqMouth.f k bt288.1 bt288.2.1 bt288.2.2.1 bt288.2.2.2.1 bt288.2.2.2.2.1 bt264.1 bt264.2.1 bt264.2.2.1 bt264.2.2.2.1 bt264.2.2.2.2.1).bind fun t299 => (if t299 = true then (laws_FnExactMouthWrite.j0 k l1 bt264.2.2.2.2.2 t285 bt288.2.2.2.2.2 (bt288.2.2.2.2.2 != bt264.2.2.2.2.2) a0_0 l0_1 a0_2 a0_3 l0_4 bt264.1 bt264.2.1 bt264.2.2.1 bt264.2.2.2.1 bt264.2.2.2.2.1 bt275.1 bt275.2.1 bt275.2.2.1 bt275.2.2.2.1 bt275.2.2.2.2 bt288.1 bt288.2.1 bt288.2.2.1 bt288.2.2.2.1 bt288.2.2.2.2.1) else (laws_FnExactMouthWrite.j0 k l1 bt264.2.2.2.2.2 t285 bt288.2.2.2.2.2 true a0_0 l0_1 a0_2 a0_3 l0_4 bt264.1 bt264.2.1 bt264.2.2.1 bt264.2.2.2.1 bt264.2.2.2.2.1 bt275.1 bt275.2.1 bt275.2.2.1 bt275.2.2.2.1 bt275.2.2.2.2 bt288.1 bt288.2.1 bt288.2.2.1 bt288.2.2.2.1 bt288.2.2.2.2.1)))))))) = some r := H
      have A10 := Aside0.mk A100
      clear A100
      replace H := Option.bind_eq_some_iff.mp H
      obtain ⟨t261, A110, H⟩ := H
      replace H : ((spec_MouthWrite.f k t252 t253 t256 t257 t258 t261).bind fun bt264 => ((laws_toMouth.f k a0_0 l0_1 a0_2 a0_3 l0_4).bind fun bt275 => ((laws_toByteS.f k l1).bind fun t285 => ((impl_MouthWrite.f k bt275.1 bt275.2.1 bt275.2.2.1 bt275.2.2.2.1 bt275.2.2.2.2 t285).bind fun bt288 => ((laws_eqMouth.f k bt288.1 bt288.2.1 bt288.2.2.1 bt288.2.2.2.1 bt288.2.2.2.2.1 bt264.1 bt264.2.1 bt264.2.2.1 bt264.2.2.2.1 bt264.2.2.2.2.1).bind fun t299 => (if t299 = true then (laws_FnExactMouthWrite.j0 k l1 bt264.2.2.2.2.2 t285 bt288.2.2.2.2.2 (bt288.2.2.2.2.2 != bt264.2.2.2.2.2) a0_0 l0_1 a0_2 a0_3 l0_4 bt264.1 bt264.2.1 bt264.2.2.1 bt264.2.2.2.1 bt264.2.2.2.2.1 bt275.1 bt275.2.1 bt275.2.2.1 bt275.2.2.2.1 bt275.2.2.2.2 bt288.1 bt288.2.1 bt288.2.2.1 bt288.2.2.2.1 bt288.2.2.2.2.1) else (laws_FnExactMouthWrite.j0 k l1 bt264.2.2.2.2.2 t285 bt288.2.2.2.2.2 true a0_0 l0_1 a0_2 a0_3 l0_4 bt264.1 bt264.2.1 bt264.2.2.1 bt264.2.2.2.1 bt264.2.2.2.2.1 bt275.1 bt275.2.1 bt275.2.2.1 bt275.2.2.2.1 bt275.2.2.2.2 bt288.1 bt288.2.1 bt288.2.2.1 bt288.2.2.2.1 bt288.2.2.2.2.1))))))) = some r := H
      have A11 := Aside0.mk A110
      clear A110
      replace H := Option.bind_eq_some_iff.mp H
      obtain ⟨⟨t264, t265, t268, t269, t270, t273⟩, A120, H⟩ := H
      replace H : ((laws_toMouth.f k a0_0 l0_1 a0_2 a0_3 l0_4).bind fun bt275 => ((laws_toByteS.f k l1).bind fun t285 => ((impl_MouthWrite.f k bt275.1 bt275.2.1 bt275.2.2.1 bt275.2.2.2.1 bt275.2.2.2.2 t285).bind fun bt288 => ((laws_eqMouth.f k bt288.1 bt288.2.1 bt288.2.2.1 bt288.2.2.2.1 bt288.2.2.2.2.1 t264 t265 t268 t269 t270).bind fun t299 => (if t299 = true then (laws_FnExactMouthWrite.j0 k l1 t273 t285 bt288.2.2.2.2.2 (bt288.2.2.2.2.2 != t273) a0_0 l0_1 a0_2 a0_3 l0_4 t264 t265 t268 t269 t270 bt275.1 bt275.2.1 bt275.2.2.1 bt275.2.2.2.1 bt275.2.2.2.2 bt288.1 bt288.2.1 bt288.2.2.1 bt288.2.2.2.1 bt288.2.2.2.2.1) else (laws_FnExactMouthWrite.j0 k l1 t273 t285 bt288.2.2.2.2.2 true a0_0 l0_1 a0_2 a0_3 l0_4 t264 t265 t268 t269 t270 bt275.1 bt275.2.1 bt275.2.2.1 bt275.2.2.2.1 bt275.2.2.2.2 bt288.1 bt288.2.1 bt288.2.2.1 bt288.2.2.2.1 bt288.2.2.2.2.1)))))) = some r := H
      have A12 := Aside0.mk A120
      clear A120
      replace H := Option.bind_eq_some_iff.mp H
      obtain ⟨⟨t275, t276, t279, t280, t281⟩, A130, H⟩ := H
      replace H : ((laws_toByteS.f k l1).bind fun t285 => ((impl_MouthWrite.f k t275 t276 t279 t280 t281 t285).bind fun bt288 => ((laws_eqMouth.f k bt288.1 bt288.2.1 bt288.2.2.1 bt288.2.2.2.1 bt288.2.2.2.2.1 t264 t265 t268 t269 t270).bind fun t299 => (if t299 = true then (laws_FnExactMouthWrite.j0 k l1 t273 t285 bt288.2.2.2.2.2 (bt288.2.2.2.2.2 != t273) a0_0 l0_1 a0_2 a0_3 l0_4 t264 t265 t268 t269 t270 t275 t276 t279 t280 t281 bt288.1 bt288.2.1 bt288.2.2.1 bt288.2.2.2.1 bt288.2.2.2.2.1) else (laws_FnExactMouthWrite.j0 k l1 t273 t285 bt288.2.2.2.2.2 true a0_0 l0_1 a0_2 a0_3 l0_4 t264 t265 t268 t269 t270 t275 t276 t279 t280 t281 bt288.1 bt288.2.1 bt288.2.2.1 bt288.2.2.2.1 bt288.2.2.2.2.1))))) = some r := H
      have A13 := Aside0.mk A130
      clear A130
      replace H := Option.bind_eq_some_iff.mp H
      obtain ⟨t285, A140, H⟩ := H
      replace H : ((impl_MouthWrite.f k t275 t276 t279 t280 t281 t285).bind fun bt288 => ((laws_eqMouth.f k bt288.1 bt288.2.1 bt288.2.2.1 bt288.2.2.2.1 bt288.2.2.2.2.1 t264 t265 t268 t269 t270).bind fun t299 => (if t299 = true then (laws_FnExactMouthWrite.j0 k l1 t273 t285 bt288.2.2.2.2.2 (bt288.2.2.2.2.2 != t273) a0_0 l0_1 a0_2 a0_3 l0_4 t264 t265 t268 t269 t270 t275 t276 t279 t280 t281 bt288.1 bt288.2.1 bt288.2.2.1 bt288.2.2.2.1 bt288.2.2.2.2.1) else (laws_FnExactMouthWrite.j0 k l1 t273 t285 bt288.2.2.2.2.2 true a0_0 l0_1 a0_2 a0_3 l0_4 t264 t265 t268 t269 t270 t275 t276 t279 t280 t281 bt288.1 bt288.2.1 bt288.2.2.1 bt288.2.2.2.1 bt288.2.2.2.2.1)))) = some r := H
      have A14 := Aside0.mk A140
      clear A140
      replace H := Option.bind_eq_some_iff.mp H
      obtain ⟨⟨t288, t289, t292, t293, t294, t297⟩, A150, H⟩ := H
      replace H : ((laws_eqMouth.f k t288 t289 t292 t293 t294 t264 t265 t268 t269 t270).bind fun t299 => (if t299 = true then (laws_FnExactMouthWrite.j0 k l1 t273 t285 t297 (t297 != t273) a0_0 l0_1 a0_2 a0_3 l0_4 t264 t265 t268 t269 t270 t275 t276 t279 t280 t281 t288 t289 t292 t293 t294) else (laws_FnExactMouthWrite.j0 k l1 t273 t285 t297 true a0_0 l0_1 a0_2 a0_3 l0_4 t264 t265 t268 t269 t270 t275 t276 t279 t280 t281 t288 t289 t292 t293 t294))) = some r := H
      have A15 := Aside0.mk A150
      clear A150
      have HC16 := Aside0.mk H
      clear H
      go_enter Try.func5, Try.ntmps5
      go_upto_region 11 with (first | ((with_reducible refine gate_dst (N := 2) rfl ?_); refine box_event ?hg (N := 2) ?hd (cs := #[.int .i64 a0_0, .slice A0_1 l0_1.length c0_1, .int .i64 a0_2, .int .i64 a0_3, .slice A0_4 l0_4.length c0_4]) (t := 37) ?hr ?_; (case hd => rfl); (case hg => rfl); (case hr => first | (go_simp; done) | (go_simp; rfl)); intro gb250 hg w17 hbox hb; have n0_ := Aside0.mk (below_step (hb0_ HB.out) hb); have n1_ := Aside0.mk (hbox); have n2_ := Aside0.mk ((by rw [hg]; exact (below_size (hb0_ HB.out)) : w.heap.size ≤ gb250)); have n3_ := Aside0.mk ((by rw [hg]; exact (below_size (hb0_ HB.out)) : w.heap.size ≤ gb250)); clear HB; have HB := n0_; have BK250 := n1_; have GW250 := n2_; have GE250 := n3_; clear n0_ n1_ n2_ n3_; clear hb hbox hg; have hcz18_0 : w17.cell? ⟨gb250, 0, none⟩ = some (.int .i64 a0_0) := (blk_cell BK250.out 0).trans rfl; have hcz18_1 : w17.cell? ⟨gb250, 1, none⟩ = some (.slice A0_1 l0_1.length c0_1) := (blk_cell BK250.out 1).trans rfl; have hcz18_2 : w17.cell? ⟨gb250, 2, none⟩ = some (.int .i64 a0_2) := (blk_cell BK250.out 2).trans rfl; have hcz18_3 : w17.cell? ⟨gb250, 3, none⟩ = some (.int .i64 a0_3) := (blk_cell BK250.out 3).trans rfl; have hcz18_4 : w17.cell? ⟨gb250, 4, none⟩ = some (.slice A0_4 l0_4.length c0_4) := (blk_cell BK250.out 4).trans rfl; have hfz18_0 := blk_frozen BK250.out 0; have hfz18_1 := blk_frozen BK250.out 1; have hfz18_2 := blk_frozen BK250.out 2; have hfz18_3 := blk_frozen BK250.out 3; have hfz18_4 := blk_frozen BK250.out 4) | ((with_reducible refine gate_callee (f := 13) rfl ?_); refine goesL_ (some 22) rfl rfl Try.func13 (by kernel_rfl) rfl #[.agg #[.int .i64 a0_0, .slice A0_1 l0_1.length c0_1, .int .i64 a0_2, .int .i64 a0_3, .slice A0_4 l0_4.length c0_4], .int .i64 1048576] rfl ar_ ?_; (with_reducible refine (laws_szMouth.calls a0_0 _ _ l0_1 a0_2 a0_3 _ _ l0_4 1048576 t251 _ ?side1 ?side2 ?side3 ?side4 A5.out).mono ?_); (case side1 => exact kC_ (Kd.C_below HR0_1.out HB.out)); (case side2 => exact HC0_1.out); (case side3 => exact kC_ (Kd.C_below HR0_4.out HB.out)); (case side4 => exact HC0_4.out); rintro e w19 ⟨rfl, hb⟩; refine ⟨_, rfl, ?_⟩; have n0_ := Aside0.mk (blk_below (g := gb250) (o := .cells #[.int .i64 a0_0, .slice A0_1 l0_1.length c0_1, .int .i64 a0_2, .int .i64 a0_3, .slice A0_4 l0_4.length c0_4] 37 (0, 0)) (kb_ BK250.out) hb); have n1_ := Aside0.mk (below_step (hb1_ HB.out GE250.out) hb); clear BK250; clear HB; have BK250 := n0_; have HB := n1_; clear n0_ n1_; (try clear hb); (try clear hb2); (try clear hk); (try clear hi); have hcz20_0 : w19.cell? ⟨gb250, 0, none⟩ = some (.int .i64 a0_0) := (blk_cell BK250.out 0).trans rfl; have hcz20_1 : w19.cell? ⟨gb250, 1, none⟩ = some (.slice A0_1 l0_1.length c0_1) := (blk_cell BK250.out 1).trans rfl; have hcz20_2 : w19.cell? ⟨gb250, 2, none⟩ = some (.int .i64 a0_2) := (blk_cell BK250.out 2).trans rfl; have hcz20_3 : w19.cell? ⟨gb250, 3, none⟩ = some (.int .i64 a0_3) := (blk_cell BK250.out 3).trans rfl; have hcz20_4 : w19.cell? ⟨gb250, 4, none⟩ = some (.slice A0_4 l0_4.length c0_4) := (blk_cell BK250.out 4).trans rfl; have hfz20_0 := blk_frozen BK250.out 0; have hfz20_1 := blk_frozen BK250.out 1; have hfz20_2 := blk_frozen BK250.out 2; have hfz20_3 := blk_frozen BK250.out 3; have hfz20_4 := blk_frozen BK250.out 4) | ((with_reducible refine gate_callee (f := 16) rfl ?_); refine goesL_ (some 27) rfl rfl Try.func16 (by kernel_rfl) rfl #[.agg #[.int .i64 a0_0, .slice A0_1 l0_1.length c0_1, .int .i64 a0_2, .int .i64 a0_3, .slice A0_4 l0_4.length c0_4]] rfl ar_ ?_; (with_reducible refine (laws_toMouth.calls k a0_0 _ _ l0_1 a0_2 a0_3 _ _ l0_4 t252 t253 t256 t257 t258 _ ?side1 ?side2 ?side3 ?side4 A10.out).mono ?_); (case side1 => exact kC_ (Kd.C_below HR0_1.out HB.out)); (case side2 => exact HC0_1.out); (case side3 => exact kC_ (Kd.C_below HR0_4.out HB.out)); (case side4 => exact HC0_4.out); rintro e w21 ⟨v254, v259, rfl, ho0, ho1, hb⟩; refine ⟨_, rfl, ?_⟩; have n0_ := Aside0.mk (Kd.R_lower ho0 (below_size (hb1_ HB.out GE250.out))); have n1_ := Aside0.mk (Kd.R_lower ho1 (below_size (hb1_ HB.out GE250.out))); have n2_ := Aside0.mk (blk_below (g := gb250) (o := .cells #[.int .i64 a0_0, .slice A0_1 l0_1.length c0_1, .int .i64 a0_2, .int .i64 a0_3, .slice A0_4 l0_4.length c0_4] 37 (0, 0)) (kb_ BK250.out) hb); have n3_ := Aside0.mk (below_step (hb1_ HB.out GE250.out) hb); clear BK250; clear HB; have HO255 := n0_; have HO260 := n1_; have BK250 := n2_; have HB := n3_; clear n0_ n1_ n2_ n3_; (try clear hb); (try clear hb2); (try clear hk); (try clear hi); (try clear ho0); (try clear ho1)) | ((with_reducible refine gate_callee (f := 24) rfl ?_); refine goesL_ (some 29) rfl rfl Try.func24 (by kernel_rfl) rfl #[.slice A1 l1.length c1] rfl ar_ ?_; (with_reducible refine (laws_toByteS.calls k _ _ l1 t261 _ ?side1 ?side2 A11.out).mono ?_); (case side1 => exact kC_ (Kd.C_below HR1.out HB.out)); (case side2 => exact HC1.out); rintro e w22 ⟨v262, rfl, ho0, hb⟩; refine ⟨_, rfl, ?_⟩; have n0_ := Aside0.mk (Kd.R_elder' (kR_ HO255.out) (Kd.R_base ho0) hb); have n1_ := Aside0.mk (Kd.R_below (kR_ HO260.out) hb); have n2_ := Aside0.mk (Kd.R_lower (Kd.R_new' ho0 (Kd.R_lt (kR_ HO255.out))) (below_size (hb1_ HB.out GE250.out))); have n3_ := Aside0.mk (blk_below (g := gb250) (o := .cells #[.int .i64 a0_0, .slice A0_1 l0_1.length c0_1, .int .i64 a0_2, .int .i64 a0_3, .slice A0_4 l0_4.length c0_4] 37 (0, 0)) (kb_ BK250.out) hb); have n4_ := Aside0.mk (below_step (hb1_ HB.out GE250.out) hb); clear HO255; clear HO260; clear BK250; clear HB; have HO255 := n0_; have HO260 := n1_; have HO263 := n2_; have BK250 := n3_; have HB := n4_; clear n0_ n1_ n2_ n3_ n4_; (try clear hb); (try clear hb2); (try clear hk); (try clear hi); (try clear ho0); obtain ⟨Ao23, co23, eo23⟩ := Kd.R_slice HO255.out; subst eo23; obtain ⟨Ao24, co24, eo24⟩ := Kd.R_slice HO260.out; subst eo24; obtain ⟨Ao25, co25, eo25⟩ := Kd.R_slice HO263.out; subst eo25) | ((with_reducible refine gate_callee (f := 8) rfl ?_); refine goesL_ (some 30) rfl rfl Try.func8 (by kernel_rfl) rfl #[.agg #[.int .i64 t252, .slice Ao23 t253.length co23, .int .i64 t256, .int .i64 t257, .slice Ao24 t258.length co24], .slice Ao25 t261.length co25] rfl ar_ ?_; (with_reducible refine (spec_MouthWrite.calls k t252 _ _ t253 t256 t257 _ _ t258 _ _ t261 t264 t265 t268 t269 t270 t273 _ ?side1 ?side2 ?side3 ?side4 ?side5 ?side6 A12.out).mono ?_); (case side1 => exact kC_ (Kd.R_reads' HO255.out).2.2); (case side2 => exact (Kd.R_reads' HO255.out).2.1); (case side3 => exact kC_ (Kd.R_reads' HO260.out).2.2); (case side4 => exact (Kd.R_reads' HO260.out).2.1); (case side5 => exact kC_ (Kd.R_reads' HO263.out).2.2); (case side6 => exact (Kd.R_reads' HO263.out).2.1); rintro e w26 ⟨v266, v271, rfl, ho0, ho1, hb⟩; refine ⟨_, rfl, ?_⟩; have n0_ := Aside0.mk (Kd.R_elder' (kR_ HO255.out) (Kd.R_base ho0) hb); have n1_ := Aside0.mk (Kd.R_elder' (kR_ HO260.out) (Kd.R_base ho1) hb); have n2_ := Aside0.mk (Kd.R_elder' (kR_ HO263.out) (Kd.R_base ho0) hb); have n3_ := Aside0.mk (Kd.R_lower (Kd.R_new' (Kd.R_new' ho0 (Kd.R_lt (kR_ HO255.out))) (Kd.R_lt (kR_ HO263.out))) (below_size (hb1_ HB.out GE250.out))); have n4_ := Aside0.mk (Kd.R_lower (Kd.R_new' ho1 (Kd.R_lt (kR_ HO260.out))) (below_size (hb1_ HB.out GE250.out))); have n5_ := Aside0.mk (blk_below (g := gb250) (o := .cells #[.int .i64 a0_0, .slice A0_1 l0_1.length c0_1, .int .i64 a0_2, .int .i64 a0_3, .slice A0_4 l0_4.length c0_4] 37 (0, 0)) (kb_ BK250.out) hb); have n6_ := Aside0.mk (below_step (hb1_ HB.out GE250.out) hb); clear HO255; clear HO260; clear HO263; clear BK250; clear HB; have HO255 := n0_; have HO260 := n1_; have HO263 := n2_; have HO267 := n3_; have HO272 := n4_; have BK250 := n5_; have HB := n6_; clear n0_ n1_ n2_ n3_ n4_ n5_ n6_; (try clear hb); (try clear hb2); (try clear hk); (try clear hi); (try clear ho0); (try clear ho1)) | ((with_reducible refine gate_dst (N := 6) rfl ?_); refine box_event ?hg (N := 6) ?hd (cs := #[.int .i64 0, .slice none 0 0, .int .i64 0, .int .i64 0, .slice none 0 0]) (t := 25) ?hr ?_; (case hd => rfl); (case hg => rfl); (case hr => first | (go_simp; done) | (go_simp; rfl)); intro gb274 hg w27 hbox hb; have n0_ := Aside0.mk (Kd.R_below (kR_ HO255.out) hb); have n1_ := Aside0.mk (Kd.R_below (kR_ HO260.out) hb); have n2_ := Aside0.mk (Kd.R_below (kR_ HO263.out) hb); have n3_ := Aside0.mk (Kd.R_below (kR_ HO267.out) hb); have n4_ := Aside0.mk (Kd.R_below (kR_ HO272.out) hb); have n5_ := Aside0.mk (blk_below (g := gb250) (o := .cells #[.int .i64 a0_0, .slice A0_1 l0_1.length c0_1, .int .i64 a0_2, .int .i64 a0_3, .slice A0_4 l0_4.length c0_4] 37 (0, 0)) (kb_ BK250.out) hb); have n6_ := Aside0.mk (below_step (hb1_ HB.out GE250.out) hb); have n7_ := Aside0.mk (hbox); have n8_ := Aside0.mk ((by rw [hg]; exact (below_size (hb1_ HB.out GE250.out)) : w.heap.size ≤ gb274)); have n9_ := Aside0.mk ((by rw [hg]; exact (below_size (hb1_ HB.out GE250.out)) : w.heap.size ≤ gb274)); have n10_ := Aside0.mk ((by rw [hg]; exact Nat.ne_of_lt (blk_lt (g := gb250) (o := .cells #[.int .i64 a0_0, .slice A0_1 l0_1.length c0_1, .int .i64 a0_2, .int .i64 a0_3, .slice A0_4 l0_4.length c0_4] 37 (0, 0)) (kb_ BK250.out)) : gb250 ≠ gb274)); have n11_ := Aside0.mk ((by rw [hg]; exact Nat.ne_of_gt (blk_lt (g := gb250) (o := .cells #[.int .i64 a0_0, .slice A0_1 l0_1.length c0_1, .int .i64 a0_2, .int .i64 a0_3, .slice A0_4 l0_4.length c0_4] 37 (0, 0)) (kb_ BK250.out)) : gb274 ≠ gb250)); clear HO255; clear HO260; clear HO263; clear HO267; clear HO272; clear BK250; clear HB; have HO255 := n0_; have HO260 := n1_; have HO263 := n2_; have HO267 := n3_; have HO272 := n4_; have BK250 := n5_; have HB := n6_; have BK274 := n7_; have GW274 := n8_; have GE274 := n9_; have NB250_274 := n10_; have NB274_250 := n11_; clear n0_ n1_ n2_ n3_ n4_ n5_ n6_ n7_ n8_ n9_ n10_ n11_; clear hb hbox hg; have hnb28 := NB274_250.out; have hnc28 := NB250_274.out; have hcz29_0 : w27.cell? ⟨gb274, 0, none⟩ = some (.int .i64 0) := (blk_cell BK274.out 0).trans rfl; have hcz29_1 : w27.cell? ⟨gb274, 1, none⟩ = some (.slice none 0 0) := (blk_cell BK274.out 1).trans rfl; have hcz29_2 : w27.cell? ⟨gb274, 2, none⟩ = some (.int .i64 0) := (blk_cell BK274.out 2).trans rfl; have hcz29_3 : w27.cell? ⟨gb274, 3, none⟩ = some (.int .i64 0) := (blk_cell BK274.out 3).trans rfl; have hcz29_4 : w27.cell? ⟨gb274, 4, none⟩ = some (.slice none 0 0) := (blk_cell BK274.out 4).trans rfl; have hfz29_0 := blk_frozen BK274.out 0; have hfz29_1 := blk_frozen BK274.out 1; have hfz29_2 := blk_frozen BK274.out 2; have hfz29_3 := blk_frozen BK274.out 3; have hfz29_4 := blk_frozen BK274.out 4; obtain ⟨Ao30, co30, eo30⟩ := Kd.R_slice HO267.out; subst eo30; obtain ⟨Ao31, co31, eo31⟩ := Kd.R_slice HO272.out; subst eo31; have hcz32_0 : w27.cell? ⟨gb250, 0, none⟩ = some (.int .i64 a0_0) := (blk_cell BK250.out 0).trans rfl; have hcz32_1 : w27.cell? ⟨gb250, 1, none⟩ = some (.slice A0_1 l0_1.length c0_1) := (blk_cell BK250.out 1).trans rfl; have hcz32_2 : w27.cell? ⟨gb250, 2, none⟩ = some (.int .i64 a0_2) := (blk_cell BK250.out 2).trans rfl; have hcz32_3 : w27.cell? ⟨gb250, 3, none⟩ = some (.int .i64 a0_3) := (blk_cell BK250.out 3).trans rfl; have hcz32_4 : w27.cell? ⟨gb250, 4, none⟩ = some (.slice A0_4 l0_4.length c0_4) := (blk_cell BK250.out 4).trans rfl; have hfz32_0 := blk_frozen BK250.out 0; have hfz32_1 := blk_frozen BK250.out 1; have hfz32_2 := blk_frozen BK250.out 2; have hfz32_3 := blk_frozen BK250.out 3; have hfz32_4 := blk_frozen BK250.out 4) | ((with_reducible refine gate_callee (f := 16) rfl ?_); refine goesL_ (some 34) rfl rfl Try.func16 (by kernel_rfl) rfl #[.agg #[.int .i64 a0_0, .slice A0_1 l0_1.length c0_1, .int .i64 a0_2, .int .i64 a0_3, .slice A0_4 l0_4.length c0_4]] rfl ar_ ?_; (with_reducible refine (laws_toMouth.calls k a0_0 _ _ l0_1 a0_2 a0_3 _ _ l0_4 t275 t276 t279 t280 t281 _ ?side1 ?side2 ?side3 ?side4 A13.out).mono ?_); (case side1 => exact Kd.C_below HR0_1.out (hb2_ HB.out GE250.out GE274.out)); (case side2 => exact HC0_1.out); (case side3 => exact Kd.C_below HR0_4.out (hb2_ HB.out GE250.out GE274.out)); (case side4 => exact HC0_4.out); rintro e w33 ⟨v277, v282, rfl, ho0, ho1, hb⟩; refine ⟨_, rfl, ?_⟩; have n0_ := Aside0.mk (Kd.R_elder' (by refine kR_ ?_; exact (Kd.R_mono (Kd.R_f gb274 4 (.slice Ao31 t270.length co31) (Kd.R_f gb274 3 (.int .i64 t269) (Kd.R_f gb274 2 (.int .i64 t268) (Kd.R_f gb274 1 (.slice Ao30 t265.length co30) (Kd.R_f gb274 0 (.int .i64 t264) (Kd.R_types HO255.out BK274.out (by decide))))))) (fun _ h_ => op1_ h_))) (Kd.R_base ho0) hb); have n1_ := Aside0.mk (Kd.R_elder' (by refine kR_ ?_; exact (Kd.R_mono (Kd.R_f gb274 4 (.slice Ao31 t270.length co31) (Kd.R_f gb274 3 (.int .i64 t269) (Kd.R_f gb274 2 (.int .i64 t268) (Kd.R_f gb274 1 (.slice Ao30 t265.length co30) (Kd.R_f gb274 0 (.int .i64 t264) (Kd.R_types HO260.out BK274.out (by decide))))))) (fun _ h_ => op1_ h_))) (Kd.R_base ho1) hb); have n2_ := Aside0.mk (Kd.R_elder' (by refine kR_ ?_; exact (Kd.R_mono (Kd.R_f gb274 4 (.slice Ao31 t270.length co31) (Kd.R_f gb274 3 (.int .i64 t269) (Kd.R_f gb274 2 (.int .i64 t268) (Kd.R_f gb274 1 (.slice Ao30 t265.length co30) (Kd.R_f gb274 0 (.int .i64 t264) (Kd.R_types HO263.out BK274.out (by decide))))))) (fun _ h_ => op1_ h_))) (Kd.R_base ho0) hb); have n3_ := Aside0.mk (Kd.R_elder' (by refine kR_ ?_; exact (Kd.R_mono (Kd.R_f gb274 4 (.slice Ao31 t270.length co31) (Kd.R_f gb274 3 (.int .i64 t269) (Kd.R_f gb274 2 (.int .i64 t268) (Kd.R_f gb274 1 (.slice Ao30 t265.length co30) (Kd.R_f gb274 0 (.int .i64 t264) (Kd.R_types HO267.out BK274.out (by decide))))))) (fun _ h_ => op1_ h_))) (Kd.R_base ho0) hb); have n4_ := Aside0.mk (Kd.R_elder' (by refine kR_ ?_; exact (Kd.R_mono (Kd.R_f gb274 4 (.slice Ao31 t270.length co31) (Kd.R_f gb274 3 (.int .i64 t269) (Kd.R_f gb274 2 (.int .i64 t268) (Kd.R_f gb274 1 (.slice Ao30 t265.length co30) (Kd.R_f gb274 0 (.int .i64 t264) (Kd.R_types HO272.out BK274.out (by decide))))))) (fun _ h_ => op1_ h_))) (Kd.R_base ho1) hb); have n5_ := Aside0.mk (Kd.R_lower (Kd.R_new' (Kd.R_new' (Kd.R_new' ho0 (Kd.R_lt (by refine kR_ ?_; exact (Kd.R_mono (Kd.R_f gb274 4 (.slice Ao31 t270.length co31) (Kd.R_f gb274 3 (.int .i64 t269) (Kd.R_f gb274 2 (.int .i64 t268) (Kd.R_f gb274 1 (.slice Ao30 t265.length co30) (Kd.R_f gb274 0 (.int .i64 t264) (Kd.R_types HO255.out BK274.out (by decide))))))) (fun _ h_ => op1_ h_))))) (Kd.R_lt (by refine kR_ ?_; exact (Kd.R_mono (Kd.R_f gb274 4 (.slice Ao31 t270.length co31) (Kd.R_f gb274 3 (.int .i64 t269) (Kd.R_f gb274 2 (.int .i64 t268) (Kd.R_f gb274 1 (.slice Ao30 t265.length co30) (Kd.R_f gb274 0 (.int .i64 t264) (Kd.R_types HO263.out BK274.out (by decide))))))) (fun _ h_ => op1_ h_))))) (Kd.R_lt (by refine kR_ ?_; exact (Kd.R_mono (Kd.R_f gb274 4 (.slice Ao31 t270.length co31) (Kd.R_f gb274 3 (.int .i64 t269) (Kd.R_f gb274 2 (.int .i64 t268) (Kd.R_f gb274 1 (.slice Ao30 t265.length co30) (Kd.R_f gb274 0 (.int .i64 t264) (Kd.R_types HO267.out BK274.out (by decide))))))) (fun _ h_ => op1_ h_))))) (below_size (hb2_ HB.out GE250.out GE274.out))); have n6_ := Aside0.mk (Kd.R_lower (Kd.R_new' (Kd.R_new' ho1 (Kd.R_lt (by refine kR_ ?_; exact (Kd.R_mono (Kd.R_f gb274 4 (.slice Ao31 t270.length co31) (Kd.R_f gb274 3 (.int .i64 t269) (Kd.R_f gb274 2 (.int .i64 t268) (Kd.R_f gb274 1 (.slice Ao30 t265.length co30) (Kd.R_f gb274 0 (.int .i64 t264) (Kd.R_types HO260.out BK274.out (by decide))))))) (fun _ h_ => op1_ h_))))) (Kd.R_lt (by refine kR_ ?_; exact (Kd.R_mono (Kd.R_f gb274 4 (.slice Ao31 t270.length co31) (Kd.R_f gb274 3 (.int .i64 t269) (Kd.R_f gb274 2 (.int .i64 t268) (Kd.R_f gb274 1 (.slice Ao30 t265.length co30) (Kd.R_f gb274 0 (.int .i64 t264) (Kd.R_types HO272.out BK274.out (by decide))))))) (fun _ h_ => op1_ h_))))) (below_size (hb2_ HB.out GE250.out GE274.out))); have n7_ := Aside0.mk (blk_below (g := gb250) (o := .cells #[.int .i64 a0_0, .slice A0_1 l0_1.length c0_1, .int .i64 a0_2, .int .i64 a0_3, .slice A0_4 l0_4.length c0_4] 37 (0, 0)) (by refine kb_ ?_; refine blk_far ?_ NB250_274.out _; refine kb_ ?_; refine blk_far ?_ NB250_274.out _; refine kb_ ?_; refine blk_far ?_ NB250_274.out _; refine kb_ ?_; refine blk_far ?_ NB250_274.out _; refine kb_ ?_; refine blk_far ?_ NB250_274.out _; refine kb_ ?_; exact BK250.out) hb); have n8_ := Aside0.mk (blk_below (g := gb274) (o := .cells #[.int .i64 t264, .slice Ao30 t265.length co30, .int .i64 t268, .int .i64 t269, .slice Ao31 t270.length co31] 25 (0, 0)) (by refine kb_ ?_; refine blk_put (cs := #[.int .i64 t264, .slice Ao30 t265.length co30, .int .i64 t268, .int .i64 t269, .slice none 0 0]) ?_ 4 _ rfl; refine kb_ ?_; refine blk_put (cs := #[.int .i64 t264, .slice Ao30 t265.length co30, .int .i64 t268, .int .i64 0, .slice none 0 0]) ?_ 3 _ rfl; refine kb_ ?_; refine blk_put (cs := #[.int .i64 t264, .slice Ao30 t265.length co30, .int .i64 0, .int .i64 0, .slice none 0 0]) ?_ 2 _ rfl; refine kb_ ?_; refine blk_put (cs := #[.int .i64 t264, .slice none 0 0, .int .i64 0, .int .i64 0, .slice none 0 0]) ?_ 1 _ rfl; refine kb_ ?_; refine blk_put (cs := #[.int .i64 0, .slice none 0 0, .int .i64 0, .int .i64 0, .slice none 0 0]) ?_ 0 _ rfl; refine kb_ ?_; exact BK274.out) hb); have n9_ := Aside0.mk (below_step (hb2_ HB.out GE250.out GE274.out) hb); clear HO255; clear HO260; clear HO263; clear HO267; clear HO272; clear BK250; clear BK274; clear HB; have HO255 := n0_; have HO260 := n1_; have HO263 := n2_; have HO267 := n3_; have HO272 := n4_; have HO278 := n5_; have HO283 := n6_; have BK250 := n7_; have BK274 := n8_; have HB := n9_; clear n0_ n1_ n2_ n3_ n4_ n5_ n6_ n7_ n8_ n9_; (try clear hb); (try clear hb2); (try clear hk); (try clear hi); (try clear ho0); (try clear ho1)) | ((with_reducible refine gate_dst (N := 8) rfl ?_); refine box_event ?hg (N := 8) ?hd (cs := #[.int .i64 0, .slice none 0 0, .int .i64 0, .int .i64 0, .slice none 0 0]) (t := 25) ?hr ?_; (case hd => rfl); (case hg => rfl); (case hr => first | (go_simp; done) | (go_simp; rfl)); intro gb284 hg w34 hbox hb; have n0_ := Aside0.mk (Kd.R_below (kR_ HO255.out) hb); have n1_ := Aside0.mk (Kd.R_below (kR_ HO260.out) hb); have n2_ := Aside0.mk (Kd.R_below (kR_ HO263.out) hb); have n3_ := Aside0.mk (Kd.R_below (kR_ HO267.out) hb); have n4_ := Aside0.mk (Kd.R_below (kR_ HO272.out) hb); have n5_ := Aside0.mk (Kd.R_below (kR_ HO278.out) hb); have n6_ := Aside0.mk (Kd.R_below (kR_ HO283.out) hb); have n7_ := Aside0.mk (blk_below (g := gb250) (o := .cells #[.int .i64 a0_0, .slice A0_1 l0_1.length c0_1, .int .i64 a0_2, .int .i64 a0_3, .slice A0_4 l0_4.length c0_4] 37 (0, 0)) (kb_ BK250.out) hb); have n8_ := Aside0.mk (blk_below (g := gb274) (o := .cells #[.int .i64 t264, .slice Ao30 t265.length co30, .int .i64 t268, .int .i64 t269, .slice Ao31 t270.length co31] 25 (0, 0)) (kb_ BK274.out) hb); have n9_ := Aside0.mk (below_step (hb2_ HB.out GE250.out GE274.out) hb); have n10_ := Aside0.mk (hbox); have n11_ := Aside0.mk ((by rw [hg]; exact (below_size (hb2_ HB.out GE250.out GE274.out)) : w.heap.size ≤ gb284)); have n12_ := Aside0.mk ((by rw [hg]; exact (below_size (hb2_ HB.out GE250.out GE274.out)) : w.heap.size ≤ gb284)); have n13_ := Aside0.mk ((by rw [hg]; exact Nat.ne_of_lt (blk_lt (g := gb250) (o := .cells #[.int .i64 a0_0, .slice A0_1 l0_1.length c0_1, .int .i64 a0_2, .int .i64 a0_3, .slice A0_4 l0_4.length c0_4] 37 (0, 0)) (kb_ BK250.out)) : gb250 ≠ gb284)); have n14_ := Aside0.mk ((by rw [hg]; exact Nat.ne_of_gt (blk_lt (g := gb250) (o := .cells #[.int .i64 a0_0, .slice A0_1 l0_1.length c0_1, .int .i64 a0_2, .int .i64 a0_3, .slice A0_4 l0_4.length c0_4] 37 (0, 0)) (kb_ BK250.out)) : gb284 ≠ gb250)); have n15_ := Aside0.mk ((by rw [hg]; exact Nat.ne_of_lt (blk_lt (g := gb274) (o := .cells #[.int .i64 t264, .slice Ao30 t265.length co30, .int .i64 t268, .int .i64 t269, .slice Ao31 t270.length co31] 25 (0, 0)) (kb_ BK274.out)) : gb274 ≠ gb284)); have n16_ := Aside0.mk ((by rw [hg]; exact Nat.ne_of_gt (blk_lt (g := gb274) (o := .cells #[.int .i64 t264, .slice Ao30 t265.length co30, .int .i64 t268, .int .i64 t269, .slice Ao31 t270.length co31] 25 (0, 0)) (kb_ BK274.out)) : gb284 ≠ gb274)); clear HO255; clear HO260; clear HO263; clear HO267; clear HO272; clear HO278; clear HO283; clear BK250; clear BK274; clear HB; have HO255 := n0_; have HO260 := n1_; have HO263 := n2_; have HO267 := n3_; have HO272 := n4_; have HO278 := n5_; have HO283 := n6_; have BK250 := n7_; have BK274 := n8_; have HB := n9_; have BK284 := n10_; have GW284 := n11_; have GE284 := n12_; have NB250_284 := n13_; have NB284_250 := n14_; have NB274_284 := n15_; have NB284_274 := n16_; clear n0_ n1_ n2_ n3_ n4_ n5_ n6_ n7_ n8_ n9_ n10_ n11_ n12_ n13_ n14_ n15_ n16_; clear hb hbox hg; have hnb35 := NB284_250.out; have hnc35 := NB250_284.out; have hnb36 := NB284_274.out; have hnc36 := NB274_284.out; have hcz37_0 : w34.cell? ⟨gb284, 0, none⟩ = some (.int .i64 0) := (blk_cell BK284.out 0).trans rfl; have hcz37_1 : w34.cell? ⟨gb284, 1, none⟩ = some (.slice none 0 0) := (blk_cell BK284.out 1).trans rfl; have hcz37_2 : w34.cell? ⟨gb284, 2, none⟩ = some (.int .i64 0) := (blk_cell BK284.out 2).trans rfl; have hcz37_3 : w34.cell? ⟨gb284, 3, none⟩ = some (.int .i64 0) := (blk_cell BK284.out 3).trans rfl; have hcz37_4 : w34.cell? ⟨gb284, 4, none⟩ = some (.slice none 0 0) := (blk_cell BK284.out 4).trans rfl; have hfz37_0 := blk_frozen BK284.out 0; have hfz37_1 := blk_frozen BK284.out 1; have hfz37_2 := blk_frozen BK284.out 2; have hfz37_3 := blk_frozen BK284.out 3; have hfz37_4 := blk_frozen BK284.out 4; obtain ⟨Ao38, co38, eo38⟩ := Kd.R_slice HO278.out; subst eo38; obtain ⟨Ao39, co39, eo39⟩ := Kd.R_slice HO283.out; subst eo39) | ((with_reducible refine gate_callee (f := 24) rfl ?_); refine goesL_ (some 36) rfl rfl Try.func24 (by kernel_rfl) rfl #[.slice A1 l1.length c1] rfl ar_ ?_; (with_reducible refine (laws_toByteS.calls k _ _ l1 t285 _ ?side1 ?side2 A14.out).mono ?_); (case side1 => exact Kd.C_below HR1.out (hb3_ HB.out GE250.out GE274.out GE284.out)); (case side2 => exact HC1.out); rintro e w40 ⟨v286, rfl, ho0, hb⟩; refine ⟨_, rfl, ?_⟩; have n0_ := Aside0.mk (Kd.R_elder' (by refine kR_ ?_; exact (Kd.R_mono (Kd.R_f gb284 4 (.slice Ao39 t281.length co39) (Kd.R_f gb284 3 (.int .i64 t280) (Kd.R_f gb284 2 (.int .i64 t279) (Kd.R_f gb284 1 (.slice Ao38 t276.length co38) (Kd.R_f gb284 0 (.int .i64 t275) (Kd.R_types HO255.out BK284.out (by decide))))))) (fun _ h_ => op1_ h_))) (Kd.R_base ho0) hb); have n1_ := Aside0.mk (Kd.R_below (by refine kR_ ?_; exact (Kd.R_mono (Kd.R_f gb284 4 (.slice Ao39 t281.length co39) (Kd.R_f gb284 3 (.int .i64 t280) (Kd.R_f gb284 2 (.int .i64 t279) (Kd.R_f gb284 1 (.slice Ao38 t276.length co38) (Kd.R_f gb284 0 (.int .i64 t275) (Kd.R_types HO260.out BK284.out (by decide))))))) (fun _ h_ => op1_ h_))) hb); have n2_ := Aside0.mk (Kd.R_elder' (by refine kR_ ?_; exact (Kd.R_mono (Kd.R_f gb284 4 (.slice Ao39 t281.length co39) (Kd.R_f gb284 3 (.int .i64 t280) (Kd.R_f gb284 2 (.int .i64 t279) (Kd.R_f gb284 1 (.slice Ao38 t276.length co38) (Kd.R_f gb284 0 (.int .i64 t275) (Kd.R_types HO263.out BK284.out (by decide))))))) (fun _ h_ => op1_ h_))) (Kd.R_base ho0) hb); have n3_ := Aside0.mk (Kd.R_elder' (by refine kR_ ?_; exact (Kd.R_mono (Kd.R_f gb284 4 (.slice Ao39 t281.length co39) (Kd.R_f gb284 3 (.int .i64 t280) (Kd.R_f gb284 2 (.int .i64 t279) (Kd.R_f gb284 1 (.slice Ao38 t276.length co38) (Kd.R_f gb284 0 (.int .i64 t275) (Kd.R_types HO267.out BK284.out (by decide))))))) (fun _ h_ => op1_ h_))) (Kd.R_base ho0) hb); have n4_ := Aside0.mk (Kd.R_below (by refine kR_ ?_; exact (Kd.R_mono (Kd.R_f gb284 4 (.slice Ao39 t281.length co39) (Kd.R_f gb284 3 (.int .i64 t280) (Kd.R_f gb284 2 (.int .i64 t279) (Kd.R_f gb284 1 (.slice Ao38 t276.length co38) (Kd.R_f gb284 0 (.int .i64 t275) (Kd.R_types HO272.out BK284.out (by decide))))))) (fun _ h_ => op1_ h_))) hb); have n5_ := Aside0.mk (Kd.R_elder' (by refine kR_ ?_; exact (Kd.R_mono (Kd.R_f gb284 4 (.slice Ao39 t281.length co39) (Kd.R_f gb284 3 (.int .i64 t280) (Kd.R_f gb284 2 (.int .i64 t279) (Kd.R_f gb284 1 (.slice Ao38 t276.length co38) (Kd.R_f gb284 0 (.int .i64 t275) (Kd.R_types HO278.out BK284.out (by decide))))))) (fun _ h_ => op1_ h_))) (Kd.R_base ho0) hb); have n6_ := Aside0.mk (Kd.R_below (by refine kR_ ?_; exact (Kd.R_mono (Kd.R_f gb284 4 (.slice Ao39 t281.length co39) (Kd.R_f gb284 3 (.int .i64 t280) (Kd.R_f gb284 2 (.int .i64 t279) (Kd.R_f gb284 1 (.slice Ao38 t276.length co38) (Kd.R_f gb284 0 (.int .i64 t275) (Kd.R_types HO283.out BK284.out (by decide))))))) (fun _ h_ => op1_ h_))) hb); have n7_ := Aside0.mk (Kd.R_lower (Kd.R_new' (Kd.R_new' (Kd.R_new' (Kd.R_new' ho0 (Kd.R_lt (by refine kR_ ?_; exact (Kd.R_mono (Kd.R_f gb284 4 (.slice Ao39 t281.length co39) (Kd.R_f gb284 3 (.int .i64 t280) (Kd.R_f gb284 2 (.int .i64 t279) (Kd.R_f gb284 1 (.slice Ao38 t276.length co38) (Kd.R_f gb284 0 (.int .i64 t275) (Kd.R_types HO255.out BK284.out (by decide))))))) (fun _ h_ => op1_ h_))))) (Kd.R_lt (by refine kR_ ?_; exact (Kd.R_mono (Kd.R_f gb284 4 (.slice Ao39 t281.length co39) (Kd.R_f gb284 3 (.int .i64 t280) (Kd.R_f gb284 2 (.int .i64 t279) (Kd.R_f gb284 1 (.slice Ao38 t276.length co38) (Kd.R_f gb284 0 (.int .i64 t275) (Kd.R_types HO263.out BK284.out (by decide))))))) (fun _ h_ => op1_ h_))))) (Kd.R_lt (by refine kR_ ?_; exact (Kd.R_mono (Kd.R_f gb284 4 (.slice Ao39 t281.length co39) (Kd.R_f gb284 3 (.int .i64 t280) (Kd.R_f gb284 2 (.int .i64 t279) (Kd.R_f gb284 1 (.slice Ao38 t276.length co38) (Kd.R_f gb284 0 (.int .i64 t275) (Kd.R_types HO267.out BK284.out (by decide))))))) (fun _ h_ => op1_ h_))))) (Kd.R_lt (by refine kR_ ?_; exact (Kd.R_mono (Kd.R_f gb284 4 (.slice Ao39 t281.length co39) (Kd.R_f gb284 3 (.int .i64 t280) (Kd.R_f gb284 2 (.int .i64 t279) (Kd.R_f gb284 1 (.slice Ao38 t276.length co38) (Kd.R_f gb284 0 (.int .i64 t275) (Kd.R_types HO278.out BK284.out (by decide))))))) (fun _ h_ => op1_ h_))))) (below_size (hb3_ HB.out GE250.out GE274.out GE284.out))); have n8_ := Aside0.mk (blk_below (g := gb250) (o := .cells #[.int .i64 a0_0, .slice A0_1 l0_1.length c0_1, .int .i64 a0_2, .int .i64 a0_3, .slice A0_4 l0_4.length c0_4] 37 (0, 0)) (by refine kb_ ?_; refine blk_far ?_ NB250_284.out _; refine kb_ ?_; refine blk_far ?_ NB250_284.out _; refine kb_ ?_; refine blk_far ?_ NB250_284.out _; refine kb_ ?_; refine blk_far ?_ NB250_284.out _; refine kb_ ?_; refine blk_far ?_ NB250_284.out _; refine kb_ ?_; exact BK250.out) hb); have n9_ := Aside0.mk (blk_below (g := gb274) (o := .cells #[.int .i64 t264, .slice Ao30 t265.length co30, .int .i64 t268, .int .i64 t269, .slice Ao31 t270.length co31] 25 (0, 0)) (by refine kb_ ?_; refine blk_far ?_ NB274_284.out _; refine kb_ ?_; refine blk_far ?_ NB274_284.out _; refine kb_ ?_; refine blk_far ?_ NB274_284.out _; refine kb_ ?_; refine blk_far ?_ NB274_284.out _; refine kb_ ?_; refine blk_far ?_ NB274_284.out _; refine kb_ ?_; exact BK274.out) hb); have n10_ := Aside0.mk (blk_below (g := gb284) (o := .cells #[.int .i64 t275, .slice Ao38 t276.length co38, .int .i64 t279, .int .i64 t280, .slice Ao39 t281.length co39] 25 (0, 0)) (by refine kb_ ?_; refine blk_put (cs := #[.int .i64 t275, .slice Ao38 t276.length co38, .int .i64 t279, .int .i64 t280, .slice none 0 0]) ?_ 4 _ rfl; refine kb_ ?_; refine blk_put (cs := #[.int .i64 t275, .slice Ao38 t276.length co38, .int .i64 t279, .int .i64 0, .slice none 0 0]) ?_ 3 _ rfl; refine kb_ ?_; refine blk_put (cs := #[.int .i64 t275, .slice Ao38 t276.length co38, .int .i64 0, .int .i64 0, .slice none 0 0]) ?_ 2 _ rfl; refine kb_ ?_; refine blk_put (cs := #[.int .i64 t275, .slice none 0 0, .int .i64 0, .int .i64 0, .slice none 0 0]) ?_ 1 _ rfl; refine kb_ ?_; refine blk_put (cs := #[.int .i64 0, .slice none 0 0, .int .i64 0, .int .i64 0, .slice none 0 0]) ?_ 0 _ rfl; refine kb_ ?_; exact BK284.out) hb); have n11_ := Aside0.mk (below_step (hb3_ HB.out GE250.out GE274.out GE284.out) hb); clear HO255; clear HO260; clear HO263; clear HO267; clear HO272; clear HO278; clear HO283; clear BK250; clear BK274; clear BK284; clear HB; have HO255 := n0_; have HO260 := n1_; have HO263 := n2_; have HO267 := n3_; have HO272 := n4_; have HO278 := n5_; have HO283 := n6_; have HO287 := n7_; have BK250 := n8_; have BK274 := n9_; have BK284 := n10_; have HB := n11_; clear n0_ n1_ n2_ n3_ n4_ n5_ n6_ n7_ n8_ n9_ n10_ n11_; (try clear hb); (try clear hb2); (try clear hk); (try clear hi); (try clear ho0); have hcz41_0 : w40.cell? ⟨gb284, 0, none⟩ = some (.int .i64 t275) := (blk_cell BK284.out 0).trans rfl; have hcz41_1 : w40.cell? ⟨gb284, 1, none⟩ = some (.slice Ao38 t276.length co38) := (blk_cell BK284.out 1).trans rfl; have hcz41_2 : w40.cell? ⟨gb284, 2, none⟩ = some (.int .i64 t279) := (blk_cell BK284.out 2).trans rfl; have hcz41_3 : w40.cell? ⟨gb284, 3, none⟩ = some (.int .i64 t280) := (blk_cell BK284.out 3).trans rfl; have hcz41_4 : w40.cell? ⟨gb284, 4, none⟩ = some (.slice Ao39 t281.length co39) := (blk_cell BK284.out 4).trans rfl; have hfz41_0 := blk_frozen BK284.out 0; have hfz41_1 := blk_frozen BK284.out 1; have hfz41_2 := blk_frozen BK284.out 2; have hfz41_3 := blk_frozen BK284.out 3; have hfz41_4 := blk_frozen BK284.out 4; obtain ⟨Ao42, co42, eo42⟩ := Kd.R_slice HO287.out; subst eo42) | ((with_reducible refine gate_callee (f := 7) rfl ?_); refine goesL_ (some 40) rfl rfl Try.func7 (by kernel_rfl) rfl #[.agg #[.int .i64 t275, .slice Ao38 t276.length co38, .int .i64 t279, .int .i64 t280, .slice Ao39 t281.length co39], .slice Ao42 t285.length co42] rfl ar_ ?_; (with_reducible refine (impl_MouthWrite.calls k t275 _ _ t276 t279 t280 _ _ t281 _ _ t285 t288 t289 t292 t293 t294 t297 _ ?side1 ?side2 ?side3 ?side4 ?side5 ?side6 A15.out).mono ?_); (case side1 => exact kC_ (Kd.R_reads' HO278.out).2.2); (case side2 => exact (Kd.R_reads' HO278.out).2.1); (case side3 => exact kC_ (Kd.R_reads' HO283.out).2.2); (case side4 => exact (Kd.R_reads' HO283.out).2.1); (case side5 => exact kC_ (Kd.R_reads' HO287.out).2.2); (case side6 => exact (Kd.R_reads' HO287.out).2.1); rintro e w43 ⟨v290, v295, rfl, ho0, ho1, hb⟩; refine ⟨_, rfl, ?_⟩; have n0_ := Aside0.mk (Kd.R_elder' (kR_ HO255.out) (Kd.R_base ho0) hb); have n1_ := Aside0.mk (Kd.R_elder' (kR_ HO260.out) (Kd.R_base ho1) hb); have n2_ := Aside0.mk (Kd.R_elder' (kR_ HO263.out) (Kd.R_base ho0) hb); have n3_ := Aside0.mk (Kd.R_elder' (kR_ HO267.out) (Kd.R_base ho0) hb); have n4_ := Aside0.mk (Kd.R_elder' (kR_ HO272.out) (Kd.R_base ho1) hb); have n5_ := Aside0.mk (Kd.R_elder' (kR_ HO278.out) (Kd.R_base ho0) hb); have n6_ := Aside0.mk (Kd.R_elder' (kR_ HO283.out) (Kd.R_base ho1) hb); have n7_ := Aside0.mk (Kd.R_elder' (kR_ HO287.out) (Kd.R_base ho0) hb); have n8_ := Aside0.mk (Kd.R_lower (Kd.R_new' (Kd.R_new' (Kd.R_new' (Kd.R_new' (Kd.R_new' ho0 (Kd.R_lt (kR_ HO255.out))) (Kd.R_lt (kR_ HO263.out))) (Kd.R_lt (kR_ HO267.out))) (Kd.R_lt (kR_ HO278.out))) (Kd.R_lt (kR_ HO287.out))) (below_size (hb3_ HB.out GE250.out GE274.out GE284.out))); have n9_ := Aside0.mk (Kd.R_lower (Kd.R_new' (Kd.R_new' (Kd.R_new' ho1 (Kd.R_lt (kR_ HO260.out))) (Kd.R_lt (kR_ HO272.out))) (Kd.R_lt (kR_ HO283.out))) (below_size (hb3_ HB.out GE250.out GE274.out GE284.out))); have n10_ := Aside0.mk (blk_below (g := gb250) (o := .cells #[.int .i64 a0_0, .slice A0_1 l0_1.length c0_1, .int .i64 a0_2, .int .i64 a0_3, .slice A0_4 l0_4.length c0_4] 37 (0, 0)) (kb_ BK250.out) hb); have n11_ := Aside0.mk (blk_below (g := gb274) (o := .cells #[.int .i64 t264, .slice Ao30 t265.length co30, .int .i64 t268, .int .i64 t269, .slice Ao31 t270.length co31] 25 (0, 0)) (kb_ BK274.out) hb); have n12_ := Aside0.mk (blk_below (g := gb284) (o := .cells #[.int .i64 t275, .slice Ao38 t276.length co38, .int .i64 t279, .int .i64 t280, .slice Ao39 t281.length co39] 25 (0, 0)) (kb_ BK284.out) hb); have n13_ := Aside0.mk (below_step (hb3_ HB.out GE250.out GE274.out GE284.out) hb); clear HO255; clear HO260; clear HO263; clear HO267; clear HO272; clear HO278; clear HO283; clear HO287; clear BK250; clear BK274; clear BK284; clear HB; have HO255 := n0_; have HO260 := n1_; have HO263 := n2_; have HO267 := n3_; have HO272 := n4_; have HO278 := n5_; have HO283 := n6_; have HO287 := n7_; have HO291 := n8_; have HO296 := n9_; have BK250 := n10_; have BK274 := n11_; have BK284 := n12_; have HB := n13_; clear n0_ n1_ n2_ n3_ n4_ n5_ n6_ n7_ n8_ n9_ n10_ n11_ n12_ n13_; (try clear hb); (try clear hb2); (try clear hk); (try clear hi); (try clear ho0); (try clear ho1)) | ((with_reducible refine gate_dst (N := 10) rfl ?_); refine box_event ?hg (N := 10) ?hd (cs := #[.int .i64 0, .slice none 0 0, .int .i64 0, .int .i64 0, .slice none 0 0]) (t := 25) ?hr ?_; (case hd => rfl); (case hg => rfl); (case hr => first | (go_simp; done) | (go_simp; rfl)); intro gb298 hg w44 hbox hb; have n0_ := Aside0.mk (Kd.R_below (kR_ HO255.out) hb); have n1_ := Aside0.mk (Kd.R_below (kR_ HO260.out) hb); have n2_ := Aside0.mk (Kd.R_below (kR_ HO263.out) hb); have n3_ := Aside0.mk (Kd.R_below (kR_ HO267.out) hb); have n4_ := Aside0.mk (Kd.R_below (kR_ HO272.out) hb); have n5_ := Aside0.mk (Kd.R_below (kR_ HO278.out) hb); have n6_ := Aside0.mk (Kd.R_below (kR_ HO283.out) hb); have n7_ := Aside0.mk (Kd.R_below (kR_ HO287.out) hb); have n8_ := Aside0.mk (Kd.R_below (kR_ HO291.out) hb); have n9_ := Aside0.mk (Kd.R_below (kR_ HO296.out) hb); have n10_ := Aside0.mk (blk_below (g := gb250) (o := .cells #[.int .i64 a0_0, .slice A0_1 l0_1.length c0_1, .int .i64 a0_2, .int .i64 a0_3, .slice A0_4 l0_4.length c0_4] 37 (0, 0)) (kb_ BK250.out) hb); have n11_ := Aside0.mk (blk_below (g := gb274) (o := .cells #[.int .i64 t264, .slice Ao30 t265.length co30, .int .i64 t268, .int .i64 t269, .slice Ao31 t270.length co31] 25 (0, 0)) (kb_ BK274.out) hb); have n12_ := Aside0.mk (blk_below (g := gb284) (o := .cells #[.int .i64 t275, .slice Ao38 t276.length co38, .int .i64 t279, .int .i64 t280, .slice Ao39 t281.length co39] 25 (0, 0)) (kb_ BK284.out) hb); have n13_ := Aside0.mk (below_step (hb3_ HB.out GE250.out GE274.out GE284.out) hb); have n14_ := Aside0.mk (hbox); have n15_ := Aside0.mk ((by rw [hg]; exact (below_size (hb3_ HB.out GE250.out GE274.out GE284.out)) : w.heap.size ≤ gb298)); have n16_ := Aside0.mk ((by rw [hg]; exact (below_size (hb3_ HB.out GE250.out GE274.out GE284.out)) : w.heap.size ≤ gb298)); have n17_ := Aside0.mk ((by rw [hg]; exact Nat.ne_of_lt (blk_lt (g := gb250) (o := .cells #[.int .i64 a0_0, .slice A0_1 l0_1.length c0_1, .int .i64 a0_2, .int .i64 a0_3, .slice A0_4 l0_4.length c0_4] 37 (0, 0)) (kb_ BK250.out)) : gb250 ≠ gb298)); have n18_ := Aside0.mk ((by rw [hg]; exact Nat.ne_of_gt (blk_lt (g := gb250) (o := .cells #[.int .i64 a0_0, .slice A0_1 l0_1.length c0_1, .int .i64 a0_2, .int .i64 a0_3, .slice A0_4 l0_4.length c0_4] 37 (0, 0)) (kb_ BK250.out)) : gb298 ≠ gb250)); have n19_ := Aside0.mk ((by rw [hg]; exact Nat.ne_of_lt (blk_lt (g := gb274) (o := .cells #[.int .i64 t264, .slice Ao30 t265.length co30, .int .i64 t268, .int .i64 t269, .slice Ao31 t270.length co31] 25 (0, 0)) (kb_ BK274.out)) : gb274 ≠ gb298)); have n20_ := Aside0.mk ((by rw [hg]; exact Nat.ne_of_gt (blk_lt (g := gb274) (o := .cells #[.int .i64 t264, .slice Ao30 t265.length co30, .int .i64 t268, .int .i64 t269, .slice Ao31 t270.length co31] 25 (0, 0)) (kb_ BK274.out)) : gb298 ≠ gb274)); have n21_ := Aside0.mk ((by rw [hg]; exact Nat.ne_of_lt (blk_lt (g := gb284) (o := .cells #[.int .i64 t275, .slice Ao38 t276.length co38, .int .i64 t279, .int .i64 t280, .slice Ao39 t281.length co39] 25 (0, 0)) (kb_ BK284.out)) : gb284 ≠ gb298)); have n22_ := Aside0.mk ((by rw [hg]; exact Nat.ne_of_gt (blk_lt (g := gb284) (o := .cells #[.int .i64 t275, .slice Ao38 t276.length co38, .int .i64 t279, .int .i64 t280, .slice Ao39 t281.length co39] 25 (0, 0)) (kb_ BK284.out)) : gb298 ≠ gb284)); clear HO255; clear HO260; clear HO263; clear HO267; clear HO272; clear HO278; clear HO283; clear HO287; clear HO291; clear HO296; clear BK250; clear BK274; clear BK284; clear HB; have HO255 := n0_; have HO260 := n1_; have HO263 := n2_; have HO267 := n3_; have HO272 := n4_; have HO278 := n5_; have HO283 := n6_; have HO287 := n7_; have HO291 := n8_; have HO296 := n9_; have BK250 := n10_; have BK274 := n11_; have BK284 := n12_; have HB := n13_; have BK298 := n14_; have GW298 := n15_; have GE298 := n16_; have NB250_298 := n17_; have NB298_250 := n18_; have NB274_298 := n19_; have NB298_274 := n20_; have NB284_298 := n21_; have NB298_284 := n22_; clear n0_ n1_ n2_ n3_ n4_ n5_ n6_ n7_ n8_ n9_ n10_ n11_ n12_ n13_ n14_ n15_ n16_ n17_ n18_ n19_ n20_ n21_ n22_; clear hb hbox hg; have hnb45 := NB298_250.out; have hnc45 := NB250_298.out; have hnb46 := NB298_274.out; have hnc46 := NB274_298.out; have hnb47 := NB298_284.out; have hnc47 := NB284_298.out; have hcz48_0 : w44.cell? ⟨gb298, 0, none⟩ = some (.int .i64 0) := (blk_cell BK298.out 0).trans rfl; have hcz48_1 : w44.cell? ⟨gb298, 1, none⟩ = some (.slice none 0 0) := (blk_cell BK298.out 1).trans rfl; have hcz48_2 : w44.cell? ⟨gb298, 2, none⟩ = some (.int .i64 0) := (blk_cell BK298.out 2).trans rfl; have hcz48_3 : w44.cell? ⟨gb298, 3, none⟩ = some (.int .i64 0) := (blk_cell BK298.out 3).trans rfl; have hcz48_4 : w44.cell? ⟨gb298, 4, none⟩ = some (.slice none 0 0) := (blk_cell BK298.out 4).trans rfl; have hfz48_0 := blk_frozen BK298.out 0; have hfz48_1 := blk_frozen BK298.out 1; have hfz48_2 := blk_frozen BK298.out 2; have hfz48_3 := blk_frozen BK298.out 3; have hfz48_4 := blk_frozen BK298.out 4; obtain ⟨Ao49, co49, eo49⟩ := Kd.R_slice HO291.out; subst eo49; obtain ⟨Ao50, co50, eo50⟩ := Kd.R_slice HO296.out; subst eo50))
      (try simp only [Act.put, List.setIfInBounds_toArray, List.set_cons_zero, List.set_cons_succ])
      go_cut [51] (fun v51 wc => ∃ (kq : Nat) (x51_15 : Bool), v51 = .bool x51_15 ∧ Aside0 (laws_FnExactMouthWrite.j0 kq l1 t273 t285 t297 x51_15 a0_0 l0_1 a0_2 a0_3 l0_4 t264 t265 t268 t269 t270 t275 t276 t279 t280 t281 t288 t289 t292 t293 t294 = some r) ∧ Aside0 (kq ≤ k) ∧ Aside0 (Kd.R (Kd.int .u8) 5 wc w.heap.size (fun k_ => some k_ ≠ ((.slice Ao30 t265.length co30) : Value).ownBlock ∧ some k_ ≠ ((.slice Ao38 t276.length co38) : Value).ownBlock ∧ some k_ ≠ ((.slice Ao49 t289.length co49) : Value).ownBlock) (.slice Ao42 t285.length co42) t285) ∧ Aside0 (Kd.R (Kd.int .u8) 5 wc w.heap.size (fun k_ => some k_ ≠ ((.slice Ao42 t285.length co42) : Value).ownBlock ∧ some k_ ≠ ((.slice Ao38 t276.length co38) : Value).ownBlock ∧ some k_ ≠ ((.slice Ao49 t289.length co49) : Value).ownBlock) (.slice Ao30 t265.length co30) t265) ∧ Aside0 (Kd.R k60 60 wc w.heap.size (fun k_ => some k_ ≠ ((.slice Ao39 t281.length co39) : Value).ownBlock ∧ some k_ ≠ ((.slice Ao50 t294.length co50) : Value).ownBlock) (.slice Ao31 t270.length co31) t270) ∧ Aside0 (Kd.R (Kd.int .u8) 5 wc w.heap.size (fun k_ => some k_ ≠ ((.slice Ao42 t285.length co42) : Value).ownBlock ∧ some k_ ≠ ((.slice Ao30 t265.length co30) : Value).ownBlock ∧ some k_ ≠ ((.slice Ao49 t289.length co49) : Value).ownBlock) (.slice Ao38 t276.length co38) t276) ∧ Aside0 (Kd.R k60 60 wc w.heap.size (fun k_ => some k_ ≠ ((.slice Ao31 t270.length co31) : Value).ownBlock ∧ some k_ ≠ ((.slice Ao50 t294.length co50) : Value).ownBlock) (.slice Ao39 t281.length co39) t281) ∧ Aside0 (Kd.R (Kd.int .u8) 5 wc w.heap.size (fun k_ => some k_ ≠ ((.slice Ao42 t285.length co42) : Value).ownBlock ∧ some k_ ≠ ((.slice Ao30 t265.length co30) : Value).ownBlock ∧ some k_ ≠ ((.slice Ao38 t276.length co38) : Value).ownBlock) (.slice Ao49 t289.length co49) t289) ∧ Aside0 (Kd.R k60 60 wc w.heap.size (fun k_ => some k_ ≠ ((.slice Ao31 t270.length co31) : Value).ownBlock ∧ some k_ ≠ ((.slice Ao39 t281.length co39) : Value).ownBlock) (.slice Ao50 t294.length co50) t294) ∧ Aside0 (wc.heap[gb250]? = some (.cells #[.int .i64 a0_0, (.slice A0_1 l0_1.length c0_1), .int .i64 a0_2, .int .i64 a0_3, (.slice A0_4 l0_4.length c0_4)] 37 (0, 0))) ∧ Aside0 (wc.heap[gb274]? = some (.cells #[.int .i64 t264, (.slice Ao30 t265.length co30), .int .i64 t268, .int .i64 t269, (.slice Ao31 t270.length co31)] 25 (0, 0))) ∧ Aside0 (wc.heap[gb284]? = some (.cells #[.int .i64 t275, (.slice Ao38 t276.length co38), .int .i64 t279, .int .i64 t280, (.slice Ao39 t281.length co39)] 25 (0, 0))) ∧ Aside0 (wc.heap[gb298]? = some (.cells #[.int .i64 t288, (.slice Ao49 t289.length co49), .int .i64 t292, .int .i64 t293, (.slice Ao50 t294.length co50)] 25 (0, 0))) ∧ Aside0 (Below w.heap.size w wc))
      case first =>
        have H := HC16.out
        clear HC16
        replace H := Option.bind_eq_some_iff.mp H
        obtain ⟨t299, A510, H⟩ := H
        replace H : (if t299 = true then (laws_FnExactMouthWrite.j0 k l1 t273 t285 t297 (t297 != t273) a0_0 l0_1 a0_2 a0_3 l0_4 t264 t265 t268 t269 t270 t275 t276 t279 t280 t281 t288 t289 t292 t293 t294) else (laws_FnExactMouthWrite.j0 k l1 t273 t285 t297 true a0_0 l0_1 a0_2 a0_3 l0_4 t264 t265 t268 t269 t270 t275 t276 t279 t280 t281 t288 t289 t292 t293 t294)) = some r := H
        have A51 := Aside0.mk A510
        clear A510
        by_cases c52 : t299 = true
        · subst c52
          have H1 : (laws_FnExactMouthWrite.j0 k l1 t273 t285 t297 (t297 != t273) a0_0 l0_1 a0_2 a0_3 l0_4 t264 t265 t268 t269 t270 t275 t276 t279 t280 t281 t288 t289 t292 t293 t294) = some r := by rw [if_pos rfl] at H; exact H
          clear H
          have H := H1
          clear H1
          have H' := Aside0.mk H
          clear H
          have hnb53 := NB298_250.out
          have hnc53 := NB250_298.out
          have hnb54 := NB298_274.out
          have hnc54 := NB274_298.out
          have hnb55 := NB298_284.out
          have hnc55 := NB284_298.out
          have hcz56_0 : w44.cell? ⟨gb298, 0, none⟩ = some (.int .i64 0) := (blk_cell BK298.out 0).trans rfl
          have hcz56_1 : w44.cell? ⟨gb298, 1, none⟩ = some (.slice none 0 0) := (blk_cell BK298.out 1).trans rfl
          have hcz56_2 : w44.cell? ⟨gb298, 2, none⟩ = some (.int .i64 0) := (blk_cell BK298.out 2).trans rfl
          have hcz56_3 : w44.cell? ⟨gb298, 3, none⟩ = some (.int .i64 0) := (blk_cell BK298.out 3).trans rfl
          have hcz56_4 : w44.cell? ⟨gb298, 4, none⟩ = some (.slice none 0 0) := (blk_cell BK298.out 4).trans rfl
          have hfz56_0 := blk_frozen BK298.out 0
          have hfz56_1 := blk_frozen BK298.out 1
          have hfz56_2 := blk_frozen BK298.out 2
          have hfz56_3 := blk_frozen BK298.out 3
          have hfz56_4 := blk_frozen BK298.out 4
          have hnb57 := NB274_250.out
          have hnc57 := NB250_274.out
          have hnb58 := NB274_284.out
          have hnc58 := NB284_274.out
          have hcz59_0 : w44.cell? ⟨gb274, 0, none⟩ = some (.int .i64 t264) := (blk_cell BK274.out 0).trans rfl
          have hcz59_1 : w44.cell? ⟨gb274, 1, none⟩ = some (.slice Ao30 t265.length co30) := (blk_cell BK274.out 1).trans rfl
          have hcz59_2 : w44.cell? ⟨gb274, 2, none⟩ = some (.int .i64 t268) := (blk_cell BK274.out 2).trans rfl
          have hcz59_3 : w44.cell? ⟨gb274, 3, none⟩ = some (.int .i64 t269) := (blk_cell BK274.out 3).trans rfl
          have hcz59_4 : w44.cell? ⟨gb274, 4, none⟩ = some (.slice Ao31 t270.length co31) := (blk_cell BK274.out 4).trans rfl
          have hfz59_0 := blk_frozen BK274.out 0
          have hfz59_1 := blk_frozen BK274.out 1
          have hfz59_2 := blk_frozen BK274.out 2
          have hfz59_3 := blk_frozen BK274.out 3
          have hfz59_4 := blk_frozen BK274.out 4
          go_wp2_with (first | ((with_reducible refine gate_callee (f := 19) rfl ?_); refine goesL_ (some 45) rfl rfl Try.func19 (by kernel_rfl) rfl #[.agg #[.int .i64 t288, .slice Ao49 t289.length co49, .int .i64 t292, .int .i64 t293, .slice Ao50 t294.length co50], .agg #[.int .i64 t264, .slice Ao30 t265.length co30, .int .i64 t268, .int .i64 t269, .slice Ao31 t270.length co31]] rfl ar_ ?_; (with_reducible refine (laws_eqMouth.calls k t288 _ _ t289 t292 t293 _ _ t294 t264 _ _ t265 t268 t269 _ _ t270 true _ ?side1 ?side2 ?side3 ?side4 ?side5 ?side6 ?side7 ?side8 A51.out).mono ?_); (case side1 => refine (Kd.R_reads' (e := 5) (base := w.heap.size) (ok := fun k_ => (((((True ∧ some k_ ≠ (.slice Ao23 t253.length co23 : Value).ownBlock) ∧ some k_ ≠ (.slice Ao25 t261.length co25 : Value).ownBlock) ∧ some k_ ≠ (.slice Ao30 t265.length co30 : Value).ownBlock) ∧ some k_ ≠ (.slice Ao38 t276.length co38 : Value).ownBlock) ∧ some k_ ≠ (.slice Ao42 t285.length co42 : Value).ownBlock)) (n := t289.length) (c := co49) ?_).2.2; exact (by refine kR_ ?_; exact (Kd.R_mono (Kd.R_f gb298 4 (.slice Ao50 t294.length co50) (Kd.R_f gb298 3 (.int .i64 t293) (Kd.R_f gb298 2 (.int .i64 t292) (Kd.R_f gb298 1 (.slice Ao49 t289.length co49) (Kd.R_f gb298 0 (.int .i64 t288) (Kd.R_types HO291.out BK298.out (by decide))))))) (fun _ h_ => op1_ h_)))); (case side2 => exact (Kd.R_reads' HO291.out).2.1); (case side3 => refine (Kd.R_reads' (e := 60) (base := w.heap.size) (ok := fun k_ => (((True ∧ some k_ ≠ (.slice Ao24 t258.length co24 : Value).ownBlock) ∧ some k_ ≠ (.slice Ao31 t270.length co31 : Value).ownBlock) ∧ some k_ ≠ (.slice Ao39 t281.length co39 : Value).ownBlock)) (n := t294.length) (c := co50) ?_).2.2; exact (by refine kR_ ?_; exact (Kd.R_mono (Kd.R_f gb298 4 (.slice Ao50 t294.length co50) (Kd.R_f gb298 3 (.int .i64 t293) (Kd.R_f gb298 2 (.int .i64 t292) (Kd.R_f gb298 1 (.slice Ao49 t289.length co49) (Kd.R_f gb298 0 (.int .i64 t288) (Kd.R_types HO296.out BK298.out (by decide))))))) (fun _ h_ => op1_ h_)))); (case side4 => exact (Kd.R_reads' HO296.out).2.1); (case side5 => refine (Kd.R_reads' (e := 5) (base := w.heap.size) (ok := fun k_ => (((((True ∧ some k_ ≠ (.slice Ao23 t253.length co23 : Value).ownBlock) ∧ some k_ ≠ (.slice Ao25 t261.length co25 : Value).ownBlock) ∧ some k_ ≠ (.slice Ao38 t276.length co38 : Value).ownBlock) ∧ some k_ ≠ (.slice Ao42 t285.length co42 : Value).ownBlock) ∧ some k_ ≠ (.slice Ao49 t289.length co49 : Value).ownBlock)) (n := t265.length) (c := co30) ?_).2.2; exact (by refine kR_ ?_; exact (Kd.R_mono (Kd.R_f gb298 4 (.slice Ao50 t294.length co50) (Kd.R_f gb298 3 (.int .i64 t293) (Kd.R_f gb298 2 (.int .i64 t292) (Kd.R_f gb298 1 (.slice Ao49 t289.length co49) (Kd.R_f gb298 0 (.int .i64 t288) (Kd.R_types HO267.out BK298.out (by decide))))))) (fun _ h_ => op1_ h_)))); (case side6 => exact (Kd.R_reads' HO267.out).2.1); (case side7 => refine (Kd.R_reads' (e := 60) (base := w.heap.size) (ok := fun k_ => (((True ∧ some k_ ≠ (.slice Ao24 t258.length co24 : Value).ownBlock) ∧ some k_ ≠ (.slice Ao39 t281.length co39 : Value).ownBlock) ∧ some k_ ≠ (.slice Ao50 t294.length co50 : Value).ownBlock)) (n := t270.length) (c := co31) ?_).2.2; exact (by refine kR_ ?_; exact (Kd.R_mono (Kd.R_f gb298 4 (.slice Ao50 t294.length co50) (Kd.R_f gb298 3 (.int .i64 t293) (Kd.R_f gb298 2 (.int .i64 t292) (Kd.R_f gb298 1 (.slice Ao49 t289.length co49) (Kd.R_f gb298 0 (.int .i64 t288) (Kd.R_types HO272.out BK298.out (by decide))))))) (fun _ h_ => op1_ h_)))); (case side8 => exact (Kd.R_reads' HO272.out).2.1); rintro e w60 ⟨rfl, hb⟩; refine ⟨_, rfl, ?_⟩; have n0_ := Aside0.mk (Kd.R_below (by refine kR_ ?_; exact (Kd.R_mono (Kd.R_f gb298 4 (.slice Ao50 t294.length co50) (Kd.R_f gb298 3 (.int .i64 t293) (Kd.R_f gb298 2 (.int .i64 t292) (Kd.R_f gb298 1 (.slice Ao49 t289.length co49) (Kd.R_f gb298 0 (.int .i64 t288) (Kd.R_types HO255.out BK298.out (by decide))))))) (fun _ h_ => op1_ h_))) hb); have n1_ := Aside0.mk (Kd.R_below (by refine kR_ ?_; exact (Kd.R_mono (Kd.R_f gb298 4 (.slice Ao50 t294.length co50) (Kd.R_f gb298 3 (.int .i64 t293) (Kd.R_f gb298 2 (.int .i64 t292) (Kd.R_f gb298 1 (.slice Ao49 t289.length co49) (Kd.R_f gb298 0 (.int .i64 t288) (Kd.R_types HO260.out BK298.out (by decide))))))) (fun _ h_ => op1_ h_))) hb); have n2_ := Aside0.mk (Kd.R_below (by refine kR_ ?_; exact (Kd.R_mono (Kd.R_f gb298 4 (.slice Ao50 t294.length co50) (Kd.R_f gb298 3 (.int .i64 t293) (Kd.R_f gb298 2 (.int .i64 t292) (Kd.R_f gb298 1 (.slice Ao49 t289.length co49) (Kd.R_f gb298 0 (.int .i64 t288) (Kd.R_types HO263.out BK298.out (by decide))))))) (fun _ h_ => op1_ h_))) hb); have n3_ := Aside0.mk (Kd.R_below (by refine kR_ ?_; exact (Kd.R_mono (Kd.R_f gb298 4 (.slice Ao50 t294.length co50) (Kd.R_f gb298 3 (.int .i64 t293) (Kd.R_f gb298 2 (.int .i64 t292) (Kd.R_f gb298 1 (.slice Ao49 t289.length co49) (Kd.R_f gb298 0 (.int .i64 t288) (Kd.R_types HO267.out BK298.out (by decide))))))) (fun _ h_ => op1_ h_))) hb); have n4_ := Aside0.mk (Kd.R_below (by refine kR_ ?_; exact (Kd.R_mono (Kd.R_f gb298 4 (.slice Ao50 t294.length co50) (Kd.R_f gb298 3 (.int .i64 t293) (Kd.R_f gb298 2 (.int .i64 t292) (Kd.R_f gb298 1 (.slice Ao49 t289.length co49) (Kd.R_f gb298 0 (.int .i64 t288) (Kd.R_types HO272.out BK298.out (by decide))))))) (fun _ h_ => op1_ h_))) hb); have n5_ := Aside0.mk (Kd.R_below (by refine kR_ ?_; exact (Kd.R_mono (Kd.R_f gb298 4 (.slice Ao50 t294.length co50) (Kd.R_f gb298 3 (.int .i64 t293) (Kd.R_f gb298 2 (.int .i64 t292) (Kd.R_f gb298 1 (.slice Ao49 t289.length co49) (Kd.R_f gb298 0 (.int .i64 t288) (Kd.R_types HO278.out BK298.out (by decide))))))) (fun _ h_ => op1_ h_))) hb); have n6_ := Aside0.mk (Kd.R_below (by refine kR_ ?_; exact (Kd.R_mono (Kd.R_f gb298 4 (.slice Ao50 t294.length co50) (Kd.R_f gb298 3 (.int .i64 t293) (Kd.R_f gb298 2 (.int .i64 t292) (Kd.R_f gb298 1 (.slice Ao49 t289.length co49) (Kd.R_f gb298 0 (.int .i64 t288) (Kd.R_types HO283.out BK298.out (by decide))))))) (fun _ h_ => op1_ h_))) hb); have n7_ := Aside0.mk (Kd.R_below (by refine kR_ ?_; exact (Kd.R_mono (Kd.R_f gb298 4 (.slice Ao50 t294.length co50) (Kd.R_f gb298 3 (.int .i64 t293) (Kd.R_f gb298 2 (.int .i64 t292) (Kd.R_f gb298 1 (.slice Ao49 t289.length co49) (Kd.R_f gb298 0 (.int .i64 t288) (Kd.R_types HO287.out BK298.out (by decide))))))) (fun _ h_ => op1_ h_))) hb); have n8_ := Aside0.mk (Kd.R_below (by refine kR_ ?_; exact (Kd.R_mono (Kd.R_f gb298 4 (.slice Ao50 t294.length co50) (Kd.R_f gb298 3 (.int .i64 t293) (Kd.R_f gb298 2 (.int .i64 t292) (Kd.R_f gb298 1 (.slice Ao49 t289.length co49) (Kd.R_f gb298 0 (.int .i64 t288) (Kd.R_types HO291.out BK298.out (by decide))))))) (fun _ h_ => op1_ h_))) hb); have n9_ := Aside0.mk (Kd.R_below (by refine kR_ ?_; exact (Kd.R_mono (Kd.R_f gb298 4 (.slice Ao50 t294.length co50) (Kd.R_f gb298 3 (.int .i64 t293) (Kd.R_f gb298 2 (.int .i64 t292) (Kd.R_f gb298 1 (.slice Ao49 t289.length co49) (Kd.R_f gb298 0 (.int .i64 t288) (Kd.R_types HO296.out BK298.out (by decide))))))) (fun _ h_ => op1_ h_))) hb); have n10_ := Aside0.mk (blk_below (g := gb250) (o := .cells #[.int .i64 a0_0, .slice A0_1 l0_1.length c0_1, .int .i64 a0_2, .int .i64 a0_3, .slice A0_4 l0_4.length c0_4] 37 (0, 0)) (by refine kb_ ?_; refine blk_far ?_ NB250_298.out _; refine kb_ ?_; refine blk_far ?_ NB250_298.out _; refine kb_ ?_; refine blk_far ?_ NB250_298.out _; refine kb_ ?_; refine blk_far ?_ NB250_298.out _; refine kb_ ?_; refine blk_far ?_ NB250_298.out _; refine kb_ ?_; exact BK250.out) hb); have n11_ := Aside0.mk (blk_below (g := gb274) (o := .cells #[.int .i64 t264, .slice Ao30 t265.length co30, .int .i64 t268, .int .i64 t269, .slice Ao31 t270.length co31] 25 (0, 0)) (by refine kb_ ?_; refine blk_far ?_ NB274_298.out _; refine kb_ ?_; refine blk_far ?_ NB274_298.out _; refine kb_ ?_; refine blk_far ?_ NB274_298.out _; refine kb_ ?_; refine blk_far ?_ NB274_298.out _; refine kb_ ?_; refine blk_far ?_ NB274_298.out _; refine kb_ ?_; exact BK274.out) hb); have n12_ := Aside0.mk (blk_below (g := gb284) (o := .cells #[.int .i64 t275, .slice Ao38 t276.length co38, .int .i64 t279, .int .i64 t280, .slice Ao39 t281.length co39] 25 (0, 0)) (by refine kb_ ?_; refine blk_far ?_ NB284_298.out _; refine kb_ ?_; refine blk_far ?_ NB284_298.out _; refine kb_ ?_; refine blk_far ?_ NB284_298.out _; refine kb_ ?_; refine blk_far ?_ NB284_298.out _; refine kb_ ?_; refine blk_far ?_ NB284_298.out _; refine kb_ ?_; exact BK284.out) hb); have n13_ := Aside0.mk (blk_below (g := gb298) (o := .cells #[.int .i64 t288, .slice Ao49 t289.length co49, .int .i64 t292, .int .i64 t293, .slice Ao50 t294.length co50] 25 (0, 0)) (by refine kb_ ?_; refine blk_put (cs := #[.int .i64 t288, .slice Ao49 t289.length co49, .int .i64 t292, .int .i64 t293, .slice none 0 0]) ?_ 4 _ rfl; refine kb_ ?_; refine blk_put (cs := #[.int .i64 t288, .slice Ao49 t289.length co49, .int .i64 t292, .int .i64 0, .slice none 0 0]) ?_ 3 _ rfl; refine kb_ ?_; refine blk_put (cs := #[.int .i64 t288, .slice Ao49 t289.length co49, .int .i64 0, .int .i64 0, .slice none 0 0]) ?_ 2 _ rfl; refine kb_ ?_; refine blk_put (cs := #[.int .i64 t288, .slice none 0 0, .int .i64 0, .int .i64 0, .slice none 0 0]) ?_ 1 _ rfl; refine kb_ ?_; refine blk_put (cs := #[.int .i64 0, .slice none 0 0, .int .i64 0, .int .i64 0, .slice none 0 0]) ?_ 0 _ rfl; refine kb_ ?_; exact BK298.out) hb); have n14_ := Aside0.mk (below_step (hb4_ HB.out GE250.out GE274.out GE284.out GE298.out) hb); clear HO255; clear HO260; clear HO263; clear HO267; clear HO272; clear HO278; clear HO283; clear HO287; clear HO291; clear HO296; clear BK250; clear BK274; clear BK284; clear BK298; clear HB; have HO255 := n0_; have HO260 := n1_; have HO263 := n2_; have HO267 := n3_; have HO272 := n4_; have HO278 := n5_; have HO283 := n6_; have HO287 := n7_; have HO291 := n8_; have HO296 := n9_; have BK250 := n10_; have BK274 := n11_; have BK284 := n12_; have BK298 := n13_; have HB := n14_; clear n0_ n1_ n2_ n3_ n4_ n5_ n6_ n7_ n8_ n9_ n10_ n11_ n12_ n13_ n14_; (try clear hb); (try clear hb2); (try clear hk); (try clear hi)))
          go_meet
          case rel => exact ⟨_, ((t297 != t273)), (by first | rfl | (simp; done) | (simp [*]; done)), H', ⟨by first | omega | exact Nat.le_refl _⟩, ⟨by refine kR_ ?_; exact Kd.R_mono HO287.out (fun _ hk => op2_ hk)⟩, ⟨by refine kR_ ?_; exact Kd.R_mono HO267.out (fun _ hk => op2_ hk)⟩, ⟨by refine kR_ ?_; exact Kd.R_mono HO272.out (fun _ hk => op2_ hk)⟩, ⟨by refine kR_ ?_; exact Kd.R_mono HO278.out (fun _ hk => op2_ hk)⟩, ⟨by refine kR_ ?_; exact Kd.R_mono HO283.out (fun _ hk => op2_ hk)⟩, ⟨by refine kR_ ?_; exact Kd.R_mono HO291.out (fun _ hk => op2_ hk)⟩, ⟨by refine kR_ ?_; exact Kd.R_mono HO296.out (fun _ hk => op2_ hk)⟩, ⟨by refine kb_ ?_; exact BK250.out⟩, ⟨by refine kb_ ?_; exact BK274.out⟩, ⟨by refine kb_ ?_; exact BK284.out⟩, ⟨by refine kb_ ?_; exact BK298.out⟩, ⟨by repeat (first | (with_reducible first | exact HB.out | apply below_alloc | apply pw_below_drewN | apply below_drew1 | refine below_set ?_ GE250.out | refine below_set ?_ GE274.out | refine below_set ?_ GE284.out | refine below_set ?_ GE298.out) | exact HB.out)⟩⟩
        · replace c52 := Bool.eq_false_iff.mpr c52
          subst c52
          have H1 : (laws_FnExactMouthWrite.j0 k l1 t273 t285 t297 true a0_0 l0_1 a0_2 a0_3 l0_4 t264 t265 t268 t269 t270 t275 t276 t279 t280 t281 t288 t289 t292 t293 t294) = some r := by rw [if_neg (show ¬ (false = true) by decide)] at H; exact H
          clear H
          have H := H1
          clear H1
          have H' := Aside0.mk H
          clear H
          have hnb61 := NB298_250.out
          have hnc61 := NB250_298.out
          have hnb62 := NB298_274.out
          have hnc62 := NB274_298.out
          have hnb63 := NB298_284.out
          have hnc63 := NB284_298.out
          have hcz64_0 : w44.cell? ⟨gb298, 0, none⟩ = some (.int .i64 0) := (blk_cell BK298.out 0).trans rfl
          have hcz64_1 : w44.cell? ⟨gb298, 1, none⟩ = some (.slice none 0 0) := (blk_cell BK298.out 1).trans rfl
          have hcz64_2 : w44.cell? ⟨gb298, 2, none⟩ = some (.int .i64 0) := (blk_cell BK298.out 2).trans rfl
          have hcz64_3 : w44.cell? ⟨gb298, 3, none⟩ = some (.int .i64 0) := (blk_cell BK298.out 3).trans rfl
          have hcz64_4 : w44.cell? ⟨gb298, 4, none⟩ = some (.slice none 0 0) := (blk_cell BK298.out 4).trans rfl
          have hfz64_0 := blk_frozen BK298.out 0
          have hfz64_1 := blk_frozen BK298.out 1
          have hfz64_2 := blk_frozen BK298.out 2
          have hfz64_3 := blk_frozen BK298.out 3
          have hfz64_4 := blk_frozen BK298.out 4
          have hnb65 := NB274_250.out
          have hnc65 := NB250_274.out
          have hnb66 := NB274_284.out
          have hnc66 := NB284_274.out
          have hcz67_0 : w44.cell? ⟨gb274, 0, none⟩ = some (.int .i64 t264) := (blk_cell BK274.out 0).trans rfl
          have hcz67_1 : w44.cell? ⟨gb274, 1, none⟩ = some (.slice Ao30 t265.length co30) := (blk_cell BK274.out 1).trans rfl
          have hcz67_2 : w44.cell? ⟨gb274, 2, none⟩ = some (.int .i64 t268) := (blk_cell BK274.out 2).trans rfl
          have hcz67_3 : w44.cell? ⟨gb274, 3, none⟩ = some (.int .i64 t269) := (blk_cell BK274.out 3).trans rfl
          have hcz67_4 : w44.cell? ⟨gb274, 4, none⟩ = some (.slice Ao31 t270.length co31) := (blk_cell BK274.out 4).trans rfl
          have hfz67_0 := blk_frozen BK274.out 0
          have hfz67_1 := blk_frozen BK274.out 1
          have hfz67_2 := blk_frozen BK274.out 2
          have hfz67_3 := blk_frozen BK274.out 3
          have hfz67_4 := blk_frozen BK274.out 4
          go_wp2_with (first | ((with_reducible refine gate_callee (f := 19) rfl ?_); refine goesL_ (some 45) rfl rfl Try.func19 (by kernel_rfl) rfl #[.agg #[.int .i64 t288, .slice Ao49 t289.length co49, .int .i64 t292, .int .i64 t293, .slice Ao50 t294.length co50], .agg #[.int .i64 t264, .slice Ao30 t265.length co30, .int .i64 t268, .int .i64 t269, .slice Ao31 t270.length co31]] rfl ar_ ?_; (with_reducible refine (laws_eqMouth.calls k t288 _ _ t289 t292 t293 _ _ t294 t264 _ _ t265 t268 t269 _ _ t270 false _ ?side1 ?side2 ?side3 ?side4 ?side5 ?side6 ?side7 ?side8 A51.out).mono ?_); (case side1 => refine (Kd.R_reads' (e := 5) (base := w.heap.size) (ok := fun k_ => (((((True ∧ some k_ ≠ (.slice Ao23 t253.length co23 : Value).ownBlock) ∧ some k_ ≠ (.slice Ao25 t261.length co25 : Value).ownBlock) ∧ some k_ ≠ (.slice Ao30 t265.length co30 : Value).ownBlock) ∧ some k_ ≠ (.slice Ao38 t276.length co38 : Value).ownBlock) ∧ some k_ ≠ (.slice Ao42 t285.length co42 : Value).ownBlock)) (n := t289.length) (c := co49) ?_).2.2; exact (by refine kR_ ?_; exact (Kd.R_mono (Kd.R_f gb298 4 (.slice Ao50 t294.length co50) (Kd.R_f gb298 3 (.int .i64 t293) (Kd.R_f gb298 2 (.int .i64 t292) (Kd.R_f gb298 1 (.slice Ao49 t289.length co49) (Kd.R_f gb298 0 (.int .i64 t288) (Kd.R_types HO291.out BK298.out (by decide))))))) (fun _ h_ => op1_ h_)))); (case side2 => exact (Kd.R_reads' HO291.out).2.1); (case side3 => refine (Kd.R_reads' (e := 60) (base := w.heap.size) (ok := fun k_ => (((True ∧ some k_ ≠ (.slice Ao24 t258.length co24 : Value).ownBlock) ∧ some k_ ≠ (.slice Ao31 t270.length co31 : Value).ownBlock) ∧ some k_ ≠ (.slice Ao39 t281.length co39 : Value).ownBlock)) (n := t294.length) (c := co50) ?_).2.2; exact (by refine kR_ ?_; exact (Kd.R_mono (Kd.R_f gb298 4 (.slice Ao50 t294.length co50) (Kd.R_f gb298 3 (.int .i64 t293) (Kd.R_f gb298 2 (.int .i64 t292) (Kd.R_f gb298 1 (.slice Ao49 t289.length co49) (Kd.R_f gb298 0 (.int .i64 t288) (Kd.R_types HO296.out BK298.out (by decide))))))) (fun _ h_ => op1_ h_)))); (case side4 => exact (Kd.R_reads' HO296.out).2.1); (case side5 => refine (Kd.R_reads' (e := 5) (base := w.heap.size) (ok := fun k_ => (((((True ∧ some k_ ≠ (.slice Ao23 t253.length co23 : Value).ownBlock) ∧ some k_ ≠ (.slice Ao25 t261.length co25 : Value).ownBlock) ∧ some k_ ≠ (.slice Ao38 t276.length co38 : Value).ownBlock) ∧ some k_ ≠ (.slice Ao42 t285.length co42 : Value).ownBlock) ∧ some k_ ≠ (.slice Ao49 t289.length co49 : Value).ownBlock)) (n := t265.length) (c := co30) ?_).2.2; exact (by refine kR_ ?_; exact (Kd.R_mono (Kd.R_f gb298 4 (.slice Ao50 t294.length co50) (Kd.R_f gb298 3 (.int .i64 t293) (Kd.R_f gb298 2 (.int .i64 t292) (Kd.R_f gb298 1 (.slice Ao49 t289.length co49) (Kd.R_f gb298 0 (.int .i64 t288) (Kd.R_types HO267.out BK298.out (by decide))))))) (fun _ h_ => op1_ h_)))); (case side6 => exact (Kd.R_reads' HO267.out).2.1); (case side7 => refine (Kd.R_reads' (e := 60) (base := w.heap.size) (ok := fun k_ => (((True ∧ some k_ ≠ (.slice Ao24 t258.length co24 : Value).ownBlock) ∧ some k_ ≠ (.slice Ao39 t281.length co39 : Value).ownBlock) ∧ some k_ ≠ (.slice Ao50 t294.length co50 : Value).ownBlock)) (n := t270.length) (c := co31) ?_).2.2; exact (by refine kR_ ?_; exact (Kd.R_mono (Kd.R_f gb298 4 (.slice Ao50 t294.length co50) (Kd.R_f gb298 3 (.int .i64 t293) (Kd.R_f gb298 2 (.int .i64 t292) (Kd.R_f gb298 1 (.slice Ao49 t289.length co49) (Kd.R_f gb298 0 (.int .i64 t288) (Kd.R_types HO272.out BK298.out (by decide))))))) (fun _ h_ => op1_ h_)))); (case side8 => exact (Kd.R_reads' HO272.out).2.1); rintro e w68 ⟨rfl, hb⟩; refine ⟨_, rfl, ?_⟩; have n0_ := Aside0.mk (Kd.R_below (by refine kR_ ?_; exact (Kd.R_mono (Kd.R_f gb298 4 (.slice Ao50 t294.length co50) (Kd.R_f gb298 3 (.int .i64 t293) (Kd.R_f gb298 2 (.int .i64 t292) (Kd.R_f gb298 1 (.slice Ao49 t289.length co49) (Kd.R_f gb298 0 (.int .i64 t288) (Kd.R_types HO255.out BK298.out (by decide))))))) (fun _ h_ => op1_ h_))) hb); have n1_ := Aside0.mk (Kd.R_below (by refine kR_ ?_; exact (Kd.R_mono (Kd.R_f gb298 4 (.slice Ao50 t294.length co50) (Kd.R_f gb298 3 (.int .i64 t293) (Kd.R_f gb298 2 (.int .i64 t292) (Kd.R_f gb298 1 (.slice Ao49 t289.length co49) (Kd.R_f gb298 0 (.int .i64 t288) (Kd.R_types HO260.out BK298.out (by decide))))))) (fun _ h_ => op1_ h_))) hb); have n2_ := Aside0.mk (Kd.R_below (by refine kR_ ?_; exact (Kd.R_mono (Kd.R_f gb298 4 (.slice Ao50 t294.length co50) (Kd.R_f gb298 3 (.int .i64 t293) (Kd.R_f gb298 2 (.int .i64 t292) (Kd.R_f gb298 1 (.slice Ao49 t289.length co49) (Kd.R_f gb298 0 (.int .i64 t288) (Kd.R_types HO263.out BK298.out (by decide))))))) (fun _ h_ => op1_ h_))) hb); have n3_ := Aside0.mk (Kd.R_below (by refine kR_ ?_; exact (Kd.R_mono (Kd.R_f gb298 4 (.slice Ao50 t294.length co50) (Kd.R_f gb298 3 (.int .i64 t293) (Kd.R_f gb298 2 (.int .i64 t292) (Kd.R_f gb298 1 (.slice Ao49 t289.length co49) (Kd.R_f gb298 0 (.int .i64 t288) (Kd.R_types HO267.out BK298.out (by decide))))))) (fun _ h_ => op1_ h_))) hb); have n4_ := Aside0.mk (Kd.R_below (by refine kR_ ?_; exact (Kd.R_mono (Kd.R_f gb298 4 (.slice Ao50 t294.length co50) (Kd.R_f gb298 3 (.int .i64 t293) (Kd.R_f gb298 2 (.int .i64 t292) (Kd.R_f gb298 1 (.slice Ao49 t289.length co49) (Kd.R_f gb298 0 (.int .i64 t288) (Kd.R_types HO272.out BK298.out (by decide))))))) (fun _ h_ => op1_ h_))) hb); have n5_ := Aside0.mk (Kd.R_below (by refine kR_ ?_; exact (Kd.R_mono (Kd.R_f gb298 4 (.slice Ao50 t294.length co50) (Kd.R_f gb298 3 (.int .i64 t293) (Kd.R_f gb298 2 (.int .i64 t292) (Kd.R_f gb298 1 (.slice Ao49 t289.length co49) (Kd.R_f gb298 0 (.int .i64 t288) (Kd.R_types HO278.out BK298.out (by decide))))))) (fun _ h_ => op1_ h_))) hb); have n6_ := Aside0.mk (Kd.R_below (by refine kR_ ?_; exact (Kd.R_mono (Kd.R_f gb298 4 (.slice Ao50 t294.length co50) (Kd.R_f gb298 3 (.int .i64 t293) (Kd.R_f gb298 2 (.int .i64 t292) (Kd.R_f gb298 1 (.slice Ao49 t289.length co49) (Kd.R_f gb298 0 (.int .i64 t288) (Kd.R_types HO283.out BK298.out (by decide))))))) (fun _ h_ => op1_ h_))) hb); have n7_ := Aside0.mk (Kd.R_below (by refine kR_ ?_; exact (Kd.R_mono (Kd.R_f gb298 4 (.slice Ao50 t294.length co50) (Kd.R_f gb298 3 (.int .i64 t293) (Kd.R_f gb298 2 (.int .i64 t292) (Kd.R_f gb298 1 (.slice Ao49 t289.length co49) (Kd.R_f gb298 0 (.int .i64 t288) (Kd.R_types HO287.out BK298.out (by decide))))))) (fun _ h_ => op1_ h_))) hb); have n8_ := Aside0.mk (Kd.R_below (by refine kR_ ?_; exact (Kd.R_mono (Kd.R_f gb298 4 (.slice Ao50 t294.length co50) (Kd.R_f gb298 3 (.int .i64 t293) (Kd.R_f gb298 2 (.int .i64 t292) (Kd.R_f gb298 1 (.slice Ao49 t289.length co49) (Kd.R_f gb298 0 (.int .i64 t288) (Kd.R_types HO291.out BK298.out (by decide))))))) (fun _ h_ => op1_ h_))) hb); have n9_ := Aside0.mk (Kd.R_below (by refine kR_ ?_; exact (Kd.R_mono (Kd.R_f gb298 4 (.slice Ao50 t294.length co50) (Kd.R_f gb298 3 (.int .i64 t293) (Kd.R_f gb298 2 (.int .i64 t292) (Kd.R_f gb298 1 (.slice Ao49 t289.length co49) (Kd.R_f gb298 0 (.int .i64 t288) (Kd.R_types HO296.out BK298.out (by decide))))))) (fun _ h_ => op1_ h_))) hb); have n10_ := Aside0.mk (blk_below (g := gb250) (o := .cells #[.int .i64 a0_0, .slice A0_1 l0_1.length c0_1, .int .i64 a0_2, .int .i64 a0_3, .slice A0_4 l0_4.length c0_4] 37 (0, 0)) (by refine kb_ ?_; refine blk_far ?_ NB250_298.out _; refine kb_ ?_; refine blk_far ?_ NB250_298.out _; refine kb_ ?_; refine blk_far ?_ NB250_298.out _; refine kb_ ?_; refine blk_far ?_ NB250_298.out _; refine kb_ ?_; refine blk_far ?_ NB250_298.out _; refine kb_ ?_; exact BK250.out) hb); have n11_ := Aside0.mk (blk_below (g := gb274) (o := .cells #[.int .i64 t264, .slice Ao30 t265.length co30, .int .i64 t268, .int .i64 t269, .slice Ao31 t270.length co31] 25 (0, 0)) (by refine kb_ ?_; refine blk_far ?_ NB274_298.out _; refine kb_ ?_; refine blk_far ?_ NB274_298.out _; refine kb_ ?_; refine blk_far ?_ NB274_298.out _; refine kb_ ?_; refine blk_far ?_ NB274_298.out _; refine kb_ ?_; refine blk_far ?_ NB274_298.out _; refine kb_ ?_; exact BK274.out) hb); have n12_ := Aside0.mk (blk_below (g := gb284) (o := .cells #[.int .i64 t275, .slice Ao38 t276.length co38, .int .i64 t279, .int .i64 t280, .slice Ao39 t281.length co39] 25 (0, 0)) (by refine kb_ ?_; refine blk_far ?_ NB284_298.out _; refine kb_ ?_; refine blk_far ?_ NB284_298.out _; refine kb_ ?_; refine blk_far ?_ NB284_298.out _; refine kb_ ?_; refine blk_far ?_ NB284_298.out _; refine kb_ ?_; refine blk_far ?_ NB284_298.out _; refine kb_ ?_; exact BK284.out) hb); have n13_ := Aside0.mk (blk_below (g := gb298) (o := .cells #[.int .i64 t288, .slice Ao49 t289.length co49, .int .i64 t292, .int .i64 t293, .slice Ao50 t294.length co50] 25 (0, 0)) (by refine kb_ ?_; refine blk_put (cs := #[.int .i64 t288, .slice Ao49 t289.length co49, .int .i64 t292, .int .i64 t293, .slice none 0 0]) ?_ 4 _ rfl; refine kb_ ?_; refine blk_put (cs := #[.int .i64 t288, .slice Ao49 t289.length co49, .int .i64 t292, .int .i64 0, .slice none 0 0]) ?_ 3 _ rfl; refine kb_ ?_; refine blk_put (cs := #[.int .i64 t288, .slice Ao49 t289.length co49, .int .i64 0, .int .i64 0, .slice none 0 0]) ?_ 2 _ rfl; refine kb_ ?_; refine blk_put (cs := #[.int .i64 t288, .slice none 0 0, .int .i64 0, .int .i64 0, .slice none 0 0]) ?_ 1 _ rfl; refine kb_ ?_; refine blk_put (cs := #[.int .i64 0, .slice none 0 0, .int .i64 0, .int .i64 0, .slice none 0 0]) ?_ 0 _ rfl; refine kb_ ?_; exact BK298.out) hb); have n14_ := Aside0.mk (below_step (hb4_ HB.out GE250.out GE274.out GE284.out GE298.out) hb); clear HO255; clear HO260; clear HO263; clear HO267; clear HO272; clear HO278; clear HO283; clear HO287; clear HO291; clear HO296; clear BK250; clear BK274; clear BK284; clear BK298; clear HB; have HO255 := n0_; have HO260 := n1_; have HO263 := n2_; have HO267 := n3_; have HO272 := n4_; have HO278 := n5_; have HO283 := n6_; have HO287 := n7_; have HO291 := n8_; have HO296 := n9_; have BK250 := n10_; have BK274 := n11_; have BK284 := n12_; have BK298 := n13_; have HB := n14_; clear n0_ n1_ n2_ n3_ n4_ n5_ n6_ n7_ n8_ n9_ n10_ n11_ n12_ n13_ n14_; (try clear hb); (try clear hb2); (try clear hk); (try clear hi)))
          go_meet
          case rel => exact ⟨_, (true), (by first | rfl | (simp; done) | (simp [*]; done)), H', ⟨by first | omega | exact Nat.le_refl _⟩, ⟨by refine kR_ ?_; exact Kd.R_mono HO287.out (fun _ hk => op2_ hk)⟩, ⟨by refine kR_ ?_; exact Kd.R_mono HO267.out (fun _ hk => op2_ hk)⟩, ⟨by refine kR_ ?_; exact Kd.R_mono HO272.out (fun _ hk => op2_ hk)⟩, ⟨by refine kR_ ?_; exact Kd.R_mono HO278.out (fun _ hk => op2_ hk)⟩, ⟨by refine kR_ ?_; exact Kd.R_mono HO283.out (fun _ hk => op2_ hk)⟩, ⟨by refine kR_ ?_; exact Kd.R_mono HO291.out (fun _ hk => op2_ hk)⟩, ⟨by refine kR_ ?_; exact Kd.R_mono HO296.out (fun _ hk => op2_ hk)⟩, ⟨by refine kb_ ?_; exact BK250.out⟩, ⟨by refine kb_ ?_; exact BK274.out⟩, ⟨by refine kb_ ?_; exact BK284.out⟩, ⟨by refine kb_ ?_; exact BK298.out⟩, ⟨by repeat (first | (with_reducible first | exact HB.out | apply below_alloc | apply pw_below_drewN | apply below_drew1 | refine below_set ?_ GE250.out | refine below_set ?_ GE274.out | refine below_set ?_ GE284.out | refine below_set ?_ GE298.out) | exact HB.out)⟩⟩
      case rest =>
        clear HC16
        try clear c1
        try clear c2
        try clear p2
        try clear c3
        try clear c3b0
        try clear c3b1
        try clear c4
        try clear c5
        try clear c6
        try clear c6b0
        try clear c7
        try clear c8
        try clear c13
        try clear c16
        try clear c19
        try clear c24
        try clear c28
        try clear c35
        try clear c36
        try clear c45
        try clear c46
        try clear c47
        try clear c52
        try clear c53
        try clear c54
        try clear c55
        try clear c57
        try clear c58
        try clear c61
        try clear c62
        try clear c63
        try clear c65
        try clear c66
        try clear hcz18_0
        try clear hcz18_1
        try clear hcz18_2
        try clear hcz18_3
        try clear hcz18_4
        try clear hcz20_0
        try clear hcz20_1
        try clear hcz20_2
        try clear hcz20_3
        try clear hcz20_4
        try clear hcz29_0
        try clear hcz29_1
        try clear hcz29_2
        try clear hcz29_3
        try clear hcz29_4
        try clear hcz32_0
        try clear hcz32_1
        try clear hcz32_2
        try clear hcz32_3
        try clear hcz32_4
        try clear hcz37_0
        try clear hcz37_1
        try clear hcz37_2
        try clear hcz37_3
        try clear hcz37_4
        try clear hcz41_0
        try clear hcz41_1
        try clear hcz41_2
        try clear hcz41_3
        try clear hcz41_4
        try clear hcz48_0
        try clear hcz48_1
        try clear hcz48_2
        try clear hcz48_3
        try clear hcz48_4
        try clear hcz56_0
        try clear hcz56_1
        try clear hcz56_2
        try clear hcz56_3
        try clear hcz56_4
        try clear hcz59_0
        try clear hcz59_1
        try clear hcz59_2
        try clear hcz59_3
        try clear hcz59_4
        try clear hcz64_0
        try clear hcz64_1
        try clear hcz64_2
        try clear hcz64_3
        try clear hcz64_4
        try clear hcz67_0
        try clear hcz67_1
        try clear hcz67_2
        try clear hcz67_3
        try clear hcz67_4
        try clear hcz8_0
        try clear hcz8_1
        try clear hcz8_2
        try clear hcz8_3
        try clear hcz8_4
        try clear hfz18_0
        try clear hfz18_1
        try clear hfz18_2
        try clear hfz18_3
        try clear hfz18_4
        try clear hfz20_0
        try clear hfz20_1
        try clear hfz20_2
        try clear hfz20_3
        try clear hfz20_4
        try clear hfz29_0
        try clear hfz29_1
        try clear hfz29_2
        try clear hfz29_3
        try clear hfz29_4
        try clear hfz32_0
        try clear hfz32_1
        try clear hfz32_2
        try clear hfz32_3
        try clear hfz32_4
        try clear hfz37_0
        try clear hfz37_1
        try clear hfz37_2
        try clear hfz37_3
        try clear hfz37_4
        try clear hfz41_0
        try clear hfz41_1
        try clear hfz41_2
        try clear hfz41_3
        try clear hfz41_4
        try clear hfz48_0
        try clear hfz48_1
        try clear hfz48_2
        try clear hfz48_3
        try clear hfz48_4
        try clear hfz56_0
        try clear hfz56_1
        try clear hfz56_2
        try clear hfz56_3
        try clear hfz56_4
        try clear hfz59_0
        try clear hfz59_1
        try clear hfz59_2
        try clear hfz59_3
        try clear hfz59_4
        try clear hfz64_0
        try clear hfz64_1
        try clear hfz64_2
        try clear hfz64_3
        try clear hfz64_4
        try clear hfz67_0
        try clear hfz67_1
        try clear hfz67_2
        try clear hfz67_3
        try clear hfz67_4
        try clear hfz8_0
        try clear hfz8_1
        try clear hfz8_2
        try clear hfz8_3
        try clear hfz8_4
        obtain ⟨kq, x51_15, rfl, HA, HJ15, HO_9, HO_275001, HO_275004, HO_285001, HO_285004, HO_299001, HO_299004, BK250, BK274, BK284, BK298, HB⟩ := hcut
        cases kq with
        | zero => exact absurd HA.out (by simp [laws_FnExactMouthWrite.j0])
        | succ kj15 =>
          have H := HA.out
          clear HA
          simp only [laws_FnExactMouthWrite.j0] at H
          by_cases c69 : x51_15 = true
          · subst c69
            have H1 : (some false) = some r := by rw [if_pos rfl] at H; exact H
            clear H
            have H := H1
            clear H1
            exact absurd (Option.some.inj H) (by rw [HLW.out]; exact Bool.false_ne_true)
          · replace c69 := Bool.eq_false_iff.mpr c69
            subst c69
            have H1 : ((laws_toMouth.f kj15 a0_0 l0_1 a0_2 a0_3 l0_4).bind fun bt300 => ((laws_eqMouth.f kj15 t275 t276 t279 t280 t281 bt300.1 bt300.2.1 bt300.2.2.1 bt300.2.2.2.1 bt300.2.2.2.2).bind fun t309 => (if t309 = true then ((laws_toByteS.f kj15 l1).bind fun t310 => ((laws_eqByteS.f kj15 t285 t310).bind fun t313 => (if t313 = true then ((laws_markMouth.f kj15 t275 t276 t279 t280 t281 1).bind fun bt314 => ((laws_markByteS.f kj15 t285 bt314.1).bind fun bt317 => (if bt317.1 < 0 then (laws_FnExactMouthWrite.j1 kj15 l1 t273 true a0_0 l0_1 a0_2 a0_3 l0_4 t264 t265 t268 t269 t270 t288 t289 t292 t293 t294) else ((laws_eqMouth.f kj15 t288 t289 t292 t293 t294 t264 t265 t268 t269 t270).bind fun t319 => (if t319 = true then (laws_FnExactMouthWrite.j1 kj15 l1 t273 (t297 != t273) a0_0 l0_1 a0_2 a0_3 l0_4 t264 t265 t268 t269 t270 t288 t289 t292 t293 t294) else (laws_FnExactMouthWrite.j1 kj15 l1 t273 true a0_0 l0_1 a0_2 a0_3 l0_4 t264 t265 t268 t269 t270 t288 t289 t292 t293 t294)))))) else (some false)))) else (some false)))) = some r := by rw [if_neg (show ¬ (false = true) by decide)] at H; exact H
            clear H
            have H := H1
            clear H1
            replace H := Option.bind_eq_some_iff.mp H
            obtain ⟨⟨t300, t301, t304, t305, t306⟩, A700, H⟩ := H
            replace H : ((laws_eqMouth.f kj15 t275 t276 t279 t280 t281 t300 t301 t304 t305 t306).bind fun t309 => (if t309 = true then ((laws_toByteS.f kj15 l1).bind fun t310 => ((laws_eqByteS.f kj15 t285 t310).bind fun t313 => (if t313 = true then ((laws_markMouth.f kj15 t275 t276 t279 t280 t281 1).bind fun bt314 => ((laws_markByteS.f kj15 t285 bt314.1).bind fun bt317 => (if bt317.1 < 0 then (laws_FnExactMouthWrite.j1 kj15 l1 t273 true a0_0 l0_1 a0_2 a0_3 l0_4 t264 t265 t268 t269 t270 t288 t289 t292 t293 t294) else ((laws_eqMouth.f kj15 t288 t289 t292 t293 t294 t264 t265 t268 t269 t270).bind fun t319 => (if t319 = true then (laws_FnExactMouthWrite.j1 kj15 l1 t273 (t297 != t273) a0_0 l0_1 a0_2 a0_3 l0_4 t264 t265 t268 t269 t270 t288 t289 t292 t293 t294) else (laws_FnExactMouthWrite.j1 kj15 l1 t273 true a0_0 l0_1 a0_2 a0_3 l0_4 t264 t265 t268 t269 t270 t288 t289 t292 t293 t294)))))) else (some false)))) else (some false))) = some r := H
            have A70 := Aside0.mk A700
            clear A700
            replace H := Option.bind_eq_some_iff.mp H
            obtain ⟨t309, A710, H⟩ := H
            replace H : (if t309 = true then ((laws_toByteS.f kj15 l1).bind fun t310 => ((laws_eqByteS.f kj15 t285 t310).bind fun t313 => (if t313 = true then ((laws_markMouth.f kj15 t275 t276 t279 t280 t281 1).bind fun bt314 => ((laws_markByteS.f kj15 t285 bt314.1).bind fun bt317 => (if bt317.1 < 0 then (laws_FnExactMouthWrite.j1 kj15 l1 t273 true a0_0 l0_1 a0_2 a0_3 l0_4 t264 t265 t268 t269 t270 t288 t289 t292 t293 t294) else ((laws_eqMouth.f kj15 t288 t289 t292 t293 t294 t264 t265 t268 t269 t270).bind fun t319 => (if t319 = true then (laws_FnExactMouthWrite.j1 kj15 l1 t273 (t297 != t273) a0_0 l0_1 a0_2 a0_3 l0_4 t264 t265 t268 t269 t270 t288 t289 t292 t293 t294) else (laws_FnExactMouthWrite.j1 kj15 l1 t273 true a0_0 l0_1 a0_2 a0_3 l0_4 t264 t265 t268 t269 t270 t288 t289 t292 t293 t294)))))) else (some false)))) else (some false)) = some r := H
            have A71 := Aside0.mk A710
            clear A710
            by_cases c72 : t309 = true
            · subst c72
              have H1 : ((laws_toByteS.f kj15 l1).bind fun t310 => ((laws_eqByteS.f kj15 t285 t310).bind fun t313 => (if t313 = true then ((laws_markMouth.f kj15 t275 t276 t279 t280 t281 1).bind fun bt314 => ((laws_markByteS.f kj15 t285 bt314.1).bind fun bt317 => (if bt317.1 < 0 then (laws_FnExactMouthWrite.j1 kj15 l1 t273 true a0_0 l0_1 a0_2 a0_3 l0_4 t264 t265 t268 t269 t270 t288 t289 t292 t293 t294) else ((laws_eqMouth.f kj15 t288 t289 t292 t293 t294 t264 t265 t268 t269 t270).bind fun t319 => (if t319 = true then (laws_FnExactMouthWrite.j1 kj15 l1 t273 (t297 != t273) a0_0 l0_1 a0_2 a0_3 l0_4 t264 t265 t268 t269 t270 t288 t289 t292 t293 t294) else (laws_FnExactMouthWrite.j1 kj15 l1 t273 true a0_0 l0_1 a0_2 a0_3 l0_4 t264 t265 t268 t269 t270 t288 t289 t292 t293 t294)))))) else (some false)))) = some r := by rw [if_pos rfl] at H; exact H
              clear H
              have H := H1
              clear H1
              replace H := Option.bind_eq_some_iff.mp H
              obtain ⟨t310, A730, H⟩ := H
              replace H : ((laws_eqByteS.f kj15 t285 t310).bind fun t313 => (if t313 = true then ((laws_markMouth.f kj15 t275 t276 t279 t280 t281 1).bind fun bt314 => ((laws_markByteS.f kj15 t285 bt314.1).bind fun bt317 => (if bt317.1 < 0 then (laws_FnExactMouthWrite.j1 kj15 l1 t273 true a0_0 l0_1 a0_2 a0_3 l0_4 t264 t265 t268 t269 t270 t288 t289 t292 t293 t294) else ((laws_eqMouth.f kj15 t288 t289 t292 t293 t294 t264 t265 t268 t269 t270).bind fun t319 => (if t319 = true then (laws_FnExactMouthWrite.j1 kj15 l1 t273 (t297 != t273) a0_0 l0_1 a0_2 a0_3 l0_4 t264 t265 t268 t269 t270 t288 t289 t292 t293 t294) else (laws_FnExactMouthWrite.j1 kj15 l1 t273 true a0_0 l0_1 a0_2 a0_3 l0_4 t264 t265 t268 t269 t270 t288 t289 t292 t293 t294)))))) else (some false))) = some r := H
              have A73 := Aside0.mk A730
              clear A730
              replace H := Option.bind_eq_some_iff.mp H
              obtain ⟨t313, A740, H⟩ := H
              replace H : (if t313 = true then ((laws_markMouth.f kj15 t275 t276 t279 t280 t281 1).bind fun bt314 => ((laws_markByteS.f kj15 t285 bt314.1).bind fun bt317 => (if bt317.1 < 0 then (laws_FnExactMouthWrite.j1 kj15 l1 t273 true a0_0 l0_1 a0_2 a0_3 l0_4 t264 t265 t268 t269 t270 t288 t289 t292 t293 t294) else ((laws_eqMouth.f kj15 t288 t289 t292 t293 t294 t264 t265 t268 t269 t270).bind fun t319 => (if t319 = true then (laws_FnExactMouthWrite.j1 kj15 l1 t273 (t297 != t273) a0_0 l0_1 a0_2 a0_3 l0_4 t264 t265 t268 t269 t270 t288 t289 t292 t293 t294) else (laws_FnExactMouthWrite.j1 kj15 l1 t273 true a0_0 l0_1 a0_2 a0_3 l0_4 t264 t265 t268 t269 t270 t288 t289 t292 t293 t294)))))) else (some false)) = some r := H
              have A74 := Aside0.mk A740
              clear A740
              by_cases c75 : t313 = true
              · subst c75
                have H1 : ((laws_markMouth.f kj15 t275 t276 t279 t280 t281 1).bind fun bt314 => ((laws_markByteS.f kj15 t285 bt314.1).bind fun bt317 => (if bt317.1 < 0 then (laws_FnExactMouthWrite.j1 kj15 l1 t273 true a0_0 l0_1 a0_2 a0_3 l0_4 t264 t265 t268 t269 t270 t288 t289 t292 t293 t294) else ((laws_eqMouth.f kj15 t288 t289 t292 t293 t294 t264 t265 t268 t269 t270).bind fun t319 => (if t319 = true then (laws_FnExactMouthWrite.j1 kj15 l1 t273 (t297 != t273) a0_0 l0_1 a0_2 a0_3 l0_4 t264 t265 t268 t269 t270 t288 t289 t292 t293 t294) else (laws_FnExactMouthWrite.j1 kj15 l1 t273 true a0_0 l0_1 a0_2 a0_3 l0_4 t264 t265 t268 t269 t270 t288 t289 t292 t293 t294)))))) = some r := by rw [if_pos rfl] at H; exact H
                clear H
                have H := H1
                clear H1
                replace H := Option.bind_eq_some_iff.mp H
                obtain ⟨⟨t314, t315, t316⟩, A760, H⟩ := H
                replace H : ((laws_markByteS.f kj15 t285 t314).bind fun bt317 => (if bt317.1 < 0 then (laws_FnExactMouthWrite.j1 kj15 l1 t273 true a0_0 l0_1 a0_2 a0_3 l0_4 t264 t265 t268 t269 t270 t288 t289 t292 t293 t294) else ((laws_eqMouth.f kj15 t288 t289 t292 t293 t294 t264 t265 t268 t269 t270).bind fun t319 => (if t319 = true then (laws_FnExactMouthWrite.j1 kj15 l1 t273 (t297 != t273) a0_0 l0_1 a0_2 a0_3 l0_4 t264 t265 t268 t269 t270 t288 t289 t292 t293 t294) else (laws_FnExactMouthWrite.j1 kj15 l1 t273 true a0_0 l0_1 a0_2 a0_3 l0_4 t264 t265 t268 t269 t270 t288 t289 t292 t293 t294))))) = some r := H
                have A76 := Aside0.mk A760
                clear A760
                replace H := Option.bind_eq_some_iff.mp H
                obtain ⟨⟨t317, t318⟩, A770, H⟩ := H
                replace H : (if t317 < 0 then (laws_FnExactMouthWrite.j1 kj15 l1 t273 true a0_0 l0_1 a0_2 a0_3 l0_4 t264 t265 t268 t269 t270 t288 t289 t292 t293 t294) else ((laws_eqMouth.f kj15 t288 t289 t292 t293 t294 t264 t265 t268 t269 t270).bind fun t319 => (if t319 = true then (laws_FnExactMouthWrite.j1 kj15 l1 t273 (t297 != t273) a0_0 l0_1 a0_2 a0_3 l0_4 t264 t265 t268 t269 t270 t288 t289 t292 t293 t294) else (laws_FnExactMouthWrite.j1 kj15 l1 t273 true a0_0 l0_1 a0_2 a0_3 l0_4 t264 t265 t268 t269 t270 t288 t289 t292 t293 t294)))) = some r := H
                have A77 := Aside0.mk A770
                clear A770
                have HC78 := Aside0.mk H
                clear H
                try go_wp2
                have n0_ := Aside0.mk (Kd.R_drew HO_9.out)
                have n1_ := Aside0.mk (Kd.R_drew HO_275001.out)
                have n2_ := Aside0.mk (Kd.R_drew HO_275004.out)
                have n3_ := Aside0.mk (Kd.R_drew HO_285001.out)
                have n4_ := Aside0.mk (Kd.R_drew HO_285004.out)
                have n5_ := Aside0.mk (Kd.R_drew HO_299001.out)
                have n6_ := Aside0.mk (Kd.R_drew HO_299004.out)
                have n7_ := Aside0.mk (blk_drew BK250.out)
                have n8_ := Aside0.mk (blk_drew BK274.out)
                have n9_ := Aside0.mk (blk_drew BK284.out)
                have n10_ := Aside0.mk (blk_drew BK298.out)
                have n11_ := Aside0.mk (below_drew1 HB.out)
                clear HO_9
                clear HO_275001
                clear HO_275004
                clear HO_285001
                clear HO_285004
                clear HO_299001
                clear HO_299004
                clear BK250
                clear BK274
                clear BK284
                clear BK298
                clear HB
                have HO_9 := n0_
                have HO_275001 := n1_
                have HO_275004 := n2_
                have HO_285001 := n3_
                have HO_285004 := n4_
                have HO_299001 := n5_
                have HO_299004 := n6_
                have BK250 := n7_
                have BK274 := n8_
                have BK284 := n9_
                have BK298 := n10_
                have HB := n11_
                clear n0_ n1_ n2_ n3_ n4_ n5_ n6_ n7_ n8_ n9_ n10_ n11_
                refine start_ (n := 5) (S := fun w' => w'.cell? ⟨gb284, 0, none⟩ = some (.int .i64 t275) ∧ w'.cell? ⟨gb284, 1, none⟩ = some (.slice Ao38 t276.length co38) ∧ w'.cell? ⟨gb284, 2, none⟩ = some (.int .i64 t279) ∧ w'.cell? ⟨gb284, 3, none⟩ = some (.int .i64 t280) ∧ w'.cell? ⟨gb284, 4, none⟩ = some (.slice Ao39 t281.length co39) ∧ w'.cell? ⟨gb250, 0, none⟩ = some (.int .i64 a0_0) ∧ w'.cell? ⟨gb250, 1, none⟩ = some (.slice A0_1 l0_1.length c0_1) ∧ w'.cell? ⟨gb250, 2, none⟩ = some (.int .i64 a0_2) ∧ w'.cell? ⟨gb250, 3, none⟩ = some (.int .i64 a0_3) ∧ w'.cell? ⟨gb250, 4, none⟩ = some (.slice A0_4 l0_4.length c0_4)) (ds := []) #[false, false, false, false, false] (by kernel_rfl) rfl rfl ⟨(blk_cell BK284.out 0).trans rfl, (blk_cell BK284.out 1).trans rfl, (blk_cell BK284.out 2).trans rfl, (blk_cell BK284.out 3).trans rfl, (blk_cell BK284.out 4).trans rfl, (blk_cell BK250.out 0).trans rfl, (blk_cell BK250.out 1).trans rfl, (blk_cell BK250.out 2).trans rfl, (blk_cell BK250.out 3).trans rfl, (blk_cell BK250.out 4).trans rfl⟩ (fun hHeld => ?_)
                generalize wc.drew = w79 at HO_9 HO_275001 HO_275004 HO_285001 HO_285004 HO_299001 HO_299004 BK250 BK274 BK284 BK298 HB hHeld ⊢
                refine take_ (i := 0) (N := some 52) (v := ?_) (a' := ?_) #[true, false, false, false, false] rfl rfl (by kernel_rfl) (fun _ _ _ h => h) (Or.inl ⟨by rfl, ?_⟩) hHeld ?_ ?_
                rotate_left
                · rintro w' ⟨s0, s1, s2, s3, s4, s5, s6, s7, s8, s9⟩
                  go_simp
                  with_reducible rfl
                rotate_left
                · simp only [Act.put, List.setIfInBounds_toArray, List.set_cons_zero, List.set_cons_succ, i64_w, i32_w]
                  rfl
                refine take_ (i := 1) (N := some 53) (v := ?_) (a' := ?_) #[true, true, false, false, false] rfl rfl (by kernel_rfl) (fun _ _ _ h => h) (Or.inl ⟨by rfl, ?_⟩) hHeld ?_ ?_
                rotate_left
                · rintro w' ⟨s0, s1, s2, s3, s4, s5, s6, s7, s8, s9⟩
                  go_simp
                  with_reducible rfl
                rotate_left
                · simp only [Act.put, List.setIfInBounds_toArray, List.set_cons_zero, List.set_cons_succ, i64_w, i32_w]
                  rfl
                refine one_ (i := 2) (N := some 54) #[true, true, true, false, false] rfl rfl (by kernel_rfl) (by decide) (fun K hK => ?_)
                refine goes_ Try.func16 (by kernel_rfl) rfl #[.agg #[.int .i64 a0_0, .slice A0_1 l0_1.length c0_1, .int .i64 a0_2, .int .i64 a0_3, .slice A0_4 l0_4.length c0_4]] (by rfl) rfl rfl ar_ ?_
                with_reducible refine (laws_toMouth.calls kj15 a0_0 _ _ l0_1 a0_2 a0_3 _ _ l0_4 t300 t301 t304 t305 t306 _ ?side1 ?side2 ?side3 ?side4 A70.out).mono ?_
                (case side1 => exact kC_ (Kd.C_below HR0_1.out HB.out))
                (case side2 => exact HC0_1.out)
                (case side3 => exact kC_ (Kd.C_below HR0_4.out HB.out))
                (case side4 => exact HC0_4.out)
                rintro e w80 ⟨v302, v307, rfl, ho0, ho1, hb⟩
                refine ⟨_, rfl, ?_⟩
                have n0_ := Aside0.mk (Kd.R_elder' (kR_ HO_9.out) (Kd.R_base ho0) hb)
                have n1_ := Aside0.mk (Kd.R_elder' (kR_ HO_275001.out) (Kd.R_base ho0) hb)
                have n2_ := Aside0.mk (Kd.R_elder' (kR_ HO_275004.out) (Kd.R_base ho1) hb)
                have n3_ := Aside0.mk (Kd.R_elder' (kR_ HO_285001.out) (Kd.R_base ho0) hb)
                have n4_ := Aside0.mk (Kd.R_elder' (kR_ HO_285004.out) (Kd.R_base ho1) hb)
                have n5_ := Aside0.mk (Kd.R_elder' (kR_ HO_299001.out) (Kd.R_base ho0) hb)
                have n6_ := Aside0.mk (Kd.R_elder' (kR_ HO_299004.out) (Kd.R_base ho1) hb)
                have n7_ := Aside0.mk (Kd.R_lower (Kd.R_new' (Kd.R_new' (Kd.R_new' (Kd.R_new' ho0 (Kd.R_lt (kR_ HO_9.out))) (Kd.R_lt (kR_ HO_275001.out))) (Kd.R_lt (kR_ HO_285001.out))) (Kd.R_lt (kR_ HO_299001.out))) (below_size (hb4_ HB.out GE250.out GE274.out GE284.out GE298.out)))
                have n8_ := Aside0.mk (Kd.R_lower (Kd.R_new' (Kd.R_new' (Kd.R_new' ho1 (Kd.R_lt (kR_ HO_275004.out))) (Kd.R_lt (kR_ HO_285004.out))) (Kd.R_lt (kR_ HO_299004.out))) (below_size (hb4_ HB.out GE250.out GE274.out GE284.out GE298.out)))
                have n9_ := Aside0.mk (blk_below (g := gb250) (o := .cells #[.int .i64 a0_0, .slice A0_1 l0_1.length c0_1, .int .i64 a0_2, .int .i64 a0_3, .slice A0_4 l0_4.length c0_4] 37 (0, 0)) (kb_ BK250.out) hb)
                have n10_ := Aside0.mk (blk_below (g := gb274) (o := .cells #[.int .i64 t264, .slice Ao30 t265.length co30, .int .i64 t268, .int .i64 t269, .slice Ao31 t270.length co31] 25 (0, 0)) (kb_ BK274.out) hb)
                have n11_ := Aside0.mk (blk_below (g := gb284) (o := .cells #[.int .i64 t275, .slice Ao38 t276.length co38, .int .i64 t279, .int .i64 t280, .slice Ao39 t281.length co39] 25 (0, 0)) (kb_ BK284.out) hb)
                have n12_ := Aside0.mk (blk_below (g := gb298) (o := .cells #[.int .i64 t288, .slice Ao49 t289.length co49, .int .i64 t292, .int .i64 t293, .slice Ao50 t294.length co50] 25 (0, 0)) (kb_ BK298.out) hb)
                have n13_ := Aside0.mk (below_step (hb4_ HB.out GE250.out GE274.out GE284.out GE298.out) hb)
                clear HO_9
                clear HO_275001
                clear HO_275004
                clear HO_285001
                clear HO_285004
                clear HO_299001
                clear HO_299004
                clear BK250
                clear BK274
                clear BK284
                clear BK298
                clear HB
                have HO_9 := n0_
                have HO_275001 := n1_
                have HO_275004 := n2_
                have HO_285001 := n3_
                have HO_285004 := n4_
                have HO_299001 := n5_
                have HO_299004 := n6_
                have HO303 := n7_
                have HO308 := n8_
                have BK250 := n9_
                have BK274 := n10_
                have BK284 := n11_
                have BK298 := n12_
                have HB := n13_
                clear n0_ n1_ n2_ n3_ n4_ n5_ n6_ n7_ n8_ n9_ n10_ n11_ n12_ n13_
                (try clear hb)
                (try clear hb2)
                (try clear hk)
                (try clear hi)
                (try clear ho0)
                (try clear ho1)
                obtain ⟨Ao81, co81, eo81⟩ := Kd.R_slice HO303.out
                (first | subst eo81 | (injection eo81 with f1_ f2_ f3_; have f4_ := f1_.symm; have f5_ := f3_.symm; clear f1_ f2_ f3_; subst f4_; subst f5_))
                obtain ⟨Ao82, co82, eo82⟩ := Kd.R_slice HO308.out
                (first | subst eo82 | (injection eo82 with f1_ f2_ f3_; have f4_ := f1_.symm; have f5_ := f3_.symm; clear f1_ f2_ f3_; subst f4_; subst f5_))
                refine hK.out _ _ ⟨(blk_cell BK284.out 0).trans rfl, (blk_cell BK284.out 1).trans rfl, (blk_cell BK284.out 2).trans rfl, (blk_cell BK284.out 3).trans rfl, (blk_cell BK284.out 4).trans rfl, (blk_cell BK250.out 0).trans rfl, (blk_cell BK250.out 1).trans rfl, (blk_cell BK250.out 2).trans rfl, (blk_cell BK250.out 3).trans rfl, (blk_cell BK250.out 4).trans rfl⟩ (fun hHeld => ?_)
                clear hK K
                refine norm_ (a' := ?_) ?_ ?_
                rotate_left
                · show Act.put _ (some 54) _ = _
                  simp only [Act.put, List.setIfInBounds_toArray, List.set_cons_zero, List.set_cons_succ, i64_w, i32_w]
                  rfl
                refine one_ (i := 3) (N := some 55) #[true, true, true, true, false] rfl rfl (by kernel_rfl) (by decide) (fun K hK => ?_)
                refine goes_ Try.func19 (by kernel_rfl) rfl #[.agg #[.int .i64 t275, .slice Ao38 t276.length co38, .int .i64 t279, .int .i64 t280, .slice Ao39 t281.length co39], .agg #[.int .i64 t300, .slice Ao81 t301.length co81, .int .i64 t304, .int .i64 t305, .slice Ao82 t306.length co82]] (by rfl) rfl rfl ar_ ?_
                with_reducible refine (laws_eqMouth.calls kj15 t275 _ _ t276 t279 t280 _ _ t281 t300 _ _ t301 t304 t305 _ _ t306 true _ ?side1 ?side2 ?side3 ?side4 ?side5 ?side6 ?side7 ?side8 A71.out).mono ?_
                (case side1 => exact kC_ (Kd.R_reads' HO_285001.out).2.2)
                (case side2 => exact (Kd.R_reads' HO_285001.out).2.1)
                (case side3 => exact kC_ (Kd.R_reads' HO_285004.out).2.2)
                (case side4 => exact (Kd.R_reads' HO_285004.out).2.1)
                (case side5 => exact kC_ (Kd.R_reads' HO303.out).2.2)
                (case side6 => exact (Kd.R_reads' HO303.out).2.1)
                (case side7 => exact kC_ (Kd.R_reads' HO308.out).2.2)
                (case side8 => exact (Kd.R_reads' HO308.out).2.1)
                rintro e w83 ⟨rfl, hb⟩
                refine ⟨_, rfl, ?_⟩
                have n0_ := Aside0.mk (Kd.R_below (kR_ HO_9.out) hb)
                have n1_ := Aside0.mk (Kd.R_below (kR_ HO_275001.out) hb)
                have n2_ := Aside0.mk (Kd.R_below (kR_ HO_275004.out) hb)
                have n3_ := Aside0.mk (Kd.R_below (kR_ HO_285001.out) hb)
                have n4_ := Aside0.mk (Kd.R_below (kR_ HO_285004.out) hb)
                have n5_ := Aside0.mk (Kd.R_below (kR_ HO_299001.out) hb)
                have n6_ := Aside0.mk (Kd.R_below (kR_ HO_299004.out) hb)
                have n7_ := Aside0.mk (Kd.R_below (kR_ HO303.out) hb)
                have n8_ := Aside0.mk (Kd.R_below (kR_ HO308.out) hb)
                have n9_ := Aside0.mk (blk_below (g := gb250) (o := .cells #[.int .i64 a0_0, .slice A0_1 l0_1.length c0_1, .int .i64 a0_2, .int .i64 a0_3, .slice A0_4 l0_4.length c0_4] 37 (0, 0)) (kb_ BK250.out) hb)
                have n10_ := Aside0.mk (blk_below (g := gb274) (o := .cells #[.int .i64 t264, .slice Ao30 t265.length co30, .int .i64 t268, .int .i64 t269, .slice Ao31 t270.length co31] 25 (0, 0)) (kb_ BK274.out) hb)
                have n11_ := Aside0.mk (blk_below (g := gb284) (o := .cells #[.int .i64 t275, .slice Ao38 t276.length co38, .int .i64 t279, .int .i64 t280, .slice Ao39 t281.length co39] 25 (0, 0)) (kb_ BK284.out) hb)
                have n12_ := Aside0.mk (blk_below (g := gb298) (o := .cells #[.int .i64 t288, .slice Ao49 t289.length co49, .int .i64 t292, .int .i64 t293, .slice Ao50 t294.length co50] 25 (0, 0)) (kb_ BK298.out) hb)
                have n13_ := Aside0.mk (below_step (hb4_ HB.out GE250.out GE274.out GE284.out GE298.out) hb)
                clear HO_9
                clear HO_275001
                clear HO_275004
                clear HO_285001
                clear HO_285004
                clear HO_299001
                clear HO_299004
                clear HO303
                clear HO308
                clear BK250
                clear BK274
                clear BK284
                clear BK298
                clear HB
                have HO_9 := n0_
                have HO_275001 := n1_
                have HO_275004 := n2_
                have HO_285001 := n3_
                have HO_285004 := n4_
                have HO_299001 := n5_
                have HO_299004 := n6_
                have HO303 := n7_
                have HO308 := n8_
                have BK250 := n9_
                have BK274 := n10_
                have BK284 := n11_
                have BK298 := n12_
                have HB := n13_
                clear n0_ n1_ n2_ n3_ n4_ n5_ n6_ n7_ n8_ n9_ n10_ n11_ n12_ n13_
                (try clear hb)
                (try clear hb2)
                (try clear hk)
                (try clear hi)
                refine hK.out _ _ ⟨(blk_cell BK284.out 0).trans rfl, (blk_cell BK284.out 1).trans rfl, (blk_cell BK284.out 2).trans rfl, (blk_cell BK284.out 3).trans rfl, (blk_cell BK284.out 4).trans rfl, (blk_cell BK250.out 0).trans rfl, (blk_cell BK250.out 1).trans rfl, (blk_cell BK250.out 2).trans rfl, (blk_cell BK250.out 3).trans rfl, (blk_cell BK250.out 4).trans rfl⟩ (fun hHeld => ?_)
                clear hK K
                refine norm_ (a' := ?_) ?_ ?_
                rotate_left
                · show Act.put _ (some 55) _ = _
                  simp only [Act.put, List.setIfInBounds_toArray, List.set_cons_zero, List.set_cons_succ, i64_w, i32_w]
                  rfl
                refine pure_ (i := 4) (N := some 56) (v := ?_) (a' := ?_) #[true, true, true, true, true] rfl rfl (by kernel_rfl) (fun _ _ _ h => h) (Or.inl ⟨by rfl, ?_⟩) ?_ ?_
                rotate_left
                · intro w'
                  go_simp
                  with_reducible rfl
                rotate_left
                · simp only [Act.put, List.setIfInBounds_toArray, List.set_cons_zero, List.set_cons_succ, i64_w, i32_w]
                  rfl
                refine done_ (by kernel_rfl) ?_
                go_upto_region 20 with (first | ((with_reducible refine gate_callee (f := 24) rfl ?_); refine goesL_ (some 59) rfl rfl Try.func24 (by kernel_rfl) rfl #[.slice A1 l1.length c1] rfl ar_ ?_; (with_reducible refine (laws_toByteS.calls kj15 _ _ l1 t310 _ ?side1 ?side2 A73.out).mono ?_); (case side1 => exact kC_ (Kd.C_below HR1.out HB.out)); (case side2 => exact HC1.out); rintro e w84 ⟨v311, rfl, ho0, hb⟩; refine ⟨_, rfl, ?_⟩; have n0_ := Aside0.mk (Kd.R_elder' (kR_ HO_9.out) (Kd.R_base ho0) hb); have n1_ := Aside0.mk (Kd.R_elder' (kR_ HO_275001.out) (Kd.R_base ho0) hb); have n2_ := Aside0.mk (Kd.R_below (kR_ HO_275004.out) hb); have n3_ := Aside0.mk (Kd.R_elder' (kR_ HO_285001.out) (Kd.R_base ho0) hb); have n4_ := Aside0.mk (Kd.R_below (kR_ HO_285004.out) hb); have n5_ := Aside0.mk (Kd.R_elder' (kR_ HO_299001.out) (Kd.R_base ho0) hb); have n6_ := Aside0.mk (Kd.R_below (kR_ HO_299004.out) hb); have n7_ := Aside0.mk (Kd.R_elder' (kR_ HO303.out) (Kd.R_base ho0) hb); have n8_ := Aside0.mk (Kd.R_below (kR_ HO308.out) hb); have n9_ := Aside0.mk (Kd.R_lower (Kd.R_new' (Kd.R_new' (Kd.R_new' (Kd.R_new' (Kd.R_new' ho0 (Kd.R_lt (kR_ HO_9.out))) (Kd.R_lt (kR_ HO_275001.out))) (Kd.R_lt (kR_ HO_285001.out))) (Kd.R_lt (kR_ HO_299001.out))) (Kd.R_lt (kR_ HO303.out))) (below_size (hb4_ HB.out GE250.out GE274.out GE284.out GE298.out))); have n10_ := Aside0.mk (blk_below (g := gb250) (o := .cells #[.int .i64 a0_0, .slice A0_1 l0_1.length c0_1, .int .i64 a0_2, .int .i64 a0_3, .slice A0_4 l0_4.length c0_4] 37 (0, 0)) (kb_ BK250.out) hb); have n11_ := Aside0.mk (blk_below (g := gb274) (o := .cells #[.int .i64 t264, .slice Ao30 t265.length co30, .int .i64 t268, .int .i64 t269, .slice Ao31 t270.length co31] 25 (0, 0)) (kb_ BK274.out) hb); have n12_ := Aside0.mk (blk_below (g := gb284) (o := .cells #[.int .i64 t275, .slice Ao38 t276.length co38, .int .i64 t279, .int .i64 t280, .slice Ao39 t281.length co39] 25 (0, 0)) (kb_ BK284.out) hb); have n13_ := Aside0.mk (blk_below (g := gb298) (o := .cells #[.int .i64 t288, .slice Ao49 t289.length co49, .int .i64 t292, .int .i64 t293, .slice Ao50 t294.length co50] 25 (0, 0)) (kb_ BK298.out) hb); have n14_ := Aside0.mk (below_step (hb4_ HB.out GE250.out GE274.out GE284.out GE298.out) hb); clear HO_9; clear HO_275001; clear HO_275004; clear HO_285001; clear HO_285004; clear HO_299001; clear HO_299004; clear HO303; clear HO308; clear BK250; clear BK274; clear BK284; clear BK298; clear HB; have HO_9 := n0_; have HO_275001 := n1_; have HO_275004 := n2_; have HO_285001 := n3_; have HO_285004 := n4_; have HO_299001 := n5_; have HO_299004 := n6_; have HO303 := n7_; have HO308 := n8_; have HO312 := n9_; have BK250 := n10_; have BK274 := n11_; have BK284 := n12_; have BK298 := n13_; have HB := n14_; clear n0_ n1_ n2_ n3_ n4_ n5_ n6_ n7_ n8_ n9_ n10_ n11_ n12_ n13_ n14_; (try clear hb); (try clear hb2); (try clear hk); (try clear hi); (try clear ho0); obtain ⟨Ao85, co85, eo85⟩ := Kd.R_slice HO312.out; subst eo85) | ((with_reducible refine gate_callee (f := 25) rfl ?_); refine goesL_ (some 60) rfl rfl Try.func25 (by kernel_rfl) rfl #[.slice Ao42 t285.length co42, .slice Ao85 t310.length co85] rfl ar_ ?_; (with_reducible refine (laws_eqByteS.calls kj15 _ _ t285 _ _ t310 true _ ?side1 ?side2 ?side3 ?side4 A74.out).mono ?_); (case side1 => exact kC_ (Kd.R_reads' HO_9.out).2.2); (case side2 => exact (Kd.R_reads' HO_9.out).2.1); (case side3 => exact kC_ (Kd.R_reads' HO312.out).2.2); (case side4 => exact (Kd.R_reads' HO312.out).2.1); rintro e w' ⟨rfl, ⟨nd, rfl⟩⟩; refine ⟨_, rfl, ?_⟩; have hnb86 := NB284_250.out; have hnc86 := NB250_284.out; have hnb87 := NB284_274.out; have hnc87 := NB274_284.out; have hnb88 := NB284_298.out; have hnc88 := NB298_284.out; have hcz89_0 : w84.cell? ⟨gb284, 0, none⟩ = some (.int .i64 t275) := (blk_cell BK284.out 0).trans rfl; have hcz89_1 : w84.cell? ⟨gb284, 1, none⟩ = some (.slice Ao38 t276.length co38) := (blk_cell BK284.out 1).trans rfl; have hcz89_2 : w84.cell? ⟨gb284, 2, none⟩ = some (.int .i64 t279) := (blk_cell BK284.out 2).trans rfl; have hcz89_3 : w84.cell? ⟨gb284, 3, none⟩ = some (.int .i64 t280) := (blk_cell BK284.out 3).trans rfl; have hcz89_4 : w84.cell? ⟨gb284, 4, none⟩ = some (.slice Ao39 t281.length co39) := (blk_cell BK284.out 4).trans rfl; have hfz89_0 := blk_frozen BK284.out 0; have hfz89_1 := blk_frozen BK284.out 1; have hfz89_2 := blk_frozen BK284.out 2; have hfz89_3 := blk_frozen BK284.out 3; have hfz89_4 := blk_frozen BK284.out 4) | ((with_reducible refine gate_callee (f := 21) rfl ?_); refine goesL_ (some 64) rfl rfl Try.func21 (by kernel_rfl) rfl #[.agg #[.int .i64 t275, .slice Ao38 t276.length co38, .int .i64 t279, .int .i64 t280, .slice Ao39 t281.length co39], .int .i64 1] rfl ar_ ?_; (with_reducible refine (laws_markMouth.calls kj15 t275 (fun k_ => some k_ = (.slice Ao38 t276.length co38 : Value).ownBlock) (.slice Ao38 t276.length co38) t276 t279 t280 (fun k_ => some k_ = (.slice Ao39 t281.length co39 : Value).ownBlock) (.slice Ao39 t281.length co39) t281 1 t314 t315 t316 w _ ?side1 ?side2 ?side3 A76.out).mono ?_); (case side1 => repeat (first | (with_reducible first | exact HB.out | apply below_alloc | apply pw_below_drewN | apply below_drew1 | refine below_set ?_ GE250.out | refine below_set ?_ GE274.out | refine below_set ?_ GE284.out | refine below_set ?_ GE298.out) | exact HB.out)); (case side2 => exact Kd.R_tight rfl HO_285001.out); (case side3 => exact Kd.R_tight rfl HO_285004.out); rintro e w90 ⟨rfl, hy0, hy1, hb, hkp⟩; refine ⟨_, rfl, ?_⟩; have n0_ := Aside0.mk (Kd.R_mono (ok' := fun k_ => some k_ ≠ (.slice Ao30 t265.length co30 : Value).ownBlock ∧ some k_ ≠ (.slice Ao38 t276.length co38 : Value).ownBlock ∧ some k_ ≠ (.slice Ao49 t289.length co49 : Value).ownBlock ∧ some k_ ≠ (.slice Ao81 t301.length co81 : Value).ownBlock ∧ some k_ ≠ (.slice Ao85 t310.length co85 : Value).ownBlock) (Kd.R_keptB ((Kd.R_apart' HO_9.out (Kd.R_typed HO_285004.out) (by decide))) hkp (fun k_ hk_ hs_ => Or.elim hs_ (fun e_ => (hk_.1.1.1.2.1) e_) (fun e_ => (hk_.2) e_))) (fun k_ hk_ => ⟨hk_.1.1.1.1.1, hk_.1.1.1.1.2.1, hk_.1.1.1.1.2.2, hk_.1.1.1.2, hk_.1.1.2⟩)); have n1_ := Aside0.mk (Kd.R_mono (ok' := fun k_ => some k_ ≠ (.slice Ao42 t285.length co42 : Value).ownBlock ∧ some k_ ≠ (.slice Ao38 t276.length co38 : Value).ownBlock ∧ some k_ ≠ (.slice Ao49 t289.length co49 : Value).ownBlock ∧ some k_ ≠ (.slice Ao81 t301.length co81 : Value).ownBlock ∧ some k_ ≠ (.slice Ao85 t310.length co85 : Value).ownBlock) (Kd.R_keptB ((Kd.R_apart' HO_275001.out (Kd.R_typed HO_285004.out) (by decide))) hkp (fun k_ hk_ hs_ => Or.elim hs_ (fun e_ => (hk_.1.1.1.2.1) e_) (fun e_ => (hk_.2) e_))) (fun k_ hk_ => ⟨hk_.1.1.1.1.1, hk_.1.1.1.1.2.1, hk_.1.1.1.1.2.2, hk_.1.1.1.2, hk_.1.1.2⟩)); have n2_ := Aside0.mk (Kd.R_mono (ok' := fun k_ => some k_ ≠ (.slice Ao39 t281.length co39 : Value).ownBlock ∧ some k_ ≠ (.slice Ao50 t294.length co50 : Value).ownBlock ∧ some k_ ≠ (.slice Ao82 t306.length co82 : Value).ownBlock) (Kd.R_keptB ((Kd.R_apart' HO_275004.out (Kd.R_typed HO_285001.out) (by decide))) hkp (fun k_ hk_ hs_ => Or.elim hs_ (fun e_ => (hk_.2) e_) (fun e_ => (hk_.1.1.1) e_))) (fun k_ hk_ => ⟨hk_.1.1.1.1, hk_.1.1.1.2, hk_.1.1.2⟩)); have n3_ := Aside0.mk (Kd.R_reok rfl hy0 (fun k_ e_ => HO_285001.out.1 k_ e_)); have n4_ := Aside0.mk (Kd.R_reok rfl hy1 (fun k_ e_ => HO_285004.out.1 k_ e_)); have n5_ := Aside0.mk (Kd.R_mono (ok' := fun k_ => some k_ ≠ (.slice Ao42 t285.length co42 : Value).ownBlock ∧ some k_ ≠ (.slice Ao30 t265.length co30 : Value).ownBlock ∧ some k_ ≠ (.slice Ao38 t276.length co38 : Value).ownBlock ∧ some k_ ≠ (.slice Ao81 t301.length co81 : Value).ownBlock ∧ some k_ ≠ (.slice Ao85 t310.length co85 : Value).ownBlock) (Kd.R_keptB ((Kd.R_apart' HO_299001.out (Kd.R_typed HO_285004.out) (by decide))) hkp (fun k_ hk_ hs_ => Or.elim hs_ (fun e_ => (hk_.1.1.1.2.2) e_) (fun e_ => (hk_.2) e_))) (fun k_ hk_ => ⟨hk_.1.1.1.1.1, hk_.1.1.1.1.2.1, hk_.1.1.1.1.2.2, hk_.1.1.1.2, hk_.1.1.2⟩)); have n6_ := Aside0.mk (Kd.R_mono (ok' := fun k_ => some k_ ≠ (.slice Ao31 t270.length co31 : Value).ownBlock ∧ some k_ ≠ (.slice Ao39 t281.length co39 : Value).ownBlock ∧ some k_ ≠ (.slice Ao82 t306.length co82 : Value).ownBlock) (Kd.R_keptB ((Kd.R_apart' HO_299004.out (Kd.R_typed HO_285001.out) (by decide))) hkp (fun k_ hk_ hs_ => Or.elim hs_ (fun e_ => (hk_.2) e_) (fun e_ => (hk_.1.1.2) e_))) (fun k_ hk_ => ⟨hk_.1.1.1.1, hk_.1.1.1.2, hk_.1.1.2⟩)); have n7_ := Aside0.mk (blk_kept (g := gb250) (o := .cells #[.int .i64 a0_0, .slice A0_1 l0_1.length c0_1, .int .i64 a0_2, .int .i64 a0_3, .slice A0_4 l0_4.length c0_4] 37 (0, 0)) (kb_ BK250.out) hkp (fun hs_ => Or.elim hs_ (fun e_ => (fun e_ => (Kd.R_ne HO_285001.out BK250.out (by decide)) e_) e_) (fun e_ => (fun e_ => (Kd.R_ne HO_285004.out BK250.out (by decide)) e_) e_))); have n8_ := Aside0.mk (blk_kept (g := gb274) (o := .cells #[.int .i64 t264, .slice Ao30 t265.length co30, .int .i64 t268, .int .i64 t269, .slice Ao31 t270.length co31] 25 (0, 0)) (kb_ BK274.out) hkp (fun hs_ => Or.elim hs_ (fun e_ => (fun e_ => (Kd.R_ne HO_285001.out BK274.out (by decide)) e_) e_) (fun e_ => (fun e_ => (Kd.R_ne HO_285004.out BK274.out (by decide)) e_) e_))); have n9_ := Aside0.mk (blk_kept (g := gb284) (o := .cells #[.int .i64 t275, .slice Ao38 t276.length co38, .int .i64 t279, .int .i64 t280, .slice Ao39 t281.length co39] 25 (0, 0)) (kb_ BK284.out) hkp (fun hs_ => Or.elim hs_ (fun e_ => (fun e_ => (Kd.R_ne HO_285001.out BK284.out (by decide)) e_) e_) (fun e_ => (fun e_ => (Kd.R_ne HO_285004.out BK284.out (by decide)) e_) e_))); have n10_ := Aside0.mk (blk_kept (g := gb298) (o := .cells #[.int .i64 t288, .slice Ao49 t289.length co49, .int .i64 t292, .int .i64 t293, .slice Ao50 t294.length co50] 25 (0, 0)) (kb_ BK298.out) hkp (fun hs_ => Or.elim hs_ (fun e_ => (fun e_ => (Kd.R_ne HO_285001.out BK298.out (by decide)) e_) e_) (fun e_ => (fun e_ => (Kd.R_ne HO_285004.out BK298.out (by decide)) e_) e_))); have n11_ := Aside0.mk (Kd.R_mono (ok' := fun k_ => some k_ ≠ (.slice Ao42 t285.length co42 : Value).ownBlock ∧ some k_ ≠ (.slice Ao30 t265.length co30 : Value).ownBlock ∧ some k_ ≠ (.slice Ao38 t276.length co38 : Value).ownBlock ∧ some k_ ≠ (.slice Ao49 t289.length co49 : Value).ownBlock ∧ some k_ ≠ (.slice Ao85 t310.length co85 : Value).ownBlock) (Kd.R_keptB ((Kd.R_apart' HO303.out (Kd.R_typed HO_285004.out) (by decide))) hkp (fun k_ hk_ hs_ => Or.elim hs_ (fun e_ => (hk_.1.1.1.2) e_) (fun e_ => (hk_.2) e_))) (fun k_ hk_ => ⟨hk_.1.1.1.1.1.1.2, hk_.1.1.1.1.1.2, hk_.1.1.1.1.2, hk_.1.1.1.2, hk_.1.1.2⟩)); have n12_ := Aside0.mk (Kd.R_mono (ok' := fun k_ => some k_ ≠ (.slice Ao31 t270.length co31 : Value).ownBlock ∧ some k_ ≠ (.slice Ao39 t281.length co39 : Value).ownBlock ∧ some k_ ≠ (.slice Ao50 t294.length co50 : Value).ownBlock) (Kd.R_keptB ((Kd.R_apart' HO308.out (Kd.R_typed HO_285001.out) (by decide))) hkp (fun k_ hk_ hs_ => Or.elim hs_ (fun e_ => (hk_.2) e_) (fun e_ => (hk_.1.1.2) e_))) (fun k_ hk_ => ⟨hk_.1.1.1.1.2, hk_.1.1.1.2, hk_.1.1.2⟩)); have n13_ := Aside0.mk (Kd.R_mono (ok' := fun k_ => some k_ ≠ (.slice Ao42 t285.length co42 : Value).ownBlock ∧ some k_ ≠ (.slice Ao30 t265.length co30 : Value).ownBlock ∧ some k_ ≠ (.slice Ao38 t276.length co38 : Value).ownBlock ∧ some k_ ≠ (.slice Ao49 t289.length co49 : Value).ownBlock ∧ some k_ ≠ (.slice Ao81 t301.length co81 : Value).ownBlock) (Kd.R_keptB ((Kd.R_apart' HO312.out (Kd.R_typed HO_285004.out) (by decide))) hkp (fun k_ hk_ hs_ => Or.elim hs_ (fun e_ => (hk_.1.1.1.2) e_) (fun e_ => (hk_.2) e_))) (fun k_ hk_ => ⟨hk_.1.1.1.1.1.1.2, hk_.1.1.1.1.1.2, hk_.1.1.1.1.2, hk_.1.1.1.2, hk_.1.1.2⟩)); have n14_ := Aside0.mk (hb); clear HO_9; clear HO_275001; clear HO_275004; clear HO_285001; clear HO_285004; clear HO_299001; clear HO_299004; clear BK250; clear BK274; clear BK284; clear BK298; clear HO303; clear HO308; clear HO312; clear HB; have HO_9 := n0_; have HO_275001 := n1_; have HO_275004 := n2_; have HO_285001 := n3_; have HO_285004 := n4_; have HO_299001 := n5_; have HO_299004 := n6_; have BK250 := n7_; have BK274 := n8_; have BK284 := n9_; have BK298 := n10_; have HO303 := n11_; have HO308 := n12_; have HO312 := n13_; have HB := n14_; clear n0_ n1_ n2_ n3_ n4_ n5_ n6_ n7_ n8_ n9_ n10_ n11_ n12_ n13_ n14_; (try clear hb); (try clear hkp); (try clear hy0); (try clear hy1)) | ((with_reducible refine gate_callee (f := 26) rfl ?_); refine goesL_ (some 67) rfl rfl Try.func26 (by kernel_rfl) rfl #[.slice Ao42 t285.length co42, .int .i64 t314] rfl ar_ ?_; (with_reducible refine (laws_markByteS.calls kj15 (fun k_ => some k_ = (.slice Ao42 t285.length co42 : Value).ownBlock) (.slice Ao42 t285.length co42) t285 t314 t317 t318 w _ ?side1 ?side2 A77.out).mono ?_); (case side1 => repeat (first | (with_reducible first | exact HB.out | apply below_alloc | apply pw_below_drewN | apply below_drew1 | refine below_set ?_ GE250.out | refine below_set ?_ GE274.out | refine below_set ?_ GE284.out | refine below_set ?_ GE298.out) | exact HB.out)); (case side2 => exact Kd.R_tight rfl HO_9.out); rintro e w91 ⟨rfl, hy0, hb, hkp⟩; refine ⟨_, rfl, ?_⟩; have n0_ := Aside0.mk (Kd.R_reok rfl hy0 (fun k_ e_ => HO_9.out.1 k_ e_)); have n1_ := Aside0.mk (Kd.R_mono (ok' := fun k_ => some k_ ≠ (.slice Ao42 t285.length co42 : Value).ownBlock ∧ some k_ ≠ (.slice Ao38 t276.length co38 : Value).ownBlock ∧ some k_ ≠ (.slice Ao49 t289.length co49 : Value).ownBlock ∧ some k_ ≠ (.slice Ao81 t301.length co81 : Value).ownBlock ∧ some k_ ≠ (.slice Ao85 t310.length co85 : Value).ownBlock) (Kd.R_keptB (HO_275001.out) hkp (fun k_ hk_ hs_ => (hk_.1) hs_)) (fun k_ hk_ => ⟨hk_.1.1, hk_.1.2.1, hk_.1.2.2.1, hk_.1.2.2.2.1, hk_.1.2.2.2.2⟩)); have n2_ := Aside0.mk (Kd.R_mono (ok' := fun k_ => some k_ ≠ (.slice Ao39 t281.length co39 : Value).ownBlock ∧ some k_ ≠ (.slice Ao50 t294.length co50 : Value).ownBlock ∧ some k_ ≠ (.slice Ao82 t306.length co82 : Value).ownBlock) (Kd.R_keptB ((Kd.R_apart' HO_275004.out (Kd.R_typed HO_9.out) (by decide))) hkp (fun k_ hk_ hs_ => (hk_.2) hs_)) (fun k_ hk_ => ⟨hk_.1.1.1, hk_.1.1.2.1, hk_.1.1.2.2⟩)); have n3_ := Aside0.mk (Kd.R_mono (ok' := fun k_ => some k_ ≠ (.slice Ao42 t285.length co42 : Value).ownBlock ∧ some k_ ≠ (.slice Ao30 t265.length co30 : Value).ownBlock ∧ some k_ ≠ (.slice Ao49 t289.length co49 : Value).ownBlock ∧ some k_ ≠ (.slice Ao81 t301.length co81 : Value).ownBlock ∧ some k_ ≠ (.slice Ao85 t310.length co85 : Value).ownBlock) (Kd.R_keptB (HO_285001.out) hkp (fun k_ hk_ hs_ => (hk_.1.1.1) hs_)) (fun k_ hk_ => ⟨hk_.1.1.1.1, hk_.1.1.1.2.1, hk_.1.1.1.2.2, hk_.1.1.2, hk_.1.2⟩)); have n4_ := Aside0.mk (Kd.R_mono (ok' := fun k_ => some k_ ≠ (.slice Ao31 t270.length co31 : Value).ownBlock ∧ some k_ ≠ (.slice Ao50 t294.length co50 : Value).ownBlock ∧ some k_ ≠ (.slice Ao82 t306.length co82 : Value).ownBlock) (Kd.R_keptB ((Kd.R_apart' HO_285004.out (Kd.R_typed HO_9.out) (by decide))) hkp (fun k_ hk_ hs_ => (hk_.2) hs_)) (fun k_ hk_ => ⟨hk_.1.1.1.1, hk_.1.1.1.2, hk_.1.1.2⟩)); have n5_ := Aside0.mk (Kd.R_mono (ok' := fun k_ => some k_ ≠ (.slice Ao42 t285.length co42 : Value).ownBlock ∧ some k_ ≠ (.slice Ao30 t265.length co30 : Value).ownBlock ∧ some k_ ≠ (.slice Ao38 t276.length co38 : Value).ownBlock ∧ some k_ ≠ (.slice Ao81 t301.length co81 : Value).ownBlock ∧ some k_ ≠ (.slice Ao85 t310.length co85 : Value).ownBlock) (Kd.R_keptB (HO_299001.out) hkp (fun k_ hk_ hs_ => (hk_.1) hs_)) (fun k_ hk_ => ⟨hk_.1.1, hk_.1.2.1, hk_.1.2.2.1, hk_.1.2.2.2.1, hk_.1.2.2.2.2⟩)); have n6_ := Aside0.mk (Kd.R_mono (ok' := fun k_ => some k_ ≠ (.slice Ao31 t270.length co31 : Value).ownBlock ∧ some k_ ≠ (.slice Ao39 t281.length co39 : Value).ownBlock ∧ some k_ ≠ (.slice Ao82 t306.length co82 : Value).ownBlock) (Kd.R_keptB ((Kd.R_apart' HO_299004.out (Kd.R_typed HO_9.out) (by decide))) hkp (fun k_ hk_ hs_ => (hk_.2) hs_)) (fun k_ hk_ => ⟨hk_.1.1.1, hk_.1.1.2.1, hk_.1.1.2.2⟩)); have n7_ := Aside0.mk (blk_kept (g := gb250) (o := .cells #[.int .i64 a0_0, .slice A0_1 l0_1.length c0_1, .int .i64 a0_2, .int .i64 a0_3, .slice A0_4 l0_4.length c0_4] 37 (0, 0)) (kb_ BK250.out) hkp (fun hs_ => (fun e_ => (Kd.R_ne HO_9.out BK250.out (by decide)) e_) hs_)); have n8_ := Aside0.mk (blk_kept (g := gb274) (o := .cells #[.int .i64 t264, .slice Ao30 t265.length co30, .int .i64 t268, .int .i64 t269, .slice Ao31 t270.length co31] 25 (0, 0)) (kb_ BK274.out) hkp (fun hs_ => (fun e_ => (Kd.R_ne HO_9.out BK274.out (by decide)) e_) hs_)); have n9_ := Aside0.mk (blk_kept (g := gb284) (o := .cells #[.int .i64 t275, .slice Ao38 t276.length co38, .int .i64 t279, .int .i64 t280, .slice Ao39 t281.length co39] 25 (0, 0)) (kb_ BK284.out) hkp (fun hs_ => (fun e_ => (Kd.R_ne HO_9.out BK284.out (by decide)) e_) hs_)); have n10_ := Aside0.mk (blk_kept (g := gb298) (o := .cells #[.int .i64 t288, .slice Ao49 t289.length co49, .int .i64 t292, .int .i64 t293, .slice Ao50 t294.length co50] 25 (0, 0)) (kb_ BK298.out) hkp (fun hs_ => (fun e_ => (Kd.R_ne HO_9.out BK298.out (by decide)) e_) hs_)); have n11_ := Aside0.mk (Kd.R_mono (ok' := fun k_ => some k_ ≠ (.slice Ao42 t285.length co42 : Value).ownBlock ∧ some k_ ≠ (.slice Ao30 t265.length co30 : Value).ownBlock ∧ some k_ ≠ (.slice Ao38 t276.length co38 : Value).ownBlock ∧ some k_ ≠ (.slice Ao49 t289.length co49 : Value).ownBlock ∧ some k_ ≠ (.slice Ao85 t310.length co85 : Value).ownBlock) (Kd.R_keptB (HO303.out) hkp (fun k_ hk_ hs_ => (hk_.1) hs_)) (fun k_ hk_ => ⟨hk_.1.1, hk_.1.2.1, hk_.1.2.2.1, hk_.1.2.2.2.1, hk_.1.2.2.2.2⟩)); have n12_ := Aside0.mk (Kd.R_mono (ok' := fun k_ => some k_ ≠ (.slice Ao31 t270.length co31 : Value).ownBlock ∧ some k_ ≠ (.slice Ao39 t281.length co39 : Value).ownBlock ∧ some k_ ≠ (.slice Ao50 t294.length co50 : Value).ownBlock) (Kd.R_keptB ((Kd.R_apart' HO308.out (Kd.R_typed HO_9.out) (by decide))) hkp (fun k_ hk_ hs_ => (hk_.2) hs_)) (fun k_ hk_ => ⟨hk_.1.1.1, hk_.1.1.2.1, hk_.1.1.2.2⟩)); have n13_ := Aside0.mk (Kd.R_mono (ok' := fun k_ => some k_ ≠ (.slice Ao42 t285.length co42 : Value).ownBlock ∧ some k_ ≠ (.slice Ao30 t265.length co30 : Value).ownBlock ∧ some k_ ≠ (.slice Ao38 t276.length co38 : Value).ownBlock ∧ some k_ ≠ (.slice Ao49 t289.length co49 : Value).ownBlock ∧ some k_ ≠ (.slice Ao81 t301.length co81 : Value).ownBlock) (Kd.R_keptB (HO312.out) hkp (fun k_ hk_ hs_ => (hk_.1) hs_)) (fun k_ hk_ => ⟨hk_.1.1, hk_.1.2.1, hk_.1.2.2.1, hk_.1.2.2.2.1, hk_.1.2.2.2.2⟩)); have n14_ := Aside0.mk (hb); clear HO_9; clear HO_275001; clear HO_275004; clear HO_285001; clear HO_285004; clear HO_299001; clear HO_299004; clear BK250; clear BK274; clear BK284; clear BK298; clear HO303; clear HO308; clear HO312; clear HB; have HO_9 := n0_; have HO_275001 := n1_; have HO_275004 := n2_; have HO_285001 := n3_; have HO_285004 := n4_; have HO_299001 := n5_; have HO_299004 := n6_; have BK250 := n7_; have BK274 := n8_; have BK284 := n9_; have BK298 := n10_; have HO303 := n11_; have HO308 := n12_; have HO312 := n13_; have HB := n14_; clear n0_ n1_ n2_ n3_ n4_ n5_ n6_ n7_ n8_ n9_ n10_ n11_ n12_ n13_ n14_; (try clear hb); (try clear hkp); (try clear hy0)))
                (try simp only [Act.put, List.setIfInBounds_toArray, List.set_cons_zero, List.set_cons_succ])
                go_cut [80] (fun v80 wc => ∃ (kq : Nat) (x80_77 : Bool), v80 = .bool x80_77 ∧ Aside0 (laws_FnExactMouthWrite.j1 kq l1 t273 x80_77 a0_0 l0_1 a0_2 a0_3 l0_4 t264 t265 t268 t269 t270 t288 t289 t292 t293 t294 = some r) ∧ Aside0 (kq ≤ kj15) ∧ Aside0 (Kd.R (Kd.int .u8) 5 wc w.heap.size (fun k_ => some k_ ≠ ((.slice Ao38 t276.length co38) : Value).ownBlock ∧ some k_ ≠ ((.slice Ao49 t289.length co49) : Value).ownBlock) (.slice Ao30 t265.length co30) t265) ∧ Aside0 (Kd.R k60 60 wc w.heap.size (fun k_ => some k_ ≠ ((.slice Ao39 t281.length co39) : Value).ownBlock ∧ some k_ ≠ ((.slice Ao50 t294.length co50) : Value).ownBlock) (.slice Ao31 t270.length co31) t270) ∧ Aside0 (Kd.R (Kd.int .u8) 5 wc w.heap.size (fun k_ => some k_ ≠ ((.slice Ao30 t265.length co30) : Value).ownBlock ∧ some k_ ≠ ((.slice Ao49 t289.length co49) : Value).ownBlock) (.slice Ao38 t276.length co38) t315) ∧ Aside0 (Kd.R k60 60 wc w.heap.size (fun k_ => some k_ ≠ ((.slice Ao31 t270.length co31) : Value).ownBlock ∧ some k_ ≠ ((.slice Ao50 t294.length co50) : Value).ownBlock) (.slice Ao39 t281.length co39) t316) ∧ Aside0 (Kd.R (Kd.int .u8) 5 wc w.heap.size (fun k_ => some k_ ≠ ((.slice Ao30 t265.length co30) : Value).ownBlock ∧ some k_ ≠ ((.slice Ao38 t276.length co38) : Value).ownBlock) (.slice Ao49 t289.length co49) t289) ∧ Aside0 (Kd.R k60 60 wc w.heap.size (fun k_ => some k_ ≠ ((.slice Ao31 t270.length co31) : Value).ownBlock ∧ some k_ ≠ ((.slice Ao39 t281.length co39) : Value).ownBlock) (.slice Ao50 t294.length co50) t294) ∧ Aside0 (wc.heap[gb250]? = some (.cells #[.int .i64 a0_0, (.slice A0_1 l0_1.length c0_1), .int .i64 a0_2, .int .i64 a0_3, (.slice A0_4 l0_4.length c0_4)] 37 (0, 0))) ∧ Aside0 (wc.heap[gb274]? = some (.cells #[.int .i64 t264, (.slice Ao30 t265.length co30), .int .i64 t268, .int .i64 t269, (.slice Ao31 t270.length co31)] 25 (0, 0))) ∧ Aside0 (wc.heap[gb284]? = some (.cells #[.int .i64 t275, (.slice Ao38 t276.length co38), .int .i64 t279, .int .i64 t280, (.slice Ao39 t281.length co39)] 25 (0, 0))) ∧ Aside0 (wc.heap[gb298]? = some (.cells #[.int .i64 t288, (.slice Ao49 t289.length co49), .int .i64 t292, .int .i64 t293, (.slice Ao50 t294.length co50)] 25 (0, 0))) ∧ Aside0 (Below w.heap.size w wc))
                case first =>
                  have H := HC78.out
                  clear HC78
                  by_cases c92 : t317 < 0
                  · rw [if_pos c92] at H
                    have c92b0 : decide (t317 < 0) = true := decide_eq_true c92
                    clear c92
                    (first | rw [c92b0] | (simp only [i64_w, i32_w]; rw [c92b0]) | skip)
                    have H' := Aside0.mk H
                    clear H
                    go_wp2
                    go_meet
                    case rel => exact ⟨_, (true), (by first | rfl | (simp; done) | (simp [*]; done)), H', ⟨by have := HJ15.out; first | omega | exact Nat.le_refl _⟩, ⟨by refine kR_ ?_; exact Kd.R_mono HO_275001.out (fun _ hk => op2_ hk)⟩, ⟨by refine kR_ ?_; exact Kd.R_mono HO_275004.out (fun _ hk => op2_ hk)⟩, ⟨by refine kR_ ?_; exact Kd.R_mono HO_285001.out (fun _ hk => op2_ hk)⟩, ⟨by refine kR_ ?_; exact Kd.R_mono HO_285004.out (fun _ hk => op2_ hk)⟩, ⟨by refine kR_ ?_; exact Kd.R_mono HO_299001.out (fun _ hk => op2_ hk)⟩, ⟨by refine kR_ ?_; exact Kd.R_mono HO_299004.out (fun _ hk => op2_ hk)⟩, ⟨by refine kb_ ?_; exact BK250.out⟩, ⟨by refine kb_ ?_; exact BK274.out⟩, ⟨by refine kb_ ?_; exact BK284.out⟩, ⟨by refine kb_ ?_; exact BK298.out⟩, ⟨by repeat (first | (with_reducible first | exact HB.out | apply below_alloc | apply pw_below_drewN | apply below_drew1 | refine below_set ?_ GE250.out | refine below_set ?_ GE274.out | refine below_set ?_ GE284.out | refine below_set ?_ GE298.out) | exact HB.out)⟩⟩
                  · rw [if_neg c92] at H
                    have c92b0 : decide (t317 < 0) = false := decide_eq_false c92
                    clear c92
                    (first | rw [c92b0] | (simp only [i64_w, i32_w]; rw [c92b0]) | skip)
                    replace H := Option.bind_eq_some_iff.mp H
                    obtain ⟨t319, A930, H⟩ := H
                    replace H : (if t319 = true then (laws_FnExactMouthWrite.j1 kj15 l1 t273 (t297 != t273) a0_0 l0_1 a0_2 a0_3 l0_4 t264 t265 t268 t269 t270 t288 t289 t292 t293 t294) else (laws_FnExactMouthWrite.j1 kj15 l1 t273 true a0_0 l0_1 a0_2 a0_3 l0_4 t264 t265 t268 t269 t270 t288 t289 t292 t293 t294)) = some r := H
                    have A93 := Aside0.mk A930
                    clear A930
                    by_cases c94 : t319 = true
                    · subst c94
                      have H1 : (laws_FnExactMouthWrite.j1 kj15 l1 t273 (t297 != t273) a0_0 l0_1 a0_2 a0_3 l0_4 t264 t265 t268 t269 t270 t288 t289 t292 t293 t294) = some r := by rw [if_pos rfl] at H; exact H
                      clear H
                      have H := H1
                      clear H1
                      have H' := Aside0.mk H
                      clear H
                      have hnb95 := NB298_250.out
                      have hnc95 := NB250_298.out
                      have hnb96 := NB298_274.out
                      have hnc96 := NB274_298.out
                      have hnb97 := NB298_284.out
                      have hnc97 := NB284_298.out
                      have hcz98_0 : w91.cell? ⟨gb298, 0, none⟩ = some (.int .i64 t288) := (blk_cell BK298.out 0).trans rfl
                      have hcz98_1 : w91.cell? ⟨gb298, 1, none⟩ = some (.slice Ao49 t289.length co49) := (blk_cell BK298.out 1).trans rfl
                      have hcz98_2 : w91.cell? ⟨gb298, 2, none⟩ = some (.int .i64 t292) := (blk_cell BK298.out 2).trans rfl
                      have hcz98_3 : w91.cell? ⟨gb298, 3, none⟩ = some (.int .i64 t293) := (blk_cell BK298.out 3).trans rfl
                      have hcz98_4 : w91.cell? ⟨gb298, 4, none⟩ = some (.slice Ao50 t294.length co50) := (blk_cell BK298.out 4).trans rfl
                      have hfz98_0 := blk_frozen BK298.out 0
                      have hfz98_1 := blk_frozen BK298.out 1
                      have hfz98_2 := blk_frozen BK298.out 2
                      have hfz98_3 := blk_frozen BK298.out 3
                      have hfz98_4 := blk_frozen BK298.out 4
                      have hnb99 := NB274_250.out
                      have hnc99 := NB250_274.out
                      have hnb100 := NB274_284.out
                      have hnc100 := NB284_274.out
                      have hcz101_0 : w91.cell? ⟨gb274, 0, none⟩ = some (.int .i64 t264) := (blk_cell BK274.out 0).trans rfl
                      have hcz101_1 : w91.cell? ⟨gb274, 1, none⟩ = some (.slice Ao30 t265.length co30) := (blk_cell BK274.out 1).trans rfl
                      have hcz101_2 : w91.cell? ⟨gb274, 2, none⟩ = some (.int .i64 t268) := (blk_cell BK274.out 2).trans rfl
                      have hcz101_3 : w91.cell? ⟨gb274, 3, none⟩ = some (.int .i64 t269) := (blk_cell BK274.out 3).trans rfl
                      have hcz101_4 : w91.cell? ⟨gb274, 4, none⟩ = some (.slice Ao31 t270.length co31) := (blk_cell BK274.out 4).trans rfl
                      have hfz101_0 := blk_frozen BK274.out 0
                      have hfz101_1 := blk_frozen BK274.out 1
                      have hfz101_2 := blk_frozen BK274.out 2
                      have hfz101_3 := blk_frozen BK274.out 3
                      have hfz101_4 := blk_frozen BK274.out 4
                      go_wp2_with (first | (go_at_call 19; (with_reducible refine (laws_eqMouth.calls kj15 t288 _ _ t289 t292 t293 _ _ t294 t264 _ _ t265 t268 t269 _ _ t270 true _ ?side1 ?side2 ?side3 ?side4 ?side5 ?side6 ?side7 ?side8 A93.out).mono ?_); (case side1 => exact kC_ (Kd.R_reads' HO_299001.out).2.2); (case side2 => exact (Kd.R_reads' HO_299001.out).2.1); (case side3 => exact kC_ (Kd.R_reads' HO_299004.out).2.2); (case side4 => exact (Kd.R_reads' HO_299004.out).2.1); (case side5 => exact kC_ (Kd.R_reads' HO_275001.out).2.2); (case side6 => exact (Kd.R_reads' HO_275001.out).2.1); (case side7 => exact kC_ (Kd.R_reads' HO_275004.out).2.2); (case side8 => exact (Kd.R_reads' HO_275004.out).2.1); rintro e w102 ⟨rfl, hb⟩; have n0_ := Aside0.mk (Kd.R_below (kR_ HO_9.out) hb); have n1_ := Aside0.mk (Kd.R_below (kR_ HO_275001.out) hb); have n2_ := Aside0.mk (Kd.R_below (kR_ HO_275004.out) hb); have n3_ := Aside0.mk (Kd.R_below (kR_ HO_285001.out) hb); have n4_ := Aside0.mk (Kd.R_below (kR_ HO_285004.out) hb); have n5_ := Aside0.mk (Kd.R_below (kR_ HO_299001.out) hb); have n6_ := Aside0.mk (Kd.R_below (kR_ HO_299004.out) hb); have n7_ := Aside0.mk (Kd.R_below (kR_ HO303.out) hb); have n8_ := Aside0.mk (Kd.R_below (kR_ HO308.out) hb); have n9_ := Aside0.mk (Kd.R_below (kR_ HO312.out) hb); have n10_ := Aside0.mk (blk_below (g := gb250) (o := .cells #[.int .i64 a0_0, .slice A0_1 l0_1.length c0_1, .int .i64 a0_2, .int .i64 a0_3, .slice A0_4 l0_4.length c0_4] 37 (0, 0)) (kb_ BK250.out) hb); have n11_ := Aside0.mk (blk_below (g := gb274) (o := .cells #[.int .i64 t264, .slice Ao30 t265.length co30, .int .i64 t268, .int .i64 t269, .slice Ao31 t270.length co31] 25 (0, 0)) (kb_ BK274.out) hb); have n12_ := Aside0.mk (blk_below (g := gb284) (o := .cells #[.int .i64 t275, .slice Ao38 t276.length co38, .int .i64 t279, .int .i64 t280, .slice Ao39 t281.length co39] 25 (0, 0)) (kb_ BK284.out) hb); have n13_ := Aside0.mk (blk_below (g := gb298) (o := .cells #[.int .i64 t288, .slice Ao49 t289.length co49, .int .i64 t292, .int .i64 t293, .slice Ao50 t294.length co50] 25 (0, 0)) (kb_ BK298.out) hb); have n14_ := Aside0.mk (below_step (hb4_ HB.out GE250.out GE274.out GE284.out GE298.out) hb); clear HO_9; clear HO_275001; clear HO_275004; clear HO_285001; clear HO_285004; clear HO_299001; clear HO_299004; clear HO303; clear HO308; clear HO312; clear BK250; clear BK274; clear BK284; clear BK298; clear HB; have HO_9 := n0_; have HO_275001 := n1_; have HO_275004 := n2_; have HO_285001 := n3_; have HO_285004 := n4_; have HO_299001 := n5_; have HO_299004 := n6_; have HO303 := n7_; have HO308 := n8_; have HO312 := n9_; have BK250 := n10_; have BK274 := n11_; have BK284 := n12_; have BK298 := n13_; have HB := n14_; clear n0_ n1_ n2_ n3_ n4_ n5_ n6_ n7_ n8_ n9_ n10_ n11_ n12_ n13_ n14_; (try clear hb); (try clear hb2); (try clear hk); (try clear hi)))
                      go_meet
                      case rel => exact ⟨_, ((t297 != t273)), (by first | rfl | (simp; done) | (simp [*]; done)), H', ⟨by have := HJ15.out; first | omega | exact Nat.le_refl _⟩, ⟨by refine kR_ ?_; exact Kd.R_mono HO_275001.out (fun _ hk => op2_ hk)⟩, ⟨by refine kR_ ?_; exact Kd.R_mono HO_275004.out (fun _ hk => op2_ hk)⟩, ⟨by refine kR_ ?_; exact Kd.R_mono HO_285001.out (fun _ hk => op2_ hk)⟩, ⟨by refine kR_ ?_; exact Kd.R_mono HO_285004.out (fun _ hk => op2_ hk)⟩, ⟨by refine kR_ ?_; exact Kd.R_mono HO_299001.out (fun _ hk => op2_ hk)⟩, ⟨by refine kR_ ?_; exact Kd.R_mono HO_299004.out (fun _ hk => op2_ hk)⟩, ⟨by refine kb_ ?_; exact BK250.out⟩, ⟨by refine kb_ ?_; exact BK274.out⟩, ⟨by refine kb_ ?_; exact BK284.out⟩, ⟨by refine kb_ ?_; exact BK298.out⟩, ⟨by repeat (first | (with_reducible first | exact HB.out | apply below_alloc | apply pw_below_drewN | apply below_drew1 | refine below_set ?_ GE250.out | refine below_set ?_ GE274.out | refine below_set ?_ GE284.out | refine below_set ?_ GE298.out) | exact HB.out)⟩⟩
                    · replace c94 := Bool.eq_false_iff.mpr c94
                      subst c94
                      have H1 : (laws_FnExactMouthWrite.j1 kj15 l1 t273 true a0_0 l0_1 a0_2 a0_3 l0_4 t264 t265 t268 t269 t270 t288 t289 t292 t293 t294) = some r := by rw [if_neg (show ¬ (false = true) by decide)] at H; exact H
                      clear H
                      have H := H1
                      clear H1
                      have H' := Aside0.mk H
                      clear H
                      have hnb103 := NB298_250.out
                      have hnc103 := NB250_298.out
                      have hnb104 := NB298_274.out
                      have hnc104 := NB274_298.out
                      have hnb105 := NB298_284.out
                      have hnc105 := NB284_298.out
                      have hcz106_0 : w91.cell? ⟨gb298, 0, none⟩ = some (.int .i64 t288) := (blk_cell BK298.out 0).trans rfl
                      have hcz106_1 : w91.cell? ⟨gb298, 1, none⟩ = some (.slice Ao49 t289.length co49) := (blk_cell BK298.out 1).trans rfl
                      have hcz106_2 : w91.cell? ⟨gb298, 2, none⟩ = some (.int .i64 t292) := (blk_cell BK298.out 2).trans rfl
                      have hcz106_3 : w91.cell? ⟨gb298, 3, none⟩ = some (.int .i64 t293) := (blk_cell BK298.out 3).trans rfl
                      have hcz106_4 : w91.cell? ⟨gb298, 4, none⟩ = some (.slice Ao50 t294.length co50) := (blk_cell BK298.out 4).trans rfl
                      have hfz106_0 := blk_frozen BK298.out 0
                      have hfz106_1 := blk_frozen BK298.out 1
                      have hfz106_2 := blk_frozen BK298.out 2
                      have hfz106_3 := blk_frozen BK298.out 3
                      have hfz106_4 := blk_frozen BK298.out 4
                      have hnb107 := NB274_250.out
                      have hnc107 := NB250_274.out
                      have hnb108 := NB274_284.out
                      have hnc108 := NB284_274.out
                      have hcz109_0 : w91.cell? ⟨gb274, 0, none⟩ = some (.int .i64 t264) := (blk_cell BK274.out 0).trans rfl
                      have hcz109_1 : w91.cell? ⟨gb274, 1, none⟩ = some (.slice Ao30 t265.length co30) := (blk_cell BK274.out 1).trans rfl
                      have hcz109_2 : w91.cell? ⟨gb274, 2, none⟩ = some (.int .i64 t268) := (blk_cell BK274.out 2).trans rfl
                      have hcz109_3 : w91.cell? ⟨gb274, 3, none⟩ = some (.int .i64 t269) := (blk_cell BK274.out 3).trans rfl
                      have hcz109_4 : w91.cell? ⟨gb274, 4, none⟩ = some (.slice Ao31 t270.length co31) := (blk_cell BK274.out 4).trans rfl
                      have hfz109_0 := blk_frozen BK274.out 0
                      have hfz109_1 := blk_frozen BK274.out 1
                      have hfz109_2 := blk_frozen BK274.out 2
                      have hfz109_3 := blk_frozen BK274.out 3
                      have hfz109_4 := blk_frozen BK274.out 4
                      go_wp2_with (first | (go_at_call 19; (with_reducible refine (laws_eqMouth.calls kj15 t288 _ _ t289 t292 t293 _ _ t294 t264 _ _ t265 t268 t269 _ _ t270 false _ ?side1 ?side2 ?side3 ?side4 ?side5 ?side6 ?side7 ?side8 A93.out).mono ?_); (case side1 => exact kC_ (Kd.R_reads' HO_299001.out).2.2); (case side2 => exact (Kd.R_reads' HO_299001.out).2.1); (case side3 => exact kC_ (Kd.R_reads' HO_299004.out).2.2); (case side4 => exact (Kd.R_reads' HO_299004.out).2.1); (case side5 => exact kC_ (Kd.R_reads' HO_275001.out).2.2); (case side6 => exact (Kd.R_reads' HO_275001.out).2.1); (case side7 => exact kC_ (Kd.R_reads' HO_275004.out).2.2); (case side8 => exact (Kd.R_reads' HO_275004.out).2.1); rintro e w110 ⟨rfl, hb⟩; have n0_ := Aside0.mk (Kd.R_below (kR_ HO_9.out) hb); have n1_ := Aside0.mk (Kd.R_below (kR_ HO_275001.out) hb); have n2_ := Aside0.mk (Kd.R_below (kR_ HO_275004.out) hb); have n3_ := Aside0.mk (Kd.R_below (kR_ HO_285001.out) hb); have n4_ := Aside0.mk (Kd.R_below (kR_ HO_285004.out) hb); have n5_ := Aside0.mk (Kd.R_below (kR_ HO_299001.out) hb); have n6_ := Aside0.mk (Kd.R_below (kR_ HO_299004.out) hb); have n7_ := Aside0.mk (Kd.R_below (kR_ HO303.out) hb); have n8_ := Aside0.mk (Kd.R_below (kR_ HO308.out) hb); have n9_ := Aside0.mk (Kd.R_below (kR_ HO312.out) hb); have n10_ := Aside0.mk (blk_below (g := gb250) (o := .cells #[.int .i64 a0_0, .slice A0_1 l0_1.length c0_1, .int .i64 a0_2, .int .i64 a0_3, .slice A0_4 l0_4.length c0_4] 37 (0, 0)) (kb_ BK250.out) hb); have n11_ := Aside0.mk (blk_below (g := gb274) (o := .cells #[.int .i64 t264, .slice Ao30 t265.length co30, .int .i64 t268, .int .i64 t269, .slice Ao31 t270.length co31] 25 (0, 0)) (kb_ BK274.out) hb); have n12_ := Aside0.mk (blk_below (g := gb284) (o := .cells #[.int .i64 t275, .slice Ao38 t276.length co38, .int .i64 t279, .int .i64 t280, .slice Ao39 t281.length co39] 25 (0, 0)) (kb_ BK284.out) hb); have n13_ := Aside0.mk (blk_below (g := gb298) (o := .cells #[.int .i64 t288, .slice Ao49 t289.length co49, .int .i64 t292, .int .i64 t293, .slice Ao50 t294.length co50] 25 (0, 0)) (kb_ BK298.out) hb); have n14_ := Aside0.mk (below_step (hb4_ HB.out GE250.out GE274.out GE284.out GE298.out) hb); clear HO_9; clear HO_275001; clear HO_275004; clear HO_285001; clear HO_285004; clear HO_299001; clear HO_299004; clear HO303; clear HO308; clear HO312; clear BK250; clear BK274; clear BK284; clear BK298; clear HB; have HO_9 := n0_; have HO_275001 := n1_; have HO_275004 := n2_; have HO_285001 := n3_; have HO_285004 := n4_; have HO_299001 := n5_; have HO_299004 := n6_; have HO303 := n7_; have HO308 := n8_; have HO312 := n9_; have BK250 := n10_; have BK274 := n11_; have BK284 := n12_; have BK298 := n13_; have HB := n14_; clear n0_ n1_ n2_ n3_ n4_ n5_ n6_ n7_ n8_ n9_ n10_ n11_ n12_ n13_ n14_; (try clear hb); (try clear hb2); (try clear hk); (try clear hi)))
                      go_meet
                      case rel => exact ⟨_, (true), (by first | rfl | (simp; done) | (simp [*]; done)), H', ⟨by have := HJ15.out; first | omega | exact Nat.le_refl _⟩, ⟨by refine kR_ ?_; exact Kd.R_mono HO_275001.out (fun _ hk => op2_ hk)⟩, ⟨by refine kR_ ?_; exact Kd.R_mono HO_275004.out (fun _ hk => op2_ hk)⟩, ⟨by refine kR_ ?_; exact Kd.R_mono HO_285001.out (fun _ hk => op2_ hk)⟩, ⟨by refine kR_ ?_; exact Kd.R_mono HO_285004.out (fun _ hk => op2_ hk)⟩, ⟨by refine kR_ ?_; exact Kd.R_mono HO_299001.out (fun _ hk => op2_ hk)⟩, ⟨by refine kR_ ?_; exact Kd.R_mono HO_299004.out (fun _ hk => op2_ hk)⟩, ⟨by refine kb_ ?_; exact BK250.out⟩, ⟨by refine kb_ ?_; exact BK274.out⟩, ⟨by refine kb_ ?_; exact BK284.out⟩, ⟨by refine kb_ ?_; exact BK298.out⟩, ⟨by repeat (first | (with_reducible first | exact HB.out | apply below_alloc | apply pw_below_drewN | apply below_drew1 | refine below_set ?_ GE250.out | refine below_set ?_ GE274.out | refine below_set ?_ GE284.out | refine below_set ?_ GE298.out) | exact HB.out)⟩⟩
                case rest =>
                  clear HC78
                  try clear c1
                  try clear c2
                  try clear p2
                  try clear c3
                  try clear c3b0
                  try clear c3b1
                  try clear c4
                  try clear c5
                  try clear c6
                  try clear c6b0
                  try clear c7
                  try clear c8
                  try clear c9
                  try clear c10
                  try clear c13
                  try clear c16
                  try clear c19
                  try clear c21
                  try clear c24
                  try clear c25
                  try clear c26
                  try clear c28
                  try clear c35
                  try clear c36
                  try clear c45
                  try clear c46
                  try clear c47
                  try clear c52
                  try clear c53
                  try clear c54
                  try clear c55
                  try clear c57
                  try clear c58
                  try clear c61
                  try clear c62
                  try clear c63
                  try clear c65
                  try clear c66
                  try clear c69
                  try clear c72
                  try clear c75
                  try clear c86
                  try clear c87
                  try clear c88
                  try clear c92
                  try clear c92b0
                  try clear c94
                  try clear c95
                  try clear c96
                  try clear c97
                  try clear c99
                  try clear c100
                  try clear c103
                  try clear c104
                  try clear c105
                  try clear c107
                  try clear c108
                  try clear hcz101_0
                  try clear hcz101_1
                  try clear hcz101_2
                  try clear hcz101_3
                  try clear hcz101_4
                  try clear hcz106_0
                  try clear hcz106_1
                  try clear hcz106_2
                  try clear hcz106_3
                  try clear hcz106_4
                  try clear hcz109_0
                  try clear hcz109_1
                  try clear hcz109_2
                  try clear hcz109_3
                  try clear hcz109_4
                  try clear hcz18_0
                  try clear hcz18_1
                  try clear hcz18_2
                  try clear hcz18_3
                  try clear hcz18_4
                  try clear hcz20_0
                  try clear hcz20_1
                  try clear hcz20_2
                  try clear hcz20_3
                  try clear hcz20_4
                  try clear hcz29_0
                  try clear hcz29_1
                  try clear hcz29_2
                  try clear hcz29_3
                  try clear hcz29_4
                  try clear hcz32_0
                  try clear hcz32_1
                  try clear hcz32_2
                  try clear hcz32_3
                  try clear hcz32_4
                  try clear hcz37_0
                  try clear hcz37_1
                  try clear hcz37_2
                  try clear hcz37_3
                  try clear hcz37_4
                  try clear hcz41_0
                  try clear hcz41_1
                  try clear hcz41_2
                  try clear hcz41_3
                  try clear hcz41_4
                  try clear hcz48_0
                  try clear hcz48_1
                  try clear hcz48_2
                  try clear hcz48_3
                  try clear hcz48_4
                  try clear hcz56_0
                  try clear hcz56_1
                  try clear hcz56_2
                  try clear hcz56_3
                  try clear hcz56_4
                  try clear hcz59_0
                  try clear hcz59_1
                  try clear hcz59_2
                  try clear hcz59_3
                  try clear hcz59_4
                  try clear hcz64_0
                  try clear hcz64_1
                  try clear hcz64_2
                  try clear hcz64_3
                  try clear hcz64_4
                  try clear hcz67_0
                  try clear hcz67_1
                  try clear hcz67_2
                  try clear hcz67_3
                  try clear hcz67_4
                  try clear hcz89_0
                  try clear hcz89_1
                  try clear hcz89_2
                  try clear hcz89_3
                  try clear hcz89_4
                  try clear hcz8_0
                  try clear hcz8_1
                  try clear hcz8_2
                  try clear hcz8_3
                  try clear hcz8_4
                  try clear hcz98_0
                  try clear hcz98_1
                  try clear hcz98_2
                  try clear hcz98_3
                  try clear hcz98_4
                  try clear hfz101_0
                  try clear hfz101_1
                  try clear hfz101_2
                  try clear hfz101_3
                  try clear hfz101_4
                  try clear hfz106_0
                  try clear hfz106_1
                  try clear hfz106_2
                  try clear hfz106_3
                  try clear hfz106_4
                  try clear hfz109_0
                  try clear hfz109_1
                  try clear hfz109_2
                  try clear hfz109_3
                  try clear hfz109_4
                  try clear hfz18_0
                  try clear hfz18_1
                  try clear hfz18_2
                  try clear hfz18_3
                  try clear hfz18_4
                  try clear hfz20_0
                  try clear hfz20_1
                  try clear hfz20_2
                  try clear hfz20_3
                  try clear hfz20_4
                  try clear hfz29_0
                  try clear hfz29_1
                  try clear hfz29_2
                  try clear hfz29_3
                  try clear hfz29_4
                  try clear hfz32_0
                  try clear hfz32_1
                  try clear hfz32_2
                  try clear hfz32_3
                  try clear hfz32_4
                  try clear hfz37_0
                  try clear hfz37_1
                  try clear hfz37_2
                  try clear hfz37_3
                  try clear hfz37_4
                  try clear hfz41_0
                  try clear hfz41_1
                  try clear hfz41_2
                  try clear hfz41_3
                  try clear hfz41_4
                  try clear hfz48_0
                  try clear hfz48_1
                  try clear hfz48_2
                  try clear hfz48_3
                  try clear hfz48_4
                  try clear hfz56_0
                  try clear hfz56_1
                  try clear hfz56_2
                  try clear hfz56_3
                  try clear hfz56_4
                  try clear hfz59_0
                  try clear hfz59_1
                  try clear hfz59_2
                  try clear hfz59_3
                  try clear hfz59_4
                  try clear hfz64_0
                  try clear hfz64_1
                  try clear hfz64_2
                  try clear hfz64_3
                  try clear hfz64_4
                  try clear hfz67_0
                  try clear hfz67_1
                  try clear hfz67_2
                  try clear hfz67_3
                  try clear hfz67_4
                  try clear hfz89_0
                  try clear hfz89_1
                  try clear hfz89_2
                  try clear hfz89_3
                  try clear hfz89_4
                  try clear hfz8_0
                  try clear hfz8_1
                  try clear hfz8_2
                  try clear hfz8_3
                  try clear hfz8_4
                  try clear hfz98_0
                  try clear hfz98_1
                  try clear hfz98_2
                  try clear hfz98_3
                  try clear hfz98_4
                  try clear p2
                  obtain ⟨kq, x80_77, rfl, HA, HJ77, HO_275001, HO_275004, HO_285001, HO_285004, HO_299001, HO_299004, BK250, BK274, BK284, BK298, HB⟩ := hcut
                  have hl285001_77 := (Kd.R_reads' HO_285001.out).1
                  rw [hl285001_77] at HO_285001
                  (try simp only [hl285001_77])
                  (try simp only [hl285001_77] at BK250)
                  (try simp only [hl285001_77] at BK274)
                  (try simp only [hl285001_77] at BK284)
                  (try simp only [hl285001_77] at BK298)
                  (try simp only [hl285001_77] at HO_275001)
                  (try simp only [hl285001_77] at HO_275004)
                  (try simp only [hl285001_77] at HO_285004)
                  (try simp only [hl285001_77] at HO_299001)
                  (try simp only [hl285001_77] at HO_299004)
                  have hl285004_77 := (Kd.R_reads' HO_285004.out).1
                  rw [hl285004_77] at HO_285004
                  (try simp only [hl285004_77])
                  (try simp only [hl285004_77] at BK250)
                  (try simp only [hl285004_77] at BK274)
                  (try simp only [hl285004_77] at BK284)
                  (try simp only [hl285004_77] at BK298)
                  (try simp only [hl285004_77] at HO_275001)
                  (try simp only [hl285004_77] at HO_275004)
                  (try simp only [hl285004_77] at HO_285001)
                  (try simp only [hl285004_77] at HO_299001)
                  (try simp only [hl285004_77] at HO_299004)
                  cases kq with
                  | zero => exact absurd HA.out (by simp [laws_FnExactMouthWrite.j1])
                  | succ kj77 =>
                    have H := HA.out
                    clear HA
                    simp only [laws_FnExactMouthWrite.j1] at H
                    by_cases c111 : x80_77 = true
                    · subst c111
                      have H1 : (some false) = some r := by rw [if_pos rfl] at H; exact H
                      clear H
                      have H := H1
                      clear H1
                      exact absurd (Option.some.inj H) (by rw [HLW.out]; exact Bool.false_ne_true)
                    · replace c111 := Bool.eq_false_iff.mpr c111
                      subst c111
                      have H1 : ((laws_markMouth.f kj77 t288 t289 t292 t293 t294 1).bind fun bt320 => ((laws_heldMouth.f kj77 t288 bt320.2.1 t292 t293 bt320.2.2 1).bind fun t323 => (if t323 < 0 then (some false) else (if t323 = bt320.1 then ((laws_toMouth.f kj77 a0_0 l0_1 a0_2 a0_3 l0_4).bind fun bt324 => ((laws_toByteS.f kj77 l1).bind fun t333 => ((impl_MouthWrite.f kj77 bt324.1 bt324.2.1 bt324.2.2.1 bt324.2.2.2.1 bt324.2.2.2.2 t333).bind fun bt336 => ((laws_eqMouth.f kj77 bt336.1 bt336.2.1 bt336.2.2.1 bt336.2.2.2.1 bt336.2.2.2.2.1 t264 t265 t268 t269 t270).bind fun t347 => (if t347 = true then (laws_FnExactMouthWrite.j2 kj77 bt320.1 (bt336.2.2.2.2.2 != t273) t288 bt320.2.1 t292 t293 bt320.2.2) else (laws_FnExactMouthWrite.j2 kj77 bt320.1 true t288 bt320.2.1 t292 t293 bt320.2.2)))))) else (some false))))) = some r := by rw [if_neg (show ¬ (false = true) by decide)] at H; exact H
                      clear H
                      have H := H1
                      clear H1
                      replace H := Option.bind_eq_some_iff.mp H
                      obtain ⟨⟨t320, t321, t322⟩, A1120, H⟩ := H
                      replace H : ((laws_heldMouth.f kj77 t288 t321 t292 t293 t322 1).bind fun t323 => (if t323 < 0 then (some false) else (if t323 = t320 then ((laws_toMouth.f kj77 a0_0 l0_1 a0_2 a0_3 l0_4).bind fun bt324 => ((laws_toByteS.f kj77 l1).bind fun t333 => ((impl_MouthWrite.f kj77 bt324.1 bt324.2.1 bt324.2.2.1 bt324.2.2.2.1 bt324.2.2.2.2 t333).bind fun bt336 => ((laws_eqMouth.f kj77 bt336.1 bt336.2.1 bt336.2.2.1 bt336.2.2.2.1 bt336.2.2.2.2.1 t264 t265 t268 t269 t270).bind fun t347 => (if t347 = true then (laws_FnExactMouthWrite.j2 kj77 t320 (bt336.2.2.2.2.2 != t273) t288 t321 t292 t293 t322) else (laws_FnExactMouthWrite.j2 kj77 t320 true t288 t321 t292 t293 t322)))))) else (some false)))) = some r := H
                      have A112 := Aside0.mk A1120
                      clear A1120
                      replace H := Option.bind_eq_some_iff.mp H
                      obtain ⟨t323, A1130, H⟩ := H
                      replace H : (if t323 < 0 then (some false) else (if t323 = t320 then ((laws_toMouth.f kj77 a0_0 l0_1 a0_2 a0_3 l0_4).bind fun bt324 => ((laws_toByteS.f kj77 l1).bind fun t333 => ((impl_MouthWrite.f kj77 bt324.1 bt324.2.1 bt324.2.2.1 bt324.2.2.2.1 bt324.2.2.2.2 t333).bind fun bt336 => ((laws_eqMouth.f kj77 bt336.1 bt336.2.1 bt336.2.2.1 bt336.2.2.2.1 bt336.2.2.2.2.1 t264 t265 t268 t269 t270).bind fun t347 => (if t347 = true then (laws_FnExactMouthWrite.j2 kj77 t320 (bt336.2.2.2.2.2 != t273) t288 t321 t292 t293 t322) else (laws_FnExactMouthWrite.j2 kj77 t320 true t288 t321 t292 t293 t322)))))) else (some false))) = some r := H
                      have A113 := Aside0.mk A1130
                      clear A1130
                      by_cases c114 : t323 < 0
                      · rw [if_pos c114] at H
                        have c114b0 : decide (t323 < 0) = true := decide_eq_true c114
                        clear c114
                        exact absurd (Option.some.inj H) (by rw [HLW.out]; exact Bool.false_ne_true)
                      · rw [if_neg c114] at H
                        have c114b0 : decide (t323 < 0) = false := decide_eq_false c114
                        clear c114
                        by_cases c115 : t323 = t320
                        · rw [if_pos c115] at H
                          have c115b0 : (t323 == t320) = true := beq_iff_eq.mpr c115
                          have c115b1 : (t323 != t320) = false := bne_eq_false_iff_eq.mpr c115
                          clear c115
                          replace H := Option.bind_eq_some_iff.mp H
                          obtain ⟨⟨t324, t325, t328, t329, t330⟩, A1160, H⟩ := H
                          replace H : ((laws_toByteS.f kj77 l1).bind fun t333 => ((impl_MouthWrite.f kj77 t324 t325 t328 t329 t330 t333).bind fun bt336 => ((laws_eqMouth.f kj77 bt336.1 bt336.2.1 bt336.2.2.1 bt336.2.2.2.1 bt336.2.2.2.2.1 t264 t265 t268 t269 t270).bind fun t347 => (if t347 = true then (laws_FnExactMouthWrite.j2 kj77 t320 (bt336.2.2.2.2.2 != t273) t288 t321 t292 t293 t322) else (laws_FnExactMouthWrite.j2 kj77 t320 true t288 t321 t292 t293 t322))))) = some r := H
                          have A116 := Aside0.mk A1160
                          clear A1160
                          replace H := Option.bind_eq_some_iff.mp H
                          obtain ⟨t333, A1170, H⟩ := H
                          replace H : ((impl_MouthWrite.f kj77 t324 t325 t328 t329 t330 t333).bind fun bt336 => ((laws_eqMouth.f kj77 bt336.1 bt336.2.1 bt336.2.2.1 bt336.2.2.2.1 bt336.2.2.2.2.1 t264 t265 t268 t269 t270).bind fun t347 => (if t347 = true then (laws_FnExactMouthWrite.j2 kj77 t320 (bt336.2.2.2.2.2 != t273) t288 t321 t292 t293 t322) else (laws_FnExactMouthWrite.j2 kj77 t320 true t288 t321 t292 t293 t322)))) = some r := H
                          have A117 := Aside0.mk A1170
                          clear A1170
                          replace H := Option.bind_eq_some_iff.mp H
                          obtain ⟨⟨t336, t337, t340, t341, t342, t345⟩, A1180, H⟩ := H
                          replace H : ((laws_eqMouth.f kj77 t336 t337 t340 t341 t342 t264 t265 t268 t269 t270).bind fun t347 => (if t347 = true then (laws_FnExactMouthWrite.j2 kj77 t320 (t345 != t273) t288 t321 t292 t293 t322) else (laws_FnExactMouthWrite.j2 kj77 t320 true t288 t321 t292 t293 t322))) = some r := H
                          have A118 := Aside0.mk A1180
                          clear A1180
                          have HC119 := Aside0.mk H
                          clear H
                          have hnb120 := NB298_250.out
                          have hnc120 := NB250_298.out
                          have hnb121 := NB298_274.out
                          have hnc121 := NB274_298.out
                          have hnb122 := NB298_284.out
                          have hnc122 := NB284_298.out
                          have hcz123_0 : wc.cell? ⟨gb298, 0, none⟩ = some (.int .i64 t288) := (blk_cell BK298.out 0).trans rfl
                          have hcz123_1 : wc.cell? ⟨gb298, 1, none⟩ = some (.slice Ao49 t289.length co49) := (blk_cell BK298.out 1).trans rfl
                          have hcz123_2 : wc.cell? ⟨gb298, 2, none⟩ = some (.int .i64 t292) := (blk_cell BK298.out 2).trans rfl
                          have hcz123_3 : wc.cell? ⟨gb298, 3, none⟩ = some (.int .i64 t293) := (blk_cell BK298.out 3).trans rfl
                          have hcz123_4 : wc.cell? ⟨gb298, 4, none⟩ = some (.slice Ao50 t294.length co50) := (blk_cell BK298.out 4).trans rfl
                          have hfz123_0 := blk_frozen BK298.out 0
                          have hfz123_1 := blk_frozen BK298.out 1
                          have hfz123_2 := blk_frozen BK298.out 2
                          have hfz123_3 := blk_frozen BK298.out 3
                          have hfz123_4 := blk_frozen BK298.out 4
                          go_upto_region 31 with (first | ((with_reducible refine gate_callee (f := 21) rfl ?_); refine goesL_ (some 83) rfl rfl Try.func21 (by kernel_rfl) rfl #[.agg #[.int .i64 t288, .slice Ao49 t289.length co49, .int .i64 t292, .int .i64 t293, .slice Ao50 t294.length co50], .int .i64 1] rfl ar_ ?_; (with_reducible refine (laws_markMouth.calls kj77 t288 (fun k_ => some k_ = (.slice Ao49 t289.length co49 : Value).ownBlock) (.slice Ao49 t289.length co49) t289 t292 t293 (fun k_ => some k_ = (.slice Ao50 t294.length co50 : Value).ownBlock) (.slice Ao50 t294.length co50) t294 1 t320 t321 t322 w _ ?side1 ?side2 ?side3 A112.out).mono ?_); (case side1 => repeat (first | (with_reducible first | exact HB.out | apply below_alloc | apply pw_below_drewN | apply below_drew1 | refine below_set ?_ GE250.out | refine below_set ?_ GE274.out | refine below_set ?_ GE284.out | refine below_set ?_ GE298.out) | exact HB.out)); (case side2 => exact Kd.R_tight rfl HO_299001.out); (case side3 => exact Kd.R_tight rfl HO_299004.out); rintro e w124 ⟨rfl, hy0, hy1, hb, hkp⟩; refine ⟨_, rfl, ?_⟩; have n0_ := Aside0.mk (Kd.R_mono (ok' := fun k_ => some k_ ≠ (.slice Ao38 t315.length co38 : Value).ownBlock ∧ some k_ ≠ (.slice Ao49 t289.length co49 : Value).ownBlock) (Kd.R_keptB ((Kd.R_apart' HO_275001.out (Kd.R_typed HO_299004.out) (by decide))) hkp (fun k_ hk_ hs_ => Or.elim hs_ (fun e_ => (hk_.1.2) e_) (fun e_ => (hk_.2) e_))) (fun k_ hk_ => ⟨hk_.1.1.1, hk_.1.1.2⟩)); have n1_ := Aside0.mk (Kd.R_mono (ok' := fun k_ => some k_ ≠ (.slice Ao39 t316.length co39 : Value).ownBlock ∧ some k_ ≠ (.slice Ao50 t294.length co50 : Value).ownBlock) (Kd.R_keptB ((Kd.R_apart' HO_275004.out (Kd.R_typed HO_299001.out) (by decide))) hkp (fun k_ hk_ hs_ => Or.elim hs_ (fun e_ => (hk_.2) e_) (fun e_ => (hk_.1.2) e_))) (fun k_ hk_ => ⟨hk_.1.1.1, hk_.1.1.2⟩)); have n2_ := Aside0.mk (Kd.R_mono (ok' := fun k_ => some k_ ≠ (.slice Ao30 t265.length co30 : Value).ownBlock ∧ some k_ ≠ (.slice Ao49 t289.length co49 : Value).ownBlock) (Kd.R_keptB ((Kd.R_apart' HO_285001.out (Kd.R_typed HO_299004.out) (by decide))) hkp (fun k_ hk_ hs_ => Or.elim hs_ (fun e_ => (hk_.1.2) e_) (fun e_ => (hk_.2) e_))) (fun k_ hk_ => ⟨hk_.1.1.1, hk_.1.1.2⟩)); have n3_ := Aside0.mk (Kd.R_mono (ok' := fun k_ => some k_ ≠ (.slice Ao31 t270.length co31 : Value).ownBlock ∧ some k_ ≠ (.slice Ao50 t294.length co50 : Value).ownBlock) (Kd.R_keptB ((Kd.R_apart' HO_285004.out (Kd.R_typed HO_299001.out) (by decide))) hkp (fun k_ hk_ hs_ => Or.elim hs_ (fun e_ => (hk_.2) e_) (fun e_ => (hk_.1.2) e_))) (fun k_ hk_ => ⟨hk_.1.1.1, hk_.1.1.2⟩)); have n4_ := Aside0.mk (Kd.R_reok rfl hy0 (fun k_ e_ => HO_299001.out.1 k_ e_)); have n5_ := Aside0.mk (Kd.R_reok rfl hy1 (fun k_ e_ => HO_299004.out.1 k_ e_)); have n6_ := Aside0.mk (blk_kept (g := gb250) (o := .cells #[.int .i64 a0_0, .slice A0_1 l0_1.length c0_1, .int .i64 a0_2, .int .i64 a0_3, .slice A0_4 l0_4.length c0_4] 37 (0, 0)) (kb_ BK250.out) hkp (fun hs_ => Or.elim hs_ (fun e_ => (fun e_ => (Kd.R_ne HO_299001.out BK250.out (by decide)) e_) e_) (fun e_ => (fun e_ => (Kd.R_ne HO_299004.out BK250.out (by decide)) e_) e_))); have n7_ := Aside0.mk (blk_kept (g := gb274) (o := .cells #[.int .i64 t264, .slice Ao30 t265.length co30, .int .i64 t268, .int .i64 t269, .slice Ao31 t270.length co31] 25 (0, 0)) (kb_ BK274.out) hkp (fun hs_ => Or.elim hs_ (fun e_ => (fun e_ => (Kd.R_ne HO_299001.out BK274.out (by decide)) e_) e_) (fun e_ => (fun e_ => (Kd.R_ne HO_299004.out BK274.out (by decide)) e_) e_))); have n8_ := Aside0.mk (blk_kept (g := gb284) (o := .cells #[.int .i64 t275, .slice Ao38 t315.length co38, .int .i64 t279, .int .i64 t280, .slice Ao39 t316.length co39] 25 (0, 0)) (kb_ BK284.out) hkp (fun hs_ => Or.elim hs_ (fun e_ => (fun e_ => (Kd.R_ne HO_299001.out BK284.out (by decide)) e_) e_) (fun e_ => (fun e_ => (Kd.R_ne HO_299004.out BK284.out (by decide)) e_) e_))); have n9_ := Aside0.mk (blk_kept (g := gb298) (o := .cells #[.int .i64 t288, .slice Ao49 t289.length co49, .int .i64 t292, .int .i64 t293, .slice Ao50 t294.length co50] 25 (0, 0)) (kb_ BK298.out) hkp (fun hs_ => Or.elim hs_ (fun e_ => (fun e_ => (Kd.R_ne HO_299001.out BK298.out (by decide)) e_) e_) (fun e_ => (fun e_ => (Kd.R_ne HO_299004.out BK298.out (by decide)) e_) e_))); have n10_ := Aside0.mk (hb); clear HO_275001; clear HO_275004; clear HO_285001; clear HO_285004; clear HO_299001; clear HO_299004; clear BK250; clear BK274; clear BK284; clear BK298; clear HB; have HO_275001 := n0_; have HO_275004 := n1_; have HO_285001 := n2_; have HO_285004 := n3_; have HO_299001 := n4_; have HO_299004 := n5_; have BK250 := n6_; have BK274 := n7_; have BK284 := n8_; have BK298 := n9_; have HB := n10_; clear n0_ n1_ n2_ n3_ n4_ n5_ n6_ n7_ n8_ n9_ n10_; (try clear hb); (try clear hkp); (try clear hy0); (try clear hy1); have hcz125_0 : w124.cell? ⟨gb298, 0, none⟩ = some (.int .i64 t288) := (blk_cell BK298.out 0).trans rfl; have hcz125_1 : w124.cell? ⟨gb298, 1, none⟩ = some (.slice Ao49 t289.length co49) := (blk_cell BK298.out 1).trans rfl; have hcz125_2 : w124.cell? ⟨gb298, 2, none⟩ = some (.int .i64 t292) := (blk_cell BK298.out 2).trans rfl; have hcz125_3 : w124.cell? ⟨gb298, 3, none⟩ = some (.int .i64 t293) := (blk_cell BK298.out 3).trans rfl; have hcz125_4 : w124.cell? ⟨gb298, 4, none⟩ = some (.slice Ao50 t294.length co50) := (blk_cell BK298.out 4).trans rfl; have hfz125_0 := blk_frozen BK298.out 0; have hfz125_1 := blk_frozen BK298.out 1; have hfz125_2 := blk_frozen BK298.out 2; have hfz125_3 := blk_frozen BK298.out 3; have hfz125_4 := blk_frozen BK298.out 4) | ((with_reducible refine gate_callee (f := 23) rfl ?_); refine goesL_ (some 86) rfl rfl Try.func23 (by kernel_rfl) rfl #[.agg #[.int .i64 t288, .slice Ao49 t321.length co49, .int .i64 t292, .int .i64 t293, .slice Ao50 t322.length co50], .int .i64 1] rfl (by (try simp only [List.map_toArray, List.map_cons, List.map_nil]); first | done | (rw [show t321.length = t289.length from (Kd.R_reads' HO_299001.out).1.symm, show t322.length = t294.length from (Kd.R_reads' HO_299004.out).1.symm] <;> rfl) | rfl | (simp only [List.length_drop, List.length_take]; rfl)) ?_; (with_reducible refine (laws_heldMouth.calls kj77 t288 _ _ t321 t292 t293 _ _ t322 1 t323 _ ?side1 ?side2 ?side3 ?side4 A113.out).mono ?_); (case side1 => exact kC_ (Kd.R_reads' HO_299001.out).2.2); (case side2 => rw [show t321.length = t289.length from (Kd.R_reads' HO_299001.out).1.symm]; exact (Kd.R_reads' HO_299001.out).2.1); (case side3 => exact kC_ (Kd.R_reads' HO_299004.out).2.2); (case side4 => rw [show t322.length = t294.length from (Kd.R_reads' HO_299004.out).1.symm]; exact (Kd.R_reads' HO_299004.out).2.1); rintro e w126 ⟨rfl, hb⟩; refine ⟨_, rfl, ?_⟩; have n0_ := Aside0.mk (Kd.R_below (kR_ HO_275001.out) hb); have n1_ := Aside0.mk (Kd.R_below (kR_ HO_275004.out) hb); have n2_ := Aside0.mk (Kd.R_below (kR_ HO_285001.out) hb); have n3_ := Aside0.mk (Kd.R_below (kR_ HO_285004.out) hb); have n4_ := Aside0.mk (Kd.R_below (kR_ HO_299001.out) hb); have n5_ := Aside0.mk (Kd.R_below (kR_ HO_299004.out) hb); have n6_ := Aside0.mk (blk_below (g := gb250) (o := .cells #[.int .i64 a0_0, .slice A0_1 l0_1.length c0_1, .int .i64 a0_2, .int .i64 a0_3, .slice A0_4 l0_4.length c0_4] 37 (0, 0)) (kb_ BK250.out) hb); have n7_ := Aside0.mk (blk_below (g := gb274) (o := .cells #[.int .i64 t264, .slice Ao30 t265.length co30, .int .i64 t268, .int .i64 t269, .slice Ao31 t270.length co31] 25 (0, 0)) (kb_ BK274.out) hb); have n8_ := Aside0.mk (blk_below (g := gb284) (o := .cells #[.int .i64 t275, .slice Ao38 t315.length co38, .int .i64 t279, .int .i64 t280, .slice Ao39 t316.length co39] 25 (0, 0)) (kb_ BK284.out) hb); have n9_ := Aside0.mk (blk_below (g := gb298) (o := .cells #[.int .i64 t288, .slice Ao49 t289.length co49, .int .i64 t292, .int .i64 t293, .slice Ao50 t294.length co50] 25 (0, 0)) (kb_ BK298.out) hb); have n10_ := Aside0.mk (below_step (hb4_ HB.out GE250.out GE274.out GE284.out GE298.out) hb); clear HO_275001; clear HO_275004; clear HO_285001; clear HO_285004; clear HO_299001; clear HO_299004; clear BK250; clear BK274; clear BK284; clear BK298; clear HB; have HO_275001 := n0_; have HO_275004 := n1_; have HO_285001 := n2_; have HO_285004 := n3_; have HO_299001 := n4_; have HO_299004 := n5_; have BK250 := n6_; have BK274 := n7_; have BK284 := n8_; have BK298 := n9_; have HB := n10_; clear n0_ n1_ n2_ n3_ n4_ n5_ n6_ n7_ n8_ n9_ n10_; (try clear hb); (try clear hb2); (try clear hk); (try clear hi); have hnb127 := NB250_274.out; have hnc127 := NB274_250.out; have hnb128 := NB250_284.out; have hnc128 := NB284_250.out; have hcz129_0 : w126.cell? ⟨gb250, 0, none⟩ = some (.int .i64 a0_0) := (blk_cell BK250.out 0).trans rfl; have hcz129_1 : w126.cell? ⟨gb250, 1, none⟩ = some (.slice A0_1 l0_1.length c0_1) := (blk_cell BK250.out 1).trans rfl; have hcz129_2 : w126.cell? ⟨gb250, 2, none⟩ = some (.int .i64 a0_2) := (blk_cell BK250.out 2).trans rfl; have hcz129_3 : w126.cell? ⟨gb250, 3, none⟩ = some (.int .i64 a0_3) := (blk_cell BK250.out 3).trans rfl; have hcz129_4 : w126.cell? ⟨gb250, 4, none⟩ = some (.slice A0_4 l0_4.length c0_4) := (blk_cell BK250.out 4).trans rfl; have hfz129_0 := blk_frozen BK250.out 0; have hfz129_1 := blk_frozen BK250.out 1; have hfz129_2 := blk_frozen BK250.out 2; have hfz129_3 := blk_frozen BK250.out 3; have hfz129_4 := blk_frozen BK250.out 4) | ((with_reducible refine gate_callee (f := 16) rfl ?_); refine goesL_ (some 94) rfl rfl Try.func16 (by kernel_rfl) rfl #[.agg #[.int .i64 a0_0, .slice A0_1 l0_1.length c0_1, .int .i64 a0_2, .int .i64 a0_3, .slice A0_4 l0_4.length c0_4]] rfl ar_ ?_; (with_reducible refine (laws_toMouth.calls kj77 a0_0 _ _ l0_1 a0_2 a0_3 _ _ l0_4 t324 t325 t328 t329 t330 _ ?side1 ?side2 ?side3 ?side4 A116.out).mono ?_); (case side1 => exact kC_ (Kd.C_below HR0_1.out HB.out)); (case side2 => exact HC0_1.out); (case side3 => exact kC_ (Kd.C_below HR0_4.out HB.out)); (case side4 => exact HC0_4.out); rintro e w130 ⟨v326, v331, rfl, ho0, ho1, hb⟩; refine ⟨_, rfl, ?_⟩; have n0_ := Aside0.mk (Kd.R_elder' (kR_ HO_275001.out) (Kd.R_base ho0) hb); have n1_ := Aside0.mk (Kd.R_elder' (kR_ HO_275004.out) (Kd.R_base ho1) hb); have n2_ := Aside0.mk (Kd.R_elder' (kR_ HO_285001.out) (Kd.R_base ho0) hb); have n3_ := Aside0.mk (Kd.R_elder' (kR_ HO_285004.out) (Kd.R_base ho1) hb); have n4_ := Aside0.mk (Kd.R_elder' (kR_ HO_299001.out) (Kd.R_base ho0) hb); have n5_ := Aside0.mk (Kd.R_elder' (kR_ HO_299004.out) (Kd.R_base ho1) hb); have n6_ := Aside0.mk (Kd.R_lower (Kd.R_new' (Kd.R_new' (Kd.R_new' ho0 (Kd.R_lt (kR_ HO_275001.out))) (Kd.R_lt (kR_ HO_285001.out))) (Kd.R_lt (kR_ HO_299001.out))) (below_size (hb4_ HB.out GE250.out GE274.out GE284.out GE298.out))); have n7_ := Aside0.mk (Kd.R_lower (Kd.R_new' (Kd.R_new' (Kd.R_new' ho1 (Kd.R_lt (kR_ HO_275004.out))) (Kd.R_lt (kR_ HO_285004.out))) (Kd.R_lt (kR_ HO_299004.out))) (below_size (hb4_ HB.out GE250.out GE274.out GE284.out GE298.out))); have n8_ := Aside0.mk (blk_below (g := gb250) (o := .cells #[.int .i64 a0_0, .slice A0_1 l0_1.length c0_1, .int .i64 a0_2, .int .i64 a0_3, .slice A0_4 l0_4.length c0_4] 37 (0, 0)) (kb_ BK250.out) hb); have n9_ := Aside0.mk (blk_below (g := gb274) (o := .cells #[.int .i64 t264, .slice Ao30 t265.length co30, .int .i64 t268, .int .i64 t269, .slice Ao31 t270.length co31] 25 (0, 0)) (kb_ BK274.out) hb); have n10_ := Aside0.mk (blk_below (g := gb284) (o := .cells #[.int .i64 t275, .slice Ao38 t315.length co38, .int .i64 t279, .int .i64 t280, .slice Ao39 t316.length co39] 25 (0, 0)) (kb_ BK284.out) hb); have n11_ := Aside0.mk (blk_below (g := gb298) (o := .cells #[.int .i64 t288, .slice Ao49 t289.length co49, .int .i64 t292, .int .i64 t293, .slice Ao50 t294.length co50] 25 (0, 0)) (kb_ BK298.out) hb); have n12_ := Aside0.mk (below_step (hb4_ HB.out GE250.out GE274.out GE284.out GE298.out) hb); clear HO_275001; clear HO_275004; clear HO_285001; clear HO_285004; clear HO_299001; clear HO_299004; clear BK250; clear BK274; clear BK284; clear BK298; clear HB; have HO_275001 := n0_; have HO_275004 := n1_; have HO_285001 := n2_; have HO_285004 := n3_; have HO_299001 := n4_; have HO_299004 := n5_; have HO327 := n6_; have HO332 := n7_; have BK250 := n8_; have BK274 := n9_; have BK284 := n10_; have BK298 := n11_; have HB := n12_; clear n0_ n1_ n2_ n3_ n4_ n5_ n6_ n7_ n8_ n9_ n10_ n11_ n12_; (try clear hb); (try clear hb2); (try clear hk); (try clear hi); (try clear ho0); (try clear ho1)) | ((with_reducible refine gate_callee (f := 24) rfl ?_); refine goesL_ (some 96) rfl rfl Try.func24 (by kernel_rfl) rfl #[.slice A1 l1.length c1] rfl ar_ ?_; (with_reducible refine (laws_toByteS.calls kj77 _ _ l1 t333 _ ?side1 ?side2 A117.out).mono ?_); (case side1 => exact kC_ (Kd.C_below HR1.out HB.out)); (case side2 => exact HC1.out); rintro e w131 ⟨v334, rfl, ho0, hb⟩; refine ⟨_, rfl, ?_⟩; have n0_ := Aside0.mk (Kd.R_elder' (kR_ HO_275001.out) (Kd.R_base ho0) hb); have n1_ := Aside0.mk (Kd.R_below (kR_ HO_275004.out) hb); have n2_ := Aside0.mk (Kd.R_elder' (kR_ HO_285001.out) (Kd.R_base ho0) hb); have n3_ := Aside0.mk (Kd.R_below (kR_ HO_285004.out) hb); have n4_ := Aside0.mk (Kd.R_elder' (kR_ HO_299001.out) (Kd.R_base ho0) hb); have n5_ := Aside0.mk (Kd.R_below (kR_ HO_299004.out) hb); have n6_ := Aside0.mk (Kd.R_elder' (kR_ HO327.out) (Kd.R_base ho0) hb); have n7_ := Aside0.mk (Kd.R_below (kR_ HO332.out) hb); have n8_ := Aside0.mk (Kd.R_lower (Kd.R_new' (Kd.R_new' (Kd.R_new' (Kd.R_new' ho0 (Kd.R_lt (kR_ HO_275001.out))) (Kd.R_lt (kR_ HO_285001.out))) (Kd.R_lt (kR_ HO_299001.out))) (Kd.R_lt (kR_ HO327.out))) (below_size (hb4_ HB.out GE250.out GE274.out GE284.out GE298.out))); have n9_ := Aside0.mk (blk_below (g := gb250) (o := .cells #[.int .i64 a0_0, .slice A0_1 l0_1.length c0_1, .int .i64 a0_2, .int .i64 a0_3, .slice A0_4 l0_4.length c0_4] 37 (0, 0)) (kb_ BK250.out) hb); have n10_ := Aside0.mk (blk_below (g := gb274) (o := .cells #[.int .i64 t264, .slice Ao30 t265.length co30, .int .i64 t268, .int .i64 t269, .slice Ao31 t270.length co31] 25 (0, 0)) (kb_ BK274.out) hb); have n11_ := Aside0.mk (blk_below (g := gb284) (o := .cells #[.int .i64 t275, .slice Ao38 t315.length co38, .int .i64 t279, .int .i64 t280, .slice Ao39 t316.length co39] 25 (0, 0)) (kb_ BK284.out) hb); have n12_ := Aside0.mk (blk_below (g := gb298) (o := .cells #[.int .i64 t288, .slice Ao49 t289.length co49, .int .i64 t292, .int .i64 t293, .slice Ao50 t294.length co50] 25 (0, 0)) (kb_ BK298.out) hb); have n13_ := Aside0.mk (below_step (hb4_ HB.out GE250.out GE274.out GE284.out GE298.out) hb); clear HO_275001; clear HO_275004; clear HO_285001; clear HO_285004; clear HO_299001; clear HO_299004; clear HO327; clear HO332; clear BK250; clear BK274; clear BK284; clear BK298; clear HB; have HO_275001 := n0_; have HO_275004 := n1_; have HO_285001 := n2_; have HO_285004 := n3_; have HO_299001 := n4_; have HO_299004 := n5_; have HO327 := n6_; have HO332 := n7_; have HO335 := n8_; have BK250 := n9_; have BK274 := n10_; have BK284 := n11_; have BK298 := n12_; have HB := n13_; clear n0_ n1_ n2_ n3_ n4_ n5_ n6_ n7_ n8_ n9_ n10_ n11_ n12_ n13_; (try clear hb); (try clear hb2); (try clear hk); (try clear hi); (try clear ho0); obtain ⟨Ao132, co132, eo132⟩ := Kd.R_slice HO327.out; subst eo132; obtain ⟨Ao133, co133, eo133⟩ := Kd.R_slice HO332.out; subst eo133; obtain ⟨Ao134, co134, eo134⟩ := Kd.R_slice HO335.out; subst eo134) | ((with_reducible refine gate_callee (f := 7) rfl ?_); refine goesL_ (some 97) rfl rfl Try.func7 (by kernel_rfl) rfl #[.agg #[.int .i64 t324, .slice Ao132 t325.length co132, .int .i64 t328, .int .i64 t329, .slice Ao133 t330.length co133], .slice Ao134 t333.length co134] rfl ar_ ?_; (with_reducible refine (impl_MouthWrite.calls kj77 t324 _ _ t325 t328 t329 _ _ t330 _ _ t333 t336 t337 t340 t341 t342 t345 _ ?side1 ?side2 ?side3 ?side4 ?side5 ?side6 A118.out).mono ?_); (case side1 => exact kC_ (Kd.R_reads' HO327.out).2.2); (case side2 => exact (Kd.R_reads' HO327.out).2.1); (case side3 => exact kC_ (Kd.R_reads' HO332.out).2.2); (case side4 => exact (Kd.R_reads' HO332.out).2.1); (case side5 => exact kC_ (Kd.R_reads' HO335.out).2.2); (case side6 => exact (Kd.R_reads' HO335.out).2.1); rintro e w135 ⟨v338, v343, rfl, ho0, ho1, hb⟩; refine ⟨_, rfl, ?_⟩; have n0_ := Aside0.mk (Kd.R_elder' (kR_ HO_275001.out) (Kd.R_base ho0) hb); have n1_ := Aside0.mk (Kd.R_elder' (kR_ HO_275004.out) (Kd.R_base ho1) hb); have n2_ := Aside0.mk (Kd.R_elder' (kR_ HO_285001.out) (Kd.R_base ho0) hb); have n3_ := Aside0.mk (Kd.R_elder' (kR_ HO_285004.out) (Kd.R_base ho1) hb); have n4_ := Aside0.mk (Kd.R_elder' (kR_ HO_299001.out) (Kd.R_base ho0) hb); have n5_ := Aside0.mk (Kd.R_elder' (kR_ HO_299004.out) (Kd.R_base ho1) hb); have n6_ := Aside0.mk (Kd.R_elder' (kR_ HO327.out) (Kd.R_base ho0) hb); have n7_ := Aside0.mk (Kd.R_elder' (kR_ HO332.out) (Kd.R_base ho1) hb); have n8_ := Aside0.mk (Kd.R_elder' (kR_ HO335.out) (Kd.R_base ho0) hb); have n9_ := Aside0.mk (Kd.R_lower (Kd.R_new' (Kd.R_new' (Kd.R_new' (Kd.R_new' (Kd.R_new' ho0 (Kd.R_lt (kR_ HO_275001.out))) (Kd.R_lt (kR_ HO_285001.out))) (Kd.R_lt (kR_ HO_299001.out))) (Kd.R_lt (kR_ HO327.out))) (Kd.R_lt (kR_ HO335.out))) (below_size (hb4_ HB.out GE250.out GE274.out GE284.out GE298.out))); have n10_ := Aside0.mk (Kd.R_lower (Kd.R_new' (Kd.R_new' (Kd.R_new' (Kd.R_new' ho1 (Kd.R_lt (kR_ HO_275004.out))) (Kd.R_lt (kR_ HO_285004.out))) (Kd.R_lt (kR_ HO_299004.out))) (Kd.R_lt (kR_ HO332.out))) (below_size (hb4_ HB.out GE250.out GE274.out GE284.out GE298.out))); have n11_ := Aside0.mk (blk_below (g := gb250) (o := .cells #[.int .i64 a0_0, .slice A0_1 l0_1.length c0_1, .int .i64 a0_2, .int .i64 a0_3, .slice A0_4 l0_4.length c0_4] 37 (0, 0)) (kb_ BK250.out) hb); have n12_ := Aside0.mk (blk_below (g := gb274) (o := .cells #[.int .i64 t264, .slice Ao30 t265.length co30, .int .i64 t268, .int .i64 t269, .slice Ao31 t270.length co31] 25 (0, 0)) (kb_ BK274.out) hb); have n13_ := Aside0.mk (blk_below (g := gb284) (o := .cells #[.int .i64 t275, .slice Ao38 t315.length co38, .int .i64 t279, .int .i64 t280, .slice Ao39 t316.length co39] 25 (0, 0)) (kb_ BK284.out) hb); have n14_ := Aside0.mk (blk_below (g := gb298) (o := .cells #[.int .i64 t288, .slice Ao49 t289.length co49, .int .i64 t292, .int .i64 t293, .slice Ao50 t294.length co50] 25 (0, 0)) (kb_ BK298.out) hb); have n15_ := Aside0.mk (below_step (hb4_ HB.out GE250.out GE274.out GE284.out GE298.out) hb); clear HO_275001; clear HO_275004; clear HO_285001; clear HO_285004; clear HO_299001; clear HO_299004; clear HO327; clear HO332; clear HO335; clear BK250; clear BK274; clear BK284; clear BK298; clear HB; have HO_275001 := n0_; have HO_275004 := n1_; have HO_285001 := n2_; have HO_285004 := n3_; have HO_299001 := n4_; have HO_299004 := n5_; have HO327 := n6_; have HO332 := n7_; have HO335 := n8_; have HO339 := n9_; have HO344 := n10_; have BK250 := n11_; have BK274 := n12_; have BK284 := n13_; have BK298 := n14_; have HB := n15_; clear n0_ n1_ n2_ n3_ n4_ n5_ n6_ n7_ n8_ n9_ n10_ n11_ n12_ n13_ n14_ n15_; (try clear hb); (try clear hb2); (try clear hk); (try clear hi); (try clear ho0); (try clear ho1)) | ((with_reducible refine gate_dst (N := 15) rfl ?_); refine box_event ?hg (N := 15) ?hd (cs := #[.int .i64 0, .slice none 0 0, .int .i64 0, .int .i64 0, .slice none 0 0]) (t := 25) ?hr ?_; (case hd => rfl); (case hg => rfl); (case hr => first | (go_simp; done) | (go_simp; rfl)); intro gb346 hg w136 hbox hb; have n0_ := Aside0.mk (Kd.R_below (kR_ HO_275001.out) hb); have n1_ := Aside0.mk (Kd.R_below (kR_ HO_275004.out) hb); have n2_ := Aside0.mk (Kd.R_below (kR_ HO_285001.out) hb); have n3_ := Aside0.mk (Kd.R_below (kR_ HO_285004.out) hb); have n4_ := Aside0.mk (Kd.R_below (kR_ HO_299001.out) hb); have n5_ := Aside0.mk (Kd.R_below (kR_ HO_299004.out) hb); have n6_ := Aside0.mk (Kd.R_below (kR_ HO327.out) hb); have n7_ := Aside0.mk (Kd.R_below (kR_ HO332.out) hb); have n8_ := Aside0.mk (Kd.R_below (kR_ HO335.out) hb); have n9_ := Aside0.mk (Kd.R_below (kR_ HO339.out) hb); have n10_ := Aside0.mk (Kd.R_below (kR_ HO344.out) hb); have n11_ := Aside0.mk (blk_below (g := gb250) (o := .cells #[.int .i64 a0_0, .slice A0_1 l0_1.length c0_1, .int .i64 a0_2, .int .i64 a0_3, .slice A0_4 l0_4.length c0_4] 37 (0, 0)) (kb_ BK250.out) hb); have n12_ := Aside0.mk (blk_below (g := gb274) (o := .cells #[.int .i64 t264, .slice Ao30 t265.length co30, .int .i64 t268, .int .i64 t269, .slice Ao31 t270.length co31] 25 (0, 0)) (kb_ BK274.out) hb); have n13_ := Aside0.mk (blk_below (g := gb284) (o := .cells #[.int .i64 t275, .slice Ao38 t315.length co38, .int .i64 t279, .int .i64 t280, .slice Ao39 t316.length co39] 25 (0, 0)) (kb_ BK284.out) hb); have n14_ := Aside0.mk (blk_below (g := gb298) (o := .cells #[.int .i64 t288, .slice Ao49 t289.length co49, .int .i64 t292, .int .i64 t293, .slice Ao50 t294.length co50] 25 (0, 0)) (kb_ BK298.out) hb); have n15_ := Aside0.mk (below_step (hb4_ HB.out GE250.out GE274.out GE284.out GE298.out) hb); have n16_ := Aside0.mk (hbox); have n17_ := Aside0.mk ((by rw [hg]; exact (below_size (hb4_ HB.out GE250.out GE274.out GE284.out GE298.out)) : w.heap.size ≤ gb346)); have n18_ := Aside0.mk ((by rw [hg]; exact (below_size (hb4_ HB.out GE250.out GE274.out GE284.out GE298.out)) : w.heap.size ≤ gb346)); have n19_ := Aside0.mk ((by rw [hg]; exact Nat.ne_of_lt (blk_lt (g := gb250) (o := .cells #[.int .i64 a0_0, .slice A0_1 l0_1.length c0_1, .int .i64 a0_2, .int .i64 a0_3, .slice A0_4 l0_4.length c0_4] 37 (0, 0)) (kb_ BK250.out)) : gb250 ≠ gb346)); have n20_ := Aside0.mk ((by rw [hg]; exact Nat.ne_of_gt (blk_lt (g := gb250) (o := .cells #[.int .i64 a0_0, .slice A0_1 l0_1.length c0_1, .int .i64 a0_2, .int .i64 a0_3, .slice A0_4 l0_4.length c0_4] 37 (0, 0)) (kb_ BK250.out)) : gb346 ≠ gb250)); have n21_ := Aside0.mk ((by rw [hg]; exact Nat.ne_of_lt (blk_lt (g := gb274) (o := .cells #[.int .i64 t264, .slice Ao30 t265.length co30, .int .i64 t268, .int .i64 t269, .slice Ao31 t270.length co31] 25 (0, 0)) (kb_ BK274.out)) : gb274 ≠ gb346)); have n22_ := Aside0.mk ((by rw [hg]; exact Nat.ne_of_gt (blk_lt (g := gb274) (o := .cells #[.int .i64 t264, .slice Ao30 t265.length co30, .int .i64 t268, .int .i64 t269, .slice Ao31 t270.length co31] 25 (0, 0)) (kb_ BK274.out)) : gb346 ≠ gb274)); have n23_ := Aside0.mk ((by rw [hg]; exact Nat.ne_of_lt (blk_lt (g := gb284) (o := .cells #[.int .i64 t275, .slice Ao38 t315.length co38, .int .i64 t279, .int .i64 t280, .slice Ao39 t316.length co39] 25 (0, 0)) (kb_ BK284.out)) : gb284 ≠ gb346)); have n24_ := Aside0.mk ((by rw [hg]; exact Nat.ne_of_gt (blk_lt (g := gb284) (o := .cells #[.int .i64 t275, .slice Ao38 t315.length co38, .int .i64 t279, .int .i64 t280, .slice Ao39 t316.length co39] 25 (0, 0)) (kb_ BK284.out)) : gb346 ≠ gb284)); have n25_ := Aside0.mk ((by rw [hg]; exact Nat.ne_of_lt (blk_lt (g := gb298) (o := .cells #[.int .i64 t288, .slice Ao49 t289.length co49, .int .i64 t292, .int .i64 t293, .slice Ao50 t294.length co50] 25 (0, 0)) (kb_ BK298.out)) : gb298 ≠ gb346)); have n26_ := Aside0.mk ((by rw [hg]; exact Nat.ne_of_gt (blk_lt (g := gb298) (o := .cells #[.int .i64 t288, .slice Ao49 t289.length co49, .int .i64 t292, .int .i64 t293, .slice Ao50 t294.length co50] 25 (0, 0)) (kb_ BK298.out)) : gb346 ≠ gb298)); clear HO_275001; clear HO_275004; clear HO_285001; clear HO_285004; clear HO_299001; clear HO_299004; clear HO327; clear HO332; clear HO335; clear HO339; clear HO344; clear BK250; clear BK274; clear BK284; clear BK298; clear HB; have HO_275001 := n0_; have HO_275004 := n1_; have HO_285001 := n2_; have HO_285004 := n3_; have HO_299001 := n4_; have HO_299004 := n5_; have HO327 := n6_; have HO332 := n7_; have HO335 := n8_; have HO339 := n9_; have HO344 := n10_; have BK250 := n11_; have BK274 := n12_; have BK284 := n13_; have BK298 := n14_; have HB := n15_; have BK346 := n16_; have GW346 := n17_; have GE346 := n18_; have NB250_346 := n19_; have NB346_250 := n20_; have NB274_346 := n21_; have NB346_274 := n22_; have NB284_346 := n23_; have NB346_284 := n24_; have NB298_346 := n25_; have NB346_298 := n26_; clear n0_ n1_ n2_ n3_ n4_ n5_ n6_ n7_ n8_ n9_ n10_ n11_ n12_ n13_ n14_ n15_ n16_ n17_ n18_ n19_ n20_ n21_ n22_ n23_ n24_ n25_ n26_; clear hb hbox hg; have hnb137 := NB346_250.out; have hnc137 := NB250_346.out; have hnb138 := NB346_274.out; have hnc138 := NB274_346.out; have hnb139 := NB346_284.out; have hnc139 := NB284_346.out; have hnb140 := NB346_298.out; have hnc140 := NB298_346.out; have hcz141_0 : w136.cell? ⟨gb346, 0, none⟩ = some (.int .i64 0) := (blk_cell BK346.out 0).trans rfl; have hcz141_1 : w136.cell? ⟨gb346, 1, none⟩ = some (.slice none 0 0) := (blk_cell BK346.out 1).trans rfl; have hcz141_2 : w136.cell? ⟨gb346, 2, none⟩ = some (.int .i64 0) := (blk_cell BK346.out 2).trans rfl; have hcz141_3 : w136.cell? ⟨gb346, 3, none⟩ = some (.int .i64 0) := (blk_cell BK346.out 3).trans rfl; have hcz141_4 : w136.cell? ⟨gb346, 4, none⟩ = some (.slice none 0 0) := (blk_cell BK346.out 4).trans rfl; have hfz141_0 := blk_frozen BK346.out 0; have hfz141_1 := blk_frozen BK346.out 1; have hfz141_2 := blk_frozen BK346.out 2; have hfz141_3 := blk_frozen BK346.out 3; have hfz141_4 := blk_frozen BK346.out 4; obtain ⟨Ao142, co142, eo142⟩ := Kd.R_slice HO339.out; subst eo142; obtain ⟨Ao143, co143, eo143⟩ := Kd.R_slice HO344.out; subst eo143))
                          (try simp only [Act.put, List.setIfInBounds_toArray, List.set_cons_zero, List.set_cons_succ])
                          go_cut [108] (fun v108 wc => ∃ (kq : Nat) (x108_118 : Bool), v108 = .bool x108_118 ∧ Aside0 (laws_FnExactMouthWrite.j2 kq t320 x108_118 t288 t321 t292 t293 t322 = some r) ∧ Aside0 (kq ≤ kj77) ∧ Aside0 (Kd.R (Kd.int .u8) 5 wc w.heap.size (fun k_ => some k_ ≠ ((.slice Ao38 t315.length co38) : Value).ownBlock ∧ some k_ ≠ ((.slice Ao49 t289.length co49) : Value).ownBlock ∧ some k_ ≠ ((.slice Ao142 t337.length co142) : Value).ownBlock) (.slice Ao30 t265.length co30) t265) ∧ Aside0 (Kd.R k60 60 wc w.heap.size (fun k_ => some k_ ≠ ((.slice Ao39 t316.length co39) : Value).ownBlock ∧ some k_ ≠ ((.slice Ao50 t294.length co50) : Value).ownBlock ∧ some k_ ≠ ((.slice Ao143 t342.length co143) : Value).ownBlock) (.slice Ao31 t270.length co31) t270) ∧ Aside0 (Kd.R (Kd.int .u8) 5 wc w.heap.size (fun k_ => some k_ ≠ ((.slice Ao30 t265.length co30) : Value).ownBlock ∧ some k_ ≠ ((.slice Ao49 t289.length co49) : Value).ownBlock ∧ some k_ ≠ ((.slice Ao142 t337.length co142) : Value).ownBlock) (.slice Ao38 t315.length co38) t315) ∧ Aside0 (Kd.R k60 60 wc w.heap.size (fun k_ => some k_ ≠ ((.slice Ao31 t270.length co31) : Value).ownBlock ∧ some k_ ≠ ((.slice Ao50 t294.length co50) : Value).ownBlock ∧ some k_ ≠ ((.slice Ao143 t342.length co143) : Value).ownBlock) (.slice Ao39 t316.length co39) t316) ∧ Aside0 (Kd.R (Kd.int .u8) 5 wc w.heap.size (fun k_ => some k_ ≠ ((.slice Ao30 t265.length co30) : Value).ownBlock ∧ some k_ ≠ ((.slice Ao38 t315.length co38) : Value).ownBlock ∧ some k_ ≠ ((.slice Ao142 t337.length co142) : Value).ownBlock) (.slice Ao49 t289.length co49) t321) ∧ Aside0 (Kd.R k60 60 wc w.heap.size (fun k_ => some k_ ≠ ((.slice Ao31 t270.length co31) : Value).ownBlock ∧ some k_ ≠ ((.slice Ao39 t316.length co39) : Value).ownBlock ∧ some k_ ≠ ((.slice Ao143 t342.length co143) : Value).ownBlock) (.slice Ao50 t294.length co50) t322) ∧ Aside0 (Kd.R (Kd.int .u8) 5 wc w.heap.size (fun k_ => some k_ ≠ ((.slice Ao30 t265.length co30) : Value).ownBlock ∧ some k_ ≠ ((.slice Ao38 t315.length co38) : Value).ownBlock ∧ some k_ ≠ ((.slice Ao49 t289.length co49) : Value).ownBlock) (.slice Ao142 t337.length co142) t337) ∧ Aside0 (Kd.R k60 60 wc w.heap.size (fun k_ => some k_ ≠ ((.slice Ao31 t270.length co31) : Value).ownBlock ∧ some k_ ≠ ((.slice Ao39 t316.length co39) : Value).ownBlock ∧ some k_ ≠ ((.slice Ao50 t294.length co50) : Value).ownBlock) (.slice Ao143 t342.length co143) t342) ∧ Aside0 (wc.heap[gb250]? = some (.cells #[.int .i64 a0_0, (.slice A0_1 l0_1.length c0_1), .int .i64 a0_2, .int .i64 a0_3, (.slice A0_4 l0_4.length c0_4)] 37 (0, 0))) ∧ Aside0 (wc.heap[gb274]? = some (.cells #[.int .i64 t264, (.slice Ao30 t265.length co30), .int .i64 t268, .int .i64 t269, (.slice Ao31 t270.length co31)] 25 (0, 0))) ∧ Aside0 (wc.heap[gb284]? = some (.cells #[.int .i64 t275, (.slice Ao38 t315.length co38), .int .i64 t279, .int .i64 t280, (.slice Ao39 t316.length co39)] 25 (0, 0))) ∧ Aside0 (wc.heap[gb298]? = some (.cells #[.int .i64 t288, (.slice Ao49 t289.length co49), .int .i64 t292, .int .i64 t293, (.slice Ao50 t294.length co50)] 25 (0, 0))) ∧ Aside0 (wc.heap[gb346]? = some (.cells #[.int .i64 t336, (.slice Ao142 t337.length co142), .int .i64 t340, .int .i64 t341, (.slice Ao143 t342.length co143)] 25 (0, 0))) ∧ Aside0 (Below w.heap.size w wc))
                          case first =>
                            have H := HC119.out
                            clear HC119
                            replace H := Option.bind_eq_some_iff.mp H
                            obtain ⟨t347, A1440, H⟩ := H
                            replace H : (if t347 = true then (laws_FnExactMouthWrite.j2 kj77 t320 (t345 != t273) t288 t321 t292 t293 t322) else (laws_FnExactMouthWrite.j2 kj77 t320 true t288 t321 t292 t293 t322)) = some r := H
                            have A144 := Aside0.mk A1440
                            clear A1440
                            by_cases c145 : t347 = true
                            · subst c145
                              have H1 : (laws_FnExactMouthWrite.j2 kj77 t320 (t345 != t273) t288 t321 t292 t293 t322) = some r := by rw [if_pos rfl] at H; exact H
                              clear H
                              have H := H1
                              clear H1
                              have H' := Aside0.mk H
                              clear H
                              have hnb146 := NB346_250.out
                              have hnc146 := NB250_346.out
                              have hnb147 := NB346_274.out
                              have hnc147 := NB274_346.out
                              have hnb148 := NB346_284.out
                              have hnc148 := NB284_346.out
                              have hnb149 := NB346_298.out
                              have hnc149 := NB298_346.out
                              have hcz150_0 : w136.cell? ⟨gb346, 0, none⟩ = some (.int .i64 0) := (blk_cell BK346.out 0).trans rfl
                              have hcz150_1 : w136.cell? ⟨gb346, 1, none⟩ = some (.slice none 0 0) := (blk_cell BK346.out 1).trans rfl
                              have hcz150_2 : w136.cell? ⟨gb346, 2, none⟩ = some (.int .i64 0) := (blk_cell BK346.out 2).trans rfl
                              have hcz150_3 : w136.cell? ⟨gb346, 3, none⟩ = some (.int .i64 0) := (blk_cell BK346.out 3).trans rfl
                              have hcz150_4 : w136.cell? ⟨gb346, 4, none⟩ = some (.slice none 0 0) := (blk_cell BK346.out 4).trans rfl
                              have hfz150_0 := blk_frozen BK346.out 0
                              have hfz150_1 := blk_frozen BK346.out 1
                              have hfz150_2 := blk_frozen BK346.out 2
                              have hfz150_3 := blk_frozen BK346.out 3
                              have hfz150_4 := blk_frozen BK346.out 4
                              have hnb151 := NB274_250.out
                              have hnc151 := NB250_274.out
                              have hnb152 := NB274_284.out
                              have hnc152 := NB284_274.out
                              have hnb153 := NB274_298.out
                              have hnc153 := NB298_274.out
                              have hcz154_0 : w136.cell? ⟨gb274, 0, none⟩ = some (.int .i64 t264) := (blk_cell BK274.out 0).trans rfl
                              have hcz154_1 : w136.cell? ⟨gb274, 1, none⟩ = some (.slice Ao30 t265.length co30) := (blk_cell BK274.out 1).trans rfl
                              have hcz154_2 : w136.cell? ⟨gb274, 2, none⟩ = some (.int .i64 t268) := (blk_cell BK274.out 2).trans rfl
                              have hcz154_3 : w136.cell? ⟨gb274, 3, none⟩ = some (.int .i64 t269) := (blk_cell BK274.out 3).trans rfl
                              have hcz154_4 : w136.cell? ⟨gb274, 4, none⟩ = some (.slice Ao31 t270.length co31) := (blk_cell BK274.out 4).trans rfl
                              have hfz154_0 := blk_frozen BK274.out 0
                              have hfz154_1 := blk_frozen BK274.out 1
                              have hfz154_2 := blk_frozen BK274.out 2
                              have hfz154_3 := blk_frozen BK274.out 3
                              have hfz154_4 := blk_frozen BK274.out 4
                              go_wp2_with (first | ((with_reducible refine gate_callee (f := 19) rfl ?_); refine goesL_ (some 102) rfl rfl Try.func19 (by kernel_rfl) rfl #[.agg #[.int .i64 t336, .slice Ao142 t337.length co142, .int .i64 t340, .int .i64 t341, .slice Ao143 t342.length co143], .agg #[.int .i64 t264, .slice Ao30 t265.length co30, .int .i64 t268, .int .i64 t269, .slice Ao31 t270.length co31]] rfl ar_ ?_; (with_reducible refine (laws_eqMouth.calls kj77 t336 _ _ t337 t340 t341 _ _ t342 t264 _ _ t265 t268 t269 _ _ t270 true _ ?side1 ?side2 ?side3 ?side4 ?side5 ?side6 ?side7 ?side8 A144.out).mono ?_); (case side1 => refine (Kd.R_reads' (e := 5) (base := w.heap.size) (ok := fun k_ => (((((True ∧ some k_ ≠ (.slice Ao30 t265.length co30 : Value).ownBlock) ∧ some k_ ≠ (.slice Ao38 t315.length co38 : Value).ownBlock) ∧ some k_ ≠ (.slice Ao49 t289.length co49 : Value).ownBlock) ∧ some k_ ≠ (.slice Ao132 t325.length co132 : Value).ownBlock) ∧ some k_ ≠ (.slice Ao134 t333.length co134 : Value).ownBlock)) (n := t337.length) (c := co142) ?_).2.2; exact (by refine kR_ ?_; exact (Kd.R_mono (Kd.R_f gb346 4 (.slice Ao143 t342.length co143) (Kd.R_f gb346 3 (.int .i64 t341) (Kd.R_f gb346 2 (.int .i64 t340) (Kd.R_f gb346 1 (.slice Ao142 t337.length co142) (Kd.R_f gb346 0 (.int .i64 t336) (Kd.R_types HO339.out BK346.out (by decide))))))) (fun _ h_ => op1_ h_)))); (case side2 => exact (Kd.R_reads' HO339.out).2.1); (case side3 => refine (Kd.R_reads' (e := 60) (base := w.heap.size) (ok := fun k_ => ((((True ∧ some k_ ≠ (.slice Ao31 t270.length co31 : Value).ownBlock) ∧ some k_ ≠ (.slice Ao39 t316.length co39 : Value).ownBlock) ∧ some k_ ≠ (.slice Ao50 t294.length co50 : Value).ownBlock) ∧ some k_ ≠ (.slice Ao133 t330.length co133 : Value).ownBlock)) (n := t342.length) (c := co143) ?_).2.2; exact (by refine kR_ ?_; exact (Kd.R_mono (Kd.R_f gb346 4 (.slice Ao143 t342.length co143) (Kd.R_f gb346 3 (.int .i64 t341) (Kd.R_f gb346 2 (.int .i64 t340) (Kd.R_f gb346 1 (.slice Ao142 t337.length co142) (Kd.R_f gb346 0 (.int .i64 t336) (Kd.R_types HO344.out BK346.out (by decide))))))) (fun _ h_ => op1_ h_)))); (case side4 => exact (Kd.R_reads' HO344.out).2.1); (case side5 => refine (Kd.R_reads' (e := 5) (base := w.heap.size) (ok := fun k_ => ((((some k_ ≠ (.slice Ao38 t315.length co38 : Value).ownBlock ∧ some k_ ≠ (.slice Ao49 t289.length co49 : Value).ownBlock) ∧ some k_ ≠ (.slice Ao132 t325.length co132 : Value).ownBlock) ∧ some k_ ≠ (.slice Ao134 t333.length co134 : Value).ownBlock) ∧ some k_ ≠ (.slice Ao142 t337.length co142 : Value).ownBlock)) (n := t265.length) (c := co30) ?_).2.2; exact (by refine kR_ ?_; exact (Kd.R_mono (Kd.R_f gb346 4 (.slice Ao143 t342.length co143) (Kd.R_f gb346 3 (.int .i64 t341) (Kd.R_f gb346 2 (.int .i64 t340) (Kd.R_f gb346 1 (.slice Ao142 t337.length co142) (Kd.R_f gb346 0 (.int .i64 t336) (Kd.R_types HO_275001.out BK346.out (by decide))))))) (fun _ h_ => op1_ h_)))); (case side6 => exact (Kd.R_reads' HO_275001.out).2.1); (case side7 => refine (Kd.R_reads' (e := 60) (base := w.heap.size) (ok := fun k_ => (((some k_ ≠ (.slice Ao39 t316.length co39 : Value).ownBlock ∧ some k_ ≠ (.slice Ao50 t294.length co50 : Value).ownBlock) ∧ some k_ ≠ (.slice Ao133 t330.length co133 : Value).ownBlock) ∧ some k_ ≠ (.slice Ao143 t342.length co143 : Value).ownBlock)) (n := t270.length) (c := co31) ?_).2.2; exact (by refine kR_ ?_; exact (Kd.R_mono (Kd.R_f gb346 4 (.slice Ao143 t342.length co143) (Kd.R_f gb346 3 (.int .i64 t341) (Kd.R_f gb346 2 (.int .i64 t340) (Kd.R_f gb346 1 (.slice Ao142 t337.length co142) (Kd.R_f gb346 0 (.int .i64 t336) (Kd.R_types HO_275004.out BK346.out (by decide))))))) (fun _ h_ => op1_ h_)))); (case side8 => exact (Kd.R_reads' HO_275004.out).2.1); rintro e w155 ⟨rfl, hb⟩; refine ⟨_, rfl, ?_⟩; have n0_ := Aside0.mk (Kd.R_below (by refine kR_ ?_; exact (Kd.R_mono (Kd.R_f gb346 4 (.slice Ao143 t342.length co143) (Kd.R_f gb346 3 (.int .i64 t341) (Kd.R_f gb346 2 (.int .i64 t340) (Kd.R_f gb346 1 (.slice Ao142 t337.length co142) (Kd.R_f gb346 0 (.int .i64 t336) (Kd.R_types HO_275001.out BK346.out (by decide))))))) (fun _ h_ => op1_ h_))) hb); have n1_ := Aside0.mk (Kd.R_below (by refine kR_ ?_; exact (Kd.R_mono (Kd.R_f gb346 4 (.slice Ao143 t342.length co143) (Kd.R_f gb346 3 (.int .i64 t341) (Kd.R_f gb346 2 (.int .i64 t340) (Kd.R_f gb346 1 (.slice Ao142 t337.length co142) (Kd.R_f gb346 0 (.int .i64 t336) (Kd.R_types HO_275004.out BK346.out (by decide))))))) (fun _ h_ => op1_ h_))) hb); have n2_ := Aside0.mk (Kd.R_below (by refine kR_ ?_; exact (Kd.R_mono (Kd.R_f gb346 4 (.slice Ao143 t342.length co143) (Kd.R_f gb346 3 (.int .i64 t341) (Kd.R_f gb346 2 (.int .i64 t340) (Kd.R_f gb346 1 (.slice Ao142 t337.length co142) (Kd.R_f gb346 0 (.int .i64 t336) (Kd.R_types HO_285001.out BK346.out (by decide))))))) (fun _ h_ => op1_ h_))) hb); have n3_ := Aside0.mk (Kd.R_below (by refine kR_ ?_; exact (Kd.R_mono (Kd.R_f gb346 4 (.slice Ao143 t342.length co143) (Kd.R_f gb346 3 (.int .i64 t341) (Kd.R_f gb346 2 (.int .i64 t340) (Kd.R_f gb346 1 (.slice Ao142 t337.length co142) (Kd.R_f gb346 0 (.int .i64 t336) (Kd.R_types HO_285004.out BK346.out (by decide))))))) (fun _ h_ => op1_ h_))) hb); have n4_ := Aside0.mk (Kd.R_below (by refine kR_ ?_; exact (Kd.R_mono (Kd.R_f gb346 4 (.slice Ao143 t342.length co143) (Kd.R_f gb346 3 (.int .i64 t341) (Kd.R_f gb346 2 (.int .i64 t340) (Kd.R_f gb346 1 (.slice Ao142 t337.length co142) (Kd.R_f gb346 0 (.int .i64 t336) (Kd.R_types HO_299001.out BK346.out (by decide))))))) (fun _ h_ => op1_ h_))) hb); have n5_ := Aside0.mk (Kd.R_below (by refine kR_ ?_; exact (Kd.R_mono (Kd.R_f gb346 4 (.slice Ao143 t342.length co143) (Kd.R_f gb346 3 (.int .i64 t341) (Kd.R_f gb346 2 (.int .i64 t340) (Kd.R_f gb346 1 (.slice Ao142 t337.length co142) (Kd.R_f gb346 0 (.int .i64 t336) (Kd.R_types HO_299004.out BK346.out (by decide))))))) (fun _ h_ => op1_ h_))) hb); have n6_ := Aside0.mk (Kd.R_below (by refine kR_ ?_; exact (Kd.R_mono (Kd.R_f gb346 4 (.slice Ao143 t342.length co143) (Kd.R_f gb346 3 (.int .i64 t341) (Kd.R_f gb346 2 (.int .i64 t340) (Kd.R_f gb346 1 (.slice Ao142 t337.length co142) (Kd.R_f gb346 0 (.int .i64 t336) (Kd.R_types HO327.out BK346.out (by decide))))))) (fun _ h_ => op1_ h_))) hb); have n7_ := Aside0.mk (Kd.R_below (by refine kR_ ?_; exact (Kd.R_mono (Kd.R_f gb346 4 (.slice Ao143 t342.length co143) (Kd.R_f gb346 3 (.int .i64 t341) (Kd.R_f gb346 2 (.int .i64 t340) (Kd.R_f gb346 1 (.slice Ao142 t337.length co142) (Kd.R_f gb346 0 (.int .i64 t336) (Kd.R_types HO332.out BK346.out (by decide))))))) (fun _ h_ => op1_ h_))) hb); have n8_ := Aside0.mk (Kd.R_below (by refine kR_ ?_; exact (Kd.R_mono (Kd.R_f gb346 4 (.slice Ao143 t342.length co143) (Kd.R_f gb346 3 (.int .i64 t341) (Kd.R_f gb346 2 (.int .i64 t340) (Kd.R_f gb346 1 (.slice Ao142 t337.length co142) (Kd.R_f gb346 0 (.int .i64 t336) (Kd.R_types HO335.out BK346.out (by decide))))))) (fun _ h_ => op1_ h_))) hb); have n9_ := Aside0.mk (Kd.R_below (by refine kR_ ?_; exact (Kd.R_mono (Kd.R_f gb346 4 (.slice Ao143 t342.length co143) (Kd.R_f gb346 3 (.int .i64 t341) (Kd.R_f gb346 2 (.int .i64 t340) (Kd.R_f gb346 1 (.slice Ao142 t337.length co142) (Kd.R_f gb346 0 (.int .i64 t336) (Kd.R_types HO339.out BK346.out (by decide))))))) (fun _ h_ => op1_ h_))) hb); have n10_ := Aside0.mk (Kd.R_below (by refine kR_ ?_; exact (Kd.R_mono (Kd.R_f gb346 4 (.slice Ao143 t342.length co143) (Kd.R_f gb346 3 (.int .i64 t341) (Kd.R_f gb346 2 (.int .i64 t340) (Kd.R_f gb346 1 (.slice Ao142 t337.length co142) (Kd.R_f gb346 0 (.int .i64 t336) (Kd.R_types HO344.out BK346.out (by decide))))))) (fun _ h_ => op1_ h_))) hb); have n11_ := Aside0.mk (blk_below (g := gb250) (o := .cells #[.int .i64 a0_0, .slice A0_1 l0_1.length c0_1, .int .i64 a0_2, .int .i64 a0_3, .slice A0_4 l0_4.length c0_4] 37 (0, 0)) (by refine kb_ ?_; refine blk_far ?_ NB250_346.out _; refine kb_ ?_; refine blk_far ?_ NB250_346.out _; refine kb_ ?_; refine blk_far ?_ NB250_346.out _; refine kb_ ?_; refine blk_far ?_ NB250_346.out _; refine kb_ ?_; refine blk_far ?_ NB250_346.out _; refine kb_ ?_; exact BK250.out) hb); have n12_ := Aside0.mk (blk_below (g := gb274) (o := .cells #[.int .i64 t264, .slice Ao30 t265.length co30, .int .i64 t268, .int .i64 t269, .slice Ao31 t270.length co31] 25 (0, 0)) (by refine kb_ ?_; refine blk_far ?_ NB274_346.out _; refine kb_ ?_; refine blk_far ?_ NB274_346.out _; refine kb_ ?_; refine blk_far ?_ NB274_346.out _; refine kb_ ?_; refine blk_far ?_ NB274_346.out _; refine kb_ ?_; refine blk_far ?_ NB274_346.out _; refine kb_ ?_; exact BK274.out) hb); have n13_ := Aside0.mk (blk_below (g := gb284) (o := .cells #[.int .i64 t275, .slice Ao38 t315.length co38, .int .i64 t279, .int .i64 t280, .slice Ao39 t316.length co39] 25 (0, 0)) (by refine kb_ ?_; refine blk_far ?_ NB284_346.out _; refine kb_ ?_; refine blk_far ?_ NB284_346.out _; refine kb_ ?_; refine blk_far ?_ NB284_346.out _; refine kb_ ?_; refine blk_far ?_ NB284_346.out _; refine kb_ ?_; refine blk_far ?_ NB284_346.out _; refine kb_ ?_; exact BK284.out) hb); have n14_ := Aside0.mk (blk_below (g := gb298) (o := .cells #[.int .i64 t288, .slice Ao49 t289.length co49, .int .i64 t292, .int .i64 t293, .slice Ao50 t294.length co50] 25 (0, 0)) (by refine kb_ ?_; refine blk_far ?_ NB298_346.out _; refine kb_ ?_; refine blk_far ?_ NB298_346.out _; refine kb_ ?_; refine blk_far ?_ NB298_346.out _; refine kb_ ?_; refine blk_far ?_ NB298_346.out _; refine kb_ ?_; refine blk_far ?_ NB298_346.out _; refine kb_ ?_; exact BK298.out) hb); have n15_ := Aside0.mk (blk_below (g := gb346) (o := .cells #[.int .i64 t336, .slice Ao142 t337.length co142, .int .i64 t340, .int .i64 t341, .slice Ao143 t342.length co143] 25 (0, 0)) (by refine kb_ ?_; refine blk_put (cs := #[.int .i64 t336, .slice Ao142 t337.length co142, .int .i64 t340, .int .i64 t341, .slice none 0 0]) ?_ 4 _ rfl; refine kb_ ?_; refine blk_put (cs := #[.int .i64 t336, .slice Ao142 t337.length co142, .int .i64 t340, .int .i64 0, .slice none 0 0]) ?_ 3 _ rfl; refine kb_ ?_; refine blk_put (cs := #[.int .i64 t336, .slice Ao142 t337.length co142, .int .i64 0, .int .i64 0, .slice none 0 0]) ?_ 2 _ rfl; refine kb_ ?_; refine blk_put (cs := #[.int .i64 t336, .slice none 0 0, .int .i64 0, .int .i64 0, .slice none 0 0]) ?_ 1 _ rfl; refine kb_ ?_; refine blk_put (cs := #[.int .i64 0, .slice none 0 0, .int .i64 0, .int .i64 0, .slice none 0 0]) ?_ 0 _ rfl; refine kb_ ?_; exact BK346.out) hb); have n16_ := Aside0.mk (below_step (by repeat (first | (with_reducible first | exact HB.out | apply below_alloc | apply pw_below_drewN | apply below_drew1 | refine below_set ?_ GE250.out | refine below_set ?_ GE274.out | refine below_set ?_ GE284.out | refine below_set ?_ GE298.out | refine below_set ?_ GE346.out) | exact HB.out)) hb); clear HO_275001; clear HO_275004; clear HO_285001; clear HO_285004; clear HO_299001; clear HO_299004; clear HO327; clear HO332; clear HO335; clear HO339; clear HO344; clear BK250; clear BK274; clear BK284; clear BK298; clear BK346; clear HB; have HO_275001 := n0_; have HO_275004 := n1_; have HO_285001 := n2_; have HO_285004 := n3_; have HO_299001 := n4_; have HO_299004 := n5_; have HO327 := n6_; have HO332 := n7_; have HO335 := n8_; have HO339 := n9_; have HO344 := n10_; have BK250 := n11_; have BK274 := n12_; have BK284 := n13_; have BK298 := n14_; have BK346 := n15_; have HB := n16_; clear n0_ n1_ n2_ n3_ n4_ n5_ n6_ n7_ n8_ n9_ n10_ n11_ n12_ n13_ n14_ n15_ n16_; (try clear hb); (try clear hb2); (try clear hk); (try clear hi)))
                              go_meet
                              case rel => exact ⟨_, ((t345 != t273)), (by first | rfl | (simp; done) | (simp [*]; done)), H', ⟨by have := HJ15.out; have := HJ77.out; first | omega | exact Nat.le_refl _⟩, ⟨by (try simp only [hl285001_77]); (try simp only [hl285004_77]); refine kR_ ?_; exact Kd.R_mono HO_275001.out (fun _ hk => op2_ hk)⟩, ⟨by (try simp only [hl285001_77]); (try simp only [hl285004_77]); refine kR_ ?_; exact Kd.R_mono HO_275004.out (fun _ hk => op2_ hk)⟩, ⟨by (try simp only [hl285001_77]); (try simp only [hl285004_77]); refine kR_ ?_; exact Kd.R_mono HO_285001.out (fun _ hk => op2_ hk)⟩, ⟨by (try simp only [hl285001_77]); (try simp only [hl285004_77]); refine kR_ ?_; exact Kd.R_mono HO_285004.out (fun _ hk => op2_ hk)⟩, ⟨by (try simp only [hl285001_77]); (try simp only [hl285004_77]); refine kR_ ?_; exact Kd.R_mono HO_299001.out (fun _ hk => op2_ hk)⟩, ⟨by (try simp only [hl285001_77]); (try simp only [hl285004_77]); refine kR_ ?_; exact Kd.R_mono HO_299004.out (fun _ hk => op2_ hk)⟩, ⟨by (try simp only [hl285001_77]); (try simp only [hl285004_77]); refine kR_ ?_; exact Kd.R_mono HO339.out (fun _ hk => op2_ hk)⟩, ⟨by (try simp only [hl285001_77]); (try simp only [hl285004_77]); refine kR_ ?_; exact Kd.R_mono HO344.out (fun _ hk => op2_ hk)⟩, ⟨by (try simp only [hl285001_77]); (try simp only [hl285004_77]); refine kb_ ?_; exact BK250.out⟩, ⟨by (try simp only [hl285001_77]); (try simp only [hl285004_77]); refine kb_ ?_; exact BK274.out⟩, ⟨by (try simp only [hl285001_77]); (try simp only [hl285004_77]); refine kb_ ?_; exact BK284.out⟩, ⟨by (try simp only [hl285001_77]); (try simp only [hl285004_77]); refine kb_ ?_; exact BK298.out⟩, ⟨by (try simp only [hl285001_77]); (try simp only [hl285004_77]); refine kb_ ?_; exact BK346.out⟩, ⟨by repeat (first | (with_reducible first | exact HB.out | apply below_alloc | apply pw_below_drewN | apply below_drew1 | refine below_set ?_ GE250.out | refine below_set ?_ GE274.out | refine below_set ?_ GE284.out | refine below_set ?_ GE298.out | refine below_set ?_ GE346.out) | exact HB.out)⟩⟩
                            · replace c145 := Bool.eq_false_iff.mpr c145
                              subst c145
                              have H1 : (laws_FnExactMouthWrite.j2 kj77 t320 true t288 t321 t292 t293 t322) = some r := by rw [if_neg (show ¬ (false = true) by decide)] at H; exact H
                              clear H
                              have H := H1
                              clear H1
                              have H' := Aside0.mk H
                              clear H
                              have hnb156 := NB346_250.out
                              have hnc156 := NB250_346.out
                              have hnb157 := NB346_274.out
                              have hnc157 := NB274_346.out
                              have hnb158 := NB346_284.out
                              have hnc158 := NB284_346.out
                              have hnb159 := NB346_298.out
                              have hnc159 := NB298_346.out
                              have hcz160_0 : w136.cell? ⟨gb346, 0, none⟩ = some (.int .i64 0) := (blk_cell BK346.out 0).trans rfl
                              have hcz160_1 : w136.cell? ⟨gb346, 1, none⟩ = some (.slice none 0 0) := (blk_cell BK346.out 1).trans rfl
                              have hcz160_2 : w136.cell? ⟨gb346, 2, none⟩ = some (.int .i64 0) := (blk_cell BK346.out 2).trans rfl
                              have hcz160_3 : w136.cell? ⟨gb346, 3, none⟩ = some (.int .i64 0) := (blk_cell BK346.out 3).trans rfl
                              have hcz160_4 : w136.cell? ⟨gb346, 4, none⟩ = some (.slice none 0 0) := (blk_cell BK346.out 4).trans rfl
                              have hfz160_0 := blk_frozen BK346.out 0
                              have hfz160_1 := blk_frozen BK346.out 1
                              have hfz160_2 := blk_frozen BK346.out 2
                              have hfz160_3 := blk_frozen BK346.out 3
                              have hfz160_4 := blk_frozen BK346.out 4
                              have hnb161 := NB274_250.out
                              have hnc161 := NB250_274.out
                              have hnb162 := NB274_284.out
                              have hnc162 := NB284_274.out
                              have hnb163 := NB274_298.out
                              have hnc163 := NB298_274.out
                              have hcz164_0 : w136.cell? ⟨gb274, 0, none⟩ = some (.int .i64 t264) := (blk_cell BK274.out 0).trans rfl
                              have hcz164_1 : w136.cell? ⟨gb274, 1, none⟩ = some (.slice Ao30 t265.length co30) := (blk_cell BK274.out 1).trans rfl
                              have hcz164_2 : w136.cell? ⟨gb274, 2, none⟩ = some (.int .i64 t268) := (blk_cell BK274.out 2).trans rfl
                              have hcz164_3 : w136.cell? ⟨gb274, 3, none⟩ = some (.int .i64 t269) := (blk_cell BK274.out 3).trans rfl
                              have hcz164_4 : w136.cell? ⟨gb274, 4, none⟩ = some (.slice Ao31 t270.length co31) := (blk_cell BK274.out 4).trans rfl
                              have hfz164_0 := blk_frozen BK274.out 0
                              have hfz164_1 := blk_frozen BK274.out 1
                              have hfz164_2 := blk_frozen BK274.out 2
                              have hfz164_3 := blk_frozen BK274.out 3
                              have hfz164_4 := blk_frozen BK274.out 4
                              go_wp2_with (first | ((with_reducible refine gate_callee (f := 19) rfl ?_); refine goesL_ (some 102) rfl rfl Try.func19 (by kernel_rfl) rfl #[.agg #[.int .i64 t336, .slice Ao142 t337.length co142, .int .i64 t340, .int .i64 t341, .slice Ao143 t342.length co143], .agg #[.int .i64 t264, .slice Ao30 t265.length co30, .int .i64 t268, .int .i64 t269, .slice Ao31 t270.length co31]] rfl ar_ ?_; (with_reducible refine (laws_eqMouth.calls kj77 t336 _ _ t337 t340 t341 _ _ t342 t264 _ _ t265 t268 t269 _ _ t270 false _ ?side1 ?side2 ?side3 ?side4 ?side5 ?side6 ?side7 ?side8 A144.out).mono ?_); (case side1 => refine (Kd.R_reads' (e := 5) (base := w.heap.size) (ok := fun k_ => (((((True ∧ some k_ ≠ (.slice Ao30 t265.length co30 : Value).ownBlock) ∧ some k_ ≠ (.slice Ao38 t315.length co38 : Value).ownBlock) ∧ some k_ ≠ (.slice Ao49 t289.length co49 : Value).ownBlock) ∧ some k_ ≠ (.slice Ao132 t325.length co132 : Value).ownBlock) ∧ some k_ ≠ (.slice Ao134 t333.length co134 : Value).ownBlock)) (n := t337.length) (c := co142) ?_).2.2; exact (by refine kR_ ?_; exact (Kd.R_mono (Kd.R_f gb346 4 (.slice Ao143 t342.length co143) (Kd.R_f gb346 3 (.int .i64 t341) (Kd.R_f gb346 2 (.int .i64 t340) (Kd.R_f gb346 1 (.slice Ao142 t337.length co142) (Kd.R_f gb346 0 (.int .i64 t336) (Kd.R_types HO339.out BK346.out (by decide))))))) (fun _ h_ => op1_ h_)))); (case side2 => exact (Kd.R_reads' HO339.out).2.1); (case side3 => refine (Kd.R_reads' (e := 60) (base := w.heap.size) (ok := fun k_ => ((((True ∧ some k_ ≠ (.slice Ao31 t270.length co31 : Value).ownBlock) ∧ some k_ ≠ (.slice Ao39 t316.length co39 : Value).ownBlock) ∧ some k_ ≠ (.slice Ao50 t294.length co50 : Value).ownBlock) ∧ some k_ ≠ (.slice Ao133 t330.length co133 : Value).ownBlock)) (n := t342.length) (c := co143) ?_).2.2; exact (by refine kR_ ?_; exact (Kd.R_mono (Kd.R_f gb346 4 (.slice Ao143 t342.length co143) (Kd.R_f gb346 3 (.int .i64 t341) (Kd.R_f gb346 2 (.int .i64 t340) (Kd.R_f gb346 1 (.slice Ao142 t337.length co142) (Kd.R_f gb346 0 (.int .i64 t336) (Kd.R_types HO344.out BK346.out (by decide))))))) (fun _ h_ => op1_ h_)))); (case side4 => exact (Kd.R_reads' HO344.out).2.1); (case side5 => refine (Kd.R_reads' (e := 5) (base := w.heap.size) (ok := fun k_ => ((((some k_ ≠ (.slice Ao38 t315.length co38 : Value).ownBlock ∧ some k_ ≠ (.slice Ao49 t289.length co49 : Value).ownBlock) ∧ some k_ ≠ (.slice Ao132 t325.length co132 : Value).ownBlock) ∧ some k_ ≠ (.slice Ao134 t333.length co134 : Value).ownBlock) ∧ some k_ ≠ (.slice Ao142 t337.length co142 : Value).ownBlock)) (n := t265.length) (c := co30) ?_).2.2; exact (by refine kR_ ?_; exact (Kd.R_mono (Kd.R_f gb346 4 (.slice Ao143 t342.length co143) (Kd.R_f gb346 3 (.int .i64 t341) (Kd.R_f gb346 2 (.int .i64 t340) (Kd.R_f gb346 1 (.slice Ao142 t337.length co142) (Kd.R_f gb346 0 (.int .i64 t336) (Kd.R_types HO_275001.out BK346.out (by decide))))))) (fun _ h_ => op1_ h_)))); (case side6 => exact (Kd.R_reads' HO_275001.out).2.1); (case side7 => refine (Kd.R_reads' (e := 60) (base := w.heap.size) (ok := fun k_ => (((some k_ ≠ (.slice Ao39 t316.length co39 : Value).ownBlock ∧ some k_ ≠ (.slice Ao50 t294.length co50 : Value).ownBlock) ∧ some k_ ≠ (.slice Ao133 t330.length co133 : Value).ownBlock) ∧ some k_ ≠ (.slice Ao143 t342.length co143 : Value).ownBlock)) (n := t270.length) (c := co31) ?_).2.2; exact (by refine kR_ ?_; exact (Kd.R_mono (Kd.R_f gb346 4 (.slice Ao143 t342.length co143) (Kd.R_f gb346 3 (.int .i64 t341) (Kd.R_f gb346 2 (.int .i64 t340) (Kd.R_f gb346 1 (.slice Ao142 t337.length co142) (Kd.R_f gb346 0 (.int .i64 t336) (Kd.R_types HO_275004.out BK346.out (by decide))))))) (fun _ h_ => op1_ h_)))); (case side8 => exact (Kd.R_reads' HO_275004.out).2.1); rintro e w165 ⟨rfl, hb⟩; refine ⟨_, rfl, ?_⟩; have n0_ := Aside0.mk (Kd.R_below (by refine kR_ ?_; exact (Kd.R_mono (Kd.R_f gb346 4 (.slice Ao143 t342.length co143) (Kd.R_f gb346 3 (.int .i64 t341) (Kd.R_f gb346 2 (.int .i64 t340) (Kd.R_f gb346 1 (.slice Ao142 t337.length co142) (Kd.R_f gb346 0 (.int .i64 t336) (Kd.R_types HO_275001.out BK346.out (by decide))))))) (fun _ h_ => op1_ h_))) hb); have n1_ := Aside0.mk (Kd.R_below (by refine kR_ ?_; exact (Kd.R_mono (Kd.R_f gb346 4 (.slice Ao143 t342.length co143) (Kd.R_f gb346 3 (.int .i64 t341) (Kd.R_f gb346 2 (.int .i64 t340) (Kd.R_f gb346 1 (.slice Ao142 t337.length co142) (Kd.R_f gb346 0 (.int .i64 t336) (Kd.R_types HO_275004.out BK346.out (by decide))))))) (fun _ h_ => op1_ h_))) hb); have n2_ := Aside0.mk (Kd.R_below (by refine kR_ ?_; exact (Kd.R_mono (Kd.R_f gb346 4 (.slice Ao143 t342.length co143) (Kd.R_f gb346 3 (.int .i64 t341) (Kd.R_f gb346 2 (.int .i64 t340) (Kd.R_f gb346 1 (.slice Ao142 t337.length co142) (Kd.R_f gb346 0 (.int .i64 t336) (Kd.R_types HO_285001.out BK346.out (by decide))))))) (fun _ h_ => op1_ h_))) hb); have n3_ := Aside0.mk (Kd.R_below (by refine kR_ ?_; exact (Kd.R_mono (Kd.R_f gb346 4 (.slice Ao143 t342.length co143) (Kd.R_f gb346 3 (.int .i64 t341) (Kd.R_f gb346 2 (.int .i64 t340) (Kd.R_f gb346 1 (.slice Ao142 t337.length co142) (Kd.R_f gb346 0 (.int .i64 t336) (Kd.R_types HO_285004.out BK346.out (by decide))))))) (fun _ h_ => op1_ h_))) hb); have n4_ := Aside0.mk (Kd.R_below (by refine kR_ ?_; exact (Kd.R_mono (Kd.R_f gb346 4 (.slice Ao143 t342.length co143) (Kd.R_f gb346 3 (.int .i64 t341) (Kd.R_f gb346 2 (.int .i64 t340) (Kd.R_f gb346 1 (.slice Ao142 t337.length co142) (Kd.R_f gb346 0 (.int .i64 t336) (Kd.R_types HO_299001.out BK346.out (by decide))))))) (fun _ h_ => op1_ h_))) hb); have n5_ := Aside0.mk (Kd.R_below (by refine kR_ ?_; exact (Kd.R_mono (Kd.R_f gb346 4 (.slice Ao143 t342.length co143) (Kd.R_f gb346 3 (.int .i64 t341) (Kd.R_f gb346 2 (.int .i64 t340) (Kd.R_f gb346 1 (.slice Ao142 t337.length co142) (Kd.R_f gb346 0 (.int .i64 t336) (Kd.R_types HO_299004.out BK346.out (by decide))))))) (fun _ h_ => op1_ h_))) hb); have n6_ := Aside0.mk (Kd.R_below (by refine kR_ ?_; exact (Kd.R_mono (Kd.R_f gb346 4 (.slice Ao143 t342.length co143) (Kd.R_f gb346 3 (.int .i64 t341) (Kd.R_f gb346 2 (.int .i64 t340) (Kd.R_f gb346 1 (.slice Ao142 t337.length co142) (Kd.R_f gb346 0 (.int .i64 t336) (Kd.R_types HO327.out BK346.out (by decide))))))) (fun _ h_ => op1_ h_))) hb); have n7_ := Aside0.mk (Kd.R_below (by refine kR_ ?_; exact (Kd.R_mono (Kd.R_f gb346 4 (.slice Ao143 t342.length co143) (Kd.R_f gb346 3 (.int .i64 t341) (Kd.R_f gb346 2 (.int .i64 t340) (Kd.R_f gb346 1 (.slice Ao142 t337.length co142) (Kd.R_f gb346 0 (.int .i64 t336) (Kd.R_types HO332.out BK346.out (by decide))))))) (fun _ h_ => op1_ h_))) hb); have n8_ := Aside0.mk (Kd.R_below (by refine kR_ ?_; exact (Kd.R_mono (Kd.R_f gb346 4 (.slice Ao143 t342.length co143) (Kd.R_f gb346 3 (.int .i64 t341) (Kd.R_f gb346 2 (.int .i64 t340) (Kd.R_f gb346 1 (.slice Ao142 t337.length co142) (Kd.R_f gb346 0 (.int .i64 t336) (Kd.R_types HO335.out BK346.out (by decide))))))) (fun _ h_ => op1_ h_))) hb); have n9_ := Aside0.mk (Kd.R_below (by refine kR_ ?_; exact (Kd.R_mono (Kd.R_f gb346 4 (.slice Ao143 t342.length co143) (Kd.R_f gb346 3 (.int .i64 t341) (Kd.R_f gb346 2 (.int .i64 t340) (Kd.R_f gb346 1 (.slice Ao142 t337.length co142) (Kd.R_f gb346 0 (.int .i64 t336) (Kd.R_types HO339.out BK346.out (by decide))))))) (fun _ h_ => op1_ h_))) hb); have n10_ := Aside0.mk (Kd.R_below (by refine kR_ ?_; exact (Kd.R_mono (Kd.R_f gb346 4 (.slice Ao143 t342.length co143) (Kd.R_f gb346 3 (.int .i64 t341) (Kd.R_f gb346 2 (.int .i64 t340) (Kd.R_f gb346 1 (.slice Ao142 t337.length co142) (Kd.R_f gb346 0 (.int .i64 t336) (Kd.R_types HO344.out BK346.out (by decide))))))) (fun _ h_ => op1_ h_))) hb); have n11_ := Aside0.mk (blk_below (g := gb250) (o := .cells #[.int .i64 a0_0, .slice A0_1 l0_1.length c0_1, .int .i64 a0_2, .int .i64 a0_3, .slice A0_4 l0_4.length c0_4] 37 (0, 0)) (by refine kb_ ?_; refine blk_far ?_ NB250_346.out _; refine kb_ ?_; refine blk_far ?_ NB250_346.out _; refine kb_ ?_; refine blk_far ?_ NB250_346.out _; refine kb_ ?_; refine blk_far ?_ NB250_346.out _; refine kb_ ?_; refine blk_far ?_ NB250_346.out _; refine kb_ ?_; exact BK250.out) hb); have n12_ := Aside0.mk (blk_below (g := gb274) (o := .cells #[.int .i64 t264, .slice Ao30 t265.length co30, .int .i64 t268, .int .i64 t269, .slice Ao31 t270.length co31] 25 (0, 0)) (by refine kb_ ?_; refine blk_far ?_ NB274_346.out _; refine kb_ ?_; refine blk_far ?_ NB274_346.out _; refine kb_ ?_; refine blk_far ?_ NB274_346.out _; refine kb_ ?_; refine blk_far ?_ NB274_346.out _; refine kb_ ?_; refine blk_far ?_ NB274_346.out _; refine kb_ ?_; exact BK274.out) hb); have n13_ := Aside0.mk (blk_below (g := gb284) (o := .cells #[.int .i64 t275, .slice Ao38 t315.length co38, .int .i64 t279, .int .i64 t280, .slice Ao39 t316.length co39] 25 (0, 0)) (by refine kb_ ?_; refine blk_far ?_ NB284_346.out _; refine kb_ ?_; refine blk_far ?_ NB284_346.out _; refine kb_ ?_; refine blk_far ?_ NB284_346.out _; refine kb_ ?_; refine blk_far ?_ NB284_346.out _; refine kb_ ?_; refine blk_far ?_ NB284_346.out _; refine kb_ ?_; exact BK284.out) hb); have n14_ := Aside0.mk (blk_below (g := gb298) (o := .cells #[.int .i64 t288, .slice Ao49 t289.length co49, .int .i64 t292, .int .i64 t293, .slice Ao50 t294.length co50] 25 (0, 0)) (by refine kb_ ?_; refine blk_far ?_ NB298_346.out _; refine kb_ ?_; refine blk_far ?_ NB298_346.out _; refine kb_ ?_; refine blk_far ?_ NB298_346.out _; refine kb_ ?_; refine blk_far ?_ NB298_346.out _; refine kb_ ?_; refine blk_far ?_ NB298_346.out _; refine kb_ ?_; exact BK298.out) hb); have n15_ := Aside0.mk (blk_below (g := gb346) (o := .cells #[.int .i64 t336, .slice Ao142 t337.length co142, .int .i64 t340, .int .i64 t341, .slice Ao143 t342.length co143] 25 (0, 0)) (by refine kb_ ?_; refine blk_put (cs := #[.int .i64 t336, .slice Ao142 t337.length co142, .int .i64 t340, .int .i64 t341, .slice none 0 0]) ?_ 4 _ rfl; refine kb_ ?_; refine blk_put (cs := #[.int .i64 t336, .slice Ao142 t337.length co142, .int .i64 t340, .int .i64 0, .slice none 0 0]) ?_ 3 _ rfl; refine kb_ ?_; refine blk_put (cs := #[.int .i64 t336, .slice Ao142 t337.length co142, .int .i64 0, .int .i64 0, .slice none 0 0]) ?_ 2 _ rfl; refine kb_ ?_; refine blk_put (cs := #[.int .i64 t336, .slice none 0 0, .int .i64 0, .int .i64 0, .slice none 0 0]) ?_ 1 _ rfl; refine kb_ ?_; refine blk_put (cs := #[.int .i64 0, .slice none 0 0, .int .i64 0, .int .i64 0, .slice none 0 0]) ?_ 0 _ rfl; refine kb_ ?_; exact BK346.out) hb); have n16_ := Aside0.mk (below_step (by repeat (first | (with_reducible first | exact HB.out | apply below_alloc | apply pw_below_drewN | apply below_drew1 | refine below_set ?_ GE250.out | refine below_set ?_ GE274.out | refine below_set ?_ GE284.out | refine below_set ?_ GE298.out | refine below_set ?_ GE346.out) | exact HB.out)) hb); clear HO_275001; clear HO_275004; clear HO_285001; clear HO_285004; clear HO_299001; clear HO_299004; clear HO327; clear HO332; clear HO335; clear HO339; clear HO344; clear BK250; clear BK274; clear BK284; clear BK298; clear BK346; clear HB; have HO_275001 := n0_; have HO_275004 := n1_; have HO_285001 := n2_; have HO_285004 := n3_; have HO_299001 := n4_; have HO_299004 := n5_; have HO327 := n6_; have HO332 := n7_; have HO335 := n8_; have HO339 := n9_; have HO344 := n10_; have BK250 := n11_; have BK274 := n12_; have BK284 := n13_; have BK298 := n14_; have BK346 := n15_; have HB := n16_; clear n0_ n1_ n2_ n3_ n4_ n5_ n6_ n7_ n8_ n9_ n10_ n11_ n12_ n13_ n14_ n15_ n16_; (try clear hb); (try clear hb2); (try clear hk); (try clear hi)))
                              go_meet
                              case rel => exact ⟨_, (true), (by first | rfl | (simp; done) | (simp [*]; done)), H', ⟨by have := HJ15.out; have := HJ77.out; first | omega | exact Nat.le_refl _⟩, ⟨by (try simp only [hl285001_77]); (try simp only [hl285004_77]); refine kR_ ?_; exact Kd.R_mono HO_275001.out (fun _ hk => op2_ hk)⟩, ⟨by (try simp only [hl285001_77]); (try simp only [hl285004_77]); refine kR_ ?_; exact Kd.R_mono HO_275004.out (fun _ hk => op2_ hk)⟩, ⟨by (try simp only [hl285001_77]); (try simp only [hl285004_77]); refine kR_ ?_; exact Kd.R_mono HO_285001.out (fun _ hk => op2_ hk)⟩, ⟨by (try simp only [hl285001_77]); (try simp only [hl285004_77]); refine kR_ ?_; exact Kd.R_mono HO_285004.out (fun _ hk => op2_ hk)⟩, ⟨by (try simp only [hl285001_77]); (try simp only [hl285004_77]); refine kR_ ?_; exact Kd.R_mono HO_299001.out (fun _ hk => op2_ hk)⟩, ⟨by (try simp only [hl285001_77]); (try simp only [hl285004_77]); refine kR_ ?_; exact Kd.R_mono HO_299004.out (fun _ hk => op2_ hk)⟩, ⟨by (try simp only [hl285001_77]); (try simp only [hl285004_77]); refine kR_ ?_; exact Kd.R_mono HO339.out (fun _ hk => op2_ hk)⟩, ⟨by (try simp only [hl285001_77]); (try simp only [hl285004_77]); refine kR_ ?_; exact Kd.R_mono HO344.out (fun _ hk => op2_ hk)⟩, ⟨by (try simp only [hl285001_77]); (try simp only [hl285004_77]); refine kb_ ?_; exact BK250.out⟩, ⟨by (try simp only [hl285001_77]); (try simp only [hl285004_77]); refine kb_ ?_; exact BK274.out⟩, ⟨by (try simp only [hl285001_77]); (try simp only [hl285004_77]); refine kb_ ?_; exact BK284.out⟩, ⟨by (try simp only [hl285001_77]); (try simp only [hl285004_77]); refine kb_ ?_; exact BK298.out⟩, ⟨by (try simp only [hl285001_77]); (try simp only [hl285004_77]); refine kb_ ?_; exact BK346.out⟩, ⟨by repeat (first | (with_reducible first | exact HB.out | apply below_alloc | apply pw_below_drewN | apply below_drew1 | refine below_set ?_ GE250.out | refine below_set ?_ GE274.out | refine below_set ?_ GE284.out | refine below_set ?_ GE298.out | refine below_set ?_ GE346.out) | exact HB.out)⟩⟩
                          case rest =>
                            clear HC119
                            try clear c1
                            try clear c2
                            try clear p2
                            try clear c3
                            try clear c3b0
                            try clear c3b1
                            try clear c4
                            try clear c5
                            try clear c6
                            try clear c6b0
                            try clear c7
                            try clear c8
                            try clear c9
                            try clear c10
                            try clear c11
                            try clear c12
                            try clear c13
                            try clear c14
                            try clear c15
                            try clear c16
                            try clear c19
                            try clear c21
                            try clear c23
                            try clear c24
                            try clear c25
                            try clear c26
                            try clear c28
                            try clear c35
                            try clear c36
                            try clear c45
                            try clear c46
                            try clear c47
                            try clear c52
                            try clear c53
                            try clear c54
                            try clear c55
                            try clear c57
                            try clear c58
                            try clear c61
                            try clear c62
                            try clear c63
                            try clear c65
                            try clear c66
                            try clear c69
                            try clear c72
                            try clear c75
                            try clear c86
                            try clear c87
                            try clear c88
                            try clear c92
                            try clear c92b0
                            try clear c94
                            try clear c95
                            try clear c96
                            try clear c97
                            try clear c99
                            try clear c100
                            try clear c103
                            try clear c104
                            try clear c105
                            try clear c107
                            try clear c108
                            try clear c111
                            try clear c114
                            try clear c114b0
                            try clear c115
                            try clear c115b0
                            try clear c115b1
                            try clear c120
                            try clear c121
                            try clear c122
                            try clear c127
                            try clear c128
                            try clear c137
                            try clear c138
                            try clear c139
                            try clear c140
                            try clear c145
                            try clear c146
                            try clear c147
                            try clear c148
                            try clear c149
                            try clear c151
                            try clear c152
                            try clear c153
                            try clear c156
                            try clear c157
                            try clear c158
                            try clear c159
                            try clear c161
                            try clear c162
                            try clear c163
                            try clear hcz101_0
                            try clear hcz101_1
                            try clear hcz101_2
                            try clear hcz101_3
                            try clear hcz101_4
                            try clear hcz106_0
                            try clear hcz106_1
                            try clear hcz106_2
                            try clear hcz106_3
                            try clear hcz106_4
                            try clear hcz109_0
                            try clear hcz109_1
                            try clear hcz109_2
                            try clear hcz109_3
                            try clear hcz109_4
                            try clear hcz123_0
                            try clear hcz123_1
                            try clear hcz123_2
                            try clear hcz123_3
                            try clear hcz123_4
                            try clear hcz125_0
                            try clear hcz125_1
                            try clear hcz125_2
                            try clear hcz125_3
                            try clear hcz125_4
                            try clear hcz129_0
                            try clear hcz129_1
                            try clear hcz129_2
                            try clear hcz129_3
                            try clear hcz129_4
                            try clear hcz141_0
                            try clear hcz141_1
                            try clear hcz141_2
                            try clear hcz141_3
                            try clear hcz141_4
                            try clear hcz150_0
                            try clear hcz150_1
                            try clear hcz150_2
                            try clear hcz150_3
                            try clear hcz150_4
                            try clear hcz154_0
                            try clear hcz154_1
                            try clear hcz154_2
                            try clear hcz154_3
                            try clear hcz154_4
                            try clear hcz160_0
                            try clear hcz160_1
                            try clear hcz160_2
                            try clear hcz160_3
                            try clear hcz160_4
                            try clear hcz164_0
                            try clear hcz164_1
                            try clear hcz164_2
                            try clear hcz164_3
                            try clear hcz164_4
                            try clear hcz18_0
                            try clear hcz18_1
                            try clear hcz18_2
                            try clear hcz18_3
                            try clear hcz18_4
                            try clear hcz20_0
                            try clear hcz20_1
                            try clear hcz20_2
                            try clear hcz20_3
                            try clear hcz20_4
                            try clear hcz29_0
                            try clear hcz29_1
                            try clear hcz29_2
                            try clear hcz29_3
                            try clear hcz29_4
                            try clear hcz32_0
                            try clear hcz32_1
                            try clear hcz32_2
                            try clear hcz32_3
                            try clear hcz32_4
                            try clear hcz37_0
                            try clear hcz37_1
                            try clear hcz37_2
                            try clear hcz37_3
                            try clear hcz37_4
                            try clear hcz41_0
                            try clear hcz41_1
                            try clear hcz41_2
                            try clear hcz41_3
                            try clear hcz41_4
                            try clear hcz48_0
                            try clear hcz48_1
                            try clear hcz48_2
                            try clear hcz48_3
                            try clear hcz48_4
                            try clear hcz56_0
                            try clear hcz56_1
                            try clear hcz56_2
                            try clear hcz56_3
                            try clear hcz56_4
                            try clear hcz59_0
                            try clear hcz59_1
                            try clear hcz59_2
                            try clear hcz59_3
                            try clear hcz59_4
                            try clear hcz64_0
                            try clear hcz64_1
                            try clear hcz64_2
                            try clear hcz64_3
                            try clear hcz64_4
                            try clear hcz67_0
                            try clear hcz67_1
                            try clear hcz67_2
                            try clear hcz67_3
                            try clear hcz67_4
                            try clear hcz89_0
                            try clear hcz89_1
                            try clear hcz89_2
                            try clear hcz89_3
                            try clear hcz89_4
                            try clear hcz8_0
                            try clear hcz8_1
                            try clear hcz8_2
                            try clear hcz8_3
                            try clear hcz8_4
                            try clear hcz98_0
                            try clear hcz98_1
                            try clear hcz98_2
                            try clear hcz98_3
                            try clear hcz98_4
                            try clear hfz101_0
                            try clear hfz101_1
                            try clear hfz101_2
                            try clear hfz101_3
                            try clear hfz101_4
                            try clear hfz106_0
                            try clear hfz106_1
                            try clear hfz106_2
                            try clear hfz106_3
                            try clear hfz106_4
                            try clear hfz109_0
                            try clear hfz109_1
                            try clear hfz109_2
                            try clear hfz109_3
                            try clear hfz109_4
                            try clear hfz123_0
                            try clear hfz123_1
                            try clear hfz123_2
                            try clear hfz123_3
                            try clear hfz123_4
                            try clear hfz125_0
                            try clear hfz125_1
                            try clear hfz125_2
                            try clear hfz125_3
                            try clear hfz125_4
                            try clear hfz129_0
                            try clear hfz129_1
                            try clear hfz129_2
                            try clear hfz129_3
                            try clear hfz129_4
                            try clear hfz141_0
                            try clear hfz141_1
                            try clear hfz141_2
                            try clear hfz141_3
                            try clear hfz141_4
                            try clear hfz150_0
                            try clear hfz150_1
                            try clear hfz150_2
                            try clear hfz150_3
                            try clear hfz150_4
                            try clear hfz154_0
                            try clear hfz154_1
                            try clear hfz154_2
                            try clear hfz154_3
                            try clear hfz154_4
                            try clear hfz160_0
                            try clear hfz160_1
                            try clear hfz160_2
                            try clear hfz160_3
                            try clear hfz160_4
                            try clear hfz164_0
                            try clear hfz164_1
                            try clear hfz164_2
                            try clear hfz164_3
                            try clear hfz164_4
                            try clear hfz18_0
                            try clear hfz18_1
                            try clear hfz18_2
                            try clear hfz18_3
                            try clear hfz18_4
                            try clear hfz20_0
                            try clear hfz20_1
                            try clear hfz20_2
                            try clear hfz20_3
                            try clear hfz20_4
                            try clear hfz29_0
                            try clear hfz29_1
                            try clear hfz29_2
                            try clear hfz29_3
                            try clear hfz29_4
                            try clear hfz32_0
                            try clear hfz32_1
                            try clear hfz32_2
                            try clear hfz32_3
                            try clear hfz32_4
                            try clear hfz37_0
                            try clear hfz37_1
                            try clear hfz37_2
                            try clear hfz37_3
                            try clear hfz37_4
                            try clear hfz41_0
                            try clear hfz41_1
                            try clear hfz41_2
                            try clear hfz41_3
                            try clear hfz41_4
                            try clear hfz48_0
                            try clear hfz48_1
                            try clear hfz48_2
                            try clear hfz48_3
                            try clear hfz48_4
                            try clear hfz56_0
                            try clear hfz56_1
                            try clear hfz56_2
                            try clear hfz56_3
                            try clear hfz56_4
                            try clear hfz59_0
                            try clear hfz59_1
                            try clear hfz59_2
                            try clear hfz59_3
                            try clear hfz59_4
                            try clear hfz64_0
                            try clear hfz64_1
                            try clear hfz64_2
                            try clear hfz64_3
                            try clear hfz64_4
                            try clear hfz67_0
                            try clear hfz67_1
                            try clear hfz67_2
                            try clear hfz67_3
                            try clear hfz67_4
                            try clear hfz89_0
                            try clear hfz89_1
                            try clear hfz89_2
                            try clear hfz89_3
                            try clear hfz89_4
                            try clear hfz8_0
                            try clear hfz8_1
                            try clear hfz8_2
                            try clear hfz8_3
                            try clear hfz8_4
                            try clear hfz98_0
                            try clear hfz98_1
                            try clear hfz98_2
                            try clear hfz98_3
                            try clear hfz98_4
                            try clear p2
                            obtain ⟨kq, x108_118, rfl, HA, HJ118, HO_275001, HO_275004, HO_285001, HO_285004, HO_299001, HO_299004, HO_347001, HO_347004, BK250, BK274, BK284, BK298, BK346, HB⟩ := hcut
                            have hl299001_118 := (Kd.R_reads' HO_299001.out).1
                            rw [hl299001_118] at HO_299001
                            (try simp only [hl299001_118])
                            (try simp only [hl299001_118] at BK250)
                            (try simp only [hl299001_118] at BK274)
                            (try simp only [hl299001_118] at BK284)
                            (try simp only [hl299001_118] at BK298)
                            (try simp only [hl299001_118] at BK346)
                            (try simp only [hl299001_118] at HO_275001)
                            (try simp only [hl299001_118] at HO_275004)
                            (try simp only [hl299001_118] at HO_285001)
                            (try simp only [hl299001_118] at HO_285004)
                            (try simp only [hl299001_118] at HO_299004)
                            (try simp only [hl299001_118] at HO_347001)
                            (try simp only [hl299001_118] at HO_347004)
                            have hl299004_118 := (Kd.R_reads' HO_299004.out).1
                            rw [hl299004_118] at HO_299004
                            (try simp only [hl299004_118])
                            (try simp only [hl299004_118] at BK250)
                            (try simp only [hl299004_118] at BK274)
                            (try simp only [hl299004_118] at BK284)
                            (try simp only [hl299004_118] at BK298)
                            (try simp only [hl299004_118] at BK346)
                            (try simp only [hl299004_118] at HO_275001)
                            (try simp only [hl299004_118] at HO_275004)
                            (try simp only [hl299004_118] at HO_285001)
                            (try simp only [hl299004_118] at HO_285004)
                            (try simp only [hl299004_118] at HO_299001)
                            (try simp only [hl299004_118] at HO_347001)
                            (try simp only [hl299004_118] at HO_347004)
                            cases kq with
                            | zero => exact absurd HA.out (by simp [laws_FnExactMouthWrite.j2])
                            | succ kj118 =>
                              have H := HA.out
                              clear HA
                              simp only [laws_FnExactMouthWrite.j2] at H
                              by_cases c166 : x108_118 = true
                              · subst c166
                                have H1 : (some false) = some r := by rw [if_pos rfl] at H; exact H
                                clear H
                                have H := H1
                                clear H1
                                exact absurd (Option.some.inj H) (by rw [HLW.out]; exact Bool.false_ne_true)
                              · replace c166 := Bool.eq_false_iff.mpr c166
                                subst c166
                                have H1 : ((laws_heldMouth.f kj118 t288 t321 t292 t293 t322 1).bind fun t348 => (if t348 < 0 then (some false) else (if t348 = t320 then (some true) else (some false)))) = some r := by rw [if_neg (show ¬ (false = true) by decide)] at H; exact H
                                clear H
                                have H := H1
                                clear H1
                                replace H := Option.bind_eq_some_iff.mp H
                                obtain ⟨t348, A1670, H⟩ := H
                                replace H : (if t348 < 0 then (some false) else (if t348 = t320 then (some true) else (some false))) = some r := H
                                have A167 := Aside0.mk A1670
                                clear A1670
                                by_cases c168 : t348 < 0
                                · rw [if_pos c168] at H
                                  have c168b0 : decide (t348 < 0) = true := decide_eq_true c168
                                  clear c168
                                  exact absurd (Option.some.inj H) (by rw [HLW.out]; exact Bool.false_ne_true)
                                · rw [if_neg c168] at H
                                  have c168b0 : decide (t348 < 0) = false := decide_eq_false c168
                                  clear c168
                                  by_cases c169 : t348 = t320
                                  · rw [if_pos c169] at H
                                    have c169b0 : (t348 == t320) = true := beq_iff_eq.mpr c169
                                    have c169b1 : (t348 != t320) = false := bne_eq_false_iff_eq.mpr c169
                                    clear c169
                                    obtain rfl := Option.some.inj H
                                    have hnb170 := NB298_250.out
                                    have hnc170 := NB250_298.out
                                    have hnb171 := NB298_274.out
                                    have hnc171 := NB274_298.out
                                    have hnb172 := NB298_284.out
                                    have hnc172 := NB284_298.out
                                    have hnb173 := NB298_346.out
                                    have hnc173 := NB346_298.out
                                    have hcz174_0 : wc.cell? ⟨gb298, 0, none⟩ = some (.int .i64 t288) := (blk_cell BK298.out 0).trans rfl
                                    have hcz174_1 : wc.cell? ⟨gb298, 1, none⟩ = some (.slice Ao49 t321.length co49) := (blk_cell BK298.out 1).trans rfl
                                    have hcz174_2 : wc.cell? ⟨gb298, 2, none⟩ = some (.int .i64 t292) := (blk_cell BK298.out 2).trans rfl
                                    have hcz174_3 : wc.cell? ⟨gb298, 3, none⟩ = some (.int .i64 t293) := (blk_cell BK298.out 3).trans rfl
                                    have hcz174_4 : wc.cell? ⟨gb298, 4, none⟩ = some (.slice Ao50 t322.length co50) := (blk_cell BK298.out 4).trans rfl
                                    have hfz174_0 := blk_frozen BK298.out 0
                                    have hfz174_1 := blk_frozen BK298.out 1
                                    have hfz174_2 := blk_frozen BK298.out 2
                                    have hfz174_3 := blk_frozen BK298.out 3
                                    have hfz174_4 := blk_frozen BK298.out 4
                                    go_wp2_with (first | ((with_reducible refine gate_callee (f := 23) rfl ?_); refine goesL_ (some 111) rfl rfl Try.func23 (by kernel_rfl) rfl #[.agg #[.int .i64 t288, .slice Ao49 t321.length co49, .int .i64 t292, .int .i64 t293, .slice Ao50 t322.length co50], .int .i64 1] rfl ar_ ?_; (with_reducible refine (laws_heldMouth.calls kj118 t288 _ _ t321 t292 t293 _ _ t322 1 t348 _ ?side1 ?side2 ?side3 ?side4 A167.out).mono ?_); (case side1 => exact kC_ (Kd.R_reads' HO_299001.out).2.2); (case side2 => exact (Kd.R_reads' HO_299001.out).2.1); (case side3 => exact kC_ (Kd.R_reads' HO_299004.out).2.2); (case side4 => exact (Kd.R_reads' HO_299004.out).2.1); rintro e w175 ⟨rfl, hb⟩; refine ⟨_, rfl, ?_⟩; have n0_ := Aside0.mk (Kd.R_below (kR_ HO_275001.out) hb); have n1_ := Aside0.mk (Kd.R_below (kR_ HO_275004.out) hb); have n2_ := Aside0.mk (Kd.R_below (kR_ HO_285001.out) hb); have n3_ := Aside0.mk (Kd.R_below (kR_ HO_285004.out) hb); have n4_ := Aside0.mk (Kd.R_below (kR_ HO_299001.out) hb); have n5_ := Aside0.mk (Kd.R_below (kR_ HO_299004.out) hb); have n6_ := Aside0.mk (Kd.R_below (kR_ HO_347001.out) hb); have n7_ := Aside0.mk (Kd.R_below (kR_ HO_347004.out) hb); have n8_ := Aside0.mk (blk_below (g := gb250) (o := .cells #[.int .i64 a0_0, .slice A0_1 l0_1.length c0_1, .int .i64 a0_2, .int .i64 a0_3, .slice A0_4 l0_4.length c0_4] 37 (0, 0)) (kb_ BK250.out) hb); have n9_ := Aside0.mk (blk_below (g := gb274) (o := .cells #[.int .i64 t264, .slice Ao30 t265.length co30, .int .i64 t268, .int .i64 t269, .slice Ao31 t270.length co31] 25 (0, 0)) (kb_ BK274.out) hb); have n10_ := Aside0.mk (blk_below (g := gb284) (o := .cells #[.int .i64 t275, .slice Ao38 t315.length co38, .int .i64 t279, .int .i64 t280, .slice Ao39 t316.length co39] 25 (0, 0)) (kb_ BK284.out) hb); have n11_ := Aside0.mk (blk_below (g := gb298) (o := .cells #[.int .i64 t288, .slice Ao49 t321.length co49, .int .i64 t292, .int .i64 t293, .slice Ao50 t322.length co50] 25 (0, 0)) (kb_ BK298.out) hb); have n12_ := Aside0.mk (blk_below (g := gb346) (o := .cells #[.int .i64 t336, .slice Ao142 t337.length co142, .int .i64 t340, .int .i64 t341, .slice Ao143 t342.length co143] 25 (0, 0)) (kb_ BK346.out) hb); have n13_ := Aside0.mk (below_step (by repeat (first | (with_reducible first | exact HB.out | apply below_alloc | apply pw_below_drewN | apply below_drew1 | refine below_set ?_ GE250.out | refine below_set ?_ GE274.out | refine below_set ?_ GE284.out | refine below_set ?_ GE298.out | refine below_set ?_ GE346.out) | exact HB.out)) hb); clear HO_275001; clear HO_275004; clear HO_285001; clear HO_285004; clear HO_299001; clear HO_299004; clear HO_347001; clear HO_347004; clear BK250; clear BK274; clear BK284; clear BK298; clear BK346; clear HB; have HO_275001 := n0_; have HO_275004 := n1_; have HO_285001 := n2_; have HO_285004 := n3_; have HO_299001 := n4_; have HO_299004 := n5_; have HO_347001 := n6_; have HO_347004 := n7_; have BK250 := n8_; have BK274 := n9_; have BK284 := n10_; have BK298 := n11_; have BK346 := n12_; have HB := n13_; clear n0_ n1_ n2_ n3_ n4_ n5_ n6_ n7_ n8_ n9_ n10_ n11_ n12_ n13_; (try clear hb); (try clear hb2); (try clear hk); (try clear hi)))
                                    go_ret
                                    exact ⟨by first | rfl | (simp [errW_none, errW_some] <;> rfl) | (simp [*, errW_none, errW_some] <;> rfl), by repeat (first | (with_reducible first | exact HB.out | apply below_alloc | apply pw_below_drewN | apply below_drew1 | refine below_set ?_ GE250.out | refine below_set ?_ GE274.out | refine below_set ?_ GE284.out | refine below_set ?_ GE298.out | refine below_set ?_ GE346.out) | exact HB.out)⟩
                                  · rw [if_neg c169] at H
                                    have c169b0 : (t348 == t320) = false := beq_eq_false_iff_ne.mpr c169
                                    have c169b1 : (t348 != t320) = true := bne_iff_ne.mpr c169
                                    exact absurd (Option.some.inj H) (by rw [HLW.out]; exact Bool.false_ne_true)
                        · rw [if_neg c115] at H
                          have c115b0 : (t323 == t320) = false := beq_eq_false_iff_ne.mpr c115
                          have c115b1 : (t323 != t320) = true := bne_iff_ne.mpr c115
                          exact absurd (Option.some.inj H) (by rw [HLW.out]; exact Bool.false_ne_true)
              · replace c75 := Bool.eq_false_iff.mpr c75
                subst c75
                have H1 : (some false) = some r := by rw [if_neg (show ¬ (false = true) by decide)] at H; exact H
                clear H
                have H := H1
                clear H1
                exact absurd (Option.some.inj H) (by rw [HLW.out]; exact Bool.false_ne_true)
            · replace c72 := Bool.eq_false_iff.mpr c72
              subst c72
              have H1 : (some false) = some r := by rw [if_neg (show ¬ (false = true) by decide)] at H; exact H
              clear H
              have H := H1
              clear H1
              exact absurd (Option.some.inj H) (by rw [HLW.out]; exact Bool.false_ne_true)

def laws_FnExactMouthWrite.Pure : Prop := ∀ (a0_0 : Int) (l0_1 : List Int) (a0_2 : Int) (a0_3 : Int) (l0_4 : List (S64)) (l1 : List Int), ((Lit.int .i64 a0_0).wf = true) → (l0_1.length ≤ maxLen ∧ ∀ y0_ ∈ l0_1, (Lit.int .u8 y0_).wf = true) → ((Lit.int .i64 a0_2).wf = true) → ((Lit.int .i64 a0_3).wf = true) → (l0_4.length ≤ maxLen ∧ ∀ y0_ ∈ l0_4, ((Lit.int .i64 y0_.f0).wf = true) ∧ ((Lit.int .i64 y0_.f1).wf = true)) → (l1.length ≤ maxLen ∧ ∀ y0_ ∈ l1, (Lit.int .u8 y0_).wf = true) → ∃ k, laws_FnExactMouthWrite.f k a0_0 l0_1 a0_2 a0_3 l0_4 l1 = some true

end Go.Proofs.Ytjiodkbbmhhccab.PFnExactMouthWrite
