/- Printed by wip/xp/xprint.sh out of the translation, for this claim: what each function answers, as a plain function, and that the machine does just that. No condition. -/
import Derived.Test.YtpdbnlmdohcgkaaRows
import Derived.Test.YtpdbnlmdohcgkaaPFnExactPartPutx10
import Derived.Test.YtpdbnlmdohcgkaaPureFnExactPartPut
import Derived.Test.YtpdbnlmdohcgkaaWOpen
import Derived.WalkKit
import Derived.ProofKit
import Derived.OpenShut
import Derived.ShutString
import Derived.ChangeOld
import Derived.Below
import Derived.SizedLaws
import Derived.Test.YtpdbnlmdohcgkaaWSized
namespace Go.Proofs.Ytpdbnlmdohcgkaa.fnExactPartPut
open Go.ChangeShapes Go.WideShapes Go.ChangeAt Go.RowKit Go.Proofs.Ytpdbnlmdohcgkaa.PFnExactPartPut Go.Proofs.YtpdbnlmdohcgkaaW.PrintWords
open Go.ChangeMaps (open_string shut_string)
set_option linter.unusedVariables false
theorem own : ownKnob Try.prog.godebug = none := by kernel_rfl
theorem laidOut : laidOutB Try.prog = true := by kernel_rfl
theorem opens27 : Opens Try.prog 27 k27 (fun x_ => ((Lit.int .i64 x_.f0).wf = true) ∧ ((Lit.int .i64 x_.f1).wf = true) ∧ ((Lit.int .i64 x_.f2).wf = true) ∧ ((Lit.int .i64 x_.f3).wf = true) ∧ ((Lit.int .i64 x_.f4).wf = true) ∧ ((Lit.int .i64 x_.f5).wf = true) ∧ (True) ∧ (True) ∧ (x_.f8.length ≤ maxLen ∧ ∀ y0_ ∈ x_.f8, (Lit.int .u8 y0_).wf = true)) := by
  intro H enc w base spare held fuel cs x h
  obtain ⟨xs, n, _, _, hlen, hxl, hf⟩ := DataW.trod_struct Try.underlying27 h
  have hlen' : cs.length = 9 := hlen.trans (by kernel_rfl)
  obtain ⟨a0, h0, w0⟩ := Opens.field (s := 1) (Opens.int Try.underlying3) (hf 0 _ rfl) (by kernel_rfl) (by rw [hxl]; decide)
  obtain ⟨a1, h1, w1⟩ := Opens.field (s := 1) (Opens.int Try.underlying3) (hf 1 _ rfl) (by kernel_rfl) (by rw [hxl]; decide)
  obtain ⟨a2, h2, w2⟩ := Opens.field (s := 1) (Opens.int Try.underlying3) (hf 2 _ rfl) (by kernel_rfl) (by rw [hxl]; decide)
  obtain ⟨a3, h3, w3⟩ := Opens.field (s := 1) (Opens.int Try.underlying3) (hf 3 _ rfl) (by kernel_rfl) (by rw [hxl]; decide)
  obtain ⟨a4, h4, w4⟩ := Opens.field (s := 1) (Opens.int Try.underlying3) (hf 4 _ rfl) (by kernel_rfl) (by rw [hxl]; decide)
  obtain ⟨a5, h5, w5⟩ := Opens.field (s := 1) (Opens.int Try.underlying3) (hf 5 _ rfl) (by kernel_rfl) (by rw [hxl]; decide)
  obtain ⟨a6, h6, w6⟩ := Opens.field (s := 1) (Opens.bool Try.underlying4) (hf 6 _ rfl) (by kernel_rfl) (by rw [hxl]; decide)
  obtain ⟨a7, h7, w7⟩ := Opens.field (s := 1) (Opens.bool Try.underlying4) (hf 7 _ rfl) (by kernel_rfl) (by rw [hxl]; decide)
  obtain ⟨a8, h8, w8⟩ := Opens.field (s := 1) (Opens.slice Try.underlying25 (Opens.int Try.underlying5) (by kernel_rfl)) (hf 8 _ rfl) (by kernel_rfl) (by rw [hxl]; decide)
  refine ⟨⟨a0, a1, a2, a3, a4, a5, a6, a7, a8⟩, ?_, ⟨w0, w1, w2, w3, w4, w5, w6, w7, w8⟩⟩
  exact ⟨_, _, cut_at cs 0 1 1 rfl, h0, ⟨_, _, cut_at cs 1 1 2 rfl, h1, ⟨_, _, cut_at cs 2 1 3 rfl, h2, ⟨_, _, cut_at cs 3 1 4 rfl, h3, ⟨_, _, cut_at cs 4 1 5 rfl, h4, ⟨_, _, cut_at cs 5 1 6 rfl, h5, ⟨_, _, cut_at cs 6 1 7 rfl, h6, ⟨_, _, cut_at cs 7 1 8 rfl, h7, (cut_last cs 8 1 9 hlen' rfl ▸ h8)⟩⟩⟩⟩⟩⟩⟩⟩
theorem opens24 : Opens Try.prog 24 k24 (fun x_ => (x_.f0.length ≤ maxLen ∧ ∀ y0_ ∈ x_.f0, ((Lit.int .i64 y0_.f0).wf = true) ∧ ((Lit.int .i64 y0_.f1).wf = true) ∧ ((Lit.int .i64 y0_.f2).wf = true) ∧ ((Lit.int .i64 y0_.f3).wf = true) ∧ ((Lit.int .i64 y0_.f4).wf = true) ∧ ((Lit.int .i64 y0_.f5).wf = true) ∧ (True) ∧ (True) ∧ (y0_.f8.length ≤ maxLen ∧ ∀ y1_ ∈ y0_.f8, (Lit.int .u8 y1_).wf = true)) ∧ ((Lit.int .i64 x_.f1).wf = true)) := by
  intro H enc w base spare held fuel cs x h
  obtain ⟨xs, n, _, _, hlen, hxl, hf⟩ := DataW.trod_struct Try.underlying24 h
  have hlen' : cs.length = 2 := hlen.trans (by kernel_rfl)
  obtain ⟨a0, h0, w0⟩ := Opens.field (s := 1) (Opens.slice Try.underlying22 opens27 (by kernel_rfl)) (hf 0 _ rfl) (by kernel_rfl) (by rw [hxl]; decide)
  obtain ⟨a1, h1, w1⟩ := Opens.field (s := 1) (Opens.int Try.underlying3) (hf 1 _ rfl) (by kernel_rfl) (by rw [hxl]; decide)
  refine ⟨⟨a0, a1⟩, ?_, ⟨w0, w1⟩⟩
  exact ⟨_, _, cut_at cs 0 1 1 rfl, h0, (cut_last cs 1 1 2 hlen' rfl ▸ h1)⟩
set_option maxRecDepth 100000 in
theorem lifted (os : Os) (started : os.Started) (H : Type) (enc : TypeId × Value → H) :
    ReturnsInHanded {} Try.checked os 3 .any (Rows.fnExactPartPutSpec.pre6 enc Try.prog Try.f3 Rows.fnExactPartPutRow.domain false) (Rows.fnExactPartPutSpec.post enc Try.prog Try.f3 false true false false) := by
  refine returnsInHanded_of_change_sized (C := Try.checked) own started (by kernel_rfl) Try.func3
    (ChangeSpec.witness6 (enc := enc) (C := Try.checked) false ⟨#[], #[.agg #[.slice none 0 0, .int .i64 0], .agg #[.int .i64 0, .int .i64 0, .int .i64 0, .int .i64 0, .int .i64 0, .int .i64 0, .bool false, .bool false, .slice none 0 0]], []⟩ 8 (by kernel_rfl) (by kernel_rfl) (by kernel_rfl) (by kernel_rfl)) ?_
  intro W base args ds gs before hval0 hW hcnd hsz0 _
  have hval : ∀ (j : Nat) t v, Try.f3.params[j]? = some t → args[j]? = some v → Value.okWide Try.prog W .any base t v := hval0
  have hW' := hW
  obtain ⟨p, q, hA0, hV, rfl, hfz, hnd⟩ := hW
  have hA : DataW.TrodAll enc Try.prog W 0 (fun _ => true) true Try.f3.params.toList args.toList ds p := hA0
  rw [Try.params3] at hA hval
  obtain ⟨v0, vs0, d0, ds0, p0, q0, hargs, rfl, rfl, h0, r0⟩ := trodAll_cons hA
  obtain ⟨v1, vs1, d1, ds1, p1, q1, rfl, rfl, rfl, h1, r1⟩ := trodAll_cons r0
  obtain ⟨rfl, rfl, rfl⟩ := trodAll_nil r1
  obtain rfl : args = #[v0, v1] := by cases args; simp_all
  obtain ⟨rfl, rfl⟩ := trodVars_none hV
  have k0 := h0
  have lt0 : ∀ x ∈ p0, x.block < W.heap.size := by obtain ⟨m, hm⟩ := k0; exact DataW.trod_lt m _ _ _ hm
  obtain ⟨cs0, rfl, _⟩ := okWide_struct Try.underlying24 (hval 0 24 v0 rfl rfl)
  obtain ⟨x0, kx0, wx0⟩ : ∃ x, k24.K W x cs0.toList ∧ (fun x_ => (x_.f0.length ≤ maxLen ∧ ∀ y0_ ∈ x_.f0, ((Lit.int .i64 y0_.f0).wf = true) ∧ ((Lit.int .i64 y0_.f1).wf = true) ∧ ((Lit.int .i64 y0_.f2).wf = true) ∧ ((Lit.int .i64 y0_.f3).wf = true) ∧ ((Lit.int .i64 y0_.f4).wf = true) ∧ ((Lit.int .i64 y0_.f5).wf = true) ∧ (True) ∧ (True) ∧ (y0_.f8.length ≤ maxLen ∧ ∀ y1_ ∈ y0_.f8, (Lit.int .u8 y1_).wf = true)) ∧ ((Lit.int .i64 x_.f1).wf = true)) x := by obtain ⟨fuel, hf⟩ := h0; exact opens24 _ _ _ _ _ _ _ _ _ hf
  obtain ⟨A0_0, c0_0, he0, hl0_0, hg0_0⟩ := k24_open kx0
  obtain rfl : cs0 = #[.slice A0_0 x0.f0.length c0_0, .int .i64 x0.f1] := by apply Array.ext'; simpa using he0
  have k1 := h1
  have lt1 : ∀ x ∈ p1, x.block < W.heap.size := by obtain ⟨m, hm⟩ := k1; exact DataW.trod_lt m _ _ _ hm
  obtain ⟨cs1, rfl, _⟩ := okWide_struct Try.underlying27 (hval 1 27 v1 rfl rfl)
  obtain ⟨x1, kx1, wx1⟩ : ∃ x, k27.K W x cs1.toList ∧ (fun x_ => ((Lit.int .i64 x_.f0).wf = true) ∧ ((Lit.int .i64 x_.f1).wf = true) ∧ ((Lit.int .i64 x_.f2).wf = true) ∧ ((Lit.int .i64 x_.f3).wf = true) ∧ ((Lit.int .i64 x_.f4).wf = true) ∧ ((Lit.int .i64 x_.f5).wf = true) ∧ (True) ∧ (True) ∧ (x_.f8.length ≤ maxLen ∧ ∀ y0_ ∈ x_.f8, (Lit.int .u8 y0_).wf = true)) x := by obtain ⟨fuel, hf⟩ := h1; exact opens27 _ _ _ _ _ _ _ _ _ hf
  obtain ⟨A1_8, c1_8, he1, hl1_8, hg1_8⟩ := k27_open kx1
  obtain rfl : cs1 = #[.int .i64 x1.f0, .int .i64 x1.f1, .int .i64 x1.f2, .int .i64 x1.f3, .int .i64 x1.f4, .int .i64 x1.f5, .bool x1.f6, .bool x1.f7, .slice A1_8 x1.f8.length c1_8] := by apply Array.ext'; simpa using he1
  obtain ⟨k, hP⟩ := Pure.FnExactPartPut x0.f0 x0.f1 x1.f0 x1.f1 x1.f2 x1.f3 x1.f4 x1.f5 x1.f6 x1.f7 x1.f8 (wx0.1) (wx0.2) (wx1.1) (wx1.2.1) (wx1.2.2.1) (wx1.2.2.2.1) (wx1.2.2.2.2.1) (wx1.2.2.2.2.2.1) (wx1.2.2.2.2.2.2.2.2)
  refine (PFnExactPartPut.laws_FnExactPartPut.calls k _ _ x0.f0 x0.f1 x1.f0 x1.f1 x1.f2 x1.f3 x1.f4 x1.f5 x1.f6 x1.f7 _ _ x1.f8 true W hg0_0 hl0_0 hg1_8 hl1_8 hP rfl).mono fun e W' ⟨he, bel0⟩ => ?_
  have bel : Below W.heap.size W W' := bel0
  subst he
  exact ⟨_, rfl, _, _, _, [], _, [], hW', trodAll_mk1 (shut_bool Try.underlying4 _), (trodAll_cons_mk (Below.trod laidOut (by kernel_rfl) (of_decide_eq_true (by kernel_rfl)) k0 bel lt0) (trodAll_cons_mk (Below.trod laidOut (by kernel_rfl) (of_decide_eq_true (by kernel_rfl)) k1 bel lt1) trodAll_mk0)), rfl, bel.frame _, fun h => by cases h⟩
theorem over : Rows.fnExactPartPutRow.holds Try.pinned (OpenSpec.ofChange Rows.fnExactPartPutSpec) :=
  OpenClaim.holds_of_wide 3 Try.f3 rfl rfl rfl rfl rfl rfl rfl ⟨rfl, rfl, rfl, rfl, rfl⟩ rfl rfl rfl rfl rfl (by kernel_rfl) Try.func3 (by kernel_rfl)
    (of_decide_eq_true (by kernel_rfl)) (by unfold Func.isWrapper; first | (rw [if_pos (by decide +kernel)]; kernel_rfl) | (rw [if_neg (by decide +kernel)]; exact ⟨rfl, rfl⟩))
    (fun os started H enc _ => lifted os started H enc)
theorem proved : Rows.FnExactPartPutSaid := over
#print axioms proved
end Go.Proofs.Ytpdbnlmdohcgkaa.fnExactPartPut
namespace Go.Proofs.Ytpdbnlmdohcgkaa
/-- The row, under a short name, for the claim. -/
theorem fnExactPartPut_holds : Rows.FnExactPartPutSaid := fnExactPartPut.proved
end Go.Proofs.Ytpdbnlmdohcgkaa
