/- Printed by wip/xp/xprint.sh out of the translation, for this claim: what each function answers, as a plain function, and that the machine does just that. No condition. -/
import Derived.Test.YtegchbdjbefdbaaRows
import Derived.Test.YtegchbdjbefdbaaPFnExactClientHearx8
import Derived.Test.YtegchbdjbefdbaaPureFnExactClientHear
import Derived.Test.YtegchbdjbefdbaaWOpen
import Derived.WalkKit
import Derived.ProofKit
import Derived.OpenShut
import Derived.ShutString
import Derived.ChangeOld
import Derived.Below
import Derived.SizedLaws
import Derived.Test.YtegchbdjbefdbaaWSized
namespace Go.Proofs.Ytegchbdjbefdbaa.fnExactClientHear
open Go.ChangeShapes Go.WideShapes Go.ChangeAt Go.RowKit Go.Proofs.Ytegchbdjbefdbaa.PFnExactClientHear Go.Proofs.YtegchbdjbefdbaaW.PrintWords
open Go.ChangeMaps (open_string shut_string)
set_option linter.unusedVariables false
theorem own : ownKnob Try.prog.godebug = none := by kernel_rfl
theorem laidOut : laidOutB Try.prog = true := by kernel_rfl
theorem opens57 : Opens Try.prog 57 k57 (fun x_ => ((Lit.int .i64 x_.f0).wf = true) ∧ (x_.f1.length ≤ maxLen ∧ ∀ y0_ ∈ x_.f1, (Lit.int .u8 y0_).wf = true)) := by
  intro H enc w base spare held fuel cs x h
  obtain ⟨xs, n, _, _, hlen, hxl, hf⟩ := DataW.trod_struct Try.underlying57 h
  have hlen' : cs.length = 2 := hlen.trans (by kernel_rfl)
  obtain ⟨a0, h0, w0⟩ := Opens.field (s := 1) (Opens.int Try.underlying3) (hf 0 _ rfl) (by kernel_rfl) (by rw [hxl]; decide)
  obtain ⟨a1, h1, w1⟩ := Opens.field (s := 1) (Opens.slice Try.underlying34 (Opens.int Try.underlying5) (by kernel_rfl)) (hf 1 _ rfl) (by kernel_rfl) (by rw [hxl]; decide)
  refine ⟨⟨a0, a1⟩, ?_, ⟨w0, w1⟩⟩
  exact ⟨_, _, cut_at cs 0 1 1 rfl, h0, (cut_last cs 1 1 2 hlen' rfl ▸ h1)⟩
theorem opens25 : Opens Try.prog 25 k25 (fun x_ => ((Lit.int .i64 x_.f0).wf = true) ∧ (x_.f1.length ≤ maxLen ∧ ∀ y0_ ∈ x_.f1, (Lit.int .i64 y0_).wf = true) ∧ (x_.f2.length ≤ maxLen ∧ ∀ y0_ ∈ x_.f2, ((Lit.int .i64 y0_.f0).wf = true) ∧ (y0_.f1.length ≤ maxLen ∧ ∀ y1_ ∈ y0_.f1, (Lit.int .u8 y1_).wf = true)) ∧ (x_.f3.length ≤ maxLen ∧ ∀ y0_ ∈ x_.f3, (Lit.int .i64 y0_).wf = true)) := by
  intro H enc w base spare held fuel cs x h
  obtain ⟨xs, n, _, _, hlen, hxl, hf⟩ := DataW.trod_struct Try.underlying25 h
  have hlen' : cs.length = 4 := hlen.trans (by kernel_rfl)
  obtain ⟨a0, h0, w0⟩ := Opens.field (s := 1) (Opens.int Try.underlying3) (hf 0 _ rfl) (by kernel_rfl) (by rw [hxl]; decide)
  obtain ⟨a1, h1, w1⟩ := Opens.field (s := 1) (Opens.slice Try.underlying22 (Opens.int Try.underlying3) (by kernel_rfl)) (hf 1 _ rfl) (by kernel_rfl) (by rw [hxl]; decide)
  obtain ⟨a2, h2, w2⟩ := Opens.field (s := 1) (Opens.slice Try.underlying23 opens57 (by kernel_rfl)) (hf 2 _ rfl) (by kernel_rfl) (by rw [hxl]; decide)
  obtain ⟨a3, h3, w3⟩ := Opens.field (s := 1) (Opens.slice Try.underlying22 (Opens.int Try.underlying3) (by kernel_rfl)) (hf 3 _ rfl) (by kernel_rfl) (by rw [hxl]; decide)
  refine ⟨⟨a0, a1, a2, a3⟩, ?_, ⟨w0, w1, w2, w3⟩⟩
  exact ⟨_, _, cut_at cs 0 1 1 rfl, h0, ⟨_, _, cut_at cs 1 1 2 rfl, h1, ⟨_, _, cut_at cs 2 1 3 rfl, h2, (cut_last cs 3 1 4 hlen' rfl ▸ h3)⟩⟩⟩
set_option maxRecDepth 100000 in
theorem lifted (os : Os) (started : os.Started) (H : Type) (enc : TypeId × Value → H) :
    ReturnsInHanded {} Try.checked os 9 .any (Rows.fnExactClientHearSpec.pre6 enc Try.prog Try.f9 Rows.fnExactClientHearRow.domain false) (Rows.fnExactClientHearSpec.post enc Try.prog Try.f9 false true false false) := by
  refine returnsInHanded_of_change_sized (C := Try.checked) own started (by kernel_rfl) Try.func9
    (ChangeSpec.witness6 (enc := enc) (C := Try.checked) false ⟨#[], #[.agg #[.int .i64 0, .slice none 0 0, .slice none 0 0, .slice none 0 0], .agg #[.int .i64 0, .slice none 0 0]], []⟩ 8 (by kernel_rfl) (by kernel_rfl) (by kernel_rfl) (by kernel_rfl)) ?_
  intro W base args ds gs before hval0 hW hcnd hsz0 _
  have hval : ∀ (j : Nat) t v, Try.f9.params[j]? = some t → args[j]? = some v → Value.okWide Try.prog W .any base t v := hval0
  have hW' := hW
  obtain ⟨p, q, hA0, hV, rfl, hfz, hnd⟩ := hW
  have hA : DataW.TrodAll enc Try.prog W 0 (fun _ => true) true Try.f9.params.toList args.toList ds p := hA0
  rw [Try.params9] at hA hval
  obtain ⟨v0, vs0, d0, ds0, p0, q0, hargs, rfl, rfl, h0, r0⟩ := trodAll_cons hA
  obtain ⟨v1, vs1, d1, ds1, p1, q1, rfl, rfl, rfl, h1, r1⟩ := trodAll_cons r0
  obtain ⟨rfl, rfl, rfl⟩ := trodAll_nil r1
  obtain rfl : args = #[v0, v1] := by cases args; simp_all
  obtain ⟨rfl, rfl⟩ := trodVars_none hV
  have k0 := h0
  have lt0 : ∀ x ∈ p0, x.block < W.heap.size := by obtain ⟨m, hm⟩ := k0; exact DataW.trod_lt m _ _ _ hm
  obtain ⟨cs0, rfl, _⟩ := okWide_struct Try.underlying25 (hval 0 25 v0 rfl rfl)
  obtain ⟨x0, kx0, wx0⟩ : ∃ x, k25.K W x cs0.toList ∧ (fun x_ => ((Lit.int .i64 x_.f0).wf = true) ∧ (x_.f1.length ≤ maxLen ∧ ∀ y0_ ∈ x_.f1, (Lit.int .i64 y0_).wf = true) ∧ (x_.f2.length ≤ maxLen ∧ ∀ y0_ ∈ x_.f2, ((Lit.int .i64 y0_.f0).wf = true) ∧ (y0_.f1.length ≤ maxLen ∧ ∀ y1_ ∈ y0_.f1, (Lit.int .u8 y1_).wf = true)) ∧ (x_.f3.length ≤ maxLen ∧ ∀ y0_ ∈ x_.f3, (Lit.int .i64 y0_).wf = true)) x := by obtain ⟨fuel, hf⟩ := h0; exact opens25 _ _ _ _ _ _ _ _ _ hf
  obtain ⟨A0_1, c0_1, A0_2, c0_2, A0_3, c0_3, he0, hl0_1, hg0_1, hl0_2, hg0_2, hl0_3, hg0_3⟩ := k25_open kx0
  obtain rfl : cs0 = #[.int .i64 x0.f0, .slice A0_1 x0.f1.length c0_1, .slice A0_2 x0.f2.length c0_2, .slice A0_3 x0.f3.length c0_3] := by apply Array.ext'; simpa using he0
  have k1 := h1
  have lt1 : ∀ x ∈ p1, x.block < W.heap.size := by obtain ⟨m, hm⟩ := k1; exact DataW.trod_lt m _ _ _ hm
  obtain ⟨cs1, rfl, _⟩ := okWide_struct Try.underlying57 (hval 1 57 v1 rfl rfl)
  obtain ⟨x1, kx1, wx1⟩ : ∃ x, k57.K W x cs1.toList ∧ (fun x_ => ((Lit.int .i64 x_.f0).wf = true) ∧ (x_.f1.length ≤ maxLen ∧ ∀ y0_ ∈ x_.f1, (Lit.int .u8 y0_).wf = true)) x := by obtain ⟨fuel, hf⟩ := h1; exact opens57 _ _ _ _ _ _ _ _ _ hf
  obtain ⟨A1_1, c1_1, he1, hl1_1, hg1_1⟩ := k57_open kx1
  obtain rfl : cs1 = #[.int .i64 x1.f0, .slice A1_1 x1.f1.length c1_1] := by apply Array.ext'; simpa using he1
  obtain ⟨k, hP⟩ := Pure.FnExactClientHear x0.f0 x0.f1 x0.f2 x0.f3 x1.f0 x1.f1 (wx0.1) (wx0.2.1) (wx0.2.2.1) (wx0.2.2.2) (wx1.1) (wx1.2)
  refine (PFnExactClientHear.laws_FnExactClientHear.calls k x0.f0 _ _ x0.f1 _ _ x0.f2 _ _ x0.f3 x1.f0 _ _ x1.f1 true W hg0_1 hl0_1 hg0_2 hl0_2 hg0_3 hl0_3 hg1_1 hl1_1 hP rfl).mono fun e W' ⟨he, bel0⟩ => ?_
  have bel : Below W.heap.size W W' := bel0
  subst he
  exact ⟨_, rfl, _, _, _, [], _, [], hW', trodAll_mk1 (shut_bool Try.underlying4 _), (trodAll_cons_mk (Below.trod laidOut (by kernel_rfl) (of_decide_eq_true (by kernel_rfl)) k0 bel lt0) (trodAll_cons_mk (Below.trod laidOut (by kernel_rfl) (of_decide_eq_true (by kernel_rfl)) k1 bel lt1) trodAll_mk0)), rfl, bel.frame _, fun h => by cases h⟩
theorem over : Rows.fnExactClientHearRow.holds Try.pinned (OpenSpec.ofChange Rows.fnExactClientHearSpec) :=
  OpenClaim.holds_of_wide 9 Try.f9 rfl rfl rfl rfl rfl rfl rfl ⟨rfl, rfl, rfl, rfl, rfl⟩ rfl rfl rfl rfl rfl (by kernel_rfl) Try.func9 (by kernel_rfl)
    (of_decide_eq_true (by kernel_rfl)) (by unfold Func.isWrapper; first | (rw [if_pos (by decide +kernel)]; kernel_rfl) | (rw [if_neg (by decide +kernel)]; exact ⟨rfl, rfl⟩))
    (fun os started H enc _ => lifted os started H enc)
theorem proved : Rows.FnExactClientHearSaid := over
#print axioms proved
end Go.Proofs.Ytegchbdjbefdbaa.fnExactClientHear
namespace Go.Proofs.Ytegchbdjbefdbaa
/-- The row, under a short name, for the claim. -/
theorem fnExactClientHear_holds : Rows.FnExactClientHearSaid := fnExactClientHear.proved
end Go.Proofs.Ytegchbdjbefdbaa
