/- Printed by wip/xp/xprint.sh out of the translation, for this claim: what each function answers, as a plain function, and that the machine does just that. No condition. -/
import Derived.Test.YtjiodkbbmhhccabRows
import Derived.Test.YtjiodkbbmhhccabPFnExactMouthHearx7
import Derived.Test.YtjiodkbbmhhccabPureFnExactMouthHear
import Derived.Test.YtjiodkbbmhhccabWOpen
import Derived.WalkKit
import Derived.ProofKit
import Derived.OpenShut
import Derived.ShutString
import Derived.ChangeOld
import Derived.Below
import Derived.SizedLaws
import Derived.Test.YtjiodkbbmhhccabWSized
namespace Go.Proofs.Ytjiodkbbmhhccab.fnExactMouthHear
open Go.ChangeShapes Go.WideShapes Go.ChangeAt Go.RowKit Go.Proofs.Ytjiodkbbmhhccab.PFnExactMouthHear Go.Proofs.YtjiodkbbmhhccabW.PrintWords
open Go.ChangeMaps (open_string shut_string)
set_option linter.unusedVariables false
theorem own : ownKnob Try.prog.godebug = none := by kernel_rfl
theorem laidOut : laidOutB Try.prog = true := by kernel_rfl
theorem opens64 : Opens Try.prog 64 k64 (fun x_ => ((Lit.int .i64 x_.f0).wf = true) ∧ ((Lit.int .i64 x_.f1).wf = true)) := by
  intro H enc w base spare held fuel cs x h
  obtain ⟨xs, n, _, _, hlen, hxl, hf⟩ := DataW.trod_struct Try.underlying64 h
  have hlen' : cs.length = 2 := hlen.trans (by kernel_rfl)
  obtain ⟨a0, h0, w0⟩ := Opens.field (s := 1) (Opens.int Try.underlying3) (hf 0 _ rfl) (by kernel_rfl) (by rw [hxl]; decide)
  obtain ⟨a1, h1, w1⟩ := Opens.field (s := 1) (Opens.int Try.underlying3) (hf 1 _ rfl) (by kernel_rfl) (by rw [hxl]; decide)
  refine ⟨⟨a0, a1⟩, ?_, ⟨w0, w1⟩⟩
  exact ⟨_, _, cut_at cs 0 1 1 rfl, h0, (cut_last cs 1 1 2 hlen' rfl ▸ h1)⟩
theorem opens37 : Opens Try.prog 37 k37 (fun x_ => ((Lit.int .i64 x_.f0).wf = true) ∧ (x_.f1.length ≤ maxLen ∧ ∀ y0_ ∈ x_.f1, (Lit.int .u8 y0_).wf = true) ∧ ((Lit.int .i64 x_.f2).wf = true) ∧ ((Lit.int .i64 x_.f3).wf = true) ∧ (x_.f4.length ≤ maxLen ∧ ∀ y0_ ∈ x_.f4, ((Lit.int .i64 y0_.f0).wf = true) ∧ ((Lit.int .i64 y0_.f1).wf = true))) := by
  intro H enc w base spare held fuel cs x h
  obtain ⟨xs, n, _, _, hlen, hxl, hf⟩ := DataW.trod_struct Try.underlying37 h
  have hlen' : cs.length = 5 := hlen.trans (by kernel_rfl)
  obtain ⟨a0, h0, w0⟩ := Opens.field (s := 1) (Opens.int Try.underlying3) (hf 0 _ rfl) (by kernel_rfl) (by rw [hxl]; decide)
  obtain ⟨a1, h1, w1⟩ := Opens.field (s := 1) (Opens.slice Try.underlying22 (Opens.int Try.underlying5) (by kernel_rfl)) (hf 1 _ rfl) (by kernel_rfl) (by rw [hxl]; decide)
  obtain ⟨a2, h2, w2⟩ := Opens.field (s := 1) (Opens.int Try.underlying3) (hf 2 _ rfl) (by kernel_rfl) (by rw [hxl]; decide)
  obtain ⟨a3, h3, w3⟩ := Opens.field (s := 1) (Opens.int Try.underlying3) (hf 3 _ rfl) (by kernel_rfl) (by rw [hxl]; decide)
  obtain ⟨a4, h4, w4⟩ := Opens.field (s := 1) (Opens.slice Try.underlying35 opens64 (by kernel_rfl)) (hf 4 _ rfl) (by kernel_rfl) (by rw [hxl]; decide)
  refine ⟨⟨a0, a1, a2, a3, a4⟩, ?_, ⟨w0, w1, w2, w3, w4⟩⟩
  exact ⟨_, _, cut_at cs 0 1 1 rfl, h0, ⟨_, _, cut_at cs 1 1 2 rfl, h1, ⟨_, _, cut_at cs 2 1 3 rfl, h2, ⟨_, _, cut_at cs 3 1 4 rfl, h3, (cut_last cs 4 1 5 hlen' rfl ▸ h4)⟩⟩⟩⟩
set_option maxRecDepth 100000 in
theorem lifted (os : Os) (started : os.Started) (H : Type) (enc : TypeId × Value → H) :
    ReturnsInHanded {} Try.checked os 4 .any (Rows.fnExactMouthHearSpec.pre6 enc Try.prog Try.f4 Rows.fnExactMouthHearRow.domain false) (Rows.fnExactMouthHearSpec.post enc Try.prog Try.f4 false true false false) := by
  refine returnsInHanded_of_change_sized (C := Try.checked) own started (by kernel_rfl) Try.func4
    (ChangeSpec.witness6 (enc := enc) (C := Try.checked) false ⟨#[], #[.agg #[.int .i64 0, .slice none 0 0, .int .i64 0, .int .i64 0, .slice none 0 0], .int .i64 0, .int .i64 0, .slice none 0 0], []⟩ 8 (by kernel_rfl) (by kernel_rfl) (by kernel_rfl) (by kernel_rfl)) ?_
  intro W base args ds gs before hval0 hW hcnd hsz0 _
  have hval : ∀ (j : Nat) t v, Try.f4.params[j]? = some t → args[j]? = some v → Value.okWide Try.prog W .any base t v := hval0
  have hW' := hW
  obtain ⟨p, q, hA0, hV, rfl, hfz, hnd⟩ := hW
  have hA : DataW.TrodAll enc Try.prog W 0 (fun _ => true) true Try.f4.params.toList args.toList ds p := hA0
  rw [Try.params4] at hA hval
  obtain ⟨v0, vs0, d0, ds0, p0, q0, hargs, rfl, rfl, h0, r0⟩ := trodAll_cons hA
  obtain ⟨v1, vs1, d1, ds1, p1, q1, rfl, rfl, rfl, h1, r1⟩ := trodAll_cons r0
  obtain ⟨v2, vs2, d2, ds2, p2, q2, rfl, rfl, rfl, h2, r2⟩ := trodAll_cons r1
  obtain ⟨v3, vs3, d3, ds3, p3, q3, rfl, rfl, rfl, h3, r3⟩ := trodAll_cons r2
  obtain ⟨rfl, rfl, rfl⟩ := trodAll_nil r3
  obtain rfl : args = #[v0, v1, v2, v3] := by cases args; simp_all
  obtain ⟨rfl, rfl⟩ := trodVars_none hV
  have k0 := h0
  have lt0 : ∀ x ∈ p0, x.block < W.heap.size := by obtain ⟨m, hm⟩ := k0; exact DataW.trod_lt m _ _ _ hm
  obtain ⟨cs0, rfl, _⟩ := okWide_struct Try.underlying37 (hval 0 37 v0 rfl rfl)
  obtain ⟨x0, kx0, wx0⟩ : ∃ x, k37.K W x cs0.toList ∧ (fun x_ => ((Lit.int .i64 x_.f0).wf = true) ∧ (x_.f1.length ≤ maxLen ∧ ∀ y0_ ∈ x_.f1, (Lit.int .u8 y0_).wf = true) ∧ ((Lit.int .i64 x_.f2).wf = true) ∧ ((Lit.int .i64 x_.f3).wf = true) ∧ (x_.f4.length ≤ maxLen ∧ ∀ y0_ ∈ x_.f4, ((Lit.int .i64 y0_.f0).wf = true) ∧ ((Lit.int .i64 y0_.f1).wf = true))) x := by obtain ⟨fuel, hf⟩ := h0; exact opens37 _ _ _ _ _ _ _ _ _ hf
  obtain ⟨A0_1, c0_1, A0_4, c0_4, he0, hl0_1, hg0_1, hl0_4, hg0_4⟩ := k37_open kx0
  obtain rfl : cs0 = #[.int .i64 x0.f0, .slice A0_1 x0.f1.length c0_1, .int .i64 x0.f2, .int .i64 x0.f3, .slice A0_4 x0.f4.length c0_4] := by apply Array.ext'; simpa using he0
  obtain ⟨a1, rfl, rfl, rfl, w1⟩ := open_int Try.underlying3 (hval 1 3 v1 rfl rfl) h1
  obtain ⟨a2, rfl, rfl, rfl, w2⟩ := open_int Try.underlying3 (hval 2 3 v2 rfl rfl) h2
  have k3 := h3
  have lt3 : ∀ x ∈ p3, x.block < W.heap.size := by obtain ⟨m, hm⟩ := k3; exact DataW.trod_lt m _ _ _ hm
  obtain ⟨a3, len3, cap3, rfl⟩ := okWide_slice Try.underlying35 (hval 3 35 v3 rfl rfl)
  obtain ⟨l3, ⟨A3, c3, he3, hl3, hg3⟩, wl3⟩ : ∃ l, (Kd.slice 64 k64).K W l (Value.slice a3 len3 cap3).cells.toList ∧ (fun x_ => x_.length ≤ maxLen ∧ ∀ y0_ ∈ x_, ((Lit.int .i64 y0_.f0).wf = true) ∧ ((Lit.int .i64 y0_.f1).wf = true)) l := by obtain ⟨fuel, hf⟩ := h3; exact (Opens.slice Try.underlying35 opens64 (by kernel_rfl)) _ _ _ _ _ _ _ _ _ hf
  obtain ⟨rfl, rfl, rfl⟩ : a3 = A3 ∧ len3 = l3.length ∧ cap3 = c3 := by simpa [Value.cells] using he3
  obtain ⟨k, hP⟩ := Pure.FnExactMouthHear x0.f0 x0.f1 x0.f2 x0.f3 x0.f4 a1 a2 l3 (wx0.1) (wx0.2.1) (wx0.2.2.1) (wx0.2.2.2.1) (wx0.2.2.2.2) w1 w2 wl3
  refine (PFnExactMouthHear.laws_FnExactMouthHear.calls k x0.f0 _ _ x0.f1 x0.f2 x0.f3 _ _ x0.f4 a1 a2 _ _ l3 true W hg0_1 hl0_1 hg0_4 hl0_4 hg3 hl3 hP rfl).mono fun e W' ⟨he, bel0⟩ => ?_
  have bel : Below W.heap.size W W' := bel0
  subst he
  exact ⟨_, rfl, _, _, _, [], _, [], hW', trodAll_mk1 (shut_bool Try.underlying4 _), (trodAll_cons_mk (Below.trod laidOut (by kernel_rfl) (of_decide_eq_true (by kernel_rfl)) k0 bel lt0) (trodAll_cons_mk (shut_int Try.underlying3 w1) (trodAll_cons_mk (shut_int Try.underlying3 w2) (trodAll_cons_mk (Below.trod laidOut (by kernel_rfl) (of_decide_eq_true (by kernel_rfl)) k3 bel lt3) trodAll_mk0)))), rfl, bel.frame _, fun h => by cases h⟩
theorem over : Rows.fnExactMouthHearRow.holds Try.pinned (OpenSpec.ofChange Rows.fnExactMouthHearSpec) :=
  OpenClaim.holds_of_wide 4 Try.f4 rfl rfl rfl rfl rfl rfl rfl ⟨rfl, rfl, rfl, rfl, rfl⟩ rfl rfl rfl rfl rfl (by kernel_rfl) Try.func4 (by kernel_rfl)
    (of_decide_eq_true (by kernel_rfl)) (by unfold Func.isWrapper; first | (rw [if_pos (by decide +kernel)]; kernel_rfl) | (rw [if_neg (by decide +kernel)]; exact ⟨rfl, rfl⟩))
    (fun os started H enc _ => lifted os started H enc)
theorem proved : Rows.FnExactMouthHearSaid := over
#print axioms proved
end Go.Proofs.Ytjiodkbbmhhccab.fnExactMouthHear
namespace Go.Proofs.Ytjiodkbbmhhccab
/-- The row, under a short name, for the claim. -/
theorem fnExactMouthHear_holds : Rows.FnExactMouthHearSaid := fnExactMouthHear.proved
end Go.Proofs.Ytjiodkbbmhhccab
