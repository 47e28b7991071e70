/- Printed by wip/xp/xprint.sh out of the translation, for this claim: what each function answers, as a plain function, and that the machine does just that. No condition. -/
import Derived.Test.YtbhofhdmbbipgaaRows
import Derived.Test.YtbhofhdmbbipgaaPFnExactEarHearx6
import Derived.Test.YtbhofhdmbbipgaaPureFnExactEarHear
import Derived.Test.YtbhofhdmbbipgaaWOpen
import Derived.WalkKit
import Derived.ProofKit
import Derived.OpenShut
import Derived.ShutString
import Derived.ChangeOld
import Derived.Below
import Derived.SizedLaws
import Derived.Test.YtbhofhdmbbipgaaWSized
namespace Go.Proofs.Ytbhofhdmbbipgaa.fnExactEarHear
open Go.ChangeShapes Go.WideShapes Go.ChangeAt Go.RowKit Go.Proofs.Ytbhofhdmbbipgaa.PFnExactEarHear Go.Proofs.YtbhofhdmbbipgaaW.PrintWords
open Go.ChangeMaps (open_string shut_string)
set_option linter.unusedVariables false
theorem own : ownKnob Try.prog.godebug = none := by kernel_rfl
theorem laidOut : laidOutB Try.prog = true := by kernel_rfl
theorem opens121 : Opens Try.prog 121 k121 (fun x_ => ((Lit.int .i64 x_.f0).wf = true) ∧ ((Lit.int .u8 x_.f1).wf = true)) := by
  intro H enc w base spare held fuel cs x h
  obtain ⟨xs, n, _, _, hlen, hxl, hf⟩ := DataW.trod_struct Try.underlying121 h
  have hlen' : cs.length = 2 := hlen.trans (by kernel_rfl)
  obtain ⟨a0, h0, w0⟩ := Opens.field (s := 1) (Opens.int Try.underlying3) (hf 0 _ rfl) (by kernel_rfl) (by rw [hxl]; decide)
  obtain ⟨a1, h1, w1⟩ := Opens.field (s := 1) (Opens.int Try.underlying5) (hf 1 _ rfl) (by kernel_rfl) (by rw [hxl]; decide)
  refine ⟨⟨a0, a1⟩, ?_, ⟨w0, w1⟩⟩
  exact ⟨_, _, cut_at cs 0 1 1 rfl, h0, (cut_last cs 1 1 2 hlen' rfl ▸ h1)⟩
theorem opens44 : Opens Try.prog 44 k44 (fun x_ => ((Lit.int .i64 x_.f0).wf = true) ∧ ((Lit.int .i64 x_.f1).wf = true) ∧ (x_.f2.length ≤ maxLen ∧ ∀ y0_ ∈ x_.f2, (Lit.int .u8 y0_).wf = true) ∧ (x_.f3.length ≤ maxLen ∧ ∀ y0_ ∈ x_.f3, ((Lit.int .i64 y0_.f0).wf = true) ∧ ((Lit.int .u8 y0_.f1).wf = true))) := by
  intro H enc w base spare held fuel cs x h
  obtain ⟨xs, n, _, _, hlen, hxl, hf⟩ := DataW.trod_struct Try.underlying44 h
  have hlen' : cs.length = 4 := hlen.trans (by kernel_rfl)
  obtain ⟨a0, h0, w0⟩ := Opens.field (s := 1) (Opens.int Try.underlying3) (hf 0 _ rfl) (by kernel_rfl) (by rw [hxl]; decide)
  obtain ⟨a1, h1, w1⟩ := Opens.field (s := 1) (Opens.int Try.underlying3) (hf 1 _ rfl) (by kernel_rfl) (by rw [hxl]; decide)
  obtain ⟨a2, h2, w2⟩ := Opens.field (s := 1) (Opens.slice Try.underlying22 (Opens.int Try.underlying5) (by kernel_rfl)) (hf 2 _ rfl) (by kernel_rfl) (by rw [hxl]; decide)
  obtain ⟨a3, h3, w3⟩ := Opens.field (s := 1) (Opens.slice Try.underlying42 opens121 (by kernel_rfl)) (hf 3 _ rfl) (by kernel_rfl) (by rw [hxl]; decide)
  refine ⟨⟨a0, a1, a2, a3⟩, ?_, ⟨w0, w1, w2, w3⟩⟩
  exact ⟨_, _, cut_at cs 0 1 1 rfl, h0, ⟨_, _, cut_at cs 1 1 2 rfl, h1, ⟨_, _, cut_at cs 2 1 3 rfl, h2, (cut_last cs 3 1 4 hlen' rfl ▸ h3)⟩⟩⟩
set_option maxRecDepth 100000 in
theorem lifted (os : Os) (started : os.Started) (H : Type) (enc : TypeId × Value → H) :
    ReturnsInHanded {} Try.checked os 5 .any (Rows.fnExactEarHearSpec.pre6 enc Try.prog Try.f5 Rows.fnExactEarHearRow.domain false) (Rows.fnExactEarHearSpec.post enc Try.prog Try.f5 false true false false) := by
  refine returnsInHanded_of_change_sized (C := Try.checked) own started (by kernel_rfl) Try.func5
    (ChangeSpec.witness6 (enc := enc) (C := Try.checked) false ⟨#[], #[.agg #[.int .i64 0, .int .i64 0, .slice none 0 0, .slice none 0 0], .int .i64 0, .slice none 0 0], []⟩ 8 (by kernel_rfl) (by kernel_rfl) (by kernel_rfl) (by kernel_rfl)) ?_
  intro W base args ds gs before hval0 hW hcnd hsz0 _
  have hval : ∀ (j : Nat) t v, Try.f5.params[j]? = some t → args[j]? = some v → Value.okWide Try.prog W .any base t v := hval0
  have hW' := hW
  obtain ⟨p, q, hA0, hV, rfl, hfz, hnd⟩ := hW
  have hA : DataW.TrodAll enc Try.prog W 0 (fun _ => true) true Try.f5.params.toList args.toList ds p := hA0
  rw [Try.params5] at hA hval
  obtain ⟨v0, vs0, d0, ds0, p0, q0, hargs, rfl, rfl, h0, r0⟩ := trodAll_cons hA
  obtain ⟨v1, vs1, d1, ds1, p1, q1, rfl, rfl, rfl, h1, r1⟩ := trodAll_cons r0
  obtain ⟨v2, vs2, d2, ds2, p2, q2, rfl, rfl, rfl, h2, r2⟩ := trodAll_cons r1
  obtain ⟨rfl, rfl, rfl⟩ := trodAll_nil r2
  obtain rfl : args = #[v0, v1, v2] := by cases args; simp_all
  obtain ⟨rfl, rfl⟩ := trodVars_none hV
  have k0 := h0
  have lt0 : ∀ x ∈ p0, x.block < W.heap.size := by obtain ⟨m, hm⟩ := k0; exact DataW.trod_lt m _ _ _ hm
  obtain ⟨cs0, rfl, _⟩ := okWide_struct Try.underlying44 (hval 0 44 v0 rfl rfl)
  obtain ⟨x0, kx0, wx0⟩ : ∃ x, k44.K W x cs0.toList ∧ (fun x_ => ((Lit.int .i64 x_.f0).wf = true) ∧ ((Lit.int .i64 x_.f1).wf = true) ∧ (x_.f2.length ≤ maxLen ∧ ∀ y0_ ∈ x_.f2, (Lit.int .u8 y0_).wf = true) ∧ (x_.f3.length ≤ maxLen ∧ ∀ y0_ ∈ x_.f3, ((Lit.int .i64 y0_.f0).wf = true) ∧ ((Lit.int .u8 y0_.f1).wf = true))) x := by obtain ⟨fuel, hf⟩ := h0; exact opens44 _ _ _ _ _ _ _ _ _ hf
  obtain ⟨A0_2, c0_2, A0_3, c0_3, he0, hl0_2, hg0_2, hl0_3, hg0_3⟩ := k44_open kx0
  obtain rfl : cs0 = #[.int .i64 x0.f0, .int .i64 x0.f1, .slice A0_2 x0.f2.length c0_2, .slice A0_3 x0.f3.length c0_3] := by apply Array.ext'; simpa using he0
  obtain ⟨a1, rfl, rfl, rfl, w1⟩ := open_int Try.underlying3 (hval 1 3 v1 rfl rfl) h1
  have k2 := h2
  have lt2 : ∀ x ∈ p2, x.block < W.heap.size := by obtain ⟨m, hm⟩ := k2; exact DataW.trod_lt m _ _ _ hm
  obtain ⟨a2, len2, cap2, rfl⟩ := okWide_slice Try.underlying22 (hval 2 22 v2 rfl rfl)
  obtain ⟨l2, ⟨A2, c2, he2, hl2, hg2⟩, wl2⟩ : ∃ l, (Kd.slice 5 (Kd.int .u8)).K W l (Value.slice a2 len2 cap2).cells.toList ∧ (fun x_ => x_.length ≤ maxLen ∧ ∀ y0_ ∈ x_, (Lit.int .u8 y0_).wf = true) l := by obtain ⟨fuel, hf⟩ := h2; exact (Opens.slice Try.underlying22 (Opens.int Try.underlying5) (by kernel_rfl)) _ _ _ _ _ _ _ _ _ hf
  obtain ⟨rfl, rfl, rfl⟩ : a2 = A2 ∧ len2 = l2.length ∧ cap2 = c2 := by simpa [Value.cells] using he2
  obtain ⟨k, hP⟩ := Pure.FnExactEarHear x0.f0 x0.f1 x0.f2 x0.f3 a1 l2 (wx0.1) (wx0.2.1) (wx0.2.2.1) (wx0.2.2.2) w1 wl2
  refine (PFnExactEarHear.laws_FnExactEarHear.calls k x0.f0 x0.f1 _ _ x0.f2 _ _ x0.f3 a1 _ _ l2 true W hg0_2 hl0_2 hg0_3 hl0_3 hg2 hl2 hP rfl).mono fun e W' ⟨he, bel0⟩ => ?_
  have bel : Below W.heap.size W W' := bel0
  subst he
  exact ⟨_, rfl, _, _, _, [], _, [], hW', trodAll_mk1 (shut_bool Try.underlying4 _), (trodAll_cons_mk (Below.trod laidOut (by kernel_rfl) (of_decide_eq_true (by kernel_rfl)) k0 bel lt0) (trodAll_cons_mk (shut_int Try.underlying3 w1) (trodAll_cons_mk (Below.trod laidOut (by kernel_rfl) (of_decide_eq_true (by kernel_rfl)) k2 bel lt2) trodAll_mk0))), rfl, bel.frame _, fun h => by cases h⟩
theorem over : Rows.fnExactEarHearRow.holds Try.pinned (OpenSpec.ofChange Rows.fnExactEarHearSpec) :=
  OpenClaim.holds_of_wide 5 Try.f5 rfl rfl rfl rfl rfl rfl rfl ⟨rfl, rfl, rfl, rfl, rfl⟩ rfl rfl rfl rfl rfl (by kernel_rfl) Try.func5 (by kernel_rfl)
    (of_decide_eq_true (by kernel_rfl)) (by unfold Func.isWrapper; first | (rw [if_pos (by decide +kernel)]; kernel_rfl) | (rw [if_neg (by decide +kernel)]; exact ⟨rfl, rfl⟩))
    (fun os started H enc _ => lifted os started H enc)
theorem proved : Rows.FnExactEarHearSaid := over
#print axioms proved
end Go.Proofs.Ytbhofhdmbbipgaa.fnExactEarHear
namespace Go.Proofs.Ytbhofhdmbbipgaa
/-- The row, under a short name, for the claim. -/
theorem fnExactEarHear_holds : Rows.FnExactEarHearSaid := fnExactEarHear.proved
end Go.Proofs.Ytbhofhdmbbipgaa
