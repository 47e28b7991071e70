/- Bytes are read in order: the plain law. -/
import Derived.Test.YtjiodkbbmhhccaaPFnEarReadx
namespace Go.Proofs.Ytjiodkbbmhhccaa.Pure
set_option linter.unusedSimpArgs false
set_option linter.unusedVariables false
open Go.RowKit Go.Proofs.Ytjiodkbbmhhccaa.PFnEarRead Go.Proofs.YtjiodkbbmhhccaaW.PrintWords Go.Proofs.YtjiodkbbmhhccaaW.PrintLast Go.Proofs.YtjiodkbbmhhccaaW.PrintMore

theorem Ev.succ {α : Type} {g : Nat → Option α} {r : α} (h : Ev (fun k => g (k + 1)) r) : Ev g r := Ev.step (fun _ => rfl) h
theorem Ev.pure {α : Type} {o : Option α} {r : α} (h : o = some r) : Ev (fun _ => o) r := by rw [h]; exact Ev.now r
theorem Ev.cong {α : Type} {g g' : Nat → Option α} {r : α} (h : ∀ k, g k = g' k) (e : Ev g' r) : Ev g r := by rw [show g = g' from funext h]; exact e
theorem wrap_id {x : Int} (h0 : -9223372036854775808 ≤ x) (h1 : x ≤ 9223372036854775807) : wrap64 x = x := by unfold wrap64; omega

theorem rd_get (l : List Int) (i : Nat) (h : i < l.length) : rd l (i : Int) = l[i] := by
  unfold rd
  rw [Int.toNat_natCast, List.getD_eq_getElem?_getD, List.getElem?_eq_getElem h]; rfl
theorem take_set_succ {α : Type} (x : List α) (i : Nat) (v : α) (h : i < x.length) : (x.set i v).take (i + 1) = x.take i ++ [v] := by
  rw [List.take_succ_eq_append_getElem (by simpa using h), List.getElem_set_self, List.take_set, List.set_eq_of_length_le (by simp; omega)]


def isBytes (l : List Int) : Prop := ∀ x ∈ l, 0 ≤ x ∧ x ≤ 255
theorem isBytes_get {l : List Int} (h : isBytes l) (i : Nat) (hi : i < l.length) : 0 ≤ l[i] ∧ l[i] ≤ 255 := h _ (List.getElem_mem hi)
theorem isBytes_wf {l : List Int} (h : ∀ x ∈ l, (Lit.int .u8 x).wf = true) : isBytes l := by
  intro x hx
  have := h x hx
  simp [Lit.wf, IntKind.min, IntKind.max, IntKind.bits, IntKind.signed] at this
  omega

theorem rdE (l : List S70) (i : Nat) (h : i < l.length) : rd_T70 l (i : Int) = l[i] := by
  unfold rd_T70
  rw [Int.toNat_natCast, List.getD_eq_getElem?_getD, List.getElem?_eq_getElem h]; rfl

/-! EarOk -/
def earAt (h f : Int) (l : List S70) (i : Nat) : Bool := decide (h < (rd_T70 l (i : Int)).f0) && decide ((rd_T70 l (i : Int)).f0 < h + f) && (i == 0 || decide ((rd_T70 l ((i : Int) - 1)).f0 < (rd_T70 l (i : Int)).f0))
def earFrom (h f : Int) (l : List S70) : Nat → Nat → Bool
  | 0, _ => true
  | d + 1, i => earAt h f l i && earFrom h f l d (i + 1)
def earOk (h room : Int) (g : List Int) (l : List S70) : Bool := decide (0 ≤ h) && decide (h ≤ 1000000) && decide (1 ≤ room) && decide (room ≤ 32) && decide ((g.length : Int) ≤ room) && earFrom h (room - g.length) l l.length 0
theorem impl_earOk_l (h room : Int) (g : List Int) (l : List S70) (h0 : 0 ≤ h) (h1 : h ≤ 1000000) (r0 : 1 ≤ room) (r1 : room ≤ 32) (hg : (g.length : Int) ≤ room) (hl : l.length ≤ 1099511627776) (d : Nat) :
    ∀ i : Nat, i + d = l.length → Ev (fun k => impl_EarOk.l0 k l (l.length : Int) (i : Int) h room g l) (earFrom h (room - g.length) l d i) := by
  induction d with
  | zero =>
    intro i hi
    refine Ev.step (fun k => impl_EarOk.l0.eq_2 _ _ _ _ _ _ _ k) ?_
    simp only [if_neg (show ¬ (i : Int) < (l.length : Int) by omega), earFrom]
    exact Ev.now _
  | succ d ih =>
    intro i hi
    have ih := ih (i + 1) (by omega)
    have a1 : (i : Int) < (l.length : Int) := by omega
    have a2 : (0 : Int) ≤ (i : Int) := by omega
    have j2 : ∀ b, Ev (fun k => impl_EarOk.j2 k l (l.length : Int) (i : Int) b h room g l) (!b && earFrom h (room - g.length) l d (i + 1)) := by
      intro b
      refine Ev.step (fun k => impl_EarOk.j2.eq_2 _ _ _ _ _ _ _ _ k) ?_
      cases b with
      | true => simp only [if_true]; exact Ev.now _
      | false =>
        simp only [Bool.false_eq_true, if_false]
        rw [wrap_id (x := (i : Int) + 1) (by omega) (by omega)]
        exact ih
    refine Ev.step (fun k => impl_EarOk.l0.eq_2 _ _ _ _ _ _ _ k) ?_
    simp only [if_pos a1, if_pos a2, impl_Ear_free.f, impl_in.f, Option.bind_some]
    rw [wrap_id (x := room - (g.length : Int)) (by omega) (by omega), wrap_id (x := h + 1) (by omega) (by omega), wrap_id (x := h + (room - (g.length : Int))) (by omega) (by omega), wrap_id (x := h + (room - (g.length : Int)) - 1) (by omega) (by omega)]
    simp only [earFrom, earAt]
    generalize rd_T70 l (i : Int) = e
    by_cases c1 : e.f0 ≥ h + 1
    · simp only [if_pos c1, Option.bind_some]
      by_cases c2 : e.f0 ≤ h + (room - (g.length : Int)) - 1
      · simp only [decide_eq_true c2, if_true]
        by_cases c3 : (i : Int) > 0
        · have a3 : 0 ≤ (i : Int) - 1 := by omega
          have a4 : (i : Int) - 1 < (l.length : Int) := by omega
          have a5 : (i == 0) = false := by rw [beq_eq_false_iff_ne]; omega
          have a6 : decide (h < e.f0) = true := decide_eq_true (by omega)
          have a7 : decide (e.f0 < h + (room - (g.length : Int))) = true := decide_eq_true (by omega)
          rw [wrap_id (x := (i : Int) - 1) (by omega) (by omega)]
          simp only [if_pos c3, if_pos a3, if_pos a4, a5, a6, a7, Bool.true_and, Bool.false_or]
          have := j2 (decide ((rd_T70 l ((i : Int) - 1)).f0 ≥ e.f0))
          rw [show (!decide ((rd_T70 l ((i : Int) - 1)).f0 ≥ e.f0)) = decide ((rd_T70 l ((i : Int) - 1)).f0 < e.f0) by rw [Bool.eq_iff_iff]; simp] at this
          exact this
        · have a5 : (i == 0) = true := by rw [beq_iff_eq]; omega
          have a6 : decide (h < e.f0) = true := decide_eq_true (by omega)
          have a7 : decide (e.f0 < h + (room - (g.length : Int))) = true := decide_eq_true (by omega)
          simp only [if_neg c3, a5, a6, a7, Bool.true_and, Bool.true_or]
          exact j2 false
      · have a7 : decide (e.f0 < h + (room - (g.length : Int))) = false := decide_eq_false (by omega)
        simp only [decide_eq_false c2, Bool.false_eq_true, if_false, a7, Bool.and_false, Bool.false_and]
        exact j2 true
    · have a6 : decide (h < e.f0) = false := decide_eq_false (by omega)
      simp only [if_neg c1, Option.bind_some, Bool.false_eq_true, if_false, a6, Bool.false_and]
      exact j2 true
theorem impl_earOk (h room : Int) (g : List Int) (l : List S70) (hg : g.length ≤ 1099511627776) (hl : l.length ≤ 1099511627776) : Ev (fun k => impl_EarOk.f k h room g l) (earOk h room g l) := by
  have j0 : ∀ b, (b = false → (0 ≤ h ∧ h ≤ 1000000 ∧ 1 ≤ room ∧ room ≤ 32 ∧ (g.length : Int) ≤ room)) → Ev (fun k => impl_EarOk.j0 k b h room g l) (!b && earFrom h (room - g.length) l l.length 0) := by
    intro b hb
    refine Ev.step (fun k => impl_EarOk.j0.eq_2 _ _ _ _ _ k) ?_
    cases b with
    | true => simp only [if_true]; exact Ev.now _
    | false =>
      obtain ⟨b1, b2, b3, b4, b5⟩ := hb rfl
      simp only [Bool.false_eq_true, if_false]
      exact impl_earOk_l h room g l b1 b2 b3 b4 b5 hl l.length 0 (by omega)
  unfold impl_EarOk.f earOk
  simp only [impl_in.f, impl_Ear_free.f]
  by_cases c1 : h ≥ 0
  · simp only [if_pos c1, Option.bind_some]
    by_cases c2 : h ≤ 1000000
    · simp only [decide_eq_true c2, if_true]
      by_cases c3 : room ≥ 1
      · simp only [if_pos c3, Option.bind_some]
        by_cases c4 : room ≤ 32
        · simp only [decide_eq_true c4, if_true]
          rw [wrap_id (x := room - (g.length : Int)) (by omega) (by omega)]
          have := j0 (decide (room - (g.length : Int) < 0)) (by intro hh; have := of_decide_eq_false hh; omega)
          rw [show (!decide (room - (g.length : Int) < 0)) = decide ((g.length : Int) ≤ room) by rw [Bool.eq_iff_iff]; simp] at this
          simpa [c1, c3] using this
        · simp only [decide_eq_false c4, Bool.false_eq_true, if_false]
          simpa [c4] using j0 true (by intro hh; cases hh)
      · simp only [if_neg c3, Option.bind_some, Bool.false_eq_true, if_false]
        simpa [show ¬ 1 ≤ room from c3] using j0 true (by intro hh; cases hh)
    · simp only [decide_eq_false c2, Bool.false_eq_true, if_false]
      simpa [c2] using j0 true (by intro hh; cases hh)
  · simp only [if_neg c1, Option.bind_some, Bool.false_eq_true, if_false]
    simpa [show ¬ 0 ≤ h from c1] using j0 true (by intro hh; cases hh)
theorem spec_earOk_l (h room : Int) (g : List Int) (l : List S70) (h0 : 0 ≤ h) (h1 : h ≤ 1000000) (r0 : 1 ≤ room) (r1 : room ≤ 32) (hg : (g.length : Int) ≤ room) (hl : l.length ≤ 1099511627776) (d : Nat) :
    ∀ i : Nat, i + d = l.length → Ev (fun k => spec_EarOk.l0 k (i : Int) h room g l) (earFrom h (room - g.length) l d i) := by
  induction d with
  | zero =>
    intro i hi
    refine Ev.step (fun k => spec_EarOk.l0.eq_2 _ _ _ _ _ k) ?_
    simp only [if_neg (show ¬ (i : Int) < (l.length : Int) by omega), earFrom]
    exact Ev.now _
  | succ d ih =>
    intro i hi
    have ih := ih (i + 1) (by omega)
    have a1 : (i : Int) < (l.length : Int) := by omega
    have a2 : (0 : Int) ≤ (i : Int) := by omega
    have j2 : ∀ b, Ev (fun k => spec_EarOk.j2 k (i : Int) b h room g l) (!b && earFrom h (room - g.length) l d (i + 1)) := by
      intro b
      refine Ev.step (fun k => spec_EarOk.j2.eq_2 _ _ _ _ _ _ k) ?_
      cases b with
      | true => simp only [if_true]; exact Ev.now _
      | false =>
        simp only [Bool.false_eq_true, if_false]
        rw [wrap_id (x := (i : Int) + 1) (by omega) (by omega)]
        exact ih
    refine Ev.step (fun k => spec_EarOk.l0.eq_2 _ _ _ _ _ k) ?_
    simp only [if_pos a1, if_pos a2]
    rw [wrap_id (x := h + room) (by omega) (by omega), wrap_id (x := h + room - (g.length : Int)) (by omega) (by omega)]
    simp only [earFrom, earAt]
    generalize rd_T70 l (i : Int) = e
    by_cases c1 : e.f0 ≤ h
    · have a6 : decide (h < e.f0) = false := decide_eq_false (by omega)
      simp only [if_pos c1, a6, Bool.false_and]
      exact j2 true
    · by_cases c2 : e.f0 ≥ h + room - (g.length : Int)
      · have a7 : decide (e.f0 < h + (room - (g.length : Int))) = false := decide_eq_false (by omega)
        simp only [if_neg c1, if_pos c2, a7, Bool.and_false, Bool.false_and]
        exact j2 true
      · have a6 : decide (h < e.f0) = true := decide_eq_true (by omega)
        have a7 : decide (e.f0 < h + (room - (g.length : Int))) = true := decide_eq_true (by omega)
        by_cases c3 : (i : Int) > 0
        · have a3 : 0 ≤ (i : Int) - 1 := by omega
          have a4 : (i : Int) - 1 < (l.length : Int) := by omega
          have a5 : (i == 0) = false := by rw [beq_eq_false_iff_ne]; omega
          rw [wrap_id (x := (i : Int) - 1) (by omega) (by omega)]
          simp only [if_neg c1, if_neg c2, if_pos c3, if_pos a3, if_pos a4, a5, a6, a7, Bool.true_and, Bool.false_or]
          have := j2 (decide ((rd_T70 l ((i : Int) - 1)).f0 ≥ e.f0))
          rw [show (!decide ((rd_T70 l ((i : Int) - 1)).f0 ≥ e.f0)) = decide ((rd_T70 l ((i : Int) - 1)).f0 < e.f0) by rw [Bool.eq_iff_iff]; simp] at this
          exact this
        · have a5 : (i == 0) = true := by rw [beq_iff_eq]; omega
          simp only [if_neg c1, if_neg c2, if_neg c3, a5, a6, a7, Bool.true_and, Bool.true_or]
          exact j2 false
theorem spec_earOk (h room : Int) (g : List Int) (l : List S70) (hg : g.length ≤ 1099511627776) (hl : l.length ≤ 1099511627776) : Ev (fun k => spec_EarOk.f k h room g l) (earOk h room g l) := by
  have j0 : ∀ b, (b = false → (0 ≤ h ∧ h ≤ 1000000 ∧ 1 ≤ room ∧ room ≤ 32 ∧ (g.length : Int) ≤ room)) → Ev (fun k => spec_EarOk.j0 k b h room g l) (!b && earFrom h (room - g.length) l l.length 0) := by
    intro b hb
    refine Ev.step (fun k => spec_EarOk.j0.eq_2 _ _ _ _ _ k) ?_
    cases b with
    | true => simp only [if_true]; exact Ev.now _
    | false =>
      obtain ⟨b1, b2, b3, b4, b5⟩ := hb rfl
      simp only [Bool.false_eq_true, if_false]
      exact spec_earOk_l h room g l b1 b2 b3 b4 b5 hl l.length 0 (by omega)
  unfold spec_EarOk.f earOk
  simp only [spec_l1In.f]
  by_cases c1 : h ≥ 0
  · simp only [if_pos c1, Option.bind_some]
    by_cases c2 : h ≤ 1000000
    · simp only [decide_eq_true c2, if_true]
      by_cases c3 : room ≥ 1
      · simp only [if_pos c3, Option.bind_some]
        by_cases c4 : room ≤ 32
        · simp only [decide_eq_true c4, if_true]
          have := j0 (decide ((g.length : Int) > room)) (by intro hh; have := of_decide_eq_false hh; omega)
          rw [show (!decide ((g.length : Int) > room)) = decide ((g.length : Int) ≤ room) by rw [Bool.eq_iff_iff]; simp] at this
          simpa [c1, c3] using this
        · simp only [decide_eq_false c4, Bool.false_eq_true, if_false]
          simpa [c4] using j0 true (by intro hh; cases hh)
      · simp only [if_neg c3, Option.bind_some, Bool.false_eq_true, if_false]
        simpa [show ¬ 1 ≤ room from c3] using j0 true (by intro hh; cases hh)
    · simp only [decide_eq_false c2, Bool.false_eq_true, if_false]
      simpa [c2] using j0 true (by intro hh; cases hh)
  · simp only [if_neg c1, Option.bind_some, Bool.false_eq_true, if_false]
    simpa [show ¬ 0 ≤ h from c1] using j0 true (by intro hh; cases hh)

/-! EarFree -/
theorem earOk_le {h room : Int} {g : List Int} {l : List S70} (c : earOk h room g l = true) : 0 ≤ h ∧ h ≤ 1000000 ∧ 1 ≤ room ∧ room ≤ 32 ∧ (g.length : Int) ≤ room := by
  unfold earOk at c
  simp only [Bool.and_eq_true, decide_eq_true_eq] at c
  obtain ⟨⟨⟨⟨⟨c1, c2⟩, c3⟩, c4⟩, c5⟩, _⟩ := c
  exact ⟨c1, c2, c3, c4, c5⟩
def earFree (h room : Int) (g : List Int) (l : List S70) : Int := if earOk h room g l = true then room - g.length else 0
theorem spec_earFree (h room : Int) (g : List Int) (l : List S70) (hg : g.length ≤ 1099511627776) (hl : l.length ≤ 1099511627776) : Ev (fun k => spec_EarFree.f k h room g l) (earFree h room g l) := by
  unfold spec_EarFree.f earFree
  refine Ev.bind (spec_earOk h room g l hg hl) ?_
  by_cases c : earOk h room g l = true
  · obtain ⟨c1, c2, c3, c4, c5⟩ := earOk_le c
    simp only [c, if_true]
    rw [wrap_id (x := room - (g.length : Int)) (by omega) (by omega)]
    exact Ev.now _
  · simp only [c, if_false, Bool.false_eq_true]
    exact Ev.now _

/-! EarRead -/
theorem mn_in (n : Int) (m : Nat) (h : 0 ≤ n) : 0 ≤ mn n (m : Int) ∧ mn n (m : Int) ≤ (m : Int) := by
  unfold mn; split <;> omega
def earRead (h room : Int) (g : List Int) (l : List S70) (n : Int) : Int × Int × List Int × List S70 × List Int :=
  if earOk h room g l = true ∧ 0 ≤ n then (h, room, g.drop (mn n g.length).toNat, l, g.take (mn n g.length).toNat) else (0, 0, [], [], [])
theorem impl_earRead (h room : Int) (g : List Int) (l : List S70) (n : Int) (hg : g.length ≤ 1048576) (hl : l.length ≤ 1048576) : Ev (fun k => impl_EarRead.f k h room g l n) (earRead h room g l n) := by
  unfold impl_EarRead.f earRead
  refine Ev.bind (impl_earOk h room g l (by omega) (by omega)) ?_
  by_cases c : earOk h room g l = true
  · simp only [c, if_true, true_and]
    by_cases hn : n < 0
    · simp only [decide_eq_true hn, if_neg (show ¬ 0 ≤ n by omega)]
      refine Ev.step (fun k => impl_EarRead.j0.eq_2 _ _ _ _ _ _ k) ?_
      simp only [if_true]
      exact Ev.now _
    · have hm := mn_in n g.length (by omega)
      have h1 : (g.drop (mn n (g.length : Int)).toNat).length * 1 ≤ 140737488355328 := by rw [List.length_drop]; omega
      have h2 : l.length * 16 ≤ 140737488355328 := by omega
      have h3 : (g.take (mn n (g.length : Int)).toNat).length * 1 ≤ 140737488355328 := by rw [List.length_take]; omega
      simp only [decide_eq_false hn, if_pos (show 0 ≤ n by omega)]
      refine Ev.step (fun k => impl_EarRead.j0.eq_2 _ _ _ _ _ _ k) ?_
      simp only [Bool.false_eq_true, if_false, if_pos hm.1, if_pos hm.2, impl_Ear_copy.f, impl_clone_byte.f, impl_Early_74.f, if_pos h1, if_pos h2, if_pos h3, Option.bind_some]
      exact Ev.now _
  · simp only [c, if_false, false_and, Bool.false_eq_true]
    refine Ev.step (fun k => impl_EarRead.j0.eq_2 _ _ _ _ _ _ k) ?_
    simp only [if_true]
    exact Ev.now _
theorem spec_earRead (h room : Int) (g : List Int) (l : List S70) (n : Int) (hg : g.length ≤ 1048576) (hl : l.length ≤ 1048576) : Ev (fun k => spec_EarRead.f k h room g l n) (earRead h room g l n) := by
  unfold spec_EarRead.f earRead
  refine Ev.bind (spec_earOk h room g l (by omega) (by omega)) ?_
  by_cases c : earOk h room g l = true
  · simp only [c, if_true, true_and]
    by_cases hn : n < 0
    · simp only [if_pos hn, if_neg (show ¬ 0 ≤ n by omega)]
      exact Ev.now _
    · have hm := mn_in n g.length (by omega)
      have h1 : ([] : List Int).length + (g.drop (mn n (g.length : Int)).toNat).length < 140737488355328 := by rw [List.length_drop, List.length_nil]; omega
      have h2 : ([] : List S70).length + l.length < 8796093022208 := by rw [List.length_nil]; omega
      have h3 : ([] : List Int).length + (g.take (mn n (g.length : Int)).toNat).length < 140737488355328 := by rw [List.length_take, List.length_nil]; omega
      simp only [if_neg hn, if_pos (show 0 ≤ n by omega), Option.bind_some, if_pos hm.1, if_pos hm.2, if_pos h1, if_pos h2, if_pos h3, List.nil_append]
      exact Ev.now _
  · simp only [c, if_false, false_and, Bool.false_eq_true]
    exact Ev.now _

/-! EarHear of the reference: that it answers, and bounds -/
theorem put_l (l : List S70) (a b : Int) (hl : l.length ≤ 1000000) (d : Nat) : ∀ (i : Nat) (acc : List S70) (o : Bool), i + d = l.length → acc.length ≤ i + 1 → (o = false → acc.length ≤ i) →
    ∃ y, Ev (fun k => spec_l12Put.l0 k l acc o (i : Int) a b) y ∧ y.length ≤ l.length + 1 := by
  induction d with
  | zero =>
    intro i acc o hi h1 h2
    cases o with
    | true =>
      refine ⟨acc, Ev.step (fun k => spec_l12Put.l0.eq_2 _ _ _ _ _ _ k) ?_, by omega⟩
      simp only [if_neg (show ¬ (i : Int) < (l.length : Int) by omega), if_true]
      exact Ev.now _
    | false =>
      have h2 := h2 rfl
      refine ⟨acc ++ [⟨a, b⟩], Ev.step (fun k => spec_l12Put.l0.eq_2 _ _ _ _ _ _ k) ?_, by rw [List.length_append, List.length_singleton]; omega⟩
      simp only [if_neg (show ¬ (i : Int) < (l.length : Int) by omega), Bool.false_eq_true, if_false, if_pos (show acc.length < 8796093022208 by omega)]
      exact Ev.now _
  | succ d ih =>
    intro i acc o hi h1 h2
    have hb : i < l.length := by omega
    have j2 : ∀ (acc : List S70) (o : Bool), acc.length ≤ i + 1 → (o = false → acc.length ≤ i) → ∃ y, Ev (fun k => spec_l12Put.j2 k l acc o (i : Int) a b) y ∧ y.length ≤ l.length + 1 := by
      intro acc o h1 h2
      by_cases c : a = l[i].f0
      · obtain ⟨y, e, hy⟩ := ih (i + 1) (acc ++ [⟨l[i].f0, l[i].f1⟩]) true (by omega) (by rw [List.length_append, List.length_singleton]; omega) (by intro h; cases h)
        refine ⟨y, Ev.step (fun k => spec_l12Put.j2.eq_2 _ _ _ _ _ _ k) ?_, hy⟩
        simp only [if_pos (show (0 : Int) ≤ (i : Int) by omega), if_pos (show (i : Int) < (l.length : Int) by omega), rdE l i hb, if_pos c, if_pos (show acc.length < 8796093022208 by omega)]
        rw [wrap_id (x := (i : Int) + 1) (by omega) (by omega)]
        exact e
      · obtain ⟨y, e, hy⟩ := ih (i + 1) (acc ++ [⟨l[i].f0, l[i].f1⟩]) o (by omega) (by rw [List.length_append, List.length_singleton]; omega) (by intro h; have := h2 h; rw [List.length_append, List.length_singleton]; omega)
        refine ⟨y, Ev.step (fun k => spec_l12Put.j2.eq_2 _ _ _ _ _ _ k) ?_, hy⟩
        simp only [if_pos (show (0 : Int) ≤ (i : Int) by omega), if_pos (show (i : Int) < (l.length : Int) by omega), rdE l i hb, if_neg c, if_pos (show acc.length < 8796093022208 by omega)]
        rw [wrap_id (x := (i : Int) + 1) (by omega) (by omega)]
        exact e
    cases o with
    | true =>
      obtain ⟨y, e, hy⟩ := j2 acc true h1 h2
      refine ⟨y, Ev.step (fun k => spec_l12Put.l0.eq_2 _ _ _ _ _ _ k) ?_, hy⟩
      simp only [if_pos (show (i : Int) < (l.length : Int) by omega), if_true]
      refine Ev.step (fun k => spec_l12Put.j1.eq_2 _ _ _ _ _ _ _ k) ?_
      simp only [Bool.false_eq_true, if_false]
      exact e
    | false =>
      have h2 := h2 rfl
      by_cases c : a < l[i].f0
      · obtain ⟨y, e, hy⟩ := j2 (acc ++ [⟨a, b⟩]) true (by rw [List.length_append, List.length_singleton]; omega) (by intro h; cases h)
        refine ⟨y, Ev.step (fun k => spec_l12Put.l0.eq_2 _ _ _ _ _ _ k) ?_, hy⟩
        simp only [if_pos (show (i : Int) < (l.length : Int) by omega), Bool.false_eq_true, if_false, if_pos (show (0 : Int) ≤ (i : Int) by omega), rdE l i hb, decide_eq_true c]
        refine Ev.step (fun k => spec_l12Put.j1.eq_2 _ _ _ _ _ _ _ k) ?_
        simp only [if_true, if_pos (show acc.length < 8796093022208 by omega)]
        exact e
      · obtain ⟨y, e, hy⟩ := j2 acc false h1 (fun _ => h2)
        refine ⟨y, Ev.step (fun k => spec_l12Put.l0.eq_2 _ _ _ _ _ _ k) ?_, hy⟩
        simp only [if_pos (show (i : Int) < (l.length : Int) by omega), Bool.false_eq_true, if_false, if_pos (show (0 : Int) ≤ (i : Int) by omega), rdE l i hb, decide_eq_false c]
        refine Ev.step (fun k => spec_l12Put.j1.eq_2 _ _ _ _ _ _ _ k) ?_
        simp only [Bool.false_eq_true, if_false]
        exact e
theorem put_ (l : List S70) (a b : Int) (hl : l.length ≤ 1000000) : ∃ y, Ev (fun k => spec_l12Put.f k l a b) y ∧ y.length ≤ l.length + 1 := by
  unfold spec_l12Put.f
  exact put_l l a b hl l.length 0 [] false (by omega) (by simp) (by simp)
def weakE (h : Int) (g : List Int) (l : List S70) (G L : Nat) : Prop := 0 ≤ h ∧ h ≤ 1000000 ∧ g.length ≤ G ∧ l.length ≤ L
theorem hear_l1 (l : List S70) (room : Int) (hl : l.length ≤ 1000000) (d : Nat) : ∀ (i : Nat) (h : Int) (g : List Int), i + d = l.length → 0 ≤ h → h + d ≤ 100000000 → g.length + d ≤ 100000000 →
    ∃ h' r' g' l', Ev (fun k => spec_EarHear.l1 k l (i : Int) h room g) (h', r', g', l') ∧ weakE h' g' l' (g.length + d) l.length := by
  have j3 : ∀ (i : Nat) (h : Int) (g : List Int) (d : Nat), i ≤ l.length → 0 ≤ h → ∃ h' r' g' l', Ev (fun k => spec_EarHear.j3 k l (i : Int) h room g) (h', r', g', l') ∧ weakE h' g' l' (g.length + d) l.length := by
    intro i h g d hi h0
    by_cases c : h > 1000000
    · refine ⟨0, 0, [], [], Ev.step (fun k => spec_EarHear.j3.eq_2 _ _ _ _ _ k) ?_, ?_⟩
      · simp only [if_pos (show (0 : Int) ≤ (i : Int) by omega), if_pos (show (i : Int) ≤ (l.length : Int) by omega), if_pos c]
        exact Ev.now _
      · exact ⟨by omega, by omega, by simp, by simp⟩
    · refine ⟨h, room, g, l.drop i, Ev.step (fun k => spec_EarHear.j3.eq_2 _ _ _ _ _ k) ?_, ?_⟩
      · simp only [if_pos (show (0 : Int) ≤ (i : Int) by omega), if_pos (show (i : Int) ≤ (l.length : Int) by omega), if_neg c, Int.toNat_natCast]
        exact Ev.now _
      · exact ⟨by omega, by omega, by omega, by rw [List.length_drop]; omega⟩
  induction d with
  | zero =>
    intro i h g hi h0 h1 hg
    obtain ⟨h', r', g', l', e, hw⟩ := j3 i h g 0 (by omega) h0
    refine ⟨h', r', g', l', Ev.step (fun k => spec_EarHear.l1.eq_2 _ _ _ _ _ k) ?_, hw⟩
    simp only [if_neg (show ¬ (i : Int) < (l.length : Int) by omega)]
    exact e
  | succ d ih =>
    intro i h g hi h0 h1 hg
    have hb : i < l.length := by omega
    by_cases c : l[i].f0 = h
    · obtain ⟨h', r', g', l', e, w1, w2, w3, w4⟩ := ih (i + 1) (h + 1) (g ++ [l[i].f1]) (by omega) (by omega) (by omega) (by rw [List.length_append, List.length_singleton]; omega)
      rw [List.length_append, List.length_singleton] at w3
      refine ⟨h', r', g', l', Ev.step (fun k => spec_EarHear.l1.eq_2 _ _ _ _ _ k) ?_, w1, w2, by omega, w4⟩
      simp only [if_pos (show (i : Int) < (l.length : Int) by omega), if_pos (show (0 : Int) ≤ (i : Int) by omega), rdE l i hb, if_pos c, if_pos (show g.length < 140737488355328 by omega)]
      rw [wrap_id (x := (i : Int) + 1) (by omega) (by omega), wrap_id (x := h + 1) (by omega) (by omega)]
      exact e
    · obtain ⟨h', r', g', l', e, hw⟩ := j3 i h g (d + 1) (by omega) h0
      refine ⟨h', r', g', l', Ev.step (fun k => spec_EarHear.l1.eq_2 _ _ _ _ _ k) ?_, hw⟩
      simp only [if_pos (show (i : Int) < (l.length : Int) by omega), if_pos (show (0 : Int) ≤ (i : Int) by omega), rdE l i hb, if_neg c]
      exact e
theorem hear_l0 (p : Int) (x : List Int) (f h room : Int) (g : List Int) (l : List S70) (p0 : 0 ≤ p) (p1 : p ≤ 1000000) (hx : x.length ≤ 1000) (f0 : 0 ≤ f) (f1 : f ≤ 32) (h0 : 0 ≤ h) (h1 : h ≤ 1000000) (hg : g.length ≤ 32) (L : Nat) (hL : L ≤ 100000) (d : Nat) : ∀ (i : Nat) (far : List S70), i + d = x.length → far.length + d ≤ L →
    ∃ h' r' g' l', Ev (fun k => spec_EarHear.l0 k p x f far (i : Int) h room g l) (h', r', g', l') ∧ weakE h' g' l' (32 + L) L := by
  induction d with
  | zero =>
    intro i far hi hf
    obtain ⟨h', r', g', l', e, w1, w2, w3, w4⟩ := hear_l1 far room (by omega) far.length 0 h ([] ++ g) (by omega) h0 (by omega) (by rw [List.nil_append]; omega)
    rw [List.nil_append] at w3
    refine ⟨h', r', g', l', Ev.step (fun k => spec_EarHear.l0.eq_2 _ _ _ _ _ _ _ _ _ k) ?_, w1, w2, by omega, by omega⟩
    simp only [if_neg (show ¬ (i : Int) < (x.length : Int) by omega), Option.bind_some]
    simp only [if_pos (show ([] : List Int).length + g.length < 140737488355328 by rw [List.length_nil]; omega)]
    exact e
  | succ d ih =>
    intro i far hi hf
    by_cases c1 : p + (i : Int) ≥ h
    · by_cases c2 : p + (i : Int) < h + f
      · obtain ⟨y, e1, hy⟩ := put_ far (p + (i : Int)) (rd x (i : Int)) (by omega)
        obtain ⟨h', r', g', l', e, hw⟩ := ih (i + 1) y (by omega) (by omega)
        refine ⟨h', r', g', l', Ev.step (fun k => spec_EarHear.l0.eq_2 _ _ _ _ _ _ _ _ _ k) ?_, hw⟩
        rw [show wrap64 (p + (i : Int)) = p + (i : Int) from wrap_id (by omega) (by omega), show wrap64 (h + f) = h + f from wrap_id (by omega) (by omega), show wrap64 ((i : Int) + 1) = ((i + 1 : Nat) : Int) by rw [wrap_id (by omega) (by omega)]; omega]
        simp only [if_pos (show (i : Int) < (x.length : Int) by omega), if_pos c1, if_pos c2, if_pos (show (0 : Int) ≤ (i : Int) by omega)]
        exact Ev.bind e1 e
      · obtain ⟨h', r', g', l', e, hw⟩ := ih (i + 1) far (by omega) (by omega)
        refine ⟨h', r', g', l', Ev.step (fun k => spec_EarHear.l0.eq_2 _ _ _ _ _ _ _ _ _ k) ?_, hw⟩
        rw [show wrap64 (p + (i : Int)) = p + (i : Int) from wrap_id (by omega) (by omega), show wrap64 (h + f) = h + f from wrap_id (by omega) (by omega), show wrap64 ((i : Int) + 1) = ((i + 1 : Nat) : Int) by rw [wrap_id (by omega) (by omega)]; omega]
        simp only [if_pos (show (i : Int) < (x.length : Int) by omega), if_pos c1, if_neg c2]
        exact e
    · obtain ⟨h', r', g', l', e, hw⟩ := ih (i + 1) far (by omega) (by omega)
      refine ⟨h', r', g', l', Ev.step (fun k => spec_EarHear.l0.eq_2 _ _ _ _ _ _ _ _ _ k) ?_, hw⟩
      rw [show wrap64 (p + (i : Int)) = p + (i : Int) from wrap_id (by omega) (by omega), show wrap64 ((i : Int) + 1) = ((i + 1 : Nat) : Int) by rw [wrap_id (by omega) (by omega)]; omega]
      simp only [if_pos (show (i : Int) < (x.length : Int) by omega), if_neg c1]
      exact e
theorem spec_earHear_w (h room : Int) (g : List Int) (l : List S70) (p : Int) (x : List Int) (hg : g.length ≤ 1000000) (hx : x.length ≤ 1000) (hl : l.length ≤ 90000) :
    ∃ h' r' g' l', Ev (fun k => spec_EarHear.f k h room g l p x) (h', r', g', l') ∧ weakE h' g' l' (32 + (l.length + x.length)) (l.length + x.length) := by
  have jt : ∃ h' r' g' l', Ev (fun k => spec_EarHear.j0 k p x true h room g l) (h', r', g', l') ∧ weakE h' g' l' (32 + (l.length + x.length)) (l.length + x.length) := by
    refine ⟨0, 0, [], [], Ev.step (fun k => spec_EarHear.j0.eq_2 _ _ _ _ _ _ _ k) ?_, ?_⟩
    · simp only [if_true]; exact Ev.now _
    · exact ⟨by omega, by omega, by simp, by simp⟩
  unfold spec_EarHear.f
  have eo := spec_earOk h room g l (by omega) (by omega)
  by_cases c : earOk h room g l = true
  · obtain ⟨c1, c2, c3, c4, c5⟩ := earOk_le c
    rw [c] at eo
    by_cases c6 : p ≥ 0 ∧ p ≤ 1000000
    · have ef := spec_earFree h room g l (by omega) (by omega)
      unfold earFree at ef
      rw [if_pos c] at ef
      obtain ⟨h', r', g', l', e, hw⟩ := hear_l0 p x (room - (g.length : Int)) h room g l c6.1 c6.2 hx (by omega) (by omega) c1 c2 (by omega) (l.length + x.length) (by omega) x.length 0 ([] ++ l) (by omega) (by rw [List.nil_append]; omega)
      refine ⟨h', r', g', l', Ev.bind eo ?_, hw⟩
      simp only [if_true, spec_l1In.f, if_pos c6.1, decide_eq_true c6.2, Option.bind_some, Bool.not_true]
      refine Ev.step (fun k => spec_EarHear.j0.eq_2 _ _ _ _ _ _ _ k) ?_
      simp only [Bool.false_eq_true, if_false]
      refine Ev.bind ef ?_
      simp only [Option.bind_some]
      simp only [if_pos (show ([] : List S70).length + l.length < 8796093022208 by rw [List.length_nil]; omega)]
      exact e
    · obtain ⟨h', r', g', l', e, hw⟩ := jt
      refine ⟨h', r', g', l', Ev.bind eo ?_, hw⟩
      simp only [if_true, spec_l1In.f]
      by_cases c7 : p ≥ 0
      · simp only [if_pos c7, decide_eq_false (show ¬ p ≤ 1000000 from fun h => c6 ⟨c7, h⟩), Option.bind_some, Bool.not_false]
        exact e
      · simp only [if_neg c7, Option.bind_some, Bool.not_false]
        exact e
  · obtain ⟨h', r', g', l', e, hw⟩ := jt
    refine ⟨h', r', g', l', Ev.bind eo ?_, hw⟩
    simp only [c, Bool.false_eq_true, if_false]
    exact e

/-! drawing -/
theorem xor_nn (a b : Int) (a0 : 0 ≤ a) (a1 : a < 9223372036854775808) (b0 : 0 ≤ b) (b1 : b < 9223372036854775808) : 0 ≤ Go.bits .xor .i64 a b ∧ Go.bits .xor .i64 a b < 9223372036854775808 := by
  obtain ⟨x, rfl⟩ := Int.eq_ofNat_of_zero_le a0
  obtain ⟨y, rfl⟩ := Int.eq_ofNat_of_zero_le b0
  have hx : x < 2 ^ 63 := by omega
  have hy : y < 2 ^ 63 := by omega
  have hxy : x ^^^ y < 2 ^ 63 := Nat.xor_lt_two_pow hx hy
  have h1 : (BitVec.ofInt 64 (x : Int)).toNat = x := by
    rw [BitVec.ofInt_natCast, BitVec.toNat_ofNat]; exact Nat.mod_eq_of_lt (by omega)
  have h2 : (BitVec.ofInt 64 (y : Int)).toNat = y := by
    rw [BitVec.ofInt_natCast, BitVec.toNat_ofNat]; exact Nat.mod_eq_of_lt (by omega)
  have h3 : Go.bits .xor .i64 (x : Int) (y : Int) = ((x ^^^ y : Nat) : Int) := by
    show IntKind.i64.wrap ((BitVec.ofInt 64 (x : Int) ^^^ BitVec.ofInt 64 (y : Int)).toNat : Int) = _
    rw [BitVec.toNat_xor, h1, h2, IntKind.wrap_i64]
    omega
  rw [h3]
  omega
theorem tmod_in (x n : Int) (h0 : 0 ≤ x) (hn : 1 ≤ n) : 0 ≤ Int.tmod x n ∧ Int.tmod x n < n := by
  rw [Int.tmod_eq_emod_of_nonneg h0]
  exact ⟨Int.emod_nonneg _ (by omega), Int.emod_lt_of_pos _ (by omega)⟩
theorem tdiv_in (x n : Int) (h0 : 0 ≤ x) (hn : 1 ≤ n) : 0 ≤ Int.tdiv x n ∧ Int.tdiv x n ≤ x := by
  rw [Int.tdiv_eq_ediv_of_nonneg h0]
  exact ⟨Int.ediv_nonneg h0 (by omega), Int.ediv_le_self _ h0⟩
theorem rd_byte {s : List Int} (hb : isBytes s) (i : Int) : 0 ≤ rd s i ∧ rd s i ≤ 255 := by
  unfold rd
  rw [List.getD_eq_getElem?_getD]
  by_cases h : i.toNat < s.length
  · rw [List.getElem?_eq_getElem h]; exact hb _ (List.getElem_mem h)
  · rw [List.getElem?_eq_none (by omega)]; exact ⟨Int.le_refl _, by decide⟩
theorem pick (s : List Int) (p n : Int) (hb : isBytes s) (hl : s.length ≤ 2000) (h0 : 0 ≤ p) (hp : p ≤ 1000000000) (hn : 1 ≤ n) (hn1 : n ≤ 1000000000) :
    ∃ r, Ev (fun k => spec_l20Rd_pick.f k s p n) (r, p + 1) ∧ 0 ≤ r ∧ r < n := by
  unfold spec_l20Rd_pick.f
  simp only [if_neg (show ¬ n < 1 by omega)]
  rw [wrap_id (x := p + 1) (by omega) (by omega)]
  by_cases hs : s.length = 0
  · refine ⟨0, Ev.succ ?_, by omega, by omega⟩
    simp only [spec_l20Rd_pick.j0, hs, Int.natCast_zero, beq_self_eq_true, if_true]
    exact Ev.now _
  · have hz : ((s.length : Int) == 0) = false := by rw [beq_eq_false_iff_ne]; omega
    simp only [hz]
    by_cases h1 : p < (s.length : Int)
    · have hx := rd_byte hb p
      have hm := tmod_in (rd s p) n hx.1 hn
      refine ⟨Int.tmod (rd s p) n, Ev.succ ?_, hm.1, hm.2⟩
      simp only [spec_l20Rd_pick.j0, Bool.false_eq_true, if_false, show p + 1 - 1 = p by omega]
      rw [wrap_id (x := p) (by omega) (by omega), wrap_id (x := rd s p) (by omega) (by omega)]
      simp only [if_pos h1, if_pos h0, if_neg (show ¬ n = 0 by omega)]
      exact Ev.now _
    · have m1 := tmod_in p s.length h0 (by omega)
      have m2 := tmod_in (p * 7 + 3) s.length (by omega) (by omega)
      have d1 := tdiv_in p s.length h0 (by omega)
      have x1 := rd_byte hb (Int.tmod p s.length)
      have x2 := rd_byte hb (Int.tmod (p * 7 + 3) s.length)
      let v := rd s (Int.tmod p s.length) * 131 + rd s (Int.tmod (p * 7 + 3) s.length) * 1117 + p * 29 + Int.tdiv p s.length * 53
      have v0 : 0 ≤ v := by show 0 ≤ _ + _ + _ + _; omega
      have v1 : v < 9223372036854775808 := by show _ + _ + _ + _ < _; omega
      have d2 := tdiv_in v 64 v0 (by omega)
      have b1 := xor_nn v (Int.tdiv v 64) v0 v1 d2.1 (by omega)
      have hm := tmod_in (Go.bits .xor .i64 v (Int.tdiv v 64)) n b1.1 hn
      refine ⟨_, Ev.succ ?_, hm.1, hm.2⟩
      simp only [spec_l20Rd_pick.j0, Bool.false_eq_true, if_false, show p + 1 - 1 = p by omega]
      rw [wrap_id (x := p) (by omega) (by omega)]
      rw [wrap_id (x := p * 7) (by omega) (by omega), wrap_id (x := p * 7 + 3) (by omega) (by omega), wrap_id (x := p * 29) (by omega) (by omega), wrap_id (x := rd s (Int.tmod p s.length)) (by omega) (by omega),
        wrap_id (x := rd s (Int.tmod (p * 7 + 3) s.length)) (by omega) (by omega), wrap_id (x := rd s (Int.tmod p s.length) * 131) (by omega) (by omega), wrap_id (x := rd s (Int.tmod (p * 7 + 3) s.length) * 1117) (by omega) (by omega),
        wrap_id (x := rd s (Int.tmod p s.length) * 131 + rd s (Int.tmod (p * 7 + 3) s.length) * 1117) (by omega) (by omega), wrap_id (x := rd s (Int.tmod p s.length) * 131 + rd s (Int.tmod (p * 7 + 3) s.length) * 1117 + p * 29) (by omega) (by omega),
        wrap_id (x := Int.tdiv p s.length) (by omega) (by omega), wrap_id (x := Int.tdiv p s.length * 53) (by omega) (by omega), wrap_id (x := rd s (Int.tmod p s.length) * 131 + rd s (Int.tmod (p * 7 + 3) s.length) * 1117 + p * 29 + Int.tdiv p s.length * 53) (by omega) (by omega)]
      simp only [if_neg h1, if_neg (show ¬ (s.length : Int) = 0 by omega), if_pos m1.1, if_pos m1.2, if_pos m2.1, if_pos m2.2, if_neg (show ¬ n = 0 by omega)]
      rw [wrap_id (x := Int.tdiv v 64) (by omega) (by omega)]
      exact Ev.now _
theorem odd (s : List Int) (p n : Int) (hb : isBytes s) (hl : s.length ≤ 2000) (h0 : 0 ≤ p) (hp : p ≤ 1000000000) (hn1 : n ≤ 1000000000) :
    ∃ b q, Ev (fun k => spec_l20Rd_odd.f k s p n) (b, q) ∧ 0 ≤ q ∧ q ≤ p + 1 := by
  unfold spec_l20Rd_odd.f
  by_cases h : n > 0
  · simp only [if_pos h]
    obtain ⟨r, e, _, _⟩ := pick s p n hb hl h0 hp (by omega) hn1
    exact ⟨_, _, Ev.bind e (Ev.now _), by omega, by omega⟩
  · simp only [if_neg h]
    exact ⟨_, _, Ev.now _, h0, by omega⟩
theorem open_ (l : List Int) (hb : isBytes l) : ∃ s, spec_l20Open.f l = some (s, 0) ∧ isBytes s ∧ s.length ≤ 2000 := by
  unfold spec_l20Open.f
  by_cases h : (l.length : Int) > 2000
  · simp only [if_pos h, if_pos (show (2000 : Int) ≤ (l.length : Int) by omega)]
    exact ⟨_, rfl, fun x hx => hb x (List.mem_of_mem_take hx), by simp; omega⟩
  · simp only [if_neg h]
    exact ⟨_, rfl, hb, by omega⟩

/-! a stretch of the stream -/
theorem heard_l (a n : Int) (h0 : -1000000000 ≤ a) (h1 : a ≤ 1000000000) (hn : n ≤ 100000) (d : Nat) : ∀ (i : Nat) (acc : List Int), (i : Int) + d = n → acc.length ≤ 100000 + i → ∃ x, Ev (fun k => spec_l20Heard.l0 k a n acc (i : Int)) x ∧ x.length = acc.length + d := by
  induction d with
  | zero =>
    intro i acc hi _
    refine ⟨acc, Ev.succ ?_, rfl⟩
    simp only [spec_l20Heard.l0, if_neg (show ¬ (i : Int) < n by omega)]
    exact Ev.now _
  | succ d ih =>
    intro i acc hi ha
    have hs : ∃ v, spec_l20Stream.f (wrap64 (a + (i : Int))) = some v := ⟨_, rfl⟩
    obtain ⟨v, hv⟩ := hs
    obtain ⟨x, e, hx⟩ := ih (i + 1) (acc ++ [v]) (by omega) (by rw [List.length_append, List.length_singleton]; omega)
    refine ⟨x, Ev.succ ?_, by rw [hx, List.length_append, List.length_singleton]; omega⟩
    simp only [spec_l20Heard.l0, if_pos (show (i : Int) < n by omega), hv, Option.bind_some, if_pos (show acc.length < 140737488355328 by omega)]
    rw [wrap_id (x := (i : Int) + 1) (by omega) (by omega)]
    exact e
theorem heard_ (a n : Int) (h0 : -1000000000 ≤ a) (h1 : a ≤ 1000000000) (hn0 : 0 ≤ n) (hn : n ≤ 100000) : ∃ x, Ev (fun k => spec_l20Heard.f k a n) x ∧ (x.length : Int) = n := by
  obtain ⟨x, e, hx⟩ := heard_l a n h0 h1 hn n.toNat 0 [] (by omega) (by simp)
  exact ⟨x, e, by rw [hx, List.length_nil]; omega⟩

/-! what the draws make of ears: bounds alone -/
theorem ear_l (c : List Int) (n : Int) (hb : isBytes c) (hl : c.length ≤ 2000) (hn : n ≤ 1000000000) (d : Nat) : ∀ (p h room : Int) (g : List Int) (l : List S70), 0 ≤ h → h ≤ 1000000 → g.length ≤ 2000 → l.length + 10 * d ≤ 1000 → 0 ≤ p → p + 10 * d ≤ 900000000 →
    ∃ h' r' g' l' q, Ev (fun k => spec_l20Ear.l0 k n (d : Int) c p h room g l) (h', r', g', l', q) ∧ -1 ≤ h' ∧ h' ≤ 1000000 ∧ g'.length ≤ 2100 ∧ l'.length ≤ 1100 ∧ 0 ≤ q ∧ q ≤ p + 10 * d + 10 := by
  induction d with
  | zero =>
    intro p h room g l h0 h1 hg hl2 p0 p1
    obtain ⟨o, q, e, q0, q1⟩ := odd c p n hb hl p0 (by omega) hn
    cases o with
    | false =>
      refine ⟨h, room, g, l, q, Ev.succ ?_, by omega, h1, by omega, by omega, q0, by omega⟩
      simp only [spec_l20Ear.l0, Int.natCast_zero, gt_iff_lt, Int.lt_irrefl, if_false]
      refine Ev.bind e ?_
      simp only [Bool.false_eq_true, if_false]
      exact Ev.now _
    | true =>
      obtain ⟨r1, e1, a1, b1⟩ := pick c q 4 hb hl q0 (by omega) (by omega) (by omega)
      by_cases c0 : r1 = 0
      · obtain ⟨r2, e2, a2, b2⟩ := pick c (q + 1) 2 hb hl (by omega) (by omega) (by omega) (by omega)
        refine ⟨h, wrap64 (r2 * 33), g, l, q + 1 + 1, Ev.succ ?_, by omega, h1, by omega, by omega, by omega, by omega⟩
        simp only [spec_l20Ear.l0, Int.natCast_zero, gt_iff_lt, Int.lt_irrefl, if_false]
        refine Ev.bind e ?_
        simp only [if_true]
        refine Ev.bind e1 ?_
        simp only [if_pos c0]
        exact Ev.bind e2 (Ev.now _)
      · by_cases c1 : r1 = 1
        · refine ⟨-1, room, g, l, q + 1, Ev.succ ?_, by omega, by omega, by omega, by omega, by omega, by omega⟩
          simp only [spec_l20Ear.l0, Int.natCast_zero, gt_iff_lt, Int.lt_irrefl, if_false]
          refine Ev.bind e ?_
          simp only [if_true]
          refine Ev.bind e1 ?_
          simp only [if_neg c0, if_pos c1]
          exact Ev.now _
        · by_cases c2 : r1 = 2
          · obtain ⟨r2, e2, a2, b2⟩ := pick c (q + 1) 40 hb hl (by omega) (by omega) (by omega) (by omega)
            refine ⟨h, room, g, l ++ [⟨wrap64 ((wrap64 (h + r2)) - 3), 0⟩], q + 1 + 1, Ev.succ ?_, by omega, by omega, by omega, by rw [List.length_append, List.length_singleton]; omega, by omega, by omega⟩
            simp only [spec_l20Ear.l0, Int.natCast_zero, gt_iff_lt, Int.lt_irrefl, if_false]
            refine Ev.bind e ?_
            simp only [if_true]
            refine Ev.bind e1 ?_
            simp only [if_neg c0, if_neg c1, if_pos c2]
            refine Ev.bind e2 ?_
            simp only [if_pos (show l.length < 8796093022208 by omega)]
            exact Ev.now _
          · refine ⟨h, room, g ++ List.replicate 20 0, l, q + 1, Ev.succ ?_, by omega, by omega, by rw [List.length_append, List.length_replicate]; omega, by omega, by omega, by omega⟩
            simp only [spec_l20Ear.l0, Int.natCast_zero, gt_iff_lt, Int.lt_irrefl, if_false]
            refine Ev.bind e ?_
            simp only [if_true]
            refine Ev.bind e1 ?_
            simp only [if_neg c0, if_neg c1, if_neg c2, if_pos (show g.length + 20 < 140737488355328 by omega)]
            exact Ev.now _
  | succ d ih =>
    intro p h room g l h0 h1 hg hl2 p0 p1
    obtain ⟨r1, e1, a1, b1⟩ := pick c p 14 hb hl p0 (by omega) (by omega) (by omega)
    obtain ⟨r2, e2, a2, b2⟩ := pick c (p + 1) 5 hb hl (by omega) (by omega) (by omega) (by omega)
    obtain ⟨x, e3, hx⟩ := heard_ (h + r1 - 4) r2 (by omega) (by omega) a2 (by omega)
    obtain ⟨h', r', g', l', e4, w1, w2, w3, w4⟩ := spec_earHear_w h room g l (h + r1 - 4) x (by omega) (by omega) (by omega)
    obtain ⟨r5, e5, a5, b5⟩ := pick c (p + 1 + 1) 4 hb hl (by omega) (by omega) (by omega) (by omega)
    have hxl : x.length ≤ 4 := by omega
    by_cases c0 : r5 = 0
    · obtain ⟨r6, e6, a6, b6⟩ := pick c (p + 1 + 1 + 1) 5 hb hl (by omega) (by omega) (by omega) (by omega)
      have e7 := spec_earRead h' r' g' l' r6 (by omega) (by omega)
      have hw : (earRead h' r' g' l' r6).1 = h' ∧ (earRead h' r' g' l' r6).2.2.1.length ≤ g'.length ∧ (earRead h' r' g' l' r6).2.2.2.1.length ≤ l'.length ∨ (earRead h' r' g' l' r6).1 = 0 ∧ (earRead h' r' g' l' r6).2.2.1.length ≤ g'.length ∧ (earRead h' r' g' l' r6).2.2.2.1.length ≤ l'.length := by
        unfold earRead
        split
        · exact Or.inl ⟨rfl, by show (List.drop _ _).length ≤ _; rw [List.length_drop]; omega, Nat.le_refl _⟩
        · exact Or.inr ⟨rfl, by simp, by simp⟩
      generalize earRead h' r' g' l' r6 = y at *
      obtain ⟨h2, r2', g2, l2, q, e, z1, z2, z3, z4, q0, q1⟩ := ih (p + 1 + 1 + 1 + 1) y.1 y.2.1 y.2.2.1 y.2.2.2.1 (by omega) (by omega) (by omega) (by omega) (by omega) (by omega)
      refine ⟨h2, r2', g2, l2, q, Ev.succ ?_, z1, z2, z3, z4, q0, by omega⟩
      simp only [spec_l20Ear.l0, if_pos (show ((d + 1 : Nat) : Int) > 0 by omega)]
      rw [show wrap64 (((d + 1 : Nat) : Int) - 1) = (d : Int) by rw [wrap_id (by omega) (by omega)]; omega]
      refine Ev.bind e1 ?_
      simp only []
      rw [show wrap64 ((wrap64 (h + r1)) - 4) = h + r1 - 4 by rw [wrap_id (x := h + r1) (by omega) (by omega), wrap_id (by omega) (by omega)]]
      refine Ev.bind e2 (Ev.bind e3 (Ev.bind e4 (Ev.bind e5 ?_)))
      simp only [if_pos c0]
      exact Ev.bind e6 (Ev.bind e7 e)
    · obtain ⟨h2, r2', g2, l2, q, e, z1, z2, z3, z4, q0, q1⟩ := ih (p + 1 + 1 + 1) h' r' g' l' (by omega) (by omega) (by omega) (by omega) (by omega) (by omega)
      refine ⟨h2, r2', g2, l2, q, Ev.succ ?_, z1, z2, z3, z4, q0, by omega⟩
      simp only [spec_l20Ear.l0, if_pos (show ((d + 1 : Nat) : Int) > 0 by omega)]
      rw [show wrap64 (((d + 1 : Nat) : Int) - 1) = (d : Int) by rw [wrap_id (by omega) (by omega)]; omega]
      refine Ev.bind e1 ?_
      simp only []
      rw [show wrap64 ((wrap64 (h + r1)) - 4) = h + r1 - 4 by rw [wrap_id (x := h + r1) (by omega) (by omega), wrap_id (by omega) (by omega)]]
      refine Ev.bind e2 (Ev.bind e3 (Ev.bind e4 (Ev.bind e5 ?_)))
      simp only [if_neg c0]
      exact e
theorem ear_ (c : List Int) (p n : Int) (hb : isBytes c) (hl : c.length ≤ 2000) (hn : n ≤ 1000000000) (p0 : 0 ≤ p) (p1 : p ≤ 800000000) :
    ∃ h' r' g' l' q, Ev (fun k => spec_l20Ear.f k c p n) (h', r', g', l', q) ∧ -1 ≤ h' ∧ h' ≤ 1000000 ∧ g'.length ≤ 2100 ∧ l'.length ≤ 1100 ∧ 0 ≤ q ∧ q ≤ p + 200 := by
  obtain ⟨r1, e1, a1, b1⟩ := pick c p 3 hb hl p0 (by omega) (by omega) (by omega)
  obtain ⟨r2, e2, a2, b2⟩ := pick c (p + 1) 20 hb hl (by omega) (by omega) (by omega) (by omega)
  obtain ⟨r3, e3, a3, b3⟩ := pick c (p + 1 + 1) 6 hb hl (by omega) (by omega) (by omega) (by omega)
  obtain ⟨d, rfl⟩ := Int.eq_ofNat_of_zero_le a3
  obtain ⟨h', r', g', l', q, e, z1, z2, z3, z4, q0, q1⟩ := ear_l c n hb hl hn d (p + 1 + 1 + 1) (100 + r1 * 40) (wrap64 (4 + r2)) [] [] (by omega) (by omega) (by simp) (by simp; omega) (by omega) (by omega)
  refine ⟨h', r', g', l', q, ?_, z1, z2, z3, z4, q0, by omega⟩
  unfold spec_l20Ear.f
  refine Ev.bind e1 (Ev.bind e2 (Ev.bind e3 ?_))
  simp only []
  rw [show wrap64 (100 + wrap64 (r1 * 40)) = 100 + r1 * 40 by rw [wrap_id (x := r1 * 40) (by omega) (by omega), wrap_id (by omega) (by omega)]]
  exact e

/-! an ear that was read stays one -/
theorem earFrom_mono (h f f' : Int) (l : List S70) (hf : f ≤ f') (d : Nat) : ∀ i, earFrom h f l d i = true → earFrom h f' l d i = true := by
  induction d with
  | zero => intro i _; rfl
  | succ d ih =>
    intro i hh
    unfold earFrom earAt at hh ⊢
    simp only [Bool.and_eq_true, decide_eq_true_eq] at hh ⊢
    exact ⟨⟨⟨hh.1.1.1, by omega⟩, hh.1.2⟩, ih _ hh.2⟩
theorem earOk_less {h room : Int} {g g' : List Int} {l : List S70} (c : earOk h room g l = true) (hg : g'.length ≤ g.length) : earOk h room g' l = true := by
  obtain ⟨c1, c2, c3, c4, c5⟩ := earOk_le c
  unfold earOk at c ⊢
  rw [Bool.and_eq_true] at c ⊢
  refine ⟨?_, earFrom_mono _ _ _ _ (by omega) _ _ c.2⟩
  simp only [Bool.and_eq_true, decide_eq_true_eq]
  exact ⟨⟨⟨⟨c1, c2⟩, c3⟩, c4⟩, by omega⟩

/-! alive -/
theorem bytesOf_5 : Ev (fun k => impl_bytesOf.f k 5 1) [5] := by
  refine Ev.of (k := 3) (fun k => impl_bytesOf.mono 5 1 k) ?_
  kernel_rfl
theorem alive_ : Ev (fun k => laws_alive.f k) true := by
  have h1 : Ev (fun k => impl_BytesOf.f k 5 1) [5] := by
    refine Ev.of (k := 3) (fun k => impl_BytesOf.mono 5 1 k) ?_
    kernel_rfl
  have h2 : Ev (fun k => impl_BytesOf.f k 256 1) [] := by
    refine Ev.of (k := 3) (fun k => impl_BytesOf.mono 256 1 k) ?_
    kernel_rfl
  unfold laws_alive.f
  refine Ev.bind h1 ?_
  simp only [List.length_singleton, Int.natCast_one, if_true]
  refine Ev.bind h2 ?_
  exact Ev.now _

theorem same_refl (l : List Int) : laws_sameBytes.f l l = some true := by
  unfold laws_sameBytes.f; simp

/-! sameEar of an ear and itself -/
theorem sameEar_l (h r : Int) (g : List Int) (l : List S70) (hl : l.length ≤ 1099511627776) (d : Nat) : ∀ i : Nat, i + d = l.length → Ev (fun k => laws_sameEar.l0 k (i : Int) h r g l h r g l) true := by
  induction d with
  | zero =>
    intro i hi
    refine Ev.step (fun k => laws_sameEar.l0.eq_2 _ _ _ _ _ _ _ _ _ k) ?_
    simp only [if_neg (show ¬ (i : Int) < (l.length : Int) by omega)]
    exact Ev.now _
  | succ d ih =>
    intro i hi
    have h1 := ih (i + 1) (by omega)
    refine Ev.step (fun k => laws_sameEar.l0.eq_2 _ _ _ _ _ _ _ _ _ k) ?_
    simp only [if_pos (show (i : Int) < (l.length : Int) by omega), if_pos (show (0 : Int) ≤ (i : Int) by omega), BEq.rfl, Bool.not_true, Bool.or_false, Bool.false_eq_true, if_false]
    rw [wrap_id (x := (i : Int) + 1) (by omega) (by omega)]
    exact h1
theorem sameEar_ (h r : Int) (g : List Int) (l : List S70) (hl : l.length ≤ 1099511627776) : Ev (fun k => laws_sameEar.f k h r g l h r g l) true := by
  unfold laws_sameEar.f
  simp only [if_true, same_refl, Option.bind_some, bne_self_eq_false]
  refine Ev.step (fun k => laws_sameEar.j0.eq_2 _ _ _ _ _ _ _ _ _ k) ?_
  simp only [Bool.false_eq_true, if_false]
  exact sameEar_l h r g l hl l.length 0 (by omega)

theorem FnEarRead : laws_FnEarRead.Pure := by
  intro l0 hl0 _ hb0
  have hbytes : isBytes l0 := isBytes_wf hb0
  refine Ev.rounds ?_
  unfold laws_FnEarRead.f
  by_cases hbig : (l0.length : Int) > 1048576
  · simp only [if_pos hbig]; exact Ev.now _
  simp only [if_neg hbig]
  obtain ⟨c, ho, hb, hl⟩ := open_ l0 hbytes
  obtain ⟨h, r, g, l, q, em, w1, w2, w3, w4, q0, q1⟩ := ear_ c 0 15 hb hl (by omega) (by omega) (by omega)
  obtain ⟨r1, e1, a1, b1⟩ := pick c q 9 hb hl q0 (by omega) (by omega) (by omega)
  obtain ⟨r2, e2, a2, b2⟩ := pick c (q + 1) 12 hb hl (by omega) (by omega) (by omega) (by omega)
  obtain ⟨n, ed⟩ : ∃ n, Ev (fun k => spec_DrawEarRead.f k l0) (h, r, g, l, n) := by
    refine ⟨wrap64 (r1 - wrap64 (Int.tdiv r2 11)), ?_⟩
    unfold spec_DrawEarRead.f
    simp only [ho, Option.bind_some]
    exact Ev.bind em (Ev.bind e1 (Ev.bind e2 (Ev.now _)))
  refine Ev.bind ed (Ev.bind (impl_earRead h r g l n (by omega) (by omega)) (Ev.bind (spec_earRead h r g l n (by omega) (by omega)) ?_))
  have hq : (earRead h r g l n).2.2.2.1.length ≤ 1100 := by
    unfold earRead; split
    · exact w4
    · simp
  refine Ev.bind (sameEar_ _ _ _ _ (by omega)) ?_
  simp only [if_true, same_refl, Option.bind_some, Bool.not_true]
  refine Ev.step (fun k => laws_FnEarRead.j0.eq_2 _ _ _ _ _ _ _ _ _ _ _ k) ?_
  simp only [Bool.false_eq_true, if_false]
  refine Ev.bind (impl_earOk h r g l (by omega) (by omega)) ?_
  by_cases ok : earOk h r g l = true
  · simp only [ok, if_true]
    refine Ev.step (fun k => laws_FnEarRead.j1.eq_2 _ _ _ _ _ _ _ _ _ _ _ k) ?_
    by_cases hn : n < 0
    · unfold earRead
      rw [if_neg (show ¬ (earOk h r g l = true ∧ 0 ≤ n) by omega)]
      simp only [decide_eq_true hn, if_true, List.length_nil, Int.natCast_zero]
      exact Ev.bind alive_ (Ev.now _)
    · have hm := mn_in n g.length (by omega)
      have hm2 : mn n (g.length : Int) ≤ n := by unfold mn; split <;> omega
      unfold earRead
      rw [if_pos (show earOk h r g l = true ∧ 0 ≤ n from ⟨ok, by omega⟩)]
      simp only [decide_eq_false hn, Bool.false_eq_true, if_false]
      have ok2 := impl_earOk h r (g.drop (mn n g.length).toNat) l (by rw [List.length_drop]; omega) (by omega)
      rw [earOk_less ok (by rw [List.length_drop]; omega)] at ok2
      refine Ev.bind ok2 ?_
      generalize mn n (g.length : Int) = m at *
      have ht : (g.take m.toNat).length = m.toNat := by rw [List.length_take]; omega
      simp only [if_true, Option.bind_some, List.nil_append, List.take_append_drop, same_refl]
      simp only [if_pos (show ((g.take m.toNat).length : Int) ≤ n by omega), if_pos (show ([] : List Int).length + (g.take m.toNat).length < 140737488355328 by rw [List.length_nil]; omega), if_pos (show (g.take m.toNat).length + (g.drop m.toNat).length < 140737488355328 by rw [List.length_drop]; omega)]
      exact Ev.bind alive_ (Ev.now _)
  · simp only [ok, Bool.false_eq_true, if_false]
    refine Ev.step (fun k => laws_FnEarRead.j1.eq_2 _ _ _ _ _ _ _ _ _ _ _ k) ?_
    unfold earRead
    rw [if_neg (show ¬ (earOk h r g l = true ∧ 0 ≤ n) from fun hh => ok hh.1)]
    simp only [if_true, List.length_nil, Int.natCast_zero]
    exact Ev.bind alive_ (Ev.now _)

end Go.Proofs.Ytjiodkbbmhhccaa.Pure
