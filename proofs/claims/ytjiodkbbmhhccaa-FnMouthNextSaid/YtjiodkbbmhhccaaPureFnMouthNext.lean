/- New bytes are told in order, and once: the plain law. -/
import Derived.Test.YtjiodkbbmhhccaaPFnMouthNextx
namespace Go.Proofs.Ytjiodkbbmhhccaa.Pure
set_option linter.unusedSimpArgs false
set_option linter.unusedVariables false
open Go.RowKit Go.Proofs.Ytjiodkbbmhhccaa.PFnMouthNext Go.Proofs.YtjiodkbbmhhccaaW.PrintWords Go.Proofs.YtjiodkbbmhhccaaW.PrintLast Go.Proofs.YtjiodkbbmhhccaaW.PrintMore

theorem Ev.succ {α : Type} {g : Nat → Option α} {r : α} (h : Ev (fun k => g (k + 1)) r) : Ev g r := Ev.step (fun _ => rfl) h
theorem Ev.pure {α : Type} {o : Option α} {r : α} (h : o = some r) : Ev (fun _ => o) r := by rw [h]; exact Ev.now r
theorem Ev.cong {α : Type} {g g' : Nat → Option α} {r : α} (h : ∀ k, g k = g' k) (e : Ev g' r) : Ev g r := by rw [show g = g' from funext h]; exact e
theorem wrap_id {x : Int} (h0 : -9223372036854775808 ≤ x) (h1 : x ≤ 9223372036854775807) : wrap64 x = x := by unfold wrap64; omega

theorem rd_get (l : List Int) (i : Nat) (h : i < l.length) : rd l (i : Int) = l[i] := by
  unfold rd
  rw [Int.toNat_natCast, List.getD_eq_getElem?_getD, List.getElem?_eq_getElem h]; rfl
theorem take_set_succ {α : Type} (x : List α) (i : Nat) (v : α) (h : i < x.length) : (x.set i v).take (i + 1) = x.take i ++ [v] := by
  rw [List.take_succ_eq_append_getElem (by simpa using h), List.getElem_set_self, List.take_set, List.set_eq_of_length_le (by simp; omega)]


def isBytes (l : List Int) : Prop := ∀ x ∈ l, 0 ≤ x ∧ x ≤ 255
theorem isBytes_get {l : List Int} (h : isBytes l) (i : Nat) (hi : i < l.length) : 0 ≤ l[i] ∧ l[i] ≤ 255 := h _ (List.getElem_mem hi)
theorem isBytes_wf {l : List Int} (h : ∀ x ∈ l, (Lit.int .u8 x).wf = true) : isBytes l := by
  intro x hx
  have := h x hx
  simp [Lit.wf, IntKind.min, IntKind.max, IntKind.bits, IntKind.signed] at this
  omega

theorem rdR (l : List S86) (i : Nat) (h : i < l.length) : rd_T86 l (i : Int) = l[i] := by
  unfold rd_T86
  rw [Int.toNat_natCast, List.getD_eq_getElem?_getD, List.getElem?_eq_getElem h]; rfl

/-- the first ranges, at most c, that lie in order behind lo, apart, and not beyond s -/
def rngTake (s : Int) : List S86 → Nat → Int → List S86
  | [], _, _ => []
  | x :: t, c, lo => if lo < x.f0 ∧ x.f0 < x.f1 ∧ x.f1 ≤ s ∧ 0 < c then x :: rngTake s t (c - 1) x.f1 else rngTake s t c lo
theorem rngTake_le (s : Int) (l : List S86) : ∀ c lo, (rngTake s l c lo).length ≤ l.length ∧ (rngTake s l c lo).length ≤ c := by
  induction l with
  | nil => intro c lo; exact ⟨Nat.le_refl _, Nat.zero_le _⟩
  | cons x t ih =>
    intro c lo
    unfold rngTake
    split
    · rename_i h; have := ih (c - 1) x.f1; simp only [List.length_cons]; omega
    · have := ih c lo; simp only [List.length_cons]; omega
theorem rngTake_yes {s : Int} {x : S86} {t : List S86} {c : Nat} {lo : Int} (h : lo < x.f0 ∧ x.f0 < x.f1 ∧ x.f1 ≤ s ∧ 0 < c) : rngTake s (x :: t) c lo = x :: rngTake s t (c - 1) x.f1 := if_pos h
theorem rngTake_no {s : Int} {x : S86} {t : List S86} {c : Nat} {lo : Int} (h : ¬ (lo < x.f0 ∧ x.f0 < x.f1 ∧ x.f1 ≤ s ∧ 0 < c)) : rngTake s (x :: t) c lo = rngTake s t c lo := if_neg h

/-! MouthOk: the ranges are told in order, apart, within what was sent -/
def rngAt (lo s : Int) (l : List S86) (i : Nat) : Bool := decide (lo < (rd_T86 l (i : Int)).f0) && decide ((rd_T86 l (i : Int)).f0 < (rd_T86 l (i : Int)).f1) && decide ((rd_T86 l (i : Int)).f1 ≤ s) && (i == 0 || decide ((rd_T86 l ((i : Int) - 1)).f1 < (rd_T86 l (i : Int)).f0))
def rngFrom (lo s : Int) (l : List S86) : Nat → Nat → Bool
  | 0, _ => true
  | d + 1, i => rngAt lo s l i && rngFrom lo s l d (i + 1)
def mouthOk (h : Int) (g : List Int) (s r : Int) (l : List S86) : Bool := decide (0 ≤ h) && decide (h ≤ 1000000) && decide ((g.length : Int) ≤ 32) && decide (0 ≤ s) && decide (s ≤ (g.length : Int)) && decide (0 ≤ r) && decide (r ≤ 255) && decide ((l.length : Int) ≤ 2) && rngFrom h (h + s) l l.length 0
theorem spec_mouthOk_l (h : Int) (g : List Int) (s r : Int) (l : List S86) (h0 : 0 ≤ h) (h1 : h ≤ 1000000) (s0 : 0 ≤ s) (s1 : s ≤ 32) (hl : (l.length : Int) ≤ 2) (d : Nat) :
    ∀ i : Nat, i + d = l.length → Ev (fun k => spec_MouthOk.l0 k (i : Int) h g s r l) (rngFrom h (h + s) l d i) := by
  induction d with
  | zero =>
    intro i hi
    refine Ev.step (fun k => spec_MouthOk.l0.eq_2 _ _ _ _ _ _ k) ?_
    simp only [if_neg (show ¬ (i : Int) < (l.length : Int) by omega), rngFrom]
    exact Ev.now _
  | succ d ih =>
    intro i hi
    have ih := ih (i + 1) (by omega)
    have a1 : (i : Int) < (l.length : Int) := by omega
    have a2 : (0 : Int) ≤ (i : Int) := by omega
    have j2 : ∀ b, Ev (fun k => spec_MouthOk.j2 k (i : Int) b h g s r l) (!b && rngFrom h (h + s) l d (i + 1)) := by
      intro b
      refine Ev.step (fun k => spec_MouthOk.j2.eq_2 _ _ _ _ _ _ _ k) ?_
      cases b with
      | true => simp only [if_true]; exact Ev.now _
      | false =>
        simp only [Bool.false_eq_true, if_false]
        rw [wrap_id (x := (i : Int) + 1) (by omega) (by omega)]
        exact ih
    refine Ev.step (fun k => spec_MouthOk.l0.eq_2 _ _ _ _ _ _ k) ?_
    simp only [if_pos a1, if_pos a2]
    rw [wrap_id (x := h + s) (by omega) (by omega)]
    simp only [rngFrom, rngAt]
    generalize rd_T86 l (i : Int) = e
    by_cases c1 : e.f0 ≤ h
    · have a6 : decide (h < e.f0) = false := decide_eq_false (by omega)
      simp only [if_pos c1, a6, Bool.false_and]
      exact j2 true
    · have a6 : decide (h < e.f0) = true := decide_eq_true (by omega)
      by_cases c2 : e.f1 ≤ e.f0
      · have a7 : decide (e.f0 < e.f1) = false := decide_eq_false (by omega)
        simp only [if_neg c1, if_pos c2, a7, Bool.and_false, Bool.false_and]
        exact j2 true
      · have a7 : decide (e.f0 < e.f1) = true := decide_eq_true (by omega)
        by_cases c4 : e.f1 > h + s
        · have a8 : decide (e.f1 ≤ h + s) = false := decide_eq_false (by omega)
          simp only [if_neg c1, if_neg c2, if_pos c4, a8, Bool.and_false, Bool.false_and]
          exact j2 true
        · have a8 : decide (e.f1 ≤ h + s) = true := decide_eq_true (by omega)
          by_cases c3 : (i : Int) > 0
          · have a3 : 0 ≤ (i : Int) - 1 := by omega
            have a4 : (i : Int) - 1 < (l.length : Int) := by omega
            have a5 : (i == 0) = false := by rw [beq_eq_false_iff_ne]; omega
            rw [wrap_id (x := (i : Int) - 1) (by omega) (by omega)]
            simp only [if_neg c1, if_neg c2, if_neg c4, if_pos c3, if_pos a3, if_pos a4, a5, a6, a7, a8, Bool.true_and, Bool.false_or]
            have := j2 (decide ((rd_T86 l ((i : Int) - 1)).f1 ≥ e.f0))
            rw [show (!decide ((rd_T86 l ((i : Int) - 1)).f1 ≥ e.f0)) = decide ((rd_T86 l ((i : Int) - 1)).f1 < e.f0) by rw [Bool.eq_iff_iff]; simp] at this
            exact this
          · have a5 : (i == 0) = true := by rw [beq_iff_eq]; omega
            simp only [if_neg c1, if_neg c2, if_neg c3, if_neg c4, a5, a6, a7, a8, Bool.true_and, Bool.true_or]
            exact j2 false
theorem spec_mouthOk (h : Int) (g : List Int) (s r : Int) (l : List S86) : Ev (fun k => spec_MouthOk.f k h g s r l) (mouthOk h g s r l) := by
  have j0 : ∀ b, (b = false → (0 ≤ h ∧ h ≤ 1000000 ∧ 0 ≤ s ∧ s ≤ 32 ∧ (l.length : Int) ≤ 2)) → Ev (fun k => spec_MouthOk.j0 k b h g s r l) (!b && rngFrom h (h + s) l l.length 0) := by
    intro b hb
    refine Ev.step (fun k => spec_MouthOk.j0.eq_2 _ _ _ _ _ _ k) ?_
    cases b with
    | true => simp only [if_true]; exact Ev.now _
    | false =>
      obtain ⟨b1, b2, b3, b4, b5⟩ := hb rfl
      simp only [Bool.false_eq_true, if_false]
      exact spec_mouthOk_l h g s r l b1 b2 b3 b4 b5 l.length 0 (by omega)
  have jt := j0 true (by intro hh; cases hh)
  simp only [Bool.not_true, Bool.false_and] at jt
  unfold spec_MouthOk.f mouthOk
  simp only [spec_l1In.f]
  by_cases c1 : h ≥ 0
  · simp only [if_pos c1, Option.bind_some]
    by_cases c2 : h ≤ 1000000
    · simp only [decide_eq_true c2, if_true]
      by_cases c3 : (g.length : Int) > 32
      · simpa [show ¬ (g.length : Int) ≤ 32 by omega, show (32 : Int) < (g.length : Int) from c3] using jt
      · simp only [if_neg c3]
        by_cases c4 : s ≥ 0
        · simp only [if_pos c4, Option.bind_some]
          by_cases c5 : s ≤ (g.length : Int)
          · simp only [decide_eq_true c5, if_true]
            by_cases c6 : r ≥ 0
            · simp only [if_pos c6, Option.bind_some]
              by_cases c7 : r ≤ 255
              · simp only [decide_eq_true c7, if_true]
                have := j0 (decide ((l.length : Int) > 2)) (by intro hh; have := of_decide_eq_false hh; omega)
                rw [show (!decide ((l.length : Int) > 2)) = decide ((l.length : Int) ≤ 2) by rw [Bool.eq_iff_iff]; simp] at this
                simpa [show 0 ≤ h from c1, show 0 ≤ s from c4, show 0 ≤ r from c6, show (g.length : Int) ≤ 32 by omega] using this
              · simpa [c7] using jt
            · simpa [c6, show ¬ 0 ≤ r from c6] using jt
          · simpa [c5] using jt
        · simpa [c4, show ¬ 0 ≤ s from c4] using jt
    · simpa [c2] using jt
  · simpa [c1, show ¬ 0 ≤ h from c1] using jt

/-! the program's MouthOk: the ranges are made right and compared -/
def rngOk (lo s : Int) : List S86 → Bool
  | [] => true
  | x :: t => (decide (lo < x.f0) && decide (x.f0 < x.f1) && decide (x.f1 ≤ s)) && rngOk x.f1 s t
theorem rngTake_eq (s : Int) (l : List S86) : ∀ c lo, l.length ≤ c → (rngTake s l c lo = l ↔ rngOk lo s l = true) := by
  induction l with
  | nil => intro c lo _; simp [rngTake, rngOk]
  | cons x t ih =>
    intro c lo hc
    rw [List.length_cons] at hc
    unfold rngTake rngOk
    by_cases d : lo < x.f0 ∧ x.f0 < x.f1 ∧ x.f1 ≤ s
    · rw [if_pos ⟨d.1, d.2.1, d.2.2, by omega⟩, decide_eq_true d.1, decide_eq_true d.2.1, decide_eq_true d.2.2, Bool.true_and, Bool.true_and, Bool.true_and]
      constructor
      · intro h; exact (ih _ x.f1 (by omega)).1 (List.cons.inj h).2
      · intro h; rw [(ih _ x.f1 (by omega)).2 h]
    · rw [if_neg (fun h => d ⟨h.1, h.2.1, h.2.2.1⟩)]
      have := rngTake_le s t c lo
      constructor
      · intro h; have h2 := congrArg List.length h; simp only [List.length_cons] at h2; omega
      · intro h
        simp only [Bool.and_eq_true, decide_eq_true_eq] at h
        exact absurd ⟨h.1.1.1, h.1.1.2, h.1.2⟩ d
theorem rngFrom_eq (h s : Int) (l : List S86) (d : Nat) : ∀ (i : Nat) (lo : Int), i + d = l.length → h ≤ lo → ((i = 0 ∧ lo = h) ∨ (0 < i ∧ (rd_T86 l ((i : Int) - 1)).f1 = lo)) → rngFrom h s l d i = rngOk lo s (l.drop i) := by
  induction d with
  | zero => intro i lo hi _ _; rw [List.drop_of_length_le (by omega)]; rfl
  | succ d ih =>
    intro i lo hi hlo hc
    have hb : i < l.length := by omega
    rw [List.drop_eq_getElem_cons hb]
    unfold rngFrom rngOk rngAt
    rw [rdR l i hb]
    have ih := ih (i + 1) l[i].f1 (by omega)
    by_cases c1 : lo < l[i].f0
    · by_cases c2 : l[i].f0 < l[i].f1
      · rw [ih (by omega) (Or.inr ⟨by omega, by rw [show ((i + 1 : Nat) : Int) - 1 = (i : Int) by omega, rdR l i hb]⟩)]
        congr 1
        have a5 : (i == 0 || decide ((rd_T86 l ((i : Int) - 1)).f1 < l[i].f0)) = true := by
          rcases hc with ⟨e, _⟩ | ⟨_, e⟩
          · simp [e]
          · rw [e]; simp [c1]
        rw [a5, decide_eq_true (show h < l[i].f0 by omega), decide_eq_true c1, Bool.and_true]
      · rw [decide_eq_false c2]; simp
    · rw [decide_eq_false c1, Bool.false_and, Bool.false_and, Bool.false_and]
      rcases hc with ⟨e, e2⟩ | ⟨e, e2⟩
      · subst e2; rw [decide_eq_false c1]; simp
      · rw [e2, decide_eq_false c1, show (i == 0) = false by rw [beq_eq_false_iff_ne]; omega]; simp
theorem impl_eqR_l (a b : List S86) (ha : a.length ≤ 1099511627776) (hab : a.length = b.length) (d : Nat) : ∀ i : Nat, i + d = a.length →
    ∃ v, Ev (fun k => impl_Range_63.l0 k a b (a.length : Int) (i : Int)) v ∧ (v = true ↔ a.drop i = b.drop i) := by
  induction d with
  | zero =>
    intro i hi
    refine ⟨true, Ev.succ ?_, ?_⟩
    · simp only [impl_Range_63.l0, if_neg (show ¬ (i : Int) < (a.length : Int) by omega)]; exact Ev.now _
    · rw [List.drop_of_length_le (by omega), List.drop_of_length_le (by omega)]; simp
  | succ d ih =>
    intro i hi
    have h1 : i < a.length := by omega
    have h2 : i < b.length := by omega
    obtain ⟨v, e, hv⟩ := ih (i + 1) (by omega)
    by_cases c : a[i].f0 = b[i].f0 ∧ a[i].f1 = b[i].f1
    · refine ⟨v, Ev.succ ?_, ?_⟩
      · simp only [impl_Range_63.l0, if_pos (show (i : Int) < (a.length : Int) by omega), if_pos (show (0 : Int) ≤ (i : Int) by omega), if_pos (show (i : Int) < (b.length : Int) by omega), rdR a i h1, rdR b i h2, c.1, c.2, BEq.rfl, Bool.not_true, Bool.or_false, Bool.false_eq_true, if_false]
        rw [wrap_id (x := (i : Int) + 1) (by omega) (by omega)]
        exact e
      · rw [hv, List.drop_eq_getElem_cons h1, List.drop_eq_getElem_cons h2]
        have : a[i] = b[i] := by
          cases ha : a[i] with | mk p q => cases hb : b[i] with | mk p' q' => rw [ha, hb] at c; obtain ⟨c1, c2⟩ := c; cases c1; cases c2; rfl
        rw [this, List.cons.injEq]; simp
    · refine ⟨false, Ev.succ ?_, ?_⟩
      · have : (!(a[i].f0 == b[i].f0) || !(a[i].f1 == b[i].f1)) = true := by
          rw [Bool.or_eq_true, Bool.not_eq_true', Bool.not_eq_true', beq_eq_false_iff_ne, beq_eq_false_iff_ne]
          by_cases c1 : a[i].f0 = b[i].f0
          · exact Or.inr (fun c2 => c ⟨c1, c2⟩)
          · exact Or.inl c1
        simp only [impl_Range_63.l0, if_pos (show (i : Int) < (a.length : Int) by omega), if_pos (show (0 : Int) ≤ (i : Int) by omega), if_pos (show (i : Int) < (b.length : Int) by omega), rdR a i h1, rdR b i h2, this, if_true]
        exact Ev.now _
      · rw [List.drop_eq_getElem_cons h1, List.drop_eq_getElem_cons h2, List.cons.injEq]
        constructor
        · intro h; cases h
        · intro h; exact absurd ⟨by rw [h.1], by rw [h.1]⟩ c
theorem impl_eqR (a b : List S86) (ha : a.length ≤ 1099511627776) : ∃ v, Ev (fun k => impl_Range_63.f k a b) v ∧ (v = true ↔ a = b) := by
  unfold impl_Range_63.f
  by_cases c : a.length = b.length
  · obtain ⟨v, e, h⟩ := impl_eqR_l a b ha c a.length 0 (by omega)
    refine ⟨v, ?_, by simpa using h⟩
    simp only [if_pos (show (a.length : Int) = (b.length : Int) by omega)]
    exact e
  · refine ⟨false, ?_, ?_⟩
    · simp only [if_neg (show ¬ (a.length : Int) = (b.length : Int) by omega)]; exact Ev.now _
    · constructor
      · intro h; cases h
      · intro h; rw [h] at c; exact absurd rfl c
theorem impl_rangesOk_l (s : Int) (l : List S86) (hl : l.length ≤ 1099511627776) (d : Nat) : ∀ (i : Nat) (acc : List S86) (lo : Int), i + d = l.length → acc.length ≤ 2 →
    Ev (fun k => impl_rangesOk.l0 k s acc lo l (l.length : Int) (i : Int)) (acc ++ rngTake s (l.drop i) (2 - acc.length) lo) := by
  induction d with
  | zero =>
    intro i acc lo hi ha
    refine Ev.step (fun k => impl_rangesOk.l0.eq_2 _ _ _ _ _ _ k) ?_
    rw [List.drop_of_length_le (by omega)]
    have h1 : acc.length * 16 ≤ 140737488355328 := by omega
    simp only [if_neg (show ¬ (i : Int) < (l.length : Int) by omega), impl_Range_79.f, if_pos h1, Option.bind_some, rngTake, List.append_nil]
    exact Ev.now _
  | succ d ih =>
    intro i acc lo hi ha
    have hb : i < l.length := by omega
    have j1 : ∀ b : Bool, (b = true → acc.length < 2) → Ev (fun k => impl_rangesOk.j1 k s acc lo l (l.length : Int) (i : Int) b l[i].f0 l[i].f1) (if b = true then acc ++ (l[i] :: rngTake s (l.drop (i + 1)) (2 - acc.length - 1) l[i].f1) else acc ++ rngTake s (l.drop (i + 1)) (2 - acc.length) lo) := by
      intro b hb2
      refine Ev.step (fun k => impl_rangesOk.j1.eq_2 _ _ _ _ _ _ _ _ _ k) ?_
      rw [wrap_id (x := (i : Int) + 1) (by omega) (by omega)]
      cases b with
      | true =>
        have hb2 := hb2 rfl
        simp only [if_true, if_pos (show acc.length < 8796093022208 by omega)]
        have := ih (i + 1) (acc ++ [l[i]]) l[i].f1 (by omega) (by simp; omega)
        rw [List.append_assoc, show 2 - (acc ++ [l[i]]).length = 2 - acc.length - 1 by rw [List.length_append, List.length_singleton]; omega] at this
        exact this
      | false =>
        simp only [Bool.false_eq_true, if_false]
        exact ih (i + 1) acc lo (by omega) (by omega)
    refine Ev.step (fun k => impl_rangesOk.l0.eq_2 _ _ _ _ _ _ k) ?_
    simp only [if_pos (show (i : Int) < (l.length : Int) by omega), if_pos (show (0 : Int) ≤ (i : Int) by omega), rdR l i hb]
    rw [List.drop_eq_getElem_cons hb]
    unfold rngTake
    by_cases c1 : l[i].f0 > lo
    · by_cases c2 : l[i].f1 > l[i].f0
      · by_cases c3 : l[i].f1 ≤ s
        · by_cases c4 : acc.length < 2
          · rw [if_pos ⟨c1, c2, c3, by omega⟩]
            simp only [if_pos c1, if_pos c2, if_pos c3, decide_eq_true (show (acc.length : Int) < 2 by omega)]
            exact j1 true (fun _ => c4)
          · rw [if_neg (fun h => by omega)]
            simp only [if_pos c1, if_pos c2, if_pos c3, decide_eq_false (show ¬ (acc.length : Int) < 2 by omega)]
            exact j1 false (by intro h; cases h)
        · rw [if_neg (fun h => c3 h.2.2.1)]
          simp only [if_pos c1, if_pos c2, if_neg c3]
          exact j1 false (by intro h; cases h)
      · rw [if_neg (fun h => c2 h.2.1)]
        simp only [if_pos c1, if_neg c2]
        exact j1 false (by intro h; cases h)
    · rw [if_neg (fun h => c1 h.1)]
      simp only [if_neg c1]
      exact j1 false (by intro h; cases h)
theorem impl_mouthOk (h : Int) (g : List Int) (s r : Int) (l : List S86) : Ev (fun k => impl_MouthOk.f k h g s r l) (mouthOk h g s r l) := by
  unfold impl_MouthOk.f mouthOk
  simp only [impl_in.f]
  by_cases c1 : h ≥ 0
  · simp only [if_pos c1, Option.bind_some]
    by_cases c2 : h ≤ 1000000
    · simp only [decide_eq_true c2, if_true]
      by_cases c3 : (g.length : Int) ≤ 32
      · simp only [if_pos c3]
        by_cases c4 : s ≥ 0
        · simp only [if_pos c4, Option.bind_some]
          by_cases c5 : s ≤ (g.length : Int)
          · simp only [decide_eq_true c5, if_true]
            by_cases c6 : r ≥ 0
            · simp only [if_pos c6, Option.bind_some]
              by_cases c7 : r ≤ 255
              · simp only [decide_eq_true c7, if_true]
                by_cases c8 : (l.length : Int) ≤ 2
                · simp only [if_pos c8]
                  rw [wrap_id (x := h + s) (by omega) (by omega)]
                  have e1 := impl_rangesOk_l (h + s) l (by omega) l.length 0 [] h (by omega) (by simp)
                  rw [List.drop_zero, List.nil_append, List.length_nil] at e1
                  have hk := rngTake_le (h + s) l (2 - 0) h
                  obtain ⟨v, e2, hv⟩ := impl_eqR (rngTake (h + s) l (2 - 0) h) l (by omega)
                  have hv2 : v = rngFrom h (h + s) l l.length 0 := by
                    rw [rngFrom_eq h (h + s) l l.length 0 h (by omega) (by omega) (Or.inl ⟨rfl, rfl⟩), List.drop_zero, Bool.eq_iff_iff, hv, rngTake_eq _ _ _ _ (by omega)]
                  rw [hv2] at e2
                  rw [decide_eq_true c3, decide_eq_true (show 0 ≤ h from c1), decide_eq_true (show 0 ≤ s from c4), decide_eq_true (show 0 ≤ r from c6), decide_eq_true c8]
                  simp only [Bool.true_and]
                  exact Ev.bind e1 (Ev.bind e2 (Ev.now _))
                · simp only [if_neg c8, decide_eq_false c8, Bool.and_false, Bool.false_and]
                  exact Ev.now _
              · simp only [decide_eq_false c7, Bool.false_eq_true, if_false, Bool.and_false, Bool.false_and]
                exact Ev.now _
            · simp only [if_neg c6, decide_eq_false (show ¬ 0 ≤ r from c6), Option.bind_some, Bool.false_eq_true, if_false, Bool.and_false, Bool.false_and]
              exact Ev.now _
          · simp only [decide_eq_false c5, Bool.false_eq_true, if_false, Bool.and_false, Bool.false_and]
            exact Ev.now _
        · simp only [if_neg c4, decide_eq_false (show ¬ 0 ≤ s from c4), Option.bind_some, Bool.false_eq_true, if_false, Bool.and_false, Bool.false_and]
          exact Ev.now _
      · simp only [if_neg c3, decide_eq_false c3, Bool.and_false, Bool.false_and]
        exact Ev.now _
    · simp only [decide_eq_false c2, Bool.false_eq_true, if_false, Bool.and_false, Bool.false_and]
      exact Ev.now _
  · simp only [if_neg c1, decide_eq_false (show ¬ 0 ≤ h from c1), Option.bind_some, Bool.false_eq_true, if_false, Bool.false_and]
    exact Ev.now _

theorem mouthOk_le {h : Int} {g : List Int} {s r : Int} {l : List S86} (c : mouthOk h g s r l = true) : 0 ≤ h ∧ h ≤ 1000000 ∧ g.length ≤ 32 ∧ 0 ≤ s ∧ s ≤ g.length ∧ 0 ≤ r ∧ r ≤ 255 ∧ l.length ≤ 2 := by
  unfold mouthOk at c
  simp only [Bool.and_eq_true, decide_eq_true_eq] at c
  obtain ⟨⟨⟨⟨⟨⟨⟨⟨c1, c2⟩, c3⟩, c4⟩, c5⟩, c6⟩, c7⟩, c8⟩, _⟩ := c
  exact ⟨c1, c2, by omega, c4, c5, c6, c7, by omega⟩
theorem mn_lo {a b : Int} (ha : 0 ≤ a) (hb : 0 ≤ b) : 0 ≤ mn a b ∧ mn a b ≤ a ∧ mn a b ≤ b := by
  unfold mn; split <;> omega

/-! MouthWrite -/
def mouthWrite (h : Int) (g : List Int) (s r : Int) (l : List S86) (b : List Int) : Int × List Int × Int × Int × List S86 × Int :=
  if mouthOk h g s r l = true then (h, g ++ b.take (mn b.length (32 - g.length)).toNat, s, r, l, mn b.length (32 - g.length)) else (0, [], 0, 0, [], 0)
theorem spec_mouthWrite (h : Int) (g : List Int) (s r : Int) (l : List S86) (b : List Int) (hb : b.length ≤ 1048576) : Ev (fun k => spec_MouthWrite.f k h g s r l b) (mouthWrite h g s r l b) := by
  unfold spec_MouthWrite.f mouthWrite
  refine Ev.bind (spec_mouthOk h g s r l) ?_
  by_cases c : mouthOk h g s r l = true
  · obtain ⟨_, _, hg, _, _, _, _, hl⟩ := mouthOk_le c
    simp only [c, if_true, spec_l13Copy.f]
    have h1 : ([] : List Int).length + g.length < 140737488355328 := by rw [List.length_nil]; omega
    have h2 : ([] : List S86).length + l.length < 8796093022208 := by rw [List.length_nil]; omega
    obtain ⟨m1, m2, m3⟩ := mn_lo (a := (b.length : Int)) (b := 32 - (g.length : Int)) (by omega) (by omega)
    rw [wrap_id (x := 32 - (g.length : Int)) (by omega) (by omega)]
    simp only [Option.bind_some, if_pos h1, if_pos h2, List.nil_append, if_pos m1, if_pos m2]
    rw [if_pos (show g.length + (List.take (mn (b.length : Int) (32 - (g.length : Int))).toNat b).length < 140737488355328 by rw [List.length_take]; omega)]
    exact Ev.now _
  · simp only [c, if_false, Bool.false_eq_true]
    exact Ev.now _

/-! MouthHear -/
def mouthHear (h : Int) (g : List Int) (s r : Int) (l : List S86) (p n : Int) (rs : List S86) : Int × List Int × Int × Int × List S86 × Int :=
  if mouthOk h g s r l = true ∧ 0 ≤ n ∧ n ≤ 255 then
    (if p < h ∨ p - h > s then (h, g, s, r, l, 0) else if p > 1000000 then (0, [], 0, 0, [], 0) else (p, g.drop (p - h).toNat, s - (p - h), n, rngTake (p + (s - (p - h))) rs 2 p, p - h))
  else (0, [], 0, 0, [], 0)
theorem spec_mouthHear_l (p n : Int) (rs : List S86) (hr : rs.length ≤ 1099511627776) (q : Int) (g : List Int) (s : Int) (h0 : 0 ≤ p) (h1 : p ≤ 2000000) (s0 : 0 ≤ s) (s1 : s ≤ 32) (d : Nat) : ∀ (i : Nat) (acc : List S86) (lo : Int), i + d = rs.length → acc.length ≤ 2 → p ≤ lo → ((acc.length = 0 ∧ lo = p) ∨ (0 < acc.length ∧ (rd_T86 acc ((acc.length : Int) - 1)).f1 = lo)) →
    Ev (fun k => spec_MouthHear.l0 k p rs q (i : Int) p g s n acc) (if p > 1000000 then (0, [], 0, 0, [], 0) else (p, g, s, n, acc ++ rngTake (p + s) (rs.drop i) (2 - acc.length) lo, q)) := by
  induction d with
  | zero =>
    intro i acc lo hi ha _ _
    refine Ev.step (fun k => spec_MouthHear.l0.eq_2 _ _ _ _ _ _ _ _ _ k) ?_
    rw [List.drop_of_length_le (by omega)]
    simp only [if_neg (show ¬ (i : Int) < (rs.length : Int) by omega), rngTake, List.append_nil]
    split
    · exact Ev.now _
    · exact Ev.now _
  | succ d ih =>
    intro i acc lo hi ha hlo hc
    have hb : i < rs.length := by omega
    have j3 : ∀ b : Bool, (b = true → acc.length < 2 ∧ lo < rs[i].f0 ∧ rs[i].f0 < rs[i].f1) → Ev (fun k => spec_MouthHear.j3 k p rs q (i : Int) b p g s n acc rs[i].f0 rs[i].f1) (if p > 1000000 then (0, [], 0, 0, [], 0) else (p, g, s, n, (if b = true then acc ++ (rs[i] :: rngTake (p + s) (rs.drop (i + 1)) (2 - acc.length - 1) rs[i].f1) else acc ++ rngTake (p + s) (rs.drop (i + 1)) (2 - acc.length) lo), q)) := by
      intro b hb2
      refine Ev.step (fun k => spec_MouthHear.j3.eq_2 _ _ _ _ _ _ _ _ _ _ _ _ k) ?_
      rw [wrap_id (x := (i : Int) + 1) (by omega) (by omega)]
      cases b with
      | true =>
        have hb2 := hb2 rfl
        simp only [if_true, if_pos (show acc.length < 8796093022208 by omega)]
        have hl : (acc ++ [rs[i]]).length = acc.length + 1 := by rw [List.length_append, List.length_singleton]
        have := ih (i + 1) (acc ++ [rs[i]]) rs[i].f1 (by omega) (by omega) (by omega) (Or.inr ⟨by omega, by
          rw [show (((acc ++ [rs[i]]).length : Nat) : Int) - 1 = ((acc.length : Nat) : Int) by omega, rdR _ _ (by omega), List.getElem_append_right (Nat.le_refl _)]; simp⟩)
        rw [List.append_assoc, show 2 - (acc ++ [rs[i]]).length = 2 - acc.length - 1 by omega] at this
        exact this
      | false =>
        simp only [Bool.false_eq_true, if_false]
        exact ih (i + 1) acc lo (by omega) (by omega) hlo hc
    refine Ev.step (fun k => spec_MouthHear.l0.eq_2 _ _ _ _ _ _ _ _ _ k) ?_
    rw [wrap_id (x := p + s) (by omega) (by omega), wrap_id (x := (acc.length : Int) - 1) (by omega) (by omega)]
    simp only [if_pos (show (i : Int) < (rs.length : Int) by omega), if_pos (show (0 : Int) ≤ (i : Int) by omega), rdR rs i hb]
    rw [List.drop_eq_getElem_cons hb]
    by_cases c1 : rs[i].f0 > p
    · by_cases c2 : rs[i].f1 > rs[i].f0
      · by_cases c3 : rs[i].f1 ≤ p + s
        · by_cases c4 : (acc.length : Int) < 2
          · simp only [if_pos c1, if_pos c2, if_pos c3, if_pos c4]
            rcases hc with ⟨e1, e2⟩ | ⟨e1, e2⟩
            · rw [rngTake_yes ⟨by omega, c2, c3, by omega⟩]
              simp only [if_pos (show (acc.length : Int) - 1 < 0 by omega)]
              exact j3 true (fun _ => ⟨by omega, by omega, c2⟩)
            · simp only [if_neg (show ¬ (acc.length : Int) - 1 < 0 by omega), if_pos (show 0 ≤ (acc.length : Int) - 1 by omega), if_pos (show (acc.length : Int) - 1 < (acc.length : Int) by omega), e2]
              by_cases c5 : rs[i].f0 > lo
              · rw [rngTake_yes ⟨c5, c2, c3, by omega⟩, decide_eq_true c5]
                exact j3 true (fun _ => ⟨by omega, c5, c2⟩)
              · rw [rngTake_no (fun h => c5 h.1), decide_eq_false c5]
                exact j3 false (by intro h; cases h)
          · rw [rngTake_no (fun h => by omega)]
            simp only [if_pos c1, if_pos c2, if_pos c3, if_neg c4]
            exact j3 false (by intro h; cases h)
        · rw [rngTake_no (fun h => c3 h.2.2.1)]
          simp only [if_pos c1, if_pos c2, if_neg c3]
          exact j3 false (by intro h; cases h)
      · rw [rngTake_no (fun h => c2 h.2.1)]
        simp only [if_pos c1, if_neg c2]
        exact j3 false (by intro h; cases h)
    · rw [rngTake_no (fun h => c1 (by omega))]
      simp only [if_neg c1]
      exact j3 false (by intro h; cases h)
theorem spec_mouthHear (h : Int) (g : List Int) (s r : Int) (l : List S86) (p n : Int) (rs : List S86) (hr : rs.length ≤ 1099511627776) (p0 : -9223372036854775808 ≤ p) (p1 : p ≤ 9223372036854775807) : Ev (fun k => spec_MouthHear.f k h g s r l p n rs) (mouthHear h g s r l p n rs) := by
  unfold spec_MouthHear.f mouthHear
  refine Ev.bind (spec_mouthOk h g s r l) ?_
  have jt : Ev (fun k => spec_MouthHear.j0 k p n rs true h g s r l) (0, [], 0, 0, [], 0) := by
    refine Ev.step (fun k => spec_MouthHear.j0.eq_2 _ _ _ _ _ _ _ _ _ k) ?_
    simp only [if_true]; exact Ev.now _
  by_cases c : mouthOk h g s r l = true
  · obtain ⟨m1, m2, m3, m4, m5, m6, m7, m8⟩ := mouthOk_le c
    simp only [c, if_true, true_and, spec_l1In.f]
    by_cases n0 : n ≥ 0
    · by_cases n1 : n ≤ 255
      · simp only [if_pos n0, decide_eq_true n1, Option.bind_some, Bool.not_true, if_pos (show 0 ≤ n ∧ n ≤ 255 from ⟨n0, n1⟩)]
        refine Ev.step (fun k => spec_MouthHear.j0.eq_2 _ _ _ _ _ _ _ _ _ k) ?_
        have h1 : ([] : List Int).length + g.length < 140737488355328 := by rw [List.length_nil]; omega
        have h2 : ([] : List S86).length + l.length < 8796093022208 := by rw [List.length_nil]; omega
        simp only [Bool.false_eq_true, if_false, spec_l13Copy.f, Option.bind_some, if_pos h1, if_pos h2, List.nil_append]
        by_cases c1 : p < h
        · simp only [if_pos c1, if_pos (show p < h ∨ p - h > s from Or.inl c1)]
          refine Ev.step (fun k => spec_MouthHear.j1.eq_2 _ _ _ _ _ _ _ _ _ _ _ _ _ _ _ k) ?_
          simp only [if_true]; exact Ev.now _
        · have hw : wrap64 (p - h) = p - h := wrap_id (by omega) (by omega)
          rw [hw]
          simp only [if_neg c1]
          by_cases c2 : p - h > s
          · simp only [decide_eq_true c2, if_pos (show p < h ∨ p - h > s from Or.inr c2)]
            refine Ev.step (fun k => spec_MouthHear.j1.eq_2 _ _ _ _ _ _ _ _ _ _ _ _ _ _ _ k) ?_
            simp only [if_true]; exact Ev.now _
          · simp only [decide_eq_false c2, if_neg (show ¬ (p < h ∨ p - h > s) by omega)]
            refine Ev.step (fun k => spec_MouthHear.j1.eq_2 _ _ _ _ _ _ _ _ _ _ _ _ _ _ _ k) ?_
            have h3 : ([] : List Int).length + (g.drop (p - h).toNat).length < 140737488355328 := by rw [List.length_nil, List.length_drop]; omega
            rw [wrap_id (x := s - (p - h)) (by omega) (by omega)]
            simp only [Bool.false_eq_true, if_false, Option.bind_some, if_pos (show 0 ≤ p - h by omega), if_pos (show p - h ≤ (g.length : Int) by omega), List.nil_append]
            simp only [if_pos h3]
            have := spec_mouthHear_l p n rs hr (p - h) (g.drop (p - h).toNat) (s - (p - h)) (by omega) (by omega) (by omega) (by omega) rs.length 0 [] p (by omega) (by simp) (by omega) (Or.inl ⟨rfl, rfl⟩)
            rw [List.drop_zero, List.nil_append] at this
            exact this
      · simp only [if_pos n0, decide_eq_false n1, Option.bind_some, Bool.not_false, if_neg (show ¬ (0 ≤ n ∧ n ≤ 255) from fun h => n1 h.2)]
        exact jt
    · simp only [if_neg n0, Option.bind_some, Bool.not_false, if_neg (show ¬ (0 ≤ n ∧ n ≤ 255) from fun h => n0 h.1)]
      exact jt
  · simp only [c, if_false, false_and, Bool.false_eq_true]
    exact jt

/-! MouthNext -/
def mouthNext (h : Int) (g : List Int) (s r : Int) (l : List S86) (n : Int) : Int × List Int × Int × Int × List S86 × Int × List Int :=
  if mouthOk h g s r l = true ∧ 1 ≤ n ∧ n ≤ 12 then
    (if mn (mn g.length r) (s + n) ≤ s then (h, g, s, r, l, h + s, []) else (h, g, mn (mn g.length r) (s + n), r, l, h + s, (g.take (mn (mn g.length r) (s + n)).toNat).drop s.toNat))
  else (0, [], 0, 0, [], 0, [])
theorem spec_mouthNext (h : Int) (g : List Int) (s r : Int) (l : List S86) (n : Int) : Ev (fun k => spec_MouthNext.f k h g s r l n) (mouthNext h g s r l n) := by
  unfold spec_MouthNext.f mouthNext
  refine Ev.bind (spec_mouthOk h g s r l) ?_
  have jt : Ev (fun k => spec_MouthNext.j0 k n true h g s r l) (0, [], 0, 0, [], 0, []) := by
    refine Ev.step (fun k => spec_MouthNext.j0.eq_2 _ _ _ _ _ _ _ k) ?_
    simp only [if_true]; exact Ev.now _
  by_cases c : mouthOk h g s r l = true
  · obtain ⟨m1, m2, m3, m4, m5, m6, m7, m8⟩ := mouthOk_le c
    simp only [c, if_true, true_and, spec_l1In.f]
    by_cases n0 : n ≥ 1
    · by_cases n1 : n ≤ 12
      · simp only [if_pos n0, decide_eq_true n1, Option.bind_some, Bool.not_true, if_pos (show 1 ≤ n ∧ n ≤ 12 from ⟨n0, n1⟩)]
        refine Ev.step (fun k => spec_MouthNext.j0.eq_2 _ _ _ _ _ _ _ k) ?_
        have h1 : ([] : List Int).length + g.length < 140737488355328 := by rw [List.length_nil]; omega
        have h2 : ([] : List S86).length + l.length < 8796093022208 := by rw [List.length_nil]; omega
        rw [wrap_id (x := s + n) (by omega) (by omega), wrap_id (x := h + s) (by omega) (by omega)]
        simp only [Bool.false_eq_true, if_false, spec_l13Copy.f, Option.bind_some, if_pos h1, if_pos h2, List.nil_append]
        obtain ⟨a1, a2, a3⟩ := mn_lo (a := (g.length : Int)) (b := r) (by omega) (by omega)
        obtain ⟨b1, b2, b3⟩ := mn_lo (a := mn (g.length : Int) r) (b := s + n) (by omega) (by omega)
        generalize mn (mn (g.length : Int) r) (s + n) = u at *
        by_cases c1 : u ≤ s
        · simp only [if_pos c1]; exact Ev.now _
        · simp only [if_neg c1, if_pos (show 0 ≤ s by omega), if_pos (show s ≤ u by omega), if_pos (show u ≤ (g.length : Int) by omega)]
          rw [if_pos (show ([] : List Int).length + ((g.take u.toNat).drop s.toNat).length < 140737488355328 by rw [List.length_nil, List.length_drop, List.length_take]; omega)]
          exact Ev.now _
      · simp only [if_pos n0, decide_eq_false n1, Option.bind_some, Bool.not_false, if_neg (show ¬ (1 ≤ n ∧ n ≤ 12) from fun h => n1 h.2)]
        exact jt
    · simp only [if_neg n0, Option.bind_some, Bool.not_false, if_neg (show ¬ (1 ≤ n ∧ n ≤ 12) from fun h => n0 h.1)]
      exact jt
  · simp only [c, if_false, false_and, Bool.false_eq_true]
    exact jt

theorem mn_next (g : List Int) (s r n : Int) : mn (mn (g.length : Int) r) (s + n) = s + mn (mn n ((g.length : Int) - s)) (r - s) := by
  unfold mn; (repeat' split) <;> omega
theorem mn_next_le (g : List Int) (s r n : Int) : mn (mn n ((g.length : Int) - s)) (r - s) ≤ n ∧ mn (mn n ((g.length : Int) - s)) (r - s) ≤ (g.length : Int) - s ∧ mn (mn n ((g.length : Int) - s)) (r - s) ≤ r - s ∧ (mn (mn n ((g.length : Int) - s)) (r - s) = n ∨ mn (mn n ((g.length : Int) - s)) (r - s) = (g.length : Int) - s ∨ mn (mn n ((g.length : Int) - s)) (r - s) = r - s) := by
  unfold mn; (repeat' split) <;> omega
theorem impl_mouthNext (h : Int) (g : List Int) (s r : Int) (l : List S86) (n : Int) : Ev (fun k => impl_MouthNext.f k h g s r l n) (mouthNext h g s r l n) := by
  unfold impl_MouthNext.f mouthNext
  refine Ev.bind (impl_mouthOk h g s r l) ?_
  have jt : Ev (fun k => impl_MouthNext.j0 k n true h g s r l) (0, [], 0, 0, [], 0, []) := by
    refine Ev.step (fun k => impl_MouthNext.j0.eq_2 _ _ _ _ _ _ _ k) ?_
    simp only [if_true]; exact Ev.now _
  by_cases c : mouthOk h g s r l = true
  · obtain ⟨m1, m2, m3, m4, m5, m6, m7, m8⟩ := mouthOk_le c
    simp only [c, if_true, true_and, impl_in.f]
    by_cases n0 : n ≥ 1
    · by_cases n1 : n ≤ 12
      · simp only [if_pos n0, decide_eq_true n1, Option.bind_some, Bool.not_true, if_pos (show 1 ≤ n ∧ n ≤ 12 from ⟨n0, n1⟩)]
        refine Ev.step (fun k => impl_MouthNext.j0.eq_2 _ _ _ _ _ _ _ k) ?_
        have h1 : g.length * 1 ≤ 140737488355328 := by omega
        have h2 : l.length * 16 ≤ 140737488355328 := by omega
        simp only [Bool.false_eq_true, if_false, impl_Mouth_copy.f, impl_clone_byte.f, impl_Range_79.f, if_pos h1, if_pos h2, Option.bind_some, impl_Mouth_next.f]
        rw [mn_next]
        obtain ⟨p1, p2, p3, p4⟩ := mn_next_le g s r n
        rw [wrap_id (x := (g.length : Int) - s) (by omega) (by omega), wrap_id (x := r - s) (by omega) (by omega), wrap_id (x := h + s) (by omega) (by omega)]
        generalize mn (mn n ((g.length : Int) - s)) (r - s) = a at *
        by_cases ca : a ≤ 0
        · simp only [if_pos ca, if_pos (show s + a ≤ s by omega), Option.bind_some]
          exact Ev.now _
        · rw [wrap_id (x := s + a) (by omega) (by omega)]
          have h3 : ((g.take (s + a).toNat).drop s.toNat).length * 1 ≤ 140737488355328 := by rw [List.length_drop, List.length_take]; omega
          simp only [if_neg ca, if_neg (show ¬ s + a ≤ s by omega), if_pos m4, if_pos (show s ≤ s + a by omega), if_pos (show s + a ≤ (g.length : Int) by omega), if_pos h3, Option.bind_some]
          exact Ev.now _
      · simp only [if_pos n0, decide_eq_false n1, Option.bind_some, Bool.not_false, if_neg (show ¬ (1 ≤ n ∧ n ≤ 12) from fun h => n1 h.2)]
        exact jt
    · simp only [if_neg n0, Option.bind_some, Bool.not_false, if_neg (show ¬ (1 ≤ n ∧ n ≤ 12) from fun h => n0 h.1)]
      exact jt
  · simp only [c, if_false, false_and, Bool.false_eq_true]
    exact jt

/-! drawing -/
theorem xor_nn (a b : Int) (a0 : 0 ≤ a) (a1 : a < 9223372036854775808) (b0 : 0 ≤ b) (b1 : b < 9223372036854775808) : 0 ≤ Go.bits .xor .i64 a b ∧ Go.bits .xor .i64 a b < 9223372036854775808 := by
  obtain ⟨x, rfl⟩ := Int.eq_ofNat_of_zero_le a0
  obtain ⟨y, rfl⟩ := Int.eq_ofNat_of_zero_le b0
  have hx : x < 2 ^ 63 := by omega
  have hy : y < 2 ^ 63 := by omega
  have hxy : x ^^^ y < 2 ^ 63 := Nat.xor_lt_two_pow hx hy
  have h1 : (BitVec.ofInt 64 (x : Int)).toNat = x := by
    rw [BitVec.ofInt_natCast, BitVec.toNat_ofNat]; exact Nat.mod_eq_of_lt (by omega)
  have h2 : (BitVec.ofInt 64 (y : Int)).toNat = y := by
    rw [BitVec.ofInt_natCast, BitVec.toNat_ofNat]; exact Nat.mod_eq_of_lt (by omega)
  have h3 : Go.bits .xor .i64 (x : Int) (y : Int) = ((x ^^^ y : Nat) : Int) := by
    show IntKind.i64.wrap ((BitVec.ofInt 64 (x : Int) ^^^ BitVec.ofInt 64 (y : Int)).toNat : Int) = _
    rw [BitVec.toNat_xor, h1, h2, IntKind.wrap_i64]
    omega
  rw [h3]
  omega
theorem tmod_in (x n : Int) (h0 : 0 ≤ x) (hn : 1 ≤ n) : 0 ≤ Int.tmod x n ∧ Int.tmod x n < n := by
  rw [Int.tmod_eq_emod_of_nonneg h0]
  exact ⟨Int.emod_nonneg _ (by omega), Int.emod_lt_of_pos _ (by omega)⟩
theorem tdiv_in (x n : Int) (h0 : 0 ≤ x) (hn : 1 ≤ n) : 0 ≤ Int.tdiv x n ∧ Int.tdiv x n ≤ x := by
  rw [Int.tdiv_eq_ediv_of_nonneg h0]
  exact ⟨Int.ediv_nonneg h0 (by omega), Int.ediv_le_self _ h0⟩
theorem rd_byte {s : List Int} (hb : isBytes s) (i : Int) : 0 ≤ rd s i ∧ rd s i ≤ 255 := by
  unfold rd
  rw [List.getD_eq_getElem?_getD]
  by_cases h : i.toNat < s.length
  · rw [List.getElem?_eq_getElem h]; exact hb _ (List.getElem_mem h)
  · rw [List.getElem?_eq_none (by omega)]; exact ⟨Int.le_refl _, by decide⟩
theorem pick (s : List Int) (p n : Int) (hb : isBytes s) (hl : s.length ≤ 2000) (h0 : 0 ≤ p) (hp : p ≤ 1000000000) (hn : 1 ≤ n) (hn1 : n ≤ 1000000000) :
    ∃ r, Ev (fun k => spec_l20Rd_pick.f k s p n) (r, p + 1) ∧ 0 ≤ r ∧ r < n := by
  unfold spec_l20Rd_pick.f
  simp only [if_neg (show ¬ n < 1 by omega)]
  rw [wrap_id (x := p + 1) (by omega) (by omega)]
  by_cases hs : s.length = 0
  · refine ⟨0, Ev.succ ?_, by omega, by omega⟩
    simp only [spec_l20Rd_pick.j0, hs, Int.natCast_zero, beq_self_eq_true, if_true]
    exact Ev.now _
  · have hz : ((s.length : Int) == 0) = false := by rw [beq_eq_false_iff_ne]; omega
    simp only [hz]
    by_cases h1 : p < (s.length : Int)
    · have hx := rd_byte hb p
      have hm := tmod_in (rd s p) n hx.1 hn
      refine ⟨Int.tmod (rd s p) n, Ev.succ ?_, hm.1, hm.2⟩
      simp only [spec_l20Rd_pick.j0, Bool.false_eq_true, if_false, show p + 1 - 1 = p by omega]
      rw [wrap_id (x := p) (by omega) (by omega), wrap_id (x := rd s p) (by omega) (by omega)]
      simp only [if_pos h1, if_pos h0, if_neg (show ¬ n = 0 by omega)]
      exact Ev.now _
    · have m1 := tmod_in p s.length h0 (by omega)
      have m2 := tmod_in (p * 7 + 3) s.length (by omega) (by omega)
      have d1 := tdiv_in p s.length h0 (by omega)
      have x1 := rd_byte hb (Int.tmod p s.length)
      have x2 := rd_byte hb (Int.tmod (p * 7 + 3) s.length)
      let v := rd s (Int.tmod p s.length) * 131 + rd s (Int.tmod (p * 7 + 3) s.length) * 1117 + p * 29 + Int.tdiv p s.length * 53
      have v0 : 0 ≤ v := by show 0 ≤ _ + _ + _ + _; omega
      have v1 : v < 9223372036854775808 := by show _ + _ + _ + _ < _; omega
      have d2 := tdiv_in v 64 v0 (by omega)
      have b1 := xor_nn v (Int.tdiv v 64) v0 v1 d2.1 (by omega)
      have hm := tmod_in (Go.bits .xor .i64 v (Int.tdiv v 64)) n b1.1 hn
      refine ⟨_, Ev.succ ?_, hm.1, hm.2⟩
      simp only [spec_l20Rd_pick.j0, Bool.false_eq_true, if_false, show p + 1 - 1 = p by omega]
      rw [wrap_id (x := p) (by omega) (by omega)]
      rw [wrap_id (x := p * 7) (by omega) (by omega), wrap_id (x := p * 7 + 3) (by omega) (by omega), wrap_id (x := p * 29) (by omega) (by omega), wrap_id (x := rd s (Int.tmod p s.length)) (by omega) (by omega),
        wrap_id (x := rd s (Int.tmod (p * 7 + 3) s.length)) (by omega) (by omega), wrap_id (x := rd s (Int.tmod p s.length) * 131) (by omega) (by omega), wrap_id (x := rd s (Int.tmod (p * 7 + 3) s.length) * 1117) (by omega) (by omega),
        wrap_id (x := rd s (Int.tmod p s.length) * 131 + rd s (Int.tmod (p * 7 + 3) s.length) * 1117) (by omega) (by omega), wrap_id (x := rd s (Int.tmod p s.length) * 131 + rd s (Int.tmod (p * 7 + 3) s.length) * 1117 + p * 29) (by omega) (by omega),
        wrap_id (x := Int.tdiv p s.length) (by omega) (by omega), wrap_id (x := Int.tdiv p s.length * 53) (by omega) (by omega), wrap_id (x := rd s (Int.tmod p s.length) * 131 + rd s (Int.tmod (p * 7 + 3) s.length) * 1117 + p * 29 + Int.tdiv p s.length * 53) (by omega) (by omega)]
      simp only [if_neg h1, if_neg (show ¬ (s.length : Int) = 0 by omega), if_pos m1.1, if_pos m1.2, if_pos m2.1, if_pos m2.2, if_neg (show ¬ n = 0 by omega)]
      rw [wrap_id (x := Int.tdiv v 64) (by omega) (by omega)]
      exact Ev.now _
theorem odd (s : List Int) (p n : Int) (hb : isBytes s) (hl : s.length ≤ 2000) (h0 : 0 ≤ p) (hp : p ≤ 1000000000) (hn1 : n ≤ 1000000000) :
    ∃ b q, Ev (fun k => spec_l20Rd_odd.f k s p n) (b, q) ∧ 0 ≤ q ∧ q ≤ p + 1 := by
  unfold spec_l20Rd_odd.f
  by_cases h : n > 0
  · simp only [if_pos h]
    obtain ⟨r, e, _, _⟩ := pick s p n hb hl h0 hp (by omega) hn1
    exact ⟨_, _, Ev.bind e (Ev.now _), by omega, by omega⟩
  · simp only [if_neg h]
    exact ⟨_, _, Ev.now _, h0, by omega⟩
theorem open_ (l : List Int) (hb : isBytes l) : ∃ s, spec_l20Open.f l = some (s, 0) ∧ isBytes s ∧ s.length ≤ 2000 := by
  unfold spec_l20Open.f
  by_cases h : (l.length : Int) > 2000
  · simp only [if_pos h, if_pos (show (2000 : Int) ≤ (l.length : Int) by omega)]
    exact ⟨_, rfl, fun x hx => hb x (List.mem_of_mem_take hx), by simp; omega⟩
  · simp only [if_neg h]
    exact ⟨_, rfl, hb, by omega⟩

/-! a stretch of the stream -/
theorem heard_l (a n : Int) (h0 : -1000000000 ≤ a) (h1 : a ≤ 1000000000) (hn : n ≤ 100000) (d : Nat) : ∀ (i : Nat) (acc : List Int), (i : Int) + d = n → acc.length ≤ 100000 + i → ∃ x, Ev (fun k => spec_l20Heard.l0 k a n acc (i : Int)) x ∧ x.length = acc.length + d := by
  induction d with
  | zero =>
    intro i acc hi _
    refine ⟨acc, Ev.succ ?_, rfl⟩
    simp only [spec_l20Heard.l0, if_neg (show ¬ (i : Int) < n by omega)]
    exact Ev.now _
  | succ d ih =>
    intro i acc hi ha
    have hs : ∃ v, spec_l20Stream.f (wrap64 (a + (i : Int))) = some v := ⟨_, rfl⟩
    obtain ⟨v, hv⟩ := hs
    obtain ⟨x, e, hx⟩ := ih (i + 1) (acc ++ [v]) (by omega) (by rw [List.length_append, List.length_singleton]; omega)
    refine ⟨x, Ev.succ ?_, by rw [hx, List.length_append, List.length_singleton]; omega⟩
    simp only [spec_l20Heard.l0, if_pos (show (i : Int) < n by omega), hv, Option.bind_some, if_pos (show acc.length < 140737488355328 by omega)]
    rw [wrap_id (x := (i : Int) + 1) (by omega) (by omega)]
    exact e
theorem heard_ (a n : Int) (h0 : -1000000000 ≤ a) (h1 : a ≤ 1000000000) (hn0 : 0 ≤ n) (hn : n ≤ 100000) : ∃ x, Ev (fun k => spec_l20Heard.f k a n) x ∧ (x.length : Int) = n := by
  obtain ⟨x, e, hx⟩ := heard_l a n h0 h1 hn n.toNat 0 [] (by omega) (by simp)
  exact ⟨x, e, by rw [hx, List.length_nil]; omega⟩

/-! what the draws make of mouths -/
def weakM (h : Int) (g : List Int) (s : Int) (l : List S86) : Prop := 0 ≤ h ∧ h ≤ 1000000 ∧ g.length ≤ 32 ∧ 0 ≤ s ∧ s ≤ 32 ∧ l.length ≤ 2
theorem weak_write (h : Int) (g : List Int) (s r : Int) (l : List S86) (b : List Int) : weakM (mouthWrite h g s r l b).1 (mouthWrite h g s r l b).2.1 (mouthWrite h g s r l b).2.2.1 (mouthWrite h g s r l b).2.2.2.2.1 := by
  unfold mouthWrite weakM
  split
  · rename_i c
    obtain ⟨m1, m2, m3, m4, m5, m6, m7, m8⟩ := mouthOk_le c
    obtain ⟨a1, a2, a3⟩ := mn_lo (a := (b.length : Int)) (b := 32 - (g.length : Int)) (by omega) (by omega)
    refine ⟨m1, m2, ?_, m4, Int.le_trans m5 (by omega), m8⟩
    show (g ++ List.take _ _).length ≤ _
    rw [List.length_append, List.length_take]; omega
  · exact ⟨by simp, by simp, by simp, by simp, by simp, by simp⟩
theorem weak_hear (h : Int) (g : List Int) (s r : Int) (l : List S86) (p n : Int) (rs : List S86) : weakM (mouthHear h g s r l p n rs).1 (mouthHear h g s r l p n rs).2.1 (mouthHear h g s r l p n rs).2.2.1 (mouthHear h g s r l p n rs).2.2.2.2.1 := by
  unfold mouthHear weakM
  split
  · rename_i c
    obtain ⟨m1, m2, m3, m4, m5, m6, m7, m8⟩ := mouthOk_le c.1
    split
    · exact ⟨m1, m2, m3, m4, Int.le_trans m5 (by omega), m8⟩
    · split
      · exact ⟨by simp, by simp, by simp, by simp, by simp, by simp⟩
      · refine ⟨show 0 ≤ p by omega, show p ≤ 1000000 by omega, ?_, show 0 ≤ s - (p - h) by omega, show s - (p - h) ≤ 32 by omega, (rngTake_le _ _ _ _).2⟩
        show (List.drop _ _).length ≤ _
        rw [List.length_drop]; omega
  · exact ⟨by simp, by simp, by simp, by simp, by simp, by simp⟩
theorem weak_next (h : Int) (g : List Int) (s r : Int) (l : List S86) (n : Int) : weakM (mouthNext h g s r l n).1 (mouthNext h g s r l n).2.1 (mouthNext h g s r l n).2.2.1 (mouthNext h g s r l n).2.2.2.2.1 := by
  unfold mouthNext weakM
  split
  · rename_i c
    obtain ⟨m1, m2, m3, m4, m5, m6, m7, m8⟩ := mouthOk_le c.1
    obtain ⟨a1, a2, a3⟩ := mn_lo (a := (g.length : Int)) (b := r) (by omega) (by omega)
    obtain ⟨b1, b2, b3⟩ := mn_lo (a := mn (g.length : Int) r) (b := s + n) (by omega) (by omega)
    split
    · exact ⟨m1, m2, m3, m4, Int.le_trans m5 (by omega), m8⟩
    · exact ⟨m1, m2, m3, b1, by show mn (mn _ _) _ ≤ 32; omega, m8⟩
  · exact ⟨by simp, by simp, by simp, by simp, by simp, by simp⟩
theorem grow_write (h : Int) (g : List Int) (s r : Int) (l : List S86) (b : List Int) (h0 : 0 ≤ h) : (mouthWrite h g s r l b).1 ≤ h + 32 := by
  unfold mouthWrite; split
  · show h ≤ h + 32; omega
  · show (0 : Int) ≤ h + 32; omega
theorem grow_hear (h : Int) (g : List Int) (s r : Int) (l : List S86) (p n : Int) (rs : List S86) (h0 : 0 ≤ h) : (mouthHear h g s r l p n rs).1 ≤ h + 32 := by
  unfold mouthHear; split
  · rename_i c
    obtain ⟨m1, m2, m3, m4, m5, m6, m7, m8⟩ := mouthOk_le c.1
    split
    · show h ≤ h + 32; omega
    · split
      · show (0 : Int) ≤ h + 32; omega
      · show p ≤ h + 32; omega
  · show (0 : Int) ≤ h + 32; omega
theorem grow_next (h : Int) (g : List Int) (s r : Int) (l : List S86) (n : Int) (h0 : 0 ≤ h) : (mouthNext h g s r l n).1 ≤ h + 32 := by
  unfold mouthNext; split
  · split
    · show h ≤ h + 32; omega
    · show h ≤ h + 32; omega
  · show (0 : Int) ≤ h + 32; omega
/-- what is drawn: bounds alone -/
def drawnM (h : Int) (g : List Int) (s r : Int) (l : List S86) : Prop := 0 ≤ h ∧ h ≤ 2000 ∧ g.length ≤ 33 ∧ -1 ≤ s ∧ s ≤ 40 ∧ l.length ≤ 3
theorem mouth_l (c : List Int) (n : Int) (hb : isBytes c) (hl : c.length ≤ 2000) (hn : n ≤ 1000000000) (d : Nat) : ∀ (p h : Int) (g : List Int) (s r : Int) (l : List S86), weakM h g s l → h + 40 * d ≤ 2000 → 0 ≤ p → p + 10 * d ≤ 900000000 →
    ∃ h' g' s' r' l' q, Ev (fun k => spec_l20Mouth.l0 k n (d : Int) c p h g s r l) (h', g', s', r', l', q) ∧ drawnM h' g' s' r' l' ∧ 0 ≤ q ∧ q ≤ p + 10 * d + 10 := by
  induction d with
  | zero =>
    intro p h g s r l hw hh h0 hp
    obtain ⟨w1, w2, w3, w4, w5, w6⟩ := hw
    obtain ⟨o, q, e, q0, q1⟩ := odd c p n hb hl h0 (by omega) hn
    cases o with
    | false =>
      refine ⟨h, g, s, r, l, q, Ev.succ ?_, ⟨w1, by omega, by omega, by omega, by omega, by omega⟩, q0, by omega⟩
      simp only [spec_l20Mouth.l0, Int.natCast_zero, gt_iff_lt, Int.lt_irrefl, if_false]
      refine Ev.bind e ?_
      simp only [Bool.false_eq_true, if_false]
      exact Ev.now _
    | true =>
      obtain ⟨r1, e1, a1, b1⟩ := pick c q 4 hb hl q0 (by omega) (by omega) (by omega)
      by_cases c0 : r1 = 0
      · obtain ⟨r2, e2, a2, b2⟩ := pick c (q + 1) 40 hb hl (by omega) (by omega) (by omega) (by omega)
        refine ⟨h, g, r2 - 1, r, l, q + 1 + 1, Ev.succ ?_, ⟨w1, by omega, by omega, by omega, by omega, by omega⟩, by omega, by omega⟩
        simp only [spec_l20Mouth.l0, Int.natCast_zero, gt_iff_lt, Int.lt_irrefl, if_false]
        refine Ev.bind e ?_
        simp only [if_true]
        refine Ev.bind e1 ?_
        simp only [if_pos c0]
        refine Ev.bind e2 ?_
        rw [wrap_id (x := r2 - 1) (by omega) (by omega)]
        exact Ev.now _
      · by_cases c1 : r1 = 1
        · obtain ⟨r2, e2, a2, b2⟩ := pick c (q + 1) 2 hb hl (by omega) (by omega) (by omega) (by omega)
          refine ⟨h, g, s, 256 - r2 * 300, l, q + 1 + 1, Ev.succ ?_, ⟨w1, by omega, by omega, by omega, by omega, by omega⟩, by omega, by omega⟩
          simp only [spec_l20Mouth.l0, Int.natCast_zero, gt_iff_lt, Int.lt_irrefl, if_false]
          refine Ev.bind e ?_
          simp only [if_true]
          refine Ev.bind e1 ?_
          simp only [if_neg c0, if_pos c1]
          refine Ev.bind e2 ?_
          rw [wrap_id (x := r2 * 300) (by omega) (by omega), wrap_id (x := 256 - r2 * 300) (by omega) (by omega)]
          exact Ev.now _
        · by_cases c2 : r1 = 2
          · obtain ⟨r2, e2, a2, b2⟩ := pick c (q + 1) 9 hb hl (by omega) (by omega) (by omega) (by omega)
            obtain ⟨r3, e3, a3, b3⟩ := pick c (q + 1 + 1) 12 hb hl (by omega) (by omega) (by omega) (by omega)
            refine ⟨h, g, s, r, l ++ [⟨wrap64 (h + r2), wrap64 (h + r3)⟩], q + 1 + 1 + 1, Ev.succ ?_, ⟨w1, by omega, by omega, by omega, by omega, by rw [List.length_append, List.length_singleton]; omega⟩, by omega, by omega⟩
            simp only [spec_l20Mouth.l0, Int.natCast_zero, gt_iff_lt, Int.lt_irrefl, if_false]
            refine Ev.bind e ?_
            simp only [if_true]
            refine Ev.bind e1 ?_
            simp only [if_neg c0, if_neg c1, if_pos c2]
            refine Ev.bind e2 (Ev.bind e3 ?_)
            simp only [if_pos (show l.length < 8796093022208 by omega)]
            exact Ev.now _
          · refine ⟨h, List.replicate 33 0, s, r, l, q + 1, Ev.succ ?_, ⟨w1, by omega, by simp, by omega, by omega, by omega⟩, by omega, by omega⟩
            simp only [spec_l20Mouth.l0, Int.natCast_zero, gt_iff_lt, Int.lt_irrefl, if_false]
            refine Ev.bind e ?_
            simp only [if_true]
            refine Ev.bind e1 ?_
            simp only [if_neg c0, if_neg c1, if_neg c2, if_pos (show 33 ≤ 281474976710656 by omega)]
            exact Ev.now _
  | succ d ih =>
    intro p h g s r l hw hh h0 hp
    obtain ⟨w1, w2, w3, w4, w5, w6⟩ := hw
    obtain ⟨r1, e1, a1, b1⟩ := pick c p 4 hb hl h0 (by omega) (by omega) (by omega)
    by_cases c0 : r1 = 0
    · obtain ⟨r2, e2, a2, b2⟩ := pick c (p + 1) 9 hb hl (by omega) (by omega) (by omega) (by omega)
      obtain ⟨x, e3, hx⟩ := heard_ (h + (g.length : Int)) r2 (by omega) (by omega) a2 (by omega)
      have e4 := spec_mouthWrite h g s r l x (by omega)
      have hw4 := weak_write h g s r l x
      have hg4 := grow_write h g s r l x w1
      generalize mouthWrite h g s r l x = y at *
      obtain ⟨h', g', s', r', l', q, e, hd', q0, q1⟩ := ih (p + 1 + 1) y.1 y.2.1 y.2.2.1 y.2.2.2.1 y.2.2.2.2.1 hw4 (by omega) (by omega) (by omega)
      refine ⟨h', g', s', r', l', q, Ev.succ ?_, hd', q0, by omega⟩
      simp only [spec_l20Mouth.l0, if_pos (show ((d + 1 : Nat) : Int) > 0 by omega)]
      rw [show wrap64 (((d + 1 : Nat) : Int) - 1) = (d : Int) by rw [wrap_id (by omega) (by omega)]; omega, wrap_id (x := h + (g.length : Int)) (by omega) (by omega)]
      refine Ev.bind e1 ?_
      simp only [if_pos c0]
      exact Ev.bind e2 (Ev.bind e3 (Ev.bind e4 e))
    · by_cases c1 : r1 = 1
      · obtain ⟨r2, e2, a2, b2⟩ := pick c (p + 1) (s + 1) hb hl (by omega) (by omega) (by omega) (by omega)
        obtain ⟨r3, e3, a3, b3⟩ := pick c (p + 1 + 1) 30 hb hl (by omega) (by omega) (by omega) (by omega)
        obtain ⟨r4, e4, a4, b4⟩ := pick c (p + 1 + 1 + 1) 4 hb hl (by omega) (by omega) (by omega) (by omega)
        obtain ⟨r5, e5, a5, b5⟩ := pick c (p + 1 + 1 + 1 + 1) 6 hb hl (by omega) (by omega) (by omega) (by omega)
        obtain ⟨r6, e6, a6, b6⟩ := pick c (p + 1 + 1 + 1 + 1 + 1) 4 hb hl (by omega) (by omega) (by omega) (by omega)
        obtain ⟨r7, e7, a7, b7⟩ := pick c (p + 1 + 1 + 1 + 1 + 1 + 1) 9 hb hl (by omega) (by omega) (by omega) (by omega)
        have e8 := spec_mouthHear h g s r l (wrap64 (h + r2)) r3 ([(⟨wrap64 ((wrap64 ((wrap64 (h + r2)) + 1)) + r4), wrap64 ((wrap64 ((wrap64 (h + r2)) + 2)) + r5)⟩ : S86), (⟨wrap64 ((wrap64 ((wrap64 (h + r2)) + 5)) + r6), wrap64 ((wrap64 ((wrap64 (h + r2)) + 6)) + r7)⟩ : S86)]) (by simp) (by rw [wrap_id (x := h + r2) (by omega) (by omega)]; omega) (by rw [wrap_id (x := h + r2) (by omega) (by omega)]; omega)
        have hw4 := weak_hear h g s r l (wrap64 (h + r2)) r3 ([(⟨wrap64 ((wrap64 ((wrap64 (h + r2)) + 1)) + r4), wrap64 ((wrap64 ((wrap64 (h + r2)) + 2)) + r5)⟩ : S86), (⟨wrap64 ((wrap64 ((wrap64 (h + r2)) + 5)) + r6), wrap64 ((wrap64 ((wrap64 (h + r2)) + 6)) + r7)⟩ : S86)])
        have hg4 := grow_hear h g s r l (wrap64 (h + r2)) r3 ([(⟨wrap64 ((wrap64 ((wrap64 (h + r2)) + 1)) + r4), wrap64 ((wrap64 ((wrap64 (h + r2)) + 2)) + r5)⟩ : S86), (⟨wrap64 ((wrap64 ((wrap64 (h + r2)) + 5)) + r6), wrap64 ((wrap64 ((wrap64 (h + r2)) + 6)) + r7)⟩ : S86)]) w1
        generalize mouthHear h g s r l (wrap64 (h + r2)) r3 _ = y at *
        obtain ⟨h', g', s', r', l', q, e, hd', q0, q1⟩ := ih (p + 1 + 1 + 1 + 1 + 1 + 1 + 1) y.1 y.2.1 y.2.2.1 y.2.2.2.1 y.2.2.2.2.1 hw4 (by omega) (by omega) (by omega)
        refine ⟨h', g', s', r', l', q, Ev.succ ?_, hd', q0, by omega⟩
        simp only [spec_l20Mouth.l0, if_pos (show ((d + 1 : Nat) : Int) > 0 by omega)]
        rw [show wrap64 (((d + 1 : Nat) : Int) - 1) = (d : Int) by rw [wrap_id (by omega) (by omega)]; omega, show wrap64 (s + 1) = s + 1 from wrap_id (by omega) (by omega)]
        refine Ev.bind e1 ?_
        simp only [if_neg c0, if_pos c1]
        refine Ev.bind e2 (Ev.bind e3 (Ev.bind e4 (Ev.bind e5 (Ev.bind e6 (Ev.bind e7 ?_)))))
        exact Ev.bind e8 e
      · obtain ⟨r2, e2, a2, b2⟩ := pick c (p + 1) 8 hb hl (by omega) (by omega) (by omega) (by omega)
        have e4 := spec_mouthNext h g s r l (1 + r2)
        have hw4 := weak_next h g s r l (1 + r2)
        have hg4 := grow_next h g s r l (1 + r2) w1
        generalize mouthNext h g s r l (1 + r2) = y at *
        obtain ⟨h', g', s', r', l', q, e, hd', q0, q1⟩ := ih (p + 1 + 1) y.1 y.2.1 y.2.2.1 y.2.2.2.1 y.2.2.2.2.1 hw4 (by omega) (by omega) (by omega)
        refine ⟨h', g', s', r', l', q, Ev.succ ?_, hd', q0, by omega⟩
        simp only [spec_l20Mouth.l0, if_pos (show ((d + 1 : Nat) : Int) > 0 by omega)]
        rw [show wrap64 (((d + 1 : Nat) : Int) - 1) = (d : Int) by rw [wrap_id (by omega) (by omega)]; omega]
        refine Ev.bind e1 ?_
        simp only [if_neg c0, if_neg c1]
        refine Ev.bind e2 ?_
        simp only []
        rw [wrap_id (x := 1 + r2) (by omega) (by omega)]
        exact Ev.bind e4 e
theorem mouth_ (c : List Int) (p n : Int) (hb : isBytes c) (hl : c.length ≤ 2000) (hn : n ≤ 1000000000) (h0 : 0 ≤ p) (hp : p ≤ 800000000) :
    ∃ h g s r l q, Ev (fun k => spec_l20Mouth.f k c p n) (h, g, s, r, l, q) ∧ drawnM h g s r l ∧ 0 ≤ q ∧ q ≤ p + 200 := by
  obtain ⟨r1, e1, a1, b1⟩ := pick c p 3 hb hl h0 (by omega) (by omega) (by omega)
  obtain ⟨r2, e2, a2, b2⟩ := pick c (p + 1) 30 hb hl (by omega) (by omega) (by omega) (by omega)
  obtain ⟨r3, e3, a3, b3⟩ := pick c (p + 1 + 1) 9 hb hl (by omega) (by omega) (by omega) (by omega)
  obtain ⟨d, rfl⟩ := Int.eq_ofNat_of_zero_le a3
  obtain ⟨h', g', s', r', l', q, e, hd', q0, q1⟩ := mouth_l c n hb hl hn d (p + 1 + 1 + 1) (100 + r1 * 40) [] 0 r2 [] ⟨by omega, by omega, by simp, by omega, by omega, by simp⟩ (by omega) (by omega) (by omega)
  refine ⟨h', g', s', r', l', q, ?_, hd', q0, by omega⟩
  unfold spec_l20Mouth.f
  refine Ev.bind e1 (Ev.bind e2 (Ev.bind e3 ?_))
  simp only []
  rw [show wrap64 (100 + wrap64 (r1 * 40)) = 100 + r1 * 40 by rw [wrap_id (x := r1 * 40) (by omega) (by omega), wrap_id (by omega) (by omega)]]
  exact e

/-! alive -/
theorem bytesOf_5 : Ev (fun k => impl_bytesOf.f k 5 1) [5] := by
  refine Ev.of (k := 3) (fun k => impl_bytesOf.mono 5 1 k) ?_
  kernel_rfl
theorem alive_ : Ev (fun k => laws_alive.f k) true := by
  have h1 : Ev (fun k => impl_BytesOf.f k 5 1) [5] := by
    refine Ev.of (k := 3) (fun k => impl_BytesOf.mono 5 1 k) ?_
    kernel_rfl
  have h2 : Ev (fun k => impl_BytesOf.f k 256 1) [] := by
    refine Ev.of (k := 3) (fun k => impl_BytesOf.mono 256 1 k) ?_
    kernel_rfl
  unfold laws_alive.f
  refine Ev.bind h1 ?_
  simp only [List.length_singleton, Int.natCast_one, if_true]
  refine Ev.bind h2 ?_
  exact Ev.now _

theorem same_refl (l : List Int) : laws_sameBytes.f l l = some true := by
  unfold laws_sameBytes.f; simp

/-! sameMouth of a mouth and itself -/
theorem sameRanges_l (l : List S86) (hl : l.length ≤ 1099511627776) (d : Nat) : ∀ i : Nat, i + d = l.length → Ev (fun k => laws_sameRanges.l0 k l l (i : Int)) true := by
  induction d with
  | zero =>
    intro i hi
    refine Ev.succ ?_
    simp only [laws_sameRanges.l0, if_neg (show ¬ (i : Int) < (l.length : Int) by omega)]
    exact Ev.now _
  | succ d ih =>
    intro i hi
    have h1 := ih (i + 1) (by omega)
    refine Ev.succ ?_
    simp only [laws_sameRanges.l0, if_pos (show (i : Int) < (l.length : Int) by omega), if_pos (show (0 : Int) ≤ (i : Int) by omega), BEq.rfl, Bool.not_true, Bool.or_false, Bool.false_eq_true, if_false]
    rw [wrap_id (x := (i : Int) + 1) (by omega) (by omega)]
    exact h1
theorem sameRanges_ (l : List S86) (hl : l.length ≤ 1099511627776) : Ev (fun k => laws_sameRanges.f k l l) true := by
  unfold laws_sameRanges.f; simp only [if_true]; exact sameRanges_l l hl l.length 0 (by omega)
theorem sameMouth_ (h : Int) (g : List Int) (s r : Int) (l : List S86) (hl : l.length ≤ 1099511627776) : Ev (fun k => laws_sameMouth.f k h g s r l h g s r l) true := by
  unfold laws_sameMouth.f
  simp only [if_true, same_refl, Option.bind_some]
  exact Ev.bind (sameRanges_ l hl) (Ev.now _)

theorem rngFrom_mono (lo s s' : Int) (l : List S86) (hs : s ≤ s') (d : Nat) : ∀ i, rngFrom lo s l d i = true → rngFrom lo s' l d i = true := by
  induction d with
  | zero => intro i _; rfl
  | succ d ih =>
    intro i hh
    unfold rngFrom rngAt at hh ⊢
    simp only [Bool.and_eq_true, decide_eq_true_eq] at hh ⊢
    exact ⟨⟨⟨hh.1.1.1, by omega⟩, hh.1.2⟩, ih _ hh.2⟩
theorem mouthOk_next {h : Int} {g : List Int} {s r : Int} {l : List S86} (c : mouthOk h g s r l = true) (u : Int) (h0 : s ≤ u) (h1 : u ≤ g.length) : mouthOk h g u r l = true := by
  obtain ⟨m1, m2, m3, m4, m5, m6, m7, m8⟩ := mouthOk_le c
  unfold mouthOk at c ⊢
  rw [Bool.and_eq_true] at c ⊢
  refine ⟨?_, rngFrom_mono _ _ _ _ (by omega) _ _ c.2⟩
  simp only [Bool.and_eq_true, decide_eq_true_eq]
  refine ⟨⟨⟨⟨⟨⟨⟨?_, ?_⟩, ?_⟩, ?_⟩, ?_⟩, ?_⟩, ?_⟩, ?_⟩ <;> omega
theorem FnMouthNext : laws_FnMouthNext.Pure := by
  intro l0 hl0 _ hb0
  have hbytes : isBytes l0 := isBytes_wf hb0
  refine Ev.rounds ?_
  unfold laws_FnMouthNext.f
  by_cases hbig : (l0.length : Int) > 1048576
  · simp only [if_pos hbig]; exact Ev.now _
  simp only [if_neg hbig]
  obtain ⟨c, ho, hb, hl⟩ := open_ l0 hbytes
  obtain ⟨h, g, s, r, l, q, em, ⟨w1, w2, w3, w4, w5, w6⟩, q0, q1⟩ := mouth_ c 0 15 hb hl (by omega) (by omega) (by omega)
  obtain ⟨n, e1, a1, b1⟩ := pick c q 14 hb hl q0 (by omega) (by omega) (by omega)
  have ed : Ev (fun k => spec_DrawMouthNext.f k l0) (h, g, s, r, l, n) := by
    unfold spec_DrawMouthNext.f
    simp only [ho, Option.bind_some]
    exact Ev.bind em (Ev.bind e1 (Ev.now _))
  refine Ev.bind ed (Ev.bind (impl_mouthNext h g s r l n) (Ev.bind (spec_mouthNext h g s r l n) ?_))
  simp only [if_true, same_refl, Option.bind_some]
  have hq : (mouthNext h g s r l n).2.2.2.2.1.length ≤ 3 := by
    unfold mouthNext; split
    · split
      · exact w6
      · exact w6
    · simp
  refine Ev.bind (sameMouth_ _ _ _ _ _ (by omega)) ?_
  simp only [Bool.not_true]
  refine Ev.step (fun k => laws_FnMouthNext.j0.eq_2 _ _ _ _ _ _ _ _ _ _ _ _ _ _ k) ?_
  simp only [Bool.false_eq_true, if_false]
  refine Ev.bind (impl_mouthOk h g s r l) ?_
  have none_ : mouthNext h g s r l n = (0, [], 0, 0, [], 0, []) → Ev (fun k => laws_FnMouthNext.j1 k n (mouthNext h g s r l n).2.2.2.2.2.1 (mouthNext h g s r l n).2.2.2.2.2.2 true h g s r l (mouthNext h g s r l n).1 (mouthNext h g s r l n).2.1 (mouthNext h g s r l n).2.2.1 (mouthNext h g s r l n).2.2.2.1 (mouthNext h g s r l n).2.2.2.2.1) true := by
    intro hz
    rw [hz]
    refine Ev.step (fun k => laws_FnMouthNext.j1.eq_2 _ _ _ _ _ _ _ _ _ _ _ _ _ _ k) ?_
    simp only [if_true, List.length_nil, Int.natCast_zero]
    exact Ev.bind alive_ (Ev.now _)
  by_cases ok : mouthOk h g s r l = true
  · obtain ⟨m1, m2, m3, m4, m5, m6, m7, m8⟩ := mouthOk_le ok
    simp only [ok, if_true]
    by_cases n0 : n < 1
    · simp only [if_pos n0]
      refine none_ ?_
      unfold mouthNext; rw [if_neg (fun hh => by omega)]
    · simp only [if_neg n0]
      by_cases n1 : n > 12
      · simp only [decide_eq_true n1]
        refine none_ ?_
        unfold mouthNext; rw [if_neg (fun hh => by omega)]
      · simp only [decide_eq_false n1]
        clear none_ hq
        refine Ev.step (fun k => laws_FnMouthNext.j1.eq_2 _ _ _ _ _ _ _ _ _ _ _ _ _ _ k) ?_
        simp only [Bool.false_eq_true, if_false]
        have hz : mouthNext h g s r l n = (if mn (mn g.length r) (s + n) ≤ s then (h, g, s, r, l, h + s, []) else (h, g, mn (mn g.length r) (s + n), r, l, h + s, (g.take (mn (mn g.length r) (s + n)).toNat).drop s.toNat)) := by
          unfold mouthNext; rw [if_pos ⟨ok, by omega, by omega⟩]
        rw [hz, mn_next]
        clear hz
        obtain ⟨p1, p2, p3, p4⟩ := mn_next_le g s r n
        generalize mn (mn n ((g.length : Int) - s)) (r - s) = a at *
        by_cases ca : a ≤ 0
        · simp only [if_pos (show s + a ≤ s by omega)]
          have e5 := impl_mouthOk h g s r l
          rw [ok] at e5
          refine Ev.bind e5 ?_
          have hd : (List.take s.toNat g).drop s.toNat = [] := by rw [List.drop_eq_nil_iff, List.length_take]; omega
          rw [wrap_id (x := h + s) (by omega) (by omega), wrap_id (x := s + (([] : List Int).length : Int)) (by rw [List.length_nil]; omega) (by rw [List.length_nil]; omega)]
          simp only [if_true, same_refl, Option.bind_some, List.length_nil, Int.natCast_zero, Int.add_zero, if_pos (show (0 : Int) ≤ n by omega), if_pos m4, Int.le_refl, if_pos m5, hd]
          exact Ev.bind alive_ (Ev.now _)
        · simp only [if_neg (show ¬ s + a ≤ s by omega)]
          have e5 := impl_mouthOk h g (s + a) r l
          rw [mouthOk_next ok (s + a) (by omega) (by omega)] at e5
          refine Ev.bind e5 ?_
          have hlen : ((List.drop s.toNat (List.take (s + a).toNat g)).length : Int) = a := by rw [List.length_drop, List.length_take]; omega
          rw [hlen, wrap_id (x := h + s) (by omega) (by omega), wrap_id (x := s + a) (by omega) (by omega)]
          simp only [if_true, same_refl, Option.bind_some, if_pos p1, if_pos m4, if_pos (show s ≤ s + a by omega), if_pos (show s + a ≤ (g.length : Int) by omega), if_neg (show ¬ a = 0 by omega), if_pos (show s + a ≤ r by omega)]
          exact Ev.bind alive_ (Ev.now _)
  · simp only [ok, Bool.false_eq_true, if_false]
    refine none_ ?_
    unfold mouthNext; rw [if_neg (fun hh => ok hh.1)]

end Go.Proofs.Ytjiodkbbmhhccaa.Pure
