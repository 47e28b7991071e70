/- What was kept is sent once, in order: the plain law. -/
import Derived.Test.YtdoohdbfpnmndaaPFnNearHearx
namespace Go.Proofs.Ytdoohdbfpnmndaa.Pure
set_option linter.unusedSimpArgs false
set_option linter.unusedVariables false
open Go.RowKit Go.Proofs.Ytdoohdbfpnmndaa.PFnNearHear Go.Proofs.YtdoohdbfpnmndaaW.PrintWords Go.Proofs.YtdoohdbfpnmndaaW.PrintLast Go.Proofs.YtdoohdbfpnmndaaW.PrintMore

theorem Ev.succ {α : Type} {g : Nat → Option α} {r : α} (h : Ev (fun k => g (k + 1)) r) : Ev g r := Ev.step (fun _ => rfl) h
theorem Ev.pure {α : Type} {o : Option α} {r : α} (h : o = some r) : Ev (fun _ => o) r := by rw [h]; exact Ev.now r
theorem Ev.cong {α : Type} {g g' : Nat → Option α} {r : α} (h : ∀ k, g k = g' k) (e : Ev g' r) : Ev g r := by rw [show g = g' from funext h]; exact e
theorem wrap_id {x : Int} (h0 : -9223372036854775808 ≤ x) (h1 : x ≤ 9223372036854775807) : wrap64 x = x := by unfold wrap64; omega

theorem rd_get (l : List Int) (i : Nat) (h : i < l.length) : rd l (i : Int) = l[i] := by
  unfold rd
  rw [Int.toNat_natCast, List.getD_eq_getElem?_getD, List.getElem?_eq_getElem h]; rfl
theorem take_set_succ {α : Type} (x : List α) (i : Nat) (v : α) (h : i < x.length) : (x.set i v).take (i + 1) = x.take i ++ [v] := by
  rw [List.take_succ_eq_append_getElem (by simpa using h), List.getElem_set_self, List.take_set, List.set_eq_of_length_le (by simp; omega)]


def isBytes (l : List Int) : Prop := ∀ x ∈ l, 0 ≤ x ∧ x ≤ 255
theorem isBytes_get {l : List Int} (h : isBytes l) (i : Nat) (hi : i < l.length) : 0 ≤ l[i] ∧ l[i] ≤ 255 := h _ (List.getElem_mem hi)
theorem isBytes_wf {l : List Int} (h : ∀ x ∈ l, (Lit.int .u8 x).wf = true) : isBytes l := by
  intro x hx
  have := h x hx
  simp [Lit.wf, IntKind.min, IntKind.max, IntKind.bits, IntKind.signed] at this
  omega

/-! whether a number is between two others -/
def inb (x lo hi : Int) : Bool := decide (lo ≤ x) && decide (x ≤ hi)
theorem inb_iff {x lo hi : Int} : inb x lo hi = true ↔ lo ≤ x ∧ x ≤ hi := by unfold inb; simp
theorem impl_in_ (x lo hi : Int) : impl_in.f x lo hi = some (inb x lo hi) := by
  unfold impl_in.f inb; by_cases h : x ≥ lo
  · simp only [if_pos h, decide_eq_true (show lo ≤ x from h), Bool.true_and]
  · simp only [if_neg h, decide_eq_false (show ¬ lo ≤ x from h), Bool.false_and]
theorem spec_in_ (x lo hi : Int) : spec_l1In.f x lo hi = some (inb x lo hi) := by
  unfold spec_l1In.f inb; by_cases h : x ≥ lo
  · simp only [if_pos h, decide_eq_true (show lo ≤ x from h), Bool.true_and]
  · simp only [if_neg h, decide_eq_false (show ¬ lo ≤ x from h), Bool.false_and]

/-! what is known of neighbours, and what is kept for them -/
abbrev WI := S65
theorem rdWI (l : List WI) (i : Nat) (h : i < l.length) : rd_T65 l (i : Int) = l[i] := by
  unfold rd_T65
  rw [Int.toNat_natCast, List.getD_eq_getElem?_getD, List.getElem?_eq_getElem h]; rfl
abbrev NE := S63
theorem rdNE (l : List NE) (i : Nat) (h : i < l.length) : rd_T63 l (i : Int) = l[i] := by
  unfold rd_T63
  rw [Int.toNat_natCast, List.getD_eq_getElem?_getD, List.getElem?_eq_getElem h]; rfl
def nfit (e : List NE) (h : List WI) : Prop := e.length ≤ 1048576 ∧ h.length ≤ 1048576 ∧ ∀ z ∈ h, z.f1.length ≤ 1048576

/-! what a station knows and keeps: whether it is ok, who has an address -/
theorem impl_word_ (x : Int) : impl_word.f x = some (inb x 0 65535) := by unfold impl_word.f; rw [impl_in_]; rfl
def entOk (z : NE) : Bool := inb z.f0 0 65535 && (inb z.f1 0 254 && inb z.f2 0 1000000)
def entsOk : List NE → List NE → Bool
  | _, [] => true
  | p, z :: l => entOk z && (!p.any (fun y => y.f0 == z.f0) && entsOk (p ++ [z]) l)
def heldOk (z : WI) : Bool := inb z.f0 0 65535 && !decide ((z.f1.length : Int) > 64)
def nearOk (e : List NE) (h : List WI) : Bool := entsOk [] e && (decide ((e.length : Int) ≤ 4) && (decide ((h.length : Int) ≤ 4) && h.all heldOk))
theorem at_any (a : Int) (l : List NE) : ∀ j : Nat, (l.any (fun y => y.f0 == a) = true → (j : Int) ≤ impl_Near_at_ix.at a j l ∧ impl_Near_at_ix.at a j l < j + l.length) ∧ (l.any (fun y => y.f0 == a) = false → impl_Near_at_ix.at a j l = -1) := by
  induction l with
  | nil => intro j; simp [impl_Near_at_ix.at]
  | cons z l ih =>
    intro j
    have h := ih (j + 1)
    simp only [List.any_cons, impl_Near_at_ix.at, List.length_cons]
    cases hz : (z.f0 == a)
    · simp only [Bool.false_or, Bool.false_eq_true, if_false]
      refine ⟨fun ha => ?_, h.2⟩
      have := h.1 ha
      omega
    · simp only [Bool.true_or, if_true]
      exact ⟨fun _ => by omega, fun hf => by cases hf⟩
theorem at_app (a : Int) (p q : List NE) : ∀ j : Nat, impl_Near_at_ix.at a j (p ++ q) = if p.any (fun y => y.f0 == a) = true then impl_Near_at_ix.at a j p else impl_Near_at_ix.at a (j + p.length) q := by
  induction p with
  | nil => intro j; simp
  | cons z p ih =>
    intro j
    by_cases hz : (z.f0 == a) = true
    · have h1 : (z :: p).any (fun y => y.f0 == a) = true := by rw [List.any_cons, hz, Bool.true_or]
      rw [if_pos h1]
      simp only [List.cons_append, impl_Near_at_ix.at]
      rw [if_pos hz, if_pos hz]
    · have h1 : (z :: p).any (fun y => y.f0 == a) = p.any (fun y => y.f0 == a) := by rw [List.any_cons, Bool.eq_false_iff.2 hz, Bool.false_or]
      by_cases hp : p.any (fun y => y.f0 == a) = true
      · rw [if_pos (h1.trans hp)]
        simp only [List.cons_append, impl_Near_at_ix.at]
        rw [if_neg hz, if_neg hz, ih, if_pos hp]
      · rw [if_neg (by rw [h1]; exact hp)]
        simp only [List.cons_append, impl_Near_at_ix.at]
        rw [if_neg hz, ih, if_neg hp, List.length_cons, show j + 1 + p.length = j + (p.length + 1) by omega]
theorem at_lt (e : List NE) (i : Nat) (h : i < e.length) : decide (impl_Near_at_ix.at e[i].f0 0 e < (i : Int)) = (e.take i).any (fun y => y.f0 == e[i].f0) := by
  have he : e = e.take i ++ e[i] :: e.drop (i + 1) := by rw [← List.drop_eq_getElem_cons h, List.take_append_drop]
  have h1 := at_app e[i].f0 (e.take i) (e[i] :: e.drop (i + 1)) 0
  rw [← he] at h1
  rw [h1]
  have hl : (e.take i).length = i := by rw [List.length_take]; omega
  cases ha : (e.take i).any (fun y => y.f0 == e[i].f0)
  · simp only [Bool.false_eq_true, if_false, impl_Near_at_ix.at, beq_self_eq_true, if_true]
    rw [hl]; exact decide_eq_false (by omega)
  · simp only [if_true]
    have := (at_any e[i].f0 (e.take i) 0).1 ha
    exact decide_eq_true (by omega)
theorem impl_at_ (e : List NE) (h : List WI) (a : Int) (he : e.length ≤ 1048576) : impl_Near_at.f e h a = some (impl_Near_at_ix.at a 0 e) := by
  unfold impl_Near_at.f; rw [if_pos (by omega)]
theorem clo_ (z : WI) : impl_NearOk_1.f z.f0 z.f1 = some (!heldOk z) := by
  unfold impl_NearOk_1.f heldOk
  rw [impl_word_]
  cases inb z.f0 0 65535 <;> simp
theorem heldIx_l (h : List WI) (hl : h.length ≤ 1048576) (d : Nat) : ∀ i : Nat, i + d = h.length → ∃ v, Ev (fun k => impl_NearHeld_71.l0 k h (h.length : Int) (i : Int)) v ∧ decide (v ≥ 0) = !(h.drop i).all heldOk := by
  induction d with
  | zero =>
    intro i hi
    refine ⟨-1, Ev.succ ?_, ?_⟩
    · simp only [impl_NearHeld_71.l0, if_neg (show ¬ (i : Int) < (h.length : Int) by omega)]; exact Ev.now _
    · rw [List.drop_of_length_le (by omega)]; rfl
  | succ d ih =>
    intro i hi
    have hlt : i < h.length := by omega
    obtain ⟨v, e, hv⟩ := ih (i + 1) (by omega)
    cases hz : heldOk h[i]
    · refine ⟨i, Ev.succ ?_, ?_⟩
      · simp only [impl_NearHeld_71.l0, if_pos (show (i : Int) < (h.length : Int) by omega), if_pos (show (0 : Int) ≤ (i : Int) by omega), rdWI h i hlt, clo_, hz, Option.bind_some, Bool.not_false, if_true]
        exact Ev.now _
      · rw [List.drop_eq_getElem_cons hlt, List.all_cons, hz]; simp
    · refine ⟨v, Ev.succ ?_, ?_⟩
      · simp only [impl_NearHeld_71.l0, if_pos (show (i : Int) < (h.length : Int) by omega), if_pos (show (0 : Int) ≤ (i : Int) by omega), rdWI h i hlt, clo_, hz, Option.bind_some, Bool.not_true, Bool.false_eq_true, if_false]
        rw [wrap_id (by omega) (by omega)]
        exact e
      · rw [List.drop_eq_getElem_cons hlt, List.all_cons, hz, Bool.true_and]; exact hv
theorem heldHas (h : List WI) (hl : h.length ≤ 1048576) : Ev (fun k => impl_NearHeld_40.f k h) (!h.all heldOk) := by
  obtain ⟨v, e, hv⟩ := heldIx_l h hl h.length 0 (by omega)
  rw [List.drop_zero] at hv
  unfold impl_NearHeld_40.f impl_NearHeld_71.f
  refine Ev.bind e ?_
  rw [hv]; exact Ev.now _
theorem impl_ok_l (e : List NE) (h : List WI) (he : e.length ≤ 1048576) (hh : h.length ≤ 1048576) (d : Nat) : ∀ i : Nat, i + d = e.length →
    Ev (fun k => impl_NearOk.l0 k e (e.length : Int) (i : Int) e h) (entsOk (e.take i) (e.drop i) && (decide ((e.length : Int) ≤ 4) && (decide ((h.length : Int) ≤ 4) && h.all heldOk))) := by
  induction d with
  | zero =>
    intro i hi
    refine Ev.succ ?_
    rw [List.drop_of_length_le (by omega)]
    simp only [impl_NearOk.l0, if_neg (show ¬ (i : Int) < (e.length : Int) by omega), entsOk, Bool.true_and]
    by_cases h1 : (e.length : Int) ≤ 4
    · by_cases h2 : (h.length : Int) ≤ 4
      · simp only [if_pos h1, if_pos h2, decide_eq_true h1, decide_eq_true h2, Bool.true_and]
        refine Ev.bind (heldHas h hh) ?_
        rw [Bool.not_not]; exact Ev.now _
      · simp only [if_pos h1, if_neg h2, decide_eq_true h1, decide_eq_false h2, Bool.true_and, Bool.false_and]; exact Ev.now _
    · simp only [if_neg h1, decide_eq_false h1, Bool.false_and]; exact Ev.now _
  | succ d ih =>
    intro i hi
    have hlt : i < e.length := by omega
    have h1 := ih (i + 1) (by omega)
    rw [List.drop_eq_getElem_cons hlt, entsOk, ← List.take_succ_eq_append_getElem hlt]
    have j : ∀ v : Bool, Ev (fun k => impl_NearOk.j1 k e (e.length : Int) (i : Int) v e h) (!v && (entsOk (e.take (i + 1)) (e.drop (i + 1)) && (decide ((e.length : Int) ≤ 4) && (decide ((h.length : Int) ≤ 4) && h.all heldOk)))) := by
      intro v
      refine Ev.succ ?_
      cases v
      · simp only [impl_NearOk.j1, Bool.false_eq_true, if_false, Bool.not_false, Bool.true_and]
        rw [wrap_id (by omega) (by omega)]
        exact h1
      · simp only [impl_NearOk.j1, if_true, Bool.not_true, Bool.false_and]; exact Ev.now _
    refine Ev.succ ?_
    simp only [impl_NearOk.l0, if_pos (show (i : Int) < (e.length : Int) by omega), if_pos (show (0 : Int) ≤ (i : Int) by omega), rdNE e i hlt, impl_word_, impl_in_, impl_at_ e h _ he, Option.bind_some, at_lt e i hlt, entOk]
    cases inb e[i].f0 0 65535
    · simp only [Bool.false_eq_true, if_false, Bool.false_and]; exact j true
    · cases inb e[i].f1 0 254
      · simp only [if_true, Bool.false_eq_true, if_false, Bool.false_and, Bool.and_false]; exact j true
      · cases inb e[i].f2 0 1000000
        · simp only [if_true, Bool.false_eq_true, if_false, Bool.false_and, Bool.and_false]; exact j true
        · simp only [if_true, Bool.true_and]
          have := j ((e.take i).any (fun y => y.f0 == e[i].f0))
          rw [← Bool.and_assoc] at this
          exact this
theorem impl_ok (e : List NE) (h : List WI) (he : e.length ≤ 1048576) (hh : h.length ≤ 1048576) : Ev (fun k => impl_NearOk.f k e h) (nearOk e h) := by
  unfold impl_NearOk.f nearOk
  have := impl_ok_l e h he hh e.length 0 (by omega)
  rw [List.take_zero, List.drop_zero] at this
  exact this
theorem spec_ok_l2 (e : List NE) (h : List WI) (he : e.length ≤ 1048576) (hh : h.length ≤ 1048576) (d : Nat) : ∀ i : Nat, i + d = h.length →
    Ev (fun k => spec_NearOk.l2 k (i : Int) e h) ((h.drop i).all heldOk && (decide ((e.length : Int) ≤ 4) && decide ((h.length : Int) ≤ 4))) := by
  induction d with
  | zero =>
    intro i hi
    refine Ev.succ ?_
    rw [List.drop_of_length_le (by omega)]
    simp only [spec_NearOk.l2, if_neg (show ¬ (i : Int) < (h.length : Int) by omega), List.all_nil, Bool.true_and]
    by_cases h1 : (e.length : Int) ≤ 4
    · simp only [if_pos h1, decide_eq_true h1, Bool.true_and]; exact Ev.now _
    · simp only [if_neg h1, decide_eq_false h1, Bool.false_and]; exact Ev.now _
  | succ d ih =>
    intro i hi
    have hlt : i < h.length := by omega
    have h1 := ih (i + 1) (by omega)
    rw [List.drop_eq_getElem_cons hlt, List.all_cons]
    refine Ev.succ ?_
    simp only [spec_NearOk.l2, if_pos (show (i : Int) < (h.length : Int) by omega), if_pos (show (0 : Int) ≤ (i : Int) by omega), rdWI h i hlt, spec_in_, Option.bind_some, heldOk]
    cases inb h[i].f0 0 65535
    · simp only [Bool.false_eq_true, if_false, Bool.false_and]; exact Ev.now _
    · by_cases h9 : (h[i].f1.length : Int) > 64
      · simp only [if_true, if_pos h9, decide_eq_true h9, Bool.not_true, Bool.and_false, Bool.false_and]; exact Ev.now _
      · simp only [if_true, if_neg h9, decide_eq_false h9, Bool.not_false, Bool.and_true, Bool.true_and]
        rw [wrap_id (by omega) (by omega)]
        exact h1
theorem spec_ok_l1 (e : List NE) (h : List WI) (he : e.length ≤ 1048576) (i : Nat) (hi : i < e.length) (R : Bool) (hR : Ev (fun k => spec_NearOk.l0 k ((i + 1 : Nat) : Int) e h) R) (d : Nat) : ∀ j : Nat, j + d = i →
    Ev (fun k => spec_NearOk.l1 k (i : Int) (j : Int) e h e[i].f0 e[i].f1 e[i].f2) (!((e.take i).drop j).any (fun y => y.f0 == e[i].f0) && R) := by
  induction d with
  | zero =>
    intro j hj
    refine Ev.succ ?_
    rw [List.drop_of_length_le (by rw [List.length_take]; omega)]
    simp only [spec_NearOk.l1, if_neg (show ¬ (j : Int) < (i : Int) by omega), List.any_nil, Bool.not_false, Bool.true_and]
    rw [wrap_id (by omega) (by omega)]
    exact hR
  | succ d ih =>
    intro j hj
    have hlt : j < (e.take i).length := by rw [List.length_take]; omega
    have hlt2 : j < e.length := by omega
    have h1 := ih (j + 1) (by omega)
    rw [List.drop_eq_getElem_cons hlt, List.any_cons, List.getElem_take]
    refine Ev.succ ?_
    simp only [spec_NearOk.l1, if_pos (show (j : Int) < (i : Int) by omega), if_pos (show (0 : Int) ≤ (j : Int) by omega), if_pos (show (j : Int) < (e.length : Int) by omega), rdNE e j hlt2]
    by_cases hz : e[j].f0 = e[i].f0
    · simp only [if_pos hz, hz, beq_self_eq_true, Bool.true_or, Bool.not_true, Bool.false_and]; exact Ev.now _
    · have hb : (e[j].f0 == e[i].f0) = false := beq_eq_false_iff_ne.2 hz
      simp only [if_neg hz, hb, Bool.false_or]
      rw [wrap_id (by omega) (by omega)]
      exact h1
theorem spec_ok_l (e : List NE) (h : List WI) (he : e.length ≤ 1048576) (hh : h.length ≤ 1048576) (d : Nat) : ∀ i : Nat, i + d = e.length →
    Ev (fun k => spec_NearOk.l0 k (i : Int) e h) (entsOk (e.take i) (e.drop i) && (h.all heldOk && (decide ((e.length : Int) ≤ 4) && decide ((h.length : Int) ≤ 4)))) := by
  induction d with
  | zero =>
    intro i hi
    refine Ev.succ ?_
    rw [List.drop_of_length_le (by omega)]
    simp only [spec_NearOk.l0, if_neg (show ¬ (i : Int) < (e.length : Int) by omega), entsOk, Bool.true_and]
    have := spec_ok_l2 e h he hh h.length 0 (by omega)
    rw [List.drop_zero] at this
    exact this
  | succ d ih =>
    intro i hi
    have hlt : i < e.length := by omega
    have h1 := ih (i + 1) (by omega)
    rw [List.drop_eq_getElem_cons hlt, entsOk, ← List.take_succ_eq_append_getElem hlt]
    have j : ∀ v : Bool, Ev (fun k => spec_NearOk.j1 k (i : Int) v e h e[i].f0 e[i].f1 e[i].f2) (!v && (!(e.take i).any (fun y => y.f0 == e[i].f0) && (entsOk (e.take (i + 1)) (e.drop (i + 1)) && (h.all heldOk && (decide ((e.length : Int) ≤ 4) && decide ((h.length : Int) ≤ 4)))))) := by
      intro v
      refine Ev.succ ?_
      cases v
      · simp only [spec_NearOk.j1, Bool.false_eq_true, if_false, Bool.not_false, Bool.true_and]
        have := spec_ok_l1 e h he i hlt _ h1 i 0 (by omega)
        rw [List.drop_zero] at this
        exact this
      · simp only [spec_NearOk.j1, if_true, Bool.not_true, Bool.false_and]; exact Ev.now _
    refine Ev.succ ?_
    simp only [spec_NearOk.l0, if_pos (show (i : Int) < (e.length : Int) by omega), if_pos (show (0 : Int) ≤ (i : Int) by omega), rdNE e i hlt, spec_in_, Option.bind_some, entOk]
    cases inb e[i].f0 0 65535
    · simp only [Bool.false_eq_true, if_false, Bool.false_and]; exact j true
    · cases inb e[i].f1 0 254
      · simp only [if_true, Bool.false_eq_true, if_false, Bool.false_and, Bool.and_false]; exact j true
      · cases inb e[i].f2 0 1000000
        · simp only [if_true, Bool.false_and, Bool.and_false, Bool.not_false]; exact j true
        · simp only [if_true, Bool.true_and, Bool.not_true]
          have := j false
          rw [Bool.not_false, Bool.true_and, ← Bool.and_assoc] at this
          exact this
theorem spec_ok (e : List NE) (h : List WI) (he : e.length ≤ 1048576) (hh : h.length ≤ 1048576) : Ev (fun k => spec_NearOk.f k e h) (nearOk e h) := by
  unfold spec_NearOk.f nearOk
  have := spec_ok_l e h he hh e.length 0 (by omega)
  rw [List.take_zero, List.drop_zero] at this
  rw [show (decide ((e.length : Int) ≤ 4) && (decide ((h.length : Int) ≤ 4) && h.all heldOk)) = (h.all heldOk && (decide ((e.length : Int) ≤ 4) && decide ((h.length : Int) ≤ 4))) by cases h.all heldOk <;> cases decide ((e.length : Int) ≤ 4) <;> cases decide ((h.length : Int) ≤ 4) <;> rfl]
  exact this
/-! who has an address -/
def findN (a now : Int) : List NE → Int
  | [] => -1
  | z :: l => if z.f0 = a then (if z.f2 > now then z.f1 else findN a now l) else findN a now l
def findI (a now : Int) : List NE → Int
  | [] => -1
  | z :: l => if z.f0 = a then (if z.f2 > now then z.f1 else -1) else findI a now l
theorem ents_not (a now : Int) (l : List NE) : ∀ p, entsOk p l = true → p.any (fun y => y.f0 == a) = true → findN a now l = -1 := by
  induction l with
  | nil => intro p _ _; rfl
  | cons z l ih =>
    intro p h hp
    simp only [entsOk, Bool.and_eq_true, Bool.not_eq_true'] at h
    obtain ⟨_, h2, h3⟩ := h
    have hz : ¬ z.f0 = a := by intro hz; rw [hz, hp] at h2; cases h2
    rw [findN, if_neg hz]
    exact ih (p ++ [z]) h3 (by rw [List.any_append, hp, Bool.true_or])
theorem find_eq (a now : Int) (l : List NE) : ∀ p, entsOk p l = true → findI a now l = findN a now l := by
  induction l with
  | nil => intro p _; rfl
  | cons z l ih =>
    intro p h
    simp only [entsOk, Bool.and_eq_true, Bool.not_eq_true'] at h
    obtain ⟨_, h2, h3⟩ := h
    rw [findI, findN]
    by_cases hz : z.f0 = a
    · rw [if_pos hz, if_pos hz, ents_not a now l (p ++ [z]) h3 (by simp [hz])]
    · rw [if_neg hz, if_neg hz]; exact ih _ h3
theorem at_get (a now : Int) (l : List NE) : ∀ j : Nat, (impl_Near_at_ix.at a j l = -1 ∧ findI a now l = -1) ∨ ∃ i : Nat, ∃ h : i < l.length, impl_Near_at_ix.at a j l = ((j + i : Nat) : Int) ∧ findI a now l = if l[i].f2 > now then l[i].f1 else -1 := by
  induction l with
  | nil => intro j; exact Or.inl ⟨rfl, rfl⟩
  | cons z l ih =>
    intro j
    simp only [impl_Near_at_ix.at, findI]
    by_cases hz : z.f0 = a
    · rw [if_pos (beq_iff_eq.2 hz), if_pos hz]
      exact Or.inr ⟨0, by simp, by simp, by simp⟩
    · rw [if_neg (by simpa using hz), if_neg hz]
      rcases ih (j + 1) with h | ⟨i, hi, h1, h2⟩
      · exact Or.inl h
      · exact Or.inr ⟨i + 1, by simpa using hi, by rw [h1]; congr 1; omega, by rw [h2]; simp⟩
theorem impl_find (e : List NE) (h : List WI) (a now : Int) (he : e.length ≤ 1048576) (hok : entsOk [] e = true) : impl_Near_find.f e h a now = some (findN a now e) := by
  unfold impl_Near_find.f
  rw [impl_at_ e h a he, ← find_eq a now e [] hok]
  simp only [Option.bind_some]
  rcases at_get a now e 0 with ⟨h1, h2⟩ | ⟨i, hi, h1, h2⟩
  · rw [h1, h2]; rfl
  · rw [h1, h2, Nat.zero_add]
    simp only [if_pos (show (i : Int) ≥ 0 by omega), if_pos (show (0 : Int) ≤ (i : Int) by omega), if_pos (show (i : Int) < (e.length : Int) by omega), rdNE e i hi]
    split <;> rfl
theorem spec_find_l (e : List NE) (h : List WI) (a now : Int) (he : e.length ≤ 1048576) (hh : h.length ≤ 1048576) (hok : nearOk e h = true) (d : Nat) : ∀ i : Nat, i + d = e.length →
    Ev (fun k => spec_NearFind.l0 k a now (i : Int) e h) (findN a now (e.drop i)) := by
  induction d with
  | zero =>
    intro i hi
    refine Ev.succ ?_
    rw [List.drop_of_length_le (by omega)]
    simp only [spec_NearFind.l0, if_neg (show ¬ (i : Int) < (e.length : Int) by omega)]
    refine Ev.succ ?_
    simp only [spec_NearFind.j1, Bool.false_eq_true, if_false, findN]
    exact Ev.now _
  | succ d ih =>
    intro i hi
    have hlt : i < e.length := by omega
    have h1 := ih (i + 1) (by omega)
    have hs := spec_ok e h he hh
    rw [hok] at hs
    refine Ev.succ ?_
    simp only [spec_NearFind.l0, if_pos (show (i : Int) < (e.length : Int) by omega)]
    refine Ev.bind hs ?_
    refine Ev.succ ?_
    simp only [spec_NearFind.j1, if_true, if_pos (show (i : Int) < (e.length : Int) by omega), if_pos (show (0 : Int) ≤ (i : Int) by omega), rdNE e i hlt]
    rw [wrap_id (by omega) (by omega), List.drop_eq_getElem_cons hlt, findN]
    by_cases hz : e[i].f0 = a
    · simp only [if_pos hz]
      by_cases hn : e[i].f2 > now
      · simp only [if_pos hn]; exact Ev.now _
      · simp only [if_neg hn]; exact h1
    · simp only [if_neg hz]; exact h1
theorem spec_find (e : List NE) (h : List WI) (a now : Int) (he : e.length ≤ 1048576) (hh : h.length ≤ 1048576) (hok : nearOk e h = true) : Ev (fun k => spec_NearFind.f k e h a now) (findN a now e) := by
  unfold spec_NearFind.f
  have := spec_find_l e h a now he hh hok e.length 0 (by omega)
  rw [List.drop_zero] at this
  exact this
/-! copies -/
theorem clone_byte_n (l : List Int) (h : l.length ≤ 10000000) : impl_clone_byte.f l = some l := by
  unfold impl_clone_byte.f; rw [if_pos (by omega)]
theorem impl_ncopy_l (h : List WI) (e : List NE) (hl : h.length ≤ 2000000) (hb : ∀ z ∈ h, z.f1.length ≤ 2000000) (d : Nat) : ∀ i : Nat, i + d = h.length →
    Ev (fun k => impl_Near_copy.l0 k h (h.length : Int) (i : Int) e (h.take i)) (e, h) := by
  induction d with
  | zero =>
    intro i hi
    obtain rfl : i = h.length := by omega
    refine Ev.succ ?_
    rw [List.take_length]
    simp only [impl_Near_copy.l0, if_neg (show ¬ (h.length : Int) < (h.length : Int) by omega)]
    exact Ev.now _
  | succ d ih =>
    intro i hi
    have hi2 : i < h.length := by omega
    have hz := hb _ (List.getElem_mem hi2)
    have ev := ih (i + 1) (by omega)
    have ht : h.take (i + 1) = h.take i ++ [(⟨h[i].f0, h[i].f1⟩ : WI)] := List.take_succ_eq_append_getElem hi2
    refine Ev.succ ?_
    simp only [impl_Near_copy.l0, if_pos (show (i : Int) < (h.length : Int) by omega), if_pos (show (0 : Int) ≤ (i : Int) by omega), rdWI h i hi2, clone_byte_n h[i].f1 (by omega), Option.bind_some, if_pos (show (h.take i).length < 4398046511104 by rw [List.length_take]; omega)]
    rw [wrap_id (by omega) (by omega), ← ht]
    exact ev
theorem impl_ncopy (e : List NE) (h : List WI) (he : e.length ≤ 2000000) (hl : h.length ≤ 2000000) (hb : ∀ z ∈ h, z.f1.length ≤ 2000000) : Ev (fun k => impl_Near_copy.f k e h) (e, h) := by
  unfold impl_Near_copy.f impl_NearEntry_72.f
  rw [if_pos (by omega)]
  simp only [Option.bind_some]
  have := impl_ncopy_l h e hl hb h.length 0 (by omega)
  rw [List.take_zero] at this
  exact this
theorem spec_ncopy_l (h : List WI) (e e' : List NE) (hl : h.length ≤ 2000000) (hb : ∀ z ∈ h, z.f1.length ≤ 2000000) (d : Nat) : ∀ i : Nat, i + d = h.length →
    Ev (fun k => spec_l3Copy.l0 k (i : Int) e' h e (h.take i)) (e, h) := by
  induction d with
  | zero =>
    intro i hi
    obtain rfl : i = h.length := by omega
    refine Ev.succ ?_
    rw [List.take_length]
    simp only [spec_l3Copy.l0, if_neg (show ¬ (h.length : Int) < (h.length : Int) by omega)]
    exact Ev.now _
  | succ d ih =>
    intro i hi
    have hi2 : i < h.length := by omega
    have hz := hb _ (List.getElem_mem hi2)
    have ev := ih (i + 1) (by omega)
    have ht : h.take (i + 1) = h.take i ++ [(⟨h[i].f0, h[i].f1⟩ : WI)] := List.take_succ_eq_append_getElem hi2
    refine Ev.succ ?_
    simp only [spec_l3Copy.l0, if_pos (show (i : Int) < (h.length : Int) by omega), if_pos (show (0 : Int) ≤ (i : Int) by omega), rdWI h i hi2, Option.bind_some, if_pos (show ([] : List Int).length + h[i].f1.length < 140737488355328 by rw [List.length_nil]; omega), if_pos (show (h.take i).length < 4398046511104 by rw [List.length_take]; omega), List.nil_append]
    rw [wrap_id (by omega) (by omega), ← ht]
    exact ev
theorem spec_ncopy (e : List NE) (h : List WI) (he : e.length ≤ 2000000) (hl : h.length ≤ 2000000) (hb : ∀ z ∈ h, z.f1.length ≤ 2000000) : Ev (fun k => spec_l3Copy.f k e h) (e, h) := by
  unfold spec_l3Copy.f
  simp only [Option.bind_some, if_pos (show ([] : List NE).length + e.length < 5864062014805 by rw [List.length_nil]; omega), List.nil_append]
  have := spec_ncopy_l h e e hl hb h.length 0 (by omega)
  rw [List.take_zero] at this
  exact this
/-! what is sent -/
def sendN (e : List NE) (h : List WI) (a : Int) (d : List Int) (now : Int) : List NE × List WI × Int :=
  if (nearOk e h && (inb a 0 65535 && (!decide ((d.length : Int) > 64) && inb now 0 999980))) = true then
    (if findN a now e ≥ 0 then (e, h, findN a now e) else (e, (h ++ [(⟨a, d⟩ : WI)]).drop (h.length + 1 - 4), -1))
  else ([], [], -1)
theorem nearOk_bounds {e : List NE} {h : List WI} (hok : nearOk e h = true) : entsOk [] e = true ∧ e.length ≤ 4 ∧ h.length ≤ 4 := by
  unfold nearOk at hok
  simp only [Bool.and_eq_true, decide_eq_true_eq] at hok
  exact ⟨hok.1, by omega, by omega⟩
theorem sendN_fit (e : List NE) (h : List WI) (a : Int) (d : List Int) (now : Int) (f : nfit e h) (hd : d.length ≤ 1048576) : nfit (sendN e h a d now).1 (sendN e h a d now).2.1 := by
  unfold sendN
  split
  · rename_i hc
    simp only [Bool.and_eq_true] at hc
    have hb := nearOk_bounds hc.1
    split
    · exact f
    · refine ⟨f.1, ?_, ?_⟩
      · simp only [List.length_drop, List.length_append, List.length_singleton]; omega
      · intro z hz
        have hz2 := List.mem_of_mem_drop hz
        rw [List.mem_append, List.mem_singleton] at hz2
        rcases hz2 with hz2 | rfl
        · exact f.2.2 z hz2
        · exact hd
  · exact ⟨by simp, by simp, by simp⟩
theorem spec_nsend (e : List NE) (h : List WI) (a : Int) (d : List Int) (now : Int) (f : nfit e h) (hd : d.length ≤ 1048576) : Ev (fun k => spec_NearSend.f k e h a d now) (sendN e h a d now) := by
  obtain ⟨f1, f2, f3⟩ := f
  unfold spec_NearSend.f sendN
  refine Ev.bind (spec_ok e h f1 f2) ?_
  have no : Ev (fun k => spec_NearSend.j0 k a d now true e h) (([], [], -1) : List NE × List WI × Int) := by
    refine Ev.succ ?_
    simp only [spec_NearSend.j0, if_true]; exact Ev.now _
  cases hok : nearOk e h
  · simp only [Bool.false_and, Bool.false_eq_true, if_false]; exact no
  · have hb := nearOk_bounds hok
    have hm2 : ∀ z ∈ h, z.f1.length ≤ 2000000 := fun z hz => by have := f3 z hz; omega
    simp only [if_true, spec_in_, Option.bind_some, Bool.true_and]
    cases inb a 0 65535
    · simp only [Bool.false_and, Bool.false_eq_true, if_false]; exact no
    · by_cases h9 : (d.length : Int) > 64
      · simp only [if_true, if_pos h9, decide_eq_true h9, Bool.not_true, Bool.false_and, Bool.and_false, Bool.false_eq_true, if_false]; exact no
      · simp only [if_true, if_neg h9, decide_eq_false h9, Bool.not_false, Bool.true_and]
        cases inb now 0 999980
        · simp only [Bool.false_eq_true, if_false, Bool.not_false]; exact no
        · simp only [if_true, Bool.not_true]
          refine Ev.succ ?_
          simp only [spec_NearSend.j0, Bool.false_eq_true, if_false]
          refine Ev.bind (spec_ncopy e h (by omega) (by omega) hm2) (Ev.bind (spec_find e h a now f1 f2 hok) ?_)
          by_cases hf : findN a now e ≥ 0
          · simp only [if_pos hf]; exact Ev.now _
          · have hl : ((h ++ [(⟨a, d⟩ : WI)]).length : Int) = h.length + 1 := by simp
            simp only [if_neg hf, Option.bind_some, if_pos (show ([] : List Int).length + d.length < 140737488355328 by rw [List.length_nil]; omega), if_pos (show h.length < 4398046511104 by omega), List.nil_append, hl]
            by_cases h4 : (h.length : Int) + 1 > 4
            · simp only [if_pos h4, if_pos (show (1 : Int) ≤ (h.length : Int) + 1 by omega)]
              rw [show h.length + 1 - 4 = (1 : Int).toNat by omega]
              exact Ev.now _
            · simp only [if_neg h4]
              rw [show h.length + 1 - 4 = 0 by omega, List.drop_zero]
              exact Ev.now _

/-! a query is heard -/
def queryOk (q0 q1 q2 q3 : Int) : Bool := (decide (q0 = 1) || decide (q0 = 2)) && (inb q1 0 254 && (inb q2 0 65535 && inb q3 0 65535))
def kepE (a : Int) (e : List NE) : List NE := e.filter (fun z => !decide (z.f0 = a))
def kepH (a : Int) (h : List WI) : List WI := h.filter (fun z => !decide (z.f0 = a))
def sentH (a : Int) (h : List WI) : List (List Int) := (h.filter (fun z => decide (z.f0 = a))).map (fun z => z.f1)
def wantN (e : List NE) (h : List WI) (own q2 q3 : Int) : Bool := (q3 == own) || (e.any (fun z => decide (z.f0 = q2)) || h.any (fun z => decide (z.f0 = q2)))
def lastE (l : List NE) : List NE := l.drop (l.length - 4)
def hearN (e : List NE) (h : List WI) (own q0 q1 q2 q3 now : Int) : List NE × List WI × List (List Int) :=
  if (nearOk e h && (queryOk q0 q1 q2 q3 && inb now 0 999980)) = true then
    (if wantN e h own q2 q3 = true then (lastE (kepE q2 e ++ [(⟨q2, q1, now + 20⟩ : NE)]), kepH q2 h, sentH q2 h) else (e, h, []))
  else ([], [], [])
theorem spec_query (q0 q1 q2 q3 : Int) : spec_QueryOk.f q0 q1 q2 q3 = some (queryOk q0 q1 q2 q3) := by
  unfold spec_QueryOk.f queryOk
  simp only [spec_in_, Option.bind_some]
  by_cases h1 : q0 = 1
  · simp only [if_pos h1, decide_eq_true h1, Bool.true_or, Bool.true_and]
    cases inb q1 0 254 <;> cases inb q2 0 65535 <;> simp
  · by_cases h2 : q0 = 2
    · simp only [if_neg h1, if_pos h2, decide_eq_true h2, Bool.or_true, Bool.true_and]
      cases inb q1 0 254 <;> cases inb q2 0 65535 <;> simp
    · simp only [if_neg h1, if_neg h2, decide_eq_false h1, decide_eq_false h2, Bool.or_self, Bool.false_and]
theorem lastE_app (k : List NE) (z : NE) (h : k.length ≤ 4) : lastE (k ++ [z]) = if ((k ++ [z]).length : Int) > 4 then (k ++ [z]).drop 1 else k ++ [z] := by
  unfold lastE
  simp only [List.length_append, List.length_singleton]
  by_cases h4 : k.length = 4
  · rw [if_pos (by omega), h4]
  · rw [if_neg (by omega), show k.length + 1 - 4 = 0 by omega, List.drop_zero]
theorem spec_nhear_l1 (e : List NE) (h : List WI) (q0 q1 q2 q3 now : Int) (hn : 0 ≤ now ∧ now ≤ 999980) (f : nfit e h) (k : List NE) (hk : k.length ≤ 4) (d : Nat) : ∀ (i : Nat) (w : Bool) (s : List (List Int)) (g : List WI), i + d = h.length → s.length ≤ i → g.length ≤ i →
    Ev (fun n => spec_NearHear.l1 n now s w (i : Int) e h q0 q1 q2 q3 k g) (if (w || (h.drop i).any (fun z => decide (z.f0 = q2))) = true then (lastE (k ++ [(⟨q2, q1, now + 20⟩ : NE)]), g ++ kepH q2 (h.drop i), s ++ sentH q2 (h.drop i)) else (e, h, [])) := by
  obtain ⟨f1, f2, f3⟩ := f
  induction d with
  | zero =>
    intro i w s g hi hs hg
    refine Ev.succ ?_
    rw [List.drop_of_length_le (by omega)]
    simp only [spec_NearHear.l1, if_neg (show ¬ (i : Int) < (h.length : Int) by omega), List.any_nil, Bool.or_false, kepH, sentH, List.filter_nil, List.map_nil, List.append_nil]
    cases w
    · simp only [Bool.false_eq_true, if_false]
      exact Ev.bind (spec_ncopy e h (by omega) (by omega) (fun z hz => by have := f3 z hz; omega)) (Ev.now _)
    · simp only [if_true, if_pos (show k.length < 5864062014805 by omega), Option.bind_some, wrap_id (x := now + 20) (by omega) (by omega), lastE_app k _ hk]
      by_cases hc : ((k ++ [(⟨q2, q1, now + 20⟩ : NE)]).length : Int) > 4
      · simp only [if_pos hc, if_pos (show (1 : Int) ≤ ((k ++ [(⟨q2, q1, now + 20⟩ : NE)]).length : Int) by omega)]; exact Ev.now _
      · simp only [if_neg hc]; exact Ev.now _
  | succ d ih =>
    intro i w s g hi hs hg
    have hlt : i < h.length := by omega
    have hz := f3 _ (List.getElem_mem hlt)
    refine Ev.succ ?_
    rw [List.drop_eq_getElem_cons hlt]
    simp only [spec_NearHear.l1, if_pos (show (i : Int) < (h.length : Int) by omega), if_pos (show (0 : Int) ≤ (i : Int) by omega), rdWI h i hlt, Option.bind_some, List.length_nil, List.nil_append, if_pos (show 0 + h[i].f1.length < 140737488355328 by omega), if_pos (show s.length < 5864062014805 by omega), if_pos (show g.length < 4398046511104 by omega), List.any_cons, kepH, sentH, List.filter_cons]
    rw [wrap_id (x := (i : Int) + 1) (by omega) (by omega)]
    by_cases c : h[i].f0 = q2
    · have h1 := ih (i + 1) true (s ++ [h[i].f1]) g (by omega) (by simp; omega) (by omega)
      simp only [if_pos c, decide_eq_true c, Bool.true_or, Bool.or_true, if_true, Bool.not_true, Bool.false_eq_true, if_false, List.map_cons]
      simp only [Bool.true_or, if_true, List.append_assoc, List.singleton_append, kepH, sentH] at h1
      exact h1
    · have h1 := ih (i + 1) w s (g ++ [(⟨h[i].f0, h[i].f1⟩ : WI)]) (by omega) (by omega) (by simp; omega)
      simp only [if_neg c, decide_eq_false c, Bool.false_or, Bool.not_false, if_true, Bool.false_eq_true, if_false]
      simp only [List.append_assoc, List.singleton_append, kepH, sentH] at h1
      exact h1
theorem spec_nhear_l0 (e : List NE) (h : List WI) (q0 q1 q2 q3 now : Int) (hn : 0 ≤ now ∧ now ≤ 999980) (f : nfit e h) (he4 : e.length ≤ 4) (d : Nat) : ∀ (i : Nat) (w : Bool) (k : List NE), i + d = e.length → k.length ≤ i →
    Ev (fun n => spec_NearHear.l0 n now [] w (i : Int) e h q0 q1 q2 q3 k) (if (w || ((e.drop i).any (fun z => decide (z.f0 = q2)) || h.any (fun z => decide (z.f0 = q2)))) = true then (lastE (k ++ kepE q2 (e.drop i) ++ [(⟨q2, q1, now + 20⟩ : NE)]), kepH q2 h, sentH q2 h) else (e, h, [])) := by
  induction d with
  | zero =>
    intro i w k hi hk
    refine Ev.succ ?_
    rw [List.drop_of_length_le (by omega)]
    simp only [spec_NearHear.l0, if_neg (show ¬ (i : Int) < (e.length : Int) by omega), List.any_nil, Bool.false_or, kepE, List.filter_nil, List.append_nil]
    have h1 := spec_nhear_l1 e h q0 q1 q2 q3 now hn f k (by omega) h.length 0 w [] [] (by omega) (by simp) (by simp)
    simp only [List.drop_zero, List.nil_append] at h1
    exact h1
  | succ d ih =>
    intro i w k hi hk
    have hlt : i < e.length := by omega
    refine Ev.succ ?_
    rw [List.drop_eq_getElem_cons hlt]
    simp only [spec_NearHear.l0, if_pos (show (i : Int) < (e.length : Int) by omega), if_pos (show (0 : Int) ≤ (i : Int) by omega), rdNE e i hlt, if_pos (show k.length < 5864062014805 by omega), List.any_cons, kepE, List.filter_cons]
    rw [wrap_id (x := (i : Int) + 1) (by omega) (by omega)]
    by_cases c : e[i].f0 = q2
    · have h1 := ih (i + 1) true k (by omega) (by omega)
      simp only [if_pos c, decide_eq_true c, Bool.true_or, Bool.or_true, if_true, Bool.not_true, Bool.false_eq_true, if_false]
      simp only [Bool.true_or, if_true, kepE] at h1
      exact h1
    · have h1 := ih (i + 1) w (k ++ [(⟨e[i].f0, e[i].f1, e[i].f2⟩ : NE)]) (by omega) (by simp; omega)
      simp only [if_neg c, decide_eq_false c, Bool.false_or, Bool.not_false, if_true]
      simp only [List.append_assoc, List.singleton_append, List.cons_append, List.nil_append, kepE] at h1 ⊢
      exact h1
theorem spec_nhear (e : List NE) (h : List WI) (own q0 q1 q2 q3 now : Int) (f : nfit e h) : Ev (fun k => spec_NearHear.f k e h own q0 q1 q2 q3 now) (hearN e h own q0 q1 q2 q3 now) := by
  have no : Ev (fun k => spec_NearHear.j0 k own now [] true e h q0 q1 q2 q3) (([], [], []) : List NE × List WI × List (List Int)) := by
    refine Ev.succ ?_
    simp only [spec_NearHear.j0, if_true]; exact Ev.now _
  unfold spec_NearHear.f hearN
  simp only [Option.bind_some]
  refine Ev.bind (spec_ok e h f.1 f.2.1) ?_
  cases hok : nearOk e h
  · simp only [Bool.false_and, Bool.false_eq_true, if_false]; exact no
  · simp only [if_true, spec_query, spec_in_, Option.bind_some, Bool.true_and]
    cases queryOk q0 q1 q2 q3
    · simp only [Bool.false_and, Bool.false_eq_true, if_false]; exact no
    · simp only [if_true, Bool.true_and]
      cases hn : inb now 0 999980
      · simp only [Bool.not_false, Bool.false_eq_true, if_false]; exact no
      · simp only [Bool.not_true, if_true]
        refine Ev.succ ?_
        simp only [spec_NearHear.j0, Bool.false_eq_true, if_false]
        have h1 := spec_nhear_l0 e h q0 q1 q2 q3 now (inb_iff.1 hn) f (nearOk_bounds hok).2.1 e.length 0 (q3 == own) [] (by omega) (by simp)
        simp only [List.drop_zero, List.nil_append] at h1
        exact h1

/-! a query is heard, by the program -/
theorem impl_query (q0 q1 q2 q3 : Int) : impl_QueryOk.f q0 q1 q2 q3 = some (queryOk q0 q1 q2 q3) := by
  have h1 : inb q0 1 2 = (decide (q0 = 1) || decide (q0 = 2)) := by
    unfold inb
    rw [Bool.eq_iff_iff]
    simp only [Bool.and_eq_true, Bool.or_eq_true, decide_eq_true_eq]
    omega
  unfold impl_QueryOk.f queryOk
  simp only [impl_word_, impl_in_, Option.bind_some, h1]
  cases (decide (q0 = 1) || decide (q0 = 2)) <;> cases inb q1 0 254 <;> cases inb q2 0 65535 <;> simp
theorem kepH_sub {a : Int} {h : List WI} {z : WI} (hz : z ∈ kepH a h) : z ∈ h := (List.mem_filter.1 hz).1
theorem kepH_len (a : Int) (h : List WI) : (kepH a h).length ≤ h.length := List.length_filter_le _ _
theorem kepE_len (a : Int) (e : List NE) : (kepE a e).length ≤ e.length := List.length_filter_le _ _
theorem impl_nhear_l (K : List NE) (h : List WI) (q0 q1 q2 q3 : Int) (hK : K.length ≤ 1000) (hh : h.length ≤ 1048576) (hb : ∀ z ∈ h, z.f1.length ≤ 1048576) (d : Nat) : ∀ (i : Nat) (s : List (List Int)), i + d = h.length → s.length ≤ i →
    Ev (fun n => impl_NearHear.l0 n s h (h.length : Int) (i : Int) q0 q1 q2 q3 K h) (K, kepH q2 h, s ++ sentH q2 (h.drop i)) := by
  induction d with
  | zero =>
    intro i s hi hs
    refine Ev.succ ?_
    rw [List.drop_of_length_le (by omega)]
    simp only [impl_NearHear.l0, if_neg (show ¬ (i : Int) < (h.length : Int) by omega), sentH, List.filter_nil, List.map_nil, List.append_nil]
    have e1 := impl_ncopy K (kepH q2 h) (by omega) (by have := kepH_len q2 h; omega) (fun z hz => by have := hb z (kepH_sub hz); omega)
    exact Ev.bind e1 (Ev.now _)
  | succ d ih =>
    intro i s hi hs
    have hlt : i < h.length := by omega
    have hz := hb _ (List.getElem_mem hlt)
    refine Ev.succ ?_
    rw [List.drop_eq_getElem_cons hlt]
    simp only [impl_NearHear.l0, if_pos (show (i : Int) < (h.length : Int) by omega), if_pos (show (0 : Int) ≤ (i : Int) by omega), rdWI h i hlt, impl_NearHear_waits.f, Option.bind_some, sentH, List.filter_cons]
    rw [wrap_id (x := (i : Int) + 1) (by omega) (by omega)]
    by_cases c : h[i].f0 = q2
    · have h1 := ih (i + 1) (s ++ [h[i].f1]) (by omega) (by simp; omega)
      simp only [beq_iff_eq.2 c, if_true, clone_byte_n _ (show h[i].f1.length ≤ 10000000 by omega), Option.bind_some, if_pos (show s.length < 5864062014805 by omega), decide_eq_true c, List.map_cons]
      simp only [List.append_assoc, List.singleton_append, sentH] at h1
      exact h1
    · have h1 := ih (i + 1) s (by omega) (by omega)
      simp only [beq_eq_false_iff_ne.2 c, Bool.false_eq_true, if_false, decide_eq_false c]
      simp only [sentH] at h1
      exact h1
theorem impl_nhear_j1 (e : List NE) (h : List WI) (q0 q1 q2 q3 now : Int) (hn : 0 ≤ now ∧ now ≤ 999980) (f : nfit e h) (he4 : e.length ≤ 4) (v : Bool) :
    Ev (fun n => impl_NearHear.j1 n now v e h q0 q1 q2 q3) (if v = true then (e, h, []) else (lastE (kepE q2 e ++ [(⟨q2, q1, now + 20⟩ : NE)]), kepH q2 h, sentH q2 h)) := by
  obtain ⟨f1, f2, f3⟩ := f
  have hm2 : ∀ z ∈ h, z.f1.length ≤ 2000000 := fun z hz => by have := f3 z hz; omega
  refine Ev.succ ?_
  cases v
  · simp only [impl_NearHear.j1, Bool.false_eq_true, if_false]
    refine Ev.bind (impl_ncopy e h (by omega) (by omega) hm2) ?_
    have hk := kepE_len q2 e
    obtain ⟨k, hkk⟩ : ∃ k, kepE q2 e = k := ⟨_, rfl⟩
    have hkk2 : e.filter (fun h_ => !(h_.f0 == q2)) = k := hkk
    rw [hkk] at hk ⊢
    have hl : ((k ++ [(⟨q2, q1, now + 20⟩ : NE)]).length : Int) = k.length + 1 := by simp
    have hw : mx 0 (wrap64 (((k ++ [(⟨q2, q1, now + 20⟩ : NE)]).length : Int) - 4)) = ((k.length + 1 - 4 : Nat) : Int) := by
      rw [hl, wrap_id (by omega) (by omega)]; unfold mx; split <;> omega
    simp only [hkk2, Option.bind_some, if_pos (show k.length < 5864062014805 by omega), wrap_id (x := now + 20) (by omega) (by omega), hw, Int.toNat_natCast, if_pos (show (0 : Int) ≤ ((k.length + 1 - 4 : Nat) : Int) by omega), if_pos (show ((k.length + 1 - 4 : Nat) : Int) ≤ ((k ++ [(⟨q2, q1, now + 20⟩ : NE)]).length : Int) by rw [hl]; omega)]
    have h1 := impl_nhear_l (lastE (k ++ [(⟨q2, q1, now + 20⟩ : NE)])) h q0 q1 q2 q3 (by unfold lastE; simp only [List.length_drop, List.length_append, List.length_singleton]; omega) f2 f3 h.length 0 [] (by omega) (by simp)
    simp only [List.drop_zero, List.nil_append] at h1
    unfold lastE at h1 ⊢
    simp only [List.length_append, List.length_singleton] at h1 ⊢
    exact h1
  · simp only [impl_NearHear.j1, if_true]
    exact Ev.bind (impl_ncopy e h (by omega) (by omega) hm2) (Ev.now _)
theorem impl_nhear (e : List NE) (h : List WI) (own q0 q1 q2 q3 now : Int) (f : nfit e h) : Ev (fun k => impl_NearHear.f k e h own q0 q1 q2 q3 now) (hearN e h own q0 q1 q2 q3 now) := by
  have no : Ev (fun k => impl_NearHear.j0 k own now true e h q0 q1 q2 q3) (([], [], []) : List NE × List WI × List (List Int)) := by
    refine Ev.succ ?_
    simp only [impl_NearHear.j0, if_true]; exact Ev.now _
  unfold impl_NearHear.f hearN
  refine Ev.bind (impl_ok e h f.1 f.2.1) ?_
  cases hok : nearOk e h
  · simp only [Bool.false_and, Bool.false_eq_true, if_false]; exact no
  · simp only [if_true, impl_query, impl_in_, Option.bind_some, Bool.true_and]
    cases queryOk q0 q1 q2 q3
    · simp only [Bool.false_and, Bool.false_eq_true, if_false]; exact no
    · simp only [if_true, Bool.true_and]
      cases hn : inb now 0 999980
      · simp only [Bool.not_false, Bool.false_eq_true, if_false]; exact no
      · simp only [Bool.not_true, if_true]
        have J := impl_nhear_j1 e h q0 q1 q2 q3 now (inb_iff.1 hn) f (nearOk_bounds hok).2.1
        have ha := at_any q2 e 0
        refine Ev.succ ?_
        simp only [impl_NearHear.j0, Bool.false_eq_true, if_false, impl_at_ e h q2 f.1, Option.bind_some]
        have he : e.any (fun z => decide (z.f0 = q2)) = e.any (fun y => y.f0 == q2) := rfl
        have hw : wantN e h own q2 q3 = ((q3 == own) || (e.any (fun y => y.f0 == q2) || h.any (fun z => z.f0 == q2))) := rfl
        cases hE : e.any (fun y => y.f0 == q2)
        · rw [hE] at hw
          simp only [ha.2 hE, if_pos (show (-1 : Int) < 0 by omega)]
          by_cases hq : q3 = own
          · simp only [if_pos hq]
            have hw2 : wantN e h own q2 q3 = true := by rw [hw, beq_iff_eq.2 hq]; rfl
            rw [hw2, if_pos rfl]
            have := J false
            rwa [if_neg (by decide)] at this
          · simp only [if_neg hq]
            rw [beq_eq_false_iff_ne.2 hq, Bool.false_or, Bool.false_or] at hw
            simp only [impl_NearHear_has.f, Option.bind_some]
            rw [hw]
            have := J (!h.any (fun z => z.f0 == q2))
            cases hH : h.any (fun z => z.f0 == q2)
            · rw [hH] at this
              exact this
            · rw [hH] at this
              exact this
        · have h1 := (ha.1 hE).1
          simp only [if_neg (show ¬ impl_Near_at_ix.at q2 0 e < 0 by omega)]
          have hw2 : wantN e h own q2 q3 = true := by rw [hw, hE, Bool.true_or, Bool.or_true]
          rw [hw2, if_pos rfl]
          have := J false
          rwa [if_neg (by decide)] at this

/-! drawing -/
theorem xor_nn (a b : Int) (a0 : 0 ≤ a) (a1 : a < 9223372036854775808) (b0 : 0 ≤ b) (b1 : b < 9223372036854775808) : 0 ≤ Go.bits .xor .i64 a b ∧ Go.bits .xor .i64 a b < 9223372036854775808 := by
  obtain ⟨x, rfl⟩ := Int.eq_ofNat_of_zero_le a0
  obtain ⟨y, rfl⟩ := Int.eq_ofNat_of_zero_le b0
  have hx : x < 2 ^ 63 := by omega
  have hy : y < 2 ^ 63 := by omega
  have hxy : x ^^^ y < 2 ^ 63 := Nat.xor_lt_two_pow hx hy
  have h1 : (BitVec.ofInt 64 (x : Int)).toNat = x := by
    rw [BitVec.ofInt_natCast, BitVec.toNat_ofNat]; exact Nat.mod_eq_of_lt (by omega)
  have h2 : (BitVec.ofInt 64 (y : Int)).toNat = y := by
    rw [BitVec.ofInt_natCast, BitVec.toNat_ofNat]; exact Nat.mod_eq_of_lt (by omega)
  have h3 : Go.bits .xor .i64 (x : Int) (y : Int) = ((x ^^^ y : Nat) : Int) := by
    show IntKind.i64.wrap ((BitVec.ofInt 64 (x : Int) ^^^ BitVec.ofInt 64 (y : Int)).toNat : Int) = _
    rw [BitVec.toNat_xor, h1, h2, IntKind.wrap_i64]
    omega
  rw [h3]
  omega
theorem tmod_in (x n : Int) (h0 : 0 ≤ x) (hn : 1 ≤ n) : 0 ≤ Int.tmod x n ∧ Int.tmod x n < n := by
  rw [Int.tmod_eq_emod_of_nonneg h0]
  exact ⟨Int.emod_nonneg _ (by omega), Int.emod_lt_of_pos _ (by omega)⟩
theorem tdiv_in (x n : Int) (h0 : 0 ≤ x) (hn : 1 ≤ n) : 0 ≤ Int.tdiv x n ∧ Int.tdiv x n ≤ x := by
  rw [Int.tdiv_eq_ediv_of_nonneg h0]
  exact ⟨Int.ediv_nonneg h0 (by omega), Int.ediv_le_self _ h0⟩
theorem rd_byte {s : List Int} (hb : isBytes s) (i : Int) : 0 ≤ rd s i ∧ rd s i ≤ 255 := by
  unfold rd
  rw [List.getD_eq_getElem?_getD]
  by_cases h : i.toNat < s.length
  · rw [List.getElem?_eq_getElem h]; exact hb _ (List.getElem_mem h)
  · rw [List.getElem?_eq_none (by omega)]; exact ⟨Int.le_refl _, by decide⟩
theorem pick (s : List Int) (p n : Int) (hb : isBytes s) (hl : s.length ≤ 2000) (h0 : 0 ≤ p) (hp : p ≤ 1000000000) (hn : 1 ≤ n) (hn1 : n ≤ 1000000000) :
    ∃ r, Ev (fun k => spec_l20Rd_pick.f k s p n) (r, p + 1) ∧ 0 ≤ r ∧ r < n := by
  unfold spec_l20Rd_pick.f
  simp only [if_neg (show ¬ n < 1 by omega)]
  rw [wrap_id (x := p + 1) (by omega) (by omega)]
  by_cases hs : s.length = 0
  · refine ⟨0, Ev.succ ?_, by omega, by omega⟩
    simp only [spec_l20Rd_pick.j0, hs, Int.natCast_zero, beq_self_eq_true, if_true]
    exact Ev.now _
  · have hz : ((s.length : Int) == 0) = false := by rw [beq_eq_false_iff_ne]; omega
    simp only [hz]
    by_cases h1 : p < (s.length : Int)
    · have hx := rd_byte hb p
      have hm := tmod_in (rd s p) n hx.1 hn
      refine ⟨Int.tmod (rd s p) n, Ev.succ ?_, hm.1, hm.2⟩
      simp only [spec_l20Rd_pick.j0, Bool.false_eq_true, if_false, show p + 1 - 1 = p by omega]
      rw [wrap_id (x := p) (by omega) (by omega), wrap_id (x := rd s p) (by omega) (by omega)]
      simp only [if_pos h1, if_pos h0, if_neg (show ¬ n = 0 by omega)]
      exact Ev.now _
    · have m1 := tmod_in p s.length h0 (by omega)
      have m2 := tmod_in (p * 7 + 3) s.length (by omega) (by omega)
      have d1 := tdiv_in p s.length h0 (by omega)
      have x1 := rd_byte hb (Int.tmod p s.length)
      have x2 := rd_byte hb (Int.tmod (p * 7 + 3) s.length)
      let v := rd s (Int.tmod p s.length) * 131 + rd s (Int.tmod (p * 7 + 3) s.length) * 1117 + p * 29 + Int.tdiv p s.length * 53
      have v0 : 0 ≤ v := by show 0 ≤ _ + _ + _ + _; omega
      have v1 : v < 9223372036854775808 := by show _ + _ + _ + _ < _; omega
      have d2 := tdiv_in v 64 v0 (by omega)
      have b1 := xor_nn v (Int.tdiv v 64) v0 v1 d2.1 (by omega)
      have hm := tmod_in (Go.bits .xor .i64 v (Int.tdiv v 64)) n b1.1 hn
      refine ⟨_, Ev.succ ?_, hm.1, hm.2⟩
      simp only [spec_l20Rd_pick.j0, Bool.false_eq_true, if_false, show p + 1 - 1 = p by omega]
      rw [wrap_id (x := p) (by omega) (by omega)]
      rw [wrap_id (x := p * 7) (by omega) (by omega), wrap_id (x := p * 7 + 3) (by omega) (by omega), wrap_id (x := p * 29) (by omega) (by omega), wrap_id (x := rd s (Int.tmod p s.length)) (by omega) (by omega),
        wrap_id (x := rd s (Int.tmod (p * 7 + 3) s.length)) (by omega) (by omega), wrap_id (x := rd s (Int.tmod p s.length) * 131) (by omega) (by omega), wrap_id (x := rd s (Int.tmod (p * 7 + 3) s.length) * 1117) (by omega) (by omega),
        wrap_id (x := rd s (Int.tmod p s.length) * 131 + rd s (Int.tmod (p * 7 + 3) s.length) * 1117) (by omega) (by omega), wrap_id (x := rd s (Int.tmod p s.length) * 131 + rd s (Int.tmod (p * 7 + 3) s.length) * 1117 + p * 29) (by omega) (by omega),
        wrap_id (x := Int.tdiv p s.length) (by omega) (by omega), wrap_id (x := Int.tdiv p s.length * 53) (by omega) (by omega), wrap_id (x := rd s (Int.tmod p s.length) * 131 + rd s (Int.tmod (p * 7 + 3) s.length) * 1117 + p * 29 + Int.tdiv p s.length * 53) (by omega) (by omega)]
      simp only [if_neg h1, if_neg (show ¬ (s.length : Int) = 0 by omega), if_pos m1.1, if_pos m1.2, if_pos m2.1, if_pos m2.2, if_neg (show ¬ n = 0 by omega)]
      rw [wrap_id (x := Int.tdiv v 64) (by omega) (by omega)]
      exact Ev.now _
theorem odd (s : List Int) (p n : Int) (hb : isBytes s) (hl : s.length ≤ 2000) (h0 : 0 ≤ p) (hp : p ≤ 1000000000) (hn1 : n ≤ 1000000000) :
    ∃ b q, Ev (fun k => spec_l20Rd_odd.f k s p n) (b, q) ∧ 0 ≤ q ∧ q ≤ p + 1 := by
  unfold spec_l20Rd_odd.f
  by_cases h : n > 0
  · simp only [if_pos h]
    obtain ⟨r, e, _, _⟩ := pick s p n hb hl h0 hp (by omega) hn1
    exact ⟨_, _, Ev.bind e (Ev.now _), by omega, by omega⟩
  · simp only [if_neg h]
    exact ⟨_, _, Ev.now _, h0, by omega⟩
theorem open_ (l : List Int) (hb : isBytes l) : ∃ s, spec_l20Open.f l = some (s, 0) ∧ isBytes s ∧ s.length ≤ 2000 := by
  unfold spec_l20Open.f
  by_cases h : (l.length : Int) > 2000
  · simp only [if_pos h, if_pos (show (2000 : Int) ≤ (l.length : Int) by omega)]
    exact ⟨_, rfl, fun x hx => hb x (List.mem_of_mem_take hx), by simp; omega⟩
  · simp only [if_neg h]
    exact ⟨_, rfl, hb, by omega⟩

/-! drawing bytes -/
theorem isBytes_snoc {l : List Int} {v : Int} (h : isBytes l) (hv : 0 ≤ v ∧ v ≤ 255) : isBytes (l ++ [v]) := by
  intro y hy
  rw [List.mem_append] at hy
  rcases hy with hy | hy
  · exact h y hy
  · rw [List.mem_singleton] at hy; omega
theorem bytes_l (s : List Int) (hb : isBytes s) (hl : s.length ≤ 2000) (n : Nat) : ∀ (acc : List Int) (p : Int), isBytes acc → n + acc.length ≤ 100000 → 0 ≤ p → p + 2 * n ≤ 1000000000 →
    ∃ x q, Ev (fun k => spec_l20Rd_bytes.l0 k n acc s p) (x, q) ∧ isBytes x ∧ x.length = n + acc.length ∧ 0 ≤ q ∧ q ≤ p + 2 * n := by
  induction n with
  | zero =>
    intro acc p ha _ h0 _
    refine ⟨acc, p, Ev.succ ?_, ha, by omega, h0, by omega⟩
    simp only [spec_l20Rd_bytes.l0]
    exact Ev.now _
  | succ n ih =>
    intro acc p ha hn h0 hp
    obtain ⟨r1, e1, r10, r11⟩ := pick s p 3 hb hl h0 (by omega) (by omega) (by omega)
    by_cases h1 : r1 = 0
    · obtain ⟨r2, e2, r20, r21⟩ := pick s (p + 1) 256 hb hl (by omega) (by omega) (by omega) (by omega)
      obtain ⟨x, q, e, hx, hxl, hq0, hq1⟩ := ih (acc ++ [r2 % 256]) (p + 1 + 1) (isBytes_snoc ha (by omega)) (by simp; omega) (by omega) (by omega)
      refine ⟨x, q, Ev.succ ?_, hx, by simp at hxl; omega, hq0, by omega⟩
      simp only [spec_l20Rd_bytes.l0, if_pos (show ((n + 1 : Nat) : Int) > 0 by omega)]
      refine Ev.bind e1 ?_
      simp only [if_pos h1]
      refine Ev.bind e2 ?_
      simp only [if_pos (show acc.length < 140737488355328 by omega)]
      rw [wrap_id (x := ((n + 1 : Nat) : Int) - 1) (by omega) (by omega), show ((n + 1 : Nat) : Int) - 1 = (n : Int) by omega]
      exact e
    · obtain ⟨r2, e2, r20, r21⟩ := pick s (p + 1) 3 hb hl (by omega) (by omega) (by omega) (by omega)
      obtain ⟨x, q, e, hx, hxl, hq0, hq1⟩ := ih (acc ++ [wrap64 (r2 + 97) % 256]) (p + 1 + 1) (isBytes_snoc ha (by omega)) (by simp; omega) (by omega) (by omega)
      refine ⟨x, q, Ev.succ ?_, hx, by simp at hxl; omega, hq0, by omega⟩
      simp only [spec_l20Rd_bytes.l0, if_pos (show ((n + 1 : Nat) : Int) > 0 by omega)]
      refine Ev.bind e1 ?_
      simp only [if_neg h1]
      refine Ev.bind e2 ?_
      simp only [if_pos (show acc.length < 140737488355328 by omega)]
      rw [wrap_id (x := ((n + 1 : Nat) : Int) - 1) (by omega) (by omega), show ((n + 1 : Nat) : Int) - 1 = (n : Int) by omega]
      exact e
theorem bytes_ (s : List Int) (n p : Int) (hb : isBytes s) (hl : s.length ≤ 2000) (hn0 : 0 ≤ n) (hn : n ≤ 100000) (h0 : 0 ≤ p) (hp : p ≤ 999000000) :
    ∃ x q, Ev (fun k => spec_l20Rd_bytes.f k s p n) (x, q) ∧ isBytes x ∧ (x.length : Int) = n ∧ 0 ≤ q ∧ q ≤ p + 2 * n := by
  obtain ⟨m, rfl⟩ := Int.eq_ofNat_of_zero_le hn0
  obtain ⟨x, q, e, h1, h2, h3, h4⟩ := bytes_l s hb hl m [] p (by intro y hy; cases hy) (by simp; omega) h0 (by omega)
  exact ⟨x, q, e, h1, by simp at h2; omega, h3, h4⟩

/-! draws, step by step -/
def Dr {α : Type} (f : Nat → Option α) (P : α → Prop) : Prop := ∃ r, Ev f r ∧ P r
theorem Dr.bind {α β : Type} {g : Nat → Option α} {f : Nat → α → Option β} {P : α → Prop} {Q : β → Prop} (h : Dr g P) (k : ∀ r, P r → Dr (fun n => f n r) Q) : Dr (fun n => (g n).bind (f n)) Q := by
  obtain ⟨r, e, hp⟩ := h
  obtain ⟨r2, e2, hq⟩ := k r hp
  exact ⟨r2, Ev.bind e e2, hq⟩
theorem Dr.ev {α : Type} {g : Nat → Option α} {a : α} (e : Ev g a) : Dr g (fun r => r = a) := ⟨a, e, rfl⟩
theorem Dr.now {α : Type} {P : α → Prop} {r : α} (h : P r) : Dr (fun _ => some r) P := ⟨r, Ev.now r, h⟩
theorem Dr.succ {α : Type} {g : Nat → Option α} {P : α → Prop} (h : Dr (fun k => g (k + 1)) P) : Dr g P := by
  obtain ⟨r, e, hp⟩ := h
  exact ⟨r, Ev.succ e, hp⟩
theorem Dr.mono {α : Type} {g : Nat → Option α} {P Q : α → Prop} (h : Dr g P) (k : ∀ r, P r → Q r) : Dr g Q := by
  obtain ⟨r, e, hp⟩ := h
  exact ⟨r, e, k r hp⟩
theorem Dr.ite {α : Type} {c : Prop} [Decidable c] {f g : Nat → Option α} {P : α → Prop} (h : c → Dr f P) (k : ¬ c → Dr g P) : Dr (fun n => if c then f n else g n) P := by
  by_cases hc : c
  · simp only [if_pos hc]; exact h hc
  · simp only [if_neg hc]; exact k hc
theorem Dr.pos {α : Type} {c : Prop} [Decidable c] {f g : Nat → Option α} {P : α → Prop} (hc : c) (h : Dr f P) : Dr (fun n => if c then f n else g n) P := by
  simp only [if_pos hc]; exact h
theorem Dr.neg {α : Type} {c : Prop} [Decidable c] {f g : Nat → Option α} {P : α → Prop} (hc : ¬ c) (h : Dr g P) : Dr (fun n => if c then f n else g n) P := by
  simp only [if_neg hc]; exact h
theorem pick_ {s : List Int} {p n : Int} (hb : isBytes s ∧ s.length ≤ 2000) (h0 : 0 ≤ p ∧ p ≤ 1000000000) (hn : 1 ≤ n ∧ n ≤ 1000000000) :
    Dr (fun k => spec_l20Rd_pick.f k s p n) (fun r => ∃ v, (0 ≤ v ∧ v < n) ∧ r = (v, p + 1)) := by
  obtain ⟨r, e, a, b⟩ := pick s p n hb.1 hb.2 h0.1 h0.2 hn.1 hn.2
  exact ⟨_, e, r, ⟨a, b⟩, rfl⟩
theorem open__ (l : List Int) (hb : isBytes l) : Dr (fun _ => spec_l20Open.f l) (fun r => ∃ s, (isBytes s ∧ s.length ≤ 2000) ∧ r = (s, 0)) := by
  obtain ⟨s, e, h1, h2⟩ := open_ l hb
  exact ⟨_, Ev.pure e, s, ⟨h1, h2⟩, rfl⟩

theorem odd_ {s : List Int} {p n : Int} (hb : isBytes s ∧ s.length ≤ 2000) (h0 : 0 ≤ p ∧ p ≤ 1000000000) (hn : n ≤ 1000000000) :
    Dr (fun k => spec_l20Rd_odd.f k s p n) (fun r => ∃ b q, (p ≤ q ∧ q ≤ p + 1 ∧ (n ≤ 0 → b = false)) ∧ r = (b, q)) := by
  unfold spec_l20Rd_odd.f
  refine Dr.ite (fun h => ?_) (fun h => ?_)
  · refine Dr.bind (pick_ hb h0 ⟨by omega, hn⟩) ?_
    rintro _ ⟨v, ⟨a, b⟩, rfl⟩
    exact Dr.now ⟨_, _, ⟨by dsimp only; omega, by dsimp only; omega, fun h2 => by omega⟩, rfl⟩
  · exact Dr.now ⟨_, _, ⟨by omega, by omega, fun _ => rfl⟩, rfl⟩

theorem bytes__ {s : List Int} {n p : Int} (hb : isBytes s ∧ s.length ≤ 2000) (hn : 0 ≤ n ∧ n ≤ 100000) (h0 : 0 ≤ p ∧ p ≤ 999000000) :
    Dr (fun k => spec_l20Rd_bytes.f k s p n) (fun r => ∃ x q, (isBytes x ∧ (x.length : Int) = n ∧ p ≤ q ∧ q ≤ p + 2 * n) ∧ r = (x, q)) := by
  have hm : ∀ (m : Nat) (acc : List Int) (p : Int), isBytes acc → m + acc.length ≤ 100000 → 0 ≤ p ∧ p + 2 * m ≤ 1000000000 →
      Dr (fun k => spec_l20Rd_bytes.l0 k m acc s p) (fun r => ∃ x q, (isBytes x ∧ x.length = m + acc.length ∧ p ≤ q ∧ q ≤ p + 2 * m) ∧ r = (x, q)) := by
    intro m
    induction m with
    | zero =>
      intro acc p ha _ h0
      refine Dr.succ ?_
      simp only [spec_l20Rd_bytes.l0]
      exact Dr.now ⟨_, _, ⟨ha, by omega, by omega, by omega⟩, rfl⟩
    | succ m ih =>
      intro acc p ha hn h0
      have e : wrap64 (((m + 1 : Nat) : Int) - 1) = (m : Int) := by rw [wrap_id (by omega) (by omega)]; omega
      have fin : ∀ v : Int, 0 ≤ v ∧ v ≤ 255 → Dr (fun k => spec_l20Rd_bytes.l0 k m (acc ++ [v]) s (p + 1 + 1)) (fun r => ∃ x q, (isBytes x ∧ x.length = m + 1 + acc.length ∧ p ≤ q ∧ q ≤ p + 2 * ((m + 1 : Nat) : Int)) ∧ r = (x, q)) := by
        intro v hv
        refine (ih (acc ++ [v]) (p + 1 + 1) (isBytes_snoc ha hv) (by simp; omega) (by omega)).mono ?_
        rintro _ ⟨x, q, ⟨h1, h2, h3, h4⟩, rfl⟩
        exact ⟨_, _, ⟨h1, by simp at h2; omega, by omega, by omega⟩, rfl⟩
      refine Dr.succ ?_
      simp only [spec_l20Rd_bytes.l0, if_pos (show ((m + 1 : Nat) : Int) > 0 by omega), e, if_pos (show acc.length < 140737488355328 by omega)]
      refine Dr.bind (pick_ hb (by omega) (by omega)) ?_
      rintro _ ⟨v, hv, rfl⟩
      refine Dr.ite (fun _ => ?_) (fun _ => ?_)
      · refine Dr.bind (pick_ hb (by omega) (by omega)) ?_
        rintro _ ⟨v2, hv2, rfl⟩
        exact fin _ (by dsimp only; omega)
      · refine Dr.bind (pick_ hb (by omega) (by omega)) ?_
        rintro _ ⟨v2, hv2, rfl⟩
        exact fin _ (by dsimp only; omega)
  obtain ⟨m, rfl⟩ := Int.eq_ofNat_of_zero_le hn.1
  unfold spec_l20Rd_bytes.f
  refine (hm m [] p (by intro y hy; cases hy) (by simp; omega) (by omega)).mono ?_
  rintro _ ⟨x, q, ⟨h1, h2, h3, h4⟩, rfl⟩
  exact ⟨_, _, ⟨h1, by simp at h2; omega, h3, h4⟩, rfl⟩

/-! alive -/
theorem bytesOf_5 : Ev (fun k => impl_bytesOf.f k 5 1) [5] := by
  refine Ev.of (k := 3) (fun k => impl_bytesOf.mono 5 1 k) ?_
  kernel_rfl
theorem alive_ : Ev (fun k => laws_alive.f k) true := by
  have h1 : Ev (fun k => impl_BytesOf.f k 5 1) [5] := by
    refine Ev.of (k := 3) (fun k => impl_BytesOf.mono 5 1 k) ?_
    kernel_rfl
  have h2 : Ev (fun k => impl_BytesOf.f k 256 1) [] := by
    refine Ev.of (k := 3) (fun k => impl_BytesOf.mono 256 1 k) ?_
    kernel_rfl
  unfold laws_alive.f
  refine Ev.bind h1 ?_
  simp only [List.length_singleton, Int.natCast_one, if_true]
  refine Ev.bind h2 ?_
  exact Ev.now _

theorem same_refl (l : List Int) : laws_sameBytes.f l l = some true := by
  unfold laws_sameBytes.f; simp

/-! what is known of neighbours, drawn: bounds -/
def nearB (e : List NE) (h : List WI) : Prop := e.length ≤ 5 ∧ h.length ≤ 5 ∧ ∀ z ∈ h, z.f1.length ≤ 100
theorem nearB_fit {e : List NE} {h : List WI} (b : nearB e h) : nfit e h := ⟨by have := b.1; omega, by have := b.2.1; omega, fun z hz => by have := b.2.2 z hz; omega⟩
theorem nearB_send {e : List NE} {h : List WI} (b : nearB e h) (a : Int) (d : List Int) (now : Int) (hd : d.length ≤ 100) : nearB (sendN e h a d now).1 (sendN e h a d now).2.1 := by
  unfold sendN
  split
  · rename_i hc
    simp only [Bool.and_eq_true] at hc
    have hb := nearOk_bounds hc.1
    split
    · exact b
    · refine ⟨b.1, by simp only [List.length_drop, List.length_append, List.length_singleton]; omega, fun z hz => ?_⟩
      have hz2 := List.mem_of_mem_drop hz
      rw [List.mem_append, List.mem_singleton] at hz2
      rcases hz2 with hz2 | rfl
      · exact b.2.2 z hz2
      · exact hd
  · exact ⟨by simp, by simp, by simp⟩
theorem nearB_hear {e : List NE} {h : List WI} (b : nearB e h) (own q0 q1 q2 q3 now : Int) : nearB (hearN e h own q0 q1 q2 q3 now).1 (hearN e h own q0 q1 q2 q3 now).2.1 := by
  unfold hearN
  split
  · split
    · refine ⟨?_, ?_, fun z hz => b.2.2 z (List.mem_filter.1 hz).1⟩
      · show (lastE _).length ≤ 5
        unfold lastE
        rw [List.length_drop]; omega
      · have := List.length_filter_le (fun z : WI => !decide (z.f0 = q2)) h
        have := b.2.1
        show (kepH q2 h).length ≤ 5
        unfold kepH
        omega
    · exact b
  · exact ⟨by simp, by simp, by simp⟩
theorem query_ {s : List Int} {p n : Int} (hb : isBytes s ∧ s.length ≤ 2000) (h0 : 0 ≤ p ∧ p ≤ 900000000) (hn : n ≤ 1000000) :
    Dr (fun k => spec_l20Query.f k s p n) (fun r => ∃ q0 q1 q2 q3 q, (p ≤ q ∧ q ≤ p + 10) ∧ r = (q0, q1, q2, q3, q)) := by
  unfold spec_l20Query.f
  refine Dr.bind (pick_ hb (by omega) (by omega)) ?_
  rintro _ ⟨v1, h1, rfl⟩
  refine Dr.bind (pick_ hb (by dsimp only; omega) (by omega)) ?_
  rintro _ ⟨v2, h2, rfl⟩
  refine Dr.bind (pick_ hb (by dsimp only; omega) (by omega)) ?_
  rintro _ ⟨v3, h3, rfl⟩
  refine Dr.bind (pick_ hb (by dsimp only; omega) (by omega)) ?_
  rintro _ ⟨v4, h4, rfl⟩
  refine Dr.bind (odd_ hb (by dsimp only; omega) (by omega)) ?_
  rintro _ ⟨o, q, ⟨q0, q1, _⟩, rfl⟩
  dsimp only at q0 q1
  refine Dr.ite (fun _ => ?_) (fun _ => ?_)
  · refine Dr.bind (pick_ hb (by dsimp only; omega) (by omega)) ?_
    rintro _ ⟨v5, h5, rfl⟩
    refine Dr.ite (fun _ => ?_) (fun _ => Dr.ite (fun _ => ?_) (fun _ => ?_))
    · refine Dr.bind (pick_ hb (by dsimp only; omega) (by omega)) ?_
      rintro _ ⟨v6, h6, rfl⟩
      exact Dr.now ⟨_, _, _, _, _, ⟨by dsimp only; omega, by dsimp only; omega⟩, rfl⟩
    · exact Dr.now ⟨_, _, _, _, _, ⟨by dsimp only; omega, by dsimp only; omega⟩, rfl⟩
    · refine Dr.bind (pick_ hb (by dsimp only; omega) (by omega)) ?_
      rintro _ ⟨v6, h6, rfl⟩
      exact Dr.now ⟨_, _, _, _, _, ⟨by dsimp only; omega, by dsimp only; omega⟩, rfl⟩
  · exact Dr.now ⟨_, _, _, _, _, ⟨by dsimp only; omega, by dsimp only; omega⟩, rfl⟩
def nearD (e : List NE) (h : List WI) : Prop := e.length ≤ 10 ∧ h.length ≤ 10 ∧ ∀ z ∈ h, z.f1.length ≤ 100
theorem nearD_fit {e : List NE} {h : List WI} (b : nearD e h) : nfit e h := ⟨by have := b.1; omega, by have := b.2.1; omega, fun z hz => by have := b.2.2 z hz; omega⟩
theorem near_l {s : List Int} {n : Int} (hb : isBytes s ∧ s.length ≤ 2000) (hn : n ≤ 1000000) (m : Nat) : ∀ (p : Int) (e : List NE) (h : List WI), 0 ≤ p ∧ p + 40 * m ≤ 800000000 → nearB e h →
    Dr (fun k => spec_l20Near.l0 k n m s p e h) (fun r => ∃ e h q, (nearD e h ∧ p ≤ q ∧ q ≤ p + 40 * m + 10) ∧ r = (e, h, q)) := by
  induction m with
  | zero =>
    intro p e h h0 b
    refine Dr.succ ?_
    simp only [spec_l20Near.l0]
    obtain ⟨b1, b2, b3⟩ := b
    refine Dr.bind (odd_ hb (by omega) (by omega)) ?_
    rintro _ ⟨o, q, ⟨q0, q1, _⟩, rfl⟩
    refine Dr.ite (fun _ => ?_) (fun _ => Dr.now ⟨_, _, _, ⟨⟨by omega, by omega, b3⟩, by dsimp only; omega, by dsimp only; omega⟩, rfl⟩)
    refine Dr.bind (pick_ hb (by dsimp only; omega) (by omega)) ?_
    rintro _ ⟨v1, h1, rfl⟩
    refine Dr.ite (fun _ => ?_) (fun _ => Dr.ite (fun _ => ?_) (fun _ => ?_))
    · refine Dr.bind (pick_ hb (by dsimp only; omega) (by omega)) ?_
      rintro _ ⟨v2, h2, rfl⟩
      refine Dr.bind (pick_ hb (by dsimp only; omega) (by omega)) ?_
      rintro _ ⟨v3, h3, rfl⟩
      refine Dr.bind (pick_ hb (by dsimp only; omega) (by omega)) ?_
      rintro _ ⟨v4, h4, rfl⟩
      exact Dr.pos (by omega) (Dr.now ⟨_, _, _, ⟨⟨by simp; omega, by omega, b3⟩, by dsimp only; omega, by dsimp only; omega⟩, rfl⟩)
    · refine Dr.bind (pick_ hb (by dsimp only; omega) (by omega)) ?_
      rintro _ ⟨v2, h2, rfl⟩
      refine Dr.pos (by omega) (Dr.now ⟨_, _, _, ⟨⟨by omega, by simp; omega, ?_⟩, by dsimp only; omega, by dsimp only; omega⟩, rfl⟩)
      intro z hz
      rw [List.mem_append] at hz
      rcases hz with hz | hz
      · exact b3 z hz
      · simp only [List.mem_cons, List.not_mem_nil, or_false] at hz
        rcases hz with rfl | rfl <;> simp
    · exact Dr.pos (by omega) (Dr.now ⟨_, _, _, ⟨⟨by simp; omega, by omega, b3⟩, by dsimp only; omega, by dsimp only; omega⟩, rfl⟩)
  | succ m ih =>
    intro p e h h0 b
    have em : wrap64 (((m + 1 : Nat) : Int) - 1) = (m : Int) := by rw [wrap_id (by omega) (by omega)]; omega
    refine Dr.succ ?_
    simp only [spec_l20Near.l0, if_pos (show ((m + 1 : Nat) : Int) > 0 by omega), em]
    refine Dr.bind (pick_ hb (by omega) (by omega)) ?_
    rintro _ ⟨v1, h1, rfl⟩
    refine Dr.ite (fun _ => ?_) (fun _ => ?_)
    · refine Dr.bind (pick_ hb (by dsimp only; omega) (by omega)) ?_
      rintro _ ⟨v2, h2, rfl⟩
      refine Dr.bind (pick_ hb (by dsimp only; omega) (by omega)) ?_
      rintro _ ⟨v3, h3, rfl⟩
      refine Dr.bind (bytes__ hb (by dsimp only; omega) (by dsimp only; omega)) ?_
      rintro _ ⟨d, q, ⟨hd, hdl, q0, q1⟩, rfl⟩
      dsimp only at hdl q0 q1
      refine Dr.bind (pick_ hb (by dsimp only; omega) (by omega)) ?_
      rintro _ ⟨v4, h4, rfl⟩
      refine Dr.bind (Dr.ev (spec_nsend e h v2 d v4 (nearB_fit b) (by omega))) ?_
      rintro _ rfl
      refine (ih _ _ _ (by dsimp only; omega) (nearB_send b v2 d v4 (by omega))).mono ?_
      rintro _ ⟨e', h', q', ⟨k1, k2, k3⟩, rfl⟩
      exact ⟨e', h', q', ⟨k1, by dsimp only at k2; omega, by dsimp only at k3; omega⟩, rfl⟩
    · refine Dr.bind (pick_ hb (by dsimp only; omega) (by omega)) ?_
      rintro _ ⟨v2, h2, rfl⟩
      refine Dr.bind (query_ hb (by dsimp only; omega) (by omega)) ?_
      rintro _ ⟨w0, w1, w2, w3, q, ⟨q0, q1⟩, rfl⟩
      dsimp only at q0 q1
      refine Dr.bind (pick_ hb (by dsimp only; omega) (by omega)) ?_
      rintro _ ⟨v4, h4, rfl⟩
      refine Dr.bind (Dr.ev (spec_nhear e h v2 w0 w1 w2 w3 v4 (nearB_fit b))) ?_
      rintro _ rfl
      refine (ih _ _ _ (by dsimp only; omega) (nearB_hear b v2 w0 w1 w2 w3 v4)).mono ?_
      rintro _ ⟨e', h', q', ⟨k1, k2, k3⟩, rfl⟩
      exact ⟨e', h', q', ⟨k1, by dsimp only at k2; omega, by dsimp only at k3; omega⟩, rfl⟩
theorem near_ {s : List Int} {p n : Int} (hb : isBytes s ∧ s.length ≤ 2000) (h0 : 0 ≤ p ∧ p ≤ 700000000) (hn : n ≤ 1000000) :
    Dr (fun k => spec_l20Near.f k s p n) (fun r => ∃ e h q, (nearD e h ∧ p ≤ q ∧ q ≤ p + 1000) ∧ r = (e, h, q)) := by
  unfold spec_l20Near.f
  refine Dr.bind (pick_ hb (by omega) (by omega)) ?_
  rintro _ ⟨v1, h1, rfl⟩
  obtain ⟨m, rfl⟩ := Int.eq_ofNat_of_zero_le h1.1
  refine (near_l hb hn m _ [] [] (by dsimp only; omega) ⟨by simp, by simp, by simp⟩).mono ?_
  rintro _ ⟨e', h', q', ⟨k1, k2, k3⟩, rfl⟩
  exact ⟨e', h', q', ⟨k1, by dsimp only at k2; omega, by dsimp only at k3; omega⟩, rfl⟩
theorem sameNear_l1 (e : List NE) (h : List WI) (hh : h.length ≤ 1048576) (d : Nat) : ∀ i : Nat, i + d = h.length → Ev (fun k => laws_sameNear.l1 k (i : Int) e h e h) true := by
  induction d with
  | zero =>
    intro i hi
    refine Ev.succ ?_
    simp only [laws_sameNear.l1, if_neg (show ¬ (i : Int) < (h.length : Int) by omega)]
    exact Ev.now _
  | succ d ih =>
    intro i hi
    refine Ev.succ ?_
    simp only [laws_sameNear.l1, if_pos (show (i : Int) < (h.length : Int) by omega), if_pos (show (0 : Int) ≤ (i : Int) by omega), if_true, same_refl, Option.bind_some]
    rw [wrap_id (by omega) (by omega)]
    exact ih (i + 1) (by omega)
theorem sameNear_l0 (e : List NE) (h : List WI) (he : e.length ≤ 1048576) (hh : h.length ≤ 1048576) (d : Nat) : ∀ i : Nat, i + d = e.length → Ev (fun k => laws_sameNear.l0 k (i : Int) e h e h) true := by
  induction d with
  | zero =>
    intro i hi
    refine Ev.succ ?_
    simp only [laws_sameNear.l0, if_neg (show ¬ (i : Int) < (e.length : Int) by omega)]
    exact sameNear_l1 e h hh h.length 0 (by omega)
  | succ d ih =>
    intro i hi
    refine Ev.succ ?_
    simp only [laws_sameNear.l0, if_pos (show (i : Int) < (e.length : Int) by omega), if_pos (show (0 : Int) ≤ (i : Int) by omega), beq_self_eq_true, Bool.not_true, Bool.or_self, Bool.false_eq_true, if_false]
    rw [wrap_id (by omega) (by omega)]
    exact ih (i + 1) (by omega)
theorem sameNear_ (e : List NE) (h : List WI) (f : nfit e h) : Ev (fun k => laws_sameNear.f k e h e h) true := by
  unfold laws_sameNear.f
  simp only [if_true, bne_self_eq_false]
  refine Ev.succ ?_
  simp only [laws_sameNear.j0, Bool.false_eq_true, if_false]
  exact sameNear_l0 e h f.1 f.2.1 e.length 0 (by omega)
theorem nearFind_ (e : List NE) (h : List WI) (a now : Int) (f : nfit e h) : Ev (fun k => impl_NearFind.f k e h a now) (if nearOk e h = true then findN a now e else -1) := by
  unfold impl_NearFind.f
  refine Ev.bind (impl_ok e h f.1 f.2.1) ?_
  cases hok : nearOk e h
  · simp only [Bool.false_eq_true, if_false]; exact Ev.now _
  · simp only [if_true, impl_find e h a now f.1 (nearOk_bounds hok).1, Option.bind_some]; exact Ev.now _

/-! what was kept is sent once, and what is known stays apart -/
theorem ents_iff (l : List NE) : ∀ p : List NE, entsOk p l = true ↔ (∀ z ∈ l, entOk z = true) ∧ (∀ z ∈ l, ∀ y ∈ p, y.f0 ≠ z.f0) ∧ l.Pairwise (fun a b => a.f0 ≠ b.f0) := by
  induction l with
  | nil => intro p; simp [entsOk]
  | cons z l ih =>
    intro p
    simp only [entsOk, Bool.and_eq_true, Bool.not_eq_true', ih, List.any_eq_false, beq_iff_eq, List.mem_append, List.mem_cons, List.not_mem_nil, or_false, List.pairwise_cons]
    constructor
    · rintro ⟨h1, h2, h3, h4, h5⟩
      refine ⟨?_, ?_, fun b hb => h4 b hb z (.inr rfl), h5⟩
      · rintro x (rfl | hx)
        · exact h1
        · exact h3 x hx
      · rintro x (rfl | hx) y hy
        · exact h2 y hy
        · exact h4 x hx y (.inl hy)
    · rintro ⟨h1, h2, h3, h4⟩
      refine ⟨h1 z (.inl rfl), fun y hy => h2 z (.inl rfl) y hy, fun x hx => h1 x (.inr hx), fun x hx y hy => ?_, h4⟩
      rcases hy with hy | rfl
      · exact h2 x (.inr hx) y hy
      · exact h3 x hx
theorem lastE_app2 (k : List NE) (z : NE) : lastE (k ++ [z]) = k.drop (k.length + 1 - 4) ++ [z] := by
  unfold lastE
  rw [List.length_append, List.length_singleton, List.drop_append_of_le_length (by omega)]
theorem kepE_ne {a : Int} {e : List NE} {z : NE} (h : z ∈ kepE a e) : z.f0 ≠ a := by
  have := (List.mem_filter.1 h).2
  simpa using this
theorem newE_ok (e : List NE) (q1 q2 now : Int) (h : entsOk [] e = true) (h1 : inb q1 0 254 = true) (h2 : inb q2 0 65535 = true) (hn : inb now 0 999980 = true) : entsOk [] (lastE (kepE q2 e ++ [(⟨q2, q1, now + 20⟩ : NE)])) = true := by
  rw [lastE_app2, ents_iff]
  obtain ⟨a1, _, a3⟩ := (ents_iff e []).1 h
  have hs : List.Sublist ((kepE q2 e).drop ((kepE q2 e).length + 1 - 4)) e := (List.drop_sublist _ _).trans List.filter_sublist
  have hnow := inb_iff.1 hn
  refine ⟨fun z hz => ?_, fun _ _ _ hy => (by cases hy), List.pairwise_append.2 ⟨a3.sublist hs, List.pairwise_singleton _ _, fun x hx y hy => ?_⟩⟩
  · rcases List.mem_append.1 hz with hz | hz
    · exact a1 z (hs.subset hz)
    · rw [List.mem_singleton.1 hz]
      unfold entOk
      simp only [h1, h2, Bool.true_and]
      exact inb_iff.2 (by omega)
  · rw [List.mem_singleton.1 hy]
    exact kepE_ne (List.mem_of_mem_drop hx)
theorem findN_app (a now : Int) (k l : List NE) (h : ∀ y ∈ k, y.f0 ≠ a) : findN a now (k ++ l) = findN a now l := by
  induction k with
  | nil => rfl
  | cons z k ih => rw [List.cons_append, findN, if_neg (h z (by simp)), ih (fun y hy => h y (by simp [hy]))]
theorem findN_new (e : List NE) (q1 q2 now : Int) : findN q2 now (lastE (kepE q2 e ++ [(⟨q2, q1, now + 20⟩ : NE)])) = q1 := by
  rw [lastE_app2, findN_app q2 now _ _ (fun y hy => kepE_ne (List.mem_of_mem_drop hy)), findN, if_pos rfl, if_pos (by show now + 20 > now; omega)]
theorem sent_kept (a q : Int) (h : List WI) (hne : a ≠ q) : sentH a (kepH q h) = sentH a h := by
  unfold sentH kepH
  rw [List.filter_filter]
  congr 1
  refine List.filter_congr (fun z _ => ?_)
  by_cases c : z.f0 = a
  · rw [decide_eq_true c, decide_eq_false (show ¬ z.f0 = q by rw [c]; exact hne)]; rfl
  · rw [decide_eq_false c, Bool.false_and]
theorem sent_gone (q : Int) (h : List WI) : sentH q (kepH q h) = [] := by
  unfold sentH kepH
  rw [List.filter_filter, List.filter_eq_nil_iff.2 (fun z _ => by by_cases c : z.f0 = q <;> simp [c])]; rfl
theorem sent_none (q : Int) (h : List WI) (hh : h.any (fun z => decide (z.f0 = q)) = false) : sentH q h = [] := by
  unfold sentH
  rw [List.filter_eq_nil_iff.2 (fun z hz => by have := List.any_eq_false.1 hh z hz; simpa using this)]; rfl
theorem heldFor_l (e : List NE) (h : List WI) (a : Int) (hh : h.length ≤ 1048576) (d : Nat) : ∀ (i : Nat) (s : List (List Int)), i + d = h.length → s.length ≤ i → Ev (fun k => laws_heldFor.l0 k a s (i : Int) e h) (s ++ sentH a (h.drop i)) := by
  induction d with
  | zero =>
    intro i s hi hs
    refine Ev.succ ?_
    rw [List.drop_of_length_le (by omega)]
    simp only [laws_heldFor.l0, if_neg (show ¬ (i : Int) < (h.length : Int) by omega), sentH, List.filter_nil, List.map_nil, List.append_nil]
    exact Ev.now _
  | succ d ih =>
    intro i s hi hs
    have hlt : i < h.length := by omega
    refine Ev.succ ?_
    rw [List.drop_eq_getElem_cons hlt]
    simp only [laws_heldFor.l0, if_pos (show (i : Int) < (h.length : Int) by omega), if_pos (show (0 : Int) ≤ (i : Int) by omega), rdWI h i hlt, sentH, List.filter_cons, if_pos (show s.length < 5864062014805 by omega)]
    rw [wrap_id (x := (i : Int) + 1) (by omega) (by omega)]
    by_cases c : h[i].f0 = a
    · have h1 := ih (i + 1) (s ++ [h[i].f1]) (by omega) (by simp; omega)
      simp only [if_pos c, decide_eq_true c, if_true, List.map_cons]
      simp only [List.append_assoc, List.singleton_append, sentH] at h1
      exact h1
    · have h1 := ih (i + 1) s (by omega) (by omega)
      simp only [if_neg c, decide_eq_false c, Bool.false_eq_true, if_false]
      simp only [sentH] at h1
      exact h1
theorem heldFor_ (e : List NE) (h : List WI) (a : Int) (hh : h.length ≤ 1048576) : Ev (fun k => laws_heldFor.f k e h a) (sentH a h) := by
  unfold laws_heldFor.f
  have h1 := heldFor_l e h a hh h.length 0 [] (by omega) (by simp)
  simp only [List.drop_zero, List.nil_append] at h1
  exact h1
theorem sameLists_l (s : List (List Int)) (hs : s.length ≤ 1048576) (d : Nat) : ∀ i : Nat, i + d = s.length → Ev (fun k => laws_sameLists.l0 k s s (i : Int)) true := by
  induction d with
  | zero =>
    intro i hi
    refine Ev.succ ?_
    simp only [laws_sameLists.l0, if_neg (show ¬ (i : Int) < (s.length : Int) by omega)]
    exact Ev.now _
  | succ d ih =>
    intro i hi
    refine Ev.succ ?_
    simp only [laws_sameLists.l0, if_pos (show (i : Int) < (s.length : Int) by omega), if_pos (show (0 : Int) ≤ (i : Int) by omega), if_true, same_refl, Option.bind_some]
    rw [wrap_id (by omega) (by omega)]
    exact ih (i + 1) (by omega)
theorem sameLists_ (s : List (List Int)) (hs : s.length ≤ 1048576) : Ev (fun k => laws_sameLists.f k s s) true := by
  unfold laws_sameLists.f
  simp only [if_true]
  exact sameLists_l s hs s.length 0 (by omega)
theorem sentH_len (a : Int) (h : List WI) : (sentH a h).length ≤ h.length := by unfold sentH; rw [List.length_map]; exact List.length_filter_le _ _
theorem hearN_fit {e : List NE} {h : List WI} (f : nfit e h) (own q0 q1 q2 q3 now : Int) : nfit (hearN e h own q0 q1 q2 q3 now).1 (hearN e h own q0 q1 q2 q3 now).2.1 ∧ (hearN e h own q0 q1 q2 q3 now).2.2.length ≤ 1048576 := by
  obtain ⟨f1, f2, f3⟩ := f
  have hs := sentH_len q2 h
  have hk := kepH_len q2 h
  unfold hearN
  split
  · split
    · refine ⟨⟨?_, by dsimp only; omega, fun z hz => f3 z (kepH_sub hz)⟩, by dsimp only; omega⟩
      show (lastE _).length ≤ _
      unfold lastE
      rw [List.length_drop]; omega
    · exact ⟨⟨f1, f2, f3⟩, by simp⟩
  · exact ⟨⟨by simp, by simp, fun z hz => by cases hz⟩, by simp⟩

theorem DrawNearHear_ (l : List Int) (hb : isBytes l) : Dr (fun k => spec_DrawNearHear.f k l) (fun r => ∃ e h own q0 q1 q2 q3 now, (nearD e h ∧ 0 ≤ now ∧ now < 50) ∧ r = (e, h, own, q0, q1, q2, q3, now)) := by
  unfold spec_DrawNearHear.f
  refine Dr.bind (open__ l hb) ?_
  rintro _ ⟨s, hs, rfl⟩
  refine Dr.bind (near_ hs (by dsimp only; omega) (by omega)) ?_
  rintro _ ⟨e, h, q, ⟨hn, q0, q1⟩, rfl⟩
  dsimp only at q0 q1
  refine Dr.bind (pick_ hs (by dsimp only; omega) (by omega)) ?_
  rintro _ ⟨v1, h1, rfl⟩
  refine Dr.bind (query_ hs (by dsimp only; omega) (by omega)) ?_
  rintro _ ⟨w0, w1, w2, w3, q', ⟨k1, k2⟩, rfl⟩
  dsimp only at k1 k2
  refine Dr.bind (pick_ hs (by dsimp only; omega) (by omega)) ?_
  rintro _ ⟨v2, h2, rfl⟩
  exact Dr.now ⟨_, _, _, _, _, _, _, _, ⟨hn, h2.1, h2.2⟩, rfl⟩
theorem FnNearHear : laws_FnNearHear.Pure := by
  intro l hl _ hw
  have hb := isBytes_wf hw
  refine Ev.rounds ?_
  unfold laws_FnNearHear.f
  by_cases hbig : (l.length : Int) > 1048576
  · simp only [if_pos hbig]; exact Ev.now _
  simp only [if_neg hbig]
  obtain ⟨_, ed, e, h, own, q0, q1, q2, q3, now, ⟨hn, n0, n1⟩, rfl⟩ := DrawNearHear_ l hb
  have f := nearD_fit hn
  obtain ⟨ff, fs⟩ := hearN_fit f own q0 q1 q2 q3 now
  refine Ev.bind ed (Ev.bind (impl_nhear e h own q0 q1 q2 q3 now f) (Ev.bind (spec_nhear e h own q0 q1 q2 q3 now f) ?_))
  refine Ev.bind (sameNear_ _ _ ff) ?_
  simp only [if_true]
  refine Ev.bind (sameLists_ _ fs) ?_
  simp only [Bool.not_true]
  refine Ev.succ ?_
  simp only [laws_FnNearHear.j0, Bool.false_eq_true, if_false]
  refine Ev.bind (impl_ok e h f.1 f.2.1) ?_
  have hnow : inb now 0 999980 = true := inb_iff.2 (by omega)
  have no : (nearOk e h && queryOk q0 q1 q2 q3) = false → Ev (fun k => laws_FnNearHear.j1 k now (hearN e h own q0 q1 q2 q3 now).2.2 true e h q0 q1 q2 q3 (hearN e h own q0 q1 q2 q3 now).1 (hearN e h own q0 q1 q2 q3 now).2.1) true := by
    intro hc
    have hs : hearN e h own q0 q1 q2 q3 now = ([], [], []) := by
      unfold hearN
      rw [← Bool.and_assoc, hc, Bool.false_and]; rfl
    refine Ev.succ ?_
    simp only [laws_FnNearHear.j1, hs, if_true, List.length_nil, Int.natCast_zero]
    exact Ev.bind alive_ (Ev.now _)
  cases hok : nearOk e h
  · simp only [Bool.false_eq_true, if_false]
    exact no (by rw [hok]; rfl)
  simp only [if_true, impl_query, Option.bind_some]
  cases hq : queryOk q0 q1 q2 q3
  · exact no (by rw [hok, hq]; rfl)
  refine Ev.succ ?_
  simp only [laws_FnNearHear.j1, Bool.not_true, Bool.false_eq_true, if_false]
  have hq2 := hq
  unfold queryOk at hq2
  simp only [Bool.and_eq_true] at hq2
  obtain ⟨_, b1, b2, _⟩ := hq2
  obtain ⟨o1, o2, o3, o4⟩ : entsOk [] e = true ∧ e.length ≤ 4 ∧ h.length ≤ 4 ∧ h.all heldOk = true := by
    have hk := hok
    unfold nearOk at hk
    simp only [Bool.and_eq_true, decide_eq_true_eq] at hk
    exact ⟨hk.1, by omega, by omega, hk.2.2.2⟩
  have hs : hearN e h own q0 q1 q2 q3 now = if wantN e h own q2 q3 = true then (lastE (kepE q2 e ++ [(⟨q2, q1, now + 20⟩ : NE)]), kepH q2 h, sentH q2 h) else (e, h, []) := by
    unfold hearN
    rw [hok, hq, hnow]; rfl
  obtain ⟨E', H', S', hE, k1, k2, k3, k4, k5⟩ : ∃ (E' : List NE) (H' : List WI) (S' : List (List Int)), hearN e h own q0 q1 q2 q3 now = (E', H', S') ∧ S' = sentH q2 h ∧ nearOk E' H' = true ∧ (∀ a, a ≠ q2 → sentH a H' = sentH a h) ∧ sentH q2 H' = [] ∧ (S' = [] ∨ findN q2 now E' = q1) := by
    cases hw : wantN e h own q2 q3
    · rw [hw, if_neg (by decide)] at hs
      have hh : h.any (fun z => decide (z.f0 = q2)) = false := by
        unfold wantN at hw
        simp only [Bool.or_eq_false_iff] at hw
        exact hw.2.2
      exact ⟨e, h, [], hs, (sent_none q2 h hh).symm, hok, fun _ _ => rfl, sent_none q2 h hh, .inl rfl⟩
    · rw [hw, if_pos rfl] at hs
      refine ⟨_, _, _, hs, rfl, ?_, fun a ha => sent_kept a q2 h ha, sent_gone q2 h, .inr (findN_new e q1 q2 now)⟩
      have h2 := kepH_len q2 h
      have h3 : (lastE (kepE q2 e ++ [(⟨q2, q1, now + 20⟩ : NE)])).length ≤ 4 := by unfold lastE; rw [List.length_drop]; omega
      unfold nearOk
      rw [newE_ok e q1 q2 now o1 b1 b2 hnow, decide_eq_true (show ((lastE (kepE q2 e ++ [(⟨q2, q1, now + 20⟩ : NE)])).length : Int) ≤ 4 by omega), decide_eq_true (show ((kepH q2 h).length : Int) ≤ 4 by omega)]
      simp only [Bool.true_and]
      rw [List.all_eq_true] at o4 ⊢
      exact fun z hz => o4 z (kepH_sub hz)
  rw [hE] at ff fs ⊢
  dsimp only at ff fs ⊢
  have fin : Ev (fun k => laws_FnNearHear.l0 k now S' 8 e h q0 q1 q2 q3 E' H') true := by
    refine Ev.succ ?_
    simp only [laws_FnNearHear.l0, if_neg (show ¬ (8 : Int) < 8 by omega)]
    refine Ev.bind (impl_ok E' H' ff.1 ff.2.1) ?_
    simp only [k2, if_true]
    refine Ev.bind (heldFor_ e h q2 f.2.1) ?_
    rw [k1]
    rw [k1] at fs
    refine Ev.bind (sameLists_ _ fs) ?_
    simp only [if_true]
    refine Ev.bind (heldFor_ E' H' q2 ff.2.1) ?_
    rw [k4]
    simp only [List.length_nil, Int.natCast_zero, if_true]
    by_cases c : ((sentH q2 h).length : Int) = 0
    · simp only [if_pos c]
      exact Ev.bind alive_ (Ev.now _)
    · simp only [if_neg c]
      refine Ev.bind (nearFind_ E' H' q2 now ff) ?_
      have hf : findN q2 now E' = q1 := by
        rcases k5 with h5 | h5
        · rw [← k1, h5] at c; exact absurd rfl c
        · exact h5
      rw [k2, if_pos rfl, hf]
      simp only [if_true]
      exact Ev.bind alive_ (Ev.now _)
  have loop : ∀ (d i : Nat), i + d = 8 → Ev (fun k => laws_FnNearHear.l0 k now S' (i : Int) e h q0 q1 q2 q3 E' H') true := by
    intro d
    induction d with
    | zero => intro i hi; obtain rfl : i = 8 := by omega
              exact fin
    | succ d ih =>
      intro i hi
      refine Ev.succ ?_
      simp only [laws_FnNearHear.l0, if_pos (show (i : Int) < 8 by omega)]
      have hwi : wrap64 ((i : Int) + 1) = ((i + 1 : Nat) : Int) := by rw [wrap_id (by omega) (by omega)]; omega
      simp only [hwi]
      by_cases c : (i : Int) = q2
      · simp only [if_pos c]
        exact ih (i + 1) (by omega)
      · simp only [if_neg c]
        refine Ev.bind (heldFor_ E' H' i ff.2.1) (Ev.bind (heldFor_ e h i f.2.1) ?_)
        rw [k3 i c]
        refine Ev.bind (sameLists_ _ (by have := sentH_len i h; have := f.2.1; omega)) ?_
        simp only [if_true]
        exact ih (i + 1) (by omega)
  exact loop 8 0 rfl

end Go.Proofs.Ytdoohdbfpnmndaa.Pure
