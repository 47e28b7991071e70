/- What is read is the stream: the plain law. -/
import Derived.Test.YtgemkjclamlmbaaPFnListeningx
namespace Go.Proofs.Ytgemkjclamlmbaa.Pure
set_option linter.unusedSimpArgs false
set_option linter.unusedVariables false
open Go.RowKit Go.Proofs.Ytgemkjclamlmbaa.PFnListening Go.Proofs.YtgemkjclamlmbaaW.PrintWords Go.Proofs.YtgemkjclamlmbaaW.PrintLast Go.Proofs.YtgemkjclamlmbaaW.PrintMore

theorem Ev.succ {α : Type} {g : Nat → Option α} {r : α} (h : Ev (fun k => g (k + 1)) r) : Ev g r := Ev.step (fun _ => rfl) h
theorem Ev.pure {α : Type} {o : Option α} {r : α} (h : o = some r) : Ev (fun _ => o) r := by rw [h]; exact Ev.now r
theorem Ev.cong {α : Type} {g g' : Nat → Option α} {r : α} (h : ∀ k, g k = g' k) (e : Ev g' r) : Ev g r := by rw [show g = g' from funext h]; exact e
theorem wrap_id {x : Int} (h0 : -9223372036854775808 ≤ x) (h1 : x ≤ 9223372036854775807) : wrap64 x = x := by unfold wrap64; omega

theorem rd_get (l : List Int) (i : Nat) (h : i < l.length) : rd l (i : Int) = l[i] := by
  unfold rd
  rw [Int.toNat_natCast, List.getD_eq_getElem?_getD, List.getElem?_eq_getElem h]; rfl
theorem take_set_succ {α : Type} (x : List α) (i : Nat) (v : α) (h : i < x.length) : (x.set i v).take (i + 1) = x.take i ++ [v] := by
  rw [List.take_succ_eq_append_getElem (by simpa using h), List.getElem_set_self, List.take_set, List.set_eq_of_length_le (by simp; omega)]


def isBytes (l : List Int) : Prop := ∀ x ∈ l, 0 ≤ x ∧ x ≤ 255
theorem isBytes_get {l : List Int} (h : isBytes l) (i : Nat) (hi : i < l.length) : 0 ≤ l[i] ∧ l[i] ≤ 255 := h _ (List.getElem_mem hi)
theorem isBytes_wf {l : List Int} (h : ∀ x ∈ l, (Lit.int .u8 x).wf = true) : isBytes l := by
  intro x hx
  have := h x hx
  simp [Lit.wf, IntKind.min, IntKind.max, IntKind.bits, IntKind.signed] at this
  omega

theorem rdR (l : List S33) (i : Nat) (h : i < l.length) : rd_T33 l (i : Int) = l[i] := by
  unfold rd_T33
  rw [Int.toNat_natCast, List.getD_eq_getElem?_getD, List.getElem?_eq_getElem h]; rfl

theorem rdE (l : List S50) (i : Nat) (h : i < l.length) : rd_T50 l (i : Int) = l[i] := by
  unfold rd_T50
  rw [Int.toNat_natCast, List.getD_eq_getElem?_getD, List.getElem?_eq_getElem h]; rfl

/-! EarOk -/
def earAt (h f : Int) (l : List S50) (i : Nat) : Bool := decide (h < (rd_T50 l (i : Int)).f0) && decide ((rd_T50 l (i : Int)).f0 < h + f) && (i == 0 || decide ((rd_T50 l ((i : Int) - 1)).f0 < (rd_T50 l (i : Int)).f0))
def earFrom (h f : Int) (l : List S50) : Nat → Nat → Bool
  | 0, _ => true
  | d + 1, i => earAt h f l i && earFrom h f l d (i + 1)
def earOk (h room : Int) (g : List Int) (l : List S50) : Bool := decide (0 ≤ h) && decide (h ≤ 1000000) && decide (1 ≤ room) && decide (room ≤ 32) && decide ((g.length : Int) ≤ room) && earFrom h (room - g.length) l l.length 0
theorem impl_earOk_l (h room : Int) (g : List Int) (l : List S50) (h0 : 0 ≤ h) (h1 : h ≤ 1000000) (r0 : 1 ≤ room) (r1 : room ≤ 32) (hg : (g.length : Int) ≤ room) (hl : l.length ≤ 1099511627776) (d : Nat) :
    ∀ i : Nat, i + d = l.length → Ev (fun k => impl_EarOk.l0 k l (l.length : Int) (i : Int) h room g l) (earFrom h (room - g.length) l d i) := by
  induction d with
  | zero =>
    intro i hi
    refine Ev.step (fun k => impl_EarOk.l0.eq_2 _ _ _ _ _ _ _ k) ?_
    simp only [if_neg (show ¬ (i : Int) < (l.length : Int) by omega), earFrom]
    exact Ev.now _
  | succ d ih =>
    intro i hi
    have ih := ih (i + 1) (by omega)
    have a1 : (i : Int) < (l.length : Int) := by omega
    have a2 : (0 : Int) ≤ (i : Int) := by omega
    have j2 : ∀ b, Ev (fun k => impl_EarOk.j2 k l (l.length : Int) (i : Int) b h room g l) (!b && earFrom h (room - g.length) l d (i + 1)) := by
      intro b
      refine Ev.step (fun k => impl_EarOk.j2.eq_2 _ _ _ _ _ _ _ _ k) ?_
      cases b with
      | true => simp only [if_true]; exact Ev.now _
      | false =>
        simp only [Bool.false_eq_true, if_false]
        rw [wrap_id (x := (i : Int) + 1) (by omega) (by omega)]
        exact ih
    refine Ev.step (fun k => impl_EarOk.l0.eq_2 _ _ _ _ _ _ _ k) ?_
    simp only [if_pos a1, if_pos a2, impl_Ear_free.f, impl_in.f, Option.bind_some]
    rw [wrap_id (x := room - (g.length : Int)) (by omega) (by omega), wrap_id (x := h + 1) (by omega) (by omega), wrap_id (x := h + (room - (g.length : Int))) (by omega) (by omega), wrap_id (x := h + (room - (g.length : Int)) - 1) (by omega) (by omega)]
    simp only [earFrom, earAt]
    generalize rd_T50 l (i : Int) = e
    by_cases c1 : e.f0 ≥ h + 1
    · simp only [if_pos c1, Option.bind_some]
      by_cases c2 : e.f0 ≤ h + (room - (g.length : Int)) - 1
      · simp only [decide_eq_true c2, if_true]
        by_cases c3 : (i : Int) > 0
        · have a3 : 0 ≤ (i : Int) - 1 := by omega
          have a4 : (i : Int) - 1 < (l.length : Int) := by omega
          have a5 : (i == 0) = false := by rw [beq_eq_false_iff_ne]; omega
          have a6 : decide (h < e.f0) = true := decide_eq_true (by omega)
          have a7 : decide (e.f0 < h + (room - (g.length : Int))) = true := decide_eq_true (by omega)
          rw [wrap_id (x := (i : Int) - 1) (by omega) (by omega)]
          simp only [if_pos c3, if_pos a3, if_pos a4, a5, a6, a7, Bool.true_and, Bool.false_or]
          have := j2 (decide ((rd_T50 l ((i : Int) - 1)).f0 ≥ e.f0))
          rw [show (!decide ((rd_T50 l ((i : Int) - 1)).f0 ≥ e.f0)) = decide ((rd_T50 l ((i : Int) - 1)).f0 < e.f0) by rw [Bool.eq_iff_iff]; simp] at this
          exact this
        · have a5 : (i == 0) = true := by rw [beq_iff_eq]; omega
          have a6 : decide (h < e.f0) = true := decide_eq_true (by omega)
          have a7 : decide (e.f0 < h + (room - (g.length : Int))) = true := decide_eq_true (by omega)
          simp only [if_neg c3, a5, a6, a7, Bool.true_and, Bool.true_or]
          exact j2 false
      · have a7 : decide (e.f0 < h + (room - (g.length : Int))) = false := decide_eq_false (by omega)
        simp only [decide_eq_false c2, Bool.false_eq_true, if_false, a7, Bool.and_false, Bool.false_and]
        exact j2 true
    · have a6 : decide (h < e.f0) = false := decide_eq_false (by omega)
      simp only [if_neg c1, Option.bind_some, Bool.false_eq_true, if_false, a6, Bool.false_and]
      exact j2 true
theorem impl_earOk (h room : Int) (g : List Int) (l : List S50) (hg : g.length ≤ 1099511627776) (hl : l.length ≤ 1099511627776) : Ev (fun k => impl_EarOk.f k h room g l) (earOk h room g l) := by
  have j0 : ∀ b, (b = false → (0 ≤ h ∧ h ≤ 1000000 ∧ 1 ≤ room ∧ room ≤ 32 ∧ (g.length : Int) ≤ room)) → Ev (fun k => impl_EarOk.j0 k b h room g l) (!b && earFrom h (room - g.length) l l.length 0) := by
    intro b hb
    refine Ev.step (fun k => impl_EarOk.j0.eq_2 _ _ _ _ _ k) ?_
    cases b with
    | true => simp only [if_true]; exact Ev.now _
    | false =>
      obtain ⟨b1, b2, b3, b4, b5⟩ := hb rfl
      simp only [Bool.false_eq_true, if_false]
      exact impl_earOk_l h room g l b1 b2 b3 b4 b5 hl l.length 0 (by omega)
  unfold impl_EarOk.f earOk
  simp only [impl_in.f, impl_Ear_free.f]
  by_cases c1 : h ≥ 0
  · simp only [if_pos c1, Option.bind_some]
    by_cases c2 : h ≤ 1000000
    · simp only [decide_eq_true c2, if_true]
      by_cases c3 : room ≥ 1
      · simp only [if_pos c3, Option.bind_some]
        by_cases c4 : room ≤ 32
        · simp only [decide_eq_true c4, if_true]
          rw [wrap_id (x := room - (g.length : Int)) (by omega) (by omega)]
          have := j0 (decide (room - (g.length : Int) < 0)) (by intro hh; have := of_decide_eq_false hh; omega)
          rw [show (!decide (room - (g.length : Int) < 0)) = decide ((g.length : Int) ≤ room) by rw [Bool.eq_iff_iff]; simp] at this
          simpa [c1, c3] using this
        · simp only [decide_eq_false c4, Bool.false_eq_true, if_false]
          simpa [c4] using j0 true (by intro hh; cases hh)
      · simp only [if_neg c3, Option.bind_some, Bool.false_eq_true, if_false]
        simpa [show ¬ 1 ≤ room from c3] using j0 true (by intro hh; cases hh)
    · simp only [decide_eq_false c2, Bool.false_eq_true, if_false]
      simpa [c2] using j0 true (by intro hh; cases hh)
  · simp only [if_neg c1, Option.bind_some, Bool.false_eq_true, if_false]
    simpa [show ¬ 0 ≤ h from c1] using j0 true (by intro hh; cases hh)
theorem spec_earOk_l (h room : Int) (g : List Int) (l : List S50) (h0 : 0 ≤ h) (h1 : h ≤ 1000000) (r0 : 1 ≤ room) (r1 : room ≤ 32) (hg : (g.length : Int) ≤ room) (hl : l.length ≤ 1099511627776) (d : Nat) :
    ∀ i : Nat, i + d = l.length → Ev (fun k => spec_EarOk.l0 k (i : Int) h room g l) (earFrom h (room - g.length) l d i) := by
  induction d with
  | zero =>
    intro i hi
    refine Ev.step (fun k => spec_EarOk.l0.eq_2 _ _ _ _ _ k) ?_
    simp only [if_neg (show ¬ (i : Int) < (l.length : Int) by omega), earFrom]
    exact Ev.now _
  | succ d ih =>
    intro i hi
    have ih := ih (i + 1) (by omega)
    have a1 : (i : Int) < (l.length : Int) := by omega
    have a2 : (0 : Int) ≤ (i : Int) := by omega
    have j2 : ∀ b, Ev (fun k => spec_EarOk.j2 k (i : Int) b h room g l) (!b && earFrom h (room - g.length) l d (i + 1)) := by
      intro b
      refine Ev.step (fun k => spec_EarOk.j2.eq_2 _ _ _ _ _ _ k) ?_
      cases b with
      | true => simp only [if_true]; exact Ev.now _
      | false =>
        simp only [Bool.false_eq_true, if_false]
        rw [wrap_id (x := (i : Int) + 1) (by omega) (by omega)]
        exact ih
    refine Ev.step (fun k => spec_EarOk.l0.eq_2 _ _ _ _ _ k) ?_
    simp only [if_pos a1, if_pos a2]
    rw [wrap_id (x := h + room) (by omega) (by omega), wrap_id (x := h + room - (g.length : Int)) (by omega) (by omega)]
    simp only [earFrom, earAt]
    generalize rd_T50 l (i : Int) = e
    by_cases c1 : e.f0 ≤ h
    · have a6 : decide (h < e.f0) = false := decide_eq_false (by omega)
      simp only [if_pos c1, a6, Bool.false_and]
      exact j2 true
    · by_cases c2 : e.f0 ≥ h + room - (g.length : Int)
      · have a7 : decide (e.f0 < h + (room - (g.length : Int))) = false := decide_eq_false (by omega)
        simp only [if_neg c1, if_pos c2, a7, Bool.and_false, Bool.false_and]
        exact j2 true
      · have a6 : decide (h < e.f0) = true := decide_eq_true (by omega)
        have a7 : decide (e.f0 < h + (room - (g.length : Int))) = true := decide_eq_true (by omega)
        by_cases c3 : (i : Int) > 0
        · have a3 : 0 ≤ (i : Int) - 1 := by omega
          have a4 : (i : Int) - 1 < (l.length : Int) := by omega
          have a5 : (i == 0) = false := by rw [beq_eq_false_iff_ne]; omega
          rw [wrap_id (x := (i : Int) - 1) (by omega) (by omega)]
          simp only [if_neg c1, if_neg c2, if_pos c3, if_pos a3, if_pos a4, a5, a6, a7, Bool.true_and, Bool.false_or]
          have := j2 (decide ((rd_T50 l ((i : Int) - 1)).f0 ≥ e.f0))
          rw [show (!decide ((rd_T50 l ((i : Int) - 1)).f0 ≥ e.f0)) = decide ((rd_T50 l ((i : Int) - 1)).f0 < e.f0) by rw [Bool.eq_iff_iff]; simp] at this
          exact this
        · have a5 : (i == 0) = true := by rw [beq_iff_eq]; omega
          simp only [if_neg c1, if_neg c2, if_neg c3, a5, a6, a7, Bool.true_and, Bool.true_or]
          exact j2 false
theorem spec_earOk (h room : Int) (g : List Int) (l : List S50) (hg : g.length ≤ 1099511627776) (hl : l.length ≤ 1099511627776) : Ev (fun k => spec_EarOk.f k h room g l) (earOk h room g l) := by
  have j0 : ∀ b, (b = false → (0 ≤ h ∧ h ≤ 1000000 ∧ 1 ≤ room ∧ room ≤ 32 ∧ (g.length : Int) ≤ room)) → Ev (fun k => spec_EarOk.j0 k b h room g l) (!b && earFrom h (room - g.length) l l.length 0) := by
    intro b hb
    refine Ev.step (fun k => spec_EarOk.j0.eq_2 _ _ _ _ _ k) ?_
    cases b with
    | true => simp only [if_true]; exact Ev.now _
    | false =>
      obtain ⟨b1, b2, b3, b4, b5⟩ := hb rfl
      simp only [Bool.false_eq_true, if_false]
      exact spec_earOk_l h room g l b1 b2 b3 b4 b5 hl l.length 0 (by omega)
  unfold spec_EarOk.f earOk
  simp only [spec_l1In.f]
  by_cases c1 : h ≥ 0
  · simp only [if_pos c1, Option.bind_some]
    by_cases c2 : h ≤ 1000000
    · simp only [decide_eq_true c2, if_true]
      by_cases c3 : room ≥ 1
      · simp only [if_pos c3, Option.bind_some]
        by_cases c4 : room ≤ 32
        · simp only [decide_eq_true c4, if_true]
          have := j0 (decide ((g.length : Int) > room)) (by intro hh; have := of_decide_eq_false hh; omega)
          rw [show (!decide ((g.length : Int) > room)) = decide ((g.length : Int) ≤ room) by rw [Bool.eq_iff_iff]; simp] at this
          simpa [c1, c3] using this
        · simp only [decide_eq_false c4, Bool.false_eq_true, if_false]
          simpa [c4] using j0 true (by intro hh; cases hh)
      · simp only [if_neg c3, Option.bind_some, Bool.false_eq_true, if_false]
        simpa [show ¬ 1 ≤ room from c3] using j0 true (by intro hh; cases hh)
    · simp only [decide_eq_false c2, Bool.false_eq_true, if_false]
      simpa [c2] using j0 true (by intro hh; cases hh)
  · simp only [if_neg c1, Option.bind_some, Bool.false_eq_true, if_false]
    simpa [show ¬ 0 ≤ h from c1] using j0 true (by intro hh; cases hh)

/-! EarFree -/
theorem earOk_le {h room : Int} {g : List Int} {l : List S50} (c : earOk h room g l = true) : 0 ≤ h ∧ h ≤ 1000000 ∧ 1 ≤ room ∧ room ≤ 32 ∧ (g.length : Int) ≤ room := by
  unfold earOk at c
  simp only [Bool.and_eq_true, decide_eq_true_eq] at c
  obtain ⟨⟨⟨⟨⟨c1, c2⟩, c3⟩, c4⟩, c5⟩, _⟩ := c
  exact ⟨c1, c2, c3, c4, c5⟩
def earFree (h room : Int) (g : List Int) (l : List S50) : Int := if earOk h room g l = true then room - g.length else 0
theorem spec_earFree (h room : Int) (g : List Int) (l : List S50) (hg : g.length ≤ 1099511627776) (hl : l.length ≤ 1099511627776) : Ev (fun k => spec_EarFree.f k h room g l) (earFree h room g l) := by
  unfold spec_EarFree.f earFree
  refine Ev.bind (spec_earOk h room g l hg hl) ?_
  by_cases c : earOk h room g l = true
  · obtain ⟨c1, c2, c3, c4, c5⟩ := earOk_le c
    simp only [c, if_true]
    rw [wrap_id (x := room - (g.length : Int)) (by omega) (by omega)]
    exact Ev.now _
  · simp only [c, if_false, Bool.false_eq_true]
    exact Ev.now _

/-! EarRead -/
theorem mn_in (n : Int) (m : Nat) (h : 0 ≤ n) : 0 ≤ mn n (m : Int) ∧ mn n (m : Int) ≤ (m : Int) := by
  unfold mn; split <;> omega
def earRead (h room : Int) (g : List Int) (l : List S50) (n : Int) : Int × Int × List Int × List S50 × List Int :=
  if earOk h room g l = true ∧ 0 ≤ n then (h, room, g.drop (mn n g.length).toNat, l, g.take (mn n g.length).toNat) else (0, 0, [], [], [])
theorem impl_earRead (h room : Int) (g : List Int) (l : List S50) (n : Int) (hg : g.length ≤ 1048576) (hl : l.length ≤ 1048576) : Ev (fun k => impl_EarRead.f k h room g l n) (earRead h room g l n) := by
  unfold impl_EarRead.f earRead
  refine Ev.bind (impl_earOk h room g l (by omega) (by omega)) ?_
  by_cases c : earOk h room g l = true
  · simp only [c, if_true, true_and]
    by_cases hn : n < 0
    · simp only [decide_eq_true hn, if_neg (show ¬ 0 ≤ n by omega)]
      refine Ev.step (fun k => impl_EarRead.j0.eq_2 _ _ _ _ _ _ k) ?_
      simp only [if_true]
      exact Ev.now _
    · have hm := mn_in n g.length (by omega)
      have h1 : (g.drop (mn n (g.length : Int)).toNat).length * 1 ≤ 140737488355328 := by rw [List.length_drop]; omega
      have h2 : l.length * 16 ≤ 140737488355328 := by omega
      have h3 : (g.take (mn n (g.length : Int)).toNat).length * 1 ≤ 140737488355328 := by rw [List.length_take]; omega
      simp only [decide_eq_false hn, if_pos (show 0 ≤ n by omega)]
      refine Ev.step (fun k => impl_EarRead.j0.eq_2 _ _ _ _ _ _ k) ?_
      simp only [Bool.false_eq_true, if_false, if_pos hm.1, if_pos hm.2, impl_Ear_copy.f, impl_clone_byte.f, impl_Early_32.f, if_pos h1, if_pos h2, if_pos h3, Option.bind_some]
      exact Ev.now _
  · simp only [c, if_false, false_and, Bool.false_eq_true]
    refine Ev.step (fun k => impl_EarRead.j0.eq_2 _ _ _ _ _ _ k) ?_
    simp only [if_true]
    exact Ev.now _
theorem spec_earRead (h room : Int) (g : List Int) (l : List S50) (n : Int) (hg : g.length ≤ 1048576) (hl : l.length ≤ 1048576) : Ev (fun k => spec_EarRead.f k h room g l n) (earRead h room g l n) := by
  unfold spec_EarRead.f earRead
  refine Ev.bind (spec_earOk h room g l (by omega) (by omega)) ?_
  by_cases c : earOk h room g l = true
  · simp only [c, if_true, true_and]
    by_cases hn : n < 0
    · simp only [if_pos hn, if_neg (show ¬ 0 ≤ n by omega)]
      exact Ev.now _
    · have hm := mn_in n g.length (by omega)
      have h1 : ([] : List Int).length + (g.drop (mn n (g.length : Int)).toNat).length < 140737488355328 := by rw [List.length_drop, List.length_nil]; omega
      have h2 : ([] : List S50).length + l.length < 8796093022208 := by rw [List.length_nil]; omega
      have h3 : ([] : List Int).length + (g.take (mn n (g.length : Int)).toNat).length < 140737488355328 := by rw [List.length_take, List.length_nil]; omega
      simp only [if_neg hn, if_pos (show 0 ≤ n by omega), Option.bind_some, if_pos hm.1, if_pos hm.2, if_pos h1, if_pos h2, if_pos h3, List.nil_append]
      exact Ev.now _
  · simp only [c, if_false, false_and, Bool.false_eq_true]
    exact Ev.now _

/-! drawing -/
theorem xor_nn (a b : Int) (a0 : 0 ≤ a) (a1 : a < 9223372036854775808) (b0 : 0 ≤ b) (b1 : b < 9223372036854775808) : 0 ≤ Go.bits .xor .i64 a b ∧ Go.bits .xor .i64 a b < 9223372036854775808 := by
  obtain ⟨x, rfl⟩ := Int.eq_ofNat_of_zero_le a0
  obtain ⟨y, rfl⟩ := Int.eq_ofNat_of_zero_le b0
  have hx : x < 2 ^ 63 := by omega
  have hy : y < 2 ^ 63 := by omega
  have hxy : x ^^^ y < 2 ^ 63 := Nat.xor_lt_two_pow hx hy
  have h1 : (BitVec.ofInt 64 (x : Int)).toNat = x := by
    rw [BitVec.ofInt_natCast, BitVec.toNat_ofNat]; exact Nat.mod_eq_of_lt (by omega)
  have h2 : (BitVec.ofInt 64 (y : Int)).toNat = y := by
    rw [BitVec.ofInt_natCast, BitVec.toNat_ofNat]; exact Nat.mod_eq_of_lt (by omega)
  have h3 : Go.bits .xor .i64 (x : Int) (y : Int) = ((x ^^^ y : Nat) : Int) := by
    show IntKind.i64.wrap ((BitVec.ofInt 64 (x : Int) ^^^ BitVec.ofInt 64 (y : Int)).toNat : Int) = _
    rw [BitVec.toNat_xor, h1, h2, IntKind.wrap_i64]
    omega
  rw [h3]
  omega
theorem tmod_in (x n : Int) (h0 : 0 ≤ x) (hn : 1 ≤ n) : 0 ≤ Int.tmod x n ∧ Int.tmod x n < n := by
  rw [Int.tmod_eq_emod_of_nonneg h0]
  exact ⟨Int.emod_nonneg _ (by omega), Int.emod_lt_of_pos _ (by omega)⟩
theorem tdiv_in (x n : Int) (h0 : 0 ≤ x) (hn : 1 ≤ n) : 0 ≤ Int.tdiv x n ∧ Int.tdiv x n ≤ x := by
  rw [Int.tdiv_eq_ediv_of_nonneg h0]
  exact ⟨Int.ediv_nonneg h0 (by omega), Int.ediv_le_self _ h0⟩
theorem rd_byte {s : List Int} (hb : isBytes s) (i : Int) : 0 ≤ rd s i ∧ rd s i ≤ 255 := by
  unfold rd
  rw [List.getD_eq_getElem?_getD]
  by_cases h : i.toNat < s.length
  · rw [List.getElem?_eq_getElem h]; exact hb _ (List.getElem_mem h)
  · rw [List.getElem?_eq_none (by omega)]; exact ⟨Int.le_refl _, by decide⟩
theorem pick (s : List Int) (p n : Int) (hb : isBytes s) (hl : s.length ≤ 2000) (h0 : 0 ≤ p) (hp : p ≤ 1000000000) (hn : 1 ≤ n) (hn1 : n ≤ 1000000000) :
    ∃ r, Ev (fun k => spec_l20Rd_pick.f k s p n) (r, p + 1) ∧ 0 ≤ r ∧ r < n := by
  unfold spec_l20Rd_pick.f
  simp only [if_neg (show ¬ n < 1 by omega)]
  rw [wrap_id (x := p + 1) (by omega) (by omega)]
  by_cases hs : s.length = 0
  · refine ⟨0, Ev.succ ?_, by omega, by omega⟩
    simp only [spec_l20Rd_pick.j0, hs, Int.natCast_zero, beq_self_eq_true, if_true]
    exact Ev.now _
  · have hz : ((s.length : Int) == 0) = false := by rw [beq_eq_false_iff_ne]; omega
    simp only [hz]
    by_cases h1 : p < (s.length : Int)
    · have hx := rd_byte hb p
      have hm := tmod_in (rd s p) n hx.1 hn
      refine ⟨Int.tmod (rd s p) n, Ev.succ ?_, hm.1, hm.2⟩
      simp only [spec_l20Rd_pick.j0, Bool.false_eq_true, if_false, show p + 1 - 1 = p by omega]
      rw [wrap_id (x := p) (by omega) (by omega), wrap_id (x := rd s p) (by omega) (by omega)]
      simp only [if_pos h1, if_pos h0, if_neg (show ¬ n = 0 by omega)]
      exact Ev.now _
    · have m1 := tmod_in p s.length h0 (by omega)
      have m2 := tmod_in (p * 7 + 3) s.length (by omega) (by omega)
      have d1 := tdiv_in p s.length h0 (by omega)
      have x1 := rd_byte hb (Int.tmod p s.length)
      have x2 := rd_byte hb (Int.tmod (p * 7 + 3) s.length)
      let v := rd s (Int.tmod p s.length) * 131 + rd s (Int.tmod (p * 7 + 3) s.length) * 1117 + p * 29 + Int.tdiv p s.length * 53
      have v0 : 0 ≤ v := by show 0 ≤ _ + _ + _ + _; omega
      have v1 : v < 9223372036854775808 := by show _ + _ + _ + _ < _; omega
      have d2 := tdiv_in v 64 v0 (by omega)
      have b1 := xor_nn v (Int.tdiv v 64) v0 v1 d2.1 (by omega)
      have hm := tmod_in (Go.bits .xor .i64 v (Int.tdiv v 64)) n b1.1 hn
      refine ⟨_, Ev.succ ?_, hm.1, hm.2⟩
      simp only [spec_l20Rd_pick.j0, Bool.false_eq_true, if_false, show p + 1 - 1 = p by omega]
      rw [wrap_id (x := p) (by omega) (by omega)]
      rw [wrap_id (x := p * 7) (by omega) (by omega), wrap_id (x := p * 7 + 3) (by omega) (by omega), wrap_id (x := p * 29) (by omega) (by omega), wrap_id (x := rd s (Int.tmod p s.length)) (by omega) (by omega),
        wrap_id (x := rd s (Int.tmod (p * 7 + 3) s.length)) (by omega) (by omega), wrap_id (x := rd s (Int.tmod p s.length) * 131) (by omega) (by omega), wrap_id (x := rd s (Int.tmod (p * 7 + 3) s.length) * 1117) (by omega) (by omega),
        wrap_id (x := rd s (Int.tmod p s.length) * 131 + rd s (Int.tmod (p * 7 + 3) s.length) * 1117) (by omega) (by omega), wrap_id (x := rd s (Int.tmod p s.length) * 131 + rd s (Int.tmod (p * 7 + 3) s.length) * 1117 + p * 29) (by omega) (by omega),
        wrap_id (x := Int.tdiv p s.length) (by omega) (by omega), wrap_id (x := Int.tdiv p s.length * 53) (by omega) (by omega), wrap_id (x := rd s (Int.tmod p s.length) * 131 + rd s (Int.tmod (p * 7 + 3) s.length) * 1117 + p * 29 + Int.tdiv p s.length * 53) (by omega) (by omega)]
      simp only [if_neg h1, if_neg (show ¬ (s.length : Int) = 0 by omega), if_pos m1.1, if_pos m1.2, if_pos m2.1, if_pos m2.2, if_neg (show ¬ n = 0 by omega)]
      rw [wrap_id (x := Int.tdiv v 64) (by omega) (by omega)]
      exact Ev.now _
theorem open_ (l : List Int) (hb : isBytes l) : ∃ s, spec_l20Open.f l = some (s, 0) ∧ isBytes s ∧ s.length ≤ 2000 := by
  unfold spec_l20Open.f
  by_cases h : (l.length : Int) > 2000
  · simp only [if_pos h, if_pos (show (2000 : Int) ≤ (l.length : Int) by omega)]
    exact ⟨_, rfl, fun x hx => hb x (List.mem_of_mem_take hx), by simp; omega⟩
  · simp only [if_neg h]
    exact ⟨_, rfl, hb, by omega⟩

/-! a stretch of the stream -/
theorem heard_l (a n : Int) (h0 : -1000000000 ≤ a) (h1 : a ≤ 1000000000) (hn : n ≤ 100000) (d : Nat) : ∀ (i : Nat) (acc : List Int), (i : Int) + d = n → acc.length ≤ 100000 + i → ∃ x, Ev (fun k => spec_l20Heard.l0 k a n acc (i : Int)) x ∧ x.length = acc.length + d := by
  induction d with
  | zero =>
    intro i acc hi _
    refine ⟨acc, Ev.succ ?_, rfl⟩
    simp only [spec_l20Heard.l0, if_neg (show ¬ (i : Int) < n by omega)]
    exact Ev.now _
  | succ d ih =>
    intro i acc hi ha
    have hs : ∃ v, spec_l20Stream.f (wrap64 (a + (i : Int))) = some v := ⟨_, rfl⟩
    obtain ⟨v, hv⟩ := hs
    obtain ⟨x, e, hx⟩ := ih (i + 1) (acc ++ [v]) (by omega) (by rw [List.length_append, List.length_singleton]; omega)
    refine ⟨x, Ev.succ ?_, by rw [hx, List.length_append, List.length_singleton]; omega⟩
    simp only [spec_l20Heard.l0, if_pos (show (i : Int) < n by omega), hv, Option.bind_some, if_pos (show acc.length < 140737488355328 by omega)]
    rw [wrap_id (x := (i : Int) + 1) (by omega) (by omega)]
    exact e
theorem heard_ (a n : Int) (h0 : -1000000000 ≤ a) (h1 : a ≤ 1000000000) (hn0 : 0 ≤ n) (hn : n ≤ 100000) : ∃ x, Ev (fun k => spec_l20Heard.f k a n) x ∧ (x.length : Int) = n := by
  obtain ⟨x, e, hx⟩ := heard_l a n h0 h1 hn n.toNat 0 [] (by omega) (by simp)
  exact ⟨x, e, by rw [hx, List.length_nil]; omega⟩

/-! alive -/
theorem bytesOf_5 : Ev (fun k => impl_bytesOf.f k 5 1) [5] := by
  refine Ev.of (k := 3) (fun k => impl_bytesOf.mono 5 1 k) ?_
  kernel_rfl
theorem alive_ : Ev (fun k => laws_alive.f k) true := by
  have h1 : Ev (fun k => impl_BytesOf.f k 5 1) [5] := by
    refine Ev.of (k := 3) (fun k => impl_BytesOf.mono 5 1 k) ?_
    kernel_rfl
  have h2 : Ev (fun k => impl_BytesOf.f k 256 1) [] := by
    refine Ev.of (k := 3) (fun k => impl_BytesOf.mono 256 1 k) ?_
    kernel_rfl
  unfold laws_alive.f
  refine Ev.bind h1 ?_
  simp only [List.length_singleton, Int.natCast_one, if_true]
  refine Ev.bind h2 ?_
  exact Ev.now _

theorem same_refl (l : List Int) : laws_sameBytes.f l l = some true := by
  unfold laws_sameBytes.f; simp

/-! sameEar of an ear and itself -/
theorem sameEar_l (h r : Int) (g : List Int) (l : List S50) (hl : l.length ≤ 1099511627776) (d : Nat) : ∀ i : Nat, i + d = l.length → Ev (fun k => laws_sameEar.l0 k (i : Int) h r g l h r g l) true := by
  induction d with
  | zero =>
    intro i hi
    refine Ev.step (fun k => laws_sameEar.l0.eq_2 _ _ _ _ _ _ _ _ _ k) ?_
    simp only [if_neg (show ¬ (i : Int) < (l.length : Int) by omega)]
    exact Ev.now _
  | succ d ih =>
    intro i hi
    have h1 := ih (i + 1) (by omega)
    refine Ev.step (fun k => laws_sameEar.l0.eq_2 _ _ _ _ _ _ _ _ _ k) ?_
    simp only [if_pos (show (i : Int) < (l.length : Int) by omega), if_pos (show (0 : Int) ≤ (i : Int) by omega), BEq.rfl, Bool.not_true, Bool.or_false, Bool.false_eq_true, if_false]
    rw [wrap_id (x := (i : Int) + 1) (by omega) (by omega)]
    exact h1
theorem sameEar_ (h r : Int) (g : List Int) (l : List S50) (hl : l.length ≤ 1099511627776) : Ev (fun k => laws_sameEar.f k h r g l h r g l) true := by
  unfold laws_sameEar.f
  simp only [if_true, same_refl, Option.bind_some, bne_self_eq_false]
  refine Ev.step (fun k => laws_sameEar.j0.eq_2 _ _ _ _ _ _ _ _ _ k) ?_
  simp only [Bool.false_eq_true, if_false]
  exact sameEar_l h r g l hl l.length 0 (by omega)

/-! EarHear: what both compute -/
/-- an early byte laid at its place, if none is there -/
def putE : List S50 → S50 → List S50
  | [], e => [e]
  | x :: l, e => if e.f0 < x.f0 then e :: x :: l else if e.f0 = x.f0 then x :: l else x :: putE l e
def hearL (h f : Int) : Int → List Int → List S50 → List S50
  | _, [], far => far
  | q, b :: x, far => hearL h f (q + 1) x (if h ≤ q ∧ q < h + f then putE far ⟨q, b⟩ else far)
def drainE : List S50 → Int → List Int → Int × List Int × List S50
  | [], n, g => (n, g, [])
  | x :: l, n, g => if x.f0 = n then drainE l (n + 1) (g ++ [x.f1]) else (n, g, x :: l)
def earHear (h room : Int) (g : List Int) (l : List S50) (p : Int) (x : List Int) : Int × Int × List Int × List S50 :=
  if earOk h room g l = true ∧ 0 ≤ p ∧ p ≤ 1000000 then
    (let y := drainE (hearL h (room - g.length) p x l) h g
     if y.1 > 1000000 then (0, 0, [], []) else (y.1, room, y.2.1, y.2.2))
  else (0, 0, [], [])
theorem putE_len (e : S50) : ∀ l : List S50, (putE l e).length ≤ l.length + 1
  | [] => by simp [putE]
  | x :: l => by
    have := putE_len e l
    unfold putE
    split
    · simp
    · split
      · simp
      · simp only [List.length_cons]; omega
theorem hearL_len (h f : Int) : ∀ (x : List Int) (q : Int) (far : List S50), (hearL h f q x far).length ≤ far.length + x.length
  | [], _, _ => by simp [hearL]
  | b :: x, q, far => by
    unfold hearL
    have h1 := hearL_len h f x (q + 1) (if h ≤ q ∧ q < h + f then putE far ⟨q, b⟩ else far)
    have h2 : (if h ≤ q ∧ q < h + f then putE far ⟨q, b⟩ else far).length ≤ far.length + 1 := by
      split
      · exact putE_len _ _
      · omega
    simp only [List.length_cons]; omega
/-! in order, within bounds -/
def goodE (h f : Int) (l : List S50) : Prop := l.Pairwise (fun x y => x.f0 < y.f0) ∧ ∀ x ∈ l, h ≤ x.f0 ∧ x.f0 < h + f
theorem putE_mem (e : S50) : ∀ (l : List S50) (y : S50), y ∈ putE l e → y = e ∨ y ∈ l
  | [], y, h => by simp [putE] at h; exact .inl h
  | x :: l, y, h => by
    unfold putE at h
    split at h
    · rcases List.mem_cons.1 h with h | h
      · exact .inl h
      · exact .inr h
    · split at h
      · exact .inr h
      · rcases List.mem_cons.1 h with h | h
        · exact .inr (by rw [h]; exact List.mem_cons_self)
        · rcases putE_mem e l y h with h | h
          · exact .inl h
          · exact .inr (List.mem_cons_of_mem _ h)
theorem putE_sort (e : S50) : ∀ l : List S50, l.Pairwise (fun x y => x.f0 < y.f0) → (putE l e).Pairwise (fun x y => x.f0 < y.f0)
  | [], _ => by simp [putE]
  | x :: l, h => by
    obtain ⟨h1, h2⟩ := List.pairwise_cons.1 h
    unfold putE
    split
    · rename_i c
      refine List.pairwise_cons.2 ⟨fun y hy => ?_, h⟩
      rcases List.mem_cons.1 hy with rfl | hy
      · exact c
      · have := h1 y hy; omega
    · split
      · exact h
      · refine List.pairwise_cons.2 ⟨fun y hy => ?_, putE_sort e l h2⟩
        rcases putE_mem e l y hy with rfl | hy
        · omega
        · exact h1 y hy
theorem putE_good {h f : Int} {l : List S50} (hl : goodE h f l) (e : S50) (h0 : h ≤ e.f0) (h1 : e.f0 < h + f) : goodE h f (putE l e) := by
  refine ⟨putE_sort e l hl.1, fun y hy => ?_⟩
  rcases putE_mem e l y hy with rfl | hy
  · exact ⟨h0, h1⟩
  · exact hl.2 y hy
theorem putE_at (e : S50) : ∀ (l : List S50) (k : Nat), k ≤ l.length → (∀ m (hm : m < l.length), m < k → l[m].f0 < e.f0) → (∀ hk : k < l.length, e.f0 < l[k].f0) → putE l e = l.take k ++ [e] ++ l.drop k
  | [], k, hk, _, _ => by simp [putE]
  | x :: l, 0, hk, _, h2 => by
    have := h2 (by simp)
    simp only [List.getElem_cons_zero] at this
    simp [putE, this]
  | x :: l, k + 1, hk, h1, h2 => by
    have hx := h1 0 (by simp) (by omega)
    simp only [List.getElem_cons_zero] at hx
    have ih := putE_at e l k (by simpa using hk) (fun m hm hmk => by have := h1 (m + 1) (by simpa using hm) (by omega); simpa using this) (fun hk' => by have := h2 (by simpa using hk'); simpa using this)
    simp only [putE, if_neg (show ¬ e.f0 < x.f0 by omega), if_neg (show ¬ e.f0 = x.f0 by omega), ih]
    simp
theorem putE_has (e : S50) : ∀ (l : List S50) (k : Nat) (hk : k < l.length), (∀ m (hm : m < l.length), m < k → l[m].f0 < e.f0) → l[k].f0 = e.f0 → putE l e = l
  | x :: l, 0, hk, _, h2 => by
    simp only [List.getElem_cons_zero] at h2
    simp only [putE, if_neg (show ¬ e.f0 < x.f0 by omega), if_pos h2.symm]
  | x :: l, k + 1, hk, h1, h2 => by
    have hx := h1 0 (by simp) (by omega)
    simp only [List.getElem_cons_zero] at hx
    have ih := putE_has e l k (by simpa using hk) (fun m hm hmk => by have := h1 (m + 1) (by simpa using hm) (by omega); simpa using this) (by simpa using h2)
    simp only [putE, if_neg (show ¬ e.f0 < x.f0 by omega), if_neg (show ¬ e.f0 = x.f0 by omega), ih]
/-! the reference -/
theorem specPut_l (l : List S50) (a b : Int) (hl : l.length ≤ 100000000) (d : Nat) : ∀ (i : Nat) (acc : List S50), i + d = l.length → acc.length ≤ i + 1 →
    Ev (fun k => spec_l12Put.l0 k l acc true (i : Int) a b) (acc ++ l.drop i) ∧ (acc.length ≤ i → Ev (fun k => spec_l12Put.l0 k l acc false (i : Int) a b) (acc ++ putE (l.drop i) ⟨a, b⟩)) := by
  induction d with
  | zero =>
    intro i acc hi h1
    rw [List.drop_of_length_le (by omega)]
    refine ⟨Ev.step (fun k => spec_l12Put.l0.eq_2 _ _ _ _ _ _ k) ?_, fun h2 => Ev.step (fun k => spec_l12Put.l0.eq_2 _ _ _ _ _ _ k) ?_⟩
    · simp only [if_neg (show ¬ (i : Int) < (l.length : Int) by omega), if_true, List.append_nil]
      exact Ev.now _
    · simp only [if_neg (show ¬ (i : Int) < (l.length : Int) by omega), Bool.false_eq_true, if_false, if_pos (show acc.length < 8796093022208 by omega), putE]
      exact Ev.now _
  | succ d ih =>
    intro i acc hi h1
    have hb : i < l.length := by omega
    rw [List.drop_eq_getElem_cons hb]
    have j2t : ∀ acc : List S50, acc.length ≤ i + 1 → Ev (fun k => spec_l12Put.j2 k l acc true (i : Int) a b) (acc ++ l[i] :: l.drop (i + 1)) := by
      intro acc h1
      have e := (ih (i + 1) (acc ++ [l[i]]) (by omega) (by rw [List.length_append, List.length_singleton]; omega)).1
      rw [List.append_assoc, List.singleton_append] at e
      refine Ev.step (fun k => spec_l12Put.j2.eq_2 _ _ _ _ _ _ k) ?_
      simp only [if_pos (show (0 : Int) ≤ (i : Int) by omega), if_pos (show (i : Int) < (l.length : Int) by omega), rdE l i hb, if_pos (show acc.length < 8796093022208 by omega)]
      rw [wrap_id (x := (i : Int) + 1) (by omega) (by omega)]
      split <;> exact e
    refine ⟨?_, fun h2 => ?_⟩
    · refine Ev.step (fun k => spec_l12Put.l0.eq_2 _ _ _ _ _ _ k) ?_
      simp only [if_pos (show (i : Int) < (l.length : Int) by omega), if_true]
      refine Ev.step (fun k => spec_l12Put.j1.eq_2 _ _ _ _ _ _ _ k) ?_
      simp only [Bool.false_eq_true, if_false]
      exact j2t acc h1
    · refine Ev.step (fun k => spec_l12Put.l0.eq_2 _ _ _ _ _ _ k) ?_
      by_cases c : a < l[i].f0
      · simp only [if_pos (show (i : Int) < (l.length : Int) by omega), Bool.false_eq_true, if_false, if_pos (show (0 : Int) ≤ (i : Int) by omega), rdE l i hb, decide_eq_true c, putE, if_pos c]
        refine Ev.step (fun k => spec_l12Put.j1.eq_2 _ _ _ _ _ _ _ k) ?_
        simp only [if_true, if_pos (show acc.length < 8796093022208 by omega)]
        have e := j2t (acc ++ [⟨a, b⟩]) (by rw [List.length_append, List.length_singleton]; omega)
        rw [List.append_assoc, List.singleton_append] at e
        exact e
      · simp only [if_pos (show (i : Int) < (l.length : Int) by omega), Bool.false_eq_true, if_false, if_pos (show (0 : Int) ≤ (i : Int) by omega), rdE l i hb, decide_eq_false c, putE, if_neg c]
        refine Ev.step (fun k => spec_l12Put.j1.eq_2 _ _ _ _ _ _ _ k) ?_
        simp only [Bool.false_eq_true, if_false]
        refine Ev.step (fun k => spec_l12Put.j2.eq_2 _ _ _ _ _ _ k) ?_
        have e := ih (i + 1) (acc ++ [l[i]]) (by omega) (by rw [List.length_append, List.length_singleton]; omega)
        simp only [List.append_assoc, List.singleton_append] at e
        simp only [if_pos (show (0 : Int) ≤ (i : Int) by omega), if_pos (show (i : Int) < (l.length : Int) by omega), rdE l i hb, if_pos (show acc.length < 8796093022208 by omega)]
        rw [wrap_id (x := (i : Int) + 1) (by omega) (by omega)]
        by_cases c2 : a = l[i].f0
        · simp only [if_pos c2]
          exact e.1
        · simp only [if_neg c2]
          exact e.2 (by rw [List.length_append, List.length_singleton]; omega)
theorem specPut (l : List S50) (a b : Int) (hl : l.length ≤ 100000000) : Ev (fun k => spec_l12Put.f k l a b) (putE l ⟨a, b⟩) := by
  unfold spec_l12Put.f
  exact (specPut_l l a b hl l.length 0 [] (by omega) (by simp)).2 (by simp)
theorem specDrain (l : List S50) (room : Int) (hl : l.length ≤ 100000000) (d : Nat) : ∀ (i : Nat) (h : Int) (g : List Int), i + d = l.length → 0 ≤ h → h + d ≤ 1000000000 → g.length + d ≤ 1000000000 →
    Ev (fun k => spec_EarHear.l1 k l (i : Int) h room g) (let y := drainE (l.drop i) h g; if y.1 > 1000000 then (0, 0, [], []) else (y.1, room, y.2.1, y.2.2)) := by
  have j3 : ∀ (i : Nat) (h : Int) (g : List Int), i ≤ l.length → Ev (fun k => spec_EarHear.j3 k l (i : Int) h room g) (if h > 1000000 then (0, 0, [], []) else (h, room, g, l.drop i)) := by
    intro i h g hi
    refine Ev.step (fun k => spec_EarHear.j3.eq_2 _ _ _ _ _ k) ?_
    simp only [if_pos (show (0 : Int) ≤ (i : Int) by omega), if_pos (show (i : Int) ≤ (l.length : Int) by omega), Int.toNat_natCast]
    split <;> exact Ev.now _
  induction d with
  | zero =>
    intro i h g hi h0 h1 hg
    refine Ev.step (fun k => spec_EarHear.l1.eq_2 _ _ _ _ _ k) ?_
    simp only [if_neg (show ¬ (i : Int) < (l.length : Int) by omega)]
    have e := j3 i h g (by omega)
    rw [List.drop_of_length_le (show l.length ≤ i by omega)] at e ⊢
    exact e
  | succ d ih =>
    intro i h g hi h0 h1 hg
    have hb : i < l.length := by omega
    refine Ev.step (fun k => spec_EarHear.l1.eq_2 _ _ _ _ _ k) ?_
    have e3 := j3 i h g (by omega)
    rw [List.drop_eq_getElem_cons hb] at e3 ⊢
    simp only [if_pos (show (i : Int) < (l.length : Int) by omega), if_pos (show (0 : Int) ≤ (i : Int) by omega), rdE l i hb, drainE]
    by_cases c : l[i].f0 = h
    · simp only [if_pos c, if_pos (show g.length < 140737488355328 by omega)]
      rw [wrap_id (x := (i : Int) + 1) (by omega) (by omega), wrap_id (x := h + 1) (by omega) (by omega)]
      exact ih (i + 1) (h + 1) (g ++ [l[i].f1]) (by omega) (by omega) (by omega) (by rw [List.length_append, List.length_singleton]; omega)
    · simp only [if_neg c]
      exact e3
theorem specHear_l0 (p : Int) (x : List Int) (f h room : Int) (g : List Int) (l : List S50) (p0 : 0 ≤ p) (p1 : p ≤ 1000000) (hx : x.length ≤ 10000000) (f0 : 0 ≤ f) (f1 : f ≤ 32) (h0 : 0 ≤ h) (h1 : h ≤ 1000000) (hg : g.length ≤ 32) (d : Nat) : ∀ (i : Nat) (far : List S50), i + d = x.length → far.length ≤ 10000000 + i →
    Ev (fun k => spec_EarHear.l0 k p x f far (i : Int) h room g l) (let y := drainE (hearL h f (p + i) (x.drop i) far) h g; if y.1 > 1000000 then (0, 0, [], []) else (y.1, room, y.2.1, y.2.2)) := by
  induction d with
  | zero =>
    intro i far hi hf
    rw [List.drop_of_length_le (show x.length ≤ i by omega)]
    have e := specDrain far room (by omega) far.length 0 h g (by omega) h0 (by omega) (by omega)
    rw [List.drop_zero] at e
    refine Ev.step (fun k => spec_EarHear.l0.eq_2 _ _ _ _ _ _ _ _ _ k) ?_
    simp only [if_neg (show ¬ (i : Int) < (x.length : Int) by omega), Option.bind_some, List.nil_append, hearL]
    simp only [if_pos (show ([] : List Int).length + g.length < 140737488355328 by rw [List.length_nil]; omega)]
    exact e
  | succ d ih =>
    intro i far hi hf
    have hb : i < x.length := by omega
    have w1 : wrap64 (p + (i : Int)) = p + (i : Int) := wrap_id (by omega) (by omega)
    have w2 : wrap64 (h + f) = h + f := wrap_id (by omega) (by omega)
    have w3 : wrap64 ((i : Int) + 1) = ((i + 1 : Nat) : Int) := by rw [wrap_id (by omega) (by omega)]; omega
    refine Ev.step (fun k => spec_EarHear.l0.eq_2 _ _ _ _ _ _ _ _ _ k) ?_
    rw [w1, w2, w3, List.drop_eq_getElem_cons hb]
    clear w1 w2 w3
    have hq : p + (i : Int) + 1 = p + ((i + 1 : Nat) : Int) := by omega
    simp only [if_pos (show (i : Int) < (x.length : Int) by omega), if_pos (show (0 : Int) ≤ (i : Int) by omega), hearL, rd_get x i hb, hq]
    by_cases c1 : p + (i : Int) ≥ h
    · by_cases c2 : p + (i : Int) < h + f
      · simp only [if_pos c1, if_pos c2, if_pos (show h ≤ p + (i : Int) ∧ p + (i : Int) < h + f from ⟨c1, c2⟩)]
        have hl := putE_len ⟨p + (i : Int), x[i]⟩ far
        exact Ev.bind (specPut far _ _ (by omega)) (ih (i + 1) _ (by omega) (by omega))
      · simp only [if_pos c1, if_neg c2, if_neg (show ¬ (h ≤ p + (i : Int) ∧ p + (i : Int) < h + f) from fun hh => c2 hh.2)]
        exact ih (i + 1) far (by omega) (by omega)
    · simp only [if_neg c1, if_neg (show ¬ (h ≤ p + (i : Int) ∧ p + (i : Int) < h + f) from fun hh => c1 hh.1)]
      exact ih (i + 1) far (by omega) (by omega)
theorem spec_earHear (h room : Int) (g : List Int) (l : List S50) (p : Int) (x : List Int) (hg : g.length ≤ 1048576) (hx : x.length ≤ 1048576) (hl : l.length ≤ 1048576) :
    Ev (fun k => spec_EarHear.f k h room g l p x) (earHear h room g l p x) := by
  have jt : Ev (fun k => spec_EarHear.j0 k p x true h room g l) (0, 0, [], []) := by
    refine Ev.step (fun k => spec_EarHear.j0.eq_2 _ _ _ _ _ _ _ k) ?_
    simp only [if_true]; exact Ev.now _
  unfold spec_EarHear.f earHear
  refine Ev.bind (spec_earOk h room g l (by omega) (by omega)) ?_
  by_cases c : earOk h room g l = true
  · obtain ⟨c1, c2, c3, c4, c5⟩ := earOk_le c
    simp only [c, if_true, true_and, spec_l1In.f]
    by_cases c6 : p ≥ 0
    · simp only [if_pos c6, Option.bind_some]
      by_cases c7 : p ≤ 1000000
      · simp only [decide_eq_true c7, Bool.not_true, if_pos (show 0 ≤ p ∧ p ≤ 1000000 from ⟨c6, c7⟩)]
        have ef := spec_earFree h room g l (by omega) (by omega)
        unfold earFree at ef
        rw [if_pos c] at ef
        have e := specHear_l0 p x (room - (g.length : Int)) h room g l c6 c7 (by omega) (by omega) (by omega) c1 c2 (by omega) x.length 0 l (by omega) (by omega)
        rw [List.drop_zero, show p + ((0 : Nat) : Int) = p by omega] at e
        refine Ev.step (fun k => spec_EarHear.j0.eq_2 _ _ _ _ _ _ _ k) ?_
        simp only [Bool.false_eq_true, if_false]
        refine Ev.bind ef ?_
        simp only [Option.bind_some, List.nil_append]
        simp only [if_pos (show ([] : List S50).length + l.length < 8796093022208 by rw [List.length_nil]; omega)]
        exact e
      · simp only [decide_eq_false c7, Bool.not_false, if_neg (show ¬ (0 ≤ p ∧ p ≤ 1000000) from fun hh => c7 hh.2)]
        exact jt
    · simp only [if_neg c6, Option.bind_some, Bool.not_false, if_neg (show ¬ (0 ≤ p ∧ p ≤ 1000000) from fun hh => c6 hh.1)]
      exact jt
  · simp only [c, Bool.false_eq_true, if_false, false_and]
    exact jt

/-! EarHear of the program -/
theorem earFrom_at (h f : Int) (l : List S50) (d : Nat) : ∀ i, earFrom h f l d i = true → ∀ j, i ≤ j → j < i + d → earAt h f l j = true := by
  induction d with
  | zero => intro i _ j h1 h2; omega
  | succ d ih =>
    intro i hh j h1 h2
    unfold earFrom at hh
    rw [Bool.and_eq_true] at hh
    by_cases c : j = i
    · rw [c]; exact hh.1
    · exact ih (i + 1) hh.2 j (by omega) (by omega)
theorem earAt_from (h f : Int) (l : List S50) (d : Nat) : ∀ i, (∀ j, i ≤ j → j < i + d → earAt h f l j = true) → earFrom h f l d i = true := by
  induction d with
  | zero => intro i _; rfl
  | succ d ih =>
    intro i hh
    unfold earFrom
    rw [Bool.and_eq_true]
    exact ⟨hh i (by omega) (by omega), ih (i + 1) (fun j h1 h2 => hh j (by omega) (by omega))⟩
theorem pairE (l : List S50) (hh : ∀ j (hj : j + 1 < l.length), (l[j]).f0 < (l[j + 1]).f0) : l.Pairwise (fun x y => x.f0 < y.f0) := by
  rw [List.pairwise_iff_getElem]
  intro i j hi hj hij
  obtain ⟨d, rfl⟩ : ∃ d, j = i + 1 + d := ⟨j - (i + 1), by omega⟩
  induction d with
  | zero => exact hh i hj
  | succ d ih =>
    have h1 := ih (by omega) (by omega)
    have h2 := hh (i + 1 + d) (by omega)
    exact Int.lt_trans h1 h2
theorem earFrom_good {h f : Int} {l : List S50} (hh : earFrom h f l l.length 0 = true) : goodE (h + 1) (f - 1) l := by
  have ha := earFrom_at h f l l.length 0 hh
  refine ⟨pairE l (fun j hj => ?_), fun x hx => ?_⟩
  · have := ha (j + 1) (by omega) (by omega)
    unfold earAt at this
    simp only [Bool.and_eq_true, Bool.or_eq_true, decide_eq_true_eq, beq_iff_eq] at this
    have h2 := this.2
    rw [show ((j + 1 : Nat) : Int) - 1 = (j : Int) by omega, rdE l j (by omega), rdE l (j + 1) hj] at h2
    rcases h2 with h2 | h2
    · omega
    · exact h2
  · obtain ⟨j, hj, rfl⟩ := List.getElem_of_mem hx
    have := ha j (by omega) (by omega)
    unfold earAt at this
    simp only [Bool.and_eq_true, decide_eq_true_eq] at this
    rw [rdE l j hj] at this
    omega
theorem good_earFrom {h f : Int} {l : List S50} (hh : goodE (h + 1) (f - 1) l) : earFrom h f l l.length 0 = true := by
  refine earAt_from h f l l.length 0 (fun j _ hj => ?_)
  have hj' : j < l.length := by omega
  have hm := hh.2 l[j] (List.getElem_mem hj')
  unfold earAt
  simp only [Bool.and_eq_true, Bool.or_eq_true, decide_eq_true_eq, beq_iff_eq]
  rw [rdE l j hj']
  refine ⟨⟨by omega, by omega⟩, ?_⟩
  by_cases c : j = 0
  · exact .inl c
  · refine .inr ?_
    have := (List.pairwise_iff_getElem.1 hh.1) (j - 1) j (by omega) hj' (by omega)
    rw [show (j : Int) - 1 = ((j - 1 : Nat) : Int) by omega, rdE l (j - 1) (by omega)]
    exact this
theorem half_ (i j : Nat) (hi : i ≤ 1000000000) (hj : j ≤ 1000000000) : wrap64 ((IntKind.u64.wrap (wrap64 ((i : Int) + (j : Int)))) / 2) = (((i + j) / 2 : Nat) : Int) := by
  have w1 : wrap64 ((i : Int) + (j : Int)) = (i : Int) + (j : Int) := wrap_id (by omega) (by omega)
  have w2 : IntKind.u64.wrap ((i : Int) + (j : Int)) = (i : Int) + (j : Int) := by
    rw [IntKind.wrap_u64]; omega
  rw [w1, w2, wrap_id (by omega) (by omega)]
  omega
theorem search_l (l : List S50) (t : Int) (hl : l.length ≤ 100000000) (hb : ∀ y ∈ l, -10000000 ≤ y.f0 ∧ y.f0 ≤ 10000000) (t0 : -10000000 ≤ t) (t1 : t ≤ 10000000) (hs : l.Pairwise (fun x y => x.f0 < y.f0)) (d : Nat) :
    ∀ i j : Nat, j - i ≤ d → i ≤ j → j ≤ l.length → (∀ m (hm : m < l.length), m < i → l[m].f0 < t) → (∀ m (hm : m < l.length), j ≤ m → t ≤ l[m].f0) →
    ∃ kk : Nat, kk ≤ l.length ∧ Ev (fun k => impl_Early_int.l0 k l t (l.length : Int) (i : Int) (j : Int)) ((kk : Int), decide (∃ h : kk < l.length, l[kk].f0 = t)) ∧ (∀ m (hm : m < l.length), m < kk → l[m].f0 < t) ∧ (∀ m (hm : m < l.length), kk ≤ m → t ≤ l[m].f0) := by
  have stop : ∀ i : Nat, i ≤ l.length → (∀ m (hm : m < l.length), m < i → l[m].f0 < t) → (∀ m (hm : m < l.length), i ≤ m → t ≤ l[m].f0) →
    ∃ kk : Nat, kk ≤ l.length ∧ Ev (fun k => impl_Early_int.l0 k l t (l.length : Int) (i : Int) (i : Int)) ((kk : Int), decide (∃ h : kk < l.length, l[kk].f0 = t)) ∧ (∀ m (hm : m < l.length), m < kk → l[m].f0 < t) ∧ (∀ m (hm : m < l.length), kk ≤ m → t ≤ l[m].f0) := by
    intro i hi h1 h2
    refine ⟨i, hi, Ev.succ ?_, h1, h2⟩
    simp only [impl_Early_int.l0, if_neg (show ¬ (i : Int) < (i : Int) by omega)]
    by_cases c : i < l.length
    · have hbi := hb l[i] (List.getElem_mem c)
      simp only [if_pos (show (i : Int) < (l.length : Int) by omega), if_pos (show (0 : Int) ≤ (i : Int) by omega), rdE l i c, impl_Ear_hear_1.f, Option.bind_some]
      rw [wrap_id (x := l[i].f0 - t) (by omega) (by omega)]
      rw [show (l[i].f0 - t == 0) = decide (∃ h : i < l.length, l[i].f0 = t) by
        rw [Bool.eq_iff_iff, beq_iff_eq, decide_eq_true_eq]
        exact ⟨fun h => ⟨c, by omega⟩, fun ⟨_, h⟩ => by omega⟩]
      exact Ev.now _
    · simp only [if_neg (show ¬ (i : Int) < (l.length : Int) by omega)]
      rw [show decide (∃ h : i < l.length, l[i].f0 = t) = false from decide_eq_false (fun ⟨h, _⟩ => c h)]
      exact Ev.now _
  induction d with
  | zero =>
    intro i j h1 h2 h3 h4 h5
    obtain rfl : i = j := by omega
    exact stop i h3 h4 h5
  | succ d ih =>
    intro i j h1 h2 h3 h4 h5
    by_cases c : i = j
    · subst c; exact stop i h3 h4 h5
    · have hm : (i + j) / 2 < l.length := by omega
      have hbi := hb l[(i + j) / 2] (List.getElem_mem hm)
      have hw : wrap64 (l[(i + j) / 2].f0 - t) = l[(i + j) / 2].f0 - t := wrap_id (by omega) (by omega)
      have hw2 : wrap64 ((((i + j) / 2 : Nat) : Int) + 1) = (((i + j) / 2 + 1 : Nat) : Int) := by rw [wrap_id (by omega) (by omega)]; omega
      have hp := List.pairwise_iff_getElem.1 hs
      by_cases c2 : l[(i + j) / 2].f0 - t < 0
      · obtain ⟨kk, k1, k2, k3, k4⟩ := ih ((i + j) / 2 + 1) j (by omega) (by omega) h3 (fun m hm2 hlt => by
          by_cases e : m = (i + j) / 2
          · subst e; omega
          · have := hp m ((i + j) / 2) hm2 hm (by omega); omega) h5
        refine ⟨kk, k1, Ev.succ ?_, k3, k4⟩
        simp only [impl_Early_int.l0, if_pos (show (i : Int) < (j : Int) by omega)]
        rw [half_ i j (by omega) (by omega)]
        simp only [if_pos (show (0 : Int) ≤ (((i + j) / 2 : Nat) : Int) by omega), if_pos (show (((i + j) / 2 : Nat) : Int) < (l.length : Int) by omega), rdE l ((i + j) / 2) hm, impl_Ear_hear_1.f, Option.bind_some, hw, if_pos c2, hw2]
        exact k2
      · obtain ⟨kk, k1, k2, k3, k4⟩ := ih i ((i + j) / 2) (by omega) (by omega) (by omega) h4 (fun m hm2 hle => by
          by_cases e : m = (i + j) / 2
          · subst e; omega
          · have := hp ((i + j) / 2) m hm hm2 (by omega); omega)
        refine ⟨kk, k1, Ev.succ ?_, k3, k4⟩
        simp only [impl_Early_int.l0, if_pos (show (i : Int) < (j : Int) by omega)]
        rw [half_ i j (by omega) (by omega)]
        simp only [if_pos (show (0 : Int) ≤ (((i + j) / 2 : Nat) : Int) by omega), if_pos (show (((i + j) / 2 : Nat) : Int) < (l.length : Int) by omega), rdE l ((i + j) / 2) hm, impl_Ear_hear_1.f, Option.bind_some, hw, if_neg c2]
        exact k2
theorem search_ (l : List S50) (t : Int) (hl : l.length ≤ 100000000) (hb : ∀ y ∈ l, -10000000 ≤ y.f0 ∧ y.f0 ≤ 10000000) (t0 : -10000000 ≤ t) (t1 : t ≤ 10000000) (hs : l.Pairwise (fun x y => x.f0 < y.f0)) :
    ∃ (kk : Nat) (b : Bool), kk ≤ l.length ∧ Ev (fun k => impl_Early_int.f k l t) ((kk : Int), b) ∧ ∀ c : Int, putE l ⟨t, c⟩ = if b = true then l else l.take kk ++ [⟨t, c⟩] ++ l.drop kk := by
  obtain ⟨kk, k1, k2, k3, k4⟩ := search_l l t hl hb t0 t1 hs l.length 0 l.length (by omega) (by omega) (by omega) (fun m _ h => by omega) (fun m h1 h2 => by omega)
  refine ⟨kk, _, k1, k2, fun c => ?_⟩
  by_cases e : ∃ h : kk < l.length, l[kk].f0 = t
  · rw [if_pos (decide_eq_true e)]
    obtain ⟨h, e⟩ := e
    exact putE_has ⟨t, c⟩ l kk h k3 e
  · rw [if_neg (by simpa using e)]
    exact putE_at ⟨t, c⟩ l kk k1 k3 (fun h => by
      have h1 := k4 kk h (by omega)
      have h2 : l[kk].f0 ≠ t := fun e2 => e ⟨h, e2⟩
      show t < l[kk].f0
      omega)
theorem implCopy (h room : Int) (g : List Int) (l : List S50) (hg : g.length ≤ 1000000000) (hl : l.length ≤ 1000000000) : impl_Ear_copy.f h room g l = some (h, room, g, l) := by
  simp only [impl_Ear_copy.f, impl_clone_byte.f, impl_Early_32.f, if_pos (show g.length * 1 ≤ 140737488355328 by omega), if_pos (show l.length * 16 ≤ 140737488355328 by omega), Option.bind_some]
theorem implDrain (room : Int) : ∀ (l : List S50) (h : Int) (g : List Int), l.length ≤ 100000000 → 0 ≤ h → h + l.length ≤ 1000000000 → g.length + l.length ≤ 1000000000 →
    Ev (fun k => impl_Ear_hear.l1 k h room g l) ((drainE l h g).1, room, (drainE l h g).2.1, (drainE l h g).2.2)
  | [], h, g, hl, h0, h1, hg => by
    refine Ev.step (fun k => impl_Ear_hear.l1.eq_2 _ _ _ _ k) ?_
    simp only [List.length_nil, Int.natCast_zero, gt_iff_lt, Int.lt_irrefl, if_false, drainE, implCopy h room g [] (by simpa using hg) (by simp), Option.bind_some]
    exact Ev.now _
  | x :: l, h, g, hl, h0, h1, hg => by
    simp only [List.length_cons] at hl h1 hg
    refine Ev.step (fun k => impl_Ear_hear.l1.eq_2 _ _ _ _ k) ?_
    have hr : rd_T50 (x :: l) 0 = x := by
      have := rdE (x :: l) 0 (by simp)
      simpa using this
    have hd : (x :: l).drop (1 : Int).toNat = l := rfl
    have hp : ((x :: l).length : Int) > 0 := by rw [List.length_cons]; omega
    have hp1 : (1 : Int) ≤ ((x :: l).length : Int) := by rw [List.length_cons]; omega
    simp only [if_pos hp, hr, hd, if_pos hp1, drainE]
    by_cases c : x.f0 = h
    · simp only [if_pos c, if_pos (show g.length < 140737488355328 by omega)]
      have e := implDrain room l (h + 1) (g ++ [x.f1]) (by omega) (by omega) (by omega) (by rw [List.length_append, List.length_singleton]; omega)
      rw [wrap_id (x := h + 1) (by omega) (by omega)]
      exact e
    · simp only [if_neg c, implCopy h room g (x :: l) (by omega) (by rw [List.length_cons]; omega), Option.bind_some]
      exact Ev.now _
theorem implHear_l0 (p : Int) (x : List Int) (h room : Int) (g : List Int) (l : List S50) (p0 : 0 ≤ p) (p1 : p ≤ 1000000) (hx : x.length ≤ 5000000) (hgr : (g.length : Int) ≤ room) (r1 : room ≤ 32) (h0 : 0 ≤ h) (h1 : h ≤ 1000000) (d : Nat) : ∀ (i : Nat) (far : List S50), i + d = x.length → goodE h (room - g.length) far → far.length ≤ 10000000 + i →
    Ev (fun k => impl_Ear_hear.l0 k p x (x.length : Int) (i : Int) h room g l h room g far) (let y := drainE (hearL h (room - g.length) (p + i) (x.drop i) far) h g; (y.1, room, y.2.1, y.2.2)) := by
  induction d with
  | zero =>
    intro i far hi hG hf
    rw [List.drop_of_length_le (show x.length ≤ i by omega)]
    refine Ev.step (fun k => impl_Ear_hear.l0.eq_2 _ _ _ _ _ _ _ _ _ _ _ _ k) ?_
    simp only [if_neg (show ¬ (i : Int) < (x.length : Int) by omega), hearL]
    exact implDrain room far h g (by omega) h0 (by omega) (by omega)
  | succ d ih =>
    intro i far hi hG hf
    have hb : i < x.length := by omega
    have hq : p + (i : Int) + 1 = p + ((i + 1 : Nat) : Int) := by omega
    refine Ev.step (fun k => impl_Ear_hear.l0.eq_2 _ _ _ _ _ _ _ _ _ _ _ _ k) ?_
    rw [wrap_id (x := p + (i : Int)) (by omega) (by omega), List.drop_eq_getElem_cons hb]
    simp only [if_pos (show (i : Int) < (x.length : Int) by omega), if_pos (show (0 : Int) ≤ (i : Int) by omega), hearL, rd_get x i hb, impl_Ear_free.f, Option.bind_some]
    rw [wrap_id (x := room - (g.length : Int)) (by omega) (by omega), wrap_id (x := h + (room - (g.length : Int))) (by omega) (by omega)]
    obtain ⟨f, hfe⟩ : ∃ f, f = room - (g.length : Int) := ⟨_, rfl⟩
    rw [← hfe] at hG ih ⊢
    have jt : ¬ (h ≤ p + (i : Int) ∧ p + (i : Int) < h + f) → Ev (fun k => impl_Ear_hear.j1 k p x[i] (p + (i : Int)) x (x.length : Int) (i : Int) true h room g l h room g far) (let y := drainE (hearL h f (p + ((i + 1 : Nat) : Int)) (x.drop (i + 1)) far) h g; (y.1, room, y.2.1, y.2.2)) := by
      intro hn
      refine Ev.step (fun k => impl_Ear_hear.j1.eq_2 _ _ _ _ _ _ _ _ _ _ _ _ _ _ _ k) ?_
      rw [wrap_id (x := (i : Int) + 1) (by omega) (by omega)]
      simp only [if_true]
      exact ih (i + 1) far (by omega) hG (by omega)
    rw [hq]
    by_cases c1 : p + (i : Int) < h
    · simp only [if_pos c1]
      have hn : ¬ (h ≤ p + (i : Int) ∧ p + (i : Int) < h + f) := fun hh => by omega
      rw [if_neg hn]
      exact jt hn
    · simp only [if_neg c1]
      by_cases c2 : p + (i : Int) ≥ h + f
      · simp only [decide_eq_true c2]
        have hn : ¬ (h ≤ p + (i : Int) ∧ p + (i : Int) < h + f) := fun hh => by omega
        rw [if_neg hn]
        exact jt hn
      · simp only [decide_eq_false c2]
        have hy : h ≤ p + (i : Int) ∧ p + (i : Int) < h + f := by omega
        rw [if_pos hy]
        refine Ev.step (fun k => impl_Ear_hear.j1.eq_2 _ _ _ _ _ _ _ _ _ _ _ _ _ _ _ k) ?_
        rw [wrap_id (x := (i : Int) + 1) (by omega) (by omega)]
        simp only [Bool.false_eq_true, if_false]
        obtain ⟨kk, b, k1, k2, k3⟩ := search_ far (p + (i : Int)) (by omega) (fun y hy => by have := hG.2 y hy; omega) (by omega) (by omega) hG.1
        refine Ev.bind k2 ?_
        have hG2 := putE_good hG ⟨p + (i : Int), x[i]⟩ hy.1 hy.2
        have hl2 := putE_len ⟨p + (i : Int), x[i]⟩ far
        have e := ih (i + 1) _ (by omega) hG2 (by omega)
        rw [k3 x[i]] at e ⊢
        cases b with
        | true => simp only [if_true] at e ⊢; exact e
        | false =>
          simp only [Bool.false_eq_true, if_false] at e ⊢
          simp only [if_pos (show (0 : Int) ≤ (kk : Int) by omega), if_pos (show (kk : Int) ≤ (far.length : Int) by omega), if_pos (show far.length < 8796093022208 by omega), Int.toNat_natCast]
          exact e
theorem impl_earHear (h room : Int) (g : List Int) (l : List S50) (p : Int) (x : List Int) (hg : g.length ≤ 1048576) (hx : x.length ≤ 1048576) (hl : l.length ≤ 1048576) :
    Ev (fun k => impl_EarHear.f k h room g l p x) (earHear h room g l p x) := by
  have jt : Ev (fun k => impl_EarHear.j0 k p x true h room g l) (0, 0, [], []) := by
    refine Ev.step (fun k => impl_EarHear.j0.eq_2 _ _ _ _ _ _ _ k) ?_
    simp only [if_true]; exact Ev.now _
  unfold impl_EarHear.f earHear
  refine Ev.bind (impl_earOk h room g l (by omega) (by omega)) ?_
  by_cases c : earOk h room g l = true
  · obtain ⟨c1, c2, c3, c4, c5⟩ := earOk_le c
    have hG : goodE h (room - g.length) l := by
      have c' := c
      unfold earOk at c'
      rw [Bool.and_eq_true] at c'
      have h2 := earFrom_good c'.2
      exact ⟨h2.1, fun y hy => by have := h2.2 y hy; omega⟩
    simp only [c, if_true, true_and, impl_in.f]
    by_cases c6 : p ≥ 0
    · simp only [if_pos c6, Option.bind_some]
      by_cases c7 : p ≤ 1000000
      · simp only [decide_eq_true c7, Bool.not_true, if_pos (show 0 ≤ p ∧ p ≤ 1000000 from ⟨c6, c7⟩)]
        have e := implHear_l0 p x h room g l c6 c7 (by omega) c5 c4 c1 c2 x.length 0 l (by omega) hG (by omega)
        rw [List.drop_zero, show p + ((0 : Nat) : Int) = p by omega] at e
        refine Ev.step (fun k => impl_EarHear.j0.eq_2 _ _ _ _ _ _ _ k) ?_
        simp only [Bool.false_eq_true, if_false]
        have eh : Ev (fun k => impl_Ear_hear.f k h room g l p x) (let y := drainE (hearL h (room - g.length) p x l) h g; (y.1, room, y.2.1, y.2.2)) := by
          unfold impl_Ear_hear.f
          rw [implCopy h room g l (by omega) (by omega)]
          exact e
        refine Ev.bind eh ?_
        simp only []
        split <;> exact Ev.now _
      · simp only [decide_eq_false c7, Bool.not_false, if_neg (show ¬ (0 ≤ p ∧ p ≤ 1000000) from fun hh => c7 hh.2)]
        exact jt
    · simp only [if_neg c6, Option.bind_some, Bool.not_false, if_neg (show ¬ (0 ≤ p ∧ p ≤ 1000000) from fun hh => c6 hh.1)]
      exact jt
  · simp only [c, Bool.false_eq_true, if_false, false_and]
    exact jt

/-! how long what was heard is -/
theorem drainE_len : ∀ (l : List S50) (h : Int) (g : List Int), (drainE l h g).2.1.length + (drainE l h g).2.2.length = g.length + l.length ∧ (drainE l h g).1 + g.length = h + (drainE l h g).2.1.length ∧ g.length ≤ (drainE l h g).2.1.length
  | [], h, g => by simp [drainE]
  | x :: l, h, g => by
    unfold drainE
    split
    · obtain ⟨h1, h2, h3⟩ := drainE_len l (h + 1) (g ++ [x.f1])
      rw [List.length_append, List.length_singleton] at h1 h2 h3
      simp only [List.length_cons]
      omega
    · simp
theorem earHear_len (h room : Int) (g : List Int) (l : List S50) (p : Int) (x : List Int) : (earHear h room g l p x).2.2.1.length ≤ g.length + (l.length + x.length) ∧ (earHear h room g l p x).2.2.2.length ≤ g.length + (l.length + x.length) := by
  unfold earHear
  split
  · have h1 := hearL_len h (room - g.length) x p l
    obtain ⟨h2, h3, h4⟩ := drainE_len (hearL h (room - g.length) p x l) h g
    generalize drainE (hearL h (room - g.length) p x l) h g = y at *
    simp only []
    split
    · simp
    · simp only []; omega
  · simp

/-! an ear that heard -/
theorem drainE_good : ∀ (l : List S50) (h f : Int) (g : List Int), 0 ≤ f → goodE h f l → h ≤ (drainE l h g).1 ∧ (drainE l h g).1 ≤ h + f ∧ goodE ((drainE l h g).1 + 1) (h + f - (drainE l h g).1 - 1) (drainE l h g).2.2 ∧ (∃ t, (drainE l h g).2.1 = g ++ t) ∧ ∀ y ∈ l, (drainE l h g).1 ≤ y.f0 → y ∈ (drainE l h g).2.2
  | [], h, f, g, hf, _ => by
    simp only [drainE]
    exact ⟨Int.le_refl _, by omega, ⟨List.Pairwise.nil, fun x hx => by cases hx⟩, ⟨[], (List.append_nil _).symm⟩, fun y hy _ => hy⟩
  | x :: l, h, f, g, hf, hG => by
    obtain ⟨p1, p2⟩ := List.pairwise_cons.1 hG.1
    have hx := hG.2 x List.mem_cons_self
    unfold drainE
    by_cases c : x.f0 = h
    · rw [if_pos c]
      have hG' : goodE (h + 1) (f - 1) l := ⟨p2, fun y hy => by have h1 := p1 y hy; have h2 := hG.2 y (List.mem_cons_of_mem _ hy); omega⟩
      obtain ⟨i1, i2, i3, ⟨t, i4⟩, i5⟩ := drainE_good l (h + 1) (f - 1) (g ++ [x.f1]) (by omega) hG'
      refine ⟨by omega, by omega, ?_, ⟨[x.f1] ++ t, by rw [i4, List.append_assoc]⟩, fun y hy hle => ?_⟩
      · rw [show h + f - (drainE l (h + 1) (g ++ [x.f1])).1 - 1 = h + 1 + (f - 1) - (drainE l (h + 1) (g ++ [x.f1])).1 - 1 by omega]
        exact i3
      · rcases List.mem_cons.1 hy with rfl | hy
        · omega
        · exact i5 y hy hle
    · rw [if_neg c]
      refine ⟨Int.le_refl _, by omega, ⟨hG.1, fun y hy => ?_⟩, ⟨[], (List.append_nil _).symm⟩, fun y hy _ => hy⟩
      simp only []
      rcases List.mem_cons.1 hy with rfl | hy
      · omega
      · have h1 := p1 y hy
        have h2 := hG.2 y (List.mem_cons_of_mem _ hy)
        omega
theorem putE_mono (e : S50) : ∀ (l : List S50) (y : S50), y ∈ l → y ∈ putE l e
  | x :: l, y, hy => by
    unfold putE
    split
    · exact List.mem_cons_of_mem _ hy
    · split
      · exact hy
      · rcases List.mem_cons.1 hy with rfl | hy
        · exact List.mem_cons_self
        · exact List.mem_cons_of_mem _ (putE_mono e l y hy)
theorem putE_in (e : S50) : ∀ l : List S50, ∃ y ∈ putE l e, y.f0 = e.f0
  | [] => ⟨e, by simp [putE], rfl⟩
  | x :: l => by
    unfold putE
    split
    · exact ⟨e, List.mem_cons_self, rfl⟩
    · split
      · rename_i c; exact ⟨x, List.mem_cons_self, c.symm⟩
      · obtain ⟨y, h1, h2⟩ := putE_in e l
        exact ⟨y, List.mem_cons_of_mem _ h1, h2⟩
theorem putE_same (e : S50) : ∀ l : List S50, l.Pairwise (fun x y => x.f0 < y.f0) → (∃ y ∈ l, y.f0 = e.f0) → putE l e = l
  | [], _, ⟨y, hy, _⟩ => by cases hy
  | x :: l, hs, ⟨y, hy, he⟩ => by
    obtain ⟨p1, p2⟩ := List.pairwise_cons.1 hs
    rcases List.mem_cons.1 hy with rfl | hy
    · simp only [putE, if_neg (show ¬ e.f0 < y.f0 by omega), if_pos he.symm]
    · have := p1 y hy
      simp only [putE, if_neg (show ¬ e.f0 < x.f0 by omega), if_neg (show ¬ e.f0 = x.f0 by omega), putE_same e l p2 ⟨y, hy, he⟩]
theorem hearL_good (h f : Int) : ∀ (x : List Int) (q : Int) (far : List S50), goodE h f far → goodE h f (hearL h f q x far)
  | [], _, _, hG => by simpa [hearL] using hG
  | b :: x, q, far, hG => by
    unfold hearL
    refine hearL_good h f x (q + 1) _ ?_
    split
    · rename_i c; exact putE_good hG ⟨q, b⟩ c.1 c.2
    · exact hG
theorem hearL_mono (h f : Int) : ∀ (x : List Int) (q : Int) (far : List S50) (y : S50), y ∈ far → y ∈ hearL h f q x far
  | [], _, _, _, hy => by simpa [hearL] using hy
  | b :: x, q, far, y, hy => by
    unfold hearL
    refine hearL_mono h f x (q + 1) _ y ?_
    split
    · exact putE_mono _ _ _ hy
    · exact hy
theorem hearL_in (h f : Int) : ∀ (x : List Int) (q : Int) (far : List S50) (m : Nat), m < x.length → h ≤ q + m → q + m < h + f → ∃ y ∈ hearL h f q x far, y.f0 = q + m
  | b :: x, q, far, 0, _, h1, h2 => by
    unfold hearL
    rw [if_pos (show h ≤ q ∧ q < h + f by omega)]
    obtain ⟨y, a1, a2⟩ := putE_in ⟨q, b⟩ far
    exact ⟨y, hearL_mono h f x (q + 1) _ y a1, by rw [a2]; simp⟩
  | b :: x, q, far, m + 1, hm, h1, h2 => by
    unfold hearL
    obtain ⟨y, a1, a2⟩ := hearL_in h f x (q + 1) (if h ≤ q ∧ q < h + f then putE far ⟨q, b⟩ else far) m (by simpa using hm) (by omega) (by omega)
    exact ⟨y, a1, by rw [a2]; omega⟩
theorem hearL_same (h f : Int) : ∀ (x : List Int) (q : Int) (far : List S50), far.Pairwise (fun x y => x.f0 < y.f0) → (∀ m : Nat, m < x.length → h ≤ q + m → q + m < h + f → ∃ y ∈ far, y.f0 = q + m) → hearL h f q x far = far
  | [], _, _, _, _ => by simp [hearL]
  | b :: x, q, far, hs, hh => by
    unfold hearL
    have e : (if h ≤ q ∧ q < h + f then putE far ⟨q, b⟩ else far) = far := by
      split
      · rename_i c
        obtain ⟨y, a1, a2⟩ := hh 0 (by simp) (by omega) (by omega)
        exact putE_same _ _ hs ⟨y, a1, by rw [a2]; simp⟩
      · rfl
    rw [e]
    refine hearL_same h f x (q + 1) far hs (fun m hm h1 h2 => ?_)
    obtain ⟨y, a1, a2⟩ := hh (m + 1) (by simpa using hm) (by omega) (by omega)
    exact ⟨y, a1, by rw [a2]; omega⟩
theorem drainE_stop (l : List S50) (h : Int) (g : List Int) (hh : ∀ y ∈ l, h + 1 ≤ y.f0) : drainE l h g = (h, g, l) := by
  cases l with
  | nil => rfl
  | cons x l =>
    have := hh x List.mem_cons_self
    unfold drainE
    rw [if_neg (by omega)]
theorem earOk_good {h room : Int} {g : List Int} {l : List S50} (c : earOk h room g l = true) : goodE (h + 1) (room - g.length - 1) l := by
  unfold earOk at c
  rw [Bool.and_eq_true] at c
  exact earFrom_good c.2
/-- what an ear is behind what it heard, as long as its place is no too great one -/
theorem earHear_ok {h room : Int} {g : List Int} {l : List S50} {p : Int} {x : List Int} (c : earOk h room g l = true) (p0 : 0 ≤ p) (p1 : p ≤ 1000000) (hs : h + l.length + x.length ≤ 1000000) :
    ∃ h' g' l', earHear h room g l p x = (h', room, g', l') ∧ earOk h' room g' l' = true ∧ h ≤ h' ∧ (g'.length : Int) - g.length = h' - h ∧ (∃ t, g' = g ++ t) ∧ earHear h' room g' l' p x = (h', room, g', l') := by
  obtain ⟨c1, c2, c3, c4, c5⟩ := earOk_le c
  have hG0 := earOk_good c
  have hG1 : goodE h (room - g.length) l := ⟨hG0.1, fun y hy => by have := hG0.2 y hy; omega⟩
  have hG := hearL_good h (room - g.length) x p l hG1
  have hin := hearL_in h (room - g.length) x p l
  have hlen := hearL_len h (room - g.length) x p l
  have hd := drainE_good (hearL h (room - g.length) p x l) h (room - g.length) g (by omega) hG
  have hdl := drainE_len (hearL h (room - g.length) p x l) h g
  have e1 : earHear h room g l p x = (let y := drainE (hearL h (room - g.length) p x l) h g; if y.1 > 1000000 then (0, 0, [], []) else (y.1, room, y.2.1, y.2.2)) := by
    unfold earHear; rw [if_pos ⟨c, p0, p1⟩]
  generalize drainE (hearL h (room - g.length) p x l) h g = y at *
  obtain ⟨h', g', l'⟩ := y
  obtain ⟨d1, d2, d3, ⟨t, d4⟩, d5⟩ := hd
  obtain ⟨n1, n2, n3⟩ := hdl
  simp only [] at d1 d2 d3 d4 d5 n1 n2 n3 e1
  have hle : h' ≤ 1000000 := by omega
  rw [if_neg (show ¬ h' > 1000000 by omega)] at e1
  have ok' : earOk h' room g' l' = true := by
    unfold earOk
    rw [Bool.and_eq_true]
    refine ⟨?_, good_earFrom ?_⟩
    · simp only [Bool.and_eq_true, decide_eq_true_eq]
      exact ⟨⟨⟨⟨by omega, hle⟩, c3⟩, c4⟩, by omega⟩
    · rw [show room - (g'.length : Int) - 1 = h + (room - g.length) - h' - 1 by omega]
      exact d3
  refine ⟨h', g', l', e1, ok', d1, by omega, ⟨t, d4⟩, ?_⟩
  unfold earHear
  rw [if_pos ⟨ok', p0, p1⟩]
  have e2 : hearL h' (room - g'.length) p x l' = l' := by
    refine hearL_same h' (room - g'.length) x p l' d3.1 (fun m hm a1 a2 => ?_)
    obtain ⟨y, b1, b2⟩ := hin m hm (by omega) (by omega)
    exact ⟨y, d5 y b1 (by omega), b2⟩
  rw [e2, drainE_stop l' h' g' (fun y hy => (d3.2 y hy).1)]
  simp only [if_neg (show ¬ h' > 1000000 by omega)]

/-! an ear that was read stays one -/
theorem earFrom_mono (h f f' : Int) (l : List S50) (hf : f ≤ f') (d : Nat) : ∀ i, earFrom h f l d i = true → earFrom h f' l d i = true := by
  induction d with
  | zero => intro i _; rfl
  | succ d ih =>
    intro i hh
    unfold earFrom earAt at hh ⊢
    simp only [Bool.and_eq_true, decide_eq_true_eq] at hh ⊢
    exact ⟨⟨⟨hh.1.1.1, by omega⟩, hh.1.2⟩, ih _ hh.2⟩
theorem earOk_less {h room : Int} {g g' : List Int} {l : List S50} (c : earOk h room g l = true) (hg : g'.length ≤ g.length) : earOk h room g' l = true := by
  obtain ⟨c1, c2, c3, c4, c5⟩ := earOk_le c
  unfold earOk at c ⊢
  rw [Bool.and_eq_true] at c ⊢
  refine ⟨?_, earFrom_mono _ _ _ _ (by omega) _ _ c.2⟩
  simp only [Bool.and_eq_true, decide_eq_true_eq]
  exact ⟨⟨⟨⟨c1, c2⟩, c3⟩, c4⟩, by omega⟩

/-! draws, step by step -/
def Dr {α : Type} (f : Nat → Option α) (P : α → Prop) : Prop := ∃ r, Ev f r ∧ P r
theorem Dr.bind {α β : Type} {g : Nat → Option α} {f : Nat → α → Option β} {P : α → Prop} {Q : β → Prop} (h : Dr g P) (k : ∀ r, P r → Dr (fun n => f n r) Q) : Dr (fun n => (g n).bind (f n)) Q := by
  obtain ⟨r, e, hp⟩ := h
  obtain ⟨r2, e2, hq⟩ := k r hp
  exact ⟨r2, Ev.bind e e2, hq⟩
theorem Dr.ev {α : Type} {g : Nat → Option α} {a : α} (e : Ev g a) : Dr g (fun r => r = a) := ⟨a, e, rfl⟩
theorem Dr.now {α : Type} {P : α → Prop} {r : α} (h : P r) : Dr (fun _ => some r) P := ⟨r, Ev.now r, h⟩
theorem Dr.succ {α : Type} {g : Nat → Option α} {P : α → Prop} (h : Dr (fun k => g (k + 1)) P) : Dr g P := by
  obtain ⟨r, e, hp⟩ := h
  exact ⟨r, Ev.succ e, hp⟩
theorem Dr.mono {α : Type} {g : Nat → Option α} {P Q : α → Prop} (h : Dr g P) (k : ∀ r, P r → Q r) : Dr g Q := by
  obtain ⟨r, e, hp⟩ := h
  exact ⟨r, e, k r hp⟩
theorem Dr.ite {α : Type} {c : Prop} [Decidable c] {f g : Nat → Option α} {P : α → Prop} (h : c → Dr f P) (k : ¬ c → Dr g P) : Dr (fun n => if c then f n else g n) P := by
  by_cases hc : c
  · simp only [if_pos hc]; exact h hc
  · simp only [if_neg hc]; exact k hc
theorem Dr.pos {α : Type} {c : Prop} [Decidable c] {f g : Nat → Option α} {P : α → Prop} (hc : c) (h : Dr f P) : Dr (fun n => if c then f n else g n) P := by
  simp only [if_pos hc]; exact h
theorem Dr.neg {α : Type} {c : Prop} [Decidable c] {f g : Nat → Option α} {P : α → Prop} (hc : ¬ c) (h : Dr g P) : Dr (fun n => if c then f n else g n) P := by
  simp only [if_neg hc]; exact h
theorem pick_ {s : List Int} {p n : Int} (hb : isBytes s ∧ s.length ≤ 2000) (h0 : 0 ≤ p ∧ p ≤ 1000000000) (hn : 1 ≤ n ∧ n ≤ 1000000000) :
    Dr (fun k => spec_l20Rd_pick.f k s p n) (fun r => ∃ v, (0 ≤ v ∧ v < n) ∧ r = (v, p + 1)) := by
  obtain ⟨r, e, a, b⟩ := pick s p n hb.1 hb.2 h0.1 h0.2 hn.1 hn.2
  exact ⟨_, e, r, ⟨a, b⟩, rfl⟩
theorem open__ (l : List Int) (hb : isBytes l) : Dr (fun _ => spec_l20Open.f l) (fun r => ∃ s, (isBytes s ∧ s.length ≤ 2000) ∧ r = (s, 0)) := by
  obtain ⟨s, e, h1, h2⟩ := open_ l hb
  exact ⟨_, Ev.pure e, s, ⟨h1, h2⟩, rfl⟩

/-! drawing bytes -/
theorem isBytes_snoc {l : List Int} {v : Int} (h : isBytes l) (hv : 0 ≤ v ∧ v ≤ 255) : isBytes (l ++ [v]) := by
  intro y hy
  rw [List.mem_append] at hy
  rcases hy with hy | hy
  · exact h y hy
  · rw [List.mem_singleton] at hy; omega
/-! ears that are drawn: bounds -/
theorem earHear_sum (h room : Int) (g : List Int) (l : List S50) (p : Int) (x : List Int) (h0 : 0 ≤ h) :
    (earHear h room g l p x).2.2.1.length + (earHear h room g l p x).2.2.2.length ≤ g.length + (l.length + x.length) ∧ (earHear h room g l p x).1 + (earHear h room g l p x).2.2.2.length ≤ h + l.length + x.length ∧ 0 ≤ (earHear h room g l p x).1 := by
  unfold earHear
  split
  · have h1 := hearL_len h (room - g.length) x p l
    obtain ⟨h2, h3, h4⟩ := drainE_len (hearL h (room - g.length) p x l) h g
    generalize drainE (hearL h (room - g.length) p x l) h g = y at *
    simp only []
    split
    · simp; omega
    · simp only []; omega
  · simp; omega
theorem earRead_sum (h room : Int) (g : List Int) (l : List S50) (n : Int) (h0 : 0 ≤ h) :
    (earRead h room g l n).2.2.1.length ≤ g.length ∧ (earRead h room g l n).2.2.2.1.length ≤ l.length ∧ (earRead h room g l n).1 ≤ h ∧ 0 ≤ (earRead h room g l n).1 := by
  unfold earRead
  split
  · exact ⟨by show (List.drop _ _).length ≤ _; rw [List.length_drop]; omega, Nat.le_refl _, Int.le_refl _, h0⟩
  · exact ⟨by simp, by simp, h0, by simp⟩
theorem heard__ {a n : Int} (h0 : -1000000000 ≤ a ∧ a ≤ 1000000000) (hn : 0 ≤ n ∧ n ≤ 100000) : Dr (fun k => spec_l20Heard.f k a n) (fun r => (r.length : Int) = n) := by
  obtain ⟨x, e, hx⟩ := heard_ a n h0.1 h0.2 hn.1 hn.2
  exact ⟨x, e, hx⟩
/-! the stream -/
def strm (i : Int) : Int := (wrap64 (97 + (Int.tmod (wrap64 ((wrap64 (i * 7)) + (wrap64 (Int.tdiv i 5)))) 26))) % 256
def strL (a : Int) (n : Nat) : List Int := (List.range n).map fun j : Nat => strm (a + (j : Int))
theorem strL_len (a : Int) (n : Nat) : (strL a n).length = n := by simp [strL]
theorem strL_succ (a : Int) (n : Nat) : strL a (n + 1) = strL a n ++ [strm (a + (n : Int))] := by simp [strL, List.range_succ]
theorem strL_get (a : Int) (n j : Nat) (h : j < (strL a n).length) : (strL a n)[j] = strm (a + (j : Int)) := by simp [strL]
theorem strL_take (a : Int) (n m : Nat) (h : m ≤ n) : (strL a n).take m = strL a m := by
  unfold strL
  rw [← List.map_take, List.take_range, Nat.min_eq_left h]
theorem stream_ (i : Int) : spec_l20Stream.f i = some (strm i) := rfl
theorem heardX_l (a : Int) (n : Nat) (h0 : -1000000000 ≤ a) (h1 : a ≤ 1000000000) (hn : n ≤ 100000) (d : Nat) : ∀ i : Nat, i + d = n → Ev (fun k => spec_l20Heard.l0 k a (n : Int) (strL a i) (i : Int)) (strL a n) := by
  induction d with
  | zero =>
    intro i hi
    obtain rfl : i = n := by omega
    refine Ev.succ ?_
    simp only [spec_l20Heard.l0, if_neg (show ¬ (i : Int) < (i : Int) by omega)]
    exact Ev.now _
  | succ d ih =>
    intro i hi
    refine Ev.succ ?_
    have hl := strL_len a i
    rw [show (fun k => spec_l20Heard.l0 (k + 1) a (n : Int) (strL a i) (i : Int)) = fun k => spec_l20Heard.l0 k a (n : Int) (strL a (i + 1)) ((i + 1 : Nat) : Int) from funext fun k => by
      simp only [spec_l20Heard.l0, if_pos (show (i : Int) < (n : Int) by omega), stream_, Option.bind_some, if_pos (show (strL a i).length < 140737488355328 by omega)]
      rw [wrap_id (x := a + (i : Int)) (by omega) (by omega), wrap_id (x := (i : Int) + 1) (by omega) (by omega), strL_succ]
      rfl]
    exact ih (i + 1) (by omega)
theorem heardX (a : Int) (n : Nat) (h0 : -1000000000 ≤ a) (h1 : a ≤ 1000000000) (hn : n ≤ 100000) : Ev (fun k => spec_l20Heard.f k a (n : Int)) (strL a n) := heardX_l a n h0 h1 hn n 0 (by omega)
/-! an ear that heard of the stream alone -/
def ofStr (l : List S50) : Prop := ∀ y ∈ l, y.f1 = strm y.f0
theorem putE_str {l : List S50} (hl : ofStr l) (e : S50) (he : e.f1 = strm e.f0) : ofStr (putE l e) := fun y hy => by
  rcases putE_mem e l y hy with rfl | hy
  · exact he
  · exact hl y hy
theorem hearL_str (h f : Int) : ∀ (x : List Int) (q : Int) (far : List S50), ofStr far → (∀ m (hm : m < x.length), x[m] = strm (q + (m : Int))) → ofStr (hearL h f q x far)
  | [], _, _, hl, _ => by simpa [hearL] using hl
  | b :: x, q, far, hl, hx => by
    unfold hearL
    refine hearL_str h f x (q + 1) _ ?_ (fun m hm => by
      have := hx (m + 1) (by simpa using hm)
      simp only [List.getElem_cons_succ] at this
      rw [this]; congr 1; omega)
    split
    · refine putE_str hl ⟨q, b⟩ ?_
      have := hx 0 (by simp)
      simpa using this
    · exact hl
theorem drainE_str : ∀ (l : List S50) (h : Int) (g acc : List Int) (n : Nat), ofStr l → (n : Int) = h → acc ++ g = strL 0 n → ofStr (drainE l h g).2.2 ∧ ∃ n' : Nat, (n' : Int) = (drainE l h g).1 ∧ acc ++ (drainE l h g).2.1 = strL 0 n'
  | [], h, g, acc, n, hl, hn, hs => ⟨hl, n, hn, hs⟩
  | x :: l, h, g, acc, n, hl, hn, hs => by
    unfold drainE
    by_cases c : x.f0 = h
    · rw [if_pos c]
      refine drainE_str l (h + 1) (g ++ [x.f1]) acc (n + 1) (fun y hy => hl y (List.mem_cons_of_mem _ hy)) (by omega) ?_
      rw [← List.append_assoc, hs, strL_succ, hl x List.mem_cons_self, c, ← hn, Int.zero_add]
    · rw [if_neg c]
      exact ⟨hl, n, hn, hs⟩
theorem earHear_str {h room : Int} {g : List Int} {l : List S50} {p : Int} {x acc : List Int} {n : Nat} (c : earOk h room g l = true) (p0 : 0 ≤ p) (p1 : p ≤ 1000000) (hs : h + l.length + x.length ≤ 1000000) (hl : ofStr l) (hx : ∀ m (hm : m < x.length), x[m] = strm (p + (m : Int))) (hn : (n : Int) = h) (ha : acc ++ g = strL 0 n) :
    ∃ (n' : Nat) (g' : List Int) (l' : List S50), earHear h room g l p x = ((n' : Int), room, g', l') ∧ earOk (n' : Int) room g' l' = true ∧ ofStr l' ∧ acc ++ g' = strL 0 n' ∧ (n' : Int) + l'.length ≤ h + l.length + x.length := by
  obtain ⟨h', g', l', e1, ok', d1, d2, d3, _⟩ := earHear_ok c p0 p1 hs
  obtain ⟨c1, c2, c3, c4, c5⟩ := earOk_le c
  have hsum := earHear_sum h room g l p x c1
  rw [e1] at hsum
  have hd := drainE_str (hearL h (room - g.length) p x l) h g acc n (hearL_str h (room - g.length) x p l hl hx) hn ha
  have e2 := e1
  unfold earHear at e2
  rw [if_pos ⟨c, p0, p1⟩] at e2
  obtain ⟨u1, u2, u3, u4⟩ := earOk_le ok'
  generalize drainE (hearL h (room - g.length) p x l) h g = y at *
  simp only [] at e2
  by_cases cc : y.1 > 1000000
  · rw [if_pos cc] at e2
    simp only [Prod.mk.injEq] at e2
    omega
  · rw [if_neg cc] at e2
    simp only [Prod.mk.injEq] at e2
    obtain ⟨r1, r2, r3, r4⟩ := e2
    obtain ⟨q1, n', q2, q3⟩ := hd
    obtain rfl : h' = (n' : Int) := by omega
    refine ⟨n', g', l', e1, ok', r4 ▸ q1, r3 ▸ q3, hsum.2.1⟩

theorem drawListening (c : List Int) (hb : isBytes c) : Dr (fun k => spec_DrawListening.f k c) (fun r => ∃ room l v, (4 ≤ room ∧ room ≤ 23 ∧ l.length ≤ 25 ∧ v.length = l.length ∧ (∀ y ∈ l, 0 ≤ y.f0 ∧ y.f0 ≤ 29 ∧ y.f0 < y.f1 ∧ y.f1 ≤ y.f0 + 6) ∧ ∀ y ∈ v, 0 ≤ y ∧ y ≤ 5) ∧ r = (room, l, v)) := by
  have hm : ∀ (m : Nat) (s : List Int) (room p : Int) (l : List S33) (v : List Int), isBytes s ∧ s.length ≤ 2000 → m + l.length ≤ 25 → 0 ≤ p ∧ p + 3 * m ≤ 1000000 → v.length = l.length → (∀ y ∈ l, 0 ≤ y.f0 ∧ y.f0 ≤ 29 ∧ y.f0 < y.f1 ∧ y.f1 ≤ y.f0 + 6) → (∀ y ∈ v, 0 ≤ y ∧ y ≤ 5) →
      Dr (fun k => spec_DrawListening.l0 k room l v m s p) (fun r => ∃ l v, (l.length ≤ 25 ∧ v.length = l.length ∧ (∀ y ∈ l, 0 ≤ y.f0 ∧ y.f0 ≤ 29 ∧ y.f0 < y.f1 ∧ y.f1 ≤ y.f0 + 6) ∧ ∀ y ∈ v, 0 ≤ y ∧ y ≤ 5) ∧ r = (room, l, v)) := by
    intro m
    induction m with
    | zero =>
      intro s room p l v hs h1 h2 h3 h4 h5
      refine Dr.succ ?_
      simp only [spec_DrawListening.l0, Int.natCast_zero, gt_iff_lt, Int.lt_irrefl, if_false]
      exact Dr.now ⟨_, _, ⟨by omega, h3, h4, h5⟩, rfl⟩
    | succ m ih =>
      intro s room p l v hs h1 h2 h3 h4 h5
      refine Dr.succ ?_
      simp only [spec_DrawListening.l0, if_pos (show ((m + 1 : Nat) : Int) > 0 by omega), if_pos (show l.length < 8796093022208 by omega), if_pos (show v.length < 17592186044416 by omega)]
      rw [show wrap64 (((m + 1 : Nat) : Int) - 1) = (m : Int) by rw [wrap_id (by omega) (by omega)]; omega]
      refine Dr.bind (pick_ hs (by omega) (by omega)) ?_
      rintro _ ⟨a, ha, rfl⟩
      dsimp only
      refine Dr.bind (pick_ hs (by omega) (by omega)) ?_
      rintro _ ⟨b, hb, rfl⟩
      dsimp only
      refine Dr.bind (pick_ hs (by omega) (by omega)) ?_
      rintro _ ⟨r, hr, rfl⟩
      dsimp only
      rw [wrap_id (x := a + 1) (by omega) (by omega), wrap_id (x := a + 1 + b) (by omega) (by omega)]
      refine ih s room (p + 1 + 1 + 1) _ _ hs (by rw [List.length_append, List.length_singleton]; omega) (by omega) (by rw [List.length_append, List.length_append, List.length_singleton, List.length_singleton]; omega) (fun y hy => ?_) (fun y hy => ?_)
      · rcases List.mem_append.1 hy with hy | hy
        · exact h4 y hy
        · rw [List.mem_singleton] at hy; subst hy; simp only []; omega
      · rcases List.mem_append.1 hy with hy | hy
        · exact h5 y hy
        · rw [List.mem_singleton] at hy; omega
  unfold spec_DrawListening.f
  refine Dr.bind (open__ c hb) ?_
  rintro _ ⟨s, hs, rfl⟩
  dsimp only
  refine Dr.bind (pick_ hs (by omega) (by omega)) ?_
  rintro _ ⟨v, hv, rfl⟩
  dsimp only
  refine Dr.bind (pick_ hs (by omega) (by omega)) ?_
  rintro _ ⟨w, hw, rfl⟩
  dsimp only
  rw [wrap_id (x := 4 + v) (by omega) (by omega), wrap_id (x := 2 + w) (by omega) (by omega)]
  obtain ⟨m, hm2⟩ := Int.eq_ofNat_of_zero_le (show 0 ≤ 2 + w by omega)
  rw [hm2]
  refine (hm m s (4 + v) (0 + 1 + 1) [] [] hs (by simp; omega) (by omega) rfl (fun y hy => by cases hy) (fun y hy => by cases hy)).mono ?_
  rintro _ ⟨l, z, ⟨b1, b2, b3, b4⟩, rfl⟩
  exact ⟨_, _, _, ⟨by omega, by omega, b1, b2, b3, b4⟩, rfl⟩
theorem listen_l (room : Int) (l4 : List S33) (l5 : List Int) (hL : l4.length ≤ 25) (hv : l5.length = l4.length) (hr : ∀ y ∈ l4, 0 ≤ y.f0 ∧ y.f0 ≤ 29 ∧ y.f0 < y.f1 ∧ y.f1 ≤ y.f0 + 6) (hn5 : ∀ y ∈ l5, 0 ≤ y ∧ y ≤ 5) (d : Nat) : ∀ (i : Nat) (got : List Int) (n : Nat) (g : List Int) (l : List S50), i + d = l4.length → earOk (n : Int) room g l = true → got ++ g = strL 0 n → ofStr l → n + l.length + 6 * d ≤ 200 →
    Ev (fun k => laws_FnListening.l0 k l4 l5 got (i : Int) (n : Int) room g l (n : Int) room g l) true := by
  induction d with
  | zero =>
    intro i got n g l hi ok hs hl hb
    have hgl : got.length + g.length = n := by have := congrArg List.length hs; rw [List.length_append, strL_len] at this; exact this
    have hg : got = strL 0 got.length := by
      have h1 := congrArg (List.take got.length) hs
      rw [List.take_left, strL_take 0 n got.length (by omega)] at h1
      exact h1
    refine Ev.succ ?_
    simp only [laws_FnListening.l0, if_neg (show ¬ (i : Int) < (l4.length : Int) by omega)]
    have e : Ev (fun k => spec_StreamFrom.f k 0 (got.length : Int)) got := by
      unfold spec_StreamFrom.f
      have := heardX 0 got.length (by omega) (by omega) (by omega)
      rw [← hg] at this
      exact Ev.bind this (Ev.now _)
    refine Ev.bind e ?_
    rw [wrap_id (x := (got.length : Int) + (g.length : Int)) (by omega) (by omega)]
    simp only [same_refl, Option.bind_some, if_true, if_pos (show (n : Int) = (got.length : Int) + (g.length : Int) by omega)]
    exact Ev.bind alive_ (Ev.now _)
  | succ d ih =>
    intro i got n g l hi ok hs hl hb
    have hi4 : i < l4.length := by omega
    have hi5 : i < l5.length := by omega
    obtain ⟨r1, r2, r3, r4⟩ := hr l4[i] (List.getElem_mem hi4)
    obtain ⟨v1, v2⟩ := hn5 l5[i] (List.getElem_mem hi5)
    obtain ⟨m, hm⟩ : ∃ m : Nat, l4[i].f1 - l4[i].f0 = (m : Int) := Int.eq_ofNat_of_zero_le (show 0 ≤ l4[i].f1 - l4[i].f0 by omega)
    obtain ⟨c1, c2, c3, c4, c5⟩ := earOk_le ok
    obtain ⟨n', g', l', e1, ok', s1, s2, s3⟩ := earHear_str (p := l4[i].f0) (x := strL l4[i].f0 m) (acc := got) ok r1 (by omega) (by rw [strL_len]; omega) hl (fun j hj => strL_get _ _ _ hj) rfl hs
    rw [strL_len] at s3
    obtain ⟨d1, d2, d3, d4, d5⟩ := earOk_le ok'
    have ei := impl_earHear (n : Int) room g l l4[i].f0 (strL l4[i].f0 m) (by omega) (by rw [strL_len]; omega) (by omega)
    have es := spec_earHear (n : Int) room g l l4[i].f0 (strL l4[i].f0 m) (by omega) (by rw [strL_len]; omega) (by omega)
    rw [e1] at ei es
    have eri := impl_earRead (n' : Int) room g' l' l5[i] (by omega) (by omega)
    have ers := spec_earRead (n' : Int) room g' l' l5[i] (by omega) (by omega)
    have hmn := mn_in l5[i] g'.length v1
    have hre : earRead (n' : Int) room g' l' l5[i] = ((n' : Int), room, g'.drop (mn l5[i] (g'.length : Int)).toNat, l', g'.take (mn l5[i] (g'.length : Int)).toNat) := by unfold earRead; rw [if_pos ⟨ok', v1⟩]
    rw [hre] at eri ers
    generalize (mn l5[i] (g'.length : Int)).toNat = q at *
    have hgl : got.length + g'.length = n' := by have := congrArg List.length s2; rw [List.length_append, strL_len] at this; exact this
    have ok2 : earOk (n' : Int) room (g'.drop q) l' = true := earOk_less ok' (by rw [List.length_drop]; omega)
    have eok := impl_earOk (n' : Int) room (g'.drop q) l' (by rw [List.length_drop]; omega) (by omega)
    rw [ok2] at eok
    have hnew := ih (i + 1) (got ++ g'.take q) n' (g'.drop q) l' (by omega) ok2 (by rw [List.append_assoc, List.take_append_drop]; exact s2) s1 (by omega)
    refine Ev.succ ?_
    simp only [laws_FnListening.l0, if_pos (show (i : Int) < (l4.length : Int) by omega), if_pos (show (0 : Int) ≤ (i : Int) by omega), if_pos (show (i : Int) < (l5.length : Int) by omega), rdR l4 i hi4, rd_get l5 i hi5]
    rw [wrap_id (x := l4[i].f1 - l4[i].f0) (by omega) (by omega), hm, wrap_id (x := (i : Int) + 1) (by omega) (by omega)]
    have e0 : Ev (fun k => spec_StreamFrom.f k l4[i].f0 (m : Int)) (strL l4[i].f0 m) := by
      unfold spec_StreamFrom.f
      exact Ev.bind (heardX l4[i].f0 m (by omega) (by omega) (by omega)) (Ev.now _)
    refine Ev.bind e0 (Ev.bind ei (Ev.bind es ?_))
    refine Ev.bind eri (Ev.bind ers ?_)
    simp only [if_pos (show got.length + (g'.take q).length < 140737488355328 by rw [List.length_take]; omega)]
    refine Ev.bind eok ?_
    simp only [if_true]
    refine Ev.bind (sameEar_ (n' : Int) room (g'.drop q) l' (by omega)) ?_
    simp only [if_true]
    exact hnew
theorem FnListening : laws_FnListening.Pure := by
  intro l0 hl0 _ hb0
  have hbytes : isBytes l0 := isBytes_wf hb0
  refine Ev.rounds ?_
  unfold laws_FnListening.f
  by_cases hbig : (l0.length : Int) > 1048576
  · simp only [if_pos hbig]; exact Ev.now _
  simp only [if_neg hbig]
  obtain ⟨_, ed, room, l, v, ⟨a1, a2, a3, a4, a5, a6⟩, rfl⟩ := drawListening l0 hbytes
  refine Ev.bind ed ?_
  simp only [spec_Ear2.f, Option.bind_some]
  refine listen_l room l v a3 a4 a5 a6 l.length 0 [] 0 [] [] (by omega) ?_ (by simp [strL]) (fun y hy => by cases hy) (by simp; omega)
  unfold earOk earFrom
  simp
  omega

end Go.Proofs.Ytgemkjclamlmbaa.Pure
