/- What is read was sent, and a turned bit is noticed: the plain law. -/
import Derived.Test.YtpbeljcgcdilnaaPFnSegmentFromx
namespace Go.Proofs.Ytpbeljcgcdilnaa.Pure
set_option linter.unusedSimpArgs false
set_option linter.unusedVariables false
open Go.RowKit Go.Proofs.Ytpbeljcgcdilnaa.PFnSegmentFrom Go.Proofs.YtpbeljcgcdilnaaW.PrintWords Go.Proofs.YtpbeljcgcdilnaaW.PrintLast Go.Proofs.YtpbeljcgcdilnaaW.PrintMore

theorem Ev.succ {α : Type} {g : Nat → Option α} {r : α} (h : Ev (fun k => g (k + 1)) r) : Ev g r := Ev.step (fun _ => rfl) h
theorem Ev.pure {α : Type} {o : Option α} {r : α} (h : o = some r) : Ev (fun _ => o) r := by rw [h]; exact Ev.now r
theorem Ev.cong {α : Type} {g g' : Nat → Option α} {r : α} (h : ∀ k, g k = g' k) (e : Ev g' r) : Ev g r := by rw [show g = g' from funext h]; exact e
theorem wrap_id {x : Int} (h0 : -9223372036854775808 ≤ x) (h1 : x ≤ 9223372036854775807) : wrap64 x = x := by unfold wrap64; omega

theorem rd_get (l : List Int) (i : Nat) (h : i < l.length) : rd l (i : Int) = l[i] := by
  unfold rd
  rw [Int.toNat_natCast, List.getD_eq_getElem?_getD, List.getElem?_eq_getElem h]; rfl
theorem take_set_succ {α : Type} (x : List α) (i : Nat) (v : α) (h : i < x.length) : (x.set i v).take (i + 1) = x.take i ++ [v] := by
  rw [List.take_succ_eq_append_getElem (by simpa using h), List.getElem_set_self, List.take_set, List.set_eq_of_length_le (by simp; omega)]


def isBytes (l : List Int) : Prop := ∀ x ∈ l, 0 ≤ x ∧ x ≤ 255
theorem isBytes_get {l : List Int} (h : isBytes l) (i : Nat) (hi : i < l.length) : 0 ≤ l[i] ∧ l[i] ≤ 255 := h _ (List.getElem_mem hi)
theorem isBytes_wf {l : List Int} (h : ∀ x ∈ l, (Lit.int .u8 x).wf = true) : isBytes l := by
  intro x hx
  have := h x hx
  simp [Lit.wf, IntKind.min, IntKind.max, IntKind.bits, IntKind.signed] at this
  omega

/-! whether a number is between two others -/
def inb (x lo hi : Int) : Bool := decide (lo ≤ x) && decide (x ≤ hi)
theorem inb_iff {x lo hi : Int} : inb x lo hi = true ↔ lo ≤ x ∧ x ≤ hi := by unfold inb; simp
theorem impl_in_ (x lo hi : Int) : impl_in.f x lo hi = some (inb x lo hi) := by
  unfold impl_in.f inb; by_cases h : x ≥ lo
  · simp only [if_pos h, decide_eq_true (show lo ≤ x from h), Bool.true_and]
  · simp only [if_neg h, decide_eq_false (show ¬ lo ≤ x from h), Bool.false_and]
theorem spec_in_ (x lo hi : Int) : spec_l1In.f x lo hi = some (inb x lo hi) := by
  unfold spec_l1In.f inb; by_cases h : x ≥ lo
  · simp only [if_pos h, decide_eq_true (show lo ≤ x from h), Bool.true_and]
  · simp only [if_neg h, decide_eq_false (show ¬ lo ≤ x from h), Bool.false_and]

/-! slices.Concat of bytes -/
theorem rd_ofL (l : List (List Int)) (i : Nat) (h : i < l.length) : rd_L3 l (i : Int) = l[i] := by
  unfold rd_L3
  rw [Int.toNat_natCast, List.getD_eq_getElem?_getD, List.getElem?_eq_getElem h]; rfl
def lenL (l : List (List Int)) : Nat := (l.map List.length).sum
theorem lenL_take_succ (l : List (List Int)) (i : Nat) (h : i < l.length) : lenL (l.take (i + 1)) = lenL (l.take i) + l[i].length := by
  unfold lenL; rw [List.take_succ_eq_append_getElem h]; simp only [List.map_append, List.sum_append, List.map_cons, List.map_nil, List.sum_cons, List.sum_nil, Nat.add_zero]
theorem lenL_take_le (l : List (List Int)) (i : Nat) : lenL (l.take i) ≤ lenL l := by
  unfold lenL
  have h := congrArg (fun x : List (List Int) => (x.map List.length).sum) (List.take_append_drop i l)
  simp only [List.map_append, List.sum_append] at h
  omega
theorem flatten_take_succ (l : List (List Int)) (i : Nat) (h : i < l.length) : (l.take (i + 1)).flatten = (l.take i).flatten ++ l[i] := by
  rw [List.take_succ_eq_append_getElem h]; simp only [List.flatten_append, List.flatten_cons, List.flatten_nil, List.append_nil]
theorem concat_l1 (l : List (List Int)) (hn : l.length ≤ 1048576) (hl : lenL l < 140737488355328) (d : Nat) : ∀ (i : Nat), i ≤ l.length → l.length - i = d →
    Ev (fun k => slices_Concat_byte_byte.l1 k (l.take i).flatten l (l.length : Int) (i : Int)) l.flatten := by
  induction d with
  | zero =>
    intro i hi hd
    have hil : i = l.length := by omega
    subst hil
    refine Ev.succ ?_
    simp only [slices_Concat_byte_byte.l1]
    simp only [Int.lt_irrefl, if_false, List.take_length]
    exact Ev.now _
  | succ d ih =>
    intro i hi hd
    have hlt : i < l.length := by omega
    refine Ev.succ ?_
    simp only [slices_Concat_byte_byte.l1]
    have h1 := lenL_take_succ l i hlt
    have h2 := lenL_take_le l (i + 1)
    have h3 : (l.take i).flatten.length = lenL (l.take i) := by rw [List.length_flatten]; rfl
    rw [rd_ofL l i hlt]
    simp only [if_pos (show (i : Int) < (l.length : Int) by omega), if_pos (show (0 : Int) ≤ (i : Int) by omega), if_pos (show (l.take i).flatten.length + l[i].length < 140737488355328 by omega)]
    rw [wrap_id (by omega) (by omega), ← flatten_take_succ l i hlt]
    exact ih (i + 1) (by omega) (by omega)
theorem concat_l0 (l : List (List Int)) (hn : l.length ≤ 1048576) (hl : lenL l < 140737488355328) (d : Nat) : ∀ (i : Nat), i ≤ l.length → l.length - i = d →
    Ev (fun k => slices_Concat_byte_byte.l0 k l (lenL (l.take i) : Int) l (l.length : Int) (i : Int)) l.flatten := by
  induction d with
  | zero =>
    intro i hi hd
    have hil : i = l.length := by omega
    subst hil
    refine Ev.succ ?_
    simp only [slices_Concat_byte_byte.l0]
    simp only [Int.lt_irrefl, if_false, List.take_length]
    have hg : slices_Grow_byte_byte.f ([] : List Int) (lenL l : Int) = some [] := by
      unfold slices_Grow_byte_byte.f
      rw [if_pos ⟨rfl, by omega, by rw [Int.toNat_natCast]; omega⟩]
    simp only [hg, Option.bind_some]
    have := concat_l1 l hn hl _ 0 (by omega) rfl
    simpa using this
  | succ d ih =>
    intro i hi hd
    have hlt : i < l.length := by omega
    refine Ev.succ ?_
    simp only [slices_Concat_byte_byte.l0]
    have h1 := lenL_take_succ l i hlt
    have h2 := lenL_take_le l (i + 1)
    rw [rd_ofL l i hlt, wrap_id (x := (lenL (l.take i) : Int) + _) (by omega) (by omega), wrap_id (by omega) (by omega)]
    simp only [if_pos (show (i : Int) < (l.length : Int) by omega), if_pos (show (0 : Int) ≤ (i : Int) by omega), if_neg (show ¬ (lenL (l.take i) : Int) + (l[i].length : Int) < 0 by omega)]
    rw [show (lenL (l.take i) : Int) + (l[i].length : Int) = ((lenL (l.take (i + 1)) : Nat) : Int) by omega]
    exact ih (i + 1) (by omega) (by omega)
theorem concat_ (l : List (List Int)) (hn : l.length ≤ 1048576) (hl : lenL l < 140737488355328) : Ev (fun k => slices_Concat_byte_byte.f k l) l.flatten := by
  unfold slices_Concat_byte_byte.f
  have := concat_l0 l hn hl _ 0 (by omega) rfl
  simpa [lenL] using this

/-! the sum of bytes -/
theorem wraps_i64 (n : Int) (h0 : 0 ≤ n) (h1 : n < 2 ^ 16) : IntKind.i64.wrap n = n := by rw [IntKind.wrap_i64]; omega
theorem or_256 (x y : Int) (hx0 : 0 ≤ x) (hx1 : x ≤ 255) (h0 : 0 ≤ y) (h1 : y ≤ 255) : Go.bits .or .i64 (x * 256) y = x * 256 + y :=
  bits_join .i64 16 (by decide) wraps_i64 8 (x * 256) y (by omega) (by omega) (by omega) h0 (by omega) (by omega)
theorem ad1_small (x : Int) (h0 : 0 ≤ x) (h1 : x ≤ 65535) : ad1 0 x = x := by
  unfold ad1
  rw [wrap_id (by omega) (by omega), if_neg (by omega)]; omega
theorem ad1_eq (x y : Int) (h0 : 0 ≤ x) (h1 : x ≤ 65535) (h2 : 0 ≤ y) (h3 : y ≤ 65535) : ad1 x y = if x + y > 65535 then x + y - 65535 else x + y := by
  unfold ad1
  rw [wrap_id (x := x + y) (by omega) (by omega), wrap_id (x := x + y - 65535) (by omega) (by omega)]
theorem pairAt_two (l : List Int) (hb : isBytes l) (j : Nat) (h : 2 * j + 1 < l.length) : pairAt l j = l[2 * j] * 256 + l[2 * j + 1] := by
  have a := isBytes_get hb (2 * j) (by omega)
  have b := isBytes_get hb (2 * j + 1) h
  unfold pairAt
  rw [if_pos h, rd_get l (2 * j) (by omega), rd_get l (2 * j + 1) h, wrap_id (x := l[2 * j]) (by omega) (by omega), wrap_id (x := l[2 * j] * 256) (by omega) (by omega), wrap_id (x := l[2 * j + 1]) (by omega) (by omega)]
  exact or_256 _ _ a.1 a.2 b.1 b.2
theorem pairAt_one (l : List Int) (hb : isBytes l) (j : Nat) (h : 2 * j + 1 = l.length) : pairAt l j = (l[2 * j]'(by omega)) * 256 := by
  have a := isBytes_get hb (2 * j) (by omega)
  unfold pairAt
  rw [if_neg (by omega), rd_get l (2 * j) (by omega), wrap_id (x := l[2 * j]'(by omega)) (by omega) (by omega), wrap_id (by omega) (by omega)]
theorem sumTo_bound (l : List Int) (hb : isBytes l) : ∀ j : Nat, 2 * j ≤ l.length + 1 → 0 ≤ sumTo l j ∧ sumTo l j ≤ 65535 := by
  intro j
  induction j with
  | zero => intro _; exact ⟨by show (0 : Int) ≤ 0; omega, by show (0 : Int) ≤ 65535; omega⟩
  | succ j ih =>
    intro h
    have h1 := ih (by omega)
    have h2 : 0 ≤ pairAt l j ∧ pairAt l j ≤ 65535 := by
      by_cases h3 : 2 * j + 1 < l.length
      · have a := isBytes_get hb (2 * j) (by omega)
        have b := isBytes_get hb (2 * j + 1) h3
        rw [pairAt_two l hb j h3]; omega
      · have a := isBytes_get hb (2 * j) (by omega)
        rw [pairAt_one l hb j (by omega)]; omega
    show 0 ≤ ad1 (ad1 0 (sumTo l j)) (pairAt l j) ∧ ad1 (ad1 0 (sumTo l j)) (pairAt l j) ≤ 65535
    rw [ad1_small _ h1.1 h1.2, ad1_eq _ _ h1.1 h1.2 h2.1 h2.2]
    split <;> omega
theorem sumTo_succ (l : List Int) (hb : isBytes l) (j : Nat) (h : 2 * j ≤ l.length + 1) : sumTo l (j + 1) = ad1 (sumTo l j) (pairAt l j) := by
  have h1 := sumTo_bound l hb j h
  show ad1 (ad1 0 (sumTo l j)) (pairAt l j) = _
  rw [ad1_small _ h1.1 h1.2]
/-- one byte more, by the reference -/
theorem l1_j1 (l : List Int) (x : Int) (i : Nat) (h0 : 0 ≤ x) (h1 : x ≤ 1000000) (hi : i ≤ 4611686018427387904) (r : Int) (h : Ev (fun k => spec_l1Sum.l0 k l (if x > 65535 then x - 65535 else x) ((i + 1 : Nat) : Int)) r) : Ev (fun k => spec_l1Sum.j1 k l x (i : Int)) r := by
  refine Ev.succ ?_
  have hw : wrap64 ((i : Int) + 1) = ((i + 1 : Nat) : Int) := by rw [wrap_id (by omega) (by omega)]; omega
  by_cases hx : x > 65535
  · simp only [spec_l1Sum.j1, if_pos hx, hw]
    rw [wrap_id (x := x - 65535) (by omega) (by omega)]
    rw [if_pos hx] at h; exact h
  · simp only [spec_l1Sum.j1, if_neg hx, hw]
    rw [if_neg hx] at h; exact h
theorem spec_sum_l (l : List Int) (hb : isBytes l) (hl : l.length ≤ 4611686018427387) (d : Nat) : ∀ j : Nat, 2 * j + 2 * d = l.length ∨ 2 * j + 2 * d = l.length + 1 → Ev (fun k => spec_l1Sum.l0 k l (sumTo l j) ((2 * j : Nat) : Int)) (sumTo l (j + d)) := by
  induction d with
  | zero =>
    intro j hj
    refine Ev.succ ?_
    simp only [spec_l1Sum.l0, if_neg (show ¬ ((2 * j : Nat) : Int) < (l.length : Int) by omega), Nat.add_zero]
    exact Ev.now _
  | succ d ih =>
    intro j hj
    have hs := sumTo_bound l hb j (by omega)
    have hlt : 2 * j < l.length := by omega
    have a := isBytes_get hb (2 * j) hlt
    have e0 : Int.tmod ((2 * j : Nat) : Int) 2 = 0 := by rw [Int.tmod_eq_emod_of_nonneg (by omega)]; omega
    have h3 := ih (j + 1) (by omega)
    rw [show j + 1 + d = j + (d + 1) by omega, sumTo_succ l hb j (by omega)] at h3
    refine Ev.succ ?_
    simp only [spec_l1Sum.l0, if_pos (show ((2 * j : Nat) : Int) < (l.length : Int) by omega), if_pos e0, if_pos (show (0 : Int) ≤ ((2 * j : Nat) : Int) by omega), rd_get l (2 * j) hlt]
    rw [wrap_id (x := l[2 * j]) (by omega) (by omega), wrap_id (x := l[2 * j] * 256) (by omega) (by omega), wrap_id (x := sumTo l j + l[2 * j] * 256) (by omega) (by omega)]
    refine l1_j1 l _ (2 * j) (by omega) (by omega) (by omega) _ ?_
    by_cases h2 : 2 * j + 1 < l.length
    · have b := isBytes_get hb (2 * j + 1) h2
      have e1 : ¬ Int.tmod ((2 * j + 1 : Nat) : Int) 2 = 0 := by rw [Int.tmod_eq_emod_of_nonneg (by omega)]; omega
      refine Ev.succ ?_
      simp only [spec_l1Sum.l0, if_pos (show ((2 * j + 1 : Nat) : Int) < (l.length : Int) by omega), if_neg e1, if_pos (show (0 : Int) ≤ ((2 * j + 1 : Nat) : Int) by omega), rd_get l (2 * j + 1) h2]
      rw [wrap_id (x := l[2 * j + 1]) (by omega) (by omega), wrap_id (by split <;> omega) (by split <;> omega)]
      refine l1_j1 l _ (2 * j + 1) (by split <;> omega) (by split <;> omega) (by omega) _ ?_
      rw [pairAt_two l hb j h2, ad1_eq _ _ hs.1 hs.2 (by omega) (by omega)] at h3
      have e2 : (if (if sumTo l j + l[2 * j] * 256 > 65535 then sumTo l j + l[2 * j] * 256 - 65535 else sumTo l j + l[2 * j] * 256) + l[2 * j + 1] > 65535 then (if sumTo l j + l[2 * j] * 256 > 65535 then sumTo l j + l[2 * j] * 256 - 65535 else sumTo l j + l[2 * j] * 256) + l[2 * j + 1] - 65535 else (if sumTo l j + l[2 * j] * 256 > 65535 then sumTo l j + l[2 * j] * 256 - 65535 else sumTo l j + l[2 * j] * 256) + l[2 * j + 1]) = (if sumTo l j + (l[2 * j] * 256 + l[2 * j + 1]) > 65535 then sumTo l j + (l[2 * j] * 256 + l[2 * j + 1]) - 65535 else sumTo l j + (l[2 * j] * 256 + l[2 * j + 1])) := by
        split <;> split <;> split <;> omega
      rw [e2, show 2 * j + 1 + 1 = 2 * (j + 1) by omega]
      exact h3
    · rw [pairAt_one l hb j (by omega), ad1_eq _ _ hs.1 hs.2 (by omega) (by omega)] at h3
      obtain rfl : d = 0 := by omega
      refine Ev.succ ?_
      simp only [spec_l1Sum.l0, if_neg (show ¬ ((2 * j + 1 : Nat) : Int) < (l.length : Int) by omega)]
      rw [sumTo_succ l hb j (by omega), pairAt_one l hb j (by omega), ad1_eq _ _ hs.1 hs.2 (by omega) (by omega)]
      exact Ev.now _
def sumOf (l : List Int) : Int := 65535 - sumTo l ((l.length + 1) / 2)
theorem spec_sum (l : List Int) (hb : isBytes l) (hl : l.length ≤ 4611686018427387) : Ev (fun k => spec_SumOf.f k l) (sumOf l) := by
  unfold spec_SumOf.f spec_l1Sum.f sumOf
  have h := spec_sum_l l hb hl ((l.length + 1) / 2) 0 (by omega)
  rw [Nat.zero_add] at h
  have h2 := sumTo_bound l hb ((l.length + 1) / 2) (by omega)
  refine Ev.bind h ?_
  rw [wrap_id (by omega) (by omega)]
  exact Ev.now _
theorem impl_sum (l : List Int) (hb : isBytes l) (hl : l.length ≤ 1073741824) : impl_sumOf.f l = some (sumOf l) := by
  have h2 := sumTo_bound l hb ((l.length + 1) / 2) (by omega)
  unfold impl_sumOf.f sumOf
  rw [if_pos (by omega), wrap_id (by omega) (by omega)]
theorem sumOf_bound (l : List Int) (hb : isBytes l) : 0 ≤ sumOf l ∧ sumOf l ≤ 65535 := by
  have h2 := sumTo_bound l hb ((l.length + 1) / 2) (by omega)
  unfold sumOf; omega

/-! a segment that is ok -/
abbrev RG := S90
theorem rdRG (l : List RG) (i : Nat) (h : i < l.length) : rd_T90 l (i : Int) = l[i] := by
  unfold rd_T90
  rw [Int.toNat_natCast, List.getD_eq_getElem?_getD, List.getElem?_eq_getElem h]; rfl
theorem seg_word (x : Int) : impl_word.f x = some (inb x 0 65535) := by unfold impl_word.f; rw [impl_in_]; rfl
theorem seg_port (x : Int) : impl_portOk.f x = some (inb x 1 255) := by unfold impl_portOk.f; rw [impl_in_]; rfl
def rgOk (z : RG) : Bool := inb z.f0 0 65535 && inb z.f1 0 65535
def segTail (ack room : Int) (first heard last reset : Bool) (g : List RG) (d : List Int) : Bool :=
  (heard || (decide (ack = 0) && (decide (room = 0) && !decide ((g.length : Int) > 0)))) && (!reset || (!first && (!last && ((d.length : Int) == 0))))
def segOk (a0 a1 a2 a3 a4 : Int) (b5 b6 b7 b8 : Bool) (g : List RG) (d : List Int) : Bool :=
  inb a0 1 255 && (inb a1 1 255 && (inb a2 0 65535 && (inb a3 0 65535 && (inb a4 0 255 && (!decide ((g.length : Int) > 2) && (!decide ((d.length : Int) > 12) && (g.all rgOk && segTail a3 a4 b5 b6 b7 b8 g d)))))))
theorem rgClo (z : RG) : impl_SegmentOk_1.f z.f0 z.f1 = some (!rgOk z) := by
  unfold impl_SegmentOk_1.f rgOk
  rw [seg_word, seg_word]
  cases inb z.f0 0 65535 <;> simp
theorem rgIx_l (h : List RG) (hl : h.length ≤ 1048576) (d : Nat) : ∀ i : Nat, i + d = h.length → ∃ v, Ev (fun k => impl_Range_109.l0 k h (h.length : Int) (i : Int)) v ∧ decide (v ≥ 0) = !(h.drop i).all rgOk := by
  induction d with
  | zero =>
    intro i hi
    refine ⟨-1, Ev.succ ?_, ?_⟩
    · simp only [impl_Range_109.l0, if_neg (show ¬ (i : Int) < (h.length : Int) by omega)]; exact Ev.now _
    · rw [List.drop_of_length_le (by omega)]; rfl
  | succ d ih =>
    intro i hi
    have hlt : i < h.length := by omega
    obtain ⟨v, e, hv⟩ := ih (i + 1) (by omega)
    cases hz : rgOk h[i]
    · refine ⟨i, Ev.succ ?_, ?_⟩
      · simp only [impl_Range_109.l0, if_pos (show (i : Int) < (h.length : Int) by omega), if_pos (show (0 : Int) ≤ (i : Int) by omega), rdRG h i hlt, rgClo, hz, Option.bind_some, Bool.not_false, if_true]
        exact Ev.now _
      · rw [List.drop_eq_getElem_cons hlt, List.all_cons, hz]; simp
    · refine ⟨v, Ev.succ ?_, ?_⟩
      · simp only [impl_Range_109.l0, if_pos (show (i : Int) < (h.length : Int) by omega), if_pos (show (0 : Int) ≤ (i : Int) by omega), rdRG h i hlt, rgClo, hz, Option.bind_some, Bool.not_true, Bool.false_eq_true, if_false]
        rw [wrap_id (by omega) (by omega)]
        exact e
      · rw [List.drop_eq_getElem_cons hlt, List.all_cons, hz, Bool.true_and]; exact hv
theorem rgHas (h : List RG) (hl : h.length ≤ 1048576) : Ev (fun k => impl_Range_97.f k h) (!h.all rgOk) := by
  obtain ⟨v, e, hv⟩ := rgIx_l h hl h.length 0 (by omega)
  rw [List.drop_zero] at hv
  unfold impl_Range_97.f impl_Range_109.f
  refine Ev.bind e ?_
  rw [hv]; exact Ev.now _
theorem impl_seg_j1 (a0 a1 a2 a3 a4 : Int) (b5 b6 b7 b8 : Bool) (g : List RG) (d : List Int) (v : Bool) :
    Ev (fun k => impl_SegmentOk.j1 k v a0 a1 a2 a3 a4 b5 b6 b7 b8 g d) (!v && (!b8 || (!b5 && (!b7 && ((d.length : Int) == 0))))) := by
  refine Ev.succ ?_
  cases v <;> cases b8 <;> cases b5 <;> cases b7 <;> simp only [impl_SegmentOk.j1, if_true, Bool.false_eq_true, if_false, Bool.not_true, Bool.not_false, Bool.false_and, Bool.true_and, Bool.true_or, Bool.false_or] <;> exact Ev.now _
theorem impl_seg_j0 (a0 a1 a2 a3 a4 : Int) (b5 b6 b7 b8 : Bool) (g : List RG) (d : List Int) (hg : g.length ≤ 1048576) (v : Bool) :
    Ev (fun k => impl_SegmentOk.j0 k v a0 a1 a2 a3 a4 b5 b6 b7 b8 g d) (!v && (g.all rgOk && segTail a3 a4 b5 b6 b7 b8 g d)) := by
  have j := impl_seg_j1 a0 a1 a2 a3 a4 b5 b6 b7 b8 g d
  refine Ev.succ ?_
  cases v
  · simp only [impl_SegmentOk.j0, Bool.false_eq_true, if_false, Bool.not_false, Bool.true_and]
    refine Ev.bind (rgHas g hg) ?_
    cases g.all rgOk
    · simp only [Bool.not_false, if_true, Bool.false_and]; exact Ev.now _
    · simp only [Bool.not_true, Bool.false_eq_true, if_false, Bool.true_and, segTail]
      cases b6
      · simp only [Bool.false_eq_true, if_false, Bool.false_or]
        by_cases h3 : a3 = 0
        · by_cases h4 : a4 = 0
          · simp only [if_pos h3, if_pos h4, decide_eq_true h3, decide_eq_true h4, Bool.true_and]; exact j _
          · simp only [if_pos h3, if_neg h4, decide_eq_true h3, decide_eq_false h4, Bool.true_and, Bool.false_and]; exact j true
        · simp only [if_neg h3, decide_eq_false h3, Bool.false_and]; exact j true
      · simp only [if_true, Bool.true_or, Bool.true_and]; exact j false
  · simp only [impl_SegmentOk.j0, if_true, Bool.not_true, Bool.false_and]; exact Ev.now _
theorem impl_segOk (a0 a1 a2 a3 a4 : Int) (b5 b6 b7 b8 : Bool) (g : List RG) (d : List Int) (hg : g.length ≤ 1048576) :
    Ev (fun k => impl_SegmentOk.f k a0 a1 a2 a3 a4 b5 b6 b7 b8 g d) (segOk a0 a1 a2 a3 a4 b5 b6 b7 b8 g d) := by
  have j := impl_seg_j0 a0 a1 a2 a3 a4 b5 b6 b7 b8 g d hg
  unfold impl_SegmentOk.f segOk
  simp only [seg_port, seg_word, impl_in_, Option.bind_some]
  cases inb a0 1 255
  · simp only [Bool.false_eq_true, if_false, Bool.false_and]; exact j true
  cases inb a1 1 255
  · simp only [if_true, Bool.false_eq_true, if_false, Bool.false_and, Bool.and_false]; exact j true
  cases inb a2 0 65535
  · simp only [if_true, Bool.false_eq_true, if_false, Bool.false_and, Bool.and_false]; exact j true
  cases inb a3 0 65535
  · simp only [if_true, Bool.false_eq_true, if_false, Bool.false_and, Bool.and_false]; exact j true
  cases inb a4 0 255
  · simp only [if_true, Bool.false_eq_true, if_false, Bool.false_and, Bool.and_false]; exact j true
  by_cases h : (g.length : Int) > 2
  · simp only [if_true, if_pos h, decide_eq_true h, Bool.not_true, Bool.false_and, Bool.and_false]; exact j true
  · simp only [if_true, if_neg h, decide_eq_false h, Bool.not_false, Bool.true_and]; exact j _
theorem spec_seg_j2 (a0 a1 a2 a3 a4 : Int) (b5 b6 b7 b8 : Bool) (g : List RG) (d : List Int) (v : Bool) :
    Ev (fun k => spec_SegmentOk.j2 k v a0 a1 a2 a3 a4 b5 b6 b7 b8 g d) (!v && (!b8 || (!b5 && (!b7 && ((d.length : Int) == 0))))) := by
  refine Ev.succ ?_
  cases v <;> cases b8 <;> cases b5 <;> cases b7 <;> simp only [spec_SegmentOk.j2, if_true, Bool.false_eq_true, if_false, Bool.not_true, Bool.not_false, Bool.false_and, Bool.true_and, Bool.true_or, Bool.false_or] <;> exact Ev.now _
theorem spec_seg_l (a0 a1 a2 a3 a4 : Int) (b5 b6 b7 b8 : Bool) (g : List RG) (d : List Int) (hg : g.length ≤ 1048576) (n : Nat) : ∀ i : Nat, i + n = g.length →
    Ev (fun k => spec_SegmentOk.l0 k (i : Int) a0 a1 a2 a3 a4 b5 b6 b7 b8 g d) ((g.drop i).all rgOk && segTail a3 a4 b5 b6 b7 b8 g d) := by
  have j := spec_seg_j2 a0 a1 a2 a3 a4 b5 b6 b7 b8 g d
  induction n with
  | zero =>
    intro i hi
    refine Ev.succ ?_
    rw [List.drop_of_length_le (by omega)]
    simp only [spec_SegmentOk.l0, if_neg (show ¬ (i : Int) < (g.length : Int) by omega), List.all_nil, Bool.true_and, segTail]
    cases b6
    · simp only [Bool.false_eq_true, if_false, Bool.false_or]
      by_cases h3 : a3 = 0
      · by_cases h4 : a4 = 0
        · simp only [if_pos h3, if_pos h4, decide_eq_true h3, decide_eq_true h4, Bool.true_and]; exact j _
        · simp only [if_pos h3, if_neg h4, decide_eq_true h3, decide_eq_false h4, Bool.true_and, Bool.false_and]; exact j true
      · simp only [if_neg h3, decide_eq_false h3, Bool.false_and]; exact j true
    · simp only [if_true, Bool.true_or, Bool.true_and]; exact j false
  | succ n ih =>
    intro i hi
    have hlt : i < g.length := by omega
    have h1 := ih (i + 1) (by omega)
    rw [List.drop_eq_getElem_cons hlt, List.all_cons]
    refine Ev.succ ?_
    simp only [spec_SegmentOk.l0, if_pos (show (i : Int) < (g.length : Int) by omega), if_pos (show (0 : Int) ≤ (i : Int) by omega), rdRG g i hlt, spec_in_, Option.bind_some, rgOk]
    cases inb g[i].f0 0 65535
    · simp only [Bool.false_eq_true, if_false, Bool.false_and]; exact Ev.now _
    cases inb g[i].f1 0 65535
    · simp only [if_true, Bool.false_eq_true, if_false, Bool.false_and, Bool.and_false]; exact Ev.now _
    simp only [if_true, Bool.true_and]
    rw [wrap_id (by omega) (by omega)]
    exact h1
theorem spec_seg_j0 (a0 a1 a2 a3 a4 : Int) (b5 b6 b7 b8 : Bool) (g : List RG) (d : List Int) (hg : g.length ≤ 1048576) (v : Bool) :
    Ev (fun k => spec_SegmentOk.j0 k v a0 a1 a2 a3 a4 b5 b6 b7 b8 g d) (!v && (g.all rgOk && segTail a3 a4 b5 b6 b7 b8 g d)) := by
  refine Ev.succ ?_
  cases v
  · simp only [spec_SegmentOk.j0, Bool.false_eq_true, if_false, Bool.not_false, Bool.true_and]
    have := spec_seg_l a0 a1 a2 a3 a4 b5 b6 b7 b8 g d hg g.length 0 (by omega)
    rw [List.drop_zero] at this
    exact this
  · simp only [spec_SegmentOk.j0, if_true, Bool.not_true, Bool.false_and]; exact Ev.now _
theorem spec_segOk (a0 a1 a2 a3 a4 : Int) (b5 b6 b7 b8 : Bool) (g : List RG) (d : List Int) (hg : g.length ≤ 1048576) :
    Ev (fun k => spec_SegmentOk.f k a0 a1 a2 a3 a4 b5 b6 b7 b8 g d) (segOk a0 a1 a2 a3 a4 b5 b6 b7 b8 g d) := by
  have j := spec_seg_j0 a0 a1 a2 a3 a4 b5 b6 b7 b8 g d hg
  unfold spec_SegmentOk.f segOk
  simp only [spec_in_, Option.bind_some]
  cases inb a0 1 255
  · simp only [Bool.false_eq_true, if_false, Bool.false_and]; exact j true
  cases inb a1 1 255
  · simp only [if_true, Bool.false_eq_true, if_false, Bool.false_and, Bool.and_false]; exact j true
  cases inb a2 0 65535
  · simp only [if_true, Bool.false_eq_true, if_false, Bool.false_and, Bool.and_false]; exact j true
  cases inb a3 0 65535
  · simp only [if_true, Bool.false_eq_true, if_false, Bool.false_and, Bool.and_false]; exact j true
  cases inb a4 0 255
  · simp only [if_true, Bool.false_eq_true, if_false, Bool.false_and, Bool.and_false]; exact j true
  by_cases h : (g.length : Int) > 2
  · simp only [if_true, if_pos h, decide_eq_true h, Bool.not_true, Bool.false_and, Bool.and_false]; exact j true
  · simp only [if_true, if_neg h, decide_eq_false h, Bool.not_false, Bool.true_and]; exact j _

/-! two bytes of a number -/
def bytes2 (v : Int) : List Int := [v / 256 % 256, v % 256]
theorem impl_bytes2 (v : Int) : Ev (fun k => impl_bytesOf.f k v 2) (bytes2 v) := by
  unfold impl_bytesOf.f bytes2
  have e : wrap64 ((2 : Int) - 1) = ((1 : Nat) : Int) := by unfold wrap64; omega
  have e1 : wrap64 (((1 : Nat) : Int) - 1) = ((0 : Nat) : Int) := by unfold wrap64; omega
  have e2 : wrap64 (((0 : Nat) : Int) - 1) = -1 := by unfold wrap64; omega
  simp only [if_pos (show (0 : Int) ≤ 2 by omega), if_pos (show ((2 : Int) : Int).toNat ≤ 281474976710656 by decide), e]
  refine Ev.succ ?_
  simp only [impl_bytesOf.l0, if_pos (show ((1 : Nat) : Int) ≥ 0 by omega), if_pos (show (0 : Int) ≤ ((1 : Nat) : Int) by omega), if_pos (show ((1 : Nat) : Int) < ((List.replicate (2 : Int).toNat (0 : Int)).length : Int) by simp), e1]
  refine Ev.succ ?_
  simp only [impl_bytesOf.l0, if_pos (show ((0 : Nat) : Int) ≥ 0 by omega), if_pos (show (0 : Int) ≤ ((0 : Nat) : Int) by omega), if_pos (show ((0 : Nat) : Int) < (((List.replicate (2 : Int).toNat (0 : Int)).set ((1 : Nat) : Int).toNat (v % 256)).length : Int) by simp), e2]
  refine Ev.succ ?_
  simp only [impl_bytesOf.l0, if_neg (show ¬ (-1 : Int) ≥ 0 by omega)]
  exact Ev.now _
theorem bytes2_is (v : Int) : isBytes (bytes2 v) := by
  intro x hx
  unfold bytes2 at hx
  simp only [List.mem_cons, List.not_mem_nil, or_false] at hx
  rcases hx with rfl | rfl <;> omega
theorem spec_bytes2 (v : Int) (h : inb v 0 65535 = true) : Ev (fun k => spec_BytesOf.f k v 2) (bytes2 v) := by
  have hv := inb_iff.1 h
  have w0 : wrap64 (8 * (2 : Int)) = 16 := by unfold wrap64; omega
  have s0 : shl .i64 1 16 = 65536 := by unfold shl; rw [IntKind.wrap_i64]; rfl
  have w1 : wrap64 ((65536 : Int) - 1) = 65535 := by unfold wrap64; omega
  have w2 : wrap64 ((2 : Int) - 1) = 1 := by unfold wrap64; omega
  have w3 : wrap64 (8 * (1 : Int)) = 8 := by unfold wrap64; omega
  have w4 : wrap64 ((1 : Int) - 1) = 0 := by unfold wrap64; omega
  have w5 : wrap64 (8 * (0 : Int)) = 0 := by unfold wrap64; omega
  have w6 : wrap64 ((0 : Int) - 1) = -1 := by unfold wrap64; omega
  have s1 : shr .i64 v 8 = v / 256 := by unfold shr; rfl
  have s2 : shr .i64 v 0 = v := by unfold shr; show v / 1 = v; omega
  have i2 : inb 2 1 4 = true := by decide
  unfold spec_BytesOf.f bytes2
  simp only [spec_in_, Option.bind_some, i2, if_true, w0, if_pos (show (0 : Int) ≤ 16 by omega), s0, w1, h, Bool.not_true]
  refine Ev.succ ?_
  simp only [spec_BytesOf.j0, Bool.false_eq_true, if_false, w2]
  refine Ev.succ ?_
  simp only [spec_BytesOf.l0, if_pos (show (1 : Int) ≥ 0 by omega), w3, if_pos (show (0 : Int) ≤ 8 by omega), if_pos (show ([] : List Int).length < 140737488355328 by decide), s1, w4, List.nil_append]
  refine Ev.succ ?_
  simp only [spec_BytesOf.l0, if_pos (show (0 : Int) ≥ 0 by omega), w5, if_pos (show (0 : Int) ≤ 0 by omega), List.length_singleton, if_pos (show 1 < 140737488355328 by decide), s2, w6]
  refine Ev.succ ?_
  simp only [spec_BytesOf.l0, if_neg (show ¬ (-1 : Int) ≥ 0 by omega)]
  have e1 : Int.tmod (v / 256) 256 % 256 = v / 256 % 256 := by rw [Int.tmod_eq_emod_of_nonneg (by omega)]; omega
  have e2 : Int.tmod v 256 % 256 = v % 256 := by rw [Int.tmod_eq_emod_of_nonneg (by omega)]; omega
  rw [e1, e2]
  exact Ev.now _

/-! a segment's bytes -/
def segMarks (b5 b6 b7 b8 : Bool) : Int := (if b5 = true then 1 else 0) + (if b6 = true then 2 else 0) + (if b7 = true then 4 else 0) + (if b8 = true then 8 else 0)
def rgBytes : List RG → List Int
  | [] => []
  | z :: l => bytes2 z.f0 ++ bytes2 z.f1 ++ rgBytes l
def segHead (a0 a1 a2 a3 a4 : Int) (b5 b6 b7 b8 : Bool) (g : List RG) : List Int := [a0 % 256, a1 % 256] ++ bytes2 a2 ++ bytes2 a3 ++ [a4 % 256, segMarks b5 b6 b7 b8 % 256, (g.length : Int) % 256]
def segBody (a0 a1 a2 a3 a4 : Int) (b5 b6 b7 b8 : Bool) (g : List RG) (d : List Int) : List Int := segHead a0 a1 a2 a3 a4 b5 b6 b7 b8 g ++ rgBytes g ++ ([(d.length : Int) % 256] ++ d)
theorem rgBytes_length (g : List RG) : (rgBytes g).length = 4 * g.length := by
  induction g with
  | nil => rfl
  | cons z g ih => simp only [rgBytes, List.length_append, ih, bytes2, List.length_cons, List.length_nil]; omega
theorem rgBytes_is (g : List RG) : isBytes (rgBytes g) := by
  induction g with
  | nil => intro x hx; cases hx
  | cons z g ih =>
    intro x hx
    simp only [rgBytes, List.mem_append] at hx
    rcases hx with (hx | hx) | hx
    · exact bytes2_is _ x hx
    · exact bytes2_is _ x hx
    · exact ih x hx
theorem segHead_length (a0 a1 a2 a3 a4 : Int) (b5 b6 b7 b8 : Bool) (g : List RG) : (segHead a0 a1 a2 a3 a4 b5 b6 b7 b8 g).length = 9 := rfl
theorem segBody_length (a0 a1 a2 a3 a4 : Int) (b5 b6 b7 b8 : Bool) (g : List RG) (d : List Int) : (segBody a0 a1 a2 a3 a4 b5 b6 b7 b8 g d).length = 10 + 4 * g.length + d.length := by
  unfold segBody
  simp only [List.length_append, segHead_length, rgBytes_length, List.length_cons, List.length_nil]; omega
theorem segBody_is (a0 a1 a2 a3 a4 : Int) (b5 b6 b7 b8 : Bool) (g : List RG) (d : List Int) (hd : isBytes d) : isBytes (segBody a0 a1 a2 a3 a4 b5 b6 b7 b8 g d) := by
  intro x hx
  unfold segBody segHead at hx
  simp only [List.mem_append, List.mem_cons, List.not_mem_nil, or_false] at hx
  rcases hx with ((((h | h) | h) | h) | h) | h
  · rcases h with rfl | rfl <;> omega
  · exact bytes2_is _ x h
  · exact bytes2_is _ x h
  · rcases h with rfl | rfl | rfl <;> omega
  · exact rgBytes_is _ x h
  · rcases h with rfl | h
    · omega
    · exact hd x h
theorem concat3 (a b c : List Int) (h : a.length + b.length + c.length ≤ 1073741824) : Ev (fun k => slices_Concat_byte_byte.f k [a, b, c]) (a ++ b ++ c) := by
  have := concat_ [a, b, c] (by simp) (by simp [lenL]; omega)
  simpa [List.append_assoc] using this
theorem impl_body_l (a0 a1 a2 a3 a4 : Int) (b5 b6 b7 b8 : Bool) (g : List RG) (d : List Int) (hg : g.length ≤ 1048576) (hd : d.length ≤ 1048576) (n : Nat) : ∀ (i : Nat) (acc : List Int), i + n = g.length → acc.length ≤ 1048576 + 4 * i →
    Ev (fun k => impl_Segment_body.l0 k acc g (g.length : Int) (i : Int) a0 a1 a2 a3 a4 b5 b6 b7 b8 g d) (acc ++ rgBytes (g.drop i) ++ ([(d.length : Int) % 256] ++ d)) := by
  induction n with
  | zero =>
    intro i acc hi ha
    refine Ev.succ ?_
    rw [List.drop_of_length_le (by omega)]
    simp only [impl_Segment_body.l0, if_neg (show ¬ (i : Int) < (g.length : Int) by omega), rgBytes, List.append_nil]
    refine Ev.bind (concat3 acc _ d (by simp only [List.length_cons, List.length_nil]; omega)) ?_
    rw [List.append_assoc]; exact Ev.now _
  | succ n ih =>
    intro i acc hi ha
    have hlt : i < g.length := by omega
    refine Ev.succ ?_
    simp only [impl_Segment_body.l0, if_pos (show (i : Int) < (g.length : Int) by omega), if_pos (show (0 : Int) ≤ (i : Int) by omega), rdRG g i hlt]
    refine Ev.bind (impl_bytes2 _) (Ev.bind (impl_bytes2 _) (Ev.bind (concat3 acc _ _ (by simp only [bytes2, List.length_cons, List.length_nil]; omega)) ?_))
    have h1 := ih (i + 1) (acc ++ bytes2 g[i].f0 ++ bytes2 g[i].f1) (by omega) (by simp only [List.length_append, bytes2, List.length_cons, List.length_nil]; omega)
    rw [List.drop_eq_getElem_cons hlt, rgBytes, wrap_id (by omega) (by omega)]
    simp only [List.append_assoc] at h1 ⊢
    exact h1
theorem impl_body (a0 a1 a2 a3 a4 : Int) (b5 b6 b7 b8 : Bool) (g : List RG) (d : List Int) (hg : g.length ≤ 1048576) (hd : d.length ≤ 1048576) :
    Ev (fun k => impl_Segment_body.f k a0 a1 a2 a3 a4 b5 b6 b7 b8 g d) (segBody a0 a1 a2 a3 a4 b5 b6 b7 b8 g d) := by
  have hbit : ∀ (b : Bool) (x : Int), impl_bit.f b x = some (if b = true then x else 0) := by intro b x; unfold impl_bit.f; cases b <;> rfl
  have hm : wrap64 (wrap64 (wrap64 ((if b5 = true then 1 else 0) + (if b6 = true then 2 else 0)) + (if b7 = true then 4 else 0)) + (if b8 = true then 8 else 0)) = segMarks b5 b6 b7 b8 := by
    unfold segMarks
    rw [wrap_id (x := (if b5 = true then (1 : Int) else 0) + (if b6 = true then 2 else 0)) (by split <;> split <;> omega) (by split <;> split <;> omega), wrap_id (x := (if b5 = true then (1 : Int) else 0) + (if b6 = true then 2 else 0) + (if b7 = true then 4 else 0)) (by split <;> split <;> split <;> omega) (by split <;> split <;> split <;> omega), wrap_id (by split <;> split <;> split <;> split <;> omega) (by split <;> split <;> split <;> split <;> omega)]
  unfold impl_Segment_body.f
  simp only [hbit, Option.bind_some, hm]
  refine Ev.bind (impl_bytes2 _) (Ev.bind (impl_bytes2 _) ?_)
  have hc := concat_ [[a0 % 256, a1 % 256], bytes2 a2, bytes2 a3, [a4 % 256, segMarks b5 b6 b7 b8 % 256, (g.length : Int) % 256]] (by simp) (by simp [lenL, bytes2])
  have e : ([[a0 % 256, a1 % 256], bytes2 a2, bytes2 a3, [a4 % 256, segMarks b5 b6 b7 b8 % 256, (g.length : Int) % 256]] : List (List Int)).flatten = segHead a0 a1 a2 a3 a4 b5 b6 b7 b8 g := by unfold segHead; simp
  rw [e] at hc
  refine Ev.bind hc ?_
  have := impl_body_l a0 a1 a2 a3 a4 b5 b6 b7 b8 g d hg hd g.length 0 (segHead a0 a1 a2 a3 a4 b5 b6 b7 b8 g) (by omega) (by rw [segHead_length]; omega)
  rw [List.drop_zero] at this
  exact this

def segAll (B : List Int) (x y : Int) : List Int := B ++ bytes2 (sumOf (bytes2 x ++ bytes2 y ++ B))
def segB (ok : Bool) (B : List Int) (x y : Int) : List Int := if (ok && (inb x 0 65535 && inb y 0 65535)) = true then segAll B x y else []
theorem concat2 (a b : List Int) (h : a.length + b.length ≤ 1073741824) : Ev (fun k => slices_Concat_byte_byte.f k [a, b]) (a ++ b) := by
  have := concat_ [a, b] (by simp) (by simp [lenL]; omega)
  simpa using this
theorem bytes2_length (v : Int) : (bytes2 v).length = 2 := rfl
theorem is_append {a b : List Int} (ha : isBytes a) (hb : isBytes b) : isBytes (a ++ b) := by
  intro x hx
  rw [List.mem_append] at hx
  rcases hx with h | h
  · exact ha x h
  · exact hb x h
theorem impl_between_ (x y : Int) : Ev (fun k => impl_between.f k x y) (bytes2 x ++ bytes2 y) := by
  unfold impl_between.f
  exact Ev.bind (impl_bytes2 _) (Ev.bind (impl_bytes2 _) (Ev.bind (concat2 _ _ (by rw [bytes2_length, bytes2_length]; omega)) (Ev.now _)))
theorem impl_segBytes (a0 a1 a2 a3 a4 : Int) (b5 b6 b7 b8 : Bool) (g : List RG) (d : List Int) (x y : Int) (hg : g.length ≤ 1048576) (hd : d.length ≤ 1048576) (hb : isBytes d) :
    Ev (fun k => impl_SegmentBytes.f k a0 a1 a2 a3 a4 b5 b6 b7 b8 g d x y) (segB (segOk a0 a1 a2 a3 a4 b5 b6 b7 b8 g d) (segBody a0 a1 a2 a3 a4 b5 b6 b7 b8 g d) x y) := by
  have hB := segBody_is a0 a1 a2 a3 a4 b5 b6 b7 b8 g d hb
  have hl := segBody_length a0 a1 a2 a3 a4 b5 b6 b7 b8 g d
  have eb := impl_body a0 a1 a2 a3 a4 b5 b6 b7 b8 g d hg hd
  have j : ∀ v : Bool, Ev (fun k => impl_SegmentBytes.j0 k x y v a0 a1 a2 a3 a4 b5 b6 b7 b8 g d) (if v = true then [] else segAll (segBody a0 a1 a2 a3 a4 b5 b6 b7 b8 g d) x y) := by
    intro v
    refine Ev.succ ?_
    cases v
    · simp only [impl_SegmentBytes.j0, Bool.false_eq_true, if_false]
      generalize segBody a0 a1 a2 a3 a4 b5 b6 b7 b8 g d = B at *
      have hs := impl_sum (bytes2 x ++ bytes2 y ++ B) (is_append (is_append (bytes2_is _) (bytes2_is _)) hB) (by simp only [List.length_append, bytes2_length]; omega)
      refine Ev.bind eb (Ev.bind (impl_between_ x y) (Ev.bind (concat2 _ _ (by simp only [List.length_append, bytes2_length]; omega)) ?_))
      simp only [hs, Option.bind_some]
      refine Ev.bind (impl_bytes2 _) (Ev.bind (concat2 _ _ (by rw [bytes2_length]; omega)) (Ev.now _))
    · simp only [impl_SegmentBytes.j0, if_true]; exact Ev.now _
  unfold impl_SegmentBytes.f segB
  refine Ev.bind (impl_segOk a0 a1 a2 a3 a4 b5 b6 b7 b8 g d hg) ?_
  cases segOk a0 a1 a2 a3 a4 b5 b6 b7 b8 g d
  · simp only [Bool.false_eq_true, if_false, Bool.false_and]; exact j true
  simp only [if_true, seg_word, Option.bind_some, Bool.true_and]
  cases inb x 0 65535
  · simp only [Bool.false_eq_true, if_false, Bool.false_and]; exact j true
  simp only [if_true, Bool.true_and]
  cases inb y 0 65535
  · simp only [Bool.not_false, Bool.false_eq_true, if_false]; exact j true
  · simp only [Bool.not_true, if_true]; exact j false
theorem spec_marks (a0 a1 a2 a3 a4 : Int) (b5 b6 b7 b8 : Bool) (g : List RG) (d : List Int) : Ev (fun k => spec_l11Marks.f k a0 a1 a2 a3 a4 b5 b6 b7 b8 g d) (segMarks b5 b6 b7 b8) := by
  have j2 : ∀ x : Int, 0 ≤ x → x ≤ 100 → Ev (fun k => spec_l11Marks.j2 k x a0 a1 a2 a3 a4 b5 b6 b7 b8 g d) (x + (if b8 = true then 8 else 0)) := by
    intro x h0 h1
    refine Ev.succ ?_
    cases b8
    · simp only [spec_l11Marks.j2, Bool.false_eq_true, if_false, Int.add_zero]; exact Ev.now _
    · simp only [spec_l11Marks.j2, if_true, wrap_id (x := x + 8) (by omega) (by omega)]; exact Ev.now _
  have j1 : ∀ x : Int, 0 ≤ x → x ≤ 50 → Ev (fun k => spec_l11Marks.j1 k x a0 a1 a2 a3 a4 b5 b6 b7 b8 g d) (x + (if b7 = true then 4 else 0) + (if b8 = true then 8 else 0)) := by
    intro x h0 h1
    refine Ev.succ ?_
    cases b7
    · simp only [spec_l11Marks.j1, Bool.false_eq_true, if_false, Int.add_zero]; exact j2 x h0 (by omega)
    · simp only [spec_l11Marks.j1, if_true, wrap_id (x := x + 4) (by omega) (by omega)]; exact j2 _ (by omega) (by omega)
  have j0 : ∀ x : Int, 0 ≤ x → x ≤ 20 → Ev (fun k => spec_l11Marks.j0 k x a0 a1 a2 a3 a4 b5 b6 b7 b8 g d) (x + (if b6 = true then 2 else 0) + (if b7 = true then 4 else 0) + (if b8 = true then 8 else 0)) := by
    intro x h0 h1
    refine Ev.succ ?_
    cases b6
    · simp only [spec_l11Marks.j0, Bool.false_eq_true, if_false, Int.add_zero]; exact j1 x h0 (by omega)
    · simp only [spec_l11Marks.j0, if_true, wrap_id (x := x + 2) (by omega) (by omega)]; exact j1 _ (by omega) (by omega)
  unfold spec_l11Marks.f segMarks
  cases b5
  · simp only [Bool.false_eq_true, if_false]; exact j0 0 (by omega) (by omega)
  · simp only [if_true]; exact j0 1 (by omega) (by omega)
theorem spec_l9 (x y : Int) (B : List Int) (hx : inb x 0 65535 = true) (hy : inb y 0 65535 = true) (hB : isBytes B) (hl : B.length ≤ 1073741824) : Ev (fun k => spec_l9Sum.f k x y B) (sumOf (bytes2 x ++ bytes2 y ++ B)) := by
  unfold spec_l9Sum.f
  refine Ev.bind (spec_bytes2 x hx) (Ev.bind (spec_bytes2 y hy) ?_)
  simp only [if_pos (show (bytes2 x).length + (bytes2 y).length < 140737488355328 by rw [bytes2_length, bytes2_length]; omega), Option.bind_some, if_pos (show (bytes2 x ++ bytes2 y).length + B.length < 140737488355328 by simp only [List.length_append, bytes2_length]; omega)]
  refine Ev.bind (spec_sum _ (is_append (is_append (bytes2_is _) (bytes2_is _)) hB) (by simp only [List.length_append, bytes2_length]; omega)) (Ev.now _)
theorem spec_segBytes_l (a0 a1 a2 a3 a4 : Int) (b5 b6 b7 b8 : Bool) (g : List RG) (d : List Int) (x y : Int) (hx : inb x 0 65535 = true) (hy : inb y 0 65535 = true) (hr : g.all rgOk = true) (hg : g.length ≤ 1048576) (hd : d.length ≤ 1048576) (hb : isBytes d) (n : Nat) : ∀ (i : Nat) (acc : List Int), i + n = g.length → acc.length ≤ 1048576 + 4 * i → isBytes acc →
    Ev (fun k => spec_SegmentBytes.l0 k x y acc (i : Int) a0 a1 a2 a3 a4 b5 b6 b7 b8 g d) (segAll (acc ++ rgBytes (g.drop i) ++ ([(d.length : Int) % 256] ++ d)) x y) := by
  induction n with
  | zero =>
    intro i acc hi ha his
    refine Ev.succ ?_
    rw [List.drop_of_length_le (by omega)]
    have e : acc ++ rgBytes [] ++ ([(d.length : Int) % 256] ++ d) = acc ++ [(d.length : Int) % 256] ++ d := by simp [rgBytes]
    rw [e]
    have hB : isBytes (acc ++ [(d.length : Int) % 256] ++ d) := is_append (is_append his (by intro z hz; rw [List.mem_singleton] at hz; subst hz; omega)) hb
    have hl : (acc ++ [(d.length : Int) % 256] ++ d).length ≤ 1073741824 := by simp only [List.length_append, List.length_singleton]; omega
    have hsb := sumOf_bound _ (is_append (is_append (bytes2_is x) (bytes2_is y)) hB)
    simp only [spec_SegmentBytes.l0, if_neg (show ¬ (i : Int) < (g.length : Int) by omega), if_pos (show acc.length < 140737488355328 by omega), Option.bind_some, if_pos (show (acc ++ [(d.length : Int) % 256]).length + d.length < 140737488355328 by simp only [List.length_append, List.length_singleton]; omega)]
    refine Ev.bind (spec_l9 x y _ hx hy hB hl) (Ev.bind (spec_bytes2 _ (inb_iff.2 hsb)) ?_)
    rw [if_pos (show (acc ++ [(d.length : Int) % 256] ++ d).length + (bytes2 (sumOf (bytes2 x ++ bytes2 y ++ (acc ++ [(d.length : Int) % 256] ++ d)))).length < 140737488355328 by rw [bytes2_length]; omega)]
    exact Ev.now _
  | succ n ih =>
    intro i acc hi ha his
    have hlt : i < g.length := by omega
    have hz : rgOk g[i] = true := List.all_eq_true.1 hr _ (List.getElem_mem hlt)
    unfold rgOk at hz
    rw [Bool.and_eq_true] at hz
    refine Ev.succ ?_
    simp only [spec_SegmentBytes.l0, if_pos (show (i : Int) < (g.length : Int) by omega), if_pos (show (0 : Int) ≤ (i : Int) by omega), rdRG g i hlt]
    refine Ev.bind (spec_bytes2 _ hz.1) ?_
    simp only [if_pos (show acc.length + (bytes2 g[i].f0).length < 140737488355328 by rw [bytes2_length]; omega), Option.bind_some]
    refine Ev.bind (spec_bytes2 _ hz.2) ?_
    simp only [if_pos (show (acc ++ bytes2 g[i].f0).length + (bytes2 g[i].f1).length < 140737488355328 by rw [List.length_append, bytes2_length, bytes2_length]; omega)]
    have h1 := ih (i + 1) (acc ++ bytes2 g[i].f0 ++ bytes2 g[i].f1) (by omega) (by simp only [List.length_append, bytes2_length]; omega) (is_append (is_append his (bytes2_is _)) (bytes2_is _))
    rw [List.drop_eq_getElem_cons hlt, rgBytes, wrap_id (by omega) (by omega)]
    simp only [List.append_assoc] at h1 ⊢
    exact h1
theorem spec_segBytes (a0 a1 a2 a3 a4 : Int) (b5 b6 b7 b8 : Bool) (g : List RG) (d : List Int) (x y : Int) (hg : g.length ≤ 1048576) (hd : d.length ≤ 1048576) (hb : isBytes d) :
    Ev (fun k => spec_SegmentBytes.f k a0 a1 a2 a3 a4 b5 b6 b7 b8 g d x y) (segB (segOk a0 a1 a2 a3 a4 b5 b6 b7 b8 g d) (segBody a0 a1 a2 a3 a4 b5 b6 b7 b8 g d) x y) := by
  have no : Ev (fun k => spec_SegmentBytes.j0 k x y true a0 a1 a2 a3 a4 b5 b6 b7 b8 g d) ([] : List Int) := by
    refine Ev.succ ?_
    simp only [spec_SegmentBytes.j0, if_true]; exact Ev.now _
  unfold spec_SegmentBytes.f segB
  refine Ev.bind (spec_segOk a0 a1 a2 a3 a4 b5 b6 b7 b8 g d hg) ?_
  cases hok : segOk a0 a1 a2 a3 a4 b5 b6 b7 b8 g d
  · simp only [Bool.false_eq_true, if_false, Bool.false_and]; exact no
  simp only [if_true, spec_in_, Option.bind_some, Bool.true_and]
  cases hx : inb x 0 65535
  · simp only [Bool.false_eq_true, if_false, Bool.false_and]; exact no
  simp only [if_true, Bool.true_and]
  cases hy : inb y 0 65535
  · simp only [Bool.not_false, Bool.false_eq_true, if_false]; exact no
  simp only [Bool.not_true, if_true]
  unfold segOk at hok
  simp only [Bool.and_eq_true] at hok
  obtain ⟨_, _, h2, h3, _, _, _, hr, _⟩ := hok
  refine Ev.succ ?_
  simp only [spec_SegmentBytes.j0, Bool.false_eq_true, if_false, Option.bind_some]
  refine Ev.bind (spec_bytes2 a2 h2) ?_
  simp only [if_pos (show ([a0 % 256, a1 % 256] : List Int).length + (bytes2 a2).length < 140737488355328 by rw [bytes2_length]; show 2 + 2 < _; omega), Option.bind_some]
  refine Ev.bind (spec_bytes2 a3 h3) ?_
  simp only [if_pos (show ([a0 % 256, a1 % 256] ++ bytes2 a2 : List Int).length + (bytes2 a3).length < 140737488355328 by rw [bytes2_length, List.length_append, bytes2_length]; show 2 + 2 + 2 < _; omega), Option.bind_some]
  refine Ev.bind (spec_marks a0 a1 a2 a3 a4 b5 b6 b7 b8 g d) ?_
  simp only [if_pos (show ([a0 % 256, a1 % 256] ++ bytes2 a2 ++ bytes2 a3 : List Int).length + ([a4 % 256, segMarks b5 b6 b7 b8 % 256, (g.length : Int) % 256] : List Int).length < 140737488355328 by rw [List.length_append, List.length_append, bytes2_length, bytes2_length]; show 2 + 2 + 2 + 3 < _; omega), Option.bind_some]
  have h := spec_segBytes_l a0 a1 a2 a3 a4 b5 b6 b7 b8 g d x y hx hy hr hg hd hb g.length 0 (segHead a0 a1 a2 a3 a4 b5 b6 b7 b8 g) (by omega) (by rw [segHead_length]; omega) (by
    intro z hz
    exact segBody_is a0 a1 a2 a3 a4 b5 b6 b7 b8 g d hb z (by unfold segBody; simp only [List.mem_append]; exact Or.inl (Or.inl hz)))
  rw [List.drop_zero] at h
  exact h

/-! drawing -/
theorem xor_nn (a b : Int) (a0 : 0 ≤ a) (a1 : a < 9223372036854775808) (b0 : 0 ≤ b) (b1 : b < 9223372036854775808) : 0 ≤ Go.bits .xor .i64 a b ∧ Go.bits .xor .i64 a b < 9223372036854775808 := by
  obtain ⟨x, rfl⟩ := Int.eq_ofNat_of_zero_le a0
  obtain ⟨y, rfl⟩ := Int.eq_ofNat_of_zero_le b0
  have hx : x < 2 ^ 63 := by omega
  have hy : y < 2 ^ 63 := by omega
  have hxy : x ^^^ y < 2 ^ 63 := Nat.xor_lt_two_pow hx hy
  have h1 : (BitVec.ofInt 64 (x : Int)).toNat = x := by
    rw [BitVec.ofInt_natCast, BitVec.toNat_ofNat]; exact Nat.mod_eq_of_lt (by omega)
  have h2 : (BitVec.ofInt 64 (y : Int)).toNat = y := by
    rw [BitVec.ofInt_natCast, BitVec.toNat_ofNat]; exact Nat.mod_eq_of_lt (by omega)
  have h3 : Go.bits .xor .i64 (x : Int) (y : Int) = ((x ^^^ y : Nat) : Int) := by
    show IntKind.i64.wrap ((BitVec.ofInt 64 (x : Int) ^^^ BitVec.ofInt 64 (y : Int)).toNat : Int) = _
    rw [BitVec.toNat_xor, h1, h2, IntKind.wrap_i64]
    omega
  rw [h3]
  omega
theorem tmod_in (x n : Int) (h0 : 0 ≤ x) (hn : 1 ≤ n) : 0 ≤ Int.tmod x n ∧ Int.tmod x n < n := by
  rw [Int.tmod_eq_emod_of_nonneg h0]
  exact ⟨Int.emod_nonneg _ (by omega), Int.emod_lt_of_pos _ (by omega)⟩
theorem tdiv_in (x n : Int) (h0 : 0 ≤ x) (hn : 1 ≤ n) : 0 ≤ Int.tdiv x n ∧ Int.tdiv x n ≤ x := by
  rw [Int.tdiv_eq_ediv_of_nonneg h0]
  exact ⟨Int.ediv_nonneg h0 (by omega), Int.ediv_le_self _ h0⟩
theorem rd_byte {s : List Int} (hb : isBytes s) (i : Int) : 0 ≤ rd s i ∧ rd s i ≤ 255 := by
  unfold rd
  rw [List.getD_eq_getElem?_getD]
  by_cases h : i.toNat < s.length
  · rw [List.getElem?_eq_getElem h]; exact hb _ (List.getElem_mem h)
  · rw [List.getElem?_eq_none (by omega)]; exact ⟨Int.le_refl _, by decide⟩
theorem pick (s : List Int) (p n : Int) (hb : isBytes s) (hl : s.length ≤ 2000) (h0 : 0 ≤ p) (hp : p ≤ 1000000000) (hn : 1 ≤ n) (hn1 : n ≤ 1000000000) :
    ∃ r, Ev (fun k => spec_l20Rd_pick.f k s p n) (r, p + 1) ∧ 0 ≤ r ∧ r < n := by
  unfold spec_l20Rd_pick.f
  simp only [if_neg (show ¬ n < 1 by omega)]
  rw [wrap_id (x := p + 1) (by omega) (by omega)]
  by_cases hs : s.length = 0
  · refine ⟨0, Ev.succ ?_, by omega, by omega⟩
    simp only [spec_l20Rd_pick.j0, hs, Int.natCast_zero, beq_self_eq_true, if_true]
    exact Ev.now _
  · have hz : ((s.length : Int) == 0) = false := by rw [beq_eq_false_iff_ne]; omega
    simp only [hz]
    by_cases h1 : p < (s.length : Int)
    · have hx := rd_byte hb p
      have hm := tmod_in (rd s p) n hx.1 hn
      refine ⟨Int.tmod (rd s p) n, Ev.succ ?_, hm.1, hm.2⟩
      simp only [spec_l20Rd_pick.j0, Bool.false_eq_true, if_false, show p + 1 - 1 = p by omega]
      rw [wrap_id (x := p) (by omega) (by omega), wrap_id (x := rd s p) (by omega) (by omega)]
      simp only [if_pos h1, if_pos h0, if_neg (show ¬ n = 0 by omega)]
      exact Ev.now _
    · have m1 := tmod_in p s.length h0 (by omega)
      have m2 := tmod_in (p * 7 + 3) s.length (by omega) (by omega)
      have d1 := tdiv_in p s.length h0 (by omega)
      have x1 := rd_byte hb (Int.tmod p s.length)
      have x2 := rd_byte hb (Int.tmod (p * 7 + 3) s.length)
      let v := rd s (Int.tmod p s.length) * 131 + rd s (Int.tmod (p * 7 + 3) s.length) * 1117 + p * 29 + Int.tdiv p s.length * 53
      have v0 : 0 ≤ v := by show 0 ≤ _ + _ + _ + _; omega
      have v1 : v < 9223372036854775808 := by show _ + _ + _ + _ < _; omega
      have d2 := tdiv_in v 64 v0 (by omega)
      have b1 := xor_nn v (Int.tdiv v 64) v0 v1 d2.1 (by omega)
      have hm := tmod_in (Go.bits .xor .i64 v (Int.tdiv v 64)) n b1.1 hn
      refine ⟨_, Ev.succ ?_, hm.1, hm.2⟩
      simp only [spec_l20Rd_pick.j0, Bool.false_eq_true, if_false, show p + 1 - 1 = p by omega]
      rw [wrap_id (x := p) (by omega) (by omega)]
      rw [wrap_id (x := p * 7) (by omega) (by omega), wrap_id (x := p * 7 + 3) (by omega) (by omega), wrap_id (x := p * 29) (by omega) (by omega), wrap_id (x := rd s (Int.tmod p s.length)) (by omega) (by omega),
        wrap_id (x := rd s (Int.tmod (p * 7 + 3) s.length)) (by omega) (by omega), wrap_id (x := rd s (Int.tmod p s.length) * 131) (by omega) (by omega), wrap_id (x := rd s (Int.tmod (p * 7 + 3) s.length) * 1117) (by omega) (by omega),
        wrap_id (x := rd s (Int.tmod p s.length) * 131 + rd s (Int.tmod (p * 7 + 3) s.length) * 1117) (by omega) (by omega), wrap_id (x := rd s (Int.tmod p s.length) * 131 + rd s (Int.tmod (p * 7 + 3) s.length) * 1117 + p * 29) (by omega) (by omega),
        wrap_id (x := Int.tdiv p s.length) (by omega) (by omega), wrap_id (x := Int.tdiv p s.length * 53) (by omega) (by omega), wrap_id (x := rd s (Int.tmod p s.length) * 131 + rd s (Int.tmod (p * 7 + 3) s.length) * 1117 + p * 29 + Int.tdiv p s.length * 53) (by omega) (by omega)]
      simp only [if_neg h1, if_neg (show ¬ (s.length : Int) = 0 by omega), if_pos m1.1, if_pos m1.2, if_pos m2.1, if_pos m2.2, if_neg (show ¬ n = 0 by omega)]
      rw [wrap_id (x := Int.tdiv v 64) (by omega) (by omega)]
      exact Ev.now _
theorem odd (s : List Int) (p n : Int) (hb : isBytes s) (hl : s.length ≤ 2000) (h0 : 0 ≤ p) (hp : p ≤ 1000000000) (hn1 : n ≤ 1000000000) :
    ∃ b q, Ev (fun k => spec_l20Rd_odd.f k s p n) (b, q) ∧ 0 ≤ q ∧ q ≤ p + 1 := by
  unfold spec_l20Rd_odd.f
  by_cases h : n > 0
  · simp only [if_pos h]
    obtain ⟨r, e, _, _⟩ := pick s p n hb hl h0 hp (by omega) hn1
    exact ⟨_, _, Ev.bind e (Ev.now _), by omega, by omega⟩
  · simp only [if_neg h]
    exact ⟨_, _, Ev.now _, h0, by omega⟩
theorem open_ (l : List Int) (hb : isBytes l) : ∃ s, spec_l20Open.f l = some (s, 0) ∧ isBytes s ∧ s.length ≤ 2000 := by
  unfold spec_l20Open.f
  by_cases h : (l.length : Int) > 2000
  · simp only [if_pos h, if_pos (show (2000 : Int) ≤ (l.length : Int) by omega)]
    exact ⟨_, rfl, fun x hx => hb x (List.mem_of_mem_take hx), by simp; omega⟩
  · simp only [if_neg h]
    exact ⟨_, rfl, hb, by omega⟩

/-! drawing bytes -/
theorem isBytes_snoc {l : List Int} {v : Int} (h : isBytes l) (hv : 0 ≤ v ∧ v ≤ 255) : isBytes (l ++ [v]) := by
  intro y hy
  rw [List.mem_append] at hy
  rcases hy with hy | hy
  · exact h y hy
  · rw [List.mem_singleton] at hy; omega
theorem bytes_l (s : List Int) (hb : isBytes s) (hl : s.length ≤ 2000) (n : Nat) : ∀ (acc : List Int) (p : Int), isBytes acc → n + acc.length ≤ 100000 → 0 ≤ p → p + 2 * n ≤ 1000000000 →
    ∃ x q, Ev (fun k => spec_l20Rd_bytes.l0 k n acc s p) (x, q) ∧ isBytes x ∧ x.length = n + acc.length ∧ 0 ≤ q ∧ q ≤ p + 2 * n := by
  induction n with
  | zero =>
    intro acc p ha _ h0 _
    refine ⟨acc, p, Ev.succ ?_, ha, by omega, h0, by omega⟩
    simp only [spec_l20Rd_bytes.l0]
    exact Ev.now _
  | succ n ih =>
    intro acc p ha hn h0 hp
    obtain ⟨r1, e1, r10, r11⟩ := pick s p 3 hb hl h0 (by omega) (by omega) (by omega)
    by_cases h1 : r1 = 0
    · obtain ⟨r2, e2, r20, r21⟩ := pick s (p + 1) 256 hb hl (by omega) (by omega) (by omega) (by omega)
      obtain ⟨x, q, e, hx, hxl, hq0, hq1⟩ := ih (acc ++ [r2 % 256]) (p + 1 + 1) (isBytes_snoc ha (by omega)) (by simp; omega) (by omega) (by omega)
      refine ⟨x, q, Ev.succ ?_, hx, by simp at hxl; omega, hq0, by omega⟩
      simp only [spec_l20Rd_bytes.l0, if_pos (show ((n + 1 : Nat) : Int) > 0 by omega)]
      refine Ev.bind e1 ?_
      simp only [if_pos h1]
      refine Ev.bind e2 ?_
      simp only [if_pos (show acc.length < 140737488355328 by omega)]
      rw [wrap_id (x := ((n + 1 : Nat) : Int) - 1) (by omega) (by omega), show ((n + 1 : Nat) : Int) - 1 = (n : Int) by omega]
      exact e
    · obtain ⟨r2, e2, r20, r21⟩ := pick s (p + 1) 3 hb hl (by omega) (by omega) (by omega) (by omega)
      obtain ⟨x, q, e, hx, hxl, hq0, hq1⟩ := ih (acc ++ [wrap64 (r2 + 97) % 256]) (p + 1 + 1) (isBytes_snoc ha (by omega)) (by simp; omega) (by omega) (by omega)
      refine ⟨x, q, Ev.succ ?_, hx, by simp at hxl; omega, hq0, by omega⟩
      simp only [spec_l20Rd_bytes.l0, if_pos (show ((n + 1 : Nat) : Int) > 0 by omega)]
      refine Ev.bind e1 ?_
      simp only [if_neg h1]
      refine Ev.bind e2 ?_
      simp only [if_pos (show acc.length < 140737488355328 by omega)]
      rw [wrap_id (x := ((n + 1 : Nat) : Int) - 1) (by omega) (by omega), show ((n + 1 : Nat) : Int) - 1 = (n : Int) by omega]
      exact e
theorem bytes_ (s : List Int) (n p : Int) (hb : isBytes s) (hl : s.length ≤ 2000) (hn0 : 0 ≤ n) (hn : n ≤ 100000) (h0 : 0 ≤ p) (hp : p ≤ 999000000) :
    ∃ x q, Ev (fun k => spec_l20Rd_bytes.f k s p n) (x, q) ∧ isBytes x ∧ (x.length : Int) = n ∧ 0 ≤ q ∧ q ≤ p + 2 * n := by
  obtain ⟨m, rfl⟩ := Int.eq_ofNat_of_zero_le hn0
  obtain ⟨x, q, e, h1, h2, h3, h4⟩ := bytes_l s hb hl m [] p (by intro y hy; cases hy) (by simp; omega) h0 (by omega)
  exact ⟨x, q, e, h1, by simp at h2; omega, h3, h4⟩

/-! draws, step by step -/
def Dr {α : Type} (f : Nat → Option α) (P : α → Prop) : Prop := ∃ r, Ev f r ∧ P r
theorem Dr.bind {α β : Type} {g : Nat → Option α} {f : Nat → α → Option β} {P : α → Prop} {Q : β → Prop} (h : Dr g P) (k : ∀ r, P r → Dr (fun n => f n r) Q) : Dr (fun n => (g n).bind (f n)) Q := by
  obtain ⟨r, e, hp⟩ := h
  obtain ⟨r2, e2, hq⟩ := k r hp
  exact ⟨r2, Ev.bind e e2, hq⟩
theorem Dr.ev {α : Type} {g : Nat → Option α} {a : α} (e : Ev g a) : Dr g (fun r => r = a) := ⟨a, e, rfl⟩
theorem Dr.now {α : Type} {P : α → Prop} {r : α} (h : P r) : Dr (fun _ => some r) P := ⟨r, Ev.now r, h⟩
theorem Dr.succ {α : Type} {g : Nat → Option α} {P : α → Prop} (h : Dr (fun k => g (k + 1)) P) : Dr g P := by
  obtain ⟨r, e, hp⟩ := h
  exact ⟨r, Ev.succ e, hp⟩
theorem Dr.mono {α : Type} {g : Nat → Option α} {P Q : α → Prop} (h : Dr g P) (k : ∀ r, P r → Q r) : Dr g Q := by
  obtain ⟨r, e, hp⟩ := h
  exact ⟨r, e, k r hp⟩
theorem Dr.ite {α : Type} {c : Prop} [Decidable c] {f g : Nat → Option α} {P : α → Prop} (h : c → Dr f P) (k : ¬ c → Dr g P) : Dr (fun n => if c then f n else g n) P := by
  by_cases hc : c
  · simp only [if_pos hc]; exact h hc
  · simp only [if_neg hc]; exact k hc
theorem Dr.pos {α : Type} {c : Prop} [Decidable c] {f g : Nat → Option α} {P : α → Prop} (hc : c) (h : Dr f P) : Dr (fun n => if c then f n else g n) P := by
  simp only [if_pos hc]; exact h
theorem Dr.neg {α : Type} {c : Prop} [Decidable c] {f g : Nat → Option α} {P : α → Prop} (hc : ¬ c) (h : Dr g P) : Dr (fun n => if c then f n else g n) P := by
  simp only [if_neg hc]; exact h
theorem pick_ {s : List Int} {p n : Int} (hb : isBytes s ∧ s.length ≤ 2000) (h0 : 0 ≤ p ∧ p ≤ 1000000000) (hn : 1 ≤ n ∧ n ≤ 1000000000) :
    Dr (fun k => spec_l20Rd_pick.f k s p n) (fun r => ∃ v, (0 ≤ v ∧ v < n) ∧ r = (v, p + 1)) := by
  obtain ⟨r, e, a, b⟩ := pick s p n hb.1 hb.2 h0.1 h0.2 hn.1 hn.2
  exact ⟨_, e, r, ⟨a, b⟩, rfl⟩
theorem open__ (l : List Int) (hb : isBytes l) : Dr (fun _ => spec_l20Open.f l) (fun r => ∃ s, (isBytes s ∧ s.length ≤ 2000) ∧ r = (s, 0)) := by
  obtain ⟨s, e, h1, h2⟩ := open_ l hb
  exact ⟨_, Ev.pure e, s, ⟨h1, h2⟩, rfl⟩

theorem odd_ {s : List Int} {p n : Int} (hb : isBytes s ∧ s.length ≤ 2000) (h0 : 0 ≤ p ∧ p ≤ 1000000000) (hn : n ≤ 1000000000) :
    Dr (fun k => spec_l20Rd_odd.f k s p n) (fun r => ∃ b q, (p ≤ q ∧ q ≤ p + 1 ∧ (n ≤ 0 → b = false)) ∧ r = (b, q)) := by
  unfold spec_l20Rd_odd.f
  refine Dr.ite (fun h => ?_) (fun h => ?_)
  · refine Dr.bind (pick_ hb h0 ⟨by omega, hn⟩) ?_
    rintro _ ⟨v, ⟨a, b⟩, rfl⟩
    exact Dr.now ⟨_, _, ⟨by dsimp only; omega, by dsimp only; omega, fun h2 => by omega⟩, rfl⟩
  · exact Dr.now ⟨_, _, ⟨by omega, by omega, fun _ => rfl⟩, rfl⟩

theorem bytes__ {s : List Int} {n p : Int} (hb : isBytes s ∧ s.length ≤ 2000) (hn : 0 ≤ n ∧ n ≤ 100000) (h0 : 0 ≤ p ∧ p ≤ 999000000) :
    Dr (fun k => spec_l20Rd_bytes.f k s p n) (fun r => ∃ x q, (isBytes x ∧ (x.length : Int) = n ∧ p ≤ q ∧ q ≤ p + 2 * n) ∧ r = (x, q)) := by
  have hm : ∀ (m : Nat) (acc : List Int) (p : Int), isBytes acc → m + acc.length ≤ 100000 → 0 ≤ p ∧ p + 2 * m ≤ 1000000000 →
      Dr (fun k => spec_l20Rd_bytes.l0 k m acc s p) (fun r => ∃ x q, (isBytes x ∧ x.length = m + acc.length ∧ p ≤ q ∧ q ≤ p + 2 * m) ∧ r = (x, q)) := by
    intro m
    induction m with
    | zero =>
      intro acc p ha _ h0
      refine Dr.succ ?_
      simp only [spec_l20Rd_bytes.l0]
      exact Dr.now ⟨_, _, ⟨ha, by omega, by omega, by omega⟩, rfl⟩
    | succ m ih =>
      intro acc p ha hn h0
      have e : wrap64 (((m + 1 : Nat) : Int) - 1) = (m : Int) := by rw [wrap_id (by omega) (by omega)]; omega
      have fin : ∀ v : Int, 0 ≤ v ∧ v ≤ 255 → Dr (fun k => spec_l20Rd_bytes.l0 k m (acc ++ [v]) s (p + 1 + 1)) (fun r => ∃ x q, (isBytes x ∧ x.length = m + 1 + acc.length ∧ p ≤ q ∧ q ≤ p + 2 * ((m + 1 : Nat) : Int)) ∧ r = (x, q)) := by
        intro v hv
        refine (ih (acc ++ [v]) (p + 1 + 1) (isBytes_snoc ha hv) (by simp; omega) (by omega)).mono ?_
        rintro _ ⟨x, q, ⟨h1, h2, h3, h4⟩, rfl⟩
        exact ⟨_, _, ⟨h1, by simp at h2; omega, by omega, by omega⟩, rfl⟩
      refine Dr.succ ?_
      simp only [spec_l20Rd_bytes.l0, if_pos (show ((m + 1 : Nat) : Int) > 0 by omega), e, if_pos (show acc.length < 140737488355328 by omega)]
      refine Dr.bind (pick_ hb (by omega) (by omega)) ?_
      rintro _ ⟨v, hv, rfl⟩
      refine Dr.ite (fun _ => ?_) (fun _ => ?_)
      · refine Dr.bind (pick_ hb (by omega) (by omega)) ?_
        rintro _ ⟨v2, hv2, rfl⟩
        exact fin _ (by dsimp only; omega)
      · refine Dr.bind (pick_ hb (by omega) (by omega)) ?_
        rintro _ ⟨v2, hv2, rfl⟩
        exact fin _ (by dsimp only; omega)
  obtain ⟨m, rfl⟩ := Int.eq_ofNat_of_zero_le hn.1
  unfold spec_l20Rd_bytes.f
  refine (hm m [] p (by intro y hy; cases hy) (by simp; omega) (by omega)).mono ?_
  rintro _ ⟨x, q, ⟨h1, h2, h3, h4⟩, rfl⟩
  exact ⟨_, _, ⟨h1, by simp at h2; omega, h3, h4⟩, rfl⟩

/-! a segment that is drawn -/
theorem seq_ {s : List Int} {p : Int} (hb : isBytes s ∧ s.length ≤ 2000) (h0 : 0 ≤ p ∧ p ≤ 900000000) :
    Dr (fun k => spec_l20Rd_seq.f k s p) (fun r => ∃ v, (0 ≤ v ∧ v ≤ 65535) ∧ r = (v, p + 6)) := by
  unfold spec_l20Rd_seq.f
  refine Dr.bind (pick_ hb (by omega) (by omega)) ?_
  rintro _ ⟨v1, h1, rfl⟩
  refine Dr.bind (pick_ hb (by dsimp only; omega) (by omega)) ?_
  rintro _ ⟨v2, h2, rfl⟩
  refine Dr.bind (pick_ hb (by dsimp only; omega) (by omega)) ?_
  rintro _ ⟨v3, h3, rfl⟩
  refine Dr.bind (pick_ hb (by dsimp only; omega) (by omega)) ?_
  rintro _ ⟨v4, h4, rfl⟩
  refine Dr.bind (pick_ hb (by dsimp only; omega) (by omega)) ?_
  rintro _ ⟨v5, h5, rfl⟩
  simp only [Option.bind_some]
  refine Dr.bind (pick_ hb (by omega) (by omega)) ?_
  rintro _ ⟨v6, h6, rfl⟩
  dsimp only
  rw [wrap_id (x := 65535 - v2) (by omega) (by omega), wrap_id (x := 32768 + v3) (by omega) (by omega), wrap_id (x := 32768 + v3 - 2) (by omega) (by omega), wrap_id (x := v4 * 256) (by omega) (by omega), wrap_id (x := v4 * 256 + v5) (by omega) (by omega)]
  refine Dr.pos h6.1 (Dr.pos (by simp only [List.length_cons, List.length_nil]; omega) (Dr.now ⟨_, ?_, by rw [show p + 1 + 1 + 1 + 1 + 1 + 1 = p + 6 by omega]⟩))
  have : v6 = 0 ∨ v6 = 1 ∨ v6 = 2 ∨ v6 = 3 := by omega
  rcases this with rfl | rfl | rfl | rfl
  · show 0 ≤ v1 ∧ v1 ≤ 65535; omega
  · show 0 ≤ 65535 - v2 ∧ 65535 - v2 ≤ 65535; omega
  · show 0 ≤ 32768 + v3 - 2 ∧ 32768 + v3 - 2 ≤ 65535; omega
  · show 0 ≤ v4 * 256 + v5 ∧ v4 * 256 + v5 ≤ 65535; omega
def segIn (a0 a1 a2 a3 a4 : Int) (b6 : Bool) (g : List RG) : Prop :=
  (1 ≤ a0 ∧ a0 ≤ 255) ∧ (1 ≤ a1 ∧ a1 ≤ 255) ∧ (0 ≤ a2 ∧ a2 ≤ 65535) ∧ (0 ≤ a3 ∧ a3 ≤ 65535) ∧ (0 ≤ a4 ∧ a4 ≤ 255) ∧ g.length ≤ 2 ∧ g.all rgOk = true ∧ (b6 = true ∨ (a3 = 0 ∧ a4 = 0 ∧ g = []))
theorem segIn_ok {a0 a1 a2 a3 a4 : Int} {b5 b6 b7 b8 : Bool} {g : List RG} {d : List Int} (h : segIn a0 a1 a2 a3 a4 b6 g) (hd : d.length ≤ 12) (h8 : b8 = true → b5 = false ∧ b7 = false ∧ d = []) :
    segOk a0 a1 a2 a3 a4 b5 b6 b7 b8 g d = true := by
  obtain ⟨h0, h1, h2, h3, h4, hg, hr, hh⟩ := h
  unfold segOk segTail
  rw [inb_iff.2 h0, inb_iff.2 h1, inb_iff.2 h2, inb_iff.2 h3, inb_iff.2 h4, hr, decide_eq_false (show ¬ (g.length : Int) > 2 by omega), decide_eq_false (show ¬ (d.length : Int) > 12 by omega)]
  have e1 : (b6 || (decide (a3 = 0) && (decide (a4 = 0) && !decide ((g.length : Int) > 0)))) = true := by
    rcases hh with rfl | ⟨rfl, rfl, rfl⟩
    · rfl
    · cases b6 <;> rfl
  have e2 : (!b8 || (!b5 && (!b7 && ((d.length : Int) == 0)))) = true := by
    cases b8
    · rfl
    · obtain ⟨rfl, rfl, rfl⟩ := h8 rfl; rfl
  rw [e1, e2]; rfl
/-- what is known of a segment that was drawn -/
def segDrawn (n p : Int) (a0 a1 a2 a3 a4 : Int) (b5 b6 b7 b8 : Bool) (g : List RG) (d : List Int) (q : Int) : Prop :=
  isBytes d ∧ d.length ≤ 100 ∧ g.length ≤ 10 ∧ (n ≤ 0 → segOk a0 a1 a2 a3 a4 b5 b6 b7 b8 g d = true) ∧ p ≤ q ∧ q ≤ p + 100
def segRes (n p : Int) (r : Int × Int × Int × Int × Int × Bool × Bool × Bool × Bool × List RG × List Int × Int) : Prop :=
  ∃ a0 a1 a2 a3 a4 b5 b6 b7 b8 g d q, segDrawn n p a0 a1 a2 a3 a4 b5 b6 b7 b8 g d q ∧ r = (a0, a1, a2, a3, a4, b5, b6, b7, b8, g, d, q)
theorem segRes.up {n p p' : Int} {r} (h : segRes n p' r) (h1 : p ≤ p') (h2 : p' + 100 ≤ p + 100) : segRes n p r := by
  obtain ⟨a0, a1, a2, a3, a4, b5, b6, b7, b8, g, d, q, ⟨k1, k2, k3, k4, k5, k6⟩, e⟩ := h
  exact ⟨a0, a1, a2, a3, a4, b5, b6, b7, b8, g, d, q, ⟨k1, k2, k3, k4, by omega, by omega⟩, e⟩
theorem replicate_is (n : Nat) : isBytes (List.replicate n 0) := by
  intro x hx
  rw [List.mem_replicate] at hx
  omega
theorem seg_j2 {s : List Int} {p n : Int} (hb : isBytes s ∧ s.length ≤ 2000) (h0 : 0 ≤ p ∧ p ≤ 910000000) (hn : n ≤ 1000000) {a0 a1 a2 a3 a4 : Int} {b5 b6 b7 b8 : Bool} {g : List RG} {d : List Int} (hd : isBytes d) (hdl : d.length ≤ 12) (hg : g.length ≤ 2)
    (hok : segOk a0 a1 a2 a3 a4 b5 b6 b7 b8 g d = true) : Dr (fun k => spec_l20Segment.j2 k n s p a0 a1 a2 a3 a4 b5 b6 b7 b8 g d) (fun r => ∃ a0 a1 a2 a3 a4 b5 b6 b7 b8 g d q, (isBytes d ∧ d.length ≤ 100 ∧ g.length ≤ 10 ∧ (n ≤ 0 → segOk a0 a1 a2 a3 a4 b5 b6 b7 b8 g d = true) ∧ p ≤ q ∧ q ≤ p + 3) ∧ r = (a0, a1, a2, a3, a4, b5, b6, b7, b8, g, d, q)) := by
  refine Dr.succ ?_
  simp only [spec_l20Segment.j2]
  refine Dr.bind (odd_ hb (by omega) (by omega)) ?_
  rintro _ ⟨o, q, ⟨q0, q1, ho⟩, rfl⟩
  refine Dr.ite (fun ht => ?_) (fun _ => Dr.now ⟨_, _, _, _, _, _, _, _, _, _, _, _, ⟨hd, by omega, by omega, fun _ => hok, by omega, by omega⟩, rfl⟩)
  have hn1 : ¬ n ≤ 0 := fun h => by rw [ho h] at ht; cases ht
  refine Dr.bind (pick_ hb (by dsimp only; omega) (by omega)) ?_
  rintro _ ⟨v, hv, rfl⟩
  refine Dr.ite (fun _ => ?_) (fun _ => Dr.ite (fun _ => ?_) (fun _ => Dr.ite (fun _ => ?_) (fun _ => ?_)))
  · refine Dr.bind (pick_ hb (by dsimp only; omega) (by omega)) ?_
    rintro _ ⟨v2, hv2, rfl⟩
    exact Dr.now ⟨_, _, _, _, _, _, _, _, _, _, _, _, ⟨hd, by omega, by omega, fun h => absurd h hn1, by dsimp only; omega, by dsimp only; omega⟩, rfl⟩
  · refine Dr.bind (pick_ hb (by dsimp only; omega) (by omega)) ?_
    rintro _ ⟨v2, hv2, rfl⟩
    exact Dr.now ⟨_, _, _, _, _, _, _, _, _, _, _, _, ⟨hd, by omega, by omega, fun h => absurd h hn1, by dsimp only; omega, by dsimp only; omega⟩, rfl⟩
  · exact Dr.now ⟨_, _, _, _, _, _, _, _, _, _, _, _, ⟨hd, by omega, by omega, fun h => absurd h hn1, by dsimp only; omega, by dsimp only; omega⟩, rfl⟩
  · refine Dr.bind (pick_ hb (by dsimp only; omega) (by omega)) ?_
    rintro _ ⟨v2, hv2, rfl⟩
    refine Dr.pos hv2.1 (Dr.pos (by dsimp only; omega) (Dr.now ⟨_, _, _, _, _, _, _, _, _, _, _, _, ⟨replicate_is _, by rw [List.length_replicate]; dsimp only; omega, by omega, fun h => absurd h hn1, by dsimp only; omega, by dsimp only; omega⟩, rfl⟩))
theorem seg_j1 {s : List Int} {p n : Int} (hb : isBytes s ∧ s.length ≤ 2000) (h0 : 0 ≤ p ∧ p ≤ 900000000) (hn : n ≤ 1000000) {a0 a1 a2 a3 a4 : Int} {b5 b6 b7 : Bool} {g : List RG} {d : List Int} (hd : isBytes d) (hdl : d.length ≤ 12)
    (hi : segIn a0 a1 a2 a3 a4 b6 g) : Dr (fun k => spec_l20Segment.j1 k n s p a0 a1 a2 a3 a4 b5 b6 b7 false g d) (fun r => ∃ a0 a1 a2 a3 a4 b5 b6 b7 b8 g d q, (isBytes d ∧ d.length ≤ 100 ∧ g.length ≤ 10 ∧ (n ≤ 0 → segOk a0 a1 a2 a3 a4 b5 b6 b7 b8 g d = true) ∧ p ≤ q ∧ q ≤ p + 4) ∧ r = (a0, a1, a2, a3, a4, b5, b6, b7, b8, g, d, q)) := by
  have hg : g.length ≤ 2 := hi.2.2.2.2.2.1
  refine Dr.succ ?_
  simp only [spec_l20Segment.j1]
  refine Dr.bind (pick_ hb (by omega) (by omega)) ?_
  rintro _ ⟨v, hv, rfl⟩
  refine Dr.ite (fun _ => ?_) (fun _ => ?_)
  · refine (seg_j2 hb (by dsimp only; omega) hn (d := []) (by intro y hy; cases hy) (by simp) hg (segIn_ok hi (by simp) (fun _ => ⟨rfl, rfl, rfl⟩))).mono ?_
    rintro _ ⟨a0, a1, a2, a3, a4, b5, b6, b7, b8, g, d, q, ⟨k1, k2, k3, k4, k5, k6⟩, e⟩
    exact ⟨a0, a1, a2, a3, a4, b5, b6, b7, b8, g, d, q, ⟨k1, k2, k3, k4, by dsimp only at k5; omega, by dsimp only at k6; omega⟩, e⟩
  · refine (seg_j2 hb (by dsimp only; omega) hn hd hdl hg (segIn_ok hi hdl (fun h => by cases h))).mono ?_
    rintro _ ⟨a0, a1, a2, a3, a4, b5, b6, b7, b8, g, d, q, ⟨k1, k2, k3, k4, k5, k6⟩, e⟩
    exact ⟨a0, a1, a2, a3, a4, b5, b6, b7, b8, g, d, q, ⟨k1, k2, k3, k4, by dsimp only at k5; omega, by dsimp only at k6; omega⟩, e⟩
theorem seg_l0 {s : List Int} {n : Int} (hb : isBytes s ∧ s.length ≤ 2000) (hn : n ≤ 1000000) {a0 a1 a2 a3 a4 : Int} {b5 b7 : Bool} {d : List Int} (hd : isBytes d) (hdl : d.length ≤ 12) (m : Nat) : ∀ (p : Int) (g : List RG), 0 ≤ p ∧ p + 12 * m ≤ 800000000 → m + g.length ≤ 2 → segIn a0 a1 a2 a3 a4 true g →
    Dr (fun k => spec_l20Segment.l0 k n m s p a0 a1 a2 a3 a4 b5 true b7 false g d) (fun r => ∃ a0 a1 a2 a3 a4 b5 b6 b7 b8 g d q, (isBytes d ∧ d.length ≤ 100 ∧ g.length ≤ 10 ∧ (n ≤ 0 → segOk a0 a1 a2 a3 a4 b5 b6 b7 b8 g d = true) ∧ p ≤ q ∧ q ≤ p + 4 + 12 * m) ∧ r = (a0, a1, a2, a3, a4, b5, b6, b7, b8, g, d, q)) := by
  induction m with
  | zero =>
    intro p g h0 hm hi
    refine Dr.succ ?_
    simp only [spec_l20Segment.l0]
    refine (seg_j1 hb (by omega) hn hd hdl hi).mono ?_
    rintro _ ⟨a0, a1, a2, a3, a4, b5, b6, b7, b8, g, d, q, ⟨k1, k2, k3, k4, k5, k6⟩, e⟩
    exact ⟨a0, a1, a2, a3, a4, b5, b6, b7, b8, g, d, q, ⟨k1, k2, k3, k4, by omega, by omega⟩, e⟩
  | succ m ih =>
    intro p g h0 hm hi
    have e : wrap64 (((m + 1 : Nat) : Int) - 1) = (m : Int) := by rw [wrap_id (by omega) (by omega)]; omega
    refine Dr.succ ?_
    simp only [spec_l20Segment.l0, if_pos (show ((m + 1 : Nat) : Int) > 0 by omega), e, if_pos (show g.length < 8796093022208 by omega)]
    refine Dr.bind (seq_ hb (by omega)) ?_
    rintro _ ⟨v, hv, rfl⟩
    refine Dr.bind (seq_ hb (by dsimp only; omega)) ?_
    rintro _ ⟨v2, hv2, rfl⟩
    obtain ⟨i0, i1, i2, i3, i4, i5, i6, i7⟩ := hi
    refine (ih (p + 6 + 6) (g ++ [⟨v, v2⟩]) (by omega) (by simp; omega) ⟨i0, i1, i2, i3, i4, by simp; omega, ?_, .inl rfl⟩).mono ?_
    · rw [List.all_append, i6, List.all_cons, List.all_nil]
      unfold rgOk
      rw [inb_iff.2 hv, inb_iff.2 hv2]; rfl
    · rintro _ ⟨a0, a1, a2, a3, a4, b5, b6, b7, b8, g, d, q, ⟨k1, k2, k3, k4, k5, k6⟩, e⟩
      exact ⟨a0, a1, a2, a3, a4, b5, b6, b7, b8, g, d, q, ⟨k1, k2, k3, k4, by omega, by omega⟩, e⟩
theorem segment_ {s : List Int} {p n : Int} (hb : isBytes s ∧ s.length ≤ 2000) (h0 : 0 ≤ p ∧ p ≤ 700000000) (hn : n ≤ 1000000) : Dr (fun k => spec_l20Segment.f k s p n) (segRes n p) := by
  unfold spec_l20Segment.f
  refine Dr.bind (pick_ hb (by omega) (by omega)) ?_
  rintro _ ⟨v1, h1, rfl⟩
  refine Dr.bind (pick_ hb (by dsimp only; omega) (by omega)) ?_
  rintro _ ⟨v2, h2, rfl⟩
  refine Dr.bind (seq_ hb (by dsimp only; omega)) ?_
  rintro _ ⟨v3, h3, rfl⟩
  refine Dr.bind (pick_ hb (by dsimp only; omega) (by omega)) ?_
  rintro _ ⟨v4, h4, rfl⟩
  refine Dr.bind (bytes__ hb (by dsimp only; omega) (by dsimp only; omega)) ?_
  rintro _ ⟨d, q, ⟨hd, hdl, q0, q1⟩, rfl⟩
  dsimp only at hdl q0 q1
  refine Dr.bind (pick_ hb (by dsimp only; omega) (by omega)) ?_
  rintro _ ⟨v5, h5, rfl⟩
  refine Dr.bind (pick_ hb (by dsimp only; omega) (by omega)) ?_
  rintro _ ⟨v6, h6, rfl⟩
  refine Dr.bind (pick_ hb (by dsimp only; omega) (by omega)) ?_
  rintro _ ⟨v7, h7, rfl⟩
  dsimp only
  rw [wrap_id (x := 1 + v1) (by omega) (by omega), wrap_id (x := 1 + v2) (by omega) (by omega)]
  refine Dr.ite (fun _ => ?_) (fun _ => ?_)
  · refine Dr.bind (seq_ hb (by omega)) ?_
    rintro _ ⟨v8, h8, rfl⟩
    refine Dr.bind (pick_ hb (by dsimp only; omega) (by omega)) ?_
    rintro _ ⟨v9, h9, rfl⟩
    refine Dr.bind (pick_ hb (by dsimp only; omega) (by omega)) ?_
    rintro _ ⟨v10, h10, rfl⟩
    dsimp only
    obtain ⟨m, rfl⟩ := Int.eq_ofNat_of_zero_le h10.1
    refine (seg_l0 hb hn hd (by omega) m _ [] (by omega) (by simp; omega) ⟨by omega, by omega, by omega, by omega, by omega, by simp, rfl, .inl rfl⟩).mono ?_
    rintro _ ⟨a0, a1, a2, a3, a4, b5, b6, b7, b8, g, d, q, ⟨k1, k2, k3, k4, k5, k6⟩, e⟩
    exact ⟨a0, a1, a2, a3, a4, b5, b6, b7, b8, g, d, q, ⟨k1, k2, k3, k4, by omega, by omega⟩, e⟩
  · refine (seg_j1 hb (by omega) hn hd (by omega) ⟨by omega, by omega, by omega, by omega, by omega, by simp, rfl, .inr ⟨rfl, rfl, rfl⟩⟩).mono ?_
    rintro _ ⟨a0, a1, a2, a3, a4, b5, b6, b7, b8, g, d, q, ⟨k1, k2, k3, k4, k5, k6⟩, e⟩
    exact ⟨a0, a1, a2, a3, a4, b5, b6, b7, b8, g, d, q, ⟨k1, k2, k3, k4, by omega, by omega⟩, e⟩

/-! slices.Equal of bytes -/
theorem impl_equal_l (a b : List Int) (hab : a.length = b.length) (hl : a.length ≤ 1073741824) (d : Nat) : ∀ i : Nat, i + d = a.length → Ev (fun k => slices_Equal_byte_byte.l0 k a b (a.length : Int) (i : Int)) (decide (a.drop i = b.drop i)) := by
  induction d with
  | zero =>
    intro i hi
    refine Ev.succ ?_
    simp only [slices_Equal_byte_byte.l0, if_neg (show ¬ (i : Int) < (a.length : Int) by omega)]
    rw [List.drop_of_length_le (by omega), List.drop_of_length_le (by omega)]
    exact Ev.now _
  | succ d ih =>
    intro i hi
    have h1 : i < a.length := by omega
    have h2 : i < b.length := by omega
    refine Ev.succ ?_
    simp only [slices_Equal_byte_byte.l0, if_pos (show (i : Int) < (a.length : Int) by omega), if_pos (show (0 : Int) ≤ (i : Int) by omega), if_pos (show (i : Int) < (b.length : Int) by omega), rd_get a i h1, rd_get b i h2]
    rw [List.drop_eq_getElem_cons h1, List.drop_eq_getElem_cons h2]
    by_cases e : a[i] = b[i]
    · simp only [if_pos e]
      rw [wrap_id (by omega) (by omega)]
      have h := ih (i + 1) (by omega)
      have e2 : decide (a[i] :: a.drop (i + 1) = b[i] :: b.drop (i + 1)) = decide (a.drop (i + 1) = b.drop (i + 1)) := by rw [decide_eq_decide, List.cons.injEq]; exact ⟨fun q => q.2, fun q => ⟨e, q⟩⟩
      rw [e2]; exact h
    · simp only [if_neg e]
      have e2 : decide (a[i] :: a.drop (i + 1) = b[i] :: b.drop (i + 1)) = false := decide_eq_false (fun q => e (List.cons.inj q).1)
      rw [e2]; exact Ev.now _
theorem impl_equal (a b : List Int) (hl : a.length ≤ 1073741824) : Ev (fun k => slices_Equal_byte_byte.f k a b) (decide (a = b)) := by
  unfold slices_Equal_byte_byte.f
  by_cases h : a.length = b.length
  · simp only [if_pos (show (a.length : Int) = (b.length : Int) by omega)]
    have := impl_equal_l a b h hl a.length 0 (by omega)
    rw [List.drop_zero, List.drop_zero] at this
    exact this
  · simp only [if_neg (show ¬ (a.length : Int) = (b.length : Int) by omega)]
    rw [decide_eq_false (fun e => h (by rw [e]))]
    exact Ev.now _

/-! a segment out of bytes -/
theorem impl_num2 (b : List Int) (hb : isBytes b) (hl : b.length ≤ 1073741824) (i : Nat) (h : i + 2 ≤ b.length) : Ev (fun k => impl_NumberAt.f k b (i : Int) 2) (rd b (i : Int) * 256 + rd b ((i + 1 : Nat) : Int)) := by
  have hu := isBytes_get hb i (by omega)
  have hv := isBytes_get hb (i + 1) (by omega)
  have w1 : wrap64 ((b.length : Int) - 2) = (b.length : Int) - 2 := wrap_id (by omega) (by omega)
  have w2 : wrap64 ((i : Int) + 2) = ((i + 2 : Nat) : Int) := by rw [wrap_id (by omega) (by omega)]; omega
  have hc : (b.take (i + 2)).drop i = [b[i], b[i + 1]] := by
    rw [List.take_succ_eq_append_getElem (by omega), List.take_succ_eq_append_getElem (by omega), List.append_assoc, List.drop_append_of_le_length (by rw [List.length_take]; omega), List.drop_of_length_le (by rw [List.length_take]; omega)]
    rfl
  unfold impl_NumberAt.f
  rw [rd_get b i (by omega), rd_get b (i + 1) (by omega)]
  simp only [impl_in_, show inb 2 1 4 = true from by decide, Option.bind_some, if_true, if_neg (show ¬ (i : Int) < 0 by omega), w1, decide_eq_false (show ¬ (i : Int) > (b.length : Int) - 2 by omega)]
  refine Ev.succ ?_
  simp only [impl_NumberAt.j0, Bool.false_eq_true, if_false, if_pos (show (0 : Int) ≤ (i : Int) by omega), w2, if_pos (show (i : Int) ≤ ((i + 2 : Nat) : Int) by omega), if_pos (show ((i + 2 : Nat) : Int) ≤ (b.length : Int) by omega), Int.toNat_natCast, hc]
  generalize b[i] = u at *
  generalize b[i + 1] = v at *
  refine Ev.succ ?_
  have r0 : rd [u, v] 0 = u := rfl
  have r1 : rd [u, v] 1 = v := rfl
  have e0 : wrap64 ((0 : Int) * 256) = 0 * 256 := by unfold wrap64; omega
  have e1 : wrap64 ((0 : Int) + 1) = 1 := by unfold wrap64; omega
  have e2 : wrap64 ((1 : Int) + 1) = 2 := by unfold wrap64; omega
  simp only [impl_NumberAt.l0, List.length_cons, List.length_nil, r0, e0, e1, wrap_id (x := u) (by omega) (by omega), or_256 0 u (by omega) (by omega) hu.1 hu.2, if_pos (show (0 : Int) < ((0 + 1 + 1 : Nat) : Int) by omega), if_pos (show (0 : Int) ≤ 0 by omega)]
  refine Ev.succ ?_
  simp only [impl_NumberAt.l0, List.length_cons, List.length_nil, r1, e2, wrap_id (x := v) (by omega) (by omega), wrap_id (x := (0 * 256 + u) * 256) (by omega) (by omega), or_256 (0 * 256 + u) v (by omega) (by omega) hv.1 hv.2, if_pos (show (1 : Int) < ((0 + 1 + 1 : Nat) : Int) by omega), if_pos (show (0 : Int) ≤ 1 by omega)]
  refine Ev.succ ?_
  simp only [impl_NumberAt.l0, if_neg (show ¬ (2 : Int) < ((0 + 1 + 1 : Nat) : Int) by omega)]
  rw [show (0 * 256 + u) * 256 + v = u * 256 + v by omega]
  exact Ev.now _
def rgOf : Nat → List Int → List RG
  | 0, _ => []
  | n + 1, a :: b :: c :: d :: l => ⟨a * 256 + b, c * 256 + d⟩ :: rgOf n l
  | _ + 1, _ => []
def flB (b : List Int) (m : Int) : Bool := (Go.bits .and .u8 (rd b 7) m) != 0
def nR (b : List Int) : Nat := (rd b 8).toNat
def dOf (b : List Int) : List Int := (b.take (b.length - 2)).drop (10 + 4 * nR b)
def okOf (b : List Int) : Bool := segOk (rd b 0) (rd b 1) (rd b 2 * 256 + rd b 3) (rd b 4 * 256 + rd b 5) (rd b 6) (flB b 1) (flB b 2) (flB b 4) (flB b 8) (rgOf (nR b) (b.drop 9)) (dOf b)
def bodyOf (b : List Int) : List Int := segBody (rd b 0) (rd b 1) (rd b 2 * 256 + rd b 3) (rd b 4 * 256 + rd b 5) (rd b 6) (flB b 1) (flB b 2) (flB b 4) (flB b 8) (rgOf (nR b) (b.drop 9)) (dOf b)
abbrev SegT := Int × Int × Int × Int × Int × Bool × Bool × Bool × Bool × List RG × List Int × Bool
def segOf (b : List Int) : SegT := (rd b 0, rd b 1, rd b 2 * 256 + rd b 3, rd b 4 * 256 + rd b 5, rd b 6, flB b 1, flB b 2, flB b 4, flB b 8, rgOf (nR b) (b.drop 9), dOf b, true)
def noSeg : SegT := (0, 0, 0, 0, 0, false, false, false, false, [], [], false)
def segFrom (b : List Int) (x y : Int) : SegT := if 12 ≤ b.length ∧ 12 + 4 * nR b ≤ b.length ∧ segB (okOf b) (bodyOf b) x y = b then segOf b else noSeg
theorem rgOf_length_le (n : Nat) : ∀ l : List Int, (rgOf n l).length ≤ n := by
  induction n with
  | zero => intro l; exact Nat.le_refl _
  | succ n ih =>
    intro l
    match l with
    | a :: b :: c :: d :: l => simp only [rgOf, List.length_cons]; have := ih l; omega
    | [] => simp [rgOf]
    | [_] => simp [rgOf]
    | [_, _] => simp [rgOf]
    | [_, _, _] => simp [rgOf]
theorem drop4 (b : List Int) (j : Nat) (h : j + 4 ≤ b.length) : b.drop j = rd b (j : Int) :: rd b ((j + 1 : Nat) : Int) :: rd b ((j + 2 : Nat) : Int) :: rd b ((j + 3 : Nat) : Int) :: b.drop (j + 4) := by
  rw [rd_get b j (by omega), rd_get b (j + 1) (by omega), rd_get b (j + 2) (by omega), rd_get b (j + 3) (by omega), List.drop_eq_getElem_cons (by omega), List.drop_eq_getElem_cons (by omega), List.drop_eq_getElem_cons (by omega), List.drop_eq_getElem_cons (by omega)]
theorem clone_rg (g : List RG) (h : g.length ≤ 1048576) : impl_Range_92.f g = some g := by
  unfold impl_Range_92.f; rw [if_pos (by omega)]
theorem clone_by (g : List Int) (h : g.length ≤ 1048576) : impl_clone_byte.f g = some g := by
  unfold impl_clone_byte.f; rw [if_pos (by omega)]
theorem segFrom_l (b : List Int) (hb : isBytes b) (hl : b.length ≤ 1048576) (x y : Int) (n : Nat) (hn : 12 + 4 * n ≤ b.length) (a0 a1 a2 a3 a4 : Int) (b5 b6 b7 b8 : Bool) (m : Nat) : ∀ (i : Nat) (g : List RG), i + m = n → g.length ≤ i →
    Ev (fun k => impl_SegmentFrom.l0 k b x y ((9 + 4 * i : Nat) : Int) (n : Int) (i : Int) a0 a1 a2 a3 a4 b5 b6 b7 b8 g)
      (if segB (segOk a0 a1 a2 a3 a4 b5 b6 b7 b8 (g ++ rgOf m (b.drop (9 + 4 * i))) ((b.take (b.length - 2)).drop (10 + 4 * n))) (segBody a0 a1 a2 a3 a4 b5 b6 b7 b8 (g ++ rgOf m (b.drop (9 + 4 * i))) ((b.take (b.length - 2)).drop (10 + 4 * n))) x y = b
        then ((a0, a1, a2, a3, a4, b5, b6, b7, b8, g ++ rgOf m (b.drop (9 + 4 * i)), (b.take (b.length - 2)).drop (10 + 4 * n), true) : SegT) else noSeg) := by
  induction m with
  | zero =>
    intro i g hi hg
    obtain rfl : i = n := by omega
    have w1 : wrap64 (((9 + 4 * i : Nat) : Int) + 1) = ((10 + 4 * i : Nat) : Int) := by rw [wrap_id (by omega) (by omega)]; omega
    have w2 : wrap64 ((b.length : Int) - 2) = ((b.length - 2 : Nat) : Int) := by rw [wrap_id (by omega) (by omega)]; omega
    refine Ev.succ ?_
    simp only [impl_SegmentFrom.l0, if_neg (show ¬ (i : Int) < (i : Int) by omega), w1, w2, if_pos (show (0 : Int) ≤ ((10 + 4 * i : Nat) : Int) by omega), if_pos (show ((10 + 4 * i : Nat) : Int) ≤ ((b.length - 2 : Nat) : Int) by omega), if_pos (show ((b.length - 2 : Nat) : Int) ≤ (b.length : Int) by omega), Int.toNat_natCast, rgOf, List.append_nil]
    have hd : isBytes ((b.take (b.length - 2)).drop (10 + 4 * i)) := fun z hz => hb z (List.mem_of_mem_take (List.mem_of_mem_drop hz))
    have hdl : ((b.take (b.length - 2)).drop (10 + 4 * i)).length ≤ 1048576 := by rw [List.length_drop, List.length_take]; omega
    generalize (b.take (b.length - 2)).drop (10 + 4 * i) = d at *
    refine Ev.bind (impl_segBytes a0 a1 a2 a3 a4 b5 b6 b7 b8 g d x y (by omega) hdl hd) ?_
    have hlen : (segB (segOk a0 a1 a2 a3 a4 b5 b6 b7 b8 g d) (segBody a0 a1 a2 a3 a4 b5 b6 b7 b8 g d) x y).length ≤ 1073741824 := by
      unfold segB segAll
      split
      · rw [List.length_append, segBody_length, bytes2_length]; omega
      · simp
    generalize segB (segOk a0 a1 a2 a3 a4 b5 b6 b7 b8 g d) (segBody a0 a1 a2 a3 a4 b5 b6 b7 b8 g d) x y = r at *
    refine Ev.bind (impl_equal r b hlen) ?_
    by_cases h : r = b
    · simp only [decide_eq_true h, if_true, if_pos h]
      unfold impl_Segment_copy.f
      rw [clone_rg g (by omega), clone_by d hdl]
      exact Ev.now _
    · simp only [decide_eq_false h, Bool.false_eq_true, if_false, if_neg h]
      exact Ev.now _
  | succ m ih =>
    intro i g hi hg
    have h4 := drop4 b (9 + 4 * i) (by omega)
    have u0 := impl_num2 b hb (by omega) (9 + 4 * i) (by omega)
    have u1 := impl_num2 b hb (by omega) (9 + 4 * i + 2) (by omega)
    have w1 : wrap64 (((9 + 4 * i : Nat) : Int) + 2) = ((9 + 4 * i + 2 : Nat) : Int) := by rw [wrap_id (by omega) (by omega)]; omega
    have w2 : wrap64 (((9 + 4 * i : Nat) : Int) + 4) = ((9 + 4 * (i + 1) : Nat) : Int) := by rw [wrap_id (by omega) (by omega)]; omega
    have w3 : wrap64 ((i : Int) + 1) = ((i + 1 : Nat) : Int) := by rw [wrap_id (by omega) (by omega)]; omega
    refine Ev.succ ?_
    simp only [impl_SegmentFrom.l0, if_pos (show (i : Int) < (n : Int) by omega), w1, w2, w3, if_pos (show g.length < 8796093022208 by omega)]
    refine Ev.bind u0 (Ev.bind u1 ?_)
    have h := ih (i + 1) (g ++ [⟨rd b ((9 + 4 * i : Nat) : Int) * 256 + rd b ((9 + 4 * i + 1 : Nat) : Int), rd b ((9 + 4 * i + 2 : Nat) : Int) * 256 + rd b ((9 + 4 * i + 2 + 1 : Nat) : Int)⟩]) (by omega) (by simp; omega)
    rw [h4, rgOf]
    rw [show 9 + 4 * (i + 1) = 9 + 4 * i + 4 by omega, List.append_assoc] at h
    exact h
theorem impl_segFrom (b : List Int) (hb : isBytes b) (hl : b.length ≤ 1048576) (x y : Int) : Ev (fun k => impl_SegmentFrom.f k b x y) (segFrom b x y) := by
  unfold impl_SegmentFrom.f segFrom
  have no : Ev (fun k => impl_SegmentFrom.j0 k b x y true) noSeg := by
    refine Ev.succ ?_
    simp only [impl_SegmentFrom.j0, if_true]; exact Ev.now _
  by_cases h : b.length < 12
  · simp only [if_pos (show (b.length : Int) < 12 by omega), if_neg (show ¬ (12 ≤ b.length ∧ 12 + 4 * nR b ≤ b.length ∧ segB (okOf b) (bodyOf b) x y = b) from fun q => by omega)]
    exact no
  have h8 := isBytes_get hb 8 (by omega)
  have r8 : rd b 8 = b[8] := rd_get b 8 (by omega)
  have hn : ((nR b : Nat) : Int) = rd b 8 := by unfold nR; rw [r8]; omega
  have w1 : wrap64 (rd b 8) = rd b 8 := wrap_id (by omega) (by omega)
  have w2 : wrap64 (4 * rd b 8) = 4 * rd b 8 := wrap_id (by omega) (by omega)
  have w3 : wrap64 (12 + 4 * rd b 8) = 12 + 4 * rd b 8 := wrap_id (by omega) (by omega)
  simp only [if_neg (show ¬ (b.length : Int) < 12 by omega), if_pos (show (8 : Int) < (b.length : Int) by omega), w1, w2, w3]
  by_cases h2 : b.length < 12 + 4 * nR b
  · simp only [decide_eq_true (show (b.length : Int) < 12 + 4 * rd b 8 by omega), if_neg (show ¬ (12 ≤ b.length ∧ 12 + 4 * nR b ≤ b.length ∧ segB (okOf b) (bodyOf b) x y = b) from fun q => by omega)]
    exact no
  simp only [decide_eq_false (show ¬ (b.length : Int) < 12 + 4 * rd b 8 by omega)]
  have e : ∀ (p q : SegT), (if 12 ≤ b.length ∧ 12 + 4 * nR b ≤ b.length ∧ segB (okOf b) (bodyOf b) x y = b then p else q) = (if segB (okOf b) (bodyOf b) x y = b then p else q) := by
    intro p q
    by_cases h3 : segB (okOf b) (bodyOf b) x y = b
    · rw [if_pos h3, if_pos ⟨by omega, by omega, h3⟩]
    · rw [if_neg h3, if_neg (fun z => h3 z.2.2)]
  rw [e]
  have g0 := isBytes_get hb 0 (by omega)
  have g1 := isBytes_get hb 1 (by omega)
  have g6 := isBytes_get hb 6 (by omega)
  have r0 : rd b 0 = b[0] := rd_get b 0 (by omega)
  have r1 : rd b 1 = b[1] := rd_get b 1 (by omega)
  have r6 : rd b 6 = b[6] := rd_get b 6 (by omega)
  refine Ev.succ ?_
  simp only [impl_SegmentFrom.j0, Bool.false_eq_true, if_false, if_pos (show (7 : Int) < (b.length : Int) by omega), if_pos (show (0 : Int) < (b.length : Int) by omega), if_pos (show (1 : Int) < (b.length : Int) by omega), if_pos (show (6 : Int) < (b.length : Int) by omega), if_pos (show (8 : Int) < (b.length : Int) by omega), w1,
    wrap_id (x := rd b 0) (by omega) (by omega), wrap_id (x := rd b 1) (by omega) (by omega), wrap_id (x := rd b 6) (by omega) (by omega)]
  refine Ev.bind (impl_num2 b hb (by omega) 2 (by omega)) (Ev.bind (impl_num2 b hb (by omega) 4 (by omega)) ?_)
  have hf := segFrom_l b hb hl x y (nR b) (by omega) (rd b 0) (rd b 1) (rd b 2 * 256 + rd b 3) (rd b 4 * 256 + rd b 5) (rd b 6) (flB b 1) (flB b 2) (flB b 4) (flB b 8) (nR b) 0 [] (by omega) (by simp)
  rw [hn] at hf
  exact hf
/-! .. and back -/
theorem byte2 (v : Int) (h0 : 0 ≤ v) (h1 : v ≤ 65535) : v / 256 % 256 * 256 + v % 256 = v := by omega
theorem rgOf_bytes (g : List RG) (h : g.all rgOk = true) (t : List Int) : rgOf g.length (rgBytes g ++ t) = g := by
  induction g with
  | nil => rfl
  | cons z g ih =>
    rw [List.all_cons, Bool.and_eq_true] at h
    have hz := h.1
    unfold rgOk at hz
    rw [Bool.and_eq_true] at hz
    have e0 := byte2 z.f0 (inb_iff.1 hz.1).1 (inb_iff.1 hz.1).2
    have e1 := byte2 z.f1 (inb_iff.1 hz.2).1 (inb_iff.1 hz.2).2
    show (⟨z.f0 / 256 % 256 * 256 + z.f0 % 256, z.f1 / 256 % 256 * 256 + z.f1 % 256⟩ : RG) :: rgOf g.length (rgBytes g ++ t) = z :: g
    rw [e0, e1, ih h.2]
theorem marks_back (b5 b6 b7 b8 : Bool) : ((Go.bits .and .u8 (segMarks b5 b6 b7 b8 % 256) 1) != 0) = b5 ∧ ((Go.bits .and .u8 (segMarks b5 b6 b7 b8 % 256) 2) != 0) = b6 ∧ ((Go.bits .and .u8 (segMarks b5 b6 b7 b8 % 256) 4) != 0) = b7 ∧ ((Go.bits .and .u8 (segMarks b5 b6 b7 b8 % 256) 8) != 0) = b8 := by
  cases b5 <;> cases b6 <;> cases b7 <;> cases b8 <;> exact ⟨by decide, by decide, by decide, by decide⟩
/-- what a segment's bytes are read as, whatever stands behind them in two bytes -/
theorem seg_back (a0 a1 a2 a3 a4 : Int) (b5 b6 b7 b8 : Bool) (g : List RG) (d : List Int) (u v : Int) (hok : segOk a0 a1 a2 a3 a4 b5 b6 b7 b8 g d = true) (b : List Int) (e : b = segBody a0 a1 a2 a3 a4 b5 b6 b7 b8 g d ++ [u, v]) :
    nR b = g.length ∧ okOf b = true ∧ bodyOf b = segBody a0 a1 a2 a3 a4 b5 b6 b7 b8 g d ∧ segOf b = (a0, a1, a2, a3, a4, b5, b6, b7, b8, g, d, true) := by
  have hok' := hok
  unfold segOk at hok'
  simp only [Bool.and_eq_true, Bool.not_eq_true', decide_eq_false_iff_not] at hok'
  obtain ⟨h0, h1, h2, h3, h4, hg, hd, hr, _⟩ := hok'
  have k0 := inb_iff.1 h0
  have k1 := inb_iff.1 h1
  have k2 := inb_iff.1 h2
  have k3 := inb_iff.1 h3
  have k4 := inb_iff.1 h4
  have e' : b = a0 % 256 :: a1 % 256 :: a2 / 256 % 256 :: a2 % 256 :: a3 / 256 % 256 :: a3 % 256 :: a4 % 256 :: segMarks b5 b6 b7 b8 % 256 :: (g.length : Int) % 256 :: ((rgBytes g ++ ([(d.length : Int) % 256] ++ d)) ++ [u, v]) := by rw [e]; rfl
  have hlen : b.length = 12 + 4 * g.length + d.length := by rw [e, List.length_append, segBody_length]; simp only [List.length_cons, List.length_nil]; omega
  obtain ⟨m1, m2, m3, m4⟩ := marks_back b5 b6 b7 b8
  have r0 : rd b 0 = a0 := by rw [e']; show a0 % 256 = a0; omega
  have r1 : rd b 1 = a1 := by rw [e']; show a1 % 256 = a1; omega
  have r2 : rd b 2 * 256 + rd b 3 = a2 := by rw [e']; exact byte2 a2 k2.1 k2.2
  have r3 : rd b 4 * 256 + rd b 5 = a3 := by rw [e']; exact byte2 a3 k3.1 k3.2
  have r4 : rd b 6 = a4 := by rw [e']; show a4 % 256 = a4; omega
  have r5 : flB b 1 = b5 := by unfold flB; rw [e']; exact m1
  have r6 : flB b 2 = b6 := by unfold flB; rw [e']; exact m2
  have r7 : flB b 4 = b7 := by unfold flB; rw [e']; exact m3
  have r8 : flB b 8 = b8 := by unfold flB; rw [e']; exact m4
  have hn : nR b = g.length := by unfold nR; rw [e']; show ((g.length : Int) % 256).toNat = g.length; omega
  have h9 : rgOf (nR b) (b.drop 9) = g := by
    rw [hn, e']
    show rgOf g.length ((rgBytes g ++ ([(d.length : Int) % 256] ++ d)) ++ [u, v]) = g
    rw [List.append_assoc]
    exact rgOf_bytes g hr _
  have h10 : dOf b = d := by
    unfold dOf
    have hP : (segHead a0 a1 a2 a3 a4 b5 b6 b7 b8 g ++ rgBytes g ++ [(d.length : Int) % 256]).length = 10 + 4 * g.length := by simp only [List.length_append, segHead_length, rgBytes_length, List.length_cons, List.length_nil]; omega
    have e2 : b = (segHead a0 a1 a2 a3 a4 b5 b6 b7 b8 g ++ rgBytes g ++ [(d.length : Int) % 256]) ++ d ++ [u, v] := by rw [e]; unfold segBody; simp only [List.append_assoc]
    rw [hn, hlen]
    generalize segHead a0 a1 a2 a3 a4 b5 b6 b7 b8 g ++ rgBytes g ++ [(d.length : Int) % 256] = Q at *
    rw [e2, List.take_left' (by rw [List.length_append, hP]; omega), ← hP, List.drop_left]
  refine ⟨hn, ?_, ?_, ?_⟩
  · unfold okOf; rw [r0, r1, r2, r3, r4, r5, r6, r7, r8, h9, h10]; exact hok
  · unfold bodyOf; rw [r0, r1, r2, r3, r4, r5, r6, r7, r8, h9, h10]
  · unfold segOf; rw [r0, r1, r2, r3, r4, r5, r6, r7, r8, h9, h10]
/-! what a turned byte does to the sum -/
theorem pairAt_bound (l : List Int) (hb : isBytes l) (j : Nat) (h : 2 * j < l.length) : 0 ≤ pairAt l j ∧ pairAt l j ≤ 65535 := by
  by_cases h3 : 2 * j + 1 < l.length
  · have a := isBytes_get hb (2 * j) (by omega)
    have b := isBytes_get hb (2 * j + 1) h3
    rw [pairAt_two l hb j h3]; omega
  · have a := isBytes_get hb (2 * j) (by omega)
    rw [pairAt_one l hb j (by omega)]; omega
theorem sumTo_diff (l l' : List Int) (hb : isBytes l) (hb' : isBytes l') (hlen : l.length = l'.length) (j0 : Nat) (h : ∀ i, i ≠ j0 → 2 * i < l.length → pairAt l i = pairAt l' i) : ∀ j : Nat, 2 * j ≤ l.length + 1 → (sumTo l j - sumTo l' j - (if j0 < j then pairAt l j0 - pairAt l' j0 else 0)) % 65535 = 0 := by
  intro j
  induction j with
  | zero => intro _; rfl
  | succ j ih =>
    intro hj
    have i1 := ih (by omega)
    have s1 := sumTo_bound l hb j (by omega)
    have s2 := sumTo_bound l' hb' j (by omega)
    have p1 := pairAt_bound l hb j (by omega)
    have p2 := pairAt_bound l' hb' j (by omega)
    rw [sumTo_succ l hb j (by omega), sumTo_succ l' hb' j (by omega), ad1_eq _ _ s1.1 s1.2 p1.1 p1.2, ad1_eq _ _ s2.1 s2.2 p2.1 p2.2]
    by_cases e : j = j0
    · subst e
      simp only [Nat.lt_irrefl, if_false] at i1
      simp only [if_pos (show j < j + 1 by omega)]
      generalize sumTo l j = S1 at *
      generalize sumTo l' j = S2 at *
      generalize pairAt l j = P1 at *
      generalize pairAt l' j = P2 at *
      split <;> split <;> omega
    · have hp := h j e (by omega)
      rw [hp]
      have hif : (if j0 < j + 1 then pairAt l j0 - pairAt l' j0 else 0) = (if j0 < j then pairAt l j0 - pairAt l' j0 else 0) := by
        by_cases hq : j0 < j
        · rw [if_pos hq, if_pos (by omega)]
        · rw [if_neg hq, if_neg (by omega)]
      rw [hif]
      generalize (if j0 < j then pairAt l j0 - pairAt l' j0 else 0) = D at *
      generalize sumTo l j = S1 at *
      generalize sumTo l' j = S2 at *
      rw [hp] at p1
      generalize pairAt l' j = P2 at *
      split <;> split <;> omega
theorem sumOf_diff (l l' : List Int) (hb : isBytes l) (hb' : isBytes l') (hlen : l.length = l'.length) (j0 : Nat) (h0 : 2 * j0 < l.length) (h : ∀ i, i ≠ j0 → 2 * i < l.length → pairAt l i = pairAt l' i) (hs : sumOf l = sumOf l') : (pairAt l j0 - pairAt l' j0) % 65535 = 0 := by
  have := sumTo_diff l l' hb hb' hlen j0 h ((l.length + 1) / 2) (by omega)
  unfold sumOf at hs
  rw [← hlen] at hs
  rw [if_pos (by omega)] at this
  generalize sumTo l ((l.length + 1) / 2) = S1 at *
  generalize sumTo l' ((l.length + 1) / 2) = S2 at *
  omega
theorem bytes2_inj {u v : Int} (hu : 0 ≤ u ∧ u ≤ 65535) (hv : 0 ≤ v ∧ v ≤ 65535) (h : bytes2 u = bytes2 v) : u = v := by
  unfold bytes2 at h
  simp only [List.cons.injEq, and_true] at h
  omega
theorem rd_cons2 (a b : Int) (t : List Int) (i : Nat) : rd (a :: b :: t) ((i + 2 : Nat) : Int) = rd t (i : Int) := by
  unfold rd
  rw [Int.toNat_natCast, Int.toNat_natCast]; rfl
theorem pairAt_cons2 (a b a' b' : Int) (t : List Int) (i : Nat) : pairAt (a :: b :: t) (i + 1) = pairAt (a' :: b' :: t) (i + 1) := by
  unfold pairAt
  rw [show 2 * (i + 1) + 1 = (2 * i + 1) + 2 by omega, show 2 * (i + 1) = 2 * i + 2 by omega, rd_cons2, rd_cons2, rd_cons2, rd_cons2]
  rfl

/-! a segment out of bytes, by the reference -/
theorem spec_num2 (b : List Int) (hb : isBytes b) (hl : b.length ≤ 1073741824) (i : Nat) (h : i + 2 ≤ b.length) : Ev (fun k => spec_NumberAt.f k b (i : Int) 2) (rd b (i : Int) * 256 + rd b ((i + 1 : Nat) : Int)) := by
  have hu := isBytes_get hb i (by omega)
  have hv := isBytes_get hb (i + 1) (by omega)
  have w1 : wrap64 ((b.length : Int) - 2) = (b.length : Int) - 2 := wrap_id (by omega) (by omega)
  have w2 : wrap64 ((i : Int) + 0) = (i : Int) := by rw [wrap_id (by omega) (by omega)]; omega
  have w3 : wrap64 ((i : Int) + 1) = ((i + 1 : Nat) : Int) := by rw [wrap_id (by omega) (by omega)]; omega
  unfold spec_NumberAt.f
  rw [rd_get b i (by omega), rd_get b (i + 1) (by omega)]
  simp only [spec_in_, show inb 2 1 4 = true from by decide, Option.bind_some, if_true, w1, inb_iff.2 (show (0 : Int) ≤ (i : Int) ∧ (i : Int) ≤ (b.length : Int) - 2 by omega), Bool.not_true]
  have e1 : wrap64 ((0 : Int) + 1) = 1 := by unfold wrap64; omega
  have e2 : wrap64 ((1 : Int) + 1) = 2 := by unfold wrap64; omega
  refine Ev.succ ?_
  simp only [spec_NumberAt.j0, Bool.false_eq_true, if_false]
  refine Ev.succ ?_
  simp only [spec_NumberAt.l0, if_pos (show (0 : Int) < 2 by omega), w2, if_pos (show (0 : Int) ≤ (i : Int) by omega), if_pos (show (i : Int) < (b.length : Int) by omega), rd_get b i (by omega), e1]
  refine Ev.succ ?_
  simp only [spec_NumberAt.l0, if_pos (show (1 : Int) < 2 by omega), w3, if_pos (show (0 : Int) ≤ ((i + 1 : Nat) : Int) by omega), if_pos (show ((i + 1 : Nat) : Int) < (b.length : Int) by omega), rd_get b (i + 1) (by omega), e2]
  generalize b[i] = u at *
  generalize b[i + 1] = v at *
  have e3 : wrap64 (wrap64 ((0 : Int) * 256) + wrap64 u) = u := by rw [wrap_id (x := u) (by omega) (by omega), wrap_id (x := (0 : Int) * 256) (by omega) (by omega), wrap_id (by omega) (by omega)]; omega
  rw [e3, wrap_id (x := u * 256) (by omega) (by omega), wrap_id (x := v) (by omega) (by omega), wrap_id (x := u * 256 + v) (by omega) (by omega)]
  refine Ev.succ ?_
  simp only [spec_NumberAt.l0, if_neg (show ¬ (2 : Int) < 2 by omega)]
  exact Ev.now _
def lastNum (b : List Int) : Int := rd b ((b.length - 2 : Nat) : Int) * 256 + rd b ((b.length - 2 + 1 : Nat) : Int)
def specEnd (b : List Int) (x y : Int) (n : Nat) (a0 a1 a2 a3 a4 : Int) (b5 b6 b7 b8 : Bool) (g : List RG) (d : List Int) : SegT :=
  if rd b ((9 + 4 * n : Nat) : Int) = (d.length : Int) ∧ segOk a0 a1 a2 a3 a4 b5 b6 b7 b8 g d = true ∧ lastNum b = sumOf (bytes2 x ++ bytes2 y ++ b.take (b.length - 2)) then (a0, a1, a2, a3, a4, b5, b6, b7, b8, g, d, true) else noSeg
theorem spec_segFrom_l (b : List Int) (hb : isBytes b) (hl : b.length ≤ 1048576) (x y : Int) (hx : inb x 0 65535 = true) (hy : inb y 0 65535 = true) (n : Nat) (hn : 12 + 4 * n ≤ b.length) (hn8 : rd b 8 = (n : Int)) (hn2 : n ≤ 255) (a0 a1 a2 a3 a4 : Int) (b5 b6 b7 b8 : Bool) (m : Nat) : ∀ (i : Nat) (g : List RG), i + m = n → g.length ≤ i →
    Ev (fun k => spec_SegmentFrom.l0 k b x y ((9 + 4 * i : Nat) : Int) (i : Int) a0 a1 a2 a3 a4 b5 b6 b7 b8 g)
      (specEnd b x y n a0 a1 a2 a3 a4 b5 b6 b7 b8 (g ++ rgOf m (b.drop (9 + 4 * i))) ((b.take (b.length - 2)).drop (10 + 4 * n))) := by
  have w8 : wrap64 (n : Int) = (n : Int) := wrap_id (by omega) (by omega)
  induction m with
  | zero =>
    intro i g hi hg
    obtain rfl : i = n := by omega
    have w1 : wrap64 (((9 + 4 * i : Nat) : Int) + 1) = ((10 + 4 * i : Nat) : Int) := by rw [wrap_id (by omega) (by omega)]; omega
    have w2 : wrap64 ((b.length : Int) - 2) = ((b.length - 2 : Nat) : Int) := by rw [wrap_id (by omega) (by omega)]; omega
    have hd : isBytes ((b.take (b.length - 2)).drop (10 + 4 * i)) := fun z hz => hb z (List.mem_of_mem_take (List.mem_of_mem_drop hz))
    have hdl : ((b.take (b.length - 2)).drop (10 + 4 * i)).length ≤ 1048576 := by rw [List.length_drop, List.length_take]; omega
    have h9 := isBytes_get hb (9 + 4 * i) (by omega)
    have r9 := rd_get b (9 + 4 * i) (by omega)
    have nB := spec_num2 b hb (by omega) (b.length - 2) (by omega)
    have hT : isBytes (b.take (b.length - 2)) := fun z hz => hb z (List.mem_of_mem_take hz)
    have sB := spec_l9 x y (b.take (b.length - 2)) hx hy hT (by rw [List.length_take]; omega)
    have j2 : ∀ (v : Bool) (d : List Int), Ev (fun k => spec_SegmentFrom.j2 k v a0 a1 a2 a3 a4 b5 b6 b7 b8 g d) (if v = true then noSeg else (a0, a1, a2, a3, a4, b5, b6, b7, b8, g, d, true)) := by
      intro v d
      refine Ev.succ ?_
      cases v <;> simp only [spec_SegmentFrom.j2, if_true, Bool.false_eq_true, if_false] <;> exact Ev.now _
    refine Ev.succ ?_
    simp only [spec_SegmentFrom.l0, hn8, w8, if_pos (show (8 : Int) < (b.length : Int) by omega), if_neg (show ¬ (i : Int) < (i : Int) by omega), w1, w2, if_pos (show (0 : Int) ≤ ((10 + 4 * i : Nat) : Int) by omega), if_pos (show ((10 + 4 * i : Nat) : Int) ≤ ((b.length - 2 : Nat) : Int) by omega), if_pos (show ((b.length - 2 : Nat) : Int) ≤ (b.length : Int) by omega), Int.toNat_natCast, rgOf, List.append_nil, Option.bind_some, List.nil_append, List.length_nil,
      if_pos (show (0 : Int) ≤ ((9 + 4 * i : Nat) : Int) by omega), if_pos (show ((9 + 4 * i : Nat) : Int) < (b.length : Int) by omega), if_pos (show (0 : Int) ≤ ((b.length - 2 : Nat) : Int) by omega), if_pos (show 0 + ((b.take (b.length - 2)).drop (10 + 4 * i)).length < 140737488355328 by omega), wrap_id (x := rd b ((9 + 4 * i : Nat) : Int)) (by omega) (by omega)]
    generalize (b.take (b.length - 2)).drop (10 + 4 * i) = d at *
    unfold specEnd
    by_cases c1 : rd b ((9 + 4 * i : Nat) : Int) = (d.length : Int)
    · simp only [if_pos c1]
      refine Ev.bind (spec_segOk a0 a1 a2 a3 a4 b5 b6 b7 b8 g d (by omega)) ?_
      cases c2 : segOk a0 a1 a2 a3 a4 b5 b6 b7 b8 g d
      · simp only [Bool.false_eq_true, if_false, false_and, and_false]
        exact j2 true d
      · simp only [if_true]
        refine Ev.bind nB (Ev.bind sB ?_)
        by_cases c3 : lastNum b = sumOf (bytes2 x ++ bytes2 y ++ b.take (b.length - 2))
        · rw [if_pos ⟨c1, trivial, c3⟩]
          unfold lastNum at c3
          rw [c3, bne_self_eq_false]; exact j2 false d
        · rw [if_neg (fun q => c3 q.2.2)]
          unfold lastNum at c3
          rw [bne_iff_ne.2 c3]; exact j2 true d
    · rw [if_neg (fun q => c1 q.1)]
      simp only [if_neg c1]
      exact j2 true d
  | succ m ih =>
    intro i g hi hg
    have h4 := drop4 b (9 + 4 * i) (by omega)
    have u0 := spec_num2 b hb (by omega) (9 + 4 * i) (by omega)
    have u1 := spec_num2 b hb (by omega) (9 + 4 * i + 2) (by omega)
    have w1 : wrap64 (((9 + 4 * i : Nat) : Int) + 2) = ((9 + 4 * i + 2 : Nat) : Int) := by rw [wrap_id (by omega) (by omega)]; omega
    have w2 : wrap64 (((9 + 4 * i : Nat) : Int) + 4) = ((9 + 4 * (i + 1) : Nat) : Int) := by rw [wrap_id (by omega) (by omega)]; omega
    have w3 : wrap64 ((i : Int) + 1) = ((i + 1 : Nat) : Int) := by rw [wrap_id (by omega) (by omega)]; omega
    refine Ev.succ ?_
    simp only [spec_SegmentFrom.l0, hn8, w8, if_pos (show (8 : Int) < (b.length : Int) by omega), if_pos (show (i : Int) < (n : Int) by omega), w1, w2, w3, if_pos (show g.length < 8796093022208 by omega)]
    refine Ev.bind u0 (Ev.bind u1 ?_)
    have h := ih (i + 1) (g ++ [⟨rd b ((9 + 4 * i : Nat) : Int) * 256 + rd b ((9 + 4 * i + 1 : Nat) : Int), rd b ((9 + 4 * i + 2 : Nat) : Int) * 256 + rd b ((9 + 4 * i + 2 + 1 : Nat) : Int)⟩]) (by omega) (by simp; omega)
    rw [h4, rgOf]
    rw [show 9 + 4 * (i + 1) = 9 + 4 * i + 4 by omega, List.append_assoc] at h
    exact h
theorem rgBytes_of (n : Nat) : ∀ t : List Int, isBytes t → 4 * n ≤ t.length → rgBytes (rgOf n t) = t.take (4 * n) ∧ (rgOf n t).length = n := by
  induction n with
  | zero => intro t _ _; exact ⟨rfl, rfl⟩
  | succ n ih =>
    intro t ht hl
    rcases t with _ | ⟨a, _ | ⟨b, _ | ⟨c, _ | ⟨d, t⟩⟩⟩⟩ <;> try (simp only [List.length_cons, List.length_nil] at hl; omega)
    have ha := ht a (by simp)
    have hb := ht b (by simp)
    have hc := ht c (by simp)
    have hd := ht d (by simp)
    obtain ⟨i1, i2⟩ := ih t (fun z hz => ht z (by simp [hz])) (by simp only [List.length_cons] at hl; omega)
    refine ⟨?_, by rw [rgOf, List.length_cons, i2]⟩
    show [(a * 256 + b) / 256 % 256, (a * 256 + b) % 256] ++ [(c * 256 + d) / 256 % 256, (c * 256 + d) % 256] ++ rgBytes (rgOf n t) = _
    rw [i1, show (a * 256 + b) / 256 % 256 = a by omega, show (a * 256 + b) % 256 = b by omega, show (c * 256 + d) / 256 % 256 = c by omega, show (c * 256 + d) % 256 = d by omega]
    rfl
theorem flags_ (m : Int) (h0 : 0 ≤ m) (h1 : m ≤ 15) : segMarks ((Go.bits .and .u8 m 1) != 0) ((Go.bits .and .u8 m 2) != 0) ((Go.bits .and .u8 m 4) != 0) ((Go.bits .and .u8 m 8) != 0) = m ∧ ((Int.tmod m 2) == 1) = ((Go.bits .and .u8 m 1) != 0) ∧ (((Int.tdiv m 2) % 2) == 1) = ((Go.bits .and .u8 m 2) != 0) ∧ (((Int.tdiv m 4) % 2) == 1) = ((Go.bits .and .u8 m 4) != 0) ∧ (((Int.tdiv m 8) % 256) == 1) = ((Go.bits .and .u8 m 8) != 0) := by
  have : m = 0 ∨ m = 1 ∨ m = 2 ∨ m = 3 ∨ m = 4 ∨ m = 5 ∨ m = 6 ∨ m = 7 ∨ m = 8 ∨ m = 9 ∨ m = 10 ∨ m = 11 ∨ m = 12 ∨ m = 13 ∨ m = 14 ∨ m = 15 := by omega
  rcases this with rfl | rfl | rfl | rfl | rfl | rfl | rfl | rfl | rfl | rfl | rfl | rfl | rfl | rfl | rfl | rfl <;> exact ⟨by decide, by decide, by decide, by decide, by decide⟩
theorem segMarks_le (b5 b6 b7 b8 : Bool) : 0 ≤ segMarks b5 b6 b7 b8 ∧ segMarks b5 b6 b7 b8 ≤ 15 := by
  cases b5 <;> cases b6 <;> cases b7 <;> cases b8 <;> exact ⟨by decide, by decide⟩
theorem nine (b : List Int) (h : 9 ≤ b.length) : ∃ c0 c1 c2 c3 c4 c5 c6 c7 c8 t, b = c0 :: c1 :: c2 :: c3 :: c4 :: c5 :: c6 :: c7 :: c8 :: t := by
  rcases b with _ | ⟨c0, _ | ⟨c1, _ | ⟨c2, _ | ⟨c3, _ | ⟨c4, _ | ⟨c5, _ | ⟨c6, _ | ⟨c7, _ | ⟨c8, t⟩⟩⟩⟩⟩⟩⟩⟩⟩ <;> try (simp only [List.length_cons, List.length_nil] at h; omega)
  exact ⟨_, _, _, _, _, _, _, _, _, _, rfl⟩
theorem seg_join (b : List Int) (hb : isBytes b) (hn : 12 + 4 * nR b ≤ b.length) (h7 : rd b 7 ≤ 15) (h9 : rd b ((9 + 4 * nR b : Nat) : Int) = ((dOf b).length : Int)) : bodyOf b = b.take (b.length - 2) := by
  obtain ⟨c0, c1, c2, c3, c4, c5, c6, c7, c8, t, e⟩ := nine b (by omega)
  have hc : ∀ z ∈ c0 :: c1 :: c2 :: c3 :: c4 :: c5 :: c6 :: c7 :: c8 :: t, 0 ≤ z ∧ z ≤ 255 := by rw [← e]; exact hb
  have k0 := hc c0 (by simp)
  have k1 := hc c1 (by simp)
  have k2 := hc c2 (by simp)
  have k3 := hc c3 (by simp)
  have k4 := hc c4 (by simp)
  have k5 := hc c5 (by simp)
  have k6 := hc c6 (by simp)
  have k7 := hc c7 (by simp)
  have k8 := hc c8 (by simp)
  have ht : isBytes t := fun z hz => hc z (by simp [hz])
  have hl : b.length = t.length + 9 := by rw [e]; rfl
  have hl2 : b.length - 2 = (t.length - 2) + 9 := by omega
  have hnR : nR b = c8.toNat := by rw [e]; rfl
  have r7 : rd b 7 = c7 := by rw [e]; rfl
  rw [r7] at h7
  obtain ⟨f0, _⟩ := flags_ c7 k7.1 h7
  have hT : b.take (b.length - 2) = c0 :: c1 :: c2 :: c3 :: c4 :: c5 :: c6 :: c7 :: c8 :: t.take (t.length - 2) := by rw [hl2, e]; rfl
  obtain ⟨n, hnn⟩ : ∃ n, nR b = n := ⟨_, rfl⟩
  have hd : dOf b = (t.take (t.length - 2)).drop (4 * n + 1) := by
    unfold dOf
    rw [hT, hnn, show 10 + 4 * n = (4 * n + 1) + 9 by omega]; rfl
  obtain ⟨g1, g2⟩ := rgBytes_of n t ht (by omega)
  have h9' : t[4 * n]'(by omega) = ((dOf b).length : Int) := by
    rw [← h9, hnn, rd_get b (9 + 4 * n) (by omega)]
    simp only [e, show 9 + 4 * n = 4 * n + 9 by omega]
    rfl
  have hdl : (dOf b).length ≤ 255 := by have := isBytes_get ht (4 * n) (by omega); omega
  have g9 : b.drop 9 = t := by rw [e]; rfl
  have tail : t.take (t.length - 2) = rgBytes (rgOf n t) ++ ([((dOf b).length : Int) % 256] ++ dOf b) := by
    have s1 := List.take_append_drop (4 * n) (t.take (t.length - 2))
    rw [List.take_take, Nat.min_eq_left (by omega), List.drop_eq_getElem_cons (by rw [List.length_take]; omega), ← hd, List.getElem_take, h9'] at s1
    rw [g1, ← s1, show ((dOf b).length : Int) % 256 = ((dOf b).length : Int) by omega]
    rfl
  rw [hT, tail]
  unfold bodyOf
  rw [hnn, g9]
  have q0 : rd b 0 = c0 := by rw [e]; rfl
  have q1 : rd b 1 = c1 := by rw [e]; rfl
  have q2 : rd b 2 = c2 := by rw [e]; rfl
  have q3 : rd b 3 = c3 := by rw [e]; rfl
  have q4 : rd b 4 = c4 := by rw [e]; rfl
  have q5 : rd b 5 = c5 := by rw [e]; rfl
  have q6 : rd b 6 = c6 := by rw [e]; rfl
  unfold flB
  rw [q0, q1, q2, q3, q4, q5, q6, r7]
  unfold segBody segHead
  rw [f0, g2]
  unfold bytes2
  rw [show c0 % 256 = c0 by omega, show c1 % 256 = c1 by omega, show (c2 * 256 + c3) / 256 % 256 = c2 by omega, show (c2 * 256 + c3) % 256 = c3 by omega, show (c4 * 256 + c5) / 256 % 256 = c4 by omega, show (c4 * 256 + c5) % 256 = c5 by omega, show c6 % 256 = c6 by omega, show c7 % 256 = c7 by omega, show (n : Int) % 256 = c8 by omega]
  simp only [List.cons_append, List.nil_append, List.append_assoc]
theorem drop_two (b : List Int) (h : 2 ≤ b.length) : b.drop (b.length - 2) = [rd b ((b.length - 2 : Nat) : Int), rd b ((b.length - 2 + 1 : Nat) : Int)] := by
  rw [rd_get b (b.length - 2) (by omega), rd_get b (b.length - 2 + 1) (by omega), List.drop_eq_getElem_cons (by omega), List.drop_eq_getElem_cons (by omega), List.drop_of_length_le (by omega)]
theorem take_of_append {B S b : List Int} (h : B ++ S = b) : B = b.take B.length := by rw [← h, List.take_left]
theorem drop_of_append {B S b : List Int} (h : B ++ S = b) : S = b.drop B.length := by rw [← h, List.drop_left]
theorem rd_of_append {Q R b : List Int} {v : Int} (h : b = Q ++ v :: R) : rd b ((Q.length : Nat) : Int) = v := by
  unfold rd
  rw [h, Int.toNat_natCast, List.getD_eq_getElem?_getD, List.getElem?_append_right (Nat.le_refl _), Nat.sub_self]
  rfl
theorem seg_split (b : List Int) (x y : Int) (hb : isBytes b) (h12 : 12 ≤ b.length) (hn : 12 + 4 * nR b ≤ b.length) (h : segB (okOf b) (bodyOf b) x y = b) :
    okOf b = true ∧ inb x 0 65535 = true ∧ inb y 0 65535 = true ∧ rd b 7 ≤ 15 ∧ nR b ≤ 2 ∧ rd b ((9 + 4 * nR b : Nat) : Int) = ((dOf b).length : Int) ∧ bodyOf b = b.take (b.length - 2) ∧ bytes2 (sumOf (bytes2 x ++ bytes2 y ++ b.take (b.length - 2))) = b.drop (b.length - 2) := by
  unfold segB at h
  by_cases hc : (okOf b && (inb x 0 65535 && inb y 0 65535)) = true
  · rw [if_pos hc] at h
    have hc' := hc
    simp only [Bool.and_eq_true] at hc'
    obtain ⟨h1, h2, h3⟩ := hc'
    unfold segAll at h
    have hbl : (bodyOf b).length = b.length - 2 := by
      have := congrArg List.length h
      rw [List.length_append, bytes2_length] at this
      omega
    have hB : bodyOf b = b.take (b.length - 2) := by
      have := take_of_append h
      rw [hbl] at this; exact this
    have hS : bytes2 (sumOf (bytes2 x ++ bytes2 y ++ bodyOf b)) = b.drop (b.length - 2) := by
      have := drop_of_append h
      rw [hbl] at this; exact this
    have hok := h1
    unfold okOf segOk at hok
    simp only [Bool.and_eq_true, Bool.not_eq_true', decide_eq_false_iff_not] at hok
    obtain ⟨_, _, _, _, _, hg, hd, _, _⟩ := hok
    have g2 : (rgOf (nR b) (b.drop 9)).length = nR b := (rgBytes_of (nR b) (b.drop 9) (fun z hz => hb z (List.mem_of_mem_drop hz)) (by rw [List.length_drop]; omega)).2
    have mk := segMarks_le (flB b 1) (flB b 2) (flB b 4) (flB b 8)
    have hlen9 : (segHead (rd b 0) (rd b 1) (rd b 2 * 256 + rd b 3) (rd b 4 * 256 + rd b 5) (rd b 6) (flB b 1) (flB b 2) (flB b 4) (flB b 8) (rgOf (nR b) (b.drop 9)) ++ rgBytes (rgOf (nR b) (b.drop 9))).length = 9 + 4 * nR b := by
      rw [List.length_append, segHead_length, rgBytes_length, g2]
    refine ⟨h1, h2, h3, ?_, by omega, ?_, hB, by rw [← hB]; exact hS⟩
    · have e7 : rd b 7 = segMarks (flB b 1) (flB b 2) (flB b 4) (flB b 8) % 256 := by
        conv => lhs; rw [← h]
        rfl
      omega
    · have e9 : rd b ((9 + 4 * nR b : Nat) : Int) = ((dOf b).length : Int) % 256 := by
        have e1 : b = (segHead (rd b 0) (rd b 1) (rd b 2 * 256 + rd b 3) (rd b 4 * 256 + rd b 5) (rd b 6) (flB b 1) (flB b 2) (flB b 4) (flB b 8) (rgOf (nR b) (b.drop 9)) ++ rgBytes (rgOf (nR b) (b.drop 9))) ++ (((dOf b).length : Int) % 256 :: (dOf b ++ bytes2 (sumOf (bytes2 x ++ bytes2 y ++ bodyOf b)))) := by
          conv => lhs; rw [← h]
          unfold bodyOf segBody
          simp only [List.append_assoc, List.cons_append, List.nil_append]
        have := rd_of_append e1
        rw [hlen9] at this; exact this
      omega
  · rw [if_neg hc] at h
    rw [← h] at h12
    simp at h12
theorem spec_segFrom (b : List Int) (hb : isBytes b) (hl : b.length ≤ 1048576) (x y : Int) : Ev (fun k => spec_SegmentFrom.f k b x y) (segFrom b x y) := by
  unfold spec_SegmentFrom.f
  have no : Ev (fun k => spec_SegmentFrom.j0 k b x y true) noSeg := by
    refine Ev.succ ?_
    simp only [spec_SegmentFrom.j0, if_true]; exact Ev.now _
  by_cases h : b.length < 12
  · have e : segFrom b x y = noSeg := by unfold segFrom; rw [if_neg (fun q => by omega)]
    rw [e]
    simp only [if_pos (show (b.length : Int) < 12 by omega)]
    exact no
  simp only [if_neg (show ¬ (b.length : Int) < 12 by omega), spec_in_, Option.bind_some]
  have off : (12 + 4 * nR b ≤ b.length → ¬ (okOf b = true ∧ inb x 0 65535 = true ∧ inb y 0 65535 = true ∧ rd b 7 ≤ 15 ∧ nR b ≤ 2 ∧ rd b ((9 + 4 * nR b : Nat) : Int) = ((dOf b).length : Int) ∧ bodyOf b = b.take (b.length - 2) ∧ bytes2 (sumOf (bytes2 x ++ bytes2 y ++ b.take (b.length - 2))) = b.drop (b.length - 2))) → segFrom b x y = noSeg := by
    intro hq
    unfold segFrom
    rw [if_neg]
    rintro ⟨_, q2, q3⟩
    exact hq q2 (seg_split b x y hb (by omega) q2 q3)
  cases hx : inb x 0 65535
  · rw [off (fun _ q => by rw [hx] at q; cases q.2.1)]
    simp only [Bool.false_eq_true, if_false]; exact no
  simp only [if_true]
  cases hy : inb y 0 65535
  · rw [off (fun _ q => by rw [hy] at q; cases q.2.2.1)]
    simp only [Bool.false_eq_true, if_false]; exact no
  simp only [if_true, if_pos (show (7 : Int) < (b.length : Int) by omega)]
  by_cases h7 : rd b 7 > 15
  · rw [off (fun _ q => by omega)]
    simp only [if_pos h7]; exact no
  have h8 := isBytes_get hb 8 (by omega)
  have r8 : rd b 8 = b[8] := rd_get b 8 (by omega)
  have hn : rd b 8 = ((nR b : Nat) : Int) := by unfold nR; rw [r8]; omega
  have w1 : wrap64 (rd b 8) = rd b 8 := wrap_id (by omega) (by omega)
  have w2 : wrap64 (4 * rd b 8) = 4 * rd b 8 := wrap_id (by omega) (by omega)
  have w3 : wrap64 (12 + 4 * rd b 8) = 12 + 4 * rd b 8 := wrap_id (by omega) (by omega)
  simp only [if_neg h7, if_pos (show (8 : Int) < (b.length : Int) by omega), w1, w2, w3]
  by_cases h82 : rd b 8 > 2
  · rw [off (fun _ q => by omega)]
    simp only [if_pos h82]; exact no
  simp only [if_neg h82]
  by_cases h2 : b.length < 12 + 4 * nR b
  · rw [off (fun q => by omega)]
    simp only [decide_eq_true (show (b.length : Int) < 12 + 4 * rd b 8 by omega)]; exact no
  simp only [decide_eq_false (show ¬ (b.length : Int) < 12 + 4 * rd b 8 by omega)]
  have g0 := isBytes_get hb 0 (by omega)
  have g1 := isBytes_get hb 1 (by omega)
  have g6 := isBytes_get hb 6 (by omega)
  have g7 := isBytes_get hb 7 (by omega)
  have r0 : rd b 0 = b[0] := rd_get b 0 (by omega)
  have r1 : rd b 1 = b[1] := rd_get b 1 (by omega)
  have r6 : rd b 6 = b[6] := rd_get b 6 (by omega)
  have r7 : rd b 7 = b[7] := rd_get b 7 (by omega)
  obtain ⟨m0, m1, m2, m3, m4⟩ := flags_ (rd b 7) (by omega) (by omega)
  refine Ev.succ ?_
  simp only [spec_SegmentFrom.j0, Bool.false_eq_true, if_false, if_pos (show (7 : Int) < (b.length : Int) by omega), if_pos (show (0 : Int) < (b.length : Int) by omega), if_pos (show (1 : Int) < (b.length : Int) by omega), if_pos (show (6 : Int) < (b.length : Int) by omega), m1, m2, m3, m4,
    wrap_id (x := rd b 0) (by omega) (by omega), wrap_id (x := rd b 1) (by omega) (by omega), wrap_id (x := rd b 6) (by omega) (by omega)]
  refine Ev.bind (spec_num2 b hb (by omega) 2 (by omega)) (Ev.bind (spec_num2 b hb (by omega) 4 (by omega)) ?_)
  have hf := spec_segFrom_l b hb hl x y hx hy (nR b) (by omega) hn (by omega) (rd b 0) (rd b 1) (rd b 2 * 256 + rd b 3) (rd b 4 * 256 + rd b 5) (rd b 6) (flB b 1) (flB b 2) (flB b 4) (flB b 8) (nR b) 0 [] (by omega) (by simp)
  have hend : specEnd b x y (nR b) (rd b 0) (rd b 1) (rd b 2 * 256 + rd b 3) (rd b 4 * 256 + rd b 5) (rd b 6) (flB b 1) (flB b 2) (flB b 4) (flB b 8) ([] ++ rgOf (nR b) (b.drop (9 + 4 * 0))) ((b.take (b.length - 2)).drop (10 + 4 * nR b)) = segFrom b x y := by
    show (if rd b ((9 + 4 * nR b : Nat) : Int) = ((dOf b).length : Int) ∧ okOf b = true ∧ lastNum b = sumOf (bytes2 x ++ bytes2 y ++ b.take (b.length - 2)) then segOf b else noSeg) = _
    by_cases hc : rd b ((9 + 4 * nR b : Nat) : Int) = ((dOf b).length : Int) ∧ okOf b = true ∧ lastNum b = sumOf (bytes2 x ++ bytes2 y ++ b.take (b.length - 2))
    · obtain ⟨c1, c2, c3⟩ := hc
      have hj := seg_join b hb (by omega) (by omega) c1
      have hT : isBytes (b.take (b.length - 2)) := fun z hz => hb z (List.mem_of_mem_take hz)
      have hdt := drop_two b (by omega)
      have u := rd_get b (b.length - 2) (by omega)
      have v := rd_get b (b.length - 2 + 1) (by omega)
      have hu := isBytes_get hb (b.length - 2) (by omega)
      have hv := isBytes_get hb (b.length - 2 + 1) (by omega)
      have hs : bytes2 (lastNum b) = b.drop (b.length - 2) := by
        rw [hdt]; unfold lastNum bytes2
        rw [u, v]
        congr 1
        · omega
        · congr 1; omega
      have e : segB (okOf b) (bodyOf b) x y = b := by
        unfold segB segAll
        rw [c2, hx, hy, hj, ← c3, hs]
        exact List.take_append_drop _ _
      rw [if_pos ⟨c1, c2, c3⟩]
      unfold segFrom
      rw [if_pos ⟨by omega, by omega, e⟩]
    · rw [if_neg hc, off]
      rintro _ ⟨q1, _, _, _, _, q6, _, q8⟩
      refine hc ⟨q6, q1, ?_⟩
      have hT : isBytes (b.take (b.length - 2)) := fun z hz => hb z (List.mem_of_mem_take hz)
      have hs := sumOf_bound _ (is_append (is_append (bytes2_is x) (bytes2_is y)) hT)
      have hdt := drop_two b (by omega)
      rw [hdt] at q8
      unfold lastNum
      generalize sumOf (bytes2 x ++ bytes2 y ++ b.take (b.length - 2)) = S at *
      unfold bytes2 at q8
      simp only [List.cons.injEq, and_true] at q8
      rw [← q8.1, ← q8.2]
      omega
  rw [hend] at hf
  exact hf

/-! alive -/
theorem bytesOf_5 : Ev (fun k => impl_bytesOf.f k 5 1) [5] := by
  refine Ev.of (k := 3) (fun k => impl_bytesOf.mono 5 1 k) ?_
  kernel_rfl
theorem alive_ : Ev (fun k => laws_alive.f k) true := by
  have h1 : Ev (fun k => impl_BytesOf.f k 5 1) [5] := by
    refine Ev.of (k := 3) (fun k => impl_BytesOf.mono 5 1 k) ?_
    kernel_rfl
  have h2 : Ev (fun k => impl_BytesOf.f k 256 1) [] := by
    refine Ev.of (k := 3) (fun k => impl_BytesOf.mono 256 1 k) ?_
    kernel_rfl
  unfold laws_alive.f
  refine Ev.bind h1 ?_
  simp only [List.length_singleton, Int.natCast_one, if_true]
  refine Ev.bind h2 ?_
  exact Ev.now _

theorem same_refl (l : List Int) : laws_sameBytes.f l l = some true := by
  unfold laws_sameBytes.f; simp

/-! a turned byte, and a byte more -/
theorem set_is {l : List Int} {i : Nat} {v : Int} (h : isBytes l) (hv : 0 ≤ v ∧ v ≤ 255) : isBytes (l.set i v) := by
  intro z hz
  rcases List.mem_or_eq_of_mem_set hz with h1 | h1
  · exact h z h1
  · rw [h1]; exact hv
theorem rd_set_ne (l : List Int) (p q : Nat) (v : Int) (h : p ≠ q) : rd (l.set p v) (q : Int) = rd l (q : Int) := by
  unfold rd
  rw [Int.toNat_natCast, List.getD_eq_getElem?_getD, List.getD_eq_getElem?_getD, List.getElem?_set_ne h]
theorem rd_set_eq (l : List Int) (p : Nat) (v : Int) (h : p < l.length) : rd (l.set p v) (p : Int) = v := by
  unfold rd
  rw [Int.toNat_natCast, List.getD_eq_getElem?_getD, List.getElem?_set_self h]; rfl
theorem pairAt_set_ne (l : List Int) (p : Nat) (v : Int) (j : Nat) (h : j ≠ p / 2) : pairAt (l.set p v) j = pairAt l j := by
  unfold pairAt
  rw [List.length_set, rd_set_ne l p (2 * j) v (by omega), rd_set_ne l p (2 * j + 1) v (by omega)]
theorem pair_val (l : List Int) (hb : isBytes l) (j : Nat) (h : 2 * j < l.length) : pairAt l j = rd l ((2 * j : Nat) : Int) * 256 + (if 2 * j + 1 < l.length then rd l ((2 * j + 1 : Nat) : Int) else 0) := by
  by_cases h1 : 2 * j + 1 < l.length
  · rw [pairAt_two l hb j h1, if_pos h1, rd_get l (2 * j) h, rd_get l (2 * j + 1) h1]
  · rw [pairAt_one l hb j (by omega), if_neg h1, rd_get l (2 * j) h, Int.add_zero]
theorem sum_turned (l : List Int) (hb : isBytes l) (p : Nat) (hp : p < l.length) (v : Int) (hv : 0 ≤ v ∧ v ≤ 255) (hne : v = rd l (p : Int) + 1 ∨ v = rd l (p : Int) - 1) : sumOf (l.set p v) ≠ sumOf l := by
  intro h
  have hb' : isBytes (l.set p v) := set_is hb hv
  have hd := sumOf_diff (l.set p v) l hb' hb (by rw [List.length_set]) (p / 2) (by rw [List.length_set]; omega) (fun i hi _ => pairAt_set_ne l p v i hi) h
  rw [pair_val (l.set p v) hb' (p / 2) (by rw [List.length_set]; omega), pair_val l hb (p / 2) (by omega), List.length_set] at hd
  have hlt := rd_byte hb (p : Int)
  by_cases he : p = 2 * (p / 2)
  · have e1 : rd (l.set p v) ((2 * (p / 2) : Nat) : Int) = v := by rw [← he]; exact rd_set_eq l p v hp
    have e2 : rd (l.set p v) ((2 * (p / 2) + 1 : Nat) : Int) = rd l ((2 * (p / 2) + 1 : Nat) : Int) := rd_set_ne l p _ v (by omega)
    rw [e1, e2, ← he] at hd
    generalize (if p + 1 < l.length then rd l ((p + 1 : Nat) : Int) else 0) = z at *
    omega
  · have ho : p = 2 * (p / 2) + 1 := by omega
    have e1 : rd (l.set p v) ((2 * (p / 2) + 1 : Nat) : Int) = v := by rw [← ho]; exact rd_set_eq l p v hp
    have e2 : rd (l.set p v) ((2 * (p / 2) : Nat) : Int) = rd l ((2 * (p / 2) : Nat) : Int) := rd_set_ne l p _ v (by omega)
    rw [e1, e2, if_pos (by omega), if_pos (by omega), ← ho] at hd
    generalize rd l ((2 * (p / 2) : Nat) : Int) = z at *
    omega
theorem xor1 (u : Int) (h0 : 0 ≤ u) (h1 : u ≤ 255) : (0 ≤ Go.bits .xor .u8 u 1 ∧ Go.bits .xor .u8 u 1 ≤ 255) ∧ (Go.bits .xor .u8 u 1 = u + 1 ∨ Go.bits .xor .u8 u 1 = u - 1) := by
  have h : ∀ n : Fin 256, (0 ≤ Go.bits .xor .u8 (n.val : Int) 1 ∧ Go.bits .xor .u8 (n.val : Int) 1 ≤ 255) ∧ (Go.bits .xor .u8 (n.val : Int) 1 = (n.val : Int) + 1 ∨ Go.bits .xor .u8 (n.val : Int) 1 = (n.val : Int) - 1) := by decide +kernel
  have := h ⟨u.toNat, by omega⟩
  simp only [Int.toNat_of_nonneg h0] at this
  exact this
theorem segFrom_ok {b : List Int} {x y : Int} (h : (segFrom b x y).2.2.2.2.2.2.2.2.2.2.2 = true) : 12 ≤ b.length ∧ 12 + 4 * nR b ≤ b.length ∧ segB (okOf b) (bodyOf b) x y = b ∧ segFrom b x y = segOf b := by
  unfold segFrom at h ⊢
  by_cases hc : 12 ≤ b.length ∧ 12 + 4 * nR b ≤ b.length ∧ segB (okOf b) (bodyOf b) x y = b
  · rw [if_pos hc]; exact ⟨hc.1, hc.2.1, hc.2.2, rfl⟩
  · rw [if_neg hc] at h; cases h
theorem seg_turned (b : List Int) (x y : Int) (hb : isBytes b) (h : (segFrom b x y).2.2.2.2.2.2.2.2.2.2.2 = true) (i : Nat) (hi : i < b.length) : (segFrom (b.set i (Go.bits .xor .u8 (rd b (i : Int)) 1)) x y).2.2.2.2.2.2.2.2.2.2.2 = false := by
  rw [← Bool.not_eq_true]
  intro h2
  have hu := rd_byte hb (i : Int)
  obtain ⟨hv, hx⟩ := xor1 (rd b (i : Int)) hu.1 hu.2
  generalize Go.bits .xor .u8 (rd b (i : Int)) 1 = v at *
  have hb' : isBytes (b.set i v) := set_is hb hv
  obtain ⟨a1, a2, a3, _⟩ := segFrom_ok h
  obtain ⟨c1, c2, c3, _⟩ := segFrom_ok h2
  obtain ⟨_, _, _, _, _, _, _, d1⟩ := seg_split b x y hb a1 a2 a3
  obtain ⟨_, _, _, _, _, _, _, d2⟩ := seg_split (b.set i v) x y hb' c1 c2 c3
  rw [List.length_set] at d2
  have hT : isBytes (b.take (b.length - 2)) := fun z hz => hb z (List.mem_of_mem_take hz)
  have hT' : isBytes ((b.set i v).take (b.length - 2)) := fun z hz => hb' z (List.mem_of_mem_take hz)
  have hX : isBytes (bytes2 x ++ bytes2 y) := is_append (bytes2_is _) (bytes2_is _)
  by_cases hlt : i < b.length - 2
  · have e : (b.set i v).drop (b.length - 2) = b.drop (b.length - 2) := List.drop_set_of_lt hlt
    rw [e, ← d1] at d2
    have hs := bytes2_inj (sumOf_bound _ (is_append hX hT')) (sumOf_bound _ (is_append hX hT)) d2
    have e2 : bytes2 x ++ bytes2 y ++ (b.set i v).take (b.length - 2) = (bytes2 x ++ bytes2 y ++ b.take (b.length - 2)).set (4 + i) v := by
      rw [List.set_append_right _ _ (by simp only [List.length_append, bytes2_length]; omega), List.take_set]
      simp only [List.length_append, bytes2_length]
      rw [show 4 + i - (2 + 2) = i by omega]
    rw [e2] at hs
    refine sum_turned _ (is_append hX hT) (4 + i) (by simp only [List.length_append, bytes2_length, List.length_take]; omega) v hv ?_ hs
    have e3 : rd (bytes2 x ++ bytes2 y ++ b.take (b.length - 2)) ((4 + i : Nat) : Int) = rd b (i : Int) := by
      unfold rd
      rw [Int.toNat_natCast, Int.toNat_natCast, List.getD_eq_getElem?_getD, List.getD_eq_getElem?_getD, List.getElem?_append_right (by simp only [List.length_append, bytes2_length]; omega)]
      simp only [List.length_append, bytes2_length]
      rw [show 4 + i - (2 + 2) = i by omega, List.getElem?_take_of_lt hlt]
    rw [e3]; exact hx
  · have e : (b.set i v).take (b.length - 2) = b.take (b.length - 2) := List.take_set_of_le (by omega)
    rw [e, d1] at d2
    have h3 := congrArg (fun l : List Int => l[i - (b.length - 2)]?) d2
    simp only [List.getElem?_drop, show b.length - 2 + (i - (b.length - 2)) = i by omega, List.getElem?_set_self hi, List.getElem?_eq_getElem hi, Option.some.injEq] at h3
    rw [rd_get b i hi] at hx
    omega
theorem seg_more (b : List Int) (x y : Int) (hb : isBytes b) (h : (segFrom b x y).2.2.2.2.2.2.2.2.2.2.2 = true) : (segFrom (b ++ [0]) x y).2.2.2.2.2.2.2.2.2.2.2 = false := by
  rw [← Bool.not_eq_true]
  intro h2
  have hb' : isBytes (b ++ [0]) := isBytes_snoc hb (by omega)
  obtain ⟨a1, a2, a3, _⟩ := segFrom_ok h
  obtain ⟨c1, c2, c3, _⟩ := segFrom_ok h2
  obtain ⟨_, _, _, _, _, d1, _, _⟩ := seg_split b x y hb a1 a2 a3
  obtain ⟨_, _, _, _, _, d2, _, _⟩ := seg_split (b ++ [0]) x y hb' c1 c2 c3
  have hr : ∀ i : Nat, i < b.length → rd (b ++ [0]) (i : Int) = rd b (i : Int) := by
    intro i hi
    unfold rd
    rw [Int.toNat_natCast, List.getD_eq_getElem?_getD, List.getD_eq_getElem?_getD, List.getElem?_append_left hi]
  have hn : nR (b ++ [0]) = nR b := by unfold nR; rw [show (8 : Int) = ((8 : Nat) : Int) from rfl, hr 8 (by omega)]
  rw [hn] at d2
  rw [hr _ (by omega), d1] at d2
  unfold dOf at d2
  rw [hn] at d2
  simp only [List.length_drop, List.length_take, List.length_append, List.length_singleton] at d2
  omega
theorem sameRanges_ (g : List RG) (hl : g.length ≤ 1048576) (n : Nat) : ∀ i : Nat, i + n = g.length → Ev (fun k => laws_sameRanges.l0 k g g (i : Int)) true := by
  induction n with
  | zero =>
    intro i hi
    refine Ev.succ ?_
    simp only [laws_sameRanges.l0, if_neg (show ¬ (i : Int) < (g.length : Int) by omega)]
    exact Ev.now _
  | succ n ih =>
    intro i hi
    refine Ev.succ ?_
    simp only [laws_sameRanges.l0, if_pos (show (i : Int) < (g.length : Int) by omega), if_pos (show (0 : Int) ≤ (i : Int) by omega), beq_self_eq_true, Bool.not_true, Bool.or_self, Bool.false_eq_true, if_false]
    rw [wrap_id (by omega) (by omega)]
    exact ih (i + 1) (by omega)
theorem sameSegment_ (a0 a1 a2 a3 a4 : Int) (b5 b6 b7 b8 : Bool) (g : List RG) (d : List Int) (hl : g.length ≤ 1048576) : Ev (fun k => laws_sameSegment.f k a0 a1 a2 a3 a4 b5 b6 b7 b8 g d a0 a1 a2 a3 a4 b5 b6 b7 b8 g d) true := by
  unfold laws_sameSegment.f laws_sameRanges.f
  simp only [if_true, beq_self_eq_true]
  refine Ev.bind (sameRanges_ g hl g.length 0 (by omega)) ?_
  simp only [if_true, same_refl, Option.bind_some]
  exact Ev.now _
theorem DrawSegmentFrom_ (l : List Int) (hb : isBytes l) : Dr (fun k => spec_DrawSegmentFrom.f k l) (fun r => ∃ b x y, (isBytes b ∧ b.length ≤ 1000 ∧ True) ∧ r = (b, x, y)) := by
  unfold spec_DrawSegmentFrom.f
  refine Dr.bind (open__ l hb) ?_
  rintro _ ⟨s, hs, rfl⟩
  refine Dr.bind (segment_ hs (by dsimp only; omega) (by omega)) ?_
  rintro _ ⟨a0, a1, a2, a3, a4, b5, b6, b7, b8, g, d, q, ⟨k1, k2, k3, k4, k5, k6⟩, rfl⟩
  dsimp only at k5 k6
  refine Dr.bind (Dr.ev (spec_segBytes a0 a1 a2 a3 a4 b5 b6 b7 b8 g d 1 2 (by omega) (by omega) k1)) ?_
  have hok := k4 (by omega)
  have e : segB (segOk a0 a1 a2 a3 a4 b5 b6 b7 b8 g d) (segBody a0 a1 a2 a3 a4 b5 b6 b7 b8 g d) 1 2 = segAll (segBody a0 a1 a2 a3 a4 b5 b6 b7 b8 g d) 1 2 := by
    unfold segB; rw [hok]; rfl
  have hB := segBody_is a0 a1 a2 a3 a4 b5 b6 b7 b8 g d k1
  have hisb : isBytes (segAll (segBody a0 a1 a2 a3 a4 b5 b6 b7 b8 g d) 1 2) := is_append hB (bytes2_is _)
  have hlb : (segAll (segBody a0 a1 a2 a3 a4 b5 b6 b7 b8 g d) 1 2).length = 12 + 4 * g.length + d.length := by unfold segAll; rw [List.length_append, bytes2_length, segBody_length]; omega
  rw [e]
  generalize segAll (segBody a0 a1 a2 a3 a4 b5 b6 b7 b8 g d) 1 2 = B at *
  rintro _ rfl
  refine Dr.bind (pick_ hs (by dsimp only; omega) (by omega)) ?_
  rintro _ ⟨v1, h1, rfl⟩
  refine Dr.ite (fun _ => ?_) (fun _ => Dr.ite (fun _ => ?_) (fun _ => Dr.ite (fun _ => ?_) (fun _ => ?_)))
  · refine Dr.bind (pick_ hs (by dsimp only; omega) (by omega)) ?_
    rintro _ ⟨v2, h2, rfl⟩
    refine Dr.bind (pick_ hs (by dsimp only; omega) (by omega)) ?_
    rintro _ ⟨v3, h3, rfl⟩
    exact Dr.pos h2.1 (Dr.pos h2.2 (Dr.now ⟨_, _, _, ⟨set_is hisb (by dsimp only; omega), by rw [List.length_set]; omega, trivial⟩, rfl⟩))
  · refine Dr.bind (pick_ hs (by dsimp only; omega) (by omega)) ?_
    rintro _ ⟨v2, h2, rfl⟩
    exact Dr.pos h2.1 (Dr.pos (by dsimp only; omega) (Dr.now ⟨_, _, _, ⟨fun z hz => hisb z (List.mem_of_mem_take hz), by rw [List.length_take]; omega, trivial⟩, rfl⟩))
  · refine Dr.bind (pick_ hs (by dsimp only; omega) (by omega)) ?_
    rintro _ ⟨v2, h2, rfl⟩
    refine Dr.bind (pick_ hs (by dsimp only; omega) (by omega)) ?_
    rintro _ ⟨v3, h3, rfl⟩
    exact Dr.now ⟨_, _, _, ⟨hisb, by omega, trivial⟩, rfl⟩
  · exact Dr.now ⟨_, _, _, ⟨hisb, by omega, trivial⟩, rfl⟩
theorem segFrom_rows (b : List Int) (x y : Int) (hl : b.length ≤ 1000) : (segFrom b x y).2.2.2.2.2.2.2.2.2.1.length ≤ 1048576 := by
  unfold segFrom
  split
  · rename_i h
    have := rgOf_length_le (nR b) (b.drop 9)
    show (rgOf (nR b) (b.drop 9)).length ≤ _
    omega
  · simp [noSeg]
theorem FnSegmentFrom : laws_FnSegmentFrom.Pure := by
  intro l hl _ hw
  have hb0 := isBytes_wf hw
  refine Ev.rounds ?_
  unfold laws_FnSegmentFrom.f
  by_cases hbig : (l.length : Int) > 1048576
  · simp only [if_pos hbig]; exact Ev.now _
  simp only [if_neg hbig]
  obtain ⟨_, e, b, x, y, ⟨hb, hlb, _⟩, rfl⟩ := DrawSegmentFrom_ l hb0
  refine Ev.bind e (Ev.bind (impl_segFrom b hb (by omega) x y) (Ev.bind (spec_segFrom b hb (by omega) x y) ?_))
  have hg := segFrom_rows b x y hlb
  simp only [bne_self_eq_false, Bool.false_eq_true, if_false]
  refine Ev.bind (sameSegment_ _ _ _ _ _ _ _ _ _ _ _ hg) ?_
  simp only [Bool.not_true]
  refine Ev.succ ?_
  simp only [laws_FnSegmentFrom.j0, Bool.false_eq_true, if_false]
  -- the last round
  have fin : ∀ i : Int, Ev (fun k => laws_FnSegmentFrom.j2 k b x y (segFrom b x y).2.2.2.2.2.2.2.2.2.2.2 i false (segFrom b x y).1 (segFrom b x y).2.1 (segFrom b x y).2.2.1 (segFrom b x y).2.2.2.1 (segFrom b x y).2.2.2.2.1 (segFrom b x y).2.2.2.2.2.1 (segFrom b x y).2.2.2.2.2.2.1 (segFrom b x y).2.2.2.2.2.2.2.1 (segFrom b x y).2.2.2.2.2.2.2.2.1 (segFrom b x y).2.2.2.2.2.2.2.2.2.1 (segFrom b x y).2.2.2.2.2.2.2.2.2.2.1) true := by
    intro i
    refine Ev.succ ?_
    simp only [laws_FnSegmentFrom.j2, Bool.false_eq_true, if_false, Option.bind_some, List.length_nil, List.nil_append, if_pos (show 0 + b.length < 140737488355328 by omega), if_pos (show b.length < 140737488355328 by omega)]
    refine Ev.bind (impl_segFrom (b ++ [0]) (isBytes_snoc hb (by omega)) (by simp; omega) x y) ?_
    cases hok : (segFrom b x y).2.2.2.2.2.2.2.2.2.2.2
    · simp only [Bool.false_eq_true, if_false]
      exact Ev.bind alive_ (Ev.now _)
    · simp only [if_true]
      obtain ⟨a1, a2, a3, a4⟩ := segFrom_ok hok
      have hm := seg_more b x y hb hok
      rw [hm, a4]
      have hd : isBytes (dOf b) := fun z hz => hb z (List.mem_of_mem_take (List.mem_of_mem_drop hz))
      have hdl : (dOf b).length ≤ 1048576 := by unfold dOf; rw [List.length_drop, List.length_take]; omega
      rw [a4] at hg
      refine Ev.bind (impl_segBytes (segOf b).1 (segOf b).2.1 (segOf b).2.2.1 (segOf b).2.2.2.1 (segOf b).2.2.2.2.1 (segOf b).2.2.2.2.2.1 (segOf b).2.2.2.2.2.2.1 (segOf b).2.2.2.2.2.2.2.1 (segOf b).2.2.2.2.2.2.2.2.1 (segOf b).2.2.2.2.2.2.2.2.2.1 (segOf b).2.2.2.2.2.2.2.2.2.2.1 x y hg hdl hd) ?_
      have e2 : segB (segOk (segOf b).1 (segOf b).2.1 (segOf b).2.2.1 (segOf b).2.2.2.1 (segOf b).2.2.2.2.1 (segOf b).2.2.2.2.2.1 (segOf b).2.2.2.2.2.2.1 (segOf b).2.2.2.2.2.2.2.1 (segOf b).2.2.2.2.2.2.2.2.1 (segOf b).2.2.2.2.2.2.2.2.2.1 (segOf b).2.2.2.2.2.2.2.2.2.2.1) (segBody (segOf b).1 (segOf b).2.1 (segOf b).2.2.1 (segOf b).2.2.2.1 (segOf b).2.2.2.2.1 (segOf b).2.2.2.2.2.1 (segOf b).2.2.2.2.2.2.1 (segOf b).2.2.2.2.2.2.2.1 (segOf b).2.2.2.2.2.2.2.2.1 (segOf b).2.2.2.2.2.2.2.2.2.1 (segOf b).2.2.2.2.2.2.2.2.2.2.1) x y = b := a3
      rw [e2, same_refl]
      simp only [Option.bind_some, if_true, Bool.false_eq_true, if_false]
      exact Ev.bind alive_ (Ev.now _)
  have loop : ∀ (n i : Nat), i + n = b.length → Ev (fun k => laws_FnSegmentFrom.l0 k b x y (segFrom b x y).2.2.2.2.2.2.2.2.2.2.2 (i : Int) (segFrom b x y).1 (segFrom b x y).2.1 (segFrom b x y).2.2.1 (segFrom b x y).2.2.2.1 (segFrom b x y).2.2.2.2.1 (segFrom b x y).2.2.2.2.2.1 (segFrom b x y).2.2.2.2.2.2.1 (segFrom b x y).2.2.2.2.2.2.2.1 (segFrom b x y).2.2.2.2.2.2.2.2.1 (segFrom b x y).2.2.2.2.2.2.2.2.2.1 (segFrom b x y).2.2.2.2.2.2.2.2.2.2.1) true := by
    intro n
    induction n with
    | zero =>
      intro i hi
      refine Ev.succ ?_
      simp only [laws_FnSegmentFrom.l0, if_neg (show ¬ (i : Int) < (b.length : Int) by omega)]
      exact fin _
    | succ n ih =>
      intro i hi
      refine Ev.succ ?_
      simp only [laws_FnSegmentFrom.l0, if_pos (show (i : Int) < (b.length : Int) by omega)]
      cases hok : (segFrom b x y).2.2.2.2.2.2.2.2.2.2.2
      · have := fin i
        rw [hok] at this
        exact this
      · have hi1 := ih (i + 1) (by omega)
        rw [hok] at hi1
        have hu := rd_byte hb (i : Int)
        obtain ⟨hv, _⟩ := xor1 (rd b (i : Int)) hu.1 hu.2
        have ht := seg_turned b x y hb hok i (by omega)
        refine Ev.succ ?_
        simp only [laws_FnSegmentFrom.j2, if_true, Option.bind_some, List.length_nil, List.nil_append, if_pos (show 0 + b.length < 140737488355328 by omega), if_pos (show (0 : Int) ≤ (i : Int) by omega), if_pos (show (i : Int) < (b.length : Int) by omega), Int.toNat_natCast]
        refine Ev.bind (impl_segFrom (b.set i (Go.bits .xor .u8 (rd b (i : Int)) 1)) (set_is hb hv) (by rw [List.length_set]; omega) x y) ?_
        simp only [ht, Bool.false_eq_true, if_false]
        rw [wrap_id (by omega) (by omega)]
        exact hi1
  exact loop b.length 0 (by omega)

end Go.Proofs.Ytpbeljcgcdilnaa.Pure
