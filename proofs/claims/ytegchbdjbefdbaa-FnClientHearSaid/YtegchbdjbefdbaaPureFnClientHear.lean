/- An answer counts once: the plain law. -/
import Derived.Test.YtegchbdjbefdbaaPFnClientHearx
namespace Go.Proofs.Ytegchbdjbefdbaa.Pure
set_option linter.unusedSimpArgs false
set_option linter.unusedVariables false
open Go.RowKit Go.Proofs.Ytegchbdjbefdbaa.PFnClientHear Go.Proofs.YtegchbdjbefdbaaW.PrintWords Go.Proofs.YtegchbdjbefdbaaW.PrintLast Go.Proofs.YtegchbdjbefdbaaW.PrintMore

theorem Ev.succ {α : Type} {g : Nat → Option α} {r : α} (h : Ev (fun k => g (k + 1)) r) : Ev g r := Ev.step (fun _ => rfl) h
theorem Ev.pure {α : Type} {o : Option α} {r : α} (h : o = some r) : Ev (fun _ => o) r := by rw [h]; exact Ev.now r
theorem Ev.cong {α : Type} {g g' : Nat → Option α} {r : α} (h : ∀ k, g k = g' k) (e : Ev g' r) : Ev g r := by rw [show g = g' from funext h]; exact e
theorem wrap_id {x : Int} (h0 : -9223372036854775808 ≤ x) (h1 : x ≤ 9223372036854775807) : wrap64 x = x := by unfold wrap64; omega

theorem rd_get (l : List Int) (i : Nat) (h : i < l.length) : rd l (i : Int) = l[i] := by
  unfold rd
  rw [Int.toNat_natCast, List.getD_eq_getElem?_getD, List.getElem?_eq_getElem h]; rfl
theorem take_set_succ {α : Type} (x : List α) (i : Nat) (v : α) (h : i < x.length) : (x.set i v).take (i + 1) = x.take i ++ [v] := by
  rw [List.take_succ_eq_append_getElem (by simpa using h), List.getElem_set_self, List.take_set, List.set_eq_of_length_le (by simp; omega)]


def isBytes (l : List Int) : Prop := ∀ x ∈ l, 0 ≤ x ∧ x ≤ 255
theorem isBytes_get {l : List Int} (h : isBytes l) (i : Nat) (hi : i < l.length) : 0 ≤ l[i] ∧ l[i] ≤ 255 := h _ (List.getElem_mem hi)
theorem isBytes_wf {l : List Int} (h : ∀ x ∈ l, (Lit.int .u8 x).wf = true) : isBytes l := by
  intro x hx
  have := h x hx
  simp [Lit.wf, IntKind.min, IntKind.max, IntKind.bits, IntKind.signed] at this
  omega

/-! whether a number is between two others -/
def inb (x lo hi : Int) : Bool := decide (lo ≤ x) && decide (x ≤ hi)
theorem inb_iff {x lo hi : Int} : inb x lo hi = true ↔ lo ≤ x ∧ x ≤ hi := by unfold inb; simp
theorem impl_in_ (x lo hi : Int) : impl_in.f x lo hi = some (inb x lo hi) := by
  unfold impl_in.f inb; by_cases h : x ≥ lo
  · simp only [if_pos h, decide_eq_true (show lo ≤ x from h), Bool.true_and]
  · simp only [if_neg h, decide_eq_false (show ¬ lo ≤ x from h), Bool.false_and]
theorem spec_in_ (x lo hi : Int) : spec_l1In.f x lo hi = some (inb x lo hi) := by
  unfold spec_l1In.f inb; by_cases h : x ≥ lo
  · simp only [if_pos h, decide_eq_true (show lo ≤ x from h), Bool.true_and]
  · simp only [if_neg h, decide_eq_false (show ¬ lo ≤ x from h), Bool.false_and]

/-! slices.Concat of numbers -/
theorem ird_ofL (l : List (List Int)) (i : Nat) (h : i < l.length) : rd_L1 l (i : Int) = l[i] := by
  unfold rd_L1
  rw [Int.toNat_natCast, List.getD_eq_getElem?_getD, List.getElem?_eq_getElem h]; rfl
def ilenL (l : List (List Int)) : Nat := (l.map List.length).sum
theorem ilenL_take_succ (l : List (List Int)) (i : Nat) (h : i < l.length) : ilenL (l.take (i + 1)) = ilenL (l.take i) + l[i].length := by
  unfold ilenL; rw [List.take_succ_eq_append_getElem h]; simp only [List.map_append, List.sum_append, List.map_cons, List.map_nil, List.sum_cons, List.sum_nil, Nat.add_zero]
theorem ilenL_take_le (l : List (List Int)) (i : Nat) : ilenL (l.take i) ≤ ilenL l := by
  unfold ilenL
  have h := congrArg (fun x : List (List Int) => (x.map List.length).sum) (List.take_append_drop i l)
  simp only [List.map_append, List.sum_append] at h
  omega
theorem iflatten_take_succ (l : List (List Int)) (i : Nat) (h : i < l.length) : (l.take (i + 1)).flatten = (l.take i).flatten ++ l[i] := by
  rw [List.take_succ_eq_append_getElem h]; simp only [List.flatten_append, List.flatten_cons, List.flatten_nil, List.append_nil]
theorem iconcat_l1 (l : List (List Int)) (hn : l.length ≤ 1048576) (hl : ilenL l < 17592186044416) (d : Nat) : ∀ (i : Nat), i ≤ l.length → l.length - i = d →
    Ev (fun k => slices_Concat_int_int.l1 k (l.take i).flatten l (l.length : Int) (i : Int)) l.flatten := by
  induction d with
  | zero =>
    intro i hi hd
    have hil : i = l.length := by omega
    subst hil
    refine Ev.succ ?_
    simp only [slices_Concat_int_int.l1]
    simp only [Int.lt_irrefl, if_false, List.take_length]
    exact Ev.now _
  | succ d ih =>
    intro i hi hd
    have hlt : i < l.length := by omega
    refine Ev.succ ?_
    simp only [slices_Concat_int_int.l1]
    have h1 := ilenL_take_succ l i hlt
    have h2 := ilenL_take_le l (i + 1)
    have h3 : (l.take i).flatten.length = ilenL (l.take i) := by rw [List.length_flatten]; rfl
    rw [ird_ofL l i hlt]
    simp only [if_pos (show (i : Int) < (l.length : Int) by omega), if_pos (show (0 : Int) ≤ (i : Int) by omega), if_pos (show (l.take i).flatten.length + l[i].length < 17592186044416 by omega)]
    rw [wrap_id (by omega) (by omega), ← iflatten_take_succ l i hlt]
    exact ih (i + 1) (by omega) (by omega)
theorem iconcat_l0 (l : List (List Int)) (hn : l.length ≤ 1048576) (hl : ilenL l < 17592186044416) (d : Nat) : ∀ (i : Nat), i ≤ l.length → l.length - i = d →
    Ev (fun k => slices_Concat_int_int.l0 k l (ilenL (l.take i) : Int) l (l.length : Int) (i : Int)) l.flatten := by
  induction d with
  | zero =>
    intro i hi hd
    have hil : i = l.length := by omega
    subst hil
    refine Ev.succ ?_
    simp only [slices_Concat_int_int.l0]
    simp only [Int.lt_irrefl, if_false, List.take_length]
    have hg : slices_Grow_int_int.f ([] : List Int) (ilenL l : Int) = some [] := by
      unfold slices_Grow_int_int.f
      rw [if_pos ⟨rfl, by omega, by rw [Int.toNat_natCast]; omega⟩]
    simp only [hg, Option.bind_some]
    have := iconcat_l1 l hn hl _ 0 (by omega) rfl
    simpa using this
  | succ d ih =>
    intro i hi hd
    have hlt : i < l.length := by omega
    refine Ev.succ ?_
    simp only [slices_Concat_int_int.l0]
    have h1 := ilenL_take_succ l i hlt
    have h2 := ilenL_take_le l (i + 1)
    rw [ird_ofL l i hlt, wrap_id (x := (ilenL (l.take i) : Int) + _) (by omega) (by omega), wrap_id (by omega) (by omega)]
    simp only [if_pos (show (i : Int) < (l.length : Int) by omega), if_pos (show (0 : Int) ≤ (i : Int) by omega), if_neg (show ¬ (ilenL (l.take i) : Int) + (l[i].length : Int) < 0 by omega)]
    rw [show (ilenL (l.take i) : Int) + (l[i].length : Int) = ((ilenL (l.take (i + 1)) : Nat) : Int) by omega]
    exact ih (i + 1) (by omega) (by omega)
theorem iconcat_ (l : List (List Int)) (hn : l.length ≤ 1048576) (hl : ilenL l < 17592186044416) : Ev (fun k => slices_Concat_int_int.f k l) l.flatten := by
  unfold slices_Concat_int_int.f
  have := iconcat_l0 l hn hl _ 0 (by omega) rfl
  simpa [ilenL] using this

/-! slices.Concat of bytes -/
theorem rd_ofL (l : List (List Int)) (i : Nat) (h : i < l.length) : rd_L3 l (i : Int) = l[i] := by
  unfold rd_L3
  rw [Int.toNat_natCast, List.getD_eq_getElem?_getD, List.getElem?_eq_getElem h]; rfl
def lenL (l : List (List Int)) : Nat := (l.map List.length).sum
theorem lenL_take_succ (l : List (List Int)) (i : Nat) (h : i < l.length) : lenL (l.take (i + 1)) = lenL (l.take i) + l[i].length := by
  unfold lenL; rw [List.take_succ_eq_append_getElem h]; simp only [List.map_append, List.sum_append, List.map_cons, List.map_nil, List.sum_cons, List.sum_nil, Nat.add_zero]
theorem lenL_take_le (l : List (List Int)) (i : Nat) : lenL (l.take i) ≤ lenL l := by
  unfold lenL
  have h := congrArg (fun x : List (List Int) => (x.map List.length).sum) (List.take_append_drop i l)
  simp only [List.map_append, List.sum_append] at h
  omega
theorem flatten_take_succ (l : List (List Int)) (i : Nat) (h : i < l.length) : (l.take (i + 1)).flatten = (l.take i).flatten ++ l[i] := by
  rw [List.take_succ_eq_append_getElem h]; simp only [List.flatten_append, List.flatten_cons, List.flatten_nil, List.append_nil]
/-! a client that is ok -/
abbrev CW := S41
theorem rdCW (l : List CW) (i : Nat) (h : i < l.length) : rd_T41 l (i : Int) = l[i] := by
  unfold rd_T41
  rw [Int.toNat_natCast, List.getD_eq_getElem?_getD, List.getElem?_eq_getElem h]; rfl
def short (z : CW) : Bool := !decide ((z.f1.length : Int) > 9)
def nums (o f : List Int) (c : List CW) : List Int := o ++ f ++ c.map (fun z => z.f0)
def clientOk (a : Int) (o : List Int) (c : List CW) (f : List Int) : Bool :=
  inb a 0 256 && (decide ((o.length : Int) ≤ 4) && (decide (((nums o f c).length : Int) = a) && (c.all short && impl_ClientOk.met (nums o f c) a o.length 0 (nums o f c) [])))
theorem nums_length (o f : List Int) (c : List CW) : (nums o f c).length = o.length + f.length + c.length := by unfold nums; simp only [List.length_append, List.length_map]
theorem nums_snoc (o f : List Int) (c : List CW) (i : Nat) (h : i < c.length) : nums o f (c.take i) ++ [c[i].f0] = nums o f (c.take (i + 1)) := by
  unfold nums
  rw [List.take_succ_eq_append_getElem h, List.map_append, List.append_assoc (o ++ f)]; rfl
theorem met_step (all : List Int) (a : Int) (n : Nat) (i : Int) (x : Int) (r s : List Int) : impl_ClientOk.met all a n i (x :: r) s = (inb x 0 (wrap64 (a - 1)) && (!s.contains x && (!(decide (i > 0) && (decide (i < (n : Int)) && decide (rd all (wrap64 (i - 1)) ≥ x))) && impl_ClientOk.met all a n (i + 1) r (x :: s)))) := by
  rw [impl_ClientOk.met, impl_in_]
  cases h1 : inb x 0 (wrap64 (a - 1)) with
  | false => simp
  | true =>
    simp only [if_true, Bool.true_and]
    by_cases h2 : s.contains x = true
    · rw [if_pos h2, h2]; rfl
    · rw [if_neg h2, Bool.eq_false_iff.mpr h2]
      by_cases h3 : i > 0 <;> by_cases h4 : i < (n : Int) <;> by_cases h5 : rd all (wrap64 (i - 1)) ≥ x <;> simp [h3, h4, h5]
theorem impl_clientOk_l (a : Int) (o f : List Int) (c : List CW) (ho : o.length ≤ 10000000) (hf : f.length ≤ 10000000) (hc : c.length ≤ 10000000) (d : Nat) : ∀ i : Nat, i + d = c.length →
    Ev (fun k => impl_ClientOk.l0 k (nums o f (c.take i)) c (c.length : Int) (i : Int) a o c f) ((c.drop i).all short && (impl_ClientOk.met (nums o f c) a o.length 0 (nums o f c) [] && (((nums o f c).length : Int) == a))) := by
  induction d with
  | zero =>
    intro i hi
    obtain rfl : i = c.length := by omega
    refine Ev.succ ?_
    have hn := nums_length o f c
    rw [List.take_length, List.drop_length]
    simp only [impl_ClientOk.l0, if_neg (show ¬ (c.length : Int) < (c.length : Int) by omega), if_pos (show (nums o f c).length < 17592186044416 by omega), List.all_nil, Bool.true_and]
    exact Ev.now _
  | succ d ih =>
    intro i hi
    have hi2 : i < c.length := by omega
    have h1 := ih (i + 1) (by omega)
    have hn : (nums o f (c.take i)).length < 17592186044416 := by rw [nums_length, List.length_take]; omega
    rw [List.drop_eq_getElem_cons hi2, List.all_cons]
    refine Ev.succ ?_
    simp only [impl_ClientOk.l0, if_pos (show (i : Int) < (c.length : Int) by omega), if_pos (show (0 : Int) ≤ (i : Int) by omega), rdCW c i hi2]
    by_cases h9 : (c[i].f1.length : Int) > 9
    · simp only [if_pos h9, short, decide_eq_true h9, Bool.not_true, Bool.false_and]; exact Ev.now _
    · have hw : wrap64 ((i : Int) + 1) = ((i + 1 : Nat) : Int) := by rw [wrap_id (by omega) (by omega)]; omega
      have hsh : short c[i] = true := by unfold short; rw [decide_eq_false h9]; rfl
      simp only [if_neg h9, if_pos hn, hw, hsh, Bool.true_and, nums_snoc o f c i hi2]
      exact h1
theorem impl_clientOk (a : Int) (o f : List Int) (c : List CW) (ho : o.length ≤ 10000000) (hf : f.length ≤ 10000000) (hc : c.length ≤ 10000000) : Ev (fun k => impl_ClientOk.f k a o c f) (clientOk a o c f) := by
  unfold impl_ClientOk.f clientOk
  simp only [impl_in_, Option.bind_some]
  cases h1 : inb a 0 256
  · simp only [Bool.false_eq_true, if_false, Bool.false_and]
    refine Ev.succ ?_
    simp only [impl_ClientOk.j0, if_true]; exact Ev.now _
  · simp only [if_true, Bool.true_and]
    refine Ev.succ ?_
    simp only [impl_ClientOk.j0]
    by_cases h4 : (o.length : Int) > 4
    · simp only [decide_eq_true h4, if_true, decide_eq_false (show ¬ (o.length : Int) ≤ 4 by omega), Bool.false_and]; exact Ev.now _
    · simp only [decide_eq_false h4, Bool.false_eq_true, if_false, decide_eq_true (show (o.length : Int) ≤ 4 by omega), Bool.true_and]
      refine Ev.bind (iconcat_ [o, f] (by simp) (by simp [ilenL]; omega)) ?_
      have h := impl_clientOk_l a o f c ho hf hc c.length 0 (by omega)
      rw [List.drop_zero, List.take_zero] at h
      have e1 : nums o f [] = [o, f].flatten := by simp [nums]
      rw [e1] at h
      have e2 : (decide (((nums o f c).length : Int) = a) && (c.all short && impl_ClientOk.met (nums o f c) a o.length 0 (nums o f c) [])) = (c.all short && (impl_ClientOk.met (nums o f c) a o.length 0 (nums o f c) [] && (((nums o f c).length : Int) == a))) := by
        have e3 : (((nums o f c).length : Int) == a) = decide (((nums o f c).length : Int) = a) := by
          by_cases hh : ((nums o f c).length : Int) = a
          · rw [decide_eq_true hh, beq_iff_eq]; exact hh
          · rw [decide_eq_false hh, beq_eq_false_iff_ne]; exact hh
        rw [e3]
        cases decide (((nums o f c).length : Int) = a) <;> cases c.all short <;> cases impl_ClientOk.met (nums o f c) a o.length 0 (nums o f c) [] <;> rfl
      rw [e2]
      exact h
theorem rdOf_set (b : List Bool) (n x : Int) (hn0 : 0 ≤ n) (hn : n < (b.length : Int)) (hx0 : 0 ≤ x) : rdOf false (b.set n.toNat true) x = (decide (x = n) || rdOf false b x) := by
  unfold rdOf
  rw [List.getD_eq_getElem?_getD, List.getElem?_set]
  by_cases h : x = n
  · subst h
    rw [if_pos rfl, if_pos (by omega)]; simp
  · rw [if_neg (by omega), decide_eq_false h, Bool.false_or, List.getD_eq_getElem?_getD]
theorem spec_met_l (a : Int) (o f : List Int) (c : List CW) (all : List Int) (h0 : 0 ≤ a) (h256 : a ≤ 256) (hall : all.length ≤ 100000000) (d : Nat) : ∀ (i : Nat) (b : List Bool) (s : List Int), i + d = all.length → (b.length : Int) = a → (∀ x, 0 ≤ x → x < a → rdOf false b x = s.contains x) →
    Ev (fun k => spec_ClientOk.l1 k b all (i : Int) a o c f) (impl_ClientOk.met all a o.length (i : Int) (all.drop i) s) := by
  induction d with
  | zero =>
    intro i b s hi hb hs
    obtain rfl : i = all.length := by omega
    refine Ev.succ ?_
    rw [List.drop_length, impl_ClientOk.met]
    simp only [spec_ClientOk.l1, if_neg (show ¬ (all.length : Int) < (all.length : Int) by omega)]
    exact Ev.now _
  | succ d ih =>
    intro i b s hi hb hs
    have hi2 : i < all.length := by omega
    have hr := rd_get all i hi2
    have hwa : wrap64 (a - 1) = a - 1 := wrap_id (by omega) (by omega)
    have hwi : wrap64 ((i : Int) + 1) = ((i + 1 : Nat) : Int) := by rw [wrap_id (by omega) (by omega)]; omega
    rw [List.drop_eq_getElem_cons hi2, met_step]
    have c1 : (i : Int) < (all.length : Int) := by omega
    have c2 : (0 : Int) ≤ (i : Int) := by omega
    have j : inb all[i] 0 (a - 1) = true → ∀ v : Bool, Ev (fun k => spec_ClientOk.j3 k b all (i : Int) v a o c f) (!v && impl_ClientOk.met all a o.length ((i : Int) + 1) (all.drop (i + 1)) (all[i] :: s)) := by
      intro hin v
      rw [inb_iff] at hin
      refine Ev.succ ?_
      cases v with
      | true => simp only [spec_ClientOk.j3, if_true, Bool.not_true, Bool.false_and]; exact Ev.now _
      | false =>
        have c3 : all[i] < (b.length : Int) := by omega
        have e := ih (i + 1) (b.set all[i].toNat true) (all[i] :: s) (by omega) (by rw [List.length_set]; exact hb) (fun x x0 x1 => by rw [rdOf_set b all[i] x hin.1 c3 x0, hs x x0 x1, List.contains_cons]; congr 1)
        simp only [spec_ClientOk.j3, Bool.false_eq_true, if_false, if_pos c2, if_pos c1, hr, if_pos hin.1, if_pos c3, hwi, Bool.not_false, Bool.true_and]
        rw [show ((i : Int) + 1) = ((i + 1 : Nat) : Int) by omega]
        exact e
    refine Ev.succ ?_
    simp only [spec_ClientOk.l1, if_pos c1, if_pos c2, spec_in_, hr, hwa, Option.bind_some]
    cases hin : inb all[i] 0 (a - 1) with
    | false =>
      simp only [Bool.false_eq_true, if_false, Bool.false_and]
      refine Ev.succ ?_
      simp only [spec_ClientOk.j3, if_true]; exact Ev.now _
    | true =>
      have hin' := inb_iff.1 hin
      have hs' := hs all[i] hin'.1 (by omega)
      simp only [if_true, Bool.true_and, if_pos hin'.1, if_pos (show all[i] < (b.length : Int) by omega), hs']
      cases hct : s.contains all[i] with
      | true =>
        simp only [if_true, Bool.not_true, Bool.false_and]
        exact j hin true
      | false =>
        simp only [Bool.false_eq_true, if_false, Bool.not_false, Bool.true_and]
        by_cases p1 : (i : Int) > 0
        · by_cases p2 : (i : Int) < (o.length : Int)
          · have hwp : wrap64 ((i : Int) - 1) = ((i - 1 : Nat) : Int) := by rw [wrap_id (by omega) (by omega)]; omega
            have c4 : (0 : Int) ≤ ((i - 1 : Nat) : Int) := by omega
            have c5 : ((i - 1 : Nat) : Int) < (all.length : Int) := by omega
            simp only [if_pos p1, if_pos p2, hwp, if_pos c4, if_pos c5, decide_eq_true p1, decide_eq_true p2, Bool.true_and]
            exact j hin _
          · simp only [if_pos p1, if_neg p2, decide_eq_true p1, decide_eq_false p2, Bool.true_and, Bool.false_and, Bool.not_false]
            exact j hin false
        · simp only [if_neg p1, decide_eq_false p1, Bool.false_and, Bool.not_false, Bool.true_and]
          exact j hin false
theorem spec_clientOk_l (a : Int) (o f : List Int) (c : List CW) (b : List Bool) (ho : o.length ≤ 10000000) (hf : f.length ≤ 10000000) (hc : c.length ≤ 10000000) (h0 : 0 ≤ a) (h256 : a ≤ 256) (hb : b = List.replicate a.toNat false) (d : Nat) : ∀ i : Nat, i + d = c.length →
    Ev (fun k => spec_ClientOk.l0 k b (nums o f (c.take i)) (i : Int) a o c f) ((c.drop i).all short && impl_ClientOk.met (nums o f c) a o.length 0 (nums o f c) []) := by
  induction d with
  | zero =>
    intro i hi
    obtain rfl : i = c.length := by omega
    refine Ev.succ ?_
    have hn := nums_length o f c
    rw [List.take_length, List.drop_length]
    simp only [spec_ClientOk.l0, if_neg (show ¬ (c.length : Int) < (c.length : Int) by omega), List.all_nil, Bool.true_and]
    have h := spec_met_l a o f c (nums o f c) h0 h256 (by omega) (nums o f c).length 0 b [] (by omega) (by rw [hb, List.length_replicate]; omega) (by
      intro x x0 x1
      rw [hb]; unfold rdOf
      rw [List.getD_eq_getElem?_getD, List.getElem?_replicate]
      split <;> rfl)
    exact h
  | succ d ih =>
    intro i hi
    have hi2 : i < c.length := by omega
    have h1 := ih (i + 1) (by omega)
    have hn : (nums o f (c.take i)).length < 17592186044416 := by rw [nums_length, List.length_take]; omega
    rw [List.drop_eq_getElem_cons hi2, List.all_cons]
    refine Ev.succ ?_
    simp only [spec_ClientOk.l0, if_pos (show (i : Int) < (c.length : Int) by omega), if_pos (show (0 : Int) ≤ (i : Int) by omega), rdCW c i hi2]
    by_cases h9 : (c[i].f1.length : Int) > 9
    · simp only [if_pos h9, short, decide_eq_true h9, Bool.not_true, Bool.false_and]; exact Ev.now _
    · have hw : wrap64 ((i : Int) + 1) = ((i + 1 : Nat) : Int) := by rw [wrap_id (by omega) (by omega)]; omega
      have hsh : short c[i] = true := by unfold short; rw [decide_eq_false h9]; rfl
      simp only [if_neg h9, if_pos hn, hw, hsh, Bool.true_and, nums_snoc o f c i hi2]
      exact h1
theorem spec_clientOk (a : Int) (o f : List Int) (c : List CW) (ho : o.length ≤ 10000000) (hf : f.length ≤ 10000000) (hc : c.length ≤ 10000000) : Ev (fun k => spec_ClientOk.f k a o c f) (clientOk a o c f) := by
  have hn := nums_length o f c
  unfold spec_ClientOk.f clientOk
  simp only [spec_in_, Option.bind_some]
  cases h1 : inb a 0 256
  · simp only [Bool.false_eq_true, if_false, Bool.false_and]
    refine Ev.succ ?_
    simp only [spec_ClientOk.j0, if_true]; exact Ev.now _
  · rw [inb_iff] at h1
    simp only [if_true, Bool.true_and]
    by_cases h4 : (o.length : Int) > 4
    · simp only [if_pos h4, decide_eq_false (show ¬ (o.length : Int) ≤ 4 by omega), Bool.false_and]
      refine Ev.succ ?_
      simp only [spec_ClientOk.j0, if_true]; exact Ev.now _
    · simp only [if_neg h4, decide_eq_true (show (o.length : Int) ≤ 4 by omega), Bool.true_and]
      have hw : wrap64 (wrap64 ((o.length : Int) + (c.length : Int)) + (f.length : Int)) = ((nums o f c).length : Int) := by
        rw [wrap_id (x := (o.length : Int) + (c.length : Int)) (by omega) (by omega), wrap_id (by omega) (by omega), hn]; omega
      rw [hw]
      refine Ev.succ ?_
      by_cases ha : ((nums o f c).length : Int) = a
      · have hne : (((nums o f c).length : Int) != a) = false := by rw [bne_eq_false_iff_eq]; exact ha
        have h := spec_clientOk_l a o f c (List.replicate a.toNat false) ho hf hc h1.1 h1.2 rfl c.length 0 (by omega)
        rw [List.drop_zero, List.take_zero, show nums o f [] = [] ++ o ++ f by simp [nums]] at h
        simp only [spec_ClientOk.j0, hne, Bool.false_eq_true, if_false, if_pos h1.1, if_pos (show a.toNat ≤ 281474976710656 by omega), Option.bind_some, if_pos (show ([] : List Int).length + o.length < 17592186044416 by rw [List.length_nil]; omega), if_pos (show ([] ++ o).length + f.length < 17592186044416 by rw [List.nil_append]; omega), decide_eq_true ha, Bool.true_and]
        exact h
      · have hne : (((nums o f c).length : Int) != a) = true := by rw [bne_iff_ne]; exact ha
        simp only [spec_ClientOk.j0, hne, if_true, decide_eq_false ha, Bool.false_and]
        exact Ev.now _

/-! what a client becomes: the reference -/
/-- lengths that are small -/
def cbd (o : List Int) (c : List CW) (f : List Int) : Prop := o.length ≤ 2000000 ∧ c.length ≤ 2000000 ∧ (∀ z ∈ c, z.f1.length ≤ 2000000) ∧ f.length ≤ 4000000
theorem spec_copy_l (a : Int) (o : List Int) (c : List CW) (f : List Int) (a' : Int) (o' f' : List Int) (hc : c.length ≤ 2000000) (hb : ∀ z ∈ c, z.f1.length ≤ 2000000) (d : Nat) : ∀ i : Nat, i + d = c.length →
    Ev (fun k => spec_l20Client.l0 k (i : Int) a o c f a' o' (c.take i) f') (a', o', c, f') := by
  induction d with
  | zero =>
    intro i hi
    obtain rfl : i = c.length := by omega
    refine Ev.succ ?_
    rw [List.take_length]
    simp only [spec_l20Client.l0, if_neg (show ¬ (c.length : Int) < (c.length : Int) by omega)]
    exact Ev.now _
  | succ d ih =>
    intro i hi
    have hi2 : i < c.length := by omega
    have hz := hb _ (List.getElem_mem hi2)
    have e := ih (i + 1) (by omega)
    have ht : c.take (i + 1) = c.take i ++ [(⟨c[i].f0, [] ++ c[i].f1⟩ : CW)] := by rw [List.take_succ_eq_append_getElem hi2, List.nil_append]
    refine Ev.succ ?_
    simp only [spec_l20Client.l0, if_pos (show (i : Int) < (c.length : Int) by omega), if_pos (show (0 : Int) ≤ (i : Int) by omega), rdCW c i hi2, Option.bind_some, if_pos (show ([] : List Int).length + c[i].f1.length < 140737488355328 by rw [List.length_nil]; omega), if_pos (show (c.take i).length < 4398046511104 by rw [List.length_take]; omega)]
    rw [wrap_id (by omega) (by omega), ← ht]
    exact e
theorem spec_copy (a : Int) (o : List Int) (c : List CW) (f : List Int) (h : cbd o c f) : Ev (fun k => spec_l20Client.f k a o c f) (a, o, c, f) := by
  obtain ⟨h1, h2, h3, h4⟩ := h
  unfold spec_l20Client.f
  simp only [Option.bind_some, if_pos (show ([] : List Int).length + o.length < 17592186044416 by rw [List.length_nil]; omega), if_pos (show ([] : List Int).length + f.length < 17592186044416 by rw [List.length_nil]; omega), List.nil_append]
  have e := spec_copy_l a o c f a o f h2 h3 c.length 0 (by omega)
  rw [List.take_zero] at e
  exact e
abbrev CL := Int × List Int × List CW × List Int
def noCL : CL := (0, [], [], [])
def hearC (a : Int) (o : List Int) (c : List CW) (f : List Int) (n : Int) (w : List Int) : Int × List Int × List CW × List Int × Bool :=
  if clientOk a o c f then (if o.contains n && !decide ((w.length : Int) > 9) then (a, o.filter (fun x => decide (x ≠ n)), c ++ [⟨n, w⟩], f, true) else (a, o, c, f, false)) else (0, [], [], [], false)
theorem spec_hear_l (a : Int) (o : List Int) (c : List CW) (f : List Int) (n : Int) (w : List Int) (ho : o.length ≤ 2000000) (hc : c.length ≤ 2000000) (hw : w.length ≤ 2000000) (d : Nat) : ∀ i : Nat, i + d = o.length →
    Ev (fun k => spec_ClientHear.l0 k ((o.take i).filter (fun x => decide (x ≠ n))) ((o.take i).contains n) (i : Int) a o c f n w a o c f) (if o.contains n && !decide ((w.length : Int) > 9) then (a, o.filter (fun x => decide (x ≠ n)), c ++ [⟨n, w⟩], f, true) else (a, o, c, f, false)) := by
  induction d with
  | zero =>
    intro i hi
    obtain rfl : i = o.length := by omega
    refine Ev.succ ?_
    rw [List.take_length]
    simp only [spec_ClientHear.l0, if_neg (show ¬ (o.length : Int) < (o.length : Int) by omega)]
    cases h : o.contains n
    · simp only [Bool.false_eq_true, if_false, Bool.false_and]; exact Ev.now _
    · by_cases h9 : (w.length : Int) > 9
      · simp only [if_true, if_pos h9, decide_eq_true h9, Bool.not_true, Bool.and_false, Bool.false_eq_true, if_false]; exact Ev.now _
      · simp only [if_true, if_neg h9, decide_eq_false h9, Bool.not_false, Bool.and_true, Option.bind_some, if_pos (show ([] : List Int).length + w.length < 140737488355328 by rw [List.length_nil]; omega), if_pos (show c.length < 4398046511104 by omega), List.nil_append]; exact Ev.now _
  | succ d ih =>
    intro i hi
    have hi2 : i < o.length := by omega
    have e := ih (i + 1) (by omega)
    have ht := List.take_succ_eq_append_getElem hi2
    have hfl : ((o.take i).filter (fun x => decide (x ≠ n))).length ≤ i := Nat.le_trans (List.length_filter_le _ _) (by rw [List.length_take]; omega)
    rw [ht, List.filter_append, List.contains_append] at e
    refine Ev.succ ?_
    simp only [spec_ClientHear.l0, if_pos (show (i : Int) < (o.length : Int) by omega), if_pos (show (0 : Int) ≤ (i : Int) by omega), rd_get o i hi2]
    by_cases hn : o[i] = n
    · have e1 : List.filter (fun x => decide (x ≠ n)) [o[i]] = [] := by simp [hn]
      have e2 : ((o.take i).contains n || [o[i]].contains n) = true := by simp [hn]
      rw [e1, List.append_nil, e2] at e
      simp only [if_pos hn]
      rw [wrap_id (by omega) (by omega)]
      exact e
    · have e1 : List.filter (fun x => decide (x ≠ n)) [o[i]] = [o[i]] := by simp [hn]
      have e2 : ((o.take i).contains n || [o[i]].contains n) = (o.take i).contains n := by
        have : [o[i]].contains n = false := by simp; exact fun h => hn h.symm
        rw [this, Bool.or_false]
      rw [e1, e2] at e
      simp only [if_neg hn, if_pos (show ((o.take i).filter (fun x => decide (x ≠ n))).length < 17592186044416 by omega)]
      rw [wrap_id (by omega) (by omega)]
      exact e
theorem spec_hear (a : Int) (o : List Int) (c : List CW) (f : List Int) (n : Int) (w : List Int) (h : cbd o c f) (hw : w.length ≤ 2000000) : Ev (fun k => spec_ClientHear.f k a o c f n w) (hearC a o c f n w) := by
  unfold spec_ClientHear.f hearC
  refine Ev.bind (spec_clientOk a o f c (by have := h.1; omega) (by have := h.2.2.2; omega) (by have := h.2.1; omega)) ?_
  cases clientOk a o c f
  · simp only [Bool.false_eq_true, if_false]; exact Ev.now _
  · simp only [if_true]
    refine Ev.bind (spec_copy a o c f h) ?_
    exact spec_hear_l a o c f n w h.1 h.2.1 hw o.length 0 (by omega)
def overC (a : Int) (o : List Int) (c : List CW) (f : List Int) : CL := if clientOk a o c f then (a, [], c, f ++ o) else noCL
theorem spec_over (a : Int) (o : List Int) (c : List CW) (f : List Int) (h : cbd o c f) : Ev (fun k => spec_ClientOver.f k a o c f) (overC a o c f) := by
  unfold spec_ClientOver.f overC
  refine Ev.bind (spec_clientOk a o f c (by have := h.1; omega) (by have := h.2.2.2; omega) (by have := h.2.1; omega)) ?_
  cases clientOk a o c f
  · simp only [Bool.false_eq_true, if_false]; exact Ev.now _
  · simp only [if_true]
    refine Ev.bind (spec_copy a o c f h) ?_
    simp only [if_pos (show f.length + o.length < 17592186044416 by have := h.1; have := h.2.2.2; omega)]
    exact Ev.now _
def wbytes (a : Int) (w : List Int) : List Int := if inb a 0 255 && !decide ((w.length : Int) > 9) then [(w.length : Int) % 256, a % 256] ++ w else []
theorem spec_wbytes (a : Int) (w : List Int) : spec_WordsBytes.f a w = some (wbytes a w) := by
  unfold spec_WordsBytes.f wbytes
  simp only [spec_in_, Option.bind_some]
  cases inb a 0 255
  · simp
  · by_cases h9 : (w.length : Int) > 9
    · simp only [if_true, if_pos h9, decide_eq_true h9, Bool.not_true, Bool.and_false, Bool.false_eq_true, if_false]
    · simp only [if_true, if_neg h9, decide_eq_false h9, Bool.not_false, Bool.and_true]
      rw [if_pos (show [(w.length : Int) % 256, a % 256].length + w.length < 140737488355328 by simp only [List.length_cons, List.length_nil]; omega)]
def askC (a : Int) (o : List Int) (c : List CW) (f : List Int) (w : List Int) : Int × List Int × List CW × List Int × List Int × Bool :=
  if clientOk a o c f && !decide ((w.length : Int) > 9) then (if decide ((o.length : Int) = 4) || decide (a = 256) then (a, o, c, f, [], false) else (a + 1, o ++ [a], c, f, wbytes a w, true)) else (0, [], [], [], [], false)
theorem clientOk_next {a : Int} {o : List Int} {c : List CW} {f : List Int} (h : clientOk a o c f = true) : 0 ≤ a ∧ a ≤ 256 := by
  unfold clientOk at h
  rw [Bool.and_eq_true, inb_iff] at h
  exact h.1
theorem spec_ask (a : Int) (o : List Int) (c : List CW) (f : List Int) (w : List Int) (h : cbd o c f) : Ev (fun k => spec_ClientAsk.f k a o c f w) (askC a o c f w) := by
  unfold spec_ClientAsk.f askC
  refine Ev.bind (spec_clientOk a o f c (by have := h.1; omega) (by have := h.2.2.2; omega) (by have := h.2.1; omega)) ?_
  cases hok : clientOk a o c f
  · simp only [Bool.false_eq_true, if_false, Bool.false_and]
    refine Ev.succ ?_
    simp only [spec_ClientAsk.j0, if_true]; exact Ev.now _
  · have ha := clientOk_next hok
    simp only [if_true, Bool.true_and]
    refine Ev.succ ?_
    by_cases h9 : (w.length : Int) > 9
    · simp only [spec_ClientAsk.j0, decide_eq_true h9, if_true, Bool.not_true, Bool.false_eq_true, if_false]; exact Ev.now _
    · simp only [spec_ClientAsk.j0, decide_eq_false h9, Bool.false_eq_true, if_false, Bool.not_false, if_true]
      refine Ev.bind (spec_copy a o c f h) ?_
      by_cases h4 : (o.length : Int) = 4
      · simp only [if_pos h4, decide_eq_true h4, Bool.true_or, if_true]; exact Ev.now _
      · by_cases h256 : a = 256
        · simp only [if_neg h4, if_pos h256, decide_eq_true h256, Bool.or_true, if_true]; exact Ev.now _
        · simp only [if_neg h4, if_neg h256, decide_eq_false h4, decide_eq_false h256, Bool.or_false, Bool.false_eq_true, if_false, if_pos (show o.length < 17592186044416 by have := h.1; omega), spec_wbytes, Option.bind_some]
          rw [wrap_id (by omega) (by omega)]
          exact Ev.now _

/-! what it says that a client is ok -/
theorem met_iff (all : List Int) (a : Int) (n : Nat) (h0 : 0 ≤ a) (h256 : a ≤ 256) (hall : all.length ≤ 100000000) (d : Nat) : ∀ (i : Nat) (s : List Int), i + d = all.length →
    (impl_ClientOk.met all a n (i : Int) (all.drop i) s = true ↔ (∀ x ∈ all.drop i, 0 ≤ x ∧ x < a) ∧ (all.drop i).Nodup ∧ (∀ x ∈ all.drop i, x ∉ s) ∧ (∀ j (hj : j < all.length), i ≤ j → 0 < j → j < n → all[j - 1]'(by omega) < all[j])) := by
  induction d with
  | zero =>
    intro i s hi
    obtain rfl : i = all.length := by omega
    rw [List.drop_length, impl_ClientOk.met]
    simp only [true_iff]
    exact ⟨by simp, by simp, by simp, fun j hj h => absurd hj (by omega)⟩
  | succ d ih =>
    intro i s hi
    have hi2 : i < all.length := by omega
    have hwa : wrap64 (a - 1) = a - 1 := wrap_id (by omega) (by omega)
    have e := ih (i + 1) (all[i] :: s) (by omega)
    rw [List.drop_eq_getElem_cons hi2, met_step, hwa, show ((i : Int) + 1) = ((i + 1 : Nat) : Int) by omega]
    simp only [Bool.and_eq_true, inb_iff, e, Bool.not_eq_true', List.nodup_cons, List.mem_cons]
    have hasc : (decide ((i : Int) > 0) && (decide ((i : Int) < (n : Int)) && decide (rd all (wrap64 ((i : Int) - 1)) ≥ all[i]))) = false ↔ (0 < i → i < n → all[i - 1]'(by omega) < all[i]) := by
      by_cases p1 : 0 < i
      · by_cases p2 : i < n
        · have hwp : wrap64 ((i : Int) - 1) = ((i - 1 : Nat) : Int) := by rw [wrap_id (by omega) (by omega)]; omega
          have hr := rd_get all (i - 1) (by omega)
          rw [hwp, hr, decide_eq_true (show (i : Int) > 0 by omega), decide_eq_true (show (i : Int) < (n : Int) by omega)]
          simp [p1, p2]
        · rw [decide_eq_false (show ¬ (i : Int) < (n : Int) by omega)]
          simp [p2]
      · rw [decide_eq_false (show ¬ (i : Int) > 0 by omega)]
        simp [p1]
    rw [hasc]
    constructor
    · rintro ⟨⟨x0, x1⟩, hs, ha, hb, hn, hc, hd⟩
      refine ⟨?_, ⟨?_, hn⟩, ?_, ?_⟩
      · rintro x (rfl | hx)
        · exact ⟨x0, by omega⟩
        · exact hb x hx
      · intro hx; exact hc _ hx (Or.inl rfl)
      · rintro x (rfl | hx)
        · simpa using hs
        · exact fun h => hc x hx (Or.inr h)
      · intro j hj hij j0 jn
        by_cases hji : j = i
        · subst hji; exact ha j0 jn
        · exact hd j hj (by omega) j0 jn
    · rintro ⟨hb, ⟨hni, hn⟩, hc, hd⟩
      refine ⟨⟨(hb _ (Or.inl rfl)).1, by have := (hb _ (Or.inl rfl)).2; omega⟩, by simpa using hc _ (Or.inl rfl), fun i0 i1 => hd i hi2 (Nat.le_refl _) i0 i1, fun x hx => hb x (Or.inr hx), hn, ?_, fun j hj hij => hd j hj (by omega)⟩
      intro x hx h
      rcases h with rfl | h
      · exact hni hx
      · exact hc x (Or.inr hx) h
/-- what 'ok' says, in plain words -/
def okC (a : Int) (o : List Int) (c : List CW) (f : List Int) : Prop :=
  (0 ≤ a ∧ a ≤ 256) ∧ o.length ≤ 4 ∧ ((nums o f c).length : Int) = a ∧ (∀ z ∈ c, z.f1.length ≤ 9) ∧ (∀ x ∈ nums o f c, 0 ≤ x ∧ x < a) ∧ (nums o f c).Nodup ∧ ∀ j (hj : j < o.length), 0 < j → o[j - 1]'(by omega) < o[j]
theorem nums_o (o f : List Int) (c : List CW) (j : Nat) (hj : j < o.length) (h : j < (nums o f c).length := by rw [nums_length]; omega) : (nums o f c)[j] = o[j] := by
  unfold nums at h ⊢
  rw [List.getElem_append_left (by rw [List.length_append]; omega), List.getElem_append_left hj]
theorem clientOk_iff (a : Int) (o : List Int) (c : List CW) (f : List Int) : clientOk a o c f = true ↔ okC a o c f := by
  unfold clientOk okC
  simp only [Bool.and_eq_true, inb_iff, decide_eq_true_eq]
  constructor
  · rintro ⟨h0, h1, h2, h3, h4⟩
    have hm := met_iff (nums o f c) a o.length h0.1 h0.2 (by omega) (nums o f c).length 0 [] (by omega)
    rw [List.drop_zero] at hm
    obtain ⟨m1, m2, _, m4⟩ := hm.1 h4
    refine ⟨h0, by omega, h2, ?_, m1, m2, ?_⟩
    · intro z hz
      have := List.all_eq_true.1 h3 z hz
      unfold short at this
      simp at this
      omega
    · intro j hj j0
      have hl : j < (nums o f c).length := by rw [nums_length]; omega
      have := m4 j hl (by omega) j0 hj
      rw [nums_o o f c j hj, nums_o o f c (j - 1) (by omega)] at this
      exact this
  · rintro ⟨h0, h1, h2, h3, h4, h5, h6⟩
    have hm := met_iff (nums o f c) a o.length h0.1 h0.2 (by omega) (nums o f c).length 0 [] (by omega)
    rw [List.drop_zero] at hm
    refine ⟨h0, by omega, h2, ?_, hm.2 ⟨h4, h5, by simp, ?_⟩⟩
    · rw [List.all_eq_true]
      intro z hz
      have := h3 z hz
      unfold short
      simp; omega
    · intro j hj _ j0 jn
      have := h6 j jn j0
      rw [nums_o o f c j jn, nums_o o f c (j - 1) (by omega)]
      exact this
theorem ok_over {a : Int} {o : List Int} {c : List CW} {f : List Int} (h : okC a o c f) : okC a [] c (f ++ o) := by
  obtain ⟨h0, h1, h2, h3, h4, h5, h6⟩ := h
  have hp : (nums [] (f ++ o) c).Perm (nums o f c) := by
    unfold nums
    rw [List.nil_append]
    exact List.Perm.append_right _ List.perm_append_comm
  exact ⟨h0, by simp, by rw [hp.length_eq]; exact h2, h3, fun x hx => h4 x (hp.mem_iff.1 hx), hp.nodup_iff.2 h5, fun j hj => absurd hj (by simp)⟩
theorem ok_zero : okC 0 [] [] [] := ⟨by omega, by simp, by simp [nums], by simp, by simp [nums], by simp [nums], fun j hj => absurd hj (by simp)⟩
theorem ok_ask {a : Int} {o : List Int} {c : List CW} {f : List Int} (h : okC a o c f) (h4' : o.length ≠ 4) (ha : a ≠ 256) : okC (a + 1) (o ++ [a]) c f := by
  obtain ⟨h0, h1, h2, h3, h4, h5, h6⟩ := h
  have hp : (nums (o ++ [a]) f c).Perm (a :: nums o f c) := by
    unfold nums
    rw [List.append_assoc, List.append_assoc, List.append_assoc]
    exact List.perm_middle
  have hmo : ∀ x ∈ o, x < a := fun x hx => (h4 x (by unfold nums; rw [List.mem_append, List.mem_append]; exact Or.inl (Or.inl hx))).2
  refine ⟨by omega, by rw [List.length_append, List.length_singleton]; omega, by rw [hp.length_eq, List.length_cons]; omega, h3, ?_, hp.nodup_iff.2 ?_, ?_⟩
  · intro x hx
    rcases List.mem_cons.1 (hp.mem_iff.1 hx) with rfl | hx
    · omega
    · have := h4 x hx; omega
  · rw [List.nodup_cons]
    exact ⟨fun hx => by have := h4 a hx; omega, h5⟩
  · intro j hj j0
    rw [List.length_append, List.length_singleton] at hj
    by_cases hjl : j < o.length
    · rw [List.getElem_append_left (by omega), List.getElem_append_left hjl]; exact h6 j hjl j0
    · have hje : j = o.length := by omega
      subst hje
      rw [List.getElem_append_left (by omega), List.getElem_append_right (by omega)]
      simp only [Nat.sub_self, List.getElem_singleton]
      exact hmo _ (List.getElem_mem (by omega))
theorem sorted_of {o : List Int} (h : ∀ j (hj : j < o.length), 0 < j → o[j - 1]'(by omega) < o[j]) : o.Pairwise (· < ·) := by
  rw [List.pairwise_iff_getElem]
  intro i j hi hj hij
  induction j with
  | zero => omega
  | succ j ih =>
    have h1 := h (j + 1) hj (by omega)
    simp only [Nat.add_sub_cancel] at h1
    by_cases e : i = j
    · subst e; exact h1
    · have := ih (by omega) (by omega); omega
theorem of_sorted {o : List Int} (h : o.Pairwise (· < ·)) : ∀ j (hj : j < o.length), 0 < j → o[j - 1]'(by omega) < o[j] := fun j hj j0 => List.pairwise_iff_getElem.1 h (j - 1) j (by omega) hj (by omega)
theorem ok_hear {a : Int} {o : List Int} {c : List CW} {f : List Int} (h : okC a o c f) (n : Int) (w : List Int) (hn : n ∈ o) (hw : w.length ≤ 9) : okC a (o.filter (fun x => decide (x ≠ n))) (c ++ [⟨n, w⟩]) f := by
  obtain ⟨h0, h1, h2, h3, h4, h5, h6⟩ := h
  have hno : o.Nodup := by unfold nums at h5; rw [List.append_assoc] at h5; exact (List.nodup_append.1 h5).1
  have hpo : o.Perm (n :: o.filter (fun x => decide (x ≠ n))) := by
    have e1 := List.perm_cons_erase hn
    rw [hno.erase_eq_filter n] at e1
    have e2 : o.filter (fun x => x != n) = o.filter (fun x => decide (x ≠ n)) := by
      apply List.filter_congr
      intro x _
      by_cases hh : x = n <;> simp [hh]
    rw [← e2]; exact e1
  have hp : (nums (o.filter (fun x => decide (x ≠ n))) f (c ++ [⟨n, w⟩])).Perm (nums o f c) := by
    unfold nums
    rw [List.map_append, ← List.append_assoc]
    have e1 : (List.filter (fun x => decide (x ≠ n)) o ++ f ++ List.map (fun z : CW => z.f0) c ++ List.map (fun z : CW => z.f0) [⟨n, w⟩]).Perm (n :: (List.filter (fun x => decide (x ≠ n)) o ++ f ++ List.map (fun z : CW => z.f0) c)) := by
      simp only [List.map_cons, List.map_nil]
      exact List.perm_append_singleton _ _
    refine e1.trans ?_
    rw [List.append_assoc, List.append_assoc, ← List.cons_append]
    exact (List.Perm.append_right _ hpo.symm)
  refine ⟨h0, Nat.le_trans (List.length_filter_le _ _) h1, by rw [hp.length_eq]; exact h2, ?_, fun x hx => h4 x (hp.mem_iff.1 hx), hp.nodup_iff.2 h5, of_sorted ((sorted_of h6).filter _)⟩
  intro z hz
  rw [List.mem_append, List.mem_singleton] at hz
  rcases hz with hz | rfl
  · exact h3 z hz
  · exact hw

/-! drawing -/
theorem xor_nn (a b : Int) (a0 : 0 ≤ a) (a1 : a < 9223372036854775808) (b0 : 0 ≤ b) (b1 : b < 9223372036854775808) : 0 ≤ Go.bits .xor .i64 a b ∧ Go.bits .xor .i64 a b < 9223372036854775808 := by
  obtain ⟨x, rfl⟩ := Int.eq_ofNat_of_zero_le a0
  obtain ⟨y, rfl⟩ := Int.eq_ofNat_of_zero_le b0
  have hx : x < 2 ^ 63 := by omega
  have hy : y < 2 ^ 63 := by omega
  have hxy : x ^^^ y < 2 ^ 63 := Nat.xor_lt_two_pow hx hy
  have h1 : (BitVec.ofInt 64 (x : Int)).toNat = x := by
    rw [BitVec.ofInt_natCast, BitVec.toNat_ofNat]; exact Nat.mod_eq_of_lt (by omega)
  have h2 : (BitVec.ofInt 64 (y : Int)).toNat = y := by
    rw [BitVec.ofInt_natCast, BitVec.toNat_ofNat]; exact Nat.mod_eq_of_lt (by omega)
  have h3 : Go.bits .xor .i64 (x : Int) (y : Int) = ((x ^^^ y : Nat) : Int) := by
    show IntKind.i64.wrap ((BitVec.ofInt 64 (x : Int) ^^^ BitVec.ofInt 64 (y : Int)).toNat : Int) = _
    rw [BitVec.toNat_xor, h1, h2, IntKind.wrap_i64]
    omega
  rw [h3]
  omega
theorem tmod_in (x n : Int) (h0 : 0 ≤ x) (hn : 1 ≤ n) : 0 ≤ Int.tmod x n ∧ Int.tmod x n < n := by
  rw [Int.tmod_eq_emod_of_nonneg h0]
  exact ⟨Int.emod_nonneg _ (by omega), Int.emod_lt_of_pos _ (by omega)⟩
theorem tdiv_in (x n : Int) (h0 : 0 ≤ x) (hn : 1 ≤ n) : 0 ≤ Int.tdiv x n ∧ Int.tdiv x n ≤ x := by
  rw [Int.tdiv_eq_ediv_of_nonneg h0]
  exact ⟨Int.ediv_nonneg h0 (by omega), Int.ediv_le_self _ h0⟩
theorem rd_byte {s : List Int} (hb : isBytes s) (i : Int) : 0 ≤ rd s i ∧ rd s i ≤ 255 := by
  unfold rd
  rw [List.getD_eq_getElem?_getD]
  by_cases h : i.toNat < s.length
  · rw [List.getElem?_eq_getElem h]; exact hb _ (List.getElem_mem h)
  · rw [List.getElem?_eq_none (by omega)]; exact ⟨Int.le_refl _, by decide⟩
theorem pick (s : List Int) (p n : Int) (hb : isBytes s) (hl : s.length ≤ 2000) (h0 : 0 ≤ p) (hp : p ≤ 1000000000) (hn : 1 ≤ n) (hn1 : n ≤ 1000000000) :
    ∃ r, Ev (fun k => spec_l20Rd_pick.f k s p n) (r, p + 1) ∧ 0 ≤ r ∧ r < n := by
  unfold spec_l20Rd_pick.f
  simp only [if_neg (show ¬ n < 1 by omega)]
  rw [wrap_id (x := p + 1) (by omega) (by omega)]
  by_cases hs : s.length = 0
  · refine ⟨0, Ev.succ ?_, by omega, by omega⟩
    simp only [spec_l20Rd_pick.j0, hs, Int.natCast_zero, beq_self_eq_true, if_true]
    exact Ev.now _
  · have hz : ((s.length : Int) == 0) = false := by rw [beq_eq_false_iff_ne]; omega
    simp only [hz]
    by_cases h1 : p < (s.length : Int)
    · have hx := rd_byte hb p
      have hm := tmod_in (rd s p) n hx.1 hn
      refine ⟨Int.tmod (rd s p) n, Ev.succ ?_, hm.1, hm.2⟩
      simp only [spec_l20Rd_pick.j0, Bool.false_eq_true, if_false, show p + 1 - 1 = p by omega]
      rw [wrap_id (x := p) (by omega) (by omega), wrap_id (x := rd s p) (by omega) (by omega)]
      simp only [if_pos h1, if_pos h0, if_neg (show ¬ n = 0 by omega)]
      exact Ev.now _
    · have m1 := tmod_in p s.length h0 (by omega)
      have m2 := tmod_in (p * 7 + 3) s.length (by omega) (by omega)
      have d1 := tdiv_in p s.length h0 (by omega)
      have x1 := rd_byte hb (Int.tmod p s.length)
      have x2 := rd_byte hb (Int.tmod (p * 7 + 3) s.length)
      let v := rd s (Int.tmod p s.length) * 131 + rd s (Int.tmod (p * 7 + 3) s.length) * 1117 + p * 29 + Int.tdiv p s.length * 53
      have v0 : 0 ≤ v := by show 0 ≤ _ + _ + _ + _; omega
      have v1 : v < 9223372036854775808 := by show _ + _ + _ + _ < _; omega
      have d2 := tdiv_in v 64 v0 (by omega)
      have b1 := xor_nn v (Int.tdiv v 64) v0 v1 d2.1 (by omega)
      have hm := tmod_in (Go.bits .xor .i64 v (Int.tdiv v 64)) n b1.1 hn
      refine ⟨_, Ev.succ ?_, hm.1, hm.2⟩
      simp only [spec_l20Rd_pick.j0, Bool.false_eq_true, if_false, show p + 1 - 1 = p by omega]
      rw [wrap_id (x := p) (by omega) (by omega)]
      rw [wrap_id (x := p * 7) (by omega) (by omega), wrap_id (x := p * 7 + 3) (by omega) (by omega), wrap_id (x := p * 29) (by omega) (by omega), wrap_id (x := rd s (Int.tmod p s.length)) (by omega) (by omega),
        wrap_id (x := rd s (Int.tmod (p * 7 + 3) s.length)) (by omega) (by omega), wrap_id (x := rd s (Int.tmod p s.length) * 131) (by omega) (by omega), wrap_id (x := rd s (Int.tmod (p * 7 + 3) s.length) * 1117) (by omega) (by omega),
        wrap_id (x := rd s (Int.tmod p s.length) * 131 + rd s (Int.tmod (p * 7 + 3) s.length) * 1117) (by omega) (by omega), wrap_id (x := rd s (Int.tmod p s.length) * 131 + rd s (Int.tmod (p * 7 + 3) s.length) * 1117 + p * 29) (by omega) (by omega),
        wrap_id (x := Int.tdiv p s.length) (by omega) (by omega), wrap_id (x := Int.tdiv p s.length * 53) (by omega) (by omega), wrap_id (x := rd s (Int.tmod p s.length) * 131 + rd s (Int.tmod (p * 7 + 3) s.length) * 1117 + p * 29 + Int.tdiv p s.length * 53) (by omega) (by omega)]
      simp only [if_neg h1, if_neg (show ¬ (s.length : Int) = 0 by omega), if_pos m1.1, if_pos m1.2, if_pos m2.1, if_pos m2.2, if_neg (show ¬ n = 0 by omega)]
      rw [wrap_id (x := Int.tdiv v 64) (by omega) (by omega)]
      exact Ev.now _
theorem odd (s : List Int) (p n : Int) (hb : isBytes s) (hl : s.length ≤ 2000) (h0 : 0 ≤ p) (hp : p ≤ 1000000000) (hn1 : n ≤ 1000000000) :
    ∃ b q, Ev (fun k => spec_l20Rd_odd.f k s p n) (b, q) ∧ 0 ≤ q ∧ q ≤ p + 1 := by
  unfold spec_l20Rd_odd.f
  by_cases h : n > 0
  · simp only [if_pos h]
    obtain ⟨r, e, _, _⟩ := pick s p n hb hl h0 hp (by omega) hn1
    exact ⟨_, _, Ev.bind e (Ev.now _), by omega, by omega⟩
  · simp only [if_neg h]
    exact ⟨_, _, Ev.now _, h0, by omega⟩
theorem open_ (l : List Int) (hb : isBytes l) : ∃ s, spec_l20Open.f l = some (s, 0) ∧ isBytes s ∧ s.length ≤ 2000 := by
  unfold spec_l20Open.f
  by_cases h : (l.length : Int) > 2000
  · simp only [if_pos h, if_pos (show (2000 : Int) ≤ (l.length : Int) by omega)]
    exact ⟨_, rfl, fun x hx => hb x (List.mem_of_mem_take hx), by simp; omega⟩
  · simp only [if_neg h]
    exact ⟨_, rfl, hb, by omega⟩

/-! drawing bytes -/
theorem isBytes_snoc {l : List Int} {v : Int} (h : isBytes l) (hv : 0 ≤ v ∧ v ≤ 255) : isBytes (l ++ [v]) := by
  intro y hy
  rw [List.mem_append] at hy
  rcases hy with hy | hy
  · exact h y hy
  · rw [List.mem_singleton] at hy; omega
theorem bytes_l (s : List Int) (hb : isBytes s) (hl : s.length ≤ 2000) (n : Nat) : ∀ (acc : List Int) (p : Int), isBytes acc → n + acc.length ≤ 100000 → 0 ≤ p → p + 2 * n ≤ 1000000000 →
    ∃ x q, Ev (fun k => spec_l20Rd_bytes.l0 k n acc s p) (x, q) ∧ isBytes x ∧ x.length = n + acc.length ∧ 0 ≤ q ∧ q ≤ p + 2 * n := by
  induction n with
  | zero =>
    intro acc p ha _ h0 _
    refine ⟨acc, p, Ev.succ ?_, ha, by omega, h0, by omega⟩
    simp only [spec_l20Rd_bytes.l0]
    exact Ev.now _
  | succ n ih =>
    intro acc p ha hn h0 hp
    obtain ⟨r1, e1, r10, r11⟩ := pick s p 3 hb hl h0 (by omega) (by omega) (by omega)
    by_cases h1 : r1 = 0
    · obtain ⟨r2, e2, r20, r21⟩ := pick s (p + 1) 256 hb hl (by omega) (by omega) (by omega) (by omega)
      obtain ⟨x, q, e, hx, hxl, hq0, hq1⟩ := ih (acc ++ [r2 % 256]) (p + 1 + 1) (isBytes_snoc ha (by omega)) (by simp; omega) (by omega) (by omega)
      refine ⟨x, q, Ev.succ ?_, hx, by simp at hxl; omega, hq0, by omega⟩
      simp only [spec_l20Rd_bytes.l0, if_pos (show ((n + 1 : Nat) : Int) > 0 by omega)]
      refine Ev.bind e1 ?_
      simp only [if_pos h1]
      refine Ev.bind e2 ?_
      simp only [if_pos (show acc.length < 140737488355328 by omega)]
      rw [wrap_id (x := ((n + 1 : Nat) : Int) - 1) (by omega) (by omega), show ((n + 1 : Nat) : Int) - 1 = (n : Int) by omega]
      exact e
    · obtain ⟨r2, e2, r20, r21⟩ := pick s (p + 1) 3 hb hl (by omega) (by omega) (by omega) (by omega)
      obtain ⟨x, q, e, hx, hxl, hq0, hq1⟩ := ih (acc ++ [wrap64 (r2 + 97) % 256]) (p + 1 + 1) (isBytes_snoc ha (by omega)) (by simp; omega) (by omega) (by omega)
      refine ⟨x, q, Ev.succ ?_, hx, by simp at hxl; omega, hq0, by omega⟩
      simp only [spec_l20Rd_bytes.l0, if_pos (show ((n + 1 : Nat) : Int) > 0 by omega)]
      refine Ev.bind e1 ?_
      simp only [if_neg h1]
      refine Ev.bind e2 ?_
      simp only [if_pos (show acc.length < 140737488355328 by omega)]
      rw [wrap_id (x := ((n + 1 : Nat) : Int) - 1) (by omega) (by omega), show ((n + 1 : Nat) : Int) - 1 = (n : Int) by omega]
      exact e
theorem bytes_ (s : List Int) (n p : Int) (hb : isBytes s) (hl : s.length ≤ 2000) (hn0 : 0 ≤ n) (hn : n ≤ 100000) (h0 : 0 ≤ p) (hp : p ≤ 999000000) :
    ∃ x q, Ev (fun k => spec_l20Rd_bytes.f k s p n) (x, q) ∧ isBytes x ∧ (x.length : Int) = n ∧ 0 ≤ q ∧ q ≤ p + 2 * n := by
  obtain ⟨m, rfl⟩ := Int.eq_ofNat_of_zero_le hn0
  obtain ⟨x, q, e, h1, h2, h3, h4⟩ := bytes_l s hb hl m [] p (by intro y hy; cases hy) (by simp; omega) h0 (by omega)
  exact ⟨x, q, e, h1, by simp at h2; omega, h3, h4⟩

/-! a client that is drawn: bounds alone -/
/-- so many numbers at most, words of at most 10 bytes, Next in bounds -/
def cdr (m : Nat) (a : Int) (o : List Int) (c : List CW) (f : List Int) : Prop := o.length + c.length + f.length ≤ m ∧ (∀ z ∈ c, z.f1.length ≤ 100) ∧ -1000 ≤ a ∧ a ≤ 1000
def cdf (o : List Int) (c : List CW) (f : List Int) : Prop := o.length + c.length + f.length ≤ 200 ∧ ∀ z ∈ c, z.f1.length ≤ 100
theorem cdr_zero (m : Nat) : cdr m 0 [] [] [] := ⟨by simp, by simp, by omega, by omega⟩
theorem cdr_cbd {m : Nat} {a : Int} {o : List Int} {c : List CW} {f : List Int} (h : cdr m a o c f) (hm : m ≤ 1000) : cbd o c f := ⟨by have := h.1; omega, by have := h.1; omega, fun z hz => by have := h.2.1 z hz; omega, by have := h.1; omega⟩
theorem filter_lt (o : List Int) (n : Int) (h : o.contains n = true) : (o.filter (fun x => decide (x ≠ n))).length + 1 ≤ o.length := by
  have hm : n ∈ o := by simpa using h
  have := List.length_filter_lt_length_iff_exists (p := fun x => decide (x ≠ n)) (l := o)
  have h2 := this.2 ⟨n, hm, by simp⟩
  omega
theorem cdr_hear {m : Nat} {a : Int} {o : List Int} {c : List CW} {f : List Int} (h : cdr m a o c f) (n : Int) (w : List Int) (hw : w.length ≤ 100) : cdr m (hearC a o c f n w).1 (hearC a o c f n w).2.1 (hearC a o c f n w).2.2.1 (hearC a o c f n w).2.2.2.1 := by
  obtain ⟨h1, h2, h3⟩ := h
  unfold hearC
  by_cases k1 : clientOk a o c f = true
  · rw [if_pos k1]
    by_cases k2 : (o.contains n && !decide ((w.length : Int) > 9)) = true
    · rw [if_pos k2]
      rw [Bool.and_eq_true] at k2
      have := filter_lt o n k2.1
      refine ⟨by simp only [List.length_append, List.length_singleton]; omega, ?_, h3⟩
      intro z hz
      rw [List.mem_append, List.mem_singleton] at hz
      rcases hz with hz | rfl
      · exact h2 z hz
      · exact hw
    · rw [if_neg k2]; exact ⟨h1, h2, h3⟩
  · rw [if_neg k1]; exact cdr_zero _
theorem cdr_over {m : Nat} {a : Int} {o : List Int} {c : List CW} {f : List Int} (h : cdr m a o c f) : cdr m (overC a o c f).1 (overC a o c f).2.1 (overC a o c f).2.2.1 (overC a o c f).2.2.2 := by
  obtain ⟨h1, h2, h3⟩ := h
  unfold overC
  by_cases k1 : clientOk a o c f = true
  · rw [if_pos k1]; exact ⟨by simp only [List.length_append, List.length_nil]; omega, h2, h3⟩
  · rw [if_neg k1]; exact cdr_zero _
theorem cdr_ask {m : Nat} {a : Int} {o : List Int} {c : List CW} {f : List Int} (h : cdr m a o c f) (w : List Int) : cdr (m + 1) (askC a o c f w).1 (askC a o c f w).2.1 (askC a o c f w).2.2.1 (askC a o c f w).2.2.2.1 := by
  obtain ⟨h1, h2, h3⟩ := h
  unfold askC
  by_cases k1 : (clientOk a o c f && !decide ((w.length : Int) > 9)) = true
  · rw [if_pos k1]
    have ha : 0 ≤ a ∧ a ≤ 256 := by rw [Bool.and_eq_true] at k1; exact clientOk_next k1.1
    by_cases k2 : (decide ((o.length : Int) = 4) || decide (a = 256)) = true
    · rw [if_pos k2]; exact ⟨Nat.le_succ_of_le h1, h2, h3⟩
    · rw [if_neg k2]; exact ⟨by simp only [List.length_append, List.length_singleton]; omega, h2, by show -1000 ≤ a + 1; omega, by show a + 1 ≤ 1000; omega⟩
  · rw [if_neg k1]; exact cdr_zero _
theorem cdr_mono {m m' : Nat} {a : Int} {o : List Int} {c : List CW} {f : List Int} (h : cdr m a o c f) (hm : m ≤ m') : cdr m' a o c f := ⟨Nat.le_trans h.1 hm, h.2⟩
theorem words_ (s : List Int) (p n : Int) (hb : isBytes s) (hl : s.length ≤ 2000) (h0 : 0 ≤ p) (hp : p ≤ 800000000) (hn : n ≤ 1000000000) :
    ∃ a l q, Ev (fun k => spec_l20Words.f k s p n) (a, l, q) ∧ isBytes l ∧ l.length ≤ 10 ∧ -1000 ≤ a ∧ a ≤ 1000 ∧ 0 ≤ q ∧ q ≤ p + 40 := by
  obtain ⟨r1, e1, x1, y1⟩ := pick s p 6 hb hl h0 (by omega) (by omega) (by omega)
  obtain ⟨r2, e2, x2, y2⟩ := pick s (p + 1) 8 hb hl (by omega) (by omega) (by omega) (by omega)
  obtain ⟨l, q3, e3, hbl, hll, x3, y3⟩ := bytes_ s r2 (p + 1 + 1) hb hl x2 (by omega) (by omega) (by omega)
  have j : ∀ (q : Int) (a : Int), 0 ≤ q → q ≤ p + 30 → -1000 ≤ a → a ≤ 1000 → ∃ a' l' q', Ev (fun k => spec_l20Words.j0 k n s q a l) (a', l', q') ∧ isBytes l' ∧ l'.length ≤ 10 ∧ -1000 ≤ a' ∧ a' ≤ 1000 ∧ 0 ≤ q' ∧ q' ≤ p + 40 := by
    intro q a q0 q1 a0 a1
    obtain ⟨b, q', e, z0, z1⟩ := odd s q n hb hl q0 (by omega) hn
    cases b with
    | true =>
      refine ⟨a, List.replicate 10 0, q', Ev.succ ?_, ?_, by simp, a0, a1, z0, by omega⟩
      · simp only [spec_l20Words.j0]
        refine Ev.bind e ?_
        simp only [if_true, if_pos (show 10 ≤ 281474976710656 by omega)]; exact Ev.now _
      · intro x hx; rw [List.mem_replicate] at hx; omega
    | false =>
      refine ⟨a, l, q', Ev.succ ?_, hbl, by omega, a0, a1, z0, by omega⟩
      simp only [spec_l20Words.j0]
      refine Ev.bind e ?_
      simp only [Bool.false_eq_true, if_false]; exact Ev.now _
  obtain ⟨b, q4, e4, z0, z1⟩ := odd s q3 n hb hl x3 (by omega) hn
  unfold spec_l20Words.f
  cases b with
  | true =>
    obtain ⟨r5, e5, x5, y5⟩ := pick s q4 2 hb hl z0 (by omega) (by omega) (by omega)
    obtain ⟨a', l', q', e, h⟩ := j (q4 + 1) (256 - r5 * 300) (by omega) (by omega) (by omega) (by omega)
    refine ⟨a', l', q', Ev.bind e1 (Ev.bind e2 (Ev.bind e3 (Ev.bind e4 ?_))), h⟩
    simp only [if_true]
    refine Ev.bind e5 ?_
    simp only []
    rw [wrap_id (x := r5 * 300) (by omega) (by omega), wrap_id (x := 256 - r5 * 300) (by omega) (by omega)]
    exact e
  | false =>
    obtain ⟨a', l', q', e, h⟩ := j q4 r1 (by omega) (by omega) (by omega) (by omega)
    refine ⟨a', l', q', Ev.bind e1 (Ev.bind e2 (Ev.bind e3 (Ev.bind e4 ?_))), h⟩
    simp only [Bool.false_eq_true, if_false]
    exact e
theorem asking_l (s : List Int) (n : Int) (hb : isBytes s) (hl : s.length ≤ 2000) (hn : n ≤ 1000000000) (d : Nat) : ∀ (p : Int) (a : Int) (o : List Int) (c : List CW) (f : List Int), cdr (100 - d) a o c f → d ≤ 100 → 0 ≤ p → p + 50 * d ≤ 700000000 →
    ∃ a' o' c' f' q, Ev (fun k => spec_l20Asking.l0 k n (d : Int) s p a o c f) (a', o', c', f', q) ∧ cdf o' c' f' ∧ 0 ≤ q ∧ q ≤ p + 50 * d + 10 := by
  induction d with
  | zero =>
    intro p a o c f h _ h0 hp
    obtain ⟨h1, h2, h3⟩ := h
    obtain ⟨b, q, e, q0, q1⟩ := odd s p n hb hl h0 (by omega) hn
    cases b with
    | false =>
      refine ⟨a, o, c, f, q, Ev.succ ?_, ⟨by omega, h2⟩, q0, by omega⟩
      simp only [spec_l20Asking.l0, Int.natCast_zero, gt_iff_lt, Int.lt_irrefl, if_false]
      refine Ev.bind e ?_
      simp only [Bool.false_eq_true, if_false]; exact Ev.now _
    | true =>
      obtain ⟨r1, e1, x1, y1⟩ := pick s q 4 hb hl q0 (by omega) (by omega) (by omega)
      have hw : wrap64 (a + 1) = a + 1 := wrap_id (by omega) (by omega)
      by_cases c0 : r1 = 0
      · refine ⟨a + 1, o, c, f, q + 1, Ev.succ ?_, ⟨by omega, h2⟩, by omega, by omega⟩
        simp only [spec_l20Asking.l0, Int.natCast_zero, gt_iff_lt, Int.lt_irrefl, if_false]
        refine Ev.bind e ?_
        simp only [if_true]
        refine Ev.bind e1 ?_
        simp only [if_pos c0, hw]; exact Ev.now _
      · by_cases c1 : r1 = 1
        · refine ⟨a, o ++ [0], c, f, q + 1, Ev.succ ?_, ⟨by rw [List.length_append, List.length_singleton]; omega, h2⟩, by omega, by omega⟩
          simp only [spec_l20Asking.l0, Int.natCast_zero, gt_iff_lt, Int.lt_irrefl, if_false]
          refine Ev.bind e ?_
          simp only [if_true]
          refine Ev.bind e1 ?_
          simp only [if_neg c0, if_pos c1, if_pos (show o.length < 17592186044416 by omega)]; exact Ev.now _
        · by_cases c2 : r1 = 2
          · refine ⟨257, o, c, f, q + 1, Ev.succ ?_, ⟨by omega, h2⟩, by omega, by omega⟩
            simp only [spec_l20Asking.l0, Int.natCast_zero, gt_iff_lt, Int.lt_irrefl, if_false]
            refine Ev.bind e ?_
            simp only [if_true]
            refine Ev.bind e1 ?_
            simp only [if_neg c0, if_neg c1, if_pos c2]; exact Ev.now _
          · refine ⟨a + 1, o, c ++ [⟨a, List.replicate 10 0⟩], f, q + 1, Ev.succ ?_, ⟨by rw [List.length_append, List.length_singleton]; omega, ?_⟩, by omega, by omega⟩
            · simp only [spec_l20Asking.l0, Int.natCast_zero, gt_iff_lt, Int.lt_irrefl, if_false]
              refine Ev.bind e ?_
              simp only [if_true]
              refine Ev.bind e1 ?_
              simp only [if_neg c0, if_neg c1, if_neg c2, if_pos (show 10 ≤ 281474976710656 by omega), if_pos (show c.length < 4398046511104 by omega), hw]; exact Ev.now _
            · intro z hz
              rw [List.mem_append, List.mem_singleton] at hz
              rcases hz with hz | rfl
              · exact h2 z hz
              · show (List.replicate 10 (0 : Int)).length ≤ 100; rw [List.length_replicate]; omega
  | succ d ih =>
    intro p a o c f h hd h0 hp
    have hbd := cdr_cbd h (by omega)
    have hm : cdr (100 - d) a o c f := cdr_mono h (by omega)
    have c0' : ((d + 1 : Nat) : Int) > 0 := by omega
    have hwd : wrap64 (((d + 1 : Nat) : Int) - 1) = (d : Int) := by rw [wrap_id (by omega) (by omega)]; omega
    obtain ⟨r1, e1, x1, y1⟩ := pick s p 3 hb hl h0 (by omega) (by omega) (by omega)
    by_cases c0 : r1 = 0
    · obtain ⟨wn, wl, q2, e2, wb, wlen, wa, wc, x2, y2⟩ := words_ s (p + 1) 0 hb hl (by omega) (by omega) (by omega)
      have e3 := spec_hear a o c f wn wl hbd (by omega)
      have hc3 := cdr_hear hm wn wl (by omega)
      generalize hearC a o c f wn wl = y at *
      obtain ⟨a', o', c', f', q, e, hr, q0, q1⟩ := ih q2 y.1 y.2.1 y.2.2.1 y.2.2.2.1 hc3 (by omega) (by omega) (by omega)
      refine ⟨a', o', c', f', q, Ev.succ ?_, hr, q0, by omega⟩
      simp only [spec_l20Asking.l0, if_pos c0', hwd]
      refine Ev.bind e1 ?_
      simp only [if_pos c0]
      exact Ev.bind e2 (Ev.bind e3 e)
    · by_cases c1 : r1 = 1
      · obtain ⟨r2, e2, x2, y2⟩ := pick s (p + 1) 6 hb hl (by omega) (by omega) (by omega) (by omega)
        by_cases c2 : r2 = 0
        · have e3 := spec_over a o c f hbd
          have hc3 := cdr_over hm
          generalize overC a o c f = y at *
          obtain ⟨a', o', c', f', q, e, hr, q0, q1⟩ := ih (p + 1 + 1) y.1 y.2.1 y.2.2.1 y.2.2.2 hc3 (by omega) (by omega) (by omega)
          refine ⟨a', o', c', f', q, Ev.succ ?_, hr, q0, by omega⟩
          simp only [spec_l20Asking.l0, if_pos c0', hwd]
          refine Ev.bind e1 ?_
          simp only [if_neg c0, if_pos c1]
          refine Ev.bind e2 ?_
          simp only [if_pos c2]
          exact Ev.bind e3 e
        · obtain ⟨a', o', c', f', q, e, hr, q0, q1⟩ := ih (p + 1 + 1) a o c f hm (by omega) (by omega) (by omega)
          refine ⟨a', o', c', f', q, Ev.succ ?_, hr, q0, by omega⟩
          simp only [spec_l20Asking.l0, if_pos c0', hwd]
          refine Ev.bind e1 ?_
          simp only [if_neg c0, if_pos c1]
          refine Ev.bind e2 ?_
          simp only [if_neg c2]
          exact e
      · obtain ⟨r2, e2, x2, y2⟩ := pick s (p + 1) 5 hb hl (by omega) (by omega) (by omega) (by omega)
        obtain ⟨l, q3, e3, hbl, hll, x3, y3⟩ := bytes_ s r2 (p + 1 + 1) hb hl x2 (by omega) (by omega) (by omega)
        have e4 := spec_ask a o c f l hbd
        have hc3 : cdr (100 - d) (askC a o c f l).1 (askC a o c f l).2.1 (askC a o c f l).2.2.1 (askC a o c f l).2.2.2.1 := cdr_mono (cdr_ask h l) (by omega)
        generalize askC a o c f l = y at *
        obtain ⟨a', o', c', f', q, e, hr, q0, q1⟩ := ih q3 y.1 y.2.1 y.2.2.1 y.2.2.2.1 hc3 (by omega) (by omega) (by omega)
        refine ⟨a', o', c', f', q, Ev.succ ?_, hr, q0, by omega⟩
        simp only [spec_l20Asking.l0, if_pos c0', hwd]
        refine Ev.bind e1 ?_
        simp only [if_neg c0, if_neg c1]
        exact Ev.bind e2 (Ev.bind e3 (Ev.bind e4 e))
theorem asking_ (s : List Int) (p n : Int) (hb : isBytes s) (hl : s.length ≤ 2000) (h0 : 0 ≤ p) (hp : p ≤ 600000000) (hn : n ≤ 1000000000) :
    ∃ a o c f q, Ev (fun k => spec_l20Asking.f k s p n) (a, o, c, f, q) ∧ cdf o c f ∧ 0 ≤ q ∧ q ≤ p + 1000 := by
  obtain ⟨r, e, x, y⟩ := pick s p 12 hb hl h0 (by omega) (by omega) (by omega)
  obtain ⟨d, rfl⟩ := Int.eq_ofNat_of_zero_le x
  obtain ⟨a, o, c, f, q, e2, h, q0, q1⟩ := asking_l s n hb hl hn d (p + 1) 0 [] [] [] (cdr_zero _) (by omega) (by omega) (by omega)
  refine ⟨a, o, c, f, q, ?_, h, q0, by omega⟩
  unfold spec_l20Asking.f
  exact Ev.bind e e2

/-! alive -/
theorem bytesOf_5 : Ev (fun k => impl_bytesOf.f k 5 1) [5] := by
  refine Ev.of (k := 3) (fun k => impl_bytesOf.mono 5 1 k) ?_
  kernel_rfl
theorem alive_ : Ev (fun k => laws_alive.f k) true := by
  have h1 : Ev (fun k => impl_BytesOf.f k 5 1) [5] := by
    refine Ev.of (k := 3) (fun k => impl_BytesOf.mono 5 1 k) ?_
    kernel_rfl
  have h2 : Ev (fun k => impl_BytesOf.f k 256 1) [] := by
    refine Ev.of (k := 3) (fun k => impl_BytesOf.mono 256 1 k) ?_
    kernel_rfl
  unfold laws_alive.f
  refine Ev.bind h1 ?_
  simp only [List.length_singleton, Int.natCast_one, if_true]
  refine Ev.bind h2 ?_
  exact Ev.now _

theorem same_refl (l : List Int) : laws_sameBytes.f l l = some true := by
  unfold laws_sameBytes.f; simp

/-! sameClient of a client and itself; hasInt -/
theorem sameInts_l (l : List Int) (hl : l.length ≤ 100000000) (d : Nat) : ∀ i : Nat, i + d = l.length → Ev (fun k => laws_sameInts.l0 k l l (i : Int)) true := by
  induction d with
  | zero =>
    intro i hi
    refine Ev.succ ?_
    simp only [laws_sameInts.l0, if_neg (show ¬ (i : Int) < (l.length : Int) by omega)]
    exact Ev.now _
  | succ d ih =>
    intro i hi
    have e := ih (i + 1) (by omega)
    refine Ev.succ ?_
    simp only [laws_sameInts.l0, if_pos (show (i : Int) < (l.length : Int) by omega), if_pos (show (0 : Int) ≤ (i : Int) by omega), if_true]
    rw [wrap_id (by omega) (by omega)]
    exact e
theorem sameInts_ (l : List Int) (hl : l.length ≤ 100000000) : Ev (fun k => laws_sameInts.f k l l) true := by
  unfold laws_sameInts.f; simp only [if_true]; exact sameInts_l l hl l.length 0 (by omega)
theorem sameClient_l (a : Int) (o : List Int) (c : List CW) (f : List Int) (a' : Int) (o' f' : List Int) (hc : c.length ≤ 100000000) (d : Nat) : ∀ i : Nat, i + d = c.length → Ev (fun k => laws_sameClient.l0 k (i : Int) a o c f a' o' c f') true := by
  induction d with
  | zero =>
    intro i hi
    refine Ev.succ ?_
    simp only [laws_sameClient.l0, if_neg (show ¬ (i : Int) < (c.length : Int) by omega)]
    exact Ev.now _
  | succ d ih =>
    intro i hi
    have e := ih (i + 1) (by omega)
    refine Ev.succ ?_
    simp only [laws_sameClient.l0, if_pos (show (i : Int) < (c.length : Int) by omega), if_pos (show (0 : Int) ≤ (i : Int) by omega), if_true, same_refl, Option.bind_some]
    rw [wrap_id (by omega) (by omega)]
    exact e
theorem sameClient_ (a : Int) (o : List Int) (c : List CW) (f : List Int) (ho : o.length ≤ 100000000) (hc : c.length ≤ 100000000) (hf : f.length ≤ 100000000) : Ev (fun k => laws_sameClient.f k a o c f a o c f) true := by
  unfold laws_sameClient.f
  simp only [if_true]
  refine Ev.bind (sameInts_ o ho) ?_
  simp only [if_true]
  refine Ev.bind (sameInts_ f hf) ?_
  simp only [if_true, bne_self_eq_false]
  refine Ev.step (fun k => laws_sameClient.j0.eq_2 _ _ _ _ _ _ _ _ _ k) ?_
  simp only [Bool.false_eq_true, if_false]
  exact sameClient_l a o c f a o f hc c.length 0 (by omega)
theorem hasInt_l (l : List Int) (n : Int) (hl : l.length ≤ 100000000) (d : Nat) : ∀ i : Nat, i + d = l.length → Ev (fun k => laws_hasInt.l0 k l n (i : Int)) (decide (n ∈ l.drop i)) := by
  induction d with
  | zero =>
    intro i hi
    refine Ev.succ ?_
    rw [List.drop_of_length_le (by omega)]
    simp only [laws_hasInt.l0, if_neg (show ¬ (i : Int) < (l.length : Int) by omega), List.not_mem_nil, decide_false]
    exact Ev.now _
  | succ d ih =>
    intro i hi
    have hi2 : i < l.length := by omega
    have e := ih (i + 1) (by omega)
    refine Ev.succ ?_
    rw [List.drop_eq_getElem_cons hi2]
    simp only [laws_hasInt.l0, if_pos (show (i : Int) < (l.length : Int) by omega), if_pos (show (0 : Int) ≤ (i : Int) by omega), rd_get l i hi2]
    by_cases hn : l[i] = n
    · simp only [if_pos hn, decide_eq_true (show n ∈ l[i] :: l.drop (i + 1) by rw [hn]; exact List.mem_cons_self)]; exact Ev.now _
    · simp only [if_neg hn]
      rw [wrap_id (by omega) (by omega)]
      have e2 : decide (n ∈ l[i] :: l.drop (i + 1)) = decide (n ∈ l.drop (i + 1)) := by
        have : (n ∈ l[i] :: l.drop (i + 1)) ↔ n ∈ l.drop (i + 1) := by
          rw [List.mem_cons]; exact ⟨fun h => h.resolve_left (fun h => hn h.symm), Or.inr⟩
        simp only [this]
      rw [e2]; exact e
theorem hasInt_ (l : List Int) (n : Int) (hl : l.length ≤ 100000000) : Ev (fun k => laws_hasInt.f k l n) (decide (n ∈ l)) := by
  unfold laws_hasInt.f
  exact hasInt_l l n hl l.length 0 (by omega)

/-! what a client becomes: the program -/
theorem clone_int_ (l : List Int) (h : l.length ≤ 10000000) : impl_clone_int.f l = some l := by
  unfold impl_clone_int.f; rw [if_pos (by omega)]
theorem clone_byte_' (l : List Int) (h : l.length ≤ 10000000) : impl_clone_byte.f l = some l := by
  unfold impl_clone_byte.f; rw [if_pos (by omega)]
theorem impl_copy_l (c : List CW) (a' : Int) (o' f' : List Int) (hc : c.length ≤ 2000000) (hb : ∀ z ∈ c, z.f1.length ≤ 2000000) (d : Nat) : ∀ i : Nat, i + d = c.length →
    Ev (fun k => impl_Client_copy.l0 k c (c.length : Int) (i : Int) a' o' (c.take i) f') (a', o', c, f') := by
  induction d with
  | zero =>
    intro i hi
    obtain rfl : i = c.length := by omega
    refine Ev.succ ?_
    rw [List.take_length]
    simp only [impl_Client_copy.l0, if_neg (show ¬ (c.length : Int) < (c.length : Int) by omega)]
    exact Ev.now _
  | succ d ih =>
    intro i hi
    have hi2 : i < c.length := by omega
    have hz := hb _ (List.getElem_mem hi2)
    have e := ih (i + 1) (by omega)
    have ht : c.take (i + 1) = c.take i ++ [(⟨c[i].f0, c[i].f1⟩ : CW)] := List.take_succ_eq_append_getElem hi2
    refine Ev.succ ?_
    simp only [impl_Client_copy.l0, if_pos (show (i : Int) < (c.length : Int) by omega), if_pos (show (0 : Int) ≤ (i : Int) by omega), rdCW c i hi2, clone_byte_' c[i].f1 (by omega), Option.bind_some, if_pos (show (c.take i).length < 4398046511104 by rw [List.length_take]; omega)]
    rw [wrap_id (by omega) (by omega), ← ht]
    exact e
theorem impl_copy (a : Int) (o : List Int) (c : List CW) (f : List Int) (ho : o.length ≤ 10000000) (hf : f.length ≤ 10000000) (hc : c.length ≤ 2000000) (hb : ∀ z ∈ c, z.f1.length ≤ 2000000) : Ev (fun k => impl_Client_copy.f k a o c f) (a, o, c, f) := by
  unfold impl_Client_copy.f
  rw [clone_int_ o ho, clone_int_ f hf]
  simp only [Option.bind_some]
  have e := impl_copy_l c a o f hc hb c.length 0 (by omega)
  rw [List.take_zero] at e
  exact e
/-! an answer: the program -/
theorem hearC_bad {a : Int} {o : List Int} {c : List CW} {f : List Int} (n : Int) (w : List Int) (h : clientOk a o c f = false) : hearC a o c f n w = (0, [], [], [], false) := by
  unfold hearC; rw [h]; rfl
theorem hearC_hit {a : Int} {o : List Int} {c : List CW} {f : List Int} {n : Int} {w : List Int} (h : clientOk a o c f = true) (hn : (o.contains n && !decide ((w.length : Int) > 9)) = true) : hearC a o c f n w = (a, o.filter (fun x => decide (x ≠ n)), c ++ [⟨n, w⟩], f, true) := by
  unfold hearC; rw [if_pos h, if_pos hn]
theorem hearC_miss {a : Int} {o : List Int} {c : List CW} {f : List Int} {n : Int} {w : List Int} (h : clientOk a o c f = true) (hn : (o.contains n && !decide ((w.length : Int) > 9)) = false) : hearC a o c f n w = (a, o, c, f, false) := by
  unfold hearC; rw [if_pos h, hn]; rfl
theorem index_l (l : List Int) (n : Int) (hl : l.length ≤ 100000000) (d : Nat) : ∀ i : Nat, i + d = l.length →
    Ev (fun k => slices_Index_int_int.l0 k l n (l.length : Int) (i : Int)) (if n ∈ l.drop i then ((i + (l.drop i).idxOf n : Nat) : Int) else -1) := by
  induction d with
  | zero =>
    intro i hi
    refine Ev.succ ?_
    rw [List.drop_of_length_le (by omega)]
    simp only [slices_Index_int_int.l0, if_neg (show ¬ (i : Int) < (l.length : Int) by omega), List.not_mem_nil, if_false]
    exact Ev.now _
  | succ d ih =>
    intro i hi
    have hi2 : i < l.length := by omega
    have e := ih (i + 1) (by omega)
    refine Ev.succ ?_
    rw [List.drop_eq_getElem_cons hi2]
    simp only [slices_Index_int_int.l0, if_pos (show (i : Int) < (l.length : Int) by omega), if_pos (show (0 : Int) ≤ (i : Int) by omega), rd_get l i hi2]
    by_cases hn : n = l[i]
    · have hm : n ∈ l[i] :: l.drop (i + 1) := by rw [hn]; exact List.mem_cons_self
      have e2 : (l[i] :: l.drop (i + 1)).idxOf n = 0 := by rw [hn]; exact List.idxOf_cons_self
      simp only [if_pos hn, if_pos hm, e2, Nat.add_zero]
      exact Ev.now _
    · simp only [if_neg hn]
      rw [wrap_id (by omega) (by omega)]
      have e1 : (n ∈ l[i] :: l.drop (i + 1)) ↔ n ∈ l.drop (i + 1) := by
        rw [List.mem_cons]; exact ⟨fun h => h.resolve_left hn, Or.inr⟩
      have e2 : (l[i] :: l.drop (i + 1)).idxOf n = (l.drop (i + 1)).idxOf n + 1 := by
        rw [List.idxOf_cons]
        have : (l[i] == n) = false := by rw [beq_eq_false_iff_ne]; exact fun h => hn h.symm
        rw [this]; rfl
      simp only [e1, e2]
      rw [show i + ((l.drop (i + 1)).idxOf n + 1) = i + 1 + (l.drop (i + 1)).idxOf n by omega]
      exact e
theorem index_ (l : List Int) (n : Int) (hl : l.length ≤ 100000000) : Ev (fun k => slices_Index_int_int.f k l n) (if n ∈ l then ((l.idxOf n : Nat) : Int) else -1) := by
  have e := index_l l n hl l.length 0 (by omega)
  rw [List.drop_zero, Nat.zero_add] at e
  unfold slices_Index_int_int.f
  exact e
theorem erase_filter {o : List Int} {n : Int} (hno : o.Nodup) : o.eraseIdx (o.idxOf n) = o.filter (fun x => decide (x ≠ n)) := by
  have e1 : o.erase n = o.eraseIdx (o.idxOf n) := List.erase_eq_eraseIdx_of_idxOf rfl
  rw [← e1, hno.erase_eq_filter n]
  apply List.filter_congr
  intro x _
  by_cases hh : x = n <;> simp [hh]
theorem impl_hear (a : Int) (o : List Int) (c : List CW) (f : List Int) (n : Int) (w : List Int) (h : cbd o c f) (hc : c.length < 2000000) (hw : w.length ≤ 2000000) : Ev (fun k => impl_ClientHear.f k a o c f n w) (hearC a o c f n w) := by
  obtain ⟨h1, h2, h3, h4⟩ := h
  unfold impl_ClientHear.f
  refine Ev.bind (impl_clientOk a o f c (by omega) (by omega) (by omega)) ?_
  cases hok : clientOk a o c f
  · simp only [Bool.false_eq_true, if_false]
    rw [hearC_bad n w hok]; exact Ev.now _
  · simp only [if_true]
    refine Ev.bind (impl_copy a o c f (by omega) (by omega) h2 h3) ?_
    refine Ev.bind (index_ o n (by omega)) ?_
    by_cases hm : n ∈ o
    · have hlt : o.idxOf n < o.length := List.idxOf_lt_length_of_mem hm
      have hct : o.contains n = true := by simpa using hm
      have hno : o.Nodup := by
        have := ((clientOk_iff a o c f).1 hok).2.2.2.2.2.1
        unfold nums at this; rw [List.append_assoc] at this; exact (List.nodup_append.1 this).1
      have c0 : ¬ ((o.idxOf n : Nat) : Int) < 0 := by omega
      simp only [if_pos hm, if_neg c0]
      refine Ev.succ ?_
      by_cases h9 : (w.length : Int) > 9
      · rw [hearC_miss hok (by rw [decide_eq_true h9]; simp)]
        simp only [impl_ClientHear.j0, decide_eq_true h9, if_true]; exact Ev.now _
      · rw [hearC_hit hok (by rw [decide_eq_false h9, hct]; rfl)]
        have c1 : (0 : Int) ≤ ((o.idxOf n : Nat) : Int) := by omega
        have c2 : ((o.idxOf n : Nat) : Int) < (o.length : Int) := by omega
        have c3 : c.length < 4398046511104 := by omega
        simp only [impl_ClientHear.j0, decide_eq_false h9, Bool.false_eq_true, if_false, if_pos c1, if_pos c2, if_pos c3, Int.toNat_natCast]
        rw [erase_filter hno]
        have hf : (o.filter (fun x => decide (x ≠ n))).length ≤ 10000000 := Nat.le_trans (List.length_filter_le _ _) (by omega)
        refine Ev.bind (impl_copy a (o.filter (fun x => decide (x ≠ n))) (c ++ [⟨n, w⟩]) f hf (by omega) (by rw [List.length_append, List.length_singleton]; omega) ?_) (Ev.now _)
        intro z hz
        rw [List.mem_append, List.mem_singleton] at hz
        rcases hz with hz | rfl
        · exact h3 z hz
        · exact hw
    · have hct : o.contains n = false := by simpa using hm
      have c0 : (-1 : Int) < 0 := by omega
      simp only [if_neg hm, if_pos c0]
      rw [hearC_miss hok (by rw [hct]; rfl)]
      refine Ev.succ ?_
      simp only [impl_ClientHear.j0, if_true]; exact Ev.now _

theorem FnClientHear : laws_FnClientHear.Pure := by
  intro l hl _ hw
  have hb := isBytes_wf hw
  refine Ev.rounds ?_
  unfold laws_FnClientHear.f
  by_cases hbig : (l.length : Int) > 1048576
  · simp only [if_pos hbig]; exact Ev.now _
  simp only [if_neg hbig]
  obtain ⟨s, eo, hs, hsl⟩ := open_ l hb
  obtain ⟨a, o, c, f, q, e, ⟨h1, h2⟩, q0, q1⟩ := asking_ s 0 15 hs hsl (by omega) (by omega) (by omega)
  obtain ⟨n, w, q2, e2, wb, wl, wa, wc, x2, y2⟩ := words_ s q 15 hs hsl q0 (by omega) (by omega)
  have hd : Ev (fun k => spec_DrawClientHear.f k l) (a, o, c, f, n, w) := by
    unfold spec_DrawClientHear.f
    rw [eo]; simp only [Option.bind_some]
    exact Ev.bind e (Ev.bind e2 (Ev.now _))
  have hcb : cbd o c f := ⟨by omega, by omega, fun z hz => by have := h2 z hz; omega, by omega⟩
  refine Ev.bind hd (Ev.bind (impl_hear a o c f n w hcb (by omega) (by omega)) (Ev.bind (spec_hear a o c f n w hcb (by omega)) ?_))
  simp only [bne_self_eq_false, Bool.false_eq_true, if_false]
  have hok0 := impl_clientOk a o f c (by omega) (by omega) (by omega)
  cases hok : clientOk a o c f
  · rw [hearC_bad n w hok]
    rw [hok] at hok0
    refine Ev.bind (sameClient_ 0 [] [] [] (by simp) (by simp) (by simp)) ?_
    refine Ev.step (fun k => laws_FnClientHear.j0.eq_2 _ _ _ _ _ _ _ _ _ _ _ _ k) ?_
    simp only [Bool.not_true, Bool.false_eq_true, if_false]
    refine Ev.bind hok0 ?_
    simp only [Bool.false_eq_true, if_false]
    exact Ev.bind alive_ (Ev.now _)
  · rw [hok] at hok0
    have hokc := (clientOk_iff a o c f).1 hok
    cases hit : (o.contains n && !decide ((w.length : Int) > 9))
    · rw [hearC_miss hok hit]
      refine Ev.bind (sameClient_ a o c f (by omega) (by omega) (by omega)) ?_
      refine Ev.step (fun k => laws_FnClientHear.j0.eq_2 _ _ _ _ _ _ _ _ _ _ _ _ k) ?_
      simp only [Bool.not_true, Bool.false_eq_true, if_false]
      refine Ev.bind hok0 ?_
      simp only [if_true]
      refine Ev.bind (impl_hear a o c f n w hcb (by omega) (by omega)) (Ev.bind hok0 ?_)
      rw [hearC_miss hok hit]
      simp only [if_true, Bool.false_eq_true, if_false]
      refine Ev.bind (sameClient_ a o c f (by omega) (by omega) (by omega)) ?_
      simp only [if_true]
      refine Ev.bind (sameClient_ a o c f (by omega) (by omega) (by omega)) ?_
      simp only [if_true]
      exact Ev.bind alive_ (Ev.now _)
    · rw [hearC_hit hok hit]
      have hit2 := hit
      rw [Bool.and_eq_true] at hit2
      have hm : n ∈ o := by simpa using hit2.1
      have hw9 : w.length ≤ 9 := by have := hit2.2; simp at this; omega
      have hfl : (o.filter (fun x => decide (x ≠ n))).length ≤ o.length := List.length_filter_le _ _
      have hcl : (c ++ [(⟨n, w⟩ : CW)]).length = c.length + 1 := by rw [List.length_append, List.length_singleton]
      have hok2 := ok_hear hokc n w hm hw9
      have hok3 := (clientOk_iff a (o.filter (fun x => decide (x ≠ n))) (c ++ [⟨n, w⟩]) f).2 hok2
      have hcb2 : cbd (o.filter (fun x => decide (x ≠ n))) (c ++ [(⟨n, w⟩ : CW)]) f := by
        refine ⟨by omega, by omega, ?_, by omega⟩
        intro z hz
        rw [List.mem_append, List.mem_singleton] at hz
        rcases hz with hz | rfl
        · have := h2 z hz; omega
        · show w.length ≤ 2000000; omega
      have hnf : n ∉ o.filter (fun x => decide (x ≠ n)) := by simp
      have hct : (o.filter (fun x => decide (x ≠ n))).contains n = false := by simp
      have hs2 := sameClient_ a (o.filter (fun x => decide (x ≠ n))) (c ++ [(⟨n, w⟩ : CW)]) f (by omega) (by omega) (by omega)
      have hok4 := impl_clientOk a (o.filter (fun x => decide (x ≠ n))) f (c ++ [(⟨n, w⟩ : CW)]) (by omega) (by omega) (by omega)
      rw [hok3] at hok4
      have hh := impl_hear a (o.filter (fun x => decide (x ≠ n))) (c ++ [(⟨n, w⟩ : CW)]) f n w hcb2 (by omega) (by omega)
      rw [hearC_miss hok3 (by rw [hct]; rfl)] at hh
      have hi1 := hasInt_ (o.filter (fun x => decide (x ≠ n))) n (by omega)
      rw [decide_eq_false hnf] at hi1
      have hi2 := hasInt_ o n (by omega)
      rw [decide_eq_true hm] at hi2
      generalize o.filter (fun x => decide (x ≠ n)) = o2 at *
      generalize c ++ [(⟨n, w⟩ : CW)] = c2 at *
      refine Ev.bind hs2 ?_
      refine Ev.step (fun k => laws_FnClientHear.j0.eq_2 _ _ _ _ _ _ _ _ _ _ _ _ k) ?_
      simp only [Bool.not_true, Bool.false_eq_true, if_false]
      refine Ev.bind hok0 ?_
      simp only [if_true]
      refine Ev.bind hh (Ev.bind hok4 ?_)
      simp only [if_true, Bool.false_eq_true, if_false]
      refine Ev.bind hs2 ?_
      simp only [if_true]
      refine Ev.bind hi1 ?_
      simp only [Bool.false_eq_true, if_false]
      refine Ev.bind hi2 ?_
      simp only [if_true]
      exact Ev.bind alive_ (Ev.now _)

end Go.Proofs.Ytegchbdjbefdbaa.Pure
