/- However a stream is cut, the same words are found: the plain law. -/
import Derived.Test.YtdmmgijfaligpaaPFnWordsFromx
namespace Go.Proofs.Ytdmmgijfaligpaa.Pure
set_option linter.unusedSimpArgs false
set_option linter.unusedVariables false
open Go.RowKit Go.Proofs.Ytdmmgijfaligpaa.PFnWordsFrom Go.Proofs.YtdmmgijfaligpaaW.PrintWords Go.Proofs.YtdmmgijfaligpaaW.PrintLast Go.Proofs.YtdmmgijfaligpaaW.PrintMore

theorem Ev.succ {α : Type} {g : Nat → Option α} {r : α} (h : Ev (fun k => g (k + 1)) r) : Ev g r := Ev.step (fun _ => rfl) h
theorem Ev.pure {α : Type} {o : Option α} {r : α} (h : o = some r) : Ev (fun _ => o) r := by rw [h]; exact Ev.now r
theorem Ev.cong {α : Type} {g g' : Nat → Option α} {r : α} (h : ∀ k, g k = g' k) (e : Ev g' r) : Ev g r := by rw [show g = g' from funext h]; exact e
theorem wrap_id {x : Int} (h0 : -9223372036854775808 ≤ x) (h1 : x ≤ 9223372036854775807) : wrap64 x = x := by unfold wrap64; omega

theorem rd_get (l : List Int) (i : Nat) (h : i < l.length) : rd l (i : Int) = l[i] := by
  unfold rd
  rw [Int.toNat_natCast, List.getD_eq_getElem?_getD, List.getElem?_eq_getElem h]; rfl
theorem take_set_succ {α : Type} (x : List α) (i : Nat) (v : α) (h : i < x.length) : (x.set i v).take (i + 1) = x.take i ++ [v] := by
  rw [List.take_succ_eq_append_getElem (by simpa using h), List.getElem_set_self, List.take_set, List.set_eq_of_length_le (by simp; omega)]


/-! slices.Concat of bytes -/
theorem rd_ofL (l : List (List Int)) (i : Nat) (h : i < l.length) : rd_L2 l (i : Int) = l[i] := by
  unfold rd_L2
  rw [Int.toNat_natCast, List.getD_eq_getElem?_getD, List.getElem?_eq_getElem h]; rfl
def lenL (l : List (List Int)) : Nat := (l.map List.length).sum
theorem lenL_take_succ (l : List (List Int)) (i : Nat) (h : i < l.length) : lenL (l.take (i + 1)) = lenL (l.take i) + l[i].length := by
  unfold lenL; rw [List.take_succ_eq_append_getElem h]; simp only [List.map_append, List.sum_append, List.map_cons, List.map_nil, List.sum_cons, List.sum_nil, Nat.add_zero]
theorem lenL_take_le (l : List (List Int)) (i : Nat) : lenL (l.take i) ≤ lenL l := by
  unfold lenL
  have h := congrArg (fun x : List (List Int) => (x.map List.length).sum) (List.take_append_drop i l)
  simp only [List.map_append, List.sum_append] at h
  omega
theorem flatten_take_succ (l : List (List Int)) (i : Nat) (h : i < l.length) : (l.take (i + 1)).flatten = (l.take i).flatten ++ l[i] := by
  rw [List.take_succ_eq_append_getElem h]; simp only [List.flatten_append, List.flatten_cons, List.flatten_nil, List.append_nil]
theorem concat_l1 (l : List (List Int)) (hn : l.length ≤ 1048576) (hl : lenL l < 140737488355328) (d : Nat) : ∀ (i : Nat), i ≤ l.length → l.length - i = d →
    Ev (fun k => slices_Concat_byte_byte.l1 k (l.take i).flatten l (l.length : Int) (i : Int)) l.flatten := by
  induction d with
  | zero =>
    intro i hi hd
    have hil : i = l.length := by omega
    subst hil
    refine Ev.succ ?_
    simp only [slices_Concat_byte_byte.l1]
    simp only [Int.lt_irrefl, if_false, List.take_length]
    exact Ev.now _
  | succ d ih =>
    intro i hi hd
    have hlt : i < l.length := by omega
    refine Ev.succ ?_
    simp only [slices_Concat_byte_byte.l1]
    have h1 := lenL_take_succ l i hlt
    have h2 := lenL_take_le l (i + 1)
    have h3 : (l.take i).flatten.length = lenL (l.take i) := by rw [List.length_flatten]; rfl
    rw [rd_ofL l i hlt]
    simp only [if_pos (show (i : Int) < (l.length : Int) by omega), if_pos (show (0 : Int) ≤ (i : Int) by omega), if_pos (show (l.take i).flatten.length + l[i].length < 140737488355328 by omega)]
    rw [wrap_id (by omega) (by omega), ← flatten_take_succ l i hlt]
    exact ih (i + 1) (by omega) (by omega)
theorem concat_l0 (l : List (List Int)) (hn : l.length ≤ 1048576) (hl : lenL l < 140737488355328) (d : Nat) : ∀ (i : Nat), i ≤ l.length → l.length - i = d →
    Ev (fun k => slices_Concat_byte_byte.l0 k l (lenL (l.take i) : Int) l (l.length : Int) (i : Int)) l.flatten := by
  induction d with
  | zero =>
    intro i hi hd
    have hil : i = l.length := by omega
    subst hil
    refine Ev.succ ?_
    simp only [slices_Concat_byte_byte.l0]
    simp only [Int.lt_irrefl, if_false, List.take_length]
    have hg : slices_Grow_byte_byte.f ([] : List Int) (lenL l : Int) = some [] := by
      unfold slices_Grow_byte_byte.f
      rw [if_pos ⟨rfl, by omega, by rw [Int.toNat_natCast]; omega⟩]
    simp only [hg, Option.bind_some]
    have := concat_l1 l hn hl _ 0 (by omega) rfl
    simpa using this
  | succ d ih =>
    intro i hi hd
    have hlt : i < l.length := by omega
    refine Ev.succ ?_
    simp only [slices_Concat_byte_byte.l0]
    have h1 := lenL_take_succ l i hlt
    have h2 := lenL_take_le l (i + 1)
    rw [rd_ofL l i hlt, wrap_id (x := (lenL (l.take i) : Int) + _) (by omega) (by omega), wrap_id (by omega) (by omega)]
    simp only [if_pos (show (i : Int) < (l.length : Int) by omega), if_pos (show (0 : Int) ≤ (i : Int) by omega), if_neg (show ¬ (lenL (l.take i) : Int) + (l[i].length : Int) < 0 by omega)]
    rw [show (lenL (l.take i) : Int) + (l[i].length : Int) = ((lenL (l.take (i + 1)) : Nat) : Int) by omega]
    exact ih (i + 1) (by omega) (by omega)
theorem concat_ (l : List (List Int)) (hn : l.length ≤ 1048576) (hl : lenL l < 140737488355328) : Ev (fun k => slices_Concat_byte_byte.f k l) l.flatten := by
  unfold slices_Concat_byte_byte.f
  have := concat_l0 l hn hl _ 0 (by omega) rfl
  simpa [lenL] using this

/-! WordsBytes -/
def wordsBytes (a : Int) (l : List Int) : List Int := if 0 ≤ a ∧ a ≤ 255 ∧ l.length ≤ 9 then (l.length : Int) :: a :: l else []
theorem impl_wordsBytes (a : Int) (l : List Int) (hl : l.length ≤ 1048576) : Ev (fun k => impl_WordsBytes.f k a l) (wordsBytes a l) := by
  unfold impl_WordsBytes.f wordsBytes impl_in.f
  by_cases h1 : a ≥ 0
  · by_cases h2 : a ≤ 255
    · by_cases h3 : l.length ≤ 9
      · rw [if_pos (show 0 ≤ a ∧ a ≤ 255 ∧ l.length ≤ 9 from ⟨h1, h2, h3⟩)]
        simp only [if_pos h1, Option.bind_some, decide_eq_true h2, if_true, if_neg (show ¬ ((l.length : Int) > 9) by omega)]
        have h := concat_ [[(l.length : Int) % 256, a % 256], l] (by simp) (by simp [lenL]; omega)
        rw [show (l.length : Int) % 256 = l.length by omega, show a % 256 = a by omega] at h ⊢
        refine Ev.bind h ?_
        simp only [List.flatten_cons, List.flatten_nil, List.append_nil, List.cons_append, List.nil_append]
        exact Ev.now _
      · rw [if_neg (show ¬ (0 ≤ a ∧ a ≤ 255 ∧ l.length ≤ 9) by omega)]
        simp only [if_pos h1, Option.bind_some, decide_eq_true h2, if_true, if_pos (show ((l.length : Int) > 9) by omega)]
        exact Ev.now _
    · rw [if_neg (show ¬ (0 ≤ a ∧ a ≤ 255 ∧ l.length ≤ 9) by omega)]
      simp only [if_pos h1, Option.bind_some, decide_eq_false h2, Bool.false_eq_true, if_false]
      exact Ev.now _
  · rw [if_neg (show ¬ (0 ≤ a ∧ a ≤ 255 ∧ l.length ≤ 9) by omega)]
    simp only [if_neg h1, Option.bind_some, Bool.false_eq_true, if_false]
    exact Ev.now _
theorem spec_wordsBytes (a : Int) (l : List Int) (hl : l.length ≤ 1048576) : spec_WordsBytes.f a l = some (wordsBytes a l) := by
  unfold spec_WordsBytes.f wordsBytes spec_l1In.f
  by_cases h1 : a ≥ 0
  · by_cases h2 : a ≤ 255
    · by_cases h3 : l.length ≤ 9
      · rw [if_pos (show 0 ≤ a ∧ a ≤ 255 ∧ l.length ≤ 9 from ⟨h1, h2, h3⟩)]
        simp only [if_pos h1, Option.bind_some, decide_eq_true h2, if_true, if_neg (show ¬ ((l.length : Int) > 9) by omega)]
        rw [show (l.length : Int) % 256 = l.length by omega, show a % 256 = a by omega, if_pos (by simp; omega)]
        rfl
      · rw [if_neg (show ¬ (0 ≤ a ∧ a ≤ 255 ∧ l.length ≤ 9) by omega)]
        simp only [if_pos h1, Option.bind_some, decide_eq_true h2, if_true, if_pos (show ((l.length : Int) > 9) by omega)]
    · rw [if_neg (show ¬ (0 ≤ a ∧ a ≤ 255 ∧ l.length ≤ 9) by omega)]
      simp only [if_pos h1, Option.bind_some, decide_eq_false h2, Bool.false_eq_true, if_false]
  · rw [if_neg (show ¬ (0 ≤ a ∧ a ≤ 255 ∧ l.length ≤ 9) by omega)]
    simp only [if_neg h1, Option.bind_some, Bool.false_eq_true, if_false]
theorem wordsBytes_len (a : Int) (l : List Int) : (wordsBytes a l).length ≤ 11 := by
  unfold wordsBytes; split
  · simp; omega
  · simp

/-! WordsFrom -/
/-- The words that a stream begins with, how many bytes of it these are, and whether what is behind them may become some. -/
def pw : Nat → List Int → List S36 × Nat × Bool
  | 0, _ => ([], 0, true)
  | _ + 1, [] => ([], 0, true)
  | d + 1, n :: rest => if n > 9 then ([], 0, false) else match rest with
    | [] => ([], 0, true)
    | a :: more => if (more.length : Int) < n then ([], 0, true) else
      (⟨a, more.take n.toNat⟩ :: (pw d (more.drop n.toNat)).1, n.toNat + 2 + (pw d (more.drop n.toNat)).2.1, (pw d (more.drop n.toNat)).2.2)
def isBytes (l : List Int) : Prop := ∀ x ∈ l, 0 ≤ x ∧ x ≤ 255
theorem isBytes_get {l : List Int} (h : isBytes l) (i : Nat) (hi : i < l.length) : 0 ≤ l[i] ∧ l[i] ≤ 255 := h _ (List.getElem_mem hi)
theorem isBytes_wf {l : List Int} (h : ∀ x ∈ l, (Lit.int .u8 x).wf = true) : isBytes l := by
  intro x hx
  have := h x hx
  simp [Lit.wf, IntKind.min, IntKind.max, IntKind.bits, IntKind.signed] at this
  omega
theorem drop_two {l : List Int} {i : Nat} (h : i + 1 < l.length) : l.drop i = l[i] :: l[i + 1] :: l.drop (i + 2) := by
  rw [List.drop_eq_getElem_cons (show i < l.length by omega), List.drop_eq_getElem_cons (show i + 1 < l.length by omega)]
theorem drop_one {l : List Int} {i : Nat} (h : i + 1 = l.length) : l.drop i = [l[i]] := by
  rw [List.drop_eq_getElem_cons (show i < l.length by omega), List.drop_of_length_le (by omega)]
theorem mid_cut (l : List Int) (a n : Nat) : (l.take (a + n)).drop a = (l.drop a).take n := by
  rw [List.drop_take]; congr 1; omega
theorem impl_wf_l (l : List Int) (hb : isBytes l) (hl : l.length ≤ 1099511627776) (d : Nat) : ∀ (i : Nat) (acc : List S36), i ≤ l.length → l.length - i ≤ d → acc.length ≤ i →
    Ev (fun k => impl_WordsFrom.l0 k l acc (i : Int)) (acc ++ (pw d (l.drop i)).1, (i : Int) + (pw d (l.drop i)).2.1, (pw d (l.drop i)).2.2) := by
  induction d with
  | zero =>
    intro i acc hi hd ha
    refine Ev.succ ?_
    simp only [impl_WordsFrom.l0, if_neg (show ¬ (i : Int) < (l.length : Int) by omega), pw, List.append_nil]
    exact Ev.now _
  | succ d ih =>
    intro i acc hi hd ha
    refine Ev.succ ?_
    simp only [impl_WordsFrom.l0]
    by_cases h1 : i < l.length
    · have hx := isBytes_get hb i h1
      simp only [if_pos (show (i : Int) < (l.length : Int) by omega), if_pos (show (0 : Int) ≤ (i : Int) by omega)]
      rw [rd_get l i h1, wrap_id (x := l[i]) (by omega) (by omega), wrap_id (x := (i : Int) + 2) (by omega) (by omega), wrap_id (x := (i : Int) + 1) (by omega) (by omega), wrap_id (x := (i : Int) + 2 + l[i]) (by omega) (by omega), wrap_id (x := 2 + l[i]) (by omega) (by omega), wrap_id (x := (i : Int) + (2 + l[i])) (by omega) (by omega)]
      by_cases h2 : l[i] > 9
      · simp only [if_pos h2]
        rw [List.drop_eq_getElem_cons h1]
        simp only [pw, if_pos h2, List.append_nil]
        exact Ev.now _
      · simp only [if_neg h2]
        by_cases h3 : (i : Int) + 2 + l[i] > (l.length : Int)
        · simp only [if_pos h3]
          by_cases h4 : i + 1 < l.length
          · rw [drop_two h4]
            simp only [pw, if_neg h2, if_pos (show ((l.drop (i + 2)).length : Int) < l[i] by rw [List.length_drop]; omega), List.append_nil]
            exact Ev.now _
          · rw [drop_one (by omega)]
            simp only [pw, if_neg h2, List.append_nil]
            exact Ev.now _
        · have h4 : i + 1 < l.length := by omega
          have hx1 := isBytes_get hb (i + 1) h4
          have hr : rd l ((i : Int) + 1) = l[i + 1] := by
            have := rd_get l (i + 1) h4
            rw [← this]; congr 1
          simp only [if_neg h3, if_pos (show (0 : Int) ≤ (i : Int) + 1 by omega), if_pos (show (i : Int) + 1 < (l.length : Int) by omega), if_pos (show (0 : Int) ≤ (i : Int) + 2 by omega), if_pos (show (i : Int) + 2 ≤ (i : Int) + 2 + l[i] by omega), if_pos (show (i : Int) + 2 + l[i] ≤ (l.length : Int) by omega)]
          rw [hr, wrap_id (x := l[i + 1]) (by omega) (by omega), show ((i : Int) + 2 + l[i]).toNat = i + 2 + l[i].toNat by omega, show ((i : Int) + 2).toNat = i + 2 by omega, mid_cut]
          have hcl : impl_clone_byte.f ((l.drop (i + 2)).take l[i].toNat) = some ((l.drop (i + 2)).take l[i].toNat) := by
            unfold impl_clone_byte.f
            rw [if_pos]
            rw [List.length_take, List.length_drop]; omega
          simp only [hcl, Option.bind_some, if_pos (show acc.length < 4398046511104 by omega)]
          have h5 := ih (i + (2 + l[i].toNat)) (acc ++ [⟨l[i + 1], (l.drop (i + 2)).take l[i].toNat⟩]) (by omega) (by omega) (by simp; omega)
          rw [drop_two h4]
          simp only [pw, if_neg h2, if_neg (show ¬ ((l.drop (i + 2)).length : Int) < l[i] by rw [List.length_drop]; omega)]
          rw [List.drop_drop, show i + 2 + l[i].toNat = i + (2 + l[i].toNat) by omega]
          rw [show (i : Int) + (2 + l[i]) = ((i + (2 + l[i].toNat) : Nat) : Int) by omega]
          rw [List.append_assoc, List.singleton_append] at h5
          rw [show (i : Int) + ((l[i].toNat + 2 + (pw d (l.drop (i + (2 + l[i].toNat)))).2.1 : Nat) : Int) = ((i + (2 + l[i].toNat) : Nat) : Int) + ((pw d (l.drop (i + (2 + l[i].toNat)))).2.1 : Int) by omega]
          exact h5
    · have h1' : i = l.length := by omega
      subst h1'
      simp only [Int.lt_irrefl, if_false, List.drop_length, pw, List.append_nil]
      exact Ev.now _
theorem impl_wordsFrom (l : List Int) (hb : isBytes l) (hl : l.length ≤ 1099511627776) : Ev (fun k => impl_WordsFrom.f k l) ((pw l.length l).1, ((pw l.length l).2.1 : Int), (pw l.length l).2.2) := by
  unfold impl_WordsFrom.f
  have := impl_wf_l l hb hl l.length 0 [] (by omega) (by omega) (by simp)
  simpa using this

theorem spec_wf_end (l : List Int) (hb : isBytes l) (i : Nat) (acc : List S36) (hi : i ≤ l.length) : (if (i : Int) = (l.length : Int) then some (acc, (i : Int), true) else if 0 ≤ (i : Int) then (if (i : Int) < (l.length : Int) then some (acc, (i : Int), decide (wrap64 (rd l (i : Int)) ≤ 9)) else none) else none) = some (acc, (i : Int), decide (i = l.length ∨ rd l (i : Int) ≤ 9)) := by
  by_cases h : i = l.length
  · simp [h]
  · have hx := isBytes_get hb i (by omega)
    rw [if_neg (show ¬ (i : Int) = (l.length : Int) by omega), if_pos (show 0 ≤ (i : Int) by omega), if_pos (show (i : Int) < (l.length : Int) by omega), rd_get l i (by omega), wrap_id (x := l[i]) (by omega) (by omega)]
    simp [h]
theorem spec_wf_l (l : List Int) (hb : isBytes l) (hl : l.length ≤ 1099511627776) (d : Nat) : ∀ (i : Nat) (acc : List S36), i ≤ l.length → l.length - i ≤ d → acc.length ≤ i →
    Ev (fun k => spec_WordsFrom.l0 k l acc (i : Int)) (acc ++ (pw d (l.drop i)).1, (i : Int) + (pw d (l.drop i)).2.1, (pw d (l.drop i)).2.2) := by
  induction d with
  | zero =>
    intro i acc hi hd ha
    refine Ev.succ ?_
    simp only [spec_WordsFrom.l0]
    rw [wrap_id (x := (i : Int) + 2) (by omega) (by omega)]
    simp only [if_neg (show ¬ (i : Int) + 2 ≤ (l.length : Int) by omega), if_pos (show (i : Int) = (l.length : Int) by omega), pw, List.append_nil, Int.natCast_zero, Int.add_zero]
    exact Ev.now _
  | succ d ih =>
    intro i acc hi hd ha
    refine Ev.succ ?_
    simp only [spec_WordsFrom.l0]
    rw [wrap_id (x := (i : Int) + 2) (by omega) (by omega)]
    by_cases h1 : i + 1 < l.length
    · have hx := isBytes_get hb i (by omega)
      have hx1 := isBytes_get hb (i + 1) h1
      have hr : rd l ((i : Int) + 1) = l[i + 1] := by
        have := rd_get l (i + 1) h1
        rw [← this]; congr 1
      simp only [if_pos (show (i : Int) + 2 ≤ (l.length : Int) by omega), if_pos (show (0 : Int) ≤ (i : Int) by omega), if_pos (show (i : Int) < (l.length : Int) by omega), if_neg (show ¬ (i : Int) = (l.length : Int) by omega)]
      rw [rd_get l i (by omega), wrap_id (x := l[i]) (by omega) (by omega), wrap_id (x := (i : Int) + 1) (by omega) (by omega), wrap_id (x := (i : Int) + 2 + l[i]) (by omega) (by omega), drop_two h1]
      by_cases h2 : l[i] ≤ 9
      · simp only [if_pos h2]
        by_cases h3 : (i : Int) + 2 + l[i] ≤ (l.length : Int)
        · simp only [if_pos h3, if_pos (show (0 : Int) ≤ (i : Int) + 1 by omega), if_pos (show (i : Int) + 1 < (l.length : Int) by omega), if_pos (show (0 : Int) ≤ (i : Int) + 2 by omega), if_pos (show (i : Int) + 2 ≤ (i : Int) + 2 + l[i] by omega), Option.bind_some]
          rw [hr, wrap_id (x := l[i + 1]) (by omega) (by omega), show ((i : Int) + 2 + l[i]).toNat = i + 2 + l[i].toNat by omega, show ((i : Int) + 2).toNat = i + 2 by omega, mid_cut]
          have hc : ([] : List Int).length + ((l.drop (i + 2)).take l[i].toNat).length < 140737488355328 := by rw [List.length_take, List.length_drop, List.length_nil]; omega
          simp only [if_pos hc, if_pos (show acc.length < 4398046511104 by omega), List.nil_append]
          have h5 := ih (i + (2 + l[i].toNat)) (acc ++ [⟨l[i + 1], (l.drop (i + 2)).take l[i].toNat⟩]) (by omega) (by omega) (by simp; omega)
          simp only [pw, if_neg (show ¬ l[i] > 9 by omega), if_neg (show ¬ ((l.drop (i + 2)).length : Int) < l[i] by rw [List.length_drop]; omega)]
          rw [List.drop_drop, show i + 2 + l[i].toNat = i + (2 + l[i].toNat) by omega]
          rw [show (i : Int) + 2 + l[i] = ((i + (2 + l[i].toNat) : Nat) : Int) by omega]
          rw [List.append_assoc, List.singleton_append] at h5
          rw [show (i : Int) + ((l[i].toNat + 2 + (pw d (l.drop (i + (2 + l[i].toNat)))).2.1 : Nat) : Int) = ((i + (2 + l[i].toNat) : Nat) : Int) + ((pw d (l.drop (i + (2 + l[i].toNat)))).2.1 : Int) by omega]
          exact h5
        · simp only [if_neg h3, pw, if_neg (show ¬ l[i] > 9 by omega), if_pos (show ((l.drop (i + 2)).length : Int) < l[i] by rw [List.length_drop]; omega), List.append_nil, Int.natCast_zero, Int.add_zero, decide_eq_true h2]
          exact Ev.now _
      · simp only [if_neg h2, pw, if_pos (show l[i] > 9 by omega), List.append_nil, Int.natCast_zero, Int.add_zero, decide_eq_false h2]
        exact Ev.now _
    · simp only [if_neg (show ¬ (i : Int) + 2 ≤ (l.length : Int) by omega)]
      rw [spec_wf_end l hb i acc hi]
      by_cases h2 : i = l.length
      · subst h2
        simp only [List.drop_length, pw, List.append_nil, Int.natCast_zero, Int.add_zero]
        exact Ev.pure (by simp)
      · rw [drop_one (by omega), rd_get l i (by omega)]
        by_cases h3 : l[i] ≤ 9
        · simp only [pw, if_neg (show ¬ l[i] > 9 by omega), List.append_nil, Int.natCast_zero, Int.add_zero]
          exact Ev.pure (by simp [h3])
        · simp only [pw, if_pos (show l[i] > 9 by omega), List.append_nil, Int.natCast_zero, Int.add_zero]
          exact Ev.pure (by simp [h3, h2])
theorem spec_wordsFrom (l : List Int) (hb : isBytes l) (hl : l.length ≤ 1099511627776) : Ev (fun k => spec_WordsFrom.f k l) ((pw l.length l).1, ((pw l.length l).2.1 : Int), (pw l.length l).2.2) := by
  unfold spec_WordsFrom.f
  have := spec_wf_l l hb hl l.length 0 [] (by omega) (by omega) (by simp)
  simpa using this

/-! alive -/
theorem bytesOf_5 : Ev (fun k => impl_bytesOf.f k 5 1) [5] := by
  refine Ev.of (k := 3) (fun k => impl_bytesOf.mono 5 1 k) ?_
  kernel_rfl
theorem alive_ : Ev (fun k => laws_alive.f k) true := by
  have h1 : Ev (fun k => impl_BytesOf.f k 5 1) [5] := by
    refine Ev.of (k := 3) (fun k => impl_BytesOf.mono 5 1 k) ?_
    kernel_rfl
  have h2 : Ev (fun k => impl_BytesOf.f k 256 1) [] := by
    refine Ev.of (k := 3) (fun k => impl_BytesOf.mono 256 1 k) ?_
    kernel_rfl
  unfold laws_alive.f
  refine Ev.bind h1 ?_
  simp only [List.length_singleton, Int.natCast_one, if_true]
  refine Ev.bind h2 ?_
  exact Ev.now _
theorem same_refl (l : List Int) : laws_sameBytes.f l l = some true := by
  unfold laws_sameBytes.f; simp

/-! drawing -/
theorem xor_nn (a b : Int) (a0 : 0 ≤ a) (a1 : a < 9223372036854775808) (b0 : 0 ≤ b) (b1 : b < 9223372036854775808) : 0 ≤ Go.bits .xor .i64 a b ∧ Go.bits .xor .i64 a b < 9223372036854775808 := by
  obtain ⟨x, rfl⟩ := Int.eq_ofNat_of_zero_le a0
  obtain ⟨y, rfl⟩ := Int.eq_ofNat_of_zero_le b0
  have hx : x < 2 ^ 63 := by omega
  have hy : y < 2 ^ 63 := by omega
  have hxy : x ^^^ y < 2 ^ 63 := Nat.xor_lt_two_pow hx hy
  have h1 : (BitVec.ofInt 64 (x : Int)).toNat = x := by
    rw [BitVec.ofInt_natCast, BitVec.toNat_ofNat]; exact Nat.mod_eq_of_lt (by omega)
  have h2 : (BitVec.ofInt 64 (y : Int)).toNat = y := by
    rw [BitVec.ofInt_natCast, BitVec.toNat_ofNat]; exact Nat.mod_eq_of_lt (by omega)
  have h3 : Go.bits .xor .i64 (x : Int) (y : Int) = ((x ^^^ y : Nat) : Int) := by
    show IntKind.i64.wrap ((BitVec.ofInt 64 (x : Int) ^^^ BitVec.ofInt 64 (y : Int)).toNat : Int) = _
    rw [BitVec.toNat_xor, h1, h2, IntKind.wrap_i64]
    omega
  rw [h3]
  omega
theorem tmod_in (x n : Int) (h0 : 0 ≤ x) (hn : 1 ≤ n) : 0 ≤ Int.tmod x n ∧ Int.tmod x n < n := by
  rw [Int.tmod_eq_emod_of_nonneg h0]
  exact ⟨Int.emod_nonneg _ (by omega), Int.emod_lt_of_pos _ (by omega)⟩
theorem tdiv_in (x n : Int) (h0 : 0 ≤ x) (hn : 1 ≤ n) : 0 ≤ Int.tdiv x n ∧ Int.tdiv x n ≤ x := by
  rw [Int.tdiv_eq_ediv_of_nonneg h0]
  exact ⟨Int.ediv_nonneg h0 (by omega), Int.ediv_le_self _ h0⟩
theorem rd_byte {s : List Int} (hb : isBytes s) (i : Int) : 0 ≤ rd s i ∧ rd s i ≤ 255 := by
  unfold rd
  rw [List.getD_eq_getElem?_getD]
  by_cases h : i.toNat < s.length
  · rw [List.getElem?_eq_getElem h]; exact hb _ (List.getElem_mem h)
  · rw [List.getElem?_eq_none (by omega)]; exact ⟨Int.le_refl _, by decide⟩
theorem pick (s : List Int) (p n : Int) (hb : isBytes s) (hl : s.length ≤ 2000) (h0 : 0 ≤ p) (hp : p ≤ 1000000000) (hn : 1 ≤ n) (hn1 : n ≤ 1000000000) :
    ∃ r, Ev (fun k => spec_l20Rd_pick.f k s p n) (r, p + 1) ∧ 0 ≤ r ∧ r < n := by
  unfold spec_l20Rd_pick.f
  simp only [if_neg (show ¬ n < 1 by omega)]
  rw [wrap_id (x := p + 1) (by omega) (by omega)]
  by_cases hs : s.length = 0
  · refine ⟨0, Ev.succ ?_, by omega, by omega⟩
    simp only [spec_l20Rd_pick.j0, hs, Int.natCast_zero, beq_self_eq_true, if_true]
    exact Ev.now _
  · have hz : ((s.length : Int) == 0) = false := by rw [beq_eq_false_iff_ne]; omega
    simp only [hz]
    by_cases h1 : p < (s.length : Int)
    · have hx := rd_byte hb p
      have hm := tmod_in (rd s p) n hx.1 hn
      refine ⟨Int.tmod (rd s p) n, Ev.succ ?_, hm.1, hm.2⟩
      simp only [spec_l20Rd_pick.j0, Bool.false_eq_true, if_false, show p + 1 - 1 = p by omega]
      rw [wrap_id (x := p) (by omega) (by omega), wrap_id (x := rd s p) (by omega) (by omega)]
      simp only [if_pos h1, if_pos h0, if_neg (show ¬ n = 0 by omega)]
      exact Ev.now _
    · have m1 := tmod_in p s.length h0 (by omega)
      have m2 := tmod_in (p * 7 + 3) s.length (by omega) (by omega)
      have d1 := tdiv_in p s.length h0 (by omega)
      have x1 := rd_byte hb (Int.tmod p s.length)
      have x2 := rd_byte hb (Int.tmod (p * 7 + 3) s.length)
      let v := rd s (Int.tmod p s.length) * 131 + rd s (Int.tmod (p * 7 + 3) s.length) * 1117 + p * 29 + Int.tdiv p s.length * 53
      have v0 : 0 ≤ v := by show 0 ≤ _ + _ + _ + _; omega
      have v1 : v < 9223372036854775808 := by show _ + _ + _ + _ < _; omega
      have d2 := tdiv_in v 64 v0 (by omega)
      have b1 := xor_nn v (Int.tdiv v 64) v0 v1 d2.1 (by omega)
      have hm := tmod_in (Go.bits .xor .i64 v (Int.tdiv v 64)) n b1.1 hn
      refine ⟨_, Ev.succ ?_, hm.1, hm.2⟩
      simp only [spec_l20Rd_pick.j0, Bool.false_eq_true, if_false, show p + 1 - 1 = p by omega]
      rw [wrap_id (x := p) (by omega) (by omega)]
      rw [wrap_id (x := p * 7) (by omega) (by omega), wrap_id (x := p * 7 + 3) (by omega) (by omega), wrap_id (x := p * 29) (by omega) (by omega), wrap_id (x := rd s (Int.tmod p s.length)) (by omega) (by omega),
        wrap_id (x := rd s (Int.tmod (p * 7 + 3) s.length)) (by omega) (by omega), wrap_id (x := rd s (Int.tmod p s.length) * 131) (by omega) (by omega), wrap_id (x := rd s (Int.tmod (p * 7 + 3) s.length) * 1117) (by omega) (by omega),
        wrap_id (x := rd s (Int.tmod p s.length) * 131 + rd s (Int.tmod (p * 7 + 3) s.length) * 1117) (by omega) (by omega), wrap_id (x := rd s (Int.tmod p s.length) * 131 + rd s (Int.tmod (p * 7 + 3) s.length) * 1117 + p * 29) (by omega) (by omega),
        wrap_id (x := Int.tdiv p s.length) (by omega) (by omega), wrap_id (x := Int.tdiv p s.length * 53) (by omega) (by omega), wrap_id (x := rd s (Int.tmod p s.length) * 131 + rd s (Int.tmod (p * 7 + 3) s.length) * 1117 + p * 29 + Int.tdiv p s.length * 53) (by omega) (by omega)]
      simp only [if_neg h1, if_neg (show ¬ (s.length : Int) = 0 by omega), if_pos m1.1, if_pos m1.2, if_pos m2.1, if_pos m2.2, if_neg (show ¬ n = 0 by omega)]
      rw [wrap_id (x := Int.tdiv v 64) (by omega) (by omega)]
      exact Ev.now _
theorem isBytes_snoc {l : List Int} {v : Int} (h : isBytes l) (hv : 0 ≤ v ∧ v ≤ 255) : isBytes (l ++ [v]) := by
  intro y hy
  rw [List.mem_append] at hy
  rcases hy with hy | hy
  · exact h y hy
  · rw [List.mem_singleton] at hy; omega
theorem bytes_l (s : List Int) (hb : isBytes s) (hl : s.length ≤ 2000) (n : Nat) : ∀ (acc : List Int) (p : Int), isBytes acc → n + acc.length ≤ 100000 → 0 ≤ p → p + 2 * n ≤ 1000000000 →
    ∃ x q, Ev (fun k => spec_l20Rd_bytes.l0 k n acc s p) (x, q) ∧ isBytes x ∧ x.length = n + acc.length ∧ 0 ≤ q ∧ q ≤ p + 2 * n := by
  induction n with
  | zero =>
    intro acc p ha _ h0 _
    refine ⟨acc, p, Ev.succ ?_, ha, by omega, h0, by omega⟩
    simp only [spec_l20Rd_bytes.l0]
    exact Ev.now _
  | succ n ih =>
    intro acc p ha hn h0 hp
    obtain ⟨r1, e1, r10, r11⟩ := pick s p 3 hb hl h0 (by omega) (by omega) (by omega)
    by_cases h1 : r1 = 0
    · obtain ⟨r2, e2, r20, r21⟩ := pick s (p + 1) 256 hb hl (by omega) (by omega) (by omega) (by omega)
      obtain ⟨x, q, e, hx, hxl, hq0, hq1⟩ := ih (acc ++ [r2 % 256]) (p + 1 + 1) (isBytes_snoc ha (by omega)) (by simp; omega) (by omega) (by omega)
      refine ⟨x, q, Ev.succ ?_, hx, by simp at hxl; omega, hq0, by omega⟩
      simp only [spec_l20Rd_bytes.l0, if_pos (show ((n + 1 : Nat) : Int) > 0 by omega)]
      refine Ev.bind e1 ?_
      simp only [if_pos h1]
      refine Ev.bind e2 ?_
      simp only [if_pos (show acc.length < 140737488355328 by omega)]
      rw [wrap_id (x := ((n + 1 : Nat) : Int) - 1) (by omega) (by omega), show ((n + 1 : Nat) : Int) - 1 = (n : Int) by omega]
      exact e
    · obtain ⟨r2, e2, r20, r21⟩ := pick s (p + 1) 3 hb hl (by omega) (by omega) (by omega) (by omega)
      obtain ⟨x, q, e, hx, hxl, hq0, hq1⟩ := ih (acc ++ [wrap64 (r2 + 97) % 256]) (p + 1 + 1) (isBytes_snoc ha (by omega)) (by simp; omega) (by omega) (by omega)
      refine ⟨x, q, Ev.succ ?_, hx, by simp at hxl; omega, hq0, by omega⟩
      simp only [spec_l20Rd_bytes.l0, if_pos (show ((n + 1 : Nat) : Int) > 0 by omega)]
      refine Ev.bind e1 ?_
      simp only [if_neg h1]
      refine Ev.bind e2 ?_
      simp only [if_pos (show acc.length < 140737488355328 by omega)]
      rw [wrap_id (x := ((n + 1 : Nat) : Int) - 1) (by omega) (by omega), show ((n + 1 : Nat) : Int) - 1 = (n : Int) by omega]
      exact e
theorem bytes_ (s : List Int) (n p : Int) (hb : isBytes s) (hl : s.length ≤ 2000) (hn0 : 0 ≤ n) (hn : n ≤ 100000) (h0 : 0 ≤ p) (hp : p ≤ 999000000) :
    ∃ x q, Ev (fun k => spec_l20Rd_bytes.f k s p n) (x, q) ∧ isBytes x ∧ (x.length : Int) = n ∧ 0 ≤ q ∧ q ≤ p + 2 * n := by
  obtain ⟨m, rfl⟩ := Int.eq_ofNat_of_zero_le hn0
  obtain ⟨x, q, e, h1, h2, h3, h4⟩ := bytes_l s hb hl m [] p (by intro y hy; cases hy) (by simp; omega) h0 (by omega)
  exact ⟨x, q, e, h1, by simp at h2; omega, h3, h4⟩
theorem odd (s : List Int) (p n : Int) (hb : isBytes s) (hl : s.length ≤ 2000) (h0 : 0 ≤ p) (hp : p ≤ 1000000000) (hn1 : n ≤ 1000000000) :
    ∃ b q, Ev (fun k => spec_l20Rd_odd.f k s p n) (b, q) ∧ 0 ≤ q ∧ q ≤ p + 1 := by
  unfold spec_l20Rd_odd.f
  by_cases h : n > 0
  · simp only [if_pos h]
    obtain ⟨r, e, _, _⟩ := pick s p n hb hl h0 hp (by omega) hn1
    exact ⟨_, _, Ev.bind e (Ev.now _), by omega, by omega⟩
  · simp only [if_neg h]
    exact ⟨_, _, Ev.now _, h0, by omega⟩
theorem open_ (l : List Int) (hb : isBytes l) : ∃ s, spec_l20Open.f l = some (s, 0) ∧ isBytes s ∧ s.length ≤ 2000 := by
  unfold spec_l20Open.f
  by_cases h : (l.length : Int) > 2000
  · simp only [if_pos h, if_pos (show (2000 : Int) ≤ (l.length : Int) by omega)]
    exact ⟨_, rfl, fun x hx => hb x (List.mem_of_mem_take hx), by simp; omega⟩
  · simp only [if_neg h]
    exact ⟨_, rfl, hb, by omega⟩

/-- What the draws make of words: the number is small, the bytes are bytes. -/
theorem words_ (s : List Int) (p n : Int) (hb : isBytes s) (hl : s.length ≤ 2000) (h0 : 0 ≤ p) (hp : p ≤ 900000000) (hn1 : n ≤ 1000000000) :
    ∃ a x q, Ev (fun k => spec_l20Words.f k s p n) (a, x, q) ∧ -1000 ≤ a ∧ a ≤ 1000 ∧ isBytes x ∧ x.length ≤ 10 ∧ 0 ≤ q ∧ q ≤ p + 20 := by
  obtain ⟨r1, e1, a1, b1⟩ := pick s p 6 hb hl h0 (by omega) (by omega) (by omega)
  obtain ⟨r2, e2, a2, b2⟩ := pick s (p + 1) 8 hb hl (by omega) (by omega) (by omega) (by omega)
  obtain ⟨x, q, e3, hx, hxl, q0, q1⟩ := bytes_ s r2 (p + 1 + 1) hb hl (by omega) (by omega) (by omega) (by omega)
  obtain ⟨o1, q2, e4, c4, d4⟩ := odd s q n hb hl (by omega) (by omega) hn1
  have z : isBytes (List.replicate 10 (0 : Int)) := by intro y hy; rw [List.mem_replicate] at hy; omega
  unfold spec_l20Words.f
  cases o1 with
  | true =>
    obtain ⟨r5, e5, a5, b5⟩ := pick s q2 2 hb hl c4 (by omega) (by omega) (by omega)
    obtain ⟨o6, q6, e6, c6, d6⟩ := odd s (q2 + 1) n hb hl (by omega) (by omega) hn1
    have w : wrap64 (256 - wrap64 (r5 * 300)) = 256 - r5 * 300 := by rw [wrap_id (x := r5 * 300) (by omega) (by omega), wrap_id (by omega) (by omega)]
    cases o6 with
    | true =>
      refine ⟨256 - r5 * 300, List.replicate 10 0, q6, Ev.bind e1 (Ev.bind e2 (Ev.bind e3 (Ev.bind e4 ?_))), by omega, by omega, z, by simp, c6, by omega⟩
      simp only [if_true]
      refine Ev.bind e5 (Ev.bind e6 ?_)
      simp only [if_true, w]
      exact Ev.now _
    | false =>
      refine ⟨256 - r5 * 300, x, q6, Ev.bind e1 (Ev.bind e2 (Ev.bind e3 (Ev.bind e4 ?_))), by omega, by omega, hx, by omega, c6, by omega⟩
      simp only [if_true]
      refine Ev.bind e5 (Ev.bind e6 ?_)
      simp only [Bool.false_eq_true, if_false, w]
      exact Ev.now _
  | false =>
    obtain ⟨o6, q6, e6, c6, d6⟩ := odd s q2 n hb hl (by omega) (by omega) hn1
    cases o6 with
    | true =>
      refine ⟨r1, List.replicate 10 0, q6, Ev.bind e1 (Ev.bind e2 (Ev.bind e3 (Ev.bind e4 ?_))), by omega, by omega, z, by simp, c6, by omega⟩
      simp only [Bool.false_eq_true, if_false]
      refine Ev.bind e6 ?_
      simp only [if_true]
      exact Ev.now _
    | false =>
      refine ⟨r1, x, q6, Ev.bind e1 (Ev.bind e2 (Ev.bind e3 (Ev.bind e4 ?_))), by omega, by omega, hx, by omega, c6, by omega⟩
      simp only [Bool.false_eq_true, if_false]
      refine Ev.bind e6 ?_
      simp only [Bool.false_eq_true, if_false]
      exact Ev.now _

def wb (w : S36) : List Int := wordsBytes w.f0 w.f1
/-- What the words of a stream are: their bytes are its beginning, and each is small. -/
theorem pw_bytes (d : Nat) : ∀ l : List Int, isBytes l → (pw d l).2.1 ≤ l.length ∧ ((pw d l).1.map wb).flatten = l.take (pw d l).2.1 ∧ (∀ w ∈ (pw d l).1, w.f1.length ≤ 9) ∧ (pw d l).1.length ≤ l.length := by
  induction d with
  | zero => intro l _; simp [pw]
  | succ d ih =>
    intro l hb
    match l, hb with
    | [], _ => simp [pw]
    | n :: rest, hb =>
      by_cases h1 : n > 9
      · simp [pw, if_pos h1]
      · match rest, hb with
        | [], _ => simp [pw, if_neg h1]
        | a :: more, hb =>
          have hn := hb n (by simp)
          have ha := hb a (by simp)
          by_cases h2 : (more.length : Int) < n
          · simp [pw, if_neg h1, if_pos h2]
          · simp only [pw, if_neg h1, if_neg h2]
            obtain ⟨i1, i2, i3, i4⟩ := ih (more.drop n.toNat) (fun x hx => hb x (by have := List.mem_of_mem_drop hx; simp [this]))
            have ht : (more.take n.toNat).length = n.toNat := by rw [List.length_take]; omega
            rw [List.length_drop] at i1 i4
            refine ⟨by simp only [List.length_cons]; omega, ?_, ?_, by simp only [List.length_cons]; omega⟩
            · rw [List.map_cons, List.flatten_cons, i2]
              have hw : wb ⟨a, more.take n.toNat⟩ = n :: a :: more.take n.toNat := by
                unfold wb wordsBytes
                rw [if_pos ⟨ha.1, ha.2, by rw [ht]; omega⟩, ht, show ((n.toNat : Nat) : Int) = n by omega]
              rw [hw, show n.toNat + 2 + (pw d (more.drop n.toNat)).2.1 = (n.toNat + (pw d (more.drop n.toNat)).2.1) + 1 + 1 by omega, List.take_succ_cons, List.take_succ_cons, List.take_add]
              rfl
            · intro w hw
              rw [List.mem_cons] at hw
              rcases hw with rfl | hw
              · show (more.take n.toNat).length ≤ 9
                omega
              · exact i3 w hw
theorem pw_fuel (d : Nat) : ∀ (d' : Nat) (l : List Int), l.length ≤ d → l.length ≤ d' → pw d l = pw d' l := by
  induction d with
  | zero =>
    intro d' l h _
    have : l = [] := List.length_eq_zero_iff.1 (by omega)
    subst this
    cases d' <;> rfl
  | succ d ih =>
    intro d' l h h'
    match l with
    | [] => cases d' <;> rfl
    | n :: rest =>
      cases d' with
      | zero => simp at h'
      | succ d' =>
        match rest with
        | [] => simp [pw]
        | a :: more =>
          have := ih d' (more.drop n.toNat) (by simp at h ⊢; omega) (by simp at h' ⊢; omega)
          simp only [pw, this]
/-- However the stream is cut: the words of a beginning, and those from where these end. -/
theorem pw_split (d : Nat) : ∀ (l : List Int) (h d1 d2 : Nat), isBytes l → l.length ≤ d → l.length ≤ d1 → l.length ≤ d2 →
    (pw d1 (l.take h)).1.length + (pw d2 (l.drop (pw d1 (l.take h)).2.1)).1.length = (pw d l).1.length ∧ (pw d1 (l.take h)).2.1 + (pw d2 (l.drop (pw d1 (l.take h)).2.1)).2.1 = (pw d l).2.1 := by
  induction d with
  | zero =>
    intro l h d1 d2 _ hd _ _
    have : l = [] := List.length_eq_zero_iff.1 (by omega)
    subst this
    cases d1 <;> cases d2 <;> simp [pw]
  | succ d ih =>
    intro l h d1 d2 hb hd hd1 hd2
    have stop : (pw d1 (l.take h)).1 = [] → (pw d1 (l.take h)).2.1 = 0 → (pw d1 (l.take h)).1.length + (pw d2 (l.drop (pw d1 (l.take h)).2.1)).1.length = (pw (d + 1) l).1.length ∧ (pw d1 (l.take h)).2.1 + (pw d2 (l.drop (pw d1 (l.take h)).2.1)).2.1 = (pw (d + 1) l).2.1 := by
      intro e1 e2
      rw [e1, e2, List.drop_zero, pw_fuel d2 (d + 1) l hd2 hd]
      simp
    cases d1 with
    | zero => exact stop (by simp [pw]) (by simp [pw])
    | succ d1 =>
      match hl : l.take h with
      | [] => rw [hl] at stop; exact stop (by simp [pw]) (by simp [pw])
      | n :: rest =>
        by_cases h1 : n > 9
        · rw [hl] at stop; exact stop (by simp [pw, if_pos h1]) (by simp [pw, if_pos h1])
        · match hr : rest with
          | [] => rw [hl] at stop; exact stop (by simp [pw, if_neg h1]) (by simp [pw, if_neg h1])
          | a :: more =>
            by_cases h2 : (more.length : Int) < n
            · rw [hl] at stop; exact stop (by simp [pw, if_neg h1, if_pos h2]) (by simp [pw, if_neg h1, if_pos h2])
            · clear stop
              match l, h, hb, hd, hd1, hd2, hl with
              | [], _, _, _, _, _, hl => simp at hl
              | [_], h, _, _, _, _, hl => cases h <;> simp at hl
              | _ :: _ :: _, 0, _, _, _, _, hl => simp at hl
              | _ :: _ :: _, 1, _, _, _, _, hl => simp at hl
              | n' :: a' :: all, h + 2, hb, hd, hd1, hd2, hl =>
                rw [List.take_succ_cons, List.take_succ_cons] at hl
                injection hl with e1 hl; injection hl with e2 e3
                subst e1; subst e2
                have hn := hb n' (by simp)
                rw [← e3] at h2 ⊢
                rw [List.length_take] at h2
                simp only [List.length_cons] at hd hd1 hd2
                have h3 : ¬ (((all.take h).length : Nat) : Int) < n' := by rw [List.length_take]; omega
                have h4 : ¬ (all.length : Int) < n' := by omega
                have i := ih (all.drop n'.toNat) (h - n'.toNat) d1 d2 (fun x hx => hb x (by have := List.mem_of_mem_drop hx; simp [this])) (by rw [List.length_drop]; omega) (by rw [List.length_drop]; omega) (by rw [List.length_drop]; omega)
                rw [show (all.drop n'.toNat).take (h - n'.toNat) = (all.take h).drop n'.toNat by rw [List.drop_take]] at i
                simp only [pw, if_neg h1, if_neg h3, if_neg h4, List.length_cons]
                rw [show n'.toNat + 2 + (pw d1 ((all.take h).drop n'.toNat)).2.1 = (n'.toNat + (pw d1 ((all.take h).drop n'.toNat)).2.1) + 1 + 1 by omega, List.drop_succ_cons, List.drop_succ_cons, ← List.drop_drop]
                omega
theorem wordsBytes_isBytes (a : Int) (x : List Int) (hx : isBytes x) : isBytes (wordsBytes a x) := by
  unfold wordsBytes
  split
  · rename_i h
    intro y hy
    rw [List.mem_cons, List.mem_cons] at hy
    rcases hy with rfl | rfl | hy
    · omega
    · omega
    · exact hx y hy
  · intro y hy; cases hy
theorem isBytes_append {x y : List Int} (hx : isBytes x) (hy : isBytes y) : isBytes (x ++ y) := by
  intro z hz
  rcases List.mem_append.1 hz with h | h
  · exact hx z h
  · exact hy z h
theorem draw_l (s : List Int) (hb : isBytes s) (hl : s.length ≤ 2000) (m : Nat) : ∀ (acc : List Int) (p : Int), isBytes acc → acc.length + 11 * m ≤ 1000 → 0 ≤ p → p + 30 * m ≤ 900000000 →
    ∃ r, Ev (fun k => spec_DrawWordsFrom.l0 k acc m s p) r ∧ isBytes r ∧ r.length ≤ acc.length + 11 * m + 2 := by
  induction m with
  | zero =>
    intro acc p ha hm h0 hp
    obtain ⟨r1, e1, a1, b1⟩ := pick s p 4 hb hl h0 (by omega) (by omega) (by omega)
    by_cases h1 : r1 = 0
    · obtain ⟨r2, e2, a2, b2⟩ := pick s (p + 1) 14 hb hl (by omega) (by omega) (by omega) (by omega)
      obtain ⟨r3, e3, a3, b3⟩ := pick s (p + 1 + 1) 4 hb hl (by omega) (by omega) (by omega) (by omega)
      refine ⟨acc ++ [r2 % 256, r3 % 256], Ev.succ ?_, isBytes_append ha (by intro y hy; simp at hy; omega), by simp⟩
      simp only [spec_DrawWordsFrom.l0, Int.natCast_zero, if_neg (show ¬ (0 : Int) > 0 by omega)]
      refine Ev.bind e1 ?_
      simp only [if_pos h1]
      refine Ev.bind e2 (Ev.bind e3 ?_)
      simp only [Option.bind_some]
      exact Ev.pure (by rw [if_pos (by simp; omega)])
    · by_cases h2 : r1 = 1
      · obtain ⟨r2, e2, a2, b2⟩ := pick s (p + 1) ((acc.length : Int) + 1) hb hl (by omega) (by omega) (by omega) (by omega)
        refine ⟨acc.take r2.toNat, Ev.succ ?_, fun y hy => ha y (List.mem_of_mem_take hy), by rw [List.length_take]; omega⟩
        simp only [spec_DrawWordsFrom.l0, Int.natCast_zero, if_neg (show ¬ (0 : Int) > 0 by omega)]
        refine Ev.bind e1 ?_
        simp only [if_neg h1, if_pos h2]
        rw [wrap_id (x := (acc.length : Int) + 1) (by omega) (by omega)]
        refine Ev.bind e2 ?_
        simp only [if_pos a2, if_pos (show r2 ≤ (acc.length : Int) by omega)]
        exact Ev.now _
      · refine ⟨acc, Ev.succ ?_, ha, by omega⟩
        simp only [spec_DrawWordsFrom.l0, Int.natCast_zero, if_neg (show ¬ (0 : Int) > 0 by omega)]
        refine Ev.bind e1 ?_
        simp only [if_neg h1, if_neg h2]
        exact Ev.now _
  | succ m ih =>
    intro acc p ha hm h0 hp
    obtain ⟨a, x, q, e, _, _, hx, xl, q0, q1⟩ := words_ s p 0 hb hl h0 (by omega) (by omega)
    have hw := wordsBytes_len a x
    obtain ⟨r, er, hr, hrl⟩ := ih (acc ++ wordsBytes a x) q (isBytes_append ha (wordsBytes_isBytes a x hx)) (by rw [List.length_append]; omega) q0 (by omega)
    rw [List.length_append] at hrl
    refine ⟨r, Ev.succ ?_, hr, by omega⟩
    simp only [spec_DrawWordsFrom.l0, if_pos (show ((m + 1 : Nat) : Int) > 0 by omega)]
    refine Ev.bind e ?_
    simp only [spec_wordsBytes a x (by omega), Option.bind_some, if_pos (show acc.length + (wordsBytes a x).length < 140737488355328 by omega)]
    rw [wrap_id (x := ((m + 1 : Nat) : Int) - 1) (by omega) (by omega), show ((m + 1 : Nat) : Int) - 1 = (m : Int) by omega]
    exact er
theorem draw_ (l : List Int) (hb : isBytes l) : ∃ r, Ev (fun k => spec_DrawWordsFrom.f k l) r ∧ isBytes r ∧ r.length ≤ 100 := by
  obtain ⟨s, hs, sb, sl⟩ := open_ l hb
  obtain ⟨r1, e1, a1, b1⟩ := pick s 0 5 sb sl (by omega) (by omega) (by omega) (by omega)
  obtain ⟨m, rfl⟩ := Int.eq_ofNat_of_zero_le a1
  obtain ⟨r, er, hr, hrl⟩ := draw_l s sb sl m [] (0 + 1) (by intro y hy; cases hy) (by simp; omega) (by omega) (by omega)
  refine ⟨r, ?_, hr, by simp at hrl; omega⟩
  unfold spec_DrawWordsFrom.f
  simp only [hs, Option.bind_some]
  exact Ev.bind e1 er
theorem law_l (b : List Int) (ws : List S36) (n : Int) (hws : ∀ w ∈ ws, w.f1.length ≤ 9) (hlen : ws.length ≤ 1000) (hfin : Ev (fun k => laws_FnWordsFrom.l0 k b ws n ws ((ws.map wb).flatten) (ws.length : Int)) true) (d : Nat) :
    ∀ i : Nat, i ≤ ws.length → ws.length - i ≤ d → (((ws.take i).map wb).flatten).length ≤ 11 * i → Ev (fun k => laws_FnWordsFrom.l0 k b ws n ws (((ws.take i).map wb).flatten) (i : Int)) true := by
  induction d with
  | zero =>
    intro i hi hd _
    have : i = ws.length := by omega
    subst this
    rw [List.take_length]
    exact hfin
  | succ d ih =>
    intro i hi hd ha
    by_cases h1 : i < ws.length
    · have hg : rd_T36 ws (i : Int) = ws[i] := by
        unfold rd_T36
        rw [Int.toNat_natCast, List.getD_eq_getElem?_getD, List.getElem?_eq_getElem h1]; rfl
      have hw := wordsBytes_len ws[i].f0 ws[i].f1
      have hx := hws ws[i] (List.getElem_mem h1)
      have hn : ((ws.take (i + 1)).map wb).flatten = ((ws.take i).map wb).flatten ++ wordsBytes ws[i].f0 ws[i].f1 := by
        rw [List.take_succ_eq_append_getElem h1, List.map_append, List.flatten_append]; simp [wb]
      have h2 := ih (i + 1) (by omega) (by omega) (by rw [hn, List.length_append]; omega)
      have step : ∀ k, laws_FnWordsFrom.l0 (k + 1) b ws n ws (((ws.take i).map wb).flatten) (i : Int) = (impl_WordsBytes.f k ws[i].f0 ws[i].f1).bind fun t289 => if (((ws.take i).map wb).flatten).length + t289.length < 140737488355328 then laws_FnWordsFrom.l0 k b ws n ws (((ws.take i).map wb).flatten ++ t289) (wrap64 ((i : Int) + 1)) else none := by
        intro k
        rw [laws_FnWordsFrom.l0.eq_2, if_pos (show (i : Int) < (ws.length : Int) by omega), if_pos (show (0 : Int) ≤ (i : Int) by omega), if_pos (show (i : Int) < (ws.length : Int) by omega), hg, if_pos rfl, same_refl, Option.bind_some, if_pos rfl]
      refine Ev.step step ?_
      refine Ev.bind (impl_wordsBytes _ _ (by omega)) ?_
      simp only [if_pos (show (((ws.take i).map wb).flatten).length + (wordsBytes ws[i].f0 ws[i].f1).length < 140737488355328 by omega)]
      rw [wrap_id (x := (i : Int) + 1) (by omega) (by omega), ← hn, show (i : Int) + 1 = ((i + 1 : Nat) : Int) by omega]
      exact h2
    · have : i = ws.length := by omega
      subst this
      rw [List.take_length]
      exact hfin
theorem fin_l (b : List Int) (bb : isBytes b) (bl : b.length ≤ 100) : Ev (fun k => laws_FnWordsFrom.l0 k b (pw b.length b).1 ((pw b.length b).2.1 : Int) (pw b.length b).1 (((pw b.length b).1.map wb).flatten) ((pw b.length b).1.length : Int)) true := by
  obtain ⟨p1, p2, p3, p4⟩ := pw_bytes b.length b bb
  have tb : isBytes (b.take (b.length / 2)) := fun x hx => bb x (List.mem_of_mem_take hx)
  obtain ⟨q1, _, _, _⟩ := pw_bytes (b.take (b.length / 2)).length _ tb
  have s1 := pw_split b.length b (b.length / 2) b.length b.length bb (by omega) (by omega) (by omega)
  rw [pw_fuel b.length (b.take (b.length / 2)).length (b.take (b.length / 2)) (by rw [List.length_take]; omega) (by omega)] at s1
  rw [pw_fuel b.length (b.drop (pw (b.take (b.length / 2)).length (b.take (b.length / 2))).2.1).length (b.drop (pw (b.take (b.length / 2)).length (b.take (b.length / 2))).2.1) (by rw [List.length_drop]; omega) (by omega)] at s1
  have i1 := impl_wordsFrom (b.take (b.length / 2)) tb (by rw [List.length_take]; omega)
  have db : isBytes (b.drop (pw (b.take (b.length / 2)).length (b.take (b.length / 2))).2.1) := fun x hx => bb x (List.mem_of_mem_drop hx)
  have lt : (b.take (b.length / 2)).length = b.length / 2 := by rw [List.length_take]; omega
  have z0 : 0 ≤ (b.length : Int) / 2 := by omega
  have z1 : (b.length : Int) / 2 ≤ (b.length : Int) := by omega
  have z2 : ((b.length : Int) / 2).toNat = b.length / 2 := by omega
  have hc : (b.take (b.length / 2)).length < 140737488355328 := by omega
  have w2 : wrap64 ((b.length : Int) / 2) = (b.length : Int) / 2 := wrap_id (by omega) (by omega)
  have step : ∀ k, laws_FnWordsFrom.l0 (k + 1) b (pw b.length b).1 ((pw b.length b).2.1 : Int) (pw b.length b).1 (((pw b.length b).1.map wb).flatten) ((pw b.length b).1.length : Int) = (impl_WordsFrom.f k (b.take (b.length / 2))).bind fun bt305 => if bt305.2.1 < 0 then laws_FnWordsFrom.j2 k b (pw b.length b).1 ((pw b.length b).2.1 : Int) (((pw b.length b).1.map wb).flatten) bt305.1 bt305.2.1 true else laws_FnWordsFrom.j2 k b (pw b.length b).1 ((pw b.length b).2.1 : Int) (((pw b.length b).1.map wb).flatten) bt305.1 bt305.2.1 (decide (bt305.2.1 > (b.length : Int) / 2)) := by
    intro k
    rw [laws_FnWordsFrom.l0.eq_2, if_neg (Int.lt_irrefl _), Option.bind_some, w2, if_pos z0, if_pos z1, Option.bind_some, z2, List.nil_append, List.length_nil, Nat.zero_add, if_pos hc]
  refine Ev.step step ?_
  clear step w2
  obtain ⟨q2, _, _, _⟩ := pw_bytes (b.drop (pw (b.take (b.length / 2)).length (b.take (b.length / 2))).2.1).length (b.drop (pw (b.take (b.length / 2)).length (b.take (b.length / 2))).2.1) db
  generalize pw (b.take (b.length / 2)).length (b.take (b.length / 2)) = u at *
  have i2 := impl_wordsFrom (b.drop u.2.1) db (by rw [List.length_drop]; omega)
  generalize pw (b.drop u.2.1).length (b.drop u.2.1) = v at *
  generalize pw b.length b = w at *
  refine Ev.bind i1 ?_
  have hd : (b.drop u.2.1).length < 140737488355328 := by rw [List.length_drop]; omega
  have step2 : ∀ k, laws_FnWordsFrom.j2 (k + 1) b w.1 (w.2.1 : Int) ((w.1.map wb).flatten) u.1 (u.2.1 : Int) false = (impl_WordsFrom.f k (b.drop u.2.1)).bind fun bt320 => (if (w.2.1 : Int) = (((w.1.map wb).flatten).length : Int) then (if 0 ≤ (w.2.1 : Int) then (if (w.2.1 : Int) ≤ (b.length : Int) then ((laws_sameBytes.f ((w.1.map wb).flatten) (b.take ((w.2.1 : Nat) : Int).toNat)).bind fun t329 => (if t329 = true then (if (wrap64 ((u.1.length : Int) + (bt320.1.length : Int))) = (w.1.length : Int) then (if (wrap64 ((u.2.1 : Int) + bt320.2.1)) = (w.2.1 : Int) then ((laws_alive.f k).bind fun t330 => (some t330)) else (some false)) else (some false)) else (some false))) else (none)) else (none)) else (some false)) := by
    intro k
    rw [laws_FnWordsFrom.j2.eq_2, if_neg (by decide), Option.bind_some, if_pos (show (0 : Int) ≤ (u.2.1 : Int) by omega), if_pos (show (u.2.1 : Int) ≤ (b.length : Int) by omega), Option.bind_some, Int.toNat_natCast, List.nil_append, List.length_nil, Nat.zero_add, if_pos hd]
  refine Ev.cong (g' := fun k => laws_FnWordsFrom.j2 k b w.1 (w.2.1 : Int) ((w.1.map wb).flatten) u.1 (u.2.1 : Int) false) (fun k => ?_) (Ev.step step2 (Ev.bind i2 ?_))
  · show (if (u.2.1 : Int) < 0 then laws_FnWordsFrom.j2 k b w.1 (w.2.1 : Int) ((w.1.map wb).flatten) u.1 (u.2.1 : Int) true else laws_FnWordsFrom.j2 k b w.1 (w.2.1 : Int) ((w.1.map wb).flatten) u.1 (u.2.1 : Int) (decide ((u.2.1 : Int) > (b.length : Int) / 2))) = _
    rw [if_neg (show ¬ (u.2.1 : Int) < 0 by omega), show decide ((u.2.1 : Int) > (b.length : Int) / 2) = false from decide_eq_false (by omega)]
  · rw [List.length_drop] at q2
    have hn : (w.2.1 : Int) = (((w.1.map wb).flatten).length : Int) := by rw [p2, List.length_take]; omega
    have z0 : (0 : Int) ≤ (w.2.1 : Int) := by omega
    have z1 : (w.2.1 : Int) ≤ (b.length : Int) := by omega
    obtain ⟨a1, a2⟩ : wrap64 ((u.1.length : Int) + (v.1.length : Int)) = (w.1.length : Int) ∧ wrap64 ((u.2.1 : Int) + (v.2.1 : Int)) = (w.2.1 : Int) := ⟨by rw [wrap_id (by omega) (by omega)]; omega, by rw [wrap_id (by omega) (by omega)]; omega⟩
    refine Ev.cong (g' := fun k => (laws_alive.f k).bind fun t => some t) (fun k => ?_) (Ev.bind alive_ (Ev.now _))
    show (if (w.2.1 : Int) = (((w.1.map wb).flatten).length : Int) then (if 0 ≤ (w.2.1 : Int) then (if (w.2.1 : Int) ≤ (b.length : Int) then ((laws_sameBytes.f ((w.1.map wb).flatten) (b.take ((w.2.1 : Nat) : Int).toNat)).bind fun t329 => (if t329 = true then (if (wrap64 ((u.1.length : Int) + (v.1.length : Int))) = (w.1.length : Int) then (if (wrap64 ((u.2.1 : Int) + (v.2.1 : Int))) = (w.2.1 : Int) then ((laws_alive.f k).bind fun t330 => (some t330)) else (some false)) else (some false)) else (some false))) else (none)) else (none)) else (some false)) = _
    rw [if_pos hn, if_pos z0, if_pos z1, Int.toNat_natCast, ← p2, same_refl, Option.bind_some, if_pos rfl, a1, a2, if_pos rfl, if_pos rfl]
theorem FnWordsFrom : laws_FnWordsFrom.Pure := by
  intro l _ hl0 hwf
  have hb := isBytes_wf hwf
  refine Ev.rounds ?_
  unfold laws_FnWordsFrom.f
  by_cases h0 : (l.length : Int) > 1048576
  · simp only [if_pos h0]; exact Ev.now _
  simp only [if_neg h0]
  obtain ⟨b, eb, bb, bl⟩ := draw_ l hb
  obtain ⟨p1, p2, p3, p4⟩ := pw_bytes b.length b bb
  have h := law_l b (pw b.length b).1 ((pw b.length b).2.1 : Int) p3 (by omega) (fin_l b bb bl) (pw b.length b).1.length 0 (by omega) (by omega) (by simp)
  simp only [List.take_zero, List.map_nil, List.flatten_nil, Int.natCast_zero] at h
  refine Ev.bind eb (Ev.bind (impl_wordsFrom b bb (by omega)) (Ev.bind (spec_wordsFrom b bb (by omega)) ?_))
  have step : ∀ k, laws_FnWordsFrom.j0 (k + 1) b (pw b.length b).1 ((pw b.length b).2.1 : Int) (pw b.length b).1 false = laws_FnWordsFrom.l0 k b (pw b.length b).1 ((pw b.length b).2.1 : Int) (pw b.length b).1 [] 0 := by
    intro k
    rw [laws_FnWordsFrom.j0.eq_2, if_neg (by decide)]
  refine Ev.cong (g' := fun k => laws_FnWordsFrom.j0 k b (pw b.length b).1 ((pw b.length b).2.1 : Int) (pw b.length b).1 false) (fun k => ?_) (Ev.step step h)
  rw [if_pos rfl, bne_self_eq_false, if_neg (by decide), bne_self_eq_false]

end Go.Proofs.Ytdmmgijfaligpaa.Pure
