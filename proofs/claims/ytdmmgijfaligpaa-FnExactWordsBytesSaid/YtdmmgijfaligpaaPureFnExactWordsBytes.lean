/- The program's WordsBytes and the reference's tell the same of all words, and marks put into what was told stay. No condition. -/
import Derived.Test.YtdmmgijfaligpaaPFnExactWordsBytesx
namespace Go.Proofs.Ytdmmgijfaligpaa.Pure
set_option linter.unusedSimpArgs false
set_option linter.unusedVariables false
open Go.RowKit Go.Proofs.Ytdmmgijfaligpaa.PFnExactWordsBytes Go.Proofs.YtdmmgijfaligpaaW.PrintWords Go.Proofs.YtdmmgijfaligpaaW.PrintLast Go.Proofs.YtdmmgijfaligpaaW.PrintMore

theorem Ev.succ {α : Type} {g : Nat → Option α} {r : α} (h : Ev (fun k => g (k + 1)) r) : Ev g r := Ev.step (fun _ => rfl) h
theorem Ev.pure {α : Type} {o : Option α} {r : α} (h : o = some r) : Ev (fun _ => o) r := by rw [h]; exact Ev.now r
theorem wrap_id {x : Int} (h0 : -9223372036854775808 ≤ x) (h1 : x ≤ 9223372036854775807) : wrap64 x = x := by unfold wrap64; omega

theorem rd_get (l : List Int) (i : Nat) (h : i < l.length) : rd l (i : Int) = l[i] := by
  unfold rd
  rw [Int.toNat_natCast, List.getD_eq_getElem?_getD, List.getElem?_eq_getElem h]; rfl
theorem take_set_succ {α : Type} (x : List α) (i : Nat) (v : α) (h : i < x.length) : (x.set i v).take (i + 1) = x.take i ++ [v] := by
  rw [List.take_succ_eq_append_getElem (by simpa using h), List.getElem_set_self, List.take_set, List.set_eq_of_length_le (by simp; omega)]


/-- toByteS: a copy. -/
theorem toByteS_l (l : List Int) (hl : l.length ≤ 1048576) (d : Nat) : ∀ (i : Nat) (x : List Int), i ≤ l.length → l.length - i = d → x.length = l.length → x.take i = l.take i →
    Ev (fun k => laws_toByteS.l0 k l x (i : Int)) l := by
  induction d with
  | zero =>
    intro i x hi hd hx ht
    have hil : i = l.length := by omega
    subst hil
    refine Ev.succ ?_
    simp only [laws_toByteS.l0]
    simp only [Int.lt_irrefl, if_false]
    have : x = l := by rw [← hx, List.take_length] at ht; rw [ht, hx, List.take_length]
    rw [this]; exact Ev.now l
  | succ d ih =>
    intro i x hi hd hx ht
    have hlt : i < l.length := by omega
    refine Ev.succ ?_
    simp only [laws_toByteS.l0]
    simp only [if_pos (show (i : Int) < (l.length : Int) by omega), if_pos (show (0 : Int) ≤ (i : Int) by omega), if_pos (show (i : Int) < (x.length : Int) by omega)]
    rw [wrap_id (by omega) (by omega), rd_get l i hlt, Int.toNat_natCast]
    refine ih (i + 1) _ (by omega) (by omega) (by simpa using hx) ?_
    rw [take_set_succ _ _ _ (by omega), ht, List.take_succ_eq_append_getElem hlt]
theorem toByteS (l : List Int) (hl : l.length ≤ 1048576) : Ev (fun k => laws_toByteS.f k l) l := by
  unfold laws_toByteS.f
  simp only [if_pos (show (0 : Int) ≤ (l.length : Int) by omega), Int.toNat_natCast, if_pos (show l.length ≤ 281474976710656 by omega)]
  exact toByteS_l l hl _ 0 _ (by omega) rfl (by simp) (by simp)
/-- eqByteS of a list and itself. -/
theorem eqByteS_l (l : List Int) (hl : l.length ≤ 9223372036854775806) (d : Nat) : ∀ (i : Nat), i ≤ l.length → l.length - i = d → Ev (fun k => laws_eqByteS.l0 k l l (i : Int)) true := by
  induction d with
  | zero =>
    intro i hi hd
    refine Ev.succ ?_
    simp only [laws_eqByteS.l0]
    simp only [if_neg (show ¬ (i : Int) < (l.length : Int) by omega)]
    exact Ev.now true
  | succ d ih =>
    intro i hi hd
    refine Ev.succ ?_
    simp only [laws_eqByteS.l0]
    simp only [if_pos (show (i : Int) < (l.length : Int) by omega), if_pos (show (0 : Int) ≤ (i : Int) by omega), if_true]
    rw [wrap_id (by omega) (by omega)]
    exact ih (i + 1) (by omega) (by omega)
theorem eqByteS (l : List Int) (hl : l.length ≤ 9223372036854775806) : Ev (fun k => laws_eqByteS.f k l l) true := by
  unfold laws_eqByteS.f
  simp only [if_true]
  exact eqByteS_l l hl _ 0 (by omega) rfl
/-- What markByteS leaves. -/
def markB : Nat → Int → List Int
  | 0, _ => []
  | n + 1, m => m % 256 :: markB n (m + 1)
theorem markB_length (n : Nat) (m : Int) : (markB n m).length = n := by
  induction n generalizing m with
  | zero => rfl
  | succ n ih => simp [markB, ih]
theorem markB_get (n : Nat) (m : Int) (i : Nat) (h : i < (markB n m).length) : (markB n m)[i] = (m + i) % 256 := by
  induction n generalizing m i with
  | zero => simp [markB] at h
  | succ n ih =>
    cases i with
    | zero => simp [markB]
    | succ i => simp only [markB, List.getElem_cons_succ]; rw [ih]; congr 1; push_cast; omega
theorem markByteS_l (n : Nat) (m : Int) (h0 : 0 ≤ m) (h1 : m + n ≤ 4611686018427387904) (d : Nat) : ∀ (i : Nat) (x : List Int), i ≤ n → n - i = d → x.length = n → x.take i = (markB n m).take i →
    Ev (fun k => laws_markByteS.l0 k x (m + i) (i : Int)) (m + n, markB n m) := by
  have hM := markB_length n m
  induction d with
  | zero =>
    intro i x hi hd hx ht
    have hil : i = n := by omega
    subst hil
    refine Ev.succ ?_
    simp only [laws_markByteS.l0]
    simp only [if_neg (show ¬ (i : Int) < (x.length : Int) by omega)]
    have : x = markB i m := by rw [List.take_of_length_le (by omega), List.take_of_length_le (by omega)] at ht; exact ht
    rw [this]; exact Ev.now _
  | succ d ih =>
    intro i x hi hd hx ht
    refine Ev.succ ?_
    simp only [laws_markByteS.l0]
    simp only [if_pos (show (i : Int) < (x.length : Int) by omega), if_pos (show (0 : Int) ≤ (i : Int) by omega)]
    rw [wrap_id (by omega) (by omega), wrap_id (by omega) (by omega), Int.toNat_natCast]
    have := ih (i + 1) (x.set i ((m + i) % 256)) (by omega) (by omega) (by simpa using hx) (by
      rw [take_set_succ _ _ _ (by omega), ht, List.take_succ_eq_append_getElem (by omega), markB_get])
    rw [show (m + ((i + 1 : Nat) : Int)) = m + i + 1 by push_cast; omega] at this
    exact this
theorem markByteS (l : List Int) (m : Int) (h0 : 0 ≤ m) (h1 : m + l.length ≤ 4611686018427387904) : Ev (fun k => laws_markByteS.f k l m) (m + l.length, markB l.length m) := by
  unfold laws_markByteS.f
  have := markByteS_l l.length m h0 h1 _ 0 l (by omega) rfl rfl (by simp)
  simpa using this
theorem heldByteS_l (n : Nat) (m : Int) (h0 : 0 ≤ m) (h1 : m + n ≤ 4611686018427387904) (d : Nat) : ∀ (i : Nat), i ≤ n → n - i = d → Ev (fun k => laws_heldByteS.l0 k (markB n m) (m + i) (i : Int)) (m + n) := by
  have hM := markB_length n m
  induction d with
  | zero =>
    intro i hi hd
    have hil : i = n := by omega
    subst hil
    refine Ev.succ ?_
    simp only [laws_heldByteS.l0]
    simp only [if_neg (show ¬ (i : Int) < ((markB i m).length : Int) by omega)]
    exact Ev.now _
  | succ d ih =>
    intro i hi hd
    refine Ev.succ ?_
    simp only [laws_heldByteS.l0]
    rw [rd_get _ i (by omega), markB_get]
    simp only [if_pos (show (i : Int) < ((markB n m).length : Int) by omega), if_pos (show (0 : Int) ≤ (i : Int) by omega), if_true]
    rw [wrap_id (by omega) (by omega), wrap_id (by omega) (by omega)]
    have := ih (i + 1) (by omega) (by omega)
    rw [show (m + ((i + 1 : Nat) : Int)) = m + i + 1 by push_cast; omega] at this
    exact this
theorem heldByteS (n : Nat) (m : Int) (h0 : 0 ≤ m) (h1 : m + n ≤ 4611686018427387904) : Ev (fun k => laws_heldByteS.f k (markB n m) m) (m + n) := by
  unfold laws_heldByteS.f
  have := heldByteS_l n m h0 h1 _ 0 (by omega) rfl
  simpa using this
theorem szByteS (l : List Int) (m : Int) (h : l.length ≤ 9223372036854775807) (h0 : 0 ≤ m) (h1 : m ≤ 1048576) : laws_szByteS.f l m = some (if m - l.length < 0 then -1 else m - l.length) := by
  unfold laws_szByteS.f
  rw [wrap_id (by omega) (by omega)]
  split <;> rfl


/-! Words -/
theorem toWords (a : Int) (l : List Int) (hl : l.length ≤ 1048576) : Ev (fun k => laws_toWords.f k a l) (a, l) := by
  unfold laws_toWords.f; exact Ev.bind (toByteS l hl) (Ev.now _)
theorem eqWords (a : Int) (l : List Int) (hl : l.length ≤ 9223372036854775806) : Ev (fun k => laws_eqWords.f k a l a l) true := by
  unfold laws_eqWords.f; simp only [if_true]; refine Ev.bind (eqByteS l hl) ?_; simp only [if_true]; exact Ev.now _
theorem markWords (a : Int) (l : List Int) (m : Int) (h0 : 0 ≤ m) (h1 : m + l.length ≤ 4611686018427387904) : Ev (fun k => laws_markWords.f k a l m) (m + l.length, markB l.length m) := by
  unfold laws_markWords.f; exact Ev.bind (markByteS l m h0 h1) (Ev.now _)

/-! slices.Concat of bytes -/
theorem rd_ofL (l : List (List Int)) (i : Nat) (h : i < l.length) : rd_L1 l (i : Int) = l[i] := by
  unfold rd_L1
  rw [Int.toNat_natCast, List.getD_eq_getElem?_getD, List.getElem?_eq_getElem h]; rfl
def lenL (l : List (List Int)) : Nat := (l.map List.length).sum
theorem lenL_take_succ (l : List (List Int)) (i : Nat) (h : i < l.length) : lenL (l.take (i + 1)) = lenL (l.take i) + l[i].length := by
  unfold lenL; rw [List.take_succ_eq_append_getElem h]; simp only [List.map_append, List.sum_append, List.map_cons, List.map_nil, List.sum_cons, List.sum_nil, Nat.add_zero]
theorem lenL_take_le (l : List (List Int)) (i : Nat) : lenL (l.take i) ≤ lenL l := by
  unfold lenL
  have h := congrArg (fun x : List (List Int) => (x.map List.length).sum) (List.take_append_drop i l)
  simp only [List.map_append, List.sum_append] at h
  omega
theorem flatten_take_succ (l : List (List Int)) (i : Nat) (h : i < l.length) : (l.take (i + 1)).flatten = (l.take i).flatten ++ l[i] := by
  rw [List.take_succ_eq_append_getElem h]; simp only [List.flatten_append, List.flatten_cons, List.flatten_nil, List.append_nil]
theorem concat_l1 (l : List (List Int)) (hn : l.length ≤ 1048576) (hl : lenL l < 140737488355328) (d : Nat) : ∀ (i : Nat), i ≤ l.length → l.length - i = d →
    Ev (fun k => slices_Concat_byte_byte.l1 k (l.take i).flatten l (l.length : Int) (i : Int)) l.flatten := by
  induction d with
  | zero =>
    intro i hi hd
    have hil : i = l.length := by omega
    subst hil
    refine Ev.succ ?_
    simp only [slices_Concat_byte_byte.l1]
    simp only [Int.lt_irrefl, if_false, List.take_length]
    exact Ev.now _
  | succ d ih =>
    intro i hi hd
    have hlt : i < l.length := by omega
    refine Ev.succ ?_
    simp only [slices_Concat_byte_byte.l1]
    have h1 := lenL_take_succ l i hlt
    have h2 := lenL_take_le l (i + 1)
    have h3 : (l.take i).flatten.length = lenL (l.take i) := by rw [List.length_flatten]; rfl
    rw [rd_ofL l i hlt]
    simp only [if_pos (show (i : Int) < (l.length : Int) by omega), if_pos (show (0 : Int) ≤ (i : Int) by omega), if_pos (show (l.take i).flatten.length + l[i].length < 140737488355328 by omega)]
    rw [wrap_id (by omega) (by omega), ← flatten_take_succ l i hlt]
    exact ih (i + 1) (by omega) (by omega)
theorem concat_l0 (l : List (List Int)) (hn : l.length ≤ 1048576) (hl : lenL l < 140737488355328) (d : Nat) : ∀ (i : Nat), i ≤ l.length → l.length - i = d →
    Ev (fun k => slices_Concat_byte_byte.l0 k l (lenL (l.take i) : Int) l (l.length : Int) (i : Int)) l.flatten := by
  induction d with
  | zero =>
    intro i hi hd
    have hil : i = l.length := by omega
    subst hil
    refine Ev.succ ?_
    simp only [slices_Concat_byte_byte.l0]
    simp only [Int.lt_irrefl, if_false, List.take_length]
    have hg : slices_Grow_byte_byte.f ([] : List Int) (lenL l : Int) = some [] := by
      unfold slices_Grow_byte_byte.f
      rw [if_pos ⟨rfl, by omega, by rw [Int.toNat_natCast]; omega⟩]
    simp only [hg, Option.bind_some]
    have := concat_l1 l hn hl _ 0 (by omega) rfl
    simpa using this
  | succ d ih =>
    intro i hi hd
    have hlt : i < l.length := by omega
    refine Ev.succ ?_
    simp only [slices_Concat_byte_byte.l0]
    have h1 := lenL_take_succ l i hlt
    have h2 := lenL_take_le l (i + 1)
    rw [rd_ofL l i hlt, wrap_id (x := (lenL (l.take i) : Int) + _) (by omega) (by omega), wrap_id (by omega) (by omega)]
    simp only [if_pos (show (i : Int) < (l.length : Int) by omega), if_pos (show (0 : Int) ≤ (i : Int) by omega), if_neg (show ¬ (lenL (l.take i) : Int) + (l[i].length : Int) < 0 by omega)]
    rw [show (lenL (l.take i) : Int) + (l[i].length : Int) = ((lenL (l.take (i + 1)) : Nat) : Int) by omega]
    exact ih (i + 1) (by omega) (by omega)
theorem concat_ (l : List (List Int)) (hn : l.length ≤ 1048576) (hl : lenL l < 140737488355328) : Ev (fun k => slices_Concat_byte_byte.f k l) l.flatten := by
  unfold slices_Concat_byte_byte.f
  have := concat_l0 l hn hl _ 0 (by omega) rfl
  simpa [lenL] using this

/-! WordsBytes -/
def wordsBytes (a : Int) (l : List Int) : List Int := if 0 ≤ a ∧ a ≤ 255 ∧ l.length ≤ 9 then (l.length : Int) :: a :: l else []
theorem impl_wordsBytes (a : Int) (l : List Int) (hl : l.length ≤ 1048576) : Ev (fun k => impl_WordsBytes.f k a l) (wordsBytes a l) := by
  unfold impl_WordsBytes.f wordsBytes impl_in.f
  by_cases h1 : a ≥ 0
  · by_cases h2 : a ≤ 255
    · by_cases h3 : l.length ≤ 9
      · rw [if_pos (show 0 ≤ a ∧ a ≤ 255 ∧ l.length ≤ 9 from ⟨h1, h2, h3⟩)]
        simp only [if_pos h1, Option.bind_some, decide_eq_true h2, if_true, if_neg (show ¬ ((l.length : Int) > 9) by omega)]
        have h := concat_ [[(l.length : Int) % 256, a % 256], l] (by simp) (by simp [lenL]; omega)
        rw [show (l.length : Int) % 256 = l.length by omega, show a % 256 = a by omega] at h ⊢
        refine Ev.bind h ?_
        simp only [List.flatten_cons, List.flatten_nil, List.append_nil, List.cons_append, List.nil_append]
        exact Ev.now _
      · rw [if_neg (show ¬ (0 ≤ a ∧ a ≤ 255 ∧ l.length ≤ 9) by omega)]
        simp only [if_pos h1, Option.bind_some, decide_eq_true h2, if_true, if_pos (show ((l.length : Int) > 9) by omega)]
        exact Ev.now _
    · rw [if_neg (show ¬ (0 ≤ a ∧ a ≤ 255 ∧ l.length ≤ 9) by omega)]
      simp only [if_pos h1, Option.bind_some, decide_eq_false h2, Bool.false_eq_true, if_false]
      exact Ev.now _
  · rw [if_neg (show ¬ (0 ≤ a ∧ a ≤ 255 ∧ l.length ≤ 9) by omega)]
    simp only [if_neg h1, Option.bind_some, Bool.false_eq_true, if_false]
    exact Ev.now _
theorem spec_wordsBytes (a : Int) (l : List Int) (hl : l.length ≤ 1048576) : spec_WordsBytes.f a l = some (wordsBytes a l) := by
  unfold spec_WordsBytes.f wordsBytes spec_l1In.f
  by_cases h1 : a ≥ 0
  · by_cases h2 : a ≤ 255
    · by_cases h3 : l.length ≤ 9
      · rw [if_pos (show 0 ≤ a ∧ a ≤ 255 ∧ l.length ≤ 9 from ⟨h1, h2, h3⟩)]
        simp only [if_pos h1, Option.bind_some, decide_eq_true h2, if_true, if_neg (show ¬ ((l.length : Int) > 9) by omega)]
        rw [show (l.length : Int) % 256 = l.length by omega, show a % 256 = a by omega, if_pos (by simp; omega)]
        rfl
      · rw [if_neg (show ¬ (0 ≤ a ∧ a ≤ 255 ∧ l.length ≤ 9) by omega)]
        simp only [if_pos h1, Option.bind_some, decide_eq_true h2, if_true, if_pos (show ((l.length : Int) > 9) by omega)]
    · rw [if_neg (show ¬ (0 ≤ a ∧ a ≤ 255 ∧ l.length ≤ 9) by omega)]
      simp only [if_pos h1, Option.bind_some, decide_eq_false h2, Bool.false_eq_true, if_false]
  · rw [if_neg (show ¬ (0 ≤ a ∧ a ≤ 255 ∧ l.length ≤ 9) by omega)]
    simp only [if_neg h1, Option.bind_some, Bool.false_eq_true, if_false]
theorem wordsBytes_len (a : Int) (l : List Int) : (wordsBytes a l).length ≤ 11 := by
  unfold wordsBytes; split
  · simp; omega
  · simp

theorem FnExactWordsBytes : laws_FnExactWordsBytes.Pure := by
  intro a l _ hl0
  have hl1 : l.length ≤ 9223372036854775807 := hl0.1
  refine Ev.rounds ?_
  unfold laws_FnExactWordsBytes.f laws_szWords.f
  rw [szByteS l _ hl1 (by omega) (by omega)]
  by_cases hs : 1048576 - (l.length : Int) < 0
  · simp only [if_pos hs, Option.bind_some, show ((-1 : Int) < 0) = True from eq_true (by omega), if_true]
    exact Ev.now _
  · have hl : l.length ≤ 1048576 := by omega
    have hr := wordsBytes_len a l
    simp only [if_neg hs, Option.bind_some]
    refine Ev.bind (toWords a l hl) ?_
    simp only [spec_wordsBytes a l hl, Option.bind_some]
    refine Ev.bind (toWords a l hl) (Ev.bind (impl_wordsBytes a l hl) (Ev.bind (eqByteS _ (by omega)) ?_))
    simp only [if_true]
    refine Ev.bind (toWords a l hl) (Ev.bind (eqWords _ _ (by omega)) ?_)
    simp only [if_true]
    refine Ev.bind (markWords a l 1 (by omega) (by omega)) ?_
    simp only [if_neg (show ¬ (1 : Int) + (l.length : Int) < 0 by omega)]
    refine Ev.bind (eqByteS _ (by omega)) ?_
    simp only [Bool.not_true]
    refine Ev.succ ?_
    simp only [laws_FnExactWordsBytes.j0, Bool.false_eq_true, if_false]
    refine Ev.bind (markByteS _ 1 (by omega) (by omega)) (Ev.bind (heldByteS _ 1 (by omega) (by omega)) ?_)
    simp only [if_neg (show ¬ (1 : Int) + ((wordsBytes a l).length : Int) < 0 by omega), if_true]
    refine Ev.bind (toWords a l hl) (Ev.bind (impl_wordsBytes a l hl) (Ev.bind (eqByteS _ (by omega)) ?_))
    simp only [if_true]
    refine Ev.bind (heldByteS _ 1 (by omega) (by omega)) ?_
    simp only [if_neg (show ¬ (1 : Int) + ((wordsBytes a l).length : Int) < 0 by omega), if_true]
    exact Ev.now _

end Go.Proofs.Ytdmmgijfaligpaa.Pure
