/- The program's Answer and the reference's tell the same of all words; and marks put into what was told stay. No condition. -/
import Derived.Test.YtdmmgijfaligpaaPFnExactAnswerx3
namespace Go.Proofs.Ytdmmgijfaligpaa.Pure
set_option linter.unusedSimpArgs false
set_option linter.unusedVariables false
open Go.RowKit Go.Proofs.Ytdmmgijfaligpaa.PFnExactAnswer Go.Proofs.YtdmmgijfaligpaaW.PrintWords Go.Proofs.YtdmmgijfaligpaaW.PrintLast

theorem Ev.succ {α : Type} {g : Nat → Option α} {r : α} (h : Ev (fun k => g (k + 1)) r) : Ev g r := Ev.step (fun _ => rfl) h
theorem Ev.pure {α : Type} {o : Option α} {r : α} (h : o = some r) : Ev (fun _ => o) r := by rw [h]; exact Ev.now r
theorem wrap_id {x : Int} (h0 : -9223372036854775808 ≤ x) (h1 : x ≤ 9223372036854775807) : wrap64 x = x := by unfold wrap64; omega

theorem rd_get (l : List Int) (i : Nat) (h : i < l.length) : rd l (i : Int) = l[i] := by
  unfold rd
  rw [Int.toNat_natCast, List.getD_eq_getElem?_getD, List.getElem?_eq_getElem h]; rfl
theorem take_set_succ {α : Type} (x : List α) (i : Nat) (v : α) (h : i < x.length) : (x.set i v).take (i + 1) = x.take i ++ [v] := by
  rw [List.take_succ_eq_append_getElem (by simpa using h), List.getElem_set_self, List.take_set, List.set_eq_of_length_le (by simp; omega)]

/-- toByteS: a copy. -/
theorem toByteS_l (l : List Int) (hl : l.length ≤ 1048576) (d : Nat) : ∀ (i : Nat) (x : List Int), i ≤ l.length → l.length - i = d → x.length = l.length → x.take i = l.take i →
    Ev (fun k => laws_toByteS.l0 k l x (i : Int)) l := by
  induction d with
  | zero =>
    intro i x hi hd hx ht
    have hil : i = l.length := by omega
    subst hil
    refine Ev.succ ?_
    simp only [laws_toByteS.l0]
    simp only [Int.lt_irrefl, if_false]
    have : x = l := by rw [← hx, List.take_length] at ht; rw [ht, hx, List.take_length]
    rw [this]; exact Ev.now l
  | succ d ih =>
    intro i x hi hd hx ht
    have hlt : i < l.length := by omega
    refine Ev.succ ?_
    simp only [laws_toByteS.l0]
    simp only [if_pos (show (i : Int) < (l.length : Int) by omega), if_pos (show (0 : Int) ≤ (i : Int) by omega), if_pos (show (i : Int) < (x.length : Int) by omega)]
    rw [wrap_id (by omega) (by omega), rd_get l i hlt, Int.toNat_natCast]
    refine ih (i + 1) _ (by omega) (by omega) (by simpa using hx) ?_
    rw [take_set_succ _ _ _ (by omega), ht, List.take_succ_eq_append_getElem hlt]
theorem toByteS (l : List Int) (hl : l.length ≤ 1048576) : Ev (fun k => laws_toByteS.f k l) l := by
  unfold laws_toByteS.f
  simp only [if_pos (show (0 : Int) ≤ (l.length : Int) by omega), Int.toNat_natCast, if_pos (show l.length ≤ 281474976710656 by omega)]
  exact toByteS_l l hl _ 0 _ (by omega) rfl (by simp) (by simp)
/-- eqByteS of a list and itself. -/
theorem eqByteS_l (l : List Int) (hl : l.length ≤ 9223372036854775806) (d : Nat) : ∀ (i : Nat), i ≤ l.length → l.length - i = d → Ev (fun k => laws_eqByteS.l0 k l l (i : Int)) true := by
  induction d with
  | zero =>
    intro i hi hd
    refine Ev.succ ?_
    simp only [laws_eqByteS.l0]
    simp only [if_neg (show ¬ (i : Int) < (l.length : Int) by omega)]
    exact Ev.now true
  | succ d ih =>
    intro i hi hd
    refine Ev.succ ?_
    simp only [laws_eqByteS.l0]
    simp only [if_pos (show (i : Int) < (l.length : Int) by omega), if_pos (show (0 : Int) ≤ (i : Int) by omega), if_true]
    rw [wrap_id (by omega) (by omega)]
    exact ih (i + 1) (by omega) (by omega)
theorem eqByteS (l : List Int) (hl : l.length ≤ 9223372036854775806) : Ev (fun k => laws_eqByteS.f k l l) true := by
  unfold laws_eqByteS.f
  simp only [if_true]
  exact eqByteS_l l hl _ 0 (by omega) rfl
/-- What markByteS leaves. -/
def markB : Nat → Int → List Int
  | 0, _ => []
  | n + 1, m => m % 256 :: markB n (m + 1)
theorem markB_length (n : Nat) (m : Int) : (markB n m).length = n := by
  induction n generalizing m with
  | zero => rfl
  | succ n ih => simp [markB, ih]
theorem markB_get (n : Nat) (m : Int) (i : Nat) (h : i < (markB n m).length) : (markB n m)[i] = (m + i) % 256 := by
  induction n generalizing m i with
  | zero => simp [markB] at h
  | succ n ih =>
    cases i with
    | zero => simp [markB]
    | succ i => simp only [markB, List.getElem_cons_succ]; rw [ih]; congr 1; push_cast; omega
theorem markByteS_l (n : Nat) (m : Int) (h0 : 0 ≤ m) (h1 : m + n ≤ 4611686018427387904) (d : Nat) : ∀ (i : Nat) (x : List Int), i ≤ n → n - i = d → x.length = n → x.take i = (markB n m).take i →
    Ev (fun k => laws_markByteS.l0 k x (m + i) (i : Int)) (m + n, markB n m) := by
  have hM := markB_length n m
  induction d with
  | zero =>
    intro i x hi hd hx ht
    have hil : i = n := by omega
    subst hil
    refine Ev.succ ?_
    simp only [laws_markByteS.l0]
    simp only [if_neg (show ¬ (i : Int) < (x.length : Int) by omega)]
    have : x = markB i m := by rw [List.take_of_length_le (by omega), List.take_of_length_le (by omega)] at ht; exact ht
    rw [this]; exact Ev.now _
  | succ d ih =>
    intro i x hi hd hx ht
    refine Ev.succ ?_
    simp only [laws_markByteS.l0]
    simp only [if_pos (show (i : Int) < (x.length : Int) by omega), if_pos (show (0 : Int) ≤ (i : Int) by omega)]
    rw [wrap_id (by omega) (by omega), wrap_id (by omega) (by omega), Int.toNat_natCast]
    have := ih (i + 1) (x.set i ((m + i) % 256)) (by omega) (by omega) (by simpa using hx) (by
      rw [take_set_succ _ _ _ (by omega), ht, List.take_succ_eq_append_getElem (by omega), markB_get])
    rw [show (m + ((i + 1 : Nat) : Int)) = m + i + 1 by push_cast; omega] at this
    exact this
theorem markByteS (l : List Int) (m : Int) (h0 : 0 ≤ m) (h1 : m + l.length ≤ 4611686018427387904) : Ev (fun k => laws_markByteS.f k l m) (m + l.length, markB l.length m) := by
  unfold laws_markByteS.f
  have := markByteS_l l.length m h0 h1 _ 0 l (by omega) rfl rfl (by simp)
  simpa using this
theorem heldByteS_l (n : Nat) (m : Int) (h0 : 0 ≤ m) (h1 : m + n ≤ 4611686018427387904) (d : Nat) : ∀ (i : Nat), i ≤ n → n - i = d → Ev (fun k => laws_heldByteS.l0 k (markB n m) (m + i) (i : Int)) (m + n) := by
  have hM := markB_length n m
  induction d with
  | zero =>
    intro i hi hd
    have hil : i = n := by omega
    subst hil
    refine Ev.succ ?_
    simp only [laws_heldByteS.l0]
    simp only [if_neg (show ¬ (i : Int) < ((markB i m).length : Int) by omega)]
    exact Ev.now _
  | succ d ih =>
    intro i hi hd
    refine Ev.succ ?_
    simp only [laws_heldByteS.l0]
    rw [rd_get _ i (by omega), markB_get]
    simp only [if_pos (show (i : Int) < ((markB n m).length : Int) by omega), if_pos (show (0 : Int) ≤ (i : Int) by omega), if_true]
    rw [wrap_id (by omega) (by omega), wrap_id (by omega) (by omega)]
    have := ih (i + 1) (by omega) (by omega)
    rw [show (m + ((i + 1 : Nat) : Int)) = m + i + 1 by push_cast; omega] at this
    exact this
theorem heldByteS (n : Nat) (m : Int) (h0 : 0 ≤ m) (h1 : m + n ≤ 4611686018427387904) : Ev (fun k => laws_heldByteS.f k (markB n m) m) (m + n) := by
  unfold laws_heldByteS.f
  have := heldByteS_l n m h0 h1 _ 0 (by omega) rfl
  simpa using this
theorem szByteS (l : List Int) (m : Int) (h : l.length ≤ 9223372036854775807) (h0 : 0 ≤ m) (h1 : m ≤ 1048576) : laws_szByteS.f l m = some (if m - l.length < 0 then -1 else m - l.length) := by
  unfold laws_szByteS.f
  rw [wrap_id (by omega) (by omega)]
  split <;> rfl

/-! Answer -/
theorem rd_getD (l : List Int) (i : Int) (j : Nat) (h : i = j) : rd l i = l.getD j 0 := by subst h; unfold rd; rw [Int.toNat_natCast]
theorem reverse_l (l : List Int) (hl : l.length ≤ 1048576) (d : Nat) : ∀ (i : Nat) (x : List Int), x.length = l.length → l.length - 2 * i ≤ d → 2 * i ≤ l.length + 1 →
    (∀ p, p < l.length → x.getD p 0 = if p < i ∨ l.length ≤ p + i then l.getD (l.length - 1 - p) 0 else l.getD p 0) → Ev (fun k => slices_Reverse_byte_byte.l0 k x (i : Int) ((l.length : Int) - 1 - i)) l.reverse := by
  have fin : ∀ (i : Nat) (x : List Int), x.length = l.length → l.length ≤ 2 * i + 1 → 2 * i ≤ l.length + 1 →
    (∀ p, p < l.length → x.getD p 0 = if p < i ∨ l.length ≤ p + i then l.getD (l.length - 1 - p) 0 else l.getD p 0) → x = l.reverse := by
    intro i x hx h1 h2 hg
    apply List.ext_getElem (by simp [hx])
    intro p hp hp2
    have h3 := hg p (by omega)
    rw [List.getD_eq_getElem?_getD, List.getElem?_eq_getElem hp] at h3
    simp only [Option.getD_some] at h3
    rw [h3, List.getElem_reverse]
    split
    · rw [List.getD_eq_getElem?_getD, List.getElem?_eq_getElem (by omega)]; rfl
    · have : l.length - 1 - p = p := by omega
      rw [List.getD_eq_getElem?_getD, List.getElem?_eq_getElem (by omega)]
      simp only [Option.getD_some]
      congr 1; omega
  induction d with
  | zero =>
    intro i x hx hd hi hg
    refine Ev.succ ?_
    simp only [slices_Reverse_byte_byte.l0]
    simp only [if_neg (show ¬ (i : Int) < (l.length : Int) - 1 - i by omega)]
    rw [fin i x hx (by omega) hi hg]; exact Ev.now _
  | succ d ih =>
    intro i x hx hd hi hg
    by_cases hlt : (i : Int) < (l.length : Int) - 1 - i
    · refine Ev.succ ?_
      simp only [slices_Reverse_byte_byte.l0]
      simp only [if_pos hlt, if_pos (show (0 : Int) ≤ (l.length : Int) - 1 - i by omega), if_pos (show (l.length : Int) - 1 - i < (x.length : Int) by omega), if_pos (show (0 : Int) ≤ (i : Int) by omega), if_pos (show (i : Int) < (x.length : Int) by omega)]
      rw [wrap_id (by omega) (by omega), wrap_id (by omega) (by omega), Int.toNat_natCast, show ((l.length : Int) - 1 - i).toNat = l.length - 1 - i by omega]
      have e : ((l.length : Int) - 1 - i - 1) = (l.length : Int) - 1 - ((i + 1 : Nat) : Int) := by push_cast; omega
      rw [e, show ((i : Int) + 1) = ((i + 1 : Nat) : Int) by push_cast; rfl]
      refine ih (i + 1) _ (by simpa using hx) (by omega) (by omega) ?_
      intro p hp
      have ga := hg i (by omega); have gb := hg (l.length - 1 - i) (by omega); have gp := hg p hp
      rw [rd_getD x _ (l.length - 1 - i) (by omega), rd_getD x _ i rfl, gb, ga]
      simp only [List.getD_eq_getElem?_getD, List.getElem?_set, List.length_set, hx] at gp ⊢
      by_cases e1 : l.length - 1 - i = p
      · subst e1
        simp only [if_true, if_pos (show l.length - 1 - i < l.length by omega), Option.getD_some]
        rw [if_neg (show ¬ (i < i ∨ l.length ≤ i + i) by omega), if_pos (show (l.length - 1 - i < i + 1 ∨ l.length ≤ l.length - 1 - i + (i + 1)) by omega), show l.length - 1 - (l.length - 1 - i) = i by omega]
      · by_cases e2 : i = p
        · subst e2
          simp only [if_neg e1, if_true, if_pos (show i < l.length by omega), Option.getD_some]
          rw [if_neg (show ¬ (l.length - 1 - i < i ∨ l.length ≤ l.length - 1 - i + i) by omega), if_pos (show (i < i + 1 ∨ l.length ≤ i + (i + 1)) by omega)]
        · simp only [if_neg e1, if_neg e2]
          rw [gp]
          by_cases c1 : p < i ∨ l.length ≤ p + i
          · rw [if_pos c1, if_pos (by omega)]
          · rw [if_neg c1, if_neg (by omega)]
    · refine Ev.succ ?_
      simp only [slices_Reverse_byte_byte.l0]
      simp only [if_neg hlt]
      rw [fin i x hx (by omega) hi hg]; exact Ev.now _
theorem reverse_ (l : List Int) (hl : l.length ≤ 1048576) : Ev (fun k => slices_Reverse_byte_byte.f k l) l.reverse := by
  unfold slices_Reverse_byte_byte.f
  rw [wrap_id (by omega) (by omega)]
  have := reverse_l l hl _ 0 l rfl (Nat.le_refl _) (by omega) (by
    intro p hp
    by_cases h : l.length ≤ p + 0
    · omega
    · rw [if_neg (by omega)])
  simpa using this
def answer (a : Int) (l : List Int) : Int × List Int := if 0 ≤ a ∧ a ≤ 255 ∧ l.length ≤ 9 then (a, l.reverse) else (0, [])
theorem impl_answer (a : Int) (l : List Int) (hl : l.length ≤ 1048576) : Ev (fun k => impl_Answer.f k a l) (answer a l) := by
  unfold impl_Answer.f answer impl_in.f
  by_cases h1 : a ≥ 0
  · simp only [if_pos h1, Option.bind_some]
    by_cases h2 : a ≤ 255
    · simp only [decide_eq_true h2, if_true]
      refine Ev.succ ?_
      simp only [impl_Answer.j0]
      by_cases h3 : l.length ≤ 9
      · rw [if_pos ⟨h1, h2, h3⟩]
        simp only [if_neg (show ¬ (decide ((l.length : Int) > 9) = true) by simp; omega), impl_clone_byte.f, if_pos (show l.length * 1 ≤ 140737488355328 by omega), Option.bind_some]
        exact Ev.bind (reverse_ l hl) (Ev.now _)
      · rw [if_neg (show ¬ (0 ≤ a ∧ a ≤ 255 ∧ l.length ≤ 9) by omega)]
        simp only [if_pos (show (decide ((l.length : Int) > 9) = true) by simp; omega)]
        exact Ev.now _
    · rw [if_neg (show ¬ (0 ≤ a ∧ a ≤ 255 ∧ l.length ≤ 9) by omega)]
      simp only [decide_eq_false h2, if_false, Bool.false_eq_true]
      refine Ev.succ ?_
      simp only [impl_Answer.j0, if_true]
      exact Ev.now _
  · rw [if_neg (show ¬ (0 ≤ a ∧ a ≤ 255 ∧ l.length ≤ 9) by omega)]
    simp only [if_neg h1, Option.bind_some, Bool.false_eq_true, if_false]
    refine Ev.succ ?_
    simp only [impl_Answer.j0, if_true]
    exact Ev.now _
theorem spec_answer_l (a : Int) (l : List Int) (b : Int) (hl : l.length ≤ 1048576) (n : Nat) : ∀ (acc : List Int), n ≤ l.length → acc = (l.drop n).reverse → Ev (fun k => spec_Answer.l0 k ((n : Int) - 1) a l b acc) (b, l.reverse) := by
  induction n with
  | zero =>
    intro acc hn ha
    refine Ev.succ ?_
    simp only [spec_Answer.l0]
    simp only [if_neg (show ¬ ((0 : Nat) : Int) - 1 ≥ 0 by omega)]
    rw [ha]; exact Ev.now _
  | succ n ih =>
    intro acc hn ha
    refine Ev.succ ?_
    simp only [spec_Answer.l0]
    have hal : acc.length ≤ 1048576 := by rw [ha]; simp; omega
    simp only [if_pos (show (((n + 1 : Nat) : Int) - 1) ≥ 0 by omega), if_pos (show (0 : Int) ≤ (((n + 1 : Nat) : Int) - 1) by omega), if_pos (show (((n + 1 : Nat) : Int) - 1) < (l.length : Int) by omega), if_pos (show acc.length < 140737488355328 by omega)]
    rw [wrap_id (by omega) (by omega), show (((n + 1 : Nat) : Int) - 1) = (n : Int) by push_cast; omega, rd_get l n (by omega)]
    refine ih _ (by omega) ?_
    rw [ha, ← List.reverse_cons, ← List.drop_eq_getElem_cons (show n < l.length by omega)]
theorem spec_answer (a : Int) (l : List Int) (hl : l.length ≤ 1048576) : Ev (fun k => spec_Answer.f k a l) (answer a l) := by
  unfold spec_Answer.f answer spec_l1In.f
  simp only [Option.bind_some]
  by_cases h3 : l.length ≤ 9
  · simp only [if_neg (show ¬ ((l.length : Int) > 9) by omega)]
    by_cases h1 : a ≥ 0
    · simp only [if_pos h1, Option.bind_some]
      by_cases h2 : a ≤ 255
      · rw [if_pos ⟨h1, h2, h3⟩]
        simp only [decide_eq_true h2, Bool.not_true]
        refine Ev.succ ?_
        simp only [spec_Answer.j0, Bool.false_eq_true, if_false]
        rw [wrap_id (by omega) (by omega)]
        exact spec_answer_l a l a hl l.length [] (Nat.le_refl _) (by simp)
      · rw [if_neg (show ¬ (0 ≤ a ∧ a ≤ 255 ∧ l.length ≤ 9) by omega)]
        simp only [decide_eq_false h2, Bool.not_false]
        refine Ev.succ ?_
        simp only [spec_Answer.j0, if_true]
        exact Ev.now _
    · rw [if_neg (show ¬ (0 ≤ a ∧ a ≤ 255 ∧ l.length ≤ 9) by omega)]
      simp only [if_neg h1, Option.bind_some, Bool.not_false]
      refine Ev.succ ?_
      simp only [spec_Answer.j0, if_true]
      exact Ev.now _
  · rw [if_neg (show ¬ (0 ≤ a ∧ a ≤ 255 ∧ l.length ≤ 9) by omega)]
    simp only [if_pos (show ((l.length : Int) > 9) by omega)]
    refine Ev.succ ?_
    simp only [spec_Answer.j0, if_true]
    exact Ev.now _
theorem answer_len (a : Int) (l : List Int) : (answer a l).2.length ≤ 9 := by
  unfold answer; split
  · simp; omega
  · simp
/-! Words -/
theorem toWords (a : Int) (l : List Int) (hl : l.length ≤ 1048576) : Ev (fun k => laws_toWords.f k a l) (a, l) := by
  unfold laws_toWords.f; exact Ev.bind (toByteS l hl) (Ev.now _)
theorem eqWords (a : Int) (l : List Int) (hl : l.length ≤ 9223372036854775806) : Ev (fun k => laws_eqWords.f k a l a l) true := by
  unfold laws_eqWords.f; simp only [if_true]; refine Ev.bind (eqByteS l hl) ?_; simp only [if_true]; exact Ev.now _
theorem markWords (a : Int) (l : List Int) (m : Int) (h0 : 0 ≤ m) (h1 : m + l.length ≤ 4611686018427387904) : Ev (fun k => laws_markWords.f k a l m) (m + l.length, markB l.length m) := by
  unfold laws_markWords.f; exact Ev.bind (markByteS l m h0 h1) (Ev.now _)
theorem heldWords (a : Int) (n : Nat) (m : Int) (h0 : 0 ≤ m) (h1 : m + n ≤ 4611686018427387904) : Ev (fun k => laws_heldWords.f k a (markB n m) m) (m + n) := by
  unfold laws_heldWords.f; refine Ev.bind (heldByteS n m h0 h1) ?_; simp only [if_neg (show ¬ m + (n : Int) < 0 by omega)]; exact Ev.now _
theorem FnExactAnswer : laws_FnExactAnswer.Pure := by
  intro a l _ hl0
  have hl1 : l.length ≤ 9223372036854775807 := hl0.1
  refine Ev.rounds ?_
  unfold laws_FnExactAnswer.f laws_szWords.f
  rw [szByteS l _ hl1 (by omega) (by omega)]
  by_cases hs : 1048576 - (l.length : Int) < 0
  · simp only [if_pos hs, Option.bind_some, show ((-1 : Int) < 0) = True from eq_true (by omega), if_true]
    exact Ev.now _
  · have hl : l.length ≤ 1048576 := by omega
    have hr := answer_len a l
    simp only [if_neg hs, Option.bind_some]
    refine Ev.bind (toWords a l hl) (Ev.bind (spec_answer a l hl) (Ev.bind (toWords a l hl) (Ev.bind (impl_answer a l hl) (Ev.bind (eqWords _ _ (by omega)) ?_))))
    simp only [if_true]
    refine Ev.bind (toWords a l hl) (Ev.bind (eqWords _ _ (by omega)) ?_)
    simp only [if_true]
    refine Ev.bind (markWords a l 1 (by omega) (by omega)) ?_
    simp only [if_neg (show ¬ (1 : Int) + (l.length : Int) < 0 by omega)]
    refine Ev.bind (eqWords _ _ (by omega)) ?_
    simp only [Bool.not_true]
    refine Ev.succ ?_
    simp only [laws_FnExactAnswer.j0, Bool.false_eq_true, if_false]
    refine Ev.bind (markWords _ _ 1 (by omega) (by omega)) (Ev.bind (heldWords _ _ 1 (by omega) (by omega)) ?_)
    simp only [if_neg (show ¬ (1 : Int) + ((answer a l).2.length : Int) < 0 by omega), if_true]
    refine Ev.bind (toWords a l hl) (Ev.bind (impl_answer a l hl) (Ev.bind (eqWords _ _ (by omega)) ?_))
    simp only [if_true]
    refine Ev.bind (heldWords _ _ 1 (by omega) (by omega)) ?_
    simp only [if_neg (show ¬ (1 : Int) + ((answer a l).2.length : Int) < 0 by omega), if_true]
    exact Ev.now _
end Go.Proofs.Ytdmmgijfaligpaa.Pure
