/- Words are found in a stream as by the reference: the plain law. -/
import Derived.Test.YtegchbdjbefdbaaPFnExactWordsFromx
namespace Go.Proofs.Ytegchbdjbefdbaa.Pure
set_option linter.unusedSimpArgs false
set_option linter.unusedVariables false
open Go.RowKit Go.Proofs.Ytegchbdjbefdbaa.PFnExactWordsFrom Go.Proofs.YtegchbdjbefdbaaW.PrintWords Go.Proofs.YtegchbdjbefdbaaW.PrintLast Go.Proofs.YtegchbdjbefdbaaW.PrintMore

theorem Ev.succ {α : Type} {g : Nat → Option α} {r : α} (h : Ev (fun k => g (k + 1)) r) : Ev g r := Ev.step (fun _ => rfl) h
theorem Ev.pure {α : Type} {o : Option α} {r : α} (h : o = some r) : Ev (fun _ => o) r := by rw [h]; exact Ev.now r
theorem Ev.cong {α : Type} {g g' : Nat → Option α} {r : α} (h : ∀ k, g k = g' k) (e : Ev g' r) : Ev g r := by rw [show g = g' from funext h]; exact e
theorem wrap_id {x : Int} (h0 : -9223372036854775808 ≤ x) (h1 : x ≤ 9223372036854775807) : wrap64 x = x := by unfold wrap64; omega

theorem rd_get (l : List Int) (i : Nat) (h : i < l.length) : rd l (i : Int) = l[i] := by
  unfold rd
  rw [Int.toNat_natCast, List.getD_eq_getElem?_getD, List.getElem?_eq_getElem h]; rfl
theorem take_set_succ {α : Type} (x : List α) (i : Nat) (v : α) (h : i < x.length) : (x.set i v).take (i + 1) = x.take i ++ [v] := by
  rw [List.take_succ_eq_append_getElem (by simpa using h), List.getElem_set_self, List.take_set, List.set_eq_of_length_le (by simp; omega)]


/-- toByteS: a copy. -/
theorem toByteS_l (l : List Int) (hl : l.length ≤ 1048576) (d : Nat) : ∀ (i : Nat) (x : List Int), i ≤ l.length → l.length - i = d → x.length = l.length → x.take i = l.take i →
    Ev (fun k => laws_toByteS.l0 k l x (i : Int)) l := by
  induction d with
  | zero =>
    intro i x hi hd hx ht
    have hil : i = l.length := by omega
    subst hil
    refine Ev.succ ?_
    simp only [laws_toByteS.l0]
    simp only [Int.lt_irrefl, if_false]
    have : x = l := by rw [← hx, List.take_length] at ht; rw [ht, hx, List.take_length]
    rw [this]; exact Ev.now l
  | succ d ih =>
    intro i x hi hd hx ht
    have hlt : i < l.length := by omega
    refine Ev.succ ?_
    simp only [laws_toByteS.l0]
    simp only [if_pos (show (i : Int) < (l.length : Int) by omega), if_pos (show (0 : Int) ≤ (i : Int) by omega), if_pos (show (i : Int) < (x.length : Int) by omega)]
    rw [wrap_id (by omega) (by omega), rd_get l i hlt, Int.toNat_natCast]
    refine ih (i + 1) _ (by omega) (by omega) (by simpa using hx) ?_
    rw [take_set_succ _ _ _ (by omega), ht, List.take_succ_eq_append_getElem hlt]
theorem toByteS (l : List Int) (hl : l.length ≤ 1048576) : Ev (fun k => laws_toByteS.f k l) l := by
  unfold laws_toByteS.f
  simp only [if_pos (show (0 : Int) ≤ (l.length : Int) by omega), Int.toNat_natCast, if_pos (show l.length ≤ 281474976710656 by omega)]
  exact toByteS_l l hl _ 0 _ (by omega) rfl (by simp) (by simp)
/-- eqByteS of a list and itself. -/
theorem eqByteS_l (l : List Int) (hl : l.length ≤ 9223372036854775806) (d : Nat) : ∀ (i : Nat), i ≤ l.length → l.length - i = d → Ev (fun k => laws_eqByteS.l0 k l l (i : Int)) true := by
  induction d with
  | zero =>
    intro i hi hd
    refine Ev.succ ?_
    simp only [laws_eqByteS.l0]
    simp only [if_neg (show ¬ (i : Int) < (l.length : Int) by omega)]
    exact Ev.now true
  | succ d ih =>
    intro i hi hd
    refine Ev.succ ?_
    simp only [laws_eqByteS.l0]
    simp only [if_pos (show (i : Int) < (l.length : Int) by omega), if_pos (show (0 : Int) ≤ (i : Int) by omega), if_true]
    rw [wrap_id (by omega) (by omega)]
    exact ih (i + 1) (by omega) (by omega)
theorem eqByteS (l : List Int) (hl : l.length ≤ 9223372036854775806) : Ev (fun k => laws_eqByteS.f k l l) true := by
  unfold laws_eqByteS.f
  simp only [if_true]
  exact eqByteS_l l hl _ 0 (by omega) rfl
/-- What markByteS leaves. -/
def markB : Nat → Int → List Int
  | 0, _ => []
  | n + 1, m => m % 256 :: markB n (m + 1)
theorem markB_length (n : Nat) (m : Int) : (markB n m).length = n := by
  induction n generalizing m with
  | zero => rfl
  | succ n ih => simp [markB, ih]
theorem markB_get (n : Nat) (m : Int) (i : Nat) (h : i < (markB n m).length) : (markB n m)[i] = (m + i) % 256 := by
  induction n generalizing m i with
  | zero => simp [markB] at h
  | succ n ih =>
    cases i with
    | zero => simp [markB]
    | succ i => simp only [markB, List.getElem_cons_succ]; rw [ih]; congr 1; push_cast; omega
theorem markByteS_l (n : Nat) (m : Int) (h0 : 0 ≤ m) (h1 : m + n ≤ 4611686018427387904) (d : Nat) : ∀ (i : Nat) (x : List Int), i ≤ n → n - i = d → x.length = n → x.take i = (markB n m).take i →
    Ev (fun k => laws_markByteS.l0 k x (m + i) (i : Int)) (m + n, markB n m) := by
  have hM := markB_length n m
  induction d with
  | zero =>
    intro i x hi hd hx ht
    have hil : i = n := by omega
    subst hil
    refine Ev.succ ?_
    simp only [laws_markByteS.l0]
    simp only [if_neg (show ¬ (i : Int) < (x.length : Int) by omega)]
    have : x = markB i m := by rw [List.take_of_length_le (by omega), List.take_of_length_le (by omega)] at ht; exact ht
    rw [this]; exact Ev.now _
  | succ d ih =>
    intro i x hi hd hx ht
    refine Ev.succ ?_
    simp only [laws_markByteS.l0]
    simp only [if_pos (show (i : Int) < (x.length : Int) by omega), if_pos (show (0 : Int) ≤ (i : Int) by omega)]
    rw [wrap_id (by omega) (by omega), wrap_id (by omega) (by omega), Int.toNat_natCast]
    have := ih (i + 1) (x.set i ((m + i) % 256)) (by omega) (by omega) (by simpa using hx) (by
      rw [take_set_succ _ _ _ (by omega), ht, List.take_succ_eq_append_getElem (by omega), markB_get])
    rw [show (m + ((i + 1 : Nat) : Int)) = m + i + 1 by push_cast; omega] at this
    exact this
theorem markByteS (l : List Int) (m : Int) (h0 : 0 ≤ m) (h1 : m + l.length ≤ 4611686018427387904) : Ev (fun k => laws_markByteS.f k l m) (m + l.length, markB l.length m) := by
  unfold laws_markByteS.f
  have := markByteS_l l.length m h0 h1 _ 0 l (by omega) rfl rfl (by simp)
  simpa using this
theorem heldByteS_l (n : Nat) (m : Int) (h0 : 0 ≤ m) (h1 : m + n ≤ 4611686018427387904) (d : Nat) : ∀ (i : Nat), i ≤ n → n - i = d → Ev (fun k => laws_heldByteS.l0 k (markB n m) (m + i) (i : Int)) (m + n) := by
  have hM := markB_length n m
  induction d with
  | zero =>
    intro i hi hd
    have hil : i = n := by omega
    subst hil
    refine Ev.succ ?_
    simp only [laws_heldByteS.l0]
    simp only [if_neg (show ¬ (i : Int) < ((markB i m).length : Int) by omega)]
    exact Ev.now _
  | succ d ih =>
    intro i hi hd
    refine Ev.succ ?_
    simp only [laws_heldByteS.l0]
    rw [rd_get _ i (by omega), markB_get]
    simp only [if_pos (show (i : Int) < ((markB n m).length : Int) by omega), if_pos (show (0 : Int) ≤ (i : Int) by omega), if_true]
    rw [wrap_id (by omega) (by omega), wrap_id (by omega) (by omega)]
    have := ih (i + 1) (by omega) (by omega)
    rw [show (m + ((i + 1 : Nat) : Int)) = m + i + 1 by push_cast; omega] at this
    exact this
theorem heldByteS (n : Nat) (m : Int) (h0 : 0 ≤ m) (h1 : m + n ≤ 4611686018427387904) : Ev (fun k => laws_heldByteS.f k (markB n m) m) (m + n) := by
  unfold laws_heldByteS.f
  have := heldByteS_l n m h0 h1 _ 0 (by omega) rfl
  simpa using this
/-! Words -/
theorem eqWords (a : Int) (l : List Int) (hl : l.length ≤ 9223372036854775806) : Ev (fun k => laws_eqWords.f k a l a l) true := by
  unfold laws_eqWords.f; simp only [if_true]; refine Ev.bind (eqByteS l hl) ?_; simp only [if_true]; exact Ev.now _
/-! WordsFrom -/
/-- The words that a stream begins with, how many bytes of it these are, and whether what is behind them may become some. -/
def pw : Nat → List Int → List S41 × Nat × Bool
  | 0, _ => ([], 0, true)
  | _ + 1, [] => ([], 0, true)
  | d + 1, n :: rest => if n > 9 then ([], 0, false) else match rest with
    | [] => ([], 0, true)
    | a :: more => if (more.length : Int) < n then ([], 0, true) else
      (⟨a, more.take n.toNat⟩ :: (pw d (more.drop n.toNat)).1, n.toNat + 2 + (pw d (more.drop n.toNat)).2.1, (pw d (more.drop n.toNat)).2.2)
def isBytes (l : List Int) : Prop := ∀ x ∈ l, 0 ≤ x ∧ x ≤ 255
theorem isBytes_get {l : List Int} (h : isBytes l) (i : Nat) (hi : i < l.length) : 0 ≤ l[i] ∧ l[i] ≤ 255 := h _ (List.getElem_mem hi)
theorem isBytes_wf {l : List Int} (h : ∀ x ∈ l, (Lit.int .u8 x).wf = true) : isBytes l := by
  intro x hx
  have := h x hx
  simp [Lit.wf, IntKind.min, IntKind.max, IntKind.bits, IntKind.signed] at this
  omega
theorem drop_two {l : List Int} {i : Nat} (h : i + 1 < l.length) : l.drop i = l[i] :: l[i + 1] :: l.drop (i + 2) := by
  rw [List.drop_eq_getElem_cons (show i < l.length by omega), List.drop_eq_getElem_cons (show i + 1 < l.length by omega)]
theorem drop_one {l : List Int} {i : Nat} (h : i + 1 = l.length) : l.drop i = [l[i]] := by
  rw [List.drop_eq_getElem_cons (show i < l.length by omega), List.drop_of_length_le (by omega)]
theorem mid_cut (l : List Int) (a n : Nat) : (l.take (a + n)).drop a = (l.drop a).take n := by
  rw [List.drop_take]; congr 1; omega
theorem impl_wf_l (l : List Int) (hb : isBytes l) (hl : l.length ≤ 1099511627776) (d : Nat) : ∀ (i : Nat) (acc : List S41), i ≤ l.length → l.length - i ≤ d → acc.length ≤ i →
    Ev (fun k => impl_WordsFrom.l0 k l acc (i : Int)) (acc ++ (pw d (l.drop i)).1, (i : Int) + (pw d (l.drop i)).2.1, (pw d (l.drop i)).2.2) := by
  induction d with
  | zero =>
    intro i acc hi hd ha
    refine Ev.succ ?_
    simp only [impl_WordsFrom.l0, if_neg (show ¬ (i : Int) < (l.length : Int) by omega), pw, List.append_nil]
    exact Ev.now _
  | succ d ih =>
    intro i acc hi hd ha
    refine Ev.succ ?_
    simp only [impl_WordsFrom.l0]
    by_cases h1 : i < l.length
    · have hx := isBytes_get hb i h1
      simp only [if_pos (show (i : Int) < (l.length : Int) by omega), if_pos (show (0 : Int) ≤ (i : Int) by omega)]
      rw [rd_get l i h1, wrap_id (x := l[i]) (by omega) (by omega), wrap_id (x := (i : Int) + 2) (by omega) (by omega), wrap_id (x := (i : Int) + 1) (by omega) (by omega), wrap_id (x := (i : Int) + 2 + l[i]) (by omega) (by omega), wrap_id (x := 2 + l[i]) (by omega) (by omega), wrap_id (x := (i : Int) + (2 + l[i])) (by omega) (by omega)]
      by_cases h2 : l[i] > 9
      · simp only [if_pos h2]
        rw [List.drop_eq_getElem_cons h1]
        simp only [pw, if_pos h2, List.append_nil]
        exact Ev.now _
      · simp only [if_neg h2]
        by_cases h3 : (i : Int) + 2 + l[i] > (l.length : Int)
        · simp only [if_pos h3]
          by_cases h4 : i + 1 < l.length
          · rw [drop_two h4]
            simp only [pw, if_neg h2, if_pos (show ((l.drop (i + 2)).length : Int) < l[i] by rw [List.length_drop]; omega), List.append_nil]
            exact Ev.now _
          · rw [drop_one (by omega)]
            simp only [pw, if_neg h2, List.append_nil]
            exact Ev.now _
        · have h4 : i + 1 < l.length := by omega
          have hx1 := isBytes_get hb (i + 1) h4
          have hr : rd l ((i : Int) + 1) = l[i + 1] := by
            have := rd_get l (i + 1) h4
            rw [← this]; congr 1
          simp only [if_neg h3, if_pos (show (0 : Int) ≤ (i : Int) + 1 by omega), if_pos (show (i : Int) + 1 < (l.length : Int) by omega), if_pos (show (0 : Int) ≤ (i : Int) + 2 by omega), if_pos (show (i : Int) + 2 ≤ (i : Int) + 2 + l[i] by omega), if_pos (show (i : Int) + 2 + l[i] ≤ (l.length : Int) by omega)]
          rw [hr, wrap_id (x := l[i + 1]) (by omega) (by omega), show ((i : Int) + 2 + l[i]).toNat = i + 2 + l[i].toNat by omega, show ((i : Int) + 2).toNat = i + 2 by omega, mid_cut]
          have hcl : impl_clone_byte.f ((l.drop (i + 2)).take l[i].toNat) = some ((l.drop (i + 2)).take l[i].toNat) := by
            unfold impl_clone_byte.f
            rw [if_pos]
            rw [List.length_take, List.length_drop]; omega
          simp only [hcl, Option.bind_some, if_pos (show acc.length < 4398046511104 by omega)]
          have h5 := ih (i + (2 + l[i].toNat)) (acc ++ [⟨l[i + 1], (l.drop (i + 2)).take l[i].toNat⟩]) (by omega) (by omega) (by simp; omega)
          rw [drop_two h4]
          simp only [pw, if_neg h2, if_neg (show ¬ ((l.drop (i + 2)).length : Int) < l[i] by rw [List.length_drop]; omega)]
          rw [List.drop_drop, show i + 2 + l[i].toNat = i + (2 + l[i].toNat) by omega]
          rw [show (i : Int) + (2 + l[i]) = ((i + (2 + l[i].toNat) : Nat) : Int) by omega]
          rw [List.append_assoc, List.singleton_append] at h5
          rw [show (i : Int) + ((l[i].toNat + 2 + (pw d (l.drop (i + (2 + l[i].toNat)))).2.1 : Nat) : Int) = ((i + (2 + l[i].toNat) : Nat) : Int) + ((pw d (l.drop (i + (2 + l[i].toNat)))).2.1 : Int) by omega]
          exact h5
    · have h1' : i = l.length := by omega
      subst h1'
      simp only [Int.lt_irrefl, if_false, List.drop_length, pw, List.append_nil]
      exact Ev.now _
theorem impl_wordsFrom (l : List Int) (hb : isBytes l) (hl : l.length ≤ 1099511627776) : Ev (fun k => impl_WordsFrom.f k l) ((pw l.length l).1, ((pw l.length l).2.1 : Int), (pw l.length l).2.2) := by
  unfold impl_WordsFrom.f
  have := impl_wf_l l hb hl l.length 0 [] (by omega) (by omega) (by simp)
  simpa using this

theorem spec_wf_end (l : List Int) (hb : isBytes l) (i : Nat) (acc : List S41) (hi : i ≤ l.length) : (if (i : Int) = (l.length : Int) then some (acc, (i : Int), true) else if 0 ≤ (i : Int) then (if (i : Int) < (l.length : Int) then some (acc, (i : Int), decide (wrap64 (rd l (i : Int)) ≤ 9)) else none) else none) = some (acc, (i : Int), decide (i = l.length ∨ rd l (i : Int) ≤ 9)) := by
  by_cases h : i = l.length
  · simp [h]
  · have hx := isBytes_get hb i (by omega)
    rw [if_neg (show ¬ (i : Int) = (l.length : Int) by omega), if_pos (show 0 ≤ (i : Int) by omega), if_pos (show (i : Int) < (l.length : Int) by omega), rd_get l i (by omega), wrap_id (x := l[i]) (by omega) (by omega)]
    simp [h]
theorem spec_wf_l (l : List Int) (hb : isBytes l) (hl : l.length ≤ 1099511627776) (d : Nat) : ∀ (i : Nat) (acc : List S41), i ≤ l.length → l.length - i ≤ d → acc.length ≤ i →
    Ev (fun k => spec_WordsFrom.l0 k l acc (i : Int)) (acc ++ (pw d (l.drop i)).1, (i : Int) + (pw d (l.drop i)).2.1, (pw d (l.drop i)).2.2) := by
  induction d with
  | zero =>
    intro i acc hi hd ha
    refine Ev.succ ?_
    simp only [spec_WordsFrom.l0]
    rw [wrap_id (x := (i : Int) + 2) (by omega) (by omega)]
    simp only [if_neg (show ¬ (i : Int) + 2 ≤ (l.length : Int) by omega), if_pos (show (i : Int) = (l.length : Int) by omega), pw, List.append_nil, Int.natCast_zero, Int.add_zero]
    exact Ev.now _
  | succ d ih =>
    intro i acc hi hd ha
    refine Ev.succ ?_
    simp only [spec_WordsFrom.l0]
    rw [wrap_id (x := (i : Int) + 2) (by omega) (by omega)]
    by_cases h1 : i + 1 < l.length
    · have hx := isBytes_get hb i (by omega)
      have hx1 := isBytes_get hb (i + 1) h1
      have hr : rd l ((i : Int) + 1) = l[i + 1] := by
        have := rd_get l (i + 1) h1
        rw [← this]; congr 1
      simp only [if_pos (show (i : Int) + 2 ≤ (l.length : Int) by omega), if_pos (show (0 : Int) ≤ (i : Int) by omega), if_pos (show (i : Int) < (l.length : Int) by omega), if_neg (show ¬ (i : Int) = (l.length : Int) by omega)]
      rw [rd_get l i (by omega), wrap_id (x := l[i]) (by omega) (by omega), wrap_id (x := (i : Int) + 1) (by omega) (by omega), wrap_id (x := (i : Int) + 2 + l[i]) (by omega) (by omega), drop_two h1]
      by_cases h2 : l[i] ≤ 9
      · simp only [if_pos h2]
        by_cases h3 : (i : Int) + 2 + l[i] ≤ (l.length : Int)
        · simp only [if_pos h3, if_pos (show (0 : Int) ≤ (i : Int) + 1 by omega), if_pos (show (i : Int) + 1 < (l.length : Int) by omega), if_pos (show (0 : Int) ≤ (i : Int) + 2 by omega), if_pos (show (i : Int) + 2 ≤ (i : Int) + 2 + l[i] by omega), Option.bind_some]
          rw [hr, wrap_id (x := l[i + 1]) (by omega) (by omega), show ((i : Int) + 2 + l[i]).toNat = i + 2 + l[i].toNat by omega, show ((i : Int) + 2).toNat = i + 2 by omega, mid_cut]
          have hc : ([] : List Int).length + ((l.drop (i + 2)).take l[i].toNat).length < 140737488355328 := by rw [List.length_take, List.length_drop, List.length_nil]; omega
          simp only [if_pos hc, if_pos (show acc.length < 4398046511104 by omega), List.nil_append]
          have h5 := ih (i + (2 + l[i].toNat)) (acc ++ [⟨l[i + 1], (l.drop (i + 2)).take l[i].toNat⟩]) (by omega) (by omega) (by simp; omega)
          simp only [pw, if_neg (show ¬ l[i] > 9 by omega), if_neg (show ¬ ((l.drop (i + 2)).length : Int) < l[i] by rw [List.length_drop]; omega)]
          rw [List.drop_drop, show i + 2 + l[i].toNat = i + (2 + l[i].toNat) by omega]
          rw [show (i : Int) + 2 + l[i] = ((i + (2 + l[i].toNat) : Nat) : Int) by omega]
          rw [List.append_assoc, List.singleton_append] at h5
          rw [show (i : Int) + ((l[i].toNat + 2 + (pw d (l.drop (i + (2 + l[i].toNat)))).2.1 : Nat) : Int) = ((i + (2 + l[i].toNat) : Nat) : Int) + ((pw d (l.drop (i + (2 + l[i].toNat)))).2.1 : Int) by omega]
          exact h5
        · simp only [if_neg h3, pw, if_neg (show ¬ l[i] > 9 by omega), if_pos (show ((l.drop (i + 2)).length : Int) < l[i] by rw [List.length_drop]; omega), List.append_nil, Int.natCast_zero, Int.add_zero, decide_eq_true h2]
          exact Ev.now _
      · simp only [if_neg h2, pw, if_pos (show l[i] > 9 by omega), List.append_nil, Int.natCast_zero, Int.add_zero, decide_eq_false h2]
        exact Ev.now _
    · simp only [if_neg (show ¬ (i : Int) + 2 ≤ (l.length : Int) by omega)]
      rw [spec_wf_end l hb i acc hi]
      by_cases h2 : i = l.length
      · subst h2
        simp only [List.drop_length, pw, List.append_nil, Int.natCast_zero, Int.add_zero]
        exact Ev.pure (by simp)
      · rw [drop_one (by omega), rd_get l i (by omega)]
        by_cases h3 : l[i] ≤ 9
        · simp only [pw, if_neg (show ¬ l[i] > 9 by omega), List.append_nil, Int.natCast_zero, Int.add_zero]
          exact Ev.pure (by simp [h3])
        · simp only [pw, if_pos (show l[i] > 9 by omega), List.append_nil, Int.natCast_zero, Int.add_zero]
          exact Ev.pure (by simp [h3, h2])
theorem spec_wordsFrom (l : List Int) (hb : isBytes l) (hl : l.length ≤ 1099511627776) : Ev (fun k => spec_WordsFrom.f k l) ((pw l.length l).1, ((pw l.length l).2.1 : Int), (pw l.length l).2.2) := by
  unfold spec_WordsFrom.f
  have := spec_wf_l l hb hl l.length 0 [] (by omega) (by omega) (by simp)
  simpa using this

/-! rows of words -/
abbrev WI := S41
theorem rdWI (l : List WI) (i : Nat) (h : i < l.length) : rd_T41 l (i : Int) = l[i] := by
  unfold rd_T41
  rw [Int.toNat_natCast, List.getD_eq_getElem?_getD, List.getElem?_eq_getElem h]; rfl
theorem eqWordsS_l (l : List WI) (hl : l.length ≤ 1048576) (hb : ∀ z ∈ l, z.f1.length ≤ 1048576) (d : Nat) : ∀ i : Nat, i ≤ l.length → l.length - i = d → Ev (fun k => laws_eqWordsS.l0 k l l (i : Int)) true := by
  induction d with
  | zero =>
    intro i hi hd
    refine Ev.succ ?_
    simp only [laws_eqWordsS.l0, if_neg (show ¬ (i : Int) < (l.length : Int) by omega)]
    exact Ev.now true
  | succ d ih =>
    intro i hi hd
    have hlt : i < l.length := by omega
    have hz := hb _ (List.getElem_mem hlt)
    refine Ev.succ ?_
    simp only [laws_eqWordsS.l0, if_pos (show (i : Int) < (l.length : Int) by omega), if_pos (show (0 : Int) ≤ (i : Int) by omega), rdWI l i hlt]
    refine Ev.bind (eqWords l[i].f0 l[i].f1 (by omega)) ?_
    simp only [if_true]
    rw [wrap_id (by omega) (by omega)]
    exact ih (i + 1) (by omega) (by omega)
theorem eqWordsS (l : List WI) (hl : l.length ≤ 1048576) (hb : ∀ z ∈ l, z.f1.length ≤ 1048576) : Ev (fun k => laws_eqWordsS.f k l l) true := by
  unfold laws_eqWordsS.f
  simp only [if_true]
  exact eqWordsS_l l hl hb _ 0 (by omega) rfl

/-! rows of words, marked -/
/-- How many numbers and bytes words have. -/
def wmany : List WI → Nat
  | [] => 0
  | z :: l => 1 + z.f1.length + wmany l
/-- What marking leaves. -/
def mkW : List WI → Int → List WI
  | [], _ => []
  | z :: l, m => ⟨m, markB z.f1.length (m + 1)⟩ :: mkW l (m + 1 + z.f1.length)
theorem wmany_append (a b : List WI) : wmany (a ++ b) = wmany a + wmany b := by
  induction a with
  | nil => simp [wmany]
  | cons z a ih => simp only [List.cons_append, wmany, ih]; omega
theorem wmany_len (l : List WI) : l.length ≤ wmany l := by
  induction l with
  | nil => simp
  | cons z l ih => simp only [wmany, List.length_cons]; omega
theorem wmany_mem (l : List WI) : ∀ z ∈ l, z.f1.length ≤ wmany l := by
  induction l with
  | nil => simp
  | cons z l ih =>
    intro y hy
    rw [List.mem_cons] at hy
    simp only [wmany]
    rcases hy with rfl | hy
    · omega
    · have := ih y hy; omega
theorem mkW_length (l : List WI) (m : Int) : (mkW l m).length = l.length := by
  induction l generalizing m with
  | nil => rfl
  | cons z l ih => simp [mkW, ih]
theorem markWordsS_l (d : Nat) : ∀ (i : Nat) (x : List WI) (m : Int), i ≤ x.length → x.length - i = d → x.length ≤ 4611686018427387904 → 0 ≤ m → m + wmany (x.drop i) ≤ 4611686018427387904 →
    Ev (fun k => laws_markWordsS.l0 k x m (i : Int)) (m + wmany (x.drop i), x.take i ++ mkW (x.drop i) m) := by
  induction d with
  | zero =>
    intro i x m hi hd hx h0 h1
    refine Ev.succ ?_
    simp only [laws_markWordsS.l0, if_neg (show ¬ (i : Int) < (x.length : Int) by omega)]
    rw [List.drop_of_length_le (by omega), List.take_of_length_le (by omega)]
    simp only [wmany, mkW, List.append_nil, Int.natCast_zero, Int.add_zero]
    exact Ev.now _
  | succ d ih =>
    intro i x m hi hd hx h0 h1
    have hlt : i < x.length := by omega
    have hdr : x.drop i = x[i] :: x.drop (i + 1) := List.drop_eq_getElem_cons hlt
    have h2 : m + (1 + x[i].f1.length + wmany (x.drop (i + 1)) : Nat) ≤ 4611686018427387904 := by rw [hdr] at h1; exact h1
    refine Ev.succ ?_
    simp only [laws_markWordsS.l0, if_pos (show (i : Int) < (x.length : Int) by omega), if_pos (show (0 : Int) ≤ (i : Int) by omega), rdWI x i hlt, Int.toNat_natCast]
    rw [wrap_id (x := m + 1) (by omega) (by omega), wrap_id (x := (i : Int) + 1) (by omega) (by omega)]
    refine Ev.bind (markByteS x[i].f1 (m + 1) (by omega) (by omega)) ?_
    have h3 := ih (i + 1) (x.set i ⟨m, markB x[i].f1.length (m + 1)⟩) (m + 1 + x[i].f1.length) (by simp; omega) (by simp; omega) (by simpa using hx) (by omega) (by rw [List.drop_set_of_lt (by omega)]; omega)
    rw [List.drop_set_of_lt (by omega), take_set_succ _ _ _ hlt] at h3
    rw [hdr]
    simp only [wmany, mkW]
    rw [show (m + (1 + x[i].f1.length + wmany (x.drop (i + 1)) : Nat) : Int) = m + 1 + x[i].f1.length + wmany (x.drop (i + 1)) by push_cast; omega]
    rw [List.append_assoc, List.singleton_append] at h3
    exact h3
theorem markWordsS (l : List WI) (m : Int) (h0 : 0 ≤ m) (h1 : m + wmany l ≤ 4611686018427387904) : Ev (fun k => laws_markWordsS.f k l m) (m + wmany l, mkW l m) := by
  unfold laws_markWordsS.f
  have hl := wmany_len l
  have := markWordsS_l l.length 0 l m (by omega) (by omega) (by omega) h0 (by simpa using h1)
  simpa using this
theorem heldWordsS_l (q : List WI) : ∀ (p : List WI) (m : Int), (p ++ mkW q m).length ≤ 4611686018427387904 → 0 ≤ m → m + wmany q ≤ 4611686018427387904 →
    Ev (fun k => laws_heldWordsS.l0 k (p ++ mkW q m) m (p.length : Int)) (m + wmany q) := by
  induction q with
  | nil =>
    intro p m hx h0 h1
    refine Ev.succ ?_
    simp only [laws_heldWordsS.l0, mkW, List.append_nil, Int.lt_irrefl, if_false, wmany, Int.natCast_zero, Int.add_zero]
    exact Ev.now _
  | cons z q ih =>
    intro p m hx h0 h1
    have hlen : (p ++ mkW (z :: q) m).length = p.length + 1 + q.length := by simp [mkW, mkW_length]; omega
    have h2 : m + (1 + z.f1.length + wmany q : Nat) ≤ 4611686018427387904 := h1
    have hg : (p ++ mkW (z :: q) m)[p.length]'(by omega) = (⟨m, markB z.f1.length (m + 1)⟩ : WI) := by simp [mkW]
    refine Ev.succ ?_
    simp only [laws_heldWordsS.l0]
    rw [rdWI _ p.length (by omega), hg]
    simp only [if_pos (show (p.length : Int) < ((p ++ mkW (z :: q) m).length : Int) by omega), if_pos (show (0 : Int) ≤ (p.length : Int) by omega), if_true]
    rw [wrap_id (x := m + 1) (by omega) (by omega), wrap_id (x := (p.length : Int) + 1) (by omega) (by omega)]
    refine Ev.bind (heldByteS z.f1.length (m + 1) (by omega) (by omega)) ?_
    simp only [if_neg (show ¬ m + 1 + (z.f1.length : Int) < 0 by omega)]
    have e : p ++ mkW (z :: q) m = (p ++ [⟨m, markB z.f1.length (m + 1)⟩]) ++ mkW q (m + 1 + z.f1.length) := by simp [mkW]
    have h3 := ih (p ++ [⟨m, markB z.f1.length (m + 1)⟩]) (m + 1 + z.f1.length) (by rw [← e]; exact hx) (by omega) (by omega)
    rw [← e] at h3
    simp only [wmany]
    rw [show (m + (1 + z.f1.length + wmany q : Nat) : Int) = m + 1 + z.f1.length + wmany q by push_cast; omega]
    rw [show ((p ++ [(⟨m, markB z.f1.length (m + 1)⟩ : WI)]).length : Int) = (p.length : Int) + 1 by simp] at h3
    exact h3
theorem heldWordsS (l : List WI) (m : Int) (h0 : 0 ≤ m) (h1 : m + wmany l ≤ 4611686018427387904) : Ev (fun k => laws_heldWordsS.f k (mkW l m) m) (m + wmany l) := by
  unfold laws_heldWordsS.f
  have hl := wmany_len l
  have := heldWordsS_l l [] m (by simp [mkW_length]; omega) h0 h1
  simpa using this

theorem pw_many (d : Nat) : ∀ l : List Int, wmany (pw d l).1 ≤ l.length := by
  induction d with
  | zero => intro l; simp [pw, wmany]
  | succ d ih =>
    intro l
    match l with
    | [] => simp [pw, wmany]
    | [n] =>
      simp only [pw]
      split <;> simp [wmany]
    | n :: a :: more =>
      simp only [pw]
      split
      · simp [wmany]
      · split
        · simp [wmany]
        · simp only [wmany, List.length_cons, List.length_take]
          have := ih (more.drop n.toNat)
          rw [List.length_drop] at this
          omega

theorem FnExactWordsFrom : laws_FnExactWordsFrom.Pure := by
  intro l hl0 _ hw
  have hb := isBytes_wf hw
  refine Ev.rounds ?_
  unfold laws_FnExactWordsFrom.f
  by_cases hs : (l.length : Int) > 1048576
  · simp only [if_pos hs]; exact Ev.now _
  have hl : l.length ≤ 1048576 := by omega
  simp only [if_neg hs]
  clear hl0 hw hs
  have t := toByteS l hl
  have ei := impl_wordsFrom l hb (by omega)
  have es := spec_wordsFrom l hb (by omega)
  have hm := pw_many l.length l
  generalize pw l.length l = q at *
  obtain ⟨q1, q2, q3⟩ := q
  have hm' : wmany q1 ≤ 1048576 := by have : wmany q1 ≤ l.length := hm; omega
  clear hm
  have b1 := wmany_len q1
  have b2 := wmany_mem q1
  have eq1 := eqWordsS q1 (by omega) (fun z hz => by have := b2 z hz; omega)
  refine Ev.bind t (Ev.bind es (Ev.bind t (Ev.bind ei (Ev.bind eq1 ?_))))
  simp only [if_true, bne_self_eq_false, Bool.false_eq_true, if_false]
  refine Ev.bind t (Ev.bind (eqByteS l (by omega)) ?_)
  simp only [if_true]
  refine Ev.bind (markByteS l 1 (by omega) (by omega)) ?_
  simp only [if_neg (show ¬ (1 : Int) + (l.length : Int) < 0 by omega)]
  refine Ev.bind eq1 ?_
  simp only [if_true]
  refine Ev.bind (markWordsS q1 1 (by omega) (by omega)) (Ev.bind (heldWordsS q1 1 (by omega) (by omega)) ?_)
  simp only [if_neg (show ¬ (1 : Int) + (wmany q1 : Int) < 0 by omega), if_true]
  refine Ev.bind t (Ev.bind ei (Ev.bind eq1 ?_))
  simp only [if_true, bne_self_eq_false, Bool.false_eq_true, if_false]
  refine Ev.bind (heldWordsS q1 1 (by omega) (by omega)) ?_
  simp only [if_neg (show ¬ (1 : Int) + (wmany q1 : Int) < 0 by omega), if_true]
  exact Ev.now _

end Go.Proofs.Ytegchbdjbefdbaa.Pure
