/- New bytes are told as by the reference: the plain law. -/
import Derived.Test.YtjiodkbbmhhccaaPFnExactMouthNextx
namespace Go.Proofs.Ytjiodkbbmhhccaa.Pure
set_option linter.unusedSimpArgs false
set_option linter.unusedVariables false
open Go.RowKit Go.Proofs.Ytjiodkbbmhhccaa.PFnExactMouthNext Go.Proofs.YtjiodkbbmhhccaaW.PrintWords Go.Proofs.YtjiodkbbmhhccaaW.PrintLast Go.Proofs.YtjiodkbbmhhccaaW.PrintMore

theorem Ev.succ {α : Type} {g : Nat → Option α} {r : α} (h : Ev (fun k => g (k + 1)) r) : Ev g r := Ev.step (fun _ => rfl) h
theorem Ev.pure {α : Type} {o : Option α} {r : α} (h : o = some r) : Ev (fun _ => o) r := by rw [h]; exact Ev.now r
theorem Ev.cong {α : Type} {g g' : Nat → Option α} {r : α} (h : ∀ k, g k = g' k) (e : Ev g' r) : Ev g r := by rw [show g = g' from funext h]; exact e
theorem wrap_id {x : Int} (h0 : -9223372036854775808 ≤ x) (h1 : x ≤ 9223372036854775807) : wrap64 x = x := by unfold wrap64; omega

theorem rd_get (l : List Int) (i : Nat) (h : i < l.length) : rd l (i : Int) = l[i] := by
  unfold rd
  rw [Int.toNat_natCast, List.getD_eq_getElem?_getD, List.getElem?_eq_getElem h]; rfl
theorem take_set_succ {α : Type} (x : List α) (i : Nat) (v : α) (h : i < x.length) : (x.set i v).take (i + 1) = x.take i ++ [v] := by
  rw [List.take_succ_eq_append_getElem (by simpa using h), List.getElem_set_self, List.take_set, List.set_eq_of_length_le (by simp; omega)]


/-- toByteS: a copy. -/
theorem toByteS_l (l : List Int) (hl : l.length ≤ 1048576) (d : Nat) : ∀ (i : Nat) (x : List Int), i ≤ l.length → l.length - i = d → x.length = l.length → x.take i = l.take i →
    Ev (fun k => laws_toByteS.l0 k l x (i : Int)) l := by
  induction d with
  | zero =>
    intro i x hi hd hx ht
    have hil : i = l.length := by omega
    subst hil
    refine Ev.succ ?_
    simp only [laws_toByteS.l0]
    simp only [Int.lt_irrefl, if_false]
    have : x = l := by rw [← hx, List.take_length] at ht; rw [ht, hx, List.take_length]
    rw [this]; exact Ev.now l
  | succ d ih =>
    intro i x hi hd hx ht
    have hlt : i < l.length := by omega
    refine Ev.succ ?_
    simp only [laws_toByteS.l0]
    simp only [if_pos (show (i : Int) < (l.length : Int) by omega), if_pos (show (0 : Int) ≤ (i : Int) by omega), if_pos (show (i : Int) < (x.length : Int) by omega)]
    rw [wrap_id (by omega) (by omega), rd_get l i hlt, Int.toNat_natCast]
    refine ih (i + 1) _ (by omega) (by omega) (by simpa using hx) ?_
    rw [take_set_succ _ _ _ (by omega), ht, List.take_succ_eq_append_getElem hlt]
theorem toByteS (l : List Int) (hl : l.length ≤ 1048576) : Ev (fun k => laws_toByteS.f k l) l := by
  unfold laws_toByteS.f
  simp only [if_pos (show (0 : Int) ≤ (l.length : Int) by omega), Int.toNat_natCast, if_pos (show l.length ≤ 281474976710656 by omega)]
  exact toByteS_l l hl _ 0 _ (by omega) rfl (by simp) (by simp)
/-- eqByteS of a list and itself. -/
theorem eqByteS_l (l : List Int) (hl : l.length ≤ 9223372036854775806) (d : Nat) : ∀ (i : Nat), i ≤ l.length → l.length - i = d → Ev (fun k => laws_eqByteS.l0 k l l (i : Int)) true := by
  induction d with
  | zero =>
    intro i hi hd
    refine Ev.succ ?_
    simp only [laws_eqByteS.l0]
    simp only [if_neg (show ¬ (i : Int) < (l.length : Int) by omega)]
    exact Ev.now true
  | succ d ih =>
    intro i hi hd
    refine Ev.succ ?_
    simp only [laws_eqByteS.l0]
    simp only [if_pos (show (i : Int) < (l.length : Int) by omega), if_pos (show (0 : Int) ≤ (i : Int) by omega), if_true]
    rw [wrap_id (by omega) (by omega)]
    exact ih (i + 1) (by omega) (by omega)
theorem eqByteS (l : List Int) (hl : l.length ≤ 9223372036854775806) : Ev (fun k => laws_eqByteS.f k l l) true := by
  unfold laws_eqByteS.f
  simp only [if_true]
  exact eqByteS_l l hl _ 0 (by omega) rfl
/-- What markByteS leaves. -/
def markB : Nat → Int → List Int
  | 0, _ => []
  | n + 1, m => m % 256 :: markB n (m + 1)
theorem markB_length (n : Nat) (m : Int) : (markB n m).length = n := by
  induction n generalizing m with
  | zero => rfl
  | succ n ih => simp [markB, ih]
theorem markB_get (n : Nat) (m : Int) (i : Nat) (h : i < (markB n m).length) : (markB n m)[i] = (m + i) % 256 := by
  induction n generalizing m i with
  | zero => simp [markB] at h
  | succ n ih =>
    cases i with
    | zero => simp [markB]
    | succ i => simp only [markB, List.getElem_cons_succ]; rw [ih]; congr 1; push_cast; omega
theorem markByteS_l (n : Nat) (m : Int) (h0 : 0 ≤ m) (h1 : m + n ≤ 4611686018427387904) (d : Nat) : ∀ (i : Nat) (x : List Int), i ≤ n → n - i = d → x.length = n → x.take i = (markB n m).take i →
    Ev (fun k => laws_markByteS.l0 k x (m + i) (i : Int)) (m + n, markB n m) := by
  have hM := markB_length n m
  induction d with
  | zero =>
    intro i x hi hd hx ht
    have hil : i = n := by omega
    subst hil
    refine Ev.succ ?_
    simp only [laws_markByteS.l0]
    simp only [if_neg (show ¬ (i : Int) < (x.length : Int) by omega)]
    have : x = markB i m := by rw [List.take_of_length_le (by omega), List.take_of_length_le (by omega)] at ht; exact ht
    rw [this]; exact Ev.now _
  | succ d ih =>
    intro i x hi hd hx ht
    refine Ev.succ ?_
    simp only [laws_markByteS.l0]
    simp only [if_pos (show (i : Int) < (x.length : Int) by omega), if_pos (show (0 : Int) ≤ (i : Int) by omega)]
    rw [wrap_id (by omega) (by omega), wrap_id (by omega) (by omega), Int.toNat_natCast]
    have := ih (i + 1) (x.set i ((m + i) % 256)) (by omega) (by omega) (by simpa using hx) (by
      rw [take_set_succ _ _ _ (by omega), ht, List.take_succ_eq_append_getElem (by omega), markB_get])
    rw [show (m + ((i + 1 : Nat) : Int)) = m + i + 1 by push_cast; omega] at this
    exact this
theorem markByteS (l : List Int) (m : Int) (h0 : 0 ≤ m) (h1 : m + l.length ≤ 4611686018427387904) : Ev (fun k => laws_markByteS.f k l m) (m + l.length, markB l.length m) := by
  unfold laws_markByteS.f
  have := markByteS_l l.length m h0 h1 _ 0 l (by omega) rfl rfl (by simp)
  simpa using this
theorem heldByteS_l (n : Nat) (m : Int) (h0 : 0 ≤ m) (h1 : m + n ≤ 4611686018427387904) (d : Nat) : ∀ (i : Nat), i ≤ n → n - i = d → Ev (fun k => laws_heldByteS.l0 k (markB n m) (m + i) (i : Int)) (m + n) := by
  have hM := markB_length n m
  induction d with
  | zero =>
    intro i hi hd
    have hil : i = n := by omega
    subst hil
    refine Ev.succ ?_
    simp only [laws_heldByteS.l0]
    simp only [if_neg (show ¬ (i : Int) < ((markB i m).length : Int) by omega)]
    exact Ev.now _
  | succ d ih =>
    intro i hi hd
    refine Ev.succ ?_
    simp only [laws_heldByteS.l0]
    rw [rd_get _ i (by omega), markB_get]
    simp only [if_pos (show (i : Int) < ((markB n m).length : Int) by omega), if_pos (show (0 : Int) ≤ (i : Int) by omega), if_true]
    rw [wrap_id (by omega) (by omega), wrap_id (by omega) (by omega)]
    have := ih (i + 1) (by omega) (by omega)
    rw [show (m + ((i + 1 : Nat) : Int)) = m + i + 1 by push_cast; omega] at this
    exact this
theorem heldByteS (n : Nat) (m : Int) (h0 : 0 ≤ m) (h1 : m + n ≤ 4611686018427387904) : Ev (fun k => laws_heldByteS.f k (markB n m) m) (m + n) := by
  unfold laws_heldByteS.f
  have := heldByteS_l n m h0 h1 _ 0 (by omega) rfl
  simpa using this
theorem szByteS (l : List Int) (m : Int) (h : l.length ≤ 9223372036854775807) (h0 : 0 ≤ m) (h1 : m ≤ 1048576) : laws_szByteS.f l m = some (if m - l.length < 0 then -1 else m - l.length) := by
  unfold laws_szByteS.f
  rw [wrap_id (by omega) (by omega)]
  split <;> rfl


theorem rdR (l : List S86) (i : Nat) (h : i < l.length) : rd_T86 l (i : Int) = l[i] := by
  unfold rd_T86
  rw [Int.toNat_natCast, List.getD_eq_getElem?_getD, List.getElem?_eq_getElem h]; rfl

/-! rows of ranges: what the test makes, compares, marks and finds held -/
theorem rdR' (l : List S103) (i : Nat) (h : i < l.length) : rd_T103 l (i : Int) = l[i] := by
  unfold rd_T103
  rw [Int.toNat_natCast, List.getD_eq_getElem?_getD, List.getElem?_eq_getElem h]; rfl
def toR (x : S103) : S86 := ⟨x.f0, x.f1⟩
theorem toRangeS_l (l : List S103) (hl : l.length ≤ 1048576) (n : Nat) : ∀ (i : Nat) (x : List S86), i + n = l.length → x.length = l.length →
    ∃ y, Ev (fun k => laws_toRangeS.l0 k l x (i : Int)) y ∧ y.take i = x.take i ∧ y.drop i = (l.drop i).map toR := by
  induction n with
  | zero =>
    intro i x hi hx
    refine ⟨x, Ev.succ ?_, rfl, ?_⟩
    · simp only [laws_toRangeS.l0, if_neg (show ¬ (i : Int) < (l.length : Int) by omega)]
      exact Ev.now _
    · rw [List.drop_of_length_le (by omega), List.drop_of_length_le (by omega)]; rfl
  | succ n ih =>
    intro i x hi hx
    have hb : i < l.length := by omega
    obtain ⟨y, e, h1, h2⟩ := ih (i + 1) (x.set i (toR l[i])) (by omega) (by simp [hx])
    refine ⟨y, Ev.succ ?_, ?_, ?_⟩
    · simp only [laws_toRangeS.l0, if_pos (show (i : Int) < (l.length : Int) by omega), if_pos (show (0 : Int) ≤ (i : Int) by omega), laws_toRange.f, Option.bind_some, if_pos (show (i : Int) < (x.length : Int) by omega), Int.toNat_natCast, rdR' l i hb]
      rw [wrap_id (x := (i : Int) + 1) (by omega) (by omega)]
      exact e
    · have := congrArg (List.take i) h1
      rw [List.take_take, List.take_take, Nat.min_eq_left (by omega), List.take_set, List.set_eq_of_length_le (by simp; omega)] at this
      exact this
    · have h3 : i < y.length := by
        have := congrArg List.length h1
        simp [hx] at this; omega
      rw [List.drop_eq_getElem_cons h3, List.drop_eq_getElem_cons hb, List.map_cons, h2]
      congr 1
      have := congrArg (fun z => z[i]?) h1
      simp only [List.getElem?_take_of_lt (Nat.lt_succ_self i), List.getElem?_eq_getElem h3] at this
      rw [List.getElem?_set_self (by omega)] at this
      exact Option.some.inj this
theorem toRangeS (l : List S103) (hl : l.length ≤ 1048576) : Ev (fun k => laws_toRangeS.f k l) (l.map toR) := by
  unfold laws_toRangeS.f
  simp only [if_pos (show (0 : Int) ≤ (l.length : Int) by omega), Int.toNat_natCast, if_pos (show l.length ≤ 17592186044416 by omega)]
  obtain ⟨y, e, _, h2⟩ := toRangeS_l l hl l.length 0 (List.replicate l.length z86) (by omega) (by simp)
  rw [List.drop_zero, List.drop_zero] at h2
  rw [← h2]
  exact e
theorem eqRangeS_l (l : List S86) (hl : l.length ≤ 9223372036854775806) (n : Nat) : ∀ i : Nat, i + n = l.length → Ev (fun k => laws_eqRangeS.l0 k l l (i : Int)) true := by
  induction n with
  | zero =>
    intro i hi
    refine Ev.succ ?_
    simp only [laws_eqRangeS.l0, if_neg (show ¬ (i : Int) < (l.length : Int) by omega)]
    exact Ev.now _
  | succ n ih =>
    intro i hi
    have h1 := ih (i + 1) (by omega)
    refine Ev.succ ?_
    simp only [laws_eqRangeS.l0, if_pos (show (i : Int) < (l.length : Int) by omega), if_pos (show (0 : Int) ≤ (i : Int) by omega), laws_eqRange.f, if_true, Option.bind_some]
    rw [wrap_id (x := (i : Int) + 1) (by omega) (by omega)]
    exact h1
theorem eqRangeS (l : List S86) (hl : l.length ≤ 9223372036854775806) : Ev (fun k => laws_eqRangeS.f k l l) true := by
  unfold laws_eqRangeS.f; simp only [if_true]; exact eqRangeS_l l hl l.length 0 (by omega)
/-- what marking leaves in a row of n -/
def markR (n : Nat) (m : Int) : List S86 := (List.range n).map fun i : Nat => ⟨m + 2 * (i : Int), m + 2 * (i : Int) + 1⟩
theorem markR_length (n : Nat) (m : Int) : (markR n m).length = n := by simp [markR]
theorem markR_get (n : Nat) (m : Int) (i : Nat) (h : i < (markR n m).length) : (markR n m)[i] = ⟨m + 2 * i, m + 2 * i + 1⟩ := by simp [markR]
theorem markRangeS_l (n : Nat) (m : Int) (h0 : 0 ≤ m) (h1 : m + 2 * n ≤ 4611686018427387904) (d : Nat) : ∀ (i : Nat) (x : List S86), i ≤ n → n - i = d → x.length = n → x.take i = (markR n m).take i →
    Ev (fun k => laws_markRangeS.l0 k x (m + 2 * i) (i : Int)) (m + 2 * n, markR n m) := by
  have hM := markR_length n m
  induction d with
  | zero =>
    intro i x hi hd hx ht
    have hil : i = n := by omega
    subst hil
    refine Ev.succ ?_
    simp only [laws_markRangeS.l0]
    simp only [if_neg (show ¬ (i : Int) < (x.length : Int) by omega)]
    have : x = markR i m := by rw [List.take_of_length_le (by omega), List.take_of_length_le (by omega)] at ht; exact ht
    rw [this]; exact Ev.now _
  | succ d ih =>
    intro i x hi hd hx ht
    refine Ev.succ ?_
    simp only [laws_markRangeS.l0]
    simp only [if_pos (show (i : Int) < (x.length : Int) by omega), if_pos (show (0 : Int) ≤ (i : Int) by omega), Option.bind_some, Int.toNat_natCast]
    rw [rdR x i (by omega), rdR (x.set i ⟨m + 2 * (i : Int), (x[i]'(by omega)).f1⟩) i (by rw [List.length_set]; omega)]
    simp only [List.getElem_set_self, List.set_set]
    rw [wrap_id (x := (i : Int) + 1) (by omega) (by omega), wrap_id (x := m + 2 * (i : Int) + 1) (by omega) (by omega), wrap_id (x := m + 2 * (i : Int) + 1 + 1) (by omega) (by omega)]
    have := ih (i + 1) (x.set i ⟨m + 2 * i, m + 2 * i + 1⟩) (by omega) (by omega) (by simpa using hx) (by
      rw [take_set_succ _ _ _ (by omega), ht, List.take_succ_eq_append_getElem (by omega), markR_get])
    rw [show (m + 2 * ((i + 1 : Nat) : Int)) = m + 2 * i + 1 + 1 by push_cast; omega] at this
    exact this
theorem markRangeS (l : List S86) (m : Int) (h0 : 0 ≤ m) (h1 : m + 2 * l.length ≤ 4611686018427387904) : Ev (fun k => laws_markRangeS.f k l m) (m + 2 * l.length, markR l.length m) := by
  unfold laws_markRangeS.f
  have := markRangeS_l l.length m h0 h1 _ 0 l (by omega) rfl rfl (by simp)
  simpa using this
theorem heldRangeS_l (n : Nat) (m : Int) (h0 : 0 ≤ m) (h1 : m + 2 * n ≤ 4611686018427387904) (d : Nat) : ∀ (i : Nat), i ≤ n → n - i = d → Ev (fun k => laws_heldRangeS.l0 k (markR n m) (m + 2 * i) (i : Int)) (m + 2 * n) := by
  have hM := markR_length n m
  induction d with
  | zero =>
    intro i hi hd
    have hil : i = n := by omega
    subst hil
    refine Ev.succ ?_
    simp only [laws_heldRangeS.l0]
    simp only [if_neg (show ¬ (i : Int) < ((markR i m).length : Int) by omega)]
    exact Ev.now _
  | succ d ih =>
    intro i hi hd
    refine Ev.succ ?_
    simp only [laws_heldRangeS.l0]
    rw [rdR _ i (by omega), markR_get]
    simp only [if_pos (show (i : Int) < ((markR n m).length : Int) by omega), if_pos (show (0 : Int) ≤ (i : Int) by omega), if_true]
    rw [wrap_id (x := (i : Int) + 1) (by omega) (by omega), wrap_id (x := m + 2 * (i : Int) + 1) (by omega) (by omega), wrap_id (x := m + 2 * (i : Int) + 1 + 1) (by omega) (by omega)]
    simp only [if_true]
    have := ih (i + 1) (by omega) (by omega)
    rw [show (m + 2 * ((i + 1 : Nat) : Int)) = m + 2 * i + 1 + 1 by push_cast; omega] at this
    exact this
theorem heldRangeS (n : Nat) (m : Int) (h0 : 0 ≤ m) (h1 : m + 2 * n ≤ 4611686018427387904) : Ev (fun k => laws_heldRangeS.f k (markR n m) m) (m + 2 * n) := by
  unfold laws_heldRangeS.f
  have := heldRangeS_l n m h0 h1 _ 0 (by omega) rfl
  simpa using this
theorem szRangeS (l : List S103) (m : Int) (h : l.length ≤ 9223372036854775807) (h0 : 0 ≤ m) (h1 : m ≤ 1048576) : laws_szRangeS.f l m = some (if m - l.length < 0 then -1 else m - l.length) := by
  unfold laws_szRangeS.f
  rw [wrap_id (by omega) (by omega)]
  split <;> rfl

/-! MouthOk: the ranges are told in order, apart, within what was sent -/
def rngAt (lo s : Int) (l : List S86) (i : Nat) : Bool := decide (lo < (rd_T86 l (i : Int)).f0) && decide ((rd_T86 l (i : Int)).f0 < (rd_T86 l (i : Int)).f1) && decide ((rd_T86 l (i : Int)).f1 ≤ s) && (i == 0 || decide ((rd_T86 l ((i : Int) - 1)).f1 < (rd_T86 l (i : Int)).f0))
def rngFrom (lo s : Int) (l : List S86) : Nat → Nat → Bool
  | 0, _ => true
  | d + 1, i => rngAt lo s l i && rngFrom lo s l d (i + 1)
def mouthOk (h : Int) (g : List Int) (s r : Int) (l : List S86) : Bool := decide (0 ≤ h) && decide (h ≤ 1000000) && decide ((g.length : Int) ≤ 32) && decide (0 ≤ s) && decide (s ≤ (g.length : Int)) && decide (0 ≤ r) && decide (r ≤ 255) && decide ((l.length : Int) ≤ 2) && rngFrom h (h + s) l l.length 0
theorem spec_mouthOk_l (h : Int) (g : List Int) (s r : Int) (l : List S86) (h0 : 0 ≤ h) (h1 : h ≤ 1000000) (s0 : 0 ≤ s) (s1 : s ≤ 32) (hl : (l.length : Int) ≤ 2) (d : Nat) :
    ∀ i : Nat, i + d = l.length → Ev (fun k => spec_MouthOk.l0 k (i : Int) h g s r l) (rngFrom h (h + s) l d i) := by
  induction d with
  | zero =>
    intro i hi
    refine Ev.step (fun k => spec_MouthOk.l0.eq_2 _ _ _ _ _ _ k) ?_
    simp only [if_neg (show ¬ (i : Int) < (l.length : Int) by omega), rngFrom]
    exact Ev.now _
  | succ d ih =>
    intro i hi
    have ih := ih (i + 1) (by omega)
    have a1 : (i : Int) < (l.length : Int) := by omega
    have a2 : (0 : Int) ≤ (i : Int) := by omega
    have j2 : ∀ b, Ev (fun k => spec_MouthOk.j2 k (i : Int) b h g s r l) (!b && rngFrom h (h + s) l d (i + 1)) := by
      intro b
      refine Ev.step (fun k => spec_MouthOk.j2.eq_2 _ _ _ _ _ _ _ k) ?_
      cases b with
      | true => simp only [if_true]; exact Ev.now _
      | false =>
        simp only [Bool.false_eq_true, if_false]
        rw [wrap_id (x := (i : Int) + 1) (by omega) (by omega)]
        exact ih
    refine Ev.step (fun k => spec_MouthOk.l0.eq_2 _ _ _ _ _ _ k) ?_
    simp only [if_pos a1, if_pos a2]
    rw [wrap_id (x := h + s) (by omega) (by omega)]
    simp only [rngFrom, rngAt]
    generalize rd_T86 l (i : Int) = e
    by_cases c1 : e.f0 ≤ h
    · have a6 : decide (h < e.f0) = false := decide_eq_false (by omega)
      simp only [if_pos c1, a6, Bool.false_and]
      exact j2 true
    · have a6 : decide (h < e.f0) = true := decide_eq_true (by omega)
      by_cases c2 : e.f1 ≤ e.f0
      · have a7 : decide (e.f0 < e.f1) = false := decide_eq_false (by omega)
        simp only [if_neg c1, if_pos c2, a7, Bool.and_false, Bool.false_and]
        exact j2 true
      · have a7 : decide (e.f0 < e.f1) = true := decide_eq_true (by omega)
        by_cases c4 : e.f1 > h + s
        · have a8 : decide (e.f1 ≤ h + s) = false := decide_eq_false (by omega)
          simp only [if_neg c1, if_neg c2, if_pos c4, a8, Bool.and_false, Bool.false_and]
          exact j2 true
        · have a8 : decide (e.f1 ≤ h + s) = true := decide_eq_true (by omega)
          by_cases c3 : (i : Int) > 0
          · have a3 : 0 ≤ (i : Int) - 1 := by omega
            have a4 : (i : Int) - 1 < (l.length : Int) := by omega
            have a5 : (i == 0) = false := by rw [beq_eq_false_iff_ne]; omega
            rw [wrap_id (x := (i : Int) - 1) (by omega) (by omega)]
            simp only [if_neg c1, if_neg c2, if_neg c4, if_pos c3, if_pos a3, if_pos a4, a5, a6, a7, a8, Bool.true_and, Bool.false_or]
            have := j2 (decide ((rd_T86 l ((i : Int) - 1)).f1 ≥ e.f0))
            rw [show (!decide ((rd_T86 l ((i : Int) - 1)).f1 ≥ e.f0)) = decide ((rd_T86 l ((i : Int) - 1)).f1 < e.f0) by rw [Bool.eq_iff_iff]; simp] at this
            exact this
          · have a5 : (i == 0) = true := by rw [beq_iff_eq]; omega
            simp only [if_neg c1, if_neg c2, if_neg c3, if_neg c4, a5, a6, a7, a8, Bool.true_and, Bool.true_or]
            exact j2 false
theorem spec_mouthOk (h : Int) (g : List Int) (s r : Int) (l : List S86) : Ev (fun k => spec_MouthOk.f k h g s r l) (mouthOk h g s r l) := by
  have j0 : ∀ b, (b = false → (0 ≤ h ∧ h ≤ 1000000 ∧ 0 ≤ s ∧ s ≤ 32 ∧ (l.length : Int) ≤ 2)) → Ev (fun k => spec_MouthOk.j0 k b h g s r l) (!b && rngFrom h (h + s) l l.length 0) := by
    intro b hb
    refine Ev.step (fun k => spec_MouthOk.j0.eq_2 _ _ _ _ _ _ k) ?_
    cases b with
    | true => simp only [if_true]; exact Ev.now _
    | false =>
      obtain ⟨b1, b2, b3, b4, b5⟩ := hb rfl
      simp only [Bool.false_eq_true, if_false]
      exact spec_mouthOk_l h g s r l b1 b2 b3 b4 b5 l.length 0 (by omega)
  have jt := j0 true (by intro hh; cases hh)
  simp only [Bool.not_true, Bool.false_and] at jt
  unfold spec_MouthOk.f mouthOk
  simp only [spec_l1In.f]
  by_cases c1 : h ≥ 0
  · simp only [if_pos c1, Option.bind_some]
    by_cases c2 : h ≤ 1000000
    · simp only [decide_eq_true c2, if_true]
      by_cases c3 : (g.length : Int) > 32
      · simpa [show ¬ (g.length : Int) ≤ 32 by omega, show (32 : Int) < (g.length : Int) from c3] using jt
      · simp only [if_neg c3]
        by_cases c4 : s ≥ 0
        · simp only [if_pos c4, Option.bind_some]
          by_cases c5 : s ≤ (g.length : Int)
          · simp only [decide_eq_true c5, if_true]
            by_cases c6 : r ≥ 0
            · simp only [if_pos c6, Option.bind_some]
              by_cases c7 : r ≤ 255
              · simp only [decide_eq_true c7, if_true]
                have := j0 (decide ((l.length : Int) > 2)) (by intro hh; have := of_decide_eq_false hh; omega)
                rw [show (!decide ((l.length : Int) > 2)) = decide ((l.length : Int) ≤ 2) by rw [Bool.eq_iff_iff]; simp] at this
                simpa [show 0 ≤ h from c1, show 0 ≤ s from c4, show 0 ≤ r from c6, show (g.length : Int) ≤ 32 by omega] using this
              · simpa [c7] using jt
            · simpa [c6, show ¬ 0 ≤ r from c6] using jt
          · simpa [c5] using jt
        · simpa [c4, show ¬ 0 ≤ s from c4] using jt
    · simpa [c2] using jt
  · simpa [c1, show ¬ 0 ≤ h from c1] using jt

/-- the first ranges, at most c, that lie in order behind lo, apart, and not beyond s -/
def rngTake (s : Int) : List S86 → Nat → Int → List S86
  | [], _, _ => []
  | x :: t, c, lo => if lo < x.f0 ∧ x.f0 < x.f1 ∧ x.f1 ≤ s ∧ 0 < c then x :: rngTake s t (c - 1) x.f1 else rngTake s t c lo
theorem rngTake_le (s : Int) (l : List S86) : ∀ c lo, (rngTake s l c lo).length ≤ l.length ∧ (rngTake s l c lo).length ≤ c := by
  induction l with
  | nil => intro c lo; exact ⟨Nat.le_refl _, Nat.zero_le _⟩
  | cons x t ih =>
    intro c lo
    unfold rngTake
    split
    · rename_i h; have := ih (c - 1) x.f1; simp only [List.length_cons]; omega
    · have := ih c lo; simp only [List.length_cons]; omega
theorem rngTake_yes {s : Int} {x : S86} {t : List S86} {c : Nat} {lo : Int} (h : lo < x.f0 ∧ x.f0 < x.f1 ∧ x.f1 ≤ s ∧ 0 < c) : rngTake s (x :: t) c lo = x :: rngTake s t (c - 1) x.f1 := if_pos h
theorem rngTake_no {s : Int} {x : S86} {t : List S86} {c : Nat} {lo : Int} (h : ¬ (lo < x.f0 ∧ x.f0 < x.f1 ∧ x.f1 ≤ s ∧ 0 < c)) : rngTake s (x :: t) c lo = rngTake s t c lo := if_neg h

/-! the program's MouthOk: the ranges are made right and compared -/
def rngOk (lo s : Int) : List S86 → Bool
  | [] => true
  | x :: t => (decide (lo < x.f0) && decide (x.f0 < x.f1) && decide (x.f1 ≤ s)) && rngOk x.f1 s t
theorem rngTake_eq (s : Int) (l : List S86) : ∀ c lo, l.length ≤ c → (rngTake s l c lo = l ↔ rngOk lo s l = true) := by
  induction l with
  | nil => intro c lo _; simp [rngTake, rngOk]
  | cons x t ih =>
    intro c lo hc
    rw [List.length_cons] at hc
    unfold rngTake rngOk
    by_cases d : lo < x.f0 ∧ x.f0 < x.f1 ∧ x.f1 ≤ s
    · rw [if_pos ⟨d.1, d.2.1, d.2.2, by omega⟩, decide_eq_true d.1, decide_eq_true d.2.1, decide_eq_true d.2.2, Bool.true_and, Bool.true_and, Bool.true_and]
      constructor
      · intro h; exact (ih _ x.f1 (by omega)).1 (List.cons.inj h).2
      · intro h; rw [(ih _ x.f1 (by omega)).2 h]
    · rw [if_neg (fun h => d ⟨h.1, h.2.1, h.2.2.1⟩)]
      have := rngTake_le s t c lo
      constructor
      · intro h; have h2 := congrArg List.length h; simp only [List.length_cons] at h2; omega
      · intro h
        simp only [Bool.and_eq_true, decide_eq_true_eq] at h
        exact absurd ⟨h.1.1.1, h.1.1.2, h.1.2⟩ d
theorem rngFrom_eq (h s : Int) (l : List S86) (d : Nat) : ∀ (i : Nat) (lo : Int), i + d = l.length → h ≤ lo → ((i = 0 ∧ lo = h) ∨ (0 < i ∧ (rd_T86 l ((i : Int) - 1)).f1 = lo)) → rngFrom h s l d i = rngOk lo s (l.drop i) := by
  induction d with
  | zero => intro i lo hi _ _; rw [List.drop_of_length_le (by omega)]; rfl
  | succ d ih =>
    intro i lo hi hlo hc
    have hb : i < l.length := by omega
    rw [List.drop_eq_getElem_cons hb]
    unfold rngFrom rngOk rngAt
    rw [rdR l i hb]
    have ih := ih (i + 1) l[i].f1 (by omega)
    by_cases c1 : lo < l[i].f0
    · by_cases c2 : l[i].f0 < l[i].f1
      · rw [ih (by omega) (Or.inr ⟨by omega, by rw [show ((i + 1 : Nat) : Int) - 1 = (i : Int) by omega, rdR l i hb]⟩)]
        congr 1
        have a5 : (i == 0 || decide ((rd_T86 l ((i : Int) - 1)).f1 < l[i].f0)) = true := by
          rcases hc with ⟨e, _⟩ | ⟨_, e⟩
          · simp [e]
          · rw [e]; simp [c1]
        rw [a5, decide_eq_true (show h < l[i].f0 by omega), decide_eq_true c1, Bool.and_true]
      · rw [decide_eq_false c2]; simp
    · rw [decide_eq_false c1, Bool.false_and, Bool.false_and, Bool.false_and]
      rcases hc with ⟨e, e2⟩ | ⟨e, e2⟩
      · subst e2; rw [decide_eq_false c1]; simp
      · rw [e2, decide_eq_false c1, show (i == 0) = false by rw [beq_eq_false_iff_ne]; omega]; simp
theorem impl_eqR_l (a b : List S86) (ha : a.length ≤ 1099511627776) (hab : a.length = b.length) (d : Nat) : ∀ i : Nat, i + d = a.length →
    ∃ v, Ev (fun k => impl_Range_63.l0 k a b (a.length : Int) (i : Int)) v ∧ (v = true ↔ a.drop i = b.drop i) := by
  induction d with
  | zero =>
    intro i hi
    refine ⟨true, Ev.succ ?_, ?_⟩
    · simp only [impl_Range_63.l0, if_neg (show ¬ (i : Int) < (a.length : Int) by omega)]; exact Ev.now _
    · rw [List.drop_of_length_le (by omega), List.drop_of_length_le (by omega)]; simp
  | succ d ih =>
    intro i hi
    have h1 : i < a.length := by omega
    have h2 : i < b.length := by omega
    obtain ⟨v, e, hv⟩ := ih (i + 1) (by omega)
    by_cases c : a[i].f0 = b[i].f0 ∧ a[i].f1 = b[i].f1
    · refine ⟨v, Ev.succ ?_, ?_⟩
      · simp only [impl_Range_63.l0, if_pos (show (i : Int) < (a.length : Int) by omega), if_pos (show (0 : Int) ≤ (i : Int) by omega), if_pos (show (i : Int) < (b.length : Int) by omega), rdR a i h1, rdR b i h2, c.1, c.2, BEq.rfl, Bool.not_true, Bool.or_false, Bool.false_eq_true, if_false]
        rw [wrap_id (x := (i : Int) + 1) (by omega) (by omega)]
        exact e
      · rw [hv, List.drop_eq_getElem_cons h1, List.drop_eq_getElem_cons h2]
        have : a[i] = b[i] := by
          cases ha : a[i] with | mk p q => cases hb : b[i] with | mk p' q' => rw [ha, hb] at c; obtain ⟨c1, c2⟩ := c; cases c1; cases c2; rfl
        rw [this, List.cons.injEq]; simp
    · refine ⟨false, Ev.succ ?_, ?_⟩
      · have : (!(a[i].f0 == b[i].f0) || !(a[i].f1 == b[i].f1)) = true := by
          rw [Bool.or_eq_true, Bool.not_eq_true', Bool.not_eq_true', beq_eq_false_iff_ne, beq_eq_false_iff_ne]
          by_cases c1 : a[i].f0 = b[i].f0
          · exact Or.inr (fun c2 => c ⟨c1, c2⟩)
          · exact Or.inl c1
        simp only [impl_Range_63.l0, if_pos (show (i : Int) < (a.length : Int) by omega), if_pos (show (0 : Int) ≤ (i : Int) by omega), if_pos (show (i : Int) < (b.length : Int) by omega), rdR a i h1, rdR b i h2, this, if_true]
        exact Ev.now _
      · rw [List.drop_eq_getElem_cons h1, List.drop_eq_getElem_cons h2, List.cons.injEq]
        constructor
        · intro h; cases h
        · intro h; exact absurd ⟨by rw [h.1], by rw [h.1]⟩ c
theorem impl_eqR (a b : List S86) (ha : a.length ≤ 1099511627776) : ∃ v, Ev (fun k => impl_Range_63.f k a b) v ∧ (v = true ↔ a = b) := by
  unfold impl_Range_63.f
  by_cases c : a.length = b.length
  · obtain ⟨v, e, h⟩ := impl_eqR_l a b ha c a.length 0 (by omega)
    refine ⟨v, ?_, by simpa using h⟩
    simp only [if_pos (show (a.length : Int) = (b.length : Int) by omega)]
    exact e
  · refine ⟨false, ?_, ?_⟩
    · simp only [if_neg (show ¬ (a.length : Int) = (b.length : Int) by omega)]; exact Ev.now _
    · constructor
      · intro h; cases h
      · intro h; rw [h] at c; exact absurd rfl c
theorem impl_rangesOk_l (s : Int) (l : List S86) (hl : l.length ≤ 1099511627776) (d : Nat) : ∀ (i : Nat) (acc : List S86) (lo : Int), i + d = l.length → acc.length ≤ 2 →
    Ev (fun k => impl_rangesOk.l0 k s acc lo l (l.length : Int) (i : Int)) (acc ++ rngTake s (l.drop i) (2 - acc.length) lo) := by
  induction d with
  | zero =>
    intro i acc lo hi ha
    refine Ev.step (fun k => impl_rangesOk.l0.eq_2 _ _ _ _ _ _ k) ?_
    rw [List.drop_of_length_le (by omega)]
    have h1 : acc.length * 16 ≤ 140737488355328 := by omega
    simp only [if_neg (show ¬ (i : Int) < (l.length : Int) by omega), impl_Range_79.f, if_pos h1, Option.bind_some, rngTake, List.append_nil]
    exact Ev.now _
  | succ d ih =>
    intro i acc lo hi ha
    have hb : i < l.length := by omega
    have j1 : ∀ b : Bool, (b = true → acc.length < 2) → Ev (fun k => impl_rangesOk.j1 k s acc lo l (l.length : Int) (i : Int) b l[i].f0 l[i].f1) (if b = true then acc ++ (l[i] :: rngTake s (l.drop (i + 1)) (2 - acc.length - 1) l[i].f1) else acc ++ rngTake s (l.drop (i + 1)) (2 - acc.length) lo) := by
      intro b hb2
      refine Ev.step (fun k => impl_rangesOk.j1.eq_2 _ _ _ _ _ _ _ _ _ k) ?_
      rw [wrap_id (x := (i : Int) + 1) (by omega) (by omega)]
      cases b with
      | true =>
        have hb2 := hb2 rfl
        simp only [if_true, if_pos (show acc.length < 8796093022208 by omega)]
        have := ih (i + 1) (acc ++ [l[i]]) l[i].f1 (by omega) (by simp; omega)
        rw [List.append_assoc, show 2 - (acc ++ [l[i]]).length = 2 - acc.length - 1 by rw [List.length_append, List.length_singleton]; omega] at this
        exact this
      | false =>
        simp only [Bool.false_eq_true, if_false]
        exact ih (i + 1) acc lo (by omega) (by omega)
    refine Ev.step (fun k => impl_rangesOk.l0.eq_2 _ _ _ _ _ _ k) ?_
    simp only [if_pos (show (i : Int) < (l.length : Int) by omega), if_pos (show (0 : Int) ≤ (i : Int) by omega), rdR l i hb]
    rw [List.drop_eq_getElem_cons hb]
    unfold rngTake
    by_cases c1 : l[i].f0 > lo
    · by_cases c2 : l[i].f1 > l[i].f0
      · by_cases c3 : l[i].f1 ≤ s
        · by_cases c4 : acc.length < 2
          · rw [if_pos ⟨c1, c2, c3, by omega⟩]
            simp only [if_pos c1, if_pos c2, if_pos c3, decide_eq_true (show (acc.length : Int) < 2 by omega)]
            exact j1 true (fun _ => c4)
          · rw [if_neg (fun h => by omega)]
            simp only [if_pos c1, if_pos c2, if_pos c3, decide_eq_false (show ¬ (acc.length : Int) < 2 by omega)]
            exact j1 false (by intro h; cases h)
        · rw [if_neg (fun h => c3 h.2.2.1)]
          simp only [if_pos c1, if_pos c2, if_neg c3]
          exact j1 false (by intro h; cases h)
      · rw [if_neg (fun h => c2 h.2.1)]
        simp only [if_pos c1, if_neg c2]
        exact j1 false (by intro h; cases h)
    · rw [if_neg (fun h => c1 h.1)]
      simp only [if_neg c1]
      exact j1 false (by intro h; cases h)
theorem impl_mouthOk (h : Int) (g : List Int) (s r : Int) (l : List S86) : Ev (fun k => impl_MouthOk.f k h g s r l) (mouthOk h g s r l) := by
  unfold impl_MouthOk.f mouthOk
  simp only [impl_in.f]
  by_cases c1 : h ≥ 0
  · simp only [if_pos c1, Option.bind_some]
    by_cases c2 : h ≤ 1000000
    · simp only [decide_eq_true c2, if_true]
      by_cases c3 : (g.length : Int) ≤ 32
      · simp only [if_pos c3]
        by_cases c4 : s ≥ 0
        · simp only [if_pos c4, Option.bind_some]
          by_cases c5 : s ≤ (g.length : Int)
          · simp only [decide_eq_true c5, if_true]
            by_cases c6 : r ≥ 0
            · simp only [if_pos c6, Option.bind_some]
              by_cases c7 : r ≤ 255
              · simp only [decide_eq_true c7, if_true]
                by_cases c8 : (l.length : Int) ≤ 2
                · simp only [if_pos c8]
                  rw [wrap_id (x := h + s) (by omega) (by omega)]
                  have e1 := impl_rangesOk_l (h + s) l (by omega) l.length 0 [] h (by omega) (by simp)
                  rw [List.drop_zero, List.nil_append, List.length_nil] at e1
                  have hk := rngTake_le (h + s) l (2 - 0) h
                  obtain ⟨v, e2, hv⟩ := impl_eqR (rngTake (h + s) l (2 - 0) h) l (by omega)
                  have hv2 : v = rngFrom h (h + s) l l.length 0 := by
                    rw [rngFrom_eq h (h + s) l l.length 0 h (by omega) (by omega) (Or.inl ⟨rfl, rfl⟩), List.drop_zero, Bool.eq_iff_iff, hv, rngTake_eq _ _ _ _ (by omega)]
                  rw [hv2] at e2
                  rw [decide_eq_true c3, decide_eq_true (show 0 ≤ h from c1), decide_eq_true (show 0 ≤ s from c4), decide_eq_true (show 0 ≤ r from c6), decide_eq_true c8]
                  simp only [Bool.true_and]
                  exact Ev.bind e1 (Ev.bind e2 (Ev.now _))
                · simp only [if_neg c8, decide_eq_false c8, Bool.and_false, Bool.false_and]
                  exact Ev.now _
              · simp only [decide_eq_false c7, Bool.false_eq_true, if_false, Bool.and_false, Bool.false_and]
                exact Ev.now _
            · simp only [if_neg c6, decide_eq_false (show ¬ 0 ≤ r from c6), Option.bind_some, Bool.false_eq_true, if_false, Bool.and_false, Bool.false_and]
              exact Ev.now _
          · simp only [decide_eq_false c5, Bool.false_eq_true, if_false, Bool.and_false, Bool.false_and]
            exact Ev.now _
        · simp only [if_neg c4, decide_eq_false (show ¬ 0 ≤ s from c4), Option.bind_some, Bool.false_eq_true, if_false, Bool.and_false, Bool.false_and]
          exact Ev.now _
      · simp only [if_neg c3, decide_eq_false c3, Bool.and_false, Bool.false_and]
        exact Ev.now _
    · simp only [decide_eq_false c2, Bool.false_eq_true, if_false, Bool.and_false, Bool.false_and]
      exact Ev.now _
  · simp only [if_neg c1, decide_eq_false (show ¬ 0 ≤ h from c1), Option.bind_some, Bool.false_eq_true, if_false, Bool.false_and]
    exact Ev.now _

theorem mouthOk_le {h : Int} {g : List Int} {s r : Int} {l : List S86} (c : mouthOk h g s r l = true) : 0 ≤ h ∧ h ≤ 1000000 ∧ g.length ≤ 32 ∧ 0 ≤ s ∧ s ≤ g.length ∧ 0 ≤ r ∧ r ≤ 255 ∧ l.length ≤ 2 := by
  unfold mouthOk at c
  simp only [Bool.and_eq_true, decide_eq_true_eq] at c
  obtain ⟨⟨⟨⟨⟨⟨⟨⟨c1, c2⟩, c3⟩, c4⟩, c5⟩, c6⟩, c7⟩, c8⟩, _⟩ := c
  exact ⟨c1, c2, by omega, c4, c5, c6, c7, by omega⟩
theorem mn_lo {a b : Int} (ha : 0 ≤ a) (hb : 0 ≤ b) : 0 ≤ mn a b ∧ mn a b ≤ a ∧ mn a b ≤ b := by
  unfold mn; split <;> omega

/-! MouthNext -/
def mouthNext (h : Int) (g : List Int) (s r : Int) (l : List S86) (n : Int) : Int × List Int × Int × Int × List S86 × Int × List Int :=
  if mouthOk h g s r l = true ∧ 1 ≤ n ∧ n ≤ 12 then
    (if mn (mn g.length r) (s + n) ≤ s then (h, g, s, r, l, h + s, []) else (h, g, mn (mn g.length r) (s + n), r, l, h + s, (g.take (mn (mn g.length r) (s + n)).toNat).drop s.toNat))
  else (0, [], 0, 0, [], 0, [])
theorem spec_mouthNext (h : Int) (g : List Int) (s r : Int) (l : List S86) (n : Int) : Ev (fun k => spec_MouthNext.f k h g s r l n) (mouthNext h g s r l n) := by
  unfold spec_MouthNext.f mouthNext
  refine Ev.bind (spec_mouthOk h g s r l) ?_
  have jt : Ev (fun k => spec_MouthNext.j0 k n true h g s r l) (0, [], 0, 0, [], 0, []) := by
    refine Ev.step (fun k => spec_MouthNext.j0.eq_2 _ _ _ _ _ _ _ k) ?_
    simp only [if_true]; exact Ev.now _
  by_cases c : mouthOk h g s r l = true
  · obtain ⟨m1, m2, m3, m4, m5, m6, m7, m8⟩ := mouthOk_le c
    simp only [c, if_true, true_and, spec_l1In.f]
    by_cases n0 : n ≥ 1
    · by_cases n1 : n ≤ 12
      · simp only [if_pos n0, decide_eq_true n1, Option.bind_some, Bool.not_true, if_pos (show 1 ≤ n ∧ n ≤ 12 from ⟨n0, n1⟩)]
        refine Ev.step (fun k => spec_MouthNext.j0.eq_2 _ _ _ _ _ _ _ k) ?_
        have h1 : ([] : List Int).length + g.length < 140737488355328 := by rw [List.length_nil]; omega
        have h2 : ([] : List S86).length + l.length < 8796093022208 := by rw [List.length_nil]; omega
        rw [wrap_id (x := s + n) (by omega) (by omega), wrap_id (x := h + s) (by omega) (by omega)]
        simp only [Bool.false_eq_true, if_false, spec_l13Copy.f, Option.bind_some, if_pos h1, if_pos h2, List.nil_append]
        obtain ⟨a1, a2, a3⟩ := mn_lo (a := (g.length : Int)) (b := r) (by omega) (by omega)
        obtain ⟨b1, b2, b3⟩ := mn_lo (a := mn (g.length : Int) r) (b := s + n) (by omega) (by omega)
        generalize mn (mn (g.length : Int) r) (s + n) = u at *
        by_cases c1 : u ≤ s
        · simp only [if_pos c1]; exact Ev.now _
        · simp only [if_neg c1, if_pos (show 0 ≤ s by omega), if_pos (show s ≤ u by omega), if_pos (show u ≤ (g.length : Int) by omega)]
          rw [if_pos (show ([] : List Int).length + ((g.take u.toNat).drop s.toNat).length < 140737488355328 by rw [List.length_nil, List.length_drop, List.length_take]; omega)]
          exact Ev.now _
      · simp only [if_pos n0, decide_eq_false n1, Option.bind_some, Bool.not_false, if_neg (show ¬ (1 ≤ n ∧ n ≤ 12) from fun h => n1 h.2)]
        exact jt
    · simp only [if_neg n0, Option.bind_some, Bool.not_false, if_neg (show ¬ (1 ≤ n ∧ n ≤ 12) from fun h => n0 h.1)]
      exact jt
  · simp only [c, if_false, false_and, Bool.false_eq_true]
    exact jt

theorem mn_next (g : List Int) (s r n : Int) : mn (mn (g.length : Int) r) (s + n) = s + mn (mn n ((g.length : Int) - s)) (r - s) := by
  unfold mn; (repeat' split) <;> omega
theorem mn_next_le (g : List Int) (s r n : Int) : mn (mn n ((g.length : Int) - s)) (r - s) ≤ n ∧ mn (mn n ((g.length : Int) - s)) (r - s) ≤ (g.length : Int) - s ∧ mn (mn n ((g.length : Int) - s)) (r - s) ≤ r - s ∧ (mn (mn n ((g.length : Int) - s)) (r - s) = n ∨ mn (mn n ((g.length : Int) - s)) (r - s) = (g.length : Int) - s ∨ mn (mn n ((g.length : Int) - s)) (r - s) = r - s) := by
  unfold mn; (repeat' split) <;> omega
theorem impl_mouthNext (h : Int) (g : List Int) (s r : Int) (l : List S86) (n : Int) : Ev (fun k => impl_MouthNext.f k h g s r l n) (mouthNext h g s r l n) := by
  unfold impl_MouthNext.f mouthNext
  refine Ev.bind (impl_mouthOk h g s r l) ?_
  have jt : Ev (fun k => impl_MouthNext.j0 k n true h g s r l) (0, [], 0, 0, [], 0, []) := by
    refine Ev.step (fun k => impl_MouthNext.j0.eq_2 _ _ _ _ _ _ _ k) ?_
    simp only [if_true]; exact Ev.now _
  by_cases c : mouthOk h g s r l = true
  · obtain ⟨m1, m2, m3, m4, m5, m6, m7, m8⟩ := mouthOk_le c
    simp only [c, if_true, true_and, impl_in.f]
    by_cases n0 : n ≥ 1
    · by_cases n1 : n ≤ 12
      · simp only [if_pos n0, decide_eq_true n1, Option.bind_some, Bool.not_true, if_pos (show 1 ≤ n ∧ n ≤ 12 from ⟨n0, n1⟩)]
        refine Ev.step (fun k => impl_MouthNext.j0.eq_2 _ _ _ _ _ _ _ k) ?_
        have h1 : g.length * 1 ≤ 140737488355328 := by omega
        have h2 : l.length * 16 ≤ 140737488355328 := by omega
        simp only [Bool.false_eq_true, if_false, impl_Mouth_copy.f, impl_clone_byte.f, impl_Range_79.f, if_pos h1, if_pos h2, Option.bind_some, impl_Mouth_next.f]
        rw [mn_next]
        obtain ⟨p1, p2, p3, p4⟩ := mn_next_le g s r n
        rw [wrap_id (x := (g.length : Int) - s) (by omega) (by omega), wrap_id (x := r - s) (by omega) (by omega), wrap_id (x := h + s) (by omega) (by omega)]
        generalize mn (mn n ((g.length : Int) - s)) (r - s) = a at *
        by_cases ca : a ≤ 0
        · simp only [if_pos ca, if_pos (show s + a ≤ s by omega), Option.bind_some]
          exact Ev.now _
        · rw [wrap_id (x := s + a) (by omega) (by omega)]
          have h3 : ((g.take (s + a).toNat).drop s.toNat).length * 1 ≤ 140737488355328 := by rw [List.length_drop, List.length_take]; omega
          simp only [if_neg ca, if_neg (show ¬ s + a ≤ s by omega), if_pos m4, if_pos (show s ≤ s + a by omega), if_pos (show s + a ≤ (g.length : Int) by omega), if_pos h3, Option.bind_some]
          exact Ev.now _
      · simp only [if_pos n0, decide_eq_false n1, Option.bind_some, Bool.not_false, if_neg (show ¬ (1 ≤ n ∧ n ≤ 12) from fun h => n1 h.2)]
        exact jt
    · simp only [if_neg n0, Option.bind_some, Bool.not_false, if_neg (show ¬ (1 ≤ n ∧ n ≤ 12) from fun h => n0 h.1)]
      exact jt
  · simp only [c, if_false, false_and, Bool.false_eq_true]
    exact jt

/-! The rest of a mouth's test -/
theorem toMouth (h : Int) (g : List Int) (s r : Int) (l : List S103) (hg : g.length ≤ 1048576) (hl : l.length ≤ 1048576) : Ev (fun k => laws_toMouth.f k h g s r l) (h, g, s, r, l.map toR) := by
  unfold laws_toMouth.f
  exact Ev.bind (toByteS g hg) (Ev.bind (toRangeS l hl) (Ev.now _))
theorem eqMouth (h : Int) (g : List Int) (s r : Int) (l : List S86) (hg : g.length ≤ 9223372036854775806) (hl : l.length ≤ 9223372036854775806) : Ev (fun k => laws_eqMouth.f k h g s r l h g s r l) true := by
  unfold laws_eqMouth.f
  simp only [if_true]
  refine Ev.bind (eqByteS g hg) ?_
  simp only [if_true]
  refine Ev.bind (eqRangeS l hl) ?_
  simp only [if_true]
  exact Ev.now _
theorem markMouth (h : Int) (g : List Int) (s r : Int) (l : List S86) (m : Int) (h0 : 0 ≤ m) (h1 : m + g.length + 2 * l.length ≤ 4611686018427387904) : Ev (fun k => laws_markMouth.f k h g s r l m) (m + g.length + 2 * l.length, markB g.length m, markR l.length (m + g.length)) := by
  unfold laws_markMouth.f
  exact Ev.bind (markByteS g m h0 (by omega)) (Ev.bind (markRangeS l (m + g.length) (by omega) (by omega)) (Ev.now _))
theorem heldMouth (h s r : Int) (n1 n2 : Nat) (m : Int) (h0 : 0 ≤ m) (h1 : m + n1 + 2 * n2 ≤ 4611686018427387904) : Ev (fun k => laws_heldMouth.f k h (markB n1 m) s r (markR n2 (m + n1)) m) (m + n1 + 2 * n2) := by
  unfold laws_heldMouth.f
  refine Ev.bind (heldByteS n1 m h0 (by omega)) ?_
  simp only [if_neg (show ¬ m + (n1 : Int) < 0 by omega)]
  refine Ev.bind (heldRangeS n2 (m + n1) (by omega) (by omega)) ?_
  simp only [if_neg (show ¬ m + (n1 : Int) + 2 * (n2 : Int) < 0 by omega)]
  exact Ev.now _
theorem szMouth_ (h : Int) (g : List Int) (s r : Int) (l : List S103) (hg : g.length ≤ 9223372036854775807) (hl : l.length ≤ 9223372036854775807) : ∃ v, laws_szMouth.f h g s r l 1048576 = some v ∧ (v < 0 ∨ (g.length ≤ 1048576 ∧ l.length ≤ 1048576)) := by
  unfold laws_szMouth.f
  rw [szByteS g _ hg (by omega) (by omega)]
  by_cases h1 : 1048576 - (g.length : Int) < 0
  · simp only [if_pos h1, Option.bind_some, if_pos (show (-1 : Int) < 0 by omega)]
    exact ⟨_, rfl, Or.inl (by omega)⟩
  · simp only [if_neg h1, Option.bind_some]
    rw [szRangeS l _ hl (by omega) (by omega)]
    by_cases h2 : 1048576 - (g.length : Int) - (l.length : Int) < 0
    · simp only [if_pos h2, Option.bind_some, if_pos (show (-1 : Int) < 0 by omega)]
      exact ⟨_, rfl, Or.inl (by omega)⟩
    · simp only [if_neg h2, Option.bind_some]
      exact ⟨_, rfl, Or.inr (by omega)⟩

theorem FnExactMouthNext : laws_FnExactMouthNext.Pure := by
  intro h g s r l n _ hg0 _ _ hl0 _
  have hg1 : g.length ≤ 9223372036854775807 := hg0.1
  have hl1 : l.length ≤ 9223372036854775807 := hl0.1
  refine Ev.rounds ?_
  unfold laws_FnExactMouthNext.f
  obtain ⟨v, hv, hs⟩ := szMouth_ h g s r l hg1 hl1
  simp only [hv, Option.bind_some]
  rcases hs with hs | ⟨hg, hl⟩
  · simp only [if_pos hs]; exact Ev.now _
  by_cases hv0 : v < 0
  · simp only [if_pos hv0]; exact Ev.now _
  simp only [if_neg hv0]
  clear hv hv0 hg0 hl0 hg1 hl1
  have t := toMouth h g s r l hg hl
  have hm : (l.map toR).length ≤ 1048576 := by rw [List.length_map]; exact hl
  have ei := impl_mouthNext h g s r (l.map toR) n
  have es := spec_mouthNext h g s r (l.map toR) n
  have hq : (mouthNext h g s r (l.map toR) n).2.1.length ≤ 1048576 ∧ (mouthNext h g s r (l.map toR) n).2.2.2.2.1.length ≤ 1048576 ∧ (mouthNext h g s r (l.map toR) n).2.2.2.2.2.2.length ≤ 1048576 := by
    unfold mouthNext; split
    · split
      · exact ⟨hg, hm, by simp⟩
      · refine ⟨hg, hm, ?_⟩
        show (List.drop _ (List.take _ _)).length ≤ _
        rw [List.length_drop, List.length_take]; omega
    · simp
  generalize mouthNext h g s r (l.map toR) n = q at *
  obtain ⟨q1, q2, q3, q4, q5, q6, q7⟩ := q
  obtain ⟨b2, b5, b7⟩ : q2.length ≤ 1048576 ∧ q5.length ≤ 1048576 ∧ q7.length ≤ 1048576 := hq
  refine Ev.bind t (Ev.bind es (Ev.bind t (Ev.bind ei (Ev.bind (eqMouth q1 q2 q3 q4 q5 (by omega) (by omega)) ?_))))
  simp only [if_true]
  refine Ev.bind (eqByteS q7 (by omega)) ?_
  simp only [Bool.not_true]
  refine Ev.step (fun k => laws_FnExactMouthNext.j0.eq_2 _ _ _ _ _ _ _ _ _ _ _ _ _ _ _ _ _ _ _ _ _ _ _ _ _ _ k) ?_
  simp only [Bool.false_eq_true, if_false]
  refine Ev.bind t (Ev.bind (eqMouth h g s r (l.map toR) (by omega) (by omega)) ?_)
  simp only [if_true]
  refine Ev.bind (markMouth h g s r (l.map toR) 1 (by omega) (by omega)) ?_
  simp only [if_neg (show ¬ (1 : Int) + (g.length : Int) + 2 * ((l.map toR).length : Int) < 0 by omega)]
  refine Ev.bind (eqMouth q1 q2 q3 q4 q5 (by omega) (by omega)) ?_
  simp only [if_true]
  refine Ev.bind (eqByteS q7 (by omega)) ?_
  simp only [Bool.not_true]
  refine Ev.step (fun k => laws_FnExactMouthNext.j1.eq_2 _ _ _ _ _ _ _ _ _ _ _ _ _ _ _ _ _ _ _ _ k) ?_
  simp only [Bool.false_eq_true, if_false]
  refine Ev.bind (markMouth q1 q2 q3 q4 q5 1 (by omega) (by omega)) (Ev.bind (markByteS q7 _ (by omega) (by omega)) (Ev.bind (heldMouth q1 q3 q4 q2.length q5.length 1 (by omega) (by omega)) ?_))
  simp only [if_neg (show ¬ (1 : Int) + (q2.length : Int) + 2 * (q5.length : Int) < 0 by omega)]
  refine Ev.bind (heldByteS q7.length _ (by omega) (by omega)) ?_
  simp only [if_neg (show ¬ (1 : Int) + (q2.length : Int) + 2 * (q5.length : Int) + (q7.length : Int) < 0 by omega), if_true]
  refine Ev.bind t (Ev.bind ei (Ev.bind (eqMouth q1 q2 q3 q4 q5 (by omega) (by omega)) ?_))
  simp only [if_true]
  refine Ev.bind (eqByteS q7 (by omega)) ?_
  simp only [Bool.not_true]
  refine Ev.step (fun k => laws_FnExactMouthNext.j2.eq_2 _ _ _ _ _ _ _ _ k) ?_
  simp only [Bool.false_eq_true, if_false]
  refine Ev.bind (heldMouth q1 q3 q4 q2.length q5.length 1 (by omega) (by omega)) ?_
  simp only [if_neg (show ¬ (1 : Int) + (q2.length : Int) + 2 * (q5.length : Int) < 0 by omega)]
  refine Ev.bind (heldByteS q7.length _ (by omega) (by omega)) ?_
  simp only [if_neg (show ¬ (1 : Int) + (q2.length : Int) + 2 * (q5.length : Int) + (q7.length : Int) < 0 by omega), if_true]
  exact Ev.now _

end Go.Proofs.Ytjiodkbbmhhccaa.Pure
