/- An ear is read as the reference reads it: the plain law. -/
import Derived.Test.YtjiodkbbmhhccaaPFnExactEarReadx
namespace Go.Proofs.Ytjiodkbbmhhccaa.Pure
set_option linter.unusedSimpArgs false
set_option linter.unusedVariables false
open Go.RowKit Go.Proofs.Ytjiodkbbmhhccaa.PFnExactEarRead Go.Proofs.YtjiodkbbmhhccaaW.PrintWords Go.Proofs.YtjiodkbbmhhccaaW.PrintLast Go.Proofs.YtjiodkbbmhhccaaW.PrintMore

theorem Ev.succ {α : Type} {g : Nat → Option α} {r : α} (h : Ev (fun k => g (k + 1)) r) : Ev g r := Ev.step (fun _ => rfl) h
theorem Ev.pure {α : Type} {o : Option α} {r : α} (h : o = some r) : Ev (fun _ => o) r := by rw [h]; exact Ev.now r
theorem Ev.cong {α : Type} {g g' : Nat → Option α} {r : α} (h : ∀ k, g k = g' k) (e : Ev g' r) : Ev g r := by rw [show g = g' from funext h]; exact e
theorem wrap_id {x : Int} (h0 : -9223372036854775808 ≤ x) (h1 : x ≤ 9223372036854775807) : wrap64 x = x := by unfold wrap64; omega

theorem rd_get (l : List Int) (i : Nat) (h : i < l.length) : rd l (i : Int) = l[i] := by
  unfold rd
  rw [Int.toNat_natCast, List.getD_eq_getElem?_getD, List.getElem?_eq_getElem h]; rfl
theorem take_set_succ {α : Type} (x : List α) (i : Nat) (v : α) (h : i < x.length) : (x.set i v).take (i + 1) = x.take i ++ [v] := by
  rw [List.take_succ_eq_append_getElem (by simpa using h), List.getElem_set_self, List.take_set, List.set_eq_of_length_le (by simp; omega)]


/-- toByteS: a copy. -/
theorem toByteS_l (l : List Int) (hl : l.length ≤ 1048576) (d : Nat) : ∀ (i : Nat) (x : List Int), i ≤ l.length → l.length - i = d → x.length = l.length → x.take i = l.take i →
    Ev (fun k => laws_toByteS.l0 k l x (i : Int)) l := by
  induction d with
  | zero =>
    intro i x hi hd hx ht
    have hil : i = l.length := by omega
    subst hil
    refine Ev.succ ?_
    simp only [laws_toByteS.l0]
    simp only [Int.lt_irrefl, if_false]
    have : x = l := by rw [← hx, List.take_length] at ht; rw [ht, hx, List.take_length]
    rw [this]; exact Ev.now l
  | succ d ih =>
    intro i x hi hd hx ht
    have hlt : i < l.length := by omega
    refine Ev.succ ?_
    simp only [laws_toByteS.l0]
    simp only [if_pos (show (i : Int) < (l.length : Int) by omega), if_pos (show (0 : Int) ≤ (i : Int) by omega), if_pos (show (i : Int) < (x.length : Int) by omega)]
    rw [wrap_id (by omega) (by omega), rd_get l i hlt, Int.toNat_natCast]
    refine ih (i + 1) _ (by omega) (by omega) (by simpa using hx) ?_
    rw [take_set_succ _ _ _ (by omega), ht, List.take_succ_eq_append_getElem hlt]
theorem toByteS (l : List Int) (hl : l.length ≤ 1048576) : Ev (fun k => laws_toByteS.f k l) l := by
  unfold laws_toByteS.f
  simp only [if_pos (show (0 : Int) ≤ (l.length : Int) by omega), Int.toNat_natCast, if_pos (show l.length ≤ 281474976710656 by omega)]
  exact toByteS_l l hl _ 0 _ (by omega) rfl (by simp) (by simp)
/-- eqByteS of a list and itself. -/
theorem eqByteS_l (l : List Int) (hl : l.length ≤ 9223372036854775806) (d : Nat) : ∀ (i : Nat), i ≤ l.length → l.length - i = d → Ev (fun k => laws_eqByteS.l0 k l l (i : Int)) true := by
  induction d with
  | zero =>
    intro i hi hd
    refine Ev.succ ?_
    simp only [laws_eqByteS.l0]
    simp only [if_neg (show ¬ (i : Int) < (l.length : Int) by omega)]
    exact Ev.now true
  | succ d ih =>
    intro i hi hd
    refine Ev.succ ?_
    simp only [laws_eqByteS.l0]
    simp only [if_pos (show (i : Int) < (l.length : Int) by omega), if_pos (show (0 : Int) ≤ (i : Int) by omega), if_true]
    rw [wrap_id (by omega) (by omega)]
    exact ih (i + 1) (by omega) (by omega)
theorem eqByteS (l : List Int) (hl : l.length ≤ 9223372036854775806) : Ev (fun k => laws_eqByteS.f k l l) true := by
  unfold laws_eqByteS.f
  simp only [if_true]
  exact eqByteS_l l hl _ 0 (by omega) rfl
/-- What markByteS leaves. -/
def markB : Nat → Int → List Int
  | 0, _ => []
  | n + 1, m => m % 256 :: markB n (m + 1)
theorem markB_length (n : Nat) (m : Int) : (markB n m).length = n := by
  induction n generalizing m with
  | zero => rfl
  | succ n ih => simp [markB, ih]
theorem markB_get (n : Nat) (m : Int) (i : Nat) (h : i < (markB n m).length) : (markB n m)[i] = (m + i) % 256 := by
  induction n generalizing m i with
  | zero => simp [markB] at h
  | succ n ih =>
    cases i with
    | zero => simp [markB]
    | succ i => simp only [markB, List.getElem_cons_succ]; rw [ih]; congr 1; push_cast; omega
theorem markByteS_l (n : Nat) (m : Int) (h0 : 0 ≤ m) (h1 : m + n ≤ 4611686018427387904) (d : Nat) : ∀ (i : Nat) (x : List Int), i ≤ n → n - i = d → x.length = n → x.take i = (markB n m).take i →
    Ev (fun k => laws_markByteS.l0 k x (m + i) (i : Int)) (m + n, markB n m) := by
  have hM := markB_length n m
  induction d with
  | zero =>
    intro i x hi hd hx ht
    have hil : i = n := by omega
    subst hil
    refine Ev.succ ?_
    simp only [laws_markByteS.l0]
    simp only [if_neg (show ¬ (i : Int) < (x.length : Int) by omega)]
    have : x = markB i m := by rw [List.take_of_length_le (by omega), List.take_of_length_le (by omega)] at ht; exact ht
    rw [this]; exact Ev.now _
  | succ d ih =>
    intro i x hi hd hx ht
    refine Ev.succ ?_
    simp only [laws_markByteS.l0]
    simp only [if_pos (show (i : Int) < (x.length : Int) by omega), if_pos (show (0 : Int) ≤ (i : Int) by omega)]
    rw [wrap_id (by omega) (by omega), wrap_id (by omega) (by omega), Int.toNat_natCast]
    have := ih (i + 1) (x.set i ((m + i) % 256)) (by omega) (by omega) (by simpa using hx) (by
      rw [take_set_succ _ _ _ (by omega), ht, List.take_succ_eq_append_getElem (by omega), markB_get])
    rw [show (m + ((i + 1 : Nat) : Int)) = m + i + 1 by push_cast; omega] at this
    exact this
theorem markByteS (l : List Int) (m : Int) (h0 : 0 ≤ m) (h1 : m + l.length ≤ 4611686018427387904) : Ev (fun k => laws_markByteS.f k l m) (m + l.length, markB l.length m) := by
  unfold laws_markByteS.f
  have := markByteS_l l.length m h0 h1 _ 0 l (by omega) rfl rfl (by simp)
  simpa using this
theorem heldByteS_l (n : Nat) (m : Int) (h0 : 0 ≤ m) (h1 : m + n ≤ 4611686018427387904) (d : Nat) : ∀ (i : Nat), i ≤ n → n - i = d → Ev (fun k => laws_heldByteS.l0 k (markB n m) (m + i) (i : Int)) (m + n) := by
  have hM := markB_length n m
  induction d with
  | zero =>
    intro i hi hd
    have hil : i = n := by omega
    subst hil
    refine Ev.succ ?_
    simp only [laws_heldByteS.l0]
    simp only [if_neg (show ¬ (i : Int) < ((markB i m).length : Int) by omega)]
    exact Ev.now _
  | succ d ih =>
    intro i hi hd
    refine Ev.succ ?_
    simp only [laws_heldByteS.l0]
    rw [rd_get _ i (by omega), markB_get]
    simp only [if_pos (show (i : Int) < ((markB n m).length : Int) by omega), if_pos (show (0 : Int) ≤ (i : Int) by omega), if_true]
    rw [wrap_id (by omega) (by omega), wrap_id (by omega) (by omega)]
    have := ih (i + 1) (by omega) (by omega)
    rw [show (m + ((i + 1 : Nat) : Int)) = m + i + 1 by push_cast; omega] at this
    exact this
theorem heldByteS (n : Nat) (m : Int) (h0 : 0 ≤ m) (h1 : m + n ≤ 4611686018427387904) : Ev (fun k => laws_heldByteS.f k (markB n m) m) (m + n) := by
  unfold laws_heldByteS.f
  have := heldByteS_l n m h0 h1 _ 0 (by omega) rfl
  simpa using this
theorem szByteS (l : List Int) (m : Int) (h : l.length ≤ 9223372036854775807) (h0 : 0 ≤ m) (h1 : m ≤ 1048576) : laws_szByteS.f l m = some (if m - l.length < 0 then -1 else m - l.length) := by
  unfold laws_szByteS.f
  rw [wrap_id (by omega) (by omega)]
  split <;> rfl


/-! rows of early bytes: what the test makes, compares, marks and finds held -/
theorem rdE (l : List S70) (i : Nat) (h : i < l.length) : rd_T70 l (i : Int) = l[i] := by
  unfold rd_T70
  rw [Int.toNat_natCast, List.getD_eq_getElem?_getD, List.getElem?_eq_getElem h]; rfl
theorem rdE' (l : List S97) (i : Nat) (h : i < l.length) : rd_T97 l (i : Int) = l[i] := by
  unfold rd_T97
  rw [Int.toNat_natCast, List.getD_eq_getElem?_getD, List.getElem?_eq_getElem h]; rfl
def toE (x : S97) : S70 := ⟨x.f0, x.f1⟩
theorem toEarlyS_l (l : List S97) (hl : l.length ≤ 1048576) (n : Nat) : ∀ (i : Nat) (x : List S70), i + n = l.length → x.length = l.length →
    ∃ y, Ev (fun k => laws_toEarlyS.l0 k l x (i : Int)) y ∧ y.take i = x.take i ∧ y.drop i = (l.drop i).map toE := by
  induction n with
  | zero =>
    intro i x hi hx
    refine ⟨x, Ev.succ ?_, rfl, ?_⟩
    · simp only [laws_toEarlyS.l0, if_neg (show ¬ (i : Int) < (l.length : Int) by omega)]
      exact Ev.now _
    · rw [List.drop_of_length_le (by omega), List.drop_of_length_le (by omega)]; rfl
  | succ n ih =>
    intro i x hi hx
    have hb : i < l.length := by omega
    obtain ⟨y, e, h1, h2⟩ := ih (i + 1) (x.set i (toE l[i])) (by omega) (by simp [hx])
    refine ⟨y, Ev.succ ?_, ?_, ?_⟩
    · simp only [laws_toEarlyS.l0, if_pos (show (i : Int) < (l.length : Int) by omega), if_pos (show (0 : Int) ≤ (i : Int) by omega), laws_toEarly.f, Option.bind_some, if_pos (show (i : Int) < (x.length : Int) by omega), Int.toNat_natCast, rdE' l i hb]
      rw [wrap_id (x := (i : Int) + 1) (by omega) (by omega)]
      exact e
    · have := congrArg (List.take i) h1
      rw [List.take_take, List.take_take, Nat.min_eq_left (by omega), List.take_set, List.set_eq_of_length_le (by simp; omega)] at this
      exact this
    · have h3 : i < y.length := by
        have := congrArg List.length h1
        simp [hx] at this; omega
      rw [List.drop_eq_getElem_cons h3, List.drop_eq_getElem_cons hb, List.map_cons, h2]
      congr 1
      have := congrArg (fun z => z[i]?) h1
      simp only [List.getElem?_take_of_lt (Nat.lt_succ_self i), List.getElem?_eq_getElem h3] at this
      rw [List.getElem?_set_self (by omega)] at this
      exact Option.some.inj this
theorem toEarlyS (l : List S97) (hl : l.length ≤ 1048576) : Ev (fun k => laws_toEarlyS.f k l) (l.map toE) := by
  unfold laws_toEarlyS.f
  simp only [if_pos (show (0 : Int) ≤ (l.length : Int) by omega), Int.toNat_natCast, if_pos (show l.length ≤ 17592186044416 by omega)]
  obtain ⟨y, e, _, h2⟩ := toEarlyS_l l hl l.length 0 (List.replicate l.length z70) (by omega) (by simp)
  rw [List.drop_zero, List.drop_zero] at h2
  rw [← h2]
  exact e
theorem eqEarlyS_l (l : List S70) (hl : l.length ≤ 9223372036854775806) (n : Nat) : ∀ i : Nat, i + n = l.length → Ev (fun k => laws_eqEarlyS.l0 k l l (i : Int)) true := by
  induction n with
  | zero =>
    intro i hi
    refine Ev.succ ?_
    simp only [laws_eqEarlyS.l0, if_neg (show ¬ (i : Int) < (l.length : Int) by omega)]
    exact Ev.now _
  | succ n ih =>
    intro i hi
    have h1 := ih (i + 1) (by omega)
    refine Ev.succ ?_
    simp only [laws_eqEarlyS.l0, if_pos (show (i : Int) < (l.length : Int) by omega), if_pos (show (0 : Int) ≤ (i : Int) by omega), laws_eqEarly.f, if_true, Option.bind_some]
    rw [wrap_id (x := (i : Int) + 1) (by omega) (by omega)]
    exact h1
theorem eqEarlyS (l : List S70) (hl : l.length ≤ 9223372036854775806) : Ev (fun k => laws_eqEarlyS.f k l l) true := by
  unfold laws_eqEarlyS.f; simp only [if_true]; exact eqEarlyS_l l hl l.length 0 (by omega)
/-- what marking leaves in a row of n -/
def markE (n : Nat) (m : Int) : List S70 := (List.range n).map fun i : Nat => ⟨m + 2 * (i : Int), (m + 2 * (i : Int) + 1) % 256⟩
theorem markE_length (n : Nat) (m : Int) : (markE n m).length = n := by simp [markE]
theorem markE_get (n : Nat) (m : Int) (i : Nat) (h : i < (markE n m).length) : (markE n m)[i] = ⟨m + 2 * i, (m + 2 * i + 1) % 256⟩ := by simp [markE]
theorem markEarlyS_l (n : Nat) (m : Int) (h0 : 0 ≤ m) (h1 : m + 2 * n ≤ 4611686018427387904) (d : Nat) : ∀ (i : Nat) (x : List S70), i ≤ n → n - i = d → x.length = n → x.take i = (markE n m).take i →
    Ev (fun k => laws_markEarlyS.l0 k x (m + 2 * i) (i : Int)) (m + 2 * n, markE n m) := by
  have hM := markE_length n m
  induction d with
  | zero =>
    intro i x hi hd hx ht
    have hil : i = n := by omega
    subst hil
    refine Ev.succ ?_
    simp only [laws_markEarlyS.l0]
    simp only [if_neg (show ¬ (i : Int) < (x.length : Int) by omega)]
    have : x = markE i m := by rw [List.take_of_length_le (by omega), List.take_of_length_le (by omega)] at ht; exact ht
    rw [this]; exact Ev.now _
  | succ d ih =>
    intro i x hi hd hx ht
    refine Ev.succ ?_
    simp only [laws_markEarlyS.l0]
    simp only [if_pos (show (i : Int) < (x.length : Int) by omega), if_pos (show (0 : Int) ≤ (i : Int) by omega), Option.bind_some, Int.toNat_natCast]
    rw [rdE x i (by omega), rdE (x.set i ⟨m + 2 * (i : Int), (x[i]'(by omega)).f1⟩) i (by rw [List.length_set]; omega)]
    simp only [List.getElem_set_self, List.set_set]
    rw [wrap_id (x := (i : Int) + 1) (by omega) (by omega), wrap_id (x := m + 2 * (i : Int) + 1) (by omega) (by omega), wrap_id (x := m + 2 * (i : Int) + 1 + 1) (by omega) (by omega)]
    have := ih (i + 1) (x.set i ⟨m + 2 * i, (m + 2 * i + 1) % 256⟩) (by omega) (by omega) (by simpa using hx) (by
      rw [take_set_succ _ _ _ (by omega), ht, List.take_succ_eq_append_getElem (by omega), markE_get])
    rw [show (m + 2 * ((i + 1 : Nat) : Int)) = m + 2 * i + 1 + 1 by push_cast; omega] at this
    exact this
theorem markEarlyS (l : List S70) (m : Int) (h0 : 0 ≤ m) (h1 : m + 2 * l.length ≤ 4611686018427387904) : Ev (fun k => laws_markEarlyS.f k l m) (m + 2 * l.length, markE l.length m) := by
  unfold laws_markEarlyS.f
  have := markEarlyS_l l.length m h0 h1 _ 0 l (by omega) rfl rfl (by simp)
  simpa using this
theorem heldEarlyS_l (n : Nat) (m : Int) (h0 : 0 ≤ m) (h1 : m + 2 * n ≤ 4611686018427387904) (d : Nat) : ∀ (i : Nat), i ≤ n → n - i = d → Ev (fun k => laws_heldEarlyS.l0 k (markE n m) (m + 2 * i) (i : Int)) (m + 2 * n) := by
  have hM := markE_length n m
  induction d with
  | zero =>
    intro i hi hd
    have hil : i = n := by omega
    subst hil
    refine Ev.succ ?_
    simp only [laws_heldEarlyS.l0]
    simp only [if_neg (show ¬ (i : Int) < ((markE i m).length : Int) by omega)]
    exact Ev.now _
  | succ d ih =>
    intro i hi hd
    refine Ev.succ ?_
    simp only [laws_heldEarlyS.l0]
    rw [rdE _ i (by omega), markE_get]
    simp only [if_pos (show (i : Int) < ((markE n m).length : Int) by omega), if_pos (show (0 : Int) ≤ (i : Int) by omega), if_true]
    rw [wrap_id (x := (i : Int) + 1) (by omega) (by omega), wrap_id (x := m + 2 * (i : Int) + 1) (by omega) (by omega), wrap_id (x := m + 2 * (i : Int) + 1 + 1) (by omega) (by omega)]
    simp only [if_true]
    have := ih (i + 1) (by omega) (by omega)
    rw [show (m + 2 * ((i + 1 : Nat) : Int)) = m + 2 * i + 1 + 1 by push_cast; omega] at this
    exact this
theorem heldEarlyS (n : Nat) (m : Int) (h0 : 0 ≤ m) (h1 : m + 2 * n ≤ 4611686018427387904) : Ev (fun k => laws_heldEarlyS.f k (markE n m) m) (m + 2 * n) := by
  unfold laws_heldEarlyS.f
  have := heldEarlyS_l n m h0 h1 _ 0 (by omega) rfl
  simpa using this
theorem szEarlyS (l : List S97) (m : Int) (h : l.length ≤ 9223372036854775807) (h0 : 0 ≤ m) (h1 : m ≤ 1048576) : laws_szEarlyS.f l m = some (if m - l.length < 0 then -1 else m - l.length) := by
  unfold laws_szEarlyS.f
  rw [wrap_id (by omega) (by omega)]
  split <;> rfl

/-! EarOk -/
def earAt (h f : Int) (l : List S70) (i : Nat) : Bool := decide (h < (rd_T70 l (i : Int)).f0) && decide ((rd_T70 l (i : Int)).f0 < h + f) && (i == 0 || decide ((rd_T70 l ((i : Int) - 1)).f0 < (rd_T70 l (i : Int)).f0))
def earFrom (h f : Int) (l : List S70) : Nat → Nat → Bool
  | 0, _ => true
  | d + 1, i => earAt h f l i && earFrom h f l d (i + 1)
def earOk (h room : Int) (g : List Int) (l : List S70) : Bool := decide (0 ≤ h) && decide (h ≤ 1000000) && decide (1 ≤ room) && decide (room ≤ 32) && decide ((g.length : Int) ≤ room) && earFrom h (room - g.length) l l.length 0
theorem impl_earOk_l (h room : Int) (g : List Int) (l : List S70) (h0 : 0 ≤ h) (h1 : h ≤ 1000000) (r0 : 1 ≤ room) (r1 : room ≤ 32) (hg : (g.length : Int) ≤ room) (hl : l.length ≤ 1099511627776) (d : Nat) :
    ∀ i : Nat, i + d = l.length → Ev (fun k => impl_EarOk.l0 k l (l.length : Int) (i : Int) h room g l) (earFrom h (room - g.length) l d i) := by
  induction d with
  | zero =>
    intro i hi
    refine Ev.step (fun k => impl_EarOk.l0.eq_2 _ _ _ _ _ _ _ k) ?_
    simp only [if_neg (show ¬ (i : Int) < (l.length : Int) by omega), earFrom]
    exact Ev.now _
  | succ d ih =>
    intro i hi
    have ih := ih (i + 1) (by omega)
    have a1 : (i : Int) < (l.length : Int) := by omega
    have a2 : (0 : Int) ≤ (i : Int) := by omega
    have j2 : ∀ b, Ev (fun k => impl_EarOk.j2 k l (l.length : Int) (i : Int) b h room g l) (!b && earFrom h (room - g.length) l d (i + 1)) := by
      intro b
      refine Ev.step (fun k => impl_EarOk.j2.eq_2 _ _ _ _ _ _ _ _ k) ?_
      cases b with
      | true => simp only [if_true]; exact Ev.now _
      | false =>
        simp only [Bool.false_eq_true, if_false]
        rw [wrap_id (x := (i : Int) + 1) (by omega) (by omega)]
        exact ih
    refine Ev.step (fun k => impl_EarOk.l0.eq_2 _ _ _ _ _ _ _ k) ?_
    simp only [if_pos a1, if_pos a2, impl_Ear_free.f, impl_in.f, Option.bind_some]
    rw [wrap_id (x := room - (g.length : Int)) (by omega) (by omega), wrap_id (x := h + 1) (by omega) (by omega), wrap_id (x := h + (room - (g.length : Int))) (by omega) (by omega), wrap_id (x := h + (room - (g.length : Int)) - 1) (by omega) (by omega)]
    simp only [earFrom, earAt]
    generalize rd_T70 l (i : Int) = e
    by_cases c1 : e.f0 ≥ h + 1
    · simp only [if_pos c1, Option.bind_some]
      by_cases c2 : e.f0 ≤ h + (room - (g.length : Int)) - 1
      · simp only [decide_eq_true c2, if_true]
        by_cases c3 : (i : Int) > 0
        · have a3 : 0 ≤ (i : Int) - 1 := by omega
          have a4 : (i : Int) - 1 < (l.length : Int) := by omega
          have a5 : (i == 0) = false := by rw [beq_eq_false_iff_ne]; omega
          have a6 : decide (h < e.f0) = true := decide_eq_true (by omega)
          have a7 : decide (e.f0 < h + (room - (g.length : Int))) = true := decide_eq_true (by omega)
          rw [wrap_id (x := (i : Int) - 1) (by omega) (by omega)]
          simp only [if_pos c3, if_pos a3, if_pos a4, a5, a6, a7, Bool.true_and, Bool.false_or]
          have := j2 (decide ((rd_T70 l ((i : Int) - 1)).f0 ≥ e.f0))
          rw [show (!decide ((rd_T70 l ((i : Int) - 1)).f0 ≥ e.f0)) = decide ((rd_T70 l ((i : Int) - 1)).f0 < e.f0) by rw [Bool.eq_iff_iff]; simp] at this
          exact this
        · have a5 : (i == 0) = true := by rw [beq_iff_eq]; omega
          have a6 : decide (h < e.f0) = true := decide_eq_true (by omega)
          have a7 : decide (e.f0 < h + (room - (g.length : Int))) = true := decide_eq_true (by omega)
          simp only [if_neg c3, a5, a6, a7, Bool.true_and, Bool.true_or]
          exact j2 false
      · have a7 : decide (e.f0 < h + (room - (g.length : Int))) = false := decide_eq_false (by omega)
        simp only [decide_eq_false c2, Bool.false_eq_true, if_false, a7, Bool.and_false, Bool.false_and]
        exact j2 true
    · have a6 : decide (h < e.f0) = false := decide_eq_false (by omega)
      simp only [if_neg c1, Option.bind_some, Bool.false_eq_true, if_false, a6, Bool.false_and]
      exact j2 true
theorem impl_earOk (h room : Int) (g : List Int) (l : List S70) (hg : g.length ≤ 1099511627776) (hl : l.length ≤ 1099511627776) : Ev (fun k => impl_EarOk.f k h room g l) (earOk h room g l) := by
  have j0 : ∀ b, (b = false → (0 ≤ h ∧ h ≤ 1000000 ∧ 1 ≤ room ∧ room ≤ 32 ∧ (g.length : Int) ≤ room)) → Ev (fun k => impl_EarOk.j0 k b h room g l) (!b && earFrom h (room - g.length) l l.length 0) := by
    intro b hb
    refine Ev.step (fun k => impl_EarOk.j0.eq_2 _ _ _ _ _ k) ?_
    cases b with
    | true => simp only [if_true]; exact Ev.now _
    | false =>
      obtain ⟨b1, b2, b3, b4, b5⟩ := hb rfl
      simp only [Bool.false_eq_true, if_false]
      exact impl_earOk_l h room g l b1 b2 b3 b4 b5 hl l.length 0 (by omega)
  unfold impl_EarOk.f earOk
  simp only [impl_in.f, impl_Ear_free.f]
  by_cases c1 : h ≥ 0
  · simp only [if_pos c1, Option.bind_some]
    by_cases c2 : h ≤ 1000000
    · simp only [decide_eq_true c2, if_true]
      by_cases c3 : room ≥ 1
      · simp only [if_pos c3, Option.bind_some]
        by_cases c4 : room ≤ 32
        · simp only [decide_eq_true c4, if_true]
          rw [wrap_id (x := room - (g.length : Int)) (by omega) (by omega)]
          have := j0 (decide (room - (g.length : Int) < 0)) (by intro hh; have := of_decide_eq_false hh; omega)
          rw [show (!decide (room - (g.length : Int) < 0)) = decide ((g.length : Int) ≤ room) by rw [Bool.eq_iff_iff]; simp] at this
          simpa [c1, c3] using this
        · simp only [decide_eq_false c4, Bool.false_eq_true, if_false]
          simpa [c4] using j0 true (by intro hh; cases hh)
      · simp only [if_neg c3, Option.bind_some, Bool.false_eq_true, if_false]
        simpa [show ¬ 1 ≤ room from c3] using j0 true (by intro hh; cases hh)
    · simp only [decide_eq_false c2, Bool.false_eq_true, if_false]
      simpa [c2] using j0 true (by intro hh; cases hh)
  · simp only [if_neg c1, Option.bind_some, Bool.false_eq_true, if_false]
    simpa [show ¬ 0 ≤ h from c1] using j0 true (by intro hh; cases hh)
theorem spec_earOk_l (h room : Int) (g : List Int) (l : List S70) (h0 : 0 ≤ h) (h1 : h ≤ 1000000) (r0 : 1 ≤ room) (r1 : room ≤ 32) (hg : (g.length : Int) ≤ room) (hl : l.length ≤ 1099511627776) (d : Nat) :
    ∀ i : Nat, i + d = l.length → Ev (fun k => spec_EarOk.l0 k (i : Int) h room g l) (earFrom h (room - g.length) l d i) := by
  induction d with
  | zero =>
    intro i hi
    refine Ev.step (fun k => spec_EarOk.l0.eq_2 _ _ _ _ _ k) ?_
    simp only [if_neg (show ¬ (i : Int) < (l.length : Int) by omega), earFrom]
    exact Ev.now _
  | succ d ih =>
    intro i hi
    have ih := ih (i + 1) (by omega)
    have a1 : (i : Int) < (l.length : Int) := by omega
    have a2 : (0 : Int) ≤ (i : Int) := by omega
    have j2 : ∀ b, Ev (fun k => spec_EarOk.j2 k (i : Int) b h room g l) (!b && earFrom h (room - g.length) l d (i + 1)) := by
      intro b
      refine Ev.step (fun k => spec_EarOk.j2.eq_2 _ _ _ _ _ _ k) ?_
      cases b with
      | true => simp only [if_true]; exact Ev.now _
      | false =>
        simp only [Bool.false_eq_true, if_false]
        rw [wrap_id (x := (i : Int) + 1) (by omega) (by omega)]
        exact ih
    refine Ev.step (fun k => spec_EarOk.l0.eq_2 _ _ _ _ _ k) ?_
    simp only [if_pos a1, if_pos a2]
    rw [wrap_id (x := h + room) (by omega) (by omega), wrap_id (x := h + room - (g.length : Int)) (by omega) (by omega)]
    simp only [earFrom, earAt]
    generalize rd_T70 l (i : Int) = e
    by_cases c1 : e.f0 ≤ h
    · have a6 : decide (h < e.f0) = false := decide_eq_false (by omega)
      simp only [if_pos c1, a6, Bool.false_and]
      exact j2 true
    · by_cases c2 : e.f0 ≥ h + room - (g.length : Int)
      · have a7 : decide (e.f0 < h + (room - (g.length : Int))) = false := decide_eq_false (by omega)
        simp only [if_neg c1, if_pos c2, a7, Bool.and_false, Bool.false_and]
        exact j2 true
      · have a6 : decide (h < e.f0) = true := decide_eq_true (by omega)
        have a7 : decide (e.f0 < h + (room - (g.length : Int))) = true := decide_eq_true (by omega)
        by_cases c3 : (i : Int) > 0
        · have a3 : 0 ≤ (i : Int) - 1 := by omega
          have a4 : (i : Int) - 1 < (l.length : Int) := by omega
          have a5 : (i == 0) = false := by rw [beq_eq_false_iff_ne]; omega
          rw [wrap_id (x := (i : Int) - 1) (by omega) (by omega)]
          simp only [if_neg c1, if_neg c2, if_pos c3, if_pos a3, if_pos a4, a5, a6, a7, Bool.true_and, Bool.false_or]
          have := j2 (decide ((rd_T70 l ((i : Int) - 1)).f0 ≥ e.f0))
          rw [show (!decide ((rd_T70 l ((i : Int) - 1)).f0 ≥ e.f0)) = decide ((rd_T70 l ((i : Int) - 1)).f0 < e.f0) by rw [Bool.eq_iff_iff]; simp] at this
          exact this
        · have a5 : (i == 0) = true := by rw [beq_iff_eq]; omega
          simp only [if_neg c1, if_neg c2, if_neg c3, a5, a6, a7, Bool.true_and, Bool.true_or]
          exact j2 false
theorem spec_earOk (h room : Int) (g : List Int) (l : List S70) (hg : g.length ≤ 1099511627776) (hl : l.length ≤ 1099511627776) : Ev (fun k => spec_EarOk.f k h room g l) (earOk h room g l) := by
  have j0 : ∀ b, (b = false → (0 ≤ h ∧ h ≤ 1000000 ∧ 1 ≤ room ∧ room ≤ 32 ∧ (g.length : Int) ≤ room)) → Ev (fun k => spec_EarOk.j0 k b h room g l) (!b && earFrom h (room - g.length) l l.length 0) := by
    intro b hb
    refine Ev.step (fun k => spec_EarOk.j0.eq_2 _ _ _ _ _ k) ?_
    cases b with
    | true => simp only [if_true]; exact Ev.now _
    | false =>
      obtain ⟨b1, b2, b3, b4, b5⟩ := hb rfl
      simp only [Bool.false_eq_true, if_false]
      exact spec_earOk_l h room g l b1 b2 b3 b4 b5 hl l.length 0 (by omega)
  unfold spec_EarOk.f earOk
  simp only [spec_l1In.f]
  by_cases c1 : h ≥ 0
  · simp only [if_pos c1, Option.bind_some]
    by_cases c2 : h ≤ 1000000
    · simp only [decide_eq_true c2, if_true]
      by_cases c3 : room ≥ 1
      · simp only [if_pos c3, Option.bind_some]
        by_cases c4 : room ≤ 32
        · simp only [decide_eq_true c4, if_true]
          have := j0 (decide ((g.length : Int) > room)) (by intro hh; have := of_decide_eq_false hh; omega)
          rw [show (!decide ((g.length : Int) > room)) = decide ((g.length : Int) ≤ room) by rw [Bool.eq_iff_iff]; simp] at this
          simpa [c1, c3] using this
        · simp only [decide_eq_false c4, Bool.false_eq_true, if_false]
          simpa [c4] using j0 true (by intro hh; cases hh)
      · simp only [if_neg c3, Option.bind_some, Bool.false_eq_true, if_false]
        simpa [show ¬ 1 ≤ room from c3] using j0 true (by intro hh; cases hh)
    · simp only [decide_eq_false c2, Bool.false_eq_true, if_false]
      simpa [c2] using j0 true (by intro hh; cases hh)
  · simp only [if_neg c1, Option.bind_some, Bool.false_eq_true, if_false]
    simpa [show ¬ 0 ≤ h from c1] using j0 true (by intro hh; cases hh)

/-! The rest of an ear's test -/
theorem toEar (h r : Int) (g : List Int) (l : List S97) (hg : g.length ≤ 1048576) (hl : l.length ≤ 1048576) : Ev (fun k => laws_toEar.f k h r g l) (h, r, g, l.map toE) := by
  unfold laws_toEar.f
  exact Ev.bind (toByteS g hg) (Ev.bind (toEarlyS l hl) (Ev.now _))
theorem eqEar (h r : Int) (g : List Int) (l : List S70) (hg : g.length ≤ 9223372036854775806) (hl : l.length ≤ 9223372036854775806) : Ev (fun k => laws_eqEar.f k h r g l h r g l) true := by
  unfold laws_eqEar.f
  simp only [if_true]
  refine Ev.bind (eqByteS g hg) ?_
  simp only [if_true]
  refine Ev.bind (eqEarlyS l hl) ?_
  simp only [if_true]
  exact Ev.now _
theorem markEar (h r : Int) (g : List Int) (l : List S70) (m : Int) (h0 : 0 ≤ m) (h1 : m + g.length + 2 * l.length ≤ 4611686018427387904) : Ev (fun k => laws_markEar.f k h r g l m) (m + g.length + 2 * l.length, markB g.length m, markE l.length (m + g.length)) := by
  unfold laws_markEar.f
  exact Ev.bind (markByteS g m h0 (by omega)) (Ev.bind (markEarlyS l (m + g.length) (by omega) (by omega)) (Ev.now _))
theorem heldEar (h r : Int) (n1 n2 : Nat) (m : Int) (h0 : 0 ≤ m) (h1 : m + n1 + 2 * n2 ≤ 4611686018427387904) : Ev (fun k => laws_heldEar.f k h r (markB n1 m) (markE n2 (m + n1)) m) (m + n1 + 2 * n2) := by
  unfold laws_heldEar.f
  refine Ev.bind (heldByteS n1 m h0 (by omega)) ?_
  simp only [if_neg (show ¬ m + (n1 : Int) < 0 by omega)]
  refine Ev.bind (heldEarlyS n2 (m + n1) (by omega) (by omega)) ?_
  simp only [if_neg (show ¬ m + (n1 : Int) + 2 * (n2 : Int) < 0 by omega)]
  exact Ev.now _

/-! EarRead -/
theorem mn_in (n : Int) (m : Nat) (h : 0 ≤ n) : 0 ≤ mn n (m : Int) ∧ mn n (m : Int) ≤ (m : Int) := by
  unfold mn; split <;> omega
def earRead (h room : Int) (g : List Int) (l : List S70) (n : Int) : Int × Int × List Int × List S70 × List Int :=
  if earOk h room g l = true ∧ 0 ≤ n then (h, room, g.drop (mn n g.length).toNat, l, g.take (mn n g.length).toNat) else (0, 0, [], [], [])
theorem impl_earRead (h room : Int) (g : List Int) (l : List S70) (n : Int) (hg : g.length ≤ 1048576) (hl : l.length ≤ 1048576) : Ev (fun k => impl_EarRead.f k h room g l n) (earRead h room g l n) := by
  unfold impl_EarRead.f earRead
  refine Ev.bind (impl_earOk h room g l (by omega) (by omega)) ?_
  by_cases c : earOk h room g l = true
  · simp only [c, if_true, true_and]
    by_cases hn : n < 0
    · simp only [decide_eq_true hn, if_neg (show ¬ 0 ≤ n by omega)]
      refine Ev.step (fun k => impl_EarRead.j0.eq_2 _ _ _ _ _ _ k) ?_
      simp only [if_true]
      exact Ev.now _
    · have hm := mn_in n g.length (by omega)
      have h1 : (g.drop (mn n (g.length : Int)).toNat).length * 1 ≤ 140737488355328 := by rw [List.length_drop]; omega
      have h2 : l.length * 16 ≤ 140737488355328 := by omega
      have h3 : (g.take (mn n (g.length : Int)).toNat).length * 1 ≤ 140737488355328 := by rw [List.length_take]; omega
      simp only [decide_eq_false hn, if_pos (show 0 ≤ n by omega)]
      refine Ev.step (fun k => impl_EarRead.j0.eq_2 _ _ _ _ _ _ k) ?_
      simp only [Bool.false_eq_true, if_false, if_pos hm.1, if_pos hm.2, impl_Ear_copy.f, impl_clone_byte.f, impl_Early_74.f, if_pos h1, if_pos h2, if_pos h3, Option.bind_some]
      exact Ev.now _
  · simp only [c, if_false, false_and, Bool.false_eq_true]
    refine Ev.step (fun k => impl_EarRead.j0.eq_2 _ _ _ _ _ _ k) ?_
    simp only [if_true]
    exact Ev.now _
theorem spec_earRead (h room : Int) (g : List Int) (l : List S70) (n : Int) (hg : g.length ≤ 1048576) (hl : l.length ≤ 1048576) : Ev (fun k => spec_EarRead.f k h room g l n) (earRead h room g l n) := by
  unfold spec_EarRead.f earRead
  refine Ev.bind (spec_earOk h room g l (by omega) (by omega)) ?_
  by_cases c : earOk h room g l = true
  · simp only [c, if_true, true_and]
    by_cases hn : n < 0
    · simp only [if_pos hn, if_neg (show ¬ 0 ≤ n by omega)]
      exact Ev.now _
    · have hm := mn_in n g.length (by omega)
      have h1 : ([] : List Int).length + (g.drop (mn n (g.length : Int)).toNat).length < 140737488355328 := by rw [List.length_drop, List.length_nil]; omega
      have h2 : ([] : List S70).length + l.length < 8796093022208 := by rw [List.length_nil]; omega
      have h3 : ([] : List Int).length + (g.take (mn n (g.length : Int)).toNat).length < 140737488355328 := by rw [List.length_take, List.length_nil]; omega
      simp only [if_neg hn, if_pos (show 0 ≤ n by omega), Option.bind_some, if_pos hm.1, if_pos hm.2, if_pos h1, if_pos h2, if_pos h3, List.nil_append]
      exact Ev.now _
  · simp only [c, if_false, false_and, Bool.false_eq_true]
    exact Ev.now _

theorem szEar_ (h r : Int) (g : List Int) (l : List S97) (hg : g.length ≤ 9223372036854775807) (hl : l.length ≤ 9223372036854775807) : ∃ v, laws_szEar.f h r g l 1048576 = some v ∧ (v < 0 ∨ (g.length ≤ 1048576 ∧ l.length ≤ 1048576)) := by
  unfold laws_szEar.f
  rw [szByteS g _ hg (by omega) (by omega)]
  by_cases h1 : 1048576 - (g.length : Int) < 0
  · simp only [if_pos h1, Option.bind_some, if_pos (show (-1 : Int) < 0 by omega)]
    exact ⟨_, rfl, Or.inl (by omega)⟩
  · simp only [if_neg h1, Option.bind_some]
    rw [szEarlyS l _ hl (by omega) (by omega)]
    by_cases h2 : 1048576 - (g.length : Int) - (l.length : Int) < 0
    · simp only [if_pos h2, Option.bind_some, if_pos (show (-1 : Int) < 0 by omega)]
      exact ⟨_, rfl, Or.inl (by omega)⟩
    · simp only [if_neg h2, Option.bind_some]
      exact ⟨_, rfl, Or.inr (by omega)⟩
theorem FnExactEarRead : laws_FnExactEarRead.Pure := by
  intro h r g l n _ _ hg0 hl0 _
  have hg1 : g.length ≤ 9223372036854775807 := hg0.1
  have hl1 : l.length ≤ 9223372036854775807 := hl0.1
  refine Ev.rounds ?_
  unfold laws_FnExactEarRead.f
  obtain ⟨v, hv, hs⟩ := szEar_ h r g l hg1 hl1
  simp only [hv, Option.bind_some]
  rcases hs with hs | ⟨hg, hl⟩
  · simp only [if_pos hs]; exact Ev.now _
  by_cases hv0 : v < 0
  · simp only [if_pos hv0]; exact Ev.now _
  simp only [if_neg hv0]
  clear hv hv0 hg0 hl0 hg1 hl1
  have t := toEar h r g l hg hl
  have hm : (l.map toE).length ≤ 1048576 := by rw [List.length_map]; exact hl
  have ei := impl_earRead h r g (l.map toE) n hg hm
  have es := spec_earRead h r g (l.map toE) n hg hm
  have hb : (earRead h r g (l.map toE) n).2.2.1.length ≤ 1048576 ∧ (earRead h r g (l.map toE) n).2.2.2.1.length ≤ 1048576 ∧ (earRead h r g (l.map toE) n).2.2.2.2.length ≤ 1048576 := by
    unfold earRead; split
    · refine ⟨?_, hm, ?_⟩
      · show (List.drop _ _).length ≤ _
        rw [List.length_drop]; omega
      · show (List.take _ _).length ≤ _
        rw [List.length_take]; omega
    · simp
  generalize earRead h r g (l.map toE) n = q at *
  obtain ⟨q1, q2, q3, q4, q5⟩ := q
  obtain ⟨b3, b4, b5⟩ : q3.length ≤ 1048576 ∧ q4.length ≤ 1048576 ∧ q5.length ≤ 1048576 := hb
  refine Ev.bind t (Ev.bind es (Ev.bind t (Ev.bind ei (Ev.bind (eqEar q1 q2 q3 q4 (by omega) (by omega)) ?_))))
  simp only [if_true]
  refine Ev.bind (eqByteS q5 (by omega)) ?_
  simp only [Bool.not_true]
  refine Ev.step (fun k => laws_FnExactEarRead.j0.eq_2 _ _ _ _ _ _ _ _ _ _ _ _ _ _ _ _ _ _ _ _ k) ?_
  simp only [Bool.false_eq_true, if_false]
  refine Ev.bind t (Ev.bind (eqEar h r g (l.map toE) (by omega) (by omega)) ?_)
  simp only [if_true]
  refine Ev.bind (markEar h r g (l.map toE) 1 (by omega) (by omega)) ?_
  simp only [if_neg (show ¬ (1 : Int) + (g.length : Int) + 2 * ((l.map toE).length : Int) < 0 by omega)]
  refine Ev.bind (eqEar q1 q2 q3 q4 (by omega) (by omega)) ?_
  simp only [if_true]
  refine Ev.bind (eqByteS q5 (by omega)) ?_
  simp only [Bool.not_true]
  refine Ev.step (fun k => laws_FnExactEarRead.j1.eq_2 _ _ _ _ _ _ _ _ _ _ _ _ _ _ _ _ k) ?_
  simp only [Bool.false_eq_true, if_false]
  refine Ev.bind (markEar q1 q2 q3 q4 1 (by omega) (by omega)) (Ev.bind (markByteS q5 _ (by omega) (by omega)) (Ev.bind (heldEar q1 q2 q3.length q4.length 1 (by omega) (by omega)) ?_))
  simp only [if_neg (show ¬ (1 : Int) + (q3.length : Int) + 2 * (q4.length : Int) < 0 by omega)]
  refine Ev.bind (heldByteS q5.length _ (by omega) (by omega)) ?_
  simp only [if_neg (show ¬ (1 : Int) + (q3.length : Int) + 2 * (q4.length : Int) + (q5.length : Int) < 0 by omega), if_true]
  refine Ev.bind t (Ev.bind ei (Ev.bind (eqEar q1 q2 q3 q4 (by omega) (by omega)) ?_))
  simp only [if_true]
  refine Ev.bind (eqByteS q5 (by omega)) ?_
  simp only [Bool.not_true]
  refine Ev.step (fun k => laws_FnExactEarRead.j2.eq_2 _ _ _ _ _ _ _ k) ?_
  simp only [Bool.false_eq_true, if_false]
  refine Ev.bind (heldEar q1 q2 q3.length q4.length 1 (by omega) (by omega)) ?_
  simp only [if_neg (show ¬ (1 : Int) + (q3.length : Int) + 2 * (q4.length : Int) < 0 by omega)]
  refine Ev.bind (heldByteS q5.length _ (by omega) (by omega)) ?_
  simp only [if_neg (show ¬ (1 : Int) + (q3.length : Int) + 2 * (q4.length : Int) + (q5.length : Int) < 0 by omega), if_true]
  exact Ev.now _

end Go.Proofs.Ytjiodkbbmhhccaa.Pure
