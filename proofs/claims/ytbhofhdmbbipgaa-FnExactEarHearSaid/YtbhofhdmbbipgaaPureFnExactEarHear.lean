/- An ear hears as the reference's hears: the plain law. -/
import Derived.Test.YtbhofhdmbbipgaaPFnExactEarHearx
namespace Go.Proofs.Ytbhofhdmbbipgaa.Pure
set_option linter.unusedSimpArgs false
set_option linter.unusedVariables false
open Go.RowKit Go.Proofs.Ytbhofhdmbbipgaa.PFnExactEarHear Go.Proofs.YtbhofhdmbbipgaaW.PrintWords Go.Proofs.YtbhofhdmbbipgaaW.PrintLast Go.Proofs.YtbhofhdmbbipgaaW.PrintMore

theorem Ev.succ {α : Type} {g : Nat → Option α} {r : α} (h : Ev (fun k => g (k + 1)) r) : Ev g r := Ev.step (fun _ => rfl) h
theorem Ev.pure {α : Type} {o : Option α} {r : α} (h : o = some r) : Ev (fun _ => o) r := by rw [h]; exact Ev.now r
theorem Ev.cong {α : Type} {g g' : Nat → Option α} {r : α} (h : ∀ k, g k = g' k) (e : Ev g' r) : Ev g r := by rw [show g = g' from funext h]; exact e
theorem wrap_id {x : Int} (h0 : -9223372036854775808 ≤ x) (h1 : x ≤ 9223372036854775807) : wrap64 x = x := by unfold wrap64; omega

theorem rd_get (l : List Int) (i : Nat) (h : i < l.length) : rd l (i : Int) = l[i] := by
  unfold rd
  rw [Int.toNat_natCast, List.getD_eq_getElem?_getD, List.getElem?_eq_getElem h]; rfl
theorem take_set_succ {α : Type} (x : List α) (i : Nat) (v : α) (h : i < x.length) : (x.set i v).take (i + 1) = x.take i ++ [v] := by
  rw [List.take_succ_eq_append_getElem (by simpa using h), List.getElem_set_self, List.take_set, List.set_eq_of_length_le (by simp; omega)]


/-- toByteS: a copy. -/
theorem toByteS_l (l : List Int) (hl : l.length ≤ 1048576) (d : Nat) : ∀ (i : Nat) (x : List Int), i ≤ l.length → l.length - i = d → x.length = l.length → x.take i = l.take i →
    Ev (fun k => laws_toByteS.l0 k l x (i : Int)) l := by
  induction d with
  | zero =>
    intro i x hi hd hx ht
    have hil : i = l.length := by omega
    subst hil
    refine Ev.succ ?_
    simp only [laws_toByteS.l0]
    simp only [Int.lt_irrefl, if_false]
    have : x = l := by rw [← hx, List.take_length] at ht; rw [ht, hx, List.take_length]
    rw [this]; exact Ev.now l
  | succ d ih =>
    intro i x hi hd hx ht
    have hlt : i < l.length := by omega
    refine Ev.succ ?_
    simp only [laws_toByteS.l0]
    simp only [if_pos (show (i : Int) < (l.length : Int) by omega), if_pos (show (0 : Int) ≤ (i : Int) by omega), if_pos (show (i : Int) < (x.length : Int) by omega)]
    rw [wrap_id (by omega) (by omega), rd_get l i hlt, Int.toNat_natCast]
    refine ih (i + 1) _ (by omega) (by omega) (by simpa using hx) ?_
    rw [take_set_succ _ _ _ (by omega), ht, List.take_succ_eq_append_getElem hlt]
theorem toByteS (l : List Int) (hl : l.length ≤ 1048576) : Ev (fun k => laws_toByteS.f k l) l := by
  unfold laws_toByteS.f
  simp only [if_pos (show (0 : Int) ≤ (l.length : Int) by omega), Int.toNat_natCast, if_pos (show l.length ≤ 281474976710656 by omega)]
  exact toByteS_l l hl _ 0 _ (by omega) rfl (by simp) (by simp)
/-- eqByteS of a list and itself. -/
theorem eqByteS_l (l : List Int) (hl : l.length ≤ 9223372036854775806) (d : Nat) : ∀ (i : Nat), i ≤ l.length → l.length - i = d → Ev (fun k => laws_eqByteS.l0 k l l (i : Int)) true := by
  induction d with
  | zero =>
    intro i hi hd
    refine Ev.succ ?_
    simp only [laws_eqByteS.l0]
    simp only [if_neg (show ¬ (i : Int) < (l.length : Int) by omega)]
    exact Ev.now true
  | succ d ih =>
    intro i hi hd
    refine Ev.succ ?_
    simp only [laws_eqByteS.l0]
    simp only [if_pos (show (i : Int) < (l.length : Int) by omega), if_pos (show (0 : Int) ≤ (i : Int) by omega), if_true]
    rw [wrap_id (by omega) (by omega)]
    exact ih (i + 1) (by omega) (by omega)
theorem eqByteS (l : List Int) (hl : l.length ≤ 9223372036854775806) : Ev (fun k => laws_eqByteS.f k l l) true := by
  unfold laws_eqByteS.f
  simp only [if_true]
  exact eqByteS_l l hl _ 0 (by omega) rfl
/-- What markByteS leaves. -/
def markB : Nat → Int → List Int
  | 0, _ => []
  | n + 1, m => m % 256 :: markB n (m + 1)
theorem markB_length (n : Nat) (m : Int) : (markB n m).length = n := by
  induction n generalizing m with
  | zero => rfl
  | succ n ih => simp [markB, ih]
theorem markB_get (n : Nat) (m : Int) (i : Nat) (h : i < (markB n m).length) : (markB n m)[i] = (m + i) % 256 := by
  induction n generalizing m i with
  | zero => simp [markB] at h
  | succ n ih =>
    cases i with
    | zero => simp [markB]
    | succ i => simp only [markB, List.getElem_cons_succ]; rw [ih]; congr 1; push_cast; omega
theorem markByteS_l (n : Nat) (m : Int) (h0 : 0 ≤ m) (h1 : m + n ≤ 4611686018427387904) (d : Nat) : ∀ (i : Nat) (x : List Int), i ≤ n → n - i = d → x.length = n → x.take i = (markB n m).take i →
    Ev (fun k => laws_markByteS.l0 k x (m + i) (i : Int)) (m + n, markB n m) := by
  have hM := markB_length n m
  induction d with
  | zero =>
    intro i x hi hd hx ht
    have hil : i = n := by omega
    subst hil
    refine Ev.succ ?_
    simp only [laws_markByteS.l0]
    simp only [if_neg (show ¬ (i : Int) < (x.length : Int) by omega)]
    have : x = markB i m := by rw [List.take_of_length_le (by omega), List.take_of_length_le (by omega)] at ht; exact ht
    rw [this]; exact Ev.now _
  | succ d ih =>
    intro i x hi hd hx ht
    refine Ev.succ ?_
    simp only [laws_markByteS.l0]
    simp only [if_pos (show (i : Int) < (x.length : Int) by omega), if_pos (show (0 : Int) ≤ (i : Int) by omega)]
    rw [wrap_id (by omega) (by omega), wrap_id (by omega) (by omega), Int.toNat_natCast]
    have := ih (i + 1) (x.set i ((m + i) % 256)) (by omega) (by omega) (by simpa using hx) (by
      rw [take_set_succ _ _ _ (by omega), ht, List.take_succ_eq_append_getElem (by omega), markB_get])
    rw [show (m + ((i + 1 : Nat) : Int)) = m + i + 1 by push_cast; omega] at this
    exact this
theorem markByteS (l : List Int) (m : Int) (h0 : 0 ≤ m) (h1 : m + l.length ≤ 4611686018427387904) : Ev (fun k => laws_markByteS.f k l m) (m + l.length, markB l.length m) := by
  unfold laws_markByteS.f
  have := markByteS_l l.length m h0 h1 _ 0 l (by omega) rfl rfl (by simp)
  simpa using this
theorem heldByteS_l (n : Nat) (m : Int) (h0 : 0 ≤ m) (h1 : m + n ≤ 4611686018427387904) (d : Nat) : ∀ (i : Nat), i ≤ n → n - i = d → Ev (fun k => laws_heldByteS.l0 k (markB n m) (m + i) (i : Int)) (m + n) := by
  have hM := markB_length n m
  induction d with
  | zero =>
    intro i hi hd
    have hil : i = n := by omega
    subst hil
    refine Ev.succ ?_
    simp only [laws_heldByteS.l0]
    simp only [if_neg (show ¬ (i : Int) < ((markB i m).length : Int) by omega)]
    exact Ev.now _
  | succ d ih =>
    intro i hi hd
    refine Ev.succ ?_
    simp only [laws_heldByteS.l0]
    rw [rd_get _ i (by omega), markB_get]
    simp only [if_pos (show (i : Int) < ((markB n m).length : Int) by omega), if_pos (show (0 : Int) ≤ (i : Int) by omega), if_true]
    rw [wrap_id (by omega) (by omega), wrap_id (by omega) (by omega)]
    have := ih (i + 1) (by omega) (by omega)
    rw [show (m + ((i + 1 : Nat) : Int)) = m + i + 1 by push_cast; omega] at this
    exact this
theorem heldByteS (n : Nat) (m : Int) (h0 : 0 ≤ m) (h1 : m + n ≤ 4611686018427387904) : Ev (fun k => laws_heldByteS.f k (markB n m) m) (m + n) := by
  unfold laws_heldByteS.f
  have := heldByteS_l n m h0 h1 _ 0 (by omega) rfl
  simpa using this
theorem szByteS (l : List Int) (m : Int) (h : l.length ≤ 9223372036854775807) (h0 : 0 ≤ m) (h1 : m ≤ 1048576) : laws_szByteS.f l m = some (if m - l.length < 0 then -1 else m - l.length) := by
  unfold laws_szByteS.f
  rw [wrap_id (by omega) (by omega)]
  split <;> rfl


theorem rdE (l : List S96) (i : Nat) (h : i < l.length) : rd_T96 l (i : Int) = l[i] := by
  unfold rd_T96
  rw [Int.toNat_natCast, List.getD_eq_getElem?_getD, List.getElem?_eq_getElem h]; rfl

/-! rows of early bytes: what the test makes, compares, marks and finds held -/
theorem rdE' (l : List S121) (i : Nat) (h : i < l.length) : rd_T121 l (i : Int) = l[i] := by
  unfold rd_T121
  rw [Int.toNat_natCast, List.getD_eq_getElem?_getD, List.getElem?_eq_getElem h]; rfl
def toE (x : S121) : S96 := ⟨x.f0, x.f1⟩
theorem toEarlyS_l (l : List S121) (hl : l.length ≤ 1048576) (n : Nat) : ∀ (i : Nat) (x : List S96), i + n = l.length → x.length = l.length →
    ∃ y, Ev (fun k => laws_toEarlyS.l0 k l x (i : Int)) y ∧ y.take i = x.take i ∧ y.drop i = (l.drop i).map toE := by
  induction n with
  | zero =>
    intro i x hi hx
    refine ⟨x, Ev.succ ?_, rfl, ?_⟩
    · simp only [laws_toEarlyS.l0, if_neg (show ¬ (i : Int) < (l.length : Int) by omega)]
      exact Ev.now _
    · rw [List.drop_of_length_le (by omega), List.drop_of_length_le (by omega)]; rfl
  | succ n ih =>
    intro i x hi hx
    have hb : i < l.length := by omega
    obtain ⟨y, e, h1, h2⟩ := ih (i + 1) (x.set i (toE l[i])) (by omega) (by simp [hx])
    refine ⟨y, Ev.succ ?_, ?_, ?_⟩
    · simp only [laws_toEarlyS.l0, if_pos (show (i : Int) < (l.length : Int) by omega), if_pos (show (0 : Int) ≤ (i : Int) by omega), laws_toEarly.f, Option.bind_some, if_pos (show (i : Int) < (x.length : Int) by omega), Int.toNat_natCast, rdE' l i hb]
      rw [wrap_id (x := (i : Int) + 1) (by omega) (by omega)]
      exact e
    · have := congrArg (List.take i) h1
      rw [List.take_take, List.take_take, Nat.min_eq_left (by omega), List.take_set, List.set_eq_of_length_le (by simp; omega)] at this
      exact this
    · have h3 : i < y.length := by
        have := congrArg List.length h1
        simp [hx] at this; omega
      rw [List.drop_eq_getElem_cons h3, List.drop_eq_getElem_cons hb, List.map_cons, h2]
      congr 1
      have := congrArg (fun z => z[i]?) h1
      simp only [List.getElem?_take_of_lt (Nat.lt_succ_self i), List.getElem?_eq_getElem h3] at this
      rw [List.getElem?_set_self (by omega)] at this
      exact Option.some.inj this
theorem toEarlyS (l : List S121) (hl : l.length ≤ 1048576) : Ev (fun k => laws_toEarlyS.f k l) (l.map toE) := by
  unfold laws_toEarlyS.f
  simp only [if_pos (show (0 : Int) ≤ (l.length : Int) by omega), Int.toNat_natCast, if_pos (show l.length ≤ 17592186044416 by omega)]
  obtain ⟨y, e, _, h2⟩ := toEarlyS_l l hl l.length 0 (List.replicate l.length z96) (by omega) (by simp)
  rw [List.drop_zero, List.drop_zero] at h2
  rw [← h2]
  exact e
theorem eqEarlyS_l (l : List S96) (hl : l.length ≤ 9223372036854775806) (n : Nat) : ∀ i : Nat, i + n = l.length → Ev (fun k => laws_eqEarlyS.l0 k l l (i : Int)) true := by
  induction n with
  | zero =>
    intro i hi
    refine Ev.succ ?_
    simp only [laws_eqEarlyS.l0, if_neg (show ¬ (i : Int) < (l.length : Int) by omega)]
    exact Ev.now _
  | succ n ih =>
    intro i hi
    have h1 := ih (i + 1) (by omega)
    refine Ev.succ ?_
    simp only [laws_eqEarlyS.l0, if_pos (show (i : Int) < (l.length : Int) by omega), if_pos (show (0 : Int) ≤ (i : Int) by omega), laws_eqEarly.f, if_true, Option.bind_some]
    rw [wrap_id (x := (i : Int) + 1) (by omega) (by omega)]
    exact h1
theorem eqEarlyS (l : List S96) (hl : l.length ≤ 9223372036854775806) : Ev (fun k => laws_eqEarlyS.f k l l) true := by
  unfold laws_eqEarlyS.f; simp only [if_true]; exact eqEarlyS_l l hl l.length 0 (by omega)
/-- what marking leaves in a row of n -/
def markE (n : Nat) (m : Int) : List S96 := (List.range n).map fun i : Nat => ⟨m + 2 * (i : Int), (m + 2 * (i : Int) + 1) % 256⟩
theorem markE_length (n : Nat) (m : Int) : (markE n m).length = n := by simp [markE]
theorem markE_get (n : Nat) (m : Int) (i : Nat) (h : i < (markE n m).length) : (markE n m)[i] = ⟨m + 2 * i, (m + 2 * i + 1) % 256⟩ := by simp [markE]
theorem markEarlyS_l (n : Nat) (m : Int) (h0 : 0 ≤ m) (h1 : m + 2 * n ≤ 4611686018427387904) (d : Nat) : ∀ (i : Nat) (x : List S96), i ≤ n → n - i = d → x.length = n → x.take i = (markE n m).take i →
    Ev (fun k => laws_markEarlyS.l0 k x (m + 2 * i) (i : Int)) (m + 2 * n, markE n m) := by
  have hM := markE_length n m
  induction d with
  | zero =>
    intro i x hi hd hx ht
    have hil : i = n := by omega
    subst hil
    refine Ev.succ ?_
    simp only [laws_markEarlyS.l0]
    simp only [if_neg (show ¬ (i : Int) < (x.length : Int) by omega)]
    have : x = markE i m := by rw [List.take_of_length_le (by omega), List.take_of_length_le (by omega)] at ht; exact ht
    rw [this]; exact Ev.now _
  | succ d ih =>
    intro i x hi hd hx ht
    refine Ev.succ ?_
    simp only [laws_markEarlyS.l0]
    simp only [if_pos (show (i : Int) < (x.length : Int) by omega), if_pos (show (0 : Int) ≤ (i : Int) by omega), Option.bind_some, Int.toNat_natCast]
    rw [rdE x i (by omega), rdE (x.set i ⟨m + 2 * (i : Int), (x[i]'(by omega)).f1⟩) i (by rw [List.length_set]; omega)]
    simp only [List.getElem_set_self, List.set_set]
    rw [wrap_id (x := (i : Int) + 1) (by omega) (by omega), wrap_id (x := m + 2 * (i : Int) + 1) (by omega) (by omega), wrap_id (x := m + 2 * (i : Int) + 1 + 1) (by omega) (by omega)]
    have := ih (i + 1) (x.set i ⟨m + 2 * i, (m + 2 * i + 1) % 256⟩) (by omega) (by omega) (by simpa using hx) (by
      rw [take_set_succ _ _ _ (by omega), ht, List.take_succ_eq_append_getElem (by omega), markE_get])
    rw [show (m + 2 * ((i + 1 : Nat) : Int)) = m + 2 * i + 1 + 1 by push_cast; omega] at this
    exact this
theorem markEarlyS (l : List S96) (m : Int) (h0 : 0 ≤ m) (h1 : m + 2 * l.length ≤ 4611686018427387904) : Ev (fun k => laws_markEarlyS.f k l m) (m + 2 * l.length, markE l.length m) := by
  unfold laws_markEarlyS.f
  have := markEarlyS_l l.length m h0 h1 _ 0 l (by omega) rfl rfl (by simp)
  simpa using this
theorem heldEarlyS_l (n : Nat) (m : Int) (h0 : 0 ≤ m) (h1 : m + 2 * n ≤ 4611686018427387904) (d : Nat) : ∀ (i : Nat), i ≤ n → n - i = d → Ev (fun k => laws_heldEarlyS.l0 k (markE n m) (m + 2 * i) (i : Int)) (m + 2 * n) := by
  have hM := markE_length n m
  induction d with
  | zero =>
    intro i hi hd
    have hil : i = n := by omega
    subst hil
    refine Ev.succ ?_
    simp only [laws_heldEarlyS.l0]
    simp only [if_neg (show ¬ (i : Int) < ((markE i m).length : Int) by omega)]
    exact Ev.now _
  | succ d ih =>
    intro i hi hd
    refine Ev.succ ?_
    simp only [laws_heldEarlyS.l0]
    rw [rdE _ i (by omega), markE_get]
    simp only [if_pos (show (i : Int) < ((markE n m).length : Int) by omega), if_pos (show (0 : Int) ≤ (i : Int) by omega), if_true]
    rw [wrap_id (x := (i : Int) + 1) (by omega) (by omega), wrap_id (x := m + 2 * (i : Int) + 1) (by omega) (by omega), wrap_id (x := m + 2 * (i : Int) + 1 + 1) (by omega) (by omega)]
    simp only [if_true]
    have := ih (i + 1) (by omega) (by omega)
    rw [show (m + 2 * ((i + 1 : Nat) : Int)) = m + 2 * i + 1 + 1 by push_cast; omega] at this
    exact this
theorem heldEarlyS (n : Nat) (m : Int) (h0 : 0 ≤ m) (h1 : m + 2 * n ≤ 4611686018427387904) : Ev (fun k => laws_heldEarlyS.f k (markE n m) m) (m + 2 * n) := by
  unfold laws_heldEarlyS.f
  have := heldEarlyS_l n m h0 h1 _ 0 (by omega) rfl
  simpa using this
theorem szEarlyS (l : List S121) (m : Int) (h : l.length ≤ 9223372036854775807) (h0 : 0 ≤ m) (h1 : m ≤ 1048576) : laws_szEarlyS.f l m = some (if m - l.length < 0 then -1 else m - l.length) := by
  unfold laws_szEarlyS.f
  rw [wrap_id (by omega) (by omega)]
  split <;> rfl

/-! EarOk -/
def earAt (h f : Int) (l : List S96) (i : Nat) : Bool := decide (h < (rd_T96 l (i : Int)).f0) && decide ((rd_T96 l (i : Int)).f0 < h + f) && (i == 0 || decide ((rd_T96 l ((i : Int) - 1)).f0 < (rd_T96 l (i : Int)).f0))
def earFrom (h f : Int) (l : List S96) : Nat → Nat → Bool
  | 0, _ => true
  | d + 1, i => earAt h f l i && earFrom h f l d (i + 1)
def earOk (h room : Int) (g : List Int) (l : List S96) : Bool := decide (0 ≤ h) && decide (h ≤ 1000000) && decide (1 ≤ room) && decide (room ≤ 32) && decide ((g.length : Int) ≤ room) && earFrom h (room - g.length) l l.length 0
theorem impl_earOk_l (h room : Int) (g : List Int) (l : List S96) (h0 : 0 ≤ h) (h1 : h ≤ 1000000) (r0 : 1 ≤ room) (r1 : room ≤ 32) (hg : (g.length : Int) ≤ room) (hl : l.length ≤ 1099511627776) (d : Nat) :
    ∀ i : Nat, i + d = l.length → Ev (fun k => impl_EarOk.l0 k l (l.length : Int) (i : Int) h room g l) (earFrom h (room - g.length) l d i) := by
  induction d with
  | zero =>
    intro i hi
    refine Ev.step (fun k => impl_EarOk.l0.eq_2 _ _ _ _ _ _ _ k) ?_
    simp only [if_neg (show ¬ (i : Int) < (l.length : Int) by omega), earFrom]
    exact Ev.now _
  | succ d ih =>
    intro i hi
    have ih := ih (i + 1) (by omega)
    have a1 : (i : Int) < (l.length : Int) := by omega
    have a2 : (0 : Int) ≤ (i : Int) := by omega
    have j2 : ∀ b, Ev (fun k => impl_EarOk.j2 k l (l.length : Int) (i : Int) b h room g l) (!b && earFrom h (room - g.length) l d (i + 1)) := by
      intro b
      refine Ev.step (fun k => impl_EarOk.j2.eq_2 _ _ _ _ _ _ _ _ k) ?_
      cases b with
      | true => simp only [if_true]; exact Ev.now _
      | false =>
        simp only [Bool.false_eq_true, if_false]
        rw [wrap_id (x := (i : Int) + 1) (by omega) (by omega)]
        exact ih
    refine Ev.step (fun k => impl_EarOk.l0.eq_2 _ _ _ _ _ _ _ k) ?_
    simp only [if_pos a1, if_pos a2, impl_Ear_free.f, impl_in.f, Option.bind_some]
    rw [wrap_id (x := room - (g.length : Int)) (by omega) (by omega), wrap_id (x := h + 1) (by omega) (by omega), wrap_id (x := h + (room - (g.length : Int))) (by omega) (by omega), wrap_id (x := h + (room - (g.length : Int)) - 1) (by omega) (by omega)]
    simp only [earFrom, earAt]
    generalize rd_T96 l (i : Int) = e
    by_cases c1 : e.f0 ≥ h + 1
    · simp only [if_pos c1, Option.bind_some]
      by_cases c2 : e.f0 ≤ h + (room - (g.length : Int)) - 1
      · simp only [decide_eq_true c2, if_true]
        by_cases c3 : (i : Int) > 0
        · have a3 : 0 ≤ (i : Int) - 1 := by omega
          have a4 : (i : Int) - 1 < (l.length : Int) := by omega
          have a5 : (i == 0) = false := by rw [beq_eq_false_iff_ne]; omega
          have a6 : decide (h < e.f0) = true := decide_eq_true (by omega)
          have a7 : decide (e.f0 < h + (room - (g.length : Int))) = true := decide_eq_true (by omega)
          rw [wrap_id (x := (i : Int) - 1) (by omega) (by omega)]
          simp only [if_pos c3, if_pos a3, if_pos a4, a5, a6, a7, Bool.true_and, Bool.false_or]
          have := j2 (decide ((rd_T96 l ((i : Int) - 1)).f0 ≥ e.f0))
          rw [show (!decide ((rd_T96 l ((i : Int) - 1)).f0 ≥ e.f0)) = decide ((rd_T96 l ((i : Int) - 1)).f0 < e.f0) by rw [Bool.eq_iff_iff]; simp] at this
          exact this
        · have a5 : (i == 0) = true := by rw [beq_iff_eq]; omega
          have a6 : decide (h < e.f0) = true := decide_eq_true (by omega)
          have a7 : decide (e.f0 < h + (room - (g.length : Int))) = true := decide_eq_true (by omega)
          simp only [if_neg c3, a5, a6, a7, Bool.true_and, Bool.true_or]
          exact j2 false
      · have a7 : decide (e.f0 < h + (room - (g.length : Int))) = false := decide_eq_false (by omega)
        simp only [decide_eq_false c2, Bool.false_eq_true, if_false, a7, Bool.and_false, Bool.false_and]
        exact j2 true
    · have a6 : decide (h < e.f0) = false := decide_eq_false (by omega)
      simp only [if_neg c1, Option.bind_some, Bool.false_eq_true, if_false, a6, Bool.false_and]
      exact j2 true
theorem impl_earOk (h room : Int) (g : List Int) (l : List S96) (hg : g.length ≤ 1099511627776) (hl : l.length ≤ 1099511627776) : Ev (fun k => impl_EarOk.f k h room g l) (earOk h room g l) := by
  have j0 : ∀ b, (b = false → (0 ≤ h ∧ h ≤ 1000000 ∧ 1 ≤ room ∧ room ≤ 32 ∧ (g.length : Int) ≤ room)) → Ev (fun k => impl_EarOk.j0 k b h room g l) (!b && earFrom h (room - g.length) l l.length 0) := by
    intro b hb
    refine Ev.step (fun k => impl_EarOk.j0.eq_2 _ _ _ _ _ k) ?_
    cases b with
    | true => simp only [if_true]; exact Ev.now _
    | false =>
      obtain ⟨b1, b2, b3, b4, b5⟩ := hb rfl
      simp only [Bool.false_eq_true, if_false]
      exact impl_earOk_l h room g l b1 b2 b3 b4 b5 hl l.length 0 (by omega)
  unfold impl_EarOk.f earOk
  simp only [impl_in.f, impl_Ear_free.f]
  by_cases c1 : h ≥ 0
  · simp only [if_pos c1, Option.bind_some]
    by_cases c2 : h ≤ 1000000
    · simp only [decide_eq_true c2, if_true]
      by_cases c3 : room ≥ 1
      · simp only [if_pos c3, Option.bind_some]
        by_cases c4 : room ≤ 32
        · simp only [decide_eq_true c4, if_true]
          rw [wrap_id (x := room - (g.length : Int)) (by omega) (by omega)]
          have := j0 (decide (room - (g.length : Int) < 0)) (by intro hh; have := of_decide_eq_false hh; omega)
          rw [show (!decide (room - (g.length : Int) < 0)) = decide ((g.length : Int) ≤ room) by rw [Bool.eq_iff_iff]; simp] at this
          simpa [c1, c3] using this
        · simp only [decide_eq_false c4, Bool.false_eq_true, if_false]
          simpa [c4] using j0 true (by intro hh; cases hh)
      · simp only [if_neg c3, Option.bind_some, Bool.false_eq_true, if_false]
        simpa [show ¬ 1 ≤ room from c3] using j0 true (by intro hh; cases hh)
    · simp only [decide_eq_false c2, Bool.false_eq_true, if_false]
      simpa [c2] using j0 true (by intro hh; cases hh)
  · simp only [if_neg c1, Option.bind_some, Bool.false_eq_true, if_false]
    simpa [show ¬ 0 ≤ h from c1] using j0 true (by intro hh; cases hh)
theorem spec_earOk_l (h room : Int) (g : List Int) (l : List S96) (h0 : 0 ≤ h) (h1 : h ≤ 1000000) (r0 : 1 ≤ room) (r1 : room ≤ 32) (hg : (g.length : Int) ≤ room) (hl : l.length ≤ 1099511627776) (d : Nat) :
    ∀ i : Nat, i + d = l.length → Ev (fun k => spec_EarOk.l0 k (i : Int) h room g l) (earFrom h (room - g.length) l d i) := by
  induction d with
  | zero =>
    intro i hi
    refine Ev.step (fun k => spec_EarOk.l0.eq_2 _ _ _ _ _ k) ?_
    simp only [if_neg (show ¬ (i : Int) < (l.length : Int) by omega), earFrom]
    exact Ev.now _
  | succ d ih =>
    intro i hi
    have ih := ih (i + 1) (by omega)
    have a1 : (i : Int) < (l.length : Int) := by omega
    have a2 : (0 : Int) ≤ (i : Int) := by omega
    have j2 : ∀ b, Ev (fun k => spec_EarOk.j2 k (i : Int) b h room g l) (!b && earFrom h (room - g.length) l d (i + 1)) := by
      intro b
      refine Ev.step (fun k => spec_EarOk.j2.eq_2 _ _ _ _ _ _ k) ?_
      cases b with
      | true => simp only [if_true]; exact Ev.now _
      | false =>
        simp only [Bool.false_eq_true, if_false]
        rw [wrap_id (x := (i : Int) + 1) (by omega) (by omega)]
        exact ih
    refine Ev.step (fun k => spec_EarOk.l0.eq_2 _ _ _ _ _ k) ?_
    simp only [if_pos a1, if_pos a2]
    rw [wrap_id (x := h + room) (by omega) (by omega), wrap_id (x := h + room - (g.length : Int)) (by omega) (by omega)]
    simp only [earFrom, earAt]
    generalize rd_T96 l (i : Int) = e
    by_cases c1 : e.f0 ≤ h
    · have a6 : decide (h < e.f0) = false := decide_eq_false (by omega)
      simp only [if_pos c1, a6, Bool.false_and]
      exact j2 true
    · by_cases c2 : e.f0 ≥ h + room - (g.length : Int)
      · have a7 : decide (e.f0 < h + (room - (g.length : Int))) = false := decide_eq_false (by omega)
        simp only [if_neg c1, if_pos c2, a7, Bool.and_false, Bool.false_and]
        exact j2 true
      · have a6 : decide (h < e.f0) = true := decide_eq_true (by omega)
        have a7 : decide (e.f0 < h + (room - (g.length : Int))) = true := decide_eq_true (by omega)
        by_cases c3 : (i : Int) > 0
        · have a3 : 0 ≤ (i : Int) - 1 := by omega
          have a4 : (i : Int) - 1 < (l.length : Int) := by omega
          have a5 : (i == 0) = false := by rw [beq_eq_false_iff_ne]; omega
          rw [wrap_id (x := (i : Int) - 1) (by omega) (by omega)]
          simp only [if_neg c1, if_neg c2, if_pos c3, if_pos a3, if_pos a4, a5, a6, a7, Bool.true_and, Bool.false_or]
          have := j2 (decide ((rd_T96 l ((i : Int) - 1)).f0 ≥ e.f0))
          rw [show (!decide ((rd_T96 l ((i : Int) - 1)).f0 ≥ e.f0)) = decide ((rd_T96 l ((i : Int) - 1)).f0 < e.f0) by rw [Bool.eq_iff_iff]; simp] at this
          exact this
        · have a5 : (i == 0) = true := by rw [beq_iff_eq]; omega
          simp only [if_neg c1, if_neg c2, if_neg c3, a5, a6, a7, Bool.true_and, Bool.true_or]
          exact j2 false
theorem spec_earOk (h room : Int) (g : List Int) (l : List S96) (hg : g.length ≤ 1099511627776) (hl : l.length ≤ 1099511627776) : Ev (fun k => spec_EarOk.f k h room g l) (earOk h room g l) := by
  have j0 : ∀ b, (b = false → (0 ≤ h ∧ h ≤ 1000000 ∧ 1 ≤ room ∧ room ≤ 32 ∧ (g.length : Int) ≤ room)) → Ev (fun k => spec_EarOk.j0 k b h room g l) (!b && earFrom h (room - g.length) l l.length 0) := by
    intro b hb
    refine Ev.step (fun k => spec_EarOk.j0.eq_2 _ _ _ _ _ k) ?_
    cases b with
    | true => simp only [if_true]; exact Ev.now _
    | false =>
      obtain ⟨b1, b2, b3, b4, b5⟩ := hb rfl
      simp only [Bool.false_eq_true, if_false]
      exact spec_earOk_l h room g l b1 b2 b3 b4 b5 hl l.length 0 (by omega)
  unfold spec_EarOk.f earOk
  simp only [spec_l1In.f]
  by_cases c1 : h ≥ 0
  · simp only [if_pos c1, Option.bind_some]
    by_cases c2 : h ≤ 1000000
    · simp only [decide_eq_true c2, if_true]
      by_cases c3 : room ≥ 1
      · simp only [if_pos c3, Option.bind_some]
        by_cases c4 : room ≤ 32
        · simp only [decide_eq_true c4, if_true]
          have := j0 (decide ((g.length : Int) > room)) (by intro hh; have := of_decide_eq_false hh; omega)
          rw [show (!decide ((g.length : Int) > room)) = decide ((g.length : Int) ≤ room) by rw [Bool.eq_iff_iff]; simp] at this
          simpa [c1, c3] using this
        · simp only [decide_eq_false c4, Bool.false_eq_true, if_false]
          simpa [c4] using j0 true (by intro hh; cases hh)
      · simp only [if_neg c3, Option.bind_some, Bool.false_eq_true, if_false]
        simpa [show ¬ 1 ≤ room from c3] using j0 true (by intro hh; cases hh)
    · simp only [decide_eq_false c2, Bool.false_eq_true, if_false]
      simpa [c2] using j0 true (by intro hh; cases hh)
  · simp only [if_neg c1, Option.bind_some, Bool.false_eq_true, if_false]
    simpa [show ¬ 0 ≤ h from c1] using j0 true (by intro hh; cases hh)

/-! EarFree -/
theorem earOk_le {h room : Int} {g : List Int} {l : List S96} (c : earOk h room g l = true) : 0 ≤ h ∧ h ≤ 1000000 ∧ 1 ≤ room ∧ room ≤ 32 ∧ (g.length : Int) ≤ room := by
  unfold earOk at c
  simp only [Bool.and_eq_true, decide_eq_true_eq] at c
  obtain ⟨⟨⟨⟨⟨c1, c2⟩, c3⟩, c4⟩, c5⟩, _⟩ := c
  exact ⟨c1, c2, c3, c4, c5⟩
def earFree (h room : Int) (g : List Int) (l : List S96) : Int := if earOk h room g l = true then room - g.length else 0
theorem spec_earFree (h room : Int) (g : List Int) (l : List S96) (hg : g.length ≤ 1099511627776) (hl : l.length ≤ 1099511627776) : Ev (fun k => spec_EarFree.f k h room g l) (earFree h room g l) := by
  unfold spec_EarFree.f earFree
  refine Ev.bind (spec_earOk h room g l hg hl) ?_
  by_cases c : earOk h room g l = true
  · obtain ⟨c1, c2, c3, c4, c5⟩ := earOk_le c
    simp only [c, if_true]
    rw [wrap_id (x := room - (g.length : Int)) (by omega) (by omega)]
    exact Ev.now _
  · simp only [c, if_false, Bool.false_eq_true]
    exact Ev.now _

/-! The rest of an ear's test -/
theorem toEar (h r : Int) (g : List Int) (l : List S121) (hg : g.length ≤ 1048576) (hl : l.length ≤ 1048576) : Ev (fun k => laws_toEar.f k h r g l) (h, r, g, l.map toE) := by
  unfold laws_toEar.f
  exact Ev.bind (toByteS g hg) (Ev.bind (toEarlyS l hl) (Ev.now _))
theorem eqEar (h r : Int) (g : List Int) (l : List S96) (hg : g.length ≤ 9223372036854775806) (hl : l.length ≤ 9223372036854775806) : Ev (fun k => laws_eqEar.f k h r g l h r g l) true := by
  unfold laws_eqEar.f
  simp only [if_true]
  refine Ev.bind (eqByteS g hg) ?_
  simp only [if_true]
  refine Ev.bind (eqEarlyS l hl) ?_
  simp only [if_true]
  exact Ev.now _
theorem markEar (h r : Int) (g : List Int) (l : List S96) (m : Int) (h0 : 0 ≤ m) (h1 : m + g.length + 2 * l.length ≤ 4611686018427387904) : Ev (fun k => laws_markEar.f k h r g l m) (m + g.length + 2 * l.length, markB g.length m, markE l.length (m + g.length)) := by
  unfold laws_markEar.f
  exact Ev.bind (markByteS g m h0 (by omega)) (Ev.bind (markEarlyS l (m + g.length) (by omega) (by omega)) (Ev.now _))
theorem heldEar (h r : Int) (n1 n2 : Nat) (m : Int) (h0 : 0 ≤ m) (h1 : m + n1 + 2 * n2 ≤ 4611686018427387904) : Ev (fun k => laws_heldEar.f k h r (markB n1 m) (markE n2 (m + n1)) m) (m + n1 + 2 * n2) := by
  unfold laws_heldEar.f
  refine Ev.bind (heldByteS n1 m h0 (by omega)) ?_
  simp only [if_neg (show ¬ m + (n1 : Int) < 0 by omega)]
  refine Ev.bind (heldEarlyS n2 (m + n1) (by omega) (by omega)) ?_
  simp only [if_neg (show ¬ m + (n1 : Int) + 2 * (n2 : Int) < 0 by omega)]
  exact Ev.now _

/-! EarHear: what both compute -/
/-- an early byte laid at its place, if none is there -/
def putE : List S96 → S96 → List S96
  | [], e => [e]
  | x :: l, e => if e.f0 < x.f0 then e :: x :: l else if e.f0 = x.f0 then x :: l else x :: putE l e
def hearL (h f : Int) : Int → List Int → List S96 → List S96
  | _, [], far => far
  | q, b :: x, far => hearL h f (q + 1) x (if h ≤ q ∧ q < h + f then putE far ⟨q, b⟩ else far)
def drainE : List S96 → Int → List Int → Int × List Int × List S96
  | [], n, g => (n, g, [])
  | x :: l, n, g => if x.f0 = n then drainE l (n + 1) (g ++ [x.f1]) else (n, g, x :: l)
def earHear (h room : Int) (g : List Int) (l : List S96) (p : Int) (x : List Int) : Int × Int × List Int × List S96 :=
  if earOk h room g l = true ∧ 0 ≤ p ∧ p ≤ 1000000 then
    (let y := drainE (hearL h (room - g.length) p x l) h g
     if y.1 > 1000000 then (0, 0, [], []) else (y.1, room, y.2.1, y.2.2))
  else (0, 0, [], [])
theorem putE_len (e : S96) : ∀ l : List S96, (putE l e).length ≤ l.length + 1
  | [] => by simp [putE]
  | x :: l => by
    have := putE_len e l
    unfold putE
    split
    · simp
    · split
      · simp
      · simp only [List.length_cons]; omega
theorem hearL_len (h f : Int) : ∀ (x : List Int) (q : Int) (far : List S96), (hearL h f q x far).length ≤ far.length + x.length
  | [], _, _ => by simp [hearL]
  | b :: x, q, far => by
    unfold hearL
    have h1 := hearL_len h f x (q + 1) (if h ≤ q ∧ q < h + f then putE far ⟨q, b⟩ else far)
    have h2 : (if h ≤ q ∧ q < h + f then putE far ⟨q, b⟩ else far).length ≤ far.length + 1 := by
      split
      · exact putE_len _ _
      · omega
    simp only [List.length_cons]; omega
/-! in order, within bounds -/
def goodE (h f : Int) (l : List S96) : Prop := l.Pairwise (fun x y => x.f0 < y.f0) ∧ ∀ x ∈ l, h ≤ x.f0 ∧ x.f0 < h + f
theorem putE_mem (e : S96) : ∀ (l : List S96) (y : S96), y ∈ putE l e → y = e ∨ y ∈ l
  | [], y, h => by simp [putE] at h; exact .inl h
  | x :: l, y, h => by
    unfold putE at h
    split at h
    · rcases List.mem_cons.1 h with h | h
      · exact .inl h
      · exact .inr h
    · split at h
      · exact .inr h
      · rcases List.mem_cons.1 h with h | h
        · exact .inr (by rw [h]; exact List.mem_cons_self)
        · rcases putE_mem e l y h with h | h
          · exact .inl h
          · exact .inr (List.mem_cons_of_mem _ h)
theorem putE_sort (e : S96) : ∀ l : List S96, l.Pairwise (fun x y => x.f0 < y.f0) → (putE l e).Pairwise (fun x y => x.f0 < y.f0)
  | [], _ => by simp [putE]
  | x :: l, h => by
    obtain ⟨h1, h2⟩ := List.pairwise_cons.1 h
    unfold putE
    split
    · rename_i c
      refine List.pairwise_cons.2 ⟨fun y hy => ?_, h⟩
      rcases List.mem_cons.1 hy with rfl | hy
      · exact c
      · have := h1 y hy; omega
    · split
      · exact h
      · refine List.pairwise_cons.2 ⟨fun y hy => ?_, putE_sort e l h2⟩
        rcases putE_mem e l y hy with rfl | hy
        · omega
        · exact h1 y hy
theorem putE_good {h f : Int} {l : List S96} (hl : goodE h f l) (e : S96) (h0 : h ≤ e.f0) (h1 : e.f0 < h + f) : goodE h f (putE l e) := by
  refine ⟨putE_sort e l hl.1, fun y hy => ?_⟩
  rcases putE_mem e l y hy with rfl | hy
  · exact ⟨h0, h1⟩
  · exact hl.2 y hy
theorem putE_at (e : S96) : ∀ (l : List S96) (k : Nat), k ≤ l.length → (∀ m (hm : m < l.length), m < k → l[m].f0 < e.f0) → (∀ hk : k < l.length, e.f0 < l[k].f0) → putE l e = l.take k ++ [e] ++ l.drop k
  | [], k, hk, _, _ => by simp [putE]
  | x :: l, 0, hk, _, h2 => by
    have := h2 (by simp)
    simp only [List.getElem_cons_zero] at this
    simp [putE, this]
  | x :: l, k + 1, hk, h1, h2 => by
    have hx := h1 0 (by simp) (by omega)
    simp only [List.getElem_cons_zero] at hx
    have ih := putE_at e l k (by simpa using hk) (fun m hm hmk => by have := h1 (m + 1) (by simpa using hm) (by omega); simpa using this) (fun hk' => by have := h2 (by simpa using hk'); simpa using this)
    simp only [putE, if_neg (show ¬ e.f0 < x.f0 by omega), if_neg (show ¬ e.f0 = x.f0 by omega), ih]
    simp
theorem putE_has (e : S96) : ∀ (l : List S96) (k : Nat) (hk : k < l.length), (∀ m (hm : m < l.length), m < k → l[m].f0 < e.f0) → l[k].f0 = e.f0 → putE l e = l
  | x :: l, 0, hk, _, h2 => by
    simp only [List.getElem_cons_zero] at h2
    simp only [putE, if_neg (show ¬ e.f0 < x.f0 by omega), if_pos h2.symm]
  | x :: l, k + 1, hk, h1, h2 => by
    have hx := h1 0 (by simp) (by omega)
    simp only [List.getElem_cons_zero] at hx
    have ih := putE_has e l k (by simpa using hk) (fun m hm hmk => by have := h1 (m + 1) (by simpa using hm) (by omega); simpa using this) (by simpa using h2)
    simp only [putE, if_neg (show ¬ e.f0 < x.f0 by omega), if_neg (show ¬ e.f0 = x.f0 by omega), ih]
/-! the reference -/
theorem specPut_l (l : List S96) (a b : Int) (hl : l.length ≤ 100000000) (d : Nat) : ∀ (i : Nat) (acc : List S96), i + d = l.length → acc.length ≤ i + 1 →
    Ev (fun k => spec_l12Put.l0 k l acc true (i : Int) a b) (acc ++ l.drop i) ∧ (acc.length ≤ i → Ev (fun k => spec_l12Put.l0 k l acc false (i : Int) a b) (acc ++ putE (l.drop i) ⟨a, b⟩)) := by
  induction d with
  | zero =>
    intro i acc hi h1
    rw [List.drop_of_length_le (by omega)]
    refine ⟨Ev.step (fun k => spec_l12Put.l0.eq_2 _ _ _ _ _ _ k) ?_, fun h2 => Ev.step (fun k => spec_l12Put.l0.eq_2 _ _ _ _ _ _ k) ?_⟩
    · simp only [if_neg (show ¬ (i : Int) < (l.length : Int) by omega), if_true, List.append_nil]
      exact Ev.now _
    · simp only [if_neg (show ¬ (i : Int) < (l.length : Int) by omega), Bool.false_eq_true, if_false, if_pos (show acc.length < 8796093022208 by omega), putE]
      exact Ev.now _
  | succ d ih =>
    intro i acc hi h1
    have hb : i < l.length := by omega
    rw [List.drop_eq_getElem_cons hb]
    have j2t : ∀ acc : List S96, acc.length ≤ i + 1 → Ev (fun k => spec_l12Put.j2 k l acc true (i : Int) a b) (acc ++ l[i] :: l.drop (i + 1)) := by
      intro acc h1
      have e := (ih (i + 1) (acc ++ [l[i]]) (by omega) (by rw [List.length_append, List.length_singleton]; omega)).1
      rw [List.append_assoc, List.singleton_append] at e
      refine Ev.step (fun k => spec_l12Put.j2.eq_2 _ _ _ _ _ _ k) ?_
      simp only [if_pos (show (0 : Int) ≤ (i : Int) by omega), if_pos (show (i : Int) < (l.length : Int) by omega), rdE l i hb, if_pos (show acc.length < 8796093022208 by omega)]
      rw [wrap_id (x := (i : Int) + 1) (by omega) (by omega)]
      split <;> exact e
    refine ⟨?_, fun h2 => ?_⟩
    · refine Ev.step (fun k => spec_l12Put.l0.eq_2 _ _ _ _ _ _ k) ?_
      simp only [if_pos (show (i : Int) < (l.length : Int) by omega), if_true]
      refine Ev.step (fun k => spec_l12Put.j1.eq_2 _ _ _ _ _ _ _ k) ?_
      simp only [Bool.false_eq_true, if_false]
      exact j2t acc h1
    · refine Ev.step (fun k => spec_l12Put.l0.eq_2 _ _ _ _ _ _ k) ?_
      by_cases c : a < l[i].f0
      · simp only [if_pos (show (i : Int) < (l.length : Int) by omega), Bool.false_eq_true, if_false, if_pos (show (0 : Int) ≤ (i : Int) by omega), rdE l i hb, decide_eq_true c, putE, if_pos c]
        refine Ev.step (fun k => spec_l12Put.j1.eq_2 _ _ _ _ _ _ _ k) ?_
        simp only [if_true, if_pos (show acc.length < 8796093022208 by omega)]
        have e := j2t (acc ++ [⟨a, b⟩]) (by rw [List.length_append, List.length_singleton]; omega)
        rw [List.append_assoc, List.singleton_append] at e
        exact e
      · simp only [if_pos (show (i : Int) < (l.length : Int) by omega), Bool.false_eq_true, if_false, if_pos (show (0 : Int) ≤ (i : Int) by omega), rdE l i hb, decide_eq_false c, putE, if_neg c]
        refine Ev.step (fun k => spec_l12Put.j1.eq_2 _ _ _ _ _ _ _ k) ?_
        simp only [Bool.false_eq_true, if_false]
        refine Ev.step (fun k => spec_l12Put.j2.eq_2 _ _ _ _ _ _ k) ?_
        have e := ih (i + 1) (acc ++ [l[i]]) (by omega) (by rw [List.length_append, List.length_singleton]; omega)
        simp only [List.append_assoc, List.singleton_append] at e
        simp only [if_pos (show (0 : Int) ≤ (i : Int) by omega), if_pos (show (i : Int) < (l.length : Int) by omega), rdE l i hb, if_pos (show acc.length < 8796093022208 by omega)]
        rw [wrap_id (x := (i : Int) + 1) (by omega) (by omega)]
        by_cases c2 : a = l[i].f0
        · simp only [if_pos c2]
          exact e.1
        · simp only [if_neg c2]
          exact e.2 (by rw [List.length_append, List.length_singleton]; omega)
theorem specPut (l : List S96) (a b : Int) (hl : l.length ≤ 100000000) : Ev (fun k => spec_l12Put.f k l a b) (putE l ⟨a, b⟩) := by
  unfold spec_l12Put.f
  exact (specPut_l l a b hl l.length 0 [] (by omega) (by simp)).2 (by simp)
theorem specDrain (l : List S96) (room : Int) (hl : l.length ≤ 100000000) (d : Nat) : ∀ (i : Nat) (h : Int) (g : List Int), i + d = l.length → 0 ≤ h → h + d ≤ 1000000000 → g.length + d ≤ 1000000000 →
    Ev (fun k => spec_EarHear.l1 k l (i : Int) h room g) (let y := drainE (l.drop i) h g; if y.1 > 1000000 then (0, 0, [], []) else (y.1, room, y.2.1, y.2.2)) := by
  have j3 : ∀ (i : Nat) (h : Int) (g : List Int), i ≤ l.length → Ev (fun k => spec_EarHear.j3 k l (i : Int) h room g) (if h > 1000000 then (0, 0, [], []) else (h, room, g, l.drop i)) := by
    intro i h g hi
    refine Ev.step (fun k => spec_EarHear.j3.eq_2 _ _ _ _ _ k) ?_
    simp only [if_pos (show (0 : Int) ≤ (i : Int) by omega), if_pos (show (i : Int) ≤ (l.length : Int) by omega), Int.toNat_natCast]
    split <;> exact Ev.now _
  induction d with
  | zero =>
    intro i h g hi h0 h1 hg
    refine Ev.step (fun k => spec_EarHear.l1.eq_2 _ _ _ _ _ k) ?_
    simp only [if_neg (show ¬ (i : Int) < (l.length : Int) by omega)]
    have e := j3 i h g (by omega)
    rw [List.drop_of_length_le (show l.length ≤ i by omega)] at e ⊢
    exact e
  | succ d ih =>
    intro i h g hi h0 h1 hg
    have hb : i < l.length := by omega
    refine Ev.step (fun k => spec_EarHear.l1.eq_2 _ _ _ _ _ k) ?_
    have e3 := j3 i h g (by omega)
    rw [List.drop_eq_getElem_cons hb] at e3 ⊢
    simp only [if_pos (show (i : Int) < (l.length : Int) by omega), if_pos (show (0 : Int) ≤ (i : Int) by omega), rdE l i hb, drainE]
    by_cases c : l[i].f0 = h
    · simp only [if_pos c, if_pos (show g.length < 140737488355328 by omega)]
      rw [wrap_id (x := (i : Int) + 1) (by omega) (by omega), wrap_id (x := h + 1) (by omega) (by omega)]
      exact ih (i + 1) (h + 1) (g ++ [l[i].f1]) (by omega) (by omega) (by omega) (by rw [List.length_append, List.length_singleton]; omega)
    · simp only [if_neg c]
      exact e3
theorem specHear_l0 (p : Int) (x : List Int) (f h room : Int) (g : List Int) (l : List S96) (p0 : 0 ≤ p) (p1 : p ≤ 1000000) (hx : x.length ≤ 10000000) (f0 : 0 ≤ f) (f1 : f ≤ 32) (h0 : 0 ≤ h) (h1 : h ≤ 1000000) (hg : g.length ≤ 32) (d : Nat) : ∀ (i : Nat) (far : List S96), i + d = x.length → far.length ≤ 10000000 + i →
    Ev (fun k => spec_EarHear.l0 k p x f far (i : Int) h room g l) (let y := drainE (hearL h f (p + i) (x.drop i) far) h g; if y.1 > 1000000 then (0, 0, [], []) else (y.1, room, y.2.1, y.2.2)) := by
  induction d with
  | zero =>
    intro i far hi hf
    rw [List.drop_of_length_le (show x.length ≤ i by omega)]
    have e := specDrain far room (by omega) far.length 0 h g (by omega) h0 (by omega) (by omega)
    rw [List.drop_zero] at e
    refine Ev.step (fun k => spec_EarHear.l0.eq_2 _ _ _ _ _ _ _ _ _ k) ?_
    simp only [if_neg (show ¬ (i : Int) < (x.length : Int) by omega), Option.bind_some, List.nil_append, hearL]
    simp only [if_pos (show ([] : List Int).length + g.length < 140737488355328 by rw [List.length_nil]; omega)]
    exact e
  | succ d ih =>
    intro i far hi hf
    have hb : i < x.length := by omega
    have w1 : wrap64 (p + (i : Int)) = p + (i : Int) := wrap_id (by omega) (by omega)
    have w2 : wrap64 (h + f) = h + f := wrap_id (by omega) (by omega)
    have w3 : wrap64 ((i : Int) + 1) = ((i + 1 : Nat) : Int) := by rw [wrap_id (by omega) (by omega)]; omega
    refine Ev.step (fun k => spec_EarHear.l0.eq_2 _ _ _ _ _ _ _ _ _ k) ?_
    rw [w1, w2, w3, List.drop_eq_getElem_cons hb]
    clear w1 w2 w3
    have hq : p + (i : Int) + 1 = p + ((i + 1 : Nat) : Int) := by omega
    simp only [if_pos (show (i : Int) < (x.length : Int) by omega), if_pos (show (0 : Int) ≤ (i : Int) by omega), hearL, rd_get x i hb, hq]
    by_cases c1 : p + (i : Int) ≥ h
    · by_cases c2 : p + (i : Int) < h + f
      · simp only [if_pos c1, if_pos c2, if_pos (show h ≤ p + (i : Int) ∧ p + (i : Int) < h + f from ⟨c1, c2⟩)]
        have hl := putE_len ⟨p + (i : Int), x[i]⟩ far
        exact Ev.bind (specPut far _ _ (by omega)) (ih (i + 1) _ (by omega) (by omega))
      · simp only [if_pos c1, if_neg c2, if_neg (show ¬ (h ≤ p + (i : Int) ∧ p + (i : Int) < h + f) from fun hh => c2 hh.2)]
        exact ih (i + 1) far (by omega) (by omega)
    · simp only [if_neg c1, if_neg (show ¬ (h ≤ p + (i : Int) ∧ p + (i : Int) < h + f) from fun hh => c1 hh.1)]
      exact ih (i + 1) far (by omega) (by omega)
theorem spec_earHear (h room : Int) (g : List Int) (l : List S96) (p : Int) (x : List Int) (hg : g.length ≤ 1048576) (hx : x.length ≤ 1048576) (hl : l.length ≤ 1048576) :
    Ev (fun k => spec_EarHear.f k h room g l p x) (earHear h room g l p x) := by
  have jt : Ev (fun k => spec_EarHear.j0 k p x true h room g l) (0, 0, [], []) := by
    refine Ev.step (fun k => spec_EarHear.j0.eq_2 _ _ _ _ _ _ _ k) ?_
    simp only [if_true]; exact Ev.now _
  unfold spec_EarHear.f earHear
  refine Ev.bind (spec_earOk h room g l (by omega) (by omega)) ?_
  by_cases c : earOk h room g l = true
  · obtain ⟨c1, c2, c3, c4, c5⟩ := earOk_le c
    simp only [c, if_true, true_and, spec_l1In.f]
    by_cases c6 : p ≥ 0
    · simp only [if_pos c6, Option.bind_some]
      by_cases c7 : p ≤ 1000000
      · simp only [decide_eq_true c7, Bool.not_true, if_pos (show 0 ≤ p ∧ p ≤ 1000000 from ⟨c6, c7⟩)]
        have ef := spec_earFree h room g l (by omega) (by omega)
        unfold earFree at ef
        rw [if_pos c] at ef
        have e := specHear_l0 p x (room - (g.length : Int)) h room g l c6 c7 (by omega) (by omega) (by omega) c1 c2 (by omega) x.length 0 l (by omega) (by omega)
        rw [List.drop_zero, show p + ((0 : Nat) : Int) = p by omega] at e
        refine Ev.step (fun k => spec_EarHear.j0.eq_2 _ _ _ _ _ _ _ k) ?_
        simp only [Bool.false_eq_true, if_false]
        refine Ev.bind ef ?_
        simp only [Option.bind_some, List.nil_append]
        simp only [if_pos (show ([] : List S96).length + l.length < 8796093022208 by rw [List.length_nil]; omega)]
        exact e
      · simp only [decide_eq_false c7, Bool.not_false, if_neg (show ¬ (0 ≤ p ∧ p ≤ 1000000) from fun hh => c7 hh.2)]
        exact jt
    · simp only [if_neg c6, Option.bind_some, Bool.not_false, if_neg (show ¬ (0 ≤ p ∧ p ≤ 1000000) from fun hh => c6 hh.1)]
      exact jt
  · simp only [c, Bool.false_eq_true, if_false, false_and]
    exact jt

/-! EarHear of the program -/
theorem earFrom_at (h f : Int) (l : List S96) (d : Nat) : ∀ i, earFrom h f l d i = true → ∀ j, i ≤ j → j < i + d → earAt h f l j = true := by
  induction d with
  | zero => intro i _ j h1 h2; omega
  | succ d ih =>
    intro i hh j h1 h2
    unfold earFrom at hh
    rw [Bool.and_eq_true] at hh
    by_cases c : j = i
    · rw [c]; exact hh.1
    · exact ih (i + 1) hh.2 j (by omega) (by omega)
theorem earAt_from (h f : Int) (l : List S96) (d : Nat) : ∀ i, (∀ j, i ≤ j → j < i + d → earAt h f l j = true) → earFrom h f l d i = true := by
  induction d with
  | zero => intro i _; rfl
  | succ d ih =>
    intro i hh
    unfold earFrom
    rw [Bool.and_eq_true]
    exact ⟨hh i (by omega) (by omega), ih (i + 1) (fun j h1 h2 => hh j (by omega) (by omega))⟩
theorem pairE (l : List S96) (hh : ∀ j (hj : j + 1 < l.length), (l[j]).f0 < (l[j + 1]).f0) : l.Pairwise (fun x y => x.f0 < y.f0) := by
  rw [List.pairwise_iff_getElem]
  intro i j hi hj hij
  obtain ⟨d, rfl⟩ : ∃ d, j = i + 1 + d := ⟨j - (i + 1), by omega⟩
  induction d with
  | zero => exact hh i hj
  | succ d ih =>
    have h1 := ih (by omega) (by omega)
    have h2 := hh (i + 1 + d) (by omega)
    exact Int.lt_trans h1 h2
theorem earFrom_good {h f : Int} {l : List S96} (hh : earFrom h f l l.length 0 = true) : goodE (h + 1) (f - 1) l := by
  have ha := earFrom_at h f l l.length 0 hh
  refine ⟨pairE l (fun j hj => ?_), fun x hx => ?_⟩
  · have := ha (j + 1) (by omega) (by omega)
    unfold earAt at this
    simp only [Bool.and_eq_true, Bool.or_eq_true, decide_eq_true_eq, beq_iff_eq] at this
    have h2 := this.2
    rw [show ((j + 1 : Nat) : Int) - 1 = (j : Int) by omega, rdE l j (by omega), rdE l (j + 1) hj] at h2
    rcases h2 with h2 | h2
    · omega
    · exact h2
  · obtain ⟨j, hj, rfl⟩ := List.getElem_of_mem hx
    have := ha j (by omega) (by omega)
    unfold earAt at this
    simp only [Bool.and_eq_true, decide_eq_true_eq] at this
    rw [rdE l j hj] at this
    omega
theorem good_earFrom {h f : Int} {l : List S96} (hh : goodE (h + 1) (f - 1) l) : earFrom h f l l.length 0 = true := by
  refine earAt_from h f l l.length 0 (fun j _ hj => ?_)
  have hj' : j < l.length := by omega
  have hm := hh.2 l[j] (List.getElem_mem hj')
  unfold earAt
  simp only [Bool.and_eq_true, Bool.or_eq_true, decide_eq_true_eq, beq_iff_eq]
  rw [rdE l j hj']
  refine ⟨⟨by omega, by omega⟩, ?_⟩
  by_cases c : j = 0
  · exact .inl c
  · refine .inr ?_
    have := (List.pairwise_iff_getElem.1 hh.1) (j - 1) j (by omega) hj' (by omega)
    rw [show (j : Int) - 1 = ((j - 1 : Nat) : Int) by omega, rdE l (j - 1) (by omega)]
    exact this
theorem half_ (i j : Nat) (hi : i ≤ 1000000000) (hj : j ≤ 1000000000) : wrap64 ((IntKind.u64.wrap (wrap64 ((i : Int) + (j : Int)))) / 2) = (((i + j) / 2 : Nat) : Int) := by
  have w1 : wrap64 ((i : Int) + (j : Int)) = (i : Int) + (j : Int) := wrap_id (by omega) (by omega)
  have w2 : IntKind.u64.wrap ((i : Int) + (j : Int)) = (i : Int) + (j : Int) := by
    rw [IntKind.wrap_u64]; omega
  rw [w1, w2, wrap_id (by omega) (by omega)]
  omega
theorem search_l (l : List S96) (t : Int) (hl : l.length ≤ 100000000) (hb : ∀ y ∈ l, -10000000 ≤ y.f0 ∧ y.f0 ≤ 10000000) (t0 : -10000000 ≤ t) (t1 : t ≤ 10000000) (hs : l.Pairwise (fun x y => x.f0 < y.f0)) (d : Nat) :
    ∀ i j : Nat, j - i ≤ d → i ≤ j → j ≤ l.length → (∀ m (hm : m < l.length), m < i → l[m].f0 < t) → (∀ m (hm : m < l.length), j ≤ m → t ≤ l[m].f0) →
    ∃ kk : Nat, kk ≤ l.length ∧ Ev (fun k => impl_Early_int.l0 k l t (l.length : Int) (i : Int) (j : Int)) ((kk : Int), decide (∃ h : kk < l.length, l[kk].f0 = t)) ∧ (∀ m (hm : m < l.length), m < kk → l[m].f0 < t) ∧ (∀ m (hm : m < l.length), kk ≤ m → t ≤ l[m].f0) := by
  have stop : ∀ i : Nat, i ≤ l.length → (∀ m (hm : m < l.length), m < i → l[m].f0 < t) → (∀ m (hm : m < l.length), i ≤ m → t ≤ l[m].f0) →
    ∃ kk : Nat, kk ≤ l.length ∧ Ev (fun k => impl_Early_int.l0 k l t (l.length : Int) (i : Int) (i : Int)) ((kk : Int), decide (∃ h : kk < l.length, l[kk].f0 = t)) ∧ (∀ m (hm : m < l.length), m < kk → l[m].f0 < t) ∧ (∀ m (hm : m < l.length), kk ≤ m → t ≤ l[m].f0) := by
    intro i hi h1 h2
    refine ⟨i, hi, Ev.succ ?_, h1, h2⟩
    simp only [impl_Early_int.l0, if_neg (show ¬ (i : Int) < (i : Int) by omega)]
    by_cases c : i < l.length
    · have hbi := hb l[i] (List.getElem_mem c)
      simp only [if_pos (show (i : Int) < (l.length : Int) by omega), if_pos (show (0 : Int) ≤ (i : Int) by omega), rdE l i c, impl_Ear_hear_1.f, Option.bind_some]
      rw [wrap_id (x := l[i].f0 - t) (by omega) (by omega)]
      rw [show (l[i].f0 - t == 0) = decide (∃ h : i < l.length, l[i].f0 = t) by
        rw [Bool.eq_iff_iff, beq_iff_eq, decide_eq_true_eq]
        exact ⟨fun h => ⟨c, by omega⟩, fun ⟨_, h⟩ => by omega⟩]
      exact Ev.now _
    · simp only [if_neg (show ¬ (i : Int) < (l.length : Int) by omega)]
      rw [show decide (∃ h : i < l.length, l[i].f0 = t) = false from decide_eq_false (fun ⟨h, _⟩ => c h)]
      exact Ev.now _
  induction d with
  | zero =>
    intro i j h1 h2 h3 h4 h5
    obtain rfl : i = j := by omega
    exact stop i h3 h4 h5
  | succ d ih =>
    intro i j h1 h2 h3 h4 h5
    by_cases c : i = j
    · subst c; exact stop i h3 h4 h5
    · have hm : (i + j) / 2 < l.length := by omega
      have hbi := hb l[(i + j) / 2] (List.getElem_mem hm)
      have hw : wrap64 (l[(i + j) / 2].f0 - t) = l[(i + j) / 2].f0 - t := wrap_id (by omega) (by omega)
      have hw2 : wrap64 ((((i + j) / 2 : Nat) : Int) + 1) = (((i + j) / 2 + 1 : Nat) : Int) := by rw [wrap_id (by omega) (by omega)]; omega
      have hp := List.pairwise_iff_getElem.1 hs
      by_cases c2 : l[(i + j) / 2].f0 - t < 0
      · obtain ⟨kk, k1, k2, k3, k4⟩ := ih ((i + j) / 2 + 1) j (by omega) (by omega) h3 (fun m hm2 hlt => by
          by_cases e : m = (i + j) / 2
          · subst e; omega
          · have := hp m ((i + j) / 2) hm2 hm (by omega); omega) h5
        refine ⟨kk, k1, Ev.succ ?_, k3, k4⟩
        simp only [impl_Early_int.l0, if_pos (show (i : Int) < (j : Int) by omega)]
        rw [half_ i j (by omega) (by omega)]
        simp only [if_pos (show (0 : Int) ≤ (((i + j) / 2 : Nat) : Int) by omega), if_pos (show (((i + j) / 2 : Nat) : Int) < (l.length : Int) by omega), rdE l ((i + j) / 2) hm, impl_Ear_hear_1.f, Option.bind_some, hw, if_pos c2, hw2]
        exact k2
      · obtain ⟨kk, k1, k2, k3, k4⟩ := ih i ((i + j) / 2) (by omega) (by omega) (by omega) h4 (fun m hm2 hle => by
          by_cases e : m = (i + j) / 2
          · subst e; omega
          · have := hp ((i + j) / 2) m hm hm2 (by omega); omega)
        refine ⟨kk, k1, Ev.succ ?_, k3, k4⟩
        simp only [impl_Early_int.l0, if_pos (show (i : Int) < (j : Int) by omega)]
        rw [half_ i j (by omega) (by omega)]
        simp only [if_pos (show (0 : Int) ≤ (((i + j) / 2 : Nat) : Int) by omega), if_pos (show (((i + j) / 2 : Nat) : Int) < (l.length : Int) by omega), rdE l ((i + j) / 2) hm, impl_Ear_hear_1.f, Option.bind_some, hw, if_neg c2]
        exact k2
theorem search_ (l : List S96) (t : Int) (hl : l.length ≤ 100000000) (hb : ∀ y ∈ l, -10000000 ≤ y.f0 ∧ y.f0 ≤ 10000000) (t0 : -10000000 ≤ t) (t1 : t ≤ 10000000) (hs : l.Pairwise (fun x y => x.f0 < y.f0)) :
    ∃ (kk : Nat) (b : Bool), kk ≤ l.length ∧ Ev (fun k => impl_Early_int.f k l t) ((kk : Int), b) ∧ ∀ c : Int, putE l ⟨t, c⟩ = if b = true then l else l.take kk ++ [⟨t, c⟩] ++ l.drop kk := by
  obtain ⟨kk, k1, k2, k3, k4⟩ := search_l l t hl hb t0 t1 hs l.length 0 l.length (by omega) (by omega) (by omega) (fun m _ h => by omega) (fun m h1 h2 => by omega)
  refine ⟨kk, _, k1, k2, fun c => ?_⟩
  by_cases e : ∃ h : kk < l.length, l[kk].f0 = t
  · rw [if_pos (decide_eq_true e)]
    obtain ⟨h, e⟩ := e
    exact putE_has ⟨t, c⟩ l kk h k3 e
  · rw [if_neg (by simpa using e)]
    exact putE_at ⟨t, c⟩ l kk k1 k3 (fun h => by
      have h1 := k4 kk h (by omega)
      have h2 : l[kk].f0 ≠ t := fun e2 => e ⟨h, e2⟩
      show t < l[kk].f0
      omega)
theorem implCopy (h room : Int) (g : List Int) (l : List S96) (hg : g.length ≤ 1000000000) (hl : l.length ≤ 1000000000) : impl_Ear_copy.f h room g l = some (h, room, g, l) := by
  simp only [impl_Ear_copy.f, impl_clone_byte.f, impl_Early_101.f, if_pos (show g.length * 1 ≤ 140737488355328 by omega), if_pos (show l.length * 16 ≤ 140737488355328 by omega), Option.bind_some]
theorem implDrain (room : Int) : ∀ (l : List S96) (h : Int) (g : List Int), l.length ≤ 100000000 → 0 ≤ h → h + l.length ≤ 1000000000 → g.length + l.length ≤ 1000000000 →
    Ev (fun k => impl_Ear_hear.l1 k h room g l) ((drainE l h g).1, room, (drainE l h g).2.1, (drainE l h g).2.2)
  | [], h, g, hl, h0, h1, hg => by
    refine Ev.step (fun k => impl_Ear_hear.l1.eq_2 _ _ _ _ k) ?_
    simp only [List.length_nil, Int.natCast_zero, gt_iff_lt, Int.lt_irrefl, if_false, drainE, implCopy h room g [] (by simpa using hg) (by simp), Option.bind_some]
    exact Ev.now _
  | x :: l, h, g, hl, h0, h1, hg => by
    simp only [List.length_cons] at hl h1 hg
    refine Ev.step (fun k => impl_Ear_hear.l1.eq_2 _ _ _ _ k) ?_
    have hr : rd_T96 (x :: l) 0 = x := by
      have := rdE (x :: l) 0 (by simp)
      simpa using this
    have hd : (x :: l).drop (1 : Int).toNat = l := rfl
    have hp : ((x :: l).length : Int) > 0 := by rw [List.length_cons]; omega
    have hp1 : (1 : Int) ≤ ((x :: l).length : Int) := by rw [List.length_cons]; omega
    simp only [if_pos hp, hr, hd, if_pos hp1, drainE]
    by_cases c : x.f0 = h
    · simp only [if_pos c, if_pos (show g.length < 140737488355328 by omega)]
      have e := implDrain room l (h + 1) (g ++ [x.f1]) (by omega) (by omega) (by omega) (by rw [List.length_append, List.length_singleton]; omega)
      rw [wrap_id (x := h + 1) (by omega) (by omega)]
      exact e
    · simp only [if_neg c, implCopy h room g (x :: l) (by omega) (by rw [List.length_cons]; omega), Option.bind_some]
      exact Ev.now _
theorem implHear_l0 (p : Int) (x : List Int) (h room : Int) (g : List Int) (l : List S96) (p0 : 0 ≤ p) (p1 : p ≤ 1000000) (hx : x.length ≤ 5000000) (hgr : (g.length : Int) ≤ room) (r1 : room ≤ 32) (h0 : 0 ≤ h) (h1 : h ≤ 1000000) (d : Nat) : ∀ (i : Nat) (far : List S96), i + d = x.length → goodE h (room - g.length) far → far.length ≤ 10000000 + i →
    Ev (fun k => impl_Ear_hear.l0 k p x (x.length : Int) (i : Int) h room g l h room g far) (let y := drainE (hearL h (room - g.length) (p + i) (x.drop i) far) h g; (y.1, room, y.2.1, y.2.2)) := by
  induction d with
  | zero =>
    intro i far hi hG hf
    rw [List.drop_of_length_le (show x.length ≤ i by omega)]
    refine Ev.step (fun k => impl_Ear_hear.l0.eq_2 _ _ _ _ _ _ _ _ _ _ _ _ k) ?_
    simp only [if_neg (show ¬ (i : Int) < (x.length : Int) by omega), hearL]
    exact implDrain room far h g (by omega) h0 (by omega) (by omega)
  | succ d ih =>
    intro i far hi hG hf
    have hb : i < x.length := by omega
    have hq : p + (i : Int) + 1 = p + ((i + 1 : Nat) : Int) := by omega
    refine Ev.step (fun k => impl_Ear_hear.l0.eq_2 _ _ _ _ _ _ _ _ _ _ _ _ k) ?_
    rw [wrap_id (x := p + (i : Int)) (by omega) (by omega), List.drop_eq_getElem_cons hb]
    simp only [if_pos (show (i : Int) < (x.length : Int) by omega), if_pos (show (0 : Int) ≤ (i : Int) by omega), hearL, rd_get x i hb, impl_Ear_free.f, Option.bind_some]
    rw [wrap_id (x := room - (g.length : Int)) (by omega) (by omega), wrap_id (x := h + (room - (g.length : Int))) (by omega) (by omega)]
    obtain ⟨f, hfe⟩ : ∃ f, f = room - (g.length : Int) := ⟨_, rfl⟩
    rw [← hfe] at hG ih ⊢
    have jt : ¬ (h ≤ p + (i : Int) ∧ p + (i : Int) < h + f) → Ev (fun k => impl_Ear_hear.j1 k p x[i] (p + (i : Int)) x (x.length : Int) (i : Int) true h room g l h room g far) (let y := drainE (hearL h f (p + ((i + 1 : Nat) : Int)) (x.drop (i + 1)) far) h g; (y.1, room, y.2.1, y.2.2)) := by
      intro hn
      refine Ev.step (fun k => impl_Ear_hear.j1.eq_2 _ _ _ _ _ _ _ _ _ _ _ _ _ _ _ k) ?_
      rw [wrap_id (x := (i : Int) + 1) (by omega) (by omega)]
      simp only [if_true]
      exact ih (i + 1) far (by omega) hG (by omega)
    rw [hq]
    by_cases c1 : p + (i : Int) < h
    · simp only [if_pos c1]
      have hn : ¬ (h ≤ p + (i : Int) ∧ p + (i : Int) < h + f) := fun hh => by omega
      rw [if_neg hn]
      exact jt hn
    · simp only [if_neg c1]
      by_cases c2 : p + (i : Int) ≥ h + f
      · simp only [decide_eq_true c2]
        have hn : ¬ (h ≤ p + (i : Int) ∧ p + (i : Int) < h + f) := fun hh => by omega
        rw [if_neg hn]
        exact jt hn
      · simp only [decide_eq_false c2]
        have hy : h ≤ p + (i : Int) ∧ p + (i : Int) < h + f := by omega
        rw [if_pos hy]
        refine Ev.step (fun k => impl_Ear_hear.j1.eq_2 _ _ _ _ _ _ _ _ _ _ _ _ _ _ _ k) ?_
        rw [wrap_id (x := (i : Int) + 1) (by omega) (by omega)]
        simp only [Bool.false_eq_true, if_false]
        obtain ⟨kk, b, k1, k2, k3⟩ := search_ far (p + (i : Int)) (by omega) (fun y hy => by have := hG.2 y hy; omega) (by omega) (by omega) hG.1
        refine Ev.bind k2 ?_
        have hG2 := putE_good hG ⟨p + (i : Int), x[i]⟩ hy.1 hy.2
        have hl2 := putE_len ⟨p + (i : Int), x[i]⟩ far
        have e := ih (i + 1) _ (by omega) hG2 (by omega)
        rw [k3 x[i]] at e ⊢
        cases b with
        | true => simp only [if_true] at e ⊢; exact e
        | false =>
          simp only [Bool.false_eq_true, if_false] at e ⊢
          simp only [if_pos (show (0 : Int) ≤ (kk : Int) by omega), if_pos (show (kk : Int) ≤ (far.length : Int) by omega), if_pos (show far.length < 8796093022208 by omega), Int.toNat_natCast]
          exact e
theorem impl_earHear (h room : Int) (g : List Int) (l : List S96) (p : Int) (x : List Int) (hg : g.length ≤ 1048576) (hx : x.length ≤ 1048576) (hl : l.length ≤ 1048576) :
    Ev (fun k => impl_EarHear.f k h room g l p x) (earHear h room g l p x) := by
  have jt : Ev (fun k => impl_EarHear.j0 k p x true h room g l) (0, 0, [], []) := by
    refine Ev.step (fun k => impl_EarHear.j0.eq_2 _ _ _ _ _ _ _ k) ?_
    simp only [if_true]; exact Ev.now _
  unfold impl_EarHear.f earHear
  refine Ev.bind (impl_earOk h room g l (by omega) (by omega)) ?_
  by_cases c : earOk h room g l = true
  · obtain ⟨c1, c2, c3, c4, c5⟩ := earOk_le c
    have hG : goodE h (room - g.length) l := by
      have c' := c
      unfold earOk at c'
      rw [Bool.and_eq_true] at c'
      have h2 := earFrom_good c'.2
      exact ⟨h2.1, fun y hy => by have := h2.2 y hy; omega⟩
    simp only [c, if_true, true_and, impl_in.f]
    by_cases c6 : p ≥ 0
    · simp only [if_pos c6, Option.bind_some]
      by_cases c7 : p ≤ 1000000
      · simp only [decide_eq_true c7, Bool.not_true, if_pos (show 0 ≤ p ∧ p ≤ 1000000 from ⟨c6, c7⟩)]
        have e := implHear_l0 p x h room g l c6 c7 (by omega) c5 c4 c1 c2 x.length 0 l (by omega) hG (by omega)
        rw [List.drop_zero, show p + ((0 : Nat) : Int) = p by omega] at e
        refine Ev.step (fun k => impl_EarHear.j0.eq_2 _ _ _ _ _ _ _ k) ?_
        simp only [Bool.false_eq_true, if_false]
        have eh : Ev (fun k => impl_Ear_hear.f k h room g l p x) (let y := drainE (hearL h (room - g.length) p x l) h g; (y.1, room, y.2.1, y.2.2)) := by
          unfold impl_Ear_hear.f
          rw [implCopy h room g l (by omega) (by omega)]
          exact e
        refine Ev.bind eh ?_
        simp only []
        split <;> exact Ev.now _
      · simp only [decide_eq_false c7, Bool.not_false, if_neg (show ¬ (0 ≤ p ∧ p ≤ 1000000) from fun hh => c7 hh.2)]
        exact jt
    · simp only [if_neg c6, Option.bind_some, Bool.not_false, if_neg (show ¬ (0 ≤ p ∧ p ≤ 1000000) from fun hh => c6 hh.1)]
      exact jt
  · simp only [c, Bool.false_eq_true, if_false, false_and]
    exact jt

/-! how long what was heard is -/
theorem drainE_len : ∀ (l : List S96) (h : Int) (g : List Int), (drainE l h g).2.1.length + (drainE l h g).2.2.length = g.length + l.length ∧ (drainE l h g).1 + g.length = h + (drainE l h g).2.1.length ∧ g.length ≤ (drainE l h g).2.1.length
  | [], h, g => by simp [drainE]
  | x :: l, h, g => by
    unfold drainE
    split
    · obtain ⟨h1, h2, h3⟩ := drainE_len l (h + 1) (g ++ [x.f1])
      rw [List.length_append, List.length_singleton] at h1 h2 h3
      simp only [List.length_cons]
      omega
    · simp
theorem earHear_len (h room : Int) (g : List Int) (l : List S96) (p : Int) (x : List Int) : (earHear h room g l p x).2.2.1.length ≤ g.length + (l.length + x.length) ∧ (earHear h room g l p x).2.2.2.length ≤ g.length + (l.length + x.length) := by
  unfold earHear
  split
  · have h1 := hearL_len h (room - g.length) x p l
    obtain ⟨h2, h3, h4⟩ := drainE_len (hearL h (room - g.length) p x l) h g
    generalize drainE (hearL h (room - g.length) p x l) h g = y at *
    simp only []
    split
    · simp
    · simp only []; omega
  · simp

theorem szEar_ (h r : Int) (g : List Int) (l : List S121) (hg : g.length ≤ 9223372036854775807) (hl : l.length ≤ 9223372036854775807) : ∃ v, laws_szEar.f h r g l 1048576 = some v ∧ (v < 0 ∨ (g.length ≤ 1048576 ∧ l.length ≤ 1048576)) := by
  unfold laws_szEar.f
  rw [szByteS g _ hg (by omega) (by omega)]
  by_cases h1 : 1048576 - (g.length : Int) < 0
  · simp only [if_pos h1, Option.bind_some, if_pos (show (-1 : Int) < 0 by omega)]
    exact ⟨_, rfl, Or.inl (by omega)⟩
  · simp only [if_neg h1, Option.bind_some]
    rw [szEarlyS l _ hl (by omega) (by omega)]
    by_cases h2 : 1048576 - (g.length : Int) - (l.length : Int) < 0
    · simp only [if_pos h2, Option.bind_some, if_pos (show (-1 : Int) < 0 by omega)]
      exact ⟨_, rfl, Or.inl (by omega)⟩
    · simp only [if_neg h2, Option.bind_some]
      exact ⟨_, rfl, Or.inr (by omega)⟩
theorem FnExactEarHear : laws_FnExactEarHear.Pure := by
  intro h r g l p x _ _ hg0 hl0 _ hx0
  have hg1 : g.length ≤ 9223372036854775807 := hg0.1
  have hl1 : l.length ≤ 9223372036854775807 := hl0.1
  refine Ev.rounds ?_
  unfold laws_FnExactEarHear.f
  by_cases hbig : (x.length : Int) > 1048576
  · simp only [if_pos hbig]; exact Ev.now _
  simp only [if_neg hbig]
  have hx : x.length ≤ 1048576 := by omega
  obtain ⟨v, hv, hs⟩ := szEar_ h r g l hg1 hl1
  simp only [hv, Option.bind_some]
  rcases hs with hs | ⟨hg, hl⟩
  · simp only [if_pos hs]; exact Ev.now _
  by_cases hv0 : v < 0
  · simp only [if_pos hv0]; exact Ev.now _
  simp only [if_neg hv0]
  clear hv hv0 hg0 hl0 hg1 hl1 hx0 hbig
  have t := toEar h r g l hg hl
  have tx := toByteS x hx
  have hm : (l.map toE).length ≤ 1048576 := by rw [List.length_map]; exact hl
  have ei := impl_earHear h r g (l.map toE) p x hg hx hm
  have es := spec_earHear h r g (l.map toE) p x hg hx hm
  have hb := earHear_len h r g (l.map toE) p x
  generalize earHear h r g (l.map toE) p x = q at *
  obtain ⟨q1, q2, q3, q4⟩ := q
  obtain ⟨b3, b4⟩ : q3.length ≤ 10000000 ∧ q4.length ≤ 10000000 := ⟨Nat.le_trans hb.1 (by omega), Nat.le_trans hb.2 (by omega)⟩
  clear hb
  refine Ev.bind t (Ev.bind tx (Ev.bind es (Ev.bind t (Ev.bind tx (Ev.bind ei (Ev.bind (eqEar q1 q2 q3 q4 (by omega) (by omega)) ?_))))))
  simp only [if_true]
  refine Ev.bind t (Ev.bind (eqEar h r g (l.map toE) (by omega) (by omega)) ?_)
  simp only [if_true]
  refine Ev.bind tx (Ev.bind (eqByteS x (by omega)) ?_)
  simp only [if_true]
  refine Ev.bind (markEar h r g (l.map toE) 1 (by omega) (by omega)) (Ev.bind (markByteS x _ (by omega) (by omega)) ?_)
  simp only [if_neg (show ¬ (1 : Int) + (g.length : Int) + 2 * ((l.map toE).length : Int) + (x.length : Int) < 0 by omega)]
  refine Ev.bind (eqEar q1 q2 q3 q4 (by omega) (by omega)) ?_
  simp only [Bool.not_true]
  refine Ev.step (fun k => laws_FnExactEarHear.j0.eq_2 _ _ _ _ _ _ _ _ _ _ _ _ _ _ _ k) ?_
  simp only [Bool.false_eq_true, if_false]
  refine Ev.bind (markEar q1 q2 q3 q4 1 (by omega) (by omega)) (Ev.bind (heldEar q1 q2 q3.length q4.length 1 (by omega) (by omega)) ?_)
  simp only [if_neg (show ¬ (1 : Int) + (q3.length : Int) + 2 * (q4.length : Int) < 0 by omega), if_true]
  refine Ev.bind t (Ev.bind tx (Ev.bind ei (Ev.bind (eqEar q1 q2 q3 q4 (by omega) (by omega)) ?_)))
  simp only [if_true]
  refine Ev.bind (heldEar q1 q2 q3.length q4.length 1 (by omega) (by omega)) ?_
  simp only [if_neg (show ¬ (1 : Int) + (q3.length : Int) + 2 * (q4.length : Int) < 0 by omega), if_true]
  exact Ev.now _

end Go.Proofs.Ytbhofhdmbbipgaa.Pure
