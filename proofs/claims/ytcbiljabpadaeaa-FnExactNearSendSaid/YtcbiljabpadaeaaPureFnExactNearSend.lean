/- What is sent to a neighbour is as by the reference: the plain law. -/
import Derived.Test.YtcbiljabpadaeaaPFnExactNearSendx
namespace Go.Proofs.Ytcbiljabpadaeaa.Pure
set_option linter.unusedSimpArgs false
set_option linter.unusedVariables false
open Go.RowKit Go.Proofs.Ytcbiljabpadaeaa.PFnExactNearSend Go.Proofs.YtcbiljabpadaeaaW.PrintWords Go.Proofs.YtcbiljabpadaeaaW.PrintLast Go.Proofs.YtcbiljabpadaeaaW.PrintMore

theorem Ev.succ {α : Type} {g : Nat → Option α} {r : α} (h : Ev (fun k => g (k + 1)) r) : Ev g r := Ev.step (fun _ => rfl) h
theorem Ev.pure {α : Type} {o : Option α} {r : α} (h : o = some r) : Ev (fun _ => o) r := by rw [h]; exact Ev.now r
theorem Ev.cong {α : Type} {g g' : Nat → Option α} {r : α} (h : ∀ k, g k = g' k) (e : Ev g' r) : Ev g r := by rw [show g = g' from funext h]; exact e
theorem wrap_id {x : Int} (h0 : -9223372036854775808 ≤ x) (h1 : x ≤ 9223372036854775807) : wrap64 x = x := by unfold wrap64; omega

theorem rd_get (l : List Int) (i : Nat) (h : i < l.length) : rd l (i : Int) = l[i] := by
  unfold rd
  rw [Int.toNat_natCast, List.getD_eq_getElem?_getD, List.getElem?_eq_getElem h]; rfl
theorem take_set_succ {α : Type} (x : List α) (i : Nat) (v : α) (h : i < x.length) : (x.set i v).take (i + 1) = x.take i ++ [v] := by
  rw [List.take_succ_eq_append_getElem (by simpa using h), List.getElem_set_self, List.take_set, List.set_eq_of_length_le (by simp; omega)]


/-- toByteS: a copy. -/
theorem toByteS_l (l : List Int) (hl : l.length ≤ 1048576) (d : Nat) : ∀ (i : Nat) (x : List Int), i ≤ l.length → l.length - i = d → x.length = l.length → x.take i = l.take i →
    Ev (fun k => laws_toByteS.l0 k l x (i : Int)) l := by
  induction d with
  | zero =>
    intro i x hi hd hx ht
    have hil : i = l.length := by omega
    subst hil
    refine Ev.succ ?_
    simp only [laws_toByteS.l0]
    simp only [Int.lt_irrefl, if_false]
    have : x = l := by rw [← hx, List.take_length] at ht; rw [ht, hx, List.take_length]
    rw [this]; exact Ev.now l
  | succ d ih =>
    intro i x hi hd hx ht
    have hlt : i < l.length := by omega
    refine Ev.succ ?_
    simp only [laws_toByteS.l0]
    simp only [if_pos (show (i : Int) < (l.length : Int) by omega), if_pos (show (0 : Int) ≤ (i : Int) by omega), if_pos (show (i : Int) < (x.length : Int) by omega)]
    rw [wrap_id (by omega) (by omega), rd_get l i hlt, Int.toNat_natCast]
    refine ih (i + 1) _ (by omega) (by omega) (by simpa using hx) ?_
    rw [take_set_succ _ _ _ (by omega), ht, List.take_succ_eq_append_getElem hlt]
theorem toByteS (l : List Int) (hl : l.length ≤ 1048576) : Ev (fun k => laws_toByteS.f k l) l := by
  unfold laws_toByteS.f
  simp only [if_pos (show (0 : Int) ≤ (l.length : Int) by omega), Int.toNat_natCast, if_pos (show l.length ≤ 281474976710656 by omega)]
  exact toByteS_l l hl _ 0 _ (by omega) rfl (by simp) (by simp)
/-- eqByteS of a list and itself. -/
theorem eqByteS_l (l : List Int) (hl : l.length ≤ 9223372036854775806) (d : Nat) : ∀ (i : Nat), i ≤ l.length → l.length - i = d → Ev (fun k => laws_eqByteS.l0 k l l (i : Int)) true := by
  induction d with
  | zero =>
    intro i hi hd
    refine Ev.succ ?_
    simp only [laws_eqByteS.l0]
    simp only [if_neg (show ¬ (i : Int) < (l.length : Int) by omega)]
    exact Ev.now true
  | succ d ih =>
    intro i hi hd
    refine Ev.succ ?_
    simp only [laws_eqByteS.l0]
    simp only [if_pos (show (i : Int) < (l.length : Int) by omega), if_pos (show (0 : Int) ≤ (i : Int) by omega), if_true]
    rw [wrap_id (by omega) (by omega)]
    exact ih (i + 1) (by omega) (by omega)
theorem eqByteS (l : List Int) (hl : l.length ≤ 9223372036854775806) : Ev (fun k => laws_eqByteS.f k l l) true := by
  unfold laws_eqByteS.f
  simp only [if_true]
  exact eqByteS_l l hl _ 0 (by omega) rfl
/-- What markByteS leaves. -/
def markB : Nat → Int → List Int
  | 0, _ => []
  | n + 1, m => m % 256 :: markB n (m + 1)
theorem markB_length (n : Nat) (m : Int) : (markB n m).length = n := by
  induction n generalizing m with
  | zero => rfl
  | succ n ih => simp [markB, ih]
theorem markB_get (n : Nat) (m : Int) (i : Nat) (h : i < (markB n m).length) : (markB n m)[i] = (m + i) % 256 := by
  induction n generalizing m i with
  | zero => simp [markB] at h
  | succ n ih =>
    cases i with
    | zero => simp [markB]
    | succ i => simp only [markB, List.getElem_cons_succ]; rw [ih]; congr 1; push_cast; omega
theorem markByteS_l (n : Nat) (m : Int) (h0 : 0 ≤ m) (h1 : m + n ≤ 4611686018427387904) (d : Nat) : ∀ (i : Nat) (x : List Int), i ≤ n → n - i = d → x.length = n → x.take i = (markB n m).take i →
    Ev (fun k => laws_markByteS.l0 k x (m + i) (i : Int)) (m + n, markB n m) := by
  have hM := markB_length n m
  induction d with
  | zero =>
    intro i x hi hd hx ht
    have hil : i = n := by omega
    subst hil
    refine Ev.succ ?_
    simp only [laws_markByteS.l0]
    simp only [if_neg (show ¬ (i : Int) < (x.length : Int) by omega)]
    have : x = markB i m := by rw [List.take_of_length_le (by omega), List.take_of_length_le (by omega)] at ht; exact ht
    rw [this]; exact Ev.now _
  | succ d ih =>
    intro i x hi hd hx ht
    refine Ev.succ ?_
    simp only [laws_markByteS.l0]
    simp only [if_pos (show (i : Int) < (x.length : Int) by omega), if_pos (show (0 : Int) ≤ (i : Int) by omega)]
    rw [wrap_id (by omega) (by omega), wrap_id (by omega) (by omega), Int.toNat_natCast]
    have := ih (i + 1) (x.set i ((m + i) % 256)) (by omega) (by omega) (by simpa using hx) (by
      rw [take_set_succ _ _ _ (by omega), ht, List.take_succ_eq_append_getElem (by omega), markB_get])
    rw [show (m + ((i + 1 : Nat) : Int)) = m + i + 1 by push_cast; omega] at this
    exact this
theorem markByteS (l : List Int) (m : Int) (h0 : 0 ≤ m) (h1 : m + l.length ≤ 4611686018427387904) : Ev (fun k => laws_markByteS.f k l m) (m + l.length, markB l.length m) := by
  unfold laws_markByteS.f
  have := markByteS_l l.length m h0 h1 _ 0 l (by omega) rfl rfl (by simp)
  simpa using this
theorem heldByteS_l (n : Nat) (m : Int) (h0 : 0 ≤ m) (h1 : m + n ≤ 4611686018427387904) (d : Nat) : ∀ (i : Nat), i ≤ n → n - i = d → Ev (fun k => laws_heldByteS.l0 k (markB n m) (m + i) (i : Int)) (m + n) := by
  have hM := markB_length n m
  induction d with
  | zero =>
    intro i hi hd
    have hil : i = n := by omega
    subst hil
    refine Ev.succ ?_
    simp only [laws_heldByteS.l0]
    simp only [if_neg (show ¬ (i : Int) < ((markB i m).length : Int) by omega)]
    exact Ev.now _
  | succ d ih =>
    intro i hi hd
    refine Ev.succ ?_
    simp only [laws_heldByteS.l0]
    rw [rd_get _ i (by omega), markB_get]
    simp only [if_pos (show (i : Int) < ((markB n m).length : Int) by omega), if_pos (show (0 : Int) ≤ (i : Int) by omega), if_true]
    rw [wrap_id (by omega) (by omega), wrap_id (by omega) (by omega)]
    have := ih (i + 1) (by omega) (by omega)
    rw [show (m + ((i + 1 : Nat) : Int)) = m + i + 1 by push_cast; omega] at this
    exact this
theorem heldByteS (n : Nat) (m : Int) (h0 : 0 ≤ m) (h1 : m + n ≤ 4611686018427387904) : Ev (fun k => laws_heldByteS.f k (markB n m) m) (m + n) := by
  unfold laws_heldByteS.f
  have := heldByteS_l n m h0 h1 _ 0 (by omega) rfl
  simpa using this
theorem szByteS (l : List Int) (m : Int) (h : l.length ≤ 9223372036854775807) (h0 : 0 ≤ m) (h1 : m ≤ 1048576) : laws_szByteS.f l m = some (if m - l.length < 0 then -1 else m - l.length) := by
  unfold laws_szByteS.f
  rw [wrap_id (by omega) (by omega)]
  split <;> rfl


/-! whether a number is between two others -/
def inb (x lo hi : Int) : Bool := decide (lo ≤ x) && decide (x ≤ hi)
theorem inb_iff {x lo hi : Int} : inb x lo hi = true ↔ lo ≤ x ∧ x ≤ hi := by unfold inb; simp
theorem impl_in_ (x lo hi : Int) : impl_in.f x lo hi = some (inb x lo hi) := by
  unfold impl_in.f inb; by_cases h : x ≥ lo
  · simp only [if_pos h, decide_eq_true (show lo ≤ x from h), Bool.true_and]
  · simp only [if_neg h, decide_eq_false (show ¬ lo ≤ x from h), Bool.false_and]
theorem spec_in_ (x lo hi : Int) : spec_l1In.f x lo hi = some (inb x lo hi) := by
  unfold spec_l1In.f inb; by_cases h : x ≥ lo
  · simp only [if_pos h, decide_eq_true (show lo ≤ x from h), Bool.true_and]
  · simp only [if_neg h, decide_eq_false (show ¬ lo ≤ x from h), Bool.false_and]

/-! NearHeld -/
theorem toNearHeld (a : Int) (l : List Int) (hl : l.length ≤ 1048576) : Ev (fun k => laws_toNearHeld.f k a l) (a, l) := by
  unfold laws_toNearHeld.f; exact Ev.bind (toByteS l hl) (Ev.now _)
theorem eqNearHeld (a : Int) (l : List Int) (hl : l.length ≤ 9223372036854775806) : Ev (fun k => laws_eqNearHeld.f k a l a l) true := by
  unfold laws_eqNearHeld.f; simp only [if_true]; refine Ev.bind (eqByteS l hl) ?_; simp only [if_true]; exact Ev.now _
/-! rows of words -/
abbrev WI := S36
theorem rdWI (l : List WI) (i : Nat) (h : i < l.length) : rd_T36 l (i : Int) = l[i] := by
  unfold rd_T36
  rw [Int.toNat_natCast, List.getD_eq_getElem?_getD, List.getElem?_eq_getElem h]; rfl
theorem eqNearHeldS_l (l : List WI) (hl : l.length ≤ 1048576) (hb : ∀ z ∈ l, z.f1.length ≤ 1048576) (d : Nat) : ∀ i : Nat, i ≤ l.length → l.length - i = d → Ev (fun k => laws_eqNearHeldS.l0 k l l (i : Int)) true := by
  induction d with
  | zero =>
    intro i hi hd
    refine Ev.succ ?_
    simp only [laws_eqNearHeldS.l0, if_neg (show ¬ (i : Int) < (l.length : Int) by omega)]
    exact Ev.now true
  | succ d ih =>
    intro i hi hd
    have hlt : i < l.length := by omega
    have hz := hb _ (List.getElem_mem hlt)
    refine Ev.succ ?_
    simp only [laws_eqNearHeldS.l0, if_pos (show (i : Int) < (l.length : Int) by omega), if_pos (show (0 : Int) ≤ (i : Int) by omega), rdWI l i hlt]
    refine Ev.bind (eqNearHeld l[i].f0 l[i].f1 (by omega)) ?_
    simp only [if_true]
    rw [wrap_id (by omega) (by omega)]
    exact ih (i + 1) (by omega) (by omega)
theorem eqNearHeldS (l : List WI) (hl : l.length ≤ 1048576) (hb : ∀ z ∈ l, z.f1.length ≤ 1048576) : Ev (fun k => laws_eqNearHeldS.f k l l) true := by
  unfold laws_eqNearHeldS.f
  simp only [if_true]
  exact eqNearHeldS_l l hl hb _ 0 (by omega) rfl
/-! rows of words -/
abbrev WL := S86
theorem rdWL (l : List WL) (i : Nat) (h : i < l.length) : rd_T86 l (i : Int) = l[i] := by
  unfold rd_T86
  rw [Int.toNat_natCast, List.getD_eq_getElem?_getD, List.getElem?_eq_getElem h]; rfl
def toW (z : WL) : WI := ⟨z.f0, z.f1⟩
theorem toNearHeldS_l (l : List WL) (hl : l.length ≤ 1048576) (hb : ∀ z ∈ l, z.f1.length ≤ 1048576) (d : Nat) : ∀ (i : Nat) (x : List WI), i ≤ l.length → l.length - i = d → x.length = l.length → x.take i = (l.map toW).take i →
    Ev (fun k => laws_toNearHeldS.l0 k l x (i : Int)) (l.map toW) := by
  induction d with
  | zero =>
    intro i x hi hd hx ht
    obtain rfl : i = l.length := by omega
    refine Ev.succ ?_
    simp only [laws_toNearHeldS.l0, Int.lt_irrefl, if_false]
    have : x = l.map toW := by rw [← hx, List.take_length] at ht; rw [ht, hx, List.take_of_length_le (by simp)]
    rw [this]; exact Ev.now _
  | succ d ih =>
    intro i x hi hd hx ht
    have hlt : i < l.length := by omega
    refine Ev.succ ?_
    simp only [laws_toNearHeldS.l0, if_pos (show (i : Int) < (l.length : Int) by omega), if_pos (show (0 : Int) ≤ (i : Int) by omega), rdWL l i hlt]
    refine Ev.bind (toNearHeld l[i].f0 l[i].f1 (hb _ (List.getElem_mem hlt))) ?_
    simp only [if_pos (show (i : Int) < (x.length : Int) by omega), Int.toNat_natCast]
    rw [wrap_id (by omega) (by omega)]
    refine ih (i + 1) _ (by omega) (by omega) (by simpa using hx) ?_
    rw [take_set_succ _ _ _ (by omega), ht, List.take_succ_eq_append_getElem (by simpa using hlt), List.getElem_map]; rfl
theorem toNearHeldS (l : List WL) (hl : l.length ≤ 1048576) (hb : ∀ z ∈ l, z.f1.length ≤ 1048576) : Ev (fun k => laws_toNearHeldS.f k l) (l.map toW) := by
  unfold laws_toNearHeldS.f
  simp only [if_pos (show (0 : Int) ≤ (l.length : Int) by omega), Int.toNat_natCast, if_pos (show l.length ≤ 8796093022208 by omega)]
  exact toNearHeldS_l l hl hb _ 0 _ (by omega) rfl (by simp) (by simp)
theorem szNearHeldS_l (l : List WL) (hl : l.length ≤ 1048576) (hb : ∀ z ∈ l, z.f1.length ≤ 9223372036854775807) (d : Nat) : ∀ (i : Nat) (m : Int), i ≤ l.length → l.length - i = d → 0 ≤ m → m ≤ 1048576 →
    ∃ v, Ev (fun k => laws_szNearHeldS.l0 k l m (i : Int)) v ∧ (v < 0 ∨ (0 ≤ v ∧ v ≤ m ∧ ∀ z ∈ l.drop i, (z.f1.length : Int) ≤ m)) := by
  induction d with
  | zero =>
    intro i m hi hd h0 h1
    refine ⟨m, Ev.succ ?_, Or.inr ⟨h0, by omega, ?_⟩⟩
    · simp only [laws_szNearHeldS.l0, if_neg (show ¬ (i : Int) < (l.length : Int) by omega)]; exact Ev.now _
    · rw [List.drop_of_length_le (by omega)]; simp
  | succ d ih =>
    intro i m hi hd h0 h1
    have hlt : i < l.length := by omega
    have hz := hb _ (List.getElem_mem hlt)
    have hs := szByteS l[i].f1 m hz h0 h1
    by_cases hc : m - (l[i].f1.length : Int) < 0
    · refine ⟨-1, Ev.succ ?_, Or.inl (by omega)⟩
      simp only [laws_szNearHeldS.l0, if_pos (show (i : Int) < (l.length : Int) by omega), if_pos (show (0 : Int) ≤ (i : Int) by omega), rdWL l i hlt, laws_szNearHeld.f, hs, if_pos hc, Option.bind_some, if_pos (show (-1 : Int) < 0 by omega)]
      exact Ev.now _
    · obtain ⟨v, e, hv⟩ := ih (i + 1) (m - (l[i].f1.length : Int)) (by omega) (by omega) (by omega) (by omega)
      refine ⟨v, Ev.succ ?_, ?_⟩
      · simp only [laws_szNearHeldS.l0, if_pos (show (i : Int) < (l.length : Int) by omega), if_pos (show (0 : Int) ≤ (i : Int) by omega), rdWL l i hlt, laws_szNearHeld.f, hs, if_neg hc, Option.bind_some]
        rw [wrap_id (x := (i : Int) + 1) (by omega) (by omega)]
        exact e
      · rcases hv with hv | ⟨a, b, c⟩
        · exact Or.inl hv
        · refine Or.inr ⟨a, by omega, ?_⟩
          rw [List.drop_eq_getElem_cons hlt]
          intro z hzm
          rw [List.mem_cons] at hzm
          rcases hzm with rfl | hzm
          · omega
          · have := c z hzm; omega
theorem szNearHeldS (l : List WL) (hl0 : l.length ≤ 9223372036854775807) (hb : ∀ z ∈ l, z.f1.length ≤ 9223372036854775807) (m : Int) (h0 : 0 ≤ m) (h1 : m ≤ 1048576) :
    ∃ v, Ev (fun k => laws_szNearHeldS.f k l m) v ∧ (v < 0 ∨ (0 ≤ v ∧ v ≤ m ∧ (l.length : Int) ≤ m ∧ ∀ z ∈ l, (z.f1.length : Int) ≤ m)) := by
  unfold laws_szNearHeldS.f
  by_cases hc : m - (l.length : Int) < 0
  · refine ⟨-1, ?_, Or.inl (by omega)⟩
    rw [wrap_id (by omega) (by omega)]
    simp only [if_pos hc]; exact Ev.now _
  · obtain ⟨v, e, hv⟩ := szNearHeldS_l l (by omega) hb l.length 0 (m - (l.length : Int)) (by omega) (by omega) (by omega) (by omega)
    refine ⟨v, ?_, ?_⟩
    · rw [wrap_id (by omega) (by omega)]
      simp only [if_neg hc]; exact e
    · rcases hv with hv | ⟨a, b, c⟩
      · exact Or.inl hv
      · refine Or.inr ⟨a, by omega, by omega, fun z hz => ?_⟩
        have := c z (by rw [List.drop_zero]; exact hz); omega
/-! rows of words, marked -/
/-- How many numbers and bytes words have. -/
def wmany : List WI → Nat
  | [] => 0
  | z :: l => 1 + z.f1.length + wmany l
/-- What marking leaves. -/
def mkW : List WI → Int → List WI
  | [], _ => []
  | z :: l, m => ⟨m, markB z.f1.length (m + 1)⟩ :: mkW l (m + 1 + z.f1.length)
theorem wmany_append (a b : List WI) : wmany (a ++ b) = wmany a + wmany b := by
  induction a with
  | nil => simp [wmany]
  | cons z a ih => simp only [List.cons_append, wmany, ih]; omega
theorem wmany_len (l : List WI) : l.length ≤ wmany l := by
  induction l with
  | nil => simp
  | cons z l ih => simp only [wmany, List.length_cons]; omega
theorem wmany_mem (l : List WI) : ∀ z ∈ l, z.f1.length ≤ wmany l := by
  induction l with
  | nil => simp
  | cons z l ih =>
    intro y hy
    rw [List.mem_cons] at hy
    simp only [wmany]
    rcases hy with rfl | hy
    · omega
    · have := ih y hy; omega
theorem mkW_length (l : List WI) (m : Int) : (mkW l m).length = l.length := by
  induction l generalizing m with
  | nil => rfl
  | cons z l ih => simp [mkW, ih]
theorem markNearHeldS_l (d : Nat) : ∀ (i : Nat) (x : List WI) (m : Int), i ≤ x.length → x.length - i = d → x.length ≤ 4611686018427387904 → 0 ≤ m → m + wmany (x.drop i) ≤ 4611686018427387904 →
    Ev (fun k => laws_markNearHeldS.l0 k x m (i : Int)) (m + wmany (x.drop i), x.take i ++ mkW (x.drop i) m) := by
  induction d with
  | zero =>
    intro i x m hi hd hx h0 h1
    refine Ev.succ ?_
    simp only [laws_markNearHeldS.l0, if_neg (show ¬ (i : Int) < (x.length : Int) by omega)]
    rw [List.drop_of_length_le (by omega), List.take_of_length_le (by omega)]
    simp only [wmany, mkW, List.append_nil, Int.natCast_zero, Int.add_zero]
    exact Ev.now _
  | succ d ih =>
    intro i x m hi hd hx h0 h1
    have hlt : i < x.length := by omega
    have hdr : x.drop i = x[i] :: x.drop (i + 1) := List.drop_eq_getElem_cons hlt
    have h2 : m + (1 + x[i].f1.length + wmany (x.drop (i + 1)) : Nat) ≤ 4611686018427387904 := by rw [hdr] at h1; exact h1
    refine Ev.succ ?_
    simp only [laws_markNearHeldS.l0, if_pos (show (i : Int) < (x.length : Int) by omega), if_pos (show (0 : Int) ≤ (i : Int) by omega), rdWI x i hlt, Int.toNat_natCast]
    rw [wrap_id (x := m + 1) (by omega) (by omega), wrap_id (x := (i : Int) + 1) (by omega) (by omega)]
    refine Ev.bind (markByteS x[i].f1 (m + 1) (by omega) (by omega)) ?_
    have h3 := ih (i + 1) (x.set i ⟨m, markB x[i].f1.length (m + 1)⟩) (m + 1 + x[i].f1.length) (by simp; omega) (by simp; omega) (by simpa using hx) (by omega) (by rw [List.drop_set_of_lt (by omega)]; omega)
    rw [List.drop_set_of_lt (by omega), take_set_succ _ _ _ hlt] at h3
    rw [hdr]
    simp only [wmany, mkW]
    rw [show (m + (1 + x[i].f1.length + wmany (x.drop (i + 1)) : Nat) : Int) = m + 1 + x[i].f1.length + wmany (x.drop (i + 1)) by push_cast; omega]
    rw [List.append_assoc, List.singleton_append] at h3
    exact h3
theorem markNearHeldS (l : List WI) (m : Int) (h0 : 0 ≤ m) (h1 : m + wmany l ≤ 4611686018427387904) : Ev (fun k => laws_markNearHeldS.f k l m) (m + wmany l, mkW l m) := by
  unfold laws_markNearHeldS.f
  have hl := wmany_len l
  have := markNearHeldS_l l.length 0 l m (by omega) (by omega) (by omega) h0 (by simpa using h1)
  simpa using this
theorem heldNearHeldS_l (q : List WI) : ∀ (p : List WI) (m : Int), (p ++ mkW q m).length ≤ 4611686018427387904 → 0 ≤ m → m + wmany q ≤ 4611686018427387904 →
    Ev (fun k => laws_heldNearHeldS.l0 k (p ++ mkW q m) m (p.length : Int)) (m + wmany q) := by
  induction q with
  | nil =>
    intro p m hx h0 h1
    refine Ev.succ ?_
    simp only [laws_heldNearHeldS.l0, mkW, List.append_nil, Int.lt_irrefl, if_false, wmany, Int.natCast_zero, Int.add_zero]
    exact Ev.now _
  | cons z q ih =>
    intro p m hx h0 h1
    have hlen : (p ++ mkW (z :: q) m).length = p.length + 1 + q.length := by simp [mkW, mkW_length]; omega
    have h2 : m + (1 + z.f1.length + wmany q : Nat) ≤ 4611686018427387904 := h1
    have hg : (p ++ mkW (z :: q) m)[p.length]'(by omega) = (⟨m, markB z.f1.length (m + 1)⟩ : WI) := by simp [mkW]
    refine Ev.succ ?_
    simp only [laws_heldNearHeldS.l0]
    rw [rdWI _ p.length (by omega), hg]
    simp only [if_pos (show (p.length : Int) < ((p ++ mkW (z :: q) m).length : Int) by omega), if_pos (show (0 : Int) ≤ (p.length : Int) by omega), if_true]
    rw [wrap_id (x := m + 1) (by omega) (by omega), wrap_id (x := (p.length : Int) + 1) (by omega) (by omega)]
    refine Ev.bind (heldByteS z.f1.length (m + 1) (by omega) (by omega)) ?_
    simp only [if_neg (show ¬ m + 1 + (z.f1.length : Int) < 0 by omega)]
    have e : p ++ mkW (z :: q) m = (p ++ [⟨m, markB z.f1.length (m + 1)⟩]) ++ mkW q (m + 1 + z.f1.length) := by simp [mkW]
    have h3 := ih (p ++ [⟨m, markB z.f1.length (m + 1)⟩]) (m + 1 + z.f1.length) (by rw [← e]; exact hx) (by omega) (by omega)
    rw [← e] at h3
    simp only [wmany]
    rw [show (m + (1 + z.f1.length + wmany q : Nat) : Int) = m + 1 + z.f1.length + wmany q by push_cast; omega]
    rw [show ((p ++ [(⟨m, markB z.f1.length (m + 1)⟩ : WI)]).length : Int) = (p.length : Int) + 1 by simp] at h3
    exact h3
theorem heldNearHeldS (l : List WI) (m : Int) (h0 : 0 ≤ m) (h1 : m + wmany l ≤ 4611686018427387904) : Ev (fun k => laws_heldNearHeldS.f k (mkW l m) m) (m + wmany l) := by
  unfold laws_heldNearHeldS.f
  have hl := wmany_len l
  have := heldNearHeldS_l l [] m (by simp [mkW_length]; omega) h0 h1
  simpa using this

/-! what is known of neighbours: entries, told alike, copied, marked -/
abbrev NE := S60
abbrev NL := S88
theorem rdNE (l : List NE) (i : Nat) (h : i < l.length) : rd_T60 l (i : Int) = l[i] := by
  unfold rd_T60
  rw [Int.toNat_natCast, List.getD_eq_getElem?_getD, List.getElem?_eq_getElem h]; rfl
theorem rdNL (l : List NL) (i : Nat) (h : i < l.length) : rd_T88 l (i : Int) = l[i] := by
  unfold rd_T88
  rw [Int.toNat_natCast, List.getD_eq_getElem?_getD, List.getElem?_eq_getElem h]; rfl
theorem rdNE_set (l : List NE) (i : Nat) (v : NE) (h : i < l.length) : rd_T60 (l.set i v) (i : Int) = v := by
  rw [rdNE _ i (by simpa using h)]; simp
def toE (z : NL) : NE := ⟨z.f0, z.f1, z.f2⟩
theorem toNearEntryS_l (l : List NL) (hl : l.length ≤ 1048576) (d : Nat) : ∀ (i : Nat) (x : List NE), i ≤ l.length → l.length - i = d → x.length = l.length → x.take i = (l.map toE).take i →
    Ev (fun k => laws_toNearEntryS.l0 k l x (i : Int)) (l.map toE) := by
  induction d with
  | zero =>
    intro i x hi hd hx ht
    obtain rfl : i = l.length := by omega
    refine Ev.succ ?_
    simp only [laws_toNearEntryS.l0, Int.lt_irrefl, if_false]
    have : x = l.map toE := by rw [← hx, List.take_length] at ht; rw [ht, hx, List.take_of_length_le (by simp)]
    rw [this]; exact Ev.now _
  | succ d ih =>
    intro i x hi hd hx ht
    have hlt : i < l.length := by omega
    refine Ev.succ ?_
    simp only [laws_toNearEntryS.l0, if_pos (show (i : Int) < (l.length : Int) by omega), if_pos (show (0 : Int) ≤ (i : Int) by omega), rdNL l i hlt, laws_toNearEntry.f, Option.bind_some, if_pos (show (i : Int) < (x.length : Int) by omega), Int.toNat_natCast]
    rw [wrap_id (by omega) (by omega)]
    refine ih (i + 1) _ (by omega) (by omega) (by simpa using hx) ?_
    rw [take_set_succ _ _ _ (by omega), ht, List.take_succ_eq_append_getElem (by simpa using hlt), List.getElem_map]; rfl
theorem toNearEntryS (l : List NL) (hl : l.length ≤ 1048576) : Ev (fun k => laws_toNearEntryS.f k l) (l.map toE) := by
  unfold laws_toNearEntryS.f
  simp only [if_pos (show (0 : Int) ≤ (l.length : Int) by omega), Int.toNat_natCast, if_pos (show l.length ≤ 11728124029610 by omega)]
  exact toNearEntryS_l l hl _ 0 _ (by omega) rfl (by simp) (by simp)
theorem eqNearEntryS_l (l : List NE) (hl : l.length ≤ 1048576) (d : Nat) : ∀ i : Nat, i ≤ l.length → l.length - i = d → Ev (fun k => laws_eqNearEntryS.l0 k l l (i : Int)) true := by
  induction d with
  | zero =>
    intro i hi hd
    refine Ev.succ ?_
    simp only [laws_eqNearEntryS.l0, if_neg (show ¬ (i : Int) < (l.length : Int) by omega)]
    exact Ev.now true
  | succ d ih =>
    intro i hi hd
    refine Ev.succ ?_
    simp only [laws_eqNearEntryS.l0, if_pos (show (i : Int) < (l.length : Int) by omega), if_pos (show (0 : Int) ≤ (i : Int) by omega), laws_eqNearEntry.f, if_true, Option.bind_some]
    rw [wrap_id (by omega) (by omega)]
    exact ih (i + 1) (by omega) (by omega)
theorem eqNearEntryS (l : List NE) (hl : l.length ≤ 1048576) : Ev (fun k => laws_eqNearEntryS.f k l l) true := by
  unfold laws_eqNearEntryS.f
  simp only [if_true]
  exact eqNearEntryS_l l hl _ 0 (by omega) rfl
theorem szNearEntryS (l : List NL) (m : Int) (h : l.length ≤ 9223372036854775807) (h0 : 0 ≤ m) (h1 : m ≤ 1048576) : laws_szNearEntryS.f l m = some (if m - l.length < 0 then -1 else m - l.length) := by
  unfold laws_szNearEntryS.f
  rw [wrap_id (by omega) (by omega)]
  by_cases hc : m - (l.length : Int) < 0
  · rw [if_pos hc, if_pos hc]
  · rw [if_neg hc, if_neg hc]
/-- What marking leaves. -/
def mkE : Nat → Int → List NE
  | 0, _ => []
  | n + 1, m => ⟨m, m + 1, m + 1 + 1⟩ :: mkE n (m + 1 + 1 + 1)
theorem mkE_length (n : Nat) (m : Int) : (mkE n m).length = n := by
  induction n generalizing m with
  | zero => rfl
  | succ n ih => simp [mkE, ih]
theorem markNearEntryS_l (d : Nat) : ∀ (i : Nat) (x : List NE) (m : Int), i + d = x.length → x.length ≤ 4611686018427387904 → 0 ≤ m → m + 3 * d ≤ 4611686018427387904 →
    Ev (fun k => laws_markNearEntryS.l0 k x m (i : Int)) (m + 3 * d, x.take i ++ mkE d m) := by
  induction d with
  | zero =>
    intro i x m hi hx h0 h1
    refine Ev.succ ?_
    simp only [laws_markNearEntryS.l0, if_neg (show ¬ (i : Int) < (x.length : Int) by omega)]
    rw [List.take_of_length_le (by omega)]
    simp only [mkE, List.append_nil, Int.natCast_zero, Int.mul_zero, Int.add_zero]
    exact Ev.now _
  | succ d ih =>
    intro i x m hi hx h0 h1
    have hlt : i < x.length := by omega
    have h3 := ih (i + 1) (x.set i ⟨m, m + 1, m + 1 + 1⟩) (m + 1 + 1 + 1) (by simp; omega) (by simpa using hx) (by omega) (by omega)
    rw [take_set_succ _ _ _ hlt, List.append_assoc, List.singleton_append] at h3
    refine Ev.succ ?_
    simp only [laws_markNearEntryS.l0, if_pos (show (i : Int) < (x.length : Int) by omega), if_pos (show (0 : Int) ≤ (i : Int) by omega), Option.bind_some, Int.toNat_natCast]
    simp only [rdNE_set x i _ hlt, List.set_set]
    rw [wrap_id (x := m + 1) (by omega) (by omega), wrap_id (x := m + 1 + 1) (by omega) (by omega), wrap_id (x := m + 1 + 1 + 1) (by omega) (by omega), wrap_id (x := (i : Int) + 1) (by omega) (by omega)]
    simp only [mkE]
    rw [show (m + 3 * ((d + 1 : Nat) : Int)) = m + 1 + 1 + 1 + 3 * (d : Int) by push_cast; omega]
    exact h3
theorem markNearEntryS (l : List NE) (m : Int) (h0 : 0 ≤ m) (h1 : m + 3 * l.length ≤ 4611686018427387904) : Ev (fun k => laws_markNearEntryS.f k l m) (m + 3 * l.length, mkE l.length m) := by
  unfold laws_markNearEntryS.f
  have := markNearEntryS_l l.length 0 l m (by omega) (by omega) h0 h1
  simpa using this
theorem heldNearEntryS_l (q : Nat) : ∀ (p : List NE) (m : Int), (p ++ mkE q m).length ≤ 4611686018427387904 → 0 ≤ m → m + 3 * q ≤ 4611686018427387904 →
    Ev (fun k => laws_heldNearEntryS.l0 k (p ++ mkE q m) m (p.length : Int)) (m + 3 * q) := by
  induction q with
  | zero =>
    intro p m hx h0 h1
    refine Ev.succ ?_
    simp only [laws_heldNearEntryS.l0, mkE, List.append_nil, Int.lt_irrefl, if_false, Int.natCast_zero, Int.mul_zero, Int.add_zero]
    exact Ev.now _
  | succ q ih =>
    intro p m hx h0 h1
    have hlen : (p ++ mkE (q + 1) m).length = p.length + 1 + q := by simp [mkE, mkE_length]; omega
    have hg : (p ++ mkE (q + 1) m)[p.length]'(by omega) = (⟨m, m + 1, m + 1 + 1⟩ : NE) := by simp [mkE]
    refine Ev.succ ?_
    simp only [laws_heldNearEntryS.l0]
    rw [rdNE _ p.length (by omega), hg]
    simp only [if_pos (show (p.length : Int) < ((p ++ mkE (q + 1) m).length : Int) by omega), if_pos (show (0 : Int) ≤ (p.length : Int) by omega), if_true]
    rw [wrap_id (x := m + 1) (by omega) (by omega), wrap_id (x := m + 1 + 1) (by omega) (by omega), wrap_id (x := m + 1 + 1 + 1) (by omega) (by omega), wrap_id (x := (p.length : Int) + 1) (by omega) (by omega)]
    simp only [if_true]
    have e : p ++ mkE (q + 1) m = (p ++ [⟨m, m + 1, m + 1 + 1⟩]) ++ mkE q (m + 1 + 1 + 1) := by simp [mkE]
    have h3 := ih (p ++ [⟨m, m + 1, m + 1 + 1⟩]) (m + 1 + 1 + 1) (by rw [← e]; exact hx) (by omega) (by omega)
    rw [← e] at h3
    rw [show (m + 3 * ((q + 1 : Nat) : Int)) = m + 1 + 1 + 1 + 3 * (q : Int) by push_cast; omega]
    rw [show ((p ++ [(⟨m, m + 1, m + 1 + 1⟩ : NE)]).length : Int) = (p.length : Int) + 1 by simp] at h3
    exact h3
theorem heldNearEntryS (n : Nat) (m : Int) (h0 : 0 ≤ m) (h1 : m + 3 * n ≤ 4611686018427387904) : Ev (fun k => laws_heldNearEntryS.f k (mkE n m) m) (m + 3 * n) := by
  unfold laws_heldNearEntryS.f
  have := heldNearEntryS_l n [] m (by simp [mkE_length]; omega) h0 h1
  simpa using this
/-! what is known and kept -/
theorem szNear (e : List NL) (h : List WL) (he : e.length ≤ 9223372036854775807) (hh : h.length ≤ 9223372036854775807) (hb : ∀ z ∈ h, z.f1.length ≤ 9223372036854775807) :
    ∃ v, Ev (fun k => laws_szNear.f k e h 1048576) v ∧ (v < 0 ∨ (e.length ≤ 1048576 ∧ h.length ≤ 1048576 ∧ ∀ z ∈ h, z.f1.length ≤ 1048576)) := by
  unfold laws_szNear.f
  rw [szNearEntryS e 1048576 he (by omega) (by omega)]
  simp only [Option.bind_some]
  by_cases h1 : 1048576 - (e.length : Int) < 0
  · refine ⟨-1, ?_, Or.inl (by omega)⟩
    simp only [if_pos h1, if_pos (show (-1 : Int) < 0 by omega)]; exact Ev.now _
  · obtain ⟨v, ev, hv⟩ := szNearHeldS h hh hb (1048576 - (e.length : Int)) (by omega) (by omega)
    by_cases h2 : v < 0
    · refine ⟨-1, ?_, Or.inl (by omega)⟩
      simp only [if_neg h1]
      refine Ev.bind ev ?_
      simp only [if_pos h2]; exact Ev.now _
    · obtain ⟨b1, b2, b3, b4⟩ := hv.resolve_left h2
      refine ⟨v, ?_, Or.inr ⟨by omega, by omega, fun z hz => by have := b4 z hz; omega⟩⟩
      simp only [if_neg h1]
      refine Ev.bind ev ?_
      simp only [if_neg h2]; exact Ev.now _
def nfit (e : List NE) (h : List WI) : Prop := e.length ≤ 1048576 ∧ h.length ≤ 1048576 ∧ ∀ z ∈ h, z.f1.length ≤ 1048576
theorem toNear (e : List NL) (h : List WL) (he : e.length ≤ 1048576) (hh : h.length ≤ 1048576) (hb : ∀ z ∈ h, z.f1.length ≤ 1048576) : Ev (fun k => laws_toNear.f k e h) (e.map toE, h.map toW) := by
  unfold laws_toNear.f
  exact Ev.bind (toNearEntryS e he) (Ev.bind (toNearHeldS h hh hb) (Ev.now _))
theorem eqNear (e : List NE) (h : List WI) (f : nfit e h) : Ev (fun k => laws_eqNear.f k e h e h) true := by
  unfold laws_eqNear.f
  refine Ev.bind (eqNearEntryS e f.1) ?_
  simp only [if_true]
  refine Ev.bind (eqNearHeldS h f.2.1 f.2.2) ?_
  simp only [if_true]
  exact Ev.now _
theorem wmany_bound (l : List WI) (n b : Nat) (hl : l.length ≤ n) (hb : ∀ z ∈ l, z.f1.length ≤ b) : wmany l ≤ n * (1 + b) := by
  induction l generalizing n with
  | nil => simp [wmany]
  | cons z l ih =>
    obtain ⟨n, rfl⟩ : ∃ m, n = m + 1 := ⟨n - 1, by simp at hl; omega⟩
    have h1 := ih n (by simpa using hl) (fun y hy => hb y (List.mem_cons_of_mem _ hy))
    have h2 := hb z List.mem_cons_self
    simp only [wmany]
    rw [Nat.add_mul, Nat.one_mul]
    omega
theorem nfit_many {e : List NE} {h : List WI} (f : nfit e h) : (1 : Int) + 3 * e.length + wmany h + 1048576 ≤ 4611686018427387904 := by
  obtain ⟨a1, a2, a3⟩ := f
  have := wmany_bound h 1048576 1048576 a2 a3
  omega
theorem markNear (e : List NE) (h : List WI) (m : Int) (h0 : 0 ≤ m) (h1 : m + 3 * e.length + wmany h ≤ 4611686018427387904) : Ev (fun k => laws_markNear.f k e h m) (m + 3 * e.length + wmany h, mkE e.length m, mkW h (m + 3 * e.length)) := by
  unfold laws_markNear.f
  exact Ev.bind (markNearEntryS e m h0 (by omega)) (Ev.bind (markNearHeldS h _ (by omega) (by omega)) (Ev.now _))
theorem heldNear (n : Nat) (h : List WI) (m : Int) (h0 : 0 ≤ m) (h1 : m + 3 * n + wmany h ≤ 4611686018427387904) : Ev (fun k => laws_heldNear.f k (mkE n m) (mkW h (m + 3 * n)) m) (m + 3 * n + wmany h) := by
  unfold laws_heldNear.f
  refine Ev.bind (heldNearEntryS n m h0 (by omega)) ?_
  simp only [if_neg (show ¬ m + 3 * (n : Int) < 0 by omega)]
  refine Ev.bind (heldNearHeldS h _ (by omega) (by omega)) ?_
  simp only [if_neg (show ¬ m + 3 * (n : Int) + (wmany h : Int) < 0 by omega)]
  exact Ev.now _

/-! what a station knows and keeps: whether it is ok, who has an address -/
theorem impl_word_ (x : Int) : impl_word.f x = some (inb x 0 65535) := by unfold impl_word.f; rw [impl_in_]; rfl
def entOk (z : NE) : Bool := inb z.f0 0 65535 && (inb z.f1 0 254 && inb z.f2 0 1000000)
def entsOk : List NE → List NE → Bool
  | _, [] => true
  | p, z :: l => entOk z && (!p.any (fun y => y.f0 == z.f0) && entsOk (p ++ [z]) l)
def heldOk (z : WI) : Bool := inb z.f0 0 65535 && !decide ((z.f1.length : Int) > 64)
def nearOk (e : List NE) (h : List WI) : Bool := entsOk [] e && (decide ((e.length : Int) ≤ 4) && (decide ((h.length : Int) ≤ 4) && h.all heldOk))
theorem at_any (a : Int) (l : List NE) : ∀ j : Nat, (l.any (fun y => y.f0 == a) = true → (j : Int) ≤ impl_Near_at_ix.at a j l ∧ impl_Near_at_ix.at a j l < j + l.length) ∧ (l.any (fun y => y.f0 == a) = false → impl_Near_at_ix.at a j l = -1) := by
  induction l with
  | nil => intro j; simp [impl_Near_at_ix.at]
  | cons z l ih =>
    intro j
    have h := ih (j + 1)
    simp only [List.any_cons, impl_Near_at_ix.at, List.length_cons]
    cases hz : (z.f0 == a)
    · simp only [Bool.false_or, Bool.false_eq_true, if_false]
      refine ⟨fun ha => ?_, h.2⟩
      have := h.1 ha
      omega
    · simp only [Bool.true_or, if_true]
      exact ⟨fun _ => by omega, fun hf => by cases hf⟩
theorem at_app (a : Int) (p q : List NE) : ∀ j : Nat, impl_Near_at_ix.at a j (p ++ q) = if p.any (fun y => y.f0 == a) = true then impl_Near_at_ix.at a j p else impl_Near_at_ix.at a (j + p.length) q := by
  induction p with
  | nil => intro j; simp
  | cons z p ih =>
    intro j
    by_cases hz : (z.f0 == a) = true
    · have h1 : (z :: p).any (fun y => y.f0 == a) = true := by rw [List.any_cons, hz, Bool.true_or]
      rw [if_pos h1]
      simp only [List.cons_append, impl_Near_at_ix.at]
      rw [if_pos hz, if_pos hz]
    · have h1 : (z :: p).any (fun y => y.f0 == a) = p.any (fun y => y.f0 == a) := by rw [List.any_cons, Bool.eq_false_iff.2 hz, Bool.false_or]
      by_cases hp : p.any (fun y => y.f0 == a) = true
      · rw [if_pos (h1.trans hp)]
        simp only [List.cons_append, impl_Near_at_ix.at]
        rw [if_neg hz, if_neg hz, ih, if_pos hp]
      · rw [if_neg (by rw [h1]; exact hp)]
        simp only [List.cons_append, impl_Near_at_ix.at]
        rw [if_neg hz, ih, if_neg hp, List.length_cons, show j + 1 + p.length = j + (p.length + 1) by omega]
theorem at_lt (e : List NE) (i : Nat) (h : i < e.length) : decide (impl_Near_at_ix.at e[i].f0 0 e < (i : Int)) = (e.take i).any (fun y => y.f0 == e[i].f0) := by
  have he : e = e.take i ++ e[i] :: e.drop (i + 1) := by rw [← List.drop_eq_getElem_cons h, List.take_append_drop]
  have h1 := at_app e[i].f0 (e.take i) (e[i] :: e.drop (i + 1)) 0
  rw [← he] at h1
  rw [h1]
  have hl : (e.take i).length = i := by rw [List.length_take]; omega
  cases ha : (e.take i).any (fun y => y.f0 == e[i].f0)
  · simp only [Bool.false_eq_true, if_false, impl_Near_at_ix.at, beq_self_eq_true, if_true]
    rw [hl]; exact decide_eq_false (by omega)
  · simp only [if_true]
    have := (at_any e[i].f0 (e.take i) 0).1 ha
    exact decide_eq_true (by omega)
theorem impl_at_ (e : List NE) (h : List WI) (a : Int) (he : e.length ≤ 1048576) : impl_Near_at.f e h a = some (impl_Near_at_ix.at a 0 e) := by
  unfold impl_Near_at.f; rw [if_pos (by omega)]
theorem clo_ (z : WI) : impl_NearOk_1.f z.f0 z.f1 = some (!heldOk z) := by
  unfold impl_NearOk_1.f heldOk
  rw [impl_word_]
  cases inb z.f0 0 65535 <;> simp
theorem heldIx_l (h : List WI) (hl : h.length ≤ 1048576) (d : Nat) : ∀ i : Nat, i + d = h.length → ∃ v, Ev (fun k => impl_NearHeld_55.l0 k h (h.length : Int) (i : Int)) v ∧ decide (v ≥ 0) = !(h.drop i).all heldOk := by
  induction d with
  | zero =>
    intro i hi
    refine ⟨-1, Ev.succ ?_, ?_⟩
    · simp only [impl_NearHeld_55.l0, if_neg (show ¬ (i : Int) < (h.length : Int) by omega)]; exact Ev.now _
    · rw [List.drop_of_length_le (by omega)]; rfl
  | succ d ih =>
    intro i hi
    have hlt : i < h.length := by omega
    obtain ⟨v, e, hv⟩ := ih (i + 1) (by omega)
    cases hz : heldOk h[i]
    · refine ⟨i, Ev.succ ?_, ?_⟩
      · simp only [impl_NearHeld_55.l0, if_pos (show (i : Int) < (h.length : Int) by omega), if_pos (show (0 : Int) ≤ (i : Int) by omega), rdWI h i hlt, clo_, hz, Option.bind_some, Bool.not_false, if_true]
        exact Ev.now _
      · rw [List.drop_eq_getElem_cons hlt, List.all_cons, hz]; simp
    · refine ⟨v, Ev.succ ?_, ?_⟩
      · simp only [impl_NearHeld_55.l0, if_pos (show (i : Int) < (h.length : Int) by omega), if_pos (show (0 : Int) ≤ (i : Int) by omega), rdWI h i hlt, clo_, hz, Option.bind_some, Bool.not_true, Bool.false_eq_true, if_false]
        rw [wrap_id (by omega) (by omega)]
        exact e
      · rw [List.drop_eq_getElem_cons hlt, List.all_cons, hz, Bool.true_and]; exact hv
theorem heldHas (h : List WI) (hl : h.length ≤ 1048576) : Ev (fun k => impl_NearHeld_34.f k h) (!h.all heldOk) := by
  obtain ⟨v, e, hv⟩ := heldIx_l h hl h.length 0 (by omega)
  rw [List.drop_zero] at hv
  unfold impl_NearHeld_34.f impl_NearHeld_55.f
  refine Ev.bind e ?_
  rw [hv]; exact Ev.now _
theorem impl_ok_l (e : List NE) (h : List WI) (he : e.length ≤ 1048576) (hh : h.length ≤ 1048576) (d : Nat) : ∀ i : Nat, i + d = e.length →
    Ev (fun k => impl_NearOk.l0 k e (e.length : Int) (i : Int) e h) (entsOk (e.take i) (e.drop i) && (decide ((e.length : Int) ≤ 4) && (decide ((h.length : Int) ≤ 4) && h.all heldOk))) := by
  induction d with
  | zero =>
    intro i hi
    refine Ev.succ ?_
    rw [List.drop_of_length_le (by omega)]
    simp only [impl_NearOk.l0, if_neg (show ¬ (i : Int) < (e.length : Int) by omega), entsOk, Bool.true_and]
    by_cases h1 : (e.length : Int) ≤ 4
    · by_cases h2 : (h.length : Int) ≤ 4
      · simp only [if_pos h1, if_pos h2, decide_eq_true h1, decide_eq_true h2, Bool.true_and]
        refine Ev.bind (heldHas h hh) ?_
        rw [Bool.not_not]; exact Ev.now _
      · simp only [if_pos h1, if_neg h2, decide_eq_true h1, decide_eq_false h2, Bool.true_and, Bool.false_and]; exact Ev.now _
    · simp only [if_neg h1, decide_eq_false h1, Bool.false_and]; exact Ev.now _
  | succ d ih =>
    intro i hi
    have hlt : i < e.length := by omega
    have h1 := ih (i + 1) (by omega)
    rw [List.drop_eq_getElem_cons hlt, entsOk, ← List.take_succ_eq_append_getElem hlt]
    have j : ∀ v : Bool, Ev (fun k => impl_NearOk.j1 k e (e.length : Int) (i : Int) v e h) (!v && (entsOk (e.take (i + 1)) (e.drop (i + 1)) && (decide ((e.length : Int) ≤ 4) && (decide ((h.length : Int) ≤ 4) && h.all heldOk)))) := by
      intro v
      refine Ev.succ ?_
      cases v
      · simp only [impl_NearOk.j1, Bool.false_eq_true, if_false, Bool.not_false, Bool.true_and]
        rw [wrap_id (by omega) (by omega)]
        exact h1
      · simp only [impl_NearOk.j1, if_true, Bool.not_true, Bool.false_and]; exact Ev.now _
    refine Ev.succ ?_
    simp only [impl_NearOk.l0, if_pos (show (i : Int) < (e.length : Int) by omega), if_pos (show (0 : Int) ≤ (i : Int) by omega), rdNE e i hlt, impl_word_, impl_in_, impl_at_ e h _ he, Option.bind_some, at_lt e i hlt, entOk]
    cases inb e[i].f0 0 65535
    · simp only [Bool.false_eq_true, if_false, Bool.false_and]; exact j true
    · cases inb e[i].f1 0 254
      · simp only [if_true, Bool.false_eq_true, if_false, Bool.false_and, Bool.and_false]; exact j true
      · cases inb e[i].f2 0 1000000
        · simp only [if_true, Bool.false_eq_true, if_false, Bool.false_and, Bool.and_false]; exact j true
        · simp only [if_true, Bool.true_and]
          have := j ((e.take i).any (fun y => y.f0 == e[i].f0))
          rw [← Bool.and_assoc] at this
          exact this
theorem impl_ok (e : List NE) (h : List WI) (he : e.length ≤ 1048576) (hh : h.length ≤ 1048576) : Ev (fun k => impl_NearOk.f k e h) (nearOk e h) := by
  unfold impl_NearOk.f nearOk
  have := impl_ok_l e h he hh e.length 0 (by omega)
  rw [List.take_zero, List.drop_zero] at this
  exact this
theorem spec_ok_l2 (e : List NE) (h : List WI) (he : e.length ≤ 1048576) (hh : h.length ≤ 1048576) (d : Nat) : ∀ i : Nat, i + d = h.length →
    Ev (fun k => spec_NearOk.l2 k (i : Int) e h) ((h.drop i).all heldOk && (decide ((e.length : Int) ≤ 4) && decide ((h.length : Int) ≤ 4))) := by
  induction d with
  | zero =>
    intro i hi
    refine Ev.succ ?_
    rw [List.drop_of_length_le (by omega)]
    simp only [spec_NearOk.l2, if_neg (show ¬ (i : Int) < (h.length : Int) by omega), List.all_nil, Bool.true_and]
    by_cases h1 : (e.length : Int) ≤ 4
    · simp only [if_pos h1, decide_eq_true h1, Bool.true_and]; exact Ev.now _
    · simp only [if_neg h1, decide_eq_false h1, Bool.false_and]; exact Ev.now _
  | succ d ih =>
    intro i hi
    have hlt : i < h.length := by omega
    have h1 := ih (i + 1) (by omega)
    rw [List.drop_eq_getElem_cons hlt, List.all_cons]
    refine Ev.succ ?_
    simp only [spec_NearOk.l2, if_pos (show (i : Int) < (h.length : Int) by omega), if_pos (show (0 : Int) ≤ (i : Int) by omega), rdWI h i hlt, spec_in_, Option.bind_some, heldOk]
    cases inb h[i].f0 0 65535
    · simp only [Bool.false_eq_true, if_false, Bool.false_and]; exact Ev.now _
    · by_cases h9 : (h[i].f1.length : Int) > 64
      · simp only [if_true, if_pos h9, decide_eq_true h9, Bool.not_true, Bool.and_false, Bool.false_and]; exact Ev.now _
      · simp only [if_true, if_neg h9, decide_eq_false h9, Bool.not_false, Bool.and_true, Bool.true_and]
        rw [wrap_id (by omega) (by omega)]
        exact h1
theorem spec_ok_l1 (e : List NE) (h : List WI) (he : e.length ≤ 1048576) (i : Nat) (hi : i < e.length) (R : Bool) (hR : Ev (fun k => spec_NearOk.l0 k ((i + 1 : Nat) : Int) e h) R) (d : Nat) : ∀ j : Nat, j + d = i →
    Ev (fun k => spec_NearOk.l1 k (i : Int) (j : Int) e h e[i].f0 e[i].f1 e[i].f2) (!((e.take i).drop j).any (fun y => y.f0 == e[i].f0) && R) := by
  induction d with
  | zero =>
    intro j hj
    refine Ev.succ ?_
    rw [List.drop_of_length_le (by rw [List.length_take]; omega)]
    simp only [spec_NearOk.l1, if_neg (show ¬ (j : Int) < (i : Int) by omega), List.any_nil, Bool.not_false, Bool.true_and]
    rw [wrap_id (by omega) (by omega)]
    exact hR
  | succ d ih =>
    intro j hj
    have hlt : j < (e.take i).length := by rw [List.length_take]; omega
    have hlt2 : j < e.length := by omega
    have h1 := ih (j + 1) (by omega)
    rw [List.drop_eq_getElem_cons hlt, List.any_cons, List.getElem_take]
    refine Ev.succ ?_
    simp only [spec_NearOk.l1, if_pos (show (j : Int) < (i : Int) by omega), if_pos (show (0 : Int) ≤ (j : Int) by omega), if_pos (show (j : Int) < (e.length : Int) by omega), rdNE e j hlt2]
    by_cases hz : e[j].f0 = e[i].f0
    · simp only [if_pos hz, hz, beq_self_eq_true, Bool.true_or, Bool.not_true, Bool.false_and]; exact Ev.now _
    · have hb : (e[j].f0 == e[i].f0) = false := beq_eq_false_iff_ne.2 hz
      simp only [if_neg hz, hb, Bool.false_or]
      rw [wrap_id (by omega) (by omega)]
      exact h1
theorem spec_ok_l (e : List NE) (h : List WI) (he : e.length ≤ 1048576) (hh : h.length ≤ 1048576) (d : Nat) : ∀ i : Nat, i + d = e.length →
    Ev (fun k => spec_NearOk.l0 k (i : Int) e h) (entsOk (e.take i) (e.drop i) && (h.all heldOk && (decide ((e.length : Int) ≤ 4) && decide ((h.length : Int) ≤ 4)))) := by
  induction d with
  | zero =>
    intro i hi
    refine Ev.succ ?_
    rw [List.drop_of_length_le (by omega)]
    simp only [spec_NearOk.l0, if_neg (show ¬ (i : Int) < (e.length : Int) by omega), entsOk, Bool.true_and]
    have := spec_ok_l2 e h he hh h.length 0 (by omega)
    rw [List.drop_zero] at this
    exact this
  | succ d ih =>
    intro i hi
    have hlt : i < e.length := by omega
    have h1 := ih (i + 1) (by omega)
    rw [List.drop_eq_getElem_cons hlt, entsOk, ← List.take_succ_eq_append_getElem hlt]
    have j : ∀ v : Bool, Ev (fun k => spec_NearOk.j1 k (i : Int) v e h e[i].f0 e[i].f1 e[i].f2) (!v && (!(e.take i).any (fun y => y.f0 == e[i].f0) && (entsOk (e.take (i + 1)) (e.drop (i + 1)) && (h.all heldOk && (decide ((e.length : Int) ≤ 4) && decide ((h.length : Int) ≤ 4)))))) := by
      intro v
      refine Ev.succ ?_
      cases v
      · simp only [spec_NearOk.j1, Bool.false_eq_true, if_false, Bool.not_false, Bool.true_and]
        have := spec_ok_l1 e h he i hlt _ h1 i 0 (by omega)
        rw [List.drop_zero] at this
        exact this
      · simp only [spec_NearOk.j1, if_true, Bool.not_true, Bool.false_and]; exact Ev.now _
    refine Ev.succ ?_
    simp only [spec_NearOk.l0, if_pos (show (i : Int) < (e.length : Int) by omega), if_pos (show (0 : Int) ≤ (i : Int) by omega), rdNE e i hlt, spec_in_, Option.bind_some, entOk]
    cases inb e[i].f0 0 65535
    · simp only [Bool.false_eq_true, if_false, Bool.false_and]; exact j true
    · cases inb e[i].f1 0 254
      · simp only [if_true, Bool.false_eq_true, if_false, Bool.false_and, Bool.and_false]; exact j true
      · cases inb e[i].f2 0 1000000
        · simp only [if_true, Bool.false_and, Bool.and_false, Bool.not_false]; exact j true
        · simp only [if_true, Bool.true_and, Bool.not_true]
          have := j false
          rw [Bool.not_false, Bool.true_and, ← Bool.and_assoc] at this
          exact this
theorem spec_ok (e : List NE) (h : List WI) (he : e.length ≤ 1048576) (hh : h.length ≤ 1048576) : Ev (fun k => spec_NearOk.f k e h) (nearOk e h) := by
  unfold spec_NearOk.f nearOk
  have := spec_ok_l e h he hh e.length 0 (by omega)
  rw [List.take_zero, List.drop_zero] at this
  rw [show (decide ((e.length : Int) ≤ 4) && (decide ((h.length : Int) ≤ 4) && h.all heldOk)) = (h.all heldOk && (decide ((e.length : Int) ≤ 4) && decide ((h.length : Int) ≤ 4))) by cases h.all heldOk <;> cases decide ((e.length : Int) ≤ 4) <;> cases decide ((h.length : Int) ≤ 4) <;> rfl]
  exact this
/-! who has an address -/
def findN (a now : Int) : List NE → Int
  | [] => -1
  | z :: l => if z.f0 = a then (if z.f2 > now then z.f1 else findN a now l) else findN a now l
def findI (a now : Int) : List NE → Int
  | [] => -1
  | z :: l => if z.f0 = a then (if z.f2 > now then z.f1 else -1) else findI a now l
theorem ents_not (a now : Int) (l : List NE) : ∀ p, entsOk p l = true → p.any (fun y => y.f0 == a) = true → findN a now l = -1 := by
  induction l with
  | nil => intro p _ _; rfl
  | cons z l ih =>
    intro p h hp
    simp only [entsOk, Bool.and_eq_true, Bool.not_eq_true'] at h
    obtain ⟨_, h2, h3⟩ := h
    have hz : ¬ z.f0 = a := by intro hz; rw [hz, hp] at h2; cases h2
    rw [findN, if_neg hz]
    exact ih (p ++ [z]) h3 (by rw [List.any_append, hp, Bool.true_or])
theorem find_eq (a now : Int) (l : List NE) : ∀ p, entsOk p l = true → findI a now l = findN a now l := by
  induction l with
  | nil => intro p _; rfl
  | cons z l ih =>
    intro p h
    simp only [entsOk, Bool.and_eq_true, Bool.not_eq_true'] at h
    obtain ⟨_, h2, h3⟩ := h
    rw [findI, findN]
    by_cases hz : z.f0 = a
    · rw [if_pos hz, if_pos hz, ents_not a now l (p ++ [z]) h3 (by simp [hz])]
    · rw [if_neg hz, if_neg hz]; exact ih _ h3
theorem at_get (a now : Int) (l : List NE) : ∀ j : Nat, (impl_Near_at_ix.at a j l = -1 ∧ findI a now l = -1) ∨ ∃ i : Nat, ∃ h : i < l.length, impl_Near_at_ix.at a j l = ((j + i : Nat) : Int) ∧ findI a now l = if l[i].f2 > now then l[i].f1 else -1 := by
  induction l with
  | nil => intro j; exact Or.inl ⟨rfl, rfl⟩
  | cons z l ih =>
    intro j
    simp only [impl_Near_at_ix.at, findI]
    by_cases hz : z.f0 = a
    · rw [if_pos (beq_iff_eq.2 hz), if_pos hz]
      exact Or.inr ⟨0, by simp, by simp, by simp⟩
    · rw [if_neg (by simpa using hz), if_neg hz]
      rcases ih (j + 1) with h | ⟨i, hi, h1, h2⟩
      · exact Or.inl h
      · exact Or.inr ⟨i + 1, by simpa using hi, by rw [h1]; congr 1; omega, by rw [h2]; simp⟩
theorem impl_find (e : List NE) (h : List WI) (a now : Int) (he : e.length ≤ 1048576) (hok : entsOk [] e = true) : impl_Near_find.f e h a now = some (findN a now e) := by
  unfold impl_Near_find.f
  rw [impl_at_ e h a he, ← find_eq a now e [] hok]
  simp only [Option.bind_some]
  rcases at_get a now e 0 with ⟨h1, h2⟩ | ⟨i, hi, h1, h2⟩
  · rw [h1, h2]; rfl
  · rw [h1, h2, Nat.zero_add]
    simp only [if_pos (show (i : Int) ≥ 0 by omega), if_pos (show (0 : Int) ≤ (i : Int) by omega), if_pos (show (i : Int) < (e.length : Int) by omega), rdNE e i hi]
    split <;> rfl
theorem spec_find_l (e : List NE) (h : List WI) (a now : Int) (he : e.length ≤ 1048576) (hh : h.length ≤ 1048576) (hok : nearOk e h = true) (d : Nat) : ∀ i : Nat, i + d = e.length →
    Ev (fun k => spec_NearFind.l0 k a now (i : Int) e h) (findN a now (e.drop i)) := by
  induction d with
  | zero =>
    intro i hi
    refine Ev.succ ?_
    rw [List.drop_of_length_le (by omega)]
    simp only [spec_NearFind.l0, if_neg (show ¬ (i : Int) < (e.length : Int) by omega)]
    refine Ev.succ ?_
    simp only [spec_NearFind.j1, Bool.false_eq_true, if_false, findN]
    exact Ev.now _
  | succ d ih =>
    intro i hi
    have hlt : i < e.length := by omega
    have h1 := ih (i + 1) (by omega)
    have hs := spec_ok e h he hh
    rw [hok] at hs
    refine Ev.succ ?_
    simp only [spec_NearFind.l0, if_pos (show (i : Int) < (e.length : Int) by omega)]
    refine Ev.bind hs ?_
    refine Ev.succ ?_
    simp only [spec_NearFind.j1, if_true, if_pos (show (i : Int) < (e.length : Int) by omega), if_pos (show (0 : Int) ≤ (i : Int) by omega), rdNE e i hlt]
    rw [wrap_id (by omega) (by omega), List.drop_eq_getElem_cons hlt, findN]
    by_cases hz : e[i].f0 = a
    · simp only [if_pos hz]
      by_cases hn : e[i].f2 > now
      · simp only [if_pos hn]; exact Ev.now _
      · simp only [if_neg hn]; exact h1
    · simp only [if_neg hz]; exact h1
theorem spec_find (e : List NE) (h : List WI) (a now : Int) (he : e.length ≤ 1048576) (hh : h.length ≤ 1048576) (hok : nearOk e h = true) : Ev (fun k => spec_NearFind.f k e h a now) (findN a now e) := by
  unfold spec_NearFind.f
  have := spec_find_l e h a now he hh hok e.length 0 (by omega)
  rw [List.drop_zero] at this
  exact this
/-! copies -/
theorem clone_byte_n (l : List Int) (h : l.length ≤ 10000000) : impl_clone_byte.f l = some l := by
  unfold impl_clone_byte.f; rw [if_pos (by omega)]
theorem impl_ncopy_l (h : List WI) (e : List NE) (hl : h.length ≤ 2000000) (hb : ∀ z ∈ h, z.f1.length ≤ 2000000) (d : Nat) : ∀ i : Nat, i + d = h.length →
    Ev (fun k => impl_Near_copy.l0 k h (h.length : Int) (i : Int) e (h.take i)) (e, h) := by
  induction d with
  | zero =>
    intro i hi
    obtain rfl : i = h.length := by omega
    refine Ev.succ ?_
    rw [List.take_length]
    simp only [impl_Near_copy.l0, if_neg (show ¬ (h.length : Int) < (h.length : Int) by omega)]
    exact Ev.now _
  | succ d ih =>
    intro i hi
    have hi2 : i < h.length := by omega
    have hz := hb _ (List.getElem_mem hi2)
    have ev := ih (i + 1) (by omega)
    have ht : h.take (i + 1) = h.take i ++ [(⟨h[i].f0, h[i].f1⟩ : WI)] := List.take_succ_eq_append_getElem hi2
    refine Ev.succ ?_
    simp only [impl_Near_copy.l0, if_pos (show (i : Int) < (h.length : Int) by omega), if_pos (show (0 : Int) ≤ (i : Int) by omega), rdWI h i hi2, clone_byte_n h[i].f1 (by omega), Option.bind_some, if_pos (show (h.take i).length < 4398046511104 by rw [List.length_take]; omega)]
    rw [wrap_id (by omega) (by omega), ← ht]
    exact ev
theorem impl_ncopy (e : List NE) (h : List WI) (he : e.length ≤ 2000000) (hl : h.length ≤ 2000000) (hb : ∀ z ∈ h, z.f1.length ≤ 2000000) : Ev (fun k => impl_Near_copy.f k e h) (e, h) := by
  unfold impl_Near_copy.f impl_NearEntry_50.f
  rw [if_pos (by omega)]
  simp only [Option.bind_some]
  have := impl_ncopy_l h e hl hb h.length 0 (by omega)
  rw [List.take_zero] at this
  exact this
theorem spec_ncopy_l (h : List WI) (e e' : List NE) (hl : h.length ≤ 2000000) (hb : ∀ z ∈ h, z.f1.length ≤ 2000000) (d : Nat) : ∀ i : Nat, i + d = h.length →
    Ev (fun k => spec_l3Copy.l0 k (i : Int) e' h e (h.take i)) (e, h) := by
  induction d with
  | zero =>
    intro i hi
    obtain rfl : i = h.length := by omega
    refine Ev.succ ?_
    rw [List.take_length]
    simp only [spec_l3Copy.l0, if_neg (show ¬ (h.length : Int) < (h.length : Int) by omega)]
    exact Ev.now _
  | succ d ih =>
    intro i hi
    have hi2 : i < h.length := by omega
    have hz := hb _ (List.getElem_mem hi2)
    have ev := ih (i + 1) (by omega)
    have ht : h.take (i + 1) = h.take i ++ [(⟨h[i].f0, h[i].f1⟩ : WI)] := List.take_succ_eq_append_getElem hi2
    refine Ev.succ ?_
    simp only [spec_l3Copy.l0, if_pos (show (i : Int) < (h.length : Int) by omega), if_pos (show (0 : Int) ≤ (i : Int) by omega), rdWI h i hi2, Option.bind_some, if_pos (show ([] : List Int).length + h[i].f1.length < 140737488355328 by rw [List.length_nil]; omega), if_pos (show (h.take i).length < 4398046511104 by rw [List.length_take]; omega), List.nil_append]
    rw [wrap_id (by omega) (by omega), ← ht]
    exact ev
theorem spec_ncopy (e : List NE) (h : List WI) (he : e.length ≤ 2000000) (hl : h.length ≤ 2000000) (hb : ∀ z ∈ h, z.f1.length ≤ 2000000) : Ev (fun k => spec_l3Copy.f k e h) (e, h) := by
  unfold spec_l3Copy.f
  simp only [Option.bind_some, if_pos (show ([] : List NE).length + e.length < 5864062014805 by rw [List.length_nil]; omega), List.nil_append]
  have := spec_ncopy_l h e e hl hb h.length 0 (by omega)
  rw [List.take_zero] at this
  exact this
/-! what is sent -/
def sendN (e : List NE) (h : List WI) (a : Int) (d : List Int) (now : Int) : List NE × List WI × Int :=
  if (nearOk e h && (inb a 0 65535 && (!decide ((d.length : Int) > 64) && inb now 0 999980))) = true then
    (if findN a now e ≥ 0 then (e, h, findN a now e) else (e, (h ++ [(⟨a, d⟩ : WI)]).drop (h.length + 1 - 4), -1))
  else ([], [], -1)
theorem nearOk_bounds {e : List NE} {h : List WI} (hok : nearOk e h = true) : entsOk [] e = true ∧ e.length ≤ 4 ∧ h.length ≤ 4 := by
  unfold nearOk at hok
  simp only [Bool.and_eq_true, decide_eq_true_eq] at hok
  exact ⟨hok.1, by omega, by omega⟩
theorem sendN_fit (e : List NE) (h : List WI) (a : Int) (d : List Int) (now : Int) (f : nfit e h) (hd : d.length ≤ 1048576) : nfit (sendN e h a d now).1 (sendN e h a d now).2.1 := by
  unfold sendN
  split
  · rename_i hc
    simp only [Bool.and_eq_true] at hc
    have hb := nearOk_bounds hc.1
    split
    · exact f
    · refine ⟨f.1, ?_, ?_⟩
      · simp only [List.length_drop, List.length_append, List.length_singleton]; omega
      · intro z hz
        have hz2 := List.mem_of_mem_drop hz
        rw [List.mem_append, List.mem_singleton] at hz2
        rcases hz2 with hz2 | rfl
        · exact f.2.2 z hz2
        · exact hd
  · exact ⟨by simp, by simp, by simp⟩
theorem impl_nsend (e : List NE) (h : List WI) (a : Int) (d : List Int) (now : Int) (f : nfit e h) (hd : d.length ≤ 1048576) : Ev (fun k => impl_NearSend.f k e h a d now) (sendN e h a d now) := by
  obtain ⟨f1, f2, f3⟩ := f
  unfold impl_NearSend.f sendN
  refine Ev.bind (impl_ok e h f1 f2) ?_
  cases hok : nearOk e h
  · simp only [Bool.false_and, Bool.false_eq_true, if_false]; exact Ev.now _
  · have hb := nearOk_bounds hok
    have hm2 : ∀ z ∈ h, z.f1.length ≤ 2000000 := fun z hz => by have := f3 z hz; omega
    simp only [if_true, impl_word_, impl_in_, Option.bind_some, Bool.true_and]
    cases inb a 0 65535
    · simp only [Bool.false_and, Bool.false_eq_true, if_false]; exact Ev.now _
    · by_cases h9 : (d.length : Int) > 64
      · simp only [if_true, if_pos h9, decide_eq_true h9, Bool.not_true, Bool.false_and, Bool.and_false, Bool.false_eq_true, if_false]; exact Ev.now _
      · simp only [if_true, if_neg h9, decide_eq_false h9, Bool.not_false, Bool.true_and]
        cases inb now 0 999980
        · simp only [Bool.false_eq_true, if_false]; exact Ev.now _
        · simp only [if_true, impl_find e h a now f1 hb.1, Option.bind_some]
          by_cases hf : findN a now e ≥ 0
          · simp only [if_pos hf]
            exact Ev.bind (impl_ncopy e h (by omega) (by omega) hm2) (Ev.now _)
          · simp only [if_neg hf]
            refine Ev.bind (impl_ncopy e h (by omega) (by omega) hm2) ?_
            have hl : ((h ++ [(⟨a, d⟩ : WI)]).length : Int) = h.length + 1 := by simp
            have hw : mx 0 (wrap64 (((h ++ [(⟨a, d⟩ : WI)]).length : Int) - 4)) = ((h.length + 1 - 4 : Nat) : Int) := by
              rw [hl, wrap_id (by omega) (by omega)]; unfold mx; split <;> omega
            simp only [if_pos (show h.length < 4398046511104 by omega), Option.bind_some, hw, Int.toNat_natCast, if_pos (show (0 : Int) ≤ ((h.length + 1 - 4 : Nat) : Int) by omega), if_pos (show ((h.length + 1 - 4 : Nat) : Int) ≤ ((h ++ [(⟨a, d⟩ : WI)]).length : Int) by rw [hl]; omega)]
            refine Ev.bind (impl_ncopy e _ (by omega) (by rw [List.length_drop, List.length_append, List.length_singleton]; omega) ?_) (Ev.now _)
            intro z hz
            have hz2 := List.mem_of_mem_drop hz
            rw [List.mem_append, List.mem_singleton] at hz2
            rcases hz2 with hz2 | rfl
            · exact hm2 z hz2
            · show d.length ≤ 2000000
              omega
theorem spec_nsend (e : List NE) (h : List WI) (a : Int) (d : List Int) (now : Int) (f : nfit e h) (hd : d.length ≤ 1048576) : Ev (fun k => spec_NearSend.f k e h a d now) (sendN e h a d now) := by
  obtain ⟨f1, f2, f3⟩ := f
  unfold spec_NearSend.f sendN
  refine Ev.bind (spec_ok e h f1 f2) ?_
  have no : Ev (fun k => spec_NearSend.j0 k a d now true e h) (([], [], -1) : List NE × List WI × Int) := by
    refine Ev.succ ?_
    simp only [spec_NearSend.j0, if_true]; exact Ev.now _
  cases hok : nearOk e h
  · simp only [Bool.false_and, Bool.false_eq_true, if_false]; exact no
  · have hb := nearOk_bounds hok
    have hm2 : ∀ z ∈ h, z.f1.length ≤ 2000000 := fun z hz => by have := f3 z hz; omega
    simp only [if_true, spec_in_, Option.bind_some, Bool.true_and]
    cases inb a 0 65535
    · simp only [Bool.false_and, Bool.false_eq_true, if_false]; exact no
    · by_cases h9 : (d.length : Int) > 64
      · simp only [if_true, if_pos h9, decide_eq_true h9, Bool.not_true, Bool.false_and, Bool.and_false, Bool.false_eq_true, if_false]; exact no
      · simp only [if_true, if_neg h9, decide_eq_false h9, Bool.not_false, Bool.true_and]
        cases inb now 0 999980
        · simp only [Bool.false_eq_true, if_false, Bool.not_false]; exact no
        · simp only [if_true, Bool.not_true]
          refine Ev.succ ?_
          simp only [spec_NearSend.j0, Bool.false_eq_true, if_false]
          refine Ev.bind (spec_ncopy e h (by omega) (by omega) hm2) (Ev.bind (spec_find e h a now f1 f2 hok) ?_)
          by_cases hf : findN a now e ≥ 0
          · simp only [if_pos hf]; exact Ev.now _
          · have hl : ((h ++ [(⟨a, d⟩ : WI)]).length : Int) = h.length + 1 := by simp
            simp only [if_neg hf, Option.bind_some, if_pos (show ([] : List Int).length + d.length < 140737488355328 by rw [List.length_nil]; omega), if_pos (show h.length < 4398046511104 by omega), List.nil_append, hl]
            by_cases h4 : (h.length : Int) + 1 > 4
            · simp only [if_pos h4, if_pos (show (1 : Int) ≤ (h.length : Int) + 1 by omega)]
              rw [show h.length + 1 - 4 = (1 : Int).toNat by omega]
              exact Ev.now _
            · simp only [if_neg h4]
              rw [show h.length + 1 - 4 = 0 by omega, List.drop_zero]
              exact Ev.now _

theorem FnExactNearSend : laws_FnExactNearSend.Pure := by
  intro e0 h0 a d now he hh _ hd _
  have he1 : e0.length ≤ 9223372036854775807 := he.1
  have hh1 : h0.length ≤ 9223372036854775807 := hh.1
  have hhb : ∀ z ∈ h0, z.f1.length ≤ 9223372036854775807 := fun z hz => (hh.2 z hz).2.1
  clear he hh hd
  refine Ev.rounds ?_
  unfold laws_FnExactNearSend.f
  by_cases hdl : (d.length : Int) > 1048576
  · simp only [if_pos hdl]; exact Ev.now _
  simp only [if_neg hdl]
  obtain ⟨v, ev, hv⟩ := szNear e0 h0 he1 hh1 hhb
  refine Ev.bind ev ?_
  by_cases hneg : v < 0
  · simp only [if_pos hneg]; exact Ev.now _
  simp only [if_neg hneg]
  obtain ⟨b1, b2, b3⟩ := hv.resolve_left hneg
  have bd : d.length ≤ 1048576 := by omega
  have t := toNear e0 h0 b1 b2 b3
  have tb := toByteS d bd
  have hx : nfit (e0.map toE) (h0.map toW) := by
    refine ⟨by rw [List.length_map]; exact b1, by rw [List.length_map]; exact b2, ?_⟩
    intro z hz
    obtain ⟨y, hy, rfl⟩ := List.mem_map.1 hz
    exact b3 y hy
  generalize e0.map toE = e at *
  generalize h0.map toW = h at *
  have ei := impl_nsend e h a d now hx bd
  have es := spec_nsend e h a d now hx bd
  have hq := sendN_fit e h a d now hx bd
  generalize sendN e h a d now = q at *
  obtain ⟨q1, q2, q3⟩ := q
  have hq' : nfit q1 q2 := hq
  clear hq ev hv hneg hdl
  have mx := nfit_many hx
  have mq := nfit_many hq'
  have eq1 := eqNear q1 q2 hq'
  have hel := heldNear q1.length q2 1 (by omega) (by omega)
  refine Ev.bind t (Ev.bind tb (Ev.bind es (Ev.bind t (Ev.bind tb (Ev.bind ei (Ev.bind eq1 ?_))))))
  simp only [if_true]
  refine Ev.bind t (Ev.bind (eqNear e h hx) ?_)
  simp only [if_true]
  refine Ev.bind tb (Ev.bind (eqByteS d (by omega)) ?_)
  simp only [if_true]
  refine Ev.bind (markNear e h 1 (by omega) (by omega)) (Ev.bind (markByteS d _ (by omega) (by omega)) ?_)
  simp only [if_neg (show ¬ (1 : Int) + 3 * (e.length : Int) + (wmany h : Int) + (d.length : Int) < 0 by omega)]
  refine Ev.bind eq1 ?_
  simp only [if_true]
  refine Ev.bind (markNear q1 q2 1 (by omega) (by omega)) (Ev.bind hel ?_)
  simp only [if_neg (show ¬ (1 : Int) + 3 * (q1.length : Int) + (wmany q2 : Int) < 0 by omega), if_true]
  refine Ev.bind t (Ev.bind tb (Ev.bind ei (Ev.bind eq1 ?_)))
  simp only [if_true]
  refine Ev.bind hel ?_
  simp only [if_neg (show ¬ (1 : Int) + 3 * (q1.length : Int) + (wmany q2 : Int) < 0 by omega), if_true]
  exact Ev.now _

end Go.Proofs.Ytcbiljabpadaeaa.Pure
