/- A client hears as by the reference: the plain law. -/
import Derived.Test.YtegchbdjbefdbaaPFnExactClientHearx
namespace Go.Proofs.Ytegchbdjbefdbaa.Pure
set_option linter.unusedSimpArgs false
set_option linter.unusedVariables false
open Go.RowKit Go.Proofs.Ytegchbdjbefdbaa.PFnExactClientHear Go.Proofs.YtegchbdjbefdbaaW.PrintWords Go.Proofs.YtegchbdjbefdbaaW.PrintLast Go.Proofs.YtegchbdjbefdbaaW.PrintMore

theorem Ev.succ {α : Type} {g : Nat → Option α} {r : α} (h : Ev (fun k => g (k + 1)) r) : Ev g r := Ev.step (fun _ => rfl) h
theorem Ev.pure {α : Type} {o : Option α} {r : α} (h : o = some r) : Ev (fun _ => o) r := by rw [h]; exact Ev.now r
theorem Ev.cong {α : Type} {g g' : Nat → Option α} {r : α} (h : ∀ k, g k = g' k) (e : Ev g' r) : Ev g r := by rw [show g = g' from funext h]; exact e
theorem wrap_id {x : Int} (h0 : -9223372036854775808 ≤ x) (h1 : x ≤ 9223372036854775807) : wrap64 x = x := by unfold wrap64; omega

theorem rd_get (l : List Int) (i : Nat) (h : i < l.length) : rd l (i : Int) = l[i] := by
  unfold rd
  rw [Int.toNat_natCast, List.getD_eq_getElem?_getD, List.getElem?_eq_getElem h]; rfl
theorem take_set_succ {α : Type} (x : List α) (i : Nat) (v : α) (h : i < x.length) : (x.set i v).take (i + 1) = x.take i ++ [v] := by
  rw [List.take_succ_eq_append_getElem (by simpa using h), List.getElem_set_self, List.take_set, List.set_eq_of_length_le (by simp; omega)]


/-- toByteS: a copy. -/
theorem toByteS_l (l : List Int) (hl : l.length ≤ 1048576) (d : Nat) : ∀ (i : Nat) (x : List Int), i ≤ l.length → l.length - i = d → x.length = l.length → x.take i = l.take i →
    Ev (fun k => laws_toByteS.l0 k l x (i : Int)) l := by
  induction d with
  | zero =>
    intro i x hi hd hx ht
    have hil : i = l.length := by omega
    subst hil
    refine Ev.succ ?_
    simp only [laws_toByteS.l0]
    simp only [Int.lt_irrefl, if_false]
    have : x = l := by rw [← hx, List.take_length] at ht; rw [ht, hx, List.take_length]
    rw [this]; exact Ev.now l
  | succ d ih =>
    intro i x hi hd hx ht
    have hlt : i < l.length := by omega
    refine Ev.succ ?_
    simp only [laws_toByteS.l0]
    simp only [if_pos (show (i : Int) < (l.length : Int) by omega), if_pos (show (0 : Int) ≤ (i : Int) by omega), if_pos (show (i : Int) < (x.length : Int) by omega)]
    rw [wrap_id (by omega) (by omega), rd_get l i hlt, Int.toNat_natCast]
    refine ih (i + 1) _ (by omega) (by omega) (by simpa using hx) ?_
    rw [take_set_succ _ _ _ (by omega), ht, List.take_succ_eq_append_getElem hlt]
theorem toByteS (l : List Int) (hl : l.length ≤ 1048576) : Ev (fun k => laws_toByteS.f k l) l := by
  unfold laws_toByteS.f
  simp only [if_pos (show (0 : Int) ≤ (l.length : Int) by omega), Int.toNat_natCast, if_pos (show l.length ≤ 281474976710656 by omega)]
  exact toByteS_l l hl _ 0 _ (by omega) rfl (by simp) (by simp)
/-- eqByteS of a list and itself. -/
theorem eqByteS_l (l : List Int) (hl : l.length ≤ 9223372036854775806) (d : Nat) : ∀ (i : Nat), i ≤ l.length → l.length - i = d → Ev (fun k => laws_eqByteS.l0 k l l (i : Int)) true := by
  induction d with
  | zero =>
    intro i hi hd
    refine Ev.succ ?_
    simp only [laws_eqByteS.l0]
    simp only [if_neg (show ¬ (i : Int) < (l.length : Int) by omega)]
    exact Ev.now true
  | succ d ih =>
    intro i hi hd
    refine Ev.succ ?_
    simp only [laws_eqByteS.l0]
    simp only [if_pos (show (i : Int) < (l.length : Int) by omega), if_pos (show (0 : Int) ≤ (i : Int) by omega), if_true]
    rw [wrap_id (by omega) (by omega)]
    exact ih (i + 1) (by omega) (by omega)
theorem eqByteS (l : List Int) (hl : l.length ≤ 9223372036854775806) : Ev (fun k => laws_eqByteS.f k l l) true := by
  unfold laws_eqByteS.f
  simp only [if_true]
  exact eqByteS_l l hl _ 0 (by omega) rfl
/-- What markByteS leaves. -/
def markB : Nat → Int → List Int
  | 0, _ => []
  | n + 1, m => m % 256 :: markB n (m + 1)
theorem markB_length (n : Nat) (m : Int) : (markB n m).length = n := by
  induction n generalizing m with
  | zero => rfl
  | succ n ih => simp [markB, ih]
theorem markB_get (n : Nat) (m : Int) (i : Nat) (h : i < (markB n m).length) : (markB n m)[i] = (m + i) % 256 := by
  induction n generalizing m i with
  | zero => simp [markB] at h
  | succ n ih =>
    cases i with
    | zero => simp [markB]
    | succ i => simp only [markB, List.getElem_cons_succ]; rw [ih]; congr 1; push_cast; omega
theorem markByteS_l (n : Nat) (m : Int) (h0 : 0 ≤ m) (h1 : m + n ≤ 4611686018427387904) (d : Nat) : ∀ (i : Nat) (x : List Int), i ≤ n → n - i = d → x.length = n → x.take i = (markB n m).take i →
    Ev (fun k => laws_markByteS.l0 k x (m + i) (i : Int)) (m + n, markB n m) := by
  have hM := markB_length n m
  induction d with
  | zero =>
    intro i x hi hd hx ht
    have hil : i = n := by omega
    subst hil
    refine Ev.succ ?_
    simp only [laws_markByteS.l0]
    simp only [if_neg (show ¬ (i : Int) < (x.length : Int) by omega)]
    have : x = markB i m := by rw [List.take_of_length_le (by omega), List.take_of_length_le (by omega)] at ht; exact ht
    rw [this]; exact Ev.now _
  | succ d ih =>
    intro i x hi hd hx ht
    refine Ev.succ ?_
    simp only [laws_markByteS.l0]
    simp only [if_pos (show (i : Int) < (x.length : Int) by omega), if_pos (show (0 : Int) ≤ (i : Int) by omega)]
    rw [wrap_id (by omega) (by omega), wrap_id (by omega) (by omega), Int.toNat_natCast]
    have := ih (i + 1) (x.set i ((m + i) % 256)) (by omega) (by omega) (by simpa using hx) (by
      rw [take_set_succ _ _ _ (by omega), ht, List.take_succ_eq_append_getElem (by omega), markB_get])
    rw [show (m + ((i + 1 : Nat) : Int)) = m + i + 1 by push_cast; omega] at this
    exact this
theorem markByteS (l : List Int) (m : Int) (h0 : 0 ≤ m) (h1 : m + l.length ≤ 4611686018427387904) : Ev (fun k => laws_markByteS.f k l m) (m + l.length, markB l.length m) := by
  unfold laws_markByteS.f
  have := markByteS_l l.length m h0 h1 _ 0 l (by omega) rfl rfl (by simp)
  simpa using this
theorem heldByteS_l (n : Nat) (m : Int) (h0 : 0 ≤ m) (h1 : m + n ≤ 4611686018427387904) (d : Nat) : ∀ (i : Nat), i ≤ n → n - i = d → Ev (fun k => laws_heldByteS.l0 k (markB n m) (m + i) (i : Int)) (m + n) := by
  have hM := markB_length n m
  induction d with
  | zero =>
    intro i hi hd
    have hil : i = n := by omega
    subst hil
    refine Ev.succ ?_
    simp only [laws_heldByteS.l0]
    simp only [if_neg (show ¬ (i : Int) < ((markB i m).length : Int) by omega)]
    exact Ev.now _
  | succ d ih =>
    intro i hi hd
    refine Ev.succ ?_
    simp only [laws_heldByteS.l0]
    rw [rd_get _ i (by omega), markB_get]
    simp only [if_pos (show (i : Int) < ((markB n m).length : Int) by omega), if_pos (show (0 : Int) ≤ (i : Int) by omega), if_true]
    rw [wrap_id (by omega) (by omega), wrap_id (by omega) (by omega)]
    have := ih (i + 1) (by omega) (by omega)
    rw [show (m + ((i + 1 : Nat) : Int)) = m + i + 1 by push_cast; omega] at this
    exact this
theorem heldByteS (n : Nat) (m : Int) (h0 : 0 ≤ m) (h1 : m + n ≤ 4611686018427387904) : Ev (fun k => laws_heldByteS.f k (markB n m) m) (m + n) := by
  unfold laws_heldByteS.f
  have := heldByteS_l n m h0 h1 _ 0 (by omega) rfl
  simpa using this
theorem szByteS (l : List Int) (m : Int) (h : l.length ≤ 9223372036854775807) (h0 : 0 ≤ m) (h1 : m ≤ 1048576) : laws_szByteS.f l m = some (if m - l.length < 0 then -1 else m - l.length) := by
  unfold laws_szByteS.f
  rw [wrap_id (by omega) (by omega)]
  split <;> rfl


/-- toIntS: a copy. -/
theorem toIntS_l (l : List Int) (hl : l.length ≤ 1048576) (d : Nat) : ∀ (i : Nat) (x : List Int), i ≤ l.length → l.length - i = d → x.length = l.length → x.take i = l.take i →
    Ev (fun k => laws_toIntS.l0 k l x (i : Int)) l := by
  induction d with
  | zero =>
    intro i x hi hd hx ht
    have hil : i = l.length := by omega
    subst hil
    refine Ev.succ ?_
    simp only [laws_toIntS.l0]
    simp only [Int.lt_irrefl, if_false]
    have : x = l := by rw [← hx, List.take_length] at ht; rw [ht, hx, List.take_length]
    rw [this]; exact Ev.now l
  | succ d ih =>
    intro i x hi hd hx ht
    have hlt : i < l.length := by omega
    refine Ev.succ ?_
    simp only [laws_toIntS.l0]
    simp only [if_pos (show (i : Int) < (l.length : Int) by omega), if_pos (show (0 : Int) ≤ (i : Int) by omega), if_pos (show (i : Int) < (x.length : Int) by omega)]
    rw [wrap_id (by omega) (by omega), rd_get l i hlt, Int.toNat_natCast]
    refine ih (i + 1) _ (by omega) (by omega) (by simpa using hx) ?_
    rw [take_set_succ _ _ _ (by omega), ht, List.take_succ_eq_append_getElem hlt]
theorem toIntS (l : List Int) (hl : l.length ≤ 1048576) : Ev (fun k => laws_toIntS.f k l) l := by
  unfold laws_toIntS.f
  simp only [if_pos (show (0 : Int) ≤ (l.length : Int) by omega), Int.toNat_natCast, if_pos (show l.length ≤ 35184372088832 by omega)]
  exact toIntS_l l hl _ 0 _ (by omega) rfl (by simp) (by simp)
/-- eqIntS of a list and itself. -/
theorem eqIntS_l (l : List Int) (hl : l.length ≤ 9223372036854775806) (d : Nat) : ∀ (i : Nat), i ≤ l.length → l.length - i = d → Ev (fun k => laws_eqIntS.l0 k l l (i : Int)) true := by
  induction d with
  | zero =>
    intro i hi hd
    refine Ev.succ ?_
    simp only [laws_eqIntS.l0]
    simp only [if_neg (show ¬ (i : Int) < (l.length : Int) by omega)]
    exact Ev.now true
  | succ d ih =>
    intro i hi hd
    refine Ev.succ ?_
    simp only [laws_eqIntS.l0]
    simp only [if_pos (show (i : Int) < (l.length : Int) by omega), if_pos (show (0 : Int) ≤ (i : Int) by omega), if_true]
    rw [wrap_id (by omega) (by omega)]
    exact ih (i + 1) (by omega) (by omega)
theorem eqIntS (l : List Int) (hl : l.length ≤ 9223372036854775806) : Ev (fun k => laws_eqIntS.f k l l) true := by
  unfold laws_eqIntS.f
  simp only [if_true]
  exact eqIntS_l l hl _ 0 (by omega) rfl
theorem szIntS (l : List Int) (m : Int) (h : l.length ≤ 9223372036854775807) (h0 : 0 ≤ m) (h1 : m ≤ 1048576) : laws_szIntS.f l m = some (if m - l.length < 0 then -1 else m - l.length) := by
  unfold laws_szIntS.f
  rw [wrap_id (by omega) (by omega)]
  split <;> rfl


/-! Words -/
theorem toWords (a : Int) (l : List Int) (hl : l.length ≤ 1048576) : Ev (fun k => laws_toWords.f k a l) (a, l) := by
  unfold laws_toWords.f; exact Ev.bind (toByteS l hl) (Ev.now _)
theorem eqWords (a : Int) (l : List Int) (hl : l.length ≤ 9223372036854775806) : Ev (fun k => laws_eqWords.f k a l a l) true := by
  unfold laws_eqWords.f; simp only [if_true]; refine Ev.bind (eqByteS l hl) ?_; simp only [if_true]; exact Ev.now _
theorem markWords (a : Int) (l : List Int) (m : Int) (h0 : 0 ≤ m) (h1 : m + l.length ≤ 4611686018427387904) : Ev (fun k => laws_markWords.f k a l m) (m + l.length, markB l.length m) := by
  unfold laws_markWords.f; exact Ev.bind (markByteS l m h0 h1) (Ev.now _)

/-! rows of words -/
abbrev WI := S41
theorem rdWI (l : List WI) (i : Nat) (h : i < l.length) : rd_T41 l (i : Int) = l[i] := by
  unfold rd_T41
  rw [Int.toNat_natCast, List.getD_eq_getElem?_getD, List.getElem?_eq_getElem h]; rfl
theorem eqWordsS_l (l : List WI) (hl : l.length ≤ 1048576) (hb : ∀ z ∈ l, z.f1.length ≤ 1048576) (d : Nat) : ∀ i : Nat, i ≤ l.length → l.length - i = d → Ev (fun k => laws_eqWordsS.l0 k l l (i : Int)) true := by
  induction d with
  | zero =>
    intro i hi hd
    refine Ev.succ ?_
    simp only [laws_eqWordsS.l0, if_neg (show ¬ (i : Int) < (l.length : Int) by omega)]
    exact Ev.now true
  | succ d ih =>
    intro i hi hd
    have hlt : i < l.length := by omega
    have hz := hb _ (List.getElem_mem hlt)
    refine Ev.succ ?_
    simp only [laws_eqWordsS.l0, if_pos (show (i : Int) < (l.length : Int) by omega), if_pos (show (0 : Int) ≤ (i : Int) by omega), rdWI l i hlt]
    refine Ev.bind (eqWords l[i].f0 l[i].f1 (by omega)) ?_
    simp only [if_true]
    rw [wrap_id (by omega) (by omega)]
    exact ih (i + 1) (by omega) (by omega)
theorem eqWordsS (l : List WI) (hl : l.length ≤ 1048576) (hb : ∀ z ∈ l, z.f1.length ≤ 1048576) : Ev (fun k => laws_eqWordsS.f k l l) true := by
  unfold laws_eqWordsS.f
  simp only [if_true]
  exact eqWordsS_l l hl hb _ 0 (by omega) rfl

/-! rows of words -/
abbrev WL := S57
theorem rdWL (l : List WL) (i : Nat) (h : i < l.length) : rd_T57 l (i : Int) = l[i] := by
  unfold rd_T57
  rw [Int.toNat_natCast, List.getD_eq_getElem?_getD, List.getElem?_eq_getElem h]; rfl
def toW (z : WL) : WI := ⟨z.f0, z.f1⟩
theorem toWordsS_l (l : List WL) (hl : l.length ≤ 1048576) (hb : ∀ z ∈ l, z.f1.length ≤ 1048576) (d : Nat) : ∀ (i : Nat) (x : List WI), i ≤ l.length → l.length - i = d → x.length = l.length → x.take i = (l.map toW).take i →
    Ev (fun k => laws_toWordsS.l0 k l x (i : Int)) (l.map toW) := by
  induction d with
  | zero =>
    intro i x hi hd hx ht
    obtain rfl : i = l.length := by omega
    refine Ev.succ ?_
    simp only [laws_toWordsS.l0, Int.lt_irrefl, if_false]
    have : x = l.map toW := by rw [← hx, List.take_length] at ht; rw [ht, hx, List.take_of_length_le (by simp)]
    rw [this]; exact Ev.now _
  | succ d ih =>
    intro i x hi hd hx ht
    have hlt : i < l.length := by omega
    refine Ev.succ ?_
    simp only [laws_toWordsS.l0, if_pos (show (i : Int) < (l.length : Int) by omega), if_pos (show (0 : Int) ≤ (i : Int) by omega), rdWL l i hlt]
    refine Ev.bind (toWords l[i].f0 l[i].f1 (hb _ (List.getElem_mem hlt))) ?_
    simp only [if_pos (show (i : Int) < (x.length : Int) by omega), Int.toNat_natCast]
    rw [wrap_id (by omega) (by omega)]
    refine ih (i + 1) _ (by omega) (by omega) (by simpa using hx) ?_
    rw [take_set_succ _ _ _ (by omega), ht, List.take_succ_eq_append_getElem (by simpa using hlt), List.getElem_map]; rfl
theorem toWordsS (l : List WL) (hl : l.length ≤ 1048576) (hb : ∀ z ∈ l, z.f1.length ≤ 1048576) : Ev (fun k => laws_toWordsS.f k l) (l.map toW) := by
  unfold laws_toWordsS.f
  simp only [if_pos (show (0 : Int) ≤ (l.length : Int) by omega), Int.toNat_natCast, if_pos (show l.length ≤ 8796093022208 by omega)]
  exact toWordsS_l l hl hb _ 0 _ (by omega) rfl (by simp) (by simp)
theorem szWordsS_l (l : List WL) (hl : l.length ≤ 1048576) (hb : ∀ z ∈ l, z.f1.length ≤ 9223372036854775807) (d : Nat) : ∀ (i : Nat) (m : Int), i ≤ l.length → l.length - i = d → 0 ≤ m → m ≤ 1048576 →
    ∃ v, Ev (fun k => laws_szWordsS.l0 k l m (i : Int)) v ∧ (v < 0 ∨ (0 ≤ v ∧ v ≤ m ∧ ∀ z ∈ l.drop i, (z.f1.length : Int) ≤ m)) := by
  induction d with
  | zero =>
    intro i m hi hd h0 h1
    refine ⟨m, Ev.succ ?_, Or.inr ⟨h0, by omega, ?_⟩⟩
    · simp only [laws_szWordsS.l0, if_neg (show ¬ (i : Int) < (l.length : Int) by omega)]; exact Ev.now _
    · rw [List.drop_of_length_le (by omega)]; simp
  | succ d ih =>
    intro i m hi hd h0 h1
    have hlt : i < l.length := by omega
    have hz := hb _ (List.getElem_mem hlt)
    have hs := szByteS l[i].f1 m hz h0 h1
    by_cases hc : m - (l[i].f1.length : Int) < 0
    · refine ⟨-1, Ev.succ ?_, Or.inl (by omega)⟩
      simp only [laws_szWordsS.l0, if_pos (show (i : Int) < (l.length : Int) by omega), if_pos (show (0 : Int) ≤ (i : Int) by omega), rdWL l i hlt, laws_szWords.f, hs, if_pos hc, Option.bind_some, if_pos (show (-1 : Int) < 0 by omega)]
      exact Ev.now _
    · obtain ⟨v, e, hv⟩ := ih (i + 1) (m - (l[i].f1.length : Int)) (by omega) (by omega) (by omega) (by omega)
      refine ⟨v, Ev.succ ?_, ?_⟩
      · simp only [laws_szWordsS.l0, if_pos (show (i : Int) < (l.length : Int) by omega), if_pos (show (0 : Int) ≤ (i : Int) by omega), rdWL l i hlt, laws_szWords.f, hs, if_neg hc, Option.bind_some]
        rw [wrap_id (x := (i : Int) + 1) (by omega) (by omega)]
        exact e
      · rcases hv with hv | ⟨a, b, c⟩
        · exact Or.inl hv
        · refine Or.inr ⟨a, by omega, ?_⟩
          rw [List.drop_eq_getElem_cons hlt]
          intro z hzm
          rw [List.mem_cons] at hzm
          rcases hzm with rfl | hzm
          · omega
          · have := c z hzm; omega
theorem szWordsS (l : List WL) (hl0 : l.length ≤ 9223372036854775807) (hb : ∀ z ∈ l, z.f1.length ≤ 9223372036854775807) (m : Int) (h0 : 0 ≤ m) (h1 : m ≤ 1048576) :
    ∃ v, Ev (fun k => laws_szWordsS.f k l m) v ∧ (v < 0 ∨ (0 ≤ v ∧ v ≤ m ∧ (l.length : Int) ≤ m ∧ ∀ z ∈ l, (z.f1.length : Int) ≤ m)) := by
  unfold laws_szWordsS.f
  by_cases hc : m - (l.length : Int) < 0
  · refine ⟨-1, ?_, Or.inl (by omega)⟩
    rw [wrap_id (by omega) (by omega)]
    simp only [if_pos hc]; exact Ev.now _
  · obtain ⟨v, e, hv⟩ := szWordsS_l l (by omega) hb l.length 0 (m - (l.length : Int)) (by omega) (by omega) (by omega) (by omega)
    refine ⟨v, ?_, ?_⟩
    · rw [wrap_id (by omega) (by omega)]
      simp only [if_neg hc]; exact e
    · rcases hv with hv | ⟨a, b, c⟩
      · exact Or.inl hv
      · refine Or.inr ⟨a, by omega, by omega, fun z hz => ?_⟩
        have := c z (by rw [List.drop_zero]; exact hz); omega

/-! a client: measured, copied, told alike -/
theorem szClient (a : Int) (o : List Int) (c : List WL) (f : List Int) (ho : o.length ≤ 9223372036854775807) (hc : c.length ≤ 9223372036854775807) (hcb : ∀ z ∈ c, z.f1.length ≤ 9223372036854775807) (hf : f.length ≤ 9223372036854775807) :
    ∃ v, Ev (fun k => laws_szClient.f k a o c f 1048576) v ∧ (v < 0 ∨ (o.length ≤ 1048576 ∧ c.length ≤ 1048576 ∧ (∀ z ∈ c, z.f1.length ≤ 1048576) ∧ f.length ≤ 1048576)) := by
  unfold laws_szClient.f
  rw [szIntS o 1048576 ho (by omega) (by omega)]
  simp only [Option.bind_some]
  by_cases h1 : 1048576 - (o.length : Int) < 0
  · refine ⟨-1, ?_, Or.inl (by omega)⟩
    simp only [if_pos h1, if_pos (show (-1 : Int) < 0 by omega)]; exact Ev.now _
  · obtain ⟨v, e, hv⟩ := szWordsS c hc hcb (1048576 - (o.length : Int)) (by omega) (by omega)
    by_cases h2 : v < 0
    · refine ⟨-1, ?_, Or.inl (by omega)⟩
      simp only [if_neg h1]
      refine Ev.bind e ?_
      simp only [if_pos h2]; exact Ev.now _
    · obtain ⟨b1, b2, b3, b4⟩ := hv.resolve_left h2
      have hs := szIntS f v hf b1 (by omega)
      by_cases h3 : v - (f.length : Int) < 0
      · refine ⟨-1, ?_, Or.inl (by omega)⟩
        simp only [if_neg h1]
        refine Ev.bind e ?_
        simp only [if_neg h2, hs, if_pos h3, Option.bind_some, if_pos (show (-1 : Int) < 0 by omega)]; exact Ev.now _
      · refine ⟨v - (f.length : Int), ?_, Or.inr ⟨by omega, by omega, fun z hz => by have := b4 z hz; omega, by omega⟩⟩
        simp only [if_neg h1]
        refine Ev.bind e ?_
        simp only [if_neg h2, hs, if_neg h3, Option.bind_some]; exact Ev.now _
theorem toClient (a : Int) (o : List Int) (c : List WL) (f : List Int) (ho : o.length ≤ 1048576) (hc : c.length ≤ 1048576) (hcb : ∀ z ∈ c, z.f1.length ≤ 1048576) (hf : f.length ≤ 1048576) : Ev (fun k => laws_toClient.f k a o c f) (a, o, c.map toW, f) := by
  unfold laws_toClient.f
  exact Ev.bind (toIntS o ho) (Ev.bind (toWordsS c hc hcb) (Ev.bind (toIntS f hf) (Ev.now _)))
theorem eqClient (a : Int) (o : List Int) (c : List WI) (f : List Int) (ho : o.length ≤ 1048576) (hc : c.length ≤ 1048576) (hcb : ∀ z ∈ c, z.f1.length ≤ 1048576) (hf : f.length ≤ 1048576) : Ev (fun k => laws_eqClient.f k a o c f a o c f) true := by
  unfold laws_eqClient.f
  simp only [if_true]
  refine Ev.bind (eqIntS o (by omega)) ?_
  simp only [if_true]
  refine Ev.bind (eqWordsS c hc hcb) ?_
  simp only [if_true]
  refine Ev.bind (eqIntS f (by omega)) ?_
  simp only [if_true]
  exact Ev.now _

/-- .. and what is left -/
theorem szClientV (a : Int) (o : List Int) (c : List WL) (f : List Int) (ho : o.length ≤ 9223372036854775807) (hc : c.length ≤ 9223372036854775807) (hcb : ∀ z ∈ c, z.f1.length ≤ 9223372036854775807) (hf : f.length ≤ 9223372036854775807) :
    ∃ v, Ev (fun k => laws_szClient.f k a o c f 1048576) v ∧ (v < 0 ∨ (v ≤ 1048576 ∧ o.length ≤ 1048576 ∧ c.length ≤ 1048576 ∧ (∀ z ∈ c, z.f1.length ≤ 1048576) ∧ f.length ≤ 1048576)) := by
  unfold laws_szClient.f
  rw [szIntS o 1048576 ho (by omega) (by omega)]
  simp only [Option.bind_some]
  by_cases h1 : 1048576 - (o.length : Int) < 0
  · refine ⟨-1, ?_, Or.inl (by omega)⟩
    simp only [if_pos h1, if_pos (show (-1 : Int) < 0 by omega)]; exact Ev.now _
  · obtain ⟨v, e, hv⟩ := szWordsS c hc hcb (1048576 - (o.length : Int)) (by omega) (by omega)
    by_cases h2 : v < 0
    · refine ⟨-1, ?_, Or.inl (by omega)⟩
      simp only [if_neg h1]
      refine Ev.bind e ?_
      simp only [if_pos h2]; exact Ev.now _
    · obtain ⟨b1, b2, b3, b4⟩ := hv.resolve_left h2
      have hs := szIntS f v hf b1 (by omega)
      by_cases h3 : v - (f.length : Int) < 0
      · refine ⟨-1, ?_, Or.inl (by omega)⟩
        simp only [if_neg h1]
        refine Ev.bind e ?_
        simp only [if_neg h2, hs, if_pos h3, Option.bind_some, if_pos (show (-1 : Int) < 0 by omega)]; exact Ev.now _
      · refine ⟨v - (f.length : Int), ?_, Or.inr ⟨by omega, by omega, by omega, fun z hz => by have := b4 z hz; omega, by omega⟩⟩
        simp only [if_neg h1]
        refine Ev.bind e ?_
        simp only [if_neg h2, hs, if_neg h3, Option.bind_some]; exact Ev.now _

/-! whether a number is between two others -/
def inb (x lo hi : Int) : Bool := decide (lo ≤ x) && decide (x ≤ hi)
theorem inb_iff {x lo hi : Int} : inb x lo hi = true ↔ lo ≤ x ∧ x ≤ hi := by unfold inb; simp
theorem impl_in_ (x lo hi : Int) : impl_in.f x lo hi = some (inb x lo hi) := by
  unfold impl_in.f inb; by_cases h : x ≥ lo
  · simp only [if_pos h, decide_eq_true (show lo ≤ x from h), Bool.true_and]
  · simp only [if_neg h, decide_eq_false (show ¬ lo ≤ x from h), Bool.false_and]
theorem spec_in_ (x lo hi : Int) : spec_l1In.f x lo hi = some (inb x lo hi) := by
  unfold spec_l1In.f inb; by_cases h : x ≥ lo
  · simp only [if_pos h, decide_eq_true (show lo ≤ x from h), Bool.true_and]
  · simp only [if_neg h, decide_eq_false (show ¬ lo ≤ x from h), Bool.false_and]

/-! slices.Concat of numbers -/
theorem ird_ofL (l : List (List Int)) (i : Nat) (h : i < l.length) : rd_L5 l (i : Int) = l[i] := by
  unfold rd_L5
  rw [Int.toNat_natCast, List.getD_eq_getElem?_getD, List.getElem?_eq_getElem h]; rfl
def ilenL (l : List (List Int)) : Nat := (l.map List.length).sum
theorem ilenL_take_succ (l : List (List Int)) (i : Nat) (h : i < l.length) : ilenL (l.take (i + 1)) = ilenL (l.take i) + l[i].length := by
  unfold ilenL; rw [List.take_succ_eq_append_getElem h]; simp only [List.map_append, List.sum_append, List.map_cons, List.map_nil, List.sum_cons, List.sum_nil, Nat.add_zero]
theorem ilenL_take_le (l : List (List Int)) (i : Nat) : ilenL (l.take i) ≤ ilenL l := by
  unfold ilenL
  have h := congrArg (fun x : List (List Int) => (x.map List.length).sum) (List.take_append_drop i l)
  simp only [List.map_append, List.sum_append] at h
  omega
theorem iflatten_take_succ (l : List (List Int)) (i : Nat) (h : i < l.length) : (l.take (i + 1)).flatten = (l.take i).flatten ++ l[i] := by
  rw [List.take_succ_eq_append_getElem h]; simp only [List.flatten_append, List.flatten_cons, List.flatten_nil, List.append_nil]
theorem iconcat_l1 (l : List (List Int)) (hn : l.length ≤ 1048576) (hl : ilenL l < 17592186044416) (d : Nat) : ∀ (i : Nat), i ≤ l.length → l.length - i = d →
    Ev (fun k => slices_Concat_int_int.l1 k (l.take i).flatten l (l.length : Int) (i : Int)) l.flatten := by
  induction d with
  | zero =>
    intro i hi hd
    have hil : i = l.length := by omega
    subst hil
    refine Ev.succ ?_
    simp only [slices_Concat_int_int.l1]
    simp only [Int.lt_irrefl, if_false, List.take_length]
    exact Ev.now _
  | succ d ih =>
    intro i hi hd
    have hlt : i < l.length := by omega
    refine Ev.succ ?_
    simp only [slices_Concat_int_int.l1]
    have h1 := ilenL_take_succ l i hlt
    have h2 := ilenL_take_le l (i + 1)
    have h3 : (l.take i).flatten.length = ilenL (l.take i) := by rw [List.length_flatten]; rfl
    rw [ird_ofL l i hlt]
    simp only [if_pos (show (i : Int) < (l.length : Int) by omega), if_pos (show (0 : Int) ≤ (i : Int) by omega), if_pos (show (l.take i).flatten.length + l[i].length < 17592186044416 by omega)]
    rw [wrap_id (by omega) (by omega), ← iflatten_take_succ l i hlt]
    exact ih (i + 1) (by omega) (by omega)
theorem iconcat_l0 (l : List (List Int)) (hn : l.length ≤ 1048576) (hl : ilenL l < 17592186044416) (d : Nat) : ∀ (i : Nat), i ≤ l.length → l.length - i = d →
    Ev (fun k => slices_Concat_int_int.l0 k l (ilenL (l.take i) : Int) l (l.length : Int) (i : Int)) l.flatten := by
  induction d with
  | zero =>
    intro i hi hd
    have hil : i = l.length := by omega
    subst hil
    refine Ev.succ ?_
    simp only [slices_Concat_int_int.l0]
    simp only [Int.lt_irrefl, if_false, List.take_length]
    have hg : slices_Grow_int_int.f ([] : List Int) (ilenL l : Int) = some [] := by
      unfold slices_Grow_int_int.f
      rw [if_pos ⟨rfl, by omega, by rw [Int.toNat_natCast]; omega⟩]
    simp only [hg, Option.bind_some]
    have := iconcat_l1 l hn hl _ 0 (by omega) rfl
    simpa using this
  | succ d ih =>
    intro i hi hd
    have hlt : i < l.length := by omega
    refine Ev.succ ?_
    simp only [slices_Concat_int_int.l0]
    have h1 := ilenL_take_succ l i hlt
    have h2 := ilenL_take_le l (i + 1)
    rw [ird_ofL l i hlt, wrap_id (x := (ilenL (l.take i) : Int) + _) (by omega) (by omega), wrap_id (by omega) (by omega)]
    simp only [if_pos (show (i : Int) < (l.length : Int) by omega), if_pos (show (0 : Int) ≤ (i : Int) by omega), if_neg (show ¬ (ilenL (l.take i) : Int) + (l[i].length : Int) < 0 by omega)]
    rw [show (ilenL (l.take i) : Int) + (l[i].length : Int) = ((ilenL (l.take (i + 1)) : Nat) : Int) by omega]
    exact ih (i + 1) (by omega) (by omega)
theorem iconcat_ (l : List (List Int)) (hn : l.length ≤ 1048576) (hl : ilenL l < 17592186044416) : Ev (fun k => slices_Concat_int_int.f k l) l.flatten := by
  unfold slices_Concat_int_int.f
  have := iconcat_l0 l hn hl _ 0 (by omega) rfl
  simpa [ilenL] using this

/-! slices.Concat of bytes -/
theorem rd_ofL (l : List (List Int)) (i : Nat) (h : i < l.length) : rd_L5 l (i : Int) = l[i] := by
  unfold rd_L5
  rw [Int.toNat_natCast, List.getD_eq_getElem?_getD, List.getElem?_eq_getElem h]; rfl
def lenL (l : List (List Int)) : Nat := (l.map List.length).sum
theorem lenL_take_succ (l : List (List Int)) (i : Nat) (h : i < l.length) : lenL (l.take (i + 1)) = lenL (l.take i) + l[i].length := by
  unfold lenL; rw [List.take_succ_eq_append_getElem h]; simp only [List.map_append, List.sum_append, List.map_cons, List.map_nil, List.sum_cons, List.sum_nil, Nat.add_zero]
theorem lenL_take_le (l : List (List Int)) (i : Nat) : lenL (l.take i) ≤ lenL l := by
  unfold lenL
  have h := congrArg (fun x : List (List Int) => (x.map List.length).sum) (List.take_append_drop i l)
  simp only [List.map_append, List.sum_append] at h
  omega
theorem flatten_take_succ (l : List (List Int)) (i : Nat) (h : i < l.length) : (l.take (i + 1)).flatten = (l.take i).flatten ++ l[i] := by
  rw [List.take_succ_eq_append_getElem h]; simp only [List.flatten_append, List.flatten_cons, List.flatten_nil, List.append_nil]
/-! a client that is ok -/
abbrev CW := S41
theorem rdCW (l : List CW) (i : Nat) (h : i < l.length) : rd_T41 l (i : Int) = l[i] := by
  unfold rd_T41
  rw [Int.toNat_natCast, List.getD_eq_getElem?_getD, List.getElem?_eq_getElem h]; rfl
def short (z : CW) : Bool := !decide ((z.f1.length : Int) > 9)
def nums (o f : List Int) (c : List CW) : List Int := o ++ f ++ c.map (fun z => z.f0)
def clientOk (a : Int) (o : List Int) (c : List CW) (f : List Int) : Bool :=
  inb a 0 256 && (decide ((o.length : Int) ≤ 4) && (decide (((nums o f c).length : Int) = a) && (c.all short && impl_ClientOk.met (nums o f c) a o.length 0 (nums o f c) [])))
theorem nums_length (o f : List Int) (c : List CW) : (nums o f c).length = o.length + f.length + c.length := by unfold nums; simp only [List.length_append, List.length_map]
theorem nums_snoc (o f : List Int) (c : List CW) (i : Nat) (h : i < c.length) : nums o f (c.take i) ++ [c[i].f0] = nums o f (c.take (i + 1)) := by
  unfold nums
  rw [List.take_succ_eq_append_getElem h, List.map_append, List.append_assoc (o ++ f)]; rfl
theorem met_step (all : List Int) (a : Int) (n : Nat) (i : Int) (x : Int) (r s : List Int) : impl_ClientOk.met all a n i (x :: r) s = (inb x 0 (wrap64 (a - 1)) && (!s.contains x && (!(decide (i > 0) && (decide (i < (n : Int)) && decide (rd all (wrap64 (i - 1)) ≥ x))) && impl_ClientOk.met all a n (i + 1) r (x :: s)))) := by
  rw [impl_ClientOk.met, impl_in_]
  cases h1 : inb x 0 (wrap64 (a - 1)) with
  | false => simp
  | true =>
    simp only [if_true, Bool.true_and]
    by_cases h2 : s.contains x = true
    · rw [if_pos h2, h2]; rfl
    · rw [if_neg h2, Bool.eq_false_iff.mpr h2]
      by_cases h3 : i > 0 <;> by_cases h4 : i < (n : Int) <;> by_cases h5 : rd all (wrap64 (i - 1)) ≥ x <;> simp [h3, h4, h5]
theorem impl_clientOk_l (a : Int) (o f : List Int) (c : List CW) (ho : o.length ≤ 10000000) (hf : f.length ≤ 10000000) (hc : c.length ≤ 10000000) (d : Nat) : ∀ i : Nat, i + d = c.length →
    Ev (fun k => impl_ClientOk.l0 k (nums o f (c.take i)) c (c.length : Int) (i : Int) a o c f) ((c.drop i).all short && (impl_ClientOk.met (nums o f c) a o.length 0 (nums o f c) [] && (((nums o f c).length : Int) == a))) := by
  induction d with
  | zero =>
    intro i hi
    obtain rfl : i = c.length := by omega
    refine Ev.succ ?_
    have hn := nums_length o f c
    rw [List.take_length, List.drop_length]
    simp only [impl_ClientOk.l0, if_neg (show ¬ (c.length : Int) < (c.length : Int) by omega), if_pos (show (nums o f c).length < 17592186044416 by omega), List.all_nil, Bool.true_and]
    exact Ev.now _
  | succ d ih =>
    intro i hi
    have hi2 : i < c.length := by omega
    have h1 := ih (i + 1) (by omega)
    have hn : (nums o f (c.take i)).length < 17592186044416 := by rw [nums_length, List.length_take]; omega
    rw [List.drop_eq_getElem_cons hi2, List.all_cons]
    refine Ev.succ ?_
    simp only [impl_ClientOk.l0, if_pos (show (i : Int) < (c.length : Int) by omega), if_pos (show (0 : Int) ≤ (i : Int) by omega), rdCW c i hi2]
    by_cases h9 : (c[i].f1.length : Int) > 9
    · simp only [if_pos h9, short, decide_eq_true h9, Bool.not_true, Bool.false_and]; exact Ev.now _
    · have hw : wrap64 ((i : Int) + 1) = ((i + 1 : Nat) : Int) := by rw [wrap_id (by omega) (by omega)]; omega
      have hsh : short c[i] = true := by unfold short; rw [decide_eq_false h9]; rfl
      simp only [if_neg h9, if_pos hn, hw, hsh, Bool.true_and, nums_snoc o f c i hi2]
      exact h1
theorem impl_clientOk (a : Int) (o f : List Int) (c : List CW) (ho : o.length ≤ 10000000) (hf : f.length ≤ 10000000) (hc : c.length ≤ 10000000) : Ev (fun k => impl_ClientOk.f k a o c f) (clientOk a o c f) := by
  unfold impl_ClientOk.f clientOk
  simp only [impl_in_, Option.bind_some]
  cases h1 : inb a 0 256
  · simp only [Bool.false_eq_true, if_false, Bool.false_and]
    refine Ev.succ ?_
    simp only [impl_ClientOk.j0, if_true]; exact Ev.now _
  · simp only [if_true, Bool.true_and]
    refine Ev.succ ?_
    simp only [impl_ClientOk.j0]
    by_cases h4 : (o.length : Int) > 4
    · simp only [decide_eq_true h4, if_true, decide_eq_false (show ¬ (o.length : Int) ≤ 4 by omega), Bool.false_and]; exact Ev.now _
    · simp only [decide_eq_false h4, Bool.false_eq_true, if_false, decide_eq_true (show (o.length : Int) ≤ 4 by omega), Bool.true_and]
      refine Ev.bind (iconcat_ [o, f] (by simp) (by simp [ilenL]; omega)) ?_
      have h := impl_clientOk_l a o f c ho hf hc c.length 0 (by omega)
      rw [List.drop_zero, List.take_zero] at h
      have e1 : nums o f [] = [o, f].flatten := by simp [nums]
      rw [e1] at h
      have e2 : (decide (((nums o f c).length : Int) = a) && (c.all short && impl_ClientOk.met (nums o f c) a o.length 0 (nums o f c) [])) = (c.all short && (impl_ClientOk.met (nums o f c) a o.length 0 (nums o f c) [] && (((nums o f c).length : Int) == a))) := by
        have e3 : (((nums o f c).length : Int) == a) = decide (((nums o f c).length : Int) = a) := by
          by_cases hh : ((nums o f c).length : Int) = a
          · rw [decide_eq_true hh, beq_iff_eq]; exact hh
          · rw [decide_eq_false hh, beq_eq_false_iff_ne]; exact hh
        rw [e3]
        cases decide (((nums o f c).length : Int) = a) <;> cases c.all short <;> cases impl_ClientOk.met (nums o f c) a o.length 0 (nums o f c) [] <;> rfl
      rw [e2]
      exact h
theorem rdOf_set (b : List Bool) (n x : Int) (hn0 : 0 ≤ n) (hn : n < (b.length : Int)) (hx0 : 0 ≤ x) : rdOf false (b.set n.toNat true) x = (decide (x = n) || rdOf false b x) := by
  unfold rdOf
  rw [List.getD_eq_getElem?_getD, List.getElem?_set]
  by_cases h : x = n
  · subst h
    rw [if_pos rfl, if_pos (by omega)]; simp
  · rw [if_neg (by omega), decide_eq_false h, Bool.false_or, List.getD_eq_getElem?_getD]
theorem spec_met_l (a : Int) (o f : List Int) (c : List CW) (all : List Int) (h0 : 0 ≤ a) (h256 : a ≤ 256) (hall : all.length ≤ 100000000) (d : Nat) : ∀ (i : Nat) (b : List Bool) (s : List Int), i + d = all.length → (b.length : Int) = a → (∀ x, 0 ≤ x → x < a → rdOf false b x = s.contains x) →
    Ev (fun k => spec_ClientOk.l1 k b all (i : Int) a o c f) (impl_ClientOk.met all a o.length (i : Int) (all.drop i) s) := by
  induction d with
  | zero =>
    intro i b s hi hb hs
    obtain rfl : i = all.length := by omega
    refine Ev.succ ?_
    rw [List.drop_length, impl_ClientOk.met]
    simp only [spec_ClientOk.l1, if_neg (show ¬ (all.length : Int) < (all.length : Int) by omega)]
    exact Ev.now _
  | succ d ih =>
    intro i b s hi hb hs
    have hi2 : i < all.length := by omega
    have hr := rd_get all i hi2
    have hwa : wrap64 (a - 1) = a - 1 := wrap_id (by omega) (by omega)
    have hwi : wrap64 ((i : Int) + 1) = ((i + 1 : Nat) : Int) := by rw [wrap_id (by omega) (by omega)]; omega
    rw [List.drop_eq_getElem_cons hi2, met_step]
    have c1 : (i : Int) < (all.length : Int) := by omega
    have c2 : (0 : Int) ≤ (i : Int) := by omega
    have j : inb all[i] 0 (a - 1) = true → ∀ v : Bool, Ev (fun k => spec_ClientOk.j3 k b all (i : Int) v a o c f) (!v && impl_ClientOk.met all a o.length ((i : Int) + 1) (all.drop (i + 1)) (all[i] :: s)) := by
      intro hin v
      rw [inb_iff] at hin
      refine Ev.succ ?_
      cases v with
      | true => simp only [spec_ClientOk.j3, if_true, Bool.not_true, Bool.false_and]; exact Ev.now _
      | false =>
        have c3 : all[i] < (b.length : Int) := by omega
        have e := ih (i + 1) (b.set all[i].toNat true) (all[i] :: s) (by omega) (by rw [List.length_set]; exact hb) (fun x x0 x1 => by rw [rdOf_set b all[i] x hin.1 c3 x0, hs x x0 x1, List.contains_cons]; congr 1)
        simp only [spec_ClientOk.j3, Bool.false_eq_true, if_false, if_pos c2, if_pos c1, hr, if_pos hin.1, if_pos c3, hwi, Bool.not_false, Bool.true_and]
        rw [show ((i : Int) + 1) = ((i + 1 : Nat) : Int) by omega]
        exact e
    refine Ev.succ ?_
    simp only [spec_ClientOk.l1, if_pos c1, if_pos c2, spec_in_, hr, hwa, Option.bind_some]
    cases hin : inb all[i] 0 (a - 1) with
    | false =>
      simp only [Bool.false_eq_true, if_false, Bool.false_and]
      refine Ev.succ ?_
      simp only [spec_ClientOk.j3, if_true]; exact Ev.now _
    | true =>
      have hin' := inb_iff.1 hin
      have hs' := hs all[i] hin'.1 (by omega)
      simp only [if_true, Bool.true_and, if_pos hin'.1, if_pos (show all[i] < (b.length : Int) by omega), hs']
      cases hct : s.contains all[i] with
      | true =>
        simp only [if_true, Bool.not_true, Bool.false_and]
        exact j hin true
      | false =>
        simp only [Bool.false_eq_true, if_false, Bool.not_false, Bool.true_and]
        by_cases p1 : (i : Int) > 0
        · by_cases p2 : (i : Int) < (o.length : Int)
          · have hwp : wrap64 ((i : Int) - 1) = ((i - 1 : Nat) : Int) := by rw [wrap_id (by omega) (by omega)]; omega
            have c4 : (0 : Int) ≤ ((i - 1 : Nat) : Int) := by omega
            have c5 : ((i - 1 : Nat) : Int) < (all.length : Int) := by omega
            simp only [if_pos p1, if_pos p2, hwp, if_pos c4, if_pos c5, decide_eq_true p1, decide_eq_true p2, Bool.true_and]
            exact j hin _
          · simp only [if_pos p1, if_neg p2, decide_eq_true p1, decide_eq_false p2, Bool.true_and, Bool.false_and, Bool.not_false]
            exact j hin false
        · simp only [if_neg p1, decide_eq_false p1, Bool.false_and, Bool.not_false, Bool.true_and]
          exact j hin false
theorem spec_clientOk_l (a : Int) (o f : List Int) (c : List CW) (b : List Bool) (ho : o.length ≤ 10000000) (hf : f.length ≤ 10000000) (hc : c.length ≤ 10000000) (h0 : 0 ≤ a) (h256 : a ≤ 256) (hb : b = List.replicate a.toNat false) (d : Nat) : ∀ i : Nat, i + d = c.length →
    Ev (fun k => spec_ClientOk.l0 k b (nums o f (c.take i)) (i : Int) a o c f) ((c.drop i).all short && impl_ClientOk.met (nums o f c) a o.length 0 (nums o f c) []) := by
  induction d with
  | zero =>
    intro i hi
    obtain rfl : i = c.length := by omega
    refine Ev.succ ?_
    have hn := nums_length o f c
    rw [List.take_length, List.drop_length]
    simp only [spec_ClientOk.l0, if_neg (show ¬ (c.length : Int) < (c.length : Int) by omega), List.all_nil, Bool.true_and]
    have h := spec_met_l a o f c (nums o f c) h0 h256 (by omega) (nums o f c).length 0 b [] (by omega) (by rw [hb, List.length_replicate]; omega) (by
      intro x x0 x1
      rw [hb]; unfold rdOf
      rw [List.getD_eq_getElem?_getD, List.getElem?_replicate]
      split <;> rfl)
    exact h
  | succ d ih =>
    intro i hi
    have hi2 : i < c.length := by omega
    have h1 := ih (i + 1) (by omega)
    have hn : (nums o f (c.take i)).length < 17592186044416 := by rw [nums_length, List.length_take]; omega
    rw [List.drop_eq_getElem_cons hi2, List.all_cons]
    refine Ev.succ ?_
    simp only [spec_ClientOk.l0, if_pos (show (i : Int) < (c.length : Int) by omega), if_pos (show (0 : Int) ≤ (i : Int) by omega), rdCW c i hi2]
    by_cases h9 : (c[i].f1.length : Int) > 9
    · simp only [if_pos h9, short, decide_eq_true h9, Bool.not_true, Bool.false_and]; exact Ev.now _
    · have hw : wrap64 ((i : Int) + 1) = ((i + 1 : Nat) : Int) := by rw [wrap_id (by omega) (by omega)]; omega
      have hsh : short c[i] = true := by unfold short; rw [decide_eq_false h9]; rfl
      simp only [if_neg h9, if_pos hn, hw, hsh, Bool.true_and, nums_snoc o f c i hi2]
      exact h1
theorem spec_clientOk (a : Int) (o f : List Int) (c : List CW) (ho : o.length ≤ 10000000) (hf : f.length ≤ 10000000) (hc : c.length ≤ 10000000) : Ev (fun k => spec_ClientOk.f k a o c f) (clientOk a o c f) := by
  have hn := nums_length o f c
  unfold spec_ClientOk.f clientOk
  simp only [spec_in_, Option.bind_some]
  cases h1 : inb a 0 256
  · simp only [Bool.false_eq_true, if_false, Bool.false_and]
    refine Ev.succ ?_
    simp only [spec_ClientOk.j0, if_true]; exact Ev.now _
  · rw [inb_iff] at h1
    simp only [if_true, Bool.true_and]
    by_cases h4 : (o.length : Int) > 4
    · simp only [if_pos h4, decide_eq_false (show ¬ (o.length : Int) ≤ 4 by omega), Bool.false_and]
      refine Ev.succ ?_
      simp only [spec_ClientOk.j0, if_true]; exact Ev.now _
    · simp only [if_neg h4, decide_eq_true (show (o.length : Int) ≤ 4 by omega), Bool.true_and]
      have hw : wrap64 (wrap64 ((o.length : Int) + (c.length : Int)) + (f.length : Int)) = ((nums o f c).length : Int) := by
        rw [wrap_id (x := (o.length : Int) + (c.length : Int)) (by omega) (by omega), wrap_id (by omega) (by omega), hn]; omega
      rw [hw]
      refine Ev.succ ?_
      by_cases ha : ((nums o f c).length : Int) = a
      · have hne : (((nums o f c).length : Int) != a) = false := by rw [bne_eq_false_iff_eq]; exact ha
        have h := spec_clientOk_l a o f c (List.replicate a.toNat false) ho hf hc h1.1 h1.2 rfl c.length 0 (by omega)
        rw [List.drop_zero, List.take_zero, show nums o f [] = [] ++ o ++ f by simp [nums]] at h
        simp only [spec_ClientOk.j0, hne, Bool.false_eq_true, if_false, if_pos h1.1, if_pos (show a.toNat ≤ 281474976710656 by omega), Option.bind_some, if_pos (show ([] : List Int).length + o.length < 17592186044416 by rw [List.length_nil]; omega), if_pos (show ([] ++ o).length + f.length < 17592186044416 by rw [List.nil_append]; omega), decide_eq_true ha, Bool.true_and]
        exact h
      · have hne : (((nums o f c).length : Int) != a) = true := by rw [bne_iff_ne]; exact ha
        simp only [spec_ClientOk.j0, hne, if_true, decide_eq_false ha, Bool.false_and]
        exact Ev.now _

/-! what a client becomes: the reference -/
/-- lengths that are small -/
def cbd (o : List Int) (c : List CW) (f : List Int) : Prop := o.length ≤ 2000000 ∧ c.length ≤ 2000000 ∧ (∀ z ∈ c, z.f1.length ≤ 2000000) ∧ f.length ≤ 4000000
theorem spec_copy_l (a : Int) (o : List Int) (c : List CW) (f : List Int) (a' : Int) (o' f' : List Int) (hc : c.length ≤ 2000000) (hb : ∀ z ∈ c, z.f1.length ≤ 2000000) (d : Nat) : ∀ i : Nat, i + d = c.length →
    Ev (fun k => spec_l20Client.l0 k (i : Int) a o c f a' o' (c.take i) f') (a', o', c, f') := by
  induction d with
  | zero =>
    intro i hi
    obtain rfl : i = c.length := by omega
    refine Ev.succ ?_
    rw [List.take_length]
    simp only [spec_l20Client.l0, if_neg (show ¬ (c.length : Int) < (c.length : Int) by omega)]
    exact Ev.now _
  | succ d ih =>
    intro i hi
    have hi2 : i < c.length := by omega
    have hz := hb _ (List.getElem_mem hi2)
    have e := ih (i + 1) (by omega)
    have ht : c.take (i + 1) = c.take i ++ [(⟨c[i].f0, [] ++ c[i].f1⟩ : CW)] := by rw [List.take_succ_eq_append_getElem hi2, List.nil_append]
    refine Ev.succ ?_
    simp only [spec_l20Client.l0, if_pos (show (i : Int) < (c.length : Int) by omega), if_pos (show (0 : Int) ≤ (i : Int) by omega), rdCW c i hi2, Option.bind_some, if_pos (show ([] : List Int).length + c[i].f1.length < 140737488355328 by rw [List.length_nil]; omega), if_pos (show (c.take i).length < 4398046511104 by rw [List.length_take]; omega)]
    rw [wrap_id (by omega) (by omega), ← ht]
    exact e
theorem spec_copy (a : Int) (o : List Int) (c : List CW) (f : List Int) (h : cbd o c f) : Ev (fun k => spec_l20Client.f k a o c f) (a, o, c, f) := by
  obtain ⟨h1, h2, h3, h4⟩ := h
  unfold spec_l20Client.f
  simp only [Option.bind_some, if_pos (show ([] : List Int).length + o.length < 17592186044416 by rw [List.length_nil]; omega), if_pos (show ([] : List Int).length + f.length < 17592186044416 by rw [List.length_nil]; omega), List.nil_append]
  have e := spec_copy_l a o c f a o f h2 h3 c.length 0 (by omega)
  rw [List.take_zero] at e
  exact e
abbrev CL := Int × List Int × List CW × List Int
def noCL : CL := (0, [], [], [])
def hearC (a : Int) (o : List Int) (c : List CW) (f : List Int) (n : Int) (w : List Int) : Int × List Int × List CW × List Int × Bool :=
  if clientOk a o c f then (if o.contains n && !decide ((w.length : Int) > 9) then (a, o.filter (fun x => decide (x ≠ n)), c ++ [⟨n, w⟩], f, true) else (a, o, c, f, false)) else (0, [], [], [], false)
theorem spec_hear_l (a : Int) (o : List Int) (c : List CW) (f : List Int) (n : Int) (w : List Int) (ho : o.length ≤ 2000000) (hc : c.length ≤ 2000000) (hw : w.length ≤ 2000000) (d : Nat) : ∀ i : Nat, i + d = o.length →
    Ev (fun k => spec_ClientHear.l0 k ((o.take i).filter (fun x => decide (x ≠ n))) ((o.take i).contains n) (i : Int) a o c f n w a o c f) (if o.contains n && !decide ((w.length : Int) > 9) then (a, o.filter (fun x => decide (x ≠ n)), c ++ [⟨n, w⟩], f, true) else (a, o, c, f, false)) := by
  induction d with
  | zero =>
    intro i hi
    obtain rfl : i = o.length := by omega
    refine Ev.succ ?_
    rw [List.take_length]
    simp only [spec_ClientHear.l0, if_neg (show ¬ (o.length : Int) < (o.length : Int) by omega)]
    cases h : o.contains n
    · simp only [Bool.false_eq_true, if_false, Bool.false_and]; exact Ev.now _
    · by_cases h9 : (w.length : Int) > 9
      · simp only [if_true, if_pos h9, decide_eq_true h9, Bool.not_true, Bool.and_false, Bool.false_eq_true, if_false]; exact Ev.now _
      · simp only [if_true, if_neg h9, decide_eq_false h9, Bool.not_false, Bool.and_true, Option.bind_some, if_pos (show ([] : List Int).length + w.length < 140737488355328 by rw [List.length_nil]; omega), if_pos (show c.length < 4398046511104 by omega), List.nil_append]; exact Ev.now _
  | succ d ih =>
    intro i hi
    have hi2 : i < o.length := by omega
    have e := ih (i + 1) (by omega)
    have ht := List.take_succ_eq_append_getElem hi2
    have hfl : ((o.take i).filter (fun x => decide (x ≠ n))).length ≤ i := Nat.le_trans (List.length_filter_le _ _) (by rw [List.length_take]; omega)
    rw [ht, List.filter_append, List.contains_append] at e
    refine Ev.succ ?_
    simp only [spec_ClientHear.l0, if_pos (show (i : Int) < (o.length : Int) by omega), if_pos (show (0 : Int) ≤ (i : Int) by omega), rd_get o i hi2]
    by_cases hn : o[i] = n
    · have e1 : List.filter (fun x => decide (x ≠ n)) [o[i]] = [] := by simp [hn]
      have e2 : ((o.take i).contains n || [o[i]].contains n) = true := by simp [hn]
      rw [e1, List.append_nil, e2] at e
      simp only [if_pos hn]
      rw [wrap_id (by omega) (by omega)]
      exact e
    · have e1 : List.filter (fun x => decide (x ≠ n)) [o[i]] = [o[i]] := by simp [hn]
      have e2 : ((o.take i).contains n || [o[i]].contains n) = (o.take i).contains n := by
        have : [o[i]].contains n = false := by simp; exact fun h => hn h.symm
        rw [this, Bool.or_false]
      rw [e1, e2] at e
      simp only [if_neg hn, if_pos (show ((o.take i).filter (fun x => decide (x ≠ n))).length < 17592186044416 by omega)]
      rw [wrap_id (by omega) (by omega)]
      exact e
theorem spec_hear (a : Int) (o : List Int) (c : List CW) (f : List Int) (n : Int) (w : List Int) (h : cbd o c f) (hw : w.length ≤ 2000000) : Ev (fun k => spec_ClientHear.f k a o c f n w) (hearC a o c f n w) := by
  unfold spec_ClientHear.f hearC
  refine Ev.bind (spec_clientOk a o f c (by have := h.1; omega) (by have := h.2.2.2; omega) (by have := h.2.1; omega)) ?_
  cases clientOk a o c f
  · simp only [Bool.false_eq_true, if_false]; exact Ev.now _
  · simp only [if_true]
    refine Ev.bind (spec_copy a o c f h) ?_
    exact spec_hear_l a o c f n w h.1 h.2.1 hw o.length 0 (by omega)
def overC (a : Int) (o : List Int) (c : List CW) (f : List Int) : CL := if clientOk a o c f then (a, [], c, f ++ o) else noCL
def wbytes (a : Int) (w : List Int) : List Int := if inb a 0 255 && !decide ((w.length : Int) > 9) then [(w.length : Int) % 256, a % 256] ++ w else []
def askC (a : Int) (o : List Int) (c : List CW) (f : List Int) (w : List Int) : Int × List Int × List CW × List Int × List Int × Bool :=
  if clientOk a o c f && !decide ((w.length : Int) > 9) then (if decide ((o.length : Int) = 4) || decide (a = 256) then (a, o, c, f, [], false) else (a + 1, o ++ [a], c, f, wbytes a w, true)) else (0, [], [], [], [], false)
theorem clientOk_next {a : Int} {o : List Int} {c : List CW} {f : List Int} (h : clientOk a o c f = true) : 0 ≤ a ∧ a ≤ 256 := by
  unfold clientOk at h
  rw [Bool.and_eq_true, inb_iff] at h
  exact h.1
/-! what it says that a client is ok -/
theorem met_iff (all : List Int) (a : Int) (n : Nat) (h0 : 0 ≤ a) (h256 : a ≤ 256) (hall : all.length ≤ 100000000) (d : Nat) : ∀ (i : Nat) (s : List Int), i + d = all.length →
    (impl_ClientOk.met all a n (i : Int) (all.drop i) s = true ↔ (∀ x ∈ all.drop i, 0 ≤ x ∧ x < a) ∧ (all.drop i).Nodup ∧ (∀ x ∈ all.drop i, x ∉ s) ∧ (∀ j (hj : j < all.length), i ≤ j → 0 < j → j < n → all[j - 1]'(by omega) < all[j])) := by
  induction d with
  | zero =>
    intro i s hi
    obtain rfl : i = all.length := by omega
    rw [List.drop_length, impl_ClientOk.met]
    simp only [true_iff]
    exact ⟨by simp, by simp, by simp, fun j hj h => absurd hj (by omega)⟩
  | succ d ih =>
    intro i s hi
    have hi2 : i < all.length := by omega
    have hwa : wrap64 (a - 1) = a - 1 := wrap_id (by omega) (by omega)
    have e := ih (i + 1) (all[i] :: s) (by omega)
    rw [List.drop_eq_getElem_cons hi2, met_step, hwa, show ((i : Int) + 1) = ((i + 1 : Nat) : Int) by omega]
    simp only [Bool.and_eq_true, inb_iff, e, Bool.not_eq_true', List.nodup_cons, List.mem_cons]
    have hasc : (decide ((i : Int) > 0) && (decide ((i : Int) < (n : Int)) && decide (rd all (wrap64 ((i : Int) - 1)) ≥ all[i]))) = false ↔ (0 < i → i < n → all[i - 1]'(by omega) < all[i]) := by
      by_cases p1 : 0 < i
      · by_cases p2 : i < n
        · have hwp : wrap64 ((i : Int) - 1) = ((i - 1 : Nat) : Int) := by rw [wrap_id (by omega) (by omega)]; omega
          have hr := rd_get all (i - 1) (by omega)
          rw [hwp, hr, decide_eq_true (show (i : Int) > 0 by omega), decide_eq_true (show (i : Int) < (n : Int) by omega)]
          simp [p1, p2]
        · rw [decide_eq_false (show ¬ (i : Int) < (n : Int) by omega)]
          simp [p2]
      · rw [decide_eq_false (show ¬ (i : Int) > 0 by omega)]
        simp [p1]
    rw [hasc]
    constructor
    · rintro ⟨⟨x0, x1⟩, hs, ha, hb, hn, hc, hd⟩
      refine ⟨?_, ⟨?_, hn⟩, ?_, ?_⟩
      · rintro x (rfl | hx)
        · exact ⟨x0, by omega⟩
        · exact hb x hx
      · intro hx; exact hc _ hx (Or.inl rfl)
      · rintro x (rfl | hx)
        · simpa using hs
        · exact fun h => hc x hx (Or.inr h)
      · intro j hj hij j0 jn
        by_cases hji : j = i
        · subst hji; exact ha j0 jn
        · exact hd j hj (by omega) j0 jn
    · rintro ⟨hb, ⟨hni, hn⟩, hc, hd⟩
      refine ⟨⟨(hb _ (Or.inl rfl)).1, by have := (hb _ (Or.inl rfl)).2; omega⟩, by simpa using hc _ (Or.inl rfl), fun i0 i1 => hd i hi2 (Nat.le_refl _) i0 i1, fun x hx => hb x (Or.inr hx), hn, ?_, fun j hj hij => hd j hj (by omega)⟩
      intro x hx h
      rcases h with rfl | h
      · exact hni hx
      · exact hc x (Or.inr hx) h
/-- what 'ok' says, in plain words -/
def okC (a : Int) (o : List Int) (c : List CW) (f : List Int) : Prop :=
  (0 ≤ a ∧ a ≤ 256) ∧ o.length ≤ 4 ∧ ((nums o f c).length : Int) = a ∧ (∀ z ∈ c, z.f1.length ≤ 9) ∧ (∀ x ∈ nums o f c, 0 ≤ x ∧ x < a) ∧ (nums o f c).Nodup ∧ ∀ j (hj : j < o.length), 0 < j → o[j - 1]'(by omega) < o[j]
theorem nums_o (o f : List Int) (c : List CW) (j : Nat) (hj : j < o.length) (h : j < (nums o f c).length := by rw [nums_length]; omega) : (nums o f c)[j] = o[j] := by
  unfold nums at h ⊢
  rw [List.getElem_append_left (by rw [List.length_append]; omega), List.getElem_append_left hj]
theorem clientOk_iff (a : Int) (o : List Int) (c : List CW) (f : List Int) : clientOk a o c f = true ↔ okC a o c f := by
  unfold clientOk okC
  simp only [Bool.and_eq_true, inb_iff, decide_eq_true_eq]
  constructor
  · rintro ⟨h0, h1, h2, h3, h4⟩
    have hm := met_iff (nums o f c) a o.length h0.1 h0.2 (by omega) (nums o f c).length 0 [] (by omega)
    rw [List.drop_zero] at hm
    obtain ⟨m1, m2, _, m4⟩ := hm.1 h4
    refine ⟨h0, by omega, h2, ?_, m1, m2, ?_⟩
    · intro z hz
      have := List.all_eq_true.1 h3 z hz
      unfold short at this
      simp at this
      omega
    · intro j hj j0
      have hl : j < (nums o f c).length := by rw [nums_length]; omega
      have := m4 j hl (by omega) j0 hj
      rw [nums_o o f c j hj, nums_o o f c (j - 1) (by omega)] at this
      exact this
  · rintro ⟨h0, h1, h2, h3, h4, h5, h6⟩
    have hm := met_iff (nums o f c) a o.length h0.1 h0.2 (by omega) (nums o f c).length 0 [] (by omega)
    rw [List.drop_zero] at hm
    refine ⟨h0, by omega, h2, ?_, hm.2 ⟨h4, h5, by simp, ?_⟩⟩
    · rw [List.all_eq_true]
      intro z hz
      have := h3 z hz
      unfold short
      simp; omega
    · intro j hj _ j0 jn
      have := h6 j jn j0
      rw [nums_o o f c j jn, nums_o o f c (j - 1) (by omega)]
      exact this
theorem ok_over {a : Int} {o : List Int} {c : List CW} {f : List Int} (h : okC a o c f) : okC a [] c (f ++ o) := by
  obtain ⟨h0, h1, h2, h3, h4, h5, h6⟩ := h
  have hp : (nums [] (f ++ o) c).Perm (nums o f c) := by
    unfold nums
    rw [List.nil_append]
    exact List.Perm.append_right _ List.perm_append_comm
  exact ⟨h0, by simp, by rw [hp.length_eq]; exact h2, h3, fun x hx => h4 x (hp.mem_iff.1 hx), hp.nodup_iff.2 h5, fun j hj => absurd hj (by simp)⟩
theorem ok_zero : okC 0 [] [] [] := ⟨by omega, by simp, by simp [nums], by simp, by simp [nums], by simp [nums], fun j hj => absurd hj (by simp)⟩
theorem ok_ask {a : Int} {o : List Int} {c : List CW} {f : List Int} (h : okC a o c f) (h4' : o.length ≠ 4) (ha : a ≠ 256) : okC (a + 1) (o ++ [a]) c f := by
  obtain ⟨h0, h1, h2, h3, h4, h5, h6⟩ := h
  have hp : (nums (o ++ [a]) f c).Perm (a :: nums o f c) := by
    unfold nums
    rw [List.append_assoc, List.append_assoc, List.append_assoc]
    exact List.perm_middle
  have hmo : ∀ x ∈ o, x < a := fun x hx => (h4 x (by unfold nums; rw [List.mem_append, List.mem_append]; exact Or.inl (Or.inl hx))).2
  refine ⟨by omega, by rw [List.length_append, List.length_singleton]; omega, by rw [hp.length_eq, List.length_cons]; omega, h3, ?_, hp.nodup_iff.2 ?_, ?_⟩
  · intro x hx
    rcases List.mem_cons.1 (hp.mem_iff.1 hx) with rfl | hx
    · omega
    · have := h4 x hx; omega
  · rw [List.nodup_cons]
    exact ⟨fun hx => by have := h4 a hx; omega, h5⟩
  · intro j hj j0
    rw [List.length_append, List.length_singleton] at hj
    by_cases hjl : j < o.length
    · rw [List.getElem_append_left (by omega), List.getElem_append_left hjl]; exact h6 j hjl j0
    · have hje : j = o.length := by omega
      subst hje
      rw [List.getElem_append_left (by omega), List.getElem_append_right (by omega)]
      simp only [Nat.sub_self, List.getElem_singleton]
      exact hmo _ (List.getElem_mem (by omega))
theorem sorted_of {o : List Int} (h : ∀ j (hj : j < o.length), 0 < j → o[j - 1]'(by omega) < o[j]) : o.Pairwise (· < ·) := by
  rw [List.pairwise_iff_getElem]
  intro i j hi hj hij
  induction j with
  | zero => omega
  | succ j ih =>
    have h1 := h (j + 1) hj (by omega)
    simp only [Nat.add_sub_cancel] at h1
    by_cases e : i = j
    · subst e; exact h1
    · have := ih (by omega) (by omega); omega
theorem of_sorted {o : List Int} (h : o.Pairwise (· < ·)) : ∀ j (hj : j < o.length), 0 < j → o[j - 1]'(by omega) < o[j] := fun j hj j0 => List.pairwise_iff_getElem.1 h (j - 1) j (by omega) hj (by omega)
theorem ok_hear {a : Int} {o : List Int} {c : List CW} {f : List Int} (h : okC a o c f) (n : Int) (w : List Int) (hn : n ∈ o) (hw : w.length ≤ 9) : okC a (o.filter (fun x => decide (x ≠ n))) (c ++ [⟨n, w⟩]) f := by
  obtain ⟨h0, h1, h2, h3, h4, h5, h6⟩ := h
  have hno : o.Nodup := by unfold nums at h5; rw [List.append_assoc] at h5; exact (List.nodup_append.1 h5).1
  have hpo : o.Perm (n :: o.filter (fun x => decide (x ≠ n))) := by
    have e1 := List.perm_cons_erase hn
    rw [hno.erase_eq_filter n] at e1
    have e2 : o.filter (fun x => x != n) = o.filter (fun x => decide (x ≠ n)) := by
      apply List.filter_congr
      intro x _
      by_cases hh : x = n <;> simp [hh]
    rw [← e2]; exact e1
  have hp : (nums (o.filter (fun x => decide (x ≠ n))) f (c ++ [⟨n, w⟩])).Perm (nums o f c) := by
    unfold nums
    rw [List.map_append, ← List.append_assoc]
    have e1 : (List.filter (fun x => decide (x ≠ n)) o ++ f ++ List.map (fun z : CW => z.f0) c ++ List.map (fun z : CW => z.f0) [⟨n, w⟩]).Perm (n :: (List.filter (fun x => decide (x ≠ n)) o ++ f ++ List.map (fun z : CW => z.f0) c)) := by
      simp only [List.map_cons, List.map_nil]
      exact List.perm_append_singleton _ _
    refine e1.trans ?_
    rw [List.append_assoc, List.append_assoc, ← List.cons_append]
    exact (List.Perm.append_right _ hpo.symm)
  refine ⟨h0, Nat.le_trans (List.length_filter_le _ _) h1, by rw [hp.length_eq]; exact h2, ?_, fun x hx => h4 x (hp.mem_iff.1 hx), hp.nodup_iff.2 h5, of_sorted ((sorted_of h6).filter _)⟩
  intro z hz
  rw [List.mem_append, List.mem_singleton] at hz
  rcases hz with hz | rfl
  · exact h3 z hz
  · exact hw

/-! what a client becomes: the program -/
theorem clone_int_ (l : List Int) (h : l.length ≤ 10000000) : impl_clone_int.f l = some l := by
  unfold impl_clone_int.f; rw [if_pos (by omega)]
theorem clone_byte_' (l : List Int) (h : l.length ≤ 10000000) : impl_clone_byte.f l = some l := by
  unfold impl_clone_byte.f; rw [if_pos (by omega)]
theorem impl_copy_l (c : List CW) (a' : Int) (o' f' : List Int) (hc : c.length ≤ 2000000) (hb : ∀ z ∈ c, z.f1.length ≤ 2000000) (d : Nat) : ∀ i : Nat, i + d = c.length →
    Ev (fun k => impl_Client_copy.l0 k c (c.length : Int) (i : Int) a' o' (c.take i) f') (a', o', c, f') := by
  induction d with
  | zero =>
    intro i hi
    obtain rfl : i = c.length := by omega
    refine Ev.succ ?_
    rw [List.take_length]
    simp only [impl_Client_copy.l0, if_neg (show ¬ (c.length : Int) < (c.length : Int) by omega)]
    exact Ev.now _
  | succ d ih =>
    intro i hi
    have hi2 : i < c.length := by omega
    have hz := hb _ (List.getElem_mem hi2)
    have e := ih (i + 1) (by omega)
    have ht : c.take (i + 1) = c.take i ++ [(⟨c[i].f0, c[i].f1⟩ : CW)] := List.take_succ_eq_append_getElem hi2
    refine Ev.succ ?_
    simp only [impl_Client_copy.l0, if_pos (show (i : Int) < (c.length : Int) by omega), if_pos (show (0 : Int) ≤ (i : Int) by omega), rdCW c i hi2, clone_byte_' c[i].f1 (by omega), Option.bind_some, if_pos (show (c.take i).length < 4398046511104 by rw [List.length_take]; omega)]
    rw [wrap_id (by omega) (by omega), ← ht]
    exact e
theorem impl_copy (a : Int) (o : List Int) (c : List CW) (f : List Int) (ho : o.length ≤ 10000000) (hf : f.length ≤ 10000000) (hc : c.length ≤ 2000000) (hb : ∀ z ∈ c, z.f1.length ≤ 2000000) : Ev (fun k => impl_Client_copy.f k a o c f) (a, o, c, f) := by
  unfold impl_Client_copy.f
  rw [clone_int_ o ho, clone_int_ f hf]
  simp only [Option.bind_some]
  have e := impl_copy_l c a o f hc hb c.length 0 (by omega)
  rw [List.take_zero] at e
  exact e
/-! an answer: the program -/
theorem hearC_bad {a : Int} {o : List Int} {c : List CW} {f : List Int} (n : Int) (w : List Int) (h : clientOk a o c f = false) : hearC a o c f n w = (0, [], [], [], false) := by
  unfold hearC; rw [h]; rfl
theorem hearC_hit {a : Int} {o : List Int} {c : List CW} {f : List Int} {n : Int} {w : List Int} (h : clientOk a o c f = true) (hn : (o.contains n && !decide ((w.length : Int) > 9)) = true) : hearC a o c f n w = (a, o.filter (fun x => decide (x ≠ n)), c ++ [⟨n, w⟩], f, true) := by
  unfold hearC; rw [if_pos h, if_pos hn]
theorem hearC_miss {a : Int} {o : List Int} {c : List CW} {f : List Int} {n : Int} {w : List Int} (h : clientOk a o c f = true) (hn : (o.contains n && !decide ((w.length : Int) > 9)) = false) : hearC a o c f n w = (a, o, c, f, false) := by
  unfold hearC; rw [if_pos h, hn]; rfl
theorem index_l (l : List Int) (n : Int) (hl : l.length ≤ 100000000) (d : Nat) : ∀ i : Nat, i + d = l.length →
    Ev (fun k => slices_Index_int_int.l0 k l n (l.length : Int) (i : Int)) (if n ∈ l.drop i then ((i + (l.drop i).idxOf n : Nat) : Int) else -1) := by
  induction d with
  | zero =>
    intro i hi
    refine Ev.succ ?_
    rw [List.drop_of_length_le (by omega)]
    simp only [slices_Index_int_int.l0, if_neg (show ¬ (i : Int) < (l.length : Int) by omega), List.not_mem_nil, if_false]
    exact Ev.now _
  | succ d ih =>
    intro i hi
    have hi2 : i < l.length := by omega
    have e := ih (i + 1) (by omega)
    refine Ev.succ ?_
    rw [List.drop_eq_getElem_cons hi2]
    simp only [slices_Index_int_int.l0, if_pos (show (i : Int) < (l.length : Int) by omega), if_pos (show (0 : Int) ≤ (i : Int) by omega), rd_get l i hi2]
    by_cases hn : n = l[i]
    · have hm : n ∈ l[i] :: l.drop (i + 1) := by rw [hn]; exact List.mem_cons_self
      have e2 : (l[i] :: l.drop (i + 1)).idxOf n = 0 := by rw [hn]; exact List.idxOf_cons_self
      simp only [if_pos hn, if_pos hm, e2, Nat.add_zero]
      exact Ev.now _
    · simp only [if_neg hn]
      rw [wrap_id (by omega) (by omega)]
      have e1 : (n ∈ l[i] :: l.drop (i + 1)) ↔ n ∈ l.drop (i + 1) := by
        rw [List.mem_cons]; exact ⟨fun h => h.resolve_left hn, Or.inr⟩
      have e2 : (l[i] :: l.drop (i + 1)).idxOf n = (l.drop (i + 1)).idxOf n + 1 := by
        rw [List.idxOf_cons]
        have : (l[i] == n) = false := by rw [beq_eq_false_iff_ne]; exact fun h => hn h.symm
        rw [this]; rfl
      simp only [e1, e2]
      rw [show i + ((l.drop (i + 1)).idxOf n + 1) = i + 1 + (l.drop (i + 1)).idxOf n by omega]
      exact e
theorem index_ (l : List Int) (n : Int) (hl : l.length ≤ 100000000) : Ev (fun k => slices_Index_int_int.f k l n) (if n ∈ l then ((l.idxOf n : Nat) : Int) else -1) := by
  have e := index_l l n hl l.length 0 (by omega)
  rw [List.drop_zero, Nat.zero_add] at e
  unfold slices_Index_int_int.f
  exact e
theorem erase_filter {o : List Int} {n : Int} (hno : o.Nodup) : o.eraseIdx (o.idxOf n) = o.filter (fun x => decide (x ≠ n)) := by
  have e1 : o.erase n = o.eraseIdx (o.idxOf n) := List.erase_eq_eraseIdx_of_idxOf rfl
  rw [← e1, hno.erase_eq_filter n]
  apply List.filter_congr
  intro x _
  by_cases hh : x = n <;> simp [hh]
theorem impl_hear (a : Int) (o : List Int) (c : List CW) (f : List Int) (n : Int) (w : List Int) (h : cbd o c f) (hc : c.length < 2000000) (hw : w.length ≤ 2000000) : Ev (fun k => impl_ClientHear.f k a o c f n w) (hearC a o c f n w) := by
  obtain ⟨h1, h2, h3, h4⟩ := h
  unfold impl_ClientHear.f
  refine Ev.bind (impl_clientOk a o f c (by omega) (by omega) (by omega)) ?_
  cases hok : clientOk a o c f
  · simp only [Bool.false_eq_true, if_false]
    rw [hearC_bad n w hok]; exact Ev.now _
  · simp only [if_true]
    refine Ev.bind (impl_copy a o c f (by omega) (by omega) h2 h3) ?_
    refine Ev.bind (index_ o n (by omega)) ?_
    by_cases hm : n ∈ o
    · have hlt : o.idxOf n < o.length := List.idxOf_lt_length_of_mem hm
      have hct : o.contains n = true := by simpa using hm
      have hno : o.Nodup := by
        have := ((clientOk_iff a o c f).1 hok).2.2.2.2.2.1
        unfold nums at this; rw [List.append_assoc] at this; exact (List.nodup_append.1 this).1
      have c0 : ¬ ((o.idxOf n : Nat) : Int) < 0 := by omega
      simp only [if_pos hm, if_neg c0]
      by_cases h9 : (w.length : Int) > 9
      · rw [hearC_miss hok (by rw [decide_eq_true h9]; simp)]
        simp only [if_pos h9]; exact Ev.now _
      · rw [hearC_hit hok (by rw [decide_eq_false h9, hct]; rfl)]
        have c1 : (0 : Int) ≤ ((o.idxOf n : Nat) : Int) := by omega
        have c2 : ((o.idxOf n : Nat) : Int) < (o.length : Int) := by omega
        have c3 : c.length < 4398046511104 := by omega
        simp only [if_neg h9, if_pos c1, if_pos c2, if_pos c3, Int.toNat_natCast]
        rw [erase_filter hno]
        have hf : (o.filter (fun x => decide (x ≠ n))).length ≤ 10000000 := Nat.le_trans (List.length_filter_le _ _) (by omega)
        refine Ev.bind (impl_copy a (o.filter (fun x => decide (x ≠ n))) (c ++ [⟨n, w⟩]) f hf (by omega) (by rw [List.length_append, List.length_singleton]; omega) ?_) (Ev.now _)
        intro z hz
        rw [List.mem_append, List.mem_singleton] at hz
        rcases hz with hz | rfl
        · exact h3 z hz
        · exact hw
    · have hct : o.contains n = false := by simpa using hm
      have c0 : (-1 : Int) < 0 := by omega
      simp only [if_neg hm, if_pos c0]
      rw [hearC_miss hok (by rw [hct]; rfl)]
      exact Ev.now _

/-! rows of words, marked -/
/-- How many numbers and bytes words have. -/
def wmany : List WI → Nat
  | [] => 0
  | z :: l => 1 + z.f1.length + wmany l
/-- What marking leaves. -/
def mkW : List WI → Int → List WI
  | [], _ => []
  | z :: l, m => ⟨m, markB z.f1.length (m + 1)⟩ :: mkW l (m + 1 + z.f1.length)
theorem wmany_append (a b : List WI) : wmany (a ++ b) = wmany a + wmany b := by
  induction a with
  | nil => simp [wmany]
  | cons z a ih => simp only [List.cons_append, wmany, ih]; omega
theorem wmany_len (l : List WI) : l.length ≤ wmany l := by
  induction l with
  | nil => simp
  | cons z l ih => simp only [wmany, List.length_cons]; omega
theorem wmany_mem (l : List WI) : ∀ z ∈ l, z.f1.length ≤ wmany l := by
  induction l with
  | nil => simp
  | cons z l ih =>
    intro y hy
    rw [List.mem_cons] at hy
    simp only [wmany]
    rcases hy with rfl | hy
    · omega
    · have := ih y hy; omega
theorem mkW_length (l : List WI) (m : Int) : (mkW l m).length = l.length := by
  induction l generalizing m with
  | nil => rfl
  | cons z l ih => simp [mkW, ih]
theorem markWordsS_l (d : Nat) : ∀ (i : Nat) (x : List WI) (m : Int), i ≤ x.length → x.length - i = d → x.length ≤ 4611686018427387904 → 0 ≤ m → m + wmany (x.drop i) ≤ 4611686018427387904 →
    Ev (fun k => laws_markWordsS.l0 k x m (i : Int)) (m + wmany (x.drop i), x.take i ++ mkW (x.drop i) m) := by
  induction d with
  | zero =>
    intro i x m hi hd hx h0 h1
    refine Ev.succ ?_
    simp only [laws_markWordsS.l0, if_neg (show ¬ (i : Int) < (x.length : Int) by omega)]
    rw [List.drop_of_length_le (by omega), List.take_of_length_le (by omega)]
    simp only [wmany, mkW, List.append_nil, Int.natCast_zero, Int.add_zero]
    exact Ev.now _
  | succ d ih =>
    intro i x m hi hd hx h0 h1
    have hlt : i < x.length := by omega
    have hdr : x.drop i = x[i] :: x.drop (i + 1) := List.drop_eq_getElem_cons hlt
    have h2 : m + (1 + x[i].f1.length + wmany (x.drop (i + 1)) : Nat) ≤ 4611686018427387904 := by rw [hdr] at h1; exact h1
    refine Ev.succ ?_
    simp only [laws_markWordsS.l0, if_pos (show (i : Int) < (x.length : Int) by omega), if_pos (show (0 : Int) ≤ (i : Int) by omega), rdWI x i hlt, Int.toNat_natCast]
    rw [wrap_id (x := m + 1) (by omega) (by omega), wrap_id (x := (i : Int) + 1) (by omega) (by omega)]
    refine Ev.bind (markByteS x[i].f1 (m + 1) (by omega) (by omega)) ?_
    have h3 := ih (i + 1) (x.set i ⟨m, markB x[i].f1.length (m + 1)⟩) (m + 1 + x[i].f1.length) (by simp; omega) (by simp; omega) (by simpa using hx) (by omega) (by rw [List.drop_set_of_lt (by omega)]; omega)
    rw [List.drop_set_of_lt (by omega), take_set_succ _ _ _ hlt] at h3
    rw [hdr]
    simp only [wmany, mkW]
    rw [show (m + (1 + x[i].f1.length + wmany (x.drop (i + 1)) : Nat) : Int) = m + 1 + x[i].f1.length + wmany (x.drop (i + 1)) by push_cast; omega]
    rw [List.append_assoc, List.singleton_append] at h3
    exact h3
theorem markWordsS (l : List WI) (m : Int) (h0 : 0 ≤ m) (h1 : m + wmany l ≤ 4611686018427387904) : Ev (fun k => laws_markWordsS.f k l m) (m + wmany l, mkW l m) := by
  unfold laws_markWordsS.f
  have hl := wmany_len l
  have := markWordsS_l l.length 0 l m (by omega) (by omega) (by omega) h0 (by simpa using h1)
  simpa using this
theorem heldWordsS_l (q : List WI) : ∀ (p : List WI) (m : Int), (p ++ mkW q m).length ≤ 4611686018427387904 → 0 ≤ m → m + wmany q ≤ 4611686018427387904 →
    Ev (fun k => laws_heldWordsS.l0 k (p ++ mkW q m) m (p.length : Int)) (m + wmany q) := by
  induction q with
  | nil =>
    intro p m hx h0 h1
    refine Ev.succ ?_
    simp only [laws_heldWordsS.l0, mkW, List.append_nil, Int.lt_irrefl, if_false, wmany, Int.natCast_zero, Int.add_zero]
    exact Ev.now _
  | cons z q ih =>
    intro p m hx h0 h1
    have hlen : (p ++ mkW (z :: q) m).length = p.length + 1 + q.length := by simp [mkW, mkW_length]; omega
    have h2 : m + (1 + z.f1.length + wmany q : Nat) ≤ 4611686018427387904 := h1
    have hg : (p ++ mkW (z :: q) m)[p.length]'(by omega) = (⟨m, markB z.f1.length (m + 1)⟩ : WI) := by simp [mkW]
    refine Ev.succ ?_
    simp only [laws_heldWordsS.l0]
    rw [rdWI _ p.length (by omega), hg]
    simp only [if_pos (show (p.length : Int) < ((p ++ mkW (z :: q) m).length : Int) by omega), if_pos (show (0 : Int) ≤ (p.length : Int) by omega), if_true]
    rw [wrap_id (x := m + 1) (by omega) (by omega), wrap_id (x := (p.length : Int) + 1) (by omega) (by omega)]
    refine Ev.bind (heldByteS z.f1.length (m + 1) (by omega) (by omega)) ?_
    simp only [if_neg (show ¬ m + 1 + (z.f1.length : Int) < 0 by omega)]
    have e : p ++ mkW (z :: q) m = (p ++ [⟨m, markB z.f1.length (m + 1)⟩]) ++ mkW q (m + 1 + z.f1.length) := by simp [mkW]
    have h3 := ih (p ++ [⟨m, markB z.f1.length (m + 1)⟩]) (m + 1 + z.f1.length) (by rw [← e]; exact hx) (by omega) (by omega)
    rw [← e] at h3
    simp only [wmany]
    rw [show (m + (1 + z.f1.length + wmany q : Nat) : Int) = m + 1 + z.f1.length + wmany q by push_cast; omega]
    rw [show ((p ++ [(⟨m, markB z.f1.length (m + 1)⟩ : WI)]).length : Int) = (p.length : Int) + 1 by simp] at h3
    exact h3
theorem heldWordsS (l : List WI) (m : Int) (h0 : 0 ≤ m) (h1 : m + wmany l ≤ 4611686018427387904) : Ev (fun k => laws_heldWordsS.f k (mkW l m) m) (m + wmany l) := by
  unfold laws_heldWordsS.f
  have hl := wmany_len l
  have := heldWordsS_l l [] m (by simp [mkW_length]; omega) h0 h1
  simpa using this

/-! rows of numbers, marked -/
def markI : Nat → Int → List Int
  | 0, _ => []
  | n + 1, m => m :: markI n (m + 1)
theorem markI_length (n : Nat) (m : Int) : (markI n m).length = n := by
  induction n generalizing m with
  | zero => rfl
  | succ n ih => simp [markI, ih]
theorem markI_get (n : Nat) (m : Int) (i : Nat) (h : i < (markI n m).length) : (markI n m)[i] = m + i := by
  induction n generalizing m i with
  | zero => simp [markI] at h
  | succ n ih =>
    cases i with
    | zero => simp [markI]
    | succ i => simp only [markI, List.getElem_cons_succ]; rw [ih]; push_cast; omega
theorem markIntS_l (n : Nat) (m : Int) (h0 : 0 ≤ m) (h1 : m + n ≤ 4611686018427387904) (d : Nat) : ∀ (i : Nat) (x : List Int), i ≤ n → n - i = d → x.length = n → x.take i = (markI n m).take i →
    Ev (fun k => laws_markIntS.l0 k x (m + i) (i : Int)) (m + n, markI n m) := by
  have hM := markI_length n m
  induction d with
  | zero =>
    intro i x hi hd hx ht
    have hil : i = n := by omega
    subst hil
    refine Ev.succ ?_
    simp only [laws_markIntS.l0]
    simp only [if_neg (show ¬ (i : Int) < (x.length : Int) by omega)]
    have : x = markI i m := by rw [List.take_of_length_le (by omega), List.take_of_length_le (by omega)] at ht; exact ht
    rw [this]; exact Ev.now _
  | succ d ih =>
    intro i x hi hd hx ht
    refine Ev.succ ?_
    simp only [laws_markIntS.l0]
    simp only [if_pos (show (i : Int) < (x.length : Int) by omega), if_pos (show (0 : Int) ≤ (i : Int) by omega)]
    rw [wrap_id (by omega) (by omega), wrap_id (by omega) (by omega), Int.toNat_natCast]
    have := ih (i + 1) (x.set i (m + i)) (by omega) (by omega) (by simpa using hx) (by
      rw [take_set_succ _ _ _ (by omega), ht, List.take_succ_eq_append_getElem (by omega), markI_get])
    rw [show (m + ((i + 1 : Nat) : Int)) = m + i + 1 by push_cast; omega] at this
    exact this
theorem markIntS (l : List Int) (m : Int) (h0 : 0 ≤ m) (h1 : m + l.length ≤ 4611686018427387904) : Ev (fun k => laws_markIntS.f k l m) (m + l.length, markI l.length m) := by
  unfold laws_markIntS.f
  have := markIntS_l l.length m h0 h1 _ 0 l (by omega) rfl rfl (by simp)
  simpa using this
theorem heldIntS_l (n : Nat) (m : Int) (h0 : 0 ≤ m) (h1 : m + n ≤ 4611686018427387904) (d : Nat) : ∀ (i : Nat), i ≤ n → n - i = d → Ev (fun k => laws_heldIntS.l0 k (markI n m) (m + i) (i : Int)) (m + n) := by
  have hM := markI_length n m
  induction d with
  | zero =>
    intro i hi hd
    have hil : i = n := by omega
    subst hil
    refine Ev.succ ?_
    simp only [laws_heldIntS.l0]
    simp only [if_neg (show ¬ (i : Int) < ((markI i m).length : Int) by omega)]
    exact Ev.now _
  | succ d ih =>
    intro i hi hd
    refine Ev.succ ?_
    simp only [laws_heldIntS.l0]
    rw [rd_get _ i (by omega), markI_get]
    simp only [if_pos (show (i : Int) < ((markI n m).length : Int) by omega), if_pos (show (0 : Int) ≤ (i : Int) by omega), if_true]
    rw [wrap_id (by omega) (by omega), wrap_id (by omega) (by omega)]
    have := ih (i + 1) (by omega) (by omega)
    rw [show (m + ((i + 1 : Nat) : Int)) = m + i + 1 by push_cast; omega] at this
    exact this
theorem heldIntS (n : Nat) (m : Int) (h0 : 0 ≤ m) (h1 : m + n ≤ 4611686018427387904) : Ev (fun k => laws_heldIntS.f k (markI n m) m) (m + n) := by
  unfold laws_heldIntS.f
  have := heldIntS_l n m h0 h1 _ 0 (by omega) rfl
  simpa using this

/-! a client, marked -/
theorem wmany_bound (l : List WI) (n b : Nat) (hl : l.length ≤ n) (hb : ∀ z ∈ l, z.f1.length ≤ b) : wmany l ≤ n * (1 + b) := by
  induction l generalizing n with
  | nil => simp [wmany]
  | cons z l ih =>
    obtain ⟨n, rfl⟩ : ∃ m, n = m + 1 := ⟨n - 1, by simp at hl; omega⟩
    have h1 := ih n (by simpa using hl) (fun y hy => hb y (List.mem_cons_of_mem _ hy))
    have h2 := hb z List.mem_cons_self
    simp only [wmany]
    rw [Nat.add_mul, Nat.one_mul]
    omega
theorem markClient (a : Int) (o : List Int) (c : List WI) (f : List Int) (m : Int) (h0 : 0 ≤ m) (h1 : m + o.length + wmany c + f.length ≤ 4611686018427387904) :
    Ev (fun k => laws_markClient.f k a o c f m) (m + o.length + wmany c + f.length, markI o.length m, mkW c (m + o.length), markI f.length (m + o.length + wmany c)) := by
  unfold laws_markClient.f
  refine Ev.bind (markIntS o m h0 (by omega)) (Ev.bind (markWordsS c _ (by omega) (by omega)) (Ev.bind (markIntS f _ (by omega) (by omega)) (Ev.now _)))
theorem heldClient (a : Int) (n : Nat) (c : List WI) (j : Nat) (m : Int) (h0 : 0 ≤ m) (h1 : m + n + wmany c + j ≤ 4611686018427387904) :
    Ev (fun k => laws_heldClient.f k a (markI n m) (mkW c (m + n)) (markI j (m + n + wmany c)) m) (m + n + wmany c + j) := by
  unfold laws_heldClient.f
  refine Ev.bind (heldIntS n m h0 (by omega)) ?_
  simp only [if_neg (show ¬ m + (n : Int) < 0 by omega)]
  refine Ev.bind (heldWordsS c _ (by omega) (by omega)) ?_
  simp only [if_neg (show ¬ m + (n : Int) + (wmany c : Int) < 0 by omega)]
  refine Ev.bind (heldIntS j _ (by omega) (by omega)) ?_
  simp only [if_neg (show ¬ m + (n : Int) + (wmany c : Int) + (j : Int) < 0 by omega)]
  exact Ev.now _
/-- a client that fits: its rows are not long -/
def fits (o : List Int) (c : List WI) (f : List Int) : Prop := o.length ≤ 1048576 ∧ c.length ≤ 1048576 ∧ (∀ z ∈ c, z.f1.length ≤ 1048576) ∧ f.length ≤ 1048576
theorem fits_many {o : List Int} {c : List WI} {f : List Int} (h : fits o c f) (m : Int) (h1 : m ≤ 1000000000) : m + o.length + wmany c + f.length ≤ 4611686018427387904 := by
  obtain ⟨a1, a2, a3, a4⟩ := h
  have := wmany_bound c 1048576 1048576 a2 a3
  omega
theorem ok_fits {a : Int} {o : List Int} {c : List CW} {f : List Int} (h : okC a o c f) : fits o c f := by
  obtain ⟨h0, h1, h2, h3, _⟩ := h
  rw [nums_length] at h2
  exact ⟨by omega, by omega, fun z hz => by have := h3 z hz; omega, by omega⟩

theorem hear_fits (a : Int) (o : List Int) (c : List CW) (f : List Int) (n : Int) (w : List Int) : fits (hearC a o c f n w).2.1 (hearC a o c f n w).2.2.1 (hearC a o c f n w).2.2.2.1 := by
  unfold hearC
  cases h : clientOk a o c f
  · simp only [Bool.false_eq_true, if_false]
    exact ⟨by simp, by simp, by simp, by simp⟩
  · have hok := (clientOk_iff a o c f).1 h
    have f1 := ok_fits hok
    obtain ⟨h0, h1, h2, h3, _⟩ := hok
    rw [nums_length] at h2
    simp only [if_true]
    by_cases hc : (o.contains n && !decide ((w.length : Int) > 9)) = true
    · rw [if_pos hc]
      simp only [Bool.and_eq_true, Bool.not_eq_true', decide_eq_false_iff_not] at hc
      refine ⟨Nat.le_trans (List.length_filter_le _ _) f1.1, by simp; omega, ?_, f1.2.2.2⟩
      intro z hz
      rw [List.mem_append, List.mem_singleton] at hz
      rcases hz with hz | rfl
      · exact f1.2.2.1 z hz
      · have := hc.2
        show w.length ≤ 1048576
        omega
    · rw [if_neg hc]
      exact f1
theorem FnExactClientHear : laws_FnExactClientHear.Pure := by
  intro a o c f n w _ ho hc hf _ hw
  have ho1 : o.length ≤ 9223372036854775807 := ho.1
  have hc1 : c.length ≤ 9223372036854775807 := hc.1
  have hf1 : f.length ≤ 9223372036854775807 := hf.1
  have hw1 : w.length ≤ 9223372036854775807 := hw.1
  have hcb : ∀ z ∈ c, z.f1.length ≤ 9223372036854775807 := fun z hz => (hc.2 z hz).2.1
  clear ho hc hf hw
  refine Ev.rounds ?_
  unfold laws_FnExactClientHear.f laws_szWords.f
  obtain ⟨v, e, hv⟩ := szClientV a o c f ho1 hc1 hcb hf1
  refine Ev.bind e ?_
  by_cases hneg : v < 0
  · simp only [if_pos hneg]; exact Ev.now _
  simp only [if_neg hneg]
  obtain ⟨hv2, b1, b2, b3, b4⟩ := hv.resolve_left hneg
  rw [szByteS w v hw1 (by omega) hv2]
  simp only [Option.bind_some]
  by_cases hb : v - (w.length : Int) < 0
  · simp only [if_pos hb, if_pos (show (-1 : Int) < 0 by omega), Option.bind_some]; exact Ev.now _
  simp only [if_neg hb, Option.bind_some]
  have b5 : w.length ≤ 1048576 := by omega
  have hm1 : (c.map toW).length ≤ 1048576 := by rw [List.length_map]; exact b2
  have hm2 : ∀ z ∈ c.map toW, z.f1.length ≤ 1048576 := by
    intro z hz
    obtain ⟨y, hy, rfl⟩ := List.mem_map.1 hz
    exact b3 y hy
  have t := toClient a o c f b1 b2 b3 b4
  have tb := toWords n w b5
  have hcb2 : cbd o (c.map toW) f := ⟨by omega, by omega, fun z hz => by have := hm2 z hz; omega, by omega⟩
  have ei := impl_hear a o (c.map toW) f n w hcb2 (by omega) (by omega)
  have es := spec_hear a o (c.map toW) f n w hcb2 (by omega)
  have hq := hear_fits a o (c.map toW) f n w
  generalize hearC a o (c.map toW) f n w = q at *
  obtain ⟨q1, q2, q3, q4, q6⟩ := q
  have hx : fits o (c.map toW) f := ⟨b1, hm1, hm2, b4⟩
  have hq' : fits q2 q3 q4 := hq
  clear hq hcb2 e hv hneg hb
  have mx := fits_many hx 1000000000 (by omega)
  have mq := fits_many hq' 1000000000 (by omega)
  have eq1 := eqClient q1 q2 q3 q4 hq'.1 hq'.2.1 hq'.2.2.1 hq'.2.2.2
  have hel := heldClient q1 q2.length q3 q4.length 1 (by omega) (by omega)
  refine Ev.bind t (Ev.bind tb (Ev.bind es (Ev.bind t (Ev.bind tb (Ev.bind ei (Ev.bind eq1 ?_))))))
  simp only [if_true, bne_self_eq_false, Bool.false_eq_true, if_false]
  refine Ev.bind t (Ev.bind (eqClient a o (c.map toW) f b1 hm1 hm2 b4) ?_)
  simp only [if_true]
  refine Ev.bind tb (Ev.bind (eqWords n w (by omega)) ?_)
  simp only [if_true]
  refine Ev.bind (markClient a o (c.map toW) f 1 (by omega) (by omega)) (Ev.bind (markWords n w _ (by omega) (by omega)) ?_)
  simp only [if_neg (show ¬ (1 : Int) + (o.length : Int) + (wmany (c.map toW) : Int) + (f.length : Int) + (w.length : Int) < 0 by omega)]
  refine Ev.bind eq1 ?_
  simp only [if_true, bne_self_eq_false, Bool.false_eq_true, if_false]
  refine Ev.bind (markClient q1 q2 q3 q4 1 (by omega) (by omega)) (Ev.bind hel ?_)
  simp only [if_neg (show ¬ (1 : Int) + (q2.length : Int) + (wmany q3 : Int) + (q4.length : Int) < 0 by omega), if_true]
  refine Ev.bind t (Ev.bind tb (Ev.bind ei (Ev.bind eq1 ?_)))
  simp only [if_true, bne_self_eq_false, Bool.false_eq_true, if_false]
  refine Ev.bind hel ?_
  simp only [if_neg (show ¬ (1 : Int) + (q2.length : Int) + (wmany q3 : Int) + (q4.length : Int) < 0 by omega), if_true]
  exact Ev.now _

end Go.Proofs.Ytegchbdjbefdbaa.Pure
