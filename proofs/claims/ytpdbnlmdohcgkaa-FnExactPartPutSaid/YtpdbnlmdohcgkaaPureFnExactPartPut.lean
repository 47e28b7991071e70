/- A piece is put to a part as by the reference: the plain law. -/
import Derived.Test.YtpdbnlmdohcgkaaPFnExactPartPutx
namespace Go.Proofs.Ytpdbnlmdohcgkaa.Pure
set_option linter.unusedSimpArgs false
set_option linter.unusedVariables false
open Go.RowKit Go.Proofs.Ytpdbnlmdohcgkaa.PFnExactPartPut Go.Proofs.YtpdbnlmdohcgkaaW.PrintWords Go.Proofs.YtpdbnlmdohcgkaaW.PrintLast Go.Proofs.YtpdbnlmdohcgkaaW.PrintMore

theorem Ev.succ {α : Type} {g : Nat → Option α} {r : α} (h : Ev (fun k => g (k + 1)) r) : Ev g r := Ev.step (fun _ => rfl) h
theorem Ev.pure {α : Type} {o : Option α} {r : α} (h : o = some r) : Ev (fun _ => o) r := by rw [h]; exact Ev.now r
theorem Ev.cong {α : Type} {g g' : Nat → Option α} {r : α} (h : ∀ k, g k = g' k) (e : Ev g' r) : Ev g r := by rw [show g = g' from funext h]; exact e
theorem wrap_id {x : Int} (h0 : -9223372036854775808 ≤ x) (h1 : x ≤ 9223372036854775807) : wrap64 x = x := by unfold wrap64; omega

theorem rd_get (l : List Int) (i : Nat) (h : i < l.length) : rd l (i : Int) = l[i] := by
  unfold rd
  rw [Int.toNat_natCast, List.getD_eq_getElem?_getD, List.getElem?_eq_getElem h]; rfl
theorem take_set_succ {α : Type} (x : List α) (i : Nat) (v : α) (h : i < x.length) : (x.set i v).take (i + 1) = x.take i ++ [v] := by
  rw [List.take_succ_eq_append_getElem (by simpa using h), List.getElem_set_self, List.take_set, List.set_eq_of_length_le (by simp; omega)]


def isBytes (l : List Int) : Prop := ∀ x ∈ l, 0 ≤ x ∧ x ≤ 255
theorem isBytes_get {l : List Int} (h : isBytes l) (i : Nat) (hi : i < l.length) : 0 ≤ l[i] ∧ l[i] ≤ 255 := h _ (List.getElem_mem hi)
theorem isBytes_wf {l : List Int} (h : ∀ x ∈ l, (Lit.int .u8 x).wf = true) : isBytes l := by
  intro x hx
  have := h x hx
  simp [Lit.wf, IntKind.min, IntKind.max, IntKind.bits, IntKind.signed] at this
  omega

/-- toByteS: a copy. -/
theorem toByteS_l (l : List Int) (hl : l.length ≤ 1048576) (d : Nat) : ∀ (i : Nat) (x : List Int), i ≤ l.length → l.length - i = d → x.length = l.length → x.take i = l.take i →
    Ev (fun k => laws_toByteS.l0 k l x (i : Int)) l := by
  induction d with
  | zero =>
    intro i x hi hd hx ht
    have hil : i = l.length := by omega
    subst hil
    refine Ev.succ ?_
    simp only [laws_toByteS.l0]
    simp only [Int.lt_irrefl, if_false]
    have : x = l := by rw [← hx, List.take_length] at ht; rw [ht, hx, List.take_length]
    rw [this]; exact Ev.now l
  | succ d ih =>
    intro i x hi hd hx ht
    have hlt : i < l.length := by omega
    refine Ev.succ ?_
    simp only [laws_toByteS.l0]
    simp only [if_pos (show (i : Int) < (l.length : Int) by omega), if_pos (show (0 : Int) ≤ (i : Int) by omega), if_pos (show (i : Int) < (x.length : Int) by omega)]
    rw [wrap_id (by omega) (by omega), rd_get l i hlt, Int.toNat_natCast]
    refine ih (i + 1) _ (by omega) (by omega) (by simpa using hx) ?_
    rw [take_set_succ _ _ _ (by omega), ht, List.take_succ_eq_append_getElem hlt]
theorem toByteS (l : List Int) (hl : l.length ≤ 1048576) : Ev (fun k => laws_toByteS.f k l) l := by
  unfold laws_toByteS.f
  simp only [if_pos (show (0 : Int) ≤ (l.length : Int) by omega), Int.toNat_natCast, if_pos (show l.length ≤ 281474976710656 by omega)]
  exact toByteS_l l hl _ 0 _ (by omega) rfl (by simp) (by simp)
/-- eqByteS of a list and itself. -/
theorem eqByteS_l (l : List Int) (hl : l.length ≤ 9223372036854775806) (d : Nat) : ∀ (i : Nat), i ≤ l.length → l.length - i = d → Ev (fun k => laws_eqByteS.l0 k l l (i : Int)) true := by
  induction d with
  | zero =>
    intro i hi hd
    refine Ev.succ ?_
    simp only [laws_eqByteS.l0]
    simp only [if_neg (show ¬ (i : Int) < (l.length : Int) by omega)]
    exact Ev.now true
  | succ d ih =>
    intro i hi hd
    refine Ev.succ ?_
    simp only [laws_eqByteS.l0]
    simp only [if_pos (show (i : Int) < (l.length : Int) by omega), if_pos (show (0 : Int) ≤ (i : Int) by omega), if_true]
    rw [wrap_id (by omega) (by omega)]
    exact ih (i + 1) (by omega) (by omega)
theorem eqByteS (l : List Int) (hl : l.length ≤ 9223372036854775806) : Ev (fun k => laws_eqByteS.f k l l) true := by
  unfold laws_eqByteS.f
  simp only [if_true]
  exact eqByteS_l l hl _ 0 (by omega) rfl
/-- What markByteS leaves. -/
def markB : Nat → Int → List Int
  | 0, _ => []
  | n + 1, m => m % 256 :: markB n (m + 1)
theorem markB_length (n : Nat) (m : Int) : (markB n m).length = n := by
  induction n generalizing m with
  | zero => rfl
  | succ n ih => simp [markB, ih]
theorem markB_get (n : Nat) (m : Int) (i : Nat) (h : i < (markB n m).length) : (markB n m)[i] = (m + i) % 256 := by
  induction n generalizing m i with
  | zero => simp [markB] at h
  | succ n ih =>
    cases i with
    | zero => simp [markB]
    | succ i => simp only [markB, List.getElem_cons_succ]; rw [ih]; congr 1; push_cast; omega
theorem markByteS_l (n : Nat) (m : Int) (h0 : 0 ≤ m) (h1 : m + n ≤ 4611686018427387904) (d : Nat) : ∀ (i : Nat) (x : List Int), i ≤ n → n - i = d → x.length = n → x.take i = (markB n m).take i →
    Ev (fun k => laws_markByteS.l0 k x (m + i) (i : Int)) (m + n, markB n m) := by
  have hM := markB_length n m
  induction d with
  | zero =>
    intro i x hi hd hx ht
    have hil : i = n := by omega
    subst hil
    refine Ev.succ ?_
    simp only [laws_markByteS.l0]
    simp only [if_neg (show ¬ (i : Int) < (x.length : Int) by omega)]
    have : x = markB i m := by rw [List.take_of_length_le (by omega), List.take_of_length_le (by omega)] at ht; exact ht
    rw [this]; exact Ev.now _
  | succ d ih =>
    intro i x hi hd hx ht
    refine Ev.succ ?_
    simp only [laws_markByteS.l0]
    simp only [if_pos (show (i : Int) < (x.length : Int) by omega), if_pos (show (0 : Int) ≤ (i : Int) by omega)]
    rw [wrap_id (by omega) (by omega), wrap_id (by omega) (by omega), Int.toNat_natCast]
    have := ih (i + 1) (x.set i ((m + i) % 256)) (by omega) (by omega) (by simpa using hx) (by
      rw [take_set_succ _ _ _ (by omega), ht, List.take_succ_eq_append_getElem (by omega), markB_get])
    rw [show (m + ((i + 1 : Nat) : Int)) = m + i + 1 by push_cast; omega] at this
    exact this
theorem markByteS (l : List Int) (m : Int) (h0 : 0 ≤ m) (h1 : m + l.length ≤ 4611686018427387904) : Ev (fun k => laws_markByteS.f k l m) (m + l.length, markB l.length m) := by
  unfold laws_markByteS.f
  have := markByteS_l l.length m h0 h1 _ 0 l (by omega) rfl rfl (by simp)
  simpa using this
theorem heldByteS_l (n : Nat) (m : Int) (h0 : 0 ≤ m) (h1 : m + n ≤ 4611686018427387904) (d : Nat) : ∀ (i : Nat), i ≤ n → n - i = d → Ev (fun k => laws_heldByteS.l0 k (markB n m) (m + i) (i : Int)) (m + n) := by
  have hM := markB_length n m
  induction d with
  | zero =>
    intro i hi hd
    have hil : i = n := by omega
    subst hil
    refine Ev.succ ?_
    simp only [laws_heldByteS.l0]
    simp only [if_neg (show ¬ (i : Int) < ((markB i m).length : Int) by omega)]
    exact Ev.now _
  | succ d ih =>
    intro i hi hd
    refine Ev.succ ?_
    simp only [laws_heldByteS.l0]
    rw [rd_get _ i (by omega), markB_get]
    simp only [if_pos (show (i : Int) < ((markB n m).length : Int) by omega), if_pos (show (0 : Int) ≤ (i : Int) by omega), if_true]
    rw [wrap_id (by omega) (by omega), wrap_id (by omega) (by omega)]
    have := ih (i + 1) (by omega) (by omega)
    rw [show (m + ((i + 1 : Nat) : Int)) = m + i + 1 by push_cast; omega] at this
    exact this
theorem heldByteS (n : Nat) (m : Int) (h0 : 0 ≤ m) (h1 : m + n ≤ 4611686018427387904) : Ev (fun k => laws_heldByteS.f k (markB n m) m) (m + n) := by
  unfold laws_heldByteS.f
  have := heldByteS_l n m h0 h1 _ 0 (by omega) rfl
  simpa using this
theorem szByteS (l : List Int) (m : Int) (h : l.length ≤ 9223372036854775807) (h0 : 0 ≤ m) (h1 : m ≤ 1048576) : laws_szByteS.f l m = some (if m - l.length < 0 then -1 else m - l.length) := by
  unfold laws_szByteS.f
  rw [wrap_id (by omega) (by omega)]
  split <;> rfl


/-! a packet that is ok -/
def inb (x lo hi : Int) : Bool := decide (lo ≤ x) && decide (x ≤ hi)
theorem inb_iff {x lo hi : Int} : inb x lo hi = true ↔ lo ≤ x ∧ x ≤ hi := by unfold inb; simp
theorem impl_in_ (x lo hi : Int) : impl_in.f x lo hi = some (inb x lo hi) := by
  unfold impl_in.f inb; by_cases h : x ≥ lo
  · simp only [if_pos h, decide_eq_true (show lo ≤ x from h), Bool.true_and]
  · simp only [if_neg h, decide_eq_false (show ¬ lo ≤ x from h), Bool.false_and]
theorem spec_in_ (x lo hi : Int) : spec_l1In.f x lo hi = some (inb x lo hi) := by
  unfold spec_l1In.f inb; by_cases h : x ≥ lo
  · simp only [if_pos h, decide_eq_true (show lo ≤ x from h), Bool.true_and]
  · simp only [if_neg h, decide_eq_false (show ¬ lo ≤ x from h), Bool.false_and]
def pok (p : S36) : Bool := inb p.f0 0 65535 && (inb p.f1 0 65535 && (inb p.f2 0 255 && (inb p.f3 0 255 && (inb p.f4 0 255 && (inb p.f5 0 255 && (decide ((p.f8.length : Int) ≤ 48) && ((!p.f6 || decide ((p.f8.length : Int) > 0)) && (!p.f7 || (decide (p.f5 = 0) && !p.f6)))))))))
theorem impl_packetOk (a0 a1 a2 a3 a4 a5 : Int) (a6 a7 : Bool) (l : List Int) : impl_PacketOk.f a0 a1 a2 a3 a4 a5 a6 a7 l = some (pok ⟨a0, a1, a2, a3, a4, a5, a6, a7, l⟩) := by
  unfold impl_PacketOk.f pok
  simp only [impl_word.f, impl_in_, Option.bind_some]
  cases inb a0 0 65535
  · simp
  cases inb a1 0 65535
  · simp
  cases inb a2 0 255
  · simp
  cases inb a3 0 255
  · simp
  cases inb a4 0 255
  · simp
  cases inb a5 0 255
  · simp
  by_cases h : (l.length : Int) ≤ 48 <;> by_cases h0 : 0 < l.length <;> by_cases h5 : a5 = 0 <;> cases a6 <;> cases a7 <;> simp [h, h0, h5]
theorem spec_packetOk (a0 a1 a2 a3 a4 a5 : Int) (a6 a7 : Bool) (l : List Int) : Ev (fun k => spec_PacketOk.f k a0 a1 a2 a3 a4 a5 a6 a7 l) (pok ⟨a0, a1, a2, a3, a4, a5, a6, a7, l⟩) := by
  have j : ∀ x : Bool, Ev (fun k => spec_PacketOk.j0 k x a0 a1 a2 a3 a4 a5 a6 a7 l) (!x && (decide ((l.length : Int) ≤ 48) && ((!a6 || decide ((l.length : Int) > 0)) && (!a7 || (decide (a5 = 0) && !a6))))) := by
    intro x
    refine Ev.succ ?_
    simp only [spec_PacketOk.j0]
    refine Ev.pure ?_
    cases x
    · by_cases h : (l.length : Int) ≤ 48 <;> by_cases h0 : 0 < l.length <;> by_cases h5 : a5 = 0 <;> cases a6 <;> cases a7 <;> simp [h, h0, h5]
    · simp
  unfold spec_PacketOk.f pok
  simp only [spec_in_, Option.bind_some]
  cases inb a0 0 65535
  · exact j true
  cases inb a1 0 65535
  · exact j true
  cases inb a2 0 255
  · exact j true
  cases inb a3 0 255
  · exact j true
  cases inb a4 0 255
  · exact j true
  cases inb a5 0 255
  · exact j true
  · exact j false

/-! a part that is ok -/
abbrev Pk := S36
theorem rdp (l : List Pk) (i : Nat) (h : i < l.length) : rd_T36 l (i : Int) = l[i] := by
  unfold rd_T36
  rw [Int.toNat_natCast, List.getD_eq_getElem?_getD, List.getElem?_eq_getElem h]; rfl
/-- bounds of what is drawn, and of what is handed on -/
def bp (q : Pk) : Prop := q.f8.length ≤ 1000 ∧ -1000000 ≤ q.f5 ∧ q.f5 ≤ 1000000
def bpl (l : List Pk) : Prop := l.length ≤ 1000 ∧ ∀ q ∈ l, bp q
def psame (a b : Pk) : Bool := decide (a.f0 = b.f0) && (decide (a.f1 = b.f1) && (decide (a.f2 = b.f2) && decide (a.f4 = b.f4)))
def sumTo (ps : List Pk) (i : Nat) : Nat := ((ps.take i).map (fun q => q.f8.length)).sum
theorem sumTo_zero (ps : List Pk) : sumTo ps 0 = 0 := by simp [sumTo]
theorem sumTo_succ (ps : List Pk) (i : Nat) (h : i < ps.length) : sumTo ps (i + 1) = sumTo ps i + ps[i].f8.length := by
  unfold sumTo
  rw [List.take_succ_eq_append_getElem h, List.map_append, List.sum_append]; simp
theorem sumTo_le (ps : List Pk) (hb : bpl ps) : ∀ i : Nat, i ≤ ps.length → sumTo ps i ≤ 1000 * i := by
  intro i
  induction i with
  | zero => intro _; rw [sumTo_zero]; omega
  | succ i ih =>
    intro h
    have := ih (by omega)
    have h2 := (hb.2 ps[i] (List.getElem_mem (by omega))).1
    rw [sumTo_succ ps i (by omega)]; omega
def okAt (ps : List Pk) (i : Nat) : Bool := match ps[i]?, ps[0]? with
  | some q, some a => pok q && (psame q a && (if i = 0 then true else match ps[i - 1]? with | some b => !decide (q.f5 < b.f5 + (b.f8.length : Int)) && b.f6 | none => false))
  | _, _ => false
def okFrom (ps : List Pk) (i d : Nat) : Bool := (List.range' i d).all (okAt ps)
def partOk (ps : List Pk) (u : Int) : Bool := okFrom ps 0 ps.length && (decide ((ps.length : Int) > 0) && (decide ((sumTo ps ps.length : Int) ≤ 48) && inb u 0 1000000))
theorem okFrom_zero (ps : List Pk) (i : Nat) : okFrom ps i 0 = true := by simp [okFrom]
theorem okFrom_succ (ps : List Pk) (i d : Nat) : okFrom ps i (d + 1) = (okAt ps i && okFrom ps (i + 1) d) := by
  simp [okFrom, List.range'_succ]
theorem okFrom_at {ps : List Pk} {n : Nat} (h : okFrom ps 0 n = true) (i : Nat) (hi : i < n) : okAt ps i = true := by
  unfold okFrom at h
  rw [List.all_eq_true] at h
  exact h i (by rw [List.mem_range'_1]; omega)
theorem okAt_eq (ps : List Pk) (i : Nat) (h : i < ps.length) : okAt ps i = (pok ps[i] && (psame ps[i] (ps[0]'(by omega)) && (if h0 : i = 0 then true else !decide (ps[i].f5 < (ps[i - 1]'(by omega)).f5 + ((ps[i - 1]'(by omega)).f8.length : Int)) && (ps[i - 1]'(by omega)).f6))) := by
  unfold okAt
  rw [List.getElem?_eq_getElem h, List.getElem?_eq_getElem (show 0 < ps.length by omega)]
  by_cases h0 : i = 0
  · simp [h0]
  · simp only [h0, if_false, dite_false]
    rw [List.getElem?_eq_getElem (show i - 1 < ps.length by omega)]
theorem impl_same_ (a b : Pk) : impl_Packet_same.f a.f0 a.f1 a.f2 a.f3 a.f4 a.f5 a.f6 a.f7 a.f8 b.f0 b.f1 b.f2 b.f3 b.f4 b.f5 b.f6 b.f7 b.f8 = some (psame a b) := by
  unfold impl_Packet_same.f psame
  by_cases h0 : a.f0 = b.f0 <;> by_cases h1 : a.f1 = b.f1 <;> by_cases h2 : a.f2 = b.f2 <;> by_cases h4 : a.f4 = b.f4 <;> simp [h0, h1, h2, h4]
theorem spec_same_ (a b : Pk) : spec_l5Same.f a.f0 a.f1 a.f2 a.f3 a.f4 a.f5 a.f6 a.f7 a.f8 b.f0 b.f1 b.f2 b.f3 b.f4 b.f5 b.f6 b.f7 b.f8 = some (psame a b) := by
  unfold spec_l5Same.f psame
  by_cases h0 : a.f0 = b.f0 <;> by_cases h1 : a.f1 = b.f1 <;> by_cases h2 : a.f2 = b.f2 <;> by_cases h4 : a.f4 = b.f4 <;> simp [h0, h1, h2, h4]
theorem impl_packetOk' (q : Pk) : impl_PacketOk.f q.f0 q.f1 q.f2 q.f3 q.f4 q.f5 q.f6 q.f7 q.f8 = some (pok q) := impl_packetOk _ _ _ _ _ _ _ _ _
theorem spec_packetOk' (q : Pk) : Ev (fun k => spec_PacketOk.f k q.f0 q.f1 q.f2 q.f3 q.f4 q.f5 q.f6 q.f7 q.f8) (pok q) := spec_packetOk _ _ _ _ _ _ _ _ _

theorem impl_partOk_l (ps : List Pk) (u : Int) (hb : bpl ps) (d : Nat) : ∀ i : Nat, i + d = ps.length →
    Ev (fun k => impl_PartOk.l0 k (sumTo ps i : Int) ps (ps.length : Int) (i : Int) ps u) (okFrom ps i d && (decide ((ps.length : Int) > 0) && (decide ((sumTo ps ps.length : Int) ≤ 48) && inb u 0 1000000))) := by
  have hl := hb.1
  induction d with
  | zero =>
    intro i hi
    obtain rfl : i = ps.length := by omega
    refine Ev.succ ?_
    simp only [impl_PartOk.l0, if_neg (show ¬ (ps.length : Int) < (ps.length : Int) by omega), impl_in_, Option.bind_some, okFrom_zero, Bool.true_and]
    refine Ev.pure ?_
    by_cases h1 : 0 < ps.length <;> by_cases h2 : (sumTo ps ps.length : Int) ≤ 48 <;> simp [h1, h2]
  | succ d ih =>
    intro i hi
    have hi2 : i < ps.length := by omega
    have hs := sumTo_succ ps i hi2
    have hsl := sumTo_le ps hb i (by omega)
    have hq := hb.2 ps[i] (List.getElem_mem hi2)
    have h1 := ih (i + 1) (by omega)
    have g1 : Ev (fun k => impl_PartOk.l0 k (wrap64 ((sumTo ps i : Int) + (ps[i].f8.length : Int))) ps (ps.length : Int) (wrap64 ((i : Int) + 1)) ps u) (okFrom ps (i + 1) d && (decide ((ps.length : Int) > 0) && (decide ((sumTo ps ps.length : Int) ≤ 48) && inb u 0 1000000))) := by
      have := hq.1
      rw [wrap_id (x := (sumTo ps i : Int) + (ps[i].f8.length : Int)) (by omega) (by omega), wrap_id (x := (i : Int) + 1) (by omega) (by omega)]
      rw [hs] at h1; exact h1
    have j : ∀ x : Bool, Ev (fun k => impl_PartOk.j1 k (sumTo ps i : Int) (i : Int) ps (ps.length : Int) (i : Int) x ps u ps[i].f0 ps[i].f1 ps[i].f2 ps[i].f3 ps[i].f4 ps[i].f5 ps[i].f6 ps[i].f7 ps[i].f8)
        (!x && ((if h0 : i = 0 then true else !decide (ps[i].f5 < (ps[i - 1]'(by omega)).f5 + ((ps[i - 1]'(by omega)).f8.length : Int)) && (ps[i - 1]'(by omega)).f6) && (okFrom ps (i + 1) d && (decide ((ps.length : Int) > 0) && (decide ((sumTo ps ps.length : Int) ≤ 48) && inb u 0 1000000))))) := by
      intro x
      refine Ev.succ ?_
      simp only [impl_PartOk.j1]
      cases x
      · simp only [Bool.false_eq_true, if_false, Bool.not_false, Bool.true_and]
        by_cases h0 : i = 0
        · simp only [if_neg (show ¬ (i : Int) > 0 by omega), dif_pos h0, Bool.true_and]
          exact g1
        · simp only [if_pos (show (i : Int) > 0 by omega), dif_neg h0]
          have hi1 : i - 1 < ps.length := by omega
          have hw : wrap64 ((i : Int) - 1) = ((i - 1 : Nat) : Int) := by rw [wrap_id (by omega) (by omega)]; omega
          have hr := rdp ps (i - 1) hi1
          have hp := hb.2 (ps[i - 1]'hi1) (List.getElem_mem hi1)
          rw [hw]
          simp only [hr, if_pos (show (0 : Int) ≤ ((i - 1 : Nat) : Int) by omega), if_pos (show ((i - 1 : Nat) : Int) < (ps.length : Int) by omega)]
          obtain ⟨p1, p2, p3⟩ := hp
          have hw2 : wrap64 ((ps[i - 1]'hi1).f5 + ((ps[i - 1]'hi1).f8.length : Int)) = (ps[i - 1]'hi1).f5 + ((ps[i - 1]'hi1).f8.length : Int) := wrap_id (by omega) (by omega)
          rw [hw2]
          by_cases hlt : ps[i].f5 < (ps[i - 1]'hi1).f5 + ((ps[i - 1]'hi1).f8.length : Int)
          · simp only [if_pos hlt, decide_eq_true hlt, Bool.not_true, Bool.false_and]; exact Ev.now _
          · simp only [if_neg hlt, decide_eq_false hlt, Bool.not_false, Bool.true_and]
            by_cases h6 : (ps[i - 1]'hi1).f6 = true
            · simp only [if_pos h6, h6, Bool.true_and]; exact g1
            · simp only [if_neg h6, Bool.eq_false_iff.mpr h6, Bool.false_and]; exact Ev.now _
      · simp only [if_true, Bool.not_true, Bool.false_and]; exact Ev.now _
    rw [okFrom_succ, okAt_eq ps i hi2]; simp only [Bool.and_assoc]
    refine Ev.succ ?_
    simp only [impl_PartOk.l0, if_pos (show (i : Int) < (ps.length : Int) by omega), if_pos (show (0 : Int) ≤ (i : Int) by omega), rdp ps i hi2, impl_packetOk', Option.bind_some]
    cases hpk : pok ps[i]
    · simp only [Bool.false_eq_true, if_false, Bool.false_and]
      exact j true
    · simp only [if_true, Bool.true_and, if_pos (show (0 : Int) < (ps.length : Int) by omega)]
      have hr0 : rd_T36 ps 0 = ps[0]'(by omega) := rdp ps 0 (by omega)
      simp only [hr0, impl_same_, Option.bind_some]
      have := j (!psame ps[i] (ps[0]'(by omega)))
      rw [Bool.not_not] at this

      exact this
theorem impl_partOk (ps : List Pk) (u : Int) (hb : bpl ps) : Ev (fun k => impl_PartOk.f k ps u) (partOk ps u) := by
  unfold impl_PartOk.f partOk
  have := impl_partOk_l ps u hb ps.length 0 (by omega)
  rw [sumTo_zero] at this
  exact this

theorem spec_partOk_l (ps : List Pk) (u : Int) (hb : bpl ps) (d : Nat) : ∀ i : Nat, i + d = ps.length →
    Ev (fun k => spec_PartOk.l0 k (sumTo ps i : Int) (i : Int) ps u) (okFrom ps i d && (decide ((ps.length : Int) > 0) && (decide ((sumTo ps ps.length : Int) ≤ 48) && inb u 0 1000000))) := by
  have hl := hb.1
  induction d with
  | zero =>
    intro i hi
    obtain rfl : i = ps.length := by omega
    refine Ev.succ ?_
    simp only [spec_PartOk.l0, if_neg (show ¬ (ps.length : Int) < (ps.length : Int) by omega), spec_in_, Option.bind_some, okFrom_zero, Bool.true_and]
    refine Ev.pure ?_
    by_cases h1 : 0 < ps.length <;> by_cases h2 : (sumTo ps ps.length : Int) ≤ 48 <;> simp [h1, h2]
  | succ d ih =>
    intro i hi
    have hi2 : i < ps.length := by omega
    have hs := sumTo_succ ps i hi2
    have hsl := sumTo_le ps hb i (by omega)
    have hq := hb.2 ps[i] (List.getElem_mem hi2)
    have h1 := ih (i + 1) (by omega)
    have g1 : Ev (fun k => spec_PartOk.l0 k (wrap64 ((sumTo ps i : Int) + (ps[i].f8.length : Int))) (wrap64 ((i : Int) + 1)) ps u) (okFrom ps (i + 1) d && (decide ((ps.length : Int) > 0) && (decide ((sumTo ps ps.length : Int) ≤ 48) && inb u 0 1000000))) := by
      have := hq.1
      rw [wrap_id (x := (sumTo ps i : Int) + (ps[i].f8.length : Int)) (by omega) (by omega), wrap_id (x := (i : Int) + 1) (by omega) (by omega)]
      rw [hs] at h1; exact h1
    have j : ∀ x : Bool, Ev (fun k => spec_PartOk.j1 k (sumTo ps i : Int) (i : Int) x ps u ps[i].f0 ps[i].f1 ps[i].f2 ps[i].f3 ps[i].f4 ps[i].f5 ps[i].f6 ps[i].f7 ps[i].f8)
        (!x && (okFrom ps (i + 1) d && (decide ((ps.length : Int) > 0) && (decide ((sumTo ps ps.length : Int) ≤ 48) && inb u 0 1000000)))) := by
      intro x
      refine Ev.succ ?_
      simp only [spec_PartOk.j1]
      cases x
      · simp only [Bool.false_eq_true, if_false, Bool.not_false, Bool.true_and]; exact g1
      · simp only [if_true, Bool.not_true, Bool.false_and]; exact Ev.now _
    rw [okFrom_succ, okAt_eq ps i hi2]; simp only [Bool.and_assoc]
    refine Ev.succ ?_
    simp only [spec_PartOk.l0, if_pos (show (i : Int) < (ps.length : Int) by omega), if_pos (show (0 : Int) ≤ (i : Int) by omega), rdp ps i hi2]
    refine Ev.bind (spec_packetOk' ps[i]) ?_
    cases hpk : pok ps[i]
    · simp only [Bool.false_eq_true, if_false, Bool.false_and]
      exact j true
    · simp only [if_true, Bool.true_and, if_pos (show (0 : Int) < (ps.length : Int) by omega)]
      have hr0 : rd_T36 ps 0 = ps[0]'(by omega) := rdp ps 0 (by omega)
      simp only [hr0, spec_same_, Option.bind_some]
      cases hsm : psame ps[i] (ps[0]'(by omega))
      · simp only [Bool.false_eq_true, if_false, Bool.false_and]
        exact j true
      · simp only [if_true, Bool.true_and]
        by_cases h0 : i = 0
        · simp only [if_neg (show ¬ (i : Int) > 0 by omega), dif_pos h0, Bool.true_and]
          exact j false
        · simp only [if_pos (show (i : Int) > 0 by omega), dif_neg h0]
          have hi1 : i - 1 < ps.length := by omega
          have hw : wrap64 ((i : Int) - 1) = ((i - 1 : Nat) : Int) := by rw [wrap_id (by omega) (by omega)]; omega
          have hr := rdp ps (i - 1) hi1
          have hp := hb.2 (ps[i - 1]'hi1) (List.getElem_mem hi1)
          rw [hw]
          simp only [hr, if_pos (show (0 : Int) ≤ ((i - 1 : Nat) : Int) by omega), if_pos (show ((i - 1 : Nat) : Int) < (ps.length : Int) by omega)]
          obtain ⟨p1, p2, p3⟩ := hp
          have hw2 : wrap64 ((ps[i - 1]'hi1).f5 + ((ps[i - 1]'hi1).f8.length : Int)) = (ps[i - 1]'hi1).f5 + ((ps[i - 1]'hi1).f8.length : Int) := wrap_id (by omega) (by omega)
          rw [hw2]
          by_cases hlt : ps[i].f5 < (ps[i - 1]'hi1).f5 + ((ps[i - 1]'hi1).f8.length : Int)
          · simp only [if_pos hlt, decide_eq_true hlt, Bool.not_true, Bool.false_and]; exact j true
          · simp only [if_neg hlt, decide_eq_false hlt, Bool.not_false, Bool.true_and]
            have := j (!(ps[i - 1]'hi1).f6)
            rw [Bool.not_not] at this
            exact this
theorem spec_partOk (ps : List Pk) (u : Int) (hb : bpl ps) : Ev (fun k => spec_PartOk.f k ps u) (partOk ps u) := by
  unfold spec_PartOk.f partOk
  have := spec_partOk_l ps u hb ps.length 0 (by omega)
  rw [sumTo_zero] at this
  exact this

/-! the packet of a part that is whole -/
abbrev Wh := Int × Int × Int × Int × Int × Int × Bool × Bool × List Int × Bool
def dataTo (ps : List Pk) (i : Nat) : List Int := ((ps.take i).map (fun q => q.f8)).flatten
theorem dataTo_zero (ps : List Pk) : dataTo ps 0 = [] := by simp [dataTo]
theorem dataTo_succ (ps : List Pk) (i : Nat) (h : i < ps.length) : dataTo ps (i + 1) = dataTo ps i ++ ps[i].f8 := by
  unfold dataTo
  rw [List.take_succ_eq_append_getElem h, List.map_append, List.flatten_append]; simp
theorem dataTo_length (ps : List Pk) (i : Nat) : (dataTo ps i).length = sumTo ps i := by
  unfold dataTo sumTo
  rw [List.length_flatten, List.map_map]; rfl
def contAt (ps : List Pk) (i : Nat) : Bool := match ps[i]? with | some q => decide (q.f5 = (sumTo ps i : Int)) | none => false
def contFrom (ps : List Pk) (i d : Nat) : Bool := (List.range' i d).all (contAt ps)
theorem contFrom_zero (ps : List Pk) (i : Nat) : contFrom ps i 0 = true := by simp [contFrom]
theorem contFrom_succ (ps : List Pk) (i d : Nat) : contFrom ps i (d + 1) = (contAt ps i && contFrom ps (i + 1) d) := by
  simp [contFrom, List.range'_succ]
theorem contAt_eq (ps : List Pk) (i : Nat) (h : i < ps.length) : contAt ps i = decide (ps[i].f5 = (sumTo ps i : Int)) := by
  unfold contAt
  rw [List.getElem?_eq_getElem h]
theorem contFrom_at {ps : List Pk} {n : Nat} (h : contFrom ps 0 n = true) (i : Nat) (hi : i < n) : contAt ps i = true := by
  unfold contFrom at h
  rw [List.all_eq_true] at h
  exact h i (by rw [List.mem_range'_1]; omega)
def noWh : Wh := (0, 0, 0, 0, 0, 0, false, false, [], false)
def lastMore (ps : List Pk) : Bool := match ps[ps.length - 1]? with | some q => q.f6 | none => true
def whole (ps : List Pk) : Wh := match ps with
  | [] => noWh
  | a :: _ => if contFrom ps 0 ps.length && !lastMore ps then (a.f0, a.f1, a.f2, a.f3, a.f4, a.f5, false, a.f7, dataTo ps ps.length, true) else noWh
def partWhole (ps : List Pk) (u : Int) : Wh := if partOk ps u then whole ps else noWh
theorem lastMore_eq (ps : List Pk) (h : 0 < ps.length) : lastMore ps = (ps[ps.length - 1]'(by omega)).f6 := by
  unfold lastMore
  rw [List.getElem?_eq_getElem (by omega)]
theorem whole_eq (ps : List Pk) (h : 0 < ps.length) : whole ps = if contFrom ps 0 ps.length && !lastMore ps then ((ps[0]'h).f0, (ps[0]'h).f1, (ps[0]'h).f2, (ps[0]'h).f3, (ps[0]'h).f4, (ps[0]'h).f5, false, (ps[0]'h).f7, dataTo ps ps.length, true) else noWh := by
  cases ps with
  | nil => simp at h
  | cons a l => rfl
theorem clone_byte_ (l : List Int) (h : l.length ≤ 1000000) : impl_clone_byte.f l = some l := by
  unfold impl_clone_byte.f; rw [if_pos (by omega)]
theorem copy_ (a0 a1 a2 a3 a4 a5 : Int) (a6 a7 : Bool) (l : List Int) (h : l.length ≤ 1000000) : impl_Packet_copy.f a0 a1 a2 a3 a4 a5 a6 a7 l = some (a0, a1, a2, a3, a4, a5, a6, a7, l) := by
  unfold impl_Packet_copy.f; rw [clone_byte_ l h]; rfl
theorem partOk_pos {ps : List Pk} {u : Int} (h : partOk ps u = true) : 0 < ps.length := by
  unfold partOk at h
  simp only [Bool.and_eq_true, decide_eq_true_eq] at h
  have := h.2.1
  omega
/-! a part that is ok, its pieces not bounded ahead -/
def bpX (l : List Pk) : Prop := l.length ≤ 2000000 ∧ ∀ q ∈ l, q.f8.length ≤ 2000000
theorem pok_f5 {q : Pk} (h : pok q = true) : 0 ≤ q.f5 ∧ q.f5 ≤ 255 := by
  unfold pok at h
  simp only [Bool.and_eq_true, inb_iff] at h
  exact h.2.2.2.2.2.1
theorem pok_f8 {q : Pk} (h : pok q = true) : q.f8.length ≤ 48 := by
  unfold pok at h
  simp only [Bool.and_eq_true, inb_iff, decide_eq_true_eq] at h
  have := h.2.2.2.2.2.2.1
  omega
theorem sumTo_leX (ps : List Pk) (hb : bpX ps) : ∀ i : Nat, i ≤ ps.length → sumTo ps i ≤ 2000000 * i := by
  intro i
  induction i with
  | zero => intro _; rw [sumTo_zero]; omega
  | succ i ih =>
    intro h
    have := ih (by omega)
    have h2 := hb.2 ps[i] (List.getElem_mem (by omega))
    rw [sumTo_succ ps i (by omega)]; omega
theorem impl_partOkX_l (ps : List Pk) (u : Int) (hb : bpX ps) (d : Nat) : ∀ i : Nat, i + d = ps.length → (∀ j (hj : j < ps.length), j < i → pok ps[j] = true) →
    Ev (fun k => impl_PartOk.l0 k (sumTo ps i : Int) ps (ps.length : Int) (i : Int) ps u) (okFrom ps i d && (decide ((ps.length : Int) > 0) && (decide ((sumTo ps ps.length : Int) ≤ 48) && inb u 0 1000000))) := by
  have hl := hb.1
  induction d with
  | zero =>
    intro i hi hpre
    obtain rfl : i = ps.length := by omega
    refine Ev.succ ?_
    simp only [impl_PartOk.l0, if_neg (show ¬ (ps.length : Int) < (ps.length : Int) by omega), impl_in_, Option.bind_some, okFrom_zero, Bool.true_and]
    refine Ev.pure ?_
    by_cases h1 : 0 < ps.length <;> by_cases h2 : (sumTo ps ps.length : Int) ≤ 48 <;> simp [h1, h2]
  | succ d ih =>
    intro i hi hpre
    have hi2 : i < ps.length := by omega
    have hs := sumTo_succ ps i hi2
    have hsl := sumTo_leX ps hb i (by omega)
    have hq := hb.2 ps[i] (List.getElem_mem hi2)
    have g1 : pok ps[i] = true → Ev (fun k => impl_PartOk.l0 k (wrap64 ((sumTo ps i : Int) + (ps[i].f8.length : Int))) ps (ps.length : Int) (wrap64 ((i : Int) + 1)) ps u) (okFrom ps (i + 1) d && (decide ((ps.length : Int) > 0) && (decide ((sumTo ps ps.length : Int) ≤ 48) && inb u 0 1000000))) := by
      intro hpk
      have h1 := ih (i + 1) (by omega) (fun j hj hji => by
        by_cases e : j = i
        · subst e; exact hpk
        · exact hpre j hj (by omega))
      have := hq
      rw [wrap_id (x := (sumTo ps i : Int) + (ps[i].f8.length : Int)) (by omega) (by omega), wrap_id (x := (i : Int) + 1) (by omega) (by omega)]
      rw [hs] at h1; exact h1
    have j : ∀ x : Bool, (x = false → pok ps[i] = true) → Ev (fun k => impl_PartOk.j1 k (sumTo ps i : Int) (i : Int) ps (ps.length : Int) (i : Int) x ps u ps[i].f0 ps[i].f1 ps[i].f2 ps[i].f3 ps[i].f4 ps[i].f5 ps[i].f6 ps[i].f7 ps[i].f8)
        (!x && ((if h0 : i = 0 then true else !decide (ps[i].f5 < (ps[i - 1]'(by omega)).f5 + ((ps[i - 1]'(by omega)).f8.length : Int)) && (ps[i - 1]'(by omega)).f6) && (okFrom ps (i + 1) d && (decide ((ps.length : Int) > 0) && (decide ((sumTo ps ps.length : Int) ≤ 48) && inb u 0 1000000))))) := by
      intro x hx
      refine Ev.succ ?_
      simp only [impl_PartOk.j1]
      cases x
      · simp only [Bool.false_eq_true, if_false, Bool.not_false, Bool.true_and]
        by_cases h0 : i = 0
        · simp only [if_neg (show ¬ (i : Int) > 0 by omega), dif_pos h0, Bool.true_and]
          exact g1 (hx rfl)
        · simp only [if_pos (show (i : Int) > 0 by omega), dif_neg h0]
          have hi1 : i - 1 < ps.length := by omega
          have hw : wrap64 ((i : Int) - 1) = ((i - 1 : Nat) : Int) := by rw [wrap_id (by omega) (by omega)]; omega
          have hr := rdp ps (i - 1) hi1
          have hp := hb.2 (ps[i - 1]'hi1) (List.getElem_mem hi1)
          rw [hw]
          simp only [hr, if_pos (show (0 : Int) ≤ ((i - 1 : Nat) : Int) by omega), if_pos (show ((i - 1 : Nat) : Int) < (ps.length : Int) by omega)]
          have p1 := hp
          obtain ⟨p2, p3⟩ := pok_f5 (hpre (i - 1) hi1 (by omega))
          have hw2 : wrap64 ((ps[i - 1]'hi1).f5 + ((ps[i - 1]'hi1).f8.length : Int)) = (ps[i - 1]'hi1).f5 + ((ps[i - 1]'hi1).f8.length : Int) := wrap_id (by omega) (by omega)
          rw [hw2]
          by_cases hlt : ps[i].f5 < (ps[i - 1]'hi1).f5 + ((ps[i - 1]'hi1).f8.length : Int)
          · simp only [if_pos hlt, decide_eq_true hlt, Bool.not_true, Bool.false_and]; exact Ev.now _
          · simp only [if_neg hlt, decide_eq_false hlt, Bool.not_false, Bool.true_and]
            by_cases h6 : (ps[i - 1]'hi1).f6 = true
            · simp only [if_pos h6, h6, Bool.true_and]; exact g1 (hx rfl)
            · simp only [if_neg h6, Bool.eq_false_iff.mpr h6, Bool.false_and]; exact Ev.now _
      · simp only [if_true, Bool.not_true, Bool.false_and]; exact Ev.now _
    rw [okFrom_succ, okAt_eq ps i hi2]; simp only [Bool.and_assoc]
    refine Ev.succ ?_
    simp only [impl_PartOk.l0, if_pos (show (i : Int) < (ps.length : Int) by omega), if_pos (show (0 : Int) ≤ (i : Int) by omega), rdp ps i hi2, impl_packetOk', Option.bind_some]
    cases hpk : pok ps[i]
    · simp only [Bool.false_eq_true, if_false, Bool.false_and]
      exact j true (by simp)
    · simp only [if_true, Bool.true_and, if_pos (show (0 : Int) < (ps.length : Int) by omega)]
      have hr0 : rd_T36 ps 0 = ps[0]'(by omega) := rdp ps 0 (by omega)
      simp only [hr0, impl_same_, Option.bind_some]
      have := j (!psame ps[i] (ps[0]'(by omega))) (fun _ => hpk)
      rw [Bool.not_not] at this

      exact this
theorem impl_partOkX (ps : List Pk) (u : Int) (hb : bpX ps) : Ev (fun k => impl_PartOk.f k ps u) (partOk ps u) := by
  unfold impl_PartOk.f partOk
  have := impl_partOkX_l ps u hb ps.length 0 (by omega) (fun j hj h => absurd h (by omega))
  rw [sumTo_zero] at this
  exact this
theorem spec_partOkX_l (ps : List Pk) (u : Int) (hb : bpX ps) (d : Nat) : ∀ i : Nat, i + d = ps.length → (∀ j (hj : j < ps.length), j < i → pok ps[j] = true) →
    Ev (fun k => spec_PartOk.l0 k (sumTo ps i : Int) (i : Int) ps u) (okFrom ps i d && (decide ((ps.length : Int) > 0) && (decide ((sumTo ps ps.length : Int) ≤ 48) && inb u 0 1000000))) := by
  have hl := hb.1
  induction d with
  | zero =>
    intro i hi hpre
    obtain rfl : i = ps.length := by omega
    refine Ev.succ ?_
    simp only [spec_PartOk.l0, if_neg (show ¬ (ps.length : Int) < (ps.length : Int) by omega), spec_in_, Option.bind_some, okFrom_zero, Bool.true_and]
    refine Ev.pure ?_
    by_cases h1 : 0 < ps.length <;> by_cases h2 : (sumTo ps ps.length : Int) ≤ 48 <;> simp [h1, h2]
  | succ d ih =>
    intro i hi hpre
    have hi2 : i < ps.length := by omega
    have hs := sumTo_succ ps i hi2
    have hsl := sumTo_leX ps hb i (by omega)
    have hq := hb.2 ps[i] (List.getElem_mem hi2)
    have g1 : pok ps[i] = true → Ev (fun k => spec_PartOk.l0 k (wrap64 ((sumTo ps i : Int) + (ps[i].f8.length : Int))) (wrap64 ((i : Int) + 1)) ps u) (okFrom ps (i + 1) d && (decide ((ps.length : Int) > 0) && (decide ((sumTo ps ps.length : Int) ≤ 48) && inb u 0 1000000))) := by
      intro hpk
      have h1 := ih (i + 1) (by omega) (fun j hj hji => by
        by_cases e : j = i
        · subst e; exact hpk
        · exact hpre j hj (by omega))
      have := hq
      rw [wrap_id (x := (sumTo ps i : Int) + (ps[i].f8.length : Int)) (by omega) (by omega), wrap_id (x := (i : Int) + 1) (by omega) (by omega)]
      rw [hs] at h1; exact h1
    have j : ∀ x : Bool, (x = false → pok ps[i] = true) → Ev (fun k => spec_PartOk.j1 k (sumTo ps i : Int) (i : Int) x ps u ps[i].f0 ps[i].f1 ps[i].f2 ps[i].f3 ps[i].f4 ps[i].f5 ps[i].f6 ps[i].f7 ps[i].f8)
        (!x && (okFrom ps (i + 1) d && (decide ((ps.length : Int) > 0) && (decide ((sumTo ps ps.length : Int) ≤ 48) && inb u 0 1000000)))) := by
      intro x hx
      refine Ev.succ ?_
      simp only [spec_PartOk.j1]
      cases x
      · simp only [Bool.false_eq_true, if_false, Bool.not_false, Bool.true_and]; exact g1 (hx rfl)
      · simp only [if_true, Bool.not_true, Bool.false_and]; exact Ev.now _
    rw [okFrom_succ, okAt_eq ps i hi2]; simp only [Bool.and_assoc]
    refine Ev.succ ?_
    simp only [spec_PartOk.l0, if_pos (show (i : Int) < (ps.length : Int) by omega), if_pos (show (0 : Int) ≤ (i : Int) by omega), rdp ps i hi2]
    refine Ev.bind (spec_packetOk' ps[i]) ?_
    cases hpk : pok ps[i]
    · simp only [Bool.false_eq_true, if_false, Bool.false_and]
      exact j true (by simp)
    · simp only [if_true, Bool.true_and, if_pos (show (0 : Int) < (ps.length : Int) by omega)]
      have hr0 : rd_T36 ps 0 = ps[0]'(by omega) := rdp ps 0 (by omega)
      simp only [hr0, spec_same_, Option.bind_some]
      cases hsm : psame ps[i] (ps[0]'(by omega))
      · simp only [Bool.false_eq_true, if_false, Bool.false_and]
        exact j true (by simp)
      · simp only [if_true, Bool.true_and]
        by_cases h0 : i = 0
        · simp only [if_neg (show ¬ (i : Int) > 0 by omega), dif_pos h0, Bool.true_and]
          exact j false (fun _ => hpk)
        · simp only [if_pos (show (i : Int) > 0 by omega), dif_neg h0]
          have hi1 : i - 1 < ps.length := by omega
          have hw : wrap64 ((i : Int) - 1) = ((i - 1 : Nat) : Int) := by rw [wrap_id (by omega) (by omega)]; omega
          have hr := rdp ps (i - 1) hi1
          have hp := hb.2 (ps[i - 1]'hi1) (List.getElem_mem hi1)
          rw [hw]
          simp only [hr, if_pos (show (0 : Int) ≤ ((i - 1 : Nat) : Int) by omega), if_pos (show ((i - 1 : Nat) : Int) < (ps.length : Int) by omega)]
          have p1 := hp
          obtain ⟨p2, p3⟩ := pok_f5 (hpre (i - 1) hi1 (by omega))
          have hw2 : wrap64 ((ps[i - 1]'hi1).f5 + ((ps[i - 1]'hi1).f8.length : Int)) = (ps[i - 1]'hi1).f5 + ((ps[i - 1]'hi1).f8.length : Int) := wrap_id (by omega) (by omega)
          rw [hw2]
          by_cases hlt : ps[i].f5 < (ps[i - 1]'hi1).f5 + ((ps[i - 1]'hi1).f8.length : Int)
          · simp only [if_pos hlt, decide_eq_true hlt, Bool.not_true, Bool.false_and]; exact j true (by simp)
          · simp only [if_neg hlt, decide_eq_false hlt, Bool.not_false, Bool.true_and]
            have := j (!(ps[i - 1]'hi1).f6) (fun _ => hpk)
            rw [Bool.not_not] at this
            exact this
theorem spec_partOkX (ps : List Pk) (u : Int) (hb : bpX ps) : Ev (fun k => spec_PartOk.f k ps u) (partOk ps u) := by
  unfold spec_PartOk.f partOk
  have := spec_partOkX_l ps u hb ps.length 0 (by omega) (fun j hj h => absurd h (by omega))
  rw [sumTo_zero] at this
  exact this
theorem pok_more {q : Pk} (h : pok q = true) (h6 : q.f6 = true) : 0 < q.f8.length := by
  unfold pok at h
  simp only [Bool.and_eq_true, h6, Bool.not_true, Bool.false_or, decide_eq_true_eq] at h
  have := h.2.2.2.2.2.2.2.1
  omega
theorem sumTo_ge (ps : List Pk) (hat : ∀ j, j < ps.length → okAt ps j = true) (i : Nat) (h : i < ps.length) : i ≤ sumTo ps i := by
  induction i with
  | zero => omega
  | succ i ih =>
    have h1 := ih (by omega)
    have h2 := hat (i + 1) h
    have h3 := hat i (by omega)
    rw [okAt_eq ps (i + 1) h] at h2
    rw [okAt_eq ps i (by omega)] at h3
    simp only [Bool.and_eq_true, dif_neg (show ¬ i + 1 = 0 by omega)] at h2 h3
    have h4 : (ps[i]'(by omega)).f6 = true := h2.2.2.2
    have := pok_more h3.1 h4
    rw [sumTo_succ ps i (by omega)]; omega
theorem partOk_bpl {ps : List Pk} {u : Int} (h : partOk ps u = true) : bpl ps := by
  unfold partOk at h
  simp only [Bool.and_eq_true, decide_eq_true_eq] at h
  obtain ⟨h1, h2, h3, _⟩ := h
  have hat : ∀ j, j < ps.length → okAt ps j = true := fun j hj => okFrom_at h1 j hj
  have hp : ∀ q ∈ ps, pok q = true := by
    intro q hq
    obtain ⟨i, hi, rfl⟩ := List.getElem_of_mem hq
    have := hat i hi
    rw [okAt_eq ps i hi] at this
    simp only [Bool.and_eq_true] at this
    exact this.1
  refine ⟨?_, fun q hq => ⟨by have := pok_f8 (hp q hq); omega, by have := pok_f5 (hp q hq); omega, by have := pok_f5 (hp q hq); omega⟩⟩
  have h4 := sumTo_ge ps hat (ps.length - 1) (by omega)
  have h5 := sumTo_succ ps (ps.length - 1) (by omega)
  rw [show ps.length - 1 + 1 = ps.length by omega] at h5
  omega
/-! packets of a law, as rows: measured, copied, told alike, marked -/
abbrev PL := S27
theorem rdPL (l : List PL) (i : Nat) (h : i < l.length) : rd_T27 l (i : Int) = l[i] := by
  unfold rd_T27
  rw [Int.toNat_natCast, List.getD_eq_getElem?_getD, List.getElem?_eq_getElem h]; rfl
def toP (z : PL) : Pk := ⟨z.f0, z.f1, z.f2, z.f3, z.f4, z.f5, z.f6, z.f7, z.f8⟩
theorem toPacket (a0 a1 a2 a3 a4 a5 : Int) (a6 a7 : Bool) (l : List Int) (hl : l.length ≤ 1048576) : Ev (fun k => laws_toPacket.f k a0 a1 a2 a3 a4 a5 a6 a7 l) (a0, a1, a2, a3, a4, a5, a6, a7, l) := by
  unfold laws_toPacket.f; exact Ev.bind (toByteS l hl) (Ev.now _)
theorem toPacketS_l (l : List PL) (hl : l.length ≤ 1048576) (hb : ∀ z ∈ l, z.f8.length ≤ 1048576) (d : Nat) : ∀ (i : Nat) (x : List Pk), i ≤ l.length → l.length - i = d → x.length = l.length → x.take i = (l.map toP).take i →
    Ev (fun k => laws_toPacketS.l0 k l x (i : Int)) (l.map toP) := by
  induction d with
  | zero =>
    intro i x hi hd hx ht
    obtain rfl : i = l.length := by omega
    refine Ev.succ ?_
    simp only [laws_toPacketS.l0, Int.lt_irrefl, if_false]
    have : x = l.map toP := by rw [← hx, List.take_length] at ht; rw [ht, hx, List.take_of_length_le (by simp)]
    rw [this]; exact Ev.now _
  | succ d ih =>
    intro i x hi hd hx ht
    have hlt : i < l.length := by omega
    refine Ev.succ ?_
    simp only [laws_toPacketS.l0, if_pos (show (i : Int) < (l.length : Int) by omega), if_pos (show (0 : Int) ≤ (i : Int) by omega), rdPL l i hlt]
    refine Ev.bind (toPacket _ _ _ _ _ _ _ _ _ (hb _ (List.getElem_mem hlt))) ?_
    simp only [if_pos (show (i : Int) < (x.length : Int) by omega), Int.toNat_natCast]
    rw [wrap_id (by omega) (by omega)]
    refine ih (i + 1) _ (by omega) (by omega) (by simpa using hx) ?_
    rw [take_set_succ _ _ _ (by omega), ht, List.take_succ_eq_append_getElem (by simpa using hlt), List.getElem_map]; rfl
theorem toPacketS (l : List PL) (hl : l.length ≤ 1048576) (hb : ∀ z ∈ l, z.f8.length ≤ 1048576) : Ev (fun k => laws_toPacketS.f k l) (l.map toP) := by
  unfold laws_toPacketS.f
  simp only [if_pos (show (0 : Int) ≤ (l.length : Int) by omega), Int.toNat_natCast, if_pos (show l.length ≤ 3518437208883 by omega)]
  exact toPacketS_l l hl hb _ 0 _ (by omega) rfl (by simp) (by simp)
theorem eqPacket (a0 a1 a2 a3 a4 a5 : Int) (a6 a7 : Bool) (l : List Int) (hl : l.length ≤ 9223372036854775806) : Ev (fun k => laws_eqPacket.f k a0 a1 a2 a3 a4 a5 a6 a7 l a0 a1 a2 a3 a4 a5 a6 a7 l) true := by
  unfold laws_eqPacket.f
  simp only [if_true, bne_self_eq_false, Bool.false_eq_true, if_false]
  refine Ev.bind (eqByteS l hl) ?_
  simp only [if_true]; exact Ev.now _
theorem eqPacketS_l (l : List Pk) (hl : l.length ≤ 1048576) (hb : ∀ z ∈ l, z.f8.length ≤ 1048576) (d : Nat) : ∀ i : Nat, i ≤ l.length → l.length - i = d → Ev (fun k => laws_eqPacketS.l0 k l l (i : Int)) true := by
  induction d with
  | zero =>
    intro i hi hd
    refine Ev.succ ?_
    simp only [laws_eqPacketS.l0, if_neg (show ¬ (i : Int) < (l.length : Int) by omega)]
    exact Ev.now true
  | succ d ih =>
    intro i hi hd
    have hlt : i < l.length := by omega
    have hz := hb _ (List.getElem_mem hlt)
    refine Ev.succ ?_
    simp only [laws_eqPacketS.l0, if_pos (show (i : Int) < (l.length : Int) by omega), if_pos (show (0 : Int) ≤ (i : Int) by omega), rdp l i hlt]
    refine Ev.bind (eqPacket _ _ _ _ _ _ _ _ l[i].f8 (by omega)) ?_
    simp only [if_true]
    rw [wrap_id (by omega) (by omega)]
    exact ih (i + 1) (by omega) (by omega)
theorem eqPacketS (l : List Pk) (hl : l.length ≤ 1048576) (hb : ∀ z ∈ l, z.f8.length ≤ 1048576) : Ev (fun k => laws_eqPacketS.f k l l) true := by
  unfold laws_eqPacketS.f
  simp only [if_true]
  exact eqPacketS_l l hl hb _ 0 (by omega) rfl
theorem szPacketS_l (l : List PL) (hl : l.length ≤ 1048576) (hb : ∀ z ∈ l, z.f8.length ≤ 9223372036854775807) (d : Nat) : ∀ (i : Nat) (m : Int), i ≤ l.length → l.length - i = d → 0 ≤ m → m ≤ 1048576 →
    ∃ v, Ev (fun k => laws_szPacketS.l0 k l m (i : Int)) v ∧ (v < 0 ∨ (0 ≤ v ∧ v ≤ m ∧ ∀ z ∈ l.drop i, (z.f8.length : Int) ≤ m)) := by
  induction d with
  | zero =>
    intro i m hi hd h0 h1
    refine ⟨m, Ev.succ ?_, Or.inr ⟨h0, by omega, ?_⟩⟩
    · simp only [laws_szPacketS.l0, if_neg (show ¬ (i : Int) < (l.length : Int) by omega)]; exact Ev.now _
    · rw [List.drop_of_length_le (by omega)]; simp
  | succ d ih =>
    intro i m hi hd h0 h1
    have hlt : i < l.length := by omega
    have hz := hb _ (List.getElem_mem hlt)
    have hs := szByteS l[i].f8 m hz h0 h1
    by_cases hc : m - (l[i].f8.length : Int) < 0
    · refine ⟨-1, Ev.succ ?_, Or.inl (by omega)⟩
      simp only [laws_szPacketS.l0, if_pos (show (i : Int) < (l.length : Int) by omega), if_pos (show (0 : Int) ≤ (i : Int) by omega), rdPL l i hlt, laws_szPacket.f, hs, if_pos hc, Option.bind_some, if_pos (show (-1 : Int) < 0 by omega)]
      exact Ev.now _
    · obtain ⟨v, e, hv⟩ := ih (i + 1) (m - (l[i].f8.length : Int)) (by omega) (by omega) (by omega) (by omega)
      refine ⟨v, Ev.succ ?_, ?_⟩
      · simp only [laws_szPacketS.l0, if_pos (show (i : Int) < (l.length : Int) by omega), if_pos (show (0 : Int) ≤ (i : Int) by omega), rdPL l i hlt, laws_szPacket.f, hs, if_neg hc, Option.bind_some]
        rw [wrap_id (x := (i : Int) + 1) (by omega) (by omega)]
        exact e
      · rcases hv with hv | ⟨a, b, c⟩
        · exact Or.inl hv
        · refine Or.inr ⟨a, by omega, ?_⟩
          rw [List.drop_eq_getElem_cons hlt]
          intro z hzm
          rw [List.mem_cons] at hzm
          rcases hzm with rfl | hzm
          · omega
          · have := c z hzm; omega
theorem szPacketS (l : List PL) (hl0 : l.length ≤ 9223372036854775807) (hb : ∀ z ∈ l, z.f8.length ≤ 9223372036854775807) (m : Int) (h0 : 0 ≤ m) (h1 : m ≤ 1048576) :
    ∃ v, Ev (fun k => laws_szPacketS.f k l m) v ∧ (v < 0 ∨ (0 ≤ v ∧ v ≤ m ∧ (l.length : Int) ≤ m ∧ ∀ z ∈ l, (z.f8.length : Int) ≤ m)) := by
  unfold laws_szPacketS.f
  by_cases hc : m - (l.length : Int) < 0
  · refine ⟨-1, ?_, Or.inl (by omega)⟩
    rw [wrap_id (by omega) (by omega)]
    simp only [if_pos hc]; exact Ev.now _
  · obtain ⟨v, e, hv⟩ := szPacketS_l l (by omega) hb l.length 0 (m - (l.length : Int)) (by omega) (by omega) (by omega) (by omega)
    refine ⟨v, ?_, ?_⟩
    · rw [wrap_id (by omega) (by omega)]
      simp only [if_neg hc]; exact e
    · rcases hv with hv | ⟨a, b, c⟩
      · exact Or.inl hv
      · refine Or.inr ⟨a, by omega, by omega, fun z hz => ?_⟩
        have := c z (by rw [List.drop_zero]; exact hz); omega
/-- How many numbers and bytes packets have. -/
def pmany : List Pk → Nat
  | [] => 0
  | z :: l => 8 + z.f8.length + pmany l
def mkP : List Pk → Int → List Pk
  | [], _ => []
  | z :: l, m => ⟨m, m + 1, m + 2, m + 3, m + 4, m + 5, decide (Int.tmod (m + 6) 3 = 0), decide (Int.tmod (m + 7) 3 = 0), markB z.f8.length (m + 8)⟩ :: mkP l (m + 8 + z.f8.length)
theorem pmany_len (l : List Pk) : l.length ≤ pmany l := by
  induction l with
  | nil => simp
  | cons z l ih => simp only [pmany, List.length_cons]; omega
theorem pmany_bound (l : List Pk) (n b : Nat) (hl : l.length ≤ n) (hb : ∀ z ∈ l, z.f8.length ≤ b) : pmany l ≤ n * (8 + b) := by
  induction l generalizing n with
  | nil => simp [pmany]
  | cons z l ih =>
    obtain ⟨n, rfl⟩ : ∃ m, n = m + 1 := ⟨n - 1, by simp at hl; omega⟩
    have h1 := ih n (by simpa using hl) (fun y hy => hb y (List.mem_cons_of_mem _ hy))
    have h2 := hb z List.mem_cons_self
    simp only [pmany]
    rw [Nat.add_mul, Nat.one_mul]
    omega
theorem mkP_length (l : List Pk) (m : Int) : (mkP l m).length = l.length := by
  induction l generalizing m with
  | nil => rfl
  | cons z l ih => simp [mkP, ih]
theorem markPacketS_l (d : Nat) : ∀ (i : Nat) (x : List Pk) (m : Int), i ≤ x.length → x.length - i = d → x.length ≤ 4611686018427387904 → 0 ≤ m → m + pmany (x.drop i) ≤ 4611686018427387904 →
    Ev (fun k => laws_markPacketS.l0 k x m (i : Int)) (m + pmany (x.drop i), x.take i ++ mkP (x.drop i) m) := by
  induction d with
  | zero =>
    intro i x m hi hd hx h0 h1
    refine Ev.succ ?_
    simp only [laws_markPacketS.l0, if_neg (show ¬ (i : Int) < (x.length : Int) by omega)]
    rw [List.drop_of_length_le (by omega), List.take_of_length_le (by omega)]
    simp only [pmany, mkP, List.append_nil, Int.natCast_zero, Int.add_zero]
    exact Ev.now _
  | succ d ih =>
    intro i x m hi hd hx h0 h1
    have hlt : i < x.length := by omega
    have hdr : x.drop i = x[i] :: x.drop (i + 1) := List.drop_eq_getElem_cons hlt
    have h2 : m + (8 + x[i].f8.length + pmany (x.drop (i + 1)) : Nat) ≤ 4611686018427387904 := by rw [hdr] at h1; exact h1
    refine Ev.succ ?_
    simp only [laws_markPacketS.l0, if_pos (show (i : Int) < (x.length : Int) by omega), if_pos (show (0 : Int) ≤ (i : Int) by omega), rdp x i hlt, Int.toNat_natCast]
    rw [wrap_id (x := m + 1) (by omega) (by omega), wrap_id (x := m + 1 + 1) (by omega) (by omega), wrap_id (x := m + 1 + 1 + 1) (by omega) (by omega), wrap_id (x := m + 1 + 1 + 1 + 1) (by omega) (by omega), wrap_id (x := m + 1 + 1 + 1 + 1 + 1) (by omega) (by omega), wrap_id (x := m + 1 + 1 + 1 + 1 + 1 + 1) (by omega) (by omega), wrap_id (x := m + 1 + 1 + 1 + 1 + 1 + 1 + 1) (by omega) (by omega), wrap_id (x := m + 1 + 1 + 1 + 1 + 1 + 1 + 1 + 1) (by omega) (by omega), wrap_id (x := (i : Int) + 1) (by omega) (by omega)]
    rw [show m + 1 + 1 + 1 + 1 + 1 + 1 + 1 + 1 = m + 8 by omega, show m + 1 + 1 + 1 + 1 + 1 + 1 + 1 = m + 7 by omega, show m + 1 + 1 + 1 + 1 + 1 + 1 = m + 6 by omega, show m + 1 + 1 + 1 + 1 + 1 = m + 5 by omega, show m + 1 + 1 + 1 + 1 = m + 4 by omega, show m + 1 + 1 + 1 = m + 3 by omega, show m + 1 + 1 = m + 2 by omega]
    refine Ev.bind (markByteS x[i].f8 (m + 8) (by omega) (by omega)) ?_
    have h3 := ih (i + 1) (x.set i ⟨m, m + 1, m + 2, m + 3, m + 4, m + 5, decide (Int.tmod (m + 6) 3 = 0), decide (Int.tmod (m + 7) 3 = 0), markB x[i].f8.length (m + 8)⟩) (m + 8 + x[i].f8.length) (by simp; omega) (by simp; omega) (by simpa using hx) (by omega) (by rw [List.drop_set_of_lt (by omega)]; omega)
    rw [List.drop_set_of_lt (by omega), take_set_succ _ _ _ hlt] at h3
    rw [hdr]
    simp only [pmany, mkP]
    rw [show (m + (8 + x[i].f8.length + pmany (x.drop (i + 1)) : Nat) : Int) = m + 8 + x[i].f8.length + pmany (x.drop (i + 1)) by push_cast; omega]
    rw [List.append_assoc, List.singleton_append] at h3
    exact h3
theorem markPacketS (l : List Pk) (m : Int) (h0 : 0 ≤ m) (h1 : m + pmany l ≤ 4611686018427387904) : Ev (fun k => laws_markPacketS.f k l m) (m + pmany l, mkP l m) := by
  unfold laws_markPacketS.f
  have hl := pmany_len l
  have := markPacketS_l l.length 0 l m (by omega) (by omega) (by omega) h0 (by simpa using h1)
  simpa using this

/-! marked packets are found held -/
theorem heldPacketS_l (q : List Pk) : ∀ (p : List Pk) (m : Int), (p ++ mkP q m).length ≤ 4611686018427387904 → 0 ≤ m → m + pmany q ≤ 4611686018427387904 →
    Ev (fun k => laws_heldPacketS.l0 k (p ++ mkP q m) m (p.length : Int)) (m + pmany q) := by
  induction q with
  | nil =>
    intro p m hl h0 h1
    refine Ev.succ ?_
    simp only [laws_heldPacketS.l0, mkP, List.append_nil, Int.lt_irrefl, if_false, pmany, Int.natCast_zero, Int.add_zero]
    exact Ev.now _
  | cons z q ih =>
    intro p m hl h0 h1
    have hln : (p ++ mkP (z :: q) m).length = p.length + (q.length + 1) := by rw [List.length_append, mkP_length, List.length_cons]
    have h2 : m + (8 + z.f8.length + pmany q : Nat) ≤ 4611686018427387904 := h1
    have hrd : rd_T36 (p ++ mkP (z :: q) m) (p.length : Int) = ⟨m, m + 1, m + 2, m + 3, m + 4, m + 5, decide (Int.tmod (m + 6) 3 = 0), decide (Int.tmod (m + 7) 3 = 0), markB z.f8.length (m + 8)⟩ := by
      rw [rdp _ _ (by rw [hln]; omega)]
      simp [mkP]
    have e := ih (p ++ [⟨m, m + 1, m + 2, m + 3, m + 4, m + 5, decide (Int.tmod (m + 6) 3 = 0), decide (Int.tmod (m + 7) 3 = 0), markB z.f8.length (m + 8)⟩]) (m + 8 + z.f8.length) (by rw [List.length_append, List.length_append, List.length_singleton, mkP_length]; rw [hln] at hl; omega) (by omega) (by omega)
    rw [List.append_assoc, List.singleton_append, List.length_append, List.length_singleton] at e
    refine Ev.succ ?_
    simp only [laws_heldPacketS.l0, hrd]
    simp only [if_pos (show (p.length : Int) < ((p ++ mkP (z :: q) m).length : Int) by rw [hln]; omega), if_pos (show (0 : Int) ≤ (p.length : Int) by omega)]
    rw [wrap_id (x := m + 1) (by omega) (by omega), wrap_id (x := m + 1 + 1) (by omega) (by omega), wrap_id (x := m + 1 + 1 + 1) (by omega) (by omega), wrap_id (x := m + 1 + 1 + 1 + 1) (by omega) (by omega), wrap_id (x := m + 1 + 1 + 1 + 1 + 1) (by omega) (by omega), wrap_id (x := m + 1 + 1 + 1 + 1 + 1 + 1) (by omega) (by omega), wrap_id (x := m + 1 + 1 + 1 + 1 + 1 + 1 + 1) (by omega) (by omega), wrap_id (x := m + 1 + 1 + 1 + 1 + 1 + 1 + 1 + 1) (by omega) (by omega), wrap_id (x := (p.length : Int) + 1) (by omega) (by omega)]
    rw [show m + 1 + 1 + 1 + 1 + 1 + 1 + 1 + 1 = m + 8 by omega, show m + 1 + 1 + 1 + 1 + 1 + 1 + 1 = m + 7 by omega, show m + 1 + 1 + 1 + 1 + 1 + 1 = m + 6 by omega, show m + 1 + 1 + 1 + 1 + 1 = m + 5 by omega, show m + 1 + 1 + 1 + 1 = m + 4 by omega, show m + 1 + 1 + 1 = m + 3 by omega, show m + 1 + 1 = m + 2 by omega]
    have hb : ∀ x : Int, (decide (x = 0) != (x == 0)) = false := fun x => by cases h : (x == 0) <;> simp_all
    simp only [if_true, hb, Bool.false_eq_true, if_false]
    refine Ev.bind (heldByteS z.f8.length (m + 8) (by omega) (by omega)) ?_
    simp only [if_neg (show ¬ m + 8 + (z.f8.length : Int) < 0 by omega), pmany]
    rw [show (m + ((8 + z.f8.length + pmany q : Nat) : Int)) = m + 8 + z.f8.length + pmany q by omega]
    exact e
theorem heldPacketS (l : List Pk) (m : Int) (h0 : 0 ≤ m) (h1 : m + pmany l ≤ 4611686018427387904) : Ev (fun k => laws_heldPacketS.f k (mkP l m) m) (m + pmany l) := by
  unfold laws_heldPacketS.f
  have hl := pmany_len l
  have := heldPacketS_l l [] m (by simp [mkP_length]; omega) h0 h1
  simpa using this

/-! a piece put to a part -/
theorem strN_list (xs : List Int) : (strOfNums xs).toList = xs.map fun n => UInt8.ofNat n.toNat := by
  rw [Lib.toList_data]
  rfl
theorem strN_inj : ∀ (a b : List Int), (∀ x ∈ a, 0 ≤ x ∧ x ≤ 255) → (∀ x ∈ b, 0 ≤ x ∧ x ≤ 255) → ((strOfNums a).toList == (strOfNums b).toList) = (a == b) := by
  intro a b ha hb
  rw [strN_list, strN_list]
  have key : ∀ (a b : List Int), (∀ x ∈ a, 0 ≤ x ∧ x ≤ 255) → (∀ x ∈ b, 0 ≤ x ∧ x ≤ 255) → (a.map fun n => UInt8.ofNat n.toNat) = (b.map fun n => UInt8.ofNat n.toNat) → a = b := by
    intro a
    induction a with
    | nil => intro b _ _ h; cases b with
      | nil => rfl
      | cons y b => simp at h
    | cons x a ih =>
      intro b ha hb h
      cases b with
      | nil => simp at h
      | cons y b =>
        simp only [List.map_cons, List.cons.injEq] at h
        have h1 := ha x (by simp)
        have h2 := hb y (by simp)
        have h3 := ih b (fun z hz => ha z (by simp [hz])) (fun z hz => hb z (by simp [hz])) h.2
        have h4 := congrArg UInt8.toNat h.1
        simp only [UInt8.toNat_ofNat'] at h4
        have h5 : x = y := by omega
        rw [h3, h5]
  by_cases h : a = b
  · rw [h]; simp
  · rw [beq_eq_false_iff_ne.mpr h, beq_eq_false_iff_ne.mpr (fun e => h (key a b ha hb e))]
def psim (x q : Pk) : Bool := impl_Part_put.same x q
def pins (l : List Pk) (q : Pk) : List Pk := impl_Part_put.ins l q
theorem pins_nil (q : Pk) : pins [] q = [q] := rfl
theorem pins_cons (x : Pk) (l : List Pk) (q : Pk) : pins (x :: l) q = if q.f5 < x.f5 then q :: x :: l else x :: pins l q := by
  unfold pins impl_Part_put.ins impl_Part_put.at
  rw [List.findIdx_cons]
  by_cases h : q.f5 < x.f5
  · rw [decide_eq_true (show x.f5 > q.f5 from h), if_pos h]; rfl
  · rw [decide_eq_false (show ¬ x.f5 > q.f5 from h), if_neg h]; rfl
theorem pins_length (l : List Pk) (q : Pk) : (pins l q).length = l.length + 1 := by
  induction l with
  | nil => rfl
  | cons x l ih =>
    rw [pins_cons]
    split
    · rfl
    · simp [ih]
theorem pins_mem (l : List Pk) (q z : Pk) (h : z ∈ pins l q) : z = q ∨ z ∈ l := by
  induction l with
  | nil => simpa [pins_nil] using h
  | cons x l ih =>
    rw [pins_cons] at h
    split at h
    · simpa using h
    · rcases List.mem_cons.1 h with h | h
      · right; simp [h]
      · rcases ih h with h | h
        · left; exact h
        · right; simp [h]
theorem pins_bpX {l : List Pk} {q : Pk} (hb : l.length ≤ 1999999 ∧ ∀ z ∈ l, z.f8.length ≤ 2000000) (hq : q.f8.length ≤ 2000000) : bpX (pins l q) := by
  refine ⟨by rw [pins_length]; omega, fun z hz => ?_⟩
  rcases pins_mem l q z hz with h | h
  · rw [h]; exact hq
  · exact hb.2 z h
abbrev Put := List Pk × Int × Bool
def putFin (xs : List Pk) (u : Int) : Put := if partOk xs u = true then (xs, u, true) else ([], 0, false)
def putR (ps : List Pk) (u : Int) (q : Pk) : Put :=
  if partOk ps u = true ∧ pok q = true ∧ (∃ p, ps[0]? = some p ∧ psame p q = true) then (if ps.any (fun x => psim x q) = true then (ps, u, true) else putFin (pins ps q) u) else ([], 0, false)
theorem psame_comm (a b : Pk) : psame a b = psame b a := by
  unfold psame
  simp only [eq_comm]
theorem putclone_ (l : List Int) (h : l.length ≤ 2000000) : impl_clone_byte.f l = some l := by unfold impl_clone_byte.f; rw [if_pos (by omega)]
theorem packets_l (ps : List Pk) (hl : ps.length ≤ 2000000) (hb : ∀ z ∈ ps, z.f8.length ≤ 2000000) (d : Nat) : ∀ i : Nat, i + d = ps.length → Ev (fun k => impl_packets.l0 k (ps.take i) ps (ps.length : Int) (i : Int)) ps := by
  induction d with
  | zero =>
    intro i hi
    refine Ev.succ ?_
    simp only [impl_packets.l0, if_neg (show ¬ (i : Int) < (ps.length : Int) by omega)]
    rw [List.take_of_length_le (by omega)]
    exact Ev.now _
  | succ d ih =>
    intro i hi
    have hlt : i < ps.length := by omega
    have h1 := ih (i + 1) (by omega)
    have hw : Aside0 (wrap64 ((i : Int) + 1) = ((i + 1 : Nat) : Int)) := ⟨by rw [wrap_id (by omega) (by omega)]; rfl⟩
    have hc : impl_Packet_copy.f ps[i].f0 ps[i].f1 ps[i].f2 ps[i].f3 ps[i].f4 ps[i].f5 ps[i].f6 ps[i].f7 ps[i].f8 = some (ps[i].f0, ps[i].f1, ps[i].f2, ps[i].f3, ps[i].f4, ps[i].f5, ps[i].f6, ps[i].f7, ps[i].f8) := by
      unfold impl_Packet_copy.f
      rw [putclone_ _ (hb _ (List.getElem_mem hlt))]; rfl
    refine Ev.succ ?_
    have hlt2 : (ps.take i).length < 1759218604441 := by rw [List.length_take]; omega
    simp only [impl_packets.l0, if_pos (show (i : Int) < (ps.length : Int) by omega), if_pos (show (0 : Int) ≤ (i : Int) by omega), rdp ps i hlt, hc, Option.bind_some, if_pos hlt2, hw.out]
    rw [List.take_succ_eq_append_getElem hlt] at h1
    exact h1
theorem packets_ (ps : List Pk) (hl : ps.length ≤ 2000000) (hb : ∀ z ∈ ps, z.f8.length ≤ 2000000) : Ev (fun k => impl_packets.f k ps) ps := by
  unfold impl_packets.f; exact packets_l ps hl hb ps.length 0 (by omega)
theorem partCopy_ (ps : List Pk) (u : Int) (hl : ps.length ≤ 2000000) (hb : ∀ z ∈ ps, z.f8.length ≤ 2000000) : Ev (fun k => impl_Part_copy.f k ps u) (ps, u) := by
  unfold impl_Part_copy.f; exact Ev.bind (packets_ ps hl hb) (Ev.now _)
theorem impl_put_ (ps : List Pk) (u : Int) (q : Pk) (h0 : 0 < ps.length) (hl : ps.length ≤ 1000000) (hb : ∀ z ∈ ps, z.f8.length ≤ 2000000) (hq : q.f8.length ≤ 2000000) :
    Ev (fun k => impl_Part_put.f k ps u q.f0 q.f1 q.f2 q.f3 q.f4 q.f5 q.f6 q.f7 q.f8) (if ps.any (fun x => psim x q) = true then (ps, u, true) else putFin (pins ps q) u) := by
  unfold impl_Part_put.f impl_Part_put.g
  simp only [if_neg (show ¬ (ps.length = 0 ∨ 1000000 < ps.length) by omega)]
  by_cases ha : ps.any (fun x => psim x q) = true
  · simp only [if_pos ha, if_pos (show ps.any (fun x => impl_Part_put.same x q) = true from ha)]
    exact Ev.bind (partCopy_ ps u (by omega) hb) (Ev.now _)
  · simp only [if_neg ha, if_neg (show ¬ ps.any (fun x => impl_Part_put.same x q) = true from ha)]
    have hX := pins_bpX (l := ps) (q := q) ⟨by omega, hb⟩ hq
    refine Ev.bind (impl_partOkX (pins ps q) u hX) ?_
    unfold putFin
    by_cases hk : partOk (pins ps q) u = true
    · simp only [if_pos hk]
      exact Ev.bind (partCopy_ (pins ps q) u hX.1 hX.2) (Ev.now _)
    · simp only [if_neg hk]
      exact Ev.now _
theorem putR_ok {ps : List Pk} {u : Int} {q : Pk} (h : partOk ps u = true) (hq : pok q = true) (hs : psame (ps[0]'(partOk_pos h)) q = true) : putR ps u q = if ps.any (fun x => psim x q) = true then (ps, u, true) else putFin (pins ps q) u := by
  unfold putR
  rw [if_pos ⟨h, hq, _, List.getElem?_eq_getElem (partOk_pos h), hs⟩]
theorem putR_no {ps : List Pk} {u : Int} {q : Pk} (h : partOk ps u = false ∨ pok q = false ∨ ∃ hp : 0 < ps.length, psame ps[0] q = false) : putR ps u q = ([], 0, false) := by
  unfold putR
  rw [if_neg]
  rintro ⟨h1, h2, p, h3, h4⟩
  rcases h with h | h | ⟨hp, h⟩
  · rw [h] at h1; cases h1
  · rw [h] at h2; cases h2
  · rw [List.getElem?_eq_getElem hp] at h3
    cases h3
    rw [h] at h4; cases h4
theorem impl_partPut (ps : List Pk) (u : Int) (q : Pk) (hX : bpX ps) (hq : q.f8.length ≤ 2000000) : Ev (fun k => impl_PartPut.f k ps u q.f0 q.f1 q.f2 q.f3 q.f4 q.f5 q.f6 q.f7 q.f8) (putR ps u q) := by
  have jt : Ev (fun k => impl_PartPut.j0 k true ps u q.f0 q.f1 q.f2 q.f3 q.f4 q.f5 q.f6 q.f7 q.f8) ([], 0, false) := by
    refine Ev.step (fun k => impl_PartPut.j0.eq_2 _ _ _ _ _ _ _ _ _ _ _ _ k) ?_
    simp only [if_true]; exact Ev.now _
  unfold impl_PartPut.f
  refine Ev.bind (impl_partOkX ps u hX) ?_
  cases hk : partOk ps u with
  | false =>
    simp only [Bool.false_eq_true, if_false]
    rw [putR_no (.inl hk)]; exact jt
  | true =>
    simp only [if_true, impl_packetOk', Option.bind_some]
    cases hp : pok q with
    | false =>
      simp only [Bool.false_eq_true, if_false]
      rw [putR_no (.inr (.inl hp))]; exact jt
    | true =>
      have h0 := partOk_pos hk
      have r0 : rd_T36 ps 0 = ps[0] := rdp ps 0 h0
      simp only [if_true, if_pos (show (0 : Int) < (ps.length : Int) by omega), r0, impl_same_, Option.bind_some]
      cases hs : psame q ps[0] with
      | false =>
        simp only [Bool.not_false]
        rw [putR_no (.inr (.inr ⟨h0, by rw [psame_comm]; exact hs⟩))]; exact jt
      | true =>
        simp only [Bool.not_true]
        rw [putR_ok hk hp (by rw [psame_comm]; exact hs)]
        refine Ev.step (fun k => impl_PartPut.j0.eq_2 _ _ _ _ _ _ _ _ _ _ _ _ k) ?_
        simp only [Bool.false_eq_true, if_false]
        exact Ev.bind (impl_put_ ps u q h0 (by have := (partOk_bpl hk).1; omega) hX.2 hq) (Ev.now _)
/-- the reference: is it there -/
theorem spec_put_fin (xs : List Pk) (u : Int) (hX : bpX xs) : Ev (fun k => spec_PartPut.j5 k xs u) (putFin xs u) := by
  refine Ev.step (fun k => spec_PartPut.j5.eq_2 _ _ k) ?_
  refine Ev.bind (spec_partOkX xs u hX) ?_
  unfold putFin
  by_cases hk : partOk xs u = true
  · simp only [if_pos hk]; exact Ev.now _
  · simp only [if_neg hk]; exact Ev.now _
theorem l5copy_ (q : Pk) (h : q.f8.length ≤ 2000000) : spec_l5Copy.f q.f0 q.f1 q.f2 q.f3 q.f4 q.f5 q.f6 q.f7 q.f8 = some (q.f0, q.f1, q.f2, q.f3, q.f4, q.f5, q.f6, q.f7, q.f8) := by
  unfold spec_l5Copy.f
  simp only [Option.bind_some, List.length_nil, Nat.zero_add, if_pos (show q.f8.length < 140737488355328 by omega), List.nil_append]
theorem spec_put_l1 (ps : List Pk) (u : Int) (q : Pk) (hl : ps.length ≤ 1000000) (hb : ∀ z ∈ ps, z.f8.length ≤ 2000000) (hq : q.f8.length ≤ 2000000) (d : Nat) : ∀ (i : Nat) (b : Bool) (out : List Pk), i + d = ps.length → out.length + (if b = true then 0 else 1) ≤ i + 1 → (∀ z ∈ out, z.f8.length ≤ 2000000) →
    Ev (fun k => spec_PartPut.l1 k b (i : Int) ps u q.f0 q.f1 q.f2 q.f3 q.f4 q.f5 q.f6 q.f7 q.f8 out u) (putFin (out ++ (if b = true then ps.drop i else pins (ps.drop i) q)) u) := by
  induction d with
  | zero =>
    intro i b out hi ho hz
    refine Ev.step (fun k => spec_PartPut.l1.eq_2 _ _ _ _ _ _ _ _ _ _ _ _ _ _ _ k) ?_
    simp only [if_neg (show ¬ (i : Int) < (ps.length : Int) by omega)]
    rw [List.drop_of_length_le (by omega)]
    cases b with
    | true =>
      simp only [if_true] at ho
      simp only [if_true, List.append_nil]
      exact spec_put_fin out u ⟨by omega, hz⟩
    | false =>
      simp only [Bool.false_eq_true, if_false] at ho
      simp only [Bool.false_eq_true, if_false, l5copy_ q hq, Option.bind_some, if_pos (show out.length < 1759218604441 by omega), pins_nil]
      refine spec_put_fin (out ++ [q]) u ⟨by simp; omega, fun z h => ?_⟩
      rcases List.mem_append.1 h with h | h
      · exact hz z h
      · simp at h; rw [h]; exact hq
  | succ d ih =>
    intro i b out hi ho hz
    have hlt : i < ps.length := by omega
    have hw : Aside0 (wrap64 ((i : Int) + 1) = ((i + 1 : Nat) : Int)) := ⟨by rw [wrap_id (by omega) (by omega)]; rfl⟩
    have hbi := hb _ (List.getElem_mem hlt)
    have hz1 : ∀ z ∈ out ++ [ps[i]], z.f8.length ≤ 2000000 := fun z h => by
      rcases List.mem_append.1 h with h | h
      · exact hz z h
      · simp at h; rw [h]; exact hbi
    have hol : out.length ≤ i + 1 := by omega
    have plain : ∀ b : Bool, out.length + (if b = true then 0 else 1) ≤ i + 1 → Ev (fun k => spec_PartPut.l1 k b ((i + 1 : Nat) : Int) ps u q.f0 q.f1 q.f2 q.f3 q.f4 q.f5 q.f6 q.f7 q.f8 (out ++ [ps[i]]) u) (putFin ((out ++ [ps[i]]) ++ (if b = true then ps.drop (i + 1) else pins (ps.drop (i + 1)) q)) u) := fun b hb2 => ih (i + 1) b (out ++ [ps[i]]) (by omega) (by rw [List.length_append, List.length_singleton]; omega) hz1
    have j4f : ∀ b : Bool, out.length + (if b = true then 0 else 1) ≤ i + 1 → Ev (fun k => spec_PartPut.j4 k b (i : Int) false ps u q.f0 q.f1 q.f2 q.f3 q.f4 q.f5 q.f6 q.f7 q.f8 out u) (putFin ((out ++ [ps[i]]) ++ (if b = true then ps.drop (i + 1) else pins (ps.drop (i + 1)) q)) u) := by
      intro b hb2
      refine Ev.step (fun k => spec_PartPut.j4.eq_2 _ _ _ _ _ _ _ _ _ _ _ _ _ _ _ _ k) ?_
      simp only [Bool.false_eq_true, if_false, if_pos (show (0 : Int) ≤ (i : Int) by omega), if_pos (show (i : Int) < (ps.length : Int) by omega), rdp ps i hlt, l5copy_ ps[i] hbi, Option.bind_some, if_pos (show out.length < 1759218604441 by omega), hw.out]
      exact plain b hb2
    refine Ev.step (fun k => spec_PartPut.l1.eq_2 _ _ _ _ _ _ _ _ _ _ _ _ _ _ _ k) ?_
    simp only [if_pos (show (i : Int) < (ps.length : Int) by omega)]
    rw [List.drop_eq_getElem_cons hlt]
    cases b with
    | true =>
      simp only [if_true]
      have := j4f true ho
      simp only [if_true, List.append_assoc, List.singleton_append] at this
      exact this
    | false =>
      simp only [Bool.false_eq_true, if_false, if_pos (show (0 : Int) ≤ (i : Int) by omega), rdp ps i hlt, pins_cons]
      by_cases hlt5 : q.f5 < ps[i].f5
      · rw [decide_eq_true hlt5, if_pos hlt5]
        refine Ev.step (fun k => spec_PartPut.j4.eq_2 _ _ _ _ _ _ _ _ _ _ _ _ _ _ _ _ k) ?_
        simp only [if_true, l5copy_ q hq, Option.bind_some, if_pos (show out.length < 1759218604441 by omega), if_pos (show (0 : Int) ≤ (i : Int) by omega), if_pos (show (i : Int) < (ps.length : Int) by omega), rdp ps i hlt, l5copy_ ps[i] hbi, if_pos (show (out ++ [q]).length < 1759218604441 by simp; omega), hw.out]
        have h1 := ih (i + 1) true ((out ++ [q]) ++ [ps[i]]) (by omega) (by simp only [if_true, List.length_append, List.length_singleton]; simp only [Bool.false_eq_true, if_false] at ho; omega) (fun z h => by
          rcases List.mem_append.1 h with h | h
          · rcases List.mem_append.1 h with h | h
            · exact hz z h
            · simp at h; rw [h]; exact hq
          · simp at h; rw [h]; exact hbi)
        simp only [if_true, List.append_assoc, List.singleton_append] at h1
        simp only [List.append_assoc, List.singleton_append]
        exact h1
      · rw [decide_eq_false hlt5, if_neg hlt5]
        have := j4f false ho
        simp only [Bool.false_eq_true, if_false, List.append_assoc, List.singleton_append] at this
        exact this
theorem spec_put_l0 (ps : List Pk) (u : Int) (q : Pk) (hl : ps.length ≤ 1000000) (hb : ∀ z ∈ ps, z.f8.length ≤ 2000000) (hq : q.f8.length ≤ 2000000) (hbb : ∀ z ∈ ps, ∀ x ∈ z.f8, 0 ≤ x ∧ x ≤ 255) (hqb : ∀ x ∈ q.f8, 0 ≤ x ∧ x ≤ 255) (d : Nat) : ∀ (i : Nat) (b : Bool), i + d = ps.length →
    Ev (fun k => spec_PartPut.l0 k b (i : Int) ps u q.f0 q.f1 q.f2 q.f3 q.f4 q.f5 q.f6 q.f7 q.f8 u) (putFin (if (b || (ps.drop i).any (fun x => psim x q)) = true then ps else pins ps q) u) := by
  induction d with
  | zero =>
    intro i b hi
    refine Ev.step (fun k => spec_PartPut.l0.eq_2 _ _ _ _ _ _ _ _ _ _ _ _ _ _ k) ?_
    simp only [if_neg (show ¬ (i : Int) < (ps.length : Int) by omega)]
    rw [List.drop_of_length_le (by omega)]
    have := spec_put_l1 ps u q hl hb hq ps.length 0 b [] (by omega) (by simp; split <;> omega) (by simp)
    simpa using this
  | succ d ih =>
    intro i b hi
    have hlt : i < ps.length := by omega
    have hw : Aside0 (wrap64 ((i : Int) + 1) = ((i + 1 : Nat) : Int)) := ⟨by rw [wrap_id (by omega) (by omega)]; rfl⟩
    have hj : ∀ c : Bool, c = psim ps[i] q → Ev (fun k => spec_PartPut.j2 k b (i : Int) c ps u q.f0 q.f1 q.f2 q.f3 q.f4 q.f5 q.f6 q.f7 q.f8 u) (putFin (if (b || (ps.drop i).any (fun x => psim x q)) = true then ps else pins ps q) u) := by
      intro c hc
      rw [List.drop_eq_getElem_cons hlt, List.any_cons, ← hc]
      refine Ev.step (fun k => spec_PartPut.j2.eq_2 _ _ _ _ _ _ _ _ _ _ _ _ _ _ _ k) ?_
      cases c with
      | true =>
        have := ih (i + 1) true (by omega)
        simp only [if_true, hw.out]
        simpa using this
      | false =>
        have := ih (i + 1) b (by omega)
        simp only [Bool.false_eq_true, if_false, hw.out, Bool.false_or]
        exact this
    have hs : psim ps[i] q = (ps[i].f5 == q.f5 && (ps[i].f6 == q.f6 && ps[i].f8 == q.f8)) := rfl
    refine Ev.step (fun k => spec_PartPut.l0.eq_2 _ _ _ _ _ _ _ _ _ _ _ _ _ _ k) ?_
    simp only [if_pos (show (i : Int) < (ps.length : Int) by omega), if_pos (show (0 : Int) ≤ (i : Int) by omega), rdp ps i hlt]
    by_cases c5 : ps[i].f5 = q.f5
    · simp only [if_pos c5]
      by_cases c6 : (ps[i].f6 == q.f6) = true
      · simp only [if_pos c6]
        refine hj _ ?_
        rw [strN_inj _ _ (hbb _ (List.getElem_mem hlt)) hqb, hs, c6, beq_iff_eq.mpr c5]; simp
      · simp only [if_neg c6]
        refine hj _ ?_
        rw [hs, show (ps[i].f6 == q.f6) = false by simpa using c6]; simp
    · simp only [if_neg c5]
      refine hj _ ?_
      rw [hs, beq_eq_false_iff_ne.mpr c5]; simp
theorem spec_partPut (ps : List Pk) (u : Int) (q : Pk) (hX : bpX ps) (hq : q.f8.length ≤ 2000000) (hbb : ∀ z ∈ ps, ∀ x ∈ z.f8, 0 ≤ x ∧ x ≤ 255) (hqb : ∀ x ∈ q.f8, 0 ≤ x ∧ x ≤ 255) : Ev (fun k => spec_PartPut.f k ps u q.f0 q.f1 q.f2 q.f3 q.f4 q.f5 q.f6 q.f7 q.f8) (putR ps u q) := by
  have jt : Ev (fun k => spec_PartPut.j0 k true ps u q.f0 q.f1 q.f2 q.f3 q.f4 q.f5 q.f6 q.f7 q.f8) ([], 0, false) := by
    refine Ev.step (fun k => spec_PartPut.j0.eq_2 _ _ _ _ _ _ _ _ _ _ _ _ k) ?_
    simp only [if_true]; exact Ev.now _
  unfold spec_PartPut.f
  refine Ev.bind (spec_partOkX ps u hX) ?_
  cases hk : partOk ps u with
  | false =>
    simp only [Bool.false_eq_true, if_false]
    rw [putR_no (.inl hk)]; exact jt
  | true =>
    simp only [if_true]
    refine Ev.bind (spec_packetOk' q) ?_
    cases hp : pok q with
    | false =>
      simp only [Bool.false_eq_true, if_false]
      rw [putR_no (.inr (.inl hp))]; exact jt
    | true =>
      have h0 := partOk_pos hk
      have r0 : rd_T36 ps 0 = ps[0] := rdp ps 0 h0
      have hs' := spec_same_ ps[0] q
      simp only [if_true, if_pos (show (0 : Int) < (ps.length : Int) by omega), r0, hs', Option.bind_some]
      cases hs : psame ps[0] q with
      | false =>
        simp only [Bool.not_false]
        rw [putR_no (.inr (.inr ⟨h0, hs⟩))]; exact jt
      | true =>
        simp only [Bool.not_true]
        rw [putR_ok hk hp hs]
        refine Ev.step (fun k => spec_PartPut.j0.eq_2 _ _ _ _ _ _ _ _ _ _ _ _ k) ?_
        simp only [Bool.false_eq_true, if_false]
        have h1 := spec_put_l0 ps u q (by have := (partOk_bpl hk).1; omega) hX.2 hq hbb hqb ps.length 0 false (by omega)
        simp only [Bool.false_or, List.drop_zero] at h1
        by_cases ha : ps.any (fun x => psim x q) = true
        · rw [if_pos ha] at h1
          rw [if_pos ha]
          unfold putFin at h1
          rw [if_pos hk] at h1
          exact h1
        · rw [if_neg ha] at h1
          rw [if_neg ha]
          exact h1
theorem putR_bound (ps : List Pk) (u : Int) (q : Pk) : (putR ps u q).1.length ≤ 1000 ∧ ∀ z ∈ (putR ps u q).1, z.f8.length ≤ 1000 := by
  have hf : ∀ xs, (putFin xs u).1.length ≤ 1000 ∧ ∀ z ∈ (putFin xs u).1, z.f8.length ≤ 1000 := by
    intro xs
    unfold putFin
    split
    · rename_i h
      exact ⟨(partOk_bpl h).1, fun z hz => ((partOk_bpl h).2 z hz).1⟩
    · simp
  unfold putR
  split
  · rename_i h
    split
    · exact ⟨(partOk_bpl h.1).1, fun z hz => ((partOk_bpl h.1).2 z hz).1⟩
    · exact hf _
  · simp

theorem FnExactPartPut : laws_FnExactPartPut.Pure := by
  intro l u a0 a1 a2 a3 a4 a5 a6 a7 lq hl _ _ _ _ _ _ _ hlq
  have hl1 : l.length ≤ 9223372036854775807 := hl.1
  have hlb : ∀ z ∈ l, z.f8.length ≤ 9223372036854775807 := fun z hz => (hl.2 z hz).2.2.2.2.2.2.2.2.1
  have hbyte : ∀ z ∈ l, ∀ x ∈ z.f8, 0 ≤ x ∧ x ≤ 255 := fun z hz => isBytes_wf (hl.2 z hz).2.2.2.2.2.2.2.2.2
  have hq1 : lq.length ≤ 9223372036854775807 := hlq.1
  have hqb : ∀ x ∈ lq, 0 ≤ x ∧ x ≤ 255 := isBytes_wf hlq.2
  clear hl hlq
  refine Ev.rounds ?_
  unfold laws_FnExactPartPut.f laws_szPart.f
  obtain ⟨v, e, hv⟩ := szPacketS l hl1 hlb 1048576 (by omega) (by omega)
  by_cases hneg : v < 0
  · have e2 : Ev (fun k => (laws_szPacketS.f k l 1048576).bind fun t => if t < 0 then some (-1) else some t) (-1) := by
      refine Ev.bind e ?_
      simp only [if_pos hneg]; exact Ev.now _
    refine Ev.bind e2 ?_
    simp only [if_pos (show (-1 : Int) < 0 by omega)]; exact Ev.now _
  obtain ⟨b1, b2, b3, b4⟩ := hv.resolve_left hneg
  have e2 : Ev (fun k => (laws_szPacketS.f k l 1048576).bind fun t => if t < 0 then some (-1) else some t) v := by
    refine Ev.bind e ?_
    simp only [if_neg hneg]; exact Ev.now _
  refine Ev.bind e2 ?_
  simp only [if_neg hneg, laws_szPacket.f, szByteS lq v hq1 b1 b2, Option.bind_some]
  by_cases hb : v - (lq.length : Int) < 0
  · simp only [if_pos hb, if_pos (show (-1 : Int) < 0 by omega), Option.bind_some]; exact Ev.now _
  simp only [if_neg hb, Option.bind_some]
  have hqn : lq.length ≤ 1048576 := by omega
  have hm1 : (l.map toP).length ≤ 1048576 := by rw [List.length_map]; omega
  have hm2 : ∀ z ∈ l.map toP, z.f8.length ≤ 1048576 := by
    intro z hz
    obtain ⟨y, hy, rfl⟩ := List.mem_map.1 hz
    have := b4 y hy
    show y.f8.length ≤ 1048576
    omega
  have hm3 : ∀ z ∈ l.map toP, ∀ x ∈ z.f8, 0 ≤ x ∧ x ≤ 255 := by
    intro z hz
    obtain ⟨y, hy, rfl⟩ := List.mem_map.1 hz
    exact hbyte y hy
  have tp : Ev (fun k => laws_toPart.f k l u) (l.map toP, u) := by
    unfold laws_toPart.f
    exact Ev.bind (toPacketS l (by omega) (fun z hz => by have := b4 z hz; omega)) (Ev.now _)
  have tq := toPacket a0 a1 a2 a3 a4 a5 a6 a7 lq hqn
  have hbX : bpX (l.map toP) := ⟨by omega, fun z hz => by have := hm2 z hz; omega⟩
  have ei := impl_partPut (l.map toP) u ⟨a0, a1, a2, a3, a4, a5, a6, a7, lq⟩ hbX (by show lq.length ≤ 2000000; omega)
  have es := spec_partPut (l.map toP) u ⟨a0, a1, a2, a3, a4, a5, a6, a7, lq⟩ hbX (by show lq.length ≤ 2000000; omega) hm3 hqb
  have hr := putR_bound (l.map toP) u ⟨a0, a1, a2, a3, a4, a5, a6, a7, lq⟩
  have hpm := pmany_bound (l.map toP) 1048576 1048576 hm1 hm2
  have eqp : Ev (fun k => laws_eqPart.f k (l.map toP) u (l.map toP) u) true := by
    unfold laws_eqPart.f
    refine Ev.bind (eqPacketS _ hm1 hm2) ?_
    simp only [if_true]; exact Ev.now _
  have mp : Ev (fun k => laws_markPart.f k (l.map toP) u 1) (1 + (pmany (l.map toP) : Int), mkP (l.map toP) 1) := by
    unfold laws_markPart.f
    exact Ev.bind (markPacketS (l.map toP) 1 (by omega) (by omega)) (Ev.now _)
  simp only [] at ei es
  generalize putR (l.map toP) u ⟨a0, a1, a2, a3, a4, a5, a6, a7, lq⟩ = r at *
  obtain ⟨rs, ru, rb⟩ := r
  obtain ⟨r1, r2⟩ : rs.length ≤ 1000 ∧ ∀ z ∈ rs, z.f8.length ≤ 1000 := hr
  clear e e2 hv hbX
  have hrm := pmany_bound rs 1000 1000 r1 r2
  have eqr : Ev (fun k => laws_eqPart.f k rs ru rs ru) true := by
    unfold laws_eqPart.f
    refine Ev.bind (eqPacketS _ (by omega) (fun z hz => by have := r2 z hz; omega)) ?_
    simp only [if_true]; exact Ev.now _
  have mr : Ev (fun k => laws_markPart.f k rs ru 1) (1 + (pmany rs : Int), mkP rs 1) := by
    unfold laws_markPart.f
    exact Ev.bind (markPacketS rs 1 (by omega) (by omega)) (Ev.now _)
  have he : Ev (fun k => laws_heldPart.f k (mkP rs 1) ru 1) (1 + (pmany rs : Int)) := by
    unfold laws_heldPart.f
    refine Ev.bind (heldPacketS rs 1 (by omega) (by omega)) ?_
    simp only [if_neg (show ¬ (1 : Int) + (pmany rs : Int) < 0 by omega)]; exact Ev.now _
  have eqq := eqPacket a0 a1 a2 a3 a4 a5 a6 a7 lq (by omega)
  have mq : Ev (fun k => laws_markPacket.f k a0 a1 a2 a3 a4 a5 a6 a7 lq (1 + (pmany (l.map toP) : Int))) (1 + (pmany (l.map toP) : Int) + (lq.length : Int), markB lq.length (1 + (pmany (l.map toP) : Int))) := by
    unfold laws_markPacket.f
    exact Ev.bind (markByteS lq _ (by omega) (by omega)) (Ev.now _)
  refine Ev.bind tp (Ev.bind tq (Ev.bind es (Ev.bind tp (Ev.bind tq (Ev.bind ei (Ev.bind eqr ?_))))))
  simp only [if_true, bne_self_eq_false, Bool.false_eq_true, if_false]
  refine Ev.bind tp (Ev.bind eqp ?_)
  simp only [if_true]
  refine Ev.bind tq (Ev.bind eqq ?_)
  simp only [if_true]
  refine Ev.bind mp (Ev.bind mq ?_)
  simp only [if_neg (show ¬ (1 : Int) + (pmany (l.map toP) : Int) + (lq.length : Int) < 0 by omega)]
  refine Ev.bind eqr ?_
  simp only [if_true]
  refine Ev.bind mr (Ev.bind he ?_)
  simp only [if_neg (show ¬ (1 : Int) + (pmany rs : Int) < 0 by omega), if_true]
  refine Ev.bind tp (Ev.bind tq (Ev.bind ei (Ev.bind eqr ?_)))
  simp only [if_true, bne_self_eq_false, Bool.false_eq_true, if_false]
  refine Ev.bind he ?_
  simp only [if_neg (show ¬ (1 : Int) + (pmany rs : Int) < 0 by omega), if_true]
  exact Ev.now _

end Go.Proofs.Ytpdbnlmdohcgkaa.Pure
