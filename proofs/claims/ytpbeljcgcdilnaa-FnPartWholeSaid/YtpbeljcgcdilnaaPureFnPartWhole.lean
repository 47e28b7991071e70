/- A whole packet is all its pieces: the plain law. -/
import Derived.Test.YtpbeljcgcdilnaaPFnPartWholex
namespace Go.Proofs.Ytpbeljcgcdilnaa.Pure
set_option linter.unusedSimpArgs false
set_option linter.unusedVariables false
open Go.RowKit Go.Proofs.Ytpbeljcgcdilnaa.PFnPartWhole Go.Proofs.YtpbeljcgcdilnaaW.PrintWords Go.Proofs.YtpbeljcgcdilnaaW.PrintLast Go.Proofs.YtpbeljcgcdilnaaW.PrintMore

theorem Ev.succ {α : Type} {g : Nat → Option α} {r : α} (h : Ev (fun k => g (k + 1)) r) : Ev g r := Ev.step (fun _ => rfl) h
theorem Ev.pure {α : Type} {o : Option α} {r : α} (h : o = some r) : Ev (fun _ => o) r := by rw [h]; exact Ev.now r
theorem Ev.cong {α : Type} {g g' : Nat → Option α} {r : α} (h : ∀ k, g k = g' k) (e : Ev g' r) : Ev g r := by rw [show g = g' from funext h]; exact e
theorem wrap_id {x : Int} (h0 : -9223372036854775808 ≤ x) (h1 : x ≤ 9223372036854775807) : wrap64 x = x := by unfold wrap64; omega

theorem rd_get (l : List Int) (i : Nat) (h : i < l.length) : rd l (i : Int) = l[i] := by
  unfold rd
  rw [Int.toNat_natCast, List.getD_eq_getElem?_getD, List.getElem?_eq_getElem h]; rfl
theorem take_set_succ {α : Type} (x : List α) (i : Nat) (v : α) (h : i < x.length) : (x.set i v).take (i + 1) = x.take i ++ [v] := by
  rw [List.take_succ_eq_append_getElem (by simpa using h), List.getElem_set_self, List.take_set, List.set_eq_of_length_le (by simp; omega)]


def isBytes (l : List Int) : Prop := ∀ x ∈ l, 0 ≤ x ∧ x ≤ 255
theorem isBytes_get {l : List Int} (h : isBytes l) (i : Nat) (hi : i < l.length) : 0 ≤ l[i] ∧ l[i] ≤ 255 := h _ (List.getElem_mem hi)
theorem isBytes_wf {l : List Int} (h : ∀ x ∈ l, (Lit.int .u8 x).wf = true) : isBytes l := by
  intro x hx
  have := h x hx
  simp [Lit.wf, IntKind.min, IntKind.max, IntKind.bits, IntKind.signed] at this
  omega

/-! a packet that is ok -/
def inb (x lo hi : Int) : Bool := decide (lo ≤ x) && decide (x ≤ hi)
theorem inb_iff {x lo hi : Int} : inb x lo hi = true ↔ lo ≤ x ∧ x ≤ hi := by unfold inb; simp
theorem impl_in_ (x lo hi : Int) : impl_in.f x lo hi = some (inb x lo hi) := by
  unfold impl_in.f inb; by_cases h : x ≥ lo
  · simp only [if_pos h, decide_eq_true (show lo ≤ x from h), Bool.true_and]
  · simp only [if_neg h, decide_eq_false (show ¬ lo ≤ x from h), Bool.false_and]
theorem spec_in_ (x lo hi : Int) : spec_l1In.f x lo hi = some (inb x lo hi) := by
  unfold spec_l1In.f inb; by_cases h : x ≥ lo
  · simp only [if_pos h, decide_eq_true (show lo ≤ x from h), Bool.true_and]
  · simp only [if_neg h, decide_eq_false (show ¬ lo ≤ x from h), Bool.false_and]
def pok (p : S28) : Bool := inb p.f0 0 65535 && (inb p.f1 0 65535 && (inb p.f2 0 255 && (inb p.f3 0 255 && (inb p.f4 0 255 && (inb p.f5 0 255 && (decide ((p.f8.length : Int) ≤ 48) && ((!p.f6 || decide ((p.f8.length : Int) > 0)) && (!p.f7 || (decide (p.f5 = 0) && !p.f6)))))))))
theorem impl_packetOk (a0 a1 a2 a3 a4 a5 : Int) (a6 a7 : Bool) (l : List Int) : impl_PacketOk.f a0 a1 a2 a3 a4 a5 a6 a7 l = some (pok ⟨a0, a1, a2, a3, a4, a5, a6, a7, l⟩) := by
  unfold impl_PacketOk.f pok
  simp only [impl_word.f, impl_in_, Option.bind_some]
  cases inb a0 0 65535
  · simp
  cases inb a1 0 65535
  · simp
  cases inb a2 0 255
  · simp
  cases inb a3 0 255
  · simp
  cases inb a4 0 255
  · simp
  cases inb a5 0 255
  · simp
  by_cases h : (l.length : Int) ≤ 48 <;> by_cases h0 : 0 < l.length <;> by_cases h5 : a5 = 0 <;> cases a6 <;> cases a7 <;> simp [h, h0, h5]
theorem spec_packetOk (a0 a1 a2 a3 a4 a5 : Int) (a6 a7 : Bool) (l : List Int) : Ev (fun k => spec_PacketOk.f k a0 a1 a2 a3 a4 a5 a6 a7 l) (pok ⟨a0, a1, a2, a3, a4, a5, a6, a7, l⟩) := by
  have j : ∀ x : Bool, Ev (fun k => spec_PacketOk.j0 k x a0 a1 a2 a3 a4 a5 a6 a7 l) (!x && (decide ((l.length : Int) ≤ 48) && ((!a6 || decide ((l.length : Int) > 0)) && (!a7 || (decide (a5 = 0) && !a6))))) := by
    intro x
    refine Ev.succ ?_
    simp only [spec_PacketOk.j0]
    refine Ev.pure ?_
    cases x
    · by_cases h : (l.length : Int) ≤ 48 <;> by_cases h0 : 0 < l.length <;> by_cases h5 : a5 = 0 <;> cases a6 <;> cases a7 <;> simp [h, h0, h5]
    · simp
  unfold spec_PacketOk.f pok
  simp only [spec_in_, Option.bind_some]
  cases inb a0 0 65535
  · exact j true
  cases inb a1 0 65535
  · exact j true
  cases inb a2 0 255
  · exact j true
  cases inb a3 0 255
  · exact j true
  cases inb a4 0 255
  · exact j true
  cases inb a5 0 255
  · exact j true
  · exact j false

/-! a part that is ok -/
abbrev Pk := S28
theorem rdp (l : List Pk) (i : Nat) (h : i < l.length) : rd_T28 l (i : Int) = l[i] := by
  unfold rd_T28
  rw [Int.toNat_natCast, List.getD_eq_getElem?_getD, List.getElem?_eq_getElem h]; rfl
/-- bounds of what is drawn, and of what is handed on -/
def bp (q : Pk) : Prop := q.f8.length ≤ 1000 ∧ -1000000 ≤ q.f5 ∧ q.f5 ≤ 1000000
def bpl (l : List Pk) : Prop := l.length ≤ 1000 ∧ ∀ q ∈ l, bp q
def psame (a b : Pk) : Bool := decide (a.f0 = b.f0) && (decide (a.f1 = b.f1) && (decide (a.f2 = b.f2) && decide (a.f4 = b.f4)))
def sumTo (ps : List Pk) (i : Nat) : Nat := ((ps.take i).map (fun q => q.f8.length)).sum
theorem sumTo_zero (ps : List Pk) : sumTo ps 0 = 0 := by simp [sumTo]
theorem sumTo_succ (ps : List Pk) (i : Nat) (h : i < ps.length) : sumTo ps (i + 1) = sumTo ps i + ps[i].f8.length := by
  unfold sumTo
  rw [List.take_succ_eq_append_getElem h, List.map_append, List.sum_append]; simp
theorem sumTo_le (ps : List Pk) (hb : bpl ps) : ∀ i : Nat, i ≤ ps.length → sumTo ps i ≤ 1000 * i := by
  intro i
  induction i with
  | zero => intro _; rw [sumTo_zero]; omega
  | succ i ih =>
    intro h
    have := ih (by omega)
    have h2 := (hb.2 ps[i] (List.getElem_mem (by omega))).1
    rw [sumTo_succ ps i (by omega)]; omega
def okAt (ps : List Pk) (i : Nat) : Bool := match ps[i]?, ps[0]? with
  | some q, some a => pok q && (psame q a && (if i = 0 then true else match ps[i - 1]? with | some b => !decide (q.f5 < b.f5 + (b.f8.length : Int)) && b.f6 | none => false))
  | _, _ => false
def okFrom (ps : List Pk) (i d : Nat) : Bool := (List.range' i d).all (okAt ps)
def partOk (ps : List Pk) (u : Int) : Bool := okFrom ps 0 ps.length && (decide ((ps.length : Int) > 0) && (decide ((sumTo ps ps.length : Int) ≤ 48) && inb u 0 1000000))
theorem okFrom_zero (ps : List Pk) (i : Nat) : okFrom ps i 0 = true := by simp [okFrom]
theorem okFrom_succ (ps : List Pk) (i d : Nat) : okFrom ps i (d + 1) = (okAt ps i && okFrom ps (i + 1) d) := by
  simp [okFrom, List.range'_succ]
theorem okFrom_at {ps : List Pk} {n : Nat} (h : okFrom ps 0 n = true) (i : Nat) (hi : i < n) : okAt ps i = true := by
  unfold okFrom at h
  rw [List.all_eq_true] at h
  exact h i (by rw [List.mem_range'_1]; omega)
theorem okAt_eq (ps : List Pk) (i : Nat) (h : i < ps.length) : okAt ps i = (pok ps[i] && (psame ps[i] (ps[0]'(by omega)) && (if h0 : i = 0 then true else !decide (ps[i].f5 < (ps[i - 1]'(by omega)).f5 + ((ps[i - 1]'(by omega)).f8.length : Int)) && (ps[i - 1]'(by omega)).f6))) := by
  unfold okAt
  rw [List.getElem?_eq_getElem h, List.getElem?_eq_getElem (show 0 < ps.length by omega)]
  by_cases h0 : i = 0
  · simp [h0]
  · simp only [h0, if_false, dite_false]
    rw [List.getElem?_eq_getElem (show i - 1 < ps.length by omega)]
theorem impl_same_ (a b : Pk) : impl_Packet_same.f a.f0 a.f1 a.f2 a.f3 a.f4 a.f5 a.f6 a.f7 a.f8 b.f0 b.f1 b.f2 b.f3 b.f4 b.f5 b.f6 b.f7 b.f8 = some (psame a b) := by
  unfold impl_Packet_same.f psame
  by_cases h0 : a.f0 = b.f0 <;> by_cases h1 : a.f1 = b.f1 <;> by_cases h2 : a.f2 = b.f2 <;> by_cases h4 : a.f4 = b.f4 <;> simp [h0, h1, h2, h4]
theorem spec_same_ (a b : Pk) : spec_l5Same.f a.f0 a.f1 a.f2 a.f3 a.f4 a.f5 a.f6 a.f7 a.f8 b.f0 b.f1 b.f2 b.f3 b.f4 b.f5 b.f6 b.f7 b.f8 = some (psame a b) := by
  unfold spec_l5Same.f psame
  by_cases h0 : a.f0 = b.f0 <;> by_cases h1 : a.f1 = b.f1 <;> by_cases h2 : a.f2 = b.f2 <;> by_cases h4 : a.f4 = b.f4 <;> simp [h0, h1, h2, h4]
theorem impl_packetOk' (q : Pk) : impl_PacketOk.f q.f0 q.f1 q.f2 q.f3 q.f4 q.f5 q.f6 q.f7 q.f8 = some (pok q) := impl_packetOk _ _ _ _ _ _ _ _ _
theorem spec_packetOk' (q : Pk) : Ev (fun k => spec_PacketOk.f k q.f0 q.f1 q.f2 q.f3 q.f4 q.f5 q.f6 q.f7 q.f8) (pok q) := spec_packetOk _ _ _ _ _ _ _ _ _

theorem impl_partOk_l (ps : List Pk) (u : Int) (hb : bpl ps) (d : Nat) : ∀ i : Nat, i + d = ps.length →
    Ev (fun k => impl_PartOk.l0 k (sumTo ps i : Int) ps (ps.length : Int) (i : Int) ps u) (okFrom ps i d && (decide ((ps.length : Int) > 0) && (decide ((sumTo ps ps.length : Int) ≤ 48) && inb u 0 1000000))) := by
  have hl := hb.1
  induction d with
  | zero =>
    intro i hi
    obtain rfl : i = ps.length := by omega
    refine Ev.succ ?_
    simp only [impl_PartOk.l0, if_neg (show ¬ (ps.length : Int) < (ps.length : Int) by omega), impl_in_, Option.bind_some, okFrom_zero, Bool.true_and]
    refine Ev.pure ?_
    by_cases h1 : 0 < ps.length <;> by_cases h2 : (sumTo ps ps.length : Int) ≤ 48 <;> simp [h1, h2]
  | succ d ih =>
    intro i hi
    have hi2 : i < ps.length := by omega
    have hs := sumTo_succ ps i hi2
    have hsl := sumTo_le ps hb i (by omega)
    have hq := hb.2 ps[i] (List.getElem_mem hi2)
    have h1 := ih (i + 1) (by omega)
    have g1 : Ev (fun k => impl_PartOk.l0 k (wrap64 ((sumTo ps i : Int) + (ps[i].f8.length : Int))) ps (ps.length : Int) (wrap64 ((i : Int) + 1)) ps u) (okFrom ps (i + 1) d && (decide ((ps.length : Int) > 0) && (decide ((sumTo ps ps.length : Int) ≤ 48) && inb u 0 1000000))) := by
      have := hq.1
      rw [wrap_id (x := (sumTo ps i : Int) + (ps[i].f8.length : Int)) (by omega) (by omega), wrap_id (x := (i : Int) + 1) (by omega) (by omega)]
      rw [hs] at h1; exact h1
    have j : ∀ x : Bool, Ev (fun k => impl_PartOk.j1 k (sumTo ps i : Int) (i : Int) ps (ps.length : Int) (i : Int) x ps u ps[i].f0 ps[i].f1 ps[i].f2 ps[i].f3 ps[i].f4 ps[i].f5 ps[i].f6 ps[i].f7 ps[i].f8)
        (!x && ((if h0 : i = 0 then true else !decide (ps[i].f5 < (ps[i - 1]'(by omega)).f5 + ((ps[i - 1]'(by omega)).f8.length : Int)) && (ps[i - 1]'(by omega)).f6) && (okFrom ps (i + 1) d && (decide ((ps.length : Int) > 0) && (decide ((sumTo ps ps.length : Int) ≤ 48) && inb u 0 1000000))))) := by
      intro x
      refine Ev.succ ?_
      simp only [impl_PartOk.j1]
      cases x
      · simp only [Bool.false_eq_true, if_false, Bool.not_false, Bool.true_and]
        by_cases h0 : i = 0
        · simp only [if_neg (show ¬ (i : Int) > 0 by omega), dif_pos h0, Bool.true_and]
          exact g1
        · simp only [if_pos (show (i : Int) > 0 by omega), dif_neg h0]
          have hi1 : i - 1 < ps.length := by omega
          have hw : wrap64 ((i : Int) - 1) = ((i - 1 : Nat) : Int) := by rw [wrap_id (by omega) (by omega)]; omega
          have hr := rdp ps (i - 1) hi1
          have hp := hb.2 (ps[i - 1]'hi1) (List.getElem_mem hi1)
          rw [hw]
          simp only [hr, if_pos (show (0 : Int) ≤ ((i - 1 : Nat) : Int) by omega), if_pos (show ((i - 1 : Nat) : Int) < (ps.length : Int) by omega)]
          obtain ⟨p1, p2, p3⟩ := hp
          have hw2 : wrap64 ((ps[i - 1]'hi1).f5 + ((ps[i - 1]'hi1).f8.length : Int)) = (ps[i - 1]'hi1).f5 + ((ps[i - 1]'hi1).f8.length : Int) := wrap_id (by omega) (by omega)
          rw [hw2]
          by_cases hlt : ps[i].f5 < (ps[i - 1]'hi1).f5 + ((ps[i - 1]'hi1).f8.length : Int)
          · simp only [if_pos hlt, decide_eq_true hlt, Bool.not_true, Bool.false_and]; exact Ev.now _
          · simp only [if_neg hlt, decide_eq_false hlt, Bool.not_false, Bool.true_and]
            by_cases h6 : (ps[i - 1]'hi1).f6 = true
            · simp only [if_pos h6, h6, Bool.true_and]; exact g1
            · simp only [if_neg h6, Bool.eq_false_iff.mpr h6, Bool.false_and]; exact Ev.now _
      · simp only [if_true, Bool.not_true, Bool.false_and]; exact Ev.now _
    rw [okFrom_succ, okAt_eq ps i hi2]; simp only [Bool.and_assoc]
    refine Ev.succ ?_
    simp only [impl_PartOk.l0, if_pos (show (i : Int) < (ps.length : Int) by omega), if_pos (show (0 : Int) ≤ (i : Int) by omega), rdp ps i hi2, impl_packetOk', Option.bind_some]
    cases hpk : pok ps[i]
    · simp only [Bool.false_eq_true, if_false, Bool.false_and]
      exact j true
    · simp only [if_true, Bool.true_and, if_pos (show (0 : Int) < (ps.length : Int) by omega)]
      have hr0 : rd_T28 ps 0 = ps[0]'(by omega) := rdp ps 0 (by omega)
      simp only [hr0, impl_same_, Option.bind_some]
      have := j (!psame ps[i] (ps[0]'(by omega)))
      rw [Bool.not_not] at this

      exact this
theorem impl_partOk (ps : List Pk) (u : Int) (hb : bpl ps) : Ev (fun k => impl_PartOk.f k ps u) (partOk ps u) := by
  unfold impl_PartOk.f partOk
  have := impl_partOk_l ps u hb ps.length 0 (by omega)
  rw [sumTo_zero] at this
  exact this

theorem spec_partOk_l (ps : List Pk) (u : Int) (hb : bpl ps) (d : Nat) : ∀ i : Nat, i + d = ps.length →
    Ev (fun k => spec_PartOk.l0 k (sumTo ps i : Int) (i : Int) ps u) (okFrom ps i d && (decide ((ps.length : Int) > 0) && (decide ((sumTo ps ps.length : Int) ≤ 48) && inb u 0 1000000))) := by
  have hl := hb.1
  induction d with
  | zero =>
    intro i hi
    obtain rfl : i = ps.length := by omega
    refine Ev.succ ?_
    simp only [spec_PartOk.l0, if_neg (show ¬ (ps.length : Int) < (ps.length : Int) by omega), spec_in_, Option.bind_some, okFrom_zero, Bool.true_and]
    refine Ev.pure ?_
    by_cases h1 : 0 < ps.length <;> by_cases h2 : (sumTo ps ps.length : Int) ≤ 48 <;> simp [h1, h2]
  | succ d ih =>
    intro i hi
    have hi2 : i < ps.length := by omega
    have hs := sumTo_succ ps i hi2
    have hsl := sumTo_le ps hb i (by omega)
    have hq := hb.2 ps[i] (List.getElem_mem hi2)
    have h1 := ih (i + 1) (by omega)
    have g1 : Ev (fun k => spec_PartOk.l0 k (wrap64 ((sumTo ps i : Int) + (ps[i].f8.length : Int))) (wrap64 ((i : Int) + 1)) ps u) (okFrom ps (i + 1) d && (decide ((ps.length : Int) > 0) && (decide ((sumTo ps ps.length : Int) ≤ 48) && inb u 0 1000000))) := by
      have := hq.1
      rw [wrap_id (x := (sumTo ps i : Int) + (ps[i].f8.length : Int)) (by omega) (by omega), wrap_id (x := (i : Int) + 1) (by omega) (by omega)]
      rw [hs] at h1; exact h1
    have j : ∀ x : Bool, Ev (fun k => spec_PartOk.j1 k (sumTo ps i : Int) (i : Int) x ps u ps[i].f0 ps[i].f1 ps[i].f2 ps[i].f3 ps[i].f4 ps[i].f5 ps[i].f6 ps[i].f7 ps[i].f8)
        (!x && (okFrom ps (i + 1) d && (decide ((ps.length : Int) > 0) && (decide ((sumTo ps ps.length : Int) ≤ 48) && inb u 0 1000000)))) := by
      intro x
      refine Ev.succ ?_
      simp only [spec_PartOk.j1]
      cases x
      · simp only [Bool.false_eq_true, if_false, Bool.not_false, Bool.true_and]; exact g1
      · simp only [if_true, Bool.not_true, Bool.false_and]; exact Ev.now _
    rw [okFrom_succ, okAt_eq ps i hi2]; simp only [Bool.and_assoc]
    refine Ev.succ ?_
    simp only [spec_PartOk.l0, if_pos (show (i : Int) < (ps.length : Int) by omega), if_pos (show (0 : Int) ≤ (i : Int) by omega), rdp ps i hi2]
    refine Ev.bind (spec_packetOk' ps[i]) ?_
    cases hpk : pok ps[i]
    · simp only [Bool.false_eq_true, if_false, Bool.false_and]
      exact j true
    · simp only [if_true, Bool.true_and, if_pos (show (0 : Int) < (ps.length : Int) by omega)]
      have hr0 : rd_T28 ps 0 = ps[0]'(by omega) := rdp ps 0 (by omega)
      simp only [hr0, spec_same_, Option.bind_some]
      cases hsm : psame ps[i] (ps[0]'(by omega))
      · simp only [Bool.false_eq_true, if_false, Bool.false_and]
        exact j true
      · simp only [if_true, Bool.true_and]
        by_cases h0 : i = 0
        · simp only [if_neg (show ¬ (i : Int) > 0 by omega), dif_pos h0, Bool.true_and]
          exact j false
        · simp only [if_pos (show (i : Int) > 0 by omega), dif_neg h0]
          have hi1 : i - 1 < ps.length := by omega
          have hw : wrap64 ((i : Int) - 1) = ((i - 1 : Nat) : Int) := by rw [wrap_id (by omega) (by omega)]; omega
          have hr := rdp ps (i - 1) hi1
          have hp := hb.2 (ps[i - 1]'hi1) (List.getElem_mem hi1)
          rw [hw]
          simp only [hr, if_pos (show (0 : Int) ≤ ((i - 1 : Nat) : Int) by omega), if_pos (show ((i - 1 : Nat) : Int) < (ps.length : Int) by omega)]
          obtain ⟨p1, p2, p3⟩ := hp
          have hw2 : wrap64 ((ps[i - 1]'hi1).f5 + ((ps[i - 1]'hi1).f8.length : Int)) = (ps[i - 1]'hi1).f5 + ((ps[i - 1]'hi1).f8.length : Int) := wrap_id (by omega) (by omega)
          rw [hw2]
          by_cases hlt : ps[i].f5 < (ps[i - 1]'hi1).f5 + ((ps[i - 1]'hi1).f8.length : Int)
          · simp only [if_pos hlt, decide_eq_true hlt, Bool.not_true, Bool.false_and]; exact j true
          · simp only [if_neg hlt, decide_eq_false hlt, Bool.not_false, Bool.true_and]
            have := j (!(ps[i - 1]'hi1).f6)
            rw [Bool.not_not] at this
            exact this
theorem spec_partOk (ps : List Pk) (u : Int) (hb : bpl ps) : Ev (fun k => spec_PartOk.f k ps u) (partOk ps u) := by
  unfold spec_PartOk.f partOk
  have := spec_partOk_l ps u hb ps.length 0 (by omega)
  rw [sumTo_zero] at this
  exact this

/-! the packet of a part that is whole -/
abbrev Wh := Int × Int × Int × Int × Int × Int × Bool × Bool × List Int × Bool
def dataTo (ps : List Pk) (i : Nat) : List Int := ((ps.take i).map (fun q => q.f8)).flatten
theorem dataTo_zero (ps : List Pk) : dataTo ps 0 = [] := by simp [dataTo]
theorem dataTo_succ (ps : List Pk) (i : Nat) (h : i < ps.length) : dataTo ps (i + 1) = dataTo ps i ++ ps[i].f8 := by
  unfold dataTo
  rw [List.take_succ_eq_append_getElem h, List.map_append, List.flatten_append]; simp
theorem dataTo_length (ps : List Pk) (i : Nat) : (dataTo ps i).length = sumTo ps i := by
  unfold dataTo sumTo
  rw [List.length_flatten, List.map_map]; rfl
def contAt (ps : List Pk) (i : Nat) : Bool := match ps[i]? with | some q => decide (q.f5 = (sumTo ps i : Int)) | none => false
def contFrom (ps : List Pk) (i d : Nat) : Bool := (List.range' i d).all (contAt ps)
theorem contFrom_zero (ps : List Pk) (i : Nat) : contFrom ps i 0 = true := by simp [contFrom]
theorem contFrom_succ (ps : List Pk) (i d : Nat) : contFrom ps i (d + 1) = (contAt ps i && contFrom ps (i + 1) d) := by
  simp [contFrom, List.range'_succ]
theorem contAt_eq (ps : List Pk) (i : Nat) (h : i < ps.length) : contAt ps i = decide (ps[i].f5 = (sumTo ps i : Int)) := by
  unfold contAt
  rw [List.getElem?_eq_getElem h]
theorem contFrom_at {ps : List Pk} {n : Nat} (h : contFrom ps 0 n = true) (i : Nat) (hi : i < n) : contAt ps i = true := by
  unfold contFrom at h
  rw [List.all_eq_true] at h
  exact h i (by rw [List.mem_range'_1]; omega)
def noWh : Wh := (0, 0, 0, 0, 0, 0, false, false, [], false)
def lastMore (ps : List Pk) : Bool := match ps[ps.length - 1]? with | some q => q.f6 | none => true
def whole (ps : List Pk) : Wh := match ps with
  | [] => noWh
  | a :: _ => if contFrom ps 0 ps.length && !lastMore ps then (a.f0, a.f1, a.f2, a.f3, a.f4, a.f5, false, a.f7, dataTo ps ps.length, true) else noWh
def partWhole (ps : List Pk) (u : Int) : Wh := if partOk ps u then whole ps else noWh
theorem lastMore_eq (ps : List Pk) (h : 0 < ps.length) : lastMore ps = (ps[ps.length - 1]'(by omega)).f6 := by
  unfold lastMore
  rw [List.getElem?_eq_getElem (by omega)]
theorem whole_eq (ps : List Pk) (h : 0 < ps.length) : whole ps = if contFrom ps 0 ps.length && !lastMore ps then ((ps[0]'h).f0, (ps[0]'h).f1, (ps[0]'h).f2, (ps[0]'h).f3, (ps[0]'h).f4, (ps[0]'h).f5, false, (ps[0]'h).f7, dataTo ps ps.length, true) else noWh := by
  cases ps with
  | nil => simp at h
  | cons a l => rfl
theorem clone_byte_ (l : List Int) (h : l.length ≤ 1000000) : impl_clone_byte.f l = some l := by
  unfold impl_clone_byte.f; rw [if_pos (by omega)]
theorem copy_ (a0 a1 a2 a3 a4 a5 : Int) (a6 a7 : Bool) (l : List Int) (h : l.length ≤ 1000000) : impl_Packet_copy.f a0 a1 a2 a3 a4 a5 a6 a7 l = some (a0, a1, a2, a3, a4, a5, a6, a7, l) := by
  unfold impl_Packet_copy.f; rw [clone_byte_ l h]; rfl
theorem impl_whole_l (ps : List Pk) (u : Int) (hb : bpl ps) (hn : 0 < ps.length) (a0 a1 a2 a3 a4 a5 : Int) (a6 a7 : Bool) (d : Nat) : ∀ i : Nat, i + d = ps.length →
    Ev (fun k => impl_Part_whole.l0 k (sumTo ps i : Int) ps (ps.length : Int) (i : Int) ps u a0 a1 a2 a3 a4 a5 a6 a7 (dataTo ps i)) (if contFrom ps i d && !lastMore ps then (a0, a1, a2, a3, a4, a5, false, a7, dataTo ps ps.length, true) else noWh) := by
  have hl := hb.1
  induction d with
  | zero =>
    intro i hi
    obtain rfl : i = ps.length := by omega
    refine Ev.succ ?_
    have hw : wrap64 ((ps.length : Int) - 1) = ((ps.length - 1 : Nat) : Int) := by rw [wrap_id (by omega) (by omega)]; omega
    have hr := rdp ps (ps.length - 1) (by omega)
    have hd : (dataTo ps ps.length).length ≤ 1000000 := by rw [dataTo_length]; have := sumTo_le ps hb ps.length (by omega); omega
    simp only [impl_Part_whole.l0, if_neg (show ¬ (ps.length : Int) < (ps.length : Int) by omega), contFrom_zero, Bool.true_and, hw, if_pos (show (0 : Int) ≤ ((ps.length - 1 : Nat) : Int) by omega), if_pos (show ((ps.length - 1 : Nat) : Int) < (ps.length : Int) by omega), hr]
    rw [lastMore_eq ps hn]
    cases (ps[ps.length - 1]'(by omega)).f6
    · simp only [Bool.false_eq_true, if_false, Bool.not_false, if_true, copy_ _ _ _ _ _ _ _ _ _ hd, Option.bind_some]; exact Ev.now _
    · simp only [if_true, Bool.not_true, Bool.false_eq_true, if_false]; exact Ev.now _
  | succ d ih =>
    intro i hi
    have hi2 : i < ps.length := by omega
    have hs := sumTo_succ ps i hi2
    have hsl := sumTo_le ps hb i (by omega)
    have hq := (hb.2 ps[i] (List.getElem_mem hi2)).1
    have h1 := ih (i + 1) (by omega)
    rw [contFrom_succ, contAt_eq ps i hi2]
    refine Ev.succ ?_
    simp only [impl_Part_whole.l0, if_pos (show (i : Int) < (ps.length : Int) by omega), if_pos (show (0 : Int) ≤ (i : Int) by omega), rdp ps i hi2]
    by_cases hc : ps[i].f5 = (sumTo ps i : Int)
    · simp only [if_pos hc, decide_eq_true hc, Bool.true_and, if_pos (show (dataTo ps i).length + ps[i].f8.length < 140737488355328 by rw [dataTo_length]; omega)]
      rw [wrap_id (x := (sumTo ps i : Int) + (ps[i].f8.length : Int)) (by omega) (by omega), wrap_id (x := (i : Int) + 1) (by omega) (by omega)]
      rw [hs, dataTo_succ ps i hi2] at h1
      exact h1
    · simp only [if_neg hc, decide_eq_false hc, Bool.false_and, Bool.false_eq_true, if_false]; exact Ev.now _
theorem impl_whole_ (ps : List Pk) (u : Int) (hb : bpl ps) (hn : 0 < ps.length) : Ev (fun k => impl_Part_whole.f k ps u) (whole ps) := by
  unfold impl_Part_whole.f
  have hr0 : rd_T28 ps 0 = ps[0]'(by omega) := rdp ps 0 (by omega)
  have hq := (hb.2 (ps[0]'hn) (List.getElem_mem hn)).1
  simp only [if_pos (show (0 : Int) < (ps.length : Int) by omega), hr0, copy_ _ _ _ _ _ _ _ _ _ (show (ps[0]'hn).f8.length ≤ 1000000 by omega), Option.bind_some]
  have h := impl_whole_l ps u hb hn (ps[0]'hn).f0 (ps[0]'hn).f1 (ps[0]'hn).f2 (ps[0]'hn).f3 (ps[0]'hn).f4 (ps[0]'hn).f5 (ps[0]'hn).f6 (ps[0]'hn).f7 ps.length 0 (by omega)
  rw [sumTo_zero, dataTo_zero] at h
  rw [whole_eq ps hn]
  exact h
theorem partOk_pos {ps : List Pk} {u : Int} (h : partOk ps u = true) : 0 < ps.length := by
  unfold partOk at h
  simp only [Bool.and_eq_true, decide_eq_true_eq] at h
  have := h.2.1
  omega
theorem impl_partWhole (ps : List Pk) (u : Int) (hb : bpl ps) : Ev (fun k => impl_PartWhole.f k ps u) (partWhole ps u) := by
  unfold impl_PartWhole.f partWhole
  refine Ev.bind (impl_partOk ps u hb) ?_
  cases h : partOk ps u
  · simp only [Bool.false_eq_true, if_false]; exact Ev.now _
  · simp only [if_true]
    refine Ev.bind (impl_whole_ ps u hb (partOk_pos h)) ?_
    exact Ev.now _
theorem spec_whole_l (ps : List Pk) (u : Int) (hb : bpl ps) (a0 a1 a2 a3 a4 a5 : Int) (a6 a7 : Bool) (d : Nat) : ∀ i : Nat, i + d = ps.length →
    Ev (fun k => spec_PartWhole.l0 k (i : Int) ps u a0 a1 a2 a3 a4 a5 a6 a7 (dataTo ps i)) (if contFrom ps i d then (a0, a1, a2, a3, a4, a5, a6, a7, dataTo ps ps.length, true) else noWh) := by
  have hl := hb.1
  induction d with
  | zero =>
    intro i hi
    obtain rfl : i = ps.length := by omega
    refine Ev.succ ?_
    simp only [spec_PartWhole.l0, if_neg (show ¬ (ps.length : Int) < (ps.length : Int) by omega), contFrom_zero, if_true]
    exact Ev.now _
  | succ d ih =>
    intro i hi
    have hi2 : i < ps.length := by omega
    have hsl := sumTo_le ps hb i (by omega)
    have hq := (hb.2 ps[i] (List.getElem_mem hi2)).1
    have h1 := ih (i + 1) (by omega)
    rw [contFrom_succ, contAt_eq ps i hi2]
    refine Ev.succ ?_
    have hdl : ((dataTo ps i).length : Int) = (sumTo ps i : Int) := by rw [dataTo_length]
    simp only [spec_PartWhole.l0, if_pos (show (i : Int) < (ps.length : Int) by omega), if_pos (show (0 : Int) ≤ (i : Int) by omega), rdp ps i hi2, hdl]
    by_cases hc : ps[i].f5 = (sumTo ps i : Int)
    · simp only [if_pos hc, decide_eq_true hc, Bool.true_and, if_pos (show (dataTo ps i).length + ps[i].f8.length < 140737488355328 by rw [dataTo_length]; omega)]
      rw [wrap_id (x := (i : Int) + 1) (by omega) (by omega)]
      rw [dataTo_succ ps i hi2] at h1
      exact h1
    · simp only [if_neg hc, decide_eq_false hc, Bool.false_and, Bool.false_eq_true, if_false]; exact Ev.now _
theorem spec_partWhole (ps : List Pk) (u : Int) (hb : bpl ps) : Ev (fun k => spec_PartWhole.f k ps u) (partWhole ps u) := by
  have hl := hb.1
  unfold spec_PartWhole.f partWhole
  refine Ev.bind (spec_partOk ps u hb) ?_
  cases h : partOk ps u
  · simp only [Bool.false_eq_true, if_false]
    refine Ev.succ ?_
    simp only [spec_PartWhole.j0, if_true]
    exact Ev.now _
  · simp only [if_true]
    have hn := partOk_pos h
    have hw : wrap64 ((ps.length : Int) - 1) = ((ps.length - 1 : Nat) : Int) := by rw [wrap_id (by omega) (by omega)]; omega
    have hr := rdp ps (ps.length - 1) (by omega)
    have hr0 : rd_T28 ps 0 = ps[0]'(by omega) := rdp ps 0 (by omega)
    simp only [hw, if_pos (show (0 : Int) ≤ ((ps.length - 1 : Nat) : Int) by omega), if_pos (show ((ps.length - 1 : Nat) : Int) < (ps.length : Int) by omega), hr]
    rw [whole_eq ps hn, lastMore_eq ps hn]
    refine Ev.succ ?_
    simp only [spec_PartWhole.j0]
    cases (ps[ps.length - 1]'(by omega)).f6
    · simp only [Bool.false_eq_true, if_false, Bool.not_false, Bool.and_true, if_pos (show (0 : Int) < (ps.length : Int) by omega), hr0]
      have h2 := spec_whole_l ps u hb (ps[0]'hn).f0 (ps[0]'hn).f1 (ps[0]'hn).f2 (ps[0]'hn).f3 (ps[0]'hn).f4 (ps[0]'hn).f5 false (ps[0]'hn).f7 ps.length 0 (by omega)
      rw [dataTo_zero] at h2
      exact h2
    · simp only [if_true, Bool.not_true, Bool.and_false, Bool.false_eq_true, if_false]; exact Ev.now _

/-! pieces: bounds alone -/
theorem mn_le (a b : Int) : mn a b ≤ a ∧ mn a b ≤ b ∧ (mn a b = a ∨ mn a b = b) := by unfold mn; split <;> omega
theorem cut_l (lim : Nat) (l : List Int) (a0 a1 a2 a3 a4 a5 : Int) (a6 a7 : Bool) (hl : l.length ≤ 48) (h1 : 1 ≤ lim) (h2 : lim ≤ 48) (h5 : 0 ≤ a5) (h5b : a5 ≤ 255) (d : Nat) : ∀ (i : Nat) (acc : List Pk), l.length < i + d → acc.length ≤ 500 - d → d ≤ 100 → (∀ q ∈ acc, bp q) →
    ∃ r b, Ev (fun k => spec_PacketCut.l0 k (lim : Int) acc (i : Int) a0 a1 a2 a3 a4 a5 a6 a7 l) (r, b) ∧ r.length ≤ acc.length + d ∧ (∀ q ∈ r, bp q) ∧ (a5 + 48 ≤ 255 → (i = 0 ∨ acc ≠ []) → r ≠ []) := by
  induction d with
  | zero =>
    intro i acc hi _ _ ha
    refine ⟨acc, true, Ev.succ (Ev.succ ?_), by omega, ha, fun _ h => h.resolve_left (by omega)⟩
    simp only [spec_PacketCut.l0, if_neg (show ¬ (i : Int) = 0 by omega), spec_PacketCut.j2, decide_eq_false (show ¬ (i : Int) < (l.length : Int) by omega), Bool.false_eq_true, if_false]
    exact Ev.now _
  | succ d ih =>
    intro i acc hi hacc hd ha
    by_cases hc : i = 0 ∨ i < l.length
    · have hi48 : i ≤ 48 := by omega
      have hw : wrap64 ((i : Int) + (lim : Int)) = ((i + lim : Nat) : Int) := by rw [wrap_id (by omega) (by omega)]; omega
      obtain ⟨m1, m2, m3⟩ := mn_le (wrap64 ((i : Int) + (lim : Int))) (l.length : Int)
      have m4 : (i : Int) ≤ mn (wrap64 ((i : Int) + (lim : Int))) (l.length : Int) := by
        rw [hw] at m3 ⊢; rcases m3 with m3 | m3 <;> rw [m3] <;> omega
      rw [hw] at m2 m4
      have hjj : ∃ r b, Ev (fun k => spec_PacketCut.j2 k (lim : Int) acc (i : Int) true a0 a1 a2 a3 a4 a5 a6 a7 l) (r, b) ∧ r.length ≤ acc.length + (d + 1) ∧ (∀ q ∈ r, bp q) ∧ (a5 + 48 ≤ 255 → (i = 0 ∨ acc ≠ []) → r ≠ []) := by
        by_cases hbig : wrap64 (a5 + (i : Int)) > 255
        · refine ⟨[], false, Ev.succ ?_, by simp, by simp, ?_⟩
          · simp only [spec_PacketCut.j2, hw, if_true, Option.bind_some, if_pos (show (0 : Int) ≤ (i : Int) by omega), if_pos m4, if_pos m2, if_pos hbig]
            have hlen : ∀ e : Int, ([] : List Int).length + ((l.take e.toNat).drop (i : Int).toNat).length < 140737488355328 := by
              intro e; simp only [List.length_drop, List.length_take, List.length_nil]; omega
            simp only [if_pos (hlen _)]
            cases a6
            · simp only [Bool.false_eq_true, if_false]; exact Ev.now _
            · simp only [if_true]; exact Ev.now _
          · intro hs _
            rw [wrap_id (by omega) (by omega)] at hbig
            omega
        · have hw5 : wrap64 (a5 + (i : Int)) = a5 + (i : Int) := wrap_id (by omega) (by omega)
          rw [hw5] at hbig
          have hlen : ∀ e : Int, ((l.take e.toNat).drop (i : Int).toNat).length ≤ 48 := by
            intro e; simp only [List.length_drop, List.length_take]; omega
          have hlen0 : ∀ e : Int, ([] : List Int).length + ((l.take e.toNat).drop (i : Int).toNat).length < 140737488355328 := by
            intro e; have := hlen e; simp only [List.length_nil]; omega
          have key : ∀ m : Bool, ∃ r b, Ev (fun k => spec_PacketCut.l0 k (lim : Int) (acc ++ [(⟨a0, a1, a2, a3, a4, a5 + (i : Int), m, a7, [] ++ (l.take (mn ((i + lim : Nat) : Int) (l.length : Int)).toNat).drop (i : Int).toNat⟩ : Pk)]) ((i + lim : Nat) : Int) a0 a1 a2 a3 a4 a5 a6 a7 l) (r, b) ∧ r.length ≤ acc.length + (d + 1) ∧ (∀ q ∈ r, bp q) ∧ (a5 + 48 ≤ 255 → (i = 0 ∨ acc ≠ []) → r ≠ []) := by
            intro m
            have hbn : ∀ q ∈ acc ++ [(⟨a0, a1, a2, a3, a4, a5 + (i : Int), m, a7, [] ++ (l.take (mn ((i + lim : Nat) : Int) (l.length : Int)).toNat).drop (i : Int).toNat⟩ : Pk)], bp q := by
              intro q hq
              rw [List.mem_append, List.mem_singleton] at hq
              rcases hq with hq | rfl
              · exact ha q hq
              · refine ⟨?_, ?_, ?_⟩
                · have := hlen (mn ((i + lim : Nat) : Int) (l.length : Int)); simp only [List.nil_append]; omega
                · show -1000000 ≤ a5 + (i : Int); omega
                · show a5 + (i : Int) ≤ 1000000; omega
            obtain ⟨r, b, e, e1, e2, e3⟩ := ih (i + lim) _ (by omega) (by rw [List.length_append, List.length_singleton]; omega) (by omega) hbn
            refine ⟨r, b, e, by rw [List.length_append, List.length_singleton] at e1; omega, e2, fun hs _ => e3 hs (Or.inr (by simp))⟩
          cases a6
          · obtain ⟨r, b, e, e1, e2, e3⟩ := key (decide (mn ((i + lim : Nat) : Int) (l.length : Int) < (l.length : Int)))
            refine ⟨r, b, Ev.succ ?_, e1, e2, e3⟩
            simp only [spec_PacketCut.j2, hw, if_true, Option.bind_some, Bool.false_eq_true, if_false, if_pos (show (0 : Int) ≤ (i : Int) by omega), if_pos m4, if_pos m2, hw5, if_neg hbig, if_pos (hlen0 _), if_pos (show acc.length < 1759218604441 by omega)]
            exact e
          · obtain ⟨r, b, e, e1, e2, e3⟩ := key true
            refine ⟨r, b, Ev.succ ?_, e1, e2, e3⟩
            simp only [spec_PacketCut.j2, hw, if_true, Option.bind_some, if_pos (show (0 : Int) ≤ (i : Int) by omega), if_pos m4, if_pos m2, hw5, if_neg hbig, if_pos (hlen0 _), if_pos (show acc.length < 1759218604441 by omega)]
            exact e
      obtain ⟨r, b, e, e1, e2, e3⟩ := hjj
      refine ⟨r, b, Ev.succ ?_, e1, e2, e3⟩
      simp only [spec_PacketCut.l0]
      by_cases h0 : (i : Int) = 0
      · simp only [if_pos h0]; exact e
      · simp only [if_neg h0, decide_eq_true (show (i : Int) < (l.length : Int) by omega)]; exact e
    · refine ⟨acc, true, Ev.succ (Ev.succ ?_), by omega, ha, fun _ h => h.resolve_left (by omega)⟩
      simp only [spec_PacketCut.l0, if_neg (show ¬ (i : Int) = 0 by omega), spec_PacketCut.j2, decide_eq_false (show ¬ (i : Int) < (l.length : Int) by omega), Bool.false_eq_true, if_false]
      exact Ev.now _
theorem cut_ (p : Pk) (lim : Int) (h1 : 1 ≤ lim) (h2 : lim ≤ 48) : ∃ r b, Ev (fun k => spec_PacketCut.f k p.f0 p.f1 p.f2 p.f3 p.f4 p.f5 p.f6 p.f7 p.f8 lim) (r, b) ∧ r.length ≤ 60 ∧ (∀ q ∈ r, bp q) ∧ (pok p = true → p.f7 = false → p.f5 + 48 ≤ 255 → r ≠ []) := by
  obtain ⟨n, rfl⟩ := Int.eq_ofNat_of_zero_le (show 0 ≤ lim by omega)
  have hj : ∀ acc : List Pk, Ev (fun k => spec_PacketCut.j0 k (n : Int) acc true p.f0 p.f1 p.f2 p.f3 p.f4 p.f5 p.f6 p.f7 p.f8) (acc, false) := by
    intro acc; refine Ev.succ ?_; simp only [spec_PacketCut.j0, if_true]; exact Ev.now _
  have hin : inb (n : Int) 1 48 = true := inb_iff.2 ⟨h1, h2⟩
  unfold spec_PacketCut.f
  cases hp : pok p
  · refine ⟨[], false, ?_, by simp, by simp, fun h => by cases h⟩
    simp only [Option.bind_some]
    refine Ev.bind (spec_packetOk' p) ?_
    rw [hp]
    simp only [Bool.false_eq_true, if_false]
    exact hj []
  · have hp' := hp
    unfold pok at hp'
    simp only [Bool.and_eq_true, inb_iff, decide_eq_true_eq] at hp'
    obtain ⟨_, _, _, _, _, q5, q8, _⟩ := hp'
    by_cases hx : (p.f8.length : Int) > (n : Int) ∧ p.f7 = true
    · refine ⟨[], false, ?_, by simp, by simp, fun _ h => by rw [h] at hx; exact absurd hx.2 (by simp)⟩
      simp only [Option.bind_some]
      refine Ev.bind (spec_packetOk' p) ?_
      rw [hp]
      simp only [if_true, spec_in_, Option.bind_some, hin, if_pos hx.1]
      rw [hx.2]
      have := hj []
      rw [hx.2] at this
      exact this
    · obtain ⟨r, b, e, e1, e2, e3⟩ := cut_l n p.f8 p.f0 p.f1 p.f2 p.f3 p.f4 p.f5 p.f6 p.f7 (by omega) (by omega) (by omega) q5.1 q5.2 (p.f8.length + 1) 0 [] (by omega) (by simp) (by omega) (by simp)
      have hj2 : Ev (fun k => spec_PacketCut.j0 k (n : Int) [] false p.f0 p.f1 p.f2 p.f3 p.f4 p.f5 p.f6 p.f7 p.f8) (r, b) := by
        refine Ev.succ ?_; simp only [spec_PacketCut.j0, Bool.false_eq_true, if_false]; exact e
      refine ⟨r, b, ?_, by simp at e1; omega, e2, fun _ _ h => e3 h (Or.inl rfl)⟩
      simp only [Option.bind_some]
      refine Ev.bind (spec_packetOk' p) ?_
      rw [hp]
      simp only [if_true, spec_in_, Option.bind_some, hin]
      by_cases hg : (p.f8.length : Int) > (n : Int)
      · simp only [if_pos hg]
        have h7 : p.f7 = false := Bool.eq_false_iff.mpr (fun h => hx ⟨hg, h⟩)
        rw [h7] at hj2 ⊢
        exact hj2
      · simp only [if_neg hg]; exact hj2

/-! drawing -/
theorem xor_nn (a b : Int) (a0 : 0 ≤ a) (a1 : a < 9223372036854775808) (b0 : 0 ≤ b) (b1 : b < 9223372036854775808) : 0 ≤ Go.bits .xor .i64 a b ∧ Go.bits .xor .i64 a b < 9223372036854775808 := by
  obtain ⟨x, rfl⟩ := Int.eq_ofNat_of_zero_le a0
  obtain ⟨y, rfl⟩ := Int.eq_ofNat_of_zero_le b0
  have hx : x < 2 ^ 63 := by omega
  have hy : y < 2 ^ 63 := by omega
  have hxy : x ^^^ y < 2 ^ 63 := Nat.xor_lt_two_pow hx hy
  have h1 : (BitVec.ofInt 64 (x : Int)).toNat = x := by
    rw [BitVec.ofInt_natCast, BitVec.toNat_ofNat]; exact Nat.mod_eq_of_lt (by omega)
  have h2 : (BitVec.ofInt 64 (y : Int)).toNat = y := by
    rw [BitVec.ofInt_natCast, BitVec.toNat_ofNat]; exact Nat.mod_eq_of_lt (by omega)
  have h3 : Go.bits .xor .i64 (x : Int) (y : Int) = ((x ^^^ y : Nat) : Int) := by
    show IntKind.i64.wrap ((BitVec.ofInt 64 (x : Int) ^^^ BitVec.ofInt 64 (y : Int)).toNat : Int) = _
    rw [BitVec.toNat_xor, h1, h2, IntKind.wrap_i64]
    omega
  rw [h3]
  omega
theorem tmod_in (x n : Int) (h0 : 0 ≤ x) (hn : 1 ≤ n) : 0 ≤ Int.tmod x n ∧ Int.tmod x n < n := by
  rw [Int.tmod_eq_emod_of_nonneg h0]
  exact ⟨Int.emod_nonneg _ (by omega), Int.emod_lt_of_pos _ (by omega)⟩
theorem tdiv_in (x n : Int) (h0 : 0 ≤ x) (hn : 1 ≤ n) : 0 ≤ Int.tdiv x n ∧ Int.tdiv x n ≤ x := by
  rw [Int.tdiv_eq_ediv_of_nonneg h0]
  exact ⟨Int.ediv_nonneg h0 (by omega), Int.ediv_le_self _ h0⟩
theorem rd_byte {s : List Int} (hb : isBytes s) (i : Int) : 0 ≤ rd s i ∧ rd s i ≤ 255 := by
  unfold rd
  rw [List.getD_eq_getElem?_getD]
  by_cases h : i.toNat < s.length
  · rw [List.getElem?_eq_getElem h]; exact hb _ (List.getElem_mem h)
  · rw [List.getElem?_eq_none (by omega)]; exact ⟨Int.le_refl _, by decide⟩
theorem pick (s : List Int) (p n : Int) (hb : isBytes s) (hl : s.length ≤ 2000) (h0 : 0 ≤ p) (hp : p ≤ 1000000000) (hn : 1 ≤ n) (hn1 : n ≤ 1000000000) :
    ∃ r, Ev (fun k => spec_l20Rd_pick.f k s p n) (r, p + 1) ∧ 0 ≤ r ∧ r < n := by
  unfold spec_l20Rd_pick.f
  simp only [if_neg (show ¬ n < 1 by omega)]
  rw [wrap_id (x := p + 1) (by omega) (by omega)]
  by_cases hs : s.length = 0
  · refine ⟨0, Ev.succ ?_, by omega, by omega⟩
    simp only [spec_l20Rd_pick.j0, hs, Int.natCast_zero, beq_self_eq_true, if_true]
    exact Ev.now _
  · have hz : ((s.length : Int) == 0) = false := by rw [beq_eq_false_iff_ne]; omega
    simp only [hz]
    by_cases h1 : p < (s.length : Int)
    · have hx := rd_byte hb p
      have hm := tmod_in (rd s p) n hx.1 hn
      refine ⟨Int.tmod (rd s p) n, Ev.succ ?_, hm.1, hm.2⟩
      simp only [spec_l20Rd_pick.j0, Bool.false_eq_true, if_false, show p + 1 - 1 = p by omega]
      rw [wrap_id (x := p) (by omega) (by omega), wrap_id (x := rd s p) (by omega) (by omega)]
      simp only [if_pos h1, if_pos h0, if_neg (show ¬ n = 0 by omega)]
      exact Ev.now _
    · have m1 := tmod_in p s.length h0 (by omega)
      have m2 := tmod_in (p * 7 + 3) s.length (by omega) (by omega)
      have d1 := tdiv_in p s.length h0 (by omega)
      have x1 := rd_byte hb (Int.tmod p s.length)
      have x2 := rd_byte hb (Int.tmod (p * 7 + 3) s.length)
      let v := rd s (Int.tmod p s.length) * 131 + rd s (Int.tmod (p * 7 + 3) s.length) * 1117 + p * 29 + Int.tdiv p s.length * 53
      have v0 : 0 ≤ v := by show 0 ≤ _ + _ + _ + _; omega
      have v1 : v < 9223372036854775808 := by show _ + _ + _ + _ < _; omega
      have d2 := tdiv_in v 64 v0 (by omega)
      have b1 := xor_nn v (Int.tdiv v 64) v0 v1 d2.1 (by omega)
      have hm := tmod_in (Go.bits .xor .i64 v (Int.tdiv v 64)) n b1.1 hn
      refine ⟨_, Ev.succ ?_, hm.1, hm.2⟩
      simp only [spec_l20Rd_pick.j0, Bool.false_eq_true, if_false, show p + 1 - 1 = p by omega]
      rw [wrap_id (x := p) (by omega) (by omega)]
      rw [wrap_id (x := p * 7) (by omega) (by omega), wrap_id (x := p * 7 + 3) (by omega) (by omega), wrap_id (x := p * 29) (by omega) (by omega), wrap_id (x := rd s (Int.tmod p s.length)) (by omega) (by omega),
        wrap_id (x := rd s (Int.tmod (p * 7 + 3) s.length)) (by omega) (by omega), wrap_id (x := rd s (Int.tmod p s.length) * 131) (by omega) (by omega), wrap_id (x := rd s (Int.tmod (p * 7 + 3) s.length) * 1117) (by omega) (by omega),
        wrap_id (x := rd s (Int.tmod p s.length) * 131 + rd s (Int.tmod (p * 7 + 3) s.length) * 1117) (by omega) (by omega), wrap_id (x := rd s (Int.tmod p s.length) * 131 + rd s (Int.tmod (p * 7 + 3) s.length) * 1117 + p * 29) (by omega) (by omega),
        wrap_id (x := Int.tdiv p s.length) (by omega) (by omega), wrap_id (x := Int.tdiv p s.length * 53) (by omega) (by omega), wrap_id (x := rd s (Int.tmod p s.length) * 131 + rd s (Int.tmod (p * 7 + 3) s.length) * 1117 + p * 29 + Int.tdiv p s.length * 53) (by omega) (by omega)]
      simp only [if_neg h1, if_neg (show ¬ (s.length : Int) = 0 by omega), if_pos m1.1, if_pos m1.2, if_pos m2.1, if_pos m2.2, if_neg (show ¬ n = 0 by omega)]
      rw [wrap_id (x := Int.tdiv v 64) (by omega) (by omega)]
      exact Ev.now _
theorem odd (s : List Int) (p n : Int) (hb : isBytes s) (hl : s.length ≤ 2000) (h0 : 0 ≤ p) (hp : p ≤ 1000000000) (hn1 : n ≤ 1000000000) :
    ∃ b q, Ev (fun k => spec_l20Rd_odd.f k s p n) (b, q) ∧ 0 ≤ q ∧ q ≤ p + 1 := by
  unfold spec_l20Rd_odd.f
  by_cases h : n > 0
  · simp only [if_pos h]
    obtain ⟨r, e, _, _⟩ := pick s p n hb hl h0 hp (by omega) hn1
    exact ⟨_, _, Ev.bind e (Ev.now _), by omega, by omega⟩
  · simp only [if_neg h]
    exact ⟨_, _, Ev.now _, h0, by omega⟩
theorem open_ (l : List Int) (hb : isBytes l) : ∃ s, spec_l20Open.f l = some (s, 0) ∧ isBytes s ∧ s.length ≤ 2000 := by
  unfold spec_l20Open.f
  by_cases h : (l.length : Int) > 2000
  · simp only [if_pos h, if_pos (show (2000 : Int) ≤ (l.length : Int) by omega)]
    exact ⟨_, rfl, fun x hx => hb x (List.mem_of_mem_take hx), by simp; omega⟩
  · simp only [if_neg h]
    exact ⟨_, rfl, hb, by omega⟩

/-! drawing bytes -/
theorem isBytes_snoc {l : List Int} {v : Int} (h : isBytes l) (hv : 0 ≤ v ∧ v ≤ 255) : isBytes (l ++ [v]) := by
  intro y hy
  rw [List.mem_append] at hy
  rcases hy with hy | hy
  · exact h y hy
  · rw [List.mem_singleton] at hy; omega
theorem bytes_l (s : List Int) (hb : isBytes s) (hl : s.length ≤ 2000) (n : Nat) : ∀ (acc : List Int) (p : Int), isBytes acc → n + acc.length ≤ 100000 → 0 ≤ p → p + 2 * n ≤ 1000000000 →
    ∃ x q, Ev (fun k => spec_l20Rd_bytes.l0 k n acc s p) (x, q) ∧ isBytes x ∧ x.length = n + acc.length ∧ 0 ≤ q ∧ q ≤ p + 2 * n := by
  induction n with
  | zero =>
    intro acc p ha _ h0 _
    refine ⟨acc, p, Ev.succ ?_, ha, by omega, h0, by omega⟩
    simp only [spec_l20Rd_bytes.l0]
    exact Ev.now _
  | succ n ih =>
    intro acc p ha hn h0 hp
    obtain ⟨r1, e1, r10, r11⟩ := pick s p 3 hb hl h0 (by omega) (by omega) (by omega)
    by_cases h1 : r1 = 0
    · obtain ⟨r2, e2, r20, r21⟩ := pick s (p + 1) 256 hb hl (by omega) (by omega) (by omega) (by omega)
      obtain ⟨x, q, e, hx, hxl, hq0, hq1⟩ := ih (acc ++ [r2 % 256]) (p + 1 + 1) (isBytes_snoc ha (by omega)) (by simp; omega) (by omega) (by omega)
      refine ⟨x, q, Ev.succ ?_, hx, by simp at hxl; omega, hq0, by omega⟩
      simp only [spec_l20Rd_bytes.l0, if_pos (show ((n + 1 : Nat) : Int) > 0 by omega)]
      refine Ev.bind e1 ?_
      simp only [if_pos h1]
      refine Ev.bind e2 ?_
      simp only [if_pos (show acc.length < 140737488355328 by omega)]
      rw [wrap_id (x := ((n + 1 : Nat) : Int) - 1) (by omega) (by omega), show ((n + 1 : Nat) : Int) - 1 = (n : Int) by omega]
      exact e
    · obtain ⟨r2, e2, r20, r21⟩ := pick s (p + 1) 3 hb hl (by omega) (by omega) (by omega) (by omega)
      obtain ⟨x, q, e, hx, hxl, hq0, hq1⟩ := ih (acc ++ [wrap64 (r2 + 97) % 256]) (p + 1 + 1) (isBytes_snoc ha (by omega)) (by simp; omega) (by omega) (by omega)
      refine ⟨x, q, Ev.succ ?_, hx, by simp at hxl; omega, hq0, by omega⟩
      simp only [spec_l20Rd_bytes.l0, if_pos (show ((n + 1 : Nat) : Int) > 0 by omega)]
      refine Ev.bind e1 ?_
      simp only [if_neg h1]
      refine Ev.bind e2 ?_
      simp only [if_pos (show acc.length < 140737488355328 by omega)]
      rw [wrap_id (x := ((n + 1 : Nat) : Int) - 1) (by omega) (by omega), show ((n + 1 : Nat) : Int) - 1 = (n : Int) by omega]
      exact e
theorem bytes_ (s : List Int) (n p : Int) (hb : isBytes s) (hl : s.length ≤ 2000) (hn0 : 0 ≤ n) (hn : n ≤ 100000) (h0 : 0 ≤ p) (hp : p ≤ 999000000) :
    ∃ x q, Ev (fun k => spec_l20Rd_bytes.f k s p n) (x, q) ∧ isBytes x ∧ (x.length : Int) = n ∧ 0 ≤ q ∧ q ≤ p + 2 * n := by
  obtain ⟨m, rfl⟩ := Int.eq_ofNat_of_zero_le hn0
  obtain ⟨x, q, e, h1, h2, h3, h4⟩ := bytes_l s hb hl m [] p (by intro y hy; cases hy) (by simp; omega) h0 (by omega)
  exact ⟨x, q, e, h1, by simp at h2; omega, h3, h4⟩

/-! a packet that is drawn -/
theorem packet0_ (c : List Int) (p : Int) (hb : isBytes c) (hl : c.length ≤ 2000) (h0 : 0 ≤ p) (hp : p ≤ 900000000) :
    ∃ a0 a1 a2 a3 a4 a5 a6 a7 l q, Ev (fun k => spec_l20Packet.f k c p 0) (a0, a1, a2, a3, a4, a5, a6, a7, l, q) ∧ (0 ≤ a0 ∧ a0 ≤ 4) ∧ (0 ≤ a1 ∧ a1 ≤ 4) ∧ (0 ≤ a2 ∧ a2 ≤ 3) ∧ (0 ≤ a3 ∧ a3 ≤ 5) ∧ (0 ≤ a4 ∧ a4 ≤ 3) ∧ (0 ≤ a5 ∧ a5 ≤ 20) ∧ l.length ≤ 12 ∧ 0 ≤ q ∧ q ≤ p + 60 := by
  obtain ⟨r1, e1, x1, y1⟩ := pick c p 5 hb hl h0 (by omega) (by omega) (by omega)
  obtain ⟨r2, e2, x2, y2⟩ := pick c (p + 1) 5 hb hl (by omega) (by omega) (by omega) (by omega)
  obtain ⟨r3, e3, x3, y3⟩ := pick c (p + 1 + 1) 4 hb hl (by omega) (by omega) (by omega) (by omega)
  obtain ⟨r4, e4, x4, y4⟩ := pick c (p + 1 + 1 + 1) 6 hb hl (by omega) (by omega) (by omega) (by omega)
  obtain ⟨r5, e5, x5, y5⟩ := pick c (p + 1 + 1 + 1 + 1) 4 hb hl (by omega) (by omega) (by omega) (by omega)
  obtain ⟨r6, e6, x6, y6⟩ := pick c (p + 1 + 1 + 1 + 1 + 1) 12 hb hl (by omega) (by omega) (by omega) (by omega)
  obtain ⟨l, q7, e7, hbl, hll, x7, y7⟩ := bytes_ c r6 (p + 1 + 1 + 1 + 1 + 1 + 1) hb hl x6 (by omega) (by omega) (by omega)
  obtain ⟨r8, e8, x8, y8⟩ := pick c q7 4 hb hl x7 (by omega) (by omega) (by omega)
  have hj : ∀ (q : Int) (a5 : Int) (a6 a7 : Bool), Ev (fun k => spec_l20Packet.j0 k 0 c q r1 r2 r3 r4 r5 a5 a6 a7 l) (r1, r2, r3, r4, r5, a5, a6, a7, l, q) := by
    intro q a5 a6 a7
    refine Ev.succ ?_
    simp only [spec_l20Packet.j0, spec_l20Rd_odd.f, if_neg (show ¬ (0 : Int) > 0 by omega), Option.bind_some, Bool.false_eq_true, if_false]
    exact Ev.now _
  unfold spec_l20Packet.f
  by_cases c0 : r8 = 0
  · refine ⟨r1, r2, r3, r4, r5, 0, false, true, l, q7 + 1, Ev.bind e1 (Ev.bind e2 (Ev.bind e3 (Ev.bind e4 (Ev.bind e5 (Ev.bind e6 (Ev.bind e7 (Ev.bind e8 ?_))))))), by omega, by omega, by omega, by omega, by omega, by omega, by omega, by omega, by omega⟩
    simp only [if_pos c0]; exact hj _ _ _ _
  · by_cases c1 : r8 = 1
    · obtain ⟨r9, e9, x9, y9⟩ := pick c (q7 + 1) 20 hb hl (by omega) (by omega) (by omega) (by omega)
      by_cases cl : (l.length : Int) > 0
      · obtain ⟨r10, e10, x10, y10⟩ := pick c (q7 + 1 + 1) 2 hb hl (by omega) (by omega) (by omega) (by omega)
        refine ⟨r1, r2, r3, r4, r5, r9, r10 == 0, false, l, q7 + 1 + 1 + 1, Ev.bind e1 (Ev.bind e2 (Ev.bind e3 (Ev.bind e4 (Ev.bind e5 (Ev.bind e6 (Ev.bind e7 (Ev.bind e8 ?_))))))), by omega, by omega, by omega, by omega, by omega, by omega, by omega, by omega, by omega⟩
        simp only [if_neg c0, if_pos c1]
        refine Ev.bind e9 ?_
        simp only [if_pos cl]
        exact Ev.bind e10 (hj _ _ _ _)
      · refine ⟨r1, r2, r3, r4, r5, r9, false, false, l, q7 + 1 + 1, Ev.bind e1 (Ev.bind e2 (Ev.bind e3 (Ev.bind e4 (Ev.bind e5 (Ev.bind e6 (Ev.bind e7 (Ev.bind e8 ?_))))))), by omega, by omega, by omega, by omega, by omega, by omega, by omega, by omega, by omega⟩
        simp only [if_neg c0, if_pos c1]
        refine Ev.bind e9 ?_
        simp only [if_neg cl]
        exact hj _ _ _ _
    · refine ⟨r1, r2, r3, r4, r5, 0, false, false, l, q7 + 1, Ev.bind e1 (Ev.bind e2 (Ev.bind e3 (Ev.bind e4 (Ev.bind e5 (Ev.bind e6 (Ev.bind e7 (Ev.bind e8 ?_))))))), by omega, by omega, by omega, by omega, by omega, by omega, by omega, by omega, by omega⟩
      simp only [if_neg c0, if_neg c1]; exact hj _ _ _ _
/-- a long packet that may be cut -/
theorem long_ (c : List Int) (p : Int) (hb : isBytes c) (hl : c.length ≤ 2000) (h0 : 0 ≤ p) (hp : p ≤ 800000000) :
    ∃ (z : Pk) (q : Int), Ev (fun k => spec_l20Long.f k c p) (z.f0, z.f1, z.f2, z.f3, z.f4, z.f5, z.f6, z.f7, z.f8, q) ∧ pok z = true ∧ z.f7 = false ∧ z.f6 = false ∧ z.f5 = 0 ∧ z.f8.length ≤ 22 ∧ 0 ≤ q ∧ q ≤ p + 200 := by
  obtain ⟨a0, a1, a2, a3, a4, a5, a6, a7, l, q, e, b0, b1, b2, b3, b4, b5, hll, q0, q1⟩ := packet0_ c p hb hl h0 (by omega)
  obtain ⟨r, er, x, y⟩ := pick c q 20 hb hl q0 (by omega) (by omega) (by omega)
  obtain ⟨s, q2, e2, hbs, hsl, x2, y2⟩ := bytes_ c (2 + r) (q + 1) hb hl (by omega) (by omega) (by omega) (by omega)
  refine ⟨⟨a0, a1, a2, a3, a4, 0, false, false, s⟩, q2, ?_, ?_, rfl, rfl, rfl, by show s.length ≤ 22; omega, x2, by omega⟩
  · unfold spec_l20Long.f
    refine Ev.bind e (Ev.bind er ?_)
    simp only []
    rw [wrap_id (x := 2 + r) (by omega) (by omega)]
    exact Ev.bind e2 (Ev.now _)
  · unfold pok
    simp only [Bool.and_eq_true, inb_iff, decide_eq_true_eq, Bool.not_false, Bool.true_or, and_true]
    omega

/-! a part that is drawn: bounds alone -/
theorem part_l (c : List Int) (hb : isBytes c) (hl : c.length ≤ 2000) (ps : List Pk) (hn : 0 < ps.length) (hps : ps.length ≤ 100) (hbp : ∀ q ∈ ps, bp q) (u : Int) (d : Nat) : ∀ (i : Nat) (p : Int) (acc : List Pk), i + d = ps.length → (d = 0 → acc ≠ []) → acc.length ≤ i → (∀ q ∈ acc, bp q) → 0 ≤ p → p + 10 * d ≤ 900000000 →
    ∃ r q, Ev (fun k => spec_l20Part.l0 k 8 ps (i : Int) c p acc u) (r, u, q) ∧ bpl r ∧ 0 ≤ q ∧ q ≤ p + 10 * d + 10 := by
  induction d with
  | zero =>
    intro i p acc hi hne hacc ha h0 hp
    obtain rfl : i = ps.length := by omega
    have hne' := hne rfl
    have hpos : 0 < acc.length := List.length_pos_iff.mpr hne'
    have hr0 : rd_T28 acc 0 = acc[0]'hpos := rdp acc 0 hpos
    have hb0 := ha (acc[0]'hpos) (List.getElem_mem hpos)
    have hset : ∀ z : Pk, bp z → ∀ q ∈ acc.set (0 : Int).toNat z, bp q := by
      intro z hz q hq
      rcases List.mem_or_eq_of_mem_set hq with h | h
      · exact ha q h
      · rw [h]; exact hz
    obtain ⟨o, q, e, q0, q1⟩ := odd c p 8 hb hl h0 (by omega) (by omega)
    cases o with
    | false =>
      refine ⟨acc, q, Ev.succ ?_, ⟨by omega, ha⟩, q0, by omega⟩
      simp only [spec_l20Part.l0, if_neg (show ¬ (ps.length : Int) < (ps.length : Int) by omega)]
      refine Ev.bind e ?_
      simp only [Bool.false_eq_true, if_false]
      exact Ev.now _
    | true =>
      obtain ⟨r1, e1, x1, y1⟩ := pick c q 4 hb hl q0 (by omega) (by omega) (by omega)
      by_cases c0 : r1 = 0
      · obtain ⟨r2, e2, x2, y2⟩ := pick c (q + 1) 9 hb hl (by omega) (by omega) (by omega) (by omega)
        refine ⟨_, q + 1 + 1, Ev.succ ?_, ⟨?_, hset ⟨(acc[0]'hpos).f0, (acc[0]'hpos).f1, (acc[0]'hpos).f2, (acc[0]'hpos).f3, (acc[0]'hpos).f4, r2, (acc[0]'hpos).f6, (acc[0]'hpos).f7, (acc[0]'hpos).f8⟩ ⟨hb0.1, by show -1000000 ≤ r2; omega, by show r2 ≤ 1000000; omega⟩⟩, by omega, by omega⟩
        · simp only [spec_l20Part.l0, if_neg (show ¬ (ps.length : Int) < (ps.length : Int) by omega)]
          refine Ev.bind e ?_
          simp only [if_true]
          refine Ev.bind e1 ?_
          simp only [if_pos c0]
          refine Ev.bind e2 ?_
          simp only [if_pos (show (0 : Int) < (acc.length : Int) by omega), hr0]
          exact Ev.now _
        · rw [List.length_set]; omega
      · by_cases c1 : r1 = 1
        · refine ⟨_, q + 1, Ev.succ ?_, ⟨?_, hset ⟨(acc[0]'hpos).f0, (acc[0]'hpos).f1, (acc[0]'hpos).f2, (acc[0]'hpos).f3, (acc[0]'hpos).f4, (acc[0]'hpos).f5, false, (acc[0]'hpos).f7, (acc[0]'hpos).f8⟩ hb0⟩, by omega, by omega⟩
          · simp only [spec_l20Part.l0, if_neg (show ¬ (ps.length : Int) < (ps.length : Int) by omega)]
            refine Ev.bind e ?_
            simp only [if_true]
            refine Ev.bind e1 ?_
            simp only [if_neg c0, if_pos c1, if_pos (show (0 : Int) < (acc.length : Int) by omega), hr0]
            exact Ev.now _
          · rw [List.length_set]; omega
        · by_cases c2 : r1 = 2
          · refine ⟨acc ++ [acc[0]'hpos], q + 1, Ev.succ ?_, ⟨?_, ?_⟩, by omega, by omega⟩
            · simp only [spec_l20Part.l0, if_neg (show ¬ (ps.length : Int) < (ps.length : Int) by omega)]
              refine Ev.bind e ?_
              simp only [if_true]
              refine Ev.bind e1 ?_
              simp only [if_neg c0, if_neg c1, if_pos c2, if_pos (show (0 : Int) < (acc.length : Int) by omega), if_pos (show acc.length < 1759218604441 by omega), hr0]
              exact Ev.now _
            · rw [List.length_append, List.length_singleton]; omega
            · intro z hz
              rw [List.mem_append, List.mem_singleton] at hz
              rcases hz with hz | rfl
              · exact ha z hz
              · exact hb0
          · refine ⟨[], q + 1, Ev.succ ?_, ⟨by simp, by simp⟩, by omega, by omega⟩
            simp only [spec_l20Part.l0, if_neg (show ¬ (ps.length : Int) < (ps.length : Int) by omega)]
            refine Ev.bind e ?_
            simp only [if_true]
            refine Ev.bind e1 ?_
            simp only [if_neg c0, if_neg c1, if_neg c2]
            exact Ev.now _
  | succ d ih =>
    intro i p acc hi hne hacc ha h0 hp
    have hi2 : i < ps.length := by omega
    obtain ⟨r1, e1, x1, y1⟩ := pick c p 3 hb hl h0 (by omega) (by omega) (by omega)
    have hw : wrap64 ((i : Int) + 1) = ((i + 1 : Nat) : Int) := by rw [wrap_id (by omega) (by omega)]; omega
    have yes : ∃ r q, Ev (fun k => spec_l20Part.j1 k 8 ps (i : Int) true c (p + 1) acc u) (r, u, q) ∧ bpl r ∧ 0 ≤ q ∧ q ≤ p + 10 * ((d + 1 : Nat) : Int) + 10 := by
      obtain ⟨r, q, e, hr, q0, q1⟩ := ih (i + 1) (p + 1) (acc ++ [ps[i]]) (by omega) (fun _ => by simp) (by rw [List.length_append, List.length_singleton]; omega) (by
        intro z hz
        rw [List.mem_append, List.mem_singleton] at hz
        rcases hz with hz | rfl
        · exact ha z hz
        · exact hbp _ (List.getElem_mem hi2)) (by omega) (by omega)
      refine ⟨r, q, Ev.succ ?_, hr, q0, by omega⟩
      simp only [spec_l20Part.j1, if_true, if_pos (show (0 : Int) ≤ (i : Int) by omega), if_pos (show (i : Int) < (ps.length : Int) by omega), if_pos (show acc.length < 1759218604441 by omega), rdp ps i hi2, hw]
      exact e
    have no : (d = 0 → acc ≠ []) → ∃ r q, Ev (fun k => spec_l20Part.j1 k 8 ps (i : Int) false c (p + 1) acc u) (r, u, q) ∧ bpl r ∧ 0 ≤ q ∧ q ≤ p + 10 * ((d + 1 : Nat) : Int) + 10 := by
      intro hd
      obtain ⟨r, q, e, hr, q0, q1⟩ := ih (i + 1) (p + 1) acc (by omega) hd (by omega) ha (by omega) (by omega)
      refine ⟨r, q, Ev.succ ?_, hr, q0, by omega⟩
      simp only [spec_l20Part.j1, Bool.false_eq_true, if_false, hw]
      exact e
    by_cases c0 : r1 > 0
    · obtain ⟨r, q, e, hr, q0, q1⟩ := yes
      refine ⟨r, q, Ev.succ ?_, hr, q0, q1⟩
      simp only [spec_l20Part.l0, if_pos (show (i : Int) < (ps.length : Int) by omega)]
      refine Ev.bind e1 ?_
      simp only [if_pos c0]
      exact e
    · by_cases ca : (acc.length : Int) = 0
      · have hw2 : wrap64 ((ps.length : Int) - 1) = ((ps.length - 1 : Nat) : Int) := by rw [wrap_id (by omega) (by omega)]; omega
        by_cases cd : i = ps.length - 1
        · obtain ⟨r, q, e, hr, q0, q1⟩ := yes
          refine ⟨r, q, Ev.succ ?_, hr, q0, q1⟩
          simp only [spec_l20Part.l0, if_pos (show (i : Int) < (ps.length : Int) by omega)]
          refine Ev.bind e1 ?_
          simp only [if_neg c0, if_pos ca, hw2, show ((i : Int) == ((ps.length - 1 : Nat) : Int)) = true by rw [beq_iff_eq]; omega]
          exact e
        · obtain ⟨r, q, e, hr, q0, q1⟩ := no (by omega)
          refine ⟨r, q, Ev.succ ?_, hr, q0, q1⟩
          simp only [spec_l20Part.l0, if_pos (show (i : Int) < (ps.length : Int) by omega)]
          refine Ev.bind e1 ?_
          simp only [if_neg c0, if_pos ca, hw2, show ((i : Int) == ((ps.length - 1 : Nat) : Int)) = false by rw [beq_eq_false_iff_ne]; omega]
          exact e
      · obtain ⟨r, q, e, hr, q0, q1⟩ := no (fun _ h => ca (by rw [h]; rfl))
        refine ⟨r, q, Ev.succ ?_, hr, q0, q1⟩
        simp only [spec_l20Part.l0, if_pos (show (i : Int) < (ps.length : Int) by omega)]
        refine Ev.bind e1 ?_
        simp only [if_neg c0, if_neg ca]
        exact e
theorem part_ (c : List Int) (p : Int) (hb : isBytes c) (hl : c.length ≤ 2000) (h0 : 0 ≤ p) (hp : p ≤ 700000000) :
    ∃ r u q, Ev (fun k => spec_l20Part.f k c p 8) (r, u, q) ∧ bpl r ∧ 0 ≤ u ∧ u < 40 ∧ 0 ≤ q ∧ q ≤ p + 2000 := by
  obtain ⟨z, q, e, hz, z7, z6, z5, z8, q0, q1⟩ := long_ c p hb hl h0 (by omega)
  obtain ⟨r1, e1, x1, y1⟩ := pick c q 6 hb hl q0 (by omega) (by omega) (by omega)
  obtain ⟨r, b, ec, hc1, hc2, hc3⟩ := cut_ z (1 + r1) (by omega) (by omega)
  obtain ⟨u, eu, x2, y2⟩ := pick c (q + 1) 40 hb hl (by omega) (by omega) (by omega) (by omega)
  have hne := hc3 hz z7 (by omega)
  have hpos : 0 < r.length := List.length_pos_iff.mpr hne
  obtain ⟨s, q2, es, hs, s0, s1⟩ := part_l c hb hl r hpos (by omega) hc2 u r.length 0 (q + 1 + 1) [] (by omega) (by omega) (by simp) (by simp) (by omega) (by omega)
  refine ⟨s, u, q2, ?_, hs, x2, y2, s0, by omega⟩
  unfold spec_l20Part.f
  refine Ev.bind e (Ev.bind e1 ?_)
  simp only []
  rw [wrap_id (x := 1 + r1) (by omega) (by omega)]
  exact Ev.bind ec (Ev.bind eu es)

/-! alive -/
theorem bytesOf_5 : Ev (fun k => impl_bytesOf.f k 5 1) [5] := by
  refine Ev.of (k := 3) (fun k => impl_bytesOf.mono 5 1 k) ?_
  kernel_rfl
theorem alive_ : Ev (fun k => laws_alive.f k) true := by
  have h1 : Ev (fun k => impl_BytesOf.f k 5 1) [5] := by
    refine Ev.of (k := 3) (fun k => impl_BytesOf.mono 5 1 k) ?_
    kernel_rfl
  have h2 : Ev (fun k => impl_BytesOf.f k 256 1) [] := by
    refine Ev.of (k := 3) (fun k => impl_BytesOf.mono 256 1 k) ?_
    kernel_rfl
  unfold laws_alive.f
  refine Ev.bind h1 ?_
  simp only [List.length_singleton, Int.natCast_one, if_true]
  refine Ev.bind h2 ?_
  exact Ev.now _

theorem same_refl (l : List Int) : laws_sameBytes.f l l = some true := by
  unfold laws_sameBytes.f; simp

theorem drawPartWhole_ (l : List Int) (hb : isBytes l) : ∃ ps u, Ev (fun k => spec_DrawPartWhole.f k l) (ps, u) ∧ bpl ps := by
  obtain ⟨c, eo, hc, hcl⟩ := open_ l hb
  obtain ⟨r, e, x, y⟩ := pick c 0 2 hc hcl (by omega) (by omega) (by omega) (by omega)
  by_cases c0 : r = 0
  · obtain ⟨z, q, ez, hz, z7, z6, z5, z8, q0, q1⟩ := long_ c (0 + 1) hc hcl (by omega) (by omega)
    obtain ⟨r1, e1, x1, y1⟩ := pick c q 6 hc hcl q0 (by omega) (by omega) (by omega)
    obtain ⟨s, b, ec, hc1, hc2, _⟩ := cut_ z (1 + r1) (by omega) (by omega)
    refine ⟨s, 3, ?_, ⟨by omega, hc2⟩⟩
    unfold spec_DrawPartWhole.f
    rw [eo]
    simp only [Option.bind_some]
    refine Ev.bind e ?_
    simp only [if_pos c0]
    refine Ev.bind ez (Ev.bind e1 ?_)
    simp only []
    rw [wrap_id (x := 1 + r1) (by omega) (by omega)]
    exact Ev.bind ec (Ev.now _)
  · obtain ⟨s, u, q, es, hs, _⟩ := part_ c (0 + 1) hc hcl (by omega) (by omega)
    refine ⟨s, u, ?_, hs⟩
    unfold spec_DrawPartWhole.f
    rw [eo]
    simp only [Option.bind_some]
    refine Ev.bind e ?_
    simp only [if_neg c0]
    exact Ev.bind es (Ev.now _)
theorem samePacket_ (a0 a1 a2 a3 a4 a5 : Int) (a6 a7 : Bool) (l : List Int) : laws_samePacket.f a0 a1 a2 a3 a4 a5 a6 a7 l a0 a1 a2 a3 a4 a5 a6 a7 l = some true := by
  unfold laws_samePacket.f
  simp only [if_true, BEq.rfl, same_refl, Option.bind_some]
/-- a piece less is not whole -/
theorem less_ (ps : List Pk) (u : Int) (hok : partOk ps u = true) (hc : contFrom ps 0 ps.length = true) (i : Nat) (hi : i < ps.length) : partWhole (ps.take i ++ ps.drop (i + 1)) u = noWh := by
  have hat := fun j (hj : j < ps.length) => okFrom_at (by unfold partOk at hok; simp only [Bool.and_eq_true] at hok; exact hok.1) j hj
  unfold partWhole
  generalize hL : ps.take i ++ ps.drop (i + 1) = L
  have hlen : L.length = ps.length - 1 := by rw [← hL]; simp; omega
  cases hp : partOk L u
  · simp
  · simp only [if_true]
    have hLn := partOk_pos hp
    rw [whole_eq L hLn]
    rw [if_neg]
    intro hw
    simp only [Bool.and_eq_true, Bool.not_eq_true'] at hw
    by_cases hlast : i + 1 = ps.length
    · have h1 := hat i hi
      rw [okAt_eq ps i hi] at h1
      have h0 : i ≠ 0 := by omega
      simp only [dif_neg h0, Bool.and_eq_true] at h1
      have h6 := h1.2.2.2
      have h2 := hw.2
      rw [lastMore_eq L hLn] at h2
      have hget : L[L.length - 1]'(by omega) = ps[i - 1]'(by omega) := by
        subst hL
        rw [List.getElem_append_left (by rw [List.length_take]; omega), List.getElem_take]
        congr 1; omega
      rw [hget, h6] at h2
      cases h2
    · have hi1 : i + 1 < ps.length := by omega
      have h1 := hat (i + 1) hi1
      rw [okAt_eq ps (i + 1) hi1] at h1
      simp only [dif_neg (show i + 1 ≠ 0 by omega), Bool.and_eq_true, Nat.add_sub_cancel] at h1
      have h6 := h1.2.2.2
      have hpi := hat i hi
      rw [okAt_eq ps i hi] at hpi
      simp only [Bool.and_eq_true] at hpi
      have hpk := hpi.1
      unfold pok at hpk
      simp only [Bool.and_eq_true, decide_eq_true_eq, h6, Bool.not_true, Bool.false_or] at hpk
      have hlen0 : (ps[i].f8.length : Int) > 0 := hpk.2.2.2.2.2.2.2.1
      have hcn := contFrom_at hc (i + 1) hi1
      rw [contAt_eq ps (i + 1) hi1, decide_eq_true_eq] at hcn
      have hcL := contFrom_at hw.1 i (by omega)
      rw [contAt_eq L i (by omega), decide_eq_true_eq] at hcL
      have hgL : L[i]'(by omega) = ps[i + 1] := by
        subst hL
        rw [List.getElem_append_right (by rw [List.length_take]; omega), List.getElem_drop]
        congr 1; rw [List.length_take]; omega
      have hsL : sumTo L i = sumTo ps i := by
        subst hL
        unfold sumTo
        rw [List.take_append_of_le_length (by rw [List.length_take]; omega), List.take_take, Nat.min_self]
      rw [hgL, hsL] at hcL
      rw [sumTo_succ ps i hi] at hcn
      omega
theorem pok_whole (ps : List Pk) (u : Int) (hok : partOk ps u = true) (hc : contFrom ps 0 ps.length = true) : pok ⟨(ps[0]'(partOk_pos hok)).f0, (ps[0]'(partOk_pos hok)).f1, (ps[0]'(partOk_pos hok)).f2, (ps[0]'(partOk_pos hok)).f3, (ps[0]'(partOk_pos hok)).f4, (ps[0]'(partOk_pos hok)).f5, false, (ps[0]'(partOk_pos hok)).f7, dataTo ps ps.length⟩ = true := by
  have hn := partOk_pos hok
  have h5 : (ps[0]'hn).f5 = 0 := by
    have h := contFrom_at hc 0 hn
    rw [contAt_eq ps 0 hn, decide_eq_true_eq, sumTo_zero] at h
    exact h
  have hdl : ((dataTo ps ps.length).length : Int) = (sumTo ps ps.length : Int) := by rw [dataTo_length]
  have hat := okFrom_at (by unfold partOk at hok; simp only [Bool.and_eq_true] at hok; exact hok.1) 0 hn
  rw [okAt_eq ps 0 hn, Bool.and_eq_true] at hat
  have hpk := hat.1
  clear hat
  have h48 : (sumTo ps ps.length : Int) ≤ 48 := by
    unfold partOk at hok
    simp only [Bool.and_eq_true, decide_eq_true_eq] at hok
    exact hok.2.2.1
  show pok ⟨(ps[0]'hn).f0, (ps[0]'hn).f1, (ps[0]'hn).f2, (ps[0]'hn).f3, (ps[0]'hn).f4, (ps[0]'hn).f5, false, (ps[0]'hn).f7, dataTo ps ps.length⟩ = true
  unfold pok at hpk ⊢
  rw [Bool.and_eq_true, Bool.and_eq_true, Bool.and_eq_true, Bool.and_eq_true, Bool.and_eq_true, Bool.and_eq_true] at hpk
  obtain ⟨h0, h1, h2, h3, h4, h5', h6⟩ := hpk
  dsimp only
  rw [h0, h1, h2, h3, h4, h5', hdl, decide_eq_true h48, decide_eq_true h5]
  simp
theorem law_l (ps : List Pk) (u : Int) (hb : bpl ps) (hok : partOk ps u = true) (hc : contFrom ps 0 ps.length = true) (hlm : lastMore ps = false) (d : Nat) : ∀ i : Nat, i + d = ps.length →
    Ev (fun k => laws_FnPartWhole.l0 k (sumTo ps i : Int) (i : Int) ps u (ps[0]'(partOk_pos hok)).f0 (ps[0]'(partOk_pos hok)).f1 (ps[0]'(partOk_pos hok)).f2 (ps[0]'(partOk_pos hok)).f3 (ps[0]'(partOk_pos hok)).f4 (ps[0]'(partOk_pos hok)).f5 false (ps[0]'(partOk_pos hok)).f7 (dataTo ps ps.length)) true := by
  have hl := hb.1
  have hn := partOk_pos hok
  induction d with
  | zero =>
    intro i hi
    obtain rfl : i = ps.length := by omega
    refine Ev.succ ?_
    have hdl : ((dataTo ps ps.length).length : Int) = (sumTo ps ps.length : Int) := by rw [dataTo_length]
    have h5 : (ps[0]'hn).f5 = 0 := by
      have h := contFrom_at hc 0 hn
      rw [contAt_eq ps 0 hn, decide_eq_true_eq, sumTo_zero] at h
      exact h
    have hpk := pok_whole ps u hok hc
    have cx : ¬ (ps.length : Int) < (ps.length : Int) := by omega
    have e := impl_packetOk (ps[0]'hn).f0 (ps[0]'hn).f1 (ps[0]'hn).f2 (ps[0]'hn).f3 (ps[0]'hn).f4 (ps[0]'hn).f5 false (ps[0]'hn).f7 (dataTo ps ps.length)
    rw [hpk] at e
    simp only [laws_FnPartWhole.l0, if_neg cx, if_pos hdl, if_pos h5, Bool.false_eq_true, if_false]
    refine Ev.pure ?_
    rw [e]; rfl
  | succ d ih =>
    intro i hi
    have hi2 : i < ps.length := by omega
    have hs := sumTo_succ ps i hi2
    have hsl := sumTo_le ps hb i (by omega)
    have hq := (hb.2 ps[i] (List.getElem_mem hi2)).1
    have h1 := ih (i + 1) (by omega)
    have hbl : bpl (([] ++ ps.take i) ++ ps.drop (i + 1)) := by
      refine ⟨by simp; omega, ?_⟩
      intro q hqm
      rw [List.nil_append, List.mem_append] at hqm
      rcases hqm with h | h
      · exact hb.2 q (List.mem_of_mem_take h)
      · exact hb.2 q (List.mem_of_mem_drop h)
    have he := impl_partWhole (([] ++ ps.take i) ++ ps.drop (i + 1)) u hbl
    rw [show ([] ++ ps.take i) ++ ps.drop (i + 1) = ps.take i ++ ps.drop (i + 1) by simp, less_ ps u hok hc i hi2] at he
    have c1 : (i : Int) < (ps.length : Int) := by omega
    have c2 : (0 : Int) ≤ (i : Int) := by omega
    have c3 : (i : Int) ≤ (ps.length : Int) := by omega
    have c4 : (0 : Int) ≤ ((i + 1 : Nat) : Int) := by omega
    have c5 : ((i + 1 : Nat) : Int) ≤ (ps.length : Int) := by omega
    have c6 : ([] : List Pk).length + (ps.take i).length < 1759218604441 := by rw [List.length_nil, List.length_take]; omega
    have c7 : (ps.take i).length + (ps.drop (i + 1)).length < 1759218604441 := by rw [List.length_drop, List.length_take]; omega
    have c8 : wrap64 ((i : Int) + 1) = ((i + 1 : Nat) : Int) := by rw [wrap_id (by omega) (by omega)]; omega
    have c9 : wrap64 ((sumTo ps i : Int) + (ps[i].f8.length : Int)) = ((sumTo ps (i + 1) : Nat) : Int) := by rw [wrap_id (by omega) (by omega), hs]; omega
    clear hs hsl hq hbl ih
    refine Ev.succ ?_
    simp only [laws_FnPartWhole.l0, Option.bind_some, if_pos c1, if_pos c2, if_pos c3, c8, if_pos c4, if_pos c5, Int.toNat_natCast, rdp ps i hi2, List.nil_append, if_pos c6, if_pos c7]
    refine Ev.bind he ?_
    simp only [noWh, Bool.false_eq_true, if_false, c9]
    exact h1
theorem FnPartWhole : laws_FnPartWhole.Pure := by
  intro l hl _ hw
  have hb := isBytes_wf hw
  refine Ev.rounds ?_
  unfold laws_FnPartWhole.f
  by_cases hbig : (l.length : Int) > 1048576
  · simp only [if_pos hbig]; exact Ev.now _
  simp only [if_neg hbig]
  obtain ⟨ps, u, e, hps⟩ := drawPartWhole_ l hb
  refine Ev.bind e (Ev.bind (impl_partWhole ps u hps) (Ev.bind (spec_partWhole ps u hps) ?_))
  have hj : ∀ a0 a1 a2 a3 a4 a5 a6 a7 s, Ev (fun k => laws_FnPartWhole.j0 k false false ps u a0 a1 a2 a3 a4 a5 a6 a7 s) true := by
    intro a0 a1 a2 a3 a4 a5 a6 a7 s
    refine Ev.succ ?_
    simp only [laws_FnPartWhole.j0, Bool.false_eq_true, if_false]
    exact Ev.bind alive_ (Ev.now _)
  simp only [bne_self_eq_false, Bool.false_eq_true, if_false, samePacket_, Option.bind_some, Bool.not_true]
  by_cases hok : partOk ps u = true
  · have hn := partOk_pos hok
    by_cases hc : (contFrom ps 0 ps.length && !lastMore ps) = true
    · have hpw : partWhole ps u = ((ps[0]'hn).f0, (ps[0]'hn).f1, (ps[0]'hn).f2, (ps[0]'hn).f3, (ps[0]'hn).f4, (ps[0]'hn).f5, false, (ps[0]'hn).f7, dataTo ps ps.length, true) := by
        unfold partWhole; rw [if_pos hok, whole_eq ps hn, if_pos hc]
      rw [hpw]
      simp only [Bool.and_eq_true, Bool.not_eq_true'] at hc
      have h := law_l ps u hps hok hc.1 hc.2 ps.length 0 (by omega)
      rw [sumTo_zero] at h
      refine Ev.succ ?_
      simp only [laws_FnPartWhole.j0, Bool.false_eq_true, if_false, if_true]
      exact h
    · have hpw : partWhole ps u = noWh := by
        unfold partWhole; rw [if_pos hok, whole_eq ps hn, if_neg hc]
      rw [hpw]
      exact hj _ _ _ _ _ _ _ _ _
  · have hpw : partWhole ps u = noWh := by
      unfold partWhole; rw [if_neg hok]
    rw [hpw]
    exact hj _ _ _ _ _ _ _ _ _

end Go.Proofs.Ytpbeljcgcdilnaa.Pure
