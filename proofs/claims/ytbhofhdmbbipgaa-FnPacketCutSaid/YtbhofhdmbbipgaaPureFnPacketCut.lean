/- Pieces are the packet, and can be cut again: the plain law. -/
import Derived.Test.YtbhofhdmbbipgaaPFnPacketCutx
namespace Go.Proofs.Ytbhofhdmbbipgaa.Pure
set_option linter.unusedSimpArgs false
set_option linter.unusedVariables false
open Go.RowKit Go.Proofs.Ytbhofhdmbbipgaa.PFnPacketCut Go.Proofs.YtbhofhdmbbipgaaW.PrintWords Go.Proofs.YtbhofhdmbbipgaaW.PrintLast Go.Proofs.YtbhofhdmbbipgaaW.PrintMore

theorem Ev.succ {α : Type} {g : Nat → Option α} {r : α} (h : Ev (fun k => g (k + 1)) r) : Ev g r := Ev.step (fun _ => rfl) h
theorem Ev.pure {α : Type} {o : Option α} {r : α} (h : o = some r) : Ev (fun _ => o) r := by rw [h]; exact Ev.now r
theorem Ev.cong {α : Type} {g g' : Nat → Option α} {r : α} (h : ∀ k, g k = g' k) (e : Ev g' r) : Ev g r := by rw [show g = g' from funext h]; exact e
theorem wrap_id {x : Int} (h0 : -9223372036854775808 ≤ x) (h1 : x ≤ 9223372036854775807) : wrap64 x = x := by unfold wrap64; omega

theorem rd_get (l : List Int) (i : Nat) (h : i < l.length) : rd l (i : Int) = l[i] := by
  unfold rd
  rw [Int.toNat_natCast, List.getD_eq_getElem?_getD, List.getElem?_eq_getElem h]; rfl
theorem take_set_succ {α : Type} (x : List α) (i : Nat) (v : α) (h : i < x.length) : (x.set i v).take (i + 1) = x.take i ++ [v] := by
  rw [List.take_succ_eq_append_getElem (by simpa using h), List.getElem_set_self, List.take_set, List.set_eq_of_length_le (by simp; omega)]


def isBytes (l : List Int) : Prop := ∀ x ∈ l, 0 ≤ x ∧ x ≤ 255
theorem isBytes_get {l : List Int} (h : isBytes l) (i : Nat) (hi : i < l.length) : 0 ≤ l[i] ∧ l[i] ≤ 255 := h _ (List.getElem_mem hi)
theorem isBytes_wf {l : List Int} (h : ∀ x ∈ l, (Lit.int .u8 x).wf = true) : isBytes l := by
  intro x hx
  have := h x hx
  simp [Lit.wf, IntKind.min, IntKind.max, IntKind.bits, IntKind.signed] at this
  omega

/-! slices.Concat of bytes -/
theorem rd_ofL (l : List (List Int)) (i : Nat) (h : i < l.length) : rd_L3 l (i : Int) = l[i] := by
  unfold rd_L3
  rw [Int.toNat_natCast, List.getD_eq_getElem?_getD, List.getElem?_eq_getElem h]; rfl
def lenL (l : List (List Int)) : Nat := (l.map List.length).sum
theorem lenL_take_succ (l : List (List Int)) (i : Nat) (h : i < l.length) : lenL (l.take (i + 1)) = lenL (l.take i) + l[i].length := by
  unfold lenL; rw [List.take_succ_eq_append_getElem h]; simp only [List.map_append, List.sum_append, List.map_cons, List.map_nil, List.sum_cons, List.sum_nil, Nat.add_zero]
theorem lenL_take_le (l : List (List Int)) (i : Nat) : lenL (l.take i) ≤ lenL l := by
  unfold lenL
  have h := congrArg (fun x : List (List Int) => (x.map List.length).sum) (List.take_append_drop i l)
  simp only [List.map_append, List.sum_append] at h
  omega
theorem flatten_take_succ (l : List (List Int)) (i : Nat) (h : i < l.length) : (l.take (i + 1)).flatten = (l.take i).flatten ++ l[i] := by
  rw [List.take_succ_eq_append_getElem h]; simp only [List.flatten_append, List.flatten_cons, List.flatten_nil, List.append_nil]
/-! WordsBytes -/
def wordsBytes (a : Int) (l : List Int) : List Int := if 0 ≤ a ∧ a ≤ 255 ∧ l.length ≤ 9 then (l.length : Int) :: a :: l else []
theorem wordsBytes_len (a : Int) (l : List Int) : (wordsBytes a l).length ≤ 11 := by
  unfold wordsBytes; split
  · simp; omega
  · simp

/-! a packet that is ok -/
def inb (x lo hi : Int) : Bool := decide (lo ≤ x) && decide (x ≤ hi)
theorem inb_iff {x lo hi : Int} : inb x lo hi = true ↔ lo ≤ x ∧ x ≤ hi := by unfold inb; simp
theorem impl_in_ (x lo hi : Int) : impl_in.f x lo hi = some (inb x lo hi) := by
  unfold impl_in.f inb; by_cases h : x ≥ lo
  · simp only [if_pos h, decide_eq_true (show lo ≤ x from h), Bool.true_and]
  · simp only [if_neg h, decide_eq_false (show ¬ lo ≤ x from h), Bool.false_and]
theorem spec_in_ (x lo hi : Int) : spec_l1In.f x lo hi = some (inb x lo hi) := by
  unfold spec_l1In.f inb; by_cases h : x ≥ lo
  · simp only [if_pos h, decide_eq_true (show lo ≤ x from h), Bool.true_and]
  · simp only [if_neg h, decide_eq_false (show ¬ lo ≤ x from h), Bool.false_and]
def pok (p : S24) : Bool := inb p.f0 0 65535 && (inb p.f1 0 65535 && (inb p.f2 0 255 && (inb p.f3 0 255 && (inb p.f4 0 255 && (inb p.f5 0 255 && (decide ((p.f8.length : Int) ≤ 48) && ((!p.f6 || decide ((p.f8.length : Int) > 0)) && (!p.f7 || (decide (p.f5 = 0) && !p.f6)))))))))
theorem impl_packetOk (a0 a1 a2 a3 a4 a5 : Int) (a6 a7 : Bool) (l : List Int) : impl_PacketOk.f a0 a1 a2 a3 a4 a5 a6 a7 l = some (pok ⟨a0, a1, a2, a3, a4, a5, a6, a7, l⟩) := by
  unfold impl_PacketOk.f pok
  simp only [impl_word.f, impl_in_, Option.bind_some]
  cases inb a0 0 65535
  · simp
  cases inb a1 0 65535
  · simp
  cases inb a2 0 255
  · simp
  cases inb a3 0 255
  · simp
  cases inb a4 0 255
  · simp
  cases inb a5 0 255
  · simp
  by_cases h : (l.length : Int) ≤ 48 <;> by_cases h0 : 0 < l.length <;> by_cases h5 : a5 = 0 <;> cases a6 <;> cases a7 <;> simp [h, h0, h5]
theorem spec_packetOk (a0 a1 a2 a3 a4 a5 : Int) (a6 a7 : Bool) (l : List Int) : Ev (fun k => spec_PacketOk.f k a0 a1 a2 a3 a4 a5 a6 a7 l) (pok ⟨a0, a1, a2, a3, a4, a5, a6, a7, l⟩) := by
  have j : ∀ x : Bool, Ev (fun k => spec_PacketOk.j0 k x a0 a1 a2 a3 a4 a5 a6 a7 l) (!x && (decide ((l.length : Int) ≤ 48) && ((!a6 || decide ((l.length : Int) > 0)) && (!a7 || (decide (a5 = 0) && !a6))))) := by
    intro x
    refine Ev.succ ?_
    simp only [spec_PacketOk.j0]
    refine Ev.pure ?_
    cases x
    · by_cases h : (l.length : Int) ≤ 48 <;> by_cases h0 : 0 < l.length <;> by_cases h5 : a5 = 0 <;> cases a6 <;> cases a7 <;> simp [h, h0, h5]
    · simp
  unfold spec_PacketOk.f pok
  simp only [spec_in_, Option.bind_some]
  cases inb a0 0 65535
  · exact j true
  cases inb a1 0 65535
  · exact j true
  cases inb a2 0 255
  · exact j true
  cases inb a3 0 255
  · exact j true
  cases inb a4 0 255
  · exact j true
  cases inb a5 0 255
  · exact j true
  · exact j false

/-! a packet that is cut: the reference, and the program's pieces (impl_cut.out, as printed) -/
abbrev CPk := S24
def pieceR (p : CPk) (m n k : Nat) : CPk := ⟨p.f0, p.f1, p.f2, p.f3, p.f4, p.f5 + ((k * m : Nat) : Int), p.f6 || decide (k + 1 < n), p.f7, (p.f8.drop (k * m)).take m⟩
def cutN (p : CPk) (m : Nat) : Nat := if p.f8.length ≤ m then 1 else (p.f8.length + m - 1) / m
def cutR (p : CPk) (m : Nat) : List CPk × Bool :=
  if m < p.f8.length ∧ p.f7 = true then ([], false) else if p.f5 + (((cutN p m - 1) * m : Nat) : Int) > 255 then ([], false) else ((List.range (cutN p m)).map (pieceR p m (cutN p m)), true)
theorem cutN_in (p : CPk) (m : Nat) (hm : 1 ≤ m) : 1 ≤ cutN p m ∧ p.f8.length ≤ cutN p m * m ∧ (cutN p m = 1 ∨ (cutN p m - 1) * m < p.f8.length) := by
  unfold cutN
  split
  · rename_i h; exact ⟨Nat.le_refl _, by omega, .inl rfl⟩
  · rename_i h
    have h1 : (p.f8.length + m - 1) / m * m ≤ p.f8.length + m - 1 := Nat.div_mul_le_self _ _
    have h2 : p.f8.length + m - 1 < ((p.f8.length + m - 1) / m + 1) * m := by
      have := Nat.lt_div_mul_add (a := p.f8.length + m - 1) (b := m) (by omega)
      rw [Nat.add_mul, Nat.one_mul]; exact this
    generalize (p.f8.length + m - 1) / m = n at *
    rw [Nat.add_mul, Nat.one_mul] at h2
    refine ⟨?_, by omega, .inr ?_⟩
    · rcases Nat.eq_zero_or_pos n with h3 | h3
      · subst h3; omega
      · exact h3
    · rw [Nat.sub_mul, Nat.one_mul]
      rcases Nat.eq_zero_or_pos n with h3 | h3
      · subst h3; omega
      · have : m ≤ n * m := Nat.le_mul_of_pos_left m h3
        omega
theorem cut_out (p : CPk) (m : Nat) (hm : 1 ≤ m) (h5 : p.f5 ≤ 255) (hl : p.f8.length ≤ 48) : impl_cut.out p m = cutR p m := by
  unfold impl_cut.out cutR
  by_cases c : p.f8.length ≤ m
  · rw [if_pos c, if_neg (show ¬ (m < p.f8.length ∧ p.f7 = true) by omega)]
    have hn : cutN p m = 1 := by unfold cutN; rw [if_pos c]
    rw [hn, if_neg (show ¬ p.f5 + (((1 - 1) * m : Nat) : Int) > 255 by simp; omega)]
    simp [pieceR, List.range_succ, List.take_of_length_le c]
  · have hn : cutN p m = impl_cut.many p m := by unfold cutN impl_cut.many; rw [if_neg c]
    obtain ⟨n1, n2, n3⟩ := cutN_in p m hm
    rw [if_neg c, ← hn]
    generalize cutN p m = n at *
    by_cases c7 : p.f7 = true
    · rw [if_pos (Or.inl c7), if_pos ⟨by omega, c7⟩]
    · rw [if_neg (show ¬ (m < p.f8.length ∧ p.f7 = true) from fun h => c7 h.2)]
      by_cases c5 : p.f5 + (((n - 1) * m : Nat) : Int) > 255
      · rw [if_pos (Or.inr c5), if_pos c5]
      · rw [if_neg (fun h => by rcases h with h | h; exact c7 h; exact c5 h), if_neg c5]
        obtain ⟨q, rfl⟩ : ∃ q, n = q + 1 := ⟨n - 1, by omega⟩
        rw [Nat.add_sub_cancel, List.range_succ, List.map_append]
        congr 1
        congr 1
        · refine List.map_congr_left (fun k hk => ?_)
          have := List.mem_range.1 hk
          simp only [impl_cut.piece, pieceR, show decide (k + 1 < q + 1) = true from decide_eq_true (by omega), Bool.or_true]
        · simp [impl_cut.piece, pieceR]
theorem spec_cut_l (p : CPk) (m n : Nat) (hm : 1 ≤ m) (hm2 : m ≤ 48) (h0 : 0 ≤ p.f5) (h5 : p.f5 ≤ 255) (hl : p.f8.length ≤ 48) (n1 : 1 ≤ n) (n2 : p.f8.length ≤ n * m) (n3 : n = 1 ∨ (n - 1) * m < p.f8.length) (d : Nat) : ∀ i : Nat, i + d = n → (∀ k, k < i → p.f5 + ((k * m : Nat) : Int) ≤ 255) →
    Ev (fun k => spec_PacketCut.l0 k (m : Int) ((List.range i).map (pieceR p m n)) ((i * m : Nat) : Int) p.f0 p.f1 p.f2 p.f3 p.f4 p.f5 p.f6 p.f7 p.f8) (if p.f5 + (((n - 1) * m : Nat) : Int) > 255 then ([], false) else ((List.range n).map (pieceR p m n), true)) := by
  induction d with
  | zero =>
    intro i hi ha
    obtain rfl : i = n := by omega
    have h1 := ha (i - 1) (by omega)
    have h2 : 1 ≤ i * m := Nat.le_trans hm (Nat.le_mul_of_pos_left m n1)
    rw [if_neg (show ¬ p.f5 + (((i - 1) * m : Nat) : Int) > 255 by omega)]
    refine Ev.step (fun k => spec_PacketCut.l0.eq_2 _ _ _ _ _ _ _ _ _ _ _ _ k) ?_
    simp only [if_neg (show ¬ ((i * m : Nat) : Int) = 0 by omega), decide_eq_false (show ¬ ((i * m : Nat) : Int) < (p.f8.length : Int) by omega)]
    refine Ev.step (fun k => spec_PacketCut.j2.eq_2 _ _ _ _ _ _ _ _ _ _ _ _ _ k) ?_
    simp only [Bool.false_eq_true, if_false]
    exact Ev.now _
  | succ d ih =>
    intro i hi ha
    have him : i * m ≤ (n - 1) * m := Nat.mul_le_mul_right m (by omega)
    have hi1 : (i + 1) * m = i * m + m := by rw [Nat.add_mul, Nat.one_mul]
    have him2 : i * m ≤ 48 := by
      rcases n3 with h | h
      · have : i = 0 := by omega
        subst this; simp
      · omega
    have hgo : i = 0 ∨ i * m < p.f8.length := by
      rcases n3 with h | h
      · exact .inl (by omega)
      · exact .inr (by omega)
    have hsucc : (List.range (i + 1)).map (pieceR p m n) = (List.range i).map (pieceR p m n) ++ [pieceR p m n i] := by rw [List.range_succ, List.map_append]; rfl
    have hacc : ((List.range i).map (pieceR p m n)).length ≤ 48 ∨ i ≤ 48 := .inr (by
      have : i ≤ i * m := Nat.le_mul_of_pos_right i hm
      omega)
    have hil : ((List.range i).map (pieceR p m n)).length = i := by simp
    have hend : mn (((i * m : Nat) : Int) + (m : Int)) (p.f8.length : Int) = ((min (i * m + m) p.f8.length : Nat) : Int) := by unfold mn; split <;> omega
    have hcut : (p.f8.take (min (i * m + m) p.f8.length)).drop (i * m) = (p.f8.drop (i * m)).take m := by
      rw [List.drop_take]
      by_cases c : i * m + m ≤ p.f8.length
      · rw [Nat.min_eq_left c, Nat.add_sub_cancel_left]
      · rw [Nat.min_eq_right (by omega), List.take_of_length_le (by rw [List.length_drop]; omega), List.take_of_length_le (by rw [List.length_drop]; omega)]
    have hmore : (decide (((min (i * m + m) p.f8.length : Nat) : Int) < (p.f8.length : Int))) = decide (i + 1 < n) := by
      rw [Bool.eq_iff_iff, decide_eq_true_eq, decide_eq_true_eq]
      constructor
      · intro h
        have h1 : (i + 1) * m < p.f8.length := by omega
        have h2 : (i + 1) * m < n * m := by omega
        exact Nat.lt_of_mul_lt_mul_right h2
      · intro h
        have h1 : (i + 1) * m ≤ (n - 1) * m := Nat.mul_le_mul_right m (by omega)
        rcases n3 with h3 | h3 <;> omega
    have hlen : ((p.f8.drop (i * m)).take m).length ≤ 48 := by rw [List.length_take]; omega
    have j2 : Ev (fun k => spec_PacketCut.j2 k (m : Int) ((List.range i).map (pieceR p m n)) ((i * m : Nat) : Int) true p.f0 p.f1 p.f2 p.f3 p.f4 p.f5 p.f6 p.f7 p.f8) (if p.f5 + (((n - 1) * m : Nat) : Int) > 255 then ([], false) else ((List.range n).map (pieceR p m n), true)) := by
      refine Ev.step (fun k => spec_PacketCut.j2.eq_2 _ _ _ _ _ _ _ _ _ _ _ _ _ k) ?_
      rw [wrap_id (x := ((i * m : Nat) : Int) + (m : Int)) (by omega) (by omega), wrap_id (x := p.f5 + ((i * m : Nat) : Int)) (by omega) (by omega), hend]
      simp only [if_true, Option.bind_some, List.nil_append, Int.toNat_natCast, hcut, hmore]
      simp only [if_pos (show (0 : Int) ≤ ((i * m : Nat) : Int) by omega),  if_pos (show ((min (i * m + m) p.f8.length : Nat) : Int) ≤ (p.f8.length : Int) by omega), if_pos (show ([] : List Int).length + ((p.f8.drop (i * m)).take m).length < 140737488355328 by rw [List.length_nil]; omega), if_pos (show ((List.range i).map (pieceR p m n)).length < 1759218604441 by omega)]
      have hle : (((i * m : Nat) : Int) ≤ ((min (i * m + m) p.f8.length : Nat) : Int)) = True := eq_true (by
        have : i * m ≤ min (i * m + m) p.f8.length := by
          rcases hgo with h | h
          · subst h; simp
          · omega
        omega)
      simp only [hle, if_true]
      by_cases c5 : p.f5 + ((i * m : Nat) : Int) > 255
      · simp only [if_pos c5, ite_self]
        rw [if_pos (show p.f5 + (((n - 1) * m : Nat) : Int) > 255 by omega)]
        exact Ev.now _
      · simp only [if_neg c5]
        have e := ih (i + 1) (by omega) (fun k hk => by
          by_cases h : k = i
          · subst h; omega
          · exact ha k (by omega))
        rw [hsucc, show (((i + 1) * m : Nat) : Int) = ((i * m : Nat) : Int) + (m : Int) by rw [hi1]; omega] at e
        by_cases c6 : p.f6 = true
        · simp only [if_pos c6]
          unfold pieceR at e ⊢
          simp only [c6, Bool.true_or] at e ⊢
          exact e
        · simp only [if_neg c6]
          have c6' : p.f6 = false := by simpa using c6
          unfold pieceR at e ⊢
          simp only [c6', Bool.false_or] at e ⊢
          exact e
    refine Ev.step (fun k => spec_PacketCut.l0.eq_2 _ _ _ _ _ _ _ _ _ _ _ _ k) ?_
    by_cases c0 : ((i * m : Nat) : Int) = 0
    · simp only [if_pos c0]; exact j2
    · simp only [if_neg c0, decide_eq_true (show ((i * m : Nat) : Int) < (p.f8.length : Int) by
        rcases hgo with h | h
        · subst h; simp at c0
        · omega)]
      exact j2
def packetCut (p : CPk) (m : Int) : List CPk × Bool := if pok p = true ∧ 1 ≤ m ∧ m ≤ 48 then cutR p m.toNat else ([], false)
theorem pok_cut {p : CPk} (c : pok p = true) : 0 ≤ p.f5 ∧ p.f5 ≤ 255 ∧ p.f8.length ≤ 48 := by
  unfold pok at c
  simp only [Bool.and_eq_true, inb_iff, decide_eq_true_eq] at c
  obtain ⟨_, _, _, _, _, ⟨h1, h2⟩, h3, _⟩ := c
  exact ⟨h1, h2, by omega⟩
theorem impl_packetCut (p : CPk) (m : Int) : impl_PacketCut.f p.f0 p.f1 p.f2 p.f3 p.f4 p.f5 p.f6 p.f7 p.f8 m = some (packetCut p m) := by
  unfold impl_PacketCut.f packetCut
  rw [impl_packetOk]
  simp only [Option.bind_some]
  by_cases c : pok p = true
  · obtain ⟨h0, h5, hl⟩ := pok_cut c
    rw [show pok ⟨p.f0, p.f1, p.f2, p.f3, p.f4, p.f5, p.f6, p.f7, p.f8⟩ = true from c]
    simp only [if_true, impl_in_, Option.bind_some]
    by_cases cm : inb m 1 48 = true
    · have cm' := inb_iff.1 cm
      simp only [cm, if_true, c, true_and, if_pos cm']
      unfold impl_cut.f
      rw [if_pos (show p.f8.length ≤ 48 ∧ 1 ≤ m ∧ m ≤ 48 ∧ 0 ≤ p.f5 ∧ p.f5 ≤ 255 from ⟨hl, cm'.1, cm'.2, h0, h5⟩)]
      rw [show impl_cut.out ⟨p.f0, p.f1, p.f2, p.f3, p.f4, p.f5, p.f6, p.f7, p.f8⟩ m.toNat = cutR p m.toNat from cut_out p m.toNat (by omega) h5 hl]
      rfl
    · have cm' : ¬ (1 ≤ m ∧ m ≤ 48) := fun h => cm (inb_iff.2 h)
      simp only [cm, Bool.false_eq_true, if_false, c, true_and, if_neg cm']
  · rw [show pok ⟨p.f0, p.f1, p.f2, p.f3, p.f4, p.f5, p.f6, p.f7, p.f8⟩ = false by simpa using c]
    simp only [Bool.false_eq_true, if_false, c, false_and]
theorem spec_packetCut (p : CPk) (m : Int) : Ev (fun k => spec_PacketCut.f k p.f0 p.f1 p.f2 p.f3 p.f4 p.f5 p.f6 p.f7 p.f8 m) (packetCut p m) := by
  have jt : Ev (fun k => spec_PacketCut.j0 k m ([] : List CPk) true p.f0 p.f1 p.f2 p.f3 p.f4 p.f5 p.f6 p.f7 p.f8) ([], false) := by
    refine Ev.step (fun k => spec_PacketCut.j0.eq_2 _ _ _ _ _ _ _ _ _ _ _ _ k) ?_
    simp only [if_true]; exact Ev.now _
  unfold spec_PacketCut.f packetCut
  simp only [Option.bind_some]
  refine Ev.bind (spec_packetOk p.f0 p.f1 p.f2 p.f3 p.f4 p.f5 p.f6 p.f7 p.f8) ?_
  by_cases c : pok p = true
  · obtain ⟨h0, h5, hl⟩ := pok_cut c
    rw [show pok ⟨p.f0, p.f1, p.f2, p.f3, p.f4, p.f5, p.f6, p.f7, p.f8⟩ = true from c]
    simp only [if_true, spec_in_, Option.bind_some, c, true_and]
    by_cases cm : inb m 1 48 = true
    · have cm' := inb_iff.1 cm
      simp only [cm, if_true, if_pos cm']
      obtain ⟨q, hq⟩ := Int.eq_ofNat_of_zero_le (show 0 ≤ m by omega)
      subst hq
      rw [Int.toNat_natCast]
      obtain ⟨n1, n2, n3⟩ := cutN_in p q (by omega)
      have e := spec_cut_l p q (cutN p q) (by omega) (by omega) h0 h5 hl n1 n2 n3 (cutN p q) 0 (by omega) (fun k hk => by omega)
      have j0 : ∀ b, b = decide (q < p.f8.length ∧ p.f7 = true) → Ev (fun k => spec_PacketCut.j0 k (q : Int) ([] : List CPk) b p.f0 p.f1 p.f2 p.f3 p.f4 p.f5 p.f6 p.f7 p.f8) (cutR p q) := by
        intro b hb
        refine Ev.step (fun k => spec_PacketCut.j0.eq_2 _ _ _ _ _ _ _ _ _ _ _ _ k) ?_
        unfold cutR
        by_cases cb : q < p.f8.length ∧ p.f7 = true
        · rw [hb, decide_eq_true cb, if_pos cb]; simp only [if_true]; exact Ev.now _
        · rw [hb, decide_eq_false cb, if_neg cb]; simp only [Bool.false_eq_true, if_false]
          rw [Nat.zero_mul] at e
          exact e
      by_cases cl : (p.f8.length : Int) > (q : Int)
      · simp only [if_pos cl]
        refine j0 p.f7 ?_
        cases h7 : p.f7
        · simp
        · simp; omega
      · simp only [if_neg cl]
        refine j0 false ?_
        symm; rw [decide_eq_false_iff_not]; omega
    · have cm' : ¬ (1 ≤ m ∧ m ≤ 48) := fun h => cm (inb_iff.2 h)
      simp only [cm, Bool.false_eq_true, if_false, if_neg cm']
      exact jt
  · rw [show pok ⟨p.f0, p.f1, p.f2, p.f3, p.f4, p.f5, p.f6, p.f7, p.f8⟩ = false by simpa using c]
    simp only [Bool.false_eq_true, if_false, c, false_and]
    exact jt

/-! drawing -/
theorem xor_nn (a b : Int) (a0 : 0 ≤ a) (a1 : a < 9223372036854775808) (b0 : 0 ≤ b) (b1 : b < 9223372036854775808) : 0 ≤ Go.bits .xor .i64 a b ∧ Go.bits .xor .i64 a b < 9223372036854775808 := by
  obtain ⟨x, rfl⟩ := Int.eq_ofNat_of_zero_le a0
  obtain ⟨y, rfl⟩ := Int.eq_ofNat_of_zero_le b0
  have hx : x < 2 ^ 63 := by omega
  have hy : y < 2 ^ 63 := by omega
  have hxy : x ^^^ y < 2 ^ 63 := Nat.xor_lt_two_pow hx hy
  have h1 : (BitVec.ofInt 64 (x : Int)).toNat = x := by
    rw [BitVec.ofInt_natCast, BitVec.toNat_ofNat]; exact Nat.mod_eq_of_lt (by omega)
  have h2 : (BitVec.ofInt 64 (y : Int)).toNat = y := by
    rw [BitVec.ofInt_natCast, BitVec.toNat_ofNat]; exact Nat.mod_eq_of_lt (by omega)
  have h3 : Go.bits .xor .i64 (x : Int) (y : Int) = ((x ^^^ y : Nat) : Int) := by
    show IntKind.i64.wrap ((BitVec.ofInt 64 (x : Int) ^^^ BitVec.ofInt 64 (y : Int)).toNat : Int) = _
    rw [BitVec.toNat_xor, h1, h2, IntKind.wrap_i64]
    omega
  rw [h3]
  omega
theorem tmod_in (x n : Int) (h0 : 0 ≤ x) (hn : 1 ≤ n) : 0 ≤ Int.tmod x n ∧ Int.tmod x n < n := by
  rw [Int.tmod_eq_emod_of_nonneg h0]
  exact ⟨Int.emod_nonneg _ (by omega), Int.emod_lt_of_pos _ (by omega)⟩
theorem tdiv_in (x n : Int) (h0 : 0 ≤ x) (hn : 1 ≤ n) : 0 ≤ Int.tdiv x n ∧ Int.tdiv x n ≤ x := by
  rw [Int.tdiv_eq_ediv_of_nonneg h0]
  exact ⟨Int.ediv_nonneg h0 (by omega), Int.ediv_le_self _ h0⟩
theorem rd_byte {s : List Int} (hb : isBytes s) (i : Int) : 0 ≤ rd s i ∧ rd s i ≤ 255 := by
  unfold rd
  rw [List.getD_eq_getElem?_getD]
  by_cases h : i.toNat < s.length
  · rw [List.getElem?_eq_getElem h]; exact hb _ (List.getElem_mem h)
  · rw [List.getElem?_eq_none (by omega)]; exact ⟨Int.le_refl _, by decide⟩
theorem pick (s : List Int) (p n : Int) (hb : isBytes s) (hl : s.length ≤ 2000) (h0 : 0 ≤ p) (hp : p ≤ 1000000000) (hn : 1 ≤ n) (hn1 : n ≤ 1000000000) :
    ∃ r, Ev (fun k => spec_l20Rd_pick.f k s p n) (r, p + 1) ∧ 0 ≤ r ∧ r < n := by
  unfold spec_l20Rd_pick.f
  simp only [if_neg (show ¬ n < 1 by omega)]
  rw [wrap_id (x := p + 1) (by omega) (by omega)]
  by_cases hs : s.length = 0
  · refine ⟨0, Ev.succ ?_, by omega, by omega⟩
    simp only [spec_l20Rd_pick.j0, hs, Int.natCast_zero, beq_self_eq_true, if_true]
    exact Ev.now _
  · have hz : ((s.length : Int) == 0) = false := by rw [beq_eq_false_iff_ne]; omega
    simp only [hz]
    by_cases h1 : p < (s.length : Int)
    · have hx := rd_byte hb p
      have hm := tmod_in (rd s p) n hx.1 hn
      refine ⟨Int.tmod (rd s p) n, Ev.succ ?_, hm.1, hm.2⟩
      simp only [spec_l20Rd_pick.j0, Bool.false_eq_true, if_false, show p + 1 - 1 = p by omega]
      rw [wrap_id (x := p) (by omega) (by omega), wrap_id (x := rd s p) (by omega) (by omega)]
      simp only [if_pos h1, if_pos h0, if_neg (show ¬ n = 0 by omega)]
      exact Ev.now _
    · have m1 := tmod_in p s.length h0 (by omega)
      have m2 := tmod_in (p * 7 + 3) s.length (by omega) (by omega)
      have d1 := tdiv_in p s.length h0 (by omega)
      have x1 := rd_byte hb (Int.tmod p s.length)
      have x2 := rd_byte hb (Int.tmod (p * 7 + 3) s.length)
      let v := rd s (Int.tmod p s.length) * 131 + rd s (Int.tmod (p * 7 + 3) s.length) * 1117 + p * 29 + Int.tdiv p s.length * 53
      have v0 : 0 ≤ v := by show 0 ≤ _ + _ + _ + _; omega
      have v1 : v < 9223372036854775808 := by show _ + _ + _ + _ < _; omega
      have d2 := tdiv_in v 64 v0 (by omega)
      have b1 := xor_nn v (Int.tdiv v 64) v0 v1 d2.1 (by omega)
      have hm := tmod_in (Go.bits .xor .i64 v (Int.tdiv v 64)) n b1.1 hn
      refine ⟨_, Ev.succ ?_, hm.1, hm.2⟩
      simp only [spec_l20Rd_pick.j0, Bool.false_eq_true, if_false, show p + 1 - 1 = p by omega]
      rw [wrap_id (x := p) (by omega) (by omega)]
      rw [wrap_id (x := p * 7) (by omega) (by omega), wrap_id (x := p * 7 + 3) (by omega) (by omega), wrap_id (x := p * 29) (by omega) (by omega), wrap_id (x := rd s (Int.tmod p s.length)) (by omega) (by omega),
        wrap_id (x := rd s (Int.tmod (p * 7 + 3) s.length)) (by omega) (by omega), wrap_id (x := rd s (Int.tmod p s.length) * 131) (by omega) (by omega), wrap_id (x := rd s (Int.tmod (p * 7 + 3) s.length) * 1117) (by omega) (by omega),
        wrap_id (x := rd s (Int.tmod p s.length) * 131 + rd s (Int.tmod (p * 7 + 3) s.length) * 1117) (by omega) (by omega), wrap_id (x := rd s (Int.tmod p s.length) * 131 + rd s (Int.tmod (p * 7 + 3) s.length) * 1117 + p * 29) (by omega) (by omega),
        wrap_id (x := Int.tdiv p s.length) (by omega) (by omega), wrap_id (x := Int.tdiv p s.length * 53) (by omega) (by omega), wrap_id (x := rd s (Int.tmod p s.length) * 131 + rd s (Int.tmod (p * 7 + 3) s.length) * 1117 + p * 29 + Int.tdiv p s.length * 53) (by omega) (by omega)]
      simp only [if_neg h1, if_neg (show ¬ (s.length : Int) = 0 by omega), if_pos m1.1, if_pos m1.2, if_pos m2.1, if_pos m2.2, if_neg (show ¬ n = 0 by omega)]
      rw [wrap_id (x := Int.tdiv v 64) (by omega) (by omega)]
      exact Ev.now _
theorem odd (s : List Int) (p n : Int) (hb : isBytes s) (hl : s.length ≤ 2000) (h0 : 0 ≤ p) (hp : p ≤ 1000000000) (hn1 : n ≤ 1000000000) :
    ∃ b q, Ev (fun k => spec_l20Rd_odd.f k s p n) (b, q) ∧ 0 ≤ q ∧ q ≤ p + 1 := by
  unfold spec_l20Rd_odd.f
  by_cases h : n > 0
  · simp only [if_pos h]
    obtain ⟨r, e, _, _⟩ := pick s p n hb hl h0 hp (by omega) hn1
    exact ⟨_, _, Ev.bind e (Ev.now _), by omega, by omega⟩
  · simp only [if_neg h]
    exact ⟨_, _, Ev.now _, h0, by omega⟩
theorem open_ (l : List Int) (hb : isBytes l) : ∃ s, spec_l20Open.f l = some (s, 0) ∧ isBytes s ∧ s.length ≤ 2000 := by
  unfold spec_l20Open.f
  by_cases h : (l.length : Int) > 2000
  · simp only [if_pos h, if_pos (show (2000 : Int) ≤ (l.length : Int) by omega)]
    exact ⟨_, rfl, fun x hx => hb x (List.mem_of_mem_take hx), by simp; omega⟩
  · simp only [if_neg h]
    exact ⟨_, rfl, hb, by omega⟩

/-! drawing bytes -/
theorem isBytes_snoc {l : List Int} {v : Int} (h : isBytes l) (hv : 0 ≤ v ∧ v ≤ 255) : isBytes (l ++ [v]) := by
  intro y hy
  rw [List.mem_append] at hy
  rcases hy with hy | hy
  · exact h y hy
  · rw [List.mem_singleton] at hy; omega
theorem bytes_l (s : List Int) (hb : isBytes s) (hl : s.length ≤ 2000) (n : Nat) : ∀ (acc : List Int) (p : Int), isBytes acc → n + acc.length ≤ 100000 → 0 ≤ p → p + 2 * n ≤ 1000000000 →
    ∃ x q, Ev (fun k => spec_l20Rd_bytes.l0 k n acc s p) (x, q) ∧ isBytes x ∧ x.length = n + acc.length ∧ 0 ≤ q ∧ q ≤ p + 2 * n := by
  induction n with
  | zero =>
    intro acc p ha _ h0 _
    refine ⟨acc, p, Ev.succ ?_, ha, by omega, h0, by omega⟩
    simp only [spec_l20Rd_bytes.l0]
    exact Ev.now _
  | succ n ih =>
    intro acc p ha hn h0 hp
    obtain ⟨r1, e1, r10, r11⟩ := pick s p 3 hb hl h0 (by omega) (by omega) (by omega)
    by_cases h1 : r1 = 0
    · obtain ⟨r2, e2, r20, r21⟩ := pick s (p + 1) 256 hb hl (by omega) (by omega) (by omega) (by omega)
      obtain ⟨x, q, e, hx, hxl, hq0, hq1⟩ := ih (acc ++ [r2 % 256]) (p + 1 + 1) (isBytes_snoc ha (by omega)) (by simp; omega) (by omega) (by omega)
      refine ⟨x, q, Ev.succ ?_, hx, by simp at hxl; omega, hq0, by omega⟩
      simp only [spec_l20Rd_bytes.l0, if_pos (show ((n + 1 : Nat) : Int) > 0 by omega)]
      refine Ev.bind e1 ?_
      simp only [if_pos h1]
      refine Ev.bind e2 ?_
      simp only [if_pos (show acc.length < 140737488355328 by omega)]
      rw [wrap_id (x := ((n + 1 : Nat) : Int) - 1) (by omega) (by omega), show ((n + 1 : Nat) : Int) - 1 = (n : Int) by omega]
      exact e
    · obtain ⟨r2, e2, r20, r21⟩ := pick s (p + 1) 3 hb hl (by omega) (by omega) (by omega) (by omega)
      obtain ⟨x, q, e, hx, hxl, hq0, hq1⟩ := ih (acc ++ [wrap64 (r2 + 97) % 256]) (p + 1 + 1) (isBytes_snoc ha (by omega)) (by simp; omega) (by omega) (by omega)
      refine ⟨x, q, Ev.succ ?_, hx, by simp at hxl; omega, hq0, by omega⟩
      simp only [spec_l20Rd_bytes.l0, if_pos (show ((n + 1 : Nat) : Int) > 0 by omega)]
      refine Ev.bind e1 ?_
      simp only [if_neg h1]
      refine Ev.bind e2 ?_
      simp only [if_pos (show acc.length < 140737488355328 by omega)]
      rw [wrap_id (x := ((n + 1 : Nat) : Int) - 1) (by omega) (by omega), show ((n + 1 : Nat) : Int) - 1 = (n : Int) by omega]
      exact e
theorem bytes_ (s : List Int) (n p : Int) (hb : isBytes s) (hl : s.length ≤ 2000) (hn0 : 0 ≤ n) (hn : n ≤ 100000) (h0 : 0 ≤ p) (hp : p ≤ 999000000) :
    ∃ x q, Ev (fun k => spec_l20Rd_bytes.f k s p n) (x, q) ∧ isBytes x ∧ (x.length : Int) = n ∧ 0 ≤ q ∧ q ≤ p + 2 * n := by
  obtain ⟨m, rfl⟩ := Int.eq_ofNat_of_zero_le hn0
  obtain ⟨x, q, e, h1, h2, h3, h4⟩ := bytes_l s hb hl m [] p (by intro y hy; cases hy) (by simp; omega) h0 (by omega)
  exact ⟨x, q, e, h1, by simp at h2; omega, h3, h4⟩

/-! alive -/
theorem bytesOf_5 : Ev (fun k => impl_bytesOf.f k 5 1) [5] := by
  refine Ev.of (k := 3) (fun k => impl_bytesOf.mono 5 1 k) ?_
  kernel_rfl
theorem alive_ : Ev (fun k => laws_alive.f k) true := by
  have h1 : Ev (fun k => impl_BytesOf.f k 5 1) [5] := by
    refine Ev.of (k := 3) (fun k => impl_BytesOf.mono 5 1 k) ?_
    kernel_rfl
  have h2 : Ev (fun k => impl_BytesOf.f k 256 1) [] := by
    refine Ev.of (k := 3) (fun k => impl_BytesOf.mono 256 1 k) ?_
    kernel_rfl
  unfold laws_alive.f
  refine Ev.bind h1 ?_
  simp only [List.length_singleton, Int.natCast_one, if_true]
  refine Ev.bind h2 ?_
  exact Ev.now _

theorem same_refl (l : List Int) : laws_sameBytes.f l l = some true := by
  unfold laws_sameBytes.f; simp

/-! draws, step by step -/
def Dr {α : Type} (f : Nat → Option α) (P : α → Prop) : Prop := ∃ r, Ev f r ∧ P r
theorem Dr.bind {α β : Type} {g : Nat → Option α} {f : Nat → α → Option β} {P : α → Prop} {Q : β → Prop} (h : Dr g P) (k : ∀ r, P r → Dr (fun n => f n r) Q) : Dr (fun n => (g n).bind (f n)) Q := by
  obtain ⟨r, e, hp⟩ := h
  obtain ⟨r2, e2, hq⟩ := k r hp
  exact ⟨r2, Ev.bind e e2, hq⟩
theorem Dr.ev {α : Type} {g : Nat → Option α} {a : α} (e : Ev g a) : Dr g (fun r => r = a) := ⟨a, e, rfl⟩
theorem Dr.now {α : Type} {P : α → Prop} {r : α} (h : P r) : Dr (fun _ => some r) P := ⟨r, Ev.now r, h⟩
theorem Dr.succ {α : Type} {g : Nat → Option α} {P : α → Prop} (h : Dr (fun k => g (k + 1)) P) : Dr g P := by
  obtain ⟨r, e, hp⟩ := h
  exact ⟨r, Ev.succ e, hp⟩
theorem Dr.mono {α : Type} {g : Nat → Option α} {P Q : α → Prop} (h : Dr g P) (k : ∀ r, P r → Q r) : Dr g Q := by
  obtain ⟨r, e, hp⟩ := h
  exact ⟨r, e, k r hp⟩
theorem Dr.ite {α : Type} {c : Prop} [Decidable c] {f g : Nat → Option α} {P : α → Prop} (h : c → Dr f P) (k : ¬ c → Dr g P) : Dr (fun n => if c then f n else g n) P := by
  by_cases hc : c
  · simp only [if_pos hc]; exact h hc
  · simp only [if_neg hc]; exact k hc
theorem Dr.pos {α : Type} {c : Prop} [Decidable c] {f g : Nat → Option α} {P : α → Prop} (hc : c) (h : Dr f P) : Dr (fun n => if c then f n else g n) P := by
  simp only [if_pos hc]; exact h
theorem Dr.neg {α : Type} {c : Prop} [Decidable c] {f g : Nat → Option α} {P : α → Prop} (hc : ¬ c) (h : Dr g P) : Dr (fun n => if c then f n else g n) P := by
  simp only [if_neg hc]; exact h
theorem pick_ {s : List Int} {p n : Int} (hb : isBytes s ∧ s.length ≤ 2000) (h0 : 0 ≤ p ∧ p ≤ 1000000000) (hn : 1 ≤ n ∧ n ≤ 1000000000) :
    Dr (fun k => spec_l20Rd_pick.f k s p n) (fun r => ∃ v, (0 ≤ v ∧ v < n) ∧ r = (v, p + 1)) := by
  obtain ⟨r, e, a, b⟩ := pick s p n hb.1 hb.2 h0.1 h0.2 hn.1 hn.2
  exact ⟨_, e, r, ⟨a, b⟩, rfl⟩
theorem open__ (l : List Int) (hb : isBytes l) : Dr (fun _ => spec_l20Open.f l) (fun r => ∃ s, (isBytes s ∧ s.length ≤ 2000) ∧ r = (s, 0)) := by
  obtain ⟨s, e, h1, h2⟩ := open_ l hb
  exact ⟨_, Ev.pure e, s, ⟨h1, h2⟩, rfl⟩

theorem odd_ {s : List Int} {p n : Int} (hb : isBytes s ∧ s.length ≤ 2000) (h0 : 0 ≤ p ∧ p ≤ 1000000000) (hn : n ≤ 1000000000) :
    Dr (fun k => spec_l20Rd_odd.f k s p n) (fun r => ∃ b q, (p ≤ q ∧ q ≤ p + 1 ∧ (n ≤ 0 → b = false)) ∧ r = (b, q)) := by
  unfold spec_l20Rd_odd.f
  refine Dr.ite (fun h => ?_) (fun h => ?_)
  · refine Dr.bind (pick_ hb h0 ⟨by omega, hn⟩) ?_
    rintro _ ⟨v, ⟨a, b⟩, rfl⟩
    exact Dr.now ⟨_, _, ⟨by dsimp only; omega, by dsimp only; omega, fun h2 => by omega⟩, rfl⟩
  · exact Dr.now ⟨_, _, ⟨by omega, by omega, fun _ => rfl⟩, rfl⟩

theorem bytes__ {s : List Int} {n p : Int} (hb : isBytes s ∧ s.length ≤ 2000) (hn : 0 ≤ n ∧ n ≤ 100000) (h0 : 0 ≤ p ∧ p ≤ 999000000) :
    Dr (fun k => spec_l20Rd_bytes.f k s p n) (fun r => ∃ x q, (isBytes x ∧ (x.length : Int) = n ∧ p ≤ q ∧ q ≤ p + 2 * n) ∧ r = (x, q)) := by
  have hm : ∀ (m : Nat) (acc : List Int) (p : Int), isBytes acc → m + acc.length ≤ 100000 → 0 ≤ p ∧ p + 2 * m ≤ 1000000000 →
      Dr (fun k => spec_l20Rd_bytes.l0 k m acc s p) (fun r => ∃ x q, (isBytes x ∧ x.length = m + acc.length ∧ p ≤ q ∧ q ≤ p + 2 * m) ∧ r = (x, q)) := by
    intro m
    induction m with
    | zero =>
      intro acc p ha _ h0
      refine Dr.succ ?_
      simp only [spec_l20Rd_bytes.l0]
      exact Dr.now ⟨_, _, ⟨ha, by omega, by omega, by omega⟩, rfl⟩
    | succ m ih =>
      intro acc p ha hn h0
      have e : wrap64 (((m + 1 : Nat) : Int) - 1) = (m : Int) := by rw [wrap_id (by omega) (by omega)]; omega
      have fin : ∀ v : Int, 0 ≤ v ∧ v ≤ 255 → Dr (fun k => spec_l20Rd_bytes.l0 k m (acc ++ [v]) s (p + 1 + 1)) (fun r => ∃ x q, (isBytes x ∧ x.length = m + 1 + acc.length ∧ p ≤ q ∧ q ≤ p + 2 * ((m + 1 : Nat) : Int)) ∧ r = (x, q)) := by
        intro v hv
        refine (ih (acc ++ [v]) (p + 1 + 1) (isBytes_snoc ha hv) (by simp; omega) (by omega)).mono ?_
        rintro _ ⟨x, q, ⟨h1, h2, h3, h4⟩, rfl⟩
        exact ⟨_, _, ⟨h1, by simp at h2; omega, by omega, by omega⟩, rfl⟩
      refine Dr.succ ?_
      simp only [spec_l20Rd_bytes.l0, if_pos (show ((m + 1 : Nat) : Int) > 0 by omega), e, if_pos (show acc.length < 140737488355328 by omega)]
      refine Dr.bind (pick_ hb (by omega) (by omega)) ?_
      rintro _ ⟨v, hv, rfl⟩
      refine Dr.ite (fun _ => ?_) (fun _ => ?_)
      · refine Dr.bind (pick_ hb (by omega) (by omega)) ?_
        rintro _ ⟨v2, hv2, rfl⟩
        exact fin _ (by dsimp only; omega)
      · refine Dr.bind (pick_ hb (by omega) (by omega)) ?_
        rintro _ ⟨v2, hv2, rfl⟩
        exact fin _ (by dsimp only; omega)
  obtain ⟨m, rfl⟩ := Int.eq_ofNat_of_zero_le hn.1
  unfold spec_l20Rd_bytes.f
  refine (hm m [] p (by intro y hy; cases hy) (by simp; omega) (by omega)).mono ?_
  rintro _ ⟨x, q, ⟨h1, h2, h3, h4⟩, rfl⟩
  exact ⟨_, _, ⟨h1, by simp at h2; omega, h3, h4⟩, rfl⟩

/-! packets that are drawn: how long their data is -/
abbrev PkT := Int × Int × Int × Int × Int × Int × Bool × Bool × List Int
theorem packet__ {s : List Int} {p n : Int} (hb : isBytes s ∧ s.length ≤ 2000) (h0 : 0 ≤ p ∧ p ≤ 100000000) (hn : n ≤ 1000000000) :
    Dr (fun k => spec_l20Packet.f k s p n) (fun r => ∃ a0 a1 a2 a3 a4 a5 a6 a7 l q, ((l : List Int).length ≤ 60 ∧ p ≤ q ∧ q ≤ p + 100) ∧ r = (a0, a1, a2, a3, a4, a5, a6, a7, l, q)) := by
  have hj : ∀ (q a0 a1 a2 a3 a4 a5 : Int) (a6 a7 : Bool) (l : List Int), 0 ≤ q ∧ q ≤ 200000000 → l.length ≤ 60 →
      Dr (fun k => spec_l20Packet.j0 k n s q a0 a1 a2 a3 a4 a5 a6 a7 l) (fun r => ∃ a0 a1 a2 a3 a4 a5 a6 a7 l q', ((l : List Int).length ≤ 60 ∧ q ≤ q' ∧ q' ≤ q + 10) ∧ r = (a0, a1, a2, a3, a4, a5, a6, a7, l, q')) := by
    intro q a0 a1 a2 a3 a4 a5 a6 a7 l hq hl
    refine Dr.succ ?_
    simp only [spec_l20Packet.j0]
    refine Dr.bind (odd_ hb (by omega) hn) ?_
    rintro _ ⟨b, q1, ⟨q2, q3, _⟩, rfl⟩
    dsimp only
    refine Dr.ite (fun _ => ?_) (fun _ => Dr.now ⟨_, _, _, _, _, _, _, _, _, _, ⟨hl, by omega, by omega⟩, rfl⟩)
    refine Dr.bind (pick_ hb (by omega) (by omega)) ?_
    rintro _ ⟨v, hv, rfl⟩
    dsimp only
    refine Dr.ite (fun _ => ?_) (fun _ => ?_)
    · refine Dr.bind (pick_ hb (by omega) (by omega)) ?_
      rintro _ ⟨v2, hv2, rfl⟩
      exact Dr.now ⟨_, _, _, _, _, _, _, _, _, _, ⟨hl, by omega, by omega⟩, rfl⟩
    · refine Dr.ite (fun _ => ?_) (fun _ => ?_)
      · refine Dr.bind (pick_ hb (by omega) (by omega)) ?_
        rintro _ ⟨v2, hv2, rfl⟩
        exact Dr.now ⟨_, _, _, _, _, _, _, _, _, _, ⟨hl, by omega, by omega⟩, rfl⟩
      · refine Dr.ite (fun _ => ?_) (fun _ => ?_)
        · exact Dr.pos (by omega) (Dr.now ⟨_, _, _, _, _, _, _, _, _, _, ⟨by simp, by omega, by omega⟩, rfl⟩)
        · refine Dr.ite (fun _ => ?_) (fun _ => ?_)
          · exact Dr.now ⟨_, _, _, _, _, _, _, _, _, _, ⟨by simp, by omega, by omega⟩, rfl⟩
          · exact Dr.now ⟨_, _, _, _, _, _, _, _, _, _, ⟨hl, by omega, by omega⟩, rfl⟩
  unfold spec_l20Packet.f
  refine Dr.bind (pick_ hb (by omega) (by omega)) ?_
  rintro _ ⟨v0, hv0, rfl⟩
  dsimp only
  refine Dr.bind (pick_ hb (by omega) (by omega)) ?_
  rintro _ ⟨v1, hv1, rfl⟩
  dsimp only
  refine Dr.bind (pick_ hb (by omega) (by omega)) ?_
  rintro _ ⟨v2, hv2, rfl⟩
  dsimp only
  refine Dr.bind (pick_ hb (by omega) (by omega)) ?_
  rintro _ ⟨v3, hv3, rfl⟩
  dsimp only
  refine Dr.bind (pick_ hb (by omega) (by omega)) ?_
  rintro _ ⟨v4, hv4, rfl⟩
  dsimp only
  refine Dr.bind (pick_ hb (by omega) (by omega)) ?_
  rintro _ ⟨v5, hv5, rfl⟩
  dsimp only
  refine Dr.bind (bytes__ hb (by omega) (by omega)) ?_
  rintro _ ⟨x, q, ⟨_, b2, b3, b4⟩, rfl⟩
  dsimp only
  refine Dr.bind (pick_ hb (by omega) (by omega)) ?_
  rintro _ ⟨v6, hv6, rfl⟩
  dsimp only
  have fin : ∀ (q' : Int) (a0 a1 a2 a3 a4 a5 : Int) (a6 a7 : Bool), q + 1 ≤ q' ∧ q' ≤ q + 5 → Dr (fun k => spec_l20Packet.j0 k n s q' a0 a1 a2 a3 a4 a5 a6 a7 x) (fun r => ∃ a0 a1 a2 a3 a4 a5 a6 a7 l q, ((l : List Int).length ≤ 60 ∧ p ≤ q ∧ q ≤ p + 100) ∧ r = (a0, a1, a2, a3, a4, a5, a6, a7, l, q)) := by
    intro q' a0 a1 a2 a3 a4 a5 a6 a7 hq
    refine (hj q' a0 a1 a2 a3 a4 a5 a6 a7 x (by omega) (by omega)).mono ?_
    rintro _ ⟨b0, b1, b2', b3', b4', b5, b6, b7, l, q2, ⟨c1, c2, c3⟩, rfl⟩
    exact ⟨_, _, _, _, _, _, _, _, _, _, ⟨c1, by omega, by omega⟩, rfl⟩
  refine Dr.ite (fun _ => fin _ _ _ _ _ _ _ _ _ (by omega)) (fun _ => ?_)
  refine Dr.ite (fun _ => ?_) (fun _ => fin _ _ _ _ _ _ _ _ _ (by omega))
  refine Dr.bind (pick_ hb (by omega) (by omega)) ?_
  rintro _ ⟨v7, hv7, rfl⟩
  dsimp only
  refine Dr.ite (fun _ => ?_) (fun _ => fin _ _ _ _ _ _ _ _ _ (by omega))
  refine Dr.bind (pick_ hb (by omega) (by omega)) ?_
  rintro _ ⟨v8, hv8, rfl⟩
  dsimp only
  exact fin _ _ _ _ _ _ _ _ _ (by omega)
theorem long__ {s : List Int} {p : Int} (hb : isBytes s ∧ s.length ≤ 2000) (h0 : 0 ≤ p ∧ p ≤ 90000000) :
    Dr (fun k => spec_l20Long.f k s p) (fun r => ∃ a0 a1 a2 a3 a4 a5 a6 a7 l q, ((l : List Int).length ≤ 60 ∧ p ≤ q ∧ q ≤ p + 300) ∧ r = (a0, a1, a2, a3, a4, a5, a6, a7, l, q)) := by
  unfold spec_l20Long.f
  refine Dr.bind (packet__ hb (by omega) (by omega)) ?_
  rintro _ ⟨a0, a1, a2, a3, a4, a5, a6, a7, l, q, ⟨c1, c2, c3⟩, rfl⟩
  dsimp only
  refine Dr.bind (pick_ hb (by omega) (by omega)) ?_
  rintro _ ⟨v, hv, rfl⟩
  dsimp only
  rw [wrap_id (x := 2 + v) (by omega) (by omega)]
  refine Dr.bind (bytes__ hb (by omega) (by omega)) ?_
  rintro _ ⟨x, q2, ⟨_, b2, b3, b4⟩, rfl⟩
  exact Dr.now ⟨_, _, _, _, _, _, _, _, _, _, ⟨by dsimp only; omega, by dsimp only; omega, by dsimp only; omega⟩, rfl⟩
theorem drawCut (c : List Int) (hb : isBytes c) : Dr (fun k => spec_DrawPacketCut.f k c) (fun r => ∃ a0 a1 a2 a3 a4 a5 a6 a7 l m, ((l : List Int).length ≤ 60) ∧ r = (a0, a1, a2, a3, a4, a5, a6, a7, l, m)) := by
  unfold spec_DrawPacketCut.f
  refine Dr.bind (open__ c hb) ?_
  rintro _ ⟨s, hs, rfl⟩
  dsimp only
  refine Dr.bind (packet__ hs (by omega) (by omega)) ?_
  rintro _ ⟨a0, a1, a2, a3, a4, a5, a6, a7, l, q, ⟨c1, c2, c3⟩, rfl⟩
  dsimp only
  refine Dr.bind (pick_ hs (by omega) (by omega)) ?_
  rintro _ ⟨v, hv, rfl⟩
  dsimp only
  refine Dr.ite (fun _ => ?_) (fun _ => ?_)
  · refine Dr.bind (long__ hs (by omega)) ?_
    rintro _ ⟨b0, b1, b2, b3, b4, b5, b6, b7, l2, q2, ⟨d1, d2, d3⟩, rfl⟩
    dsimp only
    refine Dr.bind (pick_ hs (by omega) (by omega)) ?_
    rintro _ ⟨v2, hv2, rfl⟩
    exact Dr.now ⟨_, _, _, _, _, _, _, _, _, _, d1, rfl⟩
  · refine Dr.bind (pick_ hs (by omega) (by omega)) ?_
    rintro _ ⟨v2, hv2, rfl⟩
    exact Dr.now ⟨_, _, _, _, _, _, _, _, _, _, c1, rfl⟩

theorem rdp24 (l : List CPk) (i : Nat) (h : i < l.length) : rd_T24 l (i : Int) = l[i] := by
  unfold rd_T24
  rw [Int.toNat_natCast, List.getD_eq_getElem?_getD, List.getElem?_eq_getElem h]; rfl
theorem samePackets_l (l : List CPk) (hl : l.length ≤ 1048576) (d : Nat) : ∀ i : Nat, i + d = l.length → Ev (fun k => laws_samePackets.l0 k l l (i : Int)) true := by
  induction d with
  | zero =>
    intro i hi
    refine Ev.succ ?_
    simp only [laws_samePackets.l0, if_neg (show ¬ (i : Int) < (l.length : Int) by omega)]
    exact Ev.now _
  | succ d ih =>
    intro i hi
    have h1 := ih (i + 1) (by omega)
    refine Ev.succ ?_
    simp only [laws_samePackets.l0, if_pos (show (i : Int) < (l.length : Int) by omega), if_pos (show (0 : Int) ≤ (i : Int) by omega), laws_samePacket.f, if_true, same_refl, Option.bind_some, bne_self_eq_false, BEq.rfl]
    rw [wrap_id (x := (i : Int) + 1) (by omega) (by omega)]
    exact h1
theorem samePackets_ (l : List CPk) (hl : l.length ≤ 1048576) : Ev (fun k => laws_samePackets.f k l l) true := by
  unfold laws_samePackets.f; simp only [if_true]; exact samePackets_l l hl l.length 0 (by omega)
theorem cutR_bound (p : CPk) (m : Nat) (hm : 1 ≤ m) (hl : p.f8.length ≤ 48) : (cutR p m).1.length ≤ 49 := by
  unfold cutR
  obtain ⟨n1, n2, n3⟩ := cutN_in p m hm
  split
  · simp
  · split
    · simp
    · simp only [List.length_map, List.length_range]
      rcases n3 with h | h
      · omega
      · have : cutN p m - 1 ≤ (cutN p m - 1) * m := Nat.le_mul_of_pos_right _ hm
        omega
theorem packetCut_bound (p : CPk) (m : Int) : (packetCut p m).1.length ≤ 49 := by
  unfold packetCut
  split
  · rename_i h
    exact cutR_bound p m.toNat (by omega) (pok_cut h.1).2.2
  · simp
/-- what a cut that goes says -/
theorem cut_goes {p : CPk} {m : Int} (h : (packetCut p m).2 = true) : ∃ q : Nat, m = (q : Int) ∧ 1 ≤ q ∧ q ≤ 48 ∧ pok p = true ∧ ¬ (q < p.f8.length ∧ p.f7 = true) ∧ p.f5 + (((cutN p q - 1) * q : Nat) : Int) ≤ 255 ∧ (packetCut p m).1 = (List.range (cutN p q)).map (pieceR p q (cutN p q)) := by
  unfold packetCut at h ⊢
  split at h
  · rename_i c
    rw [if_pos c]
    refine ⟨m.toNat, by omega, by omega, by omega, c.1, ?_⟩
    unfold cutR at h ⊢
    split at h
    · cases h
    · rename_i c1
      rw [if_neg c1]
      split at h
      · cases h
      · rename_i c2
        rw [if_neg c2]
        exact ⟨c1, by omega, rfl⟩
  · cases h
theorem piece_ok {p : CPk} {q k : Nat} (hp : pok p = true) (hq : 1 ≤ q) (h7 : ¬ (q < p.f8.length ∧ p.f7 = true)) (h5 : p.f5 + (((cutN p q - 1) * q : Nat) : Int) ≤ 255) (hk : k < cutN p q) : pok (pieceR p q (cutN p q) k) = true := by
  obtain ⟨n1, n2, n3⟩ := cutN_in p q hq
  have hn : cutN p q = 1 ∨ q < p.f8.length := by
    unfold cutN
    split
    · exact .inl rfl
    · exact .inr (by omega)
  have hkq : k * q ≤ (cutN p q - 1) * q := Nat.mul_le_mul_right _ (by omega)
  have hk1 : k + 1 < cutN p q → (k + 1) * q ≤ (cutN p q - 1) * q := fun h => Nat.mul_le_mul_right _ (by omega)
  have hk2 : (k + 1) * q = k * q + q := Nat.succ_mul k q
  unfold pok at hp ⊢
  simp only [Bool.and_eq_true, inb_iff, decide_eq_true_eq, Bool.or_eq_true, Bool.not_eq_true'] at hp ⊢
  obtain ⟨x0, x1, x2, x3, x4, x5, x8, x6, x7⟩ := hp
  refine ⟨x0, x1, x2, x3, x4, ?_, ?_, ?_, ?_⟩
  · simp only [pieceR]; omega
  · simp only [pieceR, List.length_take, List.length_drop]; omega
  · simp only [pieceR, List.length_take, List.length_drop]
    by_cases c : k + 1 < cutN p q
    · right
      have := hk1 c
      rcases n3 with h | h <;> omega
    · rcases hn with h | h
      · rcases x6 with x6 | x6
        · left; simp [x6, c]
        · right
          have : k = 0 := by omega
          subst this
          have hle : p.f8.length ≤ q := by rw [h] at n2; omega
          simp only [Nat.zero_mul]; omega
      · right
        have hke : k = cutN p q - 1 := by omega
        have : k * q < p.f8.length := by
          rcases n3 with h2 | h2
          · have : k = 0 := by omega
            subst this; omega
          · rw [hke]; exact h2
        omega
  · simp only [pieceR]
    rcases x7 with x7 | x7
    · left; exact x7
    · rcases hn with h | h
      · have : k = 0 := by omega
        subst this
        right
        refine ⟨by have := x7.1; omega, ?_⟩
        simp [x7.2, h]
      · left
        cases h8 : p.f7 with
        | false => rfl
        | true => exact absurd ⟨h, h8⟩ h7
/-- the pieces, cut again by one byte -/
def againR (p : CPk) (q : Nat) (i : Nat) : List CPk := (List.range i).flatMap (fun k => (packetCut (pieceR p q (cutN p q) k) 1).1)
theorem againR_succ (p : CPk) (q i : Nat) : againR p q (i + 1) = againR p q i ++ (packetCut (pieceR p q (cutN p q) i) 1).1 := by
  unfold againR; rw [List.range_succ, List.flatMap_append]; simp
theorem againR_bound (p : CPk) (q i : Nat) : (againR p q i).length ≤ 49 * i := by
  induction i with
  | zero => simp [againR]
  | succ i ih =>
    rw [againR_succ, List.length_append]
    have := packetCut_bound (pieceR p q (cutN p q) i) 1
    omega
theorem map_add {α : Type} (f : Nat → α) (a b : Nat) : (List.range a).map f ++ (List.range b).map (fun j => f (a + j)) = (List.range (a + b)).map f := by
  rw [List.range_add, List.map_append, List.map_map]; rfl
theorem againR_fits {p : CPk} {q : Nat} (hp : pok p = true) (hq : 1 ≤ q) (h7 : p.f7 = false) (hlq : q < p.f8.length) (h5 : p.f5 + (((cutN p q - 1) * q : Nat) : Int) ≤ 255) (h51 : p.f5 + ((p.f8.length - 1 : Nat) : Int) ≤ 255) (i : Nat) : i ≤ cutN p q →
    againR p q i = (List.range (min (i * q) p.f8.length)).map (pieceR p 1 p.f8.length) := by
  obtain ⟨n1, n2, n3⟩ := cutN_in p q hq
  induction i with
  | zero => intro _; simp [againR]
  | succ i ih =>
    intro hi
    have hok := piece_ok (k := i) hp hq (fun h => by rw [h7] at h; exact absurd h.2 (by decide)) h5 (by omega)
    have hiq : i * q ≤ (cutN p q - 1) * q := Nat.mul_le_mul_right _ (by omega)
    have hil : i * q < p.f8.length := by
      rcases n3 with h | h
      · have : i = 0 := by omega
        subst this; omega
      · omega
    have hi1 : i + 1 < cutN p q → (i + 1) * q < p.f8.length := fun h => by
      have : (i + 1) * q ≤ (cutN p q - 1) * q := Nat.mul_le_mul_right _ (by omega)
      rcases n3 with h2 | h2 <;> omega
    have hi2 : ¬ i + 1 < cutN p q → p.f8.length ≤ (i + 1) * q := fun h => by
      have : cutN p q = i + 1 := by omega
      rw [this] at n2; exact n2
    rw [againR_succ, ih (by omega), show min (i * q) p.f8.length = i * q by omega]
    have hsm : (i + 1) * q = i * q + q := Nat.succ_mul i q
    have hL : (pieceR p q (cutN p q) i).f8.length = min q (p.f8.length - i * q) := by simp only [pieceR, List.length_take, List.length_drop]
    have hcN : cutN (pieceR p q (cutN p q) i) 1 = min q (p.f8.length - i * q) := by
      have hcg : ∀ x : CPk, cutN x 1 = if x.f8.length ≤ 1 then 1 else x.f8.length := by intro x; unfold cutN; split <;> simp
      rw [hcg, hL]
      split <;> omega
    have e : (packetCut (pieceR p q (cutN p q) i) 1).1 = (List.range (min q (p.f8.length - i * q))).map (fun j => pieceR p 1 p.f8.length (i * q + j)) := by
      unfold packetCut
      rw [if_pos ⟨hok, by decide, by decide⟩]
      unfold cutR
      rw [show (1 : Int).toNat = 1 from rfl, hcN]
      have c7 : (pieceR p q (cutN p q) i).f7 = false := h7
      rw [if_neg (fun h => by rw [c7] at h; exact absurd h.2 (by decide))]
      rw [if_neg (by simp only [pieceR, Nat.mul_one]; omega)]
      refine List.map_congr_left (fun j hj => ?_)
      have hj := List.mem_range.1 hj
      have hdd : (((p.f8.drop (i * q)).take q).drop (j * 1)).take 1 = (p.f8.drop ((i * q + j) * 1)).take 1 := by
        rw [Nat.mul_one, Nat.mul_one, List.drop_take, List.take_take, List.drop_drop]
        rw [show min 1 (q - j) = 1 by omega]
      have h6 : ((p.f6 || decide (i + 1 < cutN p q)) || decide (j + 1 < min q (p.f8.length - i * q))) = (p.f6 || decide (i * q + j + 1 < p.f8.length)) := by
        by_cases c : i + 1 < cutN p q
        · have := hi1 c
          rw [decide_eq_true c, decide_eq_true (show i * q + j + 1 < p.f8.length by omega)]; simp
        · have := hi2 c
          have ee : (j + 1 < min q (p.f8.length - i * q)) ↔ (i * q + j + 1 < p.f8.length) := by omega
          simp only [c, decide_false, Bool.or_false, ee]
      simp only [pieceR, hdd, h6]
      congr 1
      simp only [Nat.mul_one]; omega
    rw [e, map_add]
    congr 2
    omega
theorem rd_pieces (p : CPk) (q n i : Nat) (h : i < n) : rd_T24 ((List.range n).map (pieceR p q n)) (i : Int) = pieceR p q n i := by
  rw [rdp24 _ i (by simpa using h)]; simp
theorem fnPacketCut_l {p : CPk} {q : Nat} (hp : pok p = true) (hq : 1 ≤ q) (hq48 : q ≤ 48) (h7 : ¬ (q < p.f8.length ∧ p.f7 = true)) (h5 : p.f5 + (((cutN p q - 1) * q : Nat) : Int) ≤ 255) (d : Nat) : ∀ i : Nat, i + d = cutN p q →
    Ev (fun k => laws_FnPacketCut.l0 k (q : Int) ((List.range (cutN p q)).map (pieceR p q (cutN p q))) (p.f8.take (i * q)) (againR p q i) (i : Int) p.f0 p.f1 p.f2 p.f3 p.f4 p.f5 p.f6 p.f7 p.f8) true := by
  obtain ⟨n1, n2, n3⟩ := cutN_in p q hq
  obtain ⟨p0, p5, p8⟩ := pok_cut hp
  have hn48 : cutN p q ≤ 49 := by
    rcases n3 with h | h
    · omega
    · have : cutN p q - 1 ≤ (cutN p q - 1) * q := Nat.le_mul_of_pos_right _ hq
      omega
  have hlen : ((List.range (cutN p q)).map (pieceR p q (cutN p q))).length = cutN p q := by simp
  induction d with
  | zero =>
    intro i hi
    obtain rfl : i = cutN p q := by omega
    refine Ev.step (fun k => laws_FnPacketCut.l0.eq_2 _ _ _ _ _ _ _ _ _ _ _ _ _ _ k) ?_
    simp only [hlen, if_neg (Int.lt_irrefl (cutN p q : Int)), impl_packetCut p 1, Option.bind_some, List.take_of_length_le n2, same_refl, if_true]
    by_cases hf : (packetCut p 1).2 = true
    · simp only [if_pos hf]
      by_cases h1 : (cutN p q : Int) = 1
      · simp only [if_pos h1]; exact Ev.bind alive_ (Ev.now _)
      · simp only [if_neg h1]
        have hlq : q < p.f8.length := by
          refine Nat.lt_of_not_le (fun h => h1 ?_)
          unfold cutN; rw [if_pos h]; rfl
        have h7' : p.f7 = false := by
          cases h8 : p.f7 with
          | false => rfl
          | true => exact absurd ⟨hlq, h8⟩ h7
        obtain ⟨q1, e1, _, _, _, _, f5, e2⟩ := cut_goes hf
        obtain rfl : q1 = 1 := by omega
        have hc1 : cutN p 1 = p.f8.length := by unfold cutN; rw [if_neg (by omega)]; simp
        rw [hc1, Nat.mul_one] at f5
        rw [e2, hc1, againR_fits hp hq h7' hlq h5 f5 _ (Nat.le_refl _), show min (cutN p q * q) p.f8.length = p.f8.length by omega]
        refine Ev.bind (samePackets_ _ (by simp; omega)) ?_
        simp only [if_true]
        exact Ev.bind alive_ (Ev.now _)
    · simp only [if_neg hf]; exact Ev.bind alive_ (Ev.now _)
  | succ d ih =>
    intro i hi
    have hin : i < cutN p q := by omega
    have h1 := ih (i + 1) (by omega)
    have hok := piece_ok (k := i) hp hq h7 h5 hin
    have hiq : i * q ≤ (cutN p q - 1) * q := Nat.mul_le_mul_right _ (by omega)
    have hil : i * q ≤ p.f8.length := by
      rcases n3 with h | h
      · have : i = 0 := by omega
        subst this; omega
      · omega
    have hb := againR_bound p q i
    have hb2 := packetCut_bound (pieceR p q (cutN p q) i) 1
    have hw : Aside0 (wrap64 (p.f5 + ((p.f8.take (i * q)).length : Int)) = p.f5 + ((i * q : Nat) : Int)) := ⟨by
      rw [List.length_take, show min (i * q) p.f8.length = i * q by omega, wrap_id (by omega) (by omega)]⟩
    have hw1 : Aside0 (wrap64 ((i : Int) + 1) = ((i + 1 : Nat) : Int)) := ⟨by rw [wrap_id (by omega) (by omega)]; rfl⟩
    have hj : ∀ b, b = false → Ev (fun k => laws_FnPacketCut.j2 k (q : Int) ((List.range (cutN p q)).map (pieceR p q (cutN p q))) (p.f8.take (i * q)) (againR p q i) (i : Int) b p.f0 p.f1 p.f2 p.f3 p.f4 p.f5 p.f6 p.f7 p.f8) true := by
      rintro b rfl
      refine Ev.step (fun k => laws_FnPacketCut.j2.eq_2 _ _ _ _ _ _ _ _ _ _ _ _ _ _ _ k) ?_
      have hl8 : (pieceR p q (cutN p q) i).f8.length ≤ 48 := by simp only [pieceR, List.length_take, List.length_drop]; omega
      have e1 : (p.f8.take (i * q)).length + (pieceR p q (cutN p q) i).f8.length < 140737488355328 := by rw [List.length_take]; omega
      have e2 : (againR p q i).length + (packetCut (pieceR p q (cutN p q) i) 1).1.length < 1759218604441 := by omega
      have e3 : p.f8.take (i * q) ++ (pieceR p q (cutN p q) i).f8 = p.f8.take ((i + 1) * q) := by simp only [pieceR]; rw [Nat.succ_mul, List.take_add]
      simp only [Bool.false_eq_true, if_false, hlen, if_pos (show (0 : Int) ≤ (i : Int) by omega), if_pos (show (i : Int) < (cutN p q : Int) by omega), rd_pieces p q _ i hin, impl_packetCut, Option.bind_some, if_pos e1, if_pos e2, hw1.out, e3, ← againR_succ]
      exact h1
    refine Ev.step (fun k => laws_FnPacketCut.l0.eq_2 _ _ _ _ _ _ _ _ _ _ _ _ _ _ k) ?_
    have e4 : ¬ (((pieceR p q (cutN p q) i).f8.length : Int) > (q : Int)) := by simp only [pieceR, List.length_take, List.length_drop]; omega
    have e5 : impl_PacketOk.f (pieceR p q (cutN p q) i).f0 (pieceR p q (cutN p q) i).f1 (pieceR p q (cutN p q) i).f2 (pieceR p q (cutN p q) i).f3 (pieceR p q (cutN p q) i).f4 (pieceR p q (cutN p q) i).f5 (pieceR p q (cutN p q) i).f6 (pieceR p q (cutN p q) i).f7 (pieceR p q (cutN p q) i).f8 = some true := (impl_packetOk _ _ _ _ _ _ _ _ _).trans (congrArg some hok)
    have e6 : (pieceR p q (cutN p q) i).f5 = p.f5 + ((i * q : Nat) : Int) := rfl
    simp only [hlen, if_pos (show (0 : Int) ≤ (i : Int) by omega), if_pos (show (i : Int) < (cutN p q : Int) by omega), rd_pieces p q _ i hin, if_neg e4, e5, Option.bind_some, if_true, hw.out, if_pos e6, hw1.out]
    by_cases c6 : p.f6 = true
    · simp only [if_pos c6]
      refine hj _ ?_
      simp [pieceR, c6]
    · simp only [if_neg c6]
      refine hj _ ?_
      have c6' : p.f6 = false := by simpa using c6
      simp only [pieceR, c6', Bool.false_or]
      rw [show decide (((i + 1 : Nat) : Int) < (cutN p q : Int)) = decide (i + 1 < cutN p q) by rw [decide_eq_decide]; omega]
      simp
theorem FnPacketCut : laws_FnPacketCut.Pure := by
  intro c hc1 hc2 hc3
  refine Ev.rounds ?_
  unfold laws_FnPacketCut.f
  by_cases hb : (c.length : Int) > 1048576
  · simp only [if_pos hb]; exact Ev.now _
  simp only [if_neg hb]
  obtain ⟨r, hr, a0, a1, a2, a3, a4, a5, a6, a7, l, m, hl, rfl⟩ := drawCut c (isBytes_wf hc3)
  refine Ev.bind hr ?_
  dsimp only
  have ei := impl_packetCut ⟨a0, a1, a2, a3, a4, a5, a6, a7, l⟩ m
  have es := spec_packetCut ⟨a0, a1, a2, a3, a4, a5, a6, a7, l⟩ m
  have hgo := @cut_goes ⟨a0, a1, a2, a3, a4, a5, a6, a7, l⟩ m
  have hbd := packetCut_bound ⟨a0, a1, a2, a3, a4, a5, a6, a7, l⟩ m
  have hnil : (packetCut ⟨a0, a1, a2, a3, a4, a5, a6, a7, l⟩ m).2 = false → (packetCut ⟨a0, a1, a2, a3, a4, a5, a6, a7, l⟩ m).1 = [] := by
    unfold packetCut cutR
    split
    · split
      · intro _; rfl
      · split
        · intro _; rfl
        · intro h; cases h
    · intro _; rfl
  simp only [] at ei es
  simp only [ei, Option.bind_some]
  refine Ev.bind es ?_
  simp only [bne_self_eq_false, Bool.false_eq_true, if_false]
  refine Ev.bind (samePackets_ _ (by omega)) ?_
  refine Ev.step (fun k => laws_FnPacketCut.j0.eq_2 _ _ _ _ _ _ _ _ _ _ _ _ _ k) ?_
  simp only [Bool.not_true, Bool.false_eq_true, if_false]
  by_cases h2 : (packetCut ⟨a0, a1, a2, a3, a4, a5, a6, a7, l⟩ m).2 = true
  · simp only [if_pos h2]
    obtain ⟨q, rfl, q1, q2, q3, q4, q5, q6⟩ := hgo h2
    rw [q6]
    have := fnPacketCut_l q3 q1 q2 q4 q5 (cutN ⟨a0, a1, a2, a3, a4, a5, a6, a7, l⟩ q) 0 (by omega)
    simpa [againR] using this
  · simp only [if_neg h2, hnil (by simpa using h2), List.length_nil, Int.natCast_zero, if_true]
    exact Ev.bind alive_ (Ev.now _)

end Go.Proofs.Ytbhofhdmbbipgaa.Pure
