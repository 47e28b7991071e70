/- A packet is cut as by the reference: the plain law. -/
import Derived.Test.YtbhofhdmbbipgaaPFnExactPacketCutx
namespace Go.Proofs.Ytbhofhdmbbipgaa.Pure
set_option linter.unusedSimpArgs false
set_option linter.unusedVariables false
open Go.RowKit Go.Proofs.Ytbhofhdmbbipgaa.PFnExactPacketCut Go.Proofs.YtbhofhdmbbipgaaW.PrintWords Go.Proofs.YtbhofhdmbbipgaaW.PrintLast Go.Proofs.YtbhofhdmbbipgaaW.PrintMore

theorem Ev.succ {α : Type} {g : Nat → Option α} {r : α} (h : Ev (fun k => g (k + 1)) r) : Ev g r := Ev.step (fun _ => rfl) h
theorem Ev.pure {α : Type} {o : Option α} {r : α} (h : o = some r) : Ev (fun _ => o) r := by rw [h]; exact Ev.now r
theorem Ev.cong {α : Type} {g g' : Nat → Option α} {r : α} (h : ∀ k, g k = g' k) (e : Ev g' r) : Ev g r := by rw [show g = g' from funext h]; exact e
theorem wrap_id {x : Int} (h0 : -9223372036854775808 ≤ x) (h1 : x ≤ 9223372036854775807) : wrap64 x = x := by unfold wrap64; omega

theorem rd_get (l : List Int) (i : Nat) (h : i < l.length) : rd l (i : Int) = l[i] := by
  unfold rd
  rw [Int.toNat_natCast, List.getD_eq_getElem?_getD, List.getElem?_eq_getElem h]; rfl
theorem take_set_succ {α : Type} (x : List α) (i : Nat) (v : α) (h : i < x.length) : (x.set i v).take (i + 1) = x.take i ++ [v] := by
  rw [List.take_succ_eq_append_getElem (by simpa using h), List.getElem_set_self, List.take_set, List.set_eq_of_length_le (by simp; omega)]


/-- toByteS: a copy. -/
theorem toByteS_l (l : List Int) (hl : l.length ≤ 1048576) (d : Nat) : ∀ (i : Nat) (x : List Int), i ≤ l.length → l.length - i = d → x.length = l.length → x.take i = l.take i →
    Ev (fun k => laws_toByteS.l0 k l x (i : Int)) l := by
  induction d with
  | zero =>
    intro i x hi hd hx ht
    have hil : i = l.length := by omega
    subst hil
    refine Ev.succ ?_
    simp only [laws_toByteS.l0]
    simp only [Int.lt_irrefl, if_false]
    have : x = l := by rw [← hx, List.take_length] at ht; rw [ht, hx, List.take_length]
    rw [this]; exact Ev.now l
  | succ d ih =>
    intro i x hi hd hx ht
    have hlt : i < l.length := by omega
    refine Ev.succ ?_
    simp only [laws_toByteS.l0]
    simp only [if_pos (show (i : Int) < (l.length : Int) by omega), if_pos (show (0 : Int) ≤ (i : Int) by omega), if_pos (show (i : Int) < (x.length : Int) by omega)]
    rw [wrap_id (by omega) (by omega), rd_get l i hlt, Int.toNat_natCast]
    refine ih (i + 1) _ (by omega) (by omega) (by simpa using hx) ?_
    rw [take_set_succ _ _ _ (by omega), ht, List.take_succ_eq_append_getElem hlt]
theorem toByteS (l : List Int) (hl : l.length ≤ 1048576) : Ev (fun k => laws_toByteS.f k l) l := by
  unfold laws_toByteS.f
  simp only [if_pos (show (0 : Int) ≤ (l.length : Int) by omega), Int.toNat_natCast, if_pos (show l.length ≤ 281474976710656 by omega)]
  exact toByteS_l l hl _ 0 _ (by omega) rfl (by simp) (by simp)
/-- eqByteS of a list and itself. -/
theorem eqByteS_l (l : List Int) (hl : l.length ≤ 9223372036854775806) (d : Nat) : ∀ (i : Nat), i ≤ l.length → l.length - i = d → Ev (fun k => laws_eqByteS.l0 k l l (i : Int)) true := by
  induction d with
  | zero =>
    intro i hi hd
    refine Ev.succ ?_
    simp only [laws_eqByteS.l0]
    simp only [if_neg (show ¬ (i : Int) < (l.length : Int) by omega)]
    exact Ev.now true
  | succ d ih =>
    intro i hi hd
    refine Ev.succ ?_
    simp only [laws_eqByteS.l0]
    simp only [if_pos (show (i : Int) < (l.length : Int) by omega), if_pos (show (0 : Int) ≤ (i : Int) by omega), if_true]
    rw [wrap_id (by omega) (by omega)]
    exact ih (i + 1) (by omega) (by omega)
theorem eqByteS (l : List Int) (hl : l.length ≤ 9223372036854775806) : Ev (fun k => laws_eqByteS.f k l l) true := by
  unfold laws_eqByteS.f
  simp only [if_true]
  exact eqByteS_l l hl _ 0 (by omega) rfl
/-- What markByteS leaves. -/
def markB : Nat → Int → List Int
  | 0, _ => []
  | n + 1, m => m % 256 :: markB n (m + 1)
theorem markB_length (n : Nat) (m : Int) : (markB n m).length = n := by
  induction n generalizing m with
  | zero => rfl
  | succ n ih => simp [markB, ih]
theorem markB_get (n : Nat) (m : Int) (i : Nat) (h : i < (markB n m).length) : (markB n m)[i] = (m + i) % 256 := by
  induction n generalizing m i with
  | zero => simp [markB] at h
  | succ n ih =>
    cases i with
    | zero => simp [markB]
    | succ i => simp only [markB, List.getElem_cons_succ]; rw [ih]; congr 1; push_cast; omega
theorem markByteS_l (n : Nat) (m : Int) (h0 : 0 ≤ m) (h1 : m + n ≤ 4611686018427387904) (d : Nat) : ∀ (i : Nat) (x : List Int), i ≤ n → n - i = d → x.length = n → x.take i = (markB n m).take i →
    Ev (fun k => laws_markByteS.l0 k x (m + i) (i : Int)) (m + n, markB n m) := by
  have hM := markB_length n m
  induction d with
  | zero =>
    intro i x hi hd hx ht
    have hil : i = n := by omega
    subst hil
    refine Ev.succ ?_
    simp only [laws_markByteS.l0]
    simp only [if_neg (show ¬ (i : Int) < (x.length : Int) by omega)]
    have : x = markB i m := by rw [List.take_of_length_le (by omega), List.take_of_length_le (by omega)] at ht; exact ht
    rw [this]; exact Ev.now _
  | succ d ih =>
    intro i x hi hd hx ht
    refine Ev.succ ?_
    simp only [laws_markByteS.l0]
    simp only [if_pos (show (i : Int) < (x.length : Int) by omega), if_pos (show (0 : Int) ≤ (i : Int) by omega)]
    rw [wrap_id (by omega) (by omega), wrap_id (by omega) (by omega), Int.toNat_natCast]
    have := ih (i + 1) (x.set i ((m + i) % 256)) (by omega) (by omega) (by simpa using hx) (by
      rw [take_set_succ _ _ _ (by omega), ht, List.take_succ_eq_append_getElem (by omega), markB_get])
    rw [show (m + ((i + 1 : Nat) : Int)) = m + i + 1 by push_cast; omega] at this
    exact this
theorem markByteS (l : List Int) (m : Int) (h0 : 0 ≤ m) (h1 : m + l.length ≤ 4611686018427387904) : Ev (fun k => laws_markByteS.f k l m) (m + l.length, markB l.length m) := by
  unfold laws_markByteS.f
  have := markByteS_l l.length m h0 h1 _ 0 l (by omega) rfl rfl (by simp)
  simpa using this
theorem heldByteS_l (n : Nat) (m : Int) (h0 : 0 ≤ m) (h1 : m + n ≤ 4611686018427387904) (d : Nat) : ∀ (i : Nat), i ≤ n → n - i = d → Ev (fun k => laws_heldByteS.l0 k (markB n m) (m + i) (i : Int)) (m + n) := by
  have hM := markB_length n m
  induction d with
  | zero =>
    intro i hi hd
    have hil : i = n := by omega
    subst hil
    refine Ev.succ ?_
    simp only [laws_heldByteS.l0]
    simp only [if_neg (show ¬ (i : Int) < ((markB i m).length : Int) by omega)]
    exact Ev.now _
  | succ d ih =>
    intro i hi hd
    refine Ev.succ ?_
    simp only [laws_heldByteS.l0]
    rw [rd_get _ i (by omega), markB_get]
    simp only [if_pos (show (i : Int) < ((markB n m).length : Int) by omega), if_pos (show (0 : Int) ≤ (i : Int) by omega), if_true]
    rw [wrap_id (by omega) (by omega), wrap_id (by omega) (by omega)]
    have := ih (i + 1) (by omega) (by omega)
    rw [show (m + ((i + 1 : Nat) : Int)) = m + i + 1 by push_cast; omega] at this
    exact this
theorem heldByteS (n : Nat) (m : Int) (h0 : 0 ≤ m) (h1 : m + n ≤ 4611686018427387904) : Ev (fun k => laws_heldByteS.f k (markB n m) m) (m + n) := by
  unfold laws_heldByteS.f
  have := heldByteS_l n m h0 h1 _ 0 (by omega) rfl
  simpa using this
theorem szByteS (l : List Int) (m : Int) (h : l.length ≤ 9223372036854775807) (h0 : 0 ≤ m) (h1 : m ≤ 1048576) : laws_szByteS.f l m = some (if m - l.length < 0 then -1 else m - l.length) := by
  unfold laws_szByteS.f
  rw [wrap_id (by omega) (by omega)]
  split <;> rfl


/-! a packet that is ok -/
def inb (x lo hi : Int) : Bool := decide (lo ≤ x) && decide (x ≤ hi)
theorem inb_iff {x lo hi : Int} : inb x lo hi = true ↔ lo ≤ x ∧ x ≤ hi := by unfold inb; simp
theorem impl_in_ (x lo hi : Int) : impl_in.f x lo hi = some (inb x lo hi) := by
  unfold impl_in.f inb; by_cases h : x ≥ lo
  · simp only [if_pos h, decide_eq_true (show lo ≤ x from h), Bool.true_and]
  · simp only [if_neg h, decide_eq_false (show ¬ lo ≤ x from h), Bool.false_and]
theorem spec_in_ (x lo hi : Int) : spec_l1In.f x lo hi = some (inb x lo hi) := by
  unfold spec_l1In.f inb; by_cases h : x ≥ lo
  · simp only [if_pos h, decide_eq_true (show lo ≤ x from h), Bool.true_and]
  · simp only [if_neg h, decide_eq_false (show ¬ lo ≤ x from h), Bool.false_and]
def pok (p : S24) : Bool := inb p.f0 0 65535 && (inb p.f1 0 65535 && (inb p.f2 0 255 && (inb p.f3 0 255 && (inb p.f4 0 255 && (inb p.f5 0 255 && (decide ((p.f8.length : Int) ≤ 48) && ((!p.f6 || decide ((p.f8.length : Int) > 0)) && (!p.f7 || (decide (p.f5 = 0) && !p.f6)))))))))
theorem impl_packetOk (a0 a1 a2 a3 a4 a5 : Int) (a6 a7 : Bool) (l : List Int) : impl_PacketOk.f a0 a1 a2 a3 a4 a5 a6 a7 l = some (pok ⟨a0, a1, a2, a3, a4, a5, a6, a7, l⟩) := by
  unfold impl_PacketOk.f pok
  simp only [impl_word.f, impl_in_, Option.bind_some]
  cases inb a0 0 65535
  · simp
  cases inb a1 0 65535
  · simp
  cases inb a2 0 255
  · simp
  cases inb a3 0 255
  · simp
  cases inb a4 0 255
  · simp
  cases inb a5 0 255
  · simp
  by_cases h : (l.length : Int) ≤ 48 <;> by_cases h0 : 0 < l.length <;> by_cases h5 : a5 = 0 <;> cases a6 <;> cases a7 <;> simp [h, h0, h5]
theorem spec_packetOk (a0 a1 a2 a3 a4 a5 : Int) (a6 a7 : Bool) (l : List Int) : Ev (fun k => spec_PacketOk.f k a0 a1 a2 a3 a4 a5 a6 a7 l) (pok ⟨a0, a1, a2, a3, a4, a5, a6, a7, l⟩) := by
  have j : ∀ x : Bool, Ev (fun k => spec_PacketOk.j0 k x a0 a1 a2 a3 a4 a5 a6 a7 l) (!x && (decide ((l.length : Int) ≤ 48) && ((!a6 || decide ((l.length : Int) > 0)) && (!a7 || (decide (a5 = 0) && !a6))))) := by
    intro x
    refine Ev.succ ?_
    simp only [spec_PacketOk.j0]
    refine Ev.pure ?_
    cases x
    · by_cases h : (l.length : Int) ≤ 48 <;> by_cases h0 : 0 < l.length <;> by_cases h5 : a5 = 0 <;> cases a6 <;> cases a7 <;> simp [h, h0, h5]
    · simp
  unfold spec_PacketOk.f pok
  simp only [spec_in_, Option.bind_some]
  cases inb a0 0 65535
  · exact j true
  cases inb a1 0 65535
  · exact j true
  cases inb a2 0 255
  · exact j true
  cases inb a3 0 255
  · exact j true
  cases inb a4 0 255
  · exact j true
  cases inb a5 0 255
  · exact j true
  · exact j false

/-! packets of a row -/
abbrev Pk := S24
theorem rdp (l : List Pk) (i : Nat) (h : i < l.length) : rd_T24 l (i : Int) = l[i] := by
  unfold rd_T24
  rw [Int.toNat_natCast, List.getD_eq_getElem?_getD, List.getElem?_eq_getElem h]; rfl

/-! packets of a law, as rows: measured, copied, told alike, marked -/
abbrev PL := S35
theorem rdPL (l : List PL) (i : Nat) (h : i < l.length) : rd_T35 l (i : Int) = l[i] := by
  unfold rd_T35
  rw [Int.toNat_natCast, List.getD_eq_getElem?_getD, List.getElem?_eq_getElem h]; rfl
def toP (z : PL) : Pk := ⟨z.f0, z.f1, z.f2, z.f3, z.f4, z.f5, z.f6, z.f7, z.f8⟩
theorem toPacket (a0 a1 a2 a3 a4 a5 : Int) (a6 a7 : Bool) (l : List Int) (hl : l.length ≤ 1048576) : Ev (fun k => laws_toPacket.f k a0 a1 a2 a3 a4 a5 a6 a7 l) (a0, a1, a2, a3, a4, a5, a6, a7, l) := by
  unfold laws_toPacket.f; exact Ev.bind (toByteS l hl) (Ev.now _)
theorem eqPacket (a0 a1 a2 a3 a4 a5 : Int) (a6 a7 : Bool) (l : List Int) (hl : l.length ≤ 9223372036854775806) : Ev (fun k => laws_eqPacket.f k a0 a1 a2 a3 a4 a5 a6 a7 l a0 a1 a2 a3 a4 a5 a6 a7 l) true := by
  unfold laws_eqPacket.f
  simp only [if_true, bne_self_eq_false, Bool.false_eq_true, if_false]
  refine Ev.bind (eqByteS l hl) ?_
  simp only [if_true]; exact Ev.now _
theorem eqPacketS_l (l : List Pk) (hl : l.length ≤ 1048576) (hb : ∀ z ∈ l, z.f8.length ≤ 1048576) (d : Nat) : ∀ i : Nat, i ≤ l.length → l.length - i = d → Ev (fun k => laws_eqPacketS.l0 k l l (i : Int)) true := by
  induction d with
  | zero =>
    intro i hi hd
    refine Ev.succ ?_
    simp only [laws_eqPacketS.l0, if_neg (show ¬ (i : Int) < (l.length : Int) by omega)]
    exact Ev.now true
  | succ d ih =>
    intro i hi hd
    have hlt : i < l.length := by omega
    have hz := hb _ (List.getElem_mem hlt)
    refine Ev.succ ?_
    simp only [laws_eqPacketS.l0, if_pos (show (i : Int) < (l.length : Int) by omega), if_pos (show (0 : Int) ≤ (i : Int) by omega), rdp l i hlt]
    refine Ev.bind (eqPacket _ _ _ _ _ _ _ _ l[i].f8 (by omega)) ?_
    simp only [if_true]
    rw [wrap_id (by omega) (by omega)]
    exact ih (i + 1) (by omega) (by omega)
theorem eqPacketS (l : List Pk) (hl : l.length ≤ 1048576) (hb : ∀ z ∈ l, z.f8.length ≤ 1048576) : Ev (fun k => laws_eqPacketS.f k l l) true := by
  unfold laws_eqPacketS.f
  simp only [if_true]
  exact eqPacketS_l l hl hb _ 0 (by omega) rfl
/-- How many numbers and bytes packets have. -/
def pmany : List Pk → Nat
  | [] => 0
  | z :: l => 8 + z.f8.length + pmany l
def mkP : List Pk → Int → List Pk
  | [], _ => []
  | z :: l, m => ⟨m, m + 1, m + 2, m + 3, m + 4, m + 5, decide (Int.tmod (m + 6) 3 = 0), decide (Int.tmod (m + 7) 3 = 0), markB z.f8.length (m + 8)⟩ :: mkP l (m + 8 + z.f8.length)
theorem pmany_len (l : List Pk) : l.length ≤ pmany l := by
  induction l with
  | nil => simp
  | cons z l ih => simp only [pmany, List.length_cons]; omega
theorem pmany_bound (l : List Pk) (n b : Nat) (hl : l.length ≤ n) (hb : ∀ z ∈ l, z.f8.length ≤ b) : pmany l ≤ n * (8 + b) := by
  induction l generalizing n with
  | nil => simp [pmany]
  | cons z l ih =>
    obtain ⟨n, rfl⟩ : ∃ m, n = m + 1 := ⟨n - 1, by simp at hl; omega⟩
    have h1 := ih n (by simpa using hl) (fun y hy => hb y (List.mem_cons_of_mem _ hy))
    have h2 := hb z List.mem_cons_self
    simp only [pmany]
    rw [Nat.add_mul, Nat.one_mul]
    omega
theorem mkP_length (l : List Pk) (m : Int) : (mkP l m).length = l.length := by
  induction l generalizing m with
  | nil => rfl
  | cons z l ih => simp [mkP, ih]
theorem markPacketS_l (d : Nat) : ∀ (i : Nat) (x : List Pk) (m : Int), i ≤ x.length → x.length - i = d → x.length ≤ 4611686018427387904 → 0 ≤ m → m + pmany (x.drop i) ≤ 4611686018427387904 →
    Ev (fun k => laws_markPacketS.l0 k x m (i : Int)) (m + pmany (x.drop i), x.take i ++ mkP (x.drop i) m) := by
  induction d with
  | zero =>
    intro i x m hi hd hx h0 h1
    refine Ev.succ ?_
    simp only [laws_markPacketS.l0, if_neg (show ¬ (i : Int) < (x.length : Int) by omega)]
    rw [List.drop_of_length_le (by omega), List.take_of_length_le (by omega)]
    simp only [pmany, mkP, List.append_nil, Int.natCast_zero, Int.add_zero]
    exact Ev.now _
  | succ d ih =>
    intro i x m hi hd hx h0 h1
    have hlt : i < x.length := by omega
    have hdr : x.drop i = x[i] :: x.drop (i + 1) := List.drop_eq_getElem_cons hlt
    have h2 : m + (8 + x[i].f8.length + pmany (x.drop (i + 1)) : Nat) ≤ 4611686018427387904 := by rw [hdr] at h1; exact h1
    refine Ev.succ ?_
    simp only [laws_markPacketS.l0, if_pos (show (i : Int) < (x.length : Int) by omega), if_pos (show (0 : Int) ≤ (i : Int) by omega), rdp x i hlt, Int.toNat_natCast]
    rw [wrap_id (x := m + 1) (by omega) (by omega), wrap_id (x := m + 1 + 1) (by omega) (by omega), wrap_id (x := m + 1 + 1 + 1) (by omega) (by omega), wrap_id (x := m + 1 + 1 + 1 + 1) (by omega) (by omega), wrap_id (x := m + 1 + 1 + 1 + 1 + 1) (by omega) (by omega), wrap_id (x := m + 1 + 1 + 1 + 1 + 1 + 1) (by omega) (by omega), wrap_id (x := m + 1 + 1 + 1 + 1 + 1 + 1 + 1) (by omega) (by omega), wrap_id (x := m + 1 + 1 + 1 + 1 + 1 + 1 + 1 + 1) (by omega) (by omega), wrap_id (x := (i : Int) + 1) (by omega) (by omega)]
    rw [show m + 1 + 1 + 1 + 1 + 1 + 1 + 1 + 1 = m + 8 by omega, show m + 1 + 1 + 1 + 1 + 1 + 1 + 1 = m + 7 by omega, show m + 1 + 1 + 1 + 1 + 1 + 1 = m + 6 by omega, show m + 1 + 1 + 1 + 1 + 1 = m + 5 by omega, show m + 1 + 1 + 1 + 1 = m + 4 by omega, show m + 1 + 1 + 1 = m + 3 by omega, show m + 1 + 1 = m + 2 by omega]
    refine Ev.bind (markByteS x[i].f8 (m + 8) (by omega) (by omega)) ?_
    have h3 := ih (i + 1) (x.set i ⟨m, m + 1, m + 2, m + 3, m + 4, m + 5, decide (Int.tmod (m + 6) 3 = 0), decide (Int.tmod (m + 7) 3 = 0), markB x[i].f8.length (m + 8)⟩) (m + 8 + x[i].f8.length) (by simp; omega) (by simp; omega) (by simpa using hx) (by omega) (by rw [List.drop_set_of_lt (by omega)]; omega)
    rw [List.drop_set_of_lt (by omega), take_set_succ _ _ _ hlt] at h3
    rw [hdr]
    simp only [pmany, mkP]
    rw [show (m + (8 + x[i].f8.length + pmany (x.drop (i + 1)) : Nat) : Int) = m + 8 + x[i].f8.length + pmany (x.drop (i + 1)) by push_cast; omega]
    rw [List.append_assoc, List.singleton_append] at h3
    exact h3
theorem markPacketS (l : List Pk) (m : Int) (h0 : 0 ≤ m) (h1 : m + pmany l ≤ 4611686018427387904) : Ev (fun k => laws_markPacketS.f k l m) (m + pmany l, mkP l m) := by
  unfold laws_markPacketS.f
  have hl := pmany_len l
  have := markPacketS_l l.length 0 l m (by omega) (by omega) (by omega) h0 (by simpa using h1)
  simpa using this

/-! marked packets are found held -/
theorem heldPacketS_l (q : List Pk) : ∀ (p : List Pk) (m : Int), (p ++ mkP q m).length ≤ 4611686018427387904 → 0 ≤ m → m + pmany q ≤ 4611686018427387904 →
    Ev (fun k => laws_heldPacketS.l0 k (p ++ mkP q m) m (p.length : Int)) (m + pmany q) := by
  induction q with
  | nil =>
    intro p m hl h0 h1
    refine Ev.succ ?_
    simp only [laws_heldPacketS.l0, mkP, List.append_nil, Int.lt_irrefl, if_false, pmany, Int.natCast_zero, Int.add_zero]
    exact Ev.now _
  | cons z q ih =>
    intro p m hl h0 h1
    have hln : (p ++ mkP (z :: q) m).length = p.length + (q.length + 1) := by rw [List.length_append, mkP_length, List.length_cons]
    have h2 : m + (8 + z.f8.length + pmany q : Nat) ≤ 4611686018427387904 := h1
    have hrd : rd_T24 (p ++ mkP (z :: q) m) (p.length : Int) = ⟨m, m + 1, m + 2, m + 3, m + 4, m + 5, decide (Int.tmod (m + 6) 3 = 0), decide (Int.tmod (m + 7) 3 = 0), markB z.f8.length (m + 8)⟩ := by
      rw [rdp _ _ (by rw [hln]; omega)]
      simp [mkP]
    have e := ih (p ++ [⟨m, m + 1, m + 2, m + 3, m + 4, m + 5, decide (Int.tmod (m + 6) 3 = 0), decide (Int.tmod (m + 7) 3 = 0), markB z.f8.length (m + 8)⟩]) (m + 8 + z.f8.length) (by rw [List.length_append, List.length_append, List.length_singleton, mkP_length]; rw [hln] at hl; omega) (by omega) (by omega)
    rw [List.append_assoc, List.singleton_append, List.length_append, List.length_singleton] at e
    refine Ev.succ ?_
    simp only [laws_heldPacketS.l0, hrd]
    simp only [if_pos (show (p.length : Int) < ((p ++ mkP (z :: q) m).length : Int) by rw [hln]; omega), if_pos (show (0 : Int) ≤ (p.length : Int) by omega)]
    rw [wrap_id (x := m + 1) (by omega) (by omega), wrap_id (x := m + 1 + 1) (by omega) (by omega), wrap_id (x := m + 1 + 1 + 1) (by omega) (by omega), wrap_id (x := m + 1 + 1 + 1 + 1) (by omega) (by omega), wrap_id (x := m + 1 + 1 + 1 + 1 + 1) (by omega) (by omega), wrap_id (x := m + 1 + 1 + 1 + 1 + 1 + 1) (by omega) (by omega), wrap_id (x := m + 1 + 1 + 1 + 1 + 1 + 1 + 1) (by omega) (by omega), wrap_id (x := m + 1 + 1 + 1 + 1 + 1 + 1 + 1 + 1) (by omega) (by omega), wrap_id (x := (p.length : Int) + 1) (by omega) (by omega)]
    rw [show m + 1 + 1 + 1 + 1 + 1 + 1 + 1 + 1 = m + 8 by omega, show m + 1 + 1 + 1 + 1 + 1 + 1 + 1 = m + 7 by omega, show m + 1 + 1 + 1 + 1 + 1 + 1 = m + 6 by omega, show m + 1 + 1 + 1 + 1 + 1 = m + 5 by omega, show m + 1 + 1 + 1 + 1 = m + 4 by omega, show m + 1 + 1 + 1 = m + 3 by omega, show m + 1 + 1 = m + 2 by omega]
    have hb : ∀ x : Int, (decide (x = 0) != (x == 0)) = false := fun x => by cases h : (x == 0) <;> simp_all
    simp only [if_true, hb, Bool.false_eq_true, if_false]
    refine Ev.bind (heldByteS z.f8.length (m + 8) (by omega) (by omega)) ?_
    simp only [if_neg (show ¬ m + 8 + (z.f8.length : Int) < 0 by omega), pmany]
    rw [show (m + ((8 + z.f8.length + pmany q : Nat) : Int)) = m + 8 + z.f8.length + pmany q by omega]
    exact e
theorem heldPacketS (l : List Pk) (m : Int) (h0 : 0 ≤ m) (h1 : m + pmany l ≤ 4611686018427387904) : Ev (fun k => laws_heldPacketS.f k (mkP l m) m) (m + pmany l) := by
  unfold laws_heldPacketS.f
  have hl := pmany_len l
  have := heldPacketS_l l [] m (by simp [mkP_length]; omega) h0 h1
  simpa using this

/-! a packet that is cut: the reference, and the program's pieces (impl_cut.out, as printed) -/
abbrev CPk := S24
def pieceR (p : CPk) (m n k : Nat) : CPk := ⟨p.f0, p.f1, p.f2, p.f3, p.f4, p.f5 + ((k * m : Nat) : Int), p.f6 || decide (k + 1 < n), p.f7, (p.f8.drop (k * m)).take m⟩
def cutN (p : CPk) (m : Nat) : Nat := if p.f8.length ≤ m then 1 else (p.f8.length + m - 1) / m
def cutR (p : CPk) (m : Nat) : List CPk × Bool :=
  if m < p.f8.length ∧ p.f7 = true then ([], false) else if p.f5 + (((cutN p m - 1) * m : Nat) : Int) > 255 then ([], false) else ((List.range (cutN p m)).map (pieceR p m (cutN p m)), true)
theorem cutN_in (p : CPk) (m : Nat) (hm : 1 ≤ m) : 1 ≤ cutN p m ∧ p.f8.length ≤ cutN p m * m ∧ (cutN p m = 1 ∨ (cutN p m - 1) * m < p.f8.length) := by
  unfold cutN
  split
  · rename_i h; exact ⟨Nat.le_refl _, by omega, .inl rfl⟩
  · rename_i h
    have h1 : (p.f8.length + m - 1) / m * m ≤ p.f8.length + m - 1 := Nat.div_mul_le_self _ _
    have h2 : p.f8.length + m - 1 < ((p.f8.length + m - 1) / m + 1) * m := by
      have := Nat.lt_div_mul_add (a := p.f8.length + m - 1) (b := m) (by omega)
      rw [Nat.add_mul, Nat.one_mul]; exact this
    generalize (p.f8.length + m - 1) / m = n at *
    rw [Nat.add_mul, Nat.one_mul] at h2
    refine ⟨?_, by omega, .inr ?_⟩
    · rcases Nat.eq_zero_or_pos n with h3 | h3
      · subst h3; omega
      · exact h3
    · rw [Nat.sub_mul, Nat.one_mul]
      rcases Nat.eq_zero_or_pos n with h3 | h3
      · subst h3; omega
      · have : m ≤ n * m := Nat.le_mul_of_pos_left m h3
        omega
theorem cut_out (p : CPk) (m : Nat) (hm : 1 ≤ m) (h5 : p.f5 ≤ 255) (hl : p.f8.length ≤ 48) : impl_cut.out p m = cutR p m := by
  unfold impl_cut.out cutR
  by_cases c : p.f8.length ≤ m
  · rw [if_pos c, if_neg (show ¬ (m < p.f8.length ∧ p.f7 = true) by omega)]
    have hn : cutN p m = 1 := by unfold cutN; rw [if_pos c]
    rw [hn, if_neg (show ¬ p.f5 + (((1 - 1) * m : Nat) : Int) > 255 by simp; omega)]
    simp [pieceR, List.range_succ, List.take_of_length_le c]
  · have hn : cutN p m = impl_cut.many p m := by unfold cutN impl_cut.many; rw [if_neg c]
    obtain ⟨n1, n2, n3⟩ := cutN_in p m hm
    rw [if_neg c, ← hn]
    generalize cutN p m = n at *
    by_cases c7 : p.f7 = true
    · rw [if_pos (Or.inl c7), if_pos ⟨by omega, c7⟩]
    · rw [if_neg (show ¬ (m < p.f8.length ∧ p.f7 = true) from fun h => c7 h.2)]
      by_cases c5 : p.f5 + (((n - 1) * m : Nat) : Int) > 255
      · rw [if_pos (Or.inr c5), if_pos c5]
      · rw [if_neg (fun h => by rcases h with h | h; exact c7 h; exact c5 h), if_neg c5]
        obtain ⟨q, rfl⟩ : ∃ q, n = q + 1 := ⟨n - 1, by omega⟩
        rw [Nat.add_sub_cancel, List.range_succ, List.map_append]
        congr 1
        congr 1
        · refine List.map_congr_left (fun k hk => ?_)
          have := List.mem_range.1 hk
          simp only [impl_cut.piece, pieceR, show decide (k + 1 < q + 1) = true from decide_eq_true (by omega), Bool.or_true]
        · simp [impl_cut.piece, pieceR]
theorem spec_cut_l (p : CPk) (m n : Nat) (hm : 1 ≤ m) (hm2 : m ≤ 48) (h0 : 0 ≤ p.f5) (h5 : p.f5 ≤ 255) (hl : p.f8.length ≤ 48) (n1 : 1 ≤ n) (n2 : p.f8.length ≤ n * m) (n3 : n = 1 ∨ (n - 1) * m < p.f8.length) (d : Nat) : ∀ i : Nat, i + d = n → (∀ k, k < i → p.f5 + ((k * m : Nat) : Int) ≤ 255) →
    Ev (fun k => spec_PacketCut.l0 k (m : Int) ((List.range i).map (pieceR p m n)) ((i * m : Nat) : Int) p.f0 p.f1 p.f2 p.f3 p.f4 p.f5 p.f6 p.f7 p.f8) (if p.f5 + (((n - 1) * m : Nat) : Int) > 255 then ([], false) else ((List.range n).map (pieceR p m n), true)) := by
  induction d with
  | zero =>
    intro i hi ha
    obtain rfl : i = n := by omega
    have h1 := ha (i - 1) (by omega)
    have h2 : 1 ≤ i * m := Nat.le_trans hm (Nat.le_mul_of_pos_left m n1)
    rw [if_neg (show ¬ p.f5 + (((i - 1) * m : Nat) : Int) > 255 by omega)]
    refine Ev.step (fun k => spec_PacketCut.l0.eq_2 _ _ _ _ _ _ _ _ _ _ _ _ k) ?_
    simp only [if_neg (show ¬ ((i * m : Nat) : Int) = 0 by omega), decide_eq_false (show ¬ ((i * m : Nat) : Int) < (p.f8.length : Int) by omega)]
    refine Ev.step (fun k => spec_PacketCut.j2.eq_2 _ _ _ _ _ _ _ _ _ _ _ _ _ k) ?_
    simp only [Bool.false_eq_true, if_false]
    exact Ev.now _
  | succ d ih =>
    intro i hi ha
    have him : i * m ≤ (n - 1) * m := Nat.mul_le_mul_right m (by omega)
    have hi1 : (i + 1) * m = i * m + m := by rw [Nat.add_mul, Nat.one_mul]
    have him2 : i * m ≤ 48 := by
      rcases n3 with h | h
      · have : i = 0 := by omega
        subst this; simp
      · omega
    have hgo : i = 0 ∨ i * m < p.f8.length := by
      rcases n3 with h | h
      · exact .inl (by omega)
      · exact .inr (by omega)
    have hsucc : (List.range (i + 1)).map (pieceR p m n) = (List.range i).map (pieceR p m n) ++ [pieceR p m n i] := by rw [List.range_succ, List.map_append]; rfl
    have hacc : ((List.range i).map (pieceR p m n)).length ≤ 48 ∨ i ≤ 48 := .inr (by
      have : i ≤ i * m := Nat.le_mul_of_pos_right i hm
      omega)
    have hil : ((List.range i).map (pieceR p m n)).length = i := by simp
    have hend : mn (((i * m : Nat) : Int) + (m : Int)) (p.f8.length : Int) = ((min (i * m + m) p.f8.length : Nat) : Int) := by unfold mn; split <;> omega
    have hcut : (p.f8.take (min (i * m + m) p.f8.length)).drop (i * m) = (p.f8.drop (i * m)).take m := by
      rw [List.drop_take]
      by_cases c : i * m + m ≤ p.f8.length
      · rw [Nat.min_eq_left c, Nat.add_sub_cancel_left]
      · rw [Nat.min_eq_right (by omega), List.take_of_length_le (by rw [List.length_drop]; omega), List.take_of_length_le (by rw [List.length_drop]; omega)]
    have hmore : (decide (((min (i * m + m) p.f8.length : Nat) : Int) < (p.f8.length : Int))) = decide (i + 1 < n) := by
      rw [Bool.eq_iff_iff, decide_eq_true_eq, decide_eq_true_eq]
      constructor
      · intro h
        have h1 : (i + 1) * m < p.f8.length := by omega
        have h2 : (i + 1) * m < n * m := by omega
        exact Nat.lt_of_mul_lt_mul_right h2
      · intro h
        have h1 : (i + 1) * m ≤ (n - 1) * m := Nat.mul_le_mul_right m (by omega)
        rcases n3 with h3 | h3 <;> omega
    have hlen : ((p.f8.drop (i * m)).take m).length ≤ 48 := by rw [List.length_take]; omega
    have j2 : Ev (fun k => spec_PacketCut.j2 k (m : Int) ((List.range i).map (pieceR p m n)) ((i * m : Nat) : Int) true p.f0 p.f1 p.f2 p.f3 p.f4 p.f5 p.f6 p.f7 p.f8) (if p.f5 + (((n - 1) * m : Nat) : Int) > 255 then ([], false) else ((List.range n).map (pieceR p m n), true)) := by
      refine Ev.step (fun k => spec_PacketCut.j2.eq_2 _ _ _ _ _ _ _ _ _ _ _ _ _ k) ?_
      rw [wrap_id (x := ((i * m : Nat) : Int) + (m : Int)) (by omega) (by omega), wrap_id (x := p.f5 + ((i * m : Nat) : Int)) (by omega) (by omega), hend]
      simp only [if_true, Option.bind_some, List.nil_append, Int.toNat_natCast, hcut, hmore]
      simp only [if_pos (show (0 : Int) ≤ ((i * m : Nat) : Int) by omega),  if_pos (show ((min (i * m + m) p.f8.length : Nat) : Int) ≤ (p.f8.length : Int) by omega), if_pos (show ([] : List Int).length + ((p.f8.drop (i * m)).take m).length < 140737488355328 by rw [List.length_nil]; omega), if_pos (show ((List.range i).map (pieceR p m n)).length < 1759218604441 by omega)]
      have hle : (((i * m : Nat) : Int) ≤ ((min (i * m + m) p.f8.length : Nat) : Int)) = True := eq_true (by
        have : i * m ≤ min (i * m + m) p.f8.length := by
          rcases hgo with h | h
          · subst h; simp
          · omega
        omega)
      simp only [hle, if_true]
      by_cases c5 : p.f5 + ((i * m : Nat) : Int) > 255
      · simp only [if_pos c5, ite_self]
        rw [if_pos (show p.f5 + (((n - 1) * m : Nat) : Int) > 255 by omega)]
        exact Ev.now _
      · simp only [if_neg c5]
        have e := ih (i + 1) (by omega) (fun k hk => by
          by_cases h : k = i
          · subst h; omega
          · exact ha k (by omega))
        rw [hsucc, show (((i + 1) * m : Nat) : Int) = ((i * m : Nat) : Int) + (m : Int) by rw [hi1]; omega] at e
        by_cases c6 : p.f6 = true
        · simp only [if_pos c6]
          unfold pieceR at e ⊢
          simp only [c6, Bool.true_or] at e ⊢
          exact e
        · simp only [if_neg c6]
          have c6' : p.f6 = false := by simpa using c6
          unfold pieceR at e ⊢
          simp only [c6', Bool.false_or] at e ⊢
          exact e
    refine Ev.step (fun k => spec_PacketCut.l0.eq_2 _ _ _ _ _ _ _ _ _ _ _ _ k) ?_
    by_cases c0 : ((i * m : Nat) : Int) = 0
    · simp only [if_pos c0]; exact j2
    · simp only [if_neg c0, decide_eq_true (show ((i * m : Nat) : Int) < (p.f8.length : Int) by
        rcases hgo with h | h
        · subst h; simp at c0
        · omega)]
      exact j2
def packetCut (p : CPk) (m : Int) : List CPk × Bool := if pok p = true ∧ 1 ≤ m ∧ m ≤ 48 then cutR p m.toNat else ([], false)
theorem pok_cut {p : CPk} (c : pok p = true) : 0 ≤ p.f5 ∧ p.f5 ≤ 255 ∧ p.f8.length ≤ 48 := by
  unfold pok at c
  simp only [Bool.and_eq_true, inb_iff, decide_eq_true_eq] at c
  obtain ⟨_, _, _, _, _, ⟨h1, h2⟩, h3, _⟩ := c
  exact ⟨h1, h2, by omega⟩
theorem impl_packetCut (p : CPk) (m : Int) : impl_PacketCut.f p.f0 p.f1 p.f2 p.f3 p.f4 p.f5 p.f6 p.f7 p.f8 m = some (packetCut p m) := by
  unfold impl_PacketCut.f packetCut
  rw [impl_packetOk]
  simp only [Option.bind_some]
  by_cases c : pok p = true
  · obtain ⟨h0, h5, hl⟩ := pok_cut c
    rw [show pok ⟨p.f0, p.f1, p.f2, p.f3, p.f4, p.f5, p.f6, p.f7, p.f8⟩ = true from c]
    simp only [if_true, impl_in_, Option.bind_some]
    by_cases cm : inb m 1 48 = true
    · have cm' := inb_iff.1 cm
      simp only [cm, if_true, c, true_and, if_pos cm']
      unfold impl_cut.f
      rw [if_pos (show p.f8.length ≤ 48 ∧ 1 ≤ m ∧ m ≤ 48 ∧ 0 ≤ p.f5 ∧ p.f5 ≤ 255 from ⟨hl, cm'.1, cm'.2, h0, h5⟩)]
      rw [show impl_cut.out ⟨p.f0, p.f1, p.f2, p.f3, p.f4, p.f5, p.f6, p.f7, p.f8⟩ m.toNat = cutR p m.toNat from cut_out p m.toNat (by omega) h5 hl]
      rfl
    · have cm' : ¬ (1 ≤ m ∧ m ≤ 48) := fun h => cm (inb_iff.2 h)
      simp only [cm, Bool.false_eq_true, if_false, c, true_and, if_neg cm']
  · rw [show pok ⟨p.f0, p.f1, p.f2, p.f3, p.f4, p.f5, p.f6, p.f7, p.f8⟩ = false by simpa using c]
    simp only [Bool.false_eq_true, if_false, c, false_and]
theorem spec_packetCut (p : CPk) (m : Int) : Ev (fun k => spec_PacketCut.f k p.f0 p.f1 p.f2 p.f3 p.f4 p.f5 p.f6 p.f7 p.f8 m) (packetCut p m) := by
  have jt : Ev (fun k => spec_PacketCut.j0 k m ([] : List CPk) true p.f0 p.f1 p.f2 p.f3 p.f4 p.f5 p.f6 p.f7 p.f8) ([], false) := by
    refine Ev.step (fun k => spec_PacketCut.j0.eq_2 _ _ _ _ _ _ _ _ _ _ _ _ k) ?_
    simp only [if_true]; exact Ev.now _
  unfold spec_PacketCut.f packetCut
  simp only [Option.bind_some]
  refine Ev.bind (spec_packetOk p.f0 p.f1 p.f2 p.f3 p.f4 p.f5 p.f6 p.f7 p.f8) ?_
  by_cases c : pok p = true
  · obtain ⟨h0, h5, hl⟩ := pok_cut c
    rw [show pok ⟨p.f0, p.f1, p.f2, p.f3, p.f4, p.f5, p.f6, p.f7, p.f8⟩ = true from c]
    simp only [if_true, spec_in_, Option.bind_some, c, true_and]
    by_cases cm : inb m 1 48 = true
    · have cm' := inb_iff.1 cm
      simp only [cm, if_true, if_pos cm']
      obtain ⟨q, hq⟩ := Int.eq_ofNat_of_zero_le (show 0 ≤ m by omega)
      subst hq
      rw [Int.toNat_natCast]
      obtain ⟨n1, n2, n3⟩ := cutN_in p q (by omega)
      have e := spec_cut_l p q (cutN p q) (by omega) (by omega) h0 h5 hl n1 n2 n3 (cutN p q) 0 (by omega) (fun k hk => by omega)
      have j0 : ∀ b, b = decide (q < p.f8.length ∧ p.f7 = true) → Ev (fun k => spec_PacketCut.j0 k (q : Int) ([] : List CPk) b p.f0 p.f1 p.f2 p.f3 p.f4 p.f5 p.f6 p.f7 p.f8) (cutR p q) := by
        intro b hb
        refine Ev.step (fun k => spec_PacketCut.j0.eq_2 _ _ _ _ _ _ _ _ _ _ _ _ k) ?_
        unfold cutR
        by_cases cb : q < p.f8.length ∧ p.f7 = true
        · rw [hb, decide_eq_true cb, if_pos cb]; simp only [if_true]; exact Ev.now _
        · rw [hb, decide_eq_false cb, if_neg cb]; simp only [Bool.false_eq_true, if_false]
          rw [Nat.zero_mul] at e
          exact e
      by_cases cl : (p.f8.length : Int) > (q : Int)
      · simp only [if_pos cl]
        refine j0 p.f7 ?_
        cases h7 : p.f7
        · simp
        · simp; omega
      · simp only [if_neg cl]
        refine j0 false ?_
        symm; rw [decide_eq_false_iff_not]; omega
    · have cm' : ¬ (1 ≤ m ∧ m ≤ 48) := fun h => cm (inb_iff.2 h)
      simp only [cm, Bool.false_eq_true, if_false, if_neg cm']
      exact jt
  · rw [show pok ⟨p.f0, p.f1, p.f2, p.f3, p.f4, p.f5, p.f6, p.f7, p.f8⟩ = false by simpa using c]
    simp only [Bool.false_eq_true, if_false, c, false_and]
    exact jt

theorem cutR_bound (p : CPk) (m : Nat) (hm : 1 ≤ m) (hl : p.f8.length ≤ 48) : (cutR p m).1.length ≤ 49 ∧ ∀ z ∈ (cutR p m).1, z.f8.length ≤ 48 := by
  unfold cutR
  obtain ⟨n1, n2, n3⟩ := cutN_in p m hm
  split
  · simp
  · split
    · simp
    · refine ⟨?_, fun z hz => ?_⟩
      · simp only [List.length_map, List.length_range]
        rcases n3 with h | h
        · omega
        · have : cutN p m - 1 ≤ (cutN p m - 1) * m := Nat.le_mul_of_pos_right _ hm
          omega
      · simp only [List.mem_map] at hz
        obtain ⟨k, _, rfl⟩ := hz
        simp only [pieceR, List.length_take, List.length_drop]; omega
theorem packetCut_bound (p : CPk) (m : Int) : (packetCut p m).1.length ≤ 49 ∧ ∀ z ∈ (packetCut p m).1, z.f8.length ≤ 48 := by
  unfold packetCut
  split
  · rename_i h
    exact cutR_bound p m.toNat (by omega) (pok_cut h.1).2.2
  · simp
theorem FnExactPacketCut : laws_FnExactPacketCut.Pure := by
  intro a0 a1 a2 a3 a4 a5 a6 a7 l m _ _ _ _ _ _ hl0 _
  have hl1 : l.length ≤ 9223372036854775807 := hl0.1
  refine Ev.rounds ?_
  unfold laws_FnExactPacketCut.f
  simp only [laws_szPacket.f]
  rw [szByteS l 1048576 hl1 (by omega) (by omega)]
  simp only [Option.bind_some]
  by_cases hb : 1048576 - (l.length : Int) < 0
  · simp only [if_pos hb, if_pos (show (-1 : Int) < 0 by omega), Option.bind_some]; exact Ev.now _
  simp only [if_neg hb, Option.bind_some]
  have hl : l.length ≤ 1048576 := by omega
  have t := toPacket a0 a1 a2 a3 a4 a5 a6 a7 l hl
  have ei := impl_packetCut ⟨a0, a1, a2, a3, a4, a5, a6, a7, l⟩ m
  have es := spec_packetCut ⟨a0, a1, a2, a3, a4, a5, a6, a7, l⟩ m
  have hbd := packetCut_bound ⟨a0, a1, a2, a3, a4, a5, a6, a7, l⟩ m
  simp only [] at ei es
  generalize packetCut ⟨a0, a1, a2, a3, a4, a5, a6, a7, l⟩ m = q at *
  obtain ⟨qs, qb⟩ := q
  obtain ⟨b1, b2⟩ : qs.length ≤ 49 ∧ ∀ z ∈ qs, z.f8.length ≤ 48 := hbd
  have hmany := pmany_bound qs 49 48 b1 b2
  have eq := eqPacketS qs (by omega) (fun z hz => Nat.le_trans (b2 z hz) (by omega))
  refine Ev.bind t (Ev.bind es (Ev.bind t ?_))
  simp only [ei, Option.bind_some]
  refine Ev.bind eq ?_
  simp only [if_true, bne_self_eq_false, Bool.false_eq_true, if_false]
  refine Ev.bind t (Ev.bind (eqPacket a0 a1 a2 a3 a4 a5 a6 a7 l (by omega)) ?_)
  simp only [if_true, laws_markPacket.f]
  refine Ev.bind (Ev.bind (markByteS l 1 (by omega) (by omega)) (Ev.now _)) ?_
  simp only [if_neg (show ¬ (1 : Int) + (l.length : Int) < 0 by omega)]
  refine Ev.bind eq ?_
  simp only [if_true]
  refine Ev.bind (markPacketS qs 1 (by omega) (by omega)) (Ev.bind (heldPacketS qs 1 (by omega) (by omega)) ?_)
  simp only [if_neg (show ¬ (1 : Int) + (pmany qs : Int) < 0 by omega), if_true]
  refine Ev.bind t ?_
  simp only [ei, Option.bind_some]
  refine Ev.bind eq ?_
  simp only [if_true, bne_self_eq_false, Bool.false_eq_true, if_false]
  refine Ev.bind (heldPacketS qs 1 (by omega) (by omega)) ?_
  simp only [if_neg (show ¬ (1 : Int) + (pmany qs : Int) < 0 by omega), if_true]
  exact Ev.now _

end Go.Proofs.Ytbhofhdmbbipgaa.Pure
