/- Words can be read back: the plain law. -/
import Derived.Test.YtdmmgijfaligpaaPFnWordsBytesx
namespace Go.Proofs.Ytdmmgijfaligpaa.Pure
set_option linter.unusedSimpArgs false
set_option linter.unusedVariables false
open Go.RowKit Go.Proofs.Ytdmmgijfaligpaa.PFnWordsBytes Go.Proofs.YtdmmgijfaligpaaW.PrintWords Go.Proofs.YtdmmgijfaligpaaW.PrintLast Go.Proofs.YtdmmgijfaligpaaW.PrintMore

theorem Ev.succ {α : Type} {g : Nat → Option α} {r : α} (h : Ev (fun k => g (k + 1)) r) : Ev g r := Ev.step (fun _ => rfl) h
theorem Ev.pure {α : Type} {o : Option α} {r : α} (h : o = some r) : Ev (fun _ => o) r := by rw [h]; exact Ev.now r
theorem wrap_id {x : Int} (h0 : -9223372036854775808 ≤ x) (h1 : x ≤ 9223372036854775807) : wrap64 x = x := by unfold wrap64; omega

theorem rd_get (l : List Int) (i : Nat) (h : i < l.length) : rd l (i : Int) = l[i] := by
  unfold rd
  rw [Int.toNat_natCast, List.getD_eq_getElem?_getD, List.getElem?_eq_getElem h]; rfl
theorem take_set_succ {α : Type} (x : List α) (i : Nat) (v : α) (h : i < x.length) : (x.set i v).take (i + 1) = x.take i ++ [v] := by
  rw [List.take_succ_eq_append_getElem (by simpa using h), List.getElem_set_self, List.take_set, List.set_eq_of_length_le (by simp; omega)]


/-! slices.Concat of bytes -/
theorem rd_ofL (l : List (List Int)) (i : Nat) (h : i < l.length) : rd_L2 l (i : Int) = l[i] := by
  unfold rd_L2
  rw [Int.toNat_natCast, List.getD_eq_getElem?_getD, List.getElem?_eq_getElem h]; rfl
def lenL (l : List (List Int)) : Nat := (l.map List.length).sum
theorem lenL_take_succ (l : List (List Int)) (i : Nat) (h : i < l.length) : lenL (l.take (i + 1)) = lenL (l.take i) + l[i].length := by
  unfold lenL; rw [List.take_succ_eq_append_getElem h]; simp only [List.map_append, List.sum_append, List.map_cons, List.map_nil, List.sum_cons, List.sum_nil, Nat.add_zero]
theorem lenL_take_le (l : List (List Int)) (i : Nat) : lenL (l.take i) ≤ lenL l := by
  unfold lenL
  have h := congrArg (fun x : List (List Int) => (x.map List.length).sum) (List.take_append_drop i l)
  simp only [List.map_append, List.sum_append] at h
  omega
theorem flatten_take_succ (l : List (List Int)) (i : Nat) (h : i < l.length) : (l.take (i + 1)).flatten = (l.take i).flatten ++ l[i] := by
  rw [List.take_succ_eq_append_getElem h]; simp only [List.flatten_append, List.flatten_cons, List.flatten_nil, List.append_nil]
theorem concat_l1 (l : List (List Int)) (hn : l.length ≤ 1048576) (hl : lenL l < 140737488355328) (d : Nat) : ∀ (i : Nat), i ≤ l.length → l.length - i = d →
    Ev (fun k => slices_Concat_byte_byte.l1 k (l.take i).flatten l (l.length : Int) (i : Int)) l.flatten := by
  induction d with
  | zero =>
    intro i hi hd
    have hil : i = l.length := by omega
    subst hil
    refine Ev.succ ?_
    simp only [slices_Concat_byte_byte.l1]
    simp only [Int.lt_irrefl, if_false, List.take_length]
    exact Ev.now _
  | succ d ih =>
    intro i hi hd
    have hlt : i < l.length := by omega
    refine Ev.succ ?_
    simp only [slices_Concat_byte_byte.l1]
    have h1 := lenL_take_succ l i hlt
    have h2 := lenL_take_le l (i + 1)
    have h3 : (l.take i).flatten.length = lenL (l.take i) := by rw [List.length_flatten]; rfl
    rw [rd_ofL l i hlt]
    simp only [if_pos (show (i : Int) < (l.length : Int) by omega), if_pos (show (0 : Int) ≤ (i : Int) by omega), if_pos (show (l.take i).flatten.length + l[i].length < 140737488355328 by omega)]
    rw [wrap_id (by omega) (by omega), ← flatten_take_succ l i hlt]
    exact ih (i + 1) (by omega) (by omega)
theorem concat_l0 (l : List (List Int)) (hn : l.length ≤ 1048576) (hl : lenL l < 140737488355328) (d : Nat) : ∀ (i : Nat), i ≤ l.length → l.length - i = d →
    Ev (fun k => slices_Concat_byte_byte.l0 k l (lenL (l.take i) : Int) l (l.length : Int) (i : Int)) l.flatten := by
  induction d with
  | zero =>
    intro i hi hd
    have hil : i = l.length := by omega
    subst hil
    refine Ev.succ ?_
    simp only [slices_Concat_byte_byte.l0]
    simp only [Int.lt_irrefl, if_false, List.take_length]
    have hg : slices_Grow_byte_byte.f ([] : List Int) (lenL l : Int) = some [] := by
      unfold slices_Grow_byte_byte.f
      rw [if_pos ⟨rfl, by omega, by rw [Int.toNat_natCast]; omega⟩]
    simp only [hg, Option.bind_some]
    have := concat_l1 l hn hl _ 0 (by omega) rfl
    simpa using this
  | succ d ih =>
    intro i hi hd
    have hlt : i < l.length := by omega
    refine Ev.succ ?_
    simp only [slices_Concat_byte_byte.l0]
    have h1 := lenL_take_succ l i hlt
    have h2 := lenL_take_le l (i + 1)
    rw [rd_ofL l i hlt, wrap_id (x := (lenL (l.take i) : Int) + _) (by omega) (by omega), wrap_id (by omega) (by omega)]
    simp only [if_pos (show (i : Int) < (l.length : Int) by omega), if_pos (show (0 : Int) ≤ (i : Int) by omega), if_neg (show ¬ (lenL (l.take i) : Int) + (l[i].length : Int) < 0 by omega)]
    rw [show (lenL (l.take i) : Int) + (l[i].length : Int) = ((lenL (l.take (i + 1)) : Nat) : Int) by omega]
    exact ih (i + 1) (by omega) (by omega)
theorem concat_ (l : List (List Int)) (hn : l.length ≤ 1048576) (hl : lenL l < 140737488355328) : Ev (fun k => slices_Concat_byte_byte.f k l) l.flatten := by
  unfold slices_Concat_byte_byte.f
  have := concat_l0 l hn hl _ 0 (by omega) rfl
  simpa [lenL] using this

/-! WordsBytes -/
def wordsBytes (a : Int) (l : List Int) : List Int := if 0 ≤ a ∧ a ≤ 255 ∧ l.length ≤ 9 then (l.length : Int) :: a :: l else []
theorem impl_wordsBytes (a : Int) (l : List Int) (hl : l.length ≤ 1048576) : Ev (fun k => impl_WordsBytes.f k a l) (wordsBytes a l) := by
  unfold impl_WordsBytes.f wordsBytes impl_in.f
  by_cases h1 : a ≥ 0
  · by_cases h2 : a ≤ 255
    · by_cases h3 : l.length ≤ 9
      · rw [if_pos (show 0 ≤ a ∧ a ≤ 255 ∧ l.length ≤ 9 from ⟨h1, h2, h3⟩)]
        simp only [if_pos h1, Option.bind_some, decide_eq_true h2, if_true, if_neg (show ¬ ((l.length : Int) > 9) by omega)]
        have h := concat_ [[(l.length : Int) % 256, a % 256], l] (by simp) (by simp [lenL]; omega)
        rw [show (l.length : Int) % 256 = l.length by omega, show a % 256 = a by omega] at h ⊢
        refine Ev.bind h ?_
        simp only [List.flatten_cons, List.flatten_nil, List.append_nil, List.cons_append, List.nil_append]
        exact Ev.now _
      · rw [if_neg (show ¬ (0 ≤ a ∧ a ≤ 255 ∧ l.length ≤ 9) by omega)]
        simp only [if_pos h1, Option.bind_some, decide_eq_true h2, if_true, if_pos (show ((l.length : Int) > 9) by omega)]
        exact Ev.now _
    · rw [if_neg (show ¬ (0 ≤ a ∧ a ≤ 255 ∧ l.length ≤ 9) by omega)]
      simp only [if_pos h1, Option.bind_some, decide_eq_false h2, Bool.false_eq_true, if_false]
      exact Ev.now _
  · rw [if_neg (show ¬ (0 ≤ a ∧ a ≤ 255 ∧ l.length ≤ 9) by omega)]
    simp only [if_neg h1, Option.bind_some, Bool.false_eq_true, if_false]
    exact Ev.now _
theorem spec_wordsBytes (a : Int) (l : List Int) (hl : l.length ≤ 1048576) : spec_WordsBytes.f a l = some (wordsBytes a l) := by
  unfold spec_WordsBytes.f wordsBytes spec_l1In.f
  by_cases h1 : a ≥ 0
  · by_cases h2 : a ≤ 255
    · by_cases h3 : l.length ≤ 9
      · rw [if_pos (show 0 ≤ a ∧ a ≤ 255 ∧ l.length ≤ 9 from ⟨h1, h2, h3⟩)]
        simp only [if_pos h1, Option.bind_some, decide_eq_true h2, if_true, if_neg (show ¬ ((l.length : Int) > 9) by omega)]
        rw [show (l.length : Int) % 256 = l.length by omega, show a % 256 = a by omega, if_pos (by simp; omega)]
        rfl
      · rw [if_neg (show ¬ (0 ≤ a ∧ a ≤ 255 ∧ l.length ≤ 9) by omega)]
        simp only [if_pos h1, Option.bind_some, decide_eq_true h2, if_true, if_pos (show ((l.length : Int) > 9) by omega)]
    · rw [if_neg (show ¬ (0 ≤ a ∧ a ≤ 255 ∧ l.length ≤ 9) by omega)]
      simp only [if_pos h1, Option.bind_some, decide_eq_false h2, Bool.false_eq_true, if_false]
  · rw [if_neg (show ¬ (0 ≤ a ∧ a ≤ 255 ∧ l.length ≤ 9) by omega)]
    simp only [if_neg h1, Option.bind_some, Bool.false_eq_true, if_false]
theorem wordsBytes_len (a : Int) (l : List Int) : (wordsBytes a l).length ≤ 11 := by
  unfold wordsBytes; split
  · simp; omega
  · simp

/-! WordsFrom -/
/-- The words that a stream begins with, how many bytes of it these are, and whether what is behind them may become some. -/
def pw : Nat → List Int → List S36 × Nat × Bool
  | 0, _ => ([], 0, true)
  | _ + 1, [] => ([], 0, true)
  | d + 1, n :: rest => if n > 9 then ([], 0, false) else match rest with
    | [] => ([], 0, true)
    | a :: more => if (more.length : Int) < n then ([], 0, true) else
      (⟨a, more.take n.toNat⟩ :: (pw d (more.drop n.toNat)).1, n.toNat + 2 + (pw d (more.drop n.toNat)).2.1, (pw d (more.drop n.toNat)).2.2)
def isBytes (l : List Int) : Prop := ∀ x ∈ l, 0 ≤ x ∧ x ≤ 255
theorem isBytes_get {l : List Int} (h : isBytes l) (i : Nat) (hi : i < l.length) : 0 ≤ l[i] ∧ l[i] ≤ 255 := h _ (List.getElem_mem hi)
theorem isBytes_wf {l : List Int} (h : ∀ x ∈ l, (Lit.int .u8 x).wf = true) : isBytes l := by
  intro x hx
  have := h x hx
  simp [Lit.wf, IntKind.min, IntKind.max, IntKind.bits, IntKind.signed] at this
  omega
theorem drop_two {l : List Int} {i : Nat} (h : i + 1 < l.length) : l.drop i = l[i] :: l[i + 1] :: l.drop (i + 2) := by
  rw [List.drop_eq_getElem_cons (show i < l.length by omega), List.drop_eq_getElem_cons (show i + 1 < l.length by omega)]
theorem drop_one {l : List Int} {i : Nat} (h : i + 1 = l.length) : l.drop i = [l[i]] := by
  rw [List.drop_eq_getElem_cons (show i < l.length by omega), List.drop_of_length_le (by omega)]
theorem mid_cut (l : List Int) (a n : Nat) : (l.take (a + n)).drop a = (l.drop a).take n := by
  rw [List.drop_take]; congr 1; omega
theorem impl_wf_l (l : List Int) (hb : isBytes l) (hl : l.length ≤ 1099511627776) (d : Nat) : ∀ (i : Nat) (acc : List S36), i ≤ l.length → l.length - i ≤ d → acc.length ≤ i →
    Ev (fun k => impl_WordsFrom.l0 k l acc (i : Int)) (acc ++ (pw d (l.drop i)).1, (i : Int) + (pw d (l.drop i)).2.1, (pw d (l.drop i)).2.2) := by
  induction d with
  | zero =>
    intro i acc hi hd ha
    refine Ev.succ ?_
    simp only [impl_WordsFrom.l0, if_neg (show ¬ (i : Int) < (l.length : Int) by omega), pw, List.append_nil]
    exact Ev.now _
  | succ d ih =>
    intro i acc hi hd ha
    refine Ev.succ ?_
    simp only [impl_WordsFrom.l0]
    by_cases h1 : i < l.length
    · have hx := isBytes_get hb i h1
      simp only [if_pos (show (i : Int) < (l.length : Int) by omega), if_pos (show (0 : Int) ≤ (i : Int) by omega)]
      rw [rd_get l i h1, wrap_id (x := l[i]) (by omega) (by omega), wrap_id (x := (i : Int) + 2) (by omega) (by omega), wrap_id (x := (i : Int) + 1) (by omega) (by omega), wrap_id (x := (i : Int) + 2 + l[i]) (by omega) (by omega), wrap_id (x := 2 + l[i]) (by omega) (by omega), wrap_id (x := (i : Int) + (2 + l[i])) (by omega) (by omega)]
      by_cases h2 : l[i] > 9
      · simp only [if_pos h2]
        rw [List.drop_eq_getElem_cons h1]
        simp only [pw, if_pos h2, List.append_nil]
        exact Ev.now _
      · simp only [if_neg h2]
        by_cases h3 : (i : Int) + 2 + l[i] > (l.length : Int)
        · simp only [if_pos h3]
          by_cases h4 : i + 1 < l.length
          · rw [drop_two h4]
            simp only [pw, if_neg h2, if_pos (show ((l.drop (i + 2)).length : Int) < l[i] by rw [List.length_drop]; omega), List.append_nil]
            exact Ev.now _
          · rw [drop_one (by omega)]
            simp only [pw, if_neg h2, List.append_nil]
            exact Ev.now _
        · have h4 : i + 1 < l.length := by omega
          have hx1 := isBytes_get hb (i + 1) h4
          have hr : rd l ((i : Int) + 1) = l[i + 1] := by
            have := rd_get l (i + 1) h4
            rw [← this]; congr 1
          simp only [if_neg h3, if_pos (show (0 : Int) ≤ (i : Int) + 1 by omega), if_pos (show (i : Int) + 1 < (l.length : Int) by omega), if_pos (show (0 : Int) ≤ (i : Int) + 2 by omega), if_pos (show (i : Int) + 2 ≤ (i : Int) + 2 + l[i] by omega), if_pos (show (i : Int) + 2 + l[i] ≤ (l.length : Int) by omega)]
          rw [hr, wrap_id (x := l[i + 1]) (by omega) (by omega), show ((i : Int) + 2 + l[i]).toNat = i + 2 + l[i].toNat by omega, show ((i : Int) + 2).toNat = i + 2 by omega, mid_cut]
          have hcl : impl_clone_byte.f ((l.drop (i + 2)).take l[i].toNat) = some ((l.drop (i + 2)).take l[i].toNat) := by
            unfold impl_clone_byte.f
            rw [if_pos]
            rw [List.length_take, List.length_drop]; omega
          simp only [hcl, Option.bind_some, if_pos (show acc.length < 4398046511104 by omega)]
          have h5 := ih (i + (2 + l[i].toNat)) (acc ++ [⟨l[i + 1], (l.drop (i + 2)).take l[i].toNat⟩]) (by omega) (by omega) (by simp; omega)
          rw [drop_two h4]
          simp only [pw, if_neg h2, if_neg (show ¬ ((l.drop (i + 2)).length : Int) < l[i] by rw [List.length_drop]; omega)]
          rw [List.drop_drop, show i + 2 + l[i].toNat = i + (2 + l[i].toNat) by omega]
          rw [show (i : Int) + (2 + l[i]) = ((i + (2 + l[i].toNat) : Nat) : Int) by omega]
          rw [List.append_assoc, List.singleton_append] at h5
          rw [show (i : Int) + ((l[i].toNat + 2 + (pw d (l.drop (i + (2 + l[i].toNat)))).2.1 : Nat) : Int) = ((i + (2 + l[i].toNat) : Nat) : Int) + ((pw d (l.drop (i + (2 + l[i].toNat)))).2.1 : Int) by omega]
          exact h5
    · have h1' : i = l.length := by omega
      subst h1'
      simp only [Int.lt_irrefl, if_false, List.drop_length, pw, List.append_nil]
      exact Ev.now _
theorem impl_wordsFrom (l : List Int) (hb : isBytes l) (hl : l.length ≤ 1099511627776) : Ev (fun k => impl_WordsFrom.f k l) ((pw l.length l).1, ((pw l.length l).2.1 : Int), (pw l.length l).2.2) := by
  unfold impl_WordsFrom.f
  have := impl_wf_l l hb hl l.length 0 [] (by omega) (by omega) (by simp)
  simpa using this

/-! alive -/
theorem bytesOf_5 : Ev (fun k => impl_bytesOf.f k 5 1) [5] := by
  refine Ev.of (k := 3) (fun k => impl_bytesOf.mono 5 1 k) ?_
  kernel_rfl
theorem alive_ : Ev (fun k => laws_alive.f k) true := by
  have h1 : Ev (fun k => impl_BytesOf.f k 5 1) [5] := by
    refine Ev.of (k := 3) (fun k => impl_BytesOf.mono 5 1 k) ?_
    kernel_rfl
  have h2 : Ev (fun k => impl_BytesOf.f k 256 1) [] := by
    refine Ev.of (k := 3) (fun k => impl_BytesOf.mono 256 1 k) ?_
    kernel_rfl
  unfold laws_alive.f
  refine Ev.bind h1 ?_
  simp only [List.length_singleton, Int.natCast_one, if_true]
  refine Ev.bind h2 ?_
  exact Ev.now _
theorem same_refl (l : List Int) : laws_sameBytes.f l l = some true := by
  unfold laws_sameBytes.f; simp

/-! drawing -/
theorem xor_nn (a b : Int) (a0 : 0 ≤ a) (a1 : a < 9223372036854775808) (b0 : 0 ≤ b) (b1 : b < 9223372036854775808) : 0 ≤ Go.bits .xor .i64 a b ∧ Go.bits .xor .i64 a b < 9223372036854775808 := by
  obtain ⟨x, rfl⟩ := Int.eq_ofNat_of_zero_le a0
  obtain ⟨y, rfl⟩ := Int.eq_ofNat_of_zero_le b0
  have hx : x < 2 ^ 63 := by omega
  have hy : y < 2 ^ 63 := by omega
  have hxy : x ^^^ y < 2 ^ 63 := Nat.xor_lt_two_pow hx hy
  have h1 : (BitVec.ofInt 64 (x : Int)).toNat = x := by
    rw [BitVec.ofInt_natCast, BitVec.toNat_ofNat]; exact Nat.mod_eq_of_lt (by omega)
  have h2 : (BitVec.ofInt 64 (y : Int)).toNat = y := by
    rw [BitVec.ofInt_natCast, BitVec.toNat_ofNat]; exact Nat.mod_eq_of_lt (by omega)
  have h3 : Go.bits .xor .i64 (x : Int) (y : Int) = ((x ^^^ y : Nat) : Int) := by
    show IntKind.i64.wrap ((BitVec.ofInt 64 (x : Int) ^^^ BitVec.ofInt 64 (y : Int)).toNat : Int) = _
    rw [BitVec.toNat_xor, h1, h2, IntKind.wrap_i64]
    omega
  rw [h3]
  omega
theorem tmod_in (x n : Int) (h0 : 0 ≤ x) (hn : 1 ≤ n) : 0 ≤ Int.tmod x n ∧ Int.tmod x n < n := by
  rw [Int.tmod_eq_emod_of_nonneg h0]
  exact ⟨Int.emod_nonneg _ (by omega), Int.emod_lt_of_pos _ (by omega)⟩
theorem tdiv_in (x n : Int) (h0 : 0 ≤ x) (hn : 1 ≤ n) : 0 ≤ Int.tdiv x n ∧ Int.tdiv x n ≤ x := by
  rw [Int.tdiv_eq_ediv_of_nonneg h0]
  exact ⟨Int.ediv_nonneg h0 (by omega), Int.ediv_le_self _ h0⟩
theorem rd_byte {s : List Int} (hb : isBytes s) (i : Int) : 0 ≤ rd s i ∧ rd s i ≤ 255 := by
  unfold rd
  rw [List.getD_eq_getElem?_getD]
  by_cases h : i.toNat < s.length
  · rw [List.getElem?_eq_getElem h]; exact hb _ (List.getElem_mem h)
  · rw [List.getElem?_eq_none (by omega)]; exact ⟨Int.le_refl _, by decide⟩
theorem pick (s : List Int) (p n : Int) (hb : isBytes s) (hl : s.length ≤ 2000) (h0 : 0 ≤ p) (hp : p ≤ 1000000000) (hn : 1 ≤ n) (hn1 : n ≤ 1000000000) :
    ∃ r, Ev (fun k => spec_l20Rd_pick.f k s p n) (r, p + 1) ∧ 0 ≤ r ∧ r < n := by
  unfold spec_l20Rd_pick.f
  simp only [if_neg (show ¬ n < 1 by omega)]
  rw [wrap_id (x := p + 1) (by omega) (by omega)]
  by_cases hs : s.length = 0
  · refine ⟨0, Ev.succ ?_, by omega, by omega⟩
    simp only [spec_l20Rd_pick.j0, hs, Int.natCast_zero, beq_self_eq_true, if_true]
    exact Ev.now _
  · have hz : ((s.length : Int) == 0) = false := by rw [beq_eq_false_iff_ne]; omega
    simp only [hz]
    by_cases h1 : p < (s.length : Int)
    · have hx := rd_byte hb p
      have hm := tmod_in (rd s p) n hx.1 hn
      refine ⟨Int.tmod (rd s p) n, Ev.succ ?_, hm.1, hm.2⟩
      simp only [spec_l20Rd_pick.j0, Bool.false_eq_true, if_false, show p + 1 - 1 = p by omega]
      rw [wrap_id (x := p) (by omega) (by omega), wrap_id (x := rd s p) (by omega) (by omega)]
      simp only [if_pos h1, if_pos h0, if_neg (show ¬ n = 0 by omega)]
      exact Ev.now _
    · have m1 := tmod_in p s.length h0 (by omega)
      have m2 := tmod_in (p * 7 + 3) s.length (by omega) (by omega)
      have d1 := tdiv_in p s.length h0 (by omega)
      have x1 := rd_byte hb (Int.tmod p s.length)
      have x2 := rd_byte hb (Int.tmod (p * 7 + 3) s.length)
      let v := rd s (Int.tmod p s.length) * 131 + rd s (Int.tmod (p * 7 + 3) s.length) * 1117 + p * 29 + Int.tdiv p s.length * 53
      have v0 : 0 ≤ v := by show 0 ≤ _ + _ + _ + _; omega
      have v1 : v < 9223372036854775808 := by show _ + _ + _ + _ < _; omega
      have d2 := tdiv_in v 64 v0 (by omega)
      have b1 := xor_nn v (Int.tdiv v 64) v0 v1 d2.1 (by omega)
      have hm := tmod_in (Go.bits .xor .i64 v (Int.tdiv v 64)) n b1.1 hn
      refine ⟨_, Ev.succ ?_, hm.1, hm.2⟩
      simp only [spec_l20Rd_pick.j0, Bool.false_eq_true, if_false, show p + 1 - 1 = p by omega]
      rw [wrap_id (x := p) (by omega) (by omega)]
      rw [wrap_id (x := p * 7) (by omega) (by omega), wrap_id (x := p * 7 + 3) (by omega) (by omega), wrap_id (x := p * 29) (by omega) (by omega), wrap_id (x := rd s (Int.tmod p s.length)) (by omega) (by omega),
        wrap_id (x := rd s (Int.tmod (p * 7 + 3) s.length)) (by omega) (by omega), wrap_id (x := rd s (Int.tmod p s.length) * 131) (by omega) (by omega), wrap_id (x := rd s (Int.tmod (p * 7 + 3) s.length) * 1117) (by omega) (by omega),
        wrap_id (x := rd s (Int.tmod p s.length) * 131 + rd s (Int.tmod (p * 7 + 3) s.length) * 1117) (by omega) (by omega), wrap_id (x := rd s (Int.tmod p s.length) * 131 + rd s (Int.tmod (p * 7 + 3) s.length) * 1117 + p * 29) (by omega) (by omega),
        wrap_id (x := Int.tdiv p s.length) (by omega) (by omega), wrap_id (x := Int.tdiv p s.length * 53) (by omega) (by omega), wrap_id (x := rd s (Int.tmod p s.length) * 131 + rd s (Int.tmod (p * 7 + 3) s.length) * 1117 + p * 29 + Int.tdiv p s.length * 53) (by omega) (by omega)]
      simp only [if_neg h1, if_neg (show ¬ (s.length : Int) = 0 by omega), if_pos m1.1, if_pos m1.2, if_pos m2.1, if_pos m2.2, if_neg (show ¬ n = 0 by omega)]
      rw [wrap_id (x := Int.tdiv v 64) (by omega) (by omega)]
      exact Ev.now _
theorem isBytes_snoc {l : List Int} {v : Int} (h : isBytes l) (hv : 0 ≤ v ∧ v ≤ 255) : isBytes (l ++ [v]) := by
  intro y hy
  rw [List.mem_append] at hy
  rcases hy with hy | hy
  · exact h y hy
  · rw [List.mem_singleton] at hy; omega
theorem bytes_l (s : List Int) (hb : isBytes s) (hl : s.length ≤ 2000) (n : Nat) : ∀ (acc : List Int) (p : Int), isBytes acc → n + acc.length ≤ 100000 → 0 ≤ p → p + 2 * n ≤ 1000000000 →
    ∃ x q, Ev (fun k => spec_l20Rd_bytes.l0 k n acc s p) (x, q) ∧ isBytes x ∧ x.length = n + acc.length ∧ 0 ≤ q ∧ q ≤ p + 2 * n := by
  induction n with
  | zero =>
    intro acc p ha _ h0 _
    refine ⟨acc, p, Ev.succ ?_, ha, by omega, h0, by omega⟩
    simp only [spec_l20Rd_bytes.l0]
    exact Ev.now _
  | succ n ih =>
    intro acc p ha hn h0 hp
    obtain ⟨r1, e1, r10, r11⟩ := pick s p 3 hb hl h0 (by omega) (by omega) (by omega)
    by_cases h1 : r1 = 0
    · obtain ⟨r2, e2, r20, r21⟩ := pick s (p + 1) 256 hb hl (by omega) (by omega) (by omega) (by omega)
      obtain ⟨x, q, e, hx, hxl, hq0, hq1⟩ := ih (acc ++ [r2 % 256]) (p + 1 + 1) (isBytes_snoc ha (by omega)) (by simp; omega) (by omega) (by omega)
      refine ⟨x, q, Ev.succ ?_, hx, by simp at hxl; omega, hq0, by omega⟩
      simp only [spec_l20Rd_bytes.l0, if_pos (show ((n + 1 : Nat) : Int) > 0 by omega)]
      refine Ev.bind e1 ?_
      simp only [if_pos h1]
      refine Ev.bind e2 ?_
      simp only [if_pos (show acc.length < 140737488355328 by omega)]
      rw [wrap_id (x := ((n + 1 : Nat) : Int) - 1) (by omega) (by omega), show ((n + 1 : Nat) : Int) - 1 = (n : Int) by omega]
      exact e
    · obtain ⟨r2, e2, r20, r21⟩ := pick s (p + 1) 3 hb hl (by omega) (by omega) (by omega) (by omega)
      obtain ⟨x, q, e, hx, hxl, hq0, hq1⟩ := ih (acc ++ [wrap64 (r2 + 97) % 256]) (p + 1 + 1) (isBytes_snoc ha (by omega)) (by simp; omega) (by omega) (by omega)
      refine ⟨x, q, Ev.succ ?_, hx, by simp at hxl; omega, hq0, by omega⟩
      simp only [spec_l20Rd_bytes.l0, if_pos (show ((n + 1 : Nat) : Int) > 0 by omega)]
      refine Ev.bind e1 ?_
      simp only [if_neg h1]
      refine Ev.bind e2 ?_
      simp only [if_pos (show acc.length < 140737488355328 by omega)]
      rw [wrap_id (x := ((n + 1 : Nat) : Int) - 1) (by omega) (by omega), show ((n + 1 : Nat) : Int) - 1 = (n : Int) by omega]
      exact e
theorem bytes_ (s : List Int) (n p : Int) (hb : isBytes s) (hl : s.length ≤ 2000) (hn0 : 0 ≤ n) (hn : n ≤ 100000) (h0 : 0 ≤ p) (hp : p ≤ 999000000) :
    ∃ x q, Ev (fun k => spec_l20Rd_bytes.f k s p n) (x, q) ∧ isBytes x ∧ (x.length : Int) = n ∧ 0 ≤ q ∧ q ≤ p + 2 * n := by
  obtain ⟨m, rfl⟩ := Int.eq_ofNat_of_zero_le hn0
  obtain ⟨x, q, e, h1, h2, h3, h4⟩ := bytes_l s hb hl m [] p (by intro y hy; cases hy) (by simp; omega) h0 (by omega)
  exact ⟨x, q, e, h1, by simp at h2; omega, h3, h4⟩
theorem odd (s : List Int) (p n : Int) (hb : isBytes s) (hl : s.length ≤ 2000) (h0 : 0 ≤ p) (hp : p ≤ 1000000000) (hn1 : n ≤ 1000000000) :
    ∃ b q, Ev (fun k => spec_l20Rd_odd.f k s p n) (b, q) ∧ 0 ≤ q ∧ q ≤ p + 1 := by
  unfold spec_l20Rd_odd.f
  by_cases h : n > 0
  · simp only [if_pos h]
    obtain ⟨r, e, _, _⟩ := pick s p n hb hl h0 hp (by omega) hn1
    exact ⟨_, _, Ev.bind e (Ev.now _), by omega, by omega⟩
  · simp only [if_neg h]
    exact ⟨_, _, Ev.now _, h0, by omega⟩
theorem open_ (l : List Int) (hb : isBytes l) : ∃ s, spec_l20Open.f l = some (s, 0) ∧ isBytes s ∧ s.length ≤ 2000 := by
  unfold spec_l20Open.f
  by_cases h : (l.length : Int) > 2000
  · simp only [if_pos h, if_pos (show (2000 : Int) ≤ (l.length : Int) by omega)]
    exact ⟨_, rfl, fun x hx => hb x (List.mem_of_mem_take hx), by simp; omega⟩
  · simp only [if_neg h]
    exact ⟨_, rfl, hb, by omega⟩

/-- What the draws make of words: the number is small, the bytes are bytes. -/
theorem words_ (s : List Int) (p n : Int) (hb : isBytes s) (hl : s.length ≤ 2000) (h0 : 0 ≤ p) (hp : p ≤ 900000000) (hn1 : n ≤ 1000000000) :
    ∃ a x q, Ev (fun k => spec_l20Words.f k s p n) (a, x, q) ∧ -1000 ≤ a ∧ a ≤ 1000 ∧ isBytes x ∧ x.length ≤ 10 ∧ 0 ≤ q ∧ q ≤ p + 20 := by
  obtain ⟨r1, e1, a1, b1⟩ := pick s p 6 hb hl h0 (by omega) (by omega) (by omega)
  obtain ⟨r2, e2, a2, b2⟩ := pick s (p + 1) 8 hb hl (by omega) (by omega) (by omega) (by omega)
  obtain ⟨x, q, e3, hx, hxl, q0, q1⟩ := bytes_ s r2 (p + 1 + 1) hb hl (by omega) (by omega) (by omega) (by omega)
  obtain ⟨o1, q2, e4, c4, d4⟩ := odd s q n hb hl (by omega) (by omega) hn1
  have z : isBytes (List.replicate 10 (0 : Int)) := by intro y hy; rw [List.mem_replicate] at hy; omega
  unfold spec_l20Words.f
  cases o1 with
  | true =>
    obtain ⟨r5, e5, a5, b5⟩ := pick s q2 2 hb hl c4 (by omega) (by omega) (by omega)
    obtain ⟨o6, q6, e6, c6, d6⟩ := odd s (q2 + 1) n hb hl (by omega) (by omega) hn1
    have w : wrap64 (256 - wrap64 (r5 * 300)) = 256 - r5 * 300 := by rw [wrap_id (x := r5 * 300) (by omega) (by omega), wrap_id (by omega) (by omega)]
    cases o6 with
    | true =>
      refine ⟨256 - r5 * 300, List.replicate 10 0, q6, Ev.bind e1 (Ev.bind e2 (Ev.bind e3 (Ev.bind e4 ?_))), by omega, by omega, z, by simp, c6, by omega⟩
      simp only [if_true]
      refine Ev.bind e5 (Ev.bind e6 ?_)
      simp only [if_true, w]
      exact Ev.now _
    | false =>
      refine ⟨256 - r5 * 300, x, q6, Ev.bind e1 (Ev.bind e2 (Ev.bind e3 (Ev.bind e4 ?_))), by omega, by omega, hx, by omega, c6, by omega⟩
      simp only [if_true]
      refine Ev.bind e5 (Ev.bind e6 ?_)
      simp only [Bool.false_eq_true, if_false, w]
      exact Ev.now _
  | false =>
    obtain ⟨o6, q6, e6, c6, d6⟩ := odd s q2 n hb hl (by omega) (by omega) hn1
    cases o6 with
    | true =>
      refine ⟨r1, List.replicate 10 0, q6, Ev.bind e1 (Ev.bind e2 (Ev.bind e3 (Ev.bind e4 ?_))), by omega, by omega, z, by simp, c6, by omega⟩
      simp only [Bool.false_eq_true, if_false]
      refine Ev.bind e6 ?_
      simp only [if_true]
      exact Ev.now _
    | false =>
      refine ⟨r1, x, q6, Ev.bind e1 (Ev.bind e2 (Ev.bind e3 (Ev.bind e4 ?_))), by omega, by omega, hx, by omega, c6, by omega⟩
      simp only [Bool.false_eq_true, if_false]
      refine Ev.bind e6 ?_
      simp only [Bool.false_eq_true, if_false]
      exact Ev.now _

theorem pw_none (d : Nat) (n : Int) (rest : List Int) (h : n ≤ 9) (hr : (rest.length : Int) ≤ n) : pw d (n :: rest) = ([], 0, true) := by
  cases d with
  | zero => rfl
  | succ d =>
    cases rest with
    | nil => simp only [pw, if_neg (show ¬ n > 9 by omega)]
    | cons a more =>
      simp only [pw, if_neg (show ¬ n > 9 by omega)]
      rw [if_pos (by simp only [List.length_cons] at hr; omega)]
theorem pw_one (d : Nat) (a : Int) (l : List Int) (h : l.length ≤ 9) : pw (d + 1) ((l.length : Int) :: a :: l) = ([⟨a, l⟩], l.length + 2, true) := by
  simp only [pw, if_neg (show ¬ (l.length : Int) > 9 by omega), Int.lt_irrefl, if_false, Int.toNat_natCast, List.take_length, List.drop_length]
  cases d <;> simp [pw]
theorem FnWordsBytes : laws_FnWordsBytes.Pure := by
  intro l _ hl0 hwf
  have hb := isBytes_wf hwf
  refine Ev.rounds ?_
  unfold laws_FnWordsBytes.f
  by_cases h0 : (l.length : Int) > 1048576
  · simp only [if_pos h0]; exact Ev.now _
  simp only [if_neg h0]
  obtain ⟨s, hs, sb, sl⟩ := open_ l hb
  obtain ⟨a, x, q, e, _, _, hx, xl, _, _⟩ := words_ s 0 6 sb sl (by omega) (by omega) (by omega)
  unfold spec_DrawWordsBytes.f
  simp only [hs, Option.bind_some]
  refine Ev.bind (Ev.bind e (Ev.now _)) ?_
  refine Ev.bind (impl_wordsBytes a x (by omega)) ?_
  simp only [spec_wordsBytes a x (by omega), Option.bind_some, same_refl, if_true]
  by_cases h1 : 0 ≤ a ∧ a ≤ 255 ∧ x.length ≤ 9
  · have hw : wordsBytes a x = (x.length : Int) :: a :: x := by unfold wordsBytes; rw [if_pos h1]
    rw [hw]
    have hlen : (((x.length : Int) :: a :: x).length : Int) = x.length + 2 := by simp; omega
    have hwb : isBytes ((x.length : Int) :: a :: x) := by
      intro y hy; rw [List.mem_cons, List.mem_cons] at hy
      rcases hy with rfl | rfl | hy
      · omega
      · omega
      · exact hx y hy
    have htk : ((x.length : Int) :: a :: x).take (x.length + 1) = (x.length : Int) :: (a :: x).take x.length := by simp
    have htb : isBytes (((x.length : Int) :: a :: x).take (x.length + 1)) := fun y hy => hwb y (List.mem_of_mem_take hy)
    have i1 := impl_wordsFrom ((x.length : Int) :: a :: x) hwb (by simp; omega)
    have i2 := impl_wordsFrom (((x.length : Int) :: a :: x).take (x.length + 1)) htb (by simp; omega)
    rw [List.length_cons, pw_one _ _ _ h1.2.2] at i1
    rw [htk, pw_none _ _ _ (by omega) (by simp), ← htk] at i2
    simp only [hlen, if_neg (show ¬ (x.length : Int) + 2 = 0 by omega)]
    refine Ev.bind i1 ?_
    rw [wrap_id (x := (x.length : Int) + 2 - 1) (by omega) (by omega)]
    simp only [Option.bind_some, if_pos (show (0 : Int) ≤ (x.length : Int) + 2 - 1 by omega), if_pos (show (x.length : Int) + 2 - 1 ≤ (x.length : Int) + 2 by omega), show ((x.length : Int) + 2 - 1).toNat = x.length + 1 by omega]
    have hc : ([] : List Int).length + (((x.length : Int) :: a :: x).take (x.length + 1)).length < 140737488355328 := by simp; omega
    simp only [if_pos hc, List.nil_append]
    refine Ev.bind i2 ?_
    have hr : rd_T36 [(⟨a, x⟩ : S36)] 0 = ⟨a, x⟩ := rfl
    simp [hr, same_refl]
    exact Ev.now _
  · have hw : wordsBytes a x = [] := by unfold wordsBytes; rw [if_neg h1]
    rw [hw]
    simp only [List.length_nil, Int.natCast_zero, if_true]
    exact Ev.bind alive_ (Ev.now _)

end Go.Proofs.Ytdmmgijfaligpaa.Pure
