/- Printed by wip/xp/xprint.sh out of the translation, for this claim: what each function answers, as a plain function, and that the machine does just that. No condition. -/
import Derived.Test.YtdoohdbfpnmndaaPFnWholeAskingx0
import Derived.Test.YtdoohdbfpnmndaaPFnWholeAskingx3
import Derived.Test.YtdoohdbfpnmndaaPFnWholeAskingx5
import Derived.Test.YtdoohdbfpnmndaaPFnWholeAskingx6
namespace Go.Proofs.Ytdoohdbfpnmndaa.PFnWholeAsking
open Go.RowKit Go.Proofs.YtdoohdbfpnmndaaW.PrintWords Go.Proofs.YtdoohdbfpnmndaaW.PrintLast Go.Proofs.YtdoohdbfpnmndaaW.PrintMore
attribute [local go_sem] max2_int min2_int max_two min_two max_three min_three max_four min_four   -- for this text's walks alone
set_option linter.unusedVariables false
set_option linter.unusedSimpArgs false
open Kd in
theorem Q_append_rows_ {P : Program} {ops : Array Oper} {rest : List Oper} {o : Oper} {a : Act} {Q' : Exit → Act → World → Prop} {α : Type} (d : Kd α) {Rr : α → List Value → Prop} {w0 W : World} (base : Nat) (hgd : o.guard = none) (s x : Operand) (t e : TypeId) (z : Value) (bytes : Nat)
    (ho : o.op = .call { callee := .builtin .append, args := #[s, x], argTypes := #[t, t] })
    (ht : P.underlying t = some (.slice e)) (hinfo : (P.info? e).map (fun i => (i.zero, i.size, i.bytes)) = some (some z, d.sz, bytes)) (hz : z.cells.size = d.sz) (hs0 : 0 < d.sz) (hb0 : 0 < bytes)
    (v : Value) (xs ys : List α) (A : Option Addr) (m c : Nat) (ok okp : Nat → Prop) (hs : a.eval s = v) (hx : a.eval x = .slice A m c)
    (HO : d.Q e W base ok v xs) (HR : ReadsRow Rr d.sz W A m ys) (hKM : ∀ x cs, Rr x cs → d.M W base okp x cs) (hokp : ∀ k, okp k → ok k ∧ some k ≠ v.ownBlock) (hfresh : ∀ k, W.heap.size ≤ k → ok k)
    (HB : Below base w0 W) (hbase : base ≤ W.heap.size) (hl : (xs.length + m) * bytes ≤ 140737488355328)
    (h : ∀ v1 w1, d.Q e w1 base ok v1 (xs ++ ys) → Below base w0 w1 → W.grownBy w1 v.ownBlock → (v1.ownBlock = v.ownBlock ∨ ∃ b, v1.ownBlock = some b ∧ W.heap.size ≤ b) → wpList P ops Q' rest (a.put o.dst v1) w1) :
    wpList P ops Q' (o :: rest) a W := by
  obtain ⟨i0, hi, hzz⟩ := Option.map_eq_some_iff.1 hinfo
  simp only [Prod.mk.injEq] at hzz
  obtain ⟨hz0, hz1, hz2⟩ := hzz
  have hm : ys.length = m := HR.1
  have hlen : xs.length + m ≤ 140737488355328 := Nat.le_trans (Nat.le_mul_of_pos_right _ hb0) hl
  obtain ⟨hok, inner, hown, hr⟩ := HO
  have hrun : ∃ v1 w1, (Builtin.append_ #[t, t] o.type #[v, .slice A m c]).run P W = .ok v1 w1 ∧ d.Q e w1 base ok v1 (xs ++ ys) ∧ W.grownBy w1 v.ownBlock ∧ (v1.ownBlock = v.ownBlock ∨ ∃ b, v1.ownBlock = some b ∧ W.heap.size ≤ b) := by
    rcases Nat.eq_zero_or_pos m with h0 | h0
    · subst h0
      obtain rfl : ys = [] := List.eq_nil_of_length_eq_zero hm
      refine ⟨v, W, ?_, by rw [List.append_nil]; exact ⟨hok, inner, hown, hr⟩, World.grownBy.refl W _, .inl rfl⟩
      rcases hown.2 with ⟨hn, A', rfl, _⟩ | ⟨g, off, cap, cur, rfl, _, _, hnc, _⟩
      · cases A <;> cases A' <;> simp [Builtin.append_, run_underlying ht, sizeOf, typeInfo, hi, Builtin.lenOf, Builtin.firstCells, loadCells, loadCellsFrom, storeCells]
      · cases A <;> simp [Builtin.append_, run_underlying ht, sizeOf, typeInfo, hi, Builtin.lenOf, Builtin.firstCells, hnc, loadCells, loadCellsFrom, storeCells]
    · obtain ⟨ad, rfl, _⟩ := HR.2.2 h0
      obtain ⟨news, hnr, hnc⟩ := ReadsRow.inner_ HR
      have hnM : Reps (d.M W base okp) d.sz ys news := hnr.imp_ (fun p c hp => hKM p c hp)
      have hone : ∀ u ∈ news, u.oneCell' = true := by
        intro u hu
        obtain ⟨q, hq, rfl⟩ := List.mem_iff_getElem.1 hu
        have hql : q / d.sz < ys.length := by
          rw [Nat.div_lt_iff_lt_mul hs0]
          rw [← hnM.1]
          exact hq
        have hc := hnM.2 (q / d.sz) _ (List.getElem?_eq_getElem hql)
        refine d.K_one (d.K_of_M hc) _ ?_
        rw [List.mem_iff_getElem?]
        refine ⟨q % d.sz, ?_⟩
        rw [List.getElem?_take, if_pos (Nat.mod_lt _ hs0), List.getElem?_drop, Nat.mul_comm, Nat.div_add_mod, List.getElem?_eq_getElem hq]
      obtain ⟨v1, w1, hrun, h2, hg, hat'⟩ := q_append (P := P) W base t o.type e i0 z d.sz bytes ht hi hz0 hz1 hz2 hz hs0 v xs.length inner hown ad m c news (by rw [hnM.1, hm]) hnc hone h0 (by simp only [maxLen]; omega) hl hbase
      have hne : ∀ k, some k ≠ v.ownBlock → k < W.heap.size → some k ≠ v1.ownBlock := by
        intro k hk hlt
        rcases hat' with hat | ⟨b, hb, hle⟩
        · rw [hat]; exact hk
        · rw [hb]
          intro he
          injection he with he
          omega
      have step : ∀ {q : α} {c : List Value} {o : Nat → Prop}, d.M W base o q c → (∀ k, o k → ok k ∧ some k ≠ v.ownBlock) → d.M w1 base (fun k => ok k ∧ some k ≠ v1.ownBlock) q c := by
        intro q c o hq ho
        have h1 := d.M_move (w1 := w1) (fun k hk => hg.block k hk.2.2.1 (ho k hk.1).2) (d.M_bound hq)
        exact d.M_mono (fun k hk => ⟨(ho k hk.1).1, hne k (ho k hk.1).2 hk.2.2.1⟩) h1
      refine ⟨v1, w1, hrun, ⟨fun k hk => ?_, inner ++ news, by rw [List.length_append, hm]; exact h2, reps_append (hr.imp_ (fun _ _ hq => step hq (fun _ hk => hk))) (hnM.imp_ (fun _ _ hq => step hq hokp))⟩, hg, hat'⟩
      rcases hat' with hat | ⟨b, hb, hle⟩
      · exact hok k (hat ▸ hk)
      · rw [hb] at hk
        injection hk with hk
        exact hfresh k (by omega)
  obtain ⟨v1, w1, hr1, h1, hg, hat⟩ := hrun
  refine wpList_plain hgd fun K hK => ?_
  unfold Oper.wp execOp
  simp only [ho, resolve, invoke, builtin, Sem.run_bind, Sem.run_pure, Result.andThen_ok, List.map_toArray, List.map_cons, List.map_nil, hs, hx, hr1]
  exact hK _ _ (h v1 w1 h1 (HB.grown hg hbase (fun k hk => (q_typed hown k hk).1)) hg hat)
open Kd in
theorem Q_run2_ {P : Program} {α : Type} (d : Kd α) {w0 W : World} (base : Nat) (t ty e : TypeId) (z : Value) (bytes : Nat)
    (ht : P.underlying t = some (.slice e)) (hinfo : (P.info? e).map (fun i => (i.zero, i.size, i.bytes)) = some (some z, d.sz, bytes)) (hz : z.cells.size = d.sz) (hs0 : 0 < d.sz) (hb0 : 0 < bytes)
    (v : Value) (xs : List α) (p p2 : α) (cs cs2 cc : List Value) (hcc : cc = cs ++ cs2) (ok : Nat → Prop) (hp : d.M W base (fun _ => False) p cs) (hp2 : d.M W base (fun _ => False) p2 cs2) (hfresh : ∀ k, W.heap.size ≤ k → ok k)
    (HO : d.Q e W base ok v xs) (HB : Below base w0 W) (hbase : base ≤ W.heap.size) (hl : (xs.length + 2) * bytes ≤ 140737488355328) :
    ∃ v1 w1, (Builtin.append_ #[t, t] ty #[v, .slice (some ⟨W.heap.size, 0, none⟩) 2 2]).run P (W.alloc (.cells cc.toArray e)) = .ok v1 w1 ∧ d.Q e w1 base ok v1 (xs ++ [p, p2]) ∧ Below base w0 w1 ∧ W.grownBy w1 v.ownBlock ∧ (v1.ownBlock = v.ownBlock ∨ ∃ b, v1.ownBlock = some b ∧ W.heap.size ≤ b) := by
  subst hcc
  obtain ⟨h0, inner, hown, hr⟩ := HO
  obtain ⟨i0, hi, hzz⟩ := Option.map_eq_some_iff.1 hinfo
  simp only [Prod.mk.injEq] at hzz
  obtain ⟨hz0, hz1, hz2⟩ := hzz
  have hlen : xs.length + 2 ≤ 140737488355328 := Nat.le_trans (Nat.le_mul_of_pos_right _ hb0) hl
  have hcl := d.K_len (d.K_of_M hp)
  have hcl2 := d.K_len (d.K_of_M hp2)
  have hq : QRow (W.alloc (.cells (cs ++ cs2).toArray e)) base e d.sz v xs.length inner := q_move hown (fun k hk => Below.heap_alloc W _ k (q_lt hown k hk))
  obtain ⟨v1, w1, hrun, hq1, hg1, hat⟩ := q_append (P := P) (W.alloc (.cells (cs ++ cs2).toArray e)) base t ty e i0 z d.sz bytes ht hi hz0 hz1 hz2 hz hs0 v xs.length inner hq ⟨W.heap.size, 0, none⟩ 2 2 (cs ++ cs2) (by rw [List.length_append, hcl, hcl2]; omega)
    (by simpa using World.news_of_block (cs := (cs ++ cs2).toArray) (t := e) (fr := (0, 0)) (heap_alloc_new W (.cells (cs ++ cs2).toArray e))) (by
      intro u hu
      rw [List.mem_append] at hu
      rcases hu with hu | hu
      · exact d.K_one (d.K_of_M hp) u hu
      · exact d.K_one (d.K_of_M hp2) u hu) (by omega) (by simp only [maxLen]; omega) hl (by simp; omega)
  have hg : W.grownBy w1 v.ownBlock := World.grownBy.trans (World.grownBy_alloc W _ _) hg1
  have hat' : v1.ownBlock = v.ownBlock ∨ ∃ b, v1.ownBlock = some b ∧ W.heap.size ≤ b := by
    rcases hat with hat | ⟨b, hb, hle⟩
    · exact .inl hat
    · exact .inr ⟨b, hb, by rw [World.size_alloc] at hle; omega⟩
  have hne : ∀ k, some k ≠ v.ownBlock → k < W.heap.size → some k ≠ v1.ownBlock := by
    intro k hk hlt
    rcases hat' with hat | ⟨b, hb, hle⟩
    · rw [hat]; exact hk
    · rw [hb]
      intro he
      injection he with he
      omega
  have step : ∀ {q : α} {c : List Value} {o : Nat → Prop}, d.M W base o q c → (∀ k, o k → ok k ∧ some k ≠ v.ownBlock) → d.M w1 base (fun k => ok k ∧ some k ≠ v1.ownBlock) q c := by
    intro q c o hq ho
    have h1 := d.M_move (w1 := w1) (fun k hk => hg.block k hk.2.2.1 (ho k hk.1).2) (d.M_bound hq)
    exact d.M_mono (fun k hk => ⟨(ho k hk.1).1, hne k (ho k hk.1).2 hk.2.2.1⟩) h1
  refine ⟨v1, w1, hrun, ⟨fun k hk => ?_, inner ++ (cs ++ cs2), by rw [List.length_append]; exact hq1, ?_⟩, HB.grown hg hbase (fun k hk => (q_typed hown k hk).1), hg, hat'⟩
  · rcases hat' with hat | ⟨b, hb, hle⟩
    · exact h0 k (hat ▸ hk)
    · rw [hb] at hk
      injection hk with hk
      exact hfresh k (by omega)
  · have r1 := ((hr.imp_ (fun _ _ hq => step hq (fun _ hk => hk))).snoc (step hp (fun _ hk => hk.elim)) hcl).snoc (step hp2 (fun _ hk => hk.elim)) hcl2
    rw [List.append_assoc, List.append_assoc] at r1
    exact r1
open Kd in
theorem Q_append2s_ {P : Program} {ops : Array Oper} {o : Oper} {a : Act} {Q' : Exit → Act → World → Prop} {Kc : Act → World → Prop} {α : Type} (d : Kd α) {w0 W : World} (base : Nat) (hw : Region.wanted o (yielded ops a.tmps) = true) (s x : Operand) (t e : TypeId) (z : Value) (bytes : Nat)
    (ho : o.op = .call { callee := .builtin .append, args := #[s, x], argTypes := #[t, t] })
    (ht : P.underlying t = some (.slice e)) (hinfo : (P.info? e).map (fun i => (i.zero, i.size, i.bytes)) = some (some z, d.sz, bytes)) (hz : z.cells.size = d.sz) (hs0 : 0 < d.sz) (hb0 : 0 < bytes)
    (v : Value) (xs : List α) (p p2 : α) (cs cs2 cc : List Value) (hcc : cc = cs ++ cs2) (ok : Nat → Prop) (hs : a.eval s = v) (hx : a.eval x = .slice (some ⟨W.heap.size, 0, none⟩) 2 2) (hp : d.M W base (fun _ => False) p cs) (hp2 : d.M W base (fun _ => False) p2 cs2) (hfresh : ∀ k, W.heap.size ≤ k → ok k)
    (HO : d.Q e W base ok v xs) (HB : Below base w0 W) (hbase : base ≤ W.heap.size) (hl : (xs.length + 2) * bytes ≤ 140737488355328)
    (h : ∀ v1 w1, d.Q e w1 base ok v1 (xs ++ [p, p2]) → Below base w0 w1 → W.grownBy w1 v.ownBlock → (v1.ownBlock = v.ownBlock ∨ ∃ b, v1.ownBlock = some b ∧ W.heap.size ≤ b) → Kc (a.put o.dst v1) w1) :
    if Region.wanted o (yielded ops a.tmps) = true then Oper.wp P o a (W.alloc (.cells cc.toArray e)) Kc Q' else Kc (a.put o.dst undef) (W.alloc (.cells cc.toArray e)) := by
  obtain ⟨v1, w1, hr, h1, h2, h3, h4⟩ := Q_run2_ (P := P) d base t o.type e z bytes ht hinfo hz hs0 hb0 v xs p p2 cs cs2 cc hcc ok hp hp2 hfresh HO HB hbase hl
  rw [if_pos hw]
  unfold Oper.wp execOp
  simp only [ho, resolve, invoke, builtin, Sem.run_bind, Sem.run_pure, Result.andThen_ok, List.map_toArray, List.map_cons, List.map_nil, hs, hx, hr]
  exact h v1 w1 h1 h2 h3 h4
def spec_l20Near.l0 : Nat → Int → Int → List Int → Int → List (S63) → List (S65) → Option ((List (S63)) × (List (S65)) × Int)
 | 0, _, _, _, _, _, _ => none
 | k + 1, x1, x6, x1000, x1001, x373000, x373001 => if x6 > 0 then ((spec_l20Rd_pick.f k x1000 x1001 2).bind fun bt375 => (if bt375.1 = 0 then ((spec_l20Rd_pick.f k x1000 bt375.2 6).bind fun bt377 => ((spec_l20Rd_pick.f k x1000 bt377.2 3).bind fun bt379 => ((spec_l20Rd_bytes.f k x1000 bt379.2 bt379.1).bind fun bt381 => ((spec_l20Rd_pick.f k x1000 bt381.2 30).bind fun bt385 => ((spec_NearSend.f k x373000 x373001 bt377.1 bt381.1 bt385.1).bind fun bt387 => (spec_l20Near.l0 k x1 (wrap64 (x6 - 1)) x1000 bt385.2 bt387.1 bt387.2.1)))))) else ((spec_l20Rd_pick.f k x1000 bt375.2 6).bind fun bt394 => ((spec_l20Query.f k x1000 bt394.2 0).bind fun bt396 => ((spec_l20Rd_pick.f k x1000 bt396.2.2.2.2 30).bind fun bt401 => ((spec_NearHear.f k x373000 x373001 bt394.1 bt396.1 bt396.2.1 bt396.2.2.1 bt396.2.2.2.1 bt401.1).bind fun bt403 => (spec_l20Near.l0 k x1 (wrap64 (x6 - 1)) x1000 bt401.2 bt403.1 bt403.2.1))))))) else ((spec_l20Rd_odd.f k x1000 x1001 x1).bind fun bt412 => (if bt412.1 = true then ((spec_l20Rd_pick.f k x1000 bt412.2 3).bind fun bt414 => (if bt414.1 = 0 then ((spec_l20Rd_pick.f k x1000 bt414.2 6).bind fun bt416 => ((spec_l20Rd_pick.f k x1000 bt416.2 300).bind fun bt418 => ((spec_l20Rd_pick.f k x1000 bt418.2 9).bind fun bt420 => (if x373000.length < 5864062014805 then (some ((x373000 ++ [(⟨bt416.1, bt418.1, bt420.1⟩ : S63)]), x373001, bt420.2)) else (none))))) else (if bt414.1 = 1 then ((spec_l20Rd_pick.f k x1000 bt414.2 6).bind fun bt425 => (if x373001.length + 1 < 4398046511104 then (some (x373000, (x373001 ++ [(⟨bt425.1, ([] : List Int)⟩ : S65), (⟨65536, ([] : List Int)⟩ : S65)]), bt425.2)) else (none))) else (if x373000.length + x373000.length < 5864062014805 then (some ((x373000 ++ x373000), x373001, bt414.2)) else (none))))) else (some (x373000, x373001, bt412.2))))
def spec_l20Near.f (k : Nat) (s0_0 : List Int) (s0_1 : Int) (a1 : Int) : Option ((List (S63)) × (List (S65)) × Int) := (spec_l20Rd_pick.f k s0_0 s0_1 10).bind fun bt373 => (spec_l20Near.l0 k a1 bt373.1 s0_0 bt373.2 ([] : List (S63)) ([] : List (S65)))
theorem spec_l20Near.mono_l : ∀ k, (∀ y0 y1 y2 y3 y4 y5, LeO (spec_l20Near.l0 k y0 y1 y2 y3 y4 y5) (spec_l20Near.l0 (k + 1) y0 y1 y2 y3 y4 y5))
 | 0 => fun _ _ _ _ _ _ r h => by simp [spec_l20Near.l0] at h
 | k + 1 => by
  have ih0 := spec_l20Near.mono_l k
  ·intro y0 y1 y2 y3 y4 y5
   unfold spec_l20Near.l0
   repeat' first | (with_reducible first | apply ih0 | apply spec_NearHear.mono | apply spec_NearSend.mono | apply spec_l20Query.mono | apply spec_l20Rd_bytes.mono | apply spec_l20Rd_odd.mono | apply spec_l20Rd_pick.mono | exact LeO.refl _ | exact LeO.none _ | refine LeO.ite ?_ ?_ | refine LeO.bind ?_ fun _ => ?_) | apply ih0 | apply spec_NearHear.mono | apply spec_NearSend.mono | apply spec_l20Query.mono | apply spec_l20Rd_bytes.mono | apply spec_l20Rd_odd.mono | apply spec_l20Rd_pick.mono | exact LeO.none _ | refine LeO.ite ?_ ?_ | refine LeO.bind ?_ fun _ => ?_
theorem spec_l20Near.mono : ∀ a0 a1 a2 k, LeO (spec_l20Near.f k a0 a1 a2) (spec_l20Near.f (k + 1) a0 a1 a2) := by
 intro a0 a1 a2 k
 have ih0 := spec_l20Near.mono_l k
 unfold spec_l20Near.f
 repeat' first | (with_reducible first | apply ih0 | apply spec_NearHear.mono | apply spec_NearSend.mono | apply spec_l20Query.mono | apply spec_l20Rd_bytes.mono | apply spec_l20Rd_odd.mono | apply spec_l20Rd_pick.mono | exact LeO.refl _ | exact LeO.none _ | refine LeO.ite ?_ ?_ | refine LeO.bind ?_ fun _ => ?_) | apply ih0 | apply spec_NearHear.mono | apply spec_NearSend.mono | apply spec_l20Query.mono | apply spec_l20Rd_bytes.mono | apply spec_l20Rd_odd.mono | apply spec_l20Rd_pick.mono | exact LeO.none _ | refine LeO.ite ?_ ?_ | refine LeO.bind ?_ fun _ => ?_
def spec_l20Near.T6 : Bool × List (List Nat × List Nat) := (true, [([], []), ([], []), ([1], [1]), ([], []), ([], []), ([4, 2], [4]), ([3, 5, 5], [3, 5]), ([], []), ([7, 6], [7]), ([0, 2, 6, 8, 8], [0, 2, 6, 8]), ([9], [9]), ([10], [10]), ([10], [10]), ([11, 9, 0, 1, 2, 3, 4, 5, 6, 7, 8, 9, 10, 11], [11])])
def spec_l20Near.B6 : List Nat := [0, 0, 2, 0, 0, 22, 62, 0, 254, 511, 1023, 2047, 2047, 4095]
theorem spec_l20Near.tab6 : rtab .any (opsOf Try.f57 6) = spec_l20Near.T6 := by kernel_rfl
theorem spec_l20Near.bits6 : waitsOk spec_l20Near.T6.2 spec_l20Near.B6 = true := by kernel_rfl
def spec_l20Near.T7 : Bool × List (List Nat × List Nat) := (true, [([], []), ([], []), ([1], [1]), ([], []), ([3, 2], [3]), ([], []), ([5, 4], [5]), ([0, 2, 4, 6, 6], [0, 2, 4, 6]), ([7], [7]), ([8], [8]), ([8], [8]), ([9, 7, 0, 1, 2, 3, 4, 5, 6, 7, 8, 9], [9])])
def spec_l20Near.B7 : List Nat := [0, 0, 2, 0, 14, 0, 62, 127, 255, 511, 511, 1023]
theorem spec_l20Near.tab7 : rtab .any (opsOf Try.f57 7) = spec_l20Near.T7 := by kernel_rfl
theorem spec_l20Near.bits7 : waitsOk spec_l20Near.T7.2 spec_l20Near.B7 = true := by kernel_rfl
def spec_l20Near.T12 : Bool × List (List Nat × List Nat) := (true, [([], []), ([0], [0]), ([], []), ([2], [2]), ([], []), ([4, 3], [4]), ([], []), ([6, 5], [6]), ([3, 5, 7], [3, 5, 7]), ([8], [8]), ([1, 9, 7], [1, 9]), ([0, 1, 2, 3, 4, 5, 6, 7, 8, 9, 10], []), ([11, 10, 10, 0, 1, 2, 3, 4, 5, 6, 7, 8, 9, 10], [10, 11])])
def spec_l20Near.B12 : List Nat := [0, 1, 0, 4, 0, 28, 0, 124, 252, 508, 1023, 2047, 4095]
theorem spec_l20Near.tab12 : rtab .any (opsOf Try.f57 12) = spec_l20Near.T12 := by kernel_rfl
theorem spec_l20Near.bits12 : waitsOk spec_l20Near.T12.2 spec_l20Near.B12 = true := by kernel_rfl
def spec_l20Near.T14 : Bool × List (List Nat × List Nat) := (true, [([], []), ([0], [0]), ([], []), ([2], [2]), ([3], [3]), ([], []), ([4, 5], [4, 5]), ([1, 6, 3], [1, 6]), ([0, 1, 2, 3, 4, 5, 6, 7], []), ([8, 7, 7, 0, 1, 2, 3, 4, 5, 6, 7], [7, 8])])
def spec_l20Near.B14 : List Nat := [0, 1, 0, 4, 12, 0, 60, 127, 255, 511]
theorem spec_l20Near.tab14 : rtab .any (opsOf Try.f57 14) = spec_l20Near.T14 := by kernel_rfl
theorem spec_l20Near.bits14 : waitsOk spec_l20Near.T14.2 spec_l20Near.B14 = true := by kernel_rfl
set_option maxHeartbeats 8000000 in
set_option maxRecDepth 100000 in
theorem spec_l20Near.calls (k : Nat) (g : Nat) (s0_0 : List Int) (s0_1 : Int) (a1 : Int) (r1 : List (S63)) (r2 : List (S65)) (r3 : Int) (w0 w : World) (hI : IsS104 w0 w g s0_0 s0_1) (hB : Below w0.heap.size w0 w) (h : spec_l20Near.f k s0_0 s0_1 a1 = some (r1, r2, r3)) :
  Calls Try.prog 57 #[.pointer (some ⟨g, 0, none⟩), .int .i64 a1] w fun e w' => ∃ v0_ v1_ : Value, e = .returned (.agg #[v0_, v1_]) ∧ Kd.Q k63 63 w' w.heap.size (fun _ => True) v0_ r1 ∧ Kd.Q k65 65 w' w.heap.size (fun _ => True) v1_ r2 ∧ IsS104 w0 w' g s0_0 r3 ∧ Below w0.heap.size w0 w' ∧ KeepBut w w' g none := by
 have hu32 := Try.underlying32; have hu63 := Try.underlying63; have hu65 := Try.underlying65; have HI0 := Aside0.mk hI
 have HK := Aside0.mk (KeepBut.refl w g none)
 have HL := Aside0.mk hB.size; clear hI; have HW0 := Aside0.mk hB.size; have HB := Aside0.mk hB; clear hB
 have H : ((spec_l20Rd_pick.f k s0_0 s0_1 10).bind fun bt373 => (spec_l20Near.l0 k a1 bt373.1 s0_0 bt373.2 ([] : List (S63)) ([] : List (S65)))) = some (r1, r2, r3) := h
 clear h
 replace H := Option.bind_eq_some_iff.mp H
 obtain ⟨⟨t373, t374⟩, A30, H⟩ := H
 (try dsimp only at H)
 have A3 := Aside0.mk A30; clear A30
 have H' := Aside0.mk H
 clear H
 go_enter Try.func57, Try.ntmps57
 go_wp2_with (first | ((with_reducible refine gate_dst (N := 4) rfl ?_); refine box_ (N := 4) (cs := #[.slice none 0 0, .slice none 0 0]) (t := 32) (fun gb371 hg w4 hbox hb => ?_); replace HB := (bs104_ HB hb); have BK371 := Aside0.mk (hbox); have GW371 := gk_ hg HK; have GE371 := Aside0.mk ((Nat.le_trans HW0.out (by rw [hg]; exact (keep_size (w := w) (g := g) (row := none) (hkA_ HK.out)) : w.heap.size ≤ gb371) : w0.heap.size ≤ gb371)); replace HK := (kw_ HK hb); have NB0_371 := nl104_ hg HI0; have NB371_0 := ng104_ hg HI0; replace HI0 := (ib104_ HI0 hb); clear hb hbox hg) | ((with_reducible refine gate_dst (N := 5) rfl ?_); refine box_ (N := 5) (cs := #[.slice none 0 0, .slice none 0 0]) (t := 32) (fun gb372 hg w5 hbox hb => ?_); replace HB := (bs104_ HB hb); have BK372 := Aside0.mk (hbox); have GW372 := gk_ hg HK; have GE372 := Aside0.mk ((Nat.le_trans HW0.out (by rw [hg]; exact (keep_size (w := w) (g := g) (row := none) (hkA_ HK.out)) : w.heap.size ≤ gb372) : w0.heap.size ≤ gb372)); replace HK := (kw_ HK hb); have NB371_372 := nl_ hg BK371; have NB372_371 := ng_ hg BK371; replace BK371 := (bbA_ BK371 hb); have NB0_372 := nl104_ hg HI0; have NB372_0 := ng104_ hg HI0; replace HI0 := (ib104_ HI0 hb); clear hb hbox hg; have hnb6 := NB372_371.out; have hnc6 := NB371_372.out; have hnb7 := NB372_0.out; have hnc7 := NB0_372.out; have Z8 := zz2 BK372) | ((with_reducible refine gate_callee (f := 58) rfl ?_); refine goesL_ (some 9) rfl rfl Try.func58 (by kernel_rfl) rfl #[.pointer (some ⟨g, 0, none⟩), .int .i64 10] rfl ar_ ?_; (with_reducible refine (spec_l20Rd_pick.calls k g s0_0 s0_1 10 t373 t374 w0 _ ?side1 ?side2 A3.out).mono ?_); (case side1 => exact is104_ HI0.out); (case side2 => exact hb104_ HB.out); rintro e w9 ⟨rfl, hi, hb, hk⟩; refine ⟨_, rfl, ?_⟩; replace BK371 := Aside0.mk (KeepBut.blk hk (g' := gb371) (o := .cells #[.slice none 0 0, .slice none 0 0] 32 (0, 0)) (by exact kf_ BK371.out) NB371_0.out (by simp)); replace BK372 := Aside0.mk (KeepBut.blk hk (g' := gb372) (o := .cells #[.slice none 0 0, .slice none 0 0] 32 (0, 0)) (by refine kb_ ?_; refine pz2 (cs := #[.slice none 0 0, .slice none 0 0]) ?_; refine kb_ ?_; exact BK372.out) NB372_0.out (by simp)); replace HK := (kk_ HK hk); replace HB := Aside0.mk (hb); replace HI0 := Aside0.mk (hi); (try clear hb); (try clear hb2); (try clear hk); (try clear hi)))
 go_loopg [6] k (fun kq v6 w' => ∃ (x6_1 : Int) (x1001_1 : Int) (x373000_1 : List (S63)) (x373001_1 : List (S65)) (u373000 : Value) (u373001 : Value), v6 = .int .i64 x6_1 ∧ Aside0 (spec_l20Near.l0 kq a1 x6_1 s0_0 x1001_1 x373000_1 x373001_1 = some (r1, r2, r3)) ∧ Aside0 (kq ≤ k) ∧ Aside0 (Kd.Q k63 63 w' w.heap.size (fun _ => True) u373000 x373000_1) ∧ Aside0 (Kd.Q k65 65 w' w.heap.size (fun _ => True) u373001 x373001_1) ∧ Aside0 (w'.heap[gb371]? = some (.cells #[(.slice none 0 0), (.slice none 0 0)] 32 (0, 0))) ∧ Aside0 (w'.heap[gb372]? = some (.cells #[u373000, u373001] 32 (0, 0))) ∧ Aside0 (IsS104 w0 w' g s0_0 x1001_1) ∧ Aside0 (KeepBut w w' g none) ∧ Aside0 (Below w0.heap.size w0 w'))
 case atStart => exact ⟨(t373), (t374), (([] : List (S63))), (([] : List (S65))), (.slice none 0 0), (.slice none 0 0), (by first | rfl | (simp; done) | (simp [*]; done)), H', ⟨Nat.le_refl _⟩, ⟨Kd.Q_of_R (by first | exact Kd.R_nil _ _ _ _ _ | exact Kd.N_nil _ _ _ _ _ | exact Kd.V_nil _ _ _ _ _ | exact Kd.Q_nil _ _ _ _ _ | exact Kd.S_nil _ _ _ _ _)⟩, ⟨Kd.Q_of_R ((Kd.S_R (by first | exact Kd.S_nil _ _ _ _ _ | exact Kd.N_nil _ _ _ _ _ | exact Kd.V_nil _ _ _ _ _ | exact Kd.Q_nil _ _ _ _ _ | exact Kd.R_nil _ _ _ _ _)))⟩, ⟨by refine kb_ ?_; exact BK371.out⟩, ⟨by refine kb_ ?_; exact BK372.out⟩, ⟨is104_ HI0.out⟩, ⟨hkA_ HK.out⟩, ⟨hb104_ HB.out⟩⟩
 case round =>
  clear H'; (try clear p2); (try clear c5); (try clear c6); (try clear c7); (try clear Z8)
  obtain ⟨x6_1, x1001_1, x373000_1, x373001_1, u373000, u373001, rfl, HA, HK1, HO_373000, HO_373001, BK371, BK372, HI0, HK, HB⟩ := hrel
  cases gk with
  | zero => exact absurd HA.out (by simp [spec_l20Near.l0])
  | succ k1 =>
   have H := HA.out; clear HA
   simp only [spec_l20Near.l0] at H
   by_cases c10 : x6_1 > 0
   ·rw [if_pos c10] at H
    have c10b0 : decide (0 < x6_1) = true := decide_eq_true c10
    clear c10
    replace H := Option.bind_eq_some_iff.mp H
    obtain ⟨⟨t375, t376⟩, A110, H⟩ := H
    (try dsimp only at H)
    have A11 := Aside0.mk A110; clear A110
    by_cases c12 : t375 = 0
    ·rw [if_pos c12] at H
     have c12b0 : (t375 == 0) = true := beq_iff_eq.mpr c12
     have c12b1 : (t375 != 0) = false := bne_eq_false_iff_eq.mpr c12
     clear c12
     replace H := Option.bind_eq_some_iff.mp H
     obtain ⟨⟨t377, t378⟩, A130, H⟩ := H
     (try dsimp only at H)
     have A13 := Aside0.mk A130; clear A130
     replace H := Option.bind_eq_some_iff.mp H
     obtain ⟨⟨t379, t380⟩, A140, H⟩ := H
     (try dsimp only at H)
     have A14 := Aside0.mk A140; clear A140
     replace H := Option.bind_eq_some_iff.mp H
     obtain ⟨⟨t381, t384⟩, A150, H⟩ := H
     (try dsimp only at H)
     have A15 := Aside0.mk A150; clear A150
     replace H := Option.bind_eq_some_iff.mp H
     obtain ⟨⟨t385, t386⟩, A160, H⟩ := H
     (try dsimp only at H)
     have A16 := Aside0.mk A160; clear A160
     replace H := Option.bind_eq_some_iff.mp H
     obtain ⟨⟨t387, t390, t393⟩, A170, H⟩ := H
     (try dsimp only at H)
     have A17 := Aside0.mk A170; clear A170
     have H' := Aside0.mk H
     clear H
     try go_wp2_with (first | ((with_reducible refine gate_callee (f := 58) rfl ?_); refine goesL_ (some 15) rfl rfl Try.func58 (by kernel_rfl) rfl #[.pointer (some ⟨g, 0, none⟩), .int .i64 2] rfl ar_ ?_; (with_reducible refine (spec_l20Rd_pick.calls k1 g s0_0 x1001_1 2 t375 t376 w0 _ ?side1 ?side2 A11.out).mono ?_); (case side1 => exact is104_ HI0.out); (case side2 => exact hb104_ HB.out); rintro e w18 ⟨rfl, hi, hb, hk⟩; refine ⟨_, rfl, ?_⟩; replace HO_373000 := Aside0.mk (Kd.Q_mono (Kd.Q_keep (IsS104.apartQ (show IsS104 w0 _ g s0_0 x1001_1 from is104_ HI0.out) (by (with_reducible repeat (first | apply Kd.Q_alloc | apply Kd.Q_drewN | apply Kd.Q_drew)); exact HO_373000.out) (by decide)) hk (fun _ h => h.2)) (fun _ h => h.1)); replace HO_373001 := Aside0.mk (Kd.Q_mono (Kd.Q_keep (IsS104.apartQ (show IsS104 w0 _ g s0_0 x1001_1 from is104_ HI0.out) (by (with_reducible repeat (first | apply Kd.Q_alloc | apply Kd.Q_drewN | apply Kd.Q_drew)); exact HO_373001.out) (by decide)) hk (fun _ h => h.2)) (fun _ h => h.1)); replace BK371 := (bkA_ BK371 hk NB371_0); replace BK372 := (bkA_ BK372 hk NB372_0); replace HK := (kk_ HK hk); replace HB := Aside0.mk (hb); replace HI0 := Aside0.mk (hi); (try clear hb); (try clear hb2); (try clear hk); (try clear hi)))
     replace HO_373000 := Aside0.mk (Kd.Q_drew HO_373000.out); replace HO_373001 := Aside0.mk (Kd.Q_drew HO_373001.out); replace BK371 := Aside0.mk (blk_drew BK371.out); replace BK372 := Aside0.mk (blk_drew BK372.out); replace HI0 := Aside0.mk (IsS104.drew HI0.out); replace HK := Aside0.mk (keep_drew HK.out); replace HB := (bd_ HB)
     refine start_ (n := 14) (S := fun w' => w'.cell? ⟨gb372, 0, none⟩ = some (u373000) ∧ w'.cell? ⟨gb372, 1, none⟩ = some (u373001)) (ds := [13]) #[false, false, false, false, false, false, false, false, false, false, false, false, false, false] (by kernel_rfl) rfl rfl (cz2 BK372.out) (fun hHeld => ?_); refine with_tabW spec_l20Near.tab6 spec_l20Near.bits6 (fun HT_ HW_ => ?_)
     generalize w18.drew = w19 at HO_373000 HO_373001 BK371 BK372 HI0 HK HB hHeld ⊢
     refine pu_ (i := 1) (N := some 19) HT_ ?_; refine pu_ (i := 3) (N := some 21) HT_ ?_; refine pu_ (i := 4) (N := some 22) HT_ ?_; refine pu_ (i := 7) (N := some 25) HT_ ?_; refine tk_ (i := 0) (N := some 18) HT_ HW_ hHeld ?_
     refine on_ (i := 2) (N := some 20) HT_ (fun K hK => ?_)
     refine goes_ Try.func58 (by kernel_rfl) rfl #[.pointer (some ⟨g, 0, none⟩), .int .i64 6] (by rfl) rfl rfl ar_ ?_
     with_reducible refine (spec_l20Rd_pick.calls k1 g s0_0 t376 6 t377 t378 w0 _ ?side1 ?side2 A13.out).mono ?_
     (case side1 => exact is104_ HI0.out)
     (case side2 => exact hb104_ HB.out)
     rintro e w20 ⟨rfl, hi, hb, hk⟩
     refine ⟨_, rfl, ?_⟩
     replace HO_373000 := Aside0.mk (Kd.Q_mono (Kd.Q_keep (IsS104.apartQ (show IsS104 w0 _ g s0_0 t376 from is104_ HI0.out) (by (with_reducible repeat (first | apply Kd.Q_alloc | apply Kd.Q_drewN | apply Kd.Q_drew)); exact HO_373000.out) (by decide)) hk (fun _ h => h.2)) (fun _ h => h.1)); replace HO_373001 := Aside0.mk (Kd.Q_mono (Kd.Q_keep (IsS104.apartQ (show IsS104 w0 _ g s0_0 t376 from is104_ HI0.out) (by (with_reducible repeat (first | apply Kd.Q_alloc | apply Kd.Q_drewN | apply Kd.Q_drew)); exact HO_373001.out) (by decide)) hk (fun _ h => h.2)) (fun _ h => h.1)); replace BK371 := (bkA_ BK371 hk NB371_0); replace BK372 := (bkA_ BK372 hk NB372_0); replace HK := (kk_ HK hk); replace HB := Aside0.mk (hb); replace HI0 := Aside0.mk (hi); (try clear hb); (try clear hb2); (try clear hk); (try clear hi)
     refine hK.out _ _ (cz2 BK372.out) (fun hHeld => ?_)
     clear hK K; refine nm_ 20 ?_
     refine on_ (i := 5) (N := some 23) HT_ (fun K hK => ?_)
     refine goes_ Try.func58 (by kernel_rfl) rfl #[.pointer (some ⟨g, 0, none⟩), .int .i64 3] (by rfl) rfl rfl ar_ ?_
     with_reducible refine (spec_l20Rd_pick.calls k1 g s0_0 t378 3 t379 t380 w0 _ ?side1 ?side2 A14.out).mono ?_
     (case side1 => exact is104_ HI0.out)
     (case side2 => exact hb104_ HB.out)
     rintro e w21 ⟨rfl, hi, hb, hk⟩
     refine ⟨_, rfl, ?_⟩
     replace HO_373000 := Aside0.mk (Kd.Q_mono (Kd.Q_keep (IsS104.apartQ (show IsS104 w0 _ g s0_0 t378 from is104_ HI0.out) (by (with_reducible repeat (first | apply Kd.Q_alloc | apply Kd.Q_drewN | apply Kd.Q_drew)); exact HO_373000.out) (by decide)) hk (fun _ h => h.2)) (fun _ h => h.1)); replace HO_373001 := Aside0.mk (Kd.Q_mono (Kd.Q_keep (IsS104.apartQ (show IsS104 w0 _ g s0_0 t378 from is104_ HI0.out) (by (with_reducible repeat (first | apply Kd.Q_alloc | apply Kd.Q_drewN | apply Kd.Q_drew)); exact HO_373001.out) (by decide)) hk (fun _ h => h.2)) (fun _ h => h.1)); replace BK371 := (bkA_ BK371 hk NB371_0); replace BK372 := (bkA_ BK372 hk NB372_0); replace HK := (kk_ HK hk); replace HB := Aside0.mk (hb); replace HI0 := Aside0.mk (hi); (try clear hb); (try clear hb2); (try clear hk); (try clear hi)
     refine hK.out _ _ (cz2 BK372.out) (fun hHeld => ?_)
     clear hK K; refine nm_ 23 ?_
     refine on_ (i := 6) (N := some 24) HT_ (fun K hK => ?_)
     refine goes_ Try.func65 (by kernel_rfl) rfl #[.pointer (some ⟨g, 0, none⟩), .int .i64 t379] (by rfl) rfl rfl ar_ ?_
     with_reducible refine (spec_l20Rd_bytes.calls k1 g s0_0 t380 t379 t381 t384 w0 _ ?side1 ?side2 A15.out).mono ?_
     (case side1 => exact is104_ HI0.out)
     (case side2 => exact hb104_ HB.out)
     rintro e w22 ⟨v382, rfl, ho0, hi, hb, hk⟩
     refine ⟨_, rfl, ?_⟩
     replace HO_373000 := Aside0.mk (Kd.Q_mono (Kd.Q_keep (IsS104.apartQ (show IsS104 w0 _ g s0_0 t380 from is104_ HI0.out) (by (with_reducible repeat (first | apply Kd.Q_alloc | apply Kd.Q_drewN | apply Kd.Q_drew)); exact HO_373000.out) (by decide)) hk (fun _ h => h.2)) (fun _ h => h.1)); replace HO_373001 := Aside0.mk (Kd.Q_mono (Kd.Q_told (Kd.Q_oldK (IsS104.apartQ (show IsS104 w0 _ g s0_0 t380 from is104_ HI0.out) (by (with_reducible repeat (first | apply Kd.Q_alloc | apply Kd.Q_drewN | apply Kd.Q_drew)); exact HO_373001.out) (by decide)) hk) (Kd.R_base ho0)) (fun _ h_ => op1_ h_)); replace BK371 := (bkA_ BK371 hk NB371_0); replace BK372 := (bkA_ BK372 hk NB372_0); have HO383 := Aside0.mk (Kd.R_lower ho0 (keep_size (w := w) (g := g) (row := none) (hkA_ HK.out))); replace HK := (kk_ HK hk); replace HB := Aside0.mk (hb); replace HI0 := Aside0.mk (hi); (try clear hb); (try clear hb2); (try clear hk); (try clear hi); (try clear ho0)
     refine hK.out _ _ (cz2 BK372.out) (fun hHeld => ?_)
     clear hK K; refine nm_ 24 ?_
     refine on_ (i := 8) (N := some 26) HT_ (fun K hK => ?_)
     refine goes_ Try.func58 (by kernel_rfl) rfl #[.pointer (some ⟨g, 0, none⟩), .int .i64 30] (by rfl) rfl rfl ar_ ?_
     with_reducible refine (spec_l20Rd_pick.calls k1 g s0_0 t384 30 t385 t386 w0 _ ?side1 ?side2 A16.out).mono ?_
     (case side1 => exact is104_ HI0.out)
     (case side2 => exact hb104_ HB.out)
     rintro e w23 ⟨rfl, hi, hb, hk⟩
     refine ⟨_, rfl, ?_⟩
     replace HO_373000 := Aside0.mk (Kd.Q_mono (Kd.Q_keep (IsS104.apartQ (show IsS104 w0 _ g s0_0 t384 from is104_ HI0.out) (by (with_reducible repeat (first | apply Kd.Q_alloc | apply Kd.Q_drewN | apply Kd.Q_drew)); exact HO_373000.out) (by decide)) hk (fun _ h => h.2)) (fun _ h => h.1)); replace HO_373001 := Aside0.mk (Kd.Q_mono (Kd.Q_keep (IsS104.apartQ (show IsS104 w0 _ g s0_0 t384 from is104_ HI0.out) (by (with_reducible repeat (first | apply Kd.Q_alloc | apply Kd.Q_drewN | apply Kd.Q_drew)); exact HO_373001.out) (by decide)) hk (fun _ h => h.2)) (fun _ h => h.1)); replace BK371 := (bkA_ BK371 hk NB371_0); replace BK372 := (bkA_ BK372 hk NB372_0); replace HO383 := (rk104_ HI0 HO383 hk); replace HK := (kk_ HK hk); replace HB := Aside0.mk (hb); replace HI0 := Aside0.mk (hi); (try clear hb); (try clear hb2); (try clear hk); (try clear hi)
     obtain ⟨Ao24, co24, eo24, _⟩ := Kd.Q_slice HO_373000.out
     (first | subst eo24 | (injection eo24 with f1_ f2_ f3_; have f4_ := f1_.symm; have f5_ := f3_.symm; clear f1_ f2_ f3_; subst f4_; subst f5_))
     obtain ⟨Ao25, co25, eo25, _⟩ := Kd.Q_slice HO_373001.out
     (first | subst eo25 | (injection eo25 with f1_ f2_ f3_; have f4_ := f1_.symm; have f5_ := f3_.symm; clear f1_ f2_ f3_; subst f4_; subst f5_))
     obtain ⟨Ao26, co26, eo26⟩ := Kd.R_slice HO383.out
     (first | subst eo26 | (injection eo26 with f1_ f2_ f3_; have f4_ := f1_.symm; have f5_ := f3_.symm; clear f1_ f2_ f3_; subst f4_; subst f5_))
     refine hK.out _ _ (cz2 BK372.out) (fun hHeld => ?_)
     clear hK K; refine nm_ 26 ?_
     refine on_ (i := 9) (N := some 27) HT_ (fun K hK => ?_)
     refine goes_ Try.func77 (by kernel_rfl) rfl #[.agg #[.slice Ao24 x373000_1.length co24, .slice Ao25 x373001_1.length co25], .int .i64 t377, .slice Ao26 t381.length co26, .int .i64 t385] (by rfl) rfl rfl ar_ ?_
     with_reducible refine (spec_NearSend.calls k1 _ _ x373000_1 _ _ x373001_1 t377 _ _ t381 t385 t387 t390 t393 _ ?side1 ?side2 ?side3 ?side4 ?side5 ?side6 A17.out).mono ?_
     (case side1 => exact kC_ (Kd.Q_reads' HO_373000.out).2.2)
     (case side2 => exact (Kd.Q_reads' HO_373000.out).2.1)
     (case side3 => exact kC_ (Kd.Q_reads' HO_373001.out).2.2)
     (case side4 => exact (Kd.Q_reads' HO_373001.out).2.1)
     (case side5 => exact kC_ (Kd.R_reads' HO383.out).2.2)
     (case side6 => exact (Kd.R_reads' HO383.out).2.1)
     rintro e w27 ⟨v388, v391, rfl, ho0, ho1, hb⟩
     refine ⟨_, rfl, ?_⟩
     have HO389 := Aside0.mk (Kd.R_lower (Kd.R_new' ho0 (Kd.Q_lt (by (with_reducible repeat (first | apply Kd.Q_alloc | apply Kd.Q_drewN | apply Kd.Q_drew)); exact HO_373000.out))) (keep_size (w := w) (g := g) (row := none) (hkA_ HK.out))); replace HO_373000 := Aside0.mk (Kd.Q_elder' (by (with_reducible repeat (first | apply Kd.Q_alloc | apply Kd.Q_drewN | apply Kd.Q_drew)); exact HO_373000.out) (Kd.R_base ho0) hb); have HO392 := Aside0.mk (Kd.Q_lower (Kd.Q_new' (Kd.Q_new' ho1 (Kd.Q_lt (by (with_reducible repeat (first | apply Kd.Q_alloc | apply Kd.Q_drewN | apply Kd.Q_drew)); exact HO_373001.out))) (Kd.R_lt (kR_ HO383.out))) (keep_size (w := w) (g := g) (row := none) (hkA_ HK.out))); replace HO_373001 := Aside0.mk (Kd.Q_elder' (by (with_reducible repeat (first | apply Kd.Q_alloc | apply Kd.Q_drewN | apply Kd.Q_drew)); exact HO_373001.out) (Kd.Q_base ho1) hb); replace HO383 := Aside0.mk (Kd.R_below (kR_ HO383.out) hb); replace BK371 := (bbA_ BK371 hb); replace BK372 := (bbA_ BK372 hb); replace HI0 := (ib104_ HI0 hb); replace HK := (kw_ HK hb); replace HB := (bs104_ HB hb); (try clear hb); (try clear hb2); (try clear hk); (try clear hi); (try clear ho0); (try clear ho1)
     obtain ⟨Ao28, co28, eo28⟩ := Kd.R_slice HO389.out
     (first | subst eo28 | (injection eo28 with f1_ f2_ f3_; have f4_ := f1_.symm; have f5_ := f3_.symm; clear f1_ f2_ f3_; subst f4_; subst f5_))
     obtain ⟨Ao30, co30, eo30, _⟩ := Kd.Q_slice HO392.out
     (first | subst eo30 | (injection eo30 with f1_ f2_ f3_; have f4_ := f1_.symm; have f5_ := f3_.symm; clear f1_ f2_ f3_; subst f4_; subst f5_))
     refine hK.out _ _ (cz2 BK372.out) (fun hHeld => ?_)
     clear hK K; refine nm_ 27 ?_; refine pu_ (i := 10) (N := some 17) HT_ ?_; refine pu_ (i := 11) (N := some 28) HT_ ?_; refine pu_ (i := 12) (N := some 29) HT_ ?_
     refine last_ (i := 13) (N := none) #[true, true, true, true, true, true, true, true, true, true, true, true, true, true] rfl rfl (one_of HT_.out (by kernel_rfl)) (by decide) (fun K hK => ?_)
     have hs29 : w27.cell? ⟨gb372, 0, none⟩ = some (.slice Ao24 x373000_1.length co24) := bc_ BK372 0
     have hfs29 := blk_frozen BK372.out 0
     have hns29_0 := NB371_372.out; have hms29_0 := NB372_371.out
     have hs31 : w27.cell? ⟨gb372, 1, none⟩ = some (.slice Ao25 x373001_1.length co25) := bc_ BK372 1
     have hfs31 := blk_frozen BK372.out 1
     have hns31_0 := NB371_372.out; have hms31_0 := NB372_371.out
     refine skip_ (w1 := ?_) (by rfl) rfl ?_ ?_
     rotate_left
     ·go_simp
      rfl
     refine hK.out _ _ ?_
     clear hK K
     refine done_ (done_of HT_.out (by kernel_rfl)) ?_
     try go_wp2
     go_roundg k1
     case measure => have := HK1.out; omega
     case rel => exact ⟨(wrap64 (x6_1 - 1)), (t386), (t387), (t390), (.slice Ao28 t387.length co28), (.slice Ao30 t390.length co30), (by first | rfl | (simp; done) | (simp [*]; done)), H', ⟨by have := HK1.out; omega⟩, ⟨Kd.Q_of_R (by refine kR_ ?_; exact rfm_ ((Kd.R_types HO389.out BK372.out (by decide))) (fun _ hk => trivial))⟩, ⟨by (with_reducible repeat (first | apply Kd.Q_alloc | apply Kd.Q_drewN | apply Kd.Q_drew)); exact Kd.Q_mono (Kd.Q_far (p := ⟨gb372, 1, none⟩) (Kd.Q_far (p := ⟨gb372, 0, none⟩) (Kd.Q_types HO392.out BK372.out (by decide)) (fun _ hk => hk.2) (.slice Ao28 t387.length co28)) (fun _ hk => hk.2) (.slice Ao30 t390.length co30)) (fun _ hk => trivial)⟩, ⟨by exact kf_ BK371.out⟩, ⟨by refine kb_ ?_; refine pz2 (cs := #[.slice Ao24 x373000_1.length co24, .slice Ao25 x373001_1.length co25]) ?_; refine kb_ ?_; exact BK372.out⟩, ⟨is104_ HI0.out⟩, ⟨hkA_ HK.out⟩, ⟨hb104_ HB.out⟩⟩
    ·rw [if_neg c12] at H
     have c12b0 : (t375 == 0) = false := beq_eq_false_iff_ne.mpr c12
     have c12b1 : (t375 != 0) = true := bne_iff_ne.mpr c12
     replace H := Option.bind_eq_some_iff.mp H
     obtain ⟨⟨t394, t395⟩, A320, H⟩ := H
     (try dsimp only at H)
     have A32 := Aside0.mk A320; clear A320
     replace H := Option.bind_eq_some_iff.mp H
     obtain ⟨⟨t396, t397, t398, t399, t400⟩, A330, H⟩ := H
     (try dsimp only at H)
     have A33 := Aside0.mk A330; clear A330
     replace H := Option.bind_eq_some_iff.mp H
     obtain ⟨⟨t401, t402⟩, A340, H⟩ := H
     (try dsimp only at H)
     have A34 := Aside0.mk A340; clear A340
     replace H := Option.bind_eq_some_iff.mp H
     obtain ⟨⟨t403, t406, t409⟩, A350, H⟩ := H
     (try dsimp only at H)
     have A35 := Aside0.mk A350; clear A350
     have H' := Aside0.mk H
     clear H
     try go_wp2_with (first | ((with_reducible refine gate_callee (f := 58) rfl ?_); refine goesL_ (some 15) rfl rfl Try.func58 (by kernel_rfl) rfl #[.pointer (some ⟨g, 0, none⟩), .int .i64 2] rfl ar_ ?_; (with_reducible refine (spec_l20Rd_pick.calls k1 g s0_0 x1001_1 2 t375 t376 w0 _ ?side1 ?side2 A11.out).mono ?_); (case side1 => exact is104_ HI0.out); (case side2 => exact hb104_ HB.out); rintro e w36 ⟨rfl, hi, hb, hk⟩; refine ⟨_, rfl, ?_⟩; replace HO_373000 := Aside0.mk (Kd.Q_mono (Kd.Q_keep (IsS104.apartQ (show IsS104 w0 _ g s0_0 x1001_1 from is104_ HI0.out) (by (with_reducible repeat (first | apply Kd.Q_alloc | apply Kd.Q_drewN | apply Kd.Q_drew)); exact HO_373000.out) (by decide)) hk (fun _ h => h.2)) (fun _ h => h.1)); replace HO_373001 := Aside0.mk (Kd.Q_mono (Kd.Q_keep (IsS104.apartQ (show IsS104 w0 _ g s0_0 x1001_1 from is104_ HI0.out) (by (with_reducible repeat (first | apply Kd.Q_alloc | apply Kd.Q_drewN | apply Kd.Q_drew)); exact HO_373001.out) (by decide)) hk (fun _ h => h.2)) (fun _ h => h.1)); replace BK371 := (bkA_ BK371 hk NB371_0); replace BK372 := (bkA_ BK372 hk NB372_0); replace HK := (kk_ HK hk); replace HB := Aside0.mk (hb); replace HI0 := Aside0.mk (hi); (try clear hb); (try clear hb2); (try clear hk); (try clear hi)))
     replace HO_373000 := Aside0.mk (Kd.Q_drew HO_373000.out); replace HO_373001 := Aside0.mk (Kd.Q_drew HO_373001.out); replace BK371 := Aside0.mk (blk_drew BK371.out); replace BK372 := Aside0.mk (blk_drew BK372.out); replace HI0 := Aside0.mk (IsS104.drew HI0.out); replace HK := Aside0.mk (keep_drew HK.out); replace HB := (bd_ HB)
     refine start_ (n := 12) (S := fun w' => w'.cell? ⟨gb372, 0, none⟩ = some (u373000) ∧ w'.cell? ⟨gb372, 1, none⟩ = some (u373001)) (ds := [11]) #[false, false, false, false, false, false, false, false, false, false, false, false] (by kernel_rfl) rfl rfl (cz2 BK372.out) (fun hHeld => ?_); refine with_tabW spec_l20Near.tab7 spec_l20Near.bits7 (fun HT_ HW_ => ?_)
     generalize w36.drew = w37 at HO_373000 HO_373001 BK371 BK372 HI0 HK HB hHeld ⊢
     refine pu_ (i := 1) (N := some 32) HT_ ?_; refine pu_ (i := 3) (N := some 34) HT_ ?_; refine pu_ (i := 5) (N := some 36) HT_ ?_; refine tk_ (i := 0) (N := some 31) HT_ HW_ hHeld ?_
     refine on_ (i := 2) (N := some 33) HT_ (fun K hK => ?_)
     refine goes_ Try.func58 (by kernel_rfl) rfl #[.pointer (some ⟨g, 0, none⟩), .int .i64 6] (by rfl) rfl rfl ar_ ?_
     with_reducible refine (spec_l20Rd_pick.calls k1 g s0_0 t376 6 t394 t395 w0 _ ?side1 ?side2 A32.out).mono ?_
     (case side1 => exact is104_ HI0.out)
     (case side2 => exact hb104_ HB.out)
     rintro e w38 ⟨rfl, hi, hb, hk⟩
     refine ⟨_, rfl, ?_⟩
     replace HO_373000 := Aside0.mk (Kd.Q_mono (Kd.Q_keep (IsS104.apartQ (show IsS104 w0 _ g s0_0 t376 from is104_ HI0.out) (by (with_reducible repeat (first | apply Kd.Q_alloc | apply Kd.Q_drewN | apply Kd.Q_drew)); exact HO_373000.out) (by decide)) hk (fun _ h => h.2)) (fun _ h => h.1)); replace HO_373001 := Aside0.mk (Kd.Q_mono (Kd.Q_keep (IsS104.apartQ (show IsS104 w0 _ g s0_0 t376 from is104_ HI0.out) (by (with_reducible repeat (first | apply Kd.Q_alloc | apply Kd.Q_drewN | apply Kd.Q_drew)); exact HO_373001.out) (by decide)) hk (fun _ h => h.2)) (fun _ h => h.1)); replace BK371 := (bkA_ BK371 hk NB371_0); replace BK372 := (bkA_ BK372 hk NB372_0); replace HK := (kk_ HK hk); replace HB := Aside0.mk (hb); replace HI0 := Aside0.mk (hi); (try clear hb); (try clear hb2); (try clear hk); (try clear hi)
     refine hK.out _ _ (cz2 BK372.out) (fun hHeld => ?_)
     clear hK K; refine nm_ 33 ?_
     refine on_ (i := 4) (N := some 35) HT_ (fun K hK => ?_)
     refine goes_ Try.func59 (by kernel_rfl) rfl #[.pointer (some ⟨g, 0, none⟩), .int .i64 0] (by rfl) rfl rfl ar_ ?_
     with_reducible refine (spec_l20Query.calls k1 g s0_0 t395 0 t396 t397 t398 t399 t400 w0 _ ?side1 ?side2 A33.out).mono ?_
     (case side1 => exact is104_ HI0.out)
     (case side2 => exact hb104_ HB.out)
     rintro e w39 ⟨rfl, hi, hb, hk⟩
     refine ⟨_, rfl, ?_⟩
     replace HO_373000 := Aside0.mk (Kd.Q_mono (Kd.Q_keep (IsS104.apartQ (show IsS104 w0 _ g s0_0 t395 from is104_ HI0.out) (by (with_reducible repeat (first | apply Kd.Q_alloc | apply Kd.Q_drewN | apply Kd.Q_drew)); exact HO_373000.out) (by decide)) hk (fun _ h => h.2)) (fun _ h => h.1)); replace HO_373001 := Aside0.mk (Kd.Q_mono (Kd.Q_keep (IsS104.apartQ (show IsS104 w0 _ g s0_0 t395 from is104_ HI0.out) (by (with_reducible repeat (first | apply Kd.Q_alloc | apply Kd.Q_drewN | apply Kd.Q_drew)); exact HO_373001.out) (by decide)) hk (fun _ h => h.2)) (fun _ h => h.1)); replace BK371 := (bkA_ BK371 hk NB371_0); replace BK372 := (bkA_ BK372 hk NB372_0); replace HK := (kk_ HK hk); replace HB := Aside0.mk (hb); replace HI0 := Aside0.mk (hi); (try clear hb); (try clear hb2); (try clear hk); (try clear hi)
     refine hK.out _ _ (cz2 BK372.out) (fun hHeld => ?_)
     clear hK K; refine nm_ 35 ?_
     refine on_ (i := 6) (N := some 37) HT_ (fun K hK => ?_)
     refine goes_ Try.func58 (by kernel_rfl) rfl #[.pointer (some ⟨g, 0, none⟩), .int .i64 30] (by rfl) rfl rfl ar_ ?_
     with_reducible refine (spec_l20Rd_pick.calls k1 g s0_0 t400 30 t401 t402 w0 _ ?side1 ?side2 A34.out).mono ?_
     (case side1 => exact is104_ HI0.out)
     (case side2 => exact hb104_ HB.out)
     rintro e w40 ⟨rfl, hi, hb, hk⟩
     refine ⟨_, rfl, ?_⟩
     replace HO_373000 := Aside0.mk (Kd.Q_mono (Kd.Q_keep (IsS104.apartQ (show IsS104 w0 _ g s0_0 t400 from is104_ HI0.out) (by (with_reducible repeat (first | apply Kd.Q_alloc | apply Kd.Q_drewN | apply Kd.Q_drew)); exact HO_373000.out) (by decide)) hk (fun _ h => h.2)) (fun _ h => h.1)); replace HO_373001 := Aside0.mk (Kd.Q_mono (Kd.Q_keep (IsS104.apartQ (show IsS104 w0 _ g s0_0 t400 from is104_ HI0.out) (by (with_reducible repeat (first | apply Kd.Q_alloc | apply Kd.Q_drewN | apply Kd.Q_drew)); exact HO_373001.out) (by decide)) hk (fun _ h => h.2)) (fun _ h => h.1)); replace BK371 := (bkA_ BK371 hk NB371_0); replace BK372 := (bkA_ BK372 hk NB372_0); replace HK := (kk_ HK hk); replace HB := Aside0.mk (hb); replace HI0 := Aside0.mk (hi); (try clear hb); (try clear hb2); (try clear hk); (try clear hi)
     obtain ⟨Ao41, co41, eo41, _⟩ := Kd.Q_slice HO_373000.out
     (first | subst eo41 | (injection eo41 with f1_ f2_ f3_; have f4_ := f1_.symm; have f5_ := f3_.symm; clear f1_ f2_ f3_; subst f4_; subst f5_))
     obtain ⟨Ao42, co42, eo42, _⟩ := Kd.Q_slice HO_373001.out
     (first | subst eo42 | (injection eo42 with f1_ f2_ f3_; have f4_ := f1_.symm; have f5_ := f3_.symm; clear f1_ f2_ f3_; subst f4_; subst f5_))
     refine hK.out _ _ (cz2 BK372.out) (fun hHeld => ?_)
     clear hK K; refine nm_ 37 ?_
     refine on_ (i := 7) (N := some 38) HT_ (fun K hK => ?_)
     refine goes_ Try.func7 (by kernel_rfl) rfl #[.agg #[.slice Ao41 x373000_1.length co41, .slice Ao42 x373001_1.length co42], .int .i64 t394, .agg #[.int .i64 t396, .int .i64 t397, .int .i64 t398, .int .i64 t399], .int .i64 t401] (by rfl) rfl rfl ar_ ?_
     with_reducible refine (spec_NearHear.calls k1 _ _ x373000_1 _ _ x373001_1 t394 t396 t397 t398 t399 t401 t403 t406 t409 _ ?side1 ?side2 ?side3 ?side4 A35.out).mono ?_
     (case side1 => exact kC_ (Kd.Q_reads' HO_373000.out).2.2)
     (case side2 => exact (Kd.Q_reads' HO_373000.out).2.1)
     (case side3 => exact kC_ (Kd.Q_reads' HO_373001.out).2.2)
     (case side4 => exact (Kd.Q_reads' HO_373001.out).2.1)
     rintro e w43 ⟨v404, v407, v410, rfl, ho0, ho1, ho2, hb⟩
     refine ⟨_, rfl, ?_⟩
     have HO405 := Aside0.mk (Kd.Q_lower (Kd.Q_new' ho0 (Kd.Q_lt (by (with_reducible repeat (first | apply Kd.Q_alloc | apply Kd.Q_drewN | apply Kd.Q_drew)); exact HO_373000.out))) (keep_size (w := w) (g := g) (row := none) (hkA_ HK.out))); replace HO_373000 := Aside0.mk (Kd.Q_elder' (by (with_reducible repeat (first | apply Kd.Q_alloc | apply Kd.Q_drewN | apply Kd.Q_drew)); exact HO_373000.out) (Kd.Q_base ho0) hb); have HO408 := Aside0.mk (Kd.S_lower (Kd.S_new' ho1 (Kd.Q_lt (by (with_reducible repeat (first | apply Kd.Q_alloc | apply Kd.Q_drewN | apply Kd.Q_drew)); exact HO_373001.out))) (keep_size (w := w) (g := g) (row := none) (hkA_ HK.out))); replace HO_373001 := Aside0.mk (Kd.Q_elder' (by (with_reducible repeat (first | apply Kd.Q_alloc | apply Kd.Q_drewN | apply Kd.Q_drew)); exact HO_373001.out) (Kd.S_base ho1) hb); have HO411 := Aside0.mk (Kd.S_lower ho2 (keep_size (w := w) (g := g) (row := none) (hkA_ HK.out))); replace BK371 := (bbA_ BK371 hb); replace BK372 := (bbA_ BK372 hb); replace HI0 := (ib104_ HI0 hb); replace HK := (kw_ HK hb); replace HB := (bs104_ HB hb); (try clear hb); (try clear hb2); (try clear hk)
     (try clear hi); (try clear ho0); (try clear ho1); (try clear ho2)
     obtain ⟨Ao44, co44, eo44, _⟩ := Kd.Q_slice HO405.out
     (first | subst eo44 | (injection eo44 with f1_ f2_ f3_; have f4_ := f1_.symm; have f5_ := f3_.symm; clear f1_ f2_ f3_; subst f4_; subst f5_))
     obtain ⟨Ao46, co46, eo46⟩ := Kd.S_slice HO408.out
     (first | subst eo46 | (injection eo46 with f1_ f2_ f3_; have f4_ := f1_.symm; have f5_ := f3_.symm; clear f1_ f2_ f3_; subst f4_; subst f5_))
     refine hK.out _ _ (cz2 BK372.out) (fun hHeld => ?_)
     clear hK K; refine nm_ 38 ?_; refine pu_ (i := 8) (N := some 30) HT_ ?_; refine pu_ (i := 9) (N := some 39) HT_ ?_; refine pu_ (i := 10) (N := some 40) HT_ ?_
     refine last_ (i := 11) (N := none) #[true, true, true, true, true, true, true, true, true, true, true, true] rfl rfl (one_of HT_.out (by kernel_rfl)) (by decide) (fun K hK => ?_)
     have hs45 : w43.cell? ⟨gb372, 0, none⟩ = some (.slice Ao41 x373000_1.length co41) := bc_ BK372 0
     have hfs45 := blk_frozen BK372.out 0
     have hns45_0 := NB371_372.out; have hms45_0 := NB372_371.out
     have hs47 : w43.cell? ⟨gb372, 1, none⟩ = some (.slice Ao42 x373001_1.length co42) := bc_ BK372 1
     have hfs47 := blk_frozen BK372.out 1
     have hns47_0 := NB371_372.out; have hms47_0 := NB372_371.out
     refine skip_ (w1 := ?_) (by rfl) rfl ?_ ?_
     rotate_left
     ·go_simp
      rfl
     refine hK.out _ _ ?_
     clear hK K
     refine done_ (done_of HT_.out (by kernel_rfl)) ?_
     try go_wp2
     go_roundg k1
     case measure => have := HK1.out; omega
     case rel => exact ⟨(wrap64 (x6_1 - 1)), (t402), (t403), (t406), (.slice Ao44 t403.length co44), (.slice Ao46 t406.length co46), (by first | rfl | (simp; done) | (simp [*]; done)), H', ⟨by have := HK1.out; omega⟩, ⟨by (with_reducible repeat (first | apply Kd.Q_alloc | apply Kd.Q_drewN | apply Kd.Q_drew)); exact Kd.Q_mono (Kd.Q_far (p := ⟨gb372, 1, none⟩) (Kd.Q_far (p := ⟨gb372, 0, none⟩) (Kd.Q_types HO405.out BK372.out (by decide)) (fun _ hk => hk.2) (.slice Ao44 t403.length co44)) (fun _ hk => hk.2) (.slice Ao46 t406.length co46)) (fun _ hk => trivial)⟩, ⟨Kd.Q_of_R ((Kd.S_R (by refine kS_ ?_; exact Kd.S_mono (Kd.S_far (p := ⟨gb372, 1, none⟩) (Kd.S_far (p := ⟨gb372, 0, none⟩) (Kd.S_types HO408.out BK372.out (by decide)) (fun _ hk => hk.2) (.slice Ao44 t403.length co44)) (fun _ hk => hk.2) (.slice Ao46 t406.length co46)) (fun _ hk => trivial))))⟩, ⟨by exact kf_ BK371.out⟩, ⟨by refine kb_ ?_; refine pz2 (cs := #[.slice Ao41 x373000_1.length co41, .slice Ao42 x373001_1.length co42]) ?_; refine kb_ ?_; exact BK372.out⟩, ⟨is104_ HI0.out⟩, ⟨hkA_ HK.out⟩, ⟨hb104_ HB.out⟩⟩
   ·rw [if_neg c10] at H
    have c10b0 : decide (0 < x6_1) = false := decide_eq_false c10
    clear c10
    replace H := Option.bind_eq_some_iff.mp H
    obtain ⟨⟨t412, t413⟩, A480, H⟩ := H
    (try dsimp only at H)
    have A48 := Aside0.mk A480; clear A480
    by_cases c49 : t412 = true
    ·subst c49
     rw [if_pos rfl] at H
     replace H := Option.bind_eq_some_iff.mp H
     obtain ⟨⟨t414, t415⟩, A500, H⟩ := H
     (try dsimp only at H)
     have A50 := Aside0.mk A500; clear A500
     by_cases c51 : t414 = 0
     ·rw [if_pos c51] at H
      have c51b0 : (t414 == 0) = true := beq_iff_eq.mpr c51
      have c51b1 : (t414 != 0) = false := bne_eq_false_iff_eq.mpr c51
      clear c51
      replace H := Option.bind_eq_some_iff.mp H
      obtain ⟨⟨t416, t417⟩, A520, H⟩ := H
      (try dsimp only at H)
      have A52 := Aside0.mk A520; clear A520
      replace H := Option.bind_eq_some_iff.mp H
      obtain ⟨⟨t418, t419⟩, A530, H⟩ := H
      (try dsimp only at H)
      have A53 := Aside0.mk A530; clear A530
      replace H := Option.bind_eq_some_iff.mp H
      obtain ⟨⟨t420, t421⟩, A540, H⟩ := H
      (try dsimp only at H)
      have A54 := Aside0.mk A540; clear A540
      by_cases c55 : x373000_1.length < 5864062014805
      ·rw [if_pos c55] at H
       have LMc55 := Aside0.mk c55; clear c55
       obtain ⟨y422, hy422⟩ : ∃ y_ : List (S63), y_ = (x373000_1 ++ [(⟨t416, t418, t420⟩ : S63)]) := ⟨_, rfl⟩
       (first | replace H := sb_ hy422 H | rw [← hy422] at H)
       have Ny422 := Aside0.mk hy422; clear hy422
       simp only [Option.some.injEq, Prod.mk.injEq] at H
       obtain ⟨rfl, rfl, rfl⟩ := H
       try go_wp2_with (first | ((with_reducible refine gate_callee (f := 78) rfl ?_); refine goesL_ (some 43) rfl rfl Try.func78 (by kernel_rfl) rfl #[.pointer (some ⟨g, 0, none⟩), .int .i64 a1] rfl ar_ ?_; (with_reducible refine (spec_l20Rd_odd.calls k1 g s0_0 x1001_1 a1 true t413 w0 _ ?side1 ?side2 A48.out).mono ?_); (case side1 => exact is104_ HI0.out); (case side2 => exact hb104_ HB.out); rintro e w56 ⟨rfl, hi, hb, hk⟩; refine ⟨_, rfl, ?_⟩; replace HO_373000 := Aside0.mk (Kd.Q_mono (Kd.Q_keep (IsS104.apartQ (show IsS104 w0 _ g s0_0 x1001_1 from is104_ HI0.out) (by (with_reducible repeat (first | apply Kd.Q_alloc | apply Kd.Q_drewN | apply Kd.Q_drew)); exact HO_373000.out) (by decide)) hk (fun _ h => h.2)) (fun _ h => h.1)); replace HO_373001 := Aside0.mk (Kd.Q_mono (Kd.Q_keep (IsS104.apartQ (show IsS104 w0 _ g s0_0 x1001_1 from is104_ HI0.out) (by (with_reducible repeat (first | apply Kd.Q_alloc | apply Kd.Q_drewN | apply Kd.Q_drew)); exact HO_373001.out) (by decide)) hk (fun _ h => h.2)) (fun _ h => h.1)); replace BK371 := (bkA_ BK371 hk NB371_0); replace BK372 := (bkA_ BK372 hk NB372_0); replace HK := (kk_ HK hk); replace HB := Aside0.mk (hb); replace HI0 := Aside0.mk (hi); (try clear hb); (try clear hb2); (try clear hk); (try clear hi)) | ((with_reducible refine gate_callee (f := 58) rfl ?_); refine goesL_ (some 45) rfl rfl Try.func58 (by kernel_rfl) rfl #[.pointer (some ⟨g, 0, none⟩), .int .i64 3] rfl ar_ ?_; (with_reducible refine (spec_l20Rd_pick.calls k1 g s0_0 t413 3 t414 t415 w0 _ ?side1 ?side2 A50.out).mono ?_); (case side1 => exact is104_ HI0.out); (case side2 => exact hb104_ HB.out); rintro e w57 ⟨rfl, hi, hb, hk⟩; refine ⟨_, rfl, ?_⟩; replace HO_373000 := Aside0.mk (Kd.Q_mono (Kd.Q_keep (IsS104.apartQ (show IsS104 w0 _ g s0_0 t413 from is104_ HI0.out) (by (with_reducible repeat (first | apply Kd.Q_alloc | apply Kd.Q_drewN | apply Kd.Q_drew)); exact HO_373000.out) (by decide)) hk (fun _ h => h.2)) (fun _ h => h.1)); replace HO_373001 := Aside0.mk (Kd.Q_mono (Kd.Q_keep (IsS104.apartQ (show IsS104 w0 _ g s0_0 t413 from is104_ HI0.out) (by (with_reducible repeat (first | apply Kd.Q_alloc | apply Kd.Q_drewN | apply Kd.Q_drew)); exact HO_373001.out) (by decide)) hk (fun _ h => h.2)) (fun _ h => h.1)); replace BK371 := (bkA_ BK371 hk NB371_0); replace BK372 := (bkA_ BK372 hk NB372_0); replace HK := (kk_ HK hk); replace HB := Aside0.mk (hb); replace HI0 := Aside0.mk (hi); (try clear hb); (try clear hb2); (try clear hk); (try clear hi)))
       replace HO_373000 := Aside0.mk (Kd.Q_drew HO_373000.out); replace HO_373001 := Aside0.mk (Kd.Q_drew HO_373001.out); replace BK371 := Aside0.mk (blk_drew BK371.out); replace BK372 := Aside0.mk (blk_drew BK372.out); replace HI0 := Aside0.mk (IsS104.drew HI0.out); replace HK := Aside0.mk (keep_drew HK.out); replace HB := (bd_ HB)
       refine start_ (n := 13) (S := fun w' => w'.cell? ⟨gb372, 0, none⟩ = some (u373000) ∧ w'.cell? ⟨gb372, 1, none⟩ = some (u373001)) (ds := [12]) #[false, false, false, false, false, false, false, false, false, false, false, false, false] (by kernel_rfl) rfl rfl (cz2 BK372.out) (fun hHeld => ?_); refine with_tabW spec_l20Near.tab12 spec_l20Near.bits12 (fun HT_ HW_ => ?_)
       generalize w57.drew = w58 at HO_373000 HO_373001 BK371 BK372 HI0 HK HB hHeld ⊢
       refine pu_ (i := 0) (N := some 54) HT_ ?_; refine pu_ (i := 2) (N := some 56) HT_ ?_; refine pu_ (i := 4) (N := some 58) HT_ ?_; refine pu_ (i := 6) (N := some 60) HT_ ?_; refine tk_ (i := 1) (N := some 55) HT_ HW_ hHeld ?_
       refine on_ (i := 3) (N := some 57) HT_ (fun K hK => ?_)
       refine goes_ Try.func58 (by kernel_rfl) rfl #[.pointer (some ⟨g, 0, none⟩), .int .i64 6] (by rfl) rfl rfl ar_ ?_
       with_reducible refine (spec_l20Rd_pick.calls k1 g s0_0 t415 6 t416 t417 w0 _ ?side1 ?side2 A52.out).mono ?_
       (case side1 => exact is104_ HI0.out)
       (case side2 => exact hb104_ HB.out)
       rintro e w59 ⟨rfl, hi, hb, hk⟩
       refine ⟨_, rfl, ?_⟩
       replace HO_373000 := Aside0.mk (Kd.Q_mono (Kd.Q_keep (IsS104.apartQ (show IsS104 w0 _ g s0_0 t415 from is104_ HI0.out) (by (with_reducible repeat (first | apply Kd.Q_alloc | apply Kd.Q_drewN | apply Kd.Q_drew)); exact HO_373000.out) (by decide)) hk (fun _ h => h.2)) (fun _ h => h.1)); replace HO_373001 := Aside0.mk (Kd.Q_mono (Kd.Q_keep (IsS104.apartQ (show IsS104 w0 _ g s0_0 t415 from is104_ HI0.out) (by (with_reducible repeat (first | apply Kd.Q_alloc | apply Kd.Q_drewN | apply Kd.Q_drew)); exact HO_373001.out) (by decide)) hk (fun _ h => h.2)) (fun _ h => h.1)); replace BK371 := (bkA_ BK371 hk NB371_0); replace BK372 := (bkA_ BK372 hk NB372_0); replace HK := (kk_ HK hk); replace HB := Aside0.mk (hb); replace HI0 := Aside0.mk (hi); (try clear hb); (try clear hb2); (try clear hk); (try clear hi)
       refine hK.out _ _ (cz2 BK372.out) (fun hHeld => ?_)
       clear hK K; refine nm_ 57 ?_
       refine on_ (i := 5) (N := some 59) HT_ (fun K hK => ?_)
       refine goes_ Try.func58 (by kernel_rfl) rfl #[.pointer (some ⟨g, 0, none⟩), .int .i64 300] (by rfl) rfl rfl ar_ ?_
       with_reducible refine (spec_l20Rd_pick.calls k1 g s0_0 t417 300 t418 t419 w0 _ ?side1 ?side2 A53.out).mono ?_
       (case side1 => exact is104_ HI0.out)
       (case side2 => exact hb104_ HB.out)
       rintro e w60 ⟨rfl, hi, hb, hk⟩
       refine ⟨_, rfl, ?_⟩
       replace HO_373000 := Aside0.mk (Kd.Q_mono (Kd.Q_keep (IsS104.apartQ (show IsS104 w0 _ g s0_0 t417 from is104_ HI0.out) (by (with_reducible repeat (first | apply Kd.Q_alloc | apply Kd.Q_drewN | apply Kd.Q_drew)); exact HO_373000.out) (by decide)) hk (fun _ h => h.2)) (fun _ h => h.1)); replace HO_373001 := Aside0.mk (Kd.Q_mono (Kd.Q_keep (IsS104.apartQ (show IsS104 w0 _ g s0_0 t417 from is104_ HI0.out) (by (with_reducible repeat (first | apply Kd.Q_alloc | apply Kd.Q_drewN | apply Kd.Q_drew)); exact HO_373001.out) (by decide)) hk (fun _ h => h.2)) (fun _ h => h.1)); replace BK371 := (bkA_ BK371 hk NB371_0); replace BK372 := (bkA_ BK372 hk NB372_0); replace HK := (kk_ HK hk); replace HB := Aside0.mk (hb); replace HI0 := Aside0.mk (hi); (try clear hb); (try clear hb2); (try clear hk); (try clear hi)
       refine hK.out _ _ (cz2 BK372.out) (fun hHeld => ?_)
       clear hK K; refine nm_ 59 ?_
       refine on_ (i := 7) (N := some 61) HT_ (fun K hK => ?_)
       refine goes_ Try.func58 (by kernel_rfl) rfl #[.pointer (some ⟨g, 0, none⟩), .int .i64 9] (by rfl) rfl rfl ar_ ?_
       with_reducible refine (spec_l20Rd_pick.calls k1 g s0_0 t419 9 t420 t421 w0 _ ?side1 ?side2 A54.out).mono ?_
       (case side1 => exact is104_ HI0.out)
       (case side2 => exact hb104_ HB.out)
       rintro e w61 ⟨rfl, hi, hb, hk⟩
       refine ⟨_, rfl, ?_⟩
       replace HO_373000 := Aside0.mk (Kd.Q_mono (Kd.Q_keep (IsS104.apartQ (show IsS104 w0 _ g s0_0 t419 from is104_ HI0.out) (by (with_reducible repeat (first | apply Kd.Q_alloc | apply Kd.Q_drewN | apply Kd.Q_drew)); exact HO_373000.out) (by decide)) hk (fun _ h => h.2)) (fun _ h => h.1)); replace HO_373001 := Aside0.mk (Kd.Q_mono (Kd.Q_keep (IsS104.apartQ (show IsS104 w0 _ g s0_0 t419 from is104_ HI0.out) (by (with_reducible repeat (first | apply Kd.Q_alloc | apply Kd.Q_drewN | apply Kd.Q_drew)); exact HO_373001.out) (by decide)) hk (fun _ h => h.2)) (fun _ h => h.1)); replace BK371 := (bkA_ BK371 hk NB371_0); replace BK372 := (bkA_ BK372 hk NB372_0); replace HK := (kk_ HK hk); replace HB := Aside0.mk (hb); replace HI0 := Aside0.mk (hi); (try clear hb); (try clear hb2); (try clear hk); (try clear hi)
       refine hK.out _ _ (cz2 BK372.out) (fun hHeld => ?_)
       clear hK K; refine nm_ 61 ?_; refine pu_ (i := 8) (N := some 62) HT_ ?_
       refine on_ (i := 9) (N := some 63) HT_ (fun K hK => ?_)
       refine value_ (w1 := ?_) (v := ?_) (by rfl) rfl ?_ ?_
       rotate_left 2
       ·go_simp
        constructor
        ·rfl
        ·rfl
       refine hK.out _ _ ⟨(blk_cell (blk_alloc BK372.out _) 0).trans rfl, (blk_cell (blk_alloc BK372.out _) 1).trans rfl⟩ (fun hHeld => ?_)
       clear hK K; refine nm_ 63 ?_
       refine on_ (i := 10) (N := some 64) HT_ (fun K hK => ?_)
       refine Kd.Q_append_step k63 w.heap.size (by rfl) (.tmp 55) (.tmp 63) 29 63 (.agg #[(.int .i64 0), (.int .i64 0), (.int .i64 0)]) 24 rfl Try.underlying29 info63 rfl (by decide) (by omega) u373000 x373000_1 (⟨t416, t418, t420⟩ : S63) [.int .i64 t416, .int .i64 t418, .int .i64 t420] (fun _ => True) (fun _ => False) rfl rfl ?aP (fun _ hk => hk.elim) ?aF ?aO (Below.refl _ _) ?aS ?aL ?_
       (case aP => exact k63_mkM _ _ _ (⟨t416, t418, t420⟩ : S63))
       (case aF => exact (fun _ _ => trivial))
       (case aO => exact (by (with_reducible repeat (first | apply Kd.Q_alloc | apply Kd.Q_drewN | apply Kd.Q_drew)); exact HO_373000.out))
       (case aS => exact (keep_size (w := w) (g := g) (row := none) (hkA_ HK.out)))
       (case aL => have := LMc55.out; omega)
       intro v423 w62 ho hb hg hat
       rw [← Ny422.out] at ho
       have n0_ := Aside0.mk (Kd.Q_over' (by (with_reducible repeat (first | apply Kd.Q_alloc | apply Kd.Q_drewN | apply Kd.Q_drew)); exact HO_373001.out) (Kd.Q_typed (by (with_reducible repeat (first | apply Kd.Q_alloc | apply Kd.Q_drewN | apply Kd.Q_drew)); exact HO_373000.out)) (by decide) hg); have n1_ := (bgA_ BK371 hg (Kd.Q_ne HO_373000.out BK371.out (by decide))); have n2_ := (bgA_ BK372 hg (Kd.Q_ne HO_373000.out BK372.out (by decide))); have n3_ := Aside0.mk (IsS104.grown (is104_ HI0.out) hg (IsS104.own_neQ HI0.out HO_373000.out (by decide))); have n4_ := Aside0.mk (below_weaken (hb104_ HB.out) HL.out hb); have n5_ := Aside0.mk (KeepBut.trans (hkA_ HK.out) (KeepBut.of_grown hg g) (Kd.Q_base2 HO_373000.out)); have n6_ := Aside0.mk (ho); clear HO_373001 BK371 BK372 HI0 HB HK HO_373000; have HO_373001 := n0_; have BK371 := n1_; have BK372 := n2_; have HI0 := n3_; have HB := n4_; have HK := n5_; have HO424 := n6_; clear n0_ n1_ n2_ n3_ n4_ n5_ n6_ ho hb hg hat
       obtain ⟨Ao63, co63, eo63, _⟩ := Kd.Q_slice HO424.out
       (first | subst eo63 | (injection eo63 with f1_ f2_ f3_; have f4_ := f1_.symm; have f5_ := f3_.symm; clear f1_ f2_ f3_; subst f4_; subst f5_))
       refine hK.out _ _ (cz2 BK372.out) (fun hHeld => ?_)
       clear hK K; refine nm_ 64 ?_; refine pu_ (i := 11) (N := some 65) HT_ ?_
       refine last_ (i := 12) (N := none) #[true, true, true, true, true, true, true, true, true, true, true, true, true] rfl rfl (one_of HT_.out (by kernel_rfl)) (by decide) (fun K hK => ?_)
       have hs64 : w62.cell? ⟨gb372, 0, none⟩ = some (u373000) := bc_ BK372 0
       have hfs64 := blk_frozen BK372.out 0
       have hns64_0 := NB371_372.out; have hms64_0 := NB372_371.out
       refine skip_ (w1 := ?_) (by rfl) rfl ?_ ?_
       rotate_left
       ·go_simp
        rfl
       refine hK.out _ _ ?_
       clear hK K
       refine done_ (done_of HT_.out (by kernel_rfl)) ?_
       have hnb65 := NB372_371.out; have hnc65 := NB371_372.out; have hnb66 := NB372_0.out; have hnc66 := NB0_372.out; have Z67 := zz2 BK372; have hnb68 := NB371_0.out; have hnc68 := NB0_371.out; have Z69 := zz2 BK371
       obtain ⟨Ao70, co70, eo70, _⟩ := Kd.Q_slice HO_373001.out
       subst eo70
       try go_wp2
       refine bodyPost_ret (results_cell_row rfl _ _ gb371 32 #[.slice Ao63 y422.length co63, .slice Ao70 x373001_1.length co70] (0, 0) _ rfl (by refine kb_ ?_; refine pz2 (cs := #[.slice none 0 0, .slice none 0 0]) ?_; exact kf_ BK371.out) Try.underlying32 rfl (by kernel_rfl)) rfl ?_
       exact ⟨_, _, by first | rfl | (simp [errW_none, errW_some] <;> rfl) | (simp [*, errW_none, errW_some] <;> rfl), by (with_reducible repeat (first | apply Kd.Q_alloc | apply Kd.Q_drewN | apply Kd.Q_drew)); exact Kd.Q_mono (Kd.Q_far (p := ⟨gb371, 1, none⟩) (Kd.Q_far (p := ⟨gb371, 0, none⟩) (Kd.Q_far (p := ⟨gb372, 0, none⟩) (Kd.Q_types (Kd.Q_types HO424.out BK372.out (by decide)) BK371.out (by decide)) (fun _ hk => hk.1.2) (.slice Ao63 y422.length co63)) (fun _ hk => hk.2) (.slice Ao63 y422.length co63)) (fun _ hk => hk.2) (.slice Ao70 x373001_1.length co70)) (fun _ hk => trivial), by (with_reducible repeat (first | apply Kd.Q_alloc | apply Kd.Q_drewN | apply Kd.Q_drew)); exact Kd.Q_mono (Kd.Q_far (p := ⟨gb371, 1, none⟩) (Kd.Q_far (p := ⟨gb371, 0, none⟩) (Kd.Q_far (p := ⟨gb372, 0, none⟩) (Kd.Q_types (Kd.Q_types HO_373001.out BK372.out (by decide)) BK371.out (by decide)) (fun _ hk => hk.1.2) (.slice Ao63 y422.length co63)) (fun _ hk => hk.2) (.slice Ao63 y422.length co63)) (fun _ hk => hk.2) (.slice Ao70 x373001_1.length co70)) (fun _ hk => trivial), is104_ HI0.out, hb104_ HB.out, hkA_ HK.out⟩
      ·rw [if_neg c55] at H
       exact absurd H (by simp)
     ·rw [if_neg c51] at H
      have c51b0 : (t414 == 0) = false := beq_eq_false_iff_ne.mpr c51
      have c51b1 : (t414 != 0) = true := bne_iff_ne.mpr c51
      by_cases c71 : t414 = 1
      ·rw [if_pos c71] at H
       have c71b0 : (t414 == 1) = true := beq_iff_eq.mpr c71
       have c71b1 : (t414 != 1) = false := bne_eq_false_iff_eq.mpr c71
       clear c71
       replace H := Option.bind_eq_some_iff.mp H
       obtain ⟨⟨t425, t426⟩, A720, H⟩ := H
       (try dsimp only at H)
       have A72 := Aside0.mk A720; clear A720
       by_cases c73 : x373001_1.length + 1 < 4398046511104
       ·rw [if_pos c73] at H
        have LMc73 := Aside0.mk c73; clear c73
        obtain ⟨y427, hy427⟩ : ∃ y_ : List (S65), y_ = (x373001_1 ++ [(⟨t425, ([] : List Int)⟩ : S65), (⟨65536, ([] : List Int)⟩ : S65)]) := ⟨_, rfl⟩
        (first | replace H := sb_ hy427 H | rw [← hy427] at H)
        have Ny427 := Aside0.mk hy427; clear hy427
        simp only [Option.some.injEq, Prod.mk.injEq] at H
        obtain ⟨rfl, rfl, rfl⟩ := H
        try go_wp2_with (first | ((with_reducible refine gate_callee (f := 78) rfl ?_); refine goesL_ (some 43) rfl rfl Try.func78 (by kernel_rfl) rfl #[.pointer (some ⟨g, 0, none⟩), .int .i64 a1] rfl ar_ ?_; (with_reducible refine (spec_l20Rd_odd.calls k1 g s0_0 x1001_1 a1 true t413 w0 _ ?side1 ?side2 A48.out).mono ?_); (case side1 => exact is104_ HI0.out); (case side2 => exact hb104_ HB.out); rintro e w74 ⟨rfl, hi, hb, hk⟩; refine ⟨_, rfl, ?_⟩; replace HO_373000 := Aside0.mk (Kd.Q_mono (Kd.Q_keep (IsS104.apartQ (show IsS104 w0 _ g s0_0 x1001_1 from is104_ HI0.out) (by (with_reducible repeat (first | apply Kd.Q_alloc | apply Kd.Q_drewN | apply Kd.Q_drew)); exact HO_373000.out) (by decide)) hk (fun _ h => h.2)) (fun _ h => h.1)); replace HO_373001 := Aside0.mk (Kd.Q_mono (Kd.Q_keep (IsS104.apartQ (show IsS104 w0 _ g s0_0 x1001_1 from is104_ HI0.out) (by (with_reducible repeat (first | apply Kd.Q_alloc | apply Kd.Q_drewN | apply Kd.Q_drew)); exact HO_373001.out) (by decide)) hk (fun _ h => h.2)) (fun _ h => h.1)); replace BK371 := (bkA_ BK371 hk NB371_0); replace BK372 := (bkA_ BK372 hk NB372_0); replace HK := (kk_ HK hk); replace HB := Aside0.mk (hb); replace HI0 := Aside0.mk (hi); (try clear hb); (try clear hb2); (try clear hk); (try clear hi)) | ((with_reducible refine gate_callee (f := 58) rfl ?_); refine goesL_ (some 45) rfl rfl Try.func58 (by kernel_rfl) rfl #[.pointer (some ⟨g, 0, none⟩), .int .i64 3] rfl ar_ ?_; (with_reducible refine (spec_l20Rd_pick.calls k1 g s0_0 t413 3 t414 t415 w0 _ ?side1 ?side2 A50.out).mono ?_); (case side1 => exact is104_ HI0.out); (case side2 => exact hb104_ HB.out); rintro e w75 ⟨rfl, hi, hb, hk⟩; refine ⟨_, rfl, ?_⟩; replace HO_373000 := Aside0.mk (Kd.Q_mono (Kd.Q_keep (IsS104.apartQ (show IsS104 w0 _ g s0_0 t413 from is104_ HI0.out) (by (with_reducible repeat (first | apply Kd.Q_alloc | apply Kd.Q_drewN | apply Kd.Q_drew)); exact HO_373000.out) (by decide)) hk (fun _ h => h.2)) (fun _ h => h.1)); replace HO_373001 := Aside0.mk (Kd.Q_mono (Kd.Q_keep (IsS104.apartQ (show IsS104 w0 _ g s0_0 t413 from is104_ HI0.out) (by (with_reducible repeat (first | apply Kd.Q_alloc | apply Kd.Q_drewN | apply Kd.Q_drew)); exact HO_373001.out) (by decide)) hk (fun _ h => h.2)) (fun _ h => h.1)); replace BK371 := (bkA_ BK371 hk NB371_0); replace BK372 := (bkA_ BK372 hk NB372_0); replace HK := (kk_ HK hk); replace HB := Aside0.mk (hb); replace HI0 := Aside0.mk (hi); (try clear hb); (try clear hb2); (try clear hk); (try clear hi)))
        replace HO_373000 := Aside0.mk (Kd.Q_drew HO_373000.out); replace HO_373001 := Aside0.mk (Kd.Q_drew HO_373001.out); replace BK371 := Aside0.mk (blk_drew BK371.out); replace BK372 := Aside0.mk (blk_drew BK372.out); replace HI0 := Aside0.mk (IsS104.drew HI0.out); replace HK := Aside0.mk (keep_drew HK.out); replace HB := (bd_ HB)
        refine start_ (n := 10) (S := fun w' => w'.cell? ⟨gb372, 0, none⟩ = some (u373000) ∧ w'.cell? ⟨gb372, 1, none⟩ = some (u373001)) (ds := [9]) #[false, false, false, false, false, false, false, false, false, false] (by kernel_rfl) rfl rfl (cz2 BK372.out) (fun hHeld => ?_); refine with_tabW spec_l20Near.tab14 spec_l20Near.bits14 (fun HT_ HW_ => ?_)
        generalize w75.drew = w76 at HO_373000 HO_373001 BK371 BK372 HI0 HK HB hHeld ⊢
        refine pu_ (i := 0) (N := some 68) HT_ ?_; refine pu_ (i := 2) (N := some 70) HT_ ?_; refine pu_ (i := 5) (N := some 73) HT_ ?_; refine tk_ (i := 1) (N := some 69) HT_ HW_ hHeld ?_
        refine on_ (i := 3) (N := some 71) HT_ (fun K hK => ?_)
        refine goes_ Try.func58 (by kernel_rfl) rfl #[.pointer (some ⟨g, 0, none⟩), .int .i64 6] (by rfl) rfl rfl ar_ ?_
        with_reducible refine (spec_l20Rd_pick.calls k1 g s0_0 t415 6 t425 t426 w0 _ ?side1 ?side2 A72.out).mono ?_
        (case side1 => exact is104_ HI0.out)
        (case side2 => exact hb104_ HB.out)
        rintro e w77 ⟨rfl, hi, hb, hk⟩
        refine ⟨_, rfl, ?_⟩
        replace HO_373000 := Aside0.mk (Kd.Q_mono (Kd.Q_keep (IsS104.apartQ (show IsS104 w0 _ g s0_0 t415 from is104_ HI0.out) (by (with_reducible repeat (first | apply Kd.Q_alloc | apply Kd.Q_drewN | apply Kd.Q_drew)); exact HO_373000.out) (by decide)) hk (fun _ h => h.2)) (fun _ h => h.1)); replace HO_373001 := Aside0.mk (Kd.Q_mono (Kd.Q_keep (IsS104.apartQ (show IsS104 w0 _ g s0_0 t415 from is104_ HI0.out) (by (with_reducible repeat (first | apply Kd.Q_alloc | apply Kd.Q_drewN | apply Kd.Q_drew)); exact HO_373001.out) (by decide)) hk (fun _ h => h.2)) (fun _ h => h.1)); replace BK371 := (bkA_ BK371 hk NB371_0); replace BK372 := (bkA_ BK372 hk NB372_0); replace HK := (kk_ HK hk); replace HB := Aside0.mk (hb); replace HI0 := Aside0.mk (hi); (try clear hb); (try clear hb2); (try clear hk); (try clear hi)
        refine hK.out _ _ (cz2 BK372.out) (fun hHeld => ?_)
        clear hK K; refine nm_ 71 ?_; refine pu_ (i := 4) (N := some 72) HT_ ?_
        refine on_ (i := 6) (N := some 74) HT_ (fun K hK => ?_)
        refine value_ (w1 := ?_) (v := ?_) (by rfl) rfl ?_ ?_
        rotate_left 2
        ·go_simp
         constructor
         ·rfl
         ·rfl
        refine hK.out _ _ ⟨(blk_cell (blk_alloc BK372.out _) 0).trans rfl, (blk_cell (blk_alloc BK372.out _) 1).trans rfl⟩ (fun hHeld => ?_)
        clear hK K; refine nm_ 74 ?_
        refine on_ (i := 7) (N := some 75) HT_ (fun K hK => ?_)
        refine Q_append2s_ k65 w.heap.size (by rfl) (.tmp 69) (.tmp 74) 30 65 (.agg #[(.int .i64 0), (.slice none 0 0)]) 32 rfl Try.underlying30 info65 rfl (by decide) (by omega) u373001 x373001_1 (⟨t425, ([] : List Int)⟩ : S65) (⟨65536, ([] : List Int)⟩ : S65) [.int .i64 t425, .slice none 0 0] [.int .i64 65536, .slice none 0 0] [.int .i64 t425, .slice none 0 0, .int .i64 65536, .slice none 0 0] rfl (fun _ => True) rfl rfl ?aP ?aP2 ?aF ?aO (Below.refl _ _) ?aS ?aL ?_
        (case aP => exact k65_mkM _ _ _ (⟨t425, ([] : List Int)⟩ : S65) (Kd.R_nil _ _ _ _ _))
        (case aP2 => exact k65_mkM _ _ _ (⟨65536, ([] : List Int)⟩ : S65) (Kd.R_nil _ _ _ _ _))
        (case aF => exact (fun _ _ => trivial))
        (case aO => exact (by (with_reducible repeat (first | apply Kd.Q_alloc | apply Kd.Q_drewN | apply Kd.Q_drew)); exact HO_373001.out))
        (case aS => exact (keep_size (w := w) (g := g) (row := none) (hkA_ HK.out)))
        (case aL => have := LMc73.out; omega)
        intro v428 w78 ho hb hg hat
        rw [← Ny427.out] at ho
        have n0_ := Aside0.mk (Kd.Q_over' (by (with_reducible repeat (first | apply Kd.Q_alloc | apply Kd.Q_drewN | apply Kd.Q_drew)); exact HO_373000.out) (Kd.Q_typed (by (with_reducible repeat (first | apply Kd.Q_alloc | apply Kd.Q_drewN | apply Kd.Q_drew)); exact HO_373001.out)) (by decide) hg); have n1_ := (bgA_ BK371 hg (Kd.Q_ne HO_373001.out BK371.out (by decide))); have n2_ := (bgA_ BK372 hg (Kd.Q_ne HO_373001.out BK372.out (by decide))); have n3_ := Aside0.mk (IsS104.grown (is104_ HI0.out) hg (IsS104.own_neQ HI0.out HO_373001.out (by decide))); have n4_ := Aside0.mk (below_weaken (hb104_ HB.out) HL.out hb); have n5_ := Aside0.mk (KeepBut.trans (hkA_ HK.out) (KeepBut.of_grown hg g) (Kd.Q_base2 HO_373001.out)); have n6_ := Aside0.mk (ho); clear HO_373000 BK371 BK372 HI0 HB HK HO_373001; have HO_373000 := n0_; have BK371 := n1_; have BK372 := n2_; have HI0 := n3_; have HB := n4_; have HK := n5_; have HO429 := n6_; clear n0_ n1_ n2_ n3_ n4_ n5_ n6_ ho hb hg hat
        obtain ⟨Ao79, co79, eo79, _⟩ := Kd.Q_slice HO429.out
        (first | subst eo79 | (injection eo79 with f1_ f2_ f3_; have f4_ := f1_.symm; have f5_ := f3_.symm; clear f1_ f2_ f3_; subst f4_; subst f5_))
        refine hK.out _ _ (cz2 BK372.out) (fun hHeld => ?_)
        clear hK K; refine nm_ 75 ?_; refine pu_ (i := 8) (N := some 76) HT_ ?_
        refine last_ (i := 9) (N := none) #[true, true, true, true, true, true, true, true, true, true] rfl rfl (one_of HT_.out (by kernel_rfl)) (by decide) (fun K hK => ?_)
        have hs80 : w78.cell? ⟨gb372, 1, none⟩ = some (u373001) := bc_ BK372 1
        have hfs80 := blk_frozen BK372.out 1
        have hns80_0 := NB371_372.out; have hms80_0 := NB372_371.out
        refine skip_ (w1 := ?_) (by rfl) rfl ?_ ?_
        rotate_left
        ·go_simp
         rfl
        refine hK.out _ _ ?_
        clear hK K
        refine done_ (done_of HT_.out (by kernel_rfl)) ?_
        have hnb81 := NB372_371.out; have hnc81 := NB371_372.out; have hnb82 := NB372_0.out; have hnc82 := NB0_372.out; have Z83 := zz2 BK372
        obtain ⟨Ao84, co84, eo84, _⟩ := Kd.Q_slice HO_373000.out
        subst eo84; have hnb85 := NB371_0.out; have hnc85 := NB0_371.out; have Z86 := zz2 BK371
        try go_wp2
        refine bodyPost_ret (results_cell_row rfl _ _ gb371 32 #[.slice Ao84 x373000_1.length co84, .slice Ao79 y427.length co79] (0, 0) _ rfl (by refine kb_ ?_; refine pz2 (cs := #[.slice none 0 0, .slice none 0 0]) ?_; exact kf_ BK371.out) Try.underlying32 rfl (by kernel_rfl)) rfl ?_
        exact ⟨_, _, by first | rfl | (simp [errW_none, errW_some] <;> rfl) | (simp [*, errW_none, errW_some] <;> rfl), by (with_reducible repeat (first | apply Kd.Q_alloc | apply Kd.Q_drewN | apply Kd.Q_drew)); exact Kd.Q_mono (Kd.Q_far (p := ⟨gb371, 1, none⟩) (Kd.Q_far (p := ⟨gb371, 0, none⟩) (Kd.Q_far (p := ⟨gb372, 1, none⟩) (Kd.Q_types (Kd.Q_types HO_373000.out BK372.out (by decide)) BK371.out (by decide)) (fun _ hk => hk.1.2) (.slice Ao79 y427.length co79)) (fun _ hk => hk.2) (.slice Ao84 x373000_1.length co84)) (fun _ hk => hk.2) (.slice Ao79 y427.length co79)) (fun _ hk => trivial), by (with_reducible repeat (first | apply Kd.Q_alloc | apply Kd.Q_drewN | apply Kd.Q_drew)); exact Kd.Q_mono (Kd.Q_far (p := ⟨gb371, 1, none⟩) (Kd.Q_far (p := ⟨gb371, 0, none⟩) (Kd.Q_far (p := ⟨gb372, 1, none⟩) (Kd.Q_types (Kd.Q_types HO429.out BK372.out (by decide)) BK371.out (by decide)) (fun _ hk => hk.1.2) (.slice Ao79 y427.length co79)) (fun _ hk => hk.2) (.slice Ao84 x373000_1.length co84)) (fun _ hk => hk.2) (.slice Ao79 y427.length co79)) (fun _ hk => trivial), is104_ HI0.out, hb104_ HB.out, hkA_ HK.out⟩
       ·rw [if_neg c73] at H
        exact absurd H (by simp)
      ·rw [if_neg c71] at H
       have c71b0 : (t414 == 1) = false := beq_eq_false_iff_ne.mpr c71
       have c71b1 : (t414 != 1) = true := bne_iff_ne.mpr c71
       by_cases c87 : x373000_1.length + x373000_1.length < 5864062014805
       ·rw [if_pos c87] at H
        have LMc87 := Aside0.mk c87; clear c87
        obtain ⟨y430, hy430⟩ : ∃ y_ : List (S63), y_ = (x373000_1 ++ x373000_1) := ⟨_, rfl⟩
        (first | replace H := sb_ hy430 H | rw [← hy430] at H)
        have Ny430 := Aside0.mk hy430; clear hy430
        simp only [Option.some.injEq, Prod.mk.injEq] at H
        obtain ⟨rfl, rfl, rfl⟩ := H
        go_wp2_with (first | ((with_reducible refine gate_callee (f := 78) rfl ?_); refine goesL_ (some 43) rfl rfl Try.func78 (by kernel_rfl) rfl #[.pointer (some ⟨g, 0, none⟩), .int .i64 a1] rfl ar_ ?_; (with_reducible refine (spec_l20Rd_odd.calls k1 g s0_0 x1001_1 a1 true t413 w0 _ ?side1 ?side2 A48.out).mono ?_); (case side1 => exact is104_ HI0.out); (case side2 => exact hb104_ HB.out); rintro e w88 ⟨rfl, hi, hb, hk⟩; refine ⟨_, rfl, ?_⟩; replace HO_373000 := Aside0.mk (Kd.Q_mono (Kd.Q_keep (IsS104.apartQ (show IsS104 w0 _ g s0_0 x1001_1 from is104_ HI0.out) (by (with_reducible repeat (first | apply Kd.Q_alloc | apply Kd.Q_drewN | apply Kd.Q_drew)); exact HO_373000.out) (by decide)) hk (fun _ h => h.2)) (fun _ h => h.1)); replace HO_373001 := Aside0.mk (Kd.Q_mono (Kd.Q_keep (IsS104.apartQ (show IsS104 w0 _ g s0_0 x1001_1 from is104_ HI0.out) (by (with_reducible repeat (first | apply Kd.Q_alloc | apply Kd.Q_drewN | apply Kd.Q_drew)); exact HO_373001.out) (by decide)) hk (fun _ h => h.2)) (fun _ h => h.1)); replace BK371 := (bkA_ BK371 hk NB371_0); replace BK372 := (bkA_ BK372 hk NB372_0); replace HK := (kk_ HK hk); replace HB := Aside0.mk (hb); replace HI0 := Aside0.mk (hi); (try clear hb); (try clear hb2); (try clear hk); (try clear hi)) | ((with_reducible refine gate_callee (f := 58) rfl ?_); refine goesL_ (some 45) rfl rfl Try.func58 (by kernel_rfl) rfl #[.pointer (some ⟨g, 0, none⟩), .int .i64 3] rfl ar_ ?_; (with_reducible refine (spec_l20Rd_pick.calls k1 g s0_0 t413 3 t414 t415 w0 _ ?side1 ?side2 A50.out).mono ?_); (case side1 => exact is104_ HI0.out); (case side2 => exact hb104_ HB.out); rintro e w89 ⟨rfl, hi, hb, hk⟩; refine ⟨_, rfl, ?_⟩; replace HO_373000 := Aside0.mk (Kd.Q_mono (Kd.Q_keep (IsS104.apartQ (show IsS104 w0 _ g s0_0 t413 from is104_ HI0.out) (by (with_reducible repeat (first | apply Kd.Q_alloc | apply Kd.Q_drewN | apply Kd.Q_drew)); exact HO_373000.out) (by decide)) hk (fun _ h => h.2)) (fun _ h => h.1)); replace HO_373001 := Aside0.mk (Kd.Q_mono (Kd.Q_keep (IsS104.apartQ (show IsS104 w0 _ g s0_0 t413 from is104_ HI0.out) (by (with_reducible repeat (first | apply Kd.Q_alloc | apply Kd.Q_drewN | apply Kd.Q_drew)); exact HO_373001.out) (by decide)) hk (fun _ h => h.2)) (fun _ h => h.1)); replace BK371 := (bkA_ BK371 hk NB371_0); replace BK372 := (bkA_ BK372 hk NB372_0); replace HK := (kk_ HK hk); replace HB := Aside0.mk (hb); replace HI0 := Aside0.mk (hi); (try clear hb); (try clear hb2); (try clear hk); (try clear hi); have hnb90 := NB372_371.out; have hnc90 := NB371_372.out; have hnb91 := NB372_0.out; have hnc91 := NB0_372.out; have Z92 := zz2 BK372; obtain ⟨Ao94, co94, eo94, _⟩ := Kd.Q_slice HO_373000.out; subst eo94) | ((with_reducible refine gate_builtin (b := .append) (xs := #[.tmp 47, .tmp 49]) rfl ?_); at_builtin; refine Q_append_rows_ k63 w.heap.size rfl (.tmp 47) (.tmp 49) 29 63 (.agg #[(.int .i64 0), (.int .i64 0), (.int .i64 0)]) 24 rfl Try.underlying29 info63 rfl (by decide) (by omega) (.slice Ao94 x373000_1.length co94) x373000_1 x373000_1 _ _ _ (fun _ => True) (fun _ => False) rfl rfl ?aO ?aR (fun _ _ h => h) (fun _ h => h.elim) ?aF (Below.refl _ _) ?aS ?aL ?_; (case aR => exact kC_ (Kd.Q_reads' HO_373000.out).2.2); (case aF => exact (fun _ _ => trivial)); (case aO => exact (by (with_reducible repeat (first | apply Kd.Q_alloc | apply Kd.Q_drewN | apply Kd.Q_drew)); exact HO_373000.out)); (case aS => exact (keep_size (w := w) (g := g) (row := none) (hkA_ HK.out))); (case aL => have := LMc87.out; omega); intro v431 w93 ho hb hg hat; rw [← Ny430.out] at ho; replace HO_373001 := Aside0.mk (Kd.Q_over' (by (with_reducible repeat (first | apply Kd.Q_alloc | apply Kd.Q_drewN | apply Kd.Q_drew)); exact HO_373001.out) (Kd.Q_typed (by (with_reducible repeat (first | apply Kd.Q_alloc | apply Kd.Q_drewN | apply Kd.Q_drew)); exact HO_373000.out)) (by decide) hg); replace BK371 := (bgA_ BK371 hg (Kd.Q_ne HO_373000.out BK371.out (by decide))); replace BK372 := (bgA_ BK372 hg (Kd.Q_ne HO_373000.out BK372.out (by decide))); replace HI0 := Aside0.mk (IsS104.grown (is104_ HI0.out) hg (IsS104.own_neQ HI0.out HO_373000.out (by decide))); replace HB := Aside0.mk (below_weaken (hb104_ HB.out) HL.out hb); replace HK := Aside0.mk (KeepBut.trans (hkA_ HK.out) (KeepBut.of_grown hg g) (Kd.Q_base2 HO_373000.out)); have HO432 := Aside0.mk (ho); clear HO_373000; clear ho hb hg hat; obtain ⟨Ao95, co95, eo95, _⟩ := Kd.Q_slice HO432.out; subst eo95; have Z96 := zz2 BK372; have hnb97 := NB371_0.out; have hnc97 := NB0_371.out; have Z98 := zz2 BK371; obtain ⟨Ao99, co99, eo99, _⟩ := Kd.Q_slice HO_373001.out; subst eo99))
        refine bodyPost_ret (results_cell_row rfl _ _ gb371 32 #[.slice Ao95 y430.length co95, .slice Ao99 x373001_1.length co99] (0, 0) _ rfl (by refine kb_ ?_; refine pz2 (cs := #[.slice none 0 0, .slice none 0 0]) ?_; exact kf_ BK371.out) Try.underlying32 rfl (by kernel_rfl)) rfl ?_
        exact ⟨_, _, by first | rfl | (simp [errW_none, errW_some] <;> rfl) | (simp [*, errW_none, errW_some] <;> rfl), by (with_reducible repeat (first | apply Kd.Q_alloc | apply Kd.Q_drewN | apply Kd.Q_drew)); exact Kd.Q_mono (Kd.Q_far (p := ⟨gb371, 1, none⟩) (Kd.Q_far (p := ⟨gb371, 0, none⟩) (Kd.Q_far (p := ⟨gb372, 0, none⟩) (Kd.Q_types (Kd.Q_types HO432.out BK372.out (by decide)) BK371.out (by decide)) (fun _ hk => hk.1.2) (.slice Ao95 y430.length co95)) (fun _ hk => hk.2) (.slice Ao95 y430.length co95)) (fun _ hk => hk.2) (.slice Ao99 x373001_1.length co99)) (fun _ hk => trivial), by (with_reducible repeat (first | apply Kd.Q_alloc | apply Kd.Q_drewN | apply Kd.Q_drew)); exact Kd.Q_mono (Kd.Q_far (p := ⟨gb371, 1, none⟩) (Kd.Q_far (p := ⟨gb371, 0, none⟩) (Kd.Q_far (p := ⟨gb372, 0, none⟩) (Kd.Q_types (Kd.Q_types HO_373001.out BK372.out (by decide)) BK371.out (by decide)) (fun _ hk => hk.1.2) (.slice Ao95 y430.length co95)) (fun _ hk => hk.2) (.slice Ao95 y430.length co95)) (fun _ hk => hk.2) (.slice Ao99 x373001_1.length co99)) (fun _ hk => trivial), is104_ HI0.out, hb104_ HB.out, hkA_ HK.out⟩
       ·rw [if_neg c87] at H
        exact absurd H (by simp)
    ·replace c49 := Bool.eq_false_iff.mpr c49
     subst c49
     rw [if_neg (show ¬ (false = true) by decide)] at H
     simp only [Option.some.injEq, Prod.mk.injEq] at H
     obtain ⟨rfl, rfl, rfl⟩ := H
     go_wp2_with (first | ((with_reducible refine gate_callee (f := 78) rfl ?_); refine goesL_ (some 43) rfl rfl Try.func78 (by kernel_rfl) rfl #[.pointer (some ⟨g, 0, none⟩), .int .i64 a1] rfl ar_ ?_; (with_reducible refine (spec_l20Rd_odd.calls k1 g s0_0 x1001_1 a1 false t413 w0 _ ?side1 ?side2 A48.out).mono ?_); (case side1 => exact is104_ HI0.out); (case side2 => exact hb104_ HB.out); rintro e w100 ⟨rfl, hi, hb, hk⟩; refine ⟨_, rfl, ?_⟩; replace HO_373000 := Aside0.mk (Kd.Q_mono (Kd.Q_keep (IsS104.apartQ (show IsS104 w0 _ g s0_0 x1001_1 from is104_ HI0.out) (by (with_reducible repeat (first | apply Kd.Q_alloc | apply Kd.Q_drewN | apply Kd.Q_drew)); exact HO_373000.out) (by decide)) hk (fun _ h => h.2)) (fun _ h => h.1)); replace HO_373001 := Aside0.mk (Kd.Q_mono (Kd.Q_keep (IsS104.apartQ (show IsS104 w0 _ g s0_0 x1001_1 from is104_ HI0.out) (by (with_reducible repeat (first | apply Kd.Q_alloc | apply Kd.Q_drewN | apply Kd.Q_drew)); exact HO_373001.out) (by decide)) hk (fun _ h => h.2)) (fun _ h => h.1)); replace BK371 := (bkA_ BK371 hk NB371_0); replace BK372 := (bkA_ BK372 hk NB372_0); replace HK := (kk_ HK hk); replace HB := Aside0.mk (hb); replace HI0 := Aside0.mk (hi); (try clear hb); (try clear hb2); (try clear hk); (try clear hi); have hnb101 := NB372_371.out; have hnc101 := NB371_372.out; have hnb102 := NB372_0.out; have hnc102 := NB0_372.out; have Z103 := zz2 BK372; obtain ⟨Ao104, co104, eo104, _⟩ := Kd.Q_slice HO_373000.out; subst eo104; have hnb105 := NB371_0.out; have hnc105 := NB0_371.out; have Z106 := zz2 BK371; obtain ⟨Ao107, co107, eo107, _⟩ := Kd.Q_slice HO_373001.out; subst eo107))
     refine bodyPost_ret (results_cell_row rfl _ _ gb371 32 #[.slice Ao104 x373000_1.length co104, .slice Ao107 x373001_1.length co107] (0, 0) _ rfl (by refine kb_ ?_; refine pz2 (cs := #[.slice none 0 0, .slice none 0 0]) ?_; refine kb_ ?_; exact BK371.out) Try.underlying32 rfl (by kernel_rfl)) rfl ?_
     exact ⟨_, _, by first | rfl | (simp [errW_none, errW_some] <;> rfl) | (simp [*, errW_none, errW_some] <;> rfl), by (with_reducible repeat (first | apply Kd.Q_alloc | apply Kd.Q_drewN | apply Kd.Q_drew)); exact Kd.Q_mono (Kd.Q_far (p := ⟨gb371, 1, none⟩) (Kd.Q_far (p := ⟨gb371, 0, none⟩) (Kd.Q_types HO_373000.out BK371.out (by decide)) (fun _ hk => hk.2) (.slice Ao104 x373000_1.length co104)) (fun _ hk => hk.2) (.slice Ao107 x373001_1.length co107)) (fun _ hk => trivial), by (with_reducible repeat (first | apply Kd.Q_alloc | apply Kd.Q_drewN | apply Kd.Q_drew)); exact Kd.Q_mono (Kd.Q_far (p := ⟨gb371, 1, none⟩) (Kd.Q_far (p := ⟨gb371, 0, none⟩) (Kd.Q_types HO_373001.out BK371.out (by decide)) (fun _ hk => hk.2) (.slice Ao104 x373000_1.length co104)) (fun _ hk => hk.2) (.slice Ao107 x373001_1.length co107)) (fun _ hk => trivial), is104_ HI0.out, hb104_ HB.out, hkA_ HK.out⟩
def spec_DrawAsking.l0 : Nat → List (List Int) → Int → List Int → Int → Option ((List (S63)) × (List (S65)) × Int × Int × (List (List Int)) × Int)
 | 0, _, _, _, _ => none
 | k + 1, x8, x9, x437000, x437001 => if x9 > 0 then ((spec_l20Rd_pick.f k x437000 x437001 5).bind fun bt442 => ((spec_l20Rd_bytes.f k x437000 bt442.2 bt442.1).bind fun bt444 => (if x8.length < 5864062014805 then (spec_DrawAsking.l0 k (x8 ++ [bt444.1]) (wrap64 (x9 - 1)) x437000 bt444.2) else (none)))) else ((spec_l20Near.f k x437000 x437001 0).bind fun bt451 => ((spec_l20Rd_pick.f k x437000 bt451.2.2 3).bind fun bt459 => ((spec_l20Rd_pick.f k x437000 bt459.2 3).bind fun bt461 => ((spec_l20Rd_pick.f k x437000 bt461.2 9).bind fun bt463 => (some (bt451.1, ([] : List (S65)), wrap64 (10 + bt459.1), wrap64 (20 + bt461.1), x8, wrap64 (40 + bt463.1)))))))
def spec_DrawAsking.f (k : Nat) (l0 : List Int) : Option ((List (S63)) × (List (S65)) × Int × Int × (List (List Int)) × Int) := (spec_l20Open.f l0).bind fun bt434 => ((spec_l20Rd_pick.f k bt434.1 bt434.2 4).bind fun bt440 => (spec_DrawAsking.l0 k (([] : List (List Int))) (wrap64 (1 + bt440.1)) bt434.1 bt440.2))
theorem spec_DrawAsking.mono_l : ∀ k, (∀ y0 y1 y2 y3, LeO (spec_DrawAsking.l0 k y0 y1 y2 y3) (spec_DrawAsking.l0 (k + 1) y0 y1 y2 y3))
 | 0 => fun _ _ _ _ r h => by simp [spec_DrawAsking.l0] at h
 | k + 1 => by
  have ih0 := spec_DrawAsking.mono_l k
  ·intro y0 y1 y2 y3
   unfold spec_DrawAsking.l0
   repeat' first | (with_reducible first | apply ih0 | apply spec_l20Near.mono | apply spec_l20Rd_bytes.mono | apply spec_l20Rd_pick.mono | exact LeO.refl _ | exact LeO.none _ | refine LeO.ite ?_ ?_ | refine LeO.bind ?_ fun _ => ?_) | apply ih0 | apply spec_l20Near.mono | apply spec_l20Rd_bytes.mono | apply spec_l20Rd_pick.mono | exact LeO.none _ | refine LeO.ite ?_ ?_ | refine LeO.bind ?_ fun _ => ?_
theorem spec_DrawAsking.mono : ∀ a0 k, LeO (spec_DrawAsking.f k a0) (spec_DrawAsking.f (k + 1) a0) := by
 intro a0 k
 have ih0 := spec_DrawAsking.mono_l k
 unfold spec_DrawAsking.f
 repeat' first | (with_reducible first | apply ih0 | apply spec_l20Near.mono | apply spec_l20Rd_bytes.mono | apply spec_l20Rd_pick.mono | exact LeO.refl _ | exact LeO.none _ | refine LeO.ite ?_ ?_ | refine LeO.bind ?_ fun _ => ?_) | apply ih0 | apply spec_l20Near.mono | apply spec_l20Rd_bytes.mono | apply spec_l20Rd_pick.mono | exact LeO.none _ | refine LeO.ite ?_ ?_ | refine LeO.bind ?_ fun _ => ?_
def spec_DrawAsking.T9 : Bool × List (List Nat × List Nat) := (true, [([], []), ([], []), ([1], [1]), ([2], [2]), ([], []), ([4, 2], [4]), ([5], [5]), ([], []), ([], []), ([8, 5], [8]), ([9], [9]), ([0, 9, 0], [0]), ([3, 11, 0, 1, 2, 3, 11], [3]), ([6, 12, 0, 1, 2, 3, 4, 5, 6, 11, 12], [6]), ([7, 13, 0, 1, 2, 3, 4, 5, 6, 7, 11, 12, 13], [7]), ([10, 14, 0, 1, 2, 3, 4, 5, 6, 7, 8, 9, 10, 11, 12, 13, 14], [10])])
def spec_DrawAsking.B9 : List Nat := [0, 0, 2, 6, 0, 22, 54, 0, 0, 310, 822, 823, 2879, 7039, 15359, 32767]
theorem spec_DrawAsking.tab9 : rtab .any (opsOf Try.f25 9) = spec_DrawAsking.T9 := by kernel_rfl
theorem spec_DrawAsking.bits9 : waitsOk spec_DrawAsking.T9.2 spec_DrawAsking.B9 = true := by kernel_rfl
set_option maxHeartbeats 8000000 in
set_option maxRecDepth 100000 in
theorem spec_DrawAsking.calls (k : Nat) (A0 : Option Addr) (c0 : Nat) (l0 : List Int) (r1 : List (S63)) (r2 : List (S65)) (r3 : Int) (r4 : Int) (r5 : List (List Int)) (r6 : Int) (w : World) (hr0 : Kd.C (Kd.int .u8) w A0 l0.length l0) (hc0 : l0.length ≤ c0) (h : spec_DrawAsking.f k l0 = some (r1, r2, r3, r4, r5, r6)) :
  Calls Try.prog 25 #[.slice A0 l0.length c0] w fun e w' => ∃ v0_ v1_ v4_ : Value, e = .returned (.tuple #[.agg #[v0_, v1_], .int .i64 r3, .int .i64 r4, v4_, .int .i64 r6]) ∧ Kd.Q k63 63 w' w.heap.size (fun _ => True) v0_ r1 ∧ Kd.S k65 65 w' w.heap.size (fun _ => True) v1_ r2 ∧ Kd.S (Kd.slice 5 (Kd.int .u8)) 44 w' w.heap.size (fun _ => True) v4_ r5 ∧ Below w.heap.size w w' := by
 have hu32 := Try.underlying32; have HR0 := Aside0.mk hr0; have HC0 := Aside0.mk hc0; clear hr0 hc0
 have HB := Aside0.mk (Below.refl w.heap.size w)
 have H : ((spec_l20Open.f l0).bind fun bt434 => ((spec_l20Rd_pick.f k bt434.1 bt434.2 4).bind fun bt440 => (spec_DrawAsking.l0 k (([] : List (List Int))) (wrap64 (1 + bt440.1)) bt434.1 bt440.2))) = some (r1, r2, r3, r4, r5, r6) := h
 clear h
 replace H := Option.bind_eq_some_iff.mp H
 obtain ⟨⟨t434, t435⟩, A20, H⟩ := H
 (try dsimp only at H)
 have A2 := Aside0.mk A20; clear A20
 obtain ⟨y437, hy437⟩ : ∃ y_ : List (List Int), y_ = (([] : List (List Int))) := ⟨_, rfl⟩
 (first | replace H := sb_ hy437 H | rw [← hy437] at H)
 have Ny437 := Aside0.mk hy437; clear hy437
 replace H := Option.bind_eq_some_iff.mp H
 obtain ⟨⟨t440, t441⟩, A30, H⟩ := H
 (try dsimp only at H)
 have A3 := Aside0.mk A30; clear A30
 have H' := Aside0.mk H
 clear H
 go_enter Try.func25, Try.ntmps25
 go_wp2_with (first | ((with_reducible refine gate_dst (N := 2) rfl ?_); refine box_ (N := 2) (cs := #[.slice none 0 0, .slice none 0 0]) (t := 32) (fun gb433 hg w4 hbox hb => ?_); have BK433 := Aside0.mk (hbox); have GW433 := ge_ hg HB; have GE433 := ge_ hg HB; replace HB := (bs_ HB hb); clear hb hbox hg) | ((with_reducible refine gate_callee (f := 56) rfl ?_); refine goesL_ (some 12) rfl rfl Try.func56 (by kernel_rfl) rfl #[.slice A0 l0.length c0] rfl ar_ ?_; (with_reducible refine (spec_l20Open.calls _ _ l0 t434 t435 w _ ?side1 ?side2 ?side3 A2.out).mono ?_); (case side1 => exact hbA_ HB.out); (case side2 => exact HR0.out); (case side3 => exact HC0.out); rintro e w5 ⟨g436, rfl, hi, hb, hb2⟩; refine ⟨_, rfl, ?_⟩; replace HB := Aside0.mk (hb); have HI436 := Aside0.mk (hi); have NB436_433 := Aside0.mk (IsS104.ne_blk hi (bb_ BK433 hb2) (by decide)); have NB433_436 := Aside0.mk (Ne.symm (IsS104.ne_blk hi (bb_ BK433 hb2) (by decide))); replace BK433 := (bbA_ BK433 hb2); (try clear hb); (try clear hb2); (try clear hk); (try clear hi)) | ((with_reducible refine gate_dst (N := 13) rfl ?_); refine Kd.S_lit (Kd.slice 5 (Kd.int .u8)) _ 44 ?hg (N := 13) ?hd (xs := ([] : List (List Int))) (inner := []) (ok := fun _ => True) (okp := fun _ => True) ?hr ?hp (fun _ hk => hk) trivial (Below.refl _ _) (Nat.le_refl _) (by simp) ?_; (case hd => rfl); (case hg => rfl); (case hr => first | (go_simp; done) | (go_simp; rfl)); (case hp => exact (Reps.none _ _)); intro v438 w6 ho7 hb hg_ hnew_; clear hg_ hnew_; (first | rw [← Ny437.out] at ho7 | (simp only [Int.reduceToNat] at ho7; rw [← Ny437.out] at ho7)); have HO439 := Aside0.mk (Kd.S_lower ho7 (below_size (hb104_ HB.out))); replace BK433 := (bbA_ BK433 hb); replace HI436 := (ib104_ HI436 hb); replace HB := (bs104_ HB hb); clear hb ho7) | ((with_reducible refine gate_callee (f := 58) rfl ?_); refine goesL_ (some 15) rfl rfl Try.func58 (by kernel_rfl) rfl #[.pointer (some ⟨g436, 0, none⟩), .int .i64 4] rfl ar_ ?_; (with_reducible refine (spec_l20Rd_pick.calls k g436 t434 t435 4 t440 t441 w _ ?side1 ?side2 A3.out).mono ?_); (case side1 => exact is104_ HI436.out); (case side2 => exact hb104_ HB.out); rintro e w8 ⟨rfl, hi, hb, hk⟩; refine ⟨_, rfl, ?_⟩; replace BK433 := (bkA_ BK433 hk NB433_436); replace HO439 := Aside0.mk (Kd.S_mono (Kd.S_keep (IsS104.apartS (show IsS104 w _ g436 t434 t435 from is104_ HI436.out) (kS_ HO439.out) (by decide)) hk (fun _ h => h.2)) (fun _ h => h.1)); replace HB := Aside0.mk (hb); replace HI436 := Aside0.mk (hi); (try clear hb); (try clear hb2); (try clear hk); (try clear hi)))
 go_loopg [8, 9] k (fun kq v8 v9 w' => ∃ (x8_1 : List (List Int)) (x9_1 : Int) (x437001_1 : Int), v9 = .int .i64 x9_1 ∧ Aside0 (spec_DrawAsking.l0 kq x8_1 x9_1 t434 x437001_1 = some (r1, r2, r3, r4, r5, r6)) ∧ Aside0 (kq ≤ k) ∧ Aside0 (Kd.S (Kd.slice 5 (Kd.int .u8)) 44 w' w.heap.size (fun _ => True) v8 x8_1) ∧ Aside0 (w'.heap[gb433]? = some (.cells #[(.slice none 0 0), (.slice none 0 0)] 32 (0, 0))) ∧ Aside0 (IsS104 w w' g436 t434 x437001_1) ∧ Aside0 (Below w.heap.size w w'))
 case atStart => exact ⟨(y437), (wrap64 (1 + t440)), (t441), (by first | rfl | (simp; done) | (simp [*]; done)), H', ⟨Nat.le_refl _⟩, ⟨by refine kS_ ?_; exact HO439.out⟩, ⟨by refine kb_ ?_; exact BK433.out⟩, ⟨is104_ HI436.out⟩, ⟨hb104_ HB.out⟩⟩
 case round =>
  clear H'; (try clear c2); (try clear p2); (try clear c5); (try clear p6)
  obtain ⟨x8_1, x9_1, x437001_1, rfl, HA, HK1, HO_8, BK433, HI436, HB⟩ := hrel
  cases gk with
  | zero => exact absurd HA.out (by simp [spec_DrawAsking.l0])
  | succ k1 =>
   have H := HA.out; clear HA
   simp only [spec_DrawAsking.l0] at H
   by_cases c9 : x9_1 > 0
   ·rw [if_pos c9] at H
    have c9b0 : decide (0 < x9_1) = true := decide_eq_true c9
    clear c9
    replace H := Option.bind_eq_some_iff.mp H
    obtain ⟨⟨t442, t443⟩, A100, H⟩ := H
    (try dsimp only at H)
    have A10 := Aside0.mk A100; clear A100
    replace H := Option.bind_eq_some_iff.mp H
    obtain ⟨⟨t444, t447⟩, A110, H⟩ := H
    (try dsimp only at H)
    have A11 := Aside0.mk A110; clear A110
    by_cases c12 : x8_1.length < 5864062014805
    ·rw [if_pos c12] at H
     have LMc12 := Aside0.mk c12; clear c12
     obtain ⟨y448, hy448⟩ : ∃ y_ : List (List Int), y_ = (x8_1 ++ [t444]) := ⟨_, rfl⟩
     (first | replace H := sb_ hy448 H | rw [← hy448] at H)
     have Ny448 := Aside0.mk hy448; clear hy448
     have H' := Aside0.mk H
     clear H
     go_wp2_with (first | ((with_reducible refine gate_callee (f := 58) rfl ?_); refine goesL_ (some 24) rfl rfl Try.func58 (by kernel_rfl) rfl #[.pointer (some ⟨g436, 0, none⟩), .int .i64 5] rfl ar_ ?_; (with_reducible refine (spec_l20Rd_pick.calls k1 g436 t434 x437001_1 5 t442 t443 w _ ?side1 ?side2 A10.out).mono ?_); (case side1 => exact is104_ HI436.out); (case side2 => exact hb104_ HB.out); rintro e w13 ⟨rfl, hi, hb, hk⟩; refine ⟨_, rfl, ?_⟩; replace HO_8 := Aside0.mk (Kd.S_mono (Kd.S_keep (IsS104.apartS (show IsS104 w _ g436 t434 x437001_1 from is104_ HI436.out) (kS_ HO_8.out) (by decide)) hk (fun _ h => h.2)) (fun _ h => h.1)); replace BK433 := (bkA_ BK433 hk NB433_436); replace HB := Aside0.mk (hb); replace HI436 := Aside0.mk (hi); (try clear hb); (try clear hb2); (try clear hk); (try clear hi)) | ((with_reducible refine gate_callee (f := 65) rfl ?_); refine goesL_ (some 25) rfl rfl Try.func65 (by kernel_rfl) rfl #[.pointer (some ⟨g436, 0, none⟩), .int .i64 t442] rfl ar_ ?_; (with_reducible refine (spec_l20Rd_bytes.calls k1 g436 t434 t443 t442 t444 t447 w _ ?side1 ?side2 A11.out).mono ?_); (case side1 => exact is104_ HI436.out); (case side2 => exact hb104_ HB.out); rintro e w14 ⟨v445, rfl, ho0, hi, hb, hk⟩; refine ⟨_, rfl, ?_⟩; replace HO_8 := Aside0.mk (Kd.S_mono (Kd.S_told (Kd.S_oldK (IsS104.apartS (show IsS104 w _ g436 t434 t443 from is104_ HI436.out) (kS_ HO_8.out) (by decide)) hk) (Kd.R_base ho0)) (fun _ h_ => op1_ h_)); replace BK433 := (bkA_ BK433 hk NB433_436); have HO446 := Aside0.mk (Kd.R_lower ho0 (below_size (hb104_ HB.out))); replace HB := Aside0.mk (hb); replace HI436 := Aside0.mk (hi); (try clear hb); (try clear hb2); (try clear hk); (try clear hi); (try clear ho0); obtain ⟨Ao16, co16, eo16⟩ := Kd.R_slice HO446.out; subst eo16) | ((with_reducible refine gate_builtin (b := .append) (xs := #[.tmp 21, .tmp 26]) rfl ?_); at_builtin; refine Kd.S_append (Kd.slice 5 (Kd.int .u8)) (w0 := w) w.heap.size rfl (.tmp 21) (.tmp 26) 33 44 (.slice none 0 0) 24 rfl Try.underlying33 info44 rfl (by decide) (by omega) u8 x8_1 t444 [.slice Ao16 t444.length co16] (fun _ => True) (fun k_ => some k_ = (.slice Ao16 t444.length co16 : Value).ownBlock) rfl rfl ?aP (fun k_ hk_ => ((Kd.R_mono (ok' := fun k_ => ((fun _ => True)) k_ ∧ some k_ ≠ (u8 : Value).ownBlock) (Kd.R_apart' (HO446.out) (Kd.S_typed HO_8.out) (by decide)) (fun k_ hk => ⟨trivial, hk.2⟩))).1 k_ hk_.symm) ?aF ?aO ?aB ?aS ?aL ?_; (case aP => exact Kd.M_row (Kd.R_mono (Kd.R_tight rfl (Kd.R_mono (ok' := fun k_ => ((fun _ => True)) k_ ∧ some k_ ≠ (u8 : Value).ownBlock) (Kd.R_apart' (HO446.out) (Kd.S_typed HO_8.out) (by decide)) (fun k_ hk => ⟨trivial, hk.2⟩))) (fun _ h_ => h_))); (case aB => exact (hb104_ HB.out)); (case aF => exact (fun _ _ => trivial)); (case aO => exact (by refine kS_ ?_; exact Kd.S_mono HO_8.out (fun k_ hk => ⟨trivial, fun e_ => hk.2 e_⟩))); (case aS => exact (below_size (hb104_ HB.out))); (case aL => have := LMc12.out; omega); intro v449 w15 ho hb hg hat; rw [← Ny448.out] at ho; replace BK433 := (bgA_ BK433 hg (Kd.S_ne HO_8.out BK433.out (by decide))); replace HI436 := Aside0.mk (IsS104.grown (is104_ HI436.out) hg (IsS104.own_neS HI436.out HO_8.out (by decide))); replace HB := Aside0.mk (hb); have HO450 := Aside0.mk (ho); clear HO_8 HO446; clear ho hb hg hat))
     go_roundg k1
     case measure => have := HK1.out; omega
     case rel => exact ⟨(y448), (wrap64 (x9_1 - 1)), (t447), (by first | rfl | (simp; done) | (simp [*]; done)), H', ⟨by have := HK1.out; omega⟩, ⟨by refine kS_ ?_; exact HO450.out⟩, ⟨by refine kb_ ?_; exact BK433.out⟩, ⟨is104_ HI436.out⟩, ⟨hb104_ HB.out⟩⟩
    ·rw [if_neg c12] at H
     exact absurd H (by simp)
   ·rw [if_neg c9] at H
    have c9b0 : decide (0 < x9_1) = false := decide_eq_false c9
    clear c9
    replace H := Option.bind_eq_some_iff.mp H
    obtain ⟨⟨t451, t454, t457⟩, A170, H⟩ := H
    (try dsimp only at H)
    have A17 := Aside0.mk A170; clear A170
    replace H := Option.bind_eq_some_iff.mp H
    obtain ⟨⟨t459, t460⟩, A180, H⟩ := H
    (try dsimp only at H)
    have A18 := Aside0.mk A180; clear A180
    replace H := Option.bind_eq_some_iff.mp H
    obtain ⟨⟨t461, t462⟩, A190, H⟩ := H
    (try dsimp only at H)
    have A19 := Aside0.mk A190; clear A190
    replace H := Option.bind_eq_some_iff.mp H
    obtain ⟨⟨t463, t464⟩, A200, H⟩ := H
    (try dsimp only at H)
    have A20 := Aside0.mk A200; clear A200
    simp only [Option.some.injEq, Prod.mk.injEq] at H
    obtain ⟨rfl, rfl, rfl, rfl, rfl, rfl⟩ := H
    try go_wp2_with (first | ((with_reducible refine gate_callee (f := 57) rfl ?_); refine goesL_ (some 29) rfl rfl Try.func57 (by kernel_rfl) rfl #[.pointer (some ⟨g436, 0, none⟩), .int .i64 0] rfl ar_ ?_; (with_reducible refine (spec_l20Near.calls k1 g436 t434 x437001_1 0 t451 t454 t457 w _ ?side1 ?side2 A17.out).mono ?_); (case side1 => exact is104_ HI436.out); (case side2 => exact hb104_ HB.out); rintro e w21 ⟨v452, v455, rfl, ho0, ho1, hi, hb, hk⟩; refine ⟨_, rfl, ?_⟩; replace HO_8 := Aside0.mk (Kd.S_mono (Kd.S_keep (IsS104.apartS (show IsS104 w _ g436 t434 x437001_1 from is104_ HI436.out) (kS_ HO_8.out) (by decide)) hk (fun _ h => h.2)) (fun _ h => h.1)); replace BK433 := (bkA_ BK433 hk NB433_436); have HO453 := Aside0.mk (Kd.Q_lower ho0 (below_size (hb104_ HB.out))); have HO456 := Aside0.mk (Kd.Q_lower ho1 (below_size (hb104_ HB.out))); replace HB := Aside0.mk (hb); replace HI436 := Aside0.mk (hi); (try clear hb); (try clear hb2); (try clear hk); (try clear hi); (try clear ho0); (try clear ho1)) | ((with_reducible refine gate_dst (N := 10) rfl ?_); refine box_ (N := 10) (cs := #[.slice none 0 0, .slice none 0 0]) (t := 32) (fun gb458 hg w22 hbox hb => ?_); replace HO_8 := Aside0.mk (Kd.S_below (kS_ HO_8.out) hb); replace HO453 := Aside0.mk (Kd.Q_below (by (with_reducible repeat (first | apply Kd.Q_alloc | apply Kd.Q_drewN | apply Kd.Q_drew)); exact HO453.out) hb); replace HO456 := Aside0.mk (Kd.Q_below (by (with_reducible repeat (first | apply Kd.Q_alloc | apply Kd.Q_drewN | apply Kd.Q_drew)); exact HO456.out) hb); have BK458 := Aside0.mk (hbox); have GW458 := ge104_ hg HB; have GE458 := ge104_ hg HB; replace HB := (bs104_ HB hb); have NB433_458 := nl_ hg BK433; have NB458_433 := ng_ hg BK433; replace BK433 := (bbA_ BK433 hb); have NB436_458 := nl104_ hg HI436; have NB458_436 := ng104_ hg HI436; replace HI436 := (ib104_ HI436 hb); clear hb hbox hg; obtain ⟨Ao23, co23, eo23, _⟩ := Kd.Q_slice HO453.out; subst eo23; have hnb24 := NB458_433.out; have hnc24 := NB433_458.out; have hnb25 := NB458_436.out; have hnc25 := NB436_458.out; have Z26 := zz2 BK458; obtain ⟨Ao27, co27, eo27, _⟩ := Kd.Q_slice HO456.out; subst eo27))
    obtain ⟨w28, h_w28⟩ : ∃ w_, (((w22.setCell ⟨gb458, 0, none⟩ (.slice Ao23 t451.length co23)).setCell ⟨gb458, 1, none⟩ (.slice Ao27 t454.length co27)).setCell ⟨gb458, 1, none⟩ (.slice none 0 0)) = w_ := ⟨_, rfl⟩
    have n0_ : Aside0 (Kd.S (Kd.slice 5 (Kd.int .u8)) 44 w28 w.heap.size (fun _ => True) u8 x8_1) := ⟨by subst h_w28; refine kS_ ?_; exact Kd.S_mono (Kd.S_far (p := ⟨gb458, 1, none⟩) (Kd.S_far (p := ⟨gb458, 1, none⟩) (Kd.S_far (p := ⟨gb458, 0, none⟩) (Kd.S_types HO_8.out BK458.out (by decide)) (fun _ hk => hk.2) (.slice Ao23 t451.length co23)) (fun _ hk => hk.2) (.slice Ao27 t454.length co27)) (fun _ hk => hk.2) (.slice none 0 0)) (fun _ hk => trivial)⟩
    have n1_ : Aside0 (Kd.Q k63 63 w28 w.heap.size (fun _ => True) (.slice Ao23 t451.length co23) t451) := ⟨by subst h_w28; (with_reducible repeat (first | apply Kd.Q_alloc | apply Kd.Q_drewN | apply Kd.Q_drew)); exact Kd.Q_mono (Kd.Q_far (p := ⟨gb458, 1, none⟩) (Kd.Q_far (p := ⟨gb458, 1, none⟩) (Kd.Q_far (p := ⟨gb458, 0, none⟩) (Kd.Q_types HO453.out BK458.out (by decide)) (fun _ hk => hk.2) (.slice Ao23 t451.length co23)) (fun _ hk => hk.2) (.slice Ao27 t454.length co27)) (fun _ hk => hk.2) (.slice none 0 0)) (fun _ hk => trivial)⟩
    have n2_ : Aside0 (Kd.Q k65 65 w28 w.heap.size (fun _ => True) (.slice Ao27 t454.length co27) t454) := ⟨by subst h_w28; (with_reducible repeat (first | apply Kd.Q_alloc | apply Kd.Q_drewN | apply Kd.Q_drew)); exact Kd.Q_mono (Kd.Q_far (p := ⟨gb458, 1, none⟩) (Kd.Q_far (p := ⟨gb458, 1, none⟩) (Kd.Q_far (p := ⟨gb458, 0, none⟩) (Kd.Q_types HO456.out BK458.out (by decide)) (fun _ hk => hk.2) (.slice Ao23 t451.length co23)) (fun _ hk => hk.2) (.slice Ao27 t454.length co27)) (fun _ hk => hk.2) (.slice none 0 0)) (fun _ hk => trivial)⟩
    have n3_ : Aside0 (w28.heap[gb433]? = some (.cells #[.slice none 0 0, .slice none 0 0] 32 (0, 0))) := ⟨by subst h_w28; exact kf_ BK433.out⟩
    have n4_ : Aside0 (w28.heap[gb458]? = some (.cells #[.slice Ao23 t451.length co23, .slice none 0 0] 32 (0, 0))) := ⟨by subst h_w28; refine kb_ ?_; refine blk_put (cs := #[.slice Ao23 t451.length co23, .slice Ao27 t454.length co27]) ?_ 1 _ rfl; refine kb_ ?_; refine pz2 (cs := #[.slice none 0 0, .slice none 0 0]) ?_; refine kb_ ?_; exact BK458.out⟩
    have n5_ : Aside0 (IsS104 w w28 g436 t434 t457) := ⟨by subst h_w28; exact is104_ HI436.out⟩
    have n6_ : Aside0 (Below w.heap.size w w28) := ⟨by subst h_w28; exact hb104_ HB.out⟩
    (try clear HO_8); (try clear HO453); (try clear HO456); (try clear BK433); (try clear BK458); (try clear HI436); (try clear HB)
    (try rw [h_w28]); clear h_w28
    have HO_8 := n0_; have HO453 := n1_; have HO456 := n2_; have BK433 := n3_; have BK458 := n4_; have HI436 := n5_; have HB := n6_; clear n0_ n1_ n2_ n3_ n4_ n5_ n6_; replace HO_8 := Aside0.mk (Kd.S_drew HO_8.out); replace HO453 := Aside0.mk (Kd.Q_drew HO453.out); replace HO456 := Aside0.mk (Kd.Q_drew HO456.out); replace BK433 := Aside0.mk (blk_drew BK433.out); replace BK458 := Aside0.mk (blk_drew BK458.out); replace HI436 := Aside0.mk (IsS104.drew HI436.out); replace HB := (bd_ HB)
    refine start_ (n := 16) (S := fun w' => w'.cell? ⟨gb458, 0, none⟩ = some (.slice Ao23 t451.length co23) ∧ w'.cell? ⟨gb458, 1, none⟩ = some (.slice none 0 0)) (ds := []) #[false, false, false, false, false, false, false, false, false, false, false, false, false, false, false, false] (by kernel_rfl) rfl rfl (cz2 BK458.out) (fun hHeld => ?_); refine with_tabW spec_DrawAsking.tab9 spec_DrawAsking.bits9 (fun HT_ HW_ => ?_)
    generalize w28.drew = w29 at HO_8 HO453 HO456 BK433 BK458 HI436 HB hHeld ⊢
    refine pu_ (i := 1) (N := some 32) HT_ ?_; refine pu_ (i := 4) (N := some 35) HT_ ?_; refine pu_ (i := 7) (N := some 38) HT_ ?_; refine pu_ (i := 8) (N := some 39) HT_ ?_; refine tk_ (i := 0) (N := some 31) HT_ HW_ hHeld ?_
    refine on_ (i := 2) (N := some 33) HT_ (fun K hK => ?_)
    refine goes_ Try.func58 (by kernel_rfl) rfl #[.pointer (some ⟨g436, 0, none⟩), .int .i64 3] (by rfl) rfl rfl ar_ ?_
    with_reducible refine (spec_l20Rd_pick.calls k1 g436 t434 t457 3 t459 t460 w _ ?side1 ?side2 A18.out).mono ?_
    (case side1 => exact is104_ HI436.out)
    (case side2 => exact hb104_ HB.out)
    rintro e w30 ⟨rfl, hi, hb, hk⟩
    refine ⟨_, rfl, ?_⟩
    replace HO_8 := Aside0.mk (Kd.S_mono (Kd.S_keep (IsS104.apartS (show IsS104 w _ g436 t434 t457 from is104_ HI436.out) (kS_ HO_8.out) (by decide)) hk (fun _ h => h.2)) (fun _ h => h.1)); replace BK433 := (bkA_ BK433 hk NB433_436); replace HO453 := Aside0.mk (Kd.Q_mono (Kd.Q_keep (IsS104.apartQ (show IsS104 w _ g436 t434 t457 from is104_ HI436.out) (by (with_reducible repeat (first | apply Kd.Q_alloc | apply Kd.Q_drewN | apply Kd.Q_drew)); exact HO453.out) (by decide)) hk (fun _ h => h.2)) (fun _ h => h.1)); replace HO456 := Aside0.mk (Kd.Q_mono (Kd.Q_keep (IsS104.apartQ (show IsS104 w _ g436 t434 t457 from is104_ HI436.out) (by (with_reducible repeat (first | apply Kd.Q_alloc | apply Kd.Q_drewN | apply Kd.Q_drew)); exact HO456.out) (by decide)) hk (fun _ h => h.2)) (fun _ h => h.1)); replace BK458 := (bkA_ BK458 hk NB458_436); replace HB := Aside0.mk (hb); replace HI436 := Aside0.mk (hi); (try clear hb); (try clear hb2); (try clear hk); (try clear hi)
    refine hK.out _ _ (cz2 BK458.out) (fun hHeld => ?_)
    clear hK K; refine nm_ 33 ?_; refine pu_ (i := 3) (N := some 34) HT_ ?_
    refine on_ (i := 5) (N := some 36) HT_ (fun K hK => ?_)
    refine goes_ Try.func58 (by kernel_rfl) rfl #[.pointer (some ⟨g436, 0, none⟩), .int .i64 3] (by rfl) rfl rfl ar_ ?_
    with_reducible refine (spec_l20Rd_pick.calls k1 g436 t434 t460 3 t461 t462 w _ ?side1 ?side2 A19.out).mono ?_
    (case side1 => exact is104_ HI436.out)
    (case side2 => exact hb104_ HB.out)
    rintro e w31 ⟨rfl, hi, hb, hk⟩
    refine ⟨_, rfl, ?_⟩
    replace HO_8 := Aside0.mk (Kd.S_mono (Kd.S_keep (IsS104.apartS (show IsS104 w _ g436 t434 t460 from is104_ HI436.out) (kS_ HO_8.out) (by decide)) hk (fun _ h => h.2)) (fun _ h => h.1)); replace BK433 := (bkA_ BK433 hk NB433_436); replace HO453 := Aside0.mk (Kd.Q_mono (Kd.Q_keep (IsS104.apartQ (show IsS104 w _ g436 t434 t460 from is104_ HI436.out) (by (with_reducible repeat (first | apply Kd.Q_alloc | apply Kd.Q_drewN | apply Kd.Q_drew)); exact HO453.out) (by decide)) hk (fun _ h => h.2)) (fun _ h => h.1)); replace HO456 := Aside0.mk (Kd.Q_mono (Kd.Q_keep (IsS104.apartQ (show IsS104 w _ g436 t434 t460 from is104_ HI436.out) (by (with_reducible repeat (first | apply Kd.Q_alloc | apply Kd.Q_drewN | apply Kd.Q_drew)); exact HO456.out) (by decide)) hk (fun _ h => h.2)) (fun _ h => h.1)); replace BK458 := (bkA_ BK458 hk NB458_436); replace HB := Aside0.mk (hb); replace HI436 := Aside0.mk (hi); (try clear hb); (try clear hb2); (try clear hk); (try clear hi)
    refine hK.out _ _ (cz2 BK458.out) (fun hHeld => ?_)
    clear hK K; refine nm_ 36 ?_; refine pu_ (i := 6) (N := some 37) HT_ ?_
    refine on_ (i := 9) (N := some 40) HT_ (fun K hK => ?_)
    refine goes_ Try.func58 (by kernel_rfl) rfl #[.pointer (some ⟨g436, 0, none⟩), .int .i64 9] (by rfl) rfl rfl ar_ ?_
    with_reducible refine (spec_l20Rd_pick.calls k1 g436 t434 t462 9 t463 t464 w _ ?side1 ?side2 A20.out).mono ?_
    (case side1 => exact is104_ HI436.out)
    (case side2 => exact hb104_ HB.out)
    rintro e w32 ⟨rfl, hi, hb, hk⟩
    refine ⟨_, rfl, ?_⟩
    replace HO_8 := Aside0.mk (Kd.S_mono (Kd.S_keep (IsS104.apartS (show IsS104 w _ g436 t434 t462 from is104_ HI436.out) (kS_ HO_8.out) (by decide)) hk (fun _ h => h.2)) (fun _ h => h.1)); replace BK433 := (bkA_ BK433 hk NB433_436); replace HO453 := Aside0.mk (Kd.Q_mono (Kd.Q_keep (IsS104.apartQ (show IsS104 w _ g436 t434 t462 from is104_ HI436.out) (by (with_reducible repeat (first | apply Kd.Q_alloc | apply Kd.Q_drewN | apply Kd.Q_drew)); exact HO453.out) (by decide)) hk (fun _ h => h.2)) (fun _ h => h.1)); replace HO456 := Aside0.mk (Kd.Q_mono (Kd.Q_keep (IsS104.apartQ (show IsS104 w _ g436 t434 t462 from is104_ HI436.out) (by (with_reducible repeat (first | apply Kd.Q_alloc | apply Kd.Q_drewN | apply Kd.Q_drew)); exact HO456.out) (by decide)) hk (fun _ h => h.2)) (fun _ h => h.1)); replace BK458 := (bkA_ BK458 hk NB458_436); replace HB := Aside0.mk (hb); replace HI436 := Aside0.mk (hi); (try clear hb); (try clear hb2); (try clear hk); (try clear hi)
    refine hK.out _ _ (cz2 BK458.out) (fun hHeld => ?_)
    clear hK K; refine nm_ 40 ?_; refine pu_ (i := 10) (N := some 41) HT_ ?_
    refine on_ (i := 11) (N := none) HT_ (fun K hK => ?_)
    have hs33 : w32.cell? ⟨gb433, 0, none⟩ = some (.slice none 0 0) := bc_ BK433 0
    have hfs33 := blk_frozen BK433.out 0
    have hns33_1 := NB458_433.out; have hms33_1 := NB433_458.out
    have hs34 : w32.cell? ⟨gb433, 1, none⟩ = some (.slice none 0 0) := bc_ BK433 1
    have hfs34 := blk_frozen BK433.out 1
    have hns34_1 := NB458_433.out; have hms34_1 := NB433_458.out
    refine skip_ (w1 := ?_) (by rfl) rfl ?_ ?_
    rotate_left
    ·go_simp
     rfl
    refine hK.out _ _ ⟨((cell_far (p := ⟨gb433, _, none⟩) NB458_433.out _).trans (((cell_far (p := ⟨gb433, _, none⟩) NB458_433.out _).trans (hHeld.1)))), ((cell_far (p := ⟨gb433, _, none⟩) NB458_433.out _).trans (((cell_far (p := ⟨gb433, _, none⟩) NB458_433.out _).trans (hHeld.2))))⟩ (fun hHeld => ?_)
    clear hK K; refine pu_ (i := 12) (N := some 3) HT_ ?_; refine pu_ (i := 13) (N := some 4) HT_ ?_; refine pu_ (i := 14) (N := some 5) HT_ ?_; refine pu_ (i := 15) (N := some 6) HT_ ?_
    refine done_ (done_of HT_.out (by kernel_rfl)) ?_
    try go_wp2
    refine bodyPost_ret (results_list (rs := [.cell 2 32, .tmp 3, .tmp 4, .tmp 5, .tmp 6]) rfl (by simp) (.cell gb433 32 #[.slice Ao23 t451.length co23, .slice none 0 0] (0, 0) _ rfl (by refine kb_ ?_; refine pz2 (cs := #[.slice none 0 0, .slice none 0 0]) ?_; refine kb_ ?_; exact BK433.out) Try.underlying32 rfl (by kernel_rfl) (.tmp (.tmp (.tmp (.tmp .nil)))))) rfl ?_
    exact ⟨_, _, _, by first | rfl | (simp [errW_none, errW_some] <;> rfl) | (simp [*, errW_none, errW_some] <;> rfl), by (with_reducible repeat (first | apply Kd.Q_alloc | apply Kd.Q_drewN | apply Kd.Q_drew)); exact Kd.Q_mono (Kd.Q_far (p := ⟨gb433, 1, none⟩) (Kd.Q_far (p := ⟨gb433, 0, none⟩) (Kd.Q_types HO453.out BK433.out (by decide)) (fun _ hk => hk.2) (.slice Ao23 t451.length co23)) (fun _ hk => hk.2) (.slice none 0 0)) (fun _ hk => trivial), by first | exact Kd.S_nil _ _ _ _ _ | exact Kd.N_nil _ _ _ _ _ | exact Kd.V_nil _ _ _ _ _ | exact Kd.Q_nil _ _ _ _ _ | exact Kd.R_nil _ _ _ _ _, by refine kS_ ?_; exact Kd.S_mono (Kd.S_far (p := ⟨gb433, 1, none⟩) (Kd.S_far (p := ⟨gb433, 0, none⟩) (Kd.S_types HO_8.out BK433.out (by decide)) (fun _ hk => hk.2) (.slice Ao23 t451.length co23)) (fun _ hk => hk.2) (.slice none 0 0)) (fun _ hk => trivial), hb104_ HB.out⟩
end Go.Proofs.Ytdoohdbfpnmndaa.PFnWholeAsking
