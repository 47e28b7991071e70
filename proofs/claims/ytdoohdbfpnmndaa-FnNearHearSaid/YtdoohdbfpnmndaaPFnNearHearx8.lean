/- Printed by wip/xp/xprint.sh out of the translation, for this claim: what each function answers, as a plain function, and that the machine does just that. No condition. -/
import Derived.Test.YtdoohdbfpnmndaaPFnNearHearx0
import Derived.Test.YtdoohdbfpnmndaaPFnNearHearx3
import Derived.Test.YtdoohdbfpnmndaaPFnNearHearx6
import Derived.Test.YtdoohdbfpnmndaaPFnNearHearx7
namespace Go.Proofs.Ytdoohdbfpnmndaa.PFnNearHear
open Go.RowKit Go.Proofs.YtdoohdbfpnmndaaW.PrintWords Go.Proofs.YtdoohdbfpnmndaaW.PrintLast Go.Proofs.YtdoohdbfpnmndaaW.PrintMore
attribute [local go_sem] max2_int min2_int max_two min_two max_three min_three max_four min_four   -- for this text's walks alone
set_option linter.unusedVariables false
set_option linter.unusedSimpArgs false
open Kd in
theorem Q_append_rows_ {P : Program} {ops : Array Oper} {rest : List Oper} {o : Oper} {a : Act} {Q' : Exit → Act → World → Prop} {α : Type} (d : Kd α) {Rr : α → List Value → Prop} {w0 W : World} (base : Nat) (hgd : o.guard = none) (s x : Operand) (t e : TypeId) (z : Value) (bytes : Nat)
    (ho : o.op = .call { callee := .builtin .append, args := #[s, x], argTypes := #[t, t] })
    (ht : P.underlying t = some (.slice e)) (hinfo : (P.info? e).map (fun i => (i.zero, i.size, i.bytes)) = some (some z, d.sz, bytes)) (hz : z.cells.size = d.sz) (hs0 : 0 < d.sz) (hb0 : 0 < bytes)
    (v : Value) (xs ys : List α) (A : Option Addr) (m c : Nat) (ok okp : Nat → Prop) (hs : a.eval s = v) (hx : a.eval x = .slice A m c)
    (HO : d.Q e W base ok v xs) (HR : ReadsRow Rr d.sz W A m ys) (hKM : ∀ x cs, Rr x cs → d.M W base okp x cs) (hokp : ∀ k, okp k → ok k ∧ some k ≠ v.ownBlock) (hfresh : ∀ k, W.heap.size ≤ k → ok k)
    (HB : Below base w0 W) (hbase : base ≤ W.heap.size) (hl : (xs.length + m) * bytes ≤ 140737488355328)
    (h : ∀ v1 w1, d.Q e w1 base ok v1 (xs ++ ys) → Below base w0 w1 → W.grownBy w1 v.ownBlock → (v1.ownBlock = v.ownBlock ∨ ∃ b, v1.ownBlock = some b ∧ W.heap.size ≤ b) → wpList P ops Q' rest (a.put o.dst v1) w1) :
    wpList P ops Q' (o :: rest) a W := by
  obtain ⟨i0, hi, hzz⟩ := Option.map_eq_some_iff.1 hinfo
  simp only [Prod.mk.injEq] at hzz
  obtain ⟨hz0, hz1, hz2⟩ := hzz
  have hm : ys.length = m := HR.1
  have hlen : xs.length + m ≤ 140737488355328 := Nat.le_trans (Nat.le_mul_of_pos_right _ hb0) hl
  obtain ⟨hok, inner, hown, hr⟩ := HO
  have hrun : ∃ v1 w1, (Builtin.append_ #[t, t] o.type #[v, .slice A m c]).run P W = .ok v1 w1 ∧ d.Q e w1 base ok v1 (xs ++ ys) ∧ W.grownBy w1 v.ownBlock ∧ (v1.ownBlock = v.ownBlock ∨ ∃ b, v1.ownBlock = some b ∧ W.heap.size ≤ b) := by
    rcases Nat.eq_zero_or_pos m with h0 | h0
    · subst h0
      obtain rfl : ys = [] := List.eq_nil_of_length_eq_zero hm
      refine ⟨v, W, ?_, by rw [List.append_nil]; exact ⟨hok, inner, hown, hr⟩, World.grownBy.refl W _, .inl rfl⟩
      rcases hown.2 with ⟨hn, A', rfl, _⟩ | ⟨g, off, cap, cur, rfl, _, _, hnc, _⟩
      · cases A <;> cases A' <;> simp [Builtin.append_, run_underlying ht, sizeOf, typeInfo, hi, Builtin.lenOf, Builtin.firstCells, loadCells, loadCellsFrom, storeCells]
      · cases A <;> simp [Builtin.append_, run_underlying ht, sizeOf, typeInfo, hi, Builtin.lenOf, Builtin.firstCells, hnc, loadCells, loadCellsFrom, storeCells]
    · obtain ⟨ad, rfl, _⟩ := HR.2.2 h0
      obtain ⟨news, hnr, hnc⟩ := ReadsRow.inner_ HR
      have hnM : Reps (d.M W base okp) d.sz ys news := hnr.imp_ (fun p c hp => hKM p c hp)
      have hone : ∀ u ∈ news, u.oneCell' = true := by
        intro u hu
        obtain ⟨q, hq, rfl⟩ := List.mem_iff_getElem.1 hu
        have hql : q / d.sz < ys.length := by
          rw [Nat.div_lt_iff_lt_mul hs0]
          rw [← hnM.1]
          exact hq
        have hc := hnM.2 (q / d.sz) _ (List.getElem?_eq_getElem hql)
        refine d.K_one (d.K_of_M hc) _ ?_
        rw [List.mem_iff_getElem?]
        refine ⟨q % d.sz, ?_⟩
        rw [List.getElem?_take, if_pos (Nat.mod_lt _ hs0), List.getElem?_drop, Nat.mul_comm, Nat.div_add_mod, List.getElem?_eq_getElem hq]
      obtain ⟨v1, w1, hrun, h2, hg, hat'⟩ := q_append (P := P) W base t o.type e i0 z d.sz bytes ht hi hz0 hz1 hz2 hz hs0 v xs.length inner hown ad m c news (by rw [hnM.1, hm]) hnc hone h0 (by simp only [maxLen]; omega) hl hbase
      have hne : ∀ k, some k ≠ v.ownBlock → k < W.heap.size → some k ≠ v1.ownBlock := by
        intro k hk hlt
        rcases hat' with hat | ⟨b, hb, hle⟩
        · rw [hat]; exact hk
        · rw [hb]
          intro he
          injection he with he
          omega
      have step : ∀ {q : α} {c : List Value} {o : Nat → Prop}, d.M W base o q c → (∀ k, o k → ok k ∧ some k ≠ v.ownBlock) → d.M w1 base (fun k => ok k ∧ some k ≠ v1.ownBlock) q c := by
        intro q c o hq ho
        have h1 := d.M_move (w1 := w1) (fun k hk => hg.block k hk.2.2.1 (ho k hk.1).2) (d.M_bound hq)
        exact d.M_mono (fun k hk => ⟨(ho k hk.1).1, hne k (ho k hk.1).2 hk.2.2.1⟩) h1
      refine ⟨v1, w1, hrun, ⟨fun k hk => ?_, inner ++ news, by rw [List.length_append, hm]; exact h2, reps_append (hr.imp_ (fun _ _ hq => step hq (fun _ hk => hk))) (hnM.imp_ (fun _ _ hq => step hq hokp))⟩, hg, hat'⟩
      rcases hat' with hat | ⟨b, hb, hle⟩
      · exact hok k (hat ▸ hk)
      · rw [hb] at hk
        injection hk with hk
        exact hfresh k (by omega)
  obtain ⟨v1, w1, hr1, h1, hg, hat⟩ := hrun
  refine wpList_plain hgd fun K hK => ?_
  unfold Oper.wp execOp
  simp only [ho, resolve, invoke, builtin, Sem.run_bind, Sem.run_pure, Result.andThen_ok, List.map_toArray, List.map_cons, List.map_nil, hs, hx, hr1]
  exact hK _ _ (h v1 w1 h1 (HB.grown hg hbase (fun k hk => (q_typed hown k hk).1)) hg hat)
open Kd in
theorem Q_run2_ {P : Program} {α : Type} (d : Kd α) {w0 W : World} (base : Nat) (t ty e : TypeId) (z : Value) (bytes : Nat)
    (ht : P.underlying t = some (.slice e)) (hinfo : (P.info? e).map (fun i => (i.zero, i.size, i.bytes)) = some (some z, d.sz, bytes)) (hz : z.cells.size = d.sz) (hs0 : 0 < d.sz) (hb0 : 0 < bytes)
    (v : Value) (xs : List α) (p p2 : α) (cs cs2 cc : List Value) (hcc : cc = cs ++ cs2) (ok : Nat → Prop) (hp : d.M W base (fun _ => False) p cs) (hp2 : d.M W base (fun _ => False) p2 cs2) (hfresh : ∀ k, W.heap.size ≤ k → ok k)
    (HO : d.Q e W base ok v xs) (HB : Below base w0 W) (hbase : base ≤ W.heap.size) (hl : (xs.length + 2) * bytes ≤ 140737488355328) :
    ∃ v1 w1, (Builtin.append_ #[t, t] ty #[v, .slice (some ⟨W.heap.size, 0, none⟩) 2 2]).run P (W.alloc (.cells cc.toArray e)) = .ok v1 w1 ∧ d.Q e w1 base ok v1 (xs ++ [p, p2]) ∧ Below base w0 w1 ∧ W.grownBy w1 v.ownBlock ∧ (v1.ownBlock = v.ownBlock ∨ ∃ b, v1.ownBlock = some b ∧ W.heap.size ≤ b) := by
  subst hcc
  obtain ⟨h0, inner, hown, hr⟩ := HO
  obtain ⟨i0, hi, hzz⟩ := Option.map_eq_some_iff.1 hinfo
  simp only [Prod.mk.injEq] at hzz
  obtain ⟨hz0, hz1, hz2⟩ := hzz
  have hlen : xs.length + 2 ≤ 140737488355328 := Nat.le_trans (Nat.le_mul_of_pos_right _ hb0) hl
  have hcl := d.K_len (d.K_of_M hp)
  have hcl2 := d.K_len (d.K_of_M hp2)
  have hq : QRow (W.alloc (.cells (cs ++ cs2).toArray e)) base e d.sz v xs.length inner := q_move hown (fun k hk => Below.heap_alloc W _ k (q_lt hown k hk))
  obtain ⟨v1, w1, hrun, hq1, hg1, hat⟩ := q_append (P := P) (W.alloc (.cells (cs ++ cs2).toArray e)) base t ty e i0 z d.sz bytes ht hi hz0 hz1 hz2 hz hs0 v xs.length inner hq ⟨W.heap.size, 0, none⟩ 2 2 (cs ++ cs2) (by rw [List.length_append, hcl, hcl2]; omega)
    (by simpa using World.news_of_block (cs := (cs ++ cs2).toArray) (t := e) (fr := (0, 0)) (heap_alloc_new W (.cells (cs ++ cs2).toArray e))) (by
      intro u hu
      rw [List.mem_append] at hu
      rcases hu with hu | hu
      · exact d.K_one (d.K_of_M hp) u hu
      · exact d.K_one (d.K_of_M hp2) u hu) (by omega) (by simp only [maxLen]; omega) hl (by simp; omega)
  have hg : W.grownBy w1 v.ownBlock := World.grownBy.trans (World.grownBy_alloc W _ _) hg1
  have hat' : v1.ownBlock = v.ownBlock ∨ ∃ b, v1.ownBlock = some b ∧ W.heap.size ≤ b := by
    rcases hat with hat | ⟨b, hb, hle⟩
    · exact .inl hat
    · exact .inr ⟨b, hb, by rw [World.size_alloc] at hle; omega⟩
  have hne : ∀ k, some k ≠ v.ownBlock → k < W.heap.size → some k ≠ v1.ownBlock := by
    intro k hk hlt
    rcases hat' with hat | ⟨b, hb, hle⟩
    · rw [hat]; exact hk
    · rw [hb]
      intro he
      injection he with he
      omega
  have step : ∀ {q : α} {c : List Value} {o : Nat → Prop}, d.M W base o q c → (∀ k, o k → ok k ∧ some k ≠ v.ownBlock) → d.M w1 base (fun k => ok k ∧ some k ≠ v1.ownBlock) q c := by
    intro q c o hq ho
    have h1 := d.M_move (w1 := w1) (fun k hk => hg.block k hk.2.2.1 (ho k hk.1).2) (d.M_bound hq)
    exact d.M_mono (fun k hk => ⟨(ho k hk.1).1, hne k (ho k hk.1).2 hk.2.2.1⟩) h1
  refine ⟨v1, w1, hrun, ⟨fun k hk => ?_, inner ++ (cs ++ cs2), by rw [List.length_append]; exact hq1, ?_⟩, HB.grown hg hbase (fun k hk => (q_typed hown k hk).1), hg, hat'⟩
  · rcases hat' with hat | ⟨b, hb, hle⟩
    · exact h0 k (hat ▸ hk)
    · rw [hb] at hk
      injection hk with hk
      exact hfresh k (by omega)
  · have r1 := ((hr.imp_ (fun _ _ hq => step hq (fun _ hk => hk))).snoc (step hp (fun _ hk => hk.elim)) hcl).snoc (step hp2 (fun _ hk => hk.elim)) hcl2
    rw [List.append_assoc, List.append_assoc] at r1
    exact r1
open Kd in
theorem Q_append2s_ {P : Program} {ops : Array Oper} {o : Oper} {a : Act} {Q' : Exit → Act → World → Prop} {Kc : Act → World → Prop} {α : Type} (d : Kd α) {w0 W : World} (base : Nat) (hw : Region.wanted o (yielded ops a.tmps) = true) (s x : Operand) (t e : TypeId) (z : Value) (bytes : Nat)
    (ho : o.op = .call { callee := .builtin .append, args := #[s, x], argTypes := #[t, t] })
    (ht : P.underlying t = some (.slice e)) (hinfo : (P.info? e).map (fun i => (i.zero, i.size, i.bytes)) = some (some z, d.sz, bytes)) (hz : z.cells.size = d.sz) (hs0 : 0 < d.sz) (hb0 : 0 < bytes)
    (v : Value) (xs : List α) (p p2 : α) (cs cs2 cc : List Value) (hcc : cc = cs ++ cs2) (ok : Nat → Prop) (hs : a.eval s = v) (hx : a.eval x = .slice (some ⟨W.heap.size, 0, none⟩) 2 2) (hp : d.M W base (fun _ => False) p cs) (hp2 : d.M W base (fun _ => False) p2 cs2) (hfresh : ∀ k, W.heap.size ≤ k → ok k)
    (HO : d.Q e W base ok v xs) (HB : Below base w0 W) (hbase : base ≤ W.heap.size) (hl : (xs.length + 2) * bytes ≤ 140737488355328)
    (h : ∀ v1 w1, d.Q e w1 base ok v1 (xs ++ [p, p2]) → Below base w0 w1 → W.grownBy w1 v.ownBlock → (v1.ownBlock = v.ownBlock ∨ ∃ b, v1.ownBlock = some b ∧ W.heap.size ≤ b) → Kc (a.put o.dst v1) w1) :
    if Region.wanted o (yielded ops a.tmps) = true then Oper.wp P o a (W.alloc (.cells cc.toArray e)) Kc Q' else Kc (a.put o.dst undef) (W.alloc (.cells cc.toArray e)) := by
  obtain ⟨v1, w1, hr, h1, h2, h3, h4⟩ := Q_run2_ (P := P) d base t o.type e z bytes ht hinfo hz hs0 hb0 v xs p p2 cs cs2 cc hcc ok hp hp2 hfresh HO HB hbase hl
  rw [if_pos hw]
  unfold Oper.wp execOp
  simp only [ho, resolve, invoke, builtin, Sem.run_bind, Sem.run_pure, Result.andThen_ok, List.map_toArray, List.map_cons, List.map_nil, hs, hx, hr]
  exact h v1 w1 h1 h2 h3 h4
def spec_l20Near.l0 : Nat → Int → Int → List Int → Int → List (S63) → List (S65) → Option ((List (S63)) × (List (S65)) × Int)
 | 0, _, _, _, _, _, _ => none
 | k + 1, x1, x6, x1000, x1001, x348000, x348001 => if x6 > 0 then ((spec_l20Rd_pick.f k x1000 x1001 2).bind fun bt350 => (if bt350.1 = 0 then ((spec_l20Rd_pick.f k x1000 bt350.2 6).bind fun bt352 => ((spec_l20Rd_pick.f k x1000 bt352.2 3).bind fun bt354 => ((spec_l20Rd_bytes.f k x1000 bt354.2 bt354.1).bind fun bt356 => ((spec_l20Rd_pick.f k x1000 bt356.2 30).bind fun bt360 => ((spec_NearSend.f k x348000 x348001 bt352.1 bt356.1 bt360.1).bind fun bt362 => (spec_l20Near.l0 k x1 (wrap64 (x6 - 1)) x1000 bt360.2 bt362.1 bt362.2.1)))))) else ((spec_l20Rd_pick.f k x1000 bt350.2 6).bind fun bt369 => ((spec_l20Query.f k x1000 bt369.2 0).bind fun bt371 => ((spec_l20Rd_pick.f k x1000 bt371.2.2.2.2 30).bind fun bt376 => ((spec_NearHear.f k x348000 x348001 bt369.1 bt371.1 bt371.2.1 bt371.2.2.1 bt371.2.2.2.1 bt376.1).bind fun bt378 => (spec_l20Near.l0 k x1 (wrap64 (x6 - 1)) x1000 bt376.2 bt378.1 bt378.2.1))))))) else ((spec_l20Rd_odd.f k x1000 x1001 x1).bind fun bt387 => (if bt387.1 = true then ((spec_l20Rd_pick.f k x1000 bt387.2 3).bind fun bt389 => (if bt389.1 = 0 then ((spec_l20Rd_pick.f k x1000 bt389.2 6).bind fun bt391 => ((spec_l20Rd_pick.f k x1000 bt391.2 300).bind fun bt393 => ((spec_l20Rd_pick.f k x1000 bt393.2 9).bind fun bt395 => (if x348000.length < 5864062014805 then (some ((x348000 ++ [(⟨bt391.1, bt393.1, bt395.1⟩ : S63)]), x348001, bt395.2)) else (none))))) else (if bt389.1 = 1 then ((spec_l20Rd_pick.f k x1000 bt389.2 6).bind fun bt400 => (if x348001.length + 1 < 4398046511104 then (some (x348000, (x348001 ++ [(⟨bt400.1, ([] : List Int)⟩ : S65), (⟨65536, ([] : List Int)⟩ : S65)]), bt400.2)) else (none))) else (if x348000.length + x348000.length < 5864062014805 then (some ((x348000 ++ x348000), x348001, bt389.2)) else (none))))) else (some (x348000, x348001, bt387.2))))
def spec_l20Near.f (k : Nat) (s0_0 : List Int) (s0_1 : Int) (a1 : Int) : Option ((List (S63)) × (List (S65)) × Int) := (spec_l20Rd_pick.f k s0_0 s0_1 10).bind fun bt348 => (spec_l20Near.l0 k a1 bt348.1 s0_0 bt348.2 ([] : List (S63)) ([] : List (S65)))
theorem spec_l20Near.mono_l : ∀ k, (∀ y0 y1 y2 y3 y4 y5, LeO (spec_l20Near.l0 k y0 y1 y2 y3 y4 y5) (spec_l20Near.l0 (k + 1) y0 y1 y2 y3 y4 y5))
 | 0 => fun _ _ _ _ _ _ r h => by simp [spec_l20Near.l0] at h
 | k + 1 => by
  have ih0 := spec_l20Near.mono_l k
  ·intro y0 y1 y2 y3 y4 y5
   unfold spec_l20Near.l0
   repeat' first | (with_reducible first | apply ih0 | apply spec_NearHear.mono | apply spec_NearSend.mono | apply spec_l20Query.mono | apply spec_l20Rd_bytes.mono | apply spec_l20Rd_odd.mono | apply spec_l20Rd_pick.mono | exact LeO.refl _ | exact LeO.none _ | refine LeO.ite ?_ ?_ | refine LeO.bind ?_ fun _ => ?_) | apply ih0 | apply spec_NearHear.mono | apply spec_NearSend.mono | apply spec_l20Query.mono | apply spec_l20Rd_bytes.mono | apply spec_l20Rd_odd.mono | apply spec_l20Rd_pick.mono | exact LeO.none _ | refine LeO.ite ?_ ?_ | refine LeO.bind ?_ fun _ => ?_
theorem spec_l20Near.mono : ∀ a0 a1 a2 k, LeO (spec_l20Near.f k a0 a1 a2) (spec_l20Near.f (k + 1) a0 a1 a2) := by
 intro a0 a1 a2 k
 have ih0 := spec_l20Near.mono_l k
 unfold spec_l20Near.f
 repeat' first | (with_reducible first | apply ih0 | apply spec_NearHear.mono | apply spec_NearSend.mono | apply spec_l20Query.mono | apply spec_l20Rd_bytes.mono | apply spec_l20Rd_odd.mono | apply spec_l20Rd_pick.mono | exact LeO.refl _ | exact LeO.none _ | refine LeO.ite ?_ ?_ | refine LeO.bind ?_ fun _ => ?_) | apply ih0 | apply spec_NearHear.mono | apply spec_NearSend.mono | apply spec_l20Query.mono | apply spec_l20Rd_bytes.mono | apply spec_l20Rd_odd.mono | apply spec_l20Rd_pick.mono | exact LeO.none _ | refine LeO.ite ?_ ?_ | refine LeO.bind ?_ fun _ => ?_
def spec_l20Near.T6 : Bool × List (List Nat × List Nat) := (true, [([], []), ([], []), ([1], [1]), ([], []), ([], []), ([4, 2], [4]), ([3, 5, 5], [3, 5]), ([], []), ([7, 6], [7]), ([0, 2, 6, 8, 8], [0, 2, 6, 8]), ([9], [9]), ([10], [10]), ([10], [10]), ([11, 9, 0, 1, 2, 3, 4, 5, 6, 7, 8, 9, 10, 11], [11])])
def spec_l20Near.B6 : List Nat := [0, 0, 2, 0, 0, 22, 62, 0, 254, 511, 1023, 2047, 2047, 4095]
theorem spec_l20Near.tab6 : rtab .any (opsOf Try.f57 6) = spec_l20Near.T6 := by kernel_rfl
theorem spec_l20Near.bits6 : waitsOk spec_l20Near.T6.2 spec_l20Near.B6 = true := by kernel_rfl
def spec_l20Near.T7 : Bool × List (List Nat × List Nat) := (true, [([], []), ([], []), ([1], [1]), ([], []), ([3, 2], [3]), ([], []), ([5, 4], [5]), ([0, 2, 4, 6, 6], [0, 2, 4, 6]), ([7], [7]), ([8], [8]), ([8], [8]), ([9, 7, 0, 1, 2, 3, 4, 5, 6, 7, 8, 9], [9])])
def spec_l20Near.B7 : List Nat := [0, 0, 2, 0, 14, 0, 62, 127, 255, 511, 511, 1023]
theorem spec_l20Near.tab7 : rtab .any (opsOf Try.f57 7) = spec_l20Near.T7 := by kernel_rfl
theorem spec_l20Near.bits7 : waitsOk spec_l20Near.T7.2 spec_l20Near.B7 = true := by kernel_rfl
def spec_l20Near.T12 : Bool × List (List Nat × List Nat) := (true, [([], []), ([0], [0]), ([], []), ([2], [2]), ([], []), ([4, 3], [4]), ([], []), ([6, 5], [6]), ([3, 5, 7], [3, 5, 7]), ([8], [8]), ([1, 9, 7], [1, 9]), ([0, 1, 2, 3, 4, 5, 6, 7, 8, 9, 10], []), ([11, 10, 10, 0, 1, 2, 3, 4, 5, 6, 7, 8, 9, 10], [10, 11])])
def spec_l20Near.B12 : List Nat := [0, 1, 0, 4, 0, 28, 0, 124, 252, 508, 1023, 2047, 4095]
theorem spec_l20Near.tab12 : rtab .any (opsOf Try.f57 12) = spec_l20Near.T12 := by kernel_rfl
theorem spec_l20Near.bits12 : waitsOk spec_l20Near.T12.2 spec_l20Near.B12 = true := by kernel_rfl
def spec_l20Near.T14 : Bool × List (List Nat × List Nat) := (true, [([], []), ([0], [0]), ([], []), ([2], [2]), ([3], [3]), ([], []), ([4, 5], [4, 5]), ([1, 6, 3], [1, 6]), ([0, 1, 2, 3, 4, 5, 6, 7], []), ([8, 7, 7, 0, 1, 2, 3, 4, 5, 6, 7], [7, 8])])
def spec_l20Near.B14 : List Nat := [0, 1, 0, 4, 12, 0, 60, 127, 255, 511]
theorem spec_l20Near.tab14 : rtab .any (opsOf Try.f57 14) = spec_l20Near.T14 := by kernel_rfl
theorem spec_l20Near.bits14 : waitsOk spec_l20Near.T14.2 spec_l20Near.B14 = true := by kernel_rfl
set_option maxHeartbeats 8000000 in
set_option maxRecDepth 100000 in
theorem spec_l20Near.calls (k : Nat) (g : Nat) (s0_0 : List Int) (s0_1 : Int) (a1 : Int) (r1 : List (S63)) (r2 : List (S65)) (r3 : Int) (w0 w : World) (hI : IsS104 w0 w g s0_0 s0_1) (hB : Below w0.heap.size w0 w) (h : spec_l20Near.f k s0_0 s0_1 a1 = some (r1, r2, r3)) :
  Calls Try.prog 57 #[.pointer (some ⟨g, 0, none⟩), .int .i64 a1] w fun e w' => ∃ v0_ v1_ : Value, e = .returned (.agg #[v0_, v1_]) ∧ Kd.Q k63 63 w' w.heap.size (fun _ => True) v0_ r1 ∧ Kd.Q k65 65 w' w.heap.size (fun _ => True) v1_ r2 ∧ IsS104 w0 w' g s0_0 r3 ∧ Below w0.heap.size w0 w' ∧ KeepBut w w' g none := by
 have hu32 := Try.underlying32; have hu63 := Try.underlying63; have hu65 := Try.underlying65; have HI0 := Aside0.mk hI
 have HK := Aside0.mk (KeepBut.refl w g none)
 have HL := Aside0.mk hB.size; clear hI; have HW0 := Aside0.mk hB.size; have HB := Aside0.mk hB; clear hB
 have H : ((spec_l20Rd_pick.f k s0_0 s0_1 10).bind fun bt348 => (spec_l20Near.l0 k a1 bt348.1 s0_0 bt348.2 ([] : List (S63)) ([] : List (S65)))) = some (r1, r2, r3) := h
 clear h
 replace H := Option.bind_eq_some_iff.mp H
 obtain ⟨⟨t348, t349⟩, A30, H⟩ := H
 (try dsimp only at H)
 have A3 := Aside0.mk A30; clear A30
 have H' := Aside0.mk H
 clear H
 go_enter Try.func57, Try.ntmps57
 go_wp2_with (first | ((with_reducible refine gate_dst (N := 4) rfl ?_); refine box_ (N := 4) (cs := #[.slice none 0 0, .slice none 0 0]) (t := 32) (fun gb346 hg w4 hbox hb => ?_); replace HB := (bs104_ HB hb); have BK346 := Aside0.mk (hbox); have GW346 := gk_ hg HK; have GE346 := Aside0.mk ((Nat.le_trans HW0.out (by rw [hg]; exact (keep_size (w := w) (g := g) (row := none) (hkA_ HK.out)) : w.heap.size ≤ gb346) : w0.heap.size ≤ gb346)); replace HK := (kw_ HK hb); have NB0_346 := nl104_ hg HI0; have NB346_0 := ng104_ hg HI0; replace HI0 := (ib104_ HI0 hb); clear hb hbox hg) | ((with_reducible refine gate_dst (N := 5) rfl ?_); refine box_ (N := 5) (cs := #[.slice none 0 0, .slice none 0 0]) (t := 32) (fun gb347 hg w5 hbox hb => ?_); replace HB := (bs104_ HB hb); have BK347 := Aside0.mk (hbox); have GW347 := gk_ hg HK; have GE347 := Aside0.mk ((Nat.le_trans HW0.out (by rw [hg]; exact (keep_size (w := w) (g := g) (row := none) (hkA_ HK.out)) : w.heap.size ≤ gb347) : w0.heap.size ≤ gb347)); replace HK := (kw_ HK hb); have NB346_347 := nl_ hg BK346; have NB347_346 := ng_ hg BK346; replace BK346 := (bbA_ BK346 hb); have NB0_347 := nl104_ hg HI0; have NB347_0 := ng104_ hg HI0; replace HI0 := (ib104_ HI0 hb); clear hb hbox hg; have hnb6 := NB347_346.out; have hnc6 := NB346_347.out; have hnb7 := NB347_0.out; have hnc7 := NB0_347.out; have Z8 := zz2 BK347) | ((with_reducible refine gate_callee (f := 58) rfl ?_); refine goesL_ (some 9) rfl rfl Try.func58 (by kernel_rfl) rfl #[.pointer (some ⟨g, 0, none⟩), .int .i64 10] rfl ar_ ?_; (with_reducible refine (spec_l20Rd_pick.calls k g s0_0 s0_1 10 t348 t349 w0 _ ?side1 ?side2 A3.out).mono ?_); (case side1 => exact is104_ HI0.out); (case side2 => exact hb104_ HB.out); rintro e w9 ⟨rfl, hi, hb, hk⟩; refine ⟨_, rfl, ?_⟩; replace BK346 := Aside0.mk (KeepBut.blk hk (g' := gb346) (o := .cells #[.slice none 0 0, .slice none 0 0] 32 (0, 0)) (by exact kf_ BK346.out) NB346_0.out (by simp)); replace BK347 := Aside0.mk (KeepBut.blk hk (g' := gb347) (o := .cells #[.slice none 0 0, .slice none 0 0] 32 (0, 0)) (by refine kb_ ?_; refine pz2 (cs := #[.slice none 0 0, .slice none 0 0]) ?_; refine kb_ ?_; exact BK347.out) NB347_0.out (by simp)); replace HK := (kk_ HK hk); replace HB := Aside0.mk (hb); replace HI0 := Aside0.mk (hi); (try clear hb); (try clear hb2); (try clear hk); (try clear hi)))
 go_loopg [6] k (fun kq v6 w' => ∃ (x6_1 : Int) (x1001_1 : Int) (x348000_1 : List (S63)) (x348001_1 : List (S65)) (u348000 : Value) (u348001 : Value), v6 = .int .i64 x6_1 ∧ Aside0 (spec_l20Near.l0 kq a1 x6_1 s0_0 x1001_1 x348000_1 x348001_1 = some (r1, r2, r3)) ∧ Aside0 (kq ≤ k) ∧ Aside0 (Kd.Q k63 63 w' w.heap.size (fun _ => True) u348000 x348000_1) ∧ Aside0 (Kd.Q k65 65 w' w.heap.size (fun _ => True) u348001 x348001_1) ∧ Aside0 (w'.heap[gb346]? = some (.cells #[(.slice none 0 0), (.slice none 0 0)] 32 (0, 0))) ∧ Aside0 (w'.heap[gb347]? = some (.cells #[u348000, u348001] 32 (0, 0))) ∧ Aside0 (IsS104 w0 w' g s0_0 x1001_1) ∧ Aside0 (KeepBut w w' g none) ∧ Aside0 (Below w0.heap.size w0 w'))
 case atStart => exact ⟨(t348), (t349), (([] : List (S63))), (([] : List (S65))), (.slice none 0 0), (.slice none 0 0), (by first | rfl | (simp; done) | (simp [*]; done)), H', ⟨Nat.le_refl _⟩, ⟨Kd.Q_of_R (by first | exact Kd.R_nil _ _ _ _ _ | exact Kd.N_nil _ _ _ _ _ | exact Kd.V_nil _ _ _ _ _ | exact Kd.Q_nil _ _ _ _ _ | exact Kd.S_nil _ _ _ _ _)⟩, ⟨Kd.Q_of_R ((Kd.S_R (by first | exact Kd.S_nil _ _ _ _ _ | exact Kd.N_nil _ _ _ _ _ | exact Kd.V_nil _ _ _ _ _ | exact Kd.Q_nil _ _ _ _ _ | exact Kd.R_nil _ _ _ _ _)))⟩, ⟨by refine kb_ ?_; exact BK346.out⟩, ⟨by refine kb_ ?_; exact BK347.out⟩, ⟨is104_ HI0.out⟩, ⟨hkA_ HK.out⟩, ⟨hb104_ HB.out⟩⟩
 case round =>
  clear H'; (try clear p2); (try clear c5); (try clear c6); (try clear c7); (try clear Z8)
  obtain ⟨x6_1, x1001_1, x348000_1, x348001_1, u348000, u348001, rfl, HA, HK1, HO_348000, HO_348001, BK346, BK347, HI0, HK, HB⟩ := hrel
  cases gk with
  | zero => exact absurd HA.out (by simp [spec_l20Near.l0])
  | succ k1 =>
   have H := HA.out; clear HA
   simp only [spec_l20Near.l0] at H
   by_cases c10 : x6_1 > 0
   ·rw [if_pos c10] at H
    have c10b0 : decide (0 < x6_1) = true := decide_eq_true c10
    clear c10
    replace H := Option.bind_eq_some_iff.mp H
    obtain ⟨⟨t350, t351⟩, A110, H⟩ := H
    (try dsimp only at H)
    have A11 := Aside0.mk A110; clear A110
    by_cases c12 : t350 = 0
    ·rw [if_pos c12] at H
     have c12b0 : (t350 == 0) = true := beq_iff_eq.mpr c12
     have c12b1 : (t350 != 0) = false := bne_eq_false_iff_eq.mpr c12
     clear c12
     replace H := Option.bind_eq_some_iff.mp H
     obtain ⟨⟨t352, t353⟩, A130, H⟩ := H
     (try dsimp only at H)
     have A13 := Aside0.mk A130; clear A130
     replace H := Option.bind_eq_some_iff.mp H
     obtain ⟨⟨t354, t355⟩, A140, H⟩ := H
     (try dsimp only at H)
     have A14 := Aside0.mk A140; clear A140
     replace H := Option.bind_eq_some_iff.mp H
     obtain ⟨⟨t356, t359⟩, A150, H⟩ := H
     (try dsimp only at H)
     have A15 := Aside0.mk A150; clear A150
     replace H := Option.bind_eq_some_iff.mp H
     obtain ⟨⟨t360, t361⟩, A160, H⟩ := H
     (try dsimp only at H)
     have A16 := Aside0.mk A160; clear A160
     replace H := Option.bind_eq_some_iff.mp H
     obtain ⟨⟨t362, t365, t368⟩, A170, H⟩ := H
     (try dsimp only at H)
     have A17 := Aside0.mk A170; clear A170
     have H' := Aside0.mk H
     clear H
     try go_wp2_with (first | ((with_reducible refine gate_callee (f := 58) rfl ?_); refine goesL_ (some 15) rfl rfl Try.func58 (by kernel_rfl) rfl #[.pointer (some ⟨g, 0, none⟩), .int .i64 2] rfl ar_ ?_; (with_reducible refine (spec_l20Rd_pick.calls k1 g s0_0 x1001_1 2 t350 t351 w0 _ ?side1 ?side2 A11.out).mono ?_); (case side1 => exact is104_ HI0.out); (case side2 => exact hb104_ HB.out); rintro e w18 ⟨rfl, hi, hb, hk⟩; refine ⟨_, rfl, ?_⟩; replace HO_348000 := Aside0.mk (Kd.Q_mono (Kd.Q_keep (IsS104.apartQ (show IsS104 w0 _ g s0_0 x1001_1 from is104_ HI0.out) (by (with_reducible repeat (first | apply Kd.Q_alloc | apply Kd.Q_drewN | apply Kd.Q_drew)); exact HO_348000.out) (by decide)) hk (fun _ h => h.2)) (fun _ h => h.1)); replace HO_348001 := Aside0.mk (Kd.Q_mono (Kd.Q_keep (IsS104.apartQ (show IsS104 w0 _ g s0_0 x1001_1 from is104_ HI0.out) (by (with_reducible repeat (first | apply Kd.Q_alloc | apply Kd.Q_drewN | apply Kd.Q_drew)); exact HO_348001.out) (by decide)) hk (fun _ h => h.2)) (fun _ h => h.1)); replace BK346 := (bkA_ BK346 hk NB346_0); replace BK347 := (bkA_ BK347 hk NB347_0); replace HK := (kk_ HK hk); replace HB := Aside0.mk (hb); replace HI0 := Aside0.mk (hi); (try clear hb); (try clear hb2); (try clear hk); (try clear hi)))
     replace HO_348000 := Aside0.mk (Kd.Q_drew HO_348000.out); replace HO_348001 := Aside0.mk (Kd.Q_drew HO_348001.out); replace BK346 := Aside0.mk (blk_drew BK346.out); replace BK347 := Aside0.mk (blk_drew BK347.out); replace HI0 := Aside0.mk (IsS104.drew HI0.out); replace HK := Aside0.mk (keep_drew HK.out); replace HB := (bd_ HB)
     refine start_ (n := 14) (S := fun w' => w'.cell? ⟨gb347, 0, none⟩ = some (u348000) ∧ w'.cell? ⟨gb347, 1, none⟩ = some (u348001)) (ds := [13]) #[false, false, false, false, false, false, false, false, false, false, false, false, false, false] (by kernel_rfl) rfl rfl (cz2 BK347.out) (fun hHeld => ?_); refine with_tabW spec_l20Near.tab6 spec_l20Near.bits6 (fun HT_ HW_ => ?_)
     generalize w18.drew = w19 at HO_348000 HO_348001 BK346 BK347 HI0 HK HB hHeld ⊢
     refine pu_ (i := 1) (N := some 19) HT_ ?_; refine pu_ (i := 3) (N := some 21) HT_ ?_; refine pu_ (i := 4) (N := some 22) HT_ ?_; refine pu_ (i := 7) (N := some 25) HT_ ?_; refine tk_ (i := 0) (N := some 18) HT_ HW_ hHeld ?_
     refine on_ (i := 2) (N := some 20) HT_ (fun K hK => ?_)
     refine goes_ Try.func58 (by kernel_rfl) rfl #[.pointer (some ⟨g, 0, none⟩), .int .i64 6] (by rfl) rfl rfl ar_ ?_
     with_reducible refine (spec_l20Rd_pick.calls k1 g s0_0 t351 6 t352 t353 w0 _ ?side1 ?side2 A13.out).mono ?_
     (case side1 => exact is104_ HI0.out)
     (case side2 => exact hb104_ HB.out)
     rintro e w20 ⟨rfl, hi, hb, hk⟩
     refine ⟨_, rfl, ?_⟩
     replace HO_348000 := Aside0.mk (Kd.Q_mono (Kd.Q_keep (IsS104.apartQ (show IsS104 w0 _ g s0_0 t351 from is104_ HI0.out) (by (with_reducible repeat (first | apply Kd.Q_alloc | apply Kd.Q_drewN | apply Kd.Q_drew)); exact HO_348000.out) (by decide)) hk (fun _ h => h.2)) (fun _ h => h.1)); replace HO_348001 := Aside0.mk (Kd.Q_mono (Kd.Q_keep (IsS104.apartQ (show IsS104 w0 _ g s0_0 t351 from is104_ HI0.out) (by (with_reducible repeat (first | apply Kd.Q_alloc | apply Kd.Q_drewN | apply Kd.Q_drew)); exact HO_348001.out) (by decide)) hk (fun _ h => h.2)) (fun _ h => h.1)); replace BK346 := (bkA_ BK346 hk NB346_0); replace BK347 := (bkA_ BK347 hk NB347_0); replace HK := (kk_ HK hk); replace HB := Aside0.mk (hb); replace HI0 := Aside0.mk (hi); (try clear hb); (try clear hb2); (try clear hk); (try clear hi)
     refine hK.out _ _ (cz2 BK347.out) (fun hHeld => ?_)
     clear hK K; refine nm_ 20 ?_
     refine on_ (i := 5) (N := some 23) HT_ (fun K hK => ?_)
     refine goes_ Try.func58 (by kernel_rfl) rfl #[.pointer (some ⟨g, 0, none⟩), .int .i64 3] (by rfl) rfl rfl ar_ ?_
     with_reducible refine (spec_l20Rd_pick.calls k1 g s0_0 t353 3 t354 t355 w0 _ ?side1 ?side2 A14.out).mono ?_
     (case side1 => exact is104_ HI0.out)
     (case side2 => exact hb104_ HB.out)
     rintro e w21 ⟨rfl, hi, hb, hk⟩
     refine ⟨_, rfl, ?_⟩
     replace HO_348000 := Aside0.mk (Kd.Q_mono (Kd.Q_keep (IsS104.apartQ (show IsS104 w0 _ g s0_0 t353 from is104_ HI0.out) (by (with_reducible repeat (first | apply Kd.Q_alloc | apply Kd.Q_drewN | apply Kd.Q_drew)); exact HO_348000.out) (by decide)) hk (fun _ h => h.2)) (fun _ h => h.1)); replace HO_348001 := Aside0.mk (Kd.Q_mono (Kd.Q_keep (IsS104.apartQ (show IsS104 w0 _ g s0_0 t353 from is104_ HI0.out) (by (with_reducible repeat (first | apply Kd.Q_alloc | apply Kd.Q_drewN | apply Kd.Q_drew)); exact HO_348001.out) (by decide)) hk (fun _ h => h.2)) (fun _ h => h.1)); replace BK346 := (bkA_ BK346 hk NB346_0); replace BK347 := (bkA_ BK347 hk NB347_0); replace HK := (kk_ HK hk); replace HB := Aside0.mk (hb); replace HI0 := Aside0.mk (hi); (try clear hb); (try clear hb2); (try clear hk); (try clear hi)
     refine hK.out _ _ (cz2 BK347.out) (fun hHeld => ?_)
     clear hK K; refine nm_ 23 ?_
     refine on_ (i := 6) (N := some 24) HT_ (fun K hK => ?_)
     refine goes_ Try.func65 (by kernel_rfl) rfl #[.pointer (some ⟨g, 0, none⟩), .int .i64 t354] (by rfl) rfl rfl ar_ ?_
     with_reducible refine (spec_l20Rd_bytes.calls k1 g s0_0 t355 t354 t356 t359 w0 _ ?side1 ?side2 A15.out).mono ?_
     (case side1 => exact is104_ HI0.out)
     (case side2 => exact hb104_ HB.out)
     rintro e w22 ⟨v357, rfl, ho0, hi, hb, hk⟩
     refine ⟨_, rfl, ?_⟩
     replace HO_348000 := Aside0.mk (Kd.Q_mono (Kd.Q_keep (IsS104.apartQ (show IsS104 w0 _ g s0_0 t355 from is104_ HI0.out) (by (with_reducible repeat (first | apply Kd.Q_alloc | apply Kd.Q_drewN | apply Kd.Q_drew)); exact HO_348000.out) (by decide)) hk (fun _ h => h.2)) (fun _ h => h.1)); replace HO_348001 := Aside0.mk (Kd.Q_mono (Kd.Q_told (Kd.Q_oldK (IsS104.apartQ (show IsS104 w0 _ g s0_0 t355 from is104_ HI0.out) (by (with_reducible repeat (first | apply Kd.Q_alloc | apply Kd.Q_drewN | apply Kd.Q_drew)); exact HO_348001.out) (by decide)) hk) (Kd.R_base ho0)) (fun _ h_ => op1_ h_)); replace BK346 := (bkA_ BK346 hk NB346_0); replace BK347 := (bkA_ BK347 hk NB347_0); have HO358 := Aside0.mk (Kd.R_lower ho0 (keep_size (w := w) (g := g) (row := none) (hkA_ HK.out))); replace HK := (kk_ HK hk); replace HB := Aside0.mk (hb); replace HI0 := Aside0.mk (hi); (try clear hb); (try clear hb2); (try clear hk); (try clear hi); (try clear ho0)
     refine hK.out _ _ (cz2 BK347.out) (fun hHeld => ?_)
     clear hK K; refine nm_ 24 ?_
     refine on_ (i := 8) (N := some 26) HT_ (fun K hK => ?_)
     refine goes_ Try.func58 (by kernel_rfl) rfl #[.pointer (some ⟨g, 0, none⟩), .int .i64 30] (by rfl) rfl rfl ar_ ?_
     with_reducible refine (spec_l20Rd_pick.calls k1 g s0_0 t359 30 t360 t361 w0 _ ?side1 ?side2 A16.out).mono ?_
     (case side1 => exact is104_ HI0.out)
     (case side2 => exact hb104_ HB.out)
     rintro e w23 ⟨rfl, hi, hb, hk⟩
     refine ⟨_, rfl, ?_⟩
     replace HO_348000 := Aside0.mk (Kd.Q_mono (Kd.Q_keep (IsS104.apartQ (show IsS104 w0 _ g s0_0 t359 from is104_ HI0.out) (by (with_reducible repeat (first | apply Kd.Q_alloc | apply Kd.Q_drewN | apply Kd.Q_drew)); exact HO_348000.out) (by decide)) hk (fun _ h => h.2)) (fun _ h => h.1)); replace HO_348001 := Aside0.mk (Kd.Q_mono (Kd.Q_keep (IsS104.apartQ (show IsS104 w0 _ g s0_0 t359 from is104_ HI0.out) (by (with_reducible repeat (first | apply Kd.Q_alloc | apply Kd.Q_drewN | apply Kd.Q_drew)); exact HO_348001.out) (by decide)) hk (fun _ h => h.2)) (fun _ h => h.1)); replace BK346 := (bkA_ BK346 hk NB346_0); replace BK347 := (bkA_ BK347 hk NB347_0); replace HO358 := (rk104_ HI0 HO358 hk); replace HK := (kk_ HK hk); replace HB := Aside0.mk (hb); replace HI0 := Aside0.mk (hi); (try clear hb); (try clear hb2); (try clear hk); (try clear hi)
     obtain ⟨Ao24, co24, eo24, _⟩ := Kd.Q_slice HO_348000.out
     (first | subst eo24 | (injection eo24 with f1_ f2_ f3_; have f4_ := f1_.symm; have f5_ := f3_.symm; clear f1_ f2_ f3_; subst f4_; subst f5_))
     obtain ⟨Ao25, co25, eo25, _⟩ := Kd.Q_slice HO_348001.out
     (first | subst eo25 | (injection eo25 with f1_ f2_ f3_; have f4_ := f1_.symm; have f5_ := f3_.symm; clear f1_ f2_ f3_; subst f4_; subst f5_))
     obtain ⟨Ao26, co26, eo26⟩ := Kd.R_slice HO358.out
     (first | subst eo26 | (injection eo26 with f1_ f2_ f3_; have f4_ := f1_.symm; have f5_ := f3_.symm; clear f1_ f2_ f3_; subst f4_; subst f5_))
     refine hK.out _ _ (cz2 BK347.out) (fun hHeld => ?_)
     clear hK K; refine nm_ 26 ?_
     refine on_ (i := 9) (N := some 27) HT_ (fun K hK => ?_)
     refine goes_ Try.func77 (by kernel_rfl) rfl #[.agg #[.slice Ao24 x348000_1.length co24, .slice Ao25 x348001_1.length co25], .int .i64 t352, .slice Ao26 t356.length co26, .int .i64 t360] (by rfl) rfl rfl ar_ ?_
     with_reducible refine (spec_NearSend.calls k1 _ _ x348000_1 _ _ x348001_1 t352 _ _ t356 t360 t362 t365 t368 _ ?side1 ?side2 ?side3 ?side4 ?side5 ?side6 A17.out).mono ?_
     (case side1 => exact kC_ (Kd.Q_reads' HO_348000.out).2.2)
     (case side2 => exact (Kd.Q_reads' HO_348000.out).2.1)
     (case side3 => exact kC_ (Kd.Q_reads' HO_348001.out).2.2)
     (case side4 => exact (Kd.Q_reads' HO_348001.out).2.1)
     (case side5 => exact kC_ (Kd.R_reads' HO358.out).2.2)
     (case side6 => exact (Kd.R_reads' HO358.out).2.1)
     rintro e w27 ⟨v363, v366, rfl, ho0, ho1, hb⟩
     refine ⟨_, rfl, ?_⟩
     have HO364 := Aside0.mk (Kd.R_lower (Kd.R_new' ho0 (Kd.Q_lt (by (with_reducible repeat (first | apply Kd.Q_alloc | apply Kd.Q_drewN | apply Kd.Q_drew)); exact HO_348000.out))) (keep_size (w := w) (g := g) (row := none) (hkA_ HK.out))); replace HO_348000 := Aside0.mk (Kd.Q_elder' (by (with_reducible repeat (first | apply Kd.Q_alloc | apply Kd.Q_drewN | apply Kd.Q_drew)); exact HO_348000.out) (Kd.R_base ho0) hb); have HO367 := Aside0.mk (Kd.Q_lower (Kd.Q_new' (Kd.Q_new' ho1 (Kd.Q_lt (by (with_reducible repeat (first | apply Kd.Q_alloc | apply Kd.Q_drewN | apply Kd.Q_drew)); exact HO_348001.out))) (Kd.R_lt (kR_ HO358.out))) (keep_size (w := w) (g := g) (row := none) (hkA_ HK.out))); replace HO_348001 := Aside0.mk (Kd.Q_elder' (by (with_reducible repeat (first | apply Kd.Q_alloc | apply Kd.Q_drewN | apply Kd.Q_drew)); exact HO_348001.out) (Kd.Q_base ho1) hb); replace HO358 := Aside0.mk (Kd.R_below (kR_ HO358.out) hb); replace BK346 := (bbA_ BK346 hb); replace BK347 := (bbA_ BK347 hb); replace HI0 := (ib104_ HI0 hb); replace HK := (kw_ HK hb); replace HB := (bs104_ HB hb); (try clear hb); (try clear hb2); (try clear hk); (try clear hi); (try clear ho0); (try clear ho1)
     obtain ⟨Ao28, co28, eo28⟩ := Kd.R_slice HO364.out
     (first | subst eo28 | (injection eo28 with f1_ f2_ f3_; have f4_ := f1_.symm; have f5_ := f3_.symm; clear f1_ f2_ f3_; subst f4_; subst f5_))
     obtain ⟨Ao30, co30, eo30, _⟩ := Kd.Q_slice HO367.out
     (first | subst eo30 | (injection eo30 with f1_ f2_ f3_; have f4_ := f1_.symm; have f5_ := f3_.symm; clear f1_ f2_ f3_; subst f4_; subst f5_))
     refine hK.out _ _ (cz2 BK347.out) (fun hHeld => ?_)
     clear hK K; refine nm_ 27 ?_; refine pu_ (i := 10) (N := some 17) HT_ ?_; refine pu_ (i := 11) (N := some 28) HT_ ?_; refine pu_ (i := 12) (N := some 29) HT_ ?_
     refine last_ (i := 13) (N := none) #[true, true, true, true, true, true, true, true, true, true, true, true, true, true] rfl rfl (one_of HT_.out (by kernel_rfl)) (by decide) (fun K hK => ?_)
     have hs29 : w27.cell? ⟨gb347, 0, none⟩ = some (.slice Ao24 x348000_1.length co24) := bc_ BK347 0
     have hfs29 := blk_frozen BK347.out 0
     have hns29_0 := NB346_347.out; have hms29_0 := NB347_346.out
     have hs31 : w27.cell? ⟨gb347, 1, none⟩ = some (.slice Ao25 x348001_1.length co25) := bc_ BK347 1
     have hfs31 := blk_frozen BK347.out 1
     have hns31_0 := NB346_347.out; have hms31_0 := NB347_346.out
     refine skip_ (w1 := ?_) (by rfl) rfl ?_ ?_
     rotate_left
     ·go_simp
      rfl
     refine hK.out _ _ ?_
     clear hK K
     refine done_ (done_of HT_.out (by kernel_rfl)) ?_
     try go_wp2
     go_roundg k1
     case measure => have := HK1.out; omega
     case rel => exact ⟨(wrap64 (x6_1 - 1)), (t361), (t362), (t365), (.slice Ao28 t362.length co28), (.slice Ao30 t365.length co30), (by first | rfl | (simp; done) | (simp [*]; done)), H', ⟨by have := HK1.out; omega⟩, ⟨Kd.Q_of_R (by refine kR_ ?_; exact rfm_ ((Kd.R_types HO364.out BK347.out (by decide))) (fun _ hk => trivial))⟩, ⟨by (with_reducible repeat (first | apply Kd.Q_alloc | apply Kd.Q_drewN | apply Kd.Q_drew)); exact Kd.Q_mono (Kd.Q_far (p := ⟨gb347, 1, none⟩) (Kd.Q_far (p := ⟨gb347, 0, none⟩) (Kd.Q_types HO367.out BK347.out (by decide)) (fun _ hk => hk.2) (.slice Ao28 t362.length co28)) (fun _ hk => hk.2) (.slice Ao30 t365.length co30)) (fun _ hk => trivial)⟩, ⟨by exact kf_ BK346.out⟩, ⟨by refine kb_ ?_; refine pz2 (cs := #[.slice Ao24 x348000_1.length co24, .slice Ao25 x348001_1.length co25]) ?_; refine kb_ ?_; exact BK347.out⟩, ⟨is104_ HI0.out⟩, ⟨hkA_ HK.out⟩, ⟨hb104_ HB.out⟩⟩
    ·rw [if_neg c12] at H
     have c12b0 : (t350 == 0) = false := beq_eq_false_iff_ne.mpr c12
     have c12b1 : (t350 != 0) = true := bne_iff_ne.mpr c12
     replace H := Option.bind_eq_some_iff.mp H
     obtain ⟨⟨t369, t370⟩, A320, H⟩ := H
     (try dsimp only at H)
     have A32 := Aside0.mk A320; clear A320
     replace H := Option.bind_eq_some_iff.mp H
     obtain ⟨⟨t371, t372, t373, t374, t375⟩, A330, H⟩ := H
     (try dsimp only at H)
     have A33 := Aside0.mk A330; clear A330
     replace H := Option.bind_eq_some_iff.mp H
     obtain ⟨⟨t376, t377⟩, A340, H⟩ := H
     (try dsimp only at H)
     have A34 := Aside0.mk A340; clear A340
     replace H := Option.bind_eq_some_iff.mp H
     obtain ⟨⟨t378, t381, t384⟩, A350, H⟩ := H
     (try dsimp only at H)
     have A35 := Aside0.mk A350; clear A350
     have H' := Aside0.mk H
     clear H
     try go_wp2_with (first | ((with_reducible refine gate_callee (f := 58) rfl ?_); refine goesL_ (some 15) rfl rfl Try.func58 (by kernel_rfl) rfl #[.pointer (some ⟨g, 0, none⟩), .int .i64 2] rfl ar_ ?_; (with_reducible refine (spec_l20Rd_pick.calls k1 g s0_0 x1001_1 2 t350 t351 w0 _ ?side1 ?side2 A11.out).mono ?_); (case side1 => exact is104_ HI0.out); (case side2 => exact hb104_ HB.out); rintro e w36 ⟨rfl, hi, hb, hk⟩; refine ⟨_, rfl, ?_⟩; replace HO_348000 := Aside0.mk (Kd.Q_mono (Kd.Q_keep (IsS104.apartQ (show IsS104 w0 _ g s0_0 x1001_1 from is104_ HI0.out) (by (with_reducible repeat (first | apply Kd.Q_alloc | apply Kd.Q_drewN | apply Kd.Q_drew)); exact HO_348000.out) (by decide)) hk (fun _ h => h.2)) (fun _ h => h.1)); replace HO_348001 := Aside0.mk (Kd.Q_mono (Kd.Q_keep (IsS104.apartQ (show IsS104 w0 _ g s0_0 x1001_1 from is104_ HI0.out) (by (with_reducible repeat (first | apply Kd.Q_alloc | apply Kd.Q_drewN | apply Kd.Q_drew)); exact HO_348001.out) (by decide)) hk (fun _ h => h.2)) (fun _ h => h.1)); replace BK346 := (bkA_ BK346 hk NB346_0); replace BK347 := (bkA_ BK347 hk NB347_0); replace HK := (kk_ HK hk); replace HB := Aside0.mk (hb); replace HI0 := Aside0.mk (hi); (try clear hb); (try clear hb2); (try clear hk); (try clear hi)))
     replace HO_348000 := Aside0.mk (Kd.Q_drew HO_348000.out); replace HO_348001 := Aside0.mk (Kd.Q_drew HO_348001.out); replace BK346 := Aside0.mk (blk_drew BK346.out); replace BK347 := Aside0.mk (blk_drew BK347.out); replace HI0 := Aside0.mk (IsS104.drew HI0.out); replace HK := Aside0.mk (keep_drew HK.out); replace HB := (bd_ HB)
     refine start_ (n := 12) (S := fun w' => w'.cell? ⟨gb347, 0, none⟩ = some (u348000) ∧ w'.cell? ⟨gb347, 1, none⟩ = some (u348001)) (ds := [11]) #[false, false, false, false, false, false, false, false, false, false, false, false] (by kernel_rfl) rfl rfl (cz2 BK347.out) (fun hHeld => ?_); refine with_tabW spec_l20Near.tab7 spec_l20Near.bits7 (fun HT_ HW_ => ?_)
     generalize w36.drew = w37 at HO_348000 HO_348001 BK346 BK347 HI0 HK HB hHeld ⊢
     refine pu_ (i := 1) (N := some 32) HT_ ?_; refine pu_ (i := 3) (N := some 34) HT_ ?_; refine pu_ (i := 5) (N := some 36) HT_ ?_; refine tk_ (i := 0) (N := some 31) HT_ HW_ hHeld ?_
     refine on_ (i := 2) (N := some 33) HT_ (fun K hK => ?_)
     refine goes_ Try.func58 (by kernel_rfl) rfl #[.pointer (some ⟨g, 0, none⟩), .int .i64 6] (by rfl) rfl rfl ar_ ?_
     with_reducible refine (spec_l20Rd_pick.calls k1 g s0_0 t351 6 t369 t370 w0 _ ?side1 ?side2 A32.out).mono ?_
     (case side1 => exact is104_ HI0.out)
     (case side2 => exact hb104_ HB.out)
     rintro e w38 ⟨rfl, hi, hb, hk⟩
     refine ⟨_, rfl, ?_⟩
     replace HO_348000 := Aside0.mk (Kd.Q_mono (Kd.Q_keep (IsS104.apartQ (show IsS104 w0 _ g s0_0 t351 from is104_ HI0.out) (by (with_reducible repeat (first | apply Kd.Q_alloc | apply Kd.Q_drewN | apply Kd.Q_drew)); exact HO_348000.out) (by decide)) hk (fun _ h => h.2)) (fun _ h => h.1)); replace HO_348001 := Aside0.mk (Kd.Q_mono (Kd.Q_keep (IsS104.apartQ (show IsS104 w0 _ g s0_0 t351 from is104_ HI0.out) (by (with_reducible repeat (first | apply Kd.Q_alloc | apply Kd.Q_drewN | apply Kd.Q_drew)); exact HO_348001.out) (by decide)) hk (fun _ h => h.2)) (fun _ h => h.1)); replace BK346 := (bkA_ BK346 hk NB346_0); replace BK347 := (bkA_ BK347 hk NB347_0); replace HK := (kk_ HK hk); replace HB := Aside0.mk (hb); replace HI0 := Aside0.mk (hi); (try clear hb); (try clear hb2); (try clear hk); (try clear hi)
     refine hK.out _ _ (cz2 BK347.out) (fun hHeld => ?_)
     clear hK K; refine nm_ 33 ?_
     refine on_ (i := 4) (N := some 35) HT_ (fun K hK => ?_)
     refine goes_ Try.func59 (by kernel_rfl) rfl #[.pointer (some ⟨g, 0, none⟩), .int .i64 0] (by rfl) rfl rfl ar_ ?_
     with_reducible refine (spec_l20Query.calls k1 g s0_0 t370 0 t371 t372 t373 t374 t375 w0 _ ?side1 ?side2 A33.out).mono ?_
     (case side1 => exact is104_ HI0.out)
     (case side2 => exact hb104_ HB.out)
     rintro e w39 ⟨rfl, hi, hb, hk⟩
     refine ⟨_, rfl, ?_⟩
     replace HO_348000 := Aside0.mk (Kd.Q_mono (Kd.Q_keep (IsS104.apartQ (show IsS104 w0 _ g s0_0 t370 from is104_ HI0.out) (by (with_reducible repeat (first | apply Kd.Q_alloc | apply Kd.Q_drewN | apply Kd.Q_drew)); exact HO_348000.out) (by decide)) hk (fun _ h => h.2)) (fun _ h => h.1)); replace HO_348001 := Aside0.mk (Kd.Q_mono (Kd.Q_keep (IsS104.apartQ (show IsS104 w0 _ g s0_0 t370 from is104_ HI0.out) (by (with_reducible repeat (first | apply Kd.Q_alloc | apply Kd.Q_drewN | apply Kd.Q_drew)); exact HO_348001.out) (by decide)) hk (fun _ h => h.2)) (fun _ h => h.1)); replace BK346 := (bkA_ BK346 hk NB346_0); replace BK347 := (bkA_ BK347 hk NB347_0); replace HK := (kk_ HK hk); replace HB := Aside0.mk (hb); replace HI0 := Aside0.mk (hi); (try clear hb); (try clear hb2); (try clear hk); (try clear hi)
     refine hK.out _ _ (cz2 BK347.out) (fun hHeld => ?_)
     clear hK K; refine nm_ 35 ?_
     refine on_ (i := 6) (N := some 37) HT_ (fun K hK => ?_)
     refine goes_ Try.func58 (by kernel_rfl) rfl #[.pointer (some ⟨g, 0, none⟩), .int .i64 30] (by rfl) rfl rfl ar_ ?_
     with_reducible refine (spec_l20Rd_pick.calls k1 g s0_0 t375 30 t376 t377 w0 _ ?side1 ?side2 A34.out).mono ?_
     (case side1 => exact is104_ HI0.out)
     (case side2 => exact hb104_ HB.out)
     rintro e w40 ⟨rfl, hi, hb, hk⟩
     refine ⟨_, rfl, ?_⟩
     replace HO_348000 := Aside0.mk (Kd.Q_mono (Kd.Q_keep (IsS104.apartQ (show IsS104 w0 _ g s0_0 t375 from is104_ HI0.out) (by (with_reducible repeat (first | apply Kd.Q_alloc | apply Kd.Q_drewN | apply Kd.Q_drew)); exact HO_348000.out) (by decide)) hk (fun _ h => h.2)) (fun _ h => h.1)); replace HO_348001 := Aside0.mk (Kd.Q_mono (Kd.Q_keep (IsS104.apartQ (show IsS104 w0 _ g s0_0 t375 from is104_ HI0.out) (by (with_reducible repeat (first | apply Kd.Q_alloc | apply Kd.Q_drewN | apply Kd.Q_drew)); exact HO_348001.out) (by decide)) hk (fun _ h => h.2)) (fun _ h => h.1)); replace BK346 := (bkA_ BK346 hk NB346_0); replace BK347 := (bkA_ BK347 hk NB347_0); replace HK := (kk_ HK hk); replace HB := Aside0.mk (hb); replace HI0 := Aside0.mk (hi); (try clear hb); (try clear hb2); (try clear hk); (try clear hi)
     obtain ⟨Ao41, co41, eo41, _⟩ := Kd.Q_slice HO_348000.out
     (first | subst eo41 | (injection eo41 with f1_ f2_ f3_; have f4_ := f1_.symm; have f5_ := f3_.symm; clear f1_ f2_ f3_; subst f4_; subst f5_))
     obtain ⟨Ao42, co42, eo42, _⟩ := Kd.Q_slice HO_348001.out
     (first | subst eo42 | (injection eo42 with f1_ f2_ f3_; have f4_ := f1_.symm; have f5_ := f3_.symm; clear f1_ f2_ f3_; subst f4_; subst f5_))
     refine hK.out _ _ (cz2 BK347.out) (fun hHeld => ?_)
     clear hK K; refine nm_ 37 ?_
     refine on_ (i := 7) (N := some 38) HT_ (fun K hK => ?_)
     refine goes_ Try.func7 (by kernel_rfl) rfl #[.agg #[.slice Ao41 x348000_1.length co41, .slice Ao42 x348001_1.length co42], .int .i64 t369, .agg #[.int .i64 t371, .int .i64 t372, .int .i64 t373, .int .i64 t374], .int .i64 t376] (by rfl) rfl rfl ar_ ?_
     with_reducible refine (spec_NearHear.calls k1 _ _ x348000_1 _ _ x348001_1 t369 t371 t372 t373 t374 t376 t378 t381 t384 _ ?side1 ?side2 ?side3 ?side4 A35.out).mono ?_
     (case side1 => exact kC_ (Kd.Q_reads' HO_348000.out).2.2)
     (case side2 => exact (Kd.Q_reads' HO_348000.out).2.1)
     (case side3 => exact kC_ (Kd.Q_reads' HO_348001.out).2.2)
     (case side4 => exact (Kd.Q_reads' HO_348001.out).2.1)
     rintro e w43 ⟨v379, v382, v385, rfl, ho0, ho1, ho2, hb⟩
     refine ⟨_, rfl, ?_⟩
     have HO380 := Aside0.mk (Kd.Q_lower (Kd.Q_new' ho0 (Kd.Q_lt (by (with_reducible repeat (first | apply Kd.Q_alloc | apply Kd.Q_drewN | apply Kd.Q_drew)); exact HO_348000.out))) (keep_size (w := w) (g := g) (row := none) (hkA_ HK.out))); replace HO_348000 := Aside0.mk (Kd.Q_elder' (by (with_reducible repeat (first | apply Kd.Q_alloc | apply Kd.Q_drewN | apply Kd.Q_drew)); exact HO_348000.out) (Kd.Q_base ho0) hb); have HO383 := Aside0.mk (Kd.S_lower (Kd.S_new' ho1 (Kd.Q_lt (by (with_reducible repeat (first | apply Kd.Q_alloc | apply Kd.Q_drewN | apply Kd.Q_drew)); exact HO_348001.out))) (keep_size (w := w) (g := g) (row := none) (hkA_ HK.out))); replace HO_348001 := Aside0.mk (Kd.Q_elder' (by (with_reducible repeat (first | apply Kd.Q_alloc | apply Kd.Q_drewN | apply Kd.Q_drew)); exact HO_348001.out) (Kd.S_base ho1) hb); have HO386 := Aside0.mk (Kd.S_lower ho2 (keep_size (w := w) (g := g) (row := none) (hkA_ HK.out))); replace BK346 := (bbA_ BK346 hb); replace BK347 := (bbA_ BK347 hb); replace HI0 := (ib104_ HI0 hb); replace HK := (kw_ HK hb); replace HB := (bs104_ HB hb); (try clear hb); (try clear hb2); (try clear hk)
     (try clear hi); (try clear ho0); (try clear ho1); (try clear ho2)
     obtain ⟨Ao44, co44, eo44, _⟩ := Kd.Q_slice HO380.out
     (first | subst eo44 | (injection eo44 with f1_ f2_ f3_; have f4_ := f1_.symm; have f5_ := f3_.symm; clear f1_ f2_ f3_; subst f4_; subst f5_))
     obtain ⟨Ao46, co46, eo46⟩ := Kd.S_slice HO383.out
     (first | subst eo46 | (injection eo46 with f1_ f2_ f3_; have f4_ := f1_.symm; have f5_ := f3_.symm; clear f1_ f2_ f3_; subst f4_; subst f5_))
     refine hK.out _ _ (cz2 BK347.out) (fun hHeld => ?_)
     clear hK K; refine nm_ 38 ?_; refine pu_ (i := 8) (N := some 30) HT_ ?_; refine pu_ (i := 9) (N := some 39) HT_ ?_; refine pu_ (i := 10) (N := some 40) HT_ ?_
     refine last_ (i := 11) (N := none) #[true, true, true, true, true, true, true, true, true, true, true, true] rfl rfl (one_of HT_.out (by kernel_rfl)) (by decide) (fun K hK => ?_)
     have hs45 : w43.cell? ⟨gb347, 0, none⟩ = some (.slice Ao41 x348000_1.length co41) := bc_ BK347 0
     have hfs45 := blk_frozen BK347.out 0
     have hns45_0 := NB346_347.out; have hms45_0 := NB347_346.out
     have hs47 : w43.cell? ⟨gb347, 1, none⟩ = some (.slice Ao42 x348001_1.length co42) := bc_ BK347 1
     have hfs47 := blk_frozen BK347.out 1
     have hns47_0 := NB346_347.out; have hms47_0 := NB347_346.out
     refine skip_ (w1 := ?_) (by rfl) rfl ?_ ?_
     rotate_left
     ·go_simp
      rfl
     refine hK.out _ _ ?_
     clear hK K
     refine done_ (done_of HT_.out (by kernel_rfl)) ?_
     try go_wp2
     go_roundg k1
     case measure => have := HK1.out; omega
     case rel => exact ⟨(wrap64 (x6_1 - 1)), (t377), (t378), (t381), (.slice Ao44 t378.length co44), (.slice Ao46 t381.length co46), (by first | rfl | (simp; done) | (simp [*]; done)), H', ⟨by have := HK1.out; omega⟩, ⟨by (with_reducible repeat (first | apply Kd.Q_alloc | apply Kd.Q_drewN | apply Kd.Q_drew)); exact Kd.Q_mono (Kd.Q_far (p := ⟨gb347, 1, none⟩) (Kd.Q_far (p := ⟨gb347, 0, none⟩) (Kd.Q_types HO380.out BK347.out (by decide)) (fun _ hk => hk.2) (.slice Ao44 t378.length co44)) (fun _ hk => hk.2) (.slice Ao46 t381.length co46)) (fun _ hk => trivial)⟩, ⟨Kd.Q_of_R ((Kd.S_R (by refine kS_ ?_; exact Kd.S_mono (Kd.S_far (p := ⟨gb347, 1, none⟩) (Kd.S_far (p := ⟨gb347, 0, none⟩) (Kd.S_types HO383.out BK347.out (by decide)) (fun _ hk => hk.2) (.slice Ao44 t378.length co44)) (fun _ hk => hk.2) (.slice Ao46 t381.length co46)) (fun _ hk => trivial))))⟩, ⟨by exact kf_ BK346.out⟩, ⟨by refine kb_ ?_; refine pz2 (cs := #[.slice Ao41 x348000_1.length co41, .slice Ao42 x348001_1.length co42]) ?_; refine kb_ ?_; exact BK347.out⟩, ⟨is104_ HI0.out⟩, ⟨hkA_ HK.out⟩, ⟨hb104_ HB.out⟩⟩
   ·rw [if_neg c10] at H
    have c10b0 : decide (0 < x6_1) = false := decide_eq_false c10
    clear c10
    replace H := Option.bind_eq_some_iff.mp H
    obtain ⟨⟨t387, t388⟩, A480, H⟩ := H
    (try dsimp only at H)
    have A48 := Aside0.mk A480; clear A480
    by_cases c49 : t387 = true
    ·subst c49
     rw [if_pos rfl] at H
     replace H := Option.bind_eq_some_iff.mp H
     obtain ⟨⟨t389, t390⟩, A500, H⟩ := H
     (try dsimp only at H)
     have A50 := Aside0.mk A500; clear A500
     by_cases c51 : t389 = 0
     ·rw [if_pos c51] at H
      have c51b0 : (t389 == 0) = true := beq_iff_eq.mpr c51
      have c51b1 : (t389 != 0) = false := bne_eq_false_iff_eq.mpr c51
      clear c51
      replace H := Option.bind_eq_some_iff.mp H
      obtain ⟨⟨t391, t392⟩, A520, H⟩ := H
      (try dsimp only at H)
      have A52 := Aside0.mk A520; clear A520
      replace H := Option.bind_eq_some_iff.mp H
      obtain ⟨⟨t393, t394⟩, A530, H⟩ := H
      (try dsimp only at H)
      have A53 := Aside0.mk A530; clear A530
      replace H := Option.bind_eq_some_iff.mp H
      obtain ⟨⟨t395, t396⟩, A540, H⟩ := H
      (try dsimp only at H)
      have A54 := Aside0.mk A540; clear A540
      by_cases c55 : x348000_1.length < 5864062014805
      ·rw [if_pos c55] at H
       have LMc55 := Aside0.mk c55; clear c55
       obtain ⟨y397, hy397⟩ : ∃ y_ : List (S63), y_ = (x348000_1 ++ [(⟨t391, t393, t395⟩ : S63)]) := ⟨_, rfl⟩
       (first | replace H := sb_ hy397 H | rw [← hy397] at H)
       have Ny397 := Aside0.mk hy397; clear hy397
       simp only [Option.some.injEq, Prod.mk.injEq] at H
       obtain ⟨rfl, rfl, rfl⟩ := H
       try go_wp2_with (first | ((with_reducible refine gate_callee (f := 78) rfl ?_); refine goesL_ (some 43) rfl rfl Try.func78 (by kernel_rfl) rfl #[.pointer (some ⟨g, 0, none⟩), .int .i64 a1] rfl ar_ ?_; (with_reducible refine (spec_l20Rd_odd.calls k1 g s0_0 x1001_1 a1 true t388 w0 _ ?side1 ?side2 A48.out).mono ?_); (case side1 => exact is104_ HI0.out); (case side2 => exact hb104_ HB.out); rintro e w56 ⟨rfl, hi, hb, hk⟩; refine ⟨_, rfl, ?_⟩; replace HO_348000 := Aside0.mk (Kd.Q_mono (Kd.Q_keep (IsS104.apartQ (show IsS104 w0 _ g s0_0 x1001_1 from is104_ HI0.out) (by (with_reducible repeat (first | apply Kd.Q_alloc | apply Kd.Q_drewN | apply Kd.Q_drew)); exact HO_348000.out) (by decide)) hk (fun _ h => h.2)) (fun _ h => h.1)); replace HO_348001 := Aside0.mk (Kd.Q_mono (Kd.Q_keep (IsS104.apartQ (show IsS104 w0 _ g s0_0 x1001_1 from is104_ HI0.out) (by (with_reducible repeat (first | apply Kd.Q_alloc | apply Kd.Q_drewN | apply Kd.Q_drew)); exact HO_348001.out) (by decide)) hk (fun _ h => h.2)) (fun _ h => h.1)); replace BK346 := (bkA_ BK346 hk NB346_0); replace BK347 := (bkA_ BK347 hk NB347_0); replace HK := (kk_ HK hk); replace HB := Aside0.mk (hb); replace HI0 := Aside0.mk (hi); (try clear hb); (try clear hb2); (try clear hk); (try clear hi)) | ((with_reducible refine gate_callee (f := 58) rfl ?_); refine goesL_ (some 45) rfl rfl Try.func58 (by kernel_rfl) rfl #[.pointer (some ⟨g, 0, none⟩), .int .i64 3] rfl ar_ ?_; (with_reducible refine (spec_l20Rd_pick.calls k1 g s0_0 t388 3 t389 t390 w0 _ ?side1 ?side2 A50.out).mono ?_); (case side1 => exact is104_ HI0.out); (case side2 => exact hb104_ HB.out); rintro e w57 ⟨rfl, hi, hb, hk⟩; refine ⟨_, rfl, ?_⟩; replace HO_348000 := Aside0.mk (Kd.Q_mono (Kd.Q_keep (IsS104.apartQ (show IsS104 w0 _ g s0_0 t388 from is104_ HI0.out) (by (with_reducible repeat (first | apply Kd.Q_alloc | apply Kd.Q_drewN | apply Kd.Q_drew)); exact HO_348000.out) (by decide)) hk (fun _ h => h.2)) (fun _ h => h.1)); replace HO_348001 := Aside0.mk (Kd.Q_mono (Kd.Q_keep (IsS104.apartQ (show IsS104 w0 _ g s0_0 t388 from is104_ HI0.out) (by (with_reducible repeat (first | apply Kd.Q_alloc | apply Kd.Q_drewN | apply Kd.Q_drew)); exact HO_348001.out) (by decide)) hk (fun _ h => h.2)) (fun _ h => h.1)); replace BK346 := (bkA_ BK346 hk NB346_0); replace BK347 := (bkA_ BK347 hk NB347_0); replace HK := (kk_ HK hk); replace HB := Aside0.mk (hb); replace HI0 := Aside0.mk (hi); (try clear hb); (try clear hb2); (try clear hk); (try clear hi)))
       replace HO_348000 := Aside0.mk (Kd.Q_drew HO_348000.out); replace HO_348001 := Aside0.mk (Kd.Q_drew HO_348001.out); replace BK346 := Aside0.mk (blk_drew BK346.out); replace BK347 := Aside0.mk (blk_drew BK347.out); replace HI0 := Aside0.mk (IsS104.drew HI0.out); replace HK := Aside0.mk (keep_drew HK.out); replace HB := (bd_ HB)
       refine start_ (n := 13) (S := fun w' => w'.cell? ⟨gb347, 0, none⟩ = some (u348000) ∧ w'.cell? ⟨gb347, 1, none⟩ = some (u348001)) (ds := [12]) #[false, false, false, false, false, false, false, false, false, false, false, false, false] (by kernel_rfl) rfl rfl (cz2 BK347.out) (fun hHeld => ?_); refine with_tabW spec_l20Near.tab12 spec_l20Near.bits12 (fun HT_ HW_ => ?_)
       generalize w57.drew = w58 at HO_348000 HO_348001 BK346 BK347 HI0 HK HB hHeld ⊢
       refine pu_ (i := 0) (N := some 54) HT_ ?_; refine pu_ (i := 2) (N := some 56) HT_ ?_; refine pu_ (i := 4) (N := some 58) HT_ ?_; refine pu_ (i := 6) (N := some 60) HT_ ?_; refine tk_ (i := 1) (N := some 55) HT_ HW_ hHeld ?_
       refine on_ (i := 3) (N := some 57) HT_ (fun K hK => ?_)
       refine goes_ Try.func58 (by kernel_rfl) rfl #[.pointer (some ⟨g, 0, none⟩), .int .i64 6] (by rfl) rfl rfl ar_ ?_
       with_reducible refine (spec_l20Rd_pick.calls k1 g s0_0 t390 6 t391 t392 w0 _ ?side1 ?side2 A52.out).mono ?_
       (case side1 => exact is104_ HI0.out)
       (case side2 => exact hb104_ HB.out)
       rintro e w59 ⟨rfl, hi, hb, hk⟩
       refine ⟨_, rfl, ?_⟩
       replace HO_348000 := Aside0.mk (Kd.Q_mono (Kd.Q_keep (IsS104.apartQ (show IsS104 w0 _ g s0_0 t390 from is104_ HI0.out) (by (with_reducible repeat (first | apply Kd.Q_alloc | apply Kd.Q_drewN | apply Kd.Q_drew)); exact HO_348000.out) (by decide)) hk (fun _ h => h.2)) (fun _ h => h.1)); replace HO_348001 := Aside0.mk (Kd.Q_mono (Kd.Q_keep (IsS104.apartQ (show IsS104 w0 _ g s0_0 t390 from is104_ HI0.out) (by (with_reducible repeat (first | apply Kd.Q_alloc | apply Kd.Q_drewN | apply Kd.Q_drew)); exact HO_348001.out) (by decide)) hk (fun _ h => h.2)) (fun _ h => h.1)); replace BK346 := (bkA_ BK346 hk NB346_0); replace BK347 := (bkA_ BK347 hk NB347_0); replace HK := (kk_ HK hk); replace HB := Aside0.mk (hb); replace HI0 := Aside0.mk (hi); (try clear hb); (try clear hb2); (try clear hk); (try clear hi)
       refine hK.out _ _ (cz2 BK347.out) (fun hHeld => ?_)
       clear hK K; refine nm_ 57 ?_
       refine on_ (i := 5) (N := some 59) HT_ (fun K hK => ?_)
       refine goes_ Try.func58 (by kernel_rfl) rfl #[.pointer (some ⟨g, 0, none⟩), .int .i64 300] (by rfl) rfl rfl ar_ ?_
       with_reducible refine (spec_l20Rd_pick.calls k1 g s0_0 t392 300 t393 t394 w0 _ ?side1 ?side2 A53.out).mono ?_
       (case side1 => exact is104_ HI0.out)
       (case side2 => exact hb104_ HB.out)
       rintro e w60 ⟨rfl, hi, hb, hk⟩
       refine ⟨_, rfl, ?_⟩
       replace HO_348000 := Aside0.mk (Kd.Q_mono (Kd.Q_keep (IsS104.apartQ (show IsS104 w0 _ g s0_0 t392 from is104_ HI0.out) (by (with_reducible repeat (first | apply Kd.Q_alloc | apply Kd.Q_drewN | apply Kd.Q_drew)); exact HO_348000.out) (by decide)) hk (fun _ h => h.2)) (fun _ h => h.1)); replace HO_348001 := Aside0.mk (Kd.Q_mono (Kd.Q_keep (IsS104.apartQ (show IsS104 w0 _ g s0_0 t392 from is104_ HI0.out) (by (with_reducible repeat (first | apply Kd.Q_alloc | apply Kd.Q_drewN | apply Kd.Q_drew)); exact HO_348001.out) (by decide)) hk (fun _ h => h.2)) (fun _ h => h.1)); replace BK346 := (bkA_ BK346 hk NB346_0); replace BK347 := (bkA_ BK347 hk NB347_0); replace HK := (kk_ HK hk); replace HB := Aside0.mk (hb); replace HI0 := Aside0.mk (hi); (try clear hb); (try clear hb2); (try clear hk); (try clear hi)
       refine hK.out _ _ (cz2 BK347.out) (fun hHeld => ?_)
       clear hK K; refine nm_ 59 ?_
       refine on_ (i := 7) (N := some 61) HT_ (fun K hK => ?_)
       refine goes_ Try.func58 (by kernel_rfl) rfl #[.pointer (some ⟨g, 0, none⟩), .int .i64 9] (by rfl) rfl rfl ar_ ?_
       with_reducible refine (spec_l20Rd_pick.calls k1 g s0_0 t394 9 t395 t396 w0 _ ?side1 ?side2 A54.out).mono ?_
       (case side1 => exact is104_ HI0.out)
       (case side2 => exact hb104_ HB.out)
       rintro e w61 ⟨rfl, hi, hb, hk⟩
       refine ⟨_, rfl, ?_⟩
       replace HO_348000 := Aside0.mk (Kd.Q_mono (Kd.Q_keep (IsS104.apartQ (show IsS104 w0 _ g s0_0 t394 from is104_ HI0.out) (by (with_reducible repeat (first | apply Kd.Q_alloc | apply Kd.Q_drewN | apply Kd.Q_drew)); exact HO_348000.out) (by decide)) hk (fun _ h => h.2)) (fun _ h => h.1)); replace HO_348001 := Aside0.mk (Kd.Q_mono (Kd.Q_keep (IsS104.apartQ (show IsS104 w0 _ g s0_0 t394 from is104_ HI0.out) (by (with_reducible repeat (first | apply Kd.Q_alloc | apply Kd.Q_drewN | apply Kd.Q_drew)); exact HO_348001.out) (by decide)) hk (fun _ h => h.2)) (fun _ h => h.1)); replace BK346 := (bkA_ BK346 hk NB346_0); replace BK347 := (bkA_ BK347 hk NB347_0); replace HK := (kk_ HK hk); replace HB := Aside0.mk (hb); replace HI0 := Aside0.mk (hi); (try clear hb); (try clear hb2); (try clear hk); (try clear hi)
       refine hK.out _ _ (cz2 BK347.out) (fun hHeld => ?_)
       clear hK K; refine nm_ 61 ?_; refine pu_ (i := 8) (N := some 62) HT_ ?_
       refine on_ (i := 9) (N := some 63) HT_ (fun K hK => ?_)
       refine value_ (w1 := ?_) (v := ?_) (by rfl) rfl ?_ ?_
       rotate_left 2
       ·go_simp
        constructor
        ·rfl
        ·rfl
       refine hK.out _ _ ⟨(blk_cell (blk_alloc BK347.out _) 0).trans rfl, (blk_cell (blk_alloc BK347.out _) 1).trans rfl⟩ (fun hHeld => ?_)
       clear hK K; refine nm_ 63 ?_
       refine on_ (i := 10) (N := some 64) HT_ (fun K hK => ?_)
       refine Kd.Q_append_step k63 w.heap.size (by rfl) (.tmp 55) (.tmp 63) 29 63 (.agg #[(.int .i64 0), (.int .i64 0), (.int .i64 0)]) 24 rfl Try.underlying29 info63 rfl (by decide) (by omega) u348000 x348000_1 (⟨t391, t393, t395⟩ : S63) [.int .i64 t391, .int .i64 t393, .int .i64 t395] (fun _ => True) (fun _ => False) rfl rfl ?aP (fun _ hk => hk.elim) ?aF ?aO (Below.refl _ _) ?aS ?aL ?_
       (case aP => exact k63_mkM _ _ _ (⟨t391, t393, t395⟩ : S63))
       (case aF => exact (fun _ _ => trivial))
       (case aO => exact (by (with_reducible repeat (first | apply Kd.Q_alloc | apply Kd.Q_drewN | apply Kd.Q_drew)); exact HO_348000.out))
       (case aS => exact (keep_size (w := w) (g := g) (row := none) (hkA_ HK.out)))
       (case aL => have := LMc55.out; omega)
       intro v398 w62 ho hb hg hat
       rw [← Ny397.out] at ho
       have n0_ := Aside0.mk (Kd.Q_over' (by (with_reducible repeat (first | apply Kd.Q_alloc | apply Kd.Q_drewN | apply Kd.Q_drew)); exact HO_348001.out) (Kd.Q_typed (by (with_reducible repeat (first | apply Kd.Q_alloc | apply Kd.Q_drewN | apply Kd.Q_drew)); exact HO_348000.out)) (by decide) hg); have n1_ := (bgA_ BK346 hg (Kd.Q_ne HO_348000.out BK346.out (by decide))); have n2_ := (bgA_ BK347 hg (Kd.Q_ne HO_348000.out BK347.out (by decide))); have n3_ := Aside0.mk (IsS104.grown (is104_ HI0.out) hg (IsS104.own_neQ HI0.out HO_348000.out (by decide))); have n4_ := Aside0.mk (below_weaken (hb104_ HB.out) HL.out hb); have n5_ := Aside0.mk (KeepBut.trans (hkA_ HK.out) (KeepBut.of_grown hg g) (Kd.Q_base2 HO_348000.out)); have n6_ := Aside0.mk (ho); clear HO_348001 BK346 BK347 HI0 HB HK HO_348000; have HO_348001 := n0_; have BK346 := n1_; have BK347 := n2_; have HI0 := n3_; have HB := n4_; have HK := n5_; have HO399 := n6_; clear n0_ n1_ n2_ n3_ n4_ n5_ n6_ ho hb hg hat
       obtain ⟨Ao63, co63, eo63, _⟩ := Kd.Q_slice HO399.out
       (first | subst eo63 | (injection eo63 with f1_ f2_ f3_; have f4_ := f1_.symm; have f5_ := f3_.symm; clear f1_ f2_ f3_; subst f4_; subst f5_))
       refine hK.out _ _ (cz2 BK347.out) (fun hHeld => ?_)
       clear hK K; refine nm_ 64 ?_; refine pu_ (i := 11) (N := some 65) HT_ ?_
       refine last_ (i := 12) (N := none) #[true, true, true, true, true, true, true, true, true, true, true, true, true] rfl rfl (one_of HT_.out (by kernel_rfl)) (by decide) (fun K hK => ?_)
       have hs64 : w62.cell? ⟨gb347, 0, none⟩ = some (u348000) := bc_ BK347 0
       have hfs64 := blk_frozen BK347.out 0
       have hns64_0 := NB346_347.out; have hms64_0 := NB347_346.out
       refine skip_ (w1 := ?_) (by rfl) rfl ?_ ?_
       rotate_left
       ·go_simp
        rfl
       refine hK.out _ _ ?_
       clear hK K
       refine done_ (done_of HT_.out (by kernel_rfl)) ?_
       have hnb65 := NB347_346.out; have hnc65 := NB346_347.out; have hnb66 := NB347_0.out; have hnc66 := NB0_347.out; have Z67 := zz2 BK347; have hnb68 := NB346_0.out; have hnc68 := NB0_346.out; have Z69 := zz2 BK346
       obtain ⟨Ao70, co70, eo70, _⟩ := Kd.Q_slice HO_348001.out
       subst eo70
       try go_wp2
       refine bodyPost_ret (results_cell_row rfl _ _ gb346 32 #[.slice Ao63 y397.length co63, .slice Ao70 x348001_1.length co70] (0, 0) _ rfl (by refine kb_ ?_; refine pz2 (cs := #[.slice none 0 0, .slice none 0 0]) ?_; exact kf_ BK346.out) Try.underlying32 rfl (by kernel_rfl)) rfl ?_
       exact ⟨_, _, by first | rfl | (simp [errW_none, errW_some] <;> rfl) | (simp [*, errW_none, errW_some] <;> rfl), by (with_reducible repeat (first | apply Kd.Q_alloc | apply Kd.Q_drewN | apply Kd.Q_drew)); exact Kd.Q_mono (Kd.Q_far (p := ⟨gb346, 1, none⟩) (Kd.Q_far (p := ⟨gb346, 0, none⟩) (Kd.Q_far (p := ⟨gb347, 0, none⟩) (Kd.Q_types (Kd.Q_types HO399.out BK347.out (by decide)) BK346.out (by decide)) (fun _ hk => hk.1.2) (.slice Ao63 y397.length co63)) (fun _ hk => hk.2) (.slice Ao63 y397.length co63)) (fun _ hk => hk.2) (.slice Ao70 x348001_1.length co70)) (fun _ hk => trivial), by (with_reducible repeat (first | apply Kd.Q_alloc | apply Kd.Q_drewN | apply Kd.Q_drew)); exact Kd.Q_mono (Kd.Q_far (p := ⟨gb346, 1, none⟩) (Kd.Q_far (p := ⟨gb346, 0, none⟩) (Kd.Q_far (p := ⟨gb347, 0, none⟩) (Kd.Q_types (Kd.Q_types HO_348001.out BK347.out (by decide)) BK346.out (by decide)) (fun _ hk => hk.1.2) (.slice Ao63 y397.length co63)) (fun _ hk => hk.2) (.slice Ao63 y397.length co63)) (fun _ hk => hk.2) (.slice Ao70 x348001_1.length co70)) (fun _ hk => trivial), is104_ HI0.out, hb104_ HB.out, hkA_ HK.out⟩
      ·rw [if_neg c55] at H
       exact absurd H (by simp)
     ·rw [if_neg c51] at H
      have c51b0 : (t389 == 0) = false := beq_eq_false_iff_ne.mpr c51
      have c51b1 : (t389 != 0) = true := bne_iff_ne.mpr c51
      by_cases c71 : t389 = 1
      ·rw [if_pos c71] at H
       have c71b0 : (t389 == 1) = true := beq_iff_eq.mpr c71
       have c71b1 : (t389 != 1) = false := bne_eq_false_iff_eq.mpr c71
       clear c71
       replace H := Option.bind_eq_some_iff.mp H
       obtain ⟨⟨t400, t401⟩, A720, H⟩ := H
       (try dsimp only at H)
       have A72 := Aside0.mk A720; clear A720
       by_cases c73 : x348001_1.length + 1 < 4398046511104
       ·rw [if_pos c73] at H
        have LMc73 := Aside0.mk c73; clear c73
        obtain ⟨y402, hy402⟩ : ∃ y_ : List (S65), y_ = (x348001_1 ++ [(⟨t400, ([] : List Int)⟩ : S65), (⟨65536, ([] : List Int)⟩ : S65)]) := ⟨_, rfl⟩
        (first | replace H := sb_ hy402 H | rw [← hy402] at H)
        have Ny402 := Aside0.mk hy402; clear hy402
        simp only [Option.some.injEq, Prod.mk.injEq] at H
        obtain ⟨rfl, rfl, rfl⟩ := H
        try go_wp2_with (first | ((with_reducible refine gate_callee (f := 78) rfl ?_); refine goesL_ (some 43) rfl rfl Try.func78 (by kernel_rfl) rfl #[.pointer (some ⟨g, 0, none⟩), .int .i64 a1] rfl ar_ ?_; (with_reducible refine (spec_l20Rd_odd.calls k1 g s0_0 x1001_1 a1 true t388 w0 _ ?side1 ?side2 A48.out).mono ?_); (case side1 => exact is104_ HI0.out); (case side2 => exact hb104_ HB.out); rintro e w74 ⟨rfl, hi, hb, hk⟩; refine ⟨_, rfl, ?_⟩; replace HO_348000 := Aside0.mk (Kd.Q_mono (Kd.Q_keep (IsS104.apartQ (show IsS104 w0 _ g s0_0 x1001_1 from is104_ HI0.out) (by (with_reducible repeat (first | apply Kd.Q_alloc | apply Kd.Q_drewN | apply Kd.Q_drew)); exact HO_348000.out) (by decide)) hk (fun _ h => h.2)) (fun _ h => h.1)); replace HO_348001 := Aside0.mk (Kd.Q_mono (Kd.Q_keep (IsS104.apartQ (show IsS104 w0 _ g s0_0 x1001_1 from is104_ HI0.out) (by (with_reducible repeat (first | apply Kd.Q_alloc | apply Kd.Q_drewN | apply Kd.Q_drew)); exact HO_348001.out) (by decide)) hk (fun _ h => h.2)) (fun _ h => h.1)); replace BK346 := (bkA_ BK346 hk NB346_0); replace BK347 := (bkA_ BK347 hk NB347_0); replace HK := (kk_ HK hk); replace HB := Aside0.mk (hb); replace HI0 := Aside0.mk (hi); (try clear hb); (try clear hb2); (try clear hk); (try clear hi)) | ((with_reducible refine gate_callee (f := 58) rfl ?_); refine goesL_ (some 45) rfl rfl Try.func58 (by kernel_rfl) rfl #[.pointer (some ⟨g, 0, none⟩), .int .i64 3] rfl ar_ ?_; (with_reducible refine (spec_l20Rd_pick.calls k1 g s0_0 t388 3 t389 t390 w0 _ ?side1 ?side2 A50.out).mono ?_); (case side1 => exact is104_ HI0.out); (case side2 => exact hb104_ HB.out); rintro e w75 ⟨rfl, hi, hb, hk⟩; refine ⟨_, rfl, ?_⟩; replace HO_348000 := Aside0.mk (Kd.Q_mono (Kd.Q_keep (IsS104.apartQ (show IsS104 w0 _ g s0_0 t388 from is104_ HI0.out) (by (with_reducible repeat (first | apply Kd.Q_alloc | apply Kd.Q_drewN | apply Kd.Q_drew)); exact HO_348000.out) (by decide)) hk (fun _ h => h.2)) (fun _ h => h.1)); replace HO_348001 := Aside0.mk (Kd.Q_mono (Kd.Q_keep (IsS104.apartQ (show IsS104 w0 _ g s0_0 t388 from is104_ HI0.out) (by (with_reducible repeat (first | apply Kd.Q_alloc | apply Kd.Q_drewN | apply Kd.Q_drew)); exact HO_348001.out) (by decide)) hk (fun _ h => h.2)) (fun _ h => h.1)); replace BK346 := (bkA_ BK346 hk NB346_0); replace BK347 := (bkA_ BK347 hk NB347_0); replace HK := (kk_ HK hk); replace HB := Aside0.mk (hb); replace HI0 := Aside0.mk (hi); (try clear hb); (try clear hb2); (try clear hk); (try clear hi)))
        replace HO_348000 := Aside0.mk (Kd.Q_drew HO_348000.out); replace HO_348001 := Aside0.mk (Kd.Q_drew HO_348001.out); replace BK346 := Aside0.mk (blk_drew BK346.out); replace BK347 := Aside0.mk (blk_drew BK347.out); replace HI0 := Aside0.mk (IsS104.drew HI0.out); replace HK := Aside0.mk (keep_drew HK.out); replace HB := (bd_ HB)
        refine start_ (n := 10) (S := fun w' => w'.cell? ⟨gb347, 0, none⟩ = some (u348000) ∧ w'.cell? ⟨gb347, 1, none⟩ = some (u348001)) (ds := [9]) #[false, false, false, false, false, false, false, false, false, false] (by kernel_rfl) rfl rfl (cz2 BK347.out) (fun hHeld => ?_); refine with_tabW spec_l20Near.tab14 spec_l20Near.bits14 (fun HT_ HW_ => ?_)
        generalize w75.drew = w76 at HO_348000 HO_348001 BK346 BK347 HI0 HK HB hHeld ⊢
        refine pu_ (i := 0) (N := some 68) HT_ ?_; refine pu_ (i := 2) (N := some 70) HT_ ?_; refine pu_ (i := 5) (N := some 73) HT_ ?_; refine tk_ (i := 1) (N := some 69) HT_ HW_ hHeld ?_
        refine on_ (i := 3) (N := some 71) HT_ (fun K hK => ?_)
        refine goes_ Try.func58 (by kernel_rfl) rfl #[.pointer (some ⟨g, 0, none⟩), .int .i64 6] (by rfl) rfl rfl ar_ ?_
        with_reducible refine (spec_l20Rd_pick.calls k1 g s0_0 t390 6 t400 t401 w0 _ ?side1 ?side2 A72.out).mono ?_
        (case side1 => exact is104_ HI0.out)
        (case side2 => exact hb104_ HB.out)
        rintro e w77 ⟨rfl, hi, hb, hk⟩
        refine ⟨_, rfl, ?_⟩
        replace HO_348000 := Aside0.mk (Kd.Q_mono (Kd.Q_keep (IsS104.apartQ (show IsS104 w0 _ g s0_0 t390 from is104_ HI0.out) (by (with_reducible repeat (first | apply Kd.Q_alloc | apply Kd.Q_drewN | apply Kd.Q_drew)); exact HO_348000.out) (by decide)) hk (fun _ h => h.2)) (fun _ h => h.1)); replace HO_348001 := Aside0.mk (Kd.Q_mono (Kd.Q_keep (IsS104.apartQ (show IsS104 w0 _ g s0_0 t390 from is104_ HI0.out) (by (with_reducible repeat (first | apply Kd.Q_alloc | apply Kd.Q_drewN | apply Kd.Q_drew)); exact HO_348001.out) (by decide)) hk (fun _ h => h.2)) (fun _ h => h.1)); replace BK346 := (bkA_ BK346 hk NB346_0); replace BK347 := (bkA_ BK347 hk NB347_0); replace HK := (kk_ HK hk); replace HB := Aside0.mk (hb); replace HI0 := Aside0.mk (hi); (try clear hb); (try clear hb2); (try clear hk); (try clear hi)
        refine hK.out _ _ (cz2 BK347.out) (fun hHeld => ?_)
        clear hK K; refine nm_ 71 ?_; refine pu_ (i := 4) (N := some 72) HT_ ?_
        refine on_ (i := 6) (N := some 74) HT_ (fun K hK => ?_)
        refine value_ (w1 := ?_) (v := ?_) (by rfl) rfl ?_ ?_
        rotate_left 2
        ·go_simp
         constructor
         ·rfl
         ·rfl
        refine hK.out _ _ ⟨(blk_cell (blk_alloc BK347.out _) 0).trans rfl, (blk_cell (blk_alloc BK347.out _) 1).trans rfl⟩ (fun hHeld => ?_)
        clear hK K; refine nm_ 74 ?_
        refine on_ (i := 7) (N := some 75) HT_ (fun K hK => ?_)
        refine Q_append2s_ k65 w.heap.size (by rfl) (.tmp 69) (.tmp 74) 30 65 (.agg #[(.int .i64 0), (.slice none 0 0)]) 32 rfl Try.underlying30 info65 rfl (by decide) (by omega) u348001 x348001_1 (⟨t400, ([] : List Int)⟩ : S65) (⟨65536, ([] : List Int)⟩ : S65) [.int .i64 t400, .slice none 0 0] [.int .i64 65536, .slice none 0 0] [.int .i64 t400, .slice none 0 0, .int .i64 65536, .slice none 0 0] rfl (fun _ => True) rfl rfl ?aP ?aP2 ?aF ?aO (Below.refl _ _) ?aS ?aL ?_
        (case aP => exact k65_mkM _ _ _ (⟨t400, ([] : List Int)⟩ : S65) (Kd.R_nil _ _ _ _ _))
        (case aP2 => exact k65_mkM _ _ _ (⟨65536, ([] : List Int)⟩ : S65) (Kd.R_nil _ _ _ _ _))
        (case aF => exact (fun _ _ => trivial))
        (case aO => exact (by (with_reducible repeat (first | apply Kd.Q_alloc | apply Kd.Q_drewN | apply Kd.Q_drew)); exact HO_348001.out))
        (case aS => exact (keep_size (w := w) (g := g) (row := none) (hkA_ HK.out)))
        (case aL => have := LMc73.out; omega)
        intro v403 w78 ho hb hg hat
        rw [← Ny402.out] at ho
        have n0_ := Aside0.mk (Kd.Q_over' (by (with_reducible repeat (first | apply Kd.Q_alloc | apply Kd.Q_drewN | apply Kd.Q_drew)); exact HO_348000.out) (Kd.Q_typed (by (with_reducible repeat (first | apply Kd.Q_alloc | apply Kd.Q_drewN | apply Kd.Q_drew)); exact HO_348001.out)) (by decide) hg); have n1_ := (bgA_ BK346 hg (Kd.Q_ne HO_348001.out BK346.out (by decide))); have n2_ := (bgA_ BK347 hg (Kd.Q_ne HO_348001.out BK347.out (by decide))); have n3_ := Aside0.mk (IsS104.grown (is104_ HI0.out) hg (IsS104.own_neQ HI0.out HO_348001.out (by decide))); have n4_ := Aside0.mk (below_weaken (hb104_ HB.out) HL.out hb); have n5_ := Aside0.mk (KeepBut.trans (hkA_ HK.out) (KeepBut.of_grown hg g) (Kd.Q_base2 HO_348001.out)); have n6_ := Aside0.mk (ho); clear HO_348000 BK346 BK347 HI0 HB HK HO_348001; have HO_348000 := n0_; have BK346 := n1_; have BK347 := n2_; have HI0 := n3_; have HB := n4_; have HK := n5_; have HO404 := n6_; clear n0_ n1_ n2_ n3_ n4_ n5_ n6_ ho hb hg hat
        obtain ⟨Ao79, co79, eo79, _⟩ := Kd.Q_slice HO404.out
        (first | subst eo79 | (injection eo79 with f1_ f2_ f3_; have f4_ := f1_.symm; have f5_ := f3_.symm; clear f1_ f2_ f3_; subst f4_; subst f5_))
        refine hK.out _ _ (cz2 BK347.out) (fun hHeld => ?_)
        clear hK K; refine nm_ 75 ?_; refine pu_ (i := 8) (N := some 76) HT_ ?_
        refine last_ (i := 9) (N := none) #[true, true, true, true, true, true, true, true, true, true] rfl rfl (one_of HT_.out (by kernel_rfl)) (by decide) (fun K hK => ?_)
        have hs80 : w78.cell? ⟨gb347, 1, none⟩ = some (u348001) := bc_ BK347 1
        have hfs80 := blk_frozen BK347.out 1
        have hns80_0 := NB346_347.out; have hms80_0 := NB347_346.out
        refine skip_ (w1 := ?_) (by rfl) rfl ?_ ?_
        rotate_left
        ·go_simp
         rfl
        refine hK.out _ _ ?_
        clear hK K
        refine done_ (done_of HT_.out (by kernel_rfl)) ?_
        have hnb81 := NB347_346.out; have hnc81 := NB346_347.out; have hnb82 := NB347_0.out; have hnc82 := NB0_347.out; have Z83 := zz2 BK347
        obtain ⟨Ao84, co84, eo84, _⟩ := Kd.Q_slice HO_348000.out
        subst eo84; have hnb85 := NB346_0.out; have hnc85 := NB0_346.out; have Z86 := zz2 BK346
        try go_wp2
        refine bodyPost_ret (results_cell_row rfl _ _ gb346 32 #[.slice Ao84 x348000_1.length co84, .slice Ao79 y402.length co79] (0, 0) _ rfl (by refine kb_ ?_; refine pz2 (cs := #[.slice none 0 0, .slice none 0 0]) ?_; exact kf_ BK346.out) Try.underlying32 rfl (by kernel_rfl)) rfl ?_
        exact ⟨_, _, by first | rfl | (simp [errW_none, errW_some] <;> rfl) | (simp [*, errW_none, errW_some] <;> rfl), by (with_reducible repeat (first | apply Kd.Q_alloc | apply Kd.Q_drewN | apply Kd.Q_drew)); exact Kd.Q_mono (Kd.Q_far (p := ⟨gb346, 1, none⟩) (Kd.Q_far (p := ⟨gb346, 0, none⟩) (Kd.Q_far (p := ⟨gb347, 1, none⟩) (Kd.Q_types (Kd.Q_types HO_348000.out BK347.out (by decide)) BK346.out (by decide)) (fun _ hk => hk.1.2) (.slice Ao79 y402.length co79)) (fun _ hk => hk.2) (.slice Ao84 x348000_1.length co84)) (fun _ hk => hk.2) (.slice Ao79 y402.length co79)) (fun _ hk => trivial), by (with_reducible repeat (first | apply Kd.Q_alloc | apply Kd.Q_drewN | apply Kd.Q_drew)); exact Kd.Q_mono (Kd.Q_far (p := ⟨gb346, 1, none⟩) (Kd.Q_far (p := ⟨gb346, 0, none⟩) (Kd.Q_far (p := ⟨gb347, 1, none⟩) (Kd.Q_types (Kd.Q_types HO404.out BK347.out (by decide)) BK346.out (by decide)) (fun _ hk => hk.1.2) (.slice Ao79 y402.length co79)) (fun _ hk => hk.2) (.slice Ao84 x348000_1.length co84)) (fun _ hk => hk.2) (.slice Ao79 y402.length co79)) (fun _ hk => trivial), is104_ HI0.out, hb104_ HB.out, hkA_ HK.out⟩
       ·rw [if_neg c73] at H
        exact absurd H (by simp)
      ·rw [if_neg c71] at H
       have c71b0 : (t389 == 1) = false := beq_eq_false_iff_ne.mpr c71
       have c71b1 : (t389 != 1) = true := bne_iff_ne.mpr c71
       by_cases c87 : x348000_1.length + x348000_1.length < 5864062014805
       ·rw [if_pos c87] at H
        have LMc87 := Aside0.mk c87; clear c87
        obtain ⟨y405, hy405⟩ : ∃ y_ : List (S63), y_ = (x348000_1 ++ x348000_1) := ⟨_, rfl⟩
        (first | replace H := sb_ hy405 H | rw [← hy405] at H)
        have Ny405 := Aside0.mk hy405; clear hy405
        simp only [Option.some.injEq, Prod.mk.injEq] at H
        obtain ⟨rfl, rfl, rfl⟩ := H
        go_wp2_with (first | ((with_reducible refine gate_callee (f := 78) rfl ?_); refine goesL_ (some 43) rfl rfl Try.func78 (by kernel_rfl) rfl #[.pointer (some ⟨g, 0, none⟩), .int .i64 a1] rfl ar_ ?_; (with_reducible refine (spec_l20Rd_odd.calls k1 g s0_0 x1001_1 a1 true t388 w0 _ ?side1 ?side2 A48.out).mono ?_); (case side1 => exact is104_ HI0.out); (case side2 => exact hb104_ HB.out); rintro e w88 ⟨rfl, hi, hb, hk⟩; refine ⟨_, rfl, ?_⟩; replace HO_348000 := Aside0.mk (Kd.Q_mono (Kd.Q_keep (IsS104.apartQ (show IsS104 w0 _ g s0_0 x1001_1 from is104_ HI0.out) (by (with_reducible repeat (first | apply Kd.Q_alloc | apply Kd.Q_drewN | apply Kd.Q_drew)); exact HO_348000.out) (by decide)) hk (fun _ h => h.2)) (fun _ h => h.1)); replace HO_348001 := Aside0.mk (Kd.Q_mono (Kd.Q_keep (IsS104.apartQ (show IsS104 w0 _ g s0_0 x1001_1 from is104_ HI0.out) (by (with_reducible repeat (first | apply Kd.Q_alloc | apply Kd.Q_drewN | apply Kd.Q_drew)); exact HO_348001.out) (by decide)) hk (fun _ h => h.2)) (fun _ h => h.1)); replace BK346 := (bkA_ BK346 hk NB346_0); replace BK347 := (bkA_ BK347 hk NB347_0); replace HK := (kk_ HK hk); replace HB := Aside0.mk (hb); replace HI0 := Aside0.mk (hi); (try clear hb); (try clear hb2); (try clear hk); (try clear hi)) | ((with_reducible refine gate_callee (f := 58) rfl ?_); refine goesL_ (some 45) rfl rfl Try.func58 (by kernel_rfl) rfl #[.pointer (some ⟨g, 0, none⟩), .int .i64 3] rfl ar_ ?_; (with_reducible refine (spec_l20Rd_pick.calls k1 g s0_0 t388 3 t389 t390 w0 _ ?side1 ?side2 A50.out).mono ?_); (case side1 => exact is104_ HI0.out); (case side2 => exact hb104_ HB.out); rintro e w89 ⟨rfl, hi, hb, hk⟩; refine ⟨_, rfl, ?_⟩; replace HO_348000 := Aside0.mk (Kd.Q_mono (Kd.Q_keep (IsS104.apartQ (show IsS104 w0 _ g s0_0 t388 from is104_ HI0.out) (by (with_reducible repeat (first | apply Kd.Q_alloc | apply Kd.Q_drewN | apply Kd.Q_drew)); exact HO_348000.out) (by decide)) hk (fun _ h => h.2)) (fun _ h => h.1)); replace HO_348001 := Aside0.mk (Kd.Q_mono (Kd.Q_keep (IsS104.apartQ (show IsS104 w0 _ g s0_0 t388 from is104_ HI0.out) (by (with_reducible repeat (first | apply Kd.Q_alloc | apply Kd.Q_drewN | apply Kd.Q_drew)); exact HO_348001.out) (by decide)) hk (fun _ h => h.2)) (fun _ h => h.1)); replace BK346 := (bkA_ BK346 hk NB346_0); replace BK347 := (bkA_ BK347 hk NB347_0); replace HK := (kk_ HK hk); replace HB := Aside0.mk (hb); replace HI0 := Aside0.mk (hi); (try clear hb); (try clear hb2); (try clear hk); (try clear hi); have hnb90 := NB347_346.out; have hnc90 := NB346_347.out; have hnb91 := NB347_0.out; have hnc91 := NB0_347.out; have Z92 := zz2 BK347; obtain ⟨Ao94, co94, eo94, _⟩ := Kd.Q_slice HO_348000.out; subst eo94) | ((with_reducible refine gate_builtin (b := .append) (xs := #[.tmp 47, .tmp 49]) rfl ?_); at_builtin; refine Q_append_rows_ k63 w.heap.size rfl (.tmp 47) (.tmp 49) 29 63 (.agg #[(.int .i64 0), (.int .i64 0), (.int .i64 0)]) 24 rfl Try.underlying29 info63 rfl (by decide) (by omega) (.slice Ao94 x348000_1.length co94) x348000_1 x348000_1 _ _ _ (fun _ => True) (fun _ => False) rfl rfl ?aO ?aR (fun _ _ h => h) (fun _ h => h.elim) ?aF (Below.refl _ _) ?aS ?aL ?_; (case aR => exact kC_ (Kd.Q_reads' HO_348000.out).2.2); (case aF => exact (fun _ _ => trivial)); (case aO => exact (by (with_reducible repeat (first | apply Kd.Q_alloc | apply Kd.Q_drewN | apply Kd.Q_drew)); exact HO_348000.out)); (case aS => exact (keep_size (w := w) (g := g) (row := none) (hkA_ HK.out))); (case aL => have := LMc87.out; omega); intro v406 w93 ho hb hg hat; rw [← Ny405.out] at ho; replace HO_348001 := Aside0.mk (Kd.Q_over' (by (with_reducible repeat (first | apply Kd.Q_alloc | apply Kd.Q_drewN | apply Kd.Q_drew)); exact HO_348001.out) (Kd.Q_typed (by (with_reducible repeat (first | apply Kd.Q_alloc | apply Kd.Q_drewN | apply Kd.Q_drew)); exact HO_348000.out)) (by decide) hg); replace BK346 := (bgA_ BK346 hg (Kd.Q_ne HO_348000.out BK346.out (by decide))); replace BK347 := (bgA_ BK347 hg (Kd.Q_ne HO_348000.out BK347.out (by decide))); replace HI0 := Aside0.mk (IsS104.grown (is104_ HI0.out) hg (IsS104.own_neQ HI0.out HO_348000.out (by decide))); replace HB := Aside0.mk (below_weaken (hb104_ HB.out) HL.out hb); replace HK := Aside0.mk (KeepBut.trans (hkA_ HK.out) (KeepBut.of_grown hg g) (Kd.Q_base2 HO_348000.out)); have HO407 := Aside0.mk (ho); clear HO_348000; clear ho hb hg hat; obtain ⟨Ao95, co95, eo95, _⟩ := Kd.Q_slice HO407.out; subst eo95; have Z96 := zz2 BK347; have hnb97 := NB346_0.out; have hnc97 := NB0_346.out; have Z98 := zz2 BK346; obtain ⟨Ao99, co99, eo99, _⟩ := Kd.Q_slice HO_348001.out; subst eo99))
        refine bodyPost_ret (results_cell_row rfl _ _ gb346 32 #[.slice Ao95 y405.length co95, .slice Ao99 x348001_1.length co99] (0, 0) _ rfl (by refine kb_ ?_; refine pz2 (cs := #[.slice none 0 0, .slice none 0 0]) ?_; exact kf_ BK346.out) Try.underlying32 rfl (by kernel_rfl)) rfl ?_
        exact ⟨_, _, by first | rfl | (simp [errW_none, errW_some] <;> rfl) | (simp [*, errW_none, errW_some] <;> rfl), by (with_reducible repeat (first | apply Kd.Q_alloc | apply Kd.Q_drewN | apply Kd.Q_drew)); exact Kd.Q_mono (Kd.Q_far (p := ⟨gb346, 1, none⟩) (Kd.Q_far (p := ⟨gb346, 0, none⟩) (Kd.Q_far (p := ⟨gb347, 0, none⟩) (Kd.Q_types (Kd.Q_types HO407.out BK347.out (by decide)) BK346.out (by decide)) (fun _ hk => hk.1.2) (.slice Ao95 y405.length co95)) (fun _ hk => hk.2) (.slice Ao95 y405.length co95)) (fun _ hk => hk.2) (.slice Ao99 x348001_1.length co99)) (fun _ hk => trivial), by (with_reducible repeat (first | apply Kd.Q_alloc | apply Kd.Q_drewN | apply Kd.Q_drew)); exact Kd.Q_mono (Kd.Q_far (p := ⟨gb346, 1, none⟩) (Kd.Q_far (p := ⟨gb346, 0, none⟩) (Kd.Q_far (p := ⟨gb347, 0, none⟩) (Kd.Q_types (Kd.Q_types HO_348001.out BK347.out (by decide)) BK346.out (by decide)) (fun _ hk => hk.1.2) (.slice Ao95 y405.length co95)) (fun _ hk => hk.2) (.slice Ao95 y405.length co95)) (fun _ hk => hk.2) (.slice Ao99 x348001_1.length co99)) (fun _ hk => trivial), is104_ HI0.out, hb104_ HB.out, hkA_ HK.out⟩
       ·rw [if_neg c87] at H
        exact absurd H (by simp)
    ·replace c49 := Bool.eq_false_iff.mpr c49
     subst c49
     rw [if_neg (show ¬ (false = true) by decide)] at H
     simp only [Option.some.injEq, Prod.mk.injEq] at H
     obtain ⟨rfl, rfl, rfl⟩ := H
     go_wp2_with (first | ((with_reducible refine gate_callee (f := 78) rfl ?_); refine goesL_ (some 43) rfl rfl Try.func78 (by kernel_rfl) rfl #[.pointer (some ⟨g, 0, none⟩), .int .i64 a1] rfl ar_ ?_; (with_reducible refine (spec_l20Rd_odd.calls k1 g s0_0 x1001_1 a1 false t388 w0 _ ?side1 ?side2 A48.out).mono ?_); (case side1 => exact is104_ HI0.out); (case side2 => exact hb104_ HB.out); rintro e w100 ⟨rfl, hi, hb, hk⟩; refine ⟨_, rfl, ?_⟩; replace HO_348000 := Aside0.mk (Kd.Q_mono (Kd.Q_keep (IsS104.apartQ (show IsS104 w0 _ g s0_0 x1001_1 from is104_ HI0.out) (by (with_reducible repeat (first | apply Kd.Q_alloc | apply Kd.Q_drewN | apply Kd.Q_drew)); exact HO_348000.out) (by decide)) hk (fun _ h => h.2)) (fun _ h => h.1)); replace HO_348001 := Aside0.mk (Kd.Q_mono (Kd.Q_keep (IsS104.apartQ (show IsS104 w0 _ g s0_0 x1001_1 from is104_ HI0.out) (by (with_reducible repeat (first | apply Kd.Q_alloc | apply Kd.Q_drewN | apply Kd.Q_drew)); exact HO_348001.out) (by decide)) hk (fun _ h => h.2)) (fun _ h => h.1)); replace BK346 := (bkA_ BK346 hk NB346_0); replace BK347 := (bkA_ BK347 hk NB347_0); replace HK := (kk_ HK hk); replace HB := Aside0.mk (hb); replace HI0 := Aside0.mk (hi); (try clear hb); (try clear hb2); (try clear hk); (try clear hi); have hnb101 := NB347_346.out; have hnc101 := NB346_347.out; have hnb102 := NB347_0.out; have hnc102 := NB0_347.out; have Z103 := zz2 BK347; obtain ⟨Ao104, co104, eo104, _⟩ := Kd.Q_slice HO_348000.out; subst eo104; have hnb105 := NB346_0.out; have hnc105 := NB0_346.out; have Z106 := zz2 BK346; obtain ⟨Ao107, co107, eo107, _⟩ := Kd.Q_slice HO_348001.out; subst eo107))
     refine bodyPost_ret (results_cell_row rfl _ _ gb346 32 #[.slice Ao104 x348000_1.length co104, .slice Ao107 x348001_1.length co107] (0, 0) _ rfl (by refine kb_ ?_; refine pz2 (cs := #[.slice none 0 0, .slice none 0 0]) ?_; refine kb_ ?_; exact BK346.out) Try.underlying32 rfl (by kernel_rfl)) rfl ?_
     exact ⟨_, _, by first | rfl | (simp [errW_none, errW_some] <;> rfl) | (simp [*, errW_none, errW_some] <;> rfl), by (with_reducible repeat (first | apply Kd.Q_alloc | apply Kd.Q_drewN | apply Kd.Q_drew)); exact Kd.Q_mono (Kd.Q_far (p := ⟨gb346, 1, none⟩) (Kd.Q_far (p := ⟨gb346, 0, none⟩) (Kd.Q_types HO_348000.out BK346.out (by decide)) (fun _ hk => hk.2) (.slice Ao104 x348000_1.length co104)) (fun _ hk => hk.2) (.slice Ao107 x348001_1.length co107)) (fun _ hk => trivial), by (with_reducible repeat (first | apply Kd.Q_alloc | apply Kd.Q_drewN | apply Kd.Q_drew)); exact Kd.Q_mono (Kd.Q_far (p := ⟨gb346, 1, none⟩) (Kd.Q_far (p := ⟨gb346, 0, none⟩) (Kd.Q_types HO_348001.out BK346.out (by decide)) (fun _ hk => hk.2) (.slice Ao104 x348000_1.length co104)) (fun _ hk => hk.2) (.slice Ao107 x348001_1.length co107)) (fun _ hk => trivial), is104_ HI0.out, hb104_ HB.out, hkA_ HK.out⟩
def spec_DrawNearHear.f (k : Nat) (l0 : List Int) : Option ((List (S63)) × (List (S65)) × Int × Int × Int × Int × Int × Int) := (spec_l20Open.f l0).bind fun bt410 => ((spec_l20Near.f k bt410.1 bt410.2 15).bind fun bt413 => ((spec_l20Rd_pick.f k bt410.1 bt413.2.2 6).bind fun bt420 => ((spec_l20Query.f k bt410.1 bt420.2 15).bind fun bt422 => ((spec_l20Rd_pick.f k bt410.1 bt422.2.2.2.2 50).bind fun bt427 => (some (bt413.1, bt413.2.1, bt420.1, bt422.1, bt422.2.1, bt422.2.2.1, bt422.2.2.2.1, bt427.1))))))
theorem spec_DrawNearHear.mono : ∀ a0 k, LeO (spec_DrawNearHear.f k a0) (spec_DrawNearHear.f (k + 1) a0) := by
 intro a0 k
 unfold spec_DrawNearHear.f
 repeat' first | (with_reducible first | apply spec_l20Near.mono | apply spec_l20Query.mono | apply spec_l20Rd_pick.mono | exact LeO.refl _ | exact LeO.none _ | refine LeO.ite ?_ ?_ | refine LeO.bind ?_ fun _ => ?_) | apply spec_l20Near.mono | apply spec_l20Query.mono | apply spec_l20Rd_pick.mono | exact LeO.none _ | refine LeO.ite ?_ ?_ | refine LeO.bind ?_ fun _ => ?_
set_option maxHeartbeats 8000000 in
set_option maxRecDepth 100000 in
theorem spec_DrawNearHear.calls (k : Nat) (A0 : Option Addr) (c0 : Nat) (l0 : List Int) (r1 : List (S63)) (r2 : List (S65)) (r3 : Int) (r4 : Int) (r5 : Int) (r6 : Int) (r7 : Int) (r8 : Int) (w : World) (hr0 : Kd.C (Kd.int .u8) w A0 l0.length l0) (hc0 : l0.length ≤ c0) (h : spec_DrawNearHear.f k l0 = some (r1, r2, r3, r4, r5, r6, r7, r8)) :
  Calls Try.prog 17 #[.slice A0 l0.length c0] w fun e w' => ∃ v0_ v1_ : Value, e = .returned (.tuple #[.agg #[v0_, v1_], .int .i64 r3, .agg #[.int .i64 r4, .int .i64 r5, .int .i64 r6, .int .i64 r7], .int .i64 r8]) ∧ Kd.Q k63 63 w' w.heap.size (fun _ => True) v0_ r1 ∧ Kd.Q k65 65 w' w.heap.size (fun _ => True) v1_ r2 ∧ Below w.heap.size w w' := by
 have hu32 := Try.underlying32; have hu37 := Try.underlying37; have HR0 := Aside0.mk hr0; have HC0 := Aside0.mk hc0; clear hr0 hc0
 have HB := Aside0.mk (Below.refl w.heap.size w)
 have H : ((spec_l20Open.f l0).bind fun bt410 => ((spec_l20Near.f k bt410.1 bt410.2 15).bind fun bt413 => ((spec_l20Rd_pick.f k bt410.1 bt413.2.2 6).bind fun bt420 => ((spec_l20Query.f k bt410.1 bt420.2 15).bind fun bt422 => ((spec_l20Rd_pick.f k bt410.1 bt422.2.2.2.2 50).bind fun bt427 => (some (bt413.1, bt413.2.1, bt420.1, bt422.1, bt422.2.1, bt422.2.2.1, bt422.2.2.2.1, bt427.1))))))) = some (r1, r2, r3, r4, r5, r6, r7, r8) := h
 clear h
 replace H := Option.bind_eq_some_iff.mp H
 obtain ⟨⟨t410, t411⟩, A20, H⟩ := H
 (try dsimp only at H)
 have A2 := Aside0.mk A20; clear A20
 replace H := Option.bind_eq_some_iff.mp H
 obtain ⟨⟨t413, t416, t419⟩, A30, H⟩ := H
 (try dsimp only at H)
 have A3 := Aside0.mk A30; clear A30
 replace H := Option.bind_eq_some_iff.mp H
 obtain ⟨⟨t420, t421⟩, A40, H⟩ := H
 (try dsimp only at H)
 have A4 := Aside0.mk A40; clear A40
 replace H := Option.bind_eq_some_iff.mp H
 obtain ⟨⟨t422, t423, t424, t425, t426⟩, A50, H⟩ := H
 (try dsimp only at H)
 have A5 := Aside0.mk A50; clear A50
 replace H := Option.bind_eq_some_iff.mp H
 obtain ⟨⟨t427, t428⟩, A60, H⟩ := H
 (try dsimp only at H)
 have A6 := Aside0.mk A60; clear A60
 simp only [Option.some.injEq, Prod.mk.injEq] at H
 obtain ⟨rfl, rfl, rfl, rfl, rfl, rfl, rfl, rfl⟩ := H
 go_enter Try.func17, Try.ntmps17
 go_wp2_with (first | ((with_reducible refine gate_dst (N := 2) rfl ?_); refine box_ (N := 2) (cs := #[.slice none 0 0, .slice none 0 0]) (t := 32) (fun gb408 hg w7 hbox hb => ?_); have BK408 := Aside0.mk (hbox); have GW408 := ge_ hg HB; have GE408 := ge_ hg HB; replace HB := (bs_ HB hb); clear hb hbox hg) | ((with_reducible refine gate_dst (N := 4) rfl ?_); refine box_ (N := 4) (cs := #[.int .i64 0, .int .i64 0, .int .i64 0, .int .i64 0]) (t := 37) (fun gb409 hg w8 hbox hb => ?_); have BK409 := Aside0.mk (hbox); have GW409 := ge_ hg HB; have GE409 := ge_ hg HB; replace HB := (bs_ HB hb); have NB408_409 := nl_ hg BK408; have NB409_408 := ng_ hg BK408; replace BK408 := (bbA_ BK408 hb); clear hb hbox hg) | ((with_reducible refine gate_callee (f := 56) rfl ?_); refine goesL_ (some 8) rfl rfl Try.func56 (by kernel_rfl) rfl #[.slice A0 l0.length c0] rfl ar_ ?_; (with_reducible refine (spec_l20Open.calls _ _ l0 t410 t411 w _ ?side1 ?side2 ?side3 A2.out).mono ?_); (case side1 => exact hbA_ HB.out); (case side2 => exact HR0.out); (case side3 => exact HC0.out); rintro e w9 ⟨g412, rfl, hi, hb, hb2⟩; refine ⟨_, rfl, ?_⟩; replace HB := Aside0.mk (hb); have HI412 := Aside0.mk (hi); have NB412_408 := Aside0.mk (IsS104.ne_blk hi (bb_ BK408 hb2) (by decide)); have NB408_412 := Aside0.mk (Ne.symm (IsS104.ne_blk hi (bb_ BK408 hb2) (by decide))); replace BK408 := (bbA_ BK408 hb2); have NB412_409 := Aside0.mk (IsS104.ne_blk hi (bb_ BK409 hb2) (by decide)); have NB409_412 := Aside0.mk (Ne.symm (IsS104.ne_blk hi (bb_ BK409 hb2) (by decide))); replace BK409 := (bbA_ BK409 hb2); (try clear hb); (try clear hb2); (try clear hk); (try clear hi)) | ((with_reducible refine gate_callee (f := 57) rfl ?_); refine goesL_ (some 10) rfl rfl Try.func57 (by kernel_rfl) rfl #[.pointer (some ⟨g412, 0, none⟩), .int .i64 15] rfl ar_ ?_; (with_reducible refine (spec_l20Near.calls k g412 t410 t411 15 t413 t416 t419 w _ ?side1 ?side2 A3.out).mono ?_); (case side1 => exact is104_ HI412.out); (case side2 => exact hb104_ HB.out); rintro e w10 ⟨v414, v417, rfl, ho0, ho1, hi, hb, hk⟩; refine ⟨_, rfl, ?_⟩; replace BK408 := (bkA_ BK408 hk NB408_412); replace BK409 := (bkA_ BK409 hk NB409_412); have HO415 := Aside0.mk (Kd.Q_lower ho0 (below_size (hb104_ HB.out))); have HO418 := Aside0.mk (Kd.Q_lower ho1 (below_size (hb104_ HB.out))); replace HB := Aside0.mk (hb); replace HI412 := Aside0.mk (hi); (try clear hb); (try clear hb2); (try clear hk); (try clear hi); (try clear ho0); (try clear ho1)) | ((with_reducible refine gate_callee (f := 58) rfl ?_); refine goesL_ (some 12) rfl rfl Try.func58 (by kernel_rfl) rfl #[.pointer (some ⟨g412, 0, none⟩), .int .i64 6] rfl ar_ ?_; (with_reducible refine (spec_l20Rd_pick.calls k g412 t410 t419 6 t420 t421 w _ ?side1 ?side2 A4.out).mono ?_); (case side1 => exact is104_ HI412.out); (case side2 => exact hb104_ HB.out); rintro e w11 ⟨rfl, hi, hb, hk⟩; refine ⟨_, rfl, ?_⟩; replace BK408 := (bkA_ BK408 hk NB408_412); replace BK409 := (bkA_ BK409 hk NB409_412); replace HO415 := Aside0.mk (Kd.Q_mono (Kd.Q_keep (IsS104.apartQ (show IsS104 w _ g412 t410 t419 from is104_ HI412.out) (by (with_reducible repeat (first | apply Kd.Q_alloc | apply Kd.Q_drewN | apply Kd.Q_drew)); exact HO415.out) (by decide)) hk (fun _ h => h.2)) (fun _ h => h.1)); replace HO418 := Aside0.mk (Kd.Q_mono (Kd.Q_keep (IsS104.apartQ (show IsS104 w _ g412 t410 t419 from is104_ HI412.out) (by (with_reducible repeat (first | apply Kd.Q_alloc | apply Kd.Q_drewN | apply Kd.Q_drew)); exact HO418.out) (by decide)) hk (fun _ h => h.2)) (fun _ h => h.1)); replace HB := Aside0.mk (hb); replace HI412 := Aside0.mk (hi); (try clear hb); (try clear hb2); (try clear hk); (try clear hi)) | ((with_reducible refine gate_callee (f := 59) rfl ?_); refine goesL_ (some 14) rfl rfl Try.func59 (by kernel_rfl) rfl #[.pointer (some ⟨g412, 0, none⟩), .int .i64 15] rfl ar_ ?_; (with_reducible refine (spec_l20Query.calls k g412 t410 t421 15 t422 t423 t424 t425 t426 w _ ?side1 ?side2 A5.out).mono ?_); (case side1 => exact is104_ HI412.out); (case side2 => exact hb104_ HB.out); rintro e w12 ⟨rfl, hi, hb, hk⟩; refine ⟨_, rfl, ?_⟩; replace BK408 := (bkA_ BK408 hk NB408_412); replace BK409 := (bkA_ BK409 hk NB409_412); replace HO415 := Aside0.mk (Kd.Q_mono (Kd.Q_keep (IsS104.apartQ (show IsS104 w _ g412 t410 t421 from is104_ HI412.out) (by (with_reducible repeat (first | apply Kd.Q_alloc | apply Kd.Q_drewN | apply Kd.Q_drew)); exact HO415.out) (by decide)) hk (fun _ h => h.2)) (fun _ h => h.1)); replace HO418 := Aside0.mk (Kd.Q_mono (Kd.Q_keep (IsS104.apartQ (show IsS104 w _ g412 t410 t421 from is104_ HI412.out) (by (with_reducible repeat (first | apply Kd.Q_alloc | apply Kd.Q_drewN | apply Kd.Q_drew)); exact HO418.out) (by decide)) hk (fun _ h => h.2)) (fun _ h => h.1)); replace HB := Aside0.mk (hb); replace HI412 := Aside0.mk (hi); (try clear hb); (try clear hb2); (try clear hk); (try clear hi)) | ((with_reducible refine gate_callee (f := 58) rfl ?_); refine goesL_ (some 16) rfl rfl Try.func58 (by kernel_rfl) rfl #[.pointer (some ⟨g412, 0, none⟩), .int .i64 50] rfl ar_ ?_; (with_reducible refine (spec_l20Rd_pick.calls k g412 t410 t426 50 t427 t428 w _ ?side1 ?side2 A6.out).mono ?_); (case side1 => exact is104_ HI412.out); (case side2 => exact hb104_ HB.out); rintro e w13 ⟨rfl, hi, hb, hk⟩; refine ⟨_, rfl, ?_⟩; replace BK408 := (bkA_ BK408 hk NB408_412); replace BK409 := (bkA_ BK409 hk NB409_412); replace HO415 := Aside0.mk (Kd.Q_mono (Kd.Q_keep (IsS104.apartQ (show IsS104 w _ g412 t410 t426 from is104_ HI412.out) (by (with_reducible repeat (first | apply Kd.Q_alloc | apply Kd.Q_drewN | apply Kd.Q_drew)); exact HO415.out) (by decide)) hk (fun _ h => h.2)) (fun _ h => h.1)); replace HO418 := Aside0.mk (Kd.Q_mono (Kd.Q_keep (IsS104.apartQ (show IsS104 w _ g412 t410 t426 from is104_ HI412.out) (by (with_reducible repeat (first | apply Kd.Q_alloc | apply Kd.Q_drewN | apply Kd.Q_drew)); exact HO418.out) (by decide)) hk (fun _ h => h.2)) (fun _ h => h.1)); replace HB := Aside0.mk (hb); replace HI412 := Aside0.mk (hi); (try clear hb); (try clear hb2); (try clear hk); (try clear hi); obtain ⟨Ao14, co14, eo14, _⟩ := Kd.Q_slice HO415.out; subst eo14; have hnb15 := NB408_409.out; have hnc15 := NB409_408.out; have hnb16 := NB408_412.out; have hnc16 := NB412_408.out; have Z17 := zz2 BK408; obtain ⟨Ao18, co18, eo18, _⟩ := Kd.Q_slice HO418.out; subst eo18; have hnb19 := NB409_412.out; have hnc19 := NB412_409.out; have Z20 := zz4 BK409))
 refine bodyPost_ret (results_list (rs := [.cell 2 32, .tmp 3, .cell 4 37, .tmp 5]) rfl (by simp) (.cell gb408 32 #[.slice Ao14 t413.length co14, .slice Ao18 t416.length co18] (0, 0) _ rfl (by refine kb_ ?_; refine blk_far ?_ NB408_409.out _; refine kb_ ?_; refine blk_far ?_ NB408_409.out _; refine kb_ ?_; refine blk_far ?_ NB408_409.out _; refine kb_ ?_; refine blk_far ?_ NB408_409.out _; refine kb_ ?_; refine pz2 (cs := #[.slice none 0 0, .slice none 0 0]) ?_; refine kb_ ?_; exact BK408.out) Try.underlying32 rfl (by kernel_rfl) (.tmp (.cell gb409 37 #[.int .i64 t422, .int .i64 t423, .int .i64 t424, .int .i64 t425] (0, 0) _ rfl (by refine kb_ ?_; refine pz4 (cs := #[.int .i64 0, .int .i64 0, .int .i64 0, .int .i64 0]) ?_; exact kf_ BK409.out) Try.underlying37 rfl (by kernel_rfl) (.tmp .nil))))) rfl ?_
 exact ⟨_, _, by first | rfl | (simp [errW_none, errW_some] <;> rfl) | (simp [*, errW_none, errW_some] <;> rfl), by (with_reducible repeat (first | apply Kd.Q_alloc | apply Kd.Q_drewN | apply Kd.Q_drew)); exact Kd.Q_mono (Kd.Q_far (p := ⟨gb409, 3, none⟩) (Kd.Q_far (p := ⟨gb409, 2, none⟩) (Kd.Q_far (p := ⟨gb409, 1, none⟩) (Kd.Q_far (p := ⟨gb409, 0, none⟩) (Kd.Q_far (p := ⟨gb408, 1, none⟩) (Kd.Q_far (p := ⟨gb408, 0, none⟩) (Kd.Q_types (Kd.Q_types HO415.out BK408.out (by decide)) BK409.out (by decide)) (fun _ hk => hk.1.2) (.slice Ao14 t413.length co14)) (fun _ hk => hk.1.2) (.slice Ao18 t416.length co18)) (fun _ hk => hk.2) (.int .i64 t422)) (fun _ hk => hk.2) (.int .i64 t423)) (fun _ hk => hk.2) (.int .i64 t424)) (fun _ hk => hk.2) (.int .i64 t425)) (fun _ hk => trivial), by (with_reducible repeat (first | apply Kd.Q_alloc | apply Kd.Q_drewN | apply Kd.Q_drew)); exact Kd.Q_mono (Kd.Q_far (p := ⟨gb409, 3, none⟩) (Kd.Q_far (p := ⟨gb409, 2, none⟩) (Kd.Q_far (p := ⟨gb409, 1, none⟩) (Kd.Q_far (p := ⟨gb409, 0, none⟩) (Kd.Q_far (p := ⟨gb408, 1, none⟩) (Kd.Q_far (p := ⟨gb408, 0, none⟩) (Kd.Q_types (Kd.Q_types HO418.out BK408.out (by decide)) BK409.out (by decide)) (fun _ hk => hk.1.2) (.slice Ao14 t413.length co14)) (fun _ hk => hk.1.2) (.slice Ao18 t416.length co18)) (fun _ hk => hk.2) (.int .i64 t422)) (fun _ hk => hk.2) (.int .i64 t423)) (fun _ hk => hk.2) (.int .i64 t424)) (fun _ hk => hk.2) (.int .i64 t425)) (fun _ hk => trivial), hb104_ HB.out⟩
def laws_sameBytes.f (l0 : List Int) (l1 : List Int) : Option (Bool) := some ((strOfNums l0).toList == (strOfNums l1).toList)
set_option maxHeartbeats 8000000 in
set_option maxRecDepth 100000 in
theorem laws_sameBytes.calls (A0 : Option Addr) (c0 : Nat) (l0 : List Int) (A1 : Option Addr) (c1 : Nat) (l1 : List Int) (r : Bool) (w : World) (hr0 : Kd.C (Kd.int .u8) w A0 l0.length l0) (hc0 : l0.length ≤ c0) (hr1 : Kd.C (Kd.int .u8) w A1 l1.length l1) (hc1 : l1.length ≤ c1) (h : laws_sameBytes.f l0 l1 = some r) :
  Calls Try.prog 60 #[.slice A0 l0.length c0, .slice A1 l1.length c1] w fun e w' => e = .returned (.bool r) ∧ Drawn0 w w' := by
 have HR0 := Aside0.mk hr0; have HC0 := Aside0.mk hc0; clear hr0 hc0; have HR1 := Aside0.mk hr1; have HC1 := Aside0.mk hc1; clear hr1 hc1
 have H : (some ((strOfNums l0).toList == (strOfNums l1).toList)) = some r := h
 clear h
 obtain rfl := Option.some.inj H
 have hcv3 := Kd.C_string (P := Try.prog) (A := A0) (c := c0) Try.underlying44 Try.underlying5 Try.underlying9 HR0.out
 have hcv4 := Kd.C_string (P := Try.prog) (A := A1) (c := c1) Try.underlying44 Try.underlying5 Try.underlying9 HR1.out
 go_enter Try.func60, Try.ntmps60
 go_wp2
 go_ret
 exact ⟨by first | rfl | (simp; done) | (simp [*]; done), by repeat (first | exact Drawn0.refl _ | apply Drawn0.step)⟩
end Go.Proofs.Ytdoohdbfpnmndaa.PFnNearHear
