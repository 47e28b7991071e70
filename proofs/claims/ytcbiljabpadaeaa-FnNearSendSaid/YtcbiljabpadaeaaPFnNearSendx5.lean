/- Printed by wip/xp/xprint.sh out of the translation, for this claim: what each function answers, as a plain function, and that the machine does just that. No condition. -/
import Derived.Test.YtcbiljabpadaeaaPFnNearSendx0
import Derived.Test.YtcbiljabpadaeaaPFnNearSendx2
import Derived.Test.YtcbiljabpadaeaaPFnNearSendx3
import Derived.Test.YtcbiljabpadaeaaPFnNearSendx4
namespace Go.Proofs.Ytcbiljabpadaeaa.PFnNearSend
open Go.RowKit Go.Proofs.YtcbiljabpadaeaaW.PrintWords Go.Proofs.YtcbiljabpadaeaaW.PrintLast Go.Proofs.YtcbiljabpadaeaaW.PrintMore
attribute [local go_sem] max2_int min2_int max_two min_two max_three min_three max_four min_four   -- for this text's walks alone
set_option linter.unusedVariables false
set_option linter.unusedSimpArgs false
open Kd in
theorem Q_append_rows_ {P : Program} {ops : Array Oper} {rest : List Oper} {o : Oper} {a : Act} {Q' : Exit → Act → World → Prop} {α : Type} (d : Kd α) {Rr : α → List Value → Prop} {w0 W : World} (base : Nat) (hgd : o.guard = none) (s x : Operand) (t e : TypeId) (z : Value) (bytes : Nat)
    (ho : o.op = .call { callee := .builtin .append, args := #[s, x], argTypes := #[t, t] })
    (ht : P.underlying t = some (.slice e)) (hinfo : (P.info? e).map (fun i => (i.zero, i.size, i.bytes)) = some (some z, d.sz, bytes)) (hz : z.cells.size = d.sz) (hs0 : 0 < d.sz) (hb0 : 0 < bytes)
    (v : Value) (xs ys : List α) (A : Option Addr) (m c : Nat) (ok okp : Nat → Prop) (hs : a.eval s = v) (hx : a.eval x = .slice A m c)
    (HO : d.Q e W base ok v xs) (HR : ReadsRow Rr d.sz W A m ys) (hKM : ∀ x cs, Rr x cs → d.M W base okp x cs) (hokp : ∀ k, okp k → ok k ∧ some k ≠ v.ownBlock) (hfresh : ∀ k, W.heap.size ≤ k → ok k)
    (HB : Below base w0 W) (hbase : base ≤ W.heap.size) (hl : (xs.length + m) * bytes ≤ 140737488355328)
    (h : ∀ v1 w1, d.Q e w1 base ok v1 (xs ++ ys) → Below base w0 w1 → W.grownBy w1 v.ownBlock → (v1.ownBlock = v.ownBlock ∨ ∃ b, v1.ownBlock = some b ∧ W.heap.size ≤ b) → wpList P ops Q' rest (a.put o.dst v1) w1) :
    wpList P ops Q' (o :: rest) a W := by
  obtain ⟨i0, hi, hzz⟩ := Option.map_eq_some_iff.1 hinfo
  simp only [Prod.mk.injEq] at hzz
  obtain ⟨hz0, hz1, hz2⟩ := hzz
  have hm : ys.length = m := HR.1
  have hlen : xs.length + m ≤ 140737488355328 := Nat.le_trans (Nat.le_mul_of_pos_right _ hb0) hl
  obtain ⟨hok, inner, hown, hr⟩ := HO
  have hrun : ∃ v1 w1, (Builtin.append_ #[t, t] o.type #[v, .slice A m c]).run P W = .ok v1 w1 ∧ d.Q e w1 base ok v1 (xs ++ ys) ∧ W.grownBy w1 v.ownBlock ∧ (v1.ownBlock = v.ownBlock ∨ ∃ b, v1.ownBlock = some b ∧ W.heap.size ≤ b) := by
    rcases Nat.eq_zero_or_pos m with h0 | h0
    · subst h0
      obtain rfl : ys = [] := List.eq_nil_of_length_eq_zero hm
      refine ⟨v, W, ?_, by rw [List.append_nil]; exact ⟨hok, inner, hown, hr⟩, World.grownBy.refl W _, .inl rfl⟩
      rcases hown.2 with ⟨hn, A', rfl, _⟩ | ⟨g, off, cap, cur, rfl, _, _, hnc, _⟩
      · cases A <;> cases A' <;> simp [Builtin.append_, run_underlying ht, sizeOf, typeInfo, hi, Builtin.lenOf, Builtin.firstCells, loadCells, loadCellsFrom, storeCells]
      · cases A <;> simp [Builtin.append_, run_underlying ht, sizeOf, typeInfo, hi, Builtin.lenOf, Builtin.firstCells, hnc, loadCells, loadCellsFrom, storeCells]
    · obtain ⟨ad, rfl, _⟩ := HR.2.2 h0
      obtain ⟨news, hnr, hnc⟩ := ReadsRow.inner_ HR
      have hnM : Reps (d.M W base okp) d.sz ys news := hnr.imp_ (fun p c hp => hKM p c hp)
      have hone : ∀ u ∈ news, u.oneCell' = true := by
        intro u hu
        obtain ⟨q, hq, rfl⟩ := List.mem_iff_getElem.1 hu
        have hql : q / d.sz < ys.length := by
          rw [Nat.div_lt_iff_lt_mul hs0]
          rw [← hnM.1]
          exact hq
        have hc := hnM.2 (q / d.sz) _ (List.getElem?_eq_getElem hql)
        refine d.K_one (d.K_of_M hc) _ ?_
        rw [List.mem_iff_getElem?]
        refine ⟨q % d.sz, ?_⟩
        rw [List.getElem?_take, if_pos (Nat.mod_lt _ hs0), List.getElem?_drop, Nat.mul_comm, Nat.div_add_mod, List.getElem?_eq_getElem hq]
      obtain ⟨v1, w1, hrun, h2, hg, hat'⟩ := q_append (P := P) W base t o.type e i0 z d.sz bytes ht hi hz0 hz1 hz2 hz hs0 v xs.length inner hown ad m c news (by rw [hnM.1, hm]) hnc hone h0 (by simp only [maxLen]; omega) hl hbase
      have hne : ∀ k, some k ≠ v.ownBlock → k < W.heap.size → some k ≠ v1.ownBlock := by
        intro k hk hlt
        rcases hat' with hat | ⟨b, hb, hle⟩
        · rw [hat]; exact hk
        · rw [hb]
          intro he
          injection he with he
          omega
      have step : ∀ {q : α} {c : List Value} {o : Nat → Prop}, d.M W base o q c → (∀ k, o k → ok k ∧ some k ≠ v.ownBlock) → d.M w1 base (fun k => ok k ∧ some k ≠ v1.ownBlock) q c := by
        intro q c o hq ho
        have h1 := d.M_move (w1 := w1) (fun k hk => hg.block k hk.2.2.1 (ho k hk.1).2) (d.M_bound hq)
        exact d.M_mono (fun k hk => ⟨(ho k hk.1).1, hne k (ho k hk.1).2 hk.2.2.1⟩) h1
      refine ⟨v1, w1, hrun, ⟨fun k hk => ?_, inner ++ news, by rw [List.length_append, hm]; exact h2, reps_append (hr.imp_ (fun _ _ hq => step hq (fun _ hk => hk))) (hnM.imp_ (fun _ _ hq => step hq hokp))⟩, hg, hat'⟩
      rcases hat' with hat | ⟨b, hb, hle⟩
      · exact hok k (hat ▸ hk)
      · rw [hb] at hk
        injection hk with hk
        exact hfresh k (by omega)
  obtain ⟨v1, w1, hr1, h1, hg, hat⟩ := hrun
  refine wpList_plain hgd fun K hK => ?_
  unfold Oper.wp execOp
  simp only [ho, resolve, invoke, builtin, Sem.run_bind, Sem.run_pure, Result.andThen_ok, List.map_toArray, List.map_cons, List.map_nil, hs, hx, hr1]
  exact hK _ _ (h v1 w1 h1 (HB.grown hg hbase (fun k hk => (q_typed hown k hk).1)) hg hat)
open Kd in
theorem Q_run2_ {P : Program} {α : Type} (d : Kd α) {w0 W : World} (base : Nat) (t ty e : TypeId) (z : Value) (bytes : Nat)
    (ht : P.underlying t = some (.slice e)) (hinfo : (P.info? e).map (fun i => (i.zero, i.size, i.bytes)) = some (some z, d.sz, bytes)) (hz : z.cells.size = d.sz) (hs0 : 0 < d.sz) (hb0 : 0 < bytes)
    (v : Value) (xs : List α) (p p2 : α) (cs cs2 cc : List Value) (hcc : cc = cs ++ cs2) (ok : Nat → Prop) (hp : d.M W base (fun _ => False) p cs) (hp2 : d.M W base (fun _ => False) p2 cs2) (hfresh : ∀ k, W.heap.size ≤ k → ok k)
    (HO : d.Q e W base ok v xs) (HB : Below base w0 W) (hbase : base ≤ W.heap.size) (hl : (xs.length + 2) * bytes ≤ 140737488355328) :
    ∃ v1 w1, (Builtin.append_ #[t, t] ty #[v, .slice (some ⟨W.heap.size, 0, none⟩) 2 2]).run P (W.alloc (.cells cc.toArray e)) = .ok v1 w1 ∧ d.Q e w1 base ok v1 (xs ++ [p, p2]) ∧ Below base w0 w1 ∧ W.grownBy w1 v.ownBlock ∧ (v1.ownBlock = v.ownBlock ∨ ∃ b, v1.ownBlock = some b ∧ W.heap.size ≤ b) := by
  subst hcc
  obtain ⟨h0, inner, hown, hr⟩ := HO
  obtain ⟨i0, hi, hzz⟩ := Option.map_eq_some_iff.1 hinfo
  simp only [Prod.mk.injEq] at hzz
  obtain ⟨hz0, hz1, hz2⟩ := hzz
  have hlen : xs.length + 2 ≤ 140737488355328 := Nat.le_trans (Nat.le_mul_of_pos_right _ hb0) hl
  have hcl := d.K_len (d.K_of_M hp)
  have hcl2 := d.K_len (d.K_of_M hp2)
  have hq : QRow (W.alloc (.cells (cs ++ cs2).toArray e)) base e d.sz v xs.length inner := q_move hown (fun k hk => Below.heap_alloc W _ k (q_lt hown k hk))
  obtain ⟨v1, w1, hrun, hq1, hg1, hat⟩ := q_append (P := P) (W.alloc (.cells (cs ++ cs2).toArray e)) base t ty e i0 z d.sz bytes ht hi hz0 hz1 hz2 hz hs0 v xs.length inner hq ⟨W.heap.size, 0, none⟩ 2 2 (cs ++ cs2) (by rw [List.length_append, hcl, hcl2]; omega)
    (by simpa using World.news_of_block (cs := (cs ++ cs2).toArray) (t := e) (fr := (0, 0)) (heap_alloc_new W (.cells (cs ++ cs2).toArray e))) (by
      intro u hu
      rw [List.mem_append] at hu
      rcases hu with hu | hu
      · exact d.K_one (d.K_of_M hp) u hu
      · exact d.K_one (d.K_of_M hp2) u hu) (by omega) (by simp only [maxLen]; omega) hl (by simp; omega)
  have hg : W.grownBy w1 v.ownBlock := World.grownBy.trans (World.grownBy_alloc W _ _) hg1
  have hat' : v1.ownBlock = v.ownBlock ∨ ∃ b, v1.ownBlock = some b ∧ W.heap.size ≤ b := by
    rcases hat with hat | ⟨b, hb, hle⟩
    · exact .inl hat
    · exact .inr ⟨b, hb, by rw [World.size_alloc] at hle; omega⟩
  have hne : ∀ k, some k ≠ v.ownBlock → k < W.heap.size → some k ≠ v1.ownBlock := by
    intro k hk hlt
    rcases hat' with hat | ⟨b, hb, hle⟩
    · rw [hat]; exact hk
    · rw [hb]
      intro he
      injection he with he
      omega
  have step : ∀ {q : α} {c : List Value} {o : Nat → Prop}, d.M W base o q c → (∀ k, o k → ok k ∧ some k ≠ v.ownBlock) → d.M w1 base (fun k => ok k ∧ some k ≠ v1.ownBlock) q c := by
    intro q c o hq ho
    have h1 := d.M_move (w1 := w1) (fun k hk => hg.block k hk.2.2.1 (ho k hk.1).2) (d.M_bound hq)
    exact d.M_mono (fun k hk => ⟨(ho k hk.1).1, hne k (ho k hk.1).2 hk.2.2.1⟩) h1
  refine ⟨v1, w1, hrun, ⟨fun k hk => ?_, inner ++ (cs ++ cs2), by rw [List.length_append]; exact hq1, ?_⟩, HB.grown hg hbase (fun k hk => (q_typed hown k hk).1), hg, hat'⟩
  · rcases hat' with hat | ⟨b, hb, hle⟩
    · exact h0 k (hat ▸ hk)
    · rw [hb] at hk
      injection hk with hk
      exact hfresh k (by omega)
  · have r1 := ((hr.imp_ (fun _ _ hq => step hq (fun _ hk => hk))).snoc (step hp (fun _ hk => hk.elim)) hcl).snoc (step hp2 (fun _ hk => hk.elim)) hcl2
    rw [List.append_assoc, List.append_assoc] at r1
    exact r1
open Kd in
theorem Q_append2s_ {P : Program} {ops : Array Oper} {o : Oper} {a : Act} {Q' : Exit → Act → World → Prop} {Kc : Act → World → Prop} {α : Type} (d : Kd α) {w0 W : World} (base : Nat) (hw : Region.wanted o (yielded ops a.tmps) = true) (s x : Operand) (t e : TypeId) (z : Value) (bytes : Nat)
    (ho : o.op = .call { callee := .builtin .append, args := #[s, x], argTypes := #[t, t] })
    (ht : P.underlying t = some (.slice e)) (hinfo : (P.info? e).map (fun i => (i.zero, i.size, i.bytes)) = some (some z, d.sz, bytes)) (hz : z.cells.size = d.sz) (hs0 : 0 < d.sz) (hb0 : 0 < bytes)
    (v : Value) (xs : List α) (p p2 : α) (cs cs2 cc : List Value) (hcc : cc = cs ++ cs2) (ok : Nat → Prop) (hs : a.eval s = v) (hx : a.eval x = .slice (some ⟨W.heap.size, 0, none⟩) 2 2) (hp : d.M W base (fun _ => False) p cs) (hp2 : d.M W base (fun _ => False) p2 cs2) (hfresh : ∀ k, W.heap.size ≤ k → ok k)
    (HO : d.Q e W base ok v xs) (HB : Below base w0 W) (hbase : base ≤ W.heap.size) (hl : (xs.length + 2) * bytes ≤ 140737488355328)
    (h : ∀ v1 w1, d.Q e w1 base ok v1 (xs ++ [p, p2]) → Below base w0 w1 → W.grownBy w1 v.ownBlock → (v1.ownBlock = v.ownBlock ∨ ∃ b, v1.ownBlock = some b ∧ W.heap.size ≤ b) → Kc (a.put o.dst v1) w1) :
    if Region.wanted o (yielded ops a.tmps) = true then Oper.wp P o a (W.alloc (.cells cc.toArray e)) Kc Q' else Kc (a.put o.dst undef) (W.alloc (.cells cc.toArray e)) := by
  obtain ⟨v1, w1, hr, h1, h2, h3, h4⟩ := Q_run2_ (P := P) d base t o.type e z bytes ht hinfo hz hs0 hb0 v xs p p2 cs cs2 cc hcc ok hp hp2 hfresh HO HB hbase hl
  rw [if_pos hw]
  unfold Oper.wp execOp
  simp only [ho, resolve, invoke, builtin, Sem.run_bind, Sem.run_pure, Result.andThen_ok, List.map_toArray, List.map_cons, List.map_nil, hs, hx, hr]
  exact h v1 w1 h1 h2 h3 h4
def spec_l20Near.l0 : Nat → Int → Int → List Int → Int → List (S60) → List (S36) → Option ((List (S60)) × (List (S36)) × Int)
 | 0, _, _, _, _, _, _ => none
 | k + 1, x1, x6, x1000, x1001, x263000, x263001 => if x6 > 0 then ((spec_l20Rd_pick.f k x1000 x1001 2).bind fun bt265 => (if bt265.1 = 0 then ((spec_l20Rd_pick.f k x1000 bt265.2 6).bind fun bt267 => ((spec_l20Rd_pick.f k x1000 bt267.2 3).bind fun bt269 => ((spec_l20Rd_bytes.f k x1000 bt269.2 bt269.1).bind fun bt271 => ((spec_l20Rd_pick.f k x1000 bt271.2 30).bind fun bt275 => ((spec_NearSend.f k x263000 x263001 bt267.1 bt271.1 bt275.1).bind fun bt277 => (spec_l20Near.l0 k x1 (wrap64 (x6 - 1)) x1000 bt275.2 bt277.1 bt277.2.1)))))) else ((spec_l20Rd_pick.f k x1000 bt265.2 6).bind fun bt284 => ((spec_l20Query.f k x1000 bt284.2 0).bind fun bt286 => ((spec_l20Rd_pick.f k x1000 bt286.2.2.2.2 30).bind fun bt291 => ((spec_NearHear.f k x263000 x263001 bt284.1 bt286.1 bt286.2.1 bt286.2.2.1 bt286.2.2.2.1 bt291.1).bind fun bt293 => (spec_l20Near.l0 k x1 (wrap64 (x6 - 1)) x1000 bt291.2 bt293.1 bt293.2.1))))))) else ((spec_l20Rd_odd.f k x1000 x1001 x1).bind fun bt302 => (if bt302.1 = true then ((spec_l20Rd_pick.f k x1000 bt302.2 3).bind fun bt304 => (if bt304.1 = 0 then ((spec_l20Rd_pick.f k x1000 bt304.2 6).bind fun bt306 => ((spec_l20Rd_pick.f k x1000 bt306.2 300).bind fun bt308 => ((spec_l20Rd_pick.f k x1000 bt308.2 9).bind fun bt310 => (if x263000.length < 5864062014805 then (some ((x263000 ++ [(⟨bt306.1, bt308.1, bt310.1⟩ : S60)]), x263001, bt310.2)) else (none))))) else (if bt304.1 = 1 then ((spec_l20Rd_pick.f k x1000 bt304.2 6).bind fun bt315 => (if x263001.length + 1 < 4398046511104 then (some (x263000, (x263001 ++ [(⟨bt315.1, ([] : List Int)⟩ : S36), (⟨65536, ([] : List Int)⟩ : S36)]), bt315.2)) else (none))) else (if x263000.length + x263000.length < 5864062014805 then (some ((x263000 ++ x263000), x263001, bt304.2)) else (none))))) else (some (x263000, x263001, bt302.2))))
def spec_l20Near.f (k : Nat) (s0_0 : List Int) (s0_1 : Int) (a1 : Int) : Option ((List (S60)) × (List (S36)) × Int) := (spec_l20Rd_pick.f k s0_0 s0_1 10).bind fun bt263 => (spec_l20Near.l0 k a1 bt263.1 s0_0 bt263.2 ([] : List (S60)) ([] : List (S36)))
theorem spec_l20Near.mono_l : ∀ k, (∀ y0 y1 y2 y3 y4 y5, LeO (spec_l20Near.l0 k y0 y1 y2 y3 y4 y5) (spec_l20Near.l0 (k + 1) y0 y1 y2 y3 y4 y5))
 | 0 => fun _ _ _ _ _ _ r h => by simp [spec_l20Near.l0] at h
 | k + 1 => by
  have ih0 := spec_l20Near.mono_l k
  ·intro y0 y1 y2 y3 y4 y5
   unfold spec_l20Near.l0
   repeat' first | (with_reducible first | apply ih0 | apply spec_NearHear.mono | apply spec_NearSend.mono | apply spec_l20Query.mono | apply spec_l20Rd_bytes.mono | apply spec_l20Rd_odd.mono | apply spec_l20Rd_pick.mono | exact LeO.refl _ | exact LeO.none _ | refine LeO.ite ?_ ?_ | refine LeO.bind ?_ fun _ => ?_) | apply ih0 | apply spec_NearHear.mono | apply spec_NearSend.mono | apply spec_l20Query.mono | apply spec_l20Rd_bytes.mono | apply spec_l20Rd_odd.mono | apply spec_l20Rd_pick.mono | exact LeO.none _ | refine LeO.ite ?_ ?_ | refine LeO.bind ?_ fun _ => ?_
theorem spec_l20Near.mono : ∀ a0 a1 a2 k, LeO (spec_l20Near.f k a0 a1 a2) (spec_l20Near.f (k + 1) a0 a1 a2) := by
 intro a0 a1 a2 k
 have ih0 := spec_l20Near.mono_l k
 unfold spec_l20Near.f
 repeat' first | (with_reducible first | apply ih0 | apply spec_NearHear.mono | apply spec_NearSend.mono | apply spec_l20Query.mono | apply spec_l20Rd_bytes.mono | apply spec_l20Rd_odd.mono | apply spec_l20Rd_pick.mono | exact LeO.refl _ | exact LeO.none _ | refine LeO.ite ?_ ?_ | refine LeO.bind ?_ fun _ => ?_) | apply ih0 | apply spec_NearHear.mono | apply spec_NearSend.mono | apply spec_l20Query.mono | apply spec_l20Rd_bytes.mono | apply spec_l20Rd_odd.mono | apply spec_l20Rd_pick.mono | exact LeO.none _ | refine LeO.ite ?_ ?_ | refine LeO.bind ?_ fun _ => ?_
def spec_l20Near.T6 : Bool × List (List Nat × List Nat) := (true, [([], []), ([], []), ([1], [1]), ([], []), ([], []), ([4, 2], [4]), ([3, 5, 5], [3, 5]), ([], []), ([7, 6], [7]), ([0, 2, 6, 8, 8], [0, 2, 6, 8]), ([9], [9]), ([10], [10]), ([10], [10]), ([11, 9, 0, 1, 2, 3, 4, 5, 6, 7, 8, 9, 10, 11], [11])])
def spec_l20Near.B6 : List Nat := [0, 0, 2, 0, 0, 22, 62, 0, 254, 511, 1023, 2047, 2047, 4095]
theorem spec_l20Near.tab6 : rtab .any (opsOf Try.f22 6) = spec_l20Near.T6 := by kernel_rfl
theorem spec_l20Near.bits6 : waitsOk spec_l20Near.T6.2 spec_l20Near.B6 = true := by kernel_rfl
def spec_l20Near.T7 : Bool × List (List Nat × List Nat) := (true, [([], []), ([], []), ([1], [1]), ([], []), ([3, 2], [3]), ([], []), ([5, 4], [5]), ([0, 2, 4, 6, 6], [0, 2, 4, 6]), ([7], [7]), ([8], [8]), ([8], [8]), ([9, 7, 0, 1, 2, 3, 4, 5, 6, 7, 8, 9], [9])])
def spec_l20Near.B7 : List Nat := [0, 0, 2, 0, 14, 0, 62, 127, 255, 511, 511, 1023]
theorem spec_l20Near.tab7 : rtab .any (opsOf Try.f22 7) = spec_l20Near.T7 := by kernel_rfl
theorem spec_l20Near.bits7 : waitsOk spec_l20Near.T7.2 spec_l20Near.B7 = true := by kernel_rfl
def spec_l20Near.T12 : Bool × List (List Nat × List Nat) := (true, [([], []), ([0], [0]), ([], []), ([2], [2]), ([], []), ([4, 3], [4]), ([], []), ([6, 5], [6]), ([3, 5, 7], [3, 5, 7]), ([8], [8]), ([1, 9, 7], [1, 9]), ([0, 1, 2, 3, 4, 5, 6, 7, 8, 9, 10], []), ([11, 10, 10, 0, 1, 2, 3, 4, 5, 6, 7, 8, 9, 10], [10, 11])])
def spec_l20Near.B12 : List Nat := [0, 1, 0, 4, 0, 28, 0, 124, 252, 508, 1023, 2047, 4095]
theorem spec_l20Near.tab12 : rtab .any (opsOf Try.f22 12) = spec_l20Near.T12 := by kernel_rfl
theorem spec_l20Near.bits12 : waitsOk spec_l20Near.T12.2 spec_l20Near.B12 = true := by kernel_rfl
def spec_l20Near.T14 : Bool × List (List Nat × List Nat) := (true, [([], []), ([0], [0]), ([], []), ([2], [2]), ([3], [3]), ([], []), ([4, 5], [4, 5]), ([1, 6, 3], [1, 6]), ([0, 1, 2, 3, 4, 5, 6, 7], []), ([8, 7, 7, 0, 1, 2, 3, 4, 5, 6, 7], [7, 8])])
def spec_l20Near.B14 : List Nat := [0, 1, 0, 4, 12, 0, 60, 127, 255, 511]
theorem spec_l20Near.tab14 : rtab .any (opsOf Try.f22 14) = spec_l20Near.T14 := by kernel_rfl
theorem spec_l20Near.bits14 : waitsOk spec_l20Near.T14.2 spec_l20Near.B14 = true := by kernel_rfl
set_option maxHeartbeats 8000000 in
set_option maxRecDepth 100000 in
theorem spec_l20Near.calls (k : Nat) (g : Nat) (s0_0 : List Int) (s0_1 : Int) (a1 : Int) (r1 : List (S60)) (r2 : List (S36)) (r3 : Int) (w0 w : World) (hI : IsS73 w0 w g s0_0 s0_1) (hB : Below w0.heap.size w0 w) (h : spec_l20Near.f k s0_0 s0_1 a1 = some (r1, r2, r3)) :
  Calls Try.prog 22 #[.pointer (some ⟨g, 0, none⟩), .int .i64 a1] w fun e w' => ∃ v0_ v1_ : Value, e = .returned (.agg #[v0_, v1_]) ∧ Kd.Q k60 60 w' w.heap.size (fun _ => True) v0_ r1 ∧ Kd.Q k36 36 w' w.heap.size (fun _ => True) v1_ r2 ∧ IsS73 w0 w' g s0_0 r3 ∧ Below w0.heap.size w0 w' ∧ KeepBut w w' g none := by
 have hu26 := Try.underlying26; have hu60 := Try.underlying60; have hu36 := Try.underlying36; have HI0 := Aside0.mk hI
 have HK := Aside0.mk (KeepBut.refl w g none)
 have HL := Aside0.mk hB.size; clear hI; have HW0 := Aside0.mk hB.size; have HB := Aside0.mk hB; clear hB
 have H : ((spec_l20Rd_pick.f k s0_0 s0_1 10).bind fun bt263 => (spec_l20Near.l0 k a1 bt263.1 s0_0 bt263.2 ([] : List (S60)) ([] : List (S36)))) = some (r1, r2, r3) := h
 clear h
 replace H := Option.bind_eq_some_iff.mp H
 obtain ⟨⟨t263, t264⟩, A30, H⟩ := H
 (try dsimp only at H)
 have A3 := Aside0.mk A30; clear A30
 have H' := Aside0.mk H
 clear H
 go_enter Try.func22, Try.ntmps22
 go_wp2_with (first | ((with_reducible refine gate_dst (N := 4) rfl ?_); refine box_ (N := 4) (cs := #[.slice none 0 0, .slice none 0 0]) (t := 26) (fun gb261 hg w4 hbox hb => ?_); replace HB := (bs73_ HB hb); have BK261 := Aside0.mk (hbox); have GW261 := gk_ hg HK; have GE261 := Aside0.mk ((Nat.le_trans HW0.out (by rw [hg]; exact (keep_size (w := w) (g := g) (row := none) (hkA_ HK.out)) : w.heap.size ≤ gb261) : w0.heap.size ≤ gb261)); replace HK := (kw_ HK hb); have NB0_261 := nl73_ hg HI0; have NB261_0 := ng73_ hg HI0; replace HI0 := (ib73_ HI0 hb); clear hb hbox hg) | ((with_reducible refine gate_dst (N := 5) rfl ?_); refine box_ (N := 5) (cs := #[.slice none 0 0, .slice none 0 0]) (t := 26) (fun gb262 hg w5 hbox hb => ?_); replace HB := (bs73_ HB hb); have BK262 := Aside0.mk (hbox); have GW262 := gk_ hg HK; have GE262 := Aside0.mk ((Nat.le_trans HW0.out (by rw [hg]; exact (keep_size (w := w) (g := g) (row := none) (hkA_ HK.out)) : w.heap.size ≤ gb262) : w0.heap.size ≤ gb262)); replace HK := (kw_ HK hb); have NB261_262 := nl_ hg BK261; have NB262_261 := ng_ hg BK261; replace BK261 := (bbA_ BK261 hb); have NB0_262 := nl73_ hg HI0; have NB262_0 := ng73_ hg HI0; replace HI0 := (ib73_ HI0 hb); clear hb hbox hg; have hnb6 := NB262_261.out; have hnc6 := NB261_262.out; have hnb7 := NB262_0.out; have hnc7 := NB0_262.out; have Z8 := zz2 BK262) | ((with_reducible refine gate_callee (f := 23) rfl ?_); refine goesL_ (some 9) rfl rfl Try.func23 (by kernel_rfl) rfl #[.pointer (some ⟨g, 0, none⟩), .int .i64 10] rfl ar_ ?_; (with_reducible refine (spec_l20Rd_pick.calls k g s0_0 s0_1 10 t263 t264 w0 _ ?side1 ?side2 A3.out).mono ?_); (case side1 => exact is73_ HI0.out); (case side2 => exact hb73_ HB.out); rintro e w9 ⟨rfl, hi, hb, hk⟩; refine ⟨_, rfl, ?_⟩; replace BK261 := Aside0.mk (KeepBut.blk hk (g' := gb261) (o := .cells #[.slice none 0 0, .slice none 0 0] 26 (0, 0)) (by exact kf_ BK261.out) NB261_0.out (by simp)); replace BK262 := Aside0.mk (KeepBut.blk hk (g' := gb262) (o := .cells #[.slice none 0 0, .slice none 0 0] 26 (0, 0)) (by refine kb_ ?_; refine pz2 (cs := #[.slice none 0 0, .slice none 0 0]) ?_; refine kb_ ?_; exact BK262.out) NB262_0.out (by simp)); replace HK := (kk_ HK hk); replace HB := Aside0.mk (hb); replace HI0 := Aside0.mk (hi); (try clear hb); (try clear hb2); (try clear hk); (try clear hi)))
 go_loopg [6] k (fun kq v6 w' => ∃ (x6_1 : Int) (x1001_1 : Int) (x263000_1 : List (S60)) (x263001_1 : List (S36)) (u263000 : Value) (u263001 : Value), v6 = .int .i64 x6_1 ∧ Aside0 (spec_l20Near.l0 kq a1 x6_1 s0_0 x1001_1 x263000_1 x263001_1 = some (r1, r2, r3)) ∧ Aside0 (kq ≤ k) ∧ Aside0 (Kd.Q k60 60 w' w.heap.size (fun _ => True) u263000 x263000_1) ∧ Aside0 (Kd.Q k36 36 w' w.heap.size (fun _ => True) u263001 x263001_1) ∧ Aside0 (w'.heap[gb261]? = some (.cells #[(.slice none 0 0), (.slice none 0 0)] 26 (0, 0))) ∧ Aside0 (w'.heap[gb262]? = some (.cells #[u263000, u263001] 26 (0, 0))) ∧ Aside0 (IsS73 w0 w' g s0_0 x1001_1) ∧ Aside0 (KeepBut w w' g none) ∧ Aside0 (Below w0.heap.size w0 w'))
 case atStart => exact ⟨(t263), (t264), (([] : List (S60))), (([] : List (S36))), (.slice none 0 0), (.slice none 0 0), (by first | rfl | (simp; done) | (simp [*]; done)), H', ⟨Nat.le_refl _⟩, ⟨Kd.Q_of_R (by first | exact Kd.R_nil _ _ _ _ _ | exact Kd.N_nil _ _ _ _ _ | exact Kd.V_nil _ _ _ _ _ | exact Kd.Q_nil _ _ _ _ _ | exact Kd.S_nil _ _ _ _ _)⟩, ⟨Kd.Q_of_R ((Kd.S_R (by first | exact Kd.S_nil _ _ _ _ _ | exact Kd.N_nil _ _ _ _ _ | exact Kd.V_nil _ _ _ _ _ | exact Kd.Q_nil _ _ _ _ _ | exact Kd.R_nil _ _ _ _ _)))⟩, ⟨by refine kb_ ?_; exact BK261.out⟩, ⟨by refine kb_ ?_; exact BK262.out⟩, ⟨is73_ HI0.out⟩, ⟨hkA_ HK.out⟩, ⟨hb73_ HB.out⟩⟩
 case round =>
  clear H'; (try clear c2); (try clear p2); (try clear c6); (try clear c7); (try clear Z8)
  obtain ⟨x6_1, x1001_1, x263000_1, x263001_1, u263000, u263001, rfl, HA, HK1, HO_263000, HO_263001, BK261, BK262, HI0, HK, HB⟩ := hrel
  cases gk with
  | zero => exact absurd HA.out (by simp [spec_l20Near.l0])
  | succ k1 =>
   have H := HA.out; clear HA
   simp only [spec_l20Near.l0] at H
   by_cases c10 : x6_1 > 0
   ·rw [if_pos c10] at H
    have c10b0 : decide (0 < x6_1) = true := decide_eq_true c10
    clear c10
    replace H := Option.bind_eq_some_iff.mp H
    obtain ⟨⟨t265, t266⟩, A110, H⟩ := H
    (try dsimp only at H)
    have A11 := Aside0.mk A110; clear A110
    by_cases c12 : t265 = 0
    ·rw [if_pos c12] at H
     have c12b0 : (t265 == 0) = true := beq_iff_eq.mpr c12
     have c12b1 : (t265 != 0) = false := bne_eq_false_iff_eq.mpr c12
     clear c12
     replace H := Option.bind_eq_some_iff.mp H
     obtain ⟨⟨t267, t268⟩, A130, H⟩ := H
     (try dsimp only at H)
     have A13 := Aside0.mk A130; clear A130
     replace H := Option.bind_eq_some_iff.mp H
     obtain ⟨⟨t269, t270⟩, A140, H⟩ := H
     (try dsimp only at H)
     have A14 := Aside0.mk A140; clear A140
     replace H := Option.bind_eq_some_iff.mp H
     obtain ⟨⟨t271, t274⟩, A150, H⟩ := H
     (try dsimp only at H)
     have A15 := Aside0.mk A150; clear A150
     replace H := Option.bind_eq_some_iff.mp H
     obtain ⟨⟨t275, t276⟩, A160, H⟩ := H
     (try dsimp only at H)
     have A16 := Aside0.mk A160; clear A160
     replace H := Option.bind_eq_some_iff.mp H
     obtain ⟨⟨t277, t280, t283⟩, A170, H⟩ := H
     (try dsimp only at H)
     have A17 := Aside0.mk A170; clear A170
     have H' := Aside0.mk H
     clear H
     try go_wp2_with (first | ((with_reducible refine gate_callee (f := 23) rfl ?_); refine goesL_ (some 15) rfl rfl Try.func23 (by kernel_rfl) rfl #[.pointer (some ⟨g, 0, none⟩), .int .i64 2] rfl ar_ ?_; (with_reducible refine (spec_l20Rd_pick.calls k1 g s0_0 x1001_1 2 t265 t266 w0 _ ?side1 ?side2 A11.out).mono ?_); (case side1 => exact is73_ HI0.out); (case side2 => exact hb73_ HB.out); rintro e w18 ⟨rfl, hi, hb, hk⟩; refine ⟨_, rfl, ?_⟩; replace HO_263000 := Aside0.mk (Kd.Q_mono (Kd.Q_keep (IsS73.apartQ (show IsS73 w0 _ g s0_0 x1001_1 from is73_ HI0.out) (by (with_reducible repeat (first | apply Kd.Q_alloc | apply Kd.Q_drewN | apply Kd.Q_drew)); exact HO_263000.out) (by decide)) hk (fun _ h => h.2)) (fun _ h => h.1)); replace HO_263001 := Aside0.mk (Kd.Q_mono (Kd.Q_keep (IsS73.apartQ (show IsS73 w0 _ g s0_0 x1001_1 from is73_ HI0.out) (by (with_reducible repeat (first | apply Kd.Q_alloc | apply Kd.Q_drewN | apply Kd.Q_drew)); exact HO_263001.out) (by decide)) hk (fun _ h => h.2)) (fun _ h => h.1)); replace BK261 := (bkA_ BK261 hk NB261_0); replace BK262 := (bkA_ BK262 hk NB262_0); replace HK := (kk_ HK hk); replace HB := Aside0.mk (hb); replace HI0 := Aside0.mk (hi); (try clear hb); (try clear hb2); (try clear hk); (try clear hi)))
     replace HO_263000 := Aside0.mk (Kd.Q_drew HO_263000.out); replace HO_263001 := Aside0.mk (Kd.Q_drew HO_263001.out); replace BK261 := Aside0.mk (blk_drew BK261.out); replace BK262 := Aside0.mk (blk_drew BK262.out); replace HI0 := Aside0.mk (IsS73.drew HI0.out); replace HK := Aside0.mk (keep_drew HK.out); replace HB := (bd_ HB)
     refine start_ (n := 14) (S := fun w' => w'.cell? ⟨gb262, 0, none⟩ = some (u263000) ∧ w'.cell? ⟨gb262, 1, none⟩ = some (u263001)) (ds := [13]) #[false, false, false, false, false, false, false, false, false, false, false, false, false, false] (by kernel_rfl) rfl rfl (cz2 BK262.out) (fun hHeld => ?_); refine with_tabW spec_l20Near.tab6 spec_l20Near.bits6 (fun HT_ HW_ => ?_)
     generalize w18.drew = w19 at HO_263000 HO_263001 BK261 BK262 HI0 HK HB hHeld ⊢
     refine pu_ (i := 1) (N := some 19) HT_ ?_; refine pu_ (i := 3) (N := some 21) HT_ ?_; refine pu_ (i := 4) (N := some 22) HT_ ?_; refine pu_ (i := 7) (N := some 25) HT_ ?_; refine tk_ (i := 0) (N := some 18) HT_ HW_ hHeld ?_
     refine on_ (i := 2) (N := some 20) HT_ (fun K hK => ?_)
     refine goes_ Try.func23 (by kernel_rfl) rfl #[.pointer (some ⟨g, 0, none⟩), .int .i64 6] (by rfl) rfl rfl ar_ ?_
     with_reducible refine (spec_l20Rd_pick.calls k1 g s0_0 t266 6 t267 t268 w0 _ ?side1 ?side2 A13.out).mono ?_
     (case side1 => exact is73_ HI0.out)
     (case side2 => exact hb73_ HB.out)
     rintro e w20 ⟨rfl, hi, hb, hk⟩
     refine ⟨_, rfl, ?_⟩
     replace HO_263000 := Aside0.mk (Kd.Q_mono (Kd.Q_keep (IsS73.apartQ (show IsS73 w0 _ g s0_0 t266 from is73_ HI0.out) (by (with_reducible repeat (first | apply Kd.Q_alloc | apply Kd.Q_drewN | apply Kd.Q_drew)); exact HO_263000.out) (by decide)) hk (fun _ h => h.2)) (fun _ h => h.1)); replace HO_263001 := Aside0.mk (Kd.Q_mono (Kd.Q_keep (IsS73.apartQ (show IsS73 w0 _ g s0_0 t266 from is73_ HI0.out) (by (with_reducible repeat (first | apply Kd.Q_alloc | apply Kd.Q_drewN | apply Kd.Q_drew)); exact HO_263001.out) (by decide)) hk (fun _ h => h.2)) (fun _ h => h.1)); replace BK261 := (bkA_ BK261 hk NB261_0); replace BK262 := (bkA_ BK262 hk NB262_0); replace HK := (kk_ HK hk); replace HB := Aside0.mk (hb); replace HI0 := Aside0.mk (hi); (try clear hb); (try clear hb2); (try clear hk); (try clear hi)
     refine hK.out _ _ (cz2 BK262.out) (fun hHeld => ?_)
     clear hK K; refine nm_ 20 ?_
     refine on_ (i := 5) (N := some 23) HT_ (fun K hK => ?_)
     refine goes_ Try.func23 (by kernel_rfl) rfl #[.pointer (some ⟨g, 0, none⟩), .int .i64 3] (by rfl) rfl rfl ar_ ?_
     with_reducible refine (spec_l20Rd_pick.calls k1 g s0_0 t268 3 t269 t270 w0 _ ?side1 ?side2 A14.out).mono ?_
     (case side1 => exact is73_ HI0.out)
     (case side2 => exact hb73_ HB.out)
     rintro e w21 ⟨rfl, hi, hb, hk⟩
     refine ⟨_, rfl, ?_⟩
     replace HO_263000 := Aside0.mk (Kd.Q_mono (Kd.Q_keep (IsS73.apartQ (show IsS73 w0 _ g s0_0 t268 from is73_ HI0.out) (by (with_reducible repeat (first | apply Kd.Q_alloc | apply Kd.Q_drewN | apply Kd.Q_drew)); exact HO_263000.out) (by decide)) hk (fun _ h => h.2)) (fun _ h => h.1)); replace HO_263001 := Aside0.mk (Kd.Q_mono (Kd.Q_keep (IsS73.apartQ (show IsS73 w0 _ g s0_0 t268 from is73_ HI0.out) (by (with_reducible repeat (first | apply Kd.Q_alloc | apply Kd.Q_drewN | apply Kd.Q_drew)); exact HO_263001.out) (by decide)) hk (fun _ h => h.2)) (fun _ h => h.1)); replace BK261 := (bkA_ BK261 hk NB261_0); replace BK262 := (bkA_ BK262 hk NB262_0); replace HK := (kk_ HK hk); replace HB := Aside0.mk (hb); replace HI0 := Aside0.mk (hi); (try clear hb); (try clear hb2); (try clear hk); (try clear hi)
     refine hK.out _ _ (cz2 BK262.out) (fun hHeld => ?_)
     clear hK K; refine nm_ 23 ?_
     refine on_ (i := 6) (N := some 24) HT_ (fun K hK => ?_)
     refine goes_ Try.func24 (by kernel_rfl) rfl #[.pointer (some ⟨g, 0, none⟩), .int .i64 t269] (by rfl) rfl rfl ar_ ?_
     with_reducible refine (spec_l20Rd_bytes.calls k1 g s0_0 t270 t269 t271 t274 w0 _ ?side1 ?side2 A15.out).mono ?_
     (case side1 => exact is73_ HI0.out)
     (case side2 => exact hb73_ HB.out)
     rintro e w22 ⟨v272, rfl, ho0, hi, hb, hk⟩
     refine ⟨_, rfl, ?_⟩
     replace HO_263000 := Aside0.mk (Kd.Q_mono (Kd.Q_keep (IsS73.apartQ (show IsS73 w0 _ g s0_0 t270 from is73_ HI0.out) (by (with_reducible repeat (first | apply Kd.Q_alloc | apply Kd.Q_drewN | apply Kd.Q_drew)); exact HO_263000.out) (by decide)) hk (fun _ h => h.2)) (fun _ h => h.1)); replace HO_263001 := Aside0.mk (Kd.Q_mono (Kd.Q_told (Kd.Q_oldK (IsS73.apartQ (show IsS73 w0 _ g s0_0 t270 from is73_ HI0.out) (by (with_reducible repeat (first | apply Kd.Q_alloc | apply Kd.Q_drewN | apply Kd.Q_drew)); exact HO_263001.out) (by decide)) hk) (Kd.R_base ho0)) (fun _ h_ => op1_ h_)); replace BK261 := (bkA_ BK261 hk NB261_0); replace BK262 := (bkA_ BK262 hk NB262_0); have HO273 := Aside0.mk (Kd.R_lower ho0 (keep_size (w := w) (g := g) (row := none) (hkA_ HK.out))); replace HK := (kk_ HK hk); replace HB := Aside0.mk (hb); replace HI0 := Aside0.mk (hi); (try clear hb); (try clear hb2); (try clear hk); (try clear hi); (try clear ho0)
     refine hK.out _ _ (cz2 BK262.out) (fun hHeld => ?_)
     clear hK K; refine nm_ 24 ?_
     refine on_ (i := 8) (N := some 26) HT_ (fun K hK => ?_)
     refine goes_ Try.func23 (by kernel_rfl) rfl #[.pointer (some ⟨g, 0, none⟩), .int .i64 30] (by rfl) rfl rfl ar_ ?_
     with_reducible refine (spec_l20Rd_pick.calls k1 g s0_0 t274 30 t275 t276 w0 _ ?side1 ?side2 A16.out).mono ?_
     (case side1 => exact is73_ HI0.out)
     (case side2 => exact hb73_ HB.out)
     rintro e w23 ⟨rfl, hi, hb, hk⟩
     refine ⟨_, rfl, ?_⟩
     replace HO_263000 := Aside0.mk (Kd.Q_mono (Kd.Q_keep (IsS73.apartQ (show IsS73 w0 _ g s0_0 t274 from is73_ HI0.out) (by (with_reducible repeat (first | apply Kd.Q_alloc | apply Kd.Q_drewN | apply Kd.Q_drew)); exact HO_263000.out) (by decide)) hk (fun _ h => h.2)) (fun _ h => h.1)); replace HO_263001 := Aside0.mk (Kd.Q_mono (Kd.Q_keep (IsS73.apartQ (show IsS73 w0 _ g s0_0 t274 from is73_ HI0.out) (by (with_reducible repeat (first | apply Kd.Q_alloc | apply Kd.Q_drewN | apply Kd.Q_drew)); exact HO_263001.out) (by decide)) hk (fun _ h => h.2)) (fun _ h => h.1)); replace BK261 := (bkA_ BK261 hk NB261_0); replace BK262 := (bkA_ BK262 hk NB262_0); replace HO273 := (rk73_ HI0 HO273 hk); replace HK := (kk_ HK hk); replace HB := Aside0.mk (hb); replace HI0 := Aside0.mk (hi); (try clear hb); (try clear hb2); (try clear hk); (try clear hi)
     obtain ⟨Ao24, co24, eo24, _⟩ := Kd.Q_slice HO_263000.out
     (first | subst eo24 | (injection eo24 with f1_ f2_ f3_; have f4_ := f1_.symm; have f5_ := f3_.symm; clear f1_ f2_ f3_; subst f4_; subst f5_))
     obtain ⟨Ao25, co25, eo25, _⟩ := Kd.Q_slice HO_263001.out
     (first | subst eo25 | (injection eo25 with f1_ f2_ f3_; have f4_ := f1_.symm; have f5_ := f3_.symm; clear f1_ f2_ f3_; subst f4_; subst f5_))
     obtain ⟨Ao26, co26, eo26⟩ := Kd.R_slice HO273.out
     (first | subst eo26 | (injection eo26 with f1_ f2_ f3_; have f4_ := f1_.symm; have f5_ := f3_.symm; clear f1_ f2_ f3_; subst f4_; subst f5_))
     refine hK.out _ _ (cz2 BK262.out) (fun hHeld => ?_)
     clear hK K; refine nm_ 26 ?_
     refine on_ (i := 9) (N := some 27) HT_ (fun K hK => ?_)
     refine goes_ Try.func7 (by kernel_rfl) rfl #[.agg #[.slice Ao24 x263000_1.length co24, .slice Ao25 x263001_1.length co25], .int .i64 t267, .slice Ao26 t271.length co26, .int .i64 t275] (by rfl) rfl rfl ar_ ?_
     with_reducible refine (spec_NearSend.calls k1 _ _ x263000_1 _ _ x263001_1 t267 _ _ t271 t275 t277 t280 t283 _ ?side1 ?side2 ?side3 ?side4 ?side5 ?side6 A17.out).mono ?_
     (case side1 => exact kC_ (Kd.Q_reads' HO_263000.out).2.2)
     (case side2 => exact (Kd.Q_reads' HO_263000.out).2.1)
     (case side3 => exact kC_ (Kd.Q_reads' HO_263001.out).2.2)
     (case side4 => exact (Kd.Q_reads' HO_263001.out).2.1)
     (case side5 => exact kC_ (Kd.R_reads' HO273.out).2.2)
     (case side6 => exact (Kd.R_reads' HO273.out).2.1)
     rintro e w27 ⟨v278, v281, rfl, ho0, ho1, hb⟩
     refine ⟨_, rfl, ?_⟩
     have HO279 := Aside0.mk (Kd.R_lower (Kd.R_new' ho0 (Kd.Q_lt (by (with_reducible repeat (first | apply Kd.Q_alloc | apply Kd.Q_drewN | apply Kd.Q_drew)); exact HO_263000.out))) (keep_size (w := w) (g := g) (row := none) (hkA_ HK.out))); replace HO_263000 := Aside0.mk (Kd.Q_elder' (by (with_reducible repeat (first | apply Kd.Q_alloc | apply Kd.Q_drewN | apply Kd.Q_drew)); exact HO_263000.out) (Kd.R_base ho0) hb); have HO282 := Aside0.mk (Kd.Q_lower (Kd.Q_new' (Kd.Q_new' ho1 (Kd.Q_lt (by (with_reducible repeat (first | apply Kd.Q_alloc | apply Kd.Q_drewN | apply Kd.Q_drew)); exact HO_263001.out))) (Kd.R_lt (kR_ HO273.out))) (keep_size (w := w) (g := g) (row := none) (hkA_ HK.out))); replace HO_263001 := Aside0.mk (Kd.Q_elder' (by (with_reducible repeat (first | apply Kd.Q_alloc | apply Kd.Q_drewN | apply Kd.Q_drew)); exact HO_263001.out) (Kd.Q_base ho1) hb); replace HO273 := Aside0.mk (Kd.R_below (kR_ HO273.out) hb); replace BK261 := (bbA_ BK261 hb); replace BK262 := (bbA_ BK262 hb); replace HI0 := (ib73_ HI0 hb); replace HK := (kw_ HK hb); replace HB := (bs73_ HB hb); (try clear hb); (try clear hb2); (try clear hk); (try clear hi); (try clear ho0); (try clear ho1)
     obtain ⟨Ao28, co28, eo28⟩ := Kd.R_slice HO279.out
     (first | subst eo28 | (injection eo28 with f1_ f2_ f3_; have f4_ := f1_.symm; have f5_ := f3_.symm; clear f1_ f2_ f3_; subst f4_; subst f5_))
     obtain ⟨Ao30, co30, eo30, _⟩ := Kd.Q_slice HO282.out
     (first | subst eo30 | (injection eo30 with f1_ f2_ f3_; have f4_ := f1_.symm; have f5_ := f3_.symm; clear f1_ f2_ f3_; subst f4_; subst f5_))
     refine hK.out _ _ (cz2 BK262.out) (fun hHeld => ?_)
     clear hK K; refine nm_ 27 ?_; refine pu_ (i := 10) (N := some 17) HT_ ?_; refine pu_ (i := 11) (N := some 28) HT_ ?_; refine pu_ (i := 12) (N := some 29) HT_ ?_
     refine last_ (i := 13) (N := none) #[true, true, true, true, true, true, true, true, true, true, true, true, true, true] rfl rfl (one_of HT_.out (by kernel_rfl)) (by decide) (fun K hK => ?_)
     have hs29 : w27.cell? ⟨gb262, 0, none⟩ = some (.slice Ao24 x263000_1.length co24) := bc_ BK262 0
     have hfs29 := blk_frozen BK262.out 0
     have hns29_0 := NB261_262.out; have hms29_0 := NB262_261.out
     have hs31 : w27.cell? ⟨gb262, 1, none⟩ = some (.slice Ao25 x263001_1.length co25) := bc_ BK262 1
     have hfs31 := blk_frozen BK262.out 1
     have hns31_0 := NB261_262.out; have hms31_0 := NB262_261.out
     refine skip_ (w1 := ?_) (by rfl) rfl ?_ ?_
     rotate_left
     ·go_simp
      rfl
     refine hK.out _ _ ?_
     clear hK K
     refine done_ (done_of HT_.out (by kernel_rfl)) ?_
     try go_wp2
     go_roundg k1
     case measure => have := HK1.out; omega
     case rel => exact ⟨(wrap64 (x6_1 - 1)), (t276), (t277), (t280), (.slice Ao28 t277.length co28), (.slice Ao30 t280.length co30), (by first | rfl | (simp; done) | (simp [*]; done)), H', ⟨by have := HK1.out; omega⟩, ⟨Kd.Q_of_R (by refine kR_ ?_; exact rfm_ ((Kd.R_types HO279.out BK262.out (by decide))) (fun _ hk => trivial))⟩, ⟨by (with_reducible repeat (first | apply Kd.Q_alloc | apply Kd.Q_drewN | apply Kd.Q_drew)); exact Kd.Q_mono (Kd.Q_far (p := ⟨gb262, 1, none⟩) (Kd.Q_far (p := ⟨gb262, 0, none⟩) (Kd.Q_types HO282.out BK262.out (by decide)) (fun _ hk => hk.2) (.slice Ao28 t277.length co28)) (fun _ hk => hk.2) (.slice Ao30 t280.length co30)) (fun _ hk => trivial)⟩, ⟨by exact kf_ BK261.out⟩, ⟨by refine kb_ ?_; refine pz2 (cs := #[.slice Ao24 x263000_1.length co24, .slice Ao25 x263001_1.length co25]) ?_; refine kb_ ?_; exact BK262.out⟩, ⟨is73_ HI0.out⟩, ⟨hkA_ HK.out⟩, ⟨hb73_ HB.out⟩⟩
    ·rw [if_neg c12] at H
     have c12b0 : (t265 == 0) = false := beq_eq_false_iff_ne.mpr c12
     have c12b1 : (t265 != 0) = true := bne_iff_ne.mpr c12
     replace H := Option.bind_eq_some_iff.mp H
     obtain ⟨⟨t284, t285⟩, A320, H⟩ := H
     (try dsimp only at H)
     have A32 := Aside0.mk A320; clear A320
     replace H := Option.bind_eq_some_iff.mp H
     obtain ⟨⟨t286, t287, t288, t289, t290⟩, A330, H⟩ := H
     (try dsimp only at H)
     have A33 := Aside0.mk A330; clear A330
     replace H := Option.bind_eq_some_iff.mp H
     obtain ⟨⟨t291, t292⟩, A340, H⟩ := H
     (try dsimp only at H)
     have A34 := Aside0.mk A340; clear A340
     replace H := Option.bind_eq_some_iff.mp H
     obtain ⟨⟨t293, t296, t299⟩, A350, H⟩ := H
     (try dsimp only at H)
     have A35 := Aside0.mk A350; clear A350
     have H' := Aside0.mk H
     clear H
     try go_wp2_with (first | ((with_reducible refine gate_callee (f := 23) rfl ?_); refine goesL_ (some 15) rfl rfl Try.func23 (by kernel_rfl) rfl #[.pointer (some ⟨g, 0, none⟩), .int .i64 2] rfl ar_ ?_; (with_reducible refine (spec_l20Rd_pick.calls k1 g s0_0 x1001_1 2 t265 t266 w0 _ ?side1 ?side2 A11.out).mono ?_); (case side1 => exact is73_ HI0.out); (case side2 => exact hb73_ HB.out); rintro e w36 ⟨rfl, hi, hb, hk⟩; refine ⟨_, rfl, ?_⟩; replace HO_263000 := Aside0.mk (Kd.Q_mono (Kd.Q_keep (IsS73.apartQ (show IsS73 w0 _ g s0_0 x1001_1 from is73_ HI0.out) (by (with_reducible repeat (first | apply Kd.Q_alloc | apply Kd.Q_drewN | apply Kd.Q_drew)); exact HO_263000.out) (by decide)) hk (fun _ h => h.2)) (fun _ h => h.1)); replace HO_263001 := Aside0.mk (Kd.Q_mono (Kd.Q_keep (IsS73.apartQ (show IsS73 w0 _ g s0_0 x1001_1 from is73_ HI0.out) (by (with_reducible repeat (first | apply Kd.Q_alloc | apply Kd.Q_drewN | apply Kd.Q_drew)); exact HO_263001.out) (by decide)) hk (fun _ h => h.2)) (fun _ h => h.1)); replace BK261 := (bkA_ BK261 hk NB261_0); replace BK262 := (bkA_ BK262 hk NB262_0); replace HK := (kk_ HK hk); replace HB := Aside0.mk (hb); replace HI0 := Aside0.mk (hi); (try clear hb); (try clear hb2); (try clear hk); (try clear hi)))
     replace HO_263000 := Aside0.mk (Kd.Q_drew HO_263000.out); replace HO_263001 := Aside0.mk (Kd.Q_drew HO_263001.out); replace BK261 := Aside0.mk (blk_drew BK261.out); replace BK262 := Aside0.mk (blk_drew BK262.out); replace HI0 := Aside0.mk (IsS73.drew HI0.out); replace HK := Aside0.mk (keep_drew HK.out); replace HB := (bd_ HB)
     refine start_ (n := 12) (S := fun w' => w'.cell? ⟨gb262, 0, none⟩ = some (u263000) ∧ w'.cell? ⟨gb262, 1, none⟩ = some (u263001)) (ds := [11]) #[false, false, false, false, false, false, false, false, false, false, false, false] (by kernel_rfl) rfl rfl (cz2 BK262.out) (fun hHeld => ?_); refine with_tabW spec_l20Near.tab7 spec_l20Near.bits7 (fun HT_ HW_ => ?_)
     generalize w36.drew = w37 at HO_263000 HO_263001 BK261 BK262 HI0 HK HB hHeld ⊢
     refine pu_ (i := 1) (N := some 32) HT_ ?_; refine pu_ (i := 3) (N := some 34) HT_ ?_; refine pu_ (i := 5) (N := some 36) HT_ ?_; refine tk_ (i := 0) (N := some 31) HT_ HW_ hHeld ?_
     refine on_ (i := 2) (N := some 33) HT_ (fun K hK => ?_)
     refine goes_ Try.func23 (by kernel_rfl) rfl #[.pointer (some ⟨g, 0, none⟩), .int .i64 6] (by rfl) rfl rfl ar_ ?_
     with_reducible refine (spec_l20Rd_pick.calls k1 g s0_0 t266 6 t284 t285 w0 _ ?side1 ?side2 A32.out).mono ?_
     (case side1 => exact is73_ HI0.out)
     (case side2 => exact hb73_ HB.out)
     rintro e w38 ⟨rfl, hi, hb, hk⟩
     refine ⟨_, rfl, ?_⟩
     replace HO_263000 := Aside0.mk (Kd.Q_mono (Kd.Q_keep (IsS73.apartQ (show IsS73 w0 _ g s0_0 t266 from is73_ HI0.out) (by (with_reducible repeat (first | apply Kd.Q_alloc | apply Kd.Q_drewN | apply Kd.Q_drew)); exact HO_263000.out) (by decide)) hk (fun _ h => h.2)) (fun _ h => h.1)); replace HO_263001 := Aside0.mk (Kd.Q_mono (Kd.Q_keep (IsS73.apartQ (show IsS73 w0 _ g s0_0 t266 from is73_ HI0.out) (by (with_reducible repeat (first | apply Kd.Q_alloc | apply Kd.Q_drewN | apply Kd.Q_drew)); exact HO_263001.out) (by decide)) hk (fun _ h => h.2)) (fun _ h => h.1)); replace BK261 := (bkA_ BK261 hk NB261_0); replace BK262 := (bkA_ BK262 hk NB262_0); replace HK := (kk_ HK hk); replace HB := Aside0.mk (hb); replace HI0 := Aside0.mk (hi); (try clear hb); (try clear hb2); (try clear hk); (try clear hi)
     refine hK.out _ _ (cz2 BK262.out) (fun hHeld => ?_)
     clear hK K; refine nm_ 33 ?_
     refine on_ (i := 4) (N := some 35) HT_ (fun K hK => ?_)
     refine goes_ Try.func48 (by kernel_rfl) rfl #[.pointer (some ⟨g, 0, none⟩), .int .i64 0] (by rfl) rfl rfl ar_ ?_
     with_reducible refine (spec_l20Query.calls k1 g s0_0 t285 0 t286 t287 t288 t289 t290 w0 _ ?side1 ?side2 A33.out).mono ?_
     (case side1 => exact is73_ HI0.out)
     (case side2 => exact hb73_ HB.out)
     rintro e w39 ⟨rfl, hi, hb, hk⟩
     refine ⟨_, rfl, ?_⟩
     replace HO_263000 := Aside0.mk (Kd.Q_mono (Kd.Q_keep (IsS73.apartQ (show IsS73 w0 _ g s0_0 t285 from is73_ HI0.out) (by (with_reducible repeat (first | apply Kd.Q_alloc | apply Kd.Q_drewN | apply Kd.Q_drew)); exact HO_263000.out) (by decide)) hk (fun _ h => h.2)) (fun _ h => h.1)); replace HO_263001 := Aside0.mk (Kd.Q_mono (Kd.Q_keep (IsS73.apartQ (show IsS73 w0 _ g s0_0 t285 from is73_ HI0.out) (by (with_reducible repeat (first | apply Kd.Q_alloc | apply Kd.Q_drewN | apply Kd.Q_drew)); exact HO_263001.out) (by decide)) hk (fun _ h => h.2)) (fun _ h => h.1)); replace BK261 := (bkA_ BK261 hk NB261_0); replace BK262 := (bkA_ BK262 hk NB262_0); replace HK := (kk_ HK hk); replace HB := Aside0.mk (hb); replace HI0 := Aside0.mk (hi); (try clear hb); (try clear hb2); (try clear hk); (try clear hi)
     refine hK.out _ _ (cz2 BK262.out) (fun hHeld => ?_)
     clear hK K; refine nm_ 35 ?_
     refine on_ (i := 6) (N := some 37) HT_ (fun K hK => ?_)
     refine goes_ Try.func23 (by kernel_rfl) rfl #[.pointer (some ⟨g, 0, none⟩), .int .i64 30] (by rfl) rfl rfl ar_ ?_
     with_reducible refine (spec_l20Rd_pick.calls k1 g s0_0 t290 30 t291 t292 w0 _ ?side1 ?side2 A34.out).mono ?_
     (case side1 => exact is73_ HI0.out)
     (case side2 => exact hb73_ HB.out)
     rintro e w40 ⟨rfl, hi, hb, hk⟩
     refine ⟨_, rfl, ?_⟩
     replace HO_263000 := Aside0.mk (Kd.Q_mono (Kd.Q_keep (IsS73.apartQ (show IsS73 w0 _ g s0_0 t290 from is73_ HI0.out) (by (with_reducible repeat (first | apply Kd.Q_alloc | apply Kd.Q_drewN | apply Kd.Q_drew)); exact HO_263000.out) (by decide)) hk (fun _ h => h.2)) (fun _ h => h.1)); replace HO_263001 := Aside0.mk (Kd.Q_mono (Kd.Q_keep (IsS73.apartQ (show IsS73 w0 _ g s0_0 t290 from is73_ HI0.out) (by (with_reducible repeat (first | apply Kd.Q_alloc | apply Kd.Q_drewN | apply Kd.Q_drew)); exact HO_263001.out) (by decide)) hk (fun _ h => h.2)) (fun _ h => h.1)); replace BK261 := (bkA_ BK261 hk NB261_0); replace BK262 := (bkA_ BK262 hk NB262_0); replace HK := (kk_ HK hk); replace HB := Aside0.mk (hb); replace HI0 := Aside0.mk (hi); (try clear hb); (try clear hb2); (try clear hk); (try clear hi)
     obtain ⟨Ao41, co41, eo41, _⟩ := Kd.Q_slice HO_263000.out
     (first | subst eo41 | (injection eo41 with f1_ f2_ f3_; have f4_ := f1_.symm; have f5_ := f3_.symm; clear f1_ f2_ f3_; subst f4_; subst f5_))
     obtain ⟨Ao42, co42, eo42, _⟩ := Kd.Q_slice HO_263001.out
     (first | subst eo42 | (injection eo42 with f1_ f2_ f3_; have f4_ := f1_.symm; have f5_ := f3_.symm; clear f1_ f2_ f3_; subst f4_; subst f5_))
     refine hK.out _ _ (cz2 BK262.out) (fun hHeld => ?_)
     clear hK K; refine nm_ 37 ?_
     refine on_ (i := 7) (N := some 38) HT_ (fun K hK => ?_)
     refine goes_ Try.func47 (by kernel_rfl) rfl #[.agg #[.slice Ao41 x263000_1.length co41, .slice Ao42 x263001_1.length co42], .int .i64 t284, .agg #[.int .i64 t286, .int .i64 t287, .int .i64 t288, .int .i64 t289], .int .i64 t291] (by rfl) rfl rfl ar_ ?_
     with_reducible refine (spec_NearHear.calls k1 _ _ x263000_1 _ _ x263001_1 t284 t286 t287 t288 t289 t291 t293 t296 t299 _ ?side1 ?side2 ?side3 ?side4 A35.out).mono ?_
     (case side1 => exact kC_ (Kd.Q_reads' HO_263000.out).2.2)
     (case side2 => exact (Kd.Q_reads' HO_263000.out).2.1)
     (case side3 => exact kC_ (Kd.Q_reads' HO_263001.out).2.2)
     (case side4 => exact (Kd.Q_reads' HO_263001.out).2.1)
     rintro e w43 ⟨v294, v297, v300, rfl, ho0, ho1, ho2, hb⟩
     refine ⟨_, rfl, ?_⟩
     have HO295 := Aside0.mk (Kd.Q_lower (Kd.Q_new' ho0 (Kd.Q_lt (by (with_reducible repeat (first | apply Kd.Q_alloc | apply Kd.Q_drewN | apply Kd.Q_drew)); exact HO_263000.out))) (keep_size (w := w) (g := g) (row := none) (hkA_ HK.out))); replace HO_263000 := Aside0.mk (Kd.Q_elder' (by (with_reducible repeat (first | apply Kd.Q_alloc | apply Kd.Q_drewN | apply Kd.Q_drew)); exact HO_263000.out) (Kd.Q_base ho0) hb); have HO298 := Aside0.mk (Kd.S_lower (Kd.S_new' ho1 (Kd.Q_lt (by (with_reducible repeat (first | apply Kd.Q_alloc | apply Kd.Q_drewN | apply Kd.Q_drew)); exact HO_263001.out))) (keep_size (w := w) (g := g) (row := none) (hkA_ HK.out))); replace HO_263001 := Aside0.mk (Kd.Q_elder' (by (with_reducible repeat (first | apply Kd.Q_alloc | apply Kd.Q_drewN | apply Kd.Q_drew)); exact HO_263001.out) (Kd.S_base ho1) hb); have HO301 := Aside0.mk (Kd.S_lower ho2 (keep_size (w := w) (g := g) (row := none) (hkA_ HK.out))); replace BK261 := (bbA_ BK261 hb); replace BK262 := (bbA_ BK262 hb); replace HI0 := (ib73_ HI0 hb); replace HK := (kw_ HK hb); replace HB := (bs73_ HB hb); (try clear hb); (try clear hb2); (try clear hk)
     (try clear hi); (try clear ho0); (try clear ho1); (try clear ho2)
     obtain ⟨Ao44, co44, eo44, _⟩ := Kd.Q_slice HO295.out
     (first | subst eo44 | (injection eo44 with f1_ f2_ f3_; have f4_ := f1_.symm; have f5_ := f3_.symm; clear f1_ f2_ f3_; subst f4_; subst f5_))
     obtain ⟨Ao46, co46, eo46⟩ := Kd.S_slice HO298.out
     (first | subst eo46 | (injection eo46 with f1_ f2_ f3_; have f4_ := f1_.symm; have f5_ := f3_.symm; clear f1_ f2_ f3_; subst f4_; subst f5_))
     refine hK.out _ _ (cz2 BK262.out) (fun hHeld => ?_)
     clear hK K; refine nm_ 38 ?_; refine pu_ (i := 8) (N := some 30) HT_ ?_; refine pu_ (i := 9) (N := some 39) HT_ ?_; refine pu_ (i := 10) (N := some 40) HT_ ?_
     refine last_ (i := 11) (N := none) #[true, true, true, true, true, true, true, true, true, true, true, true] rfl rfl (one_of HT_.out (by kernel_rfl)) (by decide) (fun K hK => ?_)
     have hs45 : w43.cell? ⟨gb262, 0, none⟩ = some (.slice Ao41 x263000_1.length co41) := bc_ BK262 0
     have hfs45 := blk_frozen BK262.out 0
     have hns45_0 := NB261_262.out; have hms45_0 := NB262_261.out
     have hs47 : w43.cell? ⟨gb262, 1, none⟩ = some (.slice Ao42 x263001_1.length co42) := bc_ BK262 1
     have hfs47 := blk_frozen BK262.out 1
     have hns47_0 := NB261_262.out; have hms47_0 := NB262_261.out
     refine skip_ (w1 := ?_) (by rfl) rfl ?_ ?_
     rotate_left
     ·go_simp
      rfl
     refine hK.out _ _ ?_
     clear hK K
     refine done_ (done_of HT_.out (by kernel_rfl)) ?_
     try go_wp2
     go_roundg k1
     case measure => have := HK1.out; omega
     case rel => exact ⟨(wrap64 (x6_1 - 1)), (t292), (t293), (t296), (.slice Ao44 t293.length co44), (.slice Ao46 t296.length co46), (by first | rfl | (simp; done) | (simp [*]; done)), H', ⟨by have := HK1.out; omega⟩, ⟨by (with_reducible repeat (first | apply Kd.Q_alloc | apply Kd.Q_drewN | apply Kd.Q_drew)); exact Kd.Q_mono (Kd.Q_far (p := ⟨gb262, 1, none⟩) (Kd.Q_far (p := ⟨gb262, 0, none⟩) (Kd.Q_types HO295.out BK262.out (by decide)) (fun _ hk => hk.2) (.slice Ao44 t293.length co44)) (fun _ hk => hk.2) (.slice Ao46 t296.length co46)) (fun _ hk => trivial)⟩, ⟨Kd.Q_of_R ((Kd.S_R (by refine kS_ ?_; exact Kd.S_mono (Kd.S_far (p := ⟨gb262, 1, none⟩) (Kd.S_far (p := ⟨gb262, 0, none⟩) (Kd.S_types HO298.out BK262.out (by decide)) (fun _ hk => hk.2) (.slice Ao44 t293.length co44)) (fun _ hk => hk.2) (.slice Ao46 t296.length co46)) (fun _ hk => trivial))))⟩, ⟨by exact kf_ BK261.out⟩, ⟨by refine kb_ ?_; refine pz2 (cs := #[.slice Ao41 x263000_1.length co41, .slice Ao42 x263001_1.length co42]) ?_; refine kb_ ?_; exact BK262.out⟩, ⟨is73_ HI0.out⟩, ⟨hkA_ HK.out⟩, ⟨hb73_ HB.out⟩⟩
   ·rw [if_neg c10] at H
    have c10b0 : decide (0 < x6_1) = false := decide_eq_false c10
    clear c10
    replace H := Option.bind_eq_some_iff.mp H
    obtain ⟨⟨t302, t303⟩, A480, H⟩ := H
    (try dsimp only at H)
    have A48 := Aside0.mk A480; clear A480
    by_cases c49 : t302 = true
    ·subst c49
     rw [if_pos rfl] at H
     replace H := Option.bind_eq_some_iff.mp H
     obtain ⟨⟨t304, t305⟩, A500, H⟩ := H
     (try dsimp only at H)
     have A50 := Aside0.mk A500; clear A500
     by_cases c51 : t304 = 0
     ·rw [if_pos c51] at H
      have c51b0 : (t304 == 0) = true := beq_iff_eq.mpr c51
      have c51b1 : (t304 != 0) = false := bne_eq_false_iff_eq.mpr c51
      clear c51
      replace H := Option.bind_eq_some_iff.mp H
      obtain ⟨⟨t306, t307⟩, A520, H⟩ := H
      (try dsimp only at H)
      have A52 := Aside0.mk A520; clear A520
      replace H := Option.bind_eq_some_iff.mp H
      obtain ⟨⟨t308, t309⟩, A530, H⟩ := H
      (try dsimp only at H)
      have A53 := Aside0.mk A530; clear A530
      replace H := Option.bind_eq_some_iff.mp H
      obtain ⟨⟨t310, t311⟩, A540, H⟩ := H
      (try dsimp only at H)
      have A54 := Aside0.mk A540; clear A540
      by_cases c55 : x263000_1.length < 5864062014805
      ·rw [if_pos c55] at H
       have LMc55 := Aside0.mk c55; clear c55
       obtain ⟨y312, hy312⟩ : ∃ y_ : List (S60), y_ = (x263000_1 ++ [(⟨t306, t308, t310⟩ : S60)]) := ⟨_, rfl⟩
       (first | replace H := sb_ hy312 H | rw [← hy312] at H)
       have Ny312 := Aside0.mk hy312; clear hy312
       simp only [Option.some.injEq, Prod.mk.injEq] at H
       obtain ⟨rfl, rfl, rfl⟩ := H
       try go_wp2_with (first | ((with_reducible refine gate_callee (f := 49) rfl ?_); refine goesL_ (some 43) rfl rfl Try.func49 (by kernel_rfl) rfl #[.pointer (some ⟨g, 0, none⟩), .int .i64 a1] rfl ar_ ?_; (with_reducible refine (spec_l20Rd_odd.calls k1 g s0_0 x1001_1 a1 true t303 w0 _ ?side1 ?side2 A48.out).mono ?_); (case side1 => exact is73_ HI0.out); (case side2 => exact hb73_ HB.out); rintro e w56 ⟨rfl, hi, hb, hk⟩; refine ⟨_, rfl, ?_⟩; replace HO_263000 := Aside0.mk (Kd.Q_mono (Kd.Q_keep (IsS73.apartQ (show IsS73 w0 _ g s0_0 x1001_1 from is73_ HI0.out) (by (with_reducible repeat (first | apply Kd.Q_alloc | apply Kd.Q_drewN | apply Kd.Q_drew)); exact HO_263000.out) (by decide)) hk (fun _ h => h.2)) (fun _ h => h.1)); replace HO_263001 := Aside0.mk (Kd.Q_mono (Kd.Q_keep (IsS73.apartQ (show IsS73 w0 _ g s0_0 x1001_1 from is73_ HI0.out) (by (with_reducible repeat (first | apply Kd.Q_alloc | apply Kd.Q_drewN | apply Kd.Q_drew)); exact HO_263001.out) (by decide)) hk (fun _ h => h.2)) (fun _ h => h.1)); replace BK261 := (bkA_ BK261 hk NB261_0); replace BK262 := (bkA_ BK262 hk NB262_0); replace HK := (kk_ HK hk); replace HB := Aside0.mk (hb); replace HI0 := Aside0.mk (hi); (try clear hb); (try clear hb2); (try clear hk); (try clear hi)) | ((with_reducible refine gate_callee (f := 23) rfl ?_); refine goesL_ (some 45) rfl rfl Try.func23 (by kernel_rfl) rfl #[.pointer (some ⟨g, 0, none⟩), .int .i64 3] rfl ar_ ?_; (with_reducible refine (spec_l20Rd_pick.calls k1 g s0_0 t303 3 t304 t305 w0 _ ?side1 ?side2 A50.out).mono ?_); (case side1 => exact is73_ HI0.out); (case side2 => exact hb73_ HB.out); rintro e w57 ⟨rfl, hi, hb, hk⟩; refine ⟨_, rfl, ?_⟩; replace HO_263000 := Aside0.mk (Kd.Q_mono (Kd.Q_keep (IsS73.apartQ (show IsS73 w0 _ g s0_0 t303 from is73_ HI0.out) (by (with_reducible repeat (first | apply Kd.Q_alloc | apply Kd.Q_drewN | apply Kd.Q_drew)); exact HO_263000.out) (by decide)) hk (fun _ h => h.2)) (fun _ h => h.1)); replace HO_263001 := Aside0.mk (Kd.Q_mono (Kd.Q_keep (IsS73.apartQ (show IsS73 w0 _ g s0_0 t303 from is73_ HI0.out) (by (with_reducible repeat (first | apply Kd.Q_alloc | apply Kd.Q_drewN | apply Kd.Q_drew)); exact HO_263001.out) (by decide)) hk (fun _ h => h.2)) (fun _ h => h.1)); replace BK261 := (bkA_ BK261 hk NB261_0); replace BK262 := (bkA_ BK262 hk NB262_0); replace HK := (kk_ HK hk); replace HB := Aside0.mk (hb); replace HI0 := Aside0.mk (hi); (try clear hb); (try clear hb2); (try clear hk); (try clear hi)))
       replace HO_263000 := Aside0.mk (Kd.Q_drew HO_263000.out); replace HO_263001 := Aside0.mk (Kd.Q_drew HO_263001.out); replace BK261 := Aside0.mk (blk_drew BK261.out); replace BK262 := Aside0.mk (blk_drew BK262.out); replace HI0 := Aside0.mk (IsS73.drew HI0.out); replace HK := Aside0.mk (keep_drew HK.out); replace HB := (bd_ HB)
       refine start_ (n := 13) (S := fun w' => w'.cell? ⟨gb262, 0, none⟩ = some (u263000) ∧ w'.cell? ⟨gb262, 1, none⟩ = some (u263001)) (ds := [12]) #[false, false, false, false, false, false, false, false, false, false, false, false, false] (by kernel_rfl) rfl rfl (cz2 BK262.out) (fun hHeld => ?_); refine with_tabW spec_l20Near.tab12 spec_l20Near.bits12 (fun HT_ HW_ => ?_)
       generalize w57.drew = w58 at HO_263000 HO_263001 BK261 BK262 HI0 HK HB hHeld ⊢
       refine pu_ (i := 0) (N := some 54) HT_ ?_; refine pu_ (i := 2) (N := some 56) HT_ ?_; refine pu_ (i := 4) (N := some 58) HT_ ?_; refine pu_ (i := 6) (N := some 60) HT_ ?_; refine tk_ (i := 1) (N := some 55) HT_ HW_ hHeld ?_
       refine on_ (i := 3) (N := some 57) HT_ (fun K hK => ?_)
       refine goes_ Try.func23 (by kernel_rfl) rfl #[.pointer (some ⟨g, 0, none⟩), .int .i64 6] (by rfl) rfl rfl ar_ ?_
       with_reducible refine (spec_l20Rd_pick.calls k1 g s0_0 t305 6 t306 t307 w0 _ ?side1 ?side2 A52.out).mono ?_
       (case side1 => exact is73_ HI0.out)
       (case side2 => exact hb73_ HB.out)
       rintro e w59 ⟨rfl, hi, hb, hk⟩
       refine ⟨_, rfl, ?_⟩
       replace HO_263000 := Aside0.mk (Kd.Q_mono (Kd.Q_keep (IsS73.apartQ (show IsS73 w0 _ g s0_0 t305 from is73_ HI0.out) (by (with_reducible repeat (first | apply Kd.Q_alloc | apply Kd.Q_drewN | apply Kd.Q_drew)); exact HO_263000.out) (by decide)) hk (fun _ h => h.2)) (fun _ h => h.1)); replace HO_263001 := Aside0.mk (Kd.Q_mono (Kd.Q_keep (IsS73.apartQ (show IsS73 w0 _ g s0_0 t305 from is73_ HI0.out) (by (with_reducible repeat (first | apply Kd.Q_alloc | apply Kd.Q_drewN | apply Kd.Q_drew)); exact HO_263001.out) (by decide)) hk (fun _ h => h.2)) (fun _ h => h.1)); replace BK261 := (bkA_ BK261 hk NB261_0); replace BK262 := (bkA_ BK262 hk NB262_0); replace HK := (kk_ HK hk); replace HB := Aside0.mk (hb); replace HI0 := Aside0.mk (hi); (try clear hb); (try clear hb2); (try clear hk); (try clear hi)
       refine hK.out _ _ (cz2 BK262.out) (fun hHeld => ?_)
       clear hK K; refine nm_ 57 ?_
       refine on_ (i := 5) (N := some 59) HT_ (fun K hK => ?_)
       refine goes_ Try.func23 (by kernel_rfl) rfl #[.pointer (some ⟨g, 0, none⟩), .int .i64 300] (by rfl) rfl rfl ar_ ?_
       with_reducible refine (spec_l20Rd_pick.calls k1 g s0_0 t307 300 t308 t309 w0 _ ?side1 ?side2 A53.out).mono ?_
       (case side1 => exact is73_ HI0.out)
       (case side2 => exact hb73_ HB.out)
       rintro e w60 ⟨rfl, hi, hb, hk⟩
       refine ⟨_, rfl, ?_⟩
       replace HO_263000 := Aside0.mk (Kd.Q_mono (Kd.Q_keep (IsS73.apartQ (show IsS73 w0 _ g s0_0 t307 from is73_ HI0.out) (by (with_reducible repeat (first | apply Kd.Q_alloc | apply Kd.Q_drewN | apply Kd.Q_drew)); exact HO_263000.out) (by decide)) hk (fun _ h => h.2)) (fun _ h => h.1)); replace HO_263001 := Aside0.mk (Kd.Q_mono (Kd.Q_keep (IsS73.apartQ (show IsS73 w0 _ g s0_0 t307 from is73_ HI0.out) (by (with_reducible repeat (first | apply Kd.Q_alloc | apply Kd.Q_drewN | apply Kd.Q_drew)); exact HO_263001.out) (by decide)) hk (fun _ h => h.2)) (fun _ h => h.1)); replace BK261 := (bkA_ BK261 hk NB261_0); replace BK262 := (bkA_ BK262 hk NB262_0); replace HK := (kk_ HK hk); replace HB := Aside0.mk (hb); replace HI0 := Aside0.mk (hi); (try clear hb); (try clear hb2); (try clear hk); (try clear hi)
       refine hK.out _ _ (cz2 BK262.out) (fun hHeld => ?_)
       clear hK K; refine nm_ 59 ?_
       refine on_ (i := 7) (N := some 61) HT_ (fun K hK => ?_)
       refine goes_ Try.func23 (by kernel_rfl) rfl #[.pointer (some ⟨g, 0, none⟩), .int .i64 9] (by rfl) rfl rfl ar_ ?_
       with_reducible refine (spec_l20Rd_pick.calls k1 g s0_0 t309 9 t310 t311 w0 _ ?side1 ?side2 A54.out).mono ?_
       (case side1 => exact is73_ HI0.out)
       (case side2 => exact hb73_ HB.out)
       rintro e w61 ⟨rfl, hi, hb, hk⟩
       refine ⟨_, rfl, ?_⟩
       replace HO_263000 := Aside0.mk (Kd.Q_mono (Kd.Q_keep (IsS73.apartQ (show IsS73 w0 _ g s0_0 t309 from is73_ HI0.out) (by (with_reducible repeat (first | apply Kd.Q_alloc | apply Kd.Q_drewN | apply Kd.Q_drew)); exact HO_263000.out) (by decide)) hk (fun _ h => h.2)) (fun _ h => h.1)); replace HO_263001 := Aside0.mk (Kd.Q_mono (Kd.Q_keep (IsS73.apartQ (show IsS73 w0 _ g s0_0 t309 from is73_ HI0.out) (by (with_reducible repeat (first | apply Kd.Q_alloc | apply Kd.Q_drewN | apply Kd.Q_drew)); exact HO_263001.out) (by decide)) hk (fun _ h => h.2)) (fun _ h => h.1)); replace BK261 := (bkA_ BK261 hk NB261_0); replace BK262 := (bkA_ BK262 hk NB262_0); replace HK := (kk_ HK hk); replace HB := Aside0.mk (hb); replace HI0 := Aside0.mk (hi); (try clear hb); (try clear hb2); (try clear hk); (try clear hi)
       refine hK.out _ _ (cz2 BK262.out) (fun hHeld => ?_)
       clear hK K; refine nm_ 61 ?_; refine pu_ (i := 8) (N := some 62) HT_ ?_
       refine on_ (i := 9) (N := some 63) HT_ (fun K hK => ?_)
       refine value_ (w1 := ?_) (v := ?_) (by rfl) rfl ?_ ?_
       rotate_left 2
       ·go_simp
        constructor
        ·rfl
        ·rfl
       refine hK.out _ _ ⟨(blk_cell (blk_alloc BK262.out _) 0).trans rfl, (blk_cell (blk_alloc BK262.out _) 1).trans rfl⟩ (fun hHeld => ?_)
       clear hK K; refine nm_ 63 ?_
       refine on_ (i := 10) (N := some 64) HT_ (fun K hK => ?_)
       refine Kd.Q_append_step k60 w.heap.size (by rfl) (.tmp 55) (.tmp 63) 23 60 (.agg #[(.int .i64 0), (.int .i64 0), (.int .i64 0)]) 24 rfl Try.underlying23 info60 rfl (by decide) (by omega) u263000 x263000_1 (⟨t306, t308, t310⟩ : S60) [.int .i64 t306, .int .i64 t308, .int .i64 t310] (fun _ => True) (fun _ => False) rfl rfl ?aP (fun _ hk => hk.elim) ?aF ?aO (Below.refl _ _) ?aS ?aL ?_
       (case aP => exact k60_mkM _ _ _ (⟨t306, t308, t310⟩ : S60))
       (case aF => exact (fun _ _ => trivial))
       (case aO => exact (by (with_reducible repeat (first | apply Kd.Q_alloc | apply Kd.Q_drewN | apply Kd.Q_drew)); exact HO_263000.out))
       (case aS => exact (keep_size (w := w) (g := g) (row := none) (hkA_ HK.out)))
       (case aL => have := LMc55.out; omega)
       intro v313 w62 ho hb hg hat
       rw [← Ny312.out] at ho
       have n0_ := Aside0.mk (Kd.Q_over' (by (with_reducible repeat (first | apply Kd.Q_alloc | apply Kd.Q_drewN | apply Kd.Q_drew)); exact HO_263001.out) (Kd.Q_typed (by (with_reducible repeat (first | apply Kd.Q_alloc | apply Kd.Q_drewN | apply Kd.Q_drew)); exact HO_263000.out)) (by decide) hg); have n1_ := (bgA_ BK261 hg (Kd.Q_ne HO_263000.out BK261.out (by decide))); have n2_ := (bgA_ BK262 hg (Kd.Q_ne HO_263000.out BK262.out (by decide))); have n3_ := Aside0.mk (IsS73.grown (is73_ HI0.out) hg (IsS73.own_neQ HI0.out HO_263000.out (by decide))); have n4_ := Aside0.mk (below_weaken (hb73_ HB.out) HL.out hb); have n5_ := Aside0.mk (KeepBut.trans (hkA_ HK.out) (KeepBut.of_grown hg g) (Kd.Q_base2 HO_263000.out)); have n6_ := Aside0.mk (ho); clear HO_263001 BK261 BK262 HI0 HB HK HO_263000; have HO_263001 := n0_; have BK261 := n1_; have BK262 := n2_; have HI0 := n3_; have HB := n4_; have HK := n5_; have HO314 := n6_; clear n0_ n1_ n2_ n3_ n4_ n5_ n6_ ho hb hg hat
       obtain ⟨Ao63, co63, eo63, _⟩ := Kd.Q_slice HO314.out
       (first | subst eo63 | (injection eo63 with f1_ f2_ f3_; have f4_ := f1_.symm; have f5_ := f3_.symm; clear f1_ f2_ f3_; subst f4_; subst f5_))
       refine hK.out _ _ (cz2 BK262.out) (fun hHeld => ?_)
       clear hK K; refine nm_ 64 ?_; refine pu_ (i := 11) (N := some 65) HT_ ?_
       refine last_ (i := 12) (N := none) #[true, true, true, true, true, true, true, true, true, true, true, true, true] rfl rfl (one_of HT_.out (by kernel_rfl)) (by decide) (fun K hK => ?_)
       have hs64 : w62.cell? ⟨gb262, 0, none⟩ = some (u263000) := bc_ BK262 0
       have hfs64 := blk_frozen BK262.out 0
       have hns64_0 := NB261_262.out; have hms64_0 := NB262_261.out
       refine skip_ (w1 := ?_) (by rfl) rfl ?_ ?_
       rotate_left
       ·go_simp
        rfl
       refine hK.out _ _ ?_
       clear hK K
       refine done_ (done_of HT_.out (by kernel_rfl)) ?_
       have hnb65 := NB262_261.out; have hnc65 := NB261_262.out; have hnb66 := NB262_0.out; have hnc66 := NB0_262.out; have Z67 := zz2 BK262; have hnb68 := NB261_0.out; have hnc68 := NB0_261.out; have Z69 := zz2 BK261
       obtain ⟨Ao70, co70, eo70, _⟩ := Kd.Q_slice HO_263001.out
       subst eo70
       try go_wp2
       refine bodyPost_ret (results_cell_row rfl _ _ gb261 26 #[.slice Ao63 y312.length co63, .slice Ao70 x263001_1.length co70] (0, 0) _ rfl (by refine kb_ ?_; refine pz2 (cs := #[.slice none 0 0, .slice none 0 0]) ?_; exact kf_ BK261.out) Try.underlying26 rfl (by kernel_rfl)) rfl ?_
       exact ⟨_, _, by first | rfl | (simp [errW_none, errW_some] <;> rfl) | (simp [*, errW_none, errW_some] <;> rfl), by (with_reducible repeat (first | apply Kd.Q_alloc | apply Kd.Q_drewN | apply Kd.Q_drew)); exact Kd.Q_mono (Kd.Q_far (p := ⟨gb261, 1, none⟩) (Kd.Q_far (p := ⟨gb261, 0, none⟩) (Kd.Q_far (p := ⟨gb262, 0, none⟩) (Kd.Q_types (Kd.Q_types HO314.out BK262.out (by decide)) BK261.out (by decide)) (fun _ hk => hk.1.2) (.slice Ao63 y312.length co63)) (fun _ hk => hk.2) (.slice Ao63 y312.length co63)) (fun _ hk => hk.2) (.slice Ao70 x263001_1.length co70)) (fun _ hk => trivial), by (with_reducible repeat (first | apply Kd.Q_alloc | apply Kd.Q_drewN | apply Kd.Q_drew)); exact Kd.Q_mono (Kd.Q_far (p := ⟨gb261, 1, none⟩) (Kd.Q_far (p := ⟨gb261, 0, none⟩) (Kd.Q_far (p := ⟨gb262, 0, none⟩) (Kd.Q_types (Kd.Q_types HO_263001.out BK262.out (by decide)) BK261.out (by decide)) (fun _ hk => hk.1.2) (.slice Ao63 y312.length co63)) (fun _ hk => hk.2) (.slice Ao63 y312.length co63)) (fun _ hk => hk.2) (.slice Ao70 x263001_1.length co70)) (fun _ hk => trivial), is73_ HI0.out, hb73_ HB.out, hkA_ HK.out⟩
      ·rw [if_neg c55] at H
       exact absurd H (by simp)
     ·rw [if_neg c51] at H
      have c51b0 : (t304 == 0) = false := beq_eq_false_iff_ne.mpr c51
      have c51b1 : (t304 != 0) = true := bne_iff_ne.mpr c51
      by_cases c71 : t304 = 1
      ·rw [if_pos c71] at H
       have c71b0 : (t304 == 1) = true := beq_iff_eq.mpr c71
       have c71b1 : (t304 != 1) = false := bne_eq_false_iff_eq.mpr c71
       clear c71
       replace H := Option.bind_eq_some_iff.mp H
       obtain ⟨⟨t315, t316⟩, A720, H⟩ := H
       (try dsimp only at H)
       have A72 := Aside0.mk A720; clear A720
       by_cases c73 : x263001_1.length + 1 < 4398046511104
       ·rw [if_pos c73] at H
        have LMc73 := Aside0.mk c73; clear c73
        obtain ⟨y317, hy317⟩ : ∃ y_ : List (S36), y_ = (x263001_1 ++ [(⟨t315, ([] : List Int)⟩ : S36), (⟨65536, ([] : List Int)⟩ : S36)]) := ⟨_, rfl⟩
        (first | replace H := sb_ hy317 H | rw [← hy317] at H)
        have Ny317 := Aside0.mk hy317; clear hy317
        simp only [Option.some.injEq, Prod.mk.injEq] at H
        obtain ⟨rfl, rfl, rfl⟩ := H
        try go_wp2_with (first | ((with_reducible refine gate_callee (f := 49) rfl ?_); refine goesL_ (some 43) rfl rfl Try.func49 (by kernel_rfl) rfl #[.pointer (some ⟨g, 0, none⟩), .int .i64 a1] rfl ar_ ?_; (with_reducible refine (spec_l20Rd_odd.calls k1 g s0_0 x1001_1 a1 true t303 w0 _ ?side1 ?side2 A48.out).mono ?_); (case side1 => exact is73_ HI0.out); (case side2 => exact hb73_ HB.out); rintro e w74 ⟨rfl, hi, hb, hk⟩; refine ⟨_, rfl, ?_⟩; replace HO_263000 := Aside0.mk (Kd.Q_mono (Kd.Q_keep (IsS73.apartQ (show IsS73 w0 _ g s0_0 x1001_1 from is73_ HI0.out) (by (with_reducible repeat (first | apply Kd.Q_alloc | apply Kd.Q_drewN | apply Kd.Q_drew)); exact HO_263000.out) (by decide)) hk (fun _ h => h.2)) (fun _ h => h.1)); replace HO_263001 := Aside0.mk (Kd.Q_mono (Kd.Q_keep (IsS73.apartQ (show IsS73 w0 _ g s0_0 x1001_1 from is73_ HI0.out) (by (with_reducible repeat (first | apply Kd.Q_alloc | apply Kd.Q_drewN | apply Kd.Q_drew)); exact HO_263001.out) (by decide)) hk (fun _ h => h.2)) (fun _ h => h.1)); replace BK261 := (bkA_ BK261 hk NB261_0); replace BK262 := (bkA_ BK262 hk NB262_0); replace HK := (kk_ HK hk); replace HB := Aside0.mk (hb); replace HI0 := Aside0.mk (hi); (try clear hb); (try clear hb2); (try clear hk); (try clear hi)) | ((with_reducible refine gate_callee (f := 23) rfl ?_); refine goesL_ (some 45) rfl rfl Try.func23 (by kernel_rfl) rfl #[.pointer (some ⟨g, 0, none⟩), .int .i64 3] rfl ar_ ?_; (with_reducible refine (spec_l20Rd_pick.calls k1 g s0_0 t303 3 t304 t305 w0 _ ?side1 ?side2 A50.out).mono ?_); (case side1 => exact is73_ HI0.out); (case side2 => exact hb73_ HB.out); rintro e w75 ⟨rfl, hi, hb, hk⟩; refine ⟨_, rfl, ?_⟩; replace HO_263000 := Aside0.mk (Kd.Q_mono (Kd.Q_keep (IsS73.apartQ (show IsS73 w0 _ g s0_0 t303 from is73_ HI0.out) (by (with_reducible repeat (first | apply Kd.Q_alloc | apply Kd.Q_drewN | apply Kd.Q_drew)); exact HO_263000.out) (by decide)) hk (fun _ h => h.2)) (fun _ h => h.1)); replace HO_263001 := Aside0.mk (Kd.Q_mono (Kd.Q_keep (IsS73.apartQ (show IsS73 w0 _ g s0_0 t303 from is73_ HI0.out) (by (with_reducible repeat (first | apply Kd.Q_alloc | apply Kd.Q_drewN | apply Kd.Q_drew)); exact HO_263001.out) (by decide)) hk (fun _ h => h.2)) (fun _ h => h.1)); replace BK261 := (bkA_ BK261 hk NB261_0); replace BK262 := (bkA_ BK262 hk NB262_0); replace HK := (kk_ HK hk); replace HB := Aside0.mk (hb); replace HI0 := Aside0.mk (hi); (try clear hb); (try clear hb2); (try clear hk); (try clear hi)))
        replace HO_263000 := Aside0.mk (Kd.Q_drew HO_263000.out); replace HO_263001 := Aside0.mk (Kd.Q_drew HO_263001.out); replace BK261 := Aside0.mk (blk_drew BK261.out); replace BK262 := Aside0.mk (blk_drew BK262.out); replace HI0 := Aside0.mk (IsS73.drew HI0.out); replace HK := Aside0.mk (keep_drew HK.out); replace HB := (bd_ HB)
        refine start_ (n := 10) (S := fun w' => w'.cell? ⟨gb262, 0, none⟩ = some (u263000) ∧ w'.cell? ⟨gb262, 1, none⟩ = some (u263001)) (ds := [9]) #[false, false, false, false, false, false, false, false, false, false] (by kernel_rfl) rfl rfl (cz2 BK262.out) (fun hHeld => ?_); refine with_tabW spec_l20Near.tab14 spec_l20Near.bits14 (fun HT_ HW_ => ?_)
        generalize w75.drew = w76 at HO_263000 HO_263001 BK261 BK262 HI0 HK HB hHeld ⊢
        refine pu_ (i := 0) (N := some 68) HT_ ?_; refine pu_ (i := 2) (N := some 70) HT_ ?_; refine pu_ (i := 5) (N := some 73) HT_ ?_; refine tk_ (i := 1) (N := some 69) HT_ HW_ hHeld ?_
        refine on_ (i := 3) (N := some 71) HT_ (fun K hK => ?_)
        refine goes_ Try.func23 (by kernel_rfl) rfl #[.pointer (some ⟨g, 0, none⟩), .int .i64 6] (by rfl) rfl rfl ar_ ?_
        with_reducible refine (spec_l20Rd_pick.calls k1 g s0_0 t305 6 t315 t316 w0 _ ?side1 ?side2 A72.out).mono ?_
        (case side1 => exact is73_ HI0.out)
        (case side2 => exact hb73_ HB.out)
        rintro e w77 ⟨rfl, hi, hb, hk⟩
        refine ⟨_, rfl, ?_⟩
        replace HO_263000 := Aside0.mk (Kd.Q_mono (Kd.Q_keep (IsS73.apartQ (show IsS73 w0 _ g s0_0 t305 from is73_ HI0.out) (by (with_reducible repeat (first | apply Kd.Q_alloc | apply Kd.Q_drewN | apply Kd.Q_drew)); exact HO_263000.out) (by decide)) hk (fun _ h => h.2)) (fun _ h => h.1)); replace HO_263001 := Aside0.mk (Kd.Q_mono (Kd.Q_keep (IsS73.apartQ (show IsS73 w0 _ g s0_0 t305 from is73_ HI0.out) (by (with_reducible repeat (first | apply Kd.Q_alloc | apply Kd.Q_drewN | apply Kd.Q_drew)); exact HO_263001.out) (by decide)) hk (fun _ h => h.2)) (fun _ h => h.1)); replace BK261 := (bkA_ BK261 hk NB261_0); replace BK262 := (bkA_ BK262 hk NB262_0); replace HK := (kk_ HK hk); replace HB := Aside0.mk (hb); replace HI0 := Aside0.mk (hi); (try clear hb); (try clear hb2); (try clear hk); (try clear hi)
        refine hK.out _ _ (cz2 BK262.out) (fun hHeld => ?_)
        clear hK K; refine nm_ 71 ?_; refine pu_ (i := 4) (N := some 72) HT_ ?_
        refine on_ (i := 6) (N := some 74) HT_ (fun K hK => ?_)
        refine value_ (w1 := ?_) (v := ?_) (by rfl) rfl ?_ ?_
        rotate_left 2
        ·go_simp
         constructor
         ·rfl
         ·rfl
        refine hK.out _ _ ⟨(blk_cell (blk_alloc BK262.out _) 0).trans rfl, (blk_cell (blk_alloc BK262.out _) 1).trans rfl⟩ (fun hHeld => ?_)
        clear hK K; refine nm_ 74 ?_
        refine on_ (i := 7) (N := some 75) HT_ (fun K hK => ?_)
        refine Q_append2s_ k36 w.heap.size (by rfl) (.tmp 69) (.tmp 74) 24 36 (.agg #[(.int .i64 0), (.slice none 0 0)]) 32 rfl Try.underlying24 info36 rfl (by decide) (by omega) u263001 x263001_1 (⟨t315, ([] : List Int)⟩ : S36) (⟨65536, ([] : List Int)⟩ : S36) [.int .i64 t315, .slice none 0 0] [.int .i64 65536, .slice none 0 0] [.int .i64 t315, .slice none 0 0, .int .i64 65536, .slice none 0 0] rfl (fun _ => True) rfl rfl ?aP ?aP2 ?aF ?aO (Below.refl _ _) ?aS ?aL ?_
        (case aP => exact k36_mkM _ _ _ (⟨t315, ([] : List Int)⟩ : S36) (Kd.R_nil _ _ _ _ _))
        (case aP2 => exact k36_mkM _ _ _ (⟨65536, ([] : List Int)⟩ : S36) (Kd.R_nil _ _ _ _ _))
        (case aF => exact (fun _ _ => trivial))
        (case aO => exact (by (with_reducible repeat (first | apply Kd.Q_alloc | apply Kd.Q_drewN | apply Kd.Q_drew)); exact HO_263001.out))
        (case aS => exact (keep_size (w := w) (g := g) (row := none) (hkA_ HK.out)))
        (case aL => have := LMc73.out; omega)
        intro v318 w78 ho hb hg hat
        rw [← Ny317.out] at ho
        have n0_ := Aside0.mk (Kd.Q_over' (by (with_reducible repeat (first | apply Kd.Q_alloc | apply Kd.Q_drewN | apply Kd.Q_drew)); exact HO_263000.out) (Kd.Q_typed (by (with_reducible repeat (first | apply Kd.Q_alloc | apply Kd.Q_drewN | apply Kd.Q_drew)); exact HO_263001.out)) (by decide) hg); have n1_ := (bgA_ BK261 hg (Kd.Q_ne HO_263001.out BK261.out (by decide))); have n2_ := (bgA_ BK262 hg (Kd.Q_ne HO_263001.out BK262.out (by decide))); have n3_ := Aside0.mk (IsS73.grown (is73_ HI0.out) hg (IsS73.own_neQ HI0.out HO_263001.out (by decide))); have n4_ := Aside0.mk (below_weaken (hb73_ HB.out) HL.out hb); have n5_ := Aside0.mk (KeepBut.trans (hkA_ HK.out) (KeepBut.of_grown hg g) (Kd.Q_base2 HO_263001.out)); have n6_ := Aside0.mk (ho); clear HO_263000 BK261 BK262 HI0 HB HK HO_263001; have HO_263000 := n0_; have BK261 := n1_; have BK262 := n2_; have HI0 := n3_; have HB := n4_; have HK := n5_; have HO319 := n6_; clear n0_ n1_ n2_ n3_ n4_ n5_ n6_ ho hb hg hat
        obtain ⟨Ao79, co79, eo79, _⟩ := Kd.Q_slice HO319.out
        (first | subst eo79 | (injection eo79 with f1_ f2_ f3_; have f4_ := f1_.symm; have f5_ := f3_.symm; clear f1_ f2_ f3_; subst f4_; subst f5_))
        refine hK.out _ _ (cz2 BK262.out) (fun hHeld => ?_)
        clear hK K; refine nm_ 75 ?_; refine pu_ (i := 8) (N := some 76) HT_ ?_
        refine last_ (i := 9) (N := none) #[true, true, true, true, true, true, true, true, true, true] rfl rfl (one_of HT_.out (by kernel_rfl)) (by decide) (fun K hK => ?_)
        have hs80 : w78.cell? ⟨gb262, 1, none⟩ = some (u263001) := bc_ BK262 1
        have hfs80 := blk_frozen BK262.out 1
        have hns80_0 := NB261_262.out; have hms80_0 := NB262_261.out
        refine skip_ (w1 := ?_) (by rfl) rfl ?_ ?_
        rotate_left
        ·go_simp
         rfl
        refine hK.out _ _ ?_
        clear hK K
        refine done_ (done_of HT_.out (by kernel_rfl)) ?_
        have hnb81 := NB262_261.out; have hnc81 := NB261_262.out; have hnb82 := NB262_0.out; have hnc82 := NB0_262.out; have Z83 := zz2 BK262
        obtain ⟨Ao84, co84, eo84, _⟩ := Kd.Q_slice HO_263000.out
        subst eo84; have hnb85 := NB261_0.out; have hnc85 := NB0_261.out; have Z86 := zz2 BK261
        try go_wp2
        refine bodyPost_ret (results_cell_row rfl _ _ gb261 26 #[.slice Ao84 x263000_1.length co84, .slice Ao79 y317.length co79] (0, 0) _ rfl (by refine kb_ ?_; refine pz2 (cs := #[.slice none 0 0, .slice none 0 0]) ?_; exact kf_ BK261.out) Try.underlying26 rfl (by kernel_rfl)) rfl ?_
        exact ⟨_, _, by first | rfl | (simp [errW_none, errW_some] <;> rfl) | (simp [*, errW_none, errW_some] <;> rfl), by (with_reducible repeat (first | apply Kd.Q_alloc | apply Kd.Q_drewN | apply Kd.Q_drew)); exact Kd.Q_mono (Kd.Q_far (p := ⟨gb261, 1, none⟩) (Kd.Q_far (p := ⟨gb261, 0, none⟩) (Kd.Q_far (p := ⟨gb262, 1, none⟩) (Kd.Q_types (Kd.Q_types HO_263000.out BK262.out (by decide)) BK261.out (by decide)) (fun _ hk => hk.1.2) (.slice Ao79 y317.length co79)) (fun _ hk => hk.2) (.slice Ao84 x263000_1.length co84)) (fun _ hk => hk.2) (.slice Ao79 y317.length co79)) (fun _ hk => trivial), by (with_reducible repeat (first | apply Kd.Q_alloc | apply Kd.Q_drewN | apply Kd.Q_drew)); exact Kd.Q_mono (Kd.Q_far (p := ⟨gb261, 1, none⟩) (Kd.Q_far (p := ⟨gb261, 0, none⟩) (Kd.Q_far (p := ⟨gb262, 1, none⟩) (Kd.Q_types (Kd.Q_types HO319.out BK262.out (by decide)) BK261.out (by decide)) (fun _ hk => hk.1.2) (.slice Ao79 y317.length co79)) (fun _ hk => hk.2) (.slice Ao84 x263000_1.length co84)) (fun _ hk => hk.2) (.slice Ao79 y317.length co79)) (fun _ hk => trivial), is73_ HI0.out, hb73_ HB.out, hkA_ HK.out⟩
       ·rw [if_neg c73] at H
        exact absurd H (by simp)
      ·rw [if_neg c71] at H
       have c71b0 : (t304 == 1) = false := beq_eq_false_iff_ne.mpr c71
       have c71b1 : (t304 != 1) = true := bne_iff_ne.mpr c71
       by_cases c87 : x263000_1.length + x263000_1.length < 5864062014805
       ·rw [if_pos c87] at H
        have LMc87 := Aside0.mk c87; clear c87
        obtain ⟨y320, hy320⟩ : ∃ y_ : List (S60), y_ = (x263000_1 ++ x263000_1) := ⟨_, rfl⟩
        (first | replace H := sb_ hy320 H | rw [← hy320] at H)
        have Ny320 := Aside0.mk hy320; clear hy320
        simp only [Option.some.injEq, Prod.mk.injEq] at H
        obtain ⟨rfl, rfl, rfl⟩ := H
        go_wp2_with (first | ((with_reducible refine gate_callee (f := 49) rfl ?_); refine goesL_ (some 43) rfl rfl Try.func49 (by kernel_rfl) rfl #[.pointer (some ⟨g, 0, none⟩), .int .i64 a1] rfl ar_ ?_; (with_reducible refine (spec_l20Rd_odd.calls k1 g s0_0 x1001_1 a1 true t303 w0 _ ?side1 ?side2 A48.out).mono ?_); (case side1 => exact is73_ HI0.out); (case side2 => exact hb73_ HB.out); rintro e w88 ⟨rfl, hi, hb, hk⟩; refine ⟨_, rfl, ?_⟩; replace HO_263000 := Aside0.mk (Kd.Q_mono (Kd.Q_keep (IsS73.apartQ (show IsS73 w0 _ g s0_0 x1001_1 from is73_ HI0.out) (by (with_reducible repeat (first | apply Kd.Q_alloc | apply Kd.Q_drewN | apply Kd.Q_drew)); exact HO_263000.out) (by decide)) hk (fun _ h => h.2)) (fun _ h => h.1)); replace HO_263001 := Aside0.mk (Kd.Q_mono (Kd.Q_keep (IsS73.apartQ (show IsS73 w0 _ g s0_0 x1001_1 from is73_ HI0.out) (by (with_reducible repeat (first | apply Kd.Q_alloc | apply Kd.Q_drewN | apply Kd.Q_drew)); exact HO_263001.out) (by decide)) hk (fun _ h => h.2)) (fun _ h => h.1)); replace BK261 := (bkA_ BK261 hk NB261_0); replace BK262 := (bkA_ BK262 hk NB262_0); replace HK := (kk_ HK hk); replace HB := Aside0.mk (hb); replace HI0 := Aside0.mk (hi); (try clear hb); (try clear hb2); (try clear hk); (try clear hi)) | ((with_reducible refine gate_callee (f := 23) rfl ?_); refine goesL_ (some 45) rfl rfl Try.func23 (by kernel_rfl) rfl #[.pointer (some ⟨g, 0, none⟩), .int .i64 3] rfl ar_ ?_; (with_reducible refine (spec_l20Rd_pick.calls k1 g s0_0 t303 3 t304 t305 w0 _ ?side1 ?side2 A50.out).mono ?_); (case side1 => exact is73_ HI0.out); (case side2 => exact hb73_ HB.out); rintro e w89 ⟨rfl, hi, hb, hk⟩; refine ⟨_, rfl, ?_⟩; replace HO_263000 := Aside0.mk (Kd.Q_mono (Kd.Q_keep (IsS73.apartQ (show IsS73 w0 _ g s0_0 t303 from is73_ HI0.out) (by (with_reducible repeat (first | apply Kd.Q_alloc | apply Kd.Q_drewN | apply Kd.Q_drew)); exact HO_263000.out) (by decide)) hk (fun _ h => h.2)) (fun _ h => h.1)); replace HO_263001 := Aside0.mk (Kd.Q_mono (Kd.Q_keep (IsS73.apartQ (show IsS73 w0 _ g s0_0 t303 from is73_ HI0.out) (by (with_reducible repeat (first | apply Kd.Q_alloc | apply Kd.Q_drewN | apply Kd.Q_drew)); exact HO_263001.out) (by decide)) hk (fun _ h => h.2)) (fun _ h => h.1)); replace BK261 := (bkA_ BK261 hk NB261_0); replace BK262 := (bkA_ BK262 hk NB262_0); replace HK := (kk_ HK hk); replace HB := Aside0.mk (hb); replace HI0 := Aside0.mk (hi); (try clear hb); (try clear hb2); (try clear hk); (try clear hi); have hnb90 := NB262_261.out; have hnc90 := NB261_262.out; have hnb91 := NB262_0.out; have hnc91 := NB0_262.out; have Z92 := zz2 BK262; obtain ⟨Ao94, co94, eo94, _⟩ := Kd.Q_slice HO_263000.out; subst eo94) | ((with_reducible refine gate_builtin (b := .append) (xs := #[.tmp 47, .tmp 49]) rfl ?_); at_builtin; refine Q_append_rows_ k60 w.heap.size rfl (.tmp 47) (.tmp 49) 23 60 (.agg #[(.int .i64 0), (.int .i64 0), (.int .i64 0)]) 24 rfl Try.underlying23 info60 rfl (by decide) (by omega) (.slice Ao94 x263000_1.length co94) x263000_1 x263000_1 _ _ _ (fun _ => True) (fun _ => False) rfl rfl ?aO ?aR (fun _ _ h => h) (fun _ h => h.elim) ?aF (Below.refl _ _) ?aS ?aL ?_; (case aR => exact kC_ (Kd.Q_reads' HO_263000.out).2.2); (case aF => exact (fun _ _ => trivial)); (case aO => exact (by (with_reducible repeat (first | apply Kd.Q_alloc | apply Kd.Q_drewN | apply Kd.Q_drew)); exact HO_263000.out)); (case aS => exact (keep_size (w := w) (g := g) (row := none) (hkA_ HK.out))); (case aL => have := LMc87.out; omega); intro v321 w93 ho hb hg hat; rw [← Ny320.out] at ho; replace HO_263001 := Aside0.mk (Kd.Q_over' (by (with_reducible repeat (first | apply Kd.Q_alloc | apply Kd.Q_drewN | apply Kd.Q_drew)); exact HO_263001.out) (Kd.Q_typed (by (with_reducible repeat (first | apply Kd.Q_alloc | apply Kd.Q_drewN | apply Kd.Q_drew)); exact HO_263000.out)) (by decide) hg); replace BK261 := (bgA_ BK261 hg (Kd.Q_ne HO_263000.out BK261.out (by decide))); replace BK262 := (bgA_ BK262 hg (Kd.Q_ne HO_263000.out BK262.out (by decide))); replace HI0 := Aside0.mk (IsS73.grown (is73_ HI0.out) hg (IsS73.own_neQ HI0.out HO_263000.out (by decide))); replace HB := Aside0.mk (below_weaken (hb73_ HB.out) HL.out hb); replace HK := Aside0.mk (KeepBut.trans (hkA_ HK.out) (KeepBut.of_grown hg g) (Kd.Q_base2 HO_263000.out)); have HO322 := Aside0.mk (ho); clear HO_263000; clear ho hb hg hat; obtain ⟨Ao95, co95, eo95, _⟩ := Kd.Q_slice HO322.out; subst eo95; have Z96 := zz2 BK262; have hnb97 := NB261_0.out; have hnc97 := NB0_261.out; have Z98 := zz2 BK261; obtain ⟨Ao99, co99, eo99, _⟩ := Kd.Q_slice HO_263001.out; subst eo99))
        refine bodyPost_ret (results_cell_row rfl _ _ gb261 26 #[.slice Ao95 y320.length co95, .slice Ao99 x263001_1.length co99] (0, 0) _ rfl (by refine kb_ ?_; refine pz2 (cs := #[.slice none 0 0, .slice none 0 0]) ?_; exact kf_ BK261.out) Try.underlying26 rfl (by kernel_rfl)) rfl ?_
        exact ⟨_, _, by first | rfl | (simp [errW_none, errW_some] <;> rfl) | (simp [*, errW_none, errW_some] <;> rfl), by (with_reducible repeat (first | apply Kd.Q_alloc | apply Kd.Q_drewN | apply Kd.Q_drew)); exact Kd.Q_mono (Kd.Q_far (p := ⟨gb261, 1, none⟩) (Kd.Q_far (p := ⟨gb261, 0, none⟩) (Kd.Q_far (p := ⟨gb262, 0, none⟩) (Kd.Q_types (Kd.Q_types HO322.out BK262.out (by decide)) BK261.out (by decide)) (fun _ hk => hk.1.2) (.slice Ao95 y320.length co95)) (fun _ hk => hk.2) (.slice Ao95 y320.length co95)) (fun _ hk => hk.2) (.slice Ao99 x263001_1.length co99)) (fun _ hk => trivial), by (with_reducible repeat (first | apply Kd.Q_alloc | apply Kd.Q_drewN | apply Kd.Q_drew)); exact Kd.Q_mono (Kd.Q_far (p := ⟨gb261, 1, none⟩) (Kd.Q_far (p := ⟨gb261, 0, none⟩) (Kd.Q_far (p := ⟨gb262, 0, none⟩) (Kd.Q_types (Kd.Q_types HO_263001.out BK262.out (by decide)) BK261.out (by decide)) (fun _ hk => hk.1.2) (.slice Ao95 y320.length co95)) (fun _ hk => hk.2) (.slice Ao95 y320.length co95)) (fun _ hk => hk.2) (.slice Ao99 x263001_1.length co99)) (fun _ hk => trivial), is73_ HI0.out, hb73_ HB.out, hkA_ HK.out⟩
       ·rw [if_neg c87] at H
        exact absurd H (by simp)
    ·replace c49 := Bool.eq_false_iff.mpr c49
     subst c49
     rw [if_neg (show ¬ (false = true) by decide)] at H
     simp only [Option.some.injEq, Prod.mk.injEq] at H
     obtain ⟨rfl, rfl, rfl⟩ := H
     go_wp2_with (first | ((with_reducible refine gate_callee (f := 49) rfl ?_); refine goesL_ (some 43) rfl rfl Try.func49 (by kernel_rfl) rfl #[.pointer (some ⟨g, 0, none⟩), .int .i64 a1] rfl ar_ ?_; (with_reducible refine (spec_l20Rd_odd.calls k1 g s0_0 x1001_1 a1 false t303 w0 _ ?side1 ?side2 A48.out).mono ?_); (case side1 => exact is73_ HI0.out); (case side2 => exact hb73_ HB.out); rintro e w100 ⟨rfl, hi, hb, hk⟩; refine ⟨_, rfl, ?_⟩; replace HO_263000 := Aside0.mk (Kd.Q_mono (Kd.Q_keep (IsS73.apartQ (show IsS73 w0 _ g s0_0 x1001_1 from is73_ HI0.out) (by (with_reducible repeat (first | apply Kd.Q_alloc | apply Kd.Q_drewN | apply Kd.Q_drew)); exact HO_263000.out) (by decide)) hk (fun _ h => h.2)) (fun _ h => h.1)); replace HO_263001 := Aside0.mk (Kd.Q_mono (Kd.Q_keep (IsS73.apartQ (show IsS73 w0 _ g s0_0 x1001_1 from is73_ HI0.out) (by (with_reducible repeat (first | apply Kd.Q_alloc | apply Kd.Q_drewN | apply Kd.Q_drew)); exact HO_263001.out) (by decide)) hk (fun _ h => h.2)) (fun _ h => h.1)); replace BK261 := (bkA_ BK261 hk NB261_0); replace BK262 := (bkA_ BK262 hk NB262_0); replace HK := (kk_ HK hk); replace HB := Aside0.mk (hb); replace HI0 := Aside0.mk (hi); (try clear hb); (try clear hb2); (try clear hk); (try clear hi); have hnb101 := NB262_261.out; have hnc101 := NB261_262.out; have hnb102 := NB262_0.out; have hnc102 := NB0_262.out; have Z103 := zz2 BK262; obtain ⟨Ao104, co104, eo104, _⟩ := Kd.Q_slice HO_263000.out; subst eo104; have hnb105 := NB261_0.out; have hnc105 := NB0_261.out; have Z106 := zz2 BK261; obtain ⟨Ao107, co107, eo107, _⟩ := Kd.Q_slice HO_263001.out; subst eo107))
     refine bodyPost_ret (results_cell_row rfl _ _ gb261 26 #[.slice Ao104 x263000_1.length co104, .slice Ao107 x263001_1.length co107] (0, 0) _ rfl (by refine kb_ ?_; refine pz2 (cs := #[.slice none 0 0, .slice none 0 0]) ?_; refine kb_ ?_; exact BK261.out) Try.underlying26 rfl (by kernel_rfl)) rfl ?_
     exact ⟨_, _, by first | rfl | (simp [errW_none, errW_some] <;> rfl) | (simp [*, errW_none, errW_some] <;> rfl), by (with_reducible repeat (first | apply Kd.Q_alloc | apply Kd.Q_drewN | apply Kd.Q_drew)); exact Kd.Q_mono (Kd.Q_far (p := ⟨gb261, 1, none⟩) (Kd.Q_far (p := ⟨gb261, 0, none⟩) (Kd.Q_types HO_263000.out BK261.out (by decide)) (fun _ hk => hk.2) (.slice Ao104 x263000_1.length co104)) (fun _ hk => hk.2) (.slice Ao107 x263001_1.length co107)) (fun _ hk => trivial), by (with_reducible repeat (first | apply Kd.Q_alloc | apply Kd.Q_drewN | apply Kd.Q_drew)); exact Kd.Q_mono (Kd.Q_far (p := ⟨gb261, 1, none⟩) (Kd.Q_far (p := ⟨gb261, 0, none⟩) (Kd.Q_types HO_263001.out BK261.out (by decide)) (fun _ hk => hk.2) (.slice Ao104 x263000_1.length co104)) (fun _ hk => hk.2) (.slice Ao107 x263001_1.length co107)) (fun _ hk => trivial), is73_ HI0.out, hb73_ HB.out, hkA_ HK.out⟩
def spec_DrawNearSend.f (k : Nat) (l0 : List Int) : Option ((List (S60)) × (List (S36)) × Int × List Int × Int) := (spec_l20Open.f l0).bind fun bt324 => ((spec_l20Near.f k bt324.1 bt324.2 15).bind fun bt327 => ((spec_l20Rd_pick.f k bt324.1 bt327.2.2 6).bind fun bt334 => ((spec_l20Rd_pick.f k bt324.1 bt334.2 15).bind fun bt336 => ((spec_l20Rd_pick.f k bt324.1 bt336.2 4).bind fun bt338 => ((spec_l20Rd_bytes.f k bt324.1 bt338.2 bt338.1).bind fun bt340 => ((spec_l20Rd_pick.f k bt324.1 bt340.2 50).bind fun bt344 => ((spec_l20Rd_pick.f k bt324.1 bt344.2 15).bind fun bt346 => (some (bt327.1, bt327.2.1, wrap64 (bt334.1 + (wrap64 ((wrap64 (Int.tdiv bt336.1 14)) * 65536))), bt340.1, wrap64 (bt344.1 - (wrap64 ((wrap64 (Int.tdiv bt346.1 14)) * 60))))))))))))
theorem spec_DrawNearSend.mono : ∀ a0 k, LeO (spec_DrawNearSend.f k a0) (spec_DrawNearSend.f (k + 1) a0) := by
 intro a0 k
 unfold spec_DrawNearSend.f
 repeat' first | (with_reducible first | apply spec_l20Near.mono | apply spec_l20Rd_bytes.mono | apply spec_l20Rd_pick.mono | exact LeO.refl _ | exact LeO.none _ | refine LeO.ite ?_ ?_ | refine LeO.bind ?_ fun _ => ?_) | apply spec_l20Near.mono | apply spec_l20Rd_bytes.mono | apply spec_l20Rd_pick.mono | exact LeO.none _ | refine LeO.ite ?_ ?_ | refine LeO.bind ?_ fun _ => ?_
set_option maxHeartbeats 8000000 in
set_option maxRecDepth 100000 in
theorem spec_DrawNearSend.calls (k : Nat) (A0 : Option Addr) (c0 : Nat) (l0 : List Int) (r1 : List (S60)) (r2 : List (S36)) (r3 : Int) (r4 : List Int) (r5 : Int) (w : World) (hr0 : Kd.C (Kd.int .u8) w A0 l0.length l0) (hc0 : l0.length ≤ c0) (h : spec_DrawNearSend.f k l0 = some (r1, r2, r3, r4, r5)) :
  Calls Try.prog 5 #[.slice A0 l0.length c0] w fun e w' => ∃ v0_ v1_ v3_ : Value, e = .returned (.tuple #[.agg #[v0_, v1_], .int .i64 r3, v3_, .int .i64 r5]) ∧ Kd.Q k60 60 w' w.heap.size (fun _ => True) v0_ r1 ∧ Kd.Q k36 36 w' w.heap.size (fun k_ => some k_ ≠ (v3_ : Value).ownBlock) v1_ r2 ∧ Kd.R (Kd.int .u8) 5 w' w.heap.size (fun _ => True) v3_ r4 ∧ Below w.heap.size w w' := by
 have hu26 := Try.underlying26; have HR0 := Aside0.mk hr0; have HC0 := Aside0.mk hc0; clear hr0 hc0
 have HB := Aside0.mk (Below.refl w.heap.size w)
 have H : ((spec_l20Open.f l0).bind fun bt324 => ((spec_l20Near.f k bt324.1 bt324.2 15).bind fun bt327 => ((spec_l20Rd_pick.f k bt324.1 bt327.2.2 6).bind fun bt334 => ((spec_l20Rd_pick.f k bt324.1 bt334.2 15).bind fun bt336 => ((spec_l20Rd_pick.f k bt324.1 bt336.2 4).bind fun bt338 => ((spec_l20Rd_bytes.f k bt324.1 bt338.2 bt338.1).bind fun bt340 => ((spec_l20Rd_pick.f k bt324.1 bt340.2 50).bind fun bt344 => ((spec_l20Rd_pick.f k bt324.1 bt344.2 15).bind fun bt346 => (some (bt327.1, bt327.2.1, wrap64 (bt334.1 + (wrap64 ((wrap64 (Int.tdiv bt336.1 14)) * 65536))), bt340.1, wrap64 (bt344.1 - (wrap64 ((wrap64 (Int.tdiv bt346.1 14)) * 60))))))))))))) = some (r1, r2, r3, r4, r5) := h
 clear h
 replace H := Option.bind_eq_some_iff.mp H
 obtain ⟨⟨t324, t325⟩, A20, H⟩ := H
 (try dsimp only at H)
 have A2 := Aside0.mk A20; clear A20
 replace H := Option.bind_eq_some_iff.mp H
 obtain ⟨⟨t327, t330, t333⟩, A30, H⟩ := H
 (try dsimp only at H)
 have A3 := Aside0.mk A30; clear A30
 replace H := Option.bind_eq_some_iff.mp H
 obtain ⟨⟨t334, t335⟩, A40, H⟩ := H
 (try dsimp only at H)
 have A4 := Aside0.mk A40; clear A40
 replace H := Option.bind_eq_some_iff.mp H
 obtain ⟨⟨t336, t337⟩, A50, H⟩ := H
 (try dsimp only at H)
 have A5 := Aside0.mk A50; clear A50
 replace H := Option.bind_eq_some_iff.mp H
 obtain ⟨⟨t338, t339⟩, A60, H⟩ := H
 (try dsimp only at H)
 have A6 := Aside0.mk A60; clear A60
 replace H := Option.bind_eq_some_iff.mp H
 obtain ⟨⟨t340, t343⟩, A70, H⟩ := H
 (try dsimp only at H)
 have A7 := Aside0.mk A70; clear A70
 replace H := Option.bind_eq_some_iff.mp H
 obtain ⟨⟨t344, t345⟩, A80, H⟩ := H
 (try dsimp only at H)
 have A8 := Aside0.mk A80; clear A80
 replace H := Option.bind_eq_some_iff.mp H
 obtain ⟨⟨t346, t347⟩, A90, H⟩ := H
 (try dsimp only at H)
 have A9 := Aside0.mk A90; clear A90
 simp only [Option.some.injEq, Prod.mk.injEq] at H
 obtain ⟨rfl, rfl, rfl, rfl, rfl⟩ := H
 go_enter Try.func5, Try.ntmps5
 go_wp2_with (first | ((with_reducible refine gate_dst (N := 2) rfl ?_); refine box_ (N := 2) (cs := #[.slice none 0 0, .slice none 0 0]) (t := 26) (fun gb323 hg w10 hbox hb => ?_); have BK323 := Aside0.mk (hbox); have GW323 := ge_ hg HB; have GE323 := ge_ hg HB; replace HB := (bs_ HB hb); clear hb hbox hg) | ((with_reducible refine gate_callee (f := 21) rfl ?_); refine goesL_ (some 8) rfl rfl Try.func21 (by kernel_rfl) rfl #[.slice A0 l0.length c0] rfl ar_ ?_; (with_reducible refine (spec_l20Open.calls _ _ l0 t324 t325 w _ ?side1 ?side2 ?side3 A2.out).mono ?_); (case side1 => exact hbA_ HB.out); (case side2 => exact HR0.out); (case side3 => exact HC0.out); rintro e w11 ⟨g326, rfl, hi, hb, hb2⟩; refine ⟨_, rfl, ?_⟩; replace HB := Aside0.mk (hb); have HI326 := Aside0.mk (hi); have NB326_323 := Aside0.mk (IsS73.ne_blk hi (bb_ BK323 hb2) (by decide)); have NB323_326 := Aside0.mk (Ne.symm (IsS73.ne_blk hi (bb_ BK323 hb2) (by decide))); replace BK323 := (bbA_ BK323 hb2); (try clear hb); (try clear hb2); (try clear hk); (try clear hi)) | ((with_reducible refine gate_callee (f := 22) rfl ?_); refine goesL_ (some 10) rfl rfl Try.func22 (by kernel_rfl) rfl #[.pointer (some ⟨g326, 0, none⟩), .int .i64 15] rfl ar_ ?_; (with_reducible refine (spec_l20Near.calls k g326 t324 t325 15 t327 t330 t333 w _ ?side1 ?side2 A3.out).mono ?_); (case side1 => exact is73_ HI326.out); (case side2 => exact hb73_ HB.out); rintro e w12 ⟨v328, v331, rfl, ho0, ho1, hi, hb, hk⟩; refine ⟨_, rfl, ?_⟩; replace BK323 := (bkA_ BK323 hk NB323_326); have HO329 := Aside0.mk (Kd.Q_lower ho0 (below_size (hb73_ HB.out))); have HO332 := Aside0.mk (Kd.Q_lower ho1 (below_size (hb73_ HB.out))); replace HB := Aside0.mk (hb); replace HI326 := Aside0.mk (hi); (try clear hb); (try clear hb2); (try clear hk); (try clear hi); (try clear ho0); (try clear ho1)) | ((with_reducible refine gate_callee (f := 23) rfl ?_); refine goesL_ (some 12) rfl rfl Try.func23 (by kernel_rfl) rfl #[.pointer (some ⟨g326, 0, none⟩), .int .i64 6] rfl ar_ ?_; (with_reducible refine (spec_l20Rd_pick.calls k g326 t324 t333 6 t334 t335 w _ ?side1 ?side2 A4.out).mono ?_); (case side1 => exact is73_ HI326.out); (case side2 => exact hb73_ HB.out); rintro e w13 ⟨rfl, hi, hb, hk⟩; refine ⟨_, rfl, ?_⟩; replace BK323 := (bkA_ BK323 hk NB323_326); replace HO329 := Aside0.mk (Kd.Q_mono (Kd.Q_keep (IsS73.apartQ (show IsS73 w _ g326 t324 t333 from is73_ HI326.out) (by (with_reducible repeat (first | apply Kd.Q_alloc | apply Kd.Q_drewN | apply Kd.Q_drew)); exact HO329.out) (by decide)) hk (fun _ h => h.2)) (fun _ h => h.1)); replace HO332 := Aside0.mk (Kd.Q_mono (Kd.Q_keep (IsS73.apartQ (show IsS73 w _ g326 t324 t333 from is73_ HI326.out) (by (with_reducible repeat (first | apply Kd.Q_alloc | apply Kd.Q_drewN | apply Kd.Q_drew)); exact HO332.out) (by decide)) hk (fun _ h => h.2)) (fun _ h => h.1)); replace HB := Aside0.mk (hb); replace HI326 := Aside0.mk (hi); (try clear hb); (try clear hb2); (try clear hk); (try clear hi)) | ((with_reducible refine gate_callee (f := 23) rfl ?_); refine goesL_ (some 14) rfl rfl Try.func23 (by kernel_rfl) rfl #[.pointer (some ⟨g326, 0, none⟩), .int .i64 15] rfl ar_ ?_; (with_reducible refine (spec_l20Rd_pick.calls k g326 t324 t335 15 t336 t337 w _ ?side1 ?side2 A5.out).mono ?_); (case side1 => exact is73_ HI326.out); (case side2 => exact hb73_ HB.out); rintro e w14 ⟨rfl, hi, hb, hk⟩; refine ⟨_, rfl, ?_⟩; replace BK323 := (bkA_ BK323 hk NB323_326); replace HO329 := Aside0.mk (Kd.Q_mono (Kd.Q_keep (IsS73.apartQ (show IsS73 w _ g326 t324 t335 from is73_ HI326.out) (by (with_reducible repeat (first | apply Kd.Q_alloc | apply Kd.Q_drewN | apply Kd.Q_drew)); exact HO329.out) (by decide)) hk (fun _ h => h.2)) (fun _ h => h.1)); replace HO332 := Aside0.mk (Kd.Q_mono (Kd.Q_keep (IsS73.apartQ (show IsS73 w _ g326 t324 t335 from is73_ HI326.out) (by (with_reducible repeat (first | apply Kd.Q_alloc | apply Kd.Q_drewN | apply Kd.Q_drew)); exact HO332.out) (by decide)) hk (fun _ h => h.2)) (fun _ h => h.1)); replace HB := Aside0.mk (hb); replace HI326 := Aside0.mk (hi); (try clear hb); (try clear hb2); (try clear hk); (try clear hi)) | ((with_reducible refine gate_callee (f := 23) rfl ?_); refine goesL_ (some 20) rfl rfl Try.func23 (by kernel_rfl) rfl #[.pointer (some ⟨g326, 0, none⟩), .int .i64 4] rfl ar_ ?_; (with_reducible refine (spec_l20Rd_pick.calls k g326 t324 t337 4 t338 t339 w _ ?side1 ?side2 A6.out).mono ?_); (case side1 => exact is73_ HI326.out); (case side2 => exact hb73_ HB.out); rintro e w15 ⟨rfl, hi, hb, hk⟩; refine ⟨_, rfl, ?_⟩; replace BK323 := (bkA_ BK323 hk NB323_326); replace HO329 := Aside0.mk (Kd.Q_mono (Kd.Q_keep (IsS73.apartQ (show IsS73 w _ g326 t324 t337 from is73_ HI326.out) (by (with_reducible repeat (first | apply Kd.Q_alloc | apply Kd.Q_drewN | apply Kd.Q_drew)); exact HO329.out) (by decide)) hk (fun _ h => h.2)) (fun _ h => h.1)); replace HO332 := Aside0.mk (Kd.Q_mono (Kd.Q_keep (IsS73.apartQ (show IsS73 w _ g326 t324 t337 from is73_ HI326.out) (by (with_reducible repeat (first | apply Kd.Q_alloc | apply Kd.Q_drewN | apply Kd.Q_drew)); exact HO332.out) (by decide)) hk (fun _ h => h.2)) (fun _ h => h.1)); replace HB := Aside0.mk (hb); replace HI326 := Aside0.mk (hi); (try clear hb); (try clear hb2); (try clear hk); (try clear hi)) | ((with_reducible refine gate_callee (f := 24) rfl ?_); refine goesL_ (some 21) rfl rfl Try.func24 (by kernel_rfl) rfl #[.pointer (some ⟨g326, 0, none⟩), .int .i64 t338] rfl ar_ ?_; (with_reducible refine (spec_l20Rd_bytes.calls k g326 t324 t339 t338 t340 t343 w _ ?side1 ?side2 A7.out).mono ?_); (case side1 => exact is73_ HI326.out); (case side2 => exact hb73_ HB.out); rintro e w16 ⟨v341, rfl, ho0, hi, hb, hk⟩; refine ⟨_, rfl, ?_⟩; replace BK323 := (bkA_ BK323 hk NB323_326); replace HO329 := Aside0.mk (Kd.Q_mono (Kd.Q_keep (IsS73.apartQ (show IsS73 w _ g326 t324 t339 from is73_ HI326.out) (by (with_reducible repeat (first | apply Kd.Q_alloc | apply Kd.Q_drewN | apply Kd.Q_drew)); exact HO329.out) (by decide)) hk (fun _ h => h.2)) (fun _ h => h.1)); replace HO332 := Aside0.mk (Kd.Q_mono (Kd.Q_told (Kd.Q_oldK (IsS73.apartQ (show IsS73 w _ g326 t324 t339 from is73_ HI326.out) (by (with_reducible repeat (first | apply Kd.Q_alloc | apply Kd.Q_drewN | apply Kd.Q_drew)); exact HO332.out) (by decide)) hk) (Kd.R_base ho0)) (fun _ h_ => op1_ h_)); have HO342 := Aside0.mk (Kd.R_lower ho0 (below_size (hb73_ HB.out))); replace HB := Aside0.mk (hb); replace HI326 := Aside0.mk (hi); (try clear hb); (try clear hb2); (try clear hk); (try clear hi); (try clear ho0)) | ((with_reducible refine gate_callee (f := 23) rfl ?_); refine goesL_ (some 23) rfl rfl Try.func23 (by kernel_rfl) rfl #[.pointer (some ⟨g326, 0, none⟩), .int .i64 50] rfl ar_ ?_; (with_reducible refine (spec_l20Rd_pick.calls k g326 t324 t343 50 t344 t345 w _ ?side1 ?side2 A8.out).mono ?_); (case side1 => exact is73_ HI326.out); (case side2 => exact hb73_ HB.out); rintro e w17 ⟨rfl, hi, hb, hk⟩; refine ⟨_, rfl, ?_⟩; replace BK323 := (bkA_ BK323 hk NB323_326); replace HO329 := Aside0.mk (Kd.Q_mono (Kd.Q_keep (IsS73.apartQ (show IsS73 w _ g326 t324 t343 from is73_ HI326.out) (by (with_reducible repeat (first | apply Kd.Q_alloc | apply Kd.Q_drewN | apply Kd.Q_drew)); exact HO329.out) (by decide)) hk (fun _ h => h.2)) (fun _ h => h.1)); replace HO332 := Aside0.mk (Kd.Q_mono (Kd.Q_keep (IsS73.apartQ (show IsS73 w _ g326 t324 t343 from is73_ HI326.out) (by (with_reducible repeat (first | apply Kd.Q_alloc | apply Kd.Q_drewN | apply Kd.Q_drew)); exact HO332.out) (by decide)) hk (fun _ h => h.2)) (fun _ h => h.1)); replace HO342 := (rk73_ HI326 HO342 hk); replace HB := Aside0.mk (hb); replace HI326 := Aside0.mk (hi); (try clear hb); (try clear hb2); (try clear hk); (try clear hi)) | ((with_reducible refine gate_callee (f := 23) rfl ?_); refine goesL_ (some 25) rfl rfl Try.func23 (by kernel_rfl) rfl #[.pointer (some ⟨g326, 0, none⟩), .int .i64 15] rfl ar_ ?_; (with_reducible refine (spec_l20Rd_pick.calls k g326 t324 t345 15 t346 t347 w _ ?side1 ?side2 A9.out).mono ?_); (case side1 => exact is73_ HI326.out); (case side2 => exact hb73_ HB.out); rintro e w18 ⟨rfl, hi, hb, hk⟩; refine ⟨_, rfl, ?_⟩; replace BK323 := (bkA_ BK323 hk NB323_326); replace HO329 := Aside0.mk (Kd.Q_mono (Kd.Q_keep (IsS73.apartQ (show IsS73 w _ g326 t324 t345 from is73_ HI326.out) (by (with_reducible repeat (first | apply Kd.Q_alloc | apply Kd.Q_drewN | apply Kd.Q_drew)); exact HO329.out) (by decide)) hk (fun _ h => h.2)) (fun _ h => h.1)); replace HO332 := Aside0.mk (Kd.Q_mono (Kd.Q_keep (IsS73.apartQ (show IsS73 w _ g326 t324 t345 from is73_ HI326.out) (by (with_reducible repeat (first | apply Kd.Q_alloc | apply Kd.Q_drewN | apply Kd.Q_drew)); exact HO332.out) (by decide)) hk (fun _ h => h.2)) (fun _ h => h.1)); replace HO342 := (rk73_ HI326 HO342 hk); replace HB := Aside0.mk (hb); replace HI326 := Aside0.mk (hi); (try clear hb); (try clear hb2); (try clear hk); (try clear hi); obtain ⟨Ao19, co19, eo19, _⟩ := Kd.Q_slice HO329.out; subst eo19; have hnb20 := NB323_326.out; have hnc20 := NB326_323.out; have Z21 := zz2 BK323; obtain ⟨Ao22, co22, eo22, _⟩ := Kd.Q_slice HO332.out; subst eo22))
 refine bodyPost_ret (results_list (rs := [.cell 2 26, .tmp 3, .tmp 4, .tmp 5]) rfl (by simp) (.cell gb323 26 #[.slice Ao19 t327.length co19, .slice Ao22 t330.length co22] (0, 0) _ rfl (by refine kb_ ?_; refine pz2 (cs := #[.slice none 0 0, .slice none 0 0]) ?_; refine kb_ ?_; exact BK323.out) Try.underlying26 rfl (by kernel_rfl) (.tmp (.tmp (.tmp .nil))))) rfl ?_
 exact ⟨_, _, _, by first | rfl | (simp [errW_none, errW_some] <;> rfl) | (simp [*, errW_none, errW_some] <;> rfl), by (with_reducible repeat (first | apply Kd.Q_alloc | apply Kd.Q_drewN | apply Kd.Q_drew)); exact Kd.Q_mono (Kd.Q_far (p := ⟨gb323, 1, none⟩) (Kd.Q_far (p := ⟨gb323, 0, none⟩) (Kd.Q_types HO329.out BK323.out (by decide)) (fun _ hk => hk.2) (.slice Ao19 t327.length co19)) (fun _ hk => hk.2) (.slice Ao22 t330.length co22)) (fun _ hk => trivial), by (with_reducible repeat (first | apply Kd.Q_alloc | apply Kd.Q_drewN | apply Kd.Q_drew)); exact Kd.Q_mono (Kd.Q_far (p := ⟨gb323, 1, none⟩) (Kd.Q_far (p := ⟨gb323, 0, none⟩) (Kd.Q_types HO332.out BK323.out (by decide)) (fun _ hk => hk.2) (.slice Ao19 t327.length co19)) (fun _ hk => hk.2) (.slice Ao22 t330.length co22)) (fun _ hk => hk.1.2), by refine kR_ ?_; exact rfm_ ((Kd.R_types HO342.out BK323.out (by decide))) (fun _ hk => trivial), hb73_ HB.out⟩
def impl_in.f (a0 : Int) (a1 : Int) (a2 : Int) : Option (Bool) := if a0 ≥ a1 then (some (decide (a0 ≤ a2))) else (some false)
set_option maxHeartbeats 8000000 in
set_option maxRecDepth 100000 in
theorem impl_in.calls (a0 : Int) (a1 : Int) (a2 : Int) (r : Bool) (w : World) (h : impl_in.f a0 a1 a2 = some r) :
  Calls Try.prog 26 #[.int .i64 a0, .int .i64 a1, .int .i64 a2] w fun e w' => e = .returned (.bool r) ∧ Drawn0 w w' := by
 have H : (if a0 ≥ a1 then (some (decide (a0 ≤ a2))) else (some false)) = some r := h
 clear h
 by_cases c4 : a0 ≥ a1
 ·rw [if_pos c4] at H
  have c4b0 : decide (a1 ≤ a0) = true := decide_eq_true c4
  clear c4
  obtain rfl := Option.some.inj H
  go_enter Try.func26, Try.ntmps26
  go_wp2
  go_ret
  exact ⟨by first | rfl | (simp; done) | (simp [*]; done), by repeat (first | exact Drawn0.refl _ | apply Drawn0.step)⟩
 ·rw [if_neg c4] at H
  have c4b0 : decide (a1 ≤ a0) = false := decide_eq_false c4
  clear c4
  obtain rfl := Option.some.inj H
  go_enter Try.func26, Try.ntmps26
  go_wp2
  go_ret
  exact ⟨by first | rfl | (simp; done) | (simp [*]; done), by repeat (first | exact Drawn0.refl _ | apply Drawn0.step)⟩
def impl_word.f (a0 : Int) : Option (Bool) := (impl_in.f a0 0 65535).bind fun t348 => (some t348)
set_option maxHeartbeats 8000000 in
set_option maxRecDepth 100000 in
theorem impl_word.calls (a0 : Int) (r : Bool) (w : World) (h : impl_word.f a0 = some r) :
  Calls Try.prog 25 #[.int .i64 a0] w fun e w' => e = .returned (.bool r) ∧ Drawn0 w w' := by
 have H : ((impl_in.f a0 0 65535).bind fun t348 => (some t348)) = some r := h
 clear h
 replace H := Option.bind_eq_some_iff.mp H
 obtain ⟨t348, A20, H⟩ := H
 (try dsimp only at H)
 have A2 := Aside0.mk A20; clear A20
 obtain rfl := Option.some.inj H
 go_enter Try.func25, Try.ntmps25
 go_wp2_with (first | ((with_reducible refine gate_callee (f := 26) rfl ?_); refine goesL_ (some 4) rfl rfl Try.func26 (by kernel_rfl) rfl #[.int .i64 a0, .int .i64 0, .int .i64 65535] rfl ar_ ?_; (with_reducible refine (impl_in.calls a0 0 65535 t348 _ A2.out).mono ?_); rintro e w' ⟨rfl, ⟨nd, rfl⟩⟩; refine ⟨_, rfl, ?_⟩))
 go_ret
 exact ⟨by first | rfl | (simp; done) | (simp [*]; done), by repeat (first | exact Drawn0.refl _ | apply Drawn0.step)⟩
-- NOT PRINTED: function 53 (impl_NearEntry_53)
def impl_Near_at_ix.at (a : Int) : Nat → List S60 → Int
  | _, [] => -1
  | j, e :: l => if e.f0 == a then (j : Int) else impl_Near_at_ix.at a (j + 1) l
theorem impl_Near_at_ix.at_drop (a : Int) (l : List S60) (j : Nat) (h : j < l.length) : impl_Near_at_ix.at a j (l.drop j) = if (rd_T60 l (j : Int)).f0 == a then (j : Int) else impl_Near_at_ix.at a (j + 1) (l.drop (j + 1)) := by
  rw [List.drop_eq_getElem_cons h, impl_Near_at_ix.at]
  simp [rd_T60, List.getD_eq_getElem?_getD, List.getElem?_eq_getElem h]
set_option maxHeartbeats 2000000 in
theorem impl_Near_at_ix.pred (gb : Nat) (a : Int) (e : S60) (w0 : World) (hgb : gb < w0.heap.size) (hcell : w0.cell? ⟨gb, 0, none⟩ = some (.int .i64 a)) (W : World) (hb : Below w0.heap.size w0 W) :
    Calls Try.prog 54 #[.agg #[.int .i64 e.f0, .int .i64 e.f1, .int .i64 e.f2], .pointer (some ⟨gb, 0, none⟩)] W fun r w' => r = .returned (.bool (e.f0 == a)) ∧ Below w0.heap.size w0 w' := by
  have hc : W.cell? ⟨gb, 0, none⟩ = some (.int .i64 a) := (hb.cell (p := ⟨gb, 0, none⟩) hgb).trans hcell
  have hBW : gb < W.heap.size := Nat.lt_of_lt_of_le hgb hb.size
  have hne : gb ≠ W.heap.size := by omega
  go_enter Try.func54, Try.ntmps54
  go_wp2
  all_goals (go_ret; exact ⟨by simp_all, hb.alloc hb.size _⟩)
set_option maxHeartbeats 4000000 in
theorem impl_Near_at_ix.calls (gb : Nat) (a : Int) (A : Option Addr) (n c : Nat) (l : List S60) (hn : n = l.length) (hbig : l.length ≤ 140737488351232) (w : World) (hgb : gb < w.heap.size) (hcell : w.cell? ⟨gb, 0, none⟩ = some (.int .i64 a)) (hr : Kd.C k60 w A n l) :
    Calls Try.prog 53 #[.slice A n c, .func (.func 54) #[] #[.pointer (some ⟨gb, 0, none⟩)]] w fun e w' => e = .returned (.int .i64 (impl_Near_at_ix.at a 0 l)) ∧ Below w.heap.size w w' := by
  subst hn
  have HR := Aside0.mk hr
  have HP := Aside0.mk (fun (e : S60) => impl_Near_at_ix.pred gb a e w hgb hcell)
  clear hcell hr
  go_enter Try.func53, Try.ntmps53
  go_wp2
  go_loopg [5, 8] l.length (fun gg _ s8 wr => ∃ kk : Nat, kk ≤ l.length ∧ l.length - kk ≤ gg ∧ s8 = .int .i64 kk ∧ Aside0 (Below w.heap.size w wr) ∧ Aside0 (impl_Near_at_ix.at a 0 l = impl_Near_at_ix.at a kk (l.drop kk)))
  case atStart => exact ⟨0, Nat.zero_le _, by omega, rfl, ⟨Below.refl _ w⟩, ⟨rfl⟩⟩
  case round =>
    obtain ⟨kk, hkk, hg, rfl, HB, HA⟩ := hrel
    by_cases hlt : kk < l.length
    · have hltz : (kk : Int) < (l.length : Int) := by omega
      have hstep := impl_Near_at_ix.at_drop a l kk hlt
      obtain ⟨ad, e1, hx0, hx1, hx2⟩ := at_T60 HR.out (kk : Int) (by omega) (by omega)
      cases e1
      replace hx0 := cc_ HB hx0
      replace hx1 := cc_ HB hx1
      replace hx2 := cc_ HB hx2
      simp only [Int.toNat_natCast] at hx0 hx1 hx2
      have hcall := HP.out (rd_T60 l (kk : Int)) wr HB.out
      have HS := Aside0.mk hstep; clear hstep
      generalize rd_T60 l (kk : Int) = y at *
      cases hq : (y.f0 == a) with
      | true =>
        rw [hq] at hcall; replace hcall := Aside0.mk hcall
        go_wp2_with (first | ((with_reducible refine gateT_ (u := 11) rfl ?_); refine goesB_ (u := 11) (some 16) rfl rfl Try.func54 (by kernel_rfl) rfl #[.agg #[.int .i64 y.f0, .int .i64 y.f1, .int .i64 y.f2]] #[.pointer (some ⟨gb, 0, none⟩)] rfl rfl ar_ ?_; refine Calls.mono hcall.out ?_; rintro e w' ⟨rfl, hb'⟩; refine ⟨_, rfl, ?_⟩; have HB2 := Aside0.mk hb'; clear hb'))
        go_ret
        refine ⟨?_, HB2.out⟩
        rw [HA.out, HS.out, hq]; rfl
      | false =>
        rw [hq] at hcall; replace hcall := Aside0.mk hcall
        go_wp2_with (first | ((with_reducible refine gateT_ (u := 11) rfl ?_); refine goesB_ (u := 11) (some 16) rfl rfl Try.func54 (by kernel_rfl) rfl #[.agg #[.int .i64 y.f0, .int .i64 y.f1, .int .i64 y.f2]] #[.pointer (some ⟨gb, 0, none⟩)] rfl rfl ar_ ?_; refine Calls.mono hcall.out ?_; rintro e w' ⟨rfl, hb'⟩; refine ⟨_, rfl, ?_⟩; have HB2 := Aside0.mk hb'; clear hb'))
        go_roundg (l.length - (kk + 1))
        case measure => omega
        case rel =>
          refine ⟨kk + 1, by omega, by omega, by go_num, HB2, ⟨?_⟩⟩
          rw [HA.out, HS.out, hq]; rfl
    · have hltz : ¬ (kk : Int) < (l.length : Int) := by omega
      have : kk = l.length := by omega
      subst this
      go_wp2
      go_ret
      refine ⟨?_, HB.out⟩
      rw [HA.out, List.drop_length]; rfl
def impl_Near_at.f (l0_0 : List (S60)) (l0_1 : List (S36)) (a1 : Int) : Option (Int) := if l0_0.length ≤ 140737488351232 then some (impl_Near_at_ix.at a1 0 l0_0) else none
set_option maxHeartbeats 4000000 in
theorem impl_Near_at.calls (A0_0 : Option Addr) (c0_0 : Nat) (l0_0 : List (S60)) (A0_1 : Option Addr) (c0_1 : Nat) (l0_1 : List (S36)) (a1 : Int) (r : Int) (w : World) (hr0_0 : Kd.C k60 w A0_0 l0_0.length l0_0) (hc0_0 : l0_0.length ≤ c0_0) (hr0_1 : Kd.C k36 w A0_1 l0_1.length l0_1) (hc0_1 : l0_1.length ≤ c0_1) (h : impl_Near_at.f l0_0 l0_1 a1 = some r) :
    Calls Try.prog 33 #[.agg #[.slice A0_0 l0_0.length c0_0, .slice A0_1 l0_1.length c0_1], .int .i64 a1] w fun e w' => e = .returned (.int .i64 r) ∧ Below w.heap.size w w' := by
  obtain ⟨hbig, rfl⟩ : l0_0.length ≤ 140737488351232 ∧ impl_Near_at_ix.at a1 0 l0_0 = r := by
    unfold impl_Near_at.f at h; split at h
    · exact ⟨by assumption, Option.some.inj h⟩
    · cases h
  have hu26 := Try.underlying26
  have HR0_0 := Aside0.mk hr0_0; clear hr0_0 hr0_1 h
  have HB := Aside0.mk (Below.refl w.heap.size w)
  go_enter Try.func33, Try.ntmps33
  go_wp2_with (first
    | ((with_reducible refine gate_dst (N := 2) rfl ?_); (try (refine gate_guard (by rfl) ?_; dsimp only)); refine box_ (N := 2) (cs := #[.slice A0_0 l0_0.length c0_0, .slice A0_1 l0_1.length c0_1]) (t := 26) (fun gb1 hg w2 hbox hb => ?_); have BK1 := Aside0.mk (hbox); replace HB := (bs_ HB hb); clear hb hbox hg)
    | ((with_reducible refine gate_dst (N := 3) rfl ?_); (try (refine gate_guard (by rfl) ?_; dsimp only)); refine box_ (N := 3) (cs := #[.int .i64 a1]) (t := 3) (fun gb2 hg w3 hbox hb => ?_); have BK2 := Aside0.mk (hbox); replace HB := (bs_ HB hb); have NB1_2 := nl_ hg BK1; have NB2_1 := ng_ hg BK1; replace BK1 := (bbA_ BK1 hb); clear hb hbox hg; have hnb1 := NB1_2.out; have hnb2 := NB2_1.out; have Z1 := zz2 BK1)
    | ((with_reducible refine gate_callee (f := 53) rfl ?_); refine goesL_ (some 8) rfl rfl Try.func53 (by kernel_rfl) rfl #[.slice A0_0 l0_0.length c0_0, .func (.func 54) #[] #[.pointer (some ⟨gb2, 0, none⟩)]] rfl ar_ ?_; (with_reducible refine (impl_Near_at_ix.calls gb2 a1 _ _ _ l0_0 rfl hbig _ ?side1 ?side2 ?side3).mono ?_); (case side1 => exact (Array.getElem?_eq_some_iff.1 (kb_ BK2.out)).1); (case side2 => exact (blk_cell (kb_ BK2.out) 0).trans rfl); (case side3 => exact kC_ (Kd.C_below HR0_0.out HB.out)); rintro e w14 ⟨rfl, hb⟩; refine ⟨_, rfl, ?_⟩; replace HB := (bs_ HB hb); clear hb))
  go_ret
  exact ⟨rfl, hbA_ HB.out⟩
def impl_NearOk_1.f (a0_0 : Int) (l0_1 : List Int) : Option (Bool) := (impl_word.f a0_0).bind fun t350 => (if t350 = true then (some (decide ((l0_1.length : Int) > 64))) else (some true))
set_option maxHeartbeats 8000000 in
set_option maxRecDepth 100000 in
theorem impl_NearOk_1.calls (a0_0 : Int) (A0_1 : Option Addr) (c0_1 : Nat) (l0_1 : List Int) (r : Bool) (w : World) (hr0_1 : Kd.C (Kd.int .u8) w A0_1 l0_1.length l0_1) (hc0_1 : l0_1.length ≤ c0_1) (h : impl_NearOk_1.f a0_0 l0_1 = some r) :
  Calls Try.prog 35 #[.agg #[.int .i64 a0_0, .slice A0_1 l0_1.length c0_1]] w fun e w' => e = .returned (.bool r) ∧ Below w.heap.size w w' := by
 have hu36 := Try.underlying36; have HR0_1 := Aside0.mk hr0_1; have HC0_1 := Aside0.mk hc0_1; clear hr0_1 hc0_1
 have HB := Aside0.mk (Below.refl w.heap.size w)
 have H : ((impl_word.f a0_0).bind fun t350 => (if t350 = true then (some (decide ((l0_1.length : Int) > 64))) else (some true))) = some r := h
 clear h
 replace H := Option.bind_eq_some_iff.mp H
 obtain ⟨t350, A20, H⟩ := H
 (try dsimp only at H)
 have A2 := Aside0.mk A20; clear A20
 by_cases c3 : t350 = true
 ·subst c3
  rw [if_pos rfl] at H
  obtain rfl := Option.some.inj H
  go_enter Try.func35, Try.ntmps35
  go_wp2_with (first | ((with_reducible refine gate_dst (N := 1) rfl ?_); (try (refine gate_guard (by rfl) ?_; dsimp only)); refine box_ (N := 1) (cs := #[.int .i64 a0_0, .slice A0_1 l0_1.length c0_1]) (t := 36) (fun gb349 hg w4 hbox hb => ?_); have BK349 := Aside0.mk (hbox); have GW349 := ge_ hg HB; have GE349 := ge_ hg HB; replace HB := (bs_ HB hb); clear hb hbox hg; have Z5 := zz2 BK349) | ((with_reducible refine gate_callee (f := 25) rfl ?_); refine goesL_ (some 5) rfl rfl Try.func25 (by kernel_rfl) rfl #[.int .i64 a0_0] rfl ar_ ?_; (with_reducible refine (impl_word.calls a0_0 true _ A2.out).mono ?_); rintro e w' ⟨rfl, ⟨nd, rfl⟩⟩; refine ⟨_, rfl, ?_⟩))
  go_ret
  exact ⟨by first | rfl | (simp [errW_none, errW_some] <;> rfl) | (simp [*, errW_none, errW_some] <;> rfl), hbA_ HB.out⟩
 ·replace c3 := Bool.eq_false_iff.mpr c3
  subst c3
  rw [if_neg (show ¬ (false = true) by decide)] at H
  obtain rfl := Option.some.inj H
  go_enter Try.func35, Try.ntmps35
  go_wp2_with (first | ((with_reducible refine gate_dst (N := 1) rfl ?_); (try (refine gate_guard (by rfl) ?_; dsimp only)); refine box_ (N := 1) (cs := #[.int .i64 a0_0, .slice A0_1 l0_1.length c0_1]) (t := 36) (fun gb349 hg w6 hbox hb => ?_); have BK349 := Aside0.mk (hbox); have GW349 := ge_ hg HB; have GE349 := ge_ hg HB; replace HB := (bs_ HB hb); clear hb hbox hg; have Z7 := zz2 BK349) | ((with_reducible refine gate_callee (f := 25) rfl ?_); refine goesL_ (some 5) rfl rfl Try.func25 (by kernel_rfl) rfl #[.int .i64 a0_0] rfl ar_ ?_; (with_reducible refine (impl_word.calls a0_0 false _ A2.out).mono ?_); rintro e w' ⟨rfl, ⟨nd, rfl⟩⟩; refine ⟨_, rfl, ?_⟩))
  go_ret
  exact ⟨by first | rfl | (simp [errW_none, errW_some] <;> rfl) | (simp [*, errW_none, errW_some] <;> rfl), hbA_ HB.out⟩
end Go.Proofs.Ytcbiljabpadaeaa.PFnNearSend
