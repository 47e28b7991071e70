/- Printed by wip/xp/xprint.sh out of the translation, for this claim: what each function answers, as a plain function, and that the machine does just that. No condition. -/
import Derived.Test.YtbhofhdmbbipgaaPFnEarHearx0
import Derived.Test.YtbhofhdmbbipgaaPFnEarHearx2
import Derived.Test.YtbhofhdmbbipgaaPFnEarHearx3
import Derived.Test.YtbhofhdmbbipgaaPFnEarHearx4
namespace Go.Proofs.Ytbhofhdmbbipgaa.PFnEarHear
open Go.RowKit Go.Proofs.YtbhofhdmbbipgaaW.PrintWords Go.Proofs.YtbhofhdmbbipgaaW.PrintLast Go.Proofs.YtbhofhdmbbipgaaW.PrintMore
attribute [local go_sem] max2_int min2_int max_two min_two max_three min_three max_four min_four   -- for this text's walks alone
set_option linter.unusedVariables false
set_option linter.unusedSimpArgs false
theorem ins_copy_sz {P : Program} (w : World) (dT sT ty elem : TypeId) (g o dLen dCap : Nat) (a : Addr) (sLen sCap : Nat) (cur : Array Value) (t : TypeId) (cs : List Value) (size m : Nat)
    (hu : P.underlying dT = some (.slice elem)) (hs : (P.info? elem).map (·.size) = some size)
    (hg : w.heap[g]? = some (.cells cur t (0, 0))) (hm : Nat.min sLen dLen = m) (hn : cs.length = m * size)
    (hsrc : ∀ j v, cs[j]? = some v → w.cell? (a.add j) = some v) (hfit : o + cs.length ≤ cur.size) (h1 : ∀ v ∈ cs, v.oneCell' = true) :
    (Builtin.copy_ #[dT, sT] ty #[.slice (some ⟨g, o, none⟩) dLen dCap, .slice (some a) sLen sCap]).run P w =
      .ok (goInt m) (w.setRow g (cur.toList.take o ++ cs ++ cur.toList.drop (o + cs.length)).toArray) := by
  have hl := run_loadCells_list (P := P) w a cs hsrc
  have hst := run_storeCells_at P g o t cs 0 cur w hg (by simpa using hfit) h1
  cases hq : P.info? elem with
  | none => simp [hq] at hs
  | some i =>
    have hi : i.size = size := by simpa [hq] using hs
    simp [Builtin.copy_, run_underlying hu, Builtin.lenOf, Builtin.firstCells, sizeOf, typeInfo, hq, hi, hm, ← hn, hl, hst]
theorem ins_zeros_grow {P : Program} (w : World) (t ti ty e : TypeId) (i : TypeInfo) (z : Value) (size bytes : Nat) (ht : P.underlying t = some (.slice e)) {k : IntKind} (hti : P.underlying ti = some (.int k)) (hi : P.info? e = some i) (hz : i.zero = some z)
    (hsize : i.size = size) (hby : i.bytes = bytes) (hzs : z.cells.size = size) (hsz : 0 < size) (hb0 : 0 < bytes) (kx : IntKind) (n m cap : Nat) (A : Option Addr) (xs : List Value) (hm0 : 0 < m)
    (hbytes : (n + m) * bytes ≤ 140737488355328) (hcap : cap < n + m) (hfo : (Builtin.firstCells i.size n (.slice A n cap)).run P w.drew = .ok xs.toArray w.drew) :
    (Builtin.append_ #[t, ti] ty #[.slice A n cap, .int kx m]).run P w =
      .ok (.slice (some ⟨w.heap.size, 0, none⟩) (n + m) (grownCap w (n + m) cap e)) (w.drew.alloc (.cells (xs.toArray ++ Builtin.zeroCells z.cells m ++ Builtin.zeroCells z.cells (grownCap w (n + m) cap e - (n + m))) e)) := by
  subst hsize
  subst hby
  have hle : n + m ≤ 140737488355328 := Nat.le_trans (Nat.le_mul_of_pos_right _ hb0) hbytes
  have hw : IntKind.i64.wrap (m : Int) = m := by rw [IntKind.wrap_i64]; omega
  have hneg : ¬ ((m : Int) < 0) := by omega
  have hmb : m * i.bytes ≤ 140737488355328 := Nat.le_trans (Nat.mul_le_mul_right _ (Nat.le_add_left m n)) hbytes
  have hbig : ¬ (281474976710656 < (m : Int) * (i.bytes : Int)) := by
    rw [← Int.natCast_mul]
    omega
  have hn : ¬ (n + m ≤ cap) := by omega
  have h63' : ¬ (9223372036854775807 < ((n : Int) + (m : Int))) := by omega
  have hfit := growslice_fits hcap hbytes
  have h48' : ¬ (281474976710656 < Builtin.nextslicecap (n + m) cap * i.bytes) := by omega
  have hmz : ¬ (m * i.size = 0) := Nat.mul_ne_zero (by omega) (by omega)
  simp [Builtin.append_, run_underlying ht, run_underlying hti, sizeOf, typeInfo, zeroValue, hi, hz, asInt, asIntOf, hw, hneg, hbig, hn, h63', h48', Question.forced, hfo, newRow, grownCap, hmz]
theorem ins_list {α : Type} (pre xs post vs : List α) (k s : Nat) (hk : k ≤ xs.length) (hs : vs.length = s) (hp : s ≤ post.length) (L L1 : List α) (hL : L = pre ++ xs ++ post)
    (hL1 : L1 = L.take (pre.length + k + s) ++ xs.drop k ++ L.drop (pre.length + k + s + (xs.drop k).length)) :
    L1.take (pre.length + k) ++ vs ++ L1.drop (pre.length + k + vs.length) = pre ++ xs.take k ++ vs ++ xs.drop k ++ post.drop s ∧ L1.length = L.length := by
  obtain ⟨x1, x2, rfl, rfl⟩ : ∃ x1 x2, xs = x1 ++ x2 ∧ x1.length = k := ⟨xs.take k, xs.drop k, (List.take_append_drop k xs).symm, by rw [List.length_take]; omega⟩
  obtain ⟨p1, p2, rfl, rfl⟩ : ∃ p1 p2, post = p1 ++ p2 ∧ p1.length = s := ⟨post.take s, post.drop s, (List.take_append_drop s post).symm, by rw [List.length_take]; omega⟩
  rw [List.drop_left, List.take_left] at *
  have hLx : L = (pre ++ x1) ++ (x2 ++ p1) ++ p2 := by rw [hL]; simp [List.append_assoc]
  have e3 : L.drop (pre.length + x1.length + p1.length + x2.length) = p2 := by
    rw [hLx, List.drop_left' (by simp; omega)]
  obtain ⟨y, hy, hyl⟩ : ∃ y, L.take (pre.length + x1.length + p1.length) = pre ++ x1 ++ y ∧ y.length = p1.length := by
    refine ⟨(x2 ++ p1).take p1.length, ?_, by rw [List.length_take, List.length_append]; omega⟩
    rw [hLx, List.append_assoc, List.take_append, List.take_of_length_le (by simp), List.length_append, show pre.length + x1.length + p1.length - (pre.length + x1.length) = p1.length by omega, List.take_append_of_le_length (by simp)]
  rw [hy, e3] at hL1
  refine ⟨?_, by rw [hL1, hL]; simp [hyl]; omega⟩
  rw [hL1, hs]
  have t1 : (pre ++ x1 ++ y ++ x2 ++ p2).take (pre.length + x1.length) = pre ++ x1 := by
    rw [show pre ++ x1 ++ y ++ x2 ++ p2 = (pre ++ x1) ++ (y ++ x2 ++ p2) by simp [List.append_assoc]]
    exact List.take_left' (by simp)
  have t2 : (pre ++ x1 ++ y ++ x2 ++ p2).drop (pre.length + x1.length + p1.length) = x2 ++ p2 := by
    rw [show pre ++ x1 ++ y ++ x2 ++ p2 = (pre ++ x1 ++ y) ++ (x2 ++ p2) by simp [List.append_assoc]]
    exact List.drop_left' (by simp [hyl]; omega)
  rw [t1, t2, List.drop_left]
  simp [List.append_assoc]
theorem ins_inserted {α : Type} {d : Kd α} {e : Nat} {W w1 : World} {base i : Nat} {ok okp : Nat → Prop} {v v1 : Value} {xs : List α} {p : α} {inner cs : List Value} (h0 : ∀ k, v.ownBlock = some k → ok k) (hr : Reps (d.M W base (fun k => ok k ∧ some k ≠ v.ownBlock)) d.sz xs inner)
    (hp : d.M W base okp p cs) (hokp : ∀ k, okp k → ok k ∧ some k ≠ v.ownBlock) (hfresh : ∀ k, W.heap.size ≤ k → ok k) (hi : i ≤ xs.length)
    (hown : QRow w1 base e d.sz v1 (xs.length + 1) (inner.take (i * d.sz) ++ cs ++ inner.drop (i * d.sz))) (hg : W.grownBy w1 v.ownBlock) (hat : v1.ownBlock = v.ownBlock ∨ ∃ b, v1.ownBlock = some b ∧ W.heap.size ≤ b) :
    d.Q e w1 base ok v1 (xs.take i ++ [p] ++ xs.drop i) := by
  have hne : ∀ k, some k ≠ v.ownBlock → k < W.heap.size → some k ≠ v1.ownBlock := by
    intro k hk hlt
    rcases hat with hat | ⟨b, hb, hle⟩
    · rw [hat]; exact hk
    · rw [hb]; intro he; injection he with he; omega
  have step : ∀ {q : α} {c : List Value} {o : Nat → Prop}, d.M W base o q c → (∀ k, o k → ok k ∧ some k ≠ v.ownBlock) → d.M w1 base (fun k => ok k ∧ some k ≠ v1.ownBlock) q c := by
    intro q c o hq ho
    have h1 := d.M_move (w1 := w1) (fun k hk => hg.block k hk.2.2.1 (ho k hk.1).2) (d.M_bound hq)
    exact d.M_mono (fun k hk => ⟨(ho k hk.1).1, hne k (ho k hk.1).2 hk.2.2.1⟩) h1
  have hr' := hr.imp_ (R' := d.M w1 base (fun k => ok k ∧ some k ≠ v1.ownBlock)) (fun _ _ hq => step hq (fun _ hk => hk))
  refine ⟨fun k hk => ?_, _, by rw [show (xs.take i ++ [p] ++ xs.drop i).length = xs.length + 1 by simp; omega]; exact hown, ?_⟩
  · rcases hat with hat | ⟨b, hb, hle⟩
    · exact h0 k (hat ▸ hk)
    · rw [hb] at hk; injection hk with hk; exact hfresh k (by omega)
  · exact Kd.reps_append ((Kd.reps_take hr' hi).snoc (step hp hokp) (d.K_len (d.K_of_M hp))) (Kd.reps_drop hr')
set_option maxHeartbeats 4000000 in
set_option maxRecDepth 100000 in
theorem impl_Early_98.shift (b off n c i vb voff m vc : Nat) (cur vcur : Array Value) (cs vs : List Value) (w : World) (hi : i < n) (hm : 0 < m) (hroom : n + m ≤ c) (hc63 : c ≤ 9223372036854775807) (hvb : vb ≠ b)
    (hg : w.heap[b]? = some (.cells cur 96 (0, 0))) (hv : w.heap[vb]? = some (.cells vcur 96 (0, 0))) (hcur : off + c * 2 ≤ cur.size) (hcs : (cur.toList.drop off).take (n * 2) = cs) (hvl : vs.length = m * 2)
    (hvs : ∀ j v, vs[j]? = some v → w.cell? ⟨vb, voff + j, none⟩ = some v) (h1c : ∀ v ∈ cs, v.oneCell' = true) (h1v : ∀ v ∈ vs, v.oneCell' = true) :
    Calls Try.prog 98 #[.slice (some ⟨b, off, none⟩) n c, .int .i64 i, .slice (some ⟨vb, voff, none⟩) m vc] w fun e w' =>
      e = .returned (.slice (some ⟨b, off, none⟩) (n + m) c) ∧ ∃ A : Array Value, w' = w.drew.setRow b A ∧ A.size = cur.size ∧ A.toList = cur.toList.take off ++ cs.take (i * 2) ++ vs ++ cs.drop (i * 2) ++ (cur.toList.drop (off + n * 2)).drop (m * 2) := by
  have t46 := Try.underlying46
  obtain ⟨i0, hi0, hz0, hz1, hz2⟩ := info_parts info96
  have hsz : (Try.prog.info? 96).map (·.size) = some 2 := by rw [hi0]; simp [hz1]
  have hso : ∀ w, (sizeOf 96).run Try.prog w = .ok 2 w := fun w => by simp [sizeOf, typeInfo, hi0, hz1]
  have hcsl : cs.length = n * 2 := by rw [← hcs, List.length_take, List.length_drop, Array.length_toList]; omega
  have hp1 : ¬ ((m : Int) = 0) := by omega
  have hp2 : ¬ ((i : Int) = (n : Int)) := by omega
  have hov : ∀ lb cb, (callFunc 106 #[.slice (some ⟨vb, voff, none⟩) m vc, .slice (some ⟨b, off + (i + m) * 2, none⟩) lb cb]).run Try.prog w = .ok (.value (.bool false)) w := fun lb cb => by
    rw [run_callFunc_extern Try.func106 (by kernel_rfl) (by kernel_rfl) (by kernel_rfl) (e := Extern.SlicesOverlaps.overlaps #[46, 46] #[4]) (by kernel_rfl),
      Lib.run_overlaps_apart w 46 4 96 t46 2 hso ⟨vb, voff, none⟩ ⟨b, off + (i + m) * 2, none⟩ m vc lb cb hvb 96 96 vcur.size cur.size (by simp [World.shape?, hv]) (by simp [World.shape?, hg]) (by omega) (blk_frozen hv _) (blk_frozen hv _)]
    rfl
  have hdl : (cs.drop (i * 2)).length = (n - i) * 2 := by rw [List.length_drop, hcsl, Nat.sub_mul]
  have hgd : w.drew.heap[b]? = some (.cells cur 96 (0, 0)) := hg
  obtain ⟨A1, hA1⟩ : ∃ A1 : Array Value, A1 = (cur.toList.take (off + (i + m) * 2) ++ cs.drop (i * 2) ++ cur.toList.drop (off + (i + m) * 2 + (cs.drop (i * 2)).length)).toArray := ⟨_, rfl⟩
  have hsrc : ∀ j v, (cs.drop (i * 2))[j]? = some v → w.drew.cell? ((⟨b, off + i * 2, none⟩ : Addr).add j) = some v := fun j v hj => by
    rw [Addr.add_lit, cell_of_row w.drew b _ cur 96 (0, 0) hgd]
    rw [List.getElem?_drop, ← hcs] at hj
    have hlt : i * 2 + j < n * 2 := by
      have := (List.getElem?_eq_some_iff.1 hj).1
      rw [List.length_take] at this; omega
    rw [List.getElem?_take_of_lt hlt, List.getElem?_drop] at hj
    rw [← Array.getElem?_toList, show off + i * 2 + j = off + (i * 2 + j) by omega]
    exact hj
  have hcp1 : ∀ ty dc sc, (Builtin.copy_ #[46, 46] ty #[.slice (some ⟨b, off + (i + m) * 2, none⟩) (n + m - (i + m)) dc, .slice (some ⟨b, off + i * 2, none⟩) (n + m - i) sc]).run Try.prog w.drew = .ok (goInt ((n - i : Nat) : Int)) (w.drew.setRow b A1) := fun ty dc sc => by
    rw [hA1]
    exact ins_copy_sz w.drew 46 46 ty 96 b (off + (i + m) * 2) (n + m - (i + m)) dc ⟨b, off + i * 2, none⟩ (n + m - i) sc cur 96 (cs.drop (i * 2)) 2 (n - i) t46 hsz hgd (by simp only [Nat.min_def]; split <;> omega) hdl hsrc (by rw [hdl]; omega) (fun v hv => h1c v (List.mem_of_mem_drop hv))
  obtain ⟨hl2, hl1⟩ := ins_list (cur.toList.take off) cs (cur.toList.drop (off + n * 2)) vs (i * 2) (m * 2) (by omega) hvl (by rw [List.length_drop, Array.length_toList]; omega) cur.toList A1.toList
    (by rw [← hcs, ← List.drop_drop, List.append_assoc, List.take_append_drop, List.take_append_drop]) (by
      have hpl : (cur.toList.take off).length = off := by rw [List.length_take, Array.length_toList]; omega
      rw [hA1, hpl, show off + i * 2 + m * 2 = off + (i + m) * 2 by omega])
  have hpl : (cur.toList.take off).length = off := by rw [List.length_take, Array.length_toList]; omega
  rw [hpl] at hl2
  have hg1 : (w.drew.setRow b A1).heap[b]? = some (.cells A1 96 (0, 0)) := setRow_heap w.drew b cur A1 96 (0, 0) hgd
  obtain ⟨A2, hA2⟩ : ∃ A2 : Array Value, A2 = (A1.toList.take (off + i * 2) ++ vs ++ A1.toList.drop (off + i * 2 + vs.length)).toArray := ⟨_, rfl⟩
  have hcp2 : ∀ ty dc, (Builtin.copy_ #[46, 46] ty #[.slice (some ⟨b, off + i * 2, none⟩) (n + m - i) dc, .slice (some ⟨vb, voff, none⟩) m vc]).run Try.prog (w.drew.setRow b A1) = .ok (goInt (m : Int)) ((w.drew.setRow b A1).setRow b A2) := fun ty dc => by
    rw [hA2]
    exact ins_copy_sz _ 46 46 ty 96 b (off + i * 2) (n + m - i) dc ⟨vb, voff, none⟩ m vc A1 96 vs 2 m t46 hsz hg1 (by simp only [Nat.min_def]; split <;> omega) hvl
      (fun j v hj => by
        rw [Addr.add_lit]
        refine Eq.trans ?_ (hvs j v hj)
        show World.cell? (w.drew.setRow b A1) ⟨vb, voff + j, none⟩ = _
        unfold World.cell? World.setRow
        simp [Array.getElem?_modify, Ne.symm hvb]
        rfl) (by rw [hvl]; have : A1.size = cur.size := by simpa using hl1
                 omega) h1v
  have hfin : A2.size = cur.size := by
    have h1 : A1.size = cur.size := by simpa using hl1
    rw [hA2]; simp; omega
  have hfin2 : A2.toList = cur.toList.take off ++ cs.take (i * 2) ++ vs ++ cs.drop (i * 2) ++ (cur.toList.drop (off + n * 2)).drop (m * 2) := by rw [hA2]; exact hl2
  have HF := Aside0.mk hfin
  have HF2 := Aside0.mk hfin2
  have hw1 : IntKind.i64.wrap ((i : Int) + (m : Int)) = (i : Int) + (m : Int) := by rw [IntKind.wrap_i64]; omega
  have hb1 : (0 : Int) ≤ (i : Int) + (m : Int) := by omega
  have hin : i ≤ n := by omega
  have htn : ((i : Int) + (m : Int)).toNat = i + m := by omega
  have hb2 : ¬ (c = i + m) := by omega
  have hb3 : (i : Int) ≤ (n : Int) + (m : Int) := by omega
  have hb4 : ¬ (c = i) := by omega
  clear hfin hfin2 hl1 hl2 hg1 hgd hsrc hg hv hcur hcs hvl hvs h1c h1v hA1 hA2 hdl hcsl hpl hso hsz
  go_enter Try.func98, Try.ntmps98
  go_wp2_with (simp only [hov])
  go_region_law (refine step_copy_runI rfl _ _ 46 46 rfl _ _ (by simp [Act.eval, Act.put]) (by simp [Act.eval, Act.put]) (hcp1 _ _ _) ?_)
  go_wp2_with (at_builtin; refine wpList_copy_runI _ rfl _ _ 46 46 rfl _ _ rfl rfl (hcp2 _ _) ?_)
  go_ret
  exact ⟨rfl, A2, by rw [setRow_setRow], HF.out, HF2.out⟩
set_option maxHeartbeats 4000000 in
set_option maxRecDepth 100000 in
theorem impl_Early_98.grow (b off n c i vb voff m vc : Nat) (cur vcur : Array Value) (cs vs : List Value) (w : World) (hi : i < n) (hm : 0 < m) (hnc : n ≤ c) (hroom : c < n + m) (hbig : (n + m) * 16 ≤ 140737488355328)
    (hg : w.heap[b]? = some (.cells cur 96 (0, 0))) (hv : w.heap[vb]? = some (.cells vcur 96 (0, 0))) (hcur : off + c * 2 ≤ cur.size) (hcs : (cur.toList.drop off).take (n * 2) = cs) (hvl : vs.length = m * 2)
    (hvs : ∀ j v, vs[j]? = some v → w.cell? ⟨vb, voff + j, none⟩ = some v) (h1c : ∀ v ∈ cs, v.oneCell' = true) (h1v : ∀ v ∈ vs, v.oneCell' = true) :
    Calls Try.prog 98 #[.slice (some ⟨b, off, none⟩) n c, .int .i64 i, .slice (some ⟨vb, voff, none⟩) m vc] w fun e w' =>
      ∃ (N cap : Nat) (A0 A : Array Value), e = .returned (.slice (some ⟨N, 0, none⟩) (n + m) cap) ∧ N = w.heap.size ∧ w' = ((w.alloc (.cells A0 96)).drew.drew.setRow N A) ∧ n + m ≤ cap ∧ cap ≤ maxLen ∧ A.size = cap * 2 ∧ A.toList.take ((n + m) * 2) = cs.take (i * 2) ++ vs ++ cs.drop (i * 2) := by
  have t46 := Try.underlying46
  have t3 := Try.underlying3
  obtain ⟨i0, hi0, hz0, hz1, hz2⟩ := info_parts info96
  have hsz : (Try.prog.info? 96).map (·.size) = some 2 := by rw [hi0]; simp [hz1]
  have hcsl : cs.length = n * 2 := by rw [← hcs, List.length_take, List.length_drop, Array.length_toList]; omega
  have hp1 : ¬ ((m : Int) = 0) := by omega
  have hp2 : ¬ ((i : Int) = (n : Int)) := by omega
  have hp3 : ¬ ((n : Int) + (m : Int) ≤ (c : Int)) := by omega
  have hp4 : (c : Int) < (n : Int) + (m : Int) := by omega
  obtain ⟨k, hik⟩ : ∃ k, i + k = n + m := ⟨n + m - i, by omega⟩
  have hk0 : 0 < k := by omega
  have hkI : (n : Int) + (m : Int) - (i : Int) = (k : Int) := by omega
  have hgd : w.drew.heap[b]? = some (.cells cur 96 (0, 0)) := hg
  have cellb : ∀ (W : World), W.heap[b]? = some (.cells cur 96 (0, 0)) → ∀ j v, cs[j]? = some v → W.cell? ⟨b, off + j, none⟩ = some v := fun W hW j v hj => by
    rw [cell_of_row W b _ cur 96 (0, 0) hW]
    rw [← hcs] at hj
    have hlt : j < n * 2 := by
      have := (List.getElem?_eq_some_iff.1 hj).1
      rw [List.length_take] at this; omega
    rw [List.getElem?_take_of_lt hlt, List.getElem?_drop] at hj
    rw [← Array.getElem?_toList]
    exact hj
  obtain ⟨N, hN⟩ : ∃ N, N = w.heap.size := ⟨_, rfl⟩
  have hbN : b ≠ N := by have := (Array.getElem?_eq_some_iff.1 hg).1; omega
  have hvN : vb ≠ N := by have := (Array.getElem?_eq_some_iff.1 hv).1; omega
  obtain ⟨cap, hcap⟩ : ∃ cap, cap = grownCap w (i + k) c 96 := ⟨_, rfl⟩
  have hcge : n + m ≤ cap := by rw [hcap, ← hik]; exact grownCap_ge w (i + k) c 96
  have hcmx : cap ≤ maxLen := by rw [hcap]; exact grownCap_le_maxLen w (i + k) c 96 (by rw [hik]; simp only [maxLen]; omega)
  obtain ⟨z, hz⟩ : ∃ z : Value, z = (.agg #[(.int .i64 0), (.int .u8 0)]) := ⟨_, rfl⟩
  rw [← hz] at hz0
  obtain ⟨A0, hA0⟩ : ∃ A0, A0 = (cs.take (i * 2)).toArray ++ Builtin.zeroCells z.cells k ++ Builtin.zeroCells z.cells (cap - (i + k)) := ⟨_, rfl⟩
  have hzs : z.cells.size = 2 := by rw [hz]; rfl
  have hA0s : A0.size = cap * 2 := by
    rw [hA0]; simp only [Array.size_append, List.size_toArray, List.length_take, hcsl, size_zeroCells, hzs]; omega
  have hap : ∀ ty kx, (Builtin.append_ #[46, 3] ty #[.slice (some ⟨b, off, none⟩) i c, .int kx (k : Int)]).run Try.prog w = .ok (.slice (some ⟨N, 0, none⟩) (n + m) cap) (w.alloc (.cells A0 96)).drew := fun ty kx => by
    refine Eq.trans ?_ (show _ = Result.ok (Value.slice (some ⟨N, 0, none⟩) (n + m) cap) (w.drew.alloc (.cells A0 96)) from rfl)
    rw [ins_zeros_grow w 46 3 ty 96 i0 z 2 16 t46 t3 hi0 hz0 hz1 hz2 hzs (by omega) (by omega) kx i k c (some ⟨b, off, none⟩) (cs.take (i * 2)) hk0 (by rw [hik]; exact hbig) (by omega)
      (by rw [hz1]; exact run_firstCells_some (P := Try.prog) w.drew 2 i _ i c (cs.take (i * 2)) (by rw [List.length_take]; omega) (fun j v hj => by
        rw [Addr.add_lit]
        refine cellb w.drew hgd j v ?_
        rw [List.getElem?_take] at hj; split at hj
        · exact hj
        · cases hj)), ← hcap, ← hA0, ← hN, hik]
  have ha0 : ((w.alloc (.cells A0 96)).drew).heap[N]? = some (.cells A0 96 (0, 0)) := by rw [hN]; exact heap_alloc_new w _
  have haOld : ∀ k', k' ≠ N → k' < w.heap.size → (w.alloc (.cells A0 96)).drew.heap[k']? = w.heap[k']? := fun k' hk' hlt => heap_alloc_old w _ hlt
  have hbl : b < w.heap.size := (Array.getElem?_eq_some_iff.1 hg).1
  have hvl' : vb < w.heap.size := (Array.getElem?_eq_some_iff.1 hv).1
  obtain ⟨A1, hA1⟩ : ∃ A1 : Array Value, A1 = (A0.toList.take (i * 2) ++ vs ++ A0.toList.drop (i * 2 + vs.length)).toArray := ⟨_, rfl⟩
  have hcp1 : ∀ ty dc, (Builtin.copy_ #[46, 46] ty #[.slice (some ⟨N, i * 2, none⟩) (n + m - i) dc, .slice (some ⟨vb, voff, none⟩) m vc]).run Try.prog (w.alloc (.cells A0 96)).drew = .ok (goInt (m : Int)) ((w.alloc (.cells A0 96)).drew.setRow N A1) := fun ty dc => by
    rw [hA1]
    exact ins_copy_sz _ 46 46 ty 96 N (i * 2) (n + m - i) dc ⟨vb, voff, none⟩ m vc A0 96 vs 2 m t46 hsz ha0 (by simp only [Nat.min_def]; split <;> omega) hvl
      (fun j v hj => by
        rw [Addr.add_lit]
        refine Eq.trans ?_ (hvs j v hj)
        unfold World.cell?
        rw [haOld vb hvN hvl']) (by rw [hvl, hA0s]; omega) h1v
  have hA1s : A1.size = cap * 2 := by rw [hA1]; simp [hA0s, hvl]; omega
  have ha1 : (((w.alloc (.cells A0 96)).drew.setRow N A1).drew).heap[N]? = some (.cells A1 96 (0, 0)) := setRow_heap _ N A0 A1 96 (0, 0) ha0
  have haB : (((w.alloc (.cells A0 96)).drew.setRow N A1).drew).heap[b]? = some (.cells cur 96 (0, 0)) := by
    show ((w.alloc (.cells A0 96)).drew.setRow N A1).heap[b]? = _
    unfold World.setRow
    simp only [Array.getElem?_modify, if_neg (Ne.symm hbN)]
    rw [haOld b hbN hbl]; exact hg
  have hdl : (cs.drop (i * 2)).length = (n - i) * 2 := by rw [List.length_drop, hcsl, Nat.sub_mul]
  obtain ⟨A2, hA2⟩ : ∃ A2 : Array Value, A2 = (A1.toList.take ((i + m) * 2) ++ cs.drop (i * 2) ++ A1.toList.drop ((i + m) * 2 + (cs.drop (i * 2)).length)).toArray := ⟨_, rfl⟩
  have hcp2 : ∀ ty dc sc, (Builtin.copy_ #[46, 46] ty #[.slice (some ⟨N, (i + m) * 2, none⟩) (n + m - (i + m)) dc, .slice (some ⟨b, off + i * 2, none⟩) (n - i) sc]).run Try.prog ((w.alloc (.cells A0 96)).drew.setRow N A1).drew = .ok (goInt ((n - i : Nat) : Int)) (((w.alloc (.cells A0 96)).drew.setRow N A1).drew.setRow N A2) := fun ty dc sc => by
    rw [hA2]
    exact ins_copy_sz _ 46 46 ty 96 N ((i + m) * 2) (n + m - (i + m)) dc ⟨b, off + i * 2, none⟩ (n - i) sc A1 96 (cs.drop (i * 2)) 2 (n - i) t46 hsz ha1 (by simp only [Nat.min_def]; split <;> omega) hdl
      (fun j v hj => by
        rw [Addr.add_lit, Nat.add_assoc]
        exact cellb _ haB (i * 2 + j) v (by rwa [List.getElem?_drop] at hj)) (by rw [hdl, hA1s]; omega) (fun v hv => h1c v (List.mem_of_mem_drop hv))
  have hfin : A2.size = cap * 2 := by rw [hA2]; simp [hA1s, hdl]; omega
  have hfin2 : A2.toList.take ((n + m) * 2) = cs.take (i * 2) ++ vs ++ cs.drop (i * 2) := by
    have e0 : A0.toList.take (i * 2) = cs.take (i * 2) := by
      rw [hA0]; simp only [Array.toList_append, List.append_assoc]
      exact List.take_left' (by rw [List.length_take]; omega)
    have e1 : A1.toList.take ((i + m) * 2) = cs.take (i * 2) ++ vs := by
      rw [hA1, e0]
      exact List.take_left' (by rw [List.length_append, List.length_take, hvl]; omega)
    rw [hA2, e1]
    exact List.take_left' (by rw [List.length_append, List.length_append, List.length_take, hvl, hdl]; omega)
  have HF := Aside0.mk hfin
  have HF2 := Aside0.mk hfin2
  have HC := Aside0.mk hcge
  have HCM := Aside0.mk hcmx
  have HN := Aside0.mk hN
  have hw1 : IntKind.i64.wrap ((i : Int) + (m : Int)) = (i : Int) + (m : Int) := by rw [IntKind.wrap_i64]; omega
  have hb1 : (0 : Int) ≤ (i : Int) + (m : Int) := by omega
  have hin : i ≤ n := by omega
  have hinm : i ≤ n + m := by omega
  have hic : i ≤ c := by omega
  have htn : ((i : Int) + (m : Int)).toNat = i + m := by omega
  have hb2 : ¬ (cap = i + m) := by omega
  have hb3 : (i : Int) + (m : Int) ≤ (n : Int) + (m : Int) := by omega
  have hb4 : ¬ (c = i) := by omega
  have hb5 : ¬ (cap = i) := by omega
  have hb6 : (i : Int) ≤ (n : Int) + (m : Int) := by omega
  have hb7 : (n : Int) + (m : Int) ≤ (cap : Int) := by omega
  clear hfin hfin2 hg hv hcur hcs hvl hvs h1c h1v hA1 hA2 hA0 hdl hcsl hsz ha0 ha1 haB haOld hbl hvl' hcge hcmx hA0s hA1s hN hcap hz hz0 hzs hgd cellb hik hk0
  go_enter Try.func98, Try.ntmps98
  go_wp2_with (first | (at_builtin; refine Lib.wpList_append_run _ rfl _ _ 46 3 rfl _ _ rfl rfl _ _ (hap _ _) ?_) | (refine wpList_copy_runI _ rfl _ _ 46 46 rfl _ _ rfl rfl (hcp1 _ _) ?_))
  go_region_law (refine step_copy_runI rfl _ _ 46 46 rfl _ _ (by simp [Act.eval, Act.put]) (by simp [Act.eval, Act.put]) (hcp2 _ _ _) ?_)
  go_wp2
  go_ret
  exact ⟨N, cap, A0, A2, rfl, HN.out, (setRow_setRow ((w.alloc (.cells A0 96)).drew.drew) N A1 A2), HC.out, HCM.out, HF.out, HF2.out⟩
set_option maxHeartbeats 4000000 in
set_option maxRecDepth 100000 in
theorem impl_Early_98.last (A : Option Addr) (n c vb vc : Nat) (w w1 : World) (v1 : Value) (hnc : n ≤ c)
    (hap : ∀ ty, (Builtin.append_ #[46, 46] ty #[.slice A n c, .slice (some ⟨vb, 0, none⟩) 1 vc]).run Try.prog w = .ok v1 w1) :
    Calls Try.prog 98 #[.slice A n c, .int .i64 n, .slice (some ⟨vb, 0, none⟩) 1 vc] w fun e w' => e = .returned v1 ∧ w' = w1 := by
  have t46 := Try.underlying46
  obtain ⟨i0, hi0, hz0, hz1, hz2⟩ := info_parts info96
  rcases A with _ | ⟨b, off, pth⟩ <;> (by_cases hcn : c = n)
  all_goals (try subst hcn)
  all_goals go_enter Try.func98, Try.ntmps98
  all_goals go_wp2_with (first | (at_builtin; refine Lib.wpList_append_run _ rfl _ _ 46 46 rfl _ _ rfl rfl _ _ (hap _) ?_))
  all_goals go_ret
  all_goals exact ⟨rfl, rfl⟩
set_option maxHeartbeats 1000000 in
theorem impl_Early_98.Q {α : Type} (d : Kd α) (hd : d.sz = 2) {w0 W : World} (base : Nat) (v : Value) (xs : List α) (p : α) (cs : List Value) (ok okp : Nat → Prop) (i : Nat) (hi : i ≤ xs.length) (hp : d.M W base okp p cs) (hokp : ∀ k, okp k → ok k ∧ some k ≠ v.ownBlock) (hfresh : ∀ k, W.heap.size ≤ k → ok k)
    (HO : d.Q 96 W base ok v xs) (HB : Below base w0 W) (hbase : base ≤ W.heap.size) (hl : (xs.length + 1) * 16 ≤ 140737488355328) :
    Calls Try.prog 98 #[v, .int .i64 i, .slice (some ⟨W.heap.size, 0, none⟩) 1 1] (W.alloc (.cells cs.toArray 96)) fun e w' =>
      ∃ v1, e = .returned v1 ∧ d.Q 96 w' base ok v1 (xs.take i ++ [p] ++ xs.drop i) ∧ Below base w0 w' ∧ W.grownBy w' v.ownBlock ∧ (v1.ownBlock = v.ownBlock ∨ ∃ b, v1.ownBlock = some b ∧ W.heap.size ≤ b) := by
  have hqb : ∀ k, v.ownBlock = some k → base ≤ k := Kd.Q_base HO
  by_cases hin : i < xs.length
  · have HO' := HO
    obtain ⟨h0, inner, hown, hr⟩ := HO
    have hcl : cs.length = 1 * 2 := by rw [d.K_len (d.K_of_M hp), hd]
    have h1s := d.K_one (d.K_of_M hp)
    have h1c : ∀ u ∈ inner, u.oneCell' = true := Kd.reps_one hr (by omega) (fun _ _ h => d.K_one (d.K_of_M h))
    rw [hd] at hown
    have hown' := hown
    rcases hown.2 with ⟨hn0, _⟩ | ⟨g, off, cap, cur, rfl, hb, hh, hnc, hmx, hsz, htk⟩
    · omega
    have hgl := blk_lt hh
    have hne : W.heap.size ≠ g := by omega
    have hh2 : (W.alloc (.cells cs.toArray 96)).heap[g]? = some (.cells cur 96 (0, 0)) := by rw [heap_alloc_old W _ hgl]; exact hh
    have hv2 : (W.alloc (.cells cs.toArray 96)).heap[W.heap.size]? = some (.cells cs.toArray 96 (0, 0)) := heap_alloc_new W _
    have hvs : ∀ j u, cs[j]? = some u → (W.alloc (.cells cs.toArray 96)).cell? ⟨W.heap.size, 0 + j, none⟩ = some u := fun j u hj => by
      rw [cell_of_row _ _ _ _ _ _ hv2, ← Array.getElem?_toList, Nat.zero_add]; exact hj
    have hmx' : off + cap ≤ 9223372036854775807 := by have := hmx; simp only [maxLen] at this; omega
    by_cases hroom : xs.length + 1 ≤ cap
    · have hc := impl_Early_98.shift g (off * 2) xs.length cap i W.heap.size 0 1 1 cur cs.toArray inner cs (W.alloc (.cells cs.toArray 96)) hin (by omega) hroom (by omega) hne hh2 hv2 (by omega) htk hcl hvs h1c h1s
      refine Calls.mono hc ?_
      rintro e w' ⟨rfl, A, rfl, hA1, hA2⟩
      have hg : W.grownBy ((W.alloc (.cells cs.toArray 96)).drew.setRow g A) (Value.slice (some ⟨g, off * 2, none⟩) xs.length cap).ownBlock := by
        refine ⟨rfl, rfl, rfl, ?_, fun k hk hkne => ?_⟩
        · show W.heap.size ≤ ((W.alloc (.cells cs.toArray 96)).heap.modify g _).size
          rw [Array.size_modify]; exact Nat.le_trans (Nat.le_succ _) (Nat.le_of_eq (World.size_alloc W _).symm)
        · have hkg : ¬ g = k := fun he => hkne (by rw [he]; rfl)
          show ((W.alloc (.cells cs.toArray 96)).heap.modify g _)[k]? = _
          rw [Array.getElem?_modify, if_neg hkg]
          exact heap_alloc_old W _ hk
      refine ⟨_, rfl, ?_, HB.grown hg hbase (fun k hk => hqb k hk), hg, .inl rfl⟩
      refine ins_inserted h0 hr hp hokp hfresh hi ?_ hg (.inl rfl)
      rw [hd]
      refine ⟨by simp [hown.1, hcl]; omega, .inr ⟨g, off, cap, A, rfl, hb, setRow_heap _ g cur A 96 (0, 0) hh2, hroom, hmx, by omega, ?_⟩⟩
      have hpl : (cur.toList.take (off * 2)).length = off * 2 := by rw [List.length_take, Array.length_toList]; omega
      have hil := hown.1
      rw [hA2, List.append_assoc, List.append_assoc, List.append_assoc, List.drop_left' hpl, ← List.append_assoc, ← List.append_assoc]
      exact List.take_left' (by simp [hil, hcl]; omega)
    · have hc := impl_Early_98.grow g (off * 2) xs.length cap i W.heap.size 0 1 1 cur cs.toArray inner cs (W.alloc (.cells cs.toArray 96)) hin (by omega) hnc (by omega) hl hh2 hv2 (by omega) htk hcl hvs h1c h1s
      refine Calls.mono hc ?_
      rintro e w' ⟨N, cp, A0, A, rfl, hN, rfl, hcp1, hcp2, hA1, hA2⟩
      have hNs : N = W.heap.size + 1 := by rw [hN]; exact World.size_alloc W _
      have hNh : ((W.alloc (.cells cs.toArray 96)).alloc (.cells A0 96)).heap[N]? = some (.cells A0 96 (0, 0)) := by rw [hN]; exact heap_alloc_new _ _
      have hg : W.grownBy (((W.alloc (.cells cs.toArray 96)).alloc (.cells A0 96)).drew.drew.setRow N A) (Value.slice (some ⟨g, off * 2, none⟩) xs.length cap).ownBlock := by
        refine ⟨rfl, rfl, rfl, ?_, fun k hk hkne => ?_⟩
        · show W.heap.size ≤ (((W.alloc (.cells cs.toArray 96)).alloc (.cells A0 96)).heap.modify N _).size
          rw [Array.size_modify, World.size_alloc, World.size_alloc]; omega
        · have hkN : ¬ N = k := by omega
          show (((W.alloc (.cells cs.toArray 96)).alloc (.cells A0 96)).heap.modify N _)[k]? = _
          rw [Array.getElem?_modify, if_neg hkN, heap_alloc_old (W.alloc (.cells cs.toArray 96)) _ (by rw [World.size_alloc]; omega)]
          exact heap_alloc_old W _ hk
      have hat : (Value.slice (some ⟨N, 0, none⟩) (xs.length + 1) cp).ownBlock = (Value.slice (some ⟨g, off * 2, none⟩) xs.length cap).ownBlock ∨ ∃ b, (Value.slice (some ⟨N, 0, none⟩) (xs.length + 1) cp).ownBlock = some b ∧ W.heap.size ≤ b := .inr ⟨N, rfl, by omega⟩
      refine ⟨_, rfl, ?_, HB.grown hg hbase (fun k hk => hqb k hk), hg, hat⟩
      refine ins_inserted h0 hr hp hokp hfresh hi ?_ hg hat
      rw [hd]
      refine ⟨by simp [hown.1, hcl]; omega, .inr ⟨N, 0, cp, A, by rw [Nat.zero_mul], by omega, setRow_heap _ N A0 A 96 (0, 0) hNh, hcp1, by rw [Nat.zero_add]; exact hcp2, by rw [Nat.zero_add, hA1]; omega, ?_⟩⟩
      rw [Nat.zero_mul, List.drop_zero, hA2]
  · obtain rfl : i = xs.length := by omega
    obtain ⟨A, c, rfl, hxc⟩ := Kd.Q_slice HO
    have hA : A = none → xs.length = c := by
      intro hAn
      obtain ⟨h0, inner, hown, hr⟩ := HO
      rcases hown.2 with ⟨hn0, A', he, _⟩ | ⟨g, off, cap, cur, he, _⟩
      · simp only [Value.slice.injEq] at he; omega
      · simp only [Value.slice.injEq] at he; rw [hAn] at he; exact absurd he.1 (by simp)
    have hinfo : (Try.prog.info? 96).map (fun i => (i.zero, i.size, i.bytes)) = some (some ((.agg #[(.int .i64 0), (.int .u8 0)])), d.sz, 16) := by rw [hd]; exact info96
    obtain ⟨v1, w1, hr, h1, h2, h3, h4⟩ := Kd.Q_run (P := Try.prog) d base 46 46 96 _ 16 Try.underlying46 hinfo (by rw [hd]; rfl) (by omega) (by omega) _ xs p cs ok okp hp hokp hfresh HO HB hbase hl
    refine Calls.mono (impl_Early_98.last A xs.length c W.heap.size 1 _ w1 v1 hxc (fun ty => ?_)) ?_
    · obtain ⟨v1', w1', hr', _⟩ := Kd.Q_run (P := Try.prog) d base 46 ty 96 _ 16 Try.underlying46 hinfo (by rw [hd]; rfl) (by omega) (by omega) _ xs p cs ok okp hp hokp hfresh HO HB hbase hl
      exact hr
    · rintro e w' ⟨rfl, rfl⟩
      refine ⟨_, rfl, ?_, h2, h3, h4⟩
      rw [List.take_of_length_le (Nat.le_refl _), List.drop_of_length_le (Nat.le_refl _), List.append_nil]
      exact h1
theorem impl_Early_98.calls {α : Type} (d : Kd α) (hd : d.sz = 2) {w0 W : World} (base : Nat) (v : Value) (xs : List α) (p : α) (cs : List Value) (ok okp : Nat → Prop) (ix : Int) (h0 : 0 ≤ ix) (h1 : ix ≤ (xs.length : Int)) (hp : d.M W base okp p cs) (hokp : ∀ k, okp k → ok k ∧ some k ≠ v.ownBlock) (hfresh : ∀ k, W.heap.size ≤ k → ok k)
    (HO : d.Q 96 W base ok v xs) (HB : Below base w0 W) (hbase : base ≤ W.heap.size) (hl : (xs.length + 1) * 16 ≤ 140737488355328) :
    Calls Try.prog 98 #[v, .int .i64 ix, .slice (some ⟨W.heap.size, 0, none⟩) 1 1] (W.alloc (.cells cs.toArray 96)) fun e w' =>
      ∃ v1, e = .returned v1 ∧ d.Q 96 w' base ok v1 (xs.take ix.toNat ++ [p] ++ xs.drop ix.toNat) ∧ Below base w0 w' ∧ W.grownBy w' v.ownBlock ∧ (v1.ownBlock = v.ownBlock ∨ ∃ b, v1.ownBlock = some b ∧ W.heap.size ≤ b) := by
  obtain ⟨i, rfl⟩ := Int.eq_ofNat_of_zero_le h0
  exact impl_Early_98.Q d hd base v xs p cs ok okp i (by omega) hp hokp hfresh HO HB hbase hl
mutual
def impl_Ear_hear.l0 : Nat → Int → List Int → Int → Int → Int → Int → List Int → List (S96) → Int → Int → List Int → List (S96) → Option (Int × Int × List Int × (List (S96)))
 | 0, _, _, _, _, _, _, _, _, _, _, _, _ => none
 | k + 1, x1, x15, x16, x17, x199000, x199001, x199002, x199003, x209000, x209001, x209002, x209003 => if x17 < x16 then (if 0 ≤ x17 then (if x17 < (x15.length : Int) then (if (wrap64 (x1 + x17)) < x199000 then (impl_Ear_hear.j1 k x1 (rd x15 x17) (wrap64 (x1 + x17)) x15 x16 x17 true x199000 x199001 x199002 x199003 x209000 x209001 x209002 x209003) else ((impl_Ear_free.f x199000 x199001 x199002 x199003).bind fun t210 => (impl_Ear_hear.j1 k x1 (rd x15 x17) (wrap64 (x1 + x17)) x15 x16 x17 (decide ((wrap64 (x1 + x17)) ≥ (wrap64 (x199000 + t210)))) x199000 x199001 x199002 x199003 x209000 x209001 x209002 x209003))) else (none)) else (none)) else (impl_Ear_hear.l1 k x209000 x209001 x209002 x209003)
def impl_Ear_hear.j1 : Nat → Int → Int → Int → List Int → Int → Int → Bool → Int → Int → List Int → List (S96) → Int → Int → List Int → List (S96) → Option (Int × Int × List Int × (List (S96)))
 | 0, _, _, _, _, _, _, _, _, _, _, _, _, _, _, _ => none
 | k + 1, x1, x9, x10, x15, x16, x17, x37, x199000, x199001, x199002, x199003, x209000, x209001, x209002, x209003 => if x37 = true then (impl_Ear_hear.l0 k x1 x15 x16 (wrap64 (x17 + 1)) x199000 x199001 x199002 x199003 x209000 x209001 x209002 x209003) else ((impl_Early_int.f k x209003 x10).bind fun bt211 => (if bt211.2 = true then (impl_Ear_hear.l0 k x1 x15 x16 (wrap64 (x17 + 1)) x199000 x199001 x199002 x199003 x209000 x209001 x209002 x209003) else (if 0 ≤ bt211.1 then (if bt211.1 ≤ (x209003.length : Int) then (if x209003.length < 8796093022208 then (impl_Ear_hear.l0 k x1 x15 x16 (wrap64 (x17 + 1)) x199000 x199001 x199002 x199003 x209000 x209001 x209002 (x209003.take (bt211.1 : Int).toNat ++ [(⟨x10, x9⟩ : S96)] ++ x209003.drop (bt211.1 : Int).toNat)) else (none)) else (none)) else (none))))
def impl_Ear_hear.l1 : Nat → Int → Int → List Int → List (S96) → Option (Int × Int × List Int × (List (S96)))
 | 0, _, _, _, _ => none
 | k + 1, x209000, x209001, x209002, x209003 => if (x209003.length : Int) > 0 then (if 0 < (x209003.length : Int) then (if ((rd_T96 x209003 0).f0) = x209000 then (if x209002.length < 140737488355328 then (if 1 ≤ (x209003.length : Int) then (impl_Ear_hear.l1 k (wrap64 (x209000 + 1)) x209001 (x209002 ++ [(rd_T96 x209003 0).f1]) (x209003.drop (1 : Int).toNat)) else (none)) else (none)) else ((impl_Ear_copy.f x209000 x209001 x209002 x209003).bind fun bt224 => (some (bt224.1, bt224.2.1, bt224.2.2.1, bt224.2.2.2)))) else (none)) else ((impl_Ear_copy.f x209000 x209001 x209002 x209003).bind fun bt232 => (some (bt232.1, bt232.2.1, bt232.2.2.1, bt232.2.2.2)))
end
def impl_Ear_hear.f (k : Nat) (a0_0 : Int) (a0_1 : Int) (l0_2 : List Int) (l0_3 : List (S96)) (a1 : Int) (l2 : List Int) : Option (Int × Int × List Int × (List (S96))) := (impl_Ear_copy.f a0_0 a0_1 l0_2 l0_3).bind fun bt200 => (impl_Ear_hear.l0 k a1 l2 (l2.length : Int) 0 a0_0 a0_1 l0_2 l0_3 bt200.1 bt200.2.1 bt200.2.2.1 bt200.2.2.2)
theorem impl_Ear_hear.mono_l : ∀ k, (∀ y0 y1 y2 y3 y4 y5 y6 y7 y8 y9 y10 y11, LeO (impl_Ear_hear.l0 k y0 y1 y2 y3 y4 y5 y6 y7 y8 y9 y10 y11) (impl_Ear_hear.l0 (k + 1) y0 y1 y2 y3 y4 y5 y6 y7 y8 y9 y10 y11)) ∧ (∀ y0 y1 y2 y3 y4 y5 y6 y7 y8 y9 y10 y11 y12 y13 y14, LeO (impl_Ear_hear.j1 k y0 y1 y2 y3 y4 y5 y6 y7 y8 y9 y10 y11 y12 y13 y14) (impl_Ear_hear.j1 (k + 1) y0 y1 y2 y3 y4 y5 y6 y7 y8 y9 y10 y11 y12 y13 y14)) ∧ (∀ y0 y1 y2 y3, LeO (impl_Ear_hear.l1 k y0 y1 y2 y3) (impl_Ear_hear.l1 (k + 1) y0 y1 y2 y3))
 | 0 => ⟨fun _ _ _ _ _ _ _ _ _ _ _ _ r h => by simp [impl_Ear_hear.l0] at h, fun _ _ _ _ _ _ _ _ _ _ _ _ _ _ _ r h => by simp [impl_Ear_hear.j1] at h, fun _ _ _ _ r h => by simp [impl_Ear_hear.l1] at h⟩
 | k + 1 => by
  obtain ⟨ih0, ih1, ih2⟩ := impl_Ear_hear.mono_l k
  refine ⟨?_, ?_, ?_⟩
  ·intro y0 y1 y2 y3 y4 y5 y6 y7 y8 y9 y10 y11
   unfold impl_Ear_hear.l0
   repeat' first | (with_reducible first | apply ih0 | apply ih1 | apply ih2 | apply impl_Early_int.mono | exact LeO.refl _ | exact LeO.none _ | refine LeO.ite ?_ ?_ | refine LeO.bind ?_ fun _ => ?_) | apply ih0 | apply ih1 | apply ih2 | apply impl_Early_int.mono | exact LeO.none _ | refine LeO.ite ?_ ?_ | refine LeO.bind ?_ fun _ => ?_
  ·intro y0 y1 y2 y3 y4 y5 y6 y7 y8 y9 y10 y11 y12 y13 y14
   unfold impl_Ear_hear.j1
   repeat' first | (with_reducible first | apply ih0 | apply ih1 | apply ih2 | apply impl_Early_int.mono | exact LeO.refl _ | exact LeO.none _ | refine LeO.ite ?_ ?_ | refine LeO.bind ?_ fun _ => ?_) | apply ih0 | apply ih1 | apply ih2 | apply impl_Early_int.mono | exact LeO.none _ | refine LeO.ite ?_ ?_ | refine LeO.bind ?_ fun _ => ?_
  ·intro y0 y1 y2 y3
   unfold impl_Ear_hear.l1
   repeat' first | (with_reducible first | apply ih0 | apply ih1 | apply ih2 | apply impl_Early_int.mono | exact LeO.refl _ | exact LeO.none _ | refine LeO.ite ?_ ?_ | refine LeO.bind ?_ fun _ => ?_) | apply ih0 | apply ih1 | apply ih2 | apply impl_Early_int.mono | exact LeO.none _ | refine LeO.ite ?_ ?_ | refine LeO.bind ?_ fun _ => ?_
theorem impl_Ear_hear.mono : ∀ a0 a1 a2 a3 a4 a5 k, LeO (impl_Ear_hear.f k a0 a1 a2 a3 a4 a5) (impl_Ear_hear.f (k + 1) a0 a1 a2 a3 a4 a5) := by
 intro a0 a1 a2 a3 a4 a5 k
 obtain ⟨ih0, ih1, ih2⟩ := impl_Ear_hear.mono_l k
 unfold impl_Ear_hear.f
 repeat' first | (with_reducible first | apply ih0 | apply ih1 | apply ih2 | apply impl_Early_int.mono | exact LeO.refl _ | exact LeO.none _ | refine LeO.ite ?_ ?_ | refine LeO.bind ?_ fun _ => ?_) | apply ih0 | apply ih1 | apply ih2 | apply impl_Early_int.mono | exact LeO.none _ | refine LeO.ite ?_ ?_ | refine LeO.bind ?_ fun _ => ?_
def impl_Ear_hear.T6 : Bool × List (List Nat × List Nat) := (true, [([], []), ([], []), ([1], [1]), ([0, 2], [0, 2]), ([3], [3]), ([4], [4]), ([4], [4]), ([6, 4], [4, 6]), ([4], [4]), ([8, 4, 4], [4, 8]), ([7, 9, 4], [4, 7, 9]), ([5, 10, 4], [4, 5, 10]), ([4, 11], [4, 11])])
def impl_Ear_hear.B6 : List Nat := [0, 0, 2, 7, 15, 31, 31, 95, 31, 287, 991, 2047, 4095]
theorem impl_Ear_hear.tab6 : rtab .any (opsOf Try.f70 6) = impl_Ear_hear.T6 := by kernel_rfl
theorem impl_Ear_hear.bits6 : waitsOk impl_Ear_hear.T6.2 impl_Ear_hear.B6 = true := by kernel_rfl
def impl_Ear_hear.T11 : Bool × List (List Nat × List Nat) := (true, [([], []), ([0], [0]), ([1], [1]), ([2], [2]), ([3], [3]), ([4], [4]), ([5, 4], [4, 5]), ([6, 4], [4, 6]), ([7, 4], [4, 7]), ([8, 4], [4, 8]), ([4], [4]), ([10, 4], [4, 10]), ([9, 11, 4], [4, 9, 11]), ([4, 12], [4, 12])])
def impl_Ear_hear.B11 : List Nat := [0, 1, 3, 7, 15, 31, 63, 127, 255, 511, 31, 1055, 4095, 8191]
theorem impl_Ear_hear.tab11 : rtab .any (opsOf Try.f70 11) = impl_Ear_hear.T11 := by kernel_rfl
theorem impl_Ear_hear.bits11 : waitsOk impl_Ear_hear.T11.2 impl_Ear_hear.B11 = true := by kernel_rfl
def impl_Ear_hear.T12 : Bool × List (List Nat × List Nat) := (true, [([], []), ([0], [0]), ([], []), ([2], [2]), ([3], [3]), ([4], [4]), ([5], [5]), ([6], [6]), ([1, 7], [1, 7]), ([0, 1, 2, 3, 4, 5, 6, 7, 8], []), ([9, 8, 8, 0, 1, 2, 3, 4, 5, 6, 7, 8], [8, 9])])
def impl_Ear_hear.B12 : List Nat := [0, 1, 0, 4, 12, 28, 60, 124, 255, 511, 1023]
theorem impl_Ear_hear.tab12 : rtab .any (opsOf Try.f70 12) = impl_Ear_hear.T12 := by kernel_rfl
theorem impl_Ear_hear.bits12 : waitsOk impl_Ear_hear.T12.2 impl_Ear_hear.B12 = true := by kernel_rfl
set_option maxHeartbeats 8000000 in
set_option maxRecDepth 100000 in
theorem impl_Ear_hear.calls (k : Nat) (a0_0 : Int) (a0_1 : Int) (A0_2 : Option Addr) (c0_2 : Nat) (l0_2 : List Int) (A0_3 : Option Addr) (c0_3 : Nat) (l0_3 : List (S96)) (a1 : Int) (A2 : Option Addr) (c2 : Nat) (l2 : List Int) (r1 : Int) (r2 : Int) (r3 : List Int) (r4 : List (S96)) (w : World) (hr0_2 : Kd.C (Kd.int .u8) w A0_2 l0_2.length l0_2) (hc0_2 : l0_2.length ≤ c0_2) (hr0_3 : Kd.C k96 w A0_3 l0_3.length l0_3) (hc0_3 : l0_3.length ≤ c0_3) (hr2 : Kd.C (Kd.int .u8) w A2 l2.length l2) (hc2 : l2.length ≤ c2) (h : impl_Ear_hear.f k a0_0 a0_1 l0_2 l0_3 a1 l2 = some (r1, r2, r3, r4)) :
  Calls Try.prog 70 #[.agg #[.int .i64 a0_0, .int .i64 a0_1, .slice A0_2 l0_2.length c0_2, .slice A0_3 l0_3.length c0_3], .int .i64 a1, .slice A2 l2.length c2] w fun e w' => ∃ v2_ v3_ : Value, e = .returned (.agg #[.int .i64 r1, .int .i64 r2, v2_, v3_]) ∧ Kd.R (Kd.int .u8) 5 w' w.heap.size (fun _ => True) v2_ r3 ∧ Kd.R k96 96 w' w.heap.size (fun _ => True) v3_ r4 ∧ Below w.heap.size w w' := by
 have hu48 := Try.underlying48; have hu96 := Try.underlying96; have HR0_2 := Aside0.mk hr0_2; have HC0_2 := Aside0.mk hc0_2; clear hr0_2 hc0_2; have HR0_3 := Aside0.mk hr0_3; have HC0_3 := Aside0.mk hc0_3; clear hr0_3 hc0_3; have HR2 := Aside0.mk hr2; have HC2 := Aside0.mk hc2; clear hr2 hc2
 have HB := Aside0.mk (Below.refl w.heap.size w)
 have H : ((impl_Ear_copy.f a0_0 a0_1 l0_2 l0_3).bind fun bt200 => (impl_Ear_hear.l0 k a1 l2 (l2.length : Int) 0 a0_0 a0_1 l0_2 l0_3 bt200.1 bt200.2.1 bt200.2.2.1 bt200.2.2.2)) = some (r1, r2, r3, r4) := h
 clear h
 replace H := Option.bind_eq_some_iff.mp H
 obtain ⟨⟨t200, t201, t202, t205⟩, A40, H⟩ := H
 (try dsimp only at H)
 have A4 := Aside0.mk A40; clear A40
 have H' := Aside0.mk H
 clear H
 go_enter Try.func70, Try.ntmps70
 go_wp2_with (first | ((with_reducible refine gate_dst (N := 3) rfl ?_); refine box_ (N := 3) (cs := #[.int .i64 a0_0, .int .i64 a0_1, .slice A0_2 l0_2.length c0_2, .slice A0_3 l0_3.length c0_3]) (t := 48) (fun gb198 hg w5 hbox hb => ?_); have BK198 := Aside0.mk (hbox); have GW198 := ge_ hg HB; have GE198 := ge_ hg HB; replace HB := (bs_ HB hb); clear hb hbox hg) | ((with_reducible refine gate_dst (N := 6) rfl ?_); refine box_ (N := 6) (cs := #[.int .i64 0, .int .i64 0, .slice none 0 0, .slice none 0 0]) (t := 48) (fun gb199 hg w6 hbox hb => ?_); have BK199 := Aside0.mk (hbox); have GW199 := ge_ hg HB; have GE199 := ge_ hg HB; replace HB := (bs_ HB hb); have NB198_199 := nl_ hg BK198; have NB199_198 := ng_ hg BK198; replace BK198 := (bbA_ BK198 hb); clear hb hbox hg; have hnb7 := NB198_199.out; have hnc7 := NB199_198.out; have Z8 := zz4 BK198) | ((with_reducible refine gate_callee (f := 78) rfl ?_); refine goesL_ (some 14) rfl rfl Try.func78 (by kernel_rfl) rfl #[.agg #[.int .i64 a0_0, .int .i64 a0_1, .slice A0_2 l0_2.length c0_2, .slice A0_3 l0_3.length c0_3]] rfl ar_ ?_; (with_reducible refine (impl_Ear_copy.calls a0_0 a0_1 _ _ l0_2 _ _ l0_3 t200 t201 t202 t205 _ ?side1 ?side2 ?side3 ?side4 A4.out).mono ?_); (case side1 => exact kC_ (Kd.C_below HR0_2.out HB.out)); (case side2 => exact HC0_2.out); (case side3 => exact kC_ (Kd.C_below HR0_3.out HB.out)); (case side4 => exact HC0_3.out); rintro e w9 ⟨v203, v206, rfl, ho0, ho1, hb⟩; refine ⟨_, rfl, ?_⟩; have HO204 := Aside0.mk (Kd.R_lower ho0 (below_size (hbA_ HB.out))); have HO207 := Aside0.mk (Kd.R_lower ho1 (below_size (hbA_ HB.out))); replace BK198 := (bbA_ BK198 hb); replace BK199 := (bbA_ BK199 hb); replace HB := (bs_ HB hb); (try clear hb); (try clear hb2); (try clear hk); (try clear hi); (try clear ho0); (try clear ho1)) | ((with_reducible refine gate_dst (N := 7) rfl ?_); refine box_ (N := 7) (cs := #[.int .i64 0, .int .i64 0, .slice none 0 0, .slice none 0 0]) (t := 48) (fun gb208 hg w10 hbox hb => ?_); replace HO204 := Aside0.mk (Kd.R_below (kR_ HO204.out) hb); replace HO207 := Aside0.mk (Kd.R_below (kR_ HO207.out) hb); have BK208 := Aside0.mk (hbox); have GW208 := ge_ hg HB; have GE208 := ge_ hg HB; replace HB := (bs_ HB hb); have NB198_208 := nl_ hg BK198; have NB208_198 := ng_ hg BK198; replace BK198 := (bbA_ BK198 hb); have NB199_208 := nl_ hg BK199; have NB208_199 := ng_ hg BK199; replace BK199 := (bbA_ BK199 hb); clear hb hbox hg; have hnb11 := NB208_198.out; have hnc11 := NB198_208.out; have hnb12 := NB208_199.out; have hnc12 := NB199_208.out; have Z13 := zz4 BK208; obtain ⟨Ao14, co14, eo14⟩ := Kd.R_slice HO204.out; subst eo14; obtain ⟨Ao15, co15, eo15⟩ := Kd.R_slice HO207.out; subst eo15))
 go_loopg [17] k (fun kq v17 w' => ∃ (x17_1 : Int) (x209003_1 : List (S96)) (u209003 : Value), v17 = .int .i64 x17_1 ∧ Aside0 (impl_Ear_hear.l0 kq a1 l2 (l2.length : Int) x17_1 a0_0 a0_1 l0_2 l0_3 t200 t201 t202 x209003_1 = some (r1, r2, r3, r4)) ∧ Aside0 (kq ≤ k) ∧ Aside0 (Kd.R (Kd.int .u8) 5 w' w.heap.size (fun _ => True) (.slice Ao14 t202.length co14) t202) ∧ Aside0 (Kd.Q k96 96 w' w.heap.size (fun _ => True) u209003 x209003_1) ∧ Aside0 (w'.heap[gb198]? = some (.cells #[.int .i64 a0_0, .int .i64 a0_1, (.slice A0_2 l0_2.length c0_2), (.slice A0_3 l0_3.length c0_3)] 48 (0, 0))) ∧ Aside0 (w'.heap[gb199]? = some (.cells #[.int .i64 0, .int .i64 0, (.slice none 0 0), (.slice none 0 0)] 48 (0, 0))) ∧ Aside0 (w'.heap[gb208]? = some (.cells #[.int .i64 t200, .int .i64 t201, (.slice Ao14 t202.length co14), u209003] 48 (0, 0))) ∧ Aside0 (Below w.heap.size w w'))
 case atStart => exact ⟨(0), (t205), (.slice Ao15 t205.length co15), (by first | rfl | (simp; done) | (simp [*]; done)), H', ⟨Nat.le_refl _⟩, ⟨by refine kR_ ?_; exact rfm_ ((Kd.R_types HO204.out BK208.out (by decide))) (fun _ hk => trivial)⟩, ⟨Kd.Q_of_R (by refine kR_ ?_; exact rfm_ ((Kd.R_types HO207.out BK208.out (by decide))) (fun _ hk => trivial))⟩, ⟨by exact kf_ BK198.out⟩, ⟨by exact kf_ BK199.out⟩, ⟨by refine kb_ ?_; refine pz4 (cs := #[.int .i64 0, .int .i64 0, .slice none 0 0, .slice none 0 0]) ?_; refine kb_ ?_; exact BK208.out⟩, ⟨hbA_ HB.out⟩⟩
 case round =>
  clear H'; (try clear c1); (try clear c2); (try clear p2); (try clear c7); (try clear c11); (try clear c12); (try clear Z13); (try clear Z8)
  obtain ⟨x17_1, x209003_1, u209003, rfl, HA, HK1, HO_209002, HO_209003, BK198, BK199, BK208, HB⟩ := hrel
  cases gk with
  | zero => exact absurd HA.out (by simp [impl_Ear_hear.l0])
  | succ k1 =>
   have H := HA.out; clear HA
   simp only [impl_Ear_hear.l0] at H
   by_cases c16 : x17_1 < (l2.length : Int)
   ·rw [if_pos c16] at H
    have c16b0 : decide (x17_1 < (l2.length : Int)) = true := decide_eq_true c16
    clear c16
    by_cases c17 : 0 ≤ x17_1
    ·rw [if_pos c17] at H
     have c17b0 : decide (0 ≤ x17_1) = true := decide_eq_true c17
     clear c17
     by_cases c18 : x17_1 < (l2.length : Int)
     ·rw [if_pos c18] at H
      have c18b0 : decide (x17_1 < (l2.length : Int)) = true := decide_eq_true c18
      clear c18; have HC19 := Aside0.mk H; clear H
      have p209 : 0 ≤ (x17_1 : Int) := of_decide_eq_true (by first | (with_reducible assumption) | assumption)
      have q209 : x17_1 < (l2.length : Int) := of_decide_eq_true (by first | (with_reducible assumption) | assumption)
      obtain ⟨ad209, e209, hx209_0⟩ := Kd.at_int HR2.out x17_1 p209 q209
      cases e209
      replace hx209_0 := cc_ HB hx209_0
      replace p209 := eq_true p209
      replace q209 := eq_true q209
      go_upto_region 6 with (fail)
      go_cut [37] (fun v37 wc => ∃ (kq : Nat) (x37_18 : Bool), v37 = .bool x37_18 ∧ Aside0 (impl_Ear_hear.j1 kq a1 (rd l2 x17_1) (wrap64 (a1 + x17_1)) l2 (l2.length : Int) x17_1 x37_18 a0_0 a0_1 l0_2 l0_3 t200 t201 t202 x209003_1 = some (r1, r2, r3, r4)) ∧ Aside0 (kq ≤ k1) ∧ Aside0 (Kd.R (Kd.int .u8) 5 wc w.heap.size (fun _ => True) (.slice Ao14 t202.length co14) t202) ∧ Aside0 (Kd.Q k96 96 wc w.heap.size (fun _ => True) u209003 x209003_1) ∧ Aside0 (wc.heap[gb198]? = some (.cells #[.int .i64 a0_0, .int .i64 a0_1, (.slice A0_2 l0_2.length c0_2), (.slice A0_3 l0_3.length c0_3)] 48 (0, 0))) ∧ Aside0 (wc.heap[gb199]? = some (.cells #[.int .i64 0, .int .i64 0, (.slice none 0 0), (.slice none 0 0)] 48 (0, 0))) ∧ Aside0 (wc.heap[gb208]? = some (.cells #[.int .i64 t200, .int .i64 t201, (.slice Ao14 t202.length co14), u209003] 48 (0, 0))) ∧ Aside0 (Below w.heap.size w wc))
      case first =>
       have H := HC19.out; clear HC19
       by_cases c20 : (wrap64 (a1 + x17_1)) < a0_0
       ·rw [if_pos c20] at H
        have c20b0 : decide ((wrap64 (a1 + x17_1)) < a0_0) = true := decide_eq_true c20
        clear c20
        (first | rw [c20b0] | (simp only [i64_w, i32_w]; rw [c20b0]) | skip)
        have H' := Aside0.mk H
        clear H
        try go_wp2
        replace HO_209002 := Aside0.mk (Kd.R_drew HO_209002.out); replace HO_209003 := Aside0.mk (Kd.Q_drew HO_209003.out); replace BK198 := Aside0.mk (blk_drew BK198.out); replace BK199 := Aside0.mk (blk_drew BK199.out); replace BK208 := Aside0.mk (blk_drew BK208.out); replace HB := (bd_ HB)
        refine start_ (n := 13) (S := fun w' => w'.cell? ⟨gb198, 0, none⟩ = some (.int .i64 a0_0) ∧ w'.cell? ⟨gb198, 1, none⟩ = some (.int .i64 a0_1) ∧ w'.cell? ⟨gb198, 2, none⟩ = some (.slice A0_2 l0_2.length c0_2) ∧ w'.cell? ⟨gb198, 3, none⟩ = some (.slice A0_3 l0_3.length c0_3)) (ds := []) #[false, false, false, false, false, false, false, false, false, false, false, false, false] (by kernel_rfl) rfl rfl (cz4 BK198.out) (fun hHeld => ?_); refine with_tabW impl_Ear_hear.tab6 impl_Ear_hear.bits6 (fun HT_ HW_ => ?_)
        generalize wr.drew = w21 at HO_209002 HO_209003 BK198 BK199 BK208 HB hHeld ⊢
        refine pu_ (i := 0) (N := some 25) HT_ ?_; refine pu_ (i := 1) (N := some 26) HT_ ?_; refine tk_ (i := 2) (N := some 27) HT_ HW_ hHeld ?_; refine pu_ (i := 3) (N := some 28) HT_ ?_; refine pu_ (i := 4) (N := some 29) HT_ ?_; refine pn_ (i := 5) (N := some 30) HT_ ?_; refine pn_ (i := 6) (N := some 31) HT_ ?_; refine pn_ (i := 7) (N := some 32) HT_ ?_; refine pn_ (i := 8) (N := some 33) HT_ ?_; refine pn_ (i := 9) (N := some 34) HT_ ?_; refine pn_ (i := 10) (N := some 35) HT_ ?_; refine pn_ (i := 11) (N := some 36) HT_ ?_; refine pu_ (i := 12) (N := some 37) HT_ ?_
        refine done_ (done_of HT_.out (by kernel_rfl)) ?_
        try go_wp2
        go_meet
        case rel => exact ⟨_, (true), (by first | rfl | (simp; done) | (simp [*]; done)), H', ⟨by have := HK1.out; first | omega | exact Nat.le_refl _⟩, ⟨kR_ HO_209002.out⟩, ⟨by (with_reducible repeat (first | apply Kd.Q_alloc | apply Kd.Q_drewN | apply Kd.Q_drew)); exact HO_209003.out⟩, ⟨by refine kb_ ?_; exact BK198.out⟩, ⟨by refine kb_ ?_; exact BK199.out⟩, ⟨by refine kb_ ?_; exact BK208.out⟩, ⟨hbA_ HB.out⟩⟩
       ·rw [if_neg c20] at H
        have c20b0 : decide ((wrap64 (a1 + x17_1)) < a0_0) = false := decide_eq_false c20
        clear c20
        (first | rw [c20b0] | (simp only [i64_w, i32_w]; rw [c20b0]) | skip)
        replace H := Option.bind_eq_some_iff.mp H
        obtain ⟨t210, A220, H⟩ := H
        (try dsimp only at H)
        have A22 := Aside0.mk A220; clear A220
        have H' := Aside0.mk H
        clear H
        try go_wp2
        replace HO_209002 := Aside0.mk (Kd.R_drew HO_209002.out); replace HO_209003 := Aside0.mk (Kd.Q_drew HO_209003.out); replace BK198 := Aside0.mk (blk_drew BK198.out); replace BK199 := Aside0.mk (blk_drew BK199.out); replace BK208 := Aside0.mk (blk_drew BK208.out); replace HB := (bd_ HB)
        refine start_ (n := 13) (S := fun w' => w'.cell? ⟨gb198, 0, none⟩ = some (.int .i64 a0_0) ∧ w'.cell? ⟨gb198, 1, none⟩ = some (.int .i64 a0_1) ∧ w'.cell? ⟨gb198, 2, none⟩ = some (.slice A0_2 l0_2.length c0_2) ∧ w'.cell? ⟨gb198, 3, none⟩ = some (.slice A0_3 l0_3.length c0_3)) (ds := []) #[false, false, false, false, false, false, false, false, false, false, false, false, false] (by kernel_rfl) rfl rfl (cz4 BK198.out) (fun hHeld => ?_); refine with_tabW impl_Ear_hear.tab6 impl_Ear_hear.bits6 (fun HT_ HW_ => ?_)
        generalize wr.drew = w23 at HO_209002 HO_209003 BK198 BK199 BK208 HB hHeld ⊢
        refine pu_ (i := 0) (N := some 25) HT_ ?_; refine pu_ (i := 1) (N := some 26) HT_ ?_; refine tk_ (i := 2) (N := some 27) HT_ HW_ hHeld ?_; refine pu_ (i := 3) (N := some 28) HT_ ?_; refine pu_ (i := 4) (N := some 29) HT_ ?_; refine pu_ (i := 5) (N := some 30) HT_ ?_; refine pu_ (i := 6) (N := some 31) HT_ ?_; refine tk_ (i := 7) (N := some 32) HT_ HW_ hHeld ?_; refine tk_ (i := 8) (N := some 33) HT_ HW_ hHeld ?_
        refine on_ (i := 9) (N := some 34) HT_ (fun K hK => ?_)
        refine goes_ Try.func77 (by kernel_rfl) rfl #[.agg #[.int .i64 a0_0, .int .i64 a0_1, .slice A0_2 l0_2.length c0_2, .slice A0_3 l0_3.length c0_3]] (by rfl) rfl rfl ar_ ?_
        with_reducible refine (impl_Ear_free.calls a0_0 a0_1 _ _ l0_2 _ _ l0_3 t210 _ ?side1 ?side2 ?side3 ?side4 A22.out).mono ?_
        (case side1 => exact kC_ (Kd.C_below HR0_2.out HB.out))
        (case side2 => exact HC0_2.out)
        (case side3 => exact kC_ (Kd.C_below HR0_3.out HB.out))
        (case side4 => exact HC0_3.out)
        rintro e w24 ⟨rfl, hb⟩
        refine ⟨_, rfl, ?_⟩
        replace HO_209002 := Aside0.mk (Kd.R_below (kR_ HO_209002.out) hb); replace HO_209003 := Aside0.mk (Kd.Q_below (by (with_reducible repeat (first | apply Kd.Q_alloc | apply Kd.Q_drewN | apply Kd.Q_drew)); exact HO_209003.out) hb); replace BK198 := (bbA_ BK198 hb); replace BK199 := (bbA_ BK199 hb); replace BK208 := (bbA_ BK208 hb); replace HB := (bs_ HB hb); (try clear hb); (try clear hb2); (try clear hk); (try clear hi)
        refine hK.out _ _ (cz4 BK198.out) (fun hHeld => ?_)
        clear hK K; refine nm_ 34 ?_; refine pu_ (i := 10) (N := some 35) HT_ ?_; refine pu_ (i := 11) (N := some 36) HT_ ?_; refine pu_ (i := 12) (N := some 37) HT_ ?_
        refine done_ (done_of HT_.out (by kernel_rfl)) ?_
        try go_wp2
        go_meet
        case rel => exact ⟨_, (decide ((wrap64 (a1 + x17_1)) ≥ (wrap64 (a0_0 + t210)))), (by first | rfl | (simp; done) | (simp [*]; done)), H', ⟨by have := HK1.out; first | omega | exact Nat.le_refl _⟩, ⟨kR_ HO_209002.out⟩, ⟨by (with_reducible repeat (first | apply Kd.Q_alloc | apply Kd.Q_drewN | apply Kd.Q_drew)); exact HO_209003.out⟩, ⟨by refine kb_ ?_; exact BK198.out⟩, ⟨by refine kb_ ?_; exact BK199.out⟩, ⟨by refine kb_ ?_; exact BK208.out⟩, ⟨hbA_ HB.out⟩⟩
      case rest =>
       clear HC19; (try clear c1); (try clear c2); (try clear p2); (try clear q2); (try clear hx2); (try clear p6); (try clear c7); (try clear c11); (try clear c12); (try clear c16); (try clear c16b0); (try clear c17); (try clear c17b0); (try clear c18); (try clear c18b0); (try clear c20); (try clear c20b0); (try clear p20); (try clear q20); (try clear hx20); (try clear Z13); (try clear Z8); (try clear hx209_0); (try clear p2); (try clear p209); (try clear q209)
       obtain ⟨kq, x37_18, rfl, HA, HJ18, HO_209002, HO_209003, BK198, BK199, BK208, HB⟩ := hcut
       cases kq with
       | zero => exact absurd HA.out (by simp [impl_Ear_hear.j1])
       | succ kj18 =>
        have H := HA.out; clear HA
        simp only [impl_Ear_hear.j1] at H
        by_cases c25 : x37_18 = true
        ·subst c25
         rw [if_pos rfl] at H
         have H' := Aside0.mk H
         clear H
         go_wp2
         go_roundg kj18
         case measure => have := HK1.out; have := HJ18.out; omega
         case rel => exact ⟨(wrap64 (x17_1 + 1)), (x209003_1), (u209003), (by first | rfl | (simp; done) | (simp [*]; done)), H', ⟨by have := HK1.out; have := HJ18.out; omega⟩, ⟨kR_ HO_209002.out⟩, ⟨by (with_reducible repeat (first | apply Kd.Q_alloc | apply Kd.Q_drewN | apply Kd.Q_drew)); exact HO_209003.out⟩, ⟨by refine kb_ ?_; exact BK198.out⟩, ⟨by refine kb_ ?_; exact BK199.out⟩, ⟨by refine kb_ ?_; exact BK208.out⟩, ⟨hbA_ HB.out⟩⟩
        ·replace c25 := Bool.eq_false_iff.mpr c25
         subst c25
         rw [if_neg (show ¬ (false = true) by decide)] at H
         replace H := Option.bind_eq_some_iff.mp H
         obtain ⟨⟨t211, t212⟩, A260, H⟩ := H
         (try dsimp only at H)
         have A26 := Aside0.mk A260; clear A260
         by_cases c27 : t212 = true
         ·subst c27
          rw [if_pos rfl] at H
          have H' := Aside0.mk H
          clear H; have hnb28 := NB208_198.out; have hnc28 := NB198_208.out; have hnb29 := NB208_199.out; have hnc29 := NB199_208.out; have Z30 := zz4 BK208
          obtain ⟨Ao31, co31, eo31, _⟩ := Kd.Q_slice HO_209003.out
          subst eo31
          go_wp2_with (first | ((with_reducible refine gate_callee (f := 96) rfl ?_); refine goesL_ (some 42) rfl rfl Try.func96 (by kernel_rfl) rfl #[.slice Ao31 x209003_1.length co31, .int .i64 (wrap64 (a1 + x17_1)), .func (.func 97) #[] #[]] rfl ar_ ?_; (with_reducible refine (impl_Early_int.calls kj18 _ _ x209003_1 (wrap64 (a1 + x17_1)) t211 true _ ?side1 ?side2 A26.out).mono ?_); (case side1 => exact kC_ (Kd.Q_reads' HO_209003.out).2.2); (case side2 => exact (Kd.Q_reads' HO_209003.out).2.1); rintro e w32 ⟨rfl, hb⟩; refine ⟨_, rfl, ?_⟩; replace HO_209002 := Aside0.mk (Kd.R_below (kR_ HO_209002.out) hb); replace HO_209003 := Aside0.mk (Kd.Q_below (by (with_reducible repeat (first | apply Kd.Q_alloc | apply Kd.Q_drewN | apply Kd.Q_drew)); exact HO_209003.out) hb); replace BK198 := (bbA_ BK198 hb); replace BK199 := (bbA_ BK199 hb); replace BK208 := (bbA_ BK208 hb); replace HB := (bs_ HB hb); (try clear hb); (try clear hb2); (try clear hk); (try clear hi)))
          go_roundg kj18
          case measure => have := HK1.out; have := HJ18.out; omega
          case rel => exact ⟨(wrap64 (x17_1 + 1)), (x209003_1), (.slice Ao31 x209003_1.length co31), (by first | rfl | (simp; done) | (simp [*]; done)), H', ⟨by have := HK1.out; have := HJ18.out; omega⟩, ⟨kR_ HO_209002.out⟩, ⟨by (with_reducible repeat (first | apply Kd.Q_alloc | apply Kd.Q_drewN | apply Kd.Q_drew)); exact HO_209003.out⟩, ⟨by refine kb_ ?_; exact BK198.out⟩, ⟨by refine kb_ ?_; exact BK199.out⟩, ⟨by refine kb_ ?_; exact BK208.out⟩, ⟨hbA_ HB.out⟩⟩
         ·replace c27 := Bool.eq_false_iff.mpr c27
          subst c27
          rw [if_neg (show ¬ (false = true) by decide)] at H
          by_cases c33 : 0 ≤ t211
          ·rw [if_pos c33] at H
           have c33b0 := eq_true c33
           have c33b1 : decide (0 ≤ t211) = true := decide_eq_true c33
           clear c33
           by_cases c34 : t211 ≤ (x209003_1.length : Int)
           ·rw [if_pos c34] at H
            have c34b0 := eq_true c34
            have c34b1 : decide (t211 ≤ (x209003_1.length : Int)) = true := decide_eq_true c34
            clear c34
            by_cases c35 : x209003_1.length < 8796093022208
            ·rw [if_pos c35] at H
             have LMc35 := Aside0.mk c35; clear c35
             obtain ⟨y213, hy213⟩ : ∃ y_ : List (S96), y_ = (x209003_1.take (t211 : Int).toNat ++ [(⟨(wrap64 (a1 + x17_1)), (rd l2 x17_1)⟩ : S96)] ++ x209003_1.drop (t211 : Int).toNat) := ⟨_, rfl⟩
             (first | replace H := sb_ hy213 H | rw [← hy213] at H)
             have Ny213 := Aside0.mk hy213; clear hy213
             have H' := Aside0.mk H
             clear H; have hnb36 := NB208_198.out; have hnc36 := NB198_208.out; have hnb37 := NB208_199.out; have hnc37 := NB199_208.out; have Z38 := zz4 BK208
             obtain ⟨Ao39, co39, eo39, _⟩ := Kd.Q_slice HO_209003.out
             subst eo39
             go_wp2_with (first | ((with_reducible refine gate_callee (f := 96) rfl ?_); refine goesL_ (some 42) rfl rfl Try.func96 (by kernel_rfl) rfl #[.slice Ao39 x209003_1.length co39, .int .i64 (wrap64 (a1 + x17_1)), .func (.func 97) #[] #[]] rfl ar_ ?_; (with_reducible refine (impl_Early_int.calls kj18 _ _ x209003_1 (wrap64 (a1 + x17_1)) t211 false _ ?side1 ?side2 A26.out).mono ?_); (case side1 => exact kC_ (Kd.Q_reads' HO_209003.out).2.2); (case side2 => exact (Kd.Q_reads' HO_209003.out).2.1); rintro e w40 ⟨rfl, hb⟩; refine ⟨_, rfl, ?_⟩; replace HO_209002 := Aside0.mk (Kd.R_below (kR_ HO_209002.out) hb); replace HO_209003 := Aside0.mk (Kd.Q_below (by (with_reducible repeat (first | apply Kd.Q_alloc | apply Kd.Q_drewN | apply Kd.Q_drew)); exact HO_209003.out) hb); replace BK198 := (bbA_ BK198 hb); replace BK199 := (bbA_ BK199 hb); replace BK208 := (bbA_ BK208 hb); replace HB := (bs_ HB hb); (try clear hb); (try clear hb2); (try clear hk); (try clear hi); have Z41 := zz4 BK208) | ((with_reducible refine gate_callee (f := 98) rfl ?_); refine goesL_ (some 54) rfl rfl Try.func98 (by kernel_rfl) rfl #[.slice Ao39 x209003_1.length co39, .int .i64 t211, _] rfl ar_ ?_; refine Calls.mono (impl_Early_98.calls k96 rfl (w0 := w) w.heap.size (.slice Ao39 x209003_1.length co39) x209003_1 (⟨(wrap64 (a1 + x17_1)), (rd l2 x17_1)⟩ : S96) [.int .i64 (wrap64 (a1 + x17_1)), .int .u8 (rd l2 x17_1)] (fun _ => True) (fun _ => False) t211 (of_decide_eq_true (by first | (with_reducible assumption) | assumption)) (of_decide_eq_true (by first | (with_reducible assumption) | assumption)) ?aP (fun _ hk => hk.elim) ?aF ?aO ?aB ?aS ?aL) ?_; (case aP => exact k96_mkM _ _ _ (⟨(wrap64 (a1 + x17_1)), (rd l2 x17_1)⟩ : S96)); (case aB => exact (hbA_ HB.out)); (case aF => exact (fun _ _ => trivial)); (case aO => exact (by (with_reducible repeat (first | apply Kd.Q_alloc | apply Kd.Q_drewN | apply Kd.Q_drew)); exact HO_209003.out)); (case aS => exact (below_size (hbA_ HB.out))); (case aL => have := LMc35.out; omega); rintro e w42 ⟨v214, rfl, ho, hb, hg, hat⟩; refine ⟨_, rfl, ?_⟩; rw [← Ny213.out] at ho; replace HO_209002 := Aside0.mk (Kd.R_over' (kR_ HO_209002.out) (Kd.Q_typed (by (with_reducible repeat (first | apply Kd.Q_alloc | apply Kd.Q_drewN | apply Kd.Q_drew)); exact HO_209003.out)) (by decide) hg); replace BK198 := (bgA_ BK198 hg (Kd.Q_ne HO_209003.out BK198.out (by decide))); replace BK199 := (bgA_ BK199 hg (Kd.Q_ne HO_209003.out BK199.out (by decide))); replace BK208 := (bgA_ BK208 hg (Kd.Q_ne HO_209003.out BK208.out (by decide))); replace HB := Aside0.mk (hb); have HO215 := Aside0.mk (ho); clear HO_209003; clear ho hb hg hat; obtain ⟨Ao43, co43, eo43, _⟩ := Kd.Q_slice HO215.out; subst eo43; have Z44 := zz4 BK208))
             go_roundg kj18
             case measure => have := HK1.out; have := HJ18.out; omega
             case rel => exact ⟨(wrap64 (x17_1 + 1)), (y213), (.slice Ao43 y213.length co43), (by first | rfl | (simp; done) | (simp [*]; done)), H', ⟨by have := HK1.out; have := HJ18.out; omega⟩, ⟨by refine kR_ ?_; exact Kd.R_mono (Kd.R_f gb208 3 (.slice Ao43 y213.length co43) (Kd.R_types HO_209002.out BK208.out (by decide))) (fun _ hk => trivial)⟩, ⟨by (with_reducible repeat (first | apply Kd.Q_alloc | apply Kd.Q_drewN | apply Kd.Q_drew)); exact Kd.Q_mono (Kd.Q_far (p := ⟨gb208, 3, none⟩) (Kd.Q_types HO215.out BK208.out (by decide)) (fun _ hk => hk.2) (.slice Ao43 y213.length co43)) (fun _ hk => trivial)⟩, ⟨by exact kf_ BK198.out⟩, ⟨by exact kf_ BK199.out⟩, ⟨by refine kb_ ?_; refine blk_put (cs := #[.int .i64 t200, .int .i64 t201, .slice Ao14 t202.length co14, .slice Ao39 x209003_1.length co39]) ?_ 3 _ rfl; refine kb_ ?_; exact BK208.out⟩, ⟨hbA_ HB.out⟩⟩
            ·rw [if_neg c35] at H
             exact absurd H (by simp)
           ·rw [if_neg c34] at H
            exact absurd H (by simp)
          ·rw [if_neg c33] at H
           exact absurd H (by simp)
     ·rw [if_neg c18] at H
      exact absurd H (by simp)
    ·rw [if_neg c17] at H
     exact absurd H (by simp)
   ·rw [if_neg c16] at H
    have c16b0 : decide (x17_1 < (l2.length : Int)) = false := decide_eq_false c16
    clear c16
    have H' := Aside0.mk H
    clear H
    go_wp2
    go_loopg [] k1 (fun kq w' => ∃ (x209000_2 : Int) (x209002_2 : List Int) (x209003_2 : List (S96)) (u209002 : Value) (u209003 : Value), Aside0 (impl_Ear_hear.l1 kq x209000_2 t201 x209002_2 x209003_2 = some (r1, r2, r3, r4)) ∧ Aside0 (kq ≤ k1) ∧ Aside0 (Kd.R (Kd.int .u8) 5 w' w.heap.size (fun _ => True) u209002 x209002_2) ∧ Aside0 (Kd.Q k96 96 w' w.heap.size (fun _ => True) u209003 x209003_2) ∧ Aside0 (w'.heap[gb198]? = some (.cells #[.int .i64 a0_0, .int .i64 a0_1, (.slice A0_2 l0_2.length c0_2), (.slice A0_3 l0_3.length c0_3)] 48 (0, 0))) ∧ Aside0 (w'.heap[gb199]? = some (.cells #[.int .i64 0, .int .i64 0, (.slice none 0 0), (.slice none 0 0)] 48 (0, 0))) ∧ Aside0 (w'.heap[gb208]? = some (.cells #[.int .i64 x209000_2, .int .i64 t201, u209002, u209003] 48 (0, 0))) ∧ Aside0 (Below w.heap.size w w'))
    case atStart => exact ⟨(t200), (t202), (x209003_1), (.slice Ao14 t202.length co14), (u209003), H', ⟨Nat.le_refl _⟩, ⟨kR_ HO_209002.out⟩, ⟨by (with_reducible repeat (first | apply Kd.Q_alloc | apply Kd.Q_drewN | apply Kd.Q_drew)); exact HO_209003.out⟩, ⟨by refine kb_ ?_; exact BK198.out⟩, ⟨by refine kb_ ?_; exact BK199.out⟩, ⟨by refine kb_ ?_; exact BK208.out⟩, ⟨hbA_ HB.out⟩⟩
    case round =>
     clear H'; (try clear c1); (try clear c2); (try clear p2); (try clear q2); (try clear hx2); (try clear c3); (try clear p6); (try clear c7); (try clear c9); (try clear c11); (try clear c12); (try clear c16); (try clear c16b0); (try clear c17); (try clear c17b0); (try clear c18); (try clear c18b0); (try clear c20); (try clear c20b0); (try clear p20); (try clear q20); (try clear hx20); (try clear c25); (try clear c27); (try clear c28); (try clear c29); (try clear c33); (try clear c33b0); (try clear c33b1); (try clear c34); (try clear c34b0); (try clear c34b1); (try clear c35); (try clear c36); (try clear c37); (try clear Z13); (try clear Z30); (try clear Z38); (try clear Z41); (try clear Z44); (try clear Z8); (try clear hx209_0); (try clear p2); (try clear p20); (try clear p209); (try clear p6); (try clear q2); (try clear q20); (try clear q209)
     obtain ⟨x209000_2, x209002_2, x209003_2, u209002, u209003, HA, HK2, HO_209002, HO_209003, BK198, BK199, BK208, HB⟩ := hrel
     cases gk with
     | zero => exact absurd HA.out (by simp [impl_Ear_hear.l1])
     | succ k2 =>
      have H := HA.out; clear HA
      simp only [impl_Ear_hear.l1] at H
      by_cases c45 : (x209003_2.length : Int) > 0
      ·rw [if_pos c45] at H
       have c45b0 : decide (0 < (x209003_2.length : Int)) = true := decide_eq_true c45
       have c45b1 : decide (0 < x209003_2.length) = true := decide_eq_true (by omega)
       clear c45
       by_cases c46 : 0 < (x209003_2.length : Int)
       ·rw [if_pos c46] at H
        have c46b0 : decide (0 < (x209003_2.length : Int)) = true := decide_eq_true c46
        have c46b1 : decide (0 < x209003_2.length) = true := decide_eq_true (by omega)
        clear c46
        by_cases c47 : ((rd_T96 x209003_2 0).f0) = x209000_2
        ·rw [if_pos c47] at H
         have c47b0 : (((rd_T96 x209003_2 0).f0) == x209000_2) = true := beq_iff_eq.mpr c47
         have c47b1 : (((rd_T96 x209003_2 0).f0) != x209000_2) = false := bne_eq_false_iff_eq.mpr c47
         clear c47
         by_cases c48 : x209002_2.length < 140737488355328
         ·rw [if_pos c48] at H
          have LMc48 := Aside0.mk c48; clear c48
          obtain ⟨y218, hy218⟩ : ∃ y_ : List Int, y_ = (x209002_2 ++ [(rd_T96 x209003_2 0).f1]) := ⟨_, rfl⟩
          (first | replace H := sb_ hy218 H | rw [← hy218] at H)
          have Ny218 := Aside0.mk hy218; clear hy218
          by_cases c49 : 1 ≤ (x209003_2.length : Int)
          ·rw [if_pos c49] at H
           have c49b0 := eq_true c49
           have c49b1 : decide (1 ≤ (x209003_2.length : Int)) = true := decide_eq_true c49
           clear c49
           obtain ⟨y221, hy221⟩ : ∃ y_ : List (S96), y_ = (x209003_2.drop (1 : Int).toNat) := ⟨_, rfl⟩
           (first | replace H := sb_ hy221 H | rw [← hy221] at H)
           have Ny221 := Aside0.mk hy221; clear hy221
           have H' := Aside0.mk H
           clear H
           try go_wp2
           replace HO_209002 := Aside0.mk (Kd.R_drew HO_209002.out); replace HO_209003 := Aside0.mk (Kd.Q_drew HO_209003.out); replace BK198 := Aside0.mk (blk_drew BK198.out); replace BK199 := Aside0.mk (blk_drew BK199.out); replace BK208 := Aside0.mk (blk_drew BK208.out); replace HB := (bd_ HB)
           obtain ⟨Ao51, co51, eo51, _⟩ := Kd.Q_slice HO_209003.out
           (first | subst eo51 | (injection eo51 with f1_ f2_ f3_; have f4_ := f1_.symm; have f5_ := f3_.symm; clear f1_ f2_ f3_; subst f4_; subst f5_))
           have p216 : 0 ≤ (0 : Int) := (by omega)
           have q216 : 0 < (x209003_2.length : Int) := of_decide_eq_true (by first | (with_reducible assumption) | assumption)
           obtain ⟨ad216, e216, hx216_0, hx216_1⟩ := at_T96 (Kd.Q_reads' HO_209003.out).2.2 0 p216 q216
           cases e216
           have qi216 : (0 < x209003_2.length) = True := eq_true (by omega)
           (try rw [show ((0 : Int)).toNat = 0 from rfl] at hx216_0)
           (try rw [show 0 * 2 = 0 from rfl] at hx216_0)
           (try rw [Addr.add_zero'] at hx216_0)
           (try rw [show ((0 : Int)).toNat = 0 from rfl] at hx216_1)
           (try rw [show 0 * 2 = 0 from rfl] at hx216_1)
           (try rw [Addr.add_zero'] at hx216_1)
           replace p216 := eq_true p216
           replace q216 := eq_true q216
           refine start_ (n := 14) (S := fun w' => w'.cell? ⟨gb208, 0, none⟩ = some (.int .i64 x209000_2) ∧ w'.cell? ⟨gb208, 1, none⟩ = some (.int .i64 t201) ∧ w'.cell? ⟨gb208, 2, none⟩ = some (u209002) ∧ w'.cell? ⟨gb208, 3, none⟩ = some (.slice (some ad216) x209003_2.length co51) ∧ w'.cell? ad216 = some (.int .i64 ((rd_T96 x209003_2 0).f0)) ∧ w'.cell? ⟨ad216.block, ad216.off + 1, none⟩ = some (.int .u8 ((rd_T96 x209003_2 0).f1))) (ds := []) #[false, false, false, false, false, false, false, false, false, false, false, false, false, false] (by kernel_rfl) rfl rfl ⟨bc_ BK208 0, bc_ BK208 1, bc_ BK208 2, bc_ BK208 3, hx216_0, hx216_1⟩ (fun hHeld => ?_); refine with_tabW impl_Ear_hear.tab11 impl_Ear_hear.bits11 (fun HT_ HW_ => ?_)
           generalize wr.drew = w50 at HO_209002 HO_209003 BK198 BK199 BK208 HB hx216_0 hx216_1 hHeld ⊢
           refine pu_ (i := 0) (N := some 57) HT_ ?_; refine tk_ (i := 1) (N := some 58) HT_ HW_ hHeld ?_; refine pu_ (i := 2) (N := some 59) HT_ ?_; refine pu_ (i := 3) (N := some 60) HT_ ?_; refine pu_ (i := 4) (N := some 61) HT_ ?_; refine pu_ (i := 5) (N := some 62) HT_ ?_; refine pu_ (i := 10) (N := some 67) HT_ ?_; refine tk_ (i := 6) (N := some 63) HT_ HW_ hHeld ?_; refine pu_ (i := 7) (N := some 64) HT_ ?_; refine pu_ (i := 8) (N := some 65) HT_ ?_; refine tk_ (i := 9) (N := some 66) HT_ HW_ hHeld ?_; refine tk_ (i := 11) (N := some 68) HT_ HW_ hHeld ?_; refine pu_ (i := 12) (N := some 69) HT_ ?_; refine pu_ (i := 13) (N := some 70) HT_ ?_
           refine done_ (done_of HT_.out (by kernel_rfl)) ?_
           try go_wp2
           replace HO_209002 := Aside0.mk (Kd.R_drew HO_209002.out); replace HO_209003 := Aside0.mk (Kd.Q_drew HO_209003.out); replace BK198 := Aside0.mk (blk_drew BK198.out); replace BK199 := Aside0.mk (blk_drew BK199.out); replace BK208 := Aside0.mk (blk_drew BK208.out); replace HB := (bd_ HB)
           have p217 : 0 ≤ (0 : Int) := (by omega)
           have q217 : 0 < (x209003_2.length : Int) := of_decide_eq_true (by first | (with_reducible assumption) | assumption)
           obtain ⟨ad217, e217, hx217_0, hx217_1⟩ := at_T96 (Kd.Q_reads' HO_209003.out).2.2 0 p217 q217
           obtain rfl : ad216 = ad217 := (by injection e217)
           have qi217 : (0 < x209003_2.length) = True := eq_true (by omega)
           (try rw [show ((0 : Int)).toNat = 0 from rfl] at hx217_0)
           (try rw [show 0 * 2 = 0 from rfl] at hx217_0)
           (try rw [Addr.add_zero'] at hx217_0)
           (try rw [show ((0 : Int)).toNat = 0 from rfl] at hx217_1)
           (try rw [show 0 * 2 = 0 from rfl] at hx217_1)
           (try rw [Addr.add_zero'] at hx217_1)
           replace p217 := eq_true p217
           replace q217 := eq_true q217
           refine start_ (n := 11) (S := fun w' => w'.cell? ⟨gb208, 0, none⟩ = some (.int .i64 x209000_2) ∧ w'.cell? ⟨gb208, 1, none⟩ = some (.int .i64 t201) ∧ w'.cell? ⟨gb208, 2, none⟩ = some (u209002) ∧ w'.cell? ⟨gb208, 3, none⟩ = some (.slice (some ad216) x209003_2.length co51) ∧ w'.cell? ad216 = some (.int .i64 ((rd_T96 x209003_2 0).f0)) ∧ w'.cell? ⟨ad216.block, ad216.off + 1, none⟩ = some (.int .u8 ((rd_T96 x209003_2 0).f1))) (ds := [8, 10]) #[false, false, false, false, false, false, false, false, false, false, false] (by kernel_rfl) rfl rfl ⟨bc_ BK208 0, bc_ BK208 1, bc_ BK208 2, bc_ BK208 3, hx217_0, hx217_1⟩ (fun hHeld => ?_); refine with_tabW impl_Ear_hear.tab12 impl_Ear_hear.bits12 (fun HT_ HW_ => ?_)
           generalize w50.drew = w52 at HO_209002 HO_209003 BK198 BK199 BK208 HB hx217_0 hx217_1 hHeld ⊢
           refine pu_ (i := 0) (N := some 71) HT_ ?_; refine pu_ (i := 2) (N := some 73) HT_ ?_; refine tk_ (i := 1) (N := some 72) HT_ HW_ hHeld ?_; refine tk_ (i := 3) (N := some 74) HT_ HW_ hHeld ?_; refine pu_ (i := 4) (N := some 75) HT_ ?_; refine pu_ (i := 5) (N := some 76) HT_ ?_; refine tk_ (i := 6) (N := some 77) HT_ HW_ hHeld ?_
           refine on_ (i := 7) (N := some 78) HT_ (fun K hK => ?_)
           refine value_ (w1 := ?_) (v := ?_) (by rfl) rfl ?_ ?_
           rotate_left 2
           ·go_simp
            constructor
            ·rfl
            ·rfl
           refine hK.out _ _ ⟨(blk_cell (blk_alloc BK208.out _) 0).trans rfl, (blk_cell (blk_alloc BK208.out _) 1).trans rfl, (blk_cell (blk_alloc BK208.out _) 2).trans rfl, (blk_cell (blk_alloc BK208.out _) 3).trans rfl, (World.cell?_alloc_lt _ _ _ (World.block_lt_of_cell? _ _ (hHeld.2.2.2.2.1))).trans (hHeld.2.2.2.2.1), (World.cell?_alloc_lt _ _ _ (World.block_lt_of_cell? _ _ (hHeld.2.2.2.2.2))).trans (hHeld.2.2.2.2.2)⟩ (fun hHeld => ?_)
           clear hK K; refine nm_ 78 ?_
           refine last_ (i := 8) (N := some 79) #[true, true, true, true, true, true, true, true, true, false, false] rfl rfl (one_of HT_.out (by kernel_rfl)) (by decide) (fun K hK => ?_)
           refine Kd.R_append_step (Kd.int .u8) (w0 := w) w.heap.size (by rfl) (.tmp 72) (.tmp 78) 22 5 (.int .u8 0) 1 rfl Try.underlying22 info5 rfl (by decide) (by omega) u209002 x209002_2 ((rd_T96 x209003_2 0).f1) [.int .u8 ((rd_T96 x209003_2 0).f1)] (fun _ => True) (fun _ => False) rfl rfl ?aP (fun _ hk => hk.elim) ?aF ?aO ?aB ?aS ?aL ?_
           (case aP => exact rfl)
           (case aB => exact (hbA_ HB.out))
           (case aF => exact (fun _ _ => trivial))
           (case aO => exact (kR_ HO_209002.out))
           (case aS => exact (below_size (hbA_ HB.out)))
           (case aL => have := LMc48.out; omega)
           intro v219 w53 ho hb hg hat
           rw [← Ny218.out] at ho
           have n0_ := Aside0.mk (Kd.Q_over' (by (with_reducible repeat (first | apply Kd.Q_alloc | apply Kd.Q_drewN | apply Kd.Q_drew)); exact HO_209003.out) (Kd.R_typed (kR_ HO_209002.out)) (by decide) hg); have n1_ := (bgA_ BK198 hg (Kd.R_ne HO_209002.out BK198.out (by decide))); have n2_ := (bgA_ BK199 hg (Kd.R_ne HO_209002.out BK199.out (by decide))); have n3_ := (bgA_ BK208 hg (Kd.R_ne HO_209002.out BK208.out (by decide))); have n4_ := Aside0.mk (hb); have n5_ := Aside0.mk (ho); clear HO_209003 BK198 BK199 BK208 HB HO_209002; have HO_209003 := n0_; have BK198 := n1_; have BK199 := n2_; have BK208 := n3_; have HB := n4_; have HO220 := n5_; clear n0_ n1_ n2_ n3_ n4_ n5_ ho hb hg hat
           obtain ⟨Ao54, co54, eo54⟩ := Kd.R_slice HO220.out
           (first | subst eo54 | (injection eo54 with f1_ f2_ f3_; have f4_ := f1_.symm; have f5_ := f3_.symm; clear f1_ f2_ f3_; subst f4_; subst f5_))
           refine hK.out _ _ ?_
           clear hK K; refine nm_ 79 ?_; refine pu_ (i := 9) (N := some 80) HT_ ?_
           refine last_ (i := 10) (N := none) #[true, true, true, true, true, true, true, true, true, true, true] rfl rfl (one_of HT_.out (by kernel_rfl)) (by decide) (fun K hK => ?_)
           have hs55 : w53.cell? ⟨gb208, 2, none⟩ = some (u209002) := bc_ BK208 2
           have hfs55 := blk_frozen BK208.out 2
           have hns55_0 := NB198_208.out; have hns55_1 := NB199_208.out; have hms55_0 := NB208_198.out; have hms55_1 := NB208_199.out
           refine skip_ (w1 := ?_) (by rfl) rfl ?_ ?_
           rotate_left
           ·go_simp
            rfl
           refine hK.out _ _ ?_
           clear hK K
           refine done_ (done_of HT_.out (by kernel_rfl)) ?_
           obtain ⟨w56, h_w56⟩ : ∃ w_, (w53.setCell ⟨gb208, 2, none⟩ (.slice Ao54 y218.length co54)) = w_ := ⟨_, rfl⟩
           have n0_ : Aside0 (Kd.Q k96 96 w56 w.heap.size (fun _ => True) (.slice (some ad216) x209003_2.length co51) x209003_2) := ⟨by subst h_w56; (with_reducible repeat (first | apply Kd.Q_alloc | apply Kd.Q_drewN | apply Kd.Q_drew)); exact Kd.Q_mono (Kd.Q_far (p := ⟨gb208, 2, none⟩) (Kd.Q_types HO_209003.out BK208.out (by decide)) (fun _ hk => hk.2) (.slice Ao54 y218.length co54)) (fun _ hk => trivial)⟩
           have n1_ : Aside0 (Kd.R (Kd.int .u8) 5 w56 w.heap.size (fun _ => True) (.slice Ao54 y218.length co54) y218) := ⟨by subst h_w56; refine kR_ ?_; exact Kd.R_mono (Kd.R_f gb208 2 (.slice Ao54 y218.length co54) (Kd.R_types HO220.out BK208.out (by decide))) (fun _ hk => trivial)⟩
           have n2_ : Aside0 (w56.heap[gb198]? = some (.cells #[.int .i64 a0_0, .int .i64 a0_1, .slice A0_2 l0_2.length c0_2, .slice A0_3 l0_3.length c0_3] 48 (0, 0))) := ⟨by subst h_w56; exact kf_ BK198.out⟩
           have n3_ : Aside0 (w56.heap[gb199]? = some (.cells #[.int .i64 0, .int .i64 0, .slice none 0 0, .slice none 0 0] 48 (0, 0))) := ⟨by subst h_w56; exact kf_ BK199.out⟩
           have n4_ : Aside0 (w56.heap[gb208]? = some (.cells #[.int .i64 x209000_2, .int .i64 t201, .slice Ao54 y218.length co54, .slice (some ad216) x209003_2.length co51] 48 (0, 0))) := ⟨by subst h_w56; refine kb_ ?_; refine blk_put (cs := #[.int .i64 x209000_2, .int .i64 t201, u209002, .slice (some ad216) x209003_2.length co51]) ?_ 2 _ rfl; refine kb_ ?_; exact BK208.out⟩
           have n5_ : Aside0 (Below w.heap.size w w56) := ⟨by subst h_w56; exact hbA_ HB.out⟩
           (try clear HO_209003); (try clear HO220); (try clear BK198); (try clear BK199); (try clear BK208); (try clear HB)
           (try rw [h_w56]); clear h_w56
           have HO_209003 := n0_; have HO220 := n1_; have BK198 := n2_; have BK199 := n3_; have BK208 := n4_; have HB := n5_; clear n0_ n1_ n2_ n3_ n4_ n5_; have hnb57 := NB208_198.out; have hnc57 := NB198_208.out; have hnb58 := NB208_199.out; have hnc58 := NB199_208.out; have Z59 := zz4 BK208
           have q60 : (1 : Int) ≤ ((x209003_2.length : Int) : Int) := of_decide_eq_true (by first | (with_reducible assumption) | assumption)
           obtain ⟨i060, hi060, _, hsz60, _⟩ := info_parts info96
           have hcut60 := cut_from (P := Try.prog) 46 96 .i64 Try.underlying46 hi060 2 hsz60 (some ad216) x209003_2.length co51 1 (by omega) q60
           have hr60 := Kd.Q_drop (k := (1 : Int).toNat) HO_209003.out (by omega)
           obtain ⟨A60, hA60⟩ : ∃ A1, A1 = (if co51 = (1 : Int).toNat then (some ad216) else ((some ad216) : Option Addr).map (·.add ((1 : Int).toNat * 2))) := ⟨_, rfl⟩
           obtain ⟨c60, hc60⟩ : ∃ c1, c1 = co51 - (1 : Int).toNat := ⟨_, rfl⟩
           have hy60 : y221.length = x209003_2.length - (1 : Int).toNat := (by rw [Ny221.out, List.length_drop])
           rw [← Ny221.out] at hr60
           rw [← hy60, ← hA60, ← hc60] at hcut60
           replace hr60 : Kd.Q k96 96 w56 w.heap.size (fun _ => True) (.slice A60 y221.length c60) y221 := (by rw [hA60, hc60, hy60]; exact hr60)
           have HE60 : Aside0 ((Value.slice A60 y221.length c60).ownBlock = (.slice (some ad216) x209003_2.length co51 : Value).ownBlock) := ⟨by rw [hA60]; split <;> (cases ((some ad216) : Option Addr) <;> first | rfl | simp [Value.ownBlock, add_block])⟩
           clear hy60 hi060 hsz60 HO_209003 hA60 hc60; have HO223 := Aside0.mk hr60; clear hr60
           replace q60 := eq_true q60
           try go_wp2
           go_roundg k2
           case measure => have := HK1.out; have := HK2.out; omega
           case rel => exact ⟨(wrap64 (x209000_2 + 1)), (y218), (y221), (.slice Ao54 y218.length co54), (.slice A60 y221.length c60), H', ⟨by have := HK1.out; have := HK2.out; omega⟩, ⟨by refine kR_ ?_; exact rfm_ ((Kd.R_types HO220.out BK208.out (by decide))) (fun _ hk => trivial)⟩, ⟨by (with_reducible repeat (first | apply Kd.Q_alloc | apply Kd.Q_drewN | apply Kd.Q_drew)); exact Kd.Q_mono (Kd.Q_far (p := ⟨gb208, 0, none⟩) (Kd.Q_far (p := ⟨gb208, 3, none⟩) (Kd.Q_types HO223.out BK208.out (by decide)) (fun _ hk => hk.2) (.slice A60 y221.length c60)) (fun _ hk => hk.2) (.int .i64 (wrap64 (x209000_2 + 1)))) (fun _ hk => trivial)⟩, ⟨by exact kf_ BK198.out⟩, ⟨by exact kf_ BK199.out⟩, ⟨by refine kb_ ?_; refine blk_put (cs := #[.int .i64 x209000_2, .int .i64 t201, .slice Ao54 y218.length co54, .slice A60 y221.length c60]) ?_ 0 _ rfl; refine kb_ ?_; refine blk_put (cs := #[.int .i64 x209000_2, .int .i64 t201, .slice Ao54 y218.length co54, .slice (some ad216) x209003_2.length co51]) ?_ 3 _ rfl; refine kb_ ?_; exact BK208.out⟩, ⟨hbA_ HB.out⟩⟩
          ·rw [if_neg c49] at H
           exact absurd H (by simp)
         ·rw [if_neg c48] at H
          exact absurd H (by simp)
        ·rw [if_neg c47] at H
         have c47b0 : (((rd_T96 x209003_2 0).f0) == x209000_2) = false := beq_eq_false_iff_ne.mpr c47
         have c47b1 : (((rd_T96 x209003_2 0).f0) != x209000_2) = true := bne_iff_ne.mpr c47
         replace H := Option.bind_eq_some_iff.mp H
         obtain ⟨⟨t224, t225, t226, t229⟩, A610, H⟩ := H
         (try dsimp only at H)
         have A61 := Aside0.mk A610; clear A610
         simp only [Option.some.injEq, Prod.mk.injEq] at H
         obtain ⟨rfl, rfl, rfl, rfl⟩ := H
         try go_wp2
         replace HO_209002 := Aside0.mk (Kd.R_drew HO_209002.out); replace HO_209003 := Aside0.mk (Kd.Q_drew HO_209003.out); replace BK198 := Aside0.mk (blk_drew BK198.out); replace BK199 := Aside0.mk (blk_drew BK199.out); replace BK208 := Aside0.mk (blk_drew BK208.out); replace HB := (bd_ HB)
         obtain ⟨Ao63, co63, eo63, _⟩ := Kd.Q_slice HO_209003.out
         (first | subst eo63 | (injection eo63 with f1_ f2_ f3_; have f4_ := f1_.symm; have f5_ := f3_.symm; clear f1_ f2_ f3_; subst f4_; subst f5_))
         have p216 : 0 ≤ (0 : Int) := (by omega)
         have q216 : 0 < (x209003_2.length : Int) := of_decide_eq_true (by first | (with_reducible assumption) | assumption)
         obtain ⟨ad216, e216, hx216_0, hx216_1⟩ := at_T96 (Kd.Q_reads' HO_209003.out).2.2 0 p216 q216
         cases e216
         have qi216 : (0 < x209003_2.length) = True := eq_true (by omega)
         (try rw [show ((0 : Int)).toNat = 0 from rfl] at hx216_0)
         (try rw [show 0 * 2 = 0 from rfl] at hx216_0)
         (try rw [Addr.add_zero'] at hx216_0)
         (try rw [show ((0 : Int)).toNat = 0 from rfl] at hx216_1)
         (try rw [show 0 * 2 = 0 from rfl] at hx216_1)
         (try rw [Addr.add_zero'] at hx216_1)
         replace p216 := eq_true p216
         replace q216 := eq_true q216
         refine start_ (n := 14) (S := fun w' => w'.cell? ⟨gb208, 0, none⟩ = some (.int .i64 x209000_2) ∧ w'.cell? ⟨gb208, 1, none⟩ = some (.int .i64 t201) ∧ w'.cell? ⟨gb208, 2, none⟩ = some (u209002) ∧ w'.cell? ⟨gb208, 3, none⟩ = some (.slice (some ad216) x209003_2.length co63) ∧ w'.cell? ad216 = some (.int .i64 ((rd_T96 x209003_2 0).f0)) ∧ w'.cell? ⟨ad216.block, ad216.off + 1, none⟩ = some (.int .u8 ((rd_T96 x209003_2 0).f1))) (ds := []) #[false, false, false, false, false, false, false, false, false, false, false, false, false, false] (by kernel_rfl) rfl rfl ⟨bc_ BK208 0, bc_ BK208 1, bc_ BK208 2, bc_ BK208 3, hx216_0, hx216_1⟩ (fun hHeld => ?_); refine with_tabW impl_Ear_hear.tab11 impl_Ear_hear.bits11 (fun HT_ HW_ => ?_)
         generalize wr.drew = w62 at HO_209002 HO_209003 BK198 BK199 BK208 HB hx216_0 hx216_1 hHeld ⊢
         refine pu_ (i := 0) (N := some 57) HT_ ?_; refine tk_ (i := 1) (N := some 58) HT_ HW_ hHeld ?_; refine pu_ (i := 2) (N := some 59) HT_ ?_; refine pu_ (i := 3) (N := some 60) HT_ ?_; refine pu_ (i := 4) (N := some 61) HT_ ?_; refine pu_ (i := 5) (N := some 62) HT_ ?_; refine pu_ (i := 10) (N := some 67) HT_ ?_; refine tk_ (i := 6) (N := some 63) HT_ HW_ hHeld ?_; refine pu_ (i := 7) (N := some 64) HT_ ?_; refine pu_ (i := 8) (N := some 65) HT_ ?_; refine tk_ (i := 9) (N := some 66) HT_ HW_ hHeld ?_; refine tk_ (i := 11) (N := some 68) HT_ HW_ hHeld ?_; refine pu_ (i := 12) (N := some 69) HT_ ?_; refine pu_ (i := 13) (N := some 70) HT_ ?_
         refine done_ (done_of HT_.out (by kernel_rfl)) ?_
         have hnb64 := NB208_198.out; have hnc64 := NB198_208.out; have hnb65 := NB208_199.out; have hnc65 := NB199_208.out; have Z66 := zz4 BK208
         obtain ⟨Ao67, co67, eo67⟩ := Kd.R_slice HO_209002.out
         subst eo67
         try go_wp2_with (first | ((with_reducible refine gate_callee (f := 78) rfl ?_); refine goesL_ (some 90) rfl rfl Try.func78 (by kernel_rfl) rfl #[.agg #[.int .i64 x209000_2, .int .i64 t201, .slice Ao67 x209002_2.length co67, .slice (some ad216) x209003_2.length co63]] rfl ar_ ?_; (with_reducible refine (impl_Ear_copy.calls x209000_2 t201 _ _ x209002_2 _ _ x209003_2 t224 t225 t226 t229 _ ?side1 ?side2 ?side3 ?side4 A61.out).mono ?_); (case side1 => exact kC_ (Kd.R_reads' HO_209002.out).2.2); (case side2 => exact (Kd.R_reads' HO_209002.out).2.1); (case side3 => exact kC_ (Kd.Q_reads' HO_209003.out).2.2); (case side4 => exact (Kd.Q_reads' HO_209003.out).2.1); rintro e w68 ⟨v227, v230, rfl, ho0, ho1, hb⟩; refine ⟨_, rfl, ?_⟩; have HO228 := Aside0.mk (Kd.R_lower (Kd.R_new' ho0 (Kd.R_lt (kR_ HO_209002.out))) (below_size (hbA_ HB.out))); replace HO_209002 := Aside0.mk (Kd.R_elder' (kR_ HO_209002.out) (Kd.R_base ho0) hb); have HO231 := Aside0.mk (Kd.R_lower (Kd.R_new' ho1 (Kd.Q_lt (by (with_reducible repeat (first | apply Kd.Q_alloc | apply Kd.Q_drewN | apply Kd.Q_drew)); exact HO_209003.out))) (below_size (hbA_ HB.out))); replace HO_209003 := Aside0.mk (Kd.Q_elder' (by (with_reducible repeat (first | apply Kd.Q_alloc | apply Kd.Q_drewN | apply Kd.Q_drew)); exact HO_209003.out) (Kd.R_base ho1) hb); replace BK198 := (bbA_ BK198 hb); replace BK199 := (bbA_ BK199 hb); replace BK208 := (bbA_ BK208 hb); replace HB := (bs_ HB hb); (try clear hb); (try clear hb2); (try clear hk); (try clear hi); (try clear ho0); (try clear ho1); have hnb69 := NB199_198.out; have hnc69 := NB198_199.out; have Z70 := zz4 BK199; obtain ⟨Ao71, co71, eo71⟩ := Kd.R_slice HO228.out; subst eo71; obtain ⟨Ao72, co72, eo72⟩ := Kd.R_slice HO231.out; subst eo72))
         refine bodyPost_ret (results_cell_row rfl _ _ gb199 48 #[.int .i64 t224, .int .i64 t225, .slice Ao71 t226.length co71, .slice Ao72 t229.length co72] (0, 0) _ rfl (by refine kb_ ?_; refine pz4 (cs := #[.int .i64 0, .int .i64 0, .slice none 0 0, .slice none 0 0]) ?_; refine kb_ ?_; exact BK199.out) Try.underlying48 rfl (by kernel_rfl)) rfl ?_
         exact ⟨_, _, by first | rfl | (simp [errW_none, errW_some] <;> rfl) | (simp [*, errW_none, errW_some] <;> rfl), by refine kR_ ?_; exact rfm_ ((Kd.R_types HO228.out BK199.out (by decide))) (fun _ hk => trivial), by refine kR_ ?_; exact rfm_ ((Kd.R_types HO231.out BK199.out (by decide))) (fun _ hk => trivial), hbA_ HB.out⟩
       ·rw [if_neg c46] at H
        exact absurd H (by simp)
      ·rw [if_neg c45] at H
       have c45b0 : decide (0 < (x209003_2.length : Int)) = false := decide_eq_false c45
       have c45b1 : decide (0 < x209003_2.length) = false := decide_eq_false (by omega)
       clear c45
       replace H := Option.bind_eq_some_iff.mp H
       obtain ⟨⟨t232, t233, t234, t237⟩, A730, H⟩ := H
       (try dsimp only at H)
       have A73 := Aside0.mk A730; clear A730
       simp only [Option.some.injEq, Prod.mk.injEq] at H
       obtain ⟨rfl, rfl, rfl, rfl⟩ := H
       try go_wp2
       replace HO_209002 := Aside0.mk (Kd.R_drew HO_209002.out); replace HO_209003 := Aside0.mk (Kd.Q_drew HO_209003.out); replace BK198 := Aside0.mk (blk_drew BK198.out); replace BK199 := Aside0.mk (blk_drew BK199.out); replace BK208 := Aside0.mk (blk_drew BK208.out); replace HB := (bd_ HB)
       obtain ⟨Ao75, co75, eo75, _⟩ := Kd.Q_slice HO_209003.out
       (first | subst eo75 | (injection eo75 with f1_ f2_ f3_; have f4_ := f1_.symm; have f5_ := f3_.symm; clear f1_ f2_ f3_; subst f4_; subst f5_))
       refine start_ (n := 14) (S := fun w' => w'.cell? ⟨gb208, 0, none⟩ = some (.int .i64 x209000_2) ∧ w'.cell? ⟨gb208, 1, none⟩ = some (.int .i64 t201) ∧ w'.cell? ⟨gb208, 2, none⟩ = some (u209002) ∧ w'.cell? ⟨gb208, 3, none⟩ = some (.slice Ao75 x209003_2.length co75)) (ds := []) #[false, false, false, false, false, false, false, false, false, false, false, false, false, false] (by kernel_rfl) rfl rfl (cz4 BK208.out) (fun hHeld => ?_); refine with_tabW impl_Ear_hear.tab11 impl_Ear_hear.bits11 (fun HT_ HW_ => ?_)
       generalize wr.drew = w74 at HO_209002 HO_209003 BK198 BK199 BK208 HB hHeld ⊢
       refine pu_ (i := 0) (N := some 57) HT_ ?_; refine tk_ (i := 1) (N := some 58) HT_ HW_ hHeld ?_; refine pu_ (i := 2) (N := some 59) HT_ ?_; refine pu_ (i := 3) (N := some 60) HT_ ?_; refine pu_ (i := 4) (N := some 61) HT_ ?_; refine pn_ (i := 5) (N := some 62) HT_ ?_; refine pn_ (i := 6) (N := some 63) HT_ ?_; refine pn_ (i := 7) (N := some 64) HT_ ?_; refine pn_ (i := 8) (N := some 65) HT_ ?_; refine pn_ (i := 9) (N := some 66) HT_ ?_; refine pn_ (i := 10) (N := some 67) HT_ ?_; refine pn_ (i := 11) (N := some 68) HT_ ?_; refine pn_ (i := 12) (N := some 69) HT_ ?_; refine pu_ (i := 13) (N := some 70) HT_ ?_
       refine done_ (done_of HT_.out (by kernel_rfl)) ?_
       have hnb76 := NB208_198.out; have hnc76 := NB198_208.out; have hnb77 := NB208_199.out; have hnc77 := NB199_208.out; have Z78 := zz4 BK208
       obtain ⟨Ao79, co79, eo79⟩ := Kd.R_slice HO_209002.out
       subst eo79
       try go_wp2_with (first | ((with_reducible refine gate_callee (f := 78) rfl ?_); refine goesL_ (some 90) rfl rfl Try.func78 (by kernel_rfl) rfl #[.agg #[.int .i64 x209000_2, .int .i64 t201, .slice Ao79 x209002_2.length co79, .slice Ao75 x209003_2.length co75]] rfl ar_ ?_; (with_reducible refine (impl_Ear_copy.calls x209000_2 t201 _ _ x209002_2 _ _ x209003_2 t232 t233 t234 t237 _ ?side1 ?side2 ?side3 ?side4 A73.out).mono ?_); (case side1 => exact kC_ (Kd.R_reads' HO_209002.out).2.2); (case side2 => exact (Kd.R_reads' HO_209002.out).2.1); (case side3 => exact kC_ (Kd.Q_reads' HO_209003.out).2.2); (case side4 => exact (Kd.Q_reads' HO_209003.out).2.1); rintro e w80 ⟨v235, v238, rfl, ho0, ho1, hb⟩; refine ⟨_, rfl, ?_⟩; have HO236 := Aside0.mk (Kd.R_lower (Kd.R_new' ho0 (Kd.R_lt (kR_ HO_209002.out))) (below_size (hbA_ HB.out))); replace HO_209002 := Aside0.mk (Kd.R_elder' (kR_ HO_209002.out) (Kd.R_base ho0) hb); have HO239 := Aside0.mk (Kd.R_lower (Kd.R_new' ho1 (Kd.Q_lt (by (with_reducible repeat (first | apply Kd.Q_alloc | apply Kd.Q_drewN | apply Kd.Q_drew)); exact HO_209003.out))) (below_size (hbA_ HB.out))); replace HO_209003 := Aside0.mk (Kd.Q_elder' (by (with_reducible repeat (first | apply Kd.Q_alloc | apply Kd.Q_drewN | apply Kd.Q_drew)); exact HO_209003.out) (Kd.R_base ho1) hb); replace BK198 := (bbA_ BK198 hb); replace BK199 := (bbA_ BK199 hb); replace BK208 := (bbA_ BK208 hb); replace HB := (bs_ HB hb); (try clear hb); (try clear hb2); (try clear hk); (try clear hi); (try clear ho0); (try clear ho1); have hnb81 := NB199_198.out; have hnc81 := NB198_199.out; have Z82 := zz4 BK199; obtain ⟨Ao83, co83, eo83⟩ := Kd.R_slice HO236.out; subst eo83; obtain ⟨Ao84, co84, eo84⟩ := Kd.R_slice HO239.out; subst eo84))
       refine bodyPost_ret (results_cell_row rfl _ _ gb199 48 #[.int .i64 t232, .int .i64 t233, .slice Ao83 t234.length co83, .slice Ao84 t237.length co84] (0, 0) _ rfl (by refine kb_ ?_; refine pz4 (cs := #[.int .i64 0, .int .i64 0, .slice none 0 0, .slice none 0 0]) ?_; refine kb_ ?_; exact BK199.out) Try.underlying48 rfl (by kernel_rfl)) rfl ?_
       exact ⟨_, _, by first | rfl | (simp [errW_none, errW_some] <;> rfl) | (simp [*, errW_none, errW_some] <;> rfl), by refine kR_ ?_; exact rfm_ ((Kd.R_types HO236.out BK199.out (by decide))) (fun _ hk => trivial), by refine kR_ ?_; exact rfm_ ((Kd.R_types HO239.out BK199.out (by decide))) (fun _ hk => trivial), hbA_ HB.out⟩
def impl_EarHear.j0 : Nat → Int → List Int → Bool → Int → Int → List Int → List (S96) → Option (Int × Int × List Int × (List (S96)))
 | 0, _, _, _, _, _, _, _ => none
 | k + 1, x1, x2, x15, x241000, x241001, x241002, x241003 => if x15 = true then (some (0, 0, ([] : List Int), ([] : List (S96)))) else ((impl_Ear_hear.f k x241000 x241001 x241002 x241003 x1 x2).bind fun bt244 => (if bt244.1 > 1000000 then (some (0, 0, ([] : List Int), ([] : List (S96)))) else (some (bt244.1, bt244.2.1, bt244.2.2.1, bt244.2.2.2))))
def impl_EarHear.f (k : Nat) (a0_0 : Int) (a0_1 : Int) (l0_2 : List Int) (l0_3 : List (S96)) (a1 : Int) (l2 : List Int) : Option (Int × Int × List Int × (List (S96))) := (impl_EarOk.f k a0_0 a0_1 l0_2 l0_3).bind fun t242 => (if t242 = true then ((impl_in.f a1 0 1000000).bind fun t243 => (impl_EarHear.j0 k a1 l2 (!t243) a0_0 a0_1 l0_2 l0_3)) else (impl_EarHear.j0 k a1 l2 true a0_0 a0_1 l0_2 l0_3))
theorem impl_EarHear.mono_l : ∀ k, (∀ y0 y1 y2 y3 y4 y5 y6, LeO (impl_EarHear.j0 k y0 y1 y2 y3 y4 y5 y6) (impl_EarHear.j0 (k + 1) y0 y1 y2 y3 y4 y5 y6))
 | 0 => fun _ _ _ _ _ _ _ r h => by simp [impl_EarHear.j0] at h
 | k + 1 => by
  have ih0 := impl_EarHear.mono_l k
  ·intro y0 y1 y2 y3 y4 y5 y6
   unfold impl_EarHear.j0
   repeat' first | (with_reducible first | apply ih0 | apply impl_EarOk.mono | apply impl_Ear_hear.mono | exact LeO.refl _ | exact LeO.none _ | refine LeO.ite ?_ ?_ | refine LeO.bind ?_ fun _ => ?_) | apply ih0 | apply impl_EarOk.mono | apply impl_Ear_hear.mono | exact LeO.none _ | refine LeO.ite ?_ ?_ | refine LeO.bind ?_ fun _ => ?_
theorem impl_EarHear.mono : ∀ a0 a1 a2 a3 a4 a5 k, LeO (impl_EarHear.f k a0 a1 a2 a3 a4 a5) (impl_EarHear.f (k + 1) a0 a1 a2 a3 a4 a5) := by
 intro a0 a1 a2 a3 a4 a5 k
 have ih0 := impl_EarHear.mono_l k
 unfold impl_EarHear.f
 repeat' first | (with_reducible first | apply ih0 | apply impl_EarOk.mono | apply impl_Ear_hear.mono | exact LeO.refl _ | exact LeO.none _ | refine LeO.ite ?_ ?_ | refine LeO.bind ?_ fun _ => ?_) | apply ih0 | apply impl_EarOk.mono | apply impl_Ear_hear.mono | exact LeO.none _ | refine LeO.ite ?_ ?_ | refine LeO.bind ?_ fun _ => ?_
set_option maxHeartbeats 8000000 in
set_option maxRecDepth 100000 in
theorem impl_EarHear.calls (k : Nat) (a0_0 : Int) (a0_1 : Int) (A0_2 : Option Addr) (c0_2 : Nat) (l0_2 : List Int) (A0_3 : Option Addr) (c0_3 : Nat) (l0_3 : List (S96)) (a1 : Int) (A2 : Option Addr) (c2 : Nat) (l2 : List Int) (r1 : Int) (r2 : Int) (r3 : List Int) (r4 : List (S96)) (w : World) (hr0_2 : Kd.C (Kd.int .u8) w A0_2 l0_2.length l0_2) (hc0_2 : l0_2.length ≤ c0_2) (hr0_3 : Kd.C k96 w A0_3 l0_3.length l0_3) (hc0_3 : l0_3.length ≤ c0_3) (hr2 : Kd.C (Kd.int .u8) w A2 l2.length l2) (hc2 : l2.length ≤ c2) (h : impl_EarHear.f k a0_0 a0_1 l0_2 l0_3 a1 l2 = some (r1, r2, r3, r4)) :
  Calls Try.prog 27 #[.agg #[.int .i64 a0_0, .int .i64 a0_1, .slice A0_2 l0_2.length c0_2, .slice A0_3 l0_3.length c0_3], .int .i64 a1, .slice A2 l2.length c2] w fun e w' => ∃ v2_ v3_ : Value, e = .returned (.agg #[.int .i64 r1, .int .i64 r2, v2_, v3_]) ∧ Kd.R (Kd.int .u8) 5 w' w.heap.size (fun _ => True) v2_ r3 ∧ Kd.R k96 96 w' w.heap.size (fun _ => True) v3_ r4 ∧ Below w.heap.size w w' := by
 have hu48 := Try.underlying48; have HR0_2 := Aside0.mk hr0_2; have HC0_2 := Aside0.mk hc0_2; clear hr0_2 hc0_2; have HR0_3 := Aside0.mk hr0_3; have HC0_3 := Aside0.mk hc0_3; clear hr0_3 hc0_3; have HR2 := Aside0.mk hr2; have HC2 := Aside0.mk hc2; clear hr2 hc2
 have HB := Aside0.mk (Below.refl w.heap.size w)
 have H : ((impl_EarOk.f k a0_0 a0_1 l0_2 l0_3).bind fun t242 => (if t242 = true then ((impl_in.f a1 0 1000000).bind fun t243 => (impl_EarHear.j0 k a1 l2 (!t243) a0_0 a0_1 l0_2 l0_3)) else (impl_EarHear.j0 k a1 l2 true a0_0 a0_1 l0_2 l0_3))) = some (r1, r2, r3, r4) := h
 clear h; have HC4 := Aside0.mk H; clear H
 go_enter Try.func27, Try.ntmps27
 go_upto_region 1 with (first | ((with_reducible refine gate_dst (N := 3) rfl ?_); refine box_ (N := 3) (cs := #[.int .i64 a0_0, .int .i64 a0_1, .slice A0_2 l0_2.length c0_2, .slice A0_3 l0_3.length c0_3]) (t := 48) (fun gb240 hg w5 hbox hb => ?_); have BK240 := Aside0.mk (hbox); have GW240 := ge_ hg HB; have GE240 := ge_ hg HB; replace HB := (bs_ HB hb); clear hb hbox hg) | ((with_reducible refine gate_dst (N := 6) rfl ?_); refine box_ (N := 6) (cs := #[.int .i64 0, .int .i64 0, .slice none 0 0, .slice none 0 0]) (t := 48) (fun gb241 hg w6 hbox hb => ?_); have BK241 := Aside0.mk (hbox); have GW241 := ge_ hg HB; have GE241 := ge_ hg HB; replace HB := (bs_ HB hb); have NB240_241 := nl_ hg BK240; have NB241_240 := ng_ hg BK240; replace BK240 := (bbA_ BK240 hb); clear hb hbox hg))
 (try simp only [Act.put, List.setIfInBounds_toArray, List.set_cons_zero, List.set_cons_succ])
 go_cut [15] (fun v15 wc => ∃ (kq : Nat) (x15_3 : Bool), v15 = .bool x15_3 ∧ Aside0 (impl_EarHear.j0 kq a1 l2 x15_3 a0_0 a0_1 l0_2 l0_3 = some (r1, r2, r3, r4)) ∧ Aside0 (kq ≤ k) ∧ Aside0 (wc.heap[gb240]? = some (.cells #[.int .i64 a0_0, .int .i64 a0_1, (.slice A0_2 l0_2.length c0_2), (.slice A0_3 l0_3.length c0_3)] 48 (0, 0))) ∧ Aside0 (wc.heap[gb241]? = some (.cells #[.int .i64 0, .int .i64 0, (.slice none 0 0), (.slice none 0 0)] 48 (0, 0))) ∧ Aside0 (Below w.heap.size w wc))
 case first =>
  have H := HC4.out; clear HC4
  replace H := Option.bind_eq_some_iff.mp H
  obtain ⟨t242, A70, H⟩ := H
  (try dsimp only at H)
  have A7 := Aside0.mk A70; clear A70
  by_cases c8 : t242 = true
  ·subst c8
   rw [if_pos rfl] at H
   replace H := Option.bind_eq_some_iff.mp H
   obtain ⟨t243, A90, H⟩ := H
   (try dsimp only at H)
   have A9 := Aside0.mk A90; clear A90
   have H' := Aside0.mk H
   clear H; have hnb10 := NB240_241.out; have hnc10 := NB241_240.out; have Z11 := zz4 BK240
   go_wp2_with (first | ((with_reducible refine gate_callee (f := 35) rfl ?_); refine goesL_ (some 9) rfl rfl Try.func35 (by kernel_rfl) rfl #[.agg #[.int .i64 a0_0, .int .i64 a0_1, .slice A0_2 l0_2.length c0_2, .slice A0_3 l0_3.length c0_3]] rfl ar_ ?_; (with_reducible refine (impl_EarOk.calls k a0_0 a0_1 _ _ l0_2 _ _ l0_3 true _ ?side1 ?side2 ?side3 ?side4 A7.out).mono ?_); (case side1 => exact kC_ (Kd.C_below HR0_2.out HB.out)); (case side2 => exact HC0_2.out); (case side3 => exact kC_ (Kd.C_below HR0_3.out HB.out)); (case side4 => exact HC0_3.out); rintro e w12 ⟨rfl, hb⟩; refine ⟨_, rfl, ?_⟩; replace BK240 := (bbA_ BK240 hb); replace BK241 := (bbA_ BK241 hb); replace HB := (bs_ HB hb); (try clear hb); (try clear hb2); (try clear hk); (try clear hi)) | (go_at_call 56; (with_reducible refine (impl_in.calls a1 0 1000000 t243 _ A9.out).mono ?_); rintro e w' ⟨rfl, ⟨nd, rfl⟩⟩))
   go_meet
   case rel => exact ⟨_, (!t243), (by first | rfl | (simp; done) | (simp [*]; done)), H', ⟨by first | omega | exact Nat.le_refl _⟩, ⟨by refine kb_ ?_; exact BK240.out⟩, ⟨by refine kb_ ?_; exact BK241.out⟩, ⟨hbA_ HB.out⟩⟩
  ·replace c8 := Bool.eq_false_iff.mpr c8
   subst c8
   rw [if_neg (show ¬ (false = true) by decide)] at H
   have H' := Aside0.mk H
   clear H; have hnb13 := NB240_241.out; have hnc13 := NB241_240.out; have Z14 := zz4 BK240
   go_wp2_with (first | ((with_reducible refine gate_callee (f := 35) rfl ?_); refine goesL_ (some 9) rfl rfl Try.func35 (by kernel_rfl) rfl #[.agg #[.int .i64 a0_0, .int .i64 a0_1, .slice A0_2 l0_2.length c0_2, .slice A0_3 l0_3.length c0_3]] rfl ar_ ?_; (with_reducible refine (impl_EarOk.calls k a0_0 a0_1 _ _ l0_2 _ _ l0_3 false _ ?side1 ?side2 ?side3 ?side4 A7.out).mono ?_); (case side1 => exact kC_ (Kd.C_below HR0_2.out HB.out)); (case side2 => exact HC0_2.out); (case side3 => exact kC_ (Kd.C_below HR0_3.out HB.out)); (case side4 => exact HC0_3.out); rintro e w15 ⟨rfl, hb⟩; refine ⟨_, rfl, ?_⟩; replace BK240 := (bbA_ BK240 hb); replace BK241 := (bbA_ BK241 hb); replace HB := (bs_ HB hb); (try clear hb); (try clear hb2); (try clear hk); (try clear hi)))
   go_meet
   case rel => exact ⟨_, (true), (by first | rfl | (simp; done) | (simp [*]; done)), H', ⟨by first | omega | exact Nat.le_refl _⟩, ⟨by refine kb_ ?_; exact BK240.out⟩, ⟨by refine kb_ ?_; exact BK241.out⟩, ⟨hbA_ HB.out⟩⟩
 case rest =>
  clear HC4; (try clear c1); (try clear c2); (try clear p2); (try clear c3); (try clear c8); (try clear c10); (try clear c13); (try clear Z11); (try clear Z14)
  obtain ⟨kq, x15_3, rfl, HA, HJ3, BK240, BK241, HB⟩ := hcut
  cases kq with
  | zero => exact absurd HA.out (by simp [impl_EarHear.j0])
  | succ kj3 =>
   have H := HA.out; clear HA
   simp only [impl_EarHear.j0] at H
   by_cases c16 : x15_3 = true
   ·subst c16
    rw [if_pos rfl] at H
    simp only [Option.some.injEq, Prod.mk.injEq] at H
    obtain ⟨rfl, rfl, rfl, rfl⟩ := H
    have hnb17 := NB241_240.out; have hnc17 := NB240_241.out; have Z18 := zz4 BK241
    go_wp2
    refine bodyPost_ret (results_cell_row rfl _ _ gb241 48 #[.int .i64 0, .int .i64 0, .slice none 0 0, .slice none 0 0] (0, 0) _ rfl (by refine kb_ ?_; refine pz4 (cs := #[.int .i64 0, .int .i64 0, .slice none 0 0, .slice none 0 0]) ?_; refine kb_ ?_; exact BK241.out) Try.underlying48 rfl (by kernel_rfl)) rfl ?_
    exact ⟨_, _, by first | rfl | (simp [errW_none, errW_some] <;> rfl) | (simp [*, errW_none, errW_some] <;> rfl), by first | exact Kd.R_nil _ _ _ _ _ | exact Kd.N_nil _ _ _ _ _ | exact Kd.V_nil _ _ _ _ _ | exact Kd.Q_nil _ _ _ _ _ | exact Kd.S_nil _ _ _ _ _, by first | exact Kd.R_nil _ _ _ _ _ | exact Kd.N_nil _ _ _ _ _ | exact Kd.V_nil _ _ _ _ _ | exact Kd.Q_nil _ _ _ _ _ | exact Kd.S_nil _ _ _ _ _, hbA_ HB.out⟩
   ·replace c16 := Bool.eq_false_iff.mpr c16
    subst c16
    rw [if_neg (show ¬ (false = true) by decide)] at H
    replace H := Option.bind_eq_some_iff.mp H
    obtain ⟨⟨t244, t245, t246, t249⟩, A190, H⟩ := H
    (try dsimp only at H)
    have A19 := Aside0.mk A190; clear A190
    by_cases c20 : t244 > 1000000
    ·rw [if_pos c20] at H
     have c20b0 : decide (1000000 < t244) = true := decide_eq_true c20
     clear c20
     simp only [Option.some.injEq, Prod.mk.injEq] at H
     obtain ⟨rfl, rfl, rfl, rfl⟩ := H
     have hnb21 := NB240_241.out; have hnc21 := NB241_240.out; have Z22 := zz4 BK240
     go_wp2_with (first | ((with_reducible refine gate_callee (f := 70) rfl ?_); refine goesL_ (some 20) rfl rfl Try.func70 (by kernel_rfl) rfl #[.agg #[.int .i64 a0_0, .int .i64 a0_1, .slice A0_2 l0_2.length c0_2, .slice A0_3 l0_3.length c0_3], .int .i64 a1, .slice A2 l2.length c2] rfl ar_ ?_; (with_reducible refine (impl_Ear_hear.calls kj3 a0_0 a0_1 _ _ l0_2 _ _ l0_3 a1 _ _ l2 t244 t245 t246 t249 _ ?side1 ?side2 ?side3 ?side4 ?side5 ?side6 A19.out).mono ?_); (case side1 => exact kC_ (Kd.C_below HR0_2.out HB.out)); (case side2 => exact HC0_2.out); (case side3 => exact kC_ (Kd.C_below HR0_3.out HB.out)); (case side4 => exact HC0_3.out); (case side5 => exact kC_ (Kd.C_below HR2.out HB.out)); (case side6 => exact HC2.out); rintro e w23 ⟨v247, v250, rfl, ho0, ho1, hb⟩; refine ⟨_, rfl, ?_⟩; have HO248 := Aside0.mk (Kd.R_lower ho0 (below_size (hbA_ HB.out))); have HO251 := Aside0.mk (Kd.R_lower ho1 (below_size (hbA_ HB.out))); replace BK240 := (bbA_ BK240 hb); replace BK241 := (bbA_ BK241 hb); replace HB := (bs_ HB hb); (try clear hb); (try clear hb2); (try clear hk); (try clear hi); (try clear ho0); (try clear ho1)) | ((with_reducible refine gate_dst (N := 7) rfl ?_); refine box_ (N := 7) (cs := #[.int .i64 0, .int .i64 0, .slice none 0 0, .slice none 0 0]) (t := 48) (fun gb252 hg w24 hbox hb => ?_); replace HO248 := Aside0.mk (Kd.R_below (kR_ HO248.out) hb); replace HO251 := Aside0.mk (Kd.R_below (kR_ HO251.out) hb); have BK252 := Aside0.mk (hbox); have GW252 := ge_ hg HB; have GE252 := ge_ hg HB; replace HB := (bs_ HB hb); have NB240_252 := nl_ hg BK240; have NB252_240 := ng_ hg BK240; replace BK240 := (bbA_ BK240 hb); have NB241_252 := nl_ hg BK241; have NB252_241 := ng_ hg BK241; replace BK241 := (bbA_ BK241 hb); clear hb hbox hg; have hnb25 := NB252_240.out; have hnc25 := NB240_252.out; have hnb26 := NB252_241.out; have hnc26 := NB241_252.out; have Z27 := zz4 BK252; obtain ⟨Ao28, co28, eo28⟩ := Kd.R_slice HO248.out; subst eo28; obtain ⟨Ao29, co29, eo29⟩ := Kd.R_slice HO251.out; subst eo29; have Z30 := zz4 BK241))
     refine bodyPost_ret (results_cell_row rfl _ _ gb241 48 #[.int .i64 0, .int .i64 0, .slice none 0 0, .slice none 0 0] (0, 0) _ rfl (by refine kb_ ?_; refine pz4 (cs := #[.int .i64 0, .int .i64 0, .slice none 0 0, .slice none 0 0]) ?_; exact kf_ BK241.out) Try.underlying48 rfl (by kernel_rfl)) rfl ?_
     exact ⟨_, _, by first | rfl | (simp [errW_none, errW_some] <;> rfl) | (simp [*, errW_none, errW_some] <;> rfl), by first | exact Kd.R_nil _ _ _ _ _ | exact Kd.N_nil _ _ _ _ _ | exact Kd.V_nil _ _ _ _ _ | exact Kd.Q_nil _ _ _ _ _ | exact Kd.S_nil _ _ _ _ _, by first | exact Kd.R_nil _ _ _ _ _ | exact Kd.N_nil _ _ _ _ _ | exact Kd.V_nil _ _ _ _ _ | exact Kd.Q_nil _ _ _ _ _ | exact Kd.S_nil _ _ _ _ _, hbA_ HB.out⟩
    ·rw [if_neg c20] at H
     have c20b0 : decide (1000000 < t244) = false := decide_eq_false c20
     clear c20
     simp only [Option.some.injEq, Prod.mk.injEq] at H
     obtain ⟨rfl, rfl, rfl, rfl⟩ := H
     have hnb31 := NB240_241.out; have hnc31 := NB241_240.out; have Z32 := zz4 BK240
     go_wp2_with (first | ((with_reducible refine gate_callee (f := 70) rfl ?_); refine goesL_ (some 20) rfl rfl Try.func70 (by kernel_rfl) rfl #[.agg #[.int .i64 a0_0, .int .i64 a0_1, .slice A0_2 l0_2.length c0_2, .slice A0_3 l0_3.length c0_3], .int .i64 a1, .slice A2 l2.length c2] rfl ar_ ?_; (with_reducible refine (impl_Ear_hear.calls kj3 a0_0 a0_1 _ _ l0_2 _ _ l0_3 a1 _ _ l2 t244 t245 t246 t249 _ ?side1 ?side2 ?side3 ?side4 ?side5 ?side6 A19.out).mono ?_); (case side1 => exact kC_ (Kd.C_below HR0_2.out HB.out)); (case side2 => exact HC0_2.out); (case side3 => exact kC_ (Kd.C_below HR0_3.out HB.out)); (case side4 => exact HC0_3.out); (case side5 => exact kC_ (Kd.C_below HR2.out HB.out)); (case side6 => exact HC2.out); rintro e w33 ⟨v247, v250, rfl, ho0, ho1, hb⟩; refine ⟨_, rfl, ?_⟩; have HO248 := Aside0.mk (Kd.R_lower ho0 (below_size (hbA_ HB.out))); have HO251 := Aside0.mk (Kd.R_lower ho1 (below_size (hbA_ HB.out))); replace BK240 := (bbA_ BK240 hb); replace BK241 := (bbA_ BK241 hb); replace HB := (bs_ HB hb); (try clear hb); (try clear hb2); (try clear hk); (try clear hi); (try clear ho0); (try clear ho1)) | ((with_reducible refine gate_dst (N := 7) rfl ?_); refine box_ (N := 7) (cs := #[.int .i64 0, .int .i64 0, .slice none 0 0, .slice none 0 0]) (t := 48) (fun gb252 hg w34 hbox hb => ?_); replace HO248 := Aside0.mk (Kd.R_below (kR_ HO248.out) hb); replace HO251 := Aside0.mk (Kd.R_below (kR_ HO251.out) hb); have BK252 := Aside0.mk (hbox); have GW252 := ge_ hg HB; have GE252 := ge_ hg HB; replace HB := (bs_ HB hb); have NB240_252 := nl_ hg BK240; have NB252_240 := ng_ hg BK240; replace BK240 := (bbA_ BK240 hb); have NB241_252 := nl_ hg BK241; have NB252_241 := ng_ hg BK241; replace BK241 := (bbA_ BK241 hb); clear hb hbox hg; have hnb35 := NB252_240.out; have hnc35 := NB240_252.out; have hnb36 := NB252_241.out; have hnc36 := NB241_252.out; have Z37 := zz4 BK252; obtain ⟨Ao38, co38, eo38⟩ := Kd.R_slice HO248.out; subst eo38; obtain ⟨Ao39, co39, eo39⟩ := Kd.R_slice HO251.out; subst eo39; have Z40 := zz4 BK241))
     refine bodyPost_ret (results_cell_row rfl _ _ gb241 48 #[.int .i64 t244, .int .i64 t245, .slice Ao38 t246.length co38, .slice Ao39 t249.length co39] (0, 0) _ rfl (by refine kb_ ?_; refine pz4 (cs := #[.int .i64 0, .int .i64 0, .slice none 0 0, .slice none 0 0]) ?_; exact kf_ BK241.out) Try.underlying48 rfl (by kernel_rfl)) rfl ?_
     exact ⟨_, _, by first | rfl | (simp [errW_none, errW_some] <;> rfl) | (simp [*, errW_none, errW_some] <;> rfl), by refine kR_ ?_; exact rfm_ ((Kd.R_far (p := ⟨gb252, 3, none⟩) (Kd.R_far (p := ⟨gb252, 2, none⟩) (Kd.R_far (p := ⟨gb252, 1, none⟩) (Kd.R_far (p := ⟨gb252, 0, none⟩) (Kd.R_types (Kd.R_types HO248.out BK252.out (by decide)) BK241.out (by decide)) (fun _ hk => hk.1.2) (.int .i64 t244)) (fun _ hk => hk.1.2) (.int .i64 t245)) (fun _ hk => hk.1.2) (.slice Ao38 t246.length co38)) (fun _ hk => hk.1.2) (.slice Ao39 t249.length co39))) (fun _ hk => trivial), by refine kR_ ?_; exact rfm_ ((Kd.R_far (p := ⟨gb252, 3, none⟩) (Kd.R_far (p := ⟨gb252, 2, none⟩) (Kd.R_far (p := ⟨gb252, 1, none⟩) (Kd.R_far (p := ⟨gb252, 0, none⟩) (Kd.R_types (Kd.R_types HO251.out BK252.out (by decide)) BK241.out (by decide)) (fun _ hk => hk.1.2) (.int .i64 t244)) (fun _ hk => hk.1.2) (.int .i64 t245)) (fun _ hk => hk.1.2) (.slice Ao38 t246.length co38)) (fun _ hk => hk.1.2) (.slice Ao39 t249.length co39))) (fun _ hk => trivial), hbA_ HB.out⟩
end Go.Proofs.Ytbhofhdmbbipgaa.PFnEarHear
