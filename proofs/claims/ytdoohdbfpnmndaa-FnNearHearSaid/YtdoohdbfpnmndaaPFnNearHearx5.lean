/- Printed by wip/xp/xprint.sh out of the translation, for this claim: what each function answers, as a plain function, and that the machine does just that. No condition. -/
import Derived.Test.YtdoohdbfpnmndaaPFnNearHearx0
namespace Go.Proofs.Ytdoohdbfpnmndaa.PFnNearHear
open Go.RowKit Go.Proofs.YtdoohdbfpnmndaaW.PrintWords Go.Proofs.YtdoohdbfpnmndaaW.PrintLast Go.Proofs.YtdoohdbfpnmndaaW.PrintMore
attribute [local go_sem] max2_int min2_int max_two min_two max_three min_three max_four min_four   -- for this text's walks alone
set_option linter.unusedVariables false
set_option linter.unusedSimpArgs false
def hear_kf : List Value → Int
  | .int _ a :: _ => a
  | _ => 0
def hear_ix (q : Int) : Nat → List (List Value) → Int
  | _, [] => -1
  | j, r :: l => if hear_kf r == q then (j : Int) else hear_ix q (j + 1) l
theorem hear_ix_eq (q : Int) : ∀ (l : List (List Value)) (j : Nat), (hear_ix q j l = -1 ∧ ∀ r ∈ l, (hear_kf r == q) = false) ∨ ∃ i : Nat, hear_ix q j l = ((j + i : Nat) : Int) ∧ i < l.length ∧ (∀ r ∈ l.take i, (hear_kf r == q) = false) ∧ ∃ r, l[i]? = some r ∧ (hear_kf r == q) = true
  | [], j => .inl ⟨rfl, fun _ h => by cases h⟩
  | r :: l, j => by
    cases hr : (hear_kf r == q) with
    | true => exact .inr ⟨0, by simp [hear_ix, hr], by simp, by simp, r, rfl, hr⟩
    | false =>
      have hs : hear_ix q j (r :: l) = hear_ix q (j + 1) l := by simp [hear_ix, hr]
      rcases hear_ix_eq q l (j + 1) with ⟨h1, h2⟩ | ⟨i, h1, h2, h3, r', h4, h5⟩
      · exact .inl ⟨hs.trans h1, fun x hx => by rcases List.mem_cons.1 hx with rfl | hx; exact hr; exact h2 x hx⟩
      · refine .inr ⟨i + 1, by rw [hs, h1]; congr 1; omega, by simp; omega, fun x hx => ?_, r', by simpa using h4, h5⟩
        rw [List.take_succ_cons] at hx
        rcases List.mem_cons.1 hx with rfl | hx
        · exact hr
        · exact h3 x hx
theorem hear_filter_all {l : List (List Value)} {q : Int} (h : ∀ r ∈ l, (hear_kf r == q) = false) : l.filter (fun r => !(hear_kf r == q)) = l := List.filter_eq_self.2 (fun r hr => by rw [h r hr]; rfl)
theorem hear_take_succ {rows : List (List Value)} {j : Nat} {r : List Value} (h : rows[j]? = some r) (q : Int) :
    (rows.take (j + 1)).filter (fun r => !(hear_kf r == q)) = (rows.take j).filter (fun r => !(hear_kf r == q)) ++ (if hear_kf r == q then [] else [r]) := by
  rw [List.take_add_one, h, List.filter_append]
  congr 1
  cases hr : (hear_kf r == q) <;> simp [hr]
theorem hear_raw {α : Type} {d : Kd α} {e : Nat} {w : World} {base : Nat} {ok : Nat → Prop} {v : Value} {xs : List α} (h : d.R e w base ok v xs) :
    ∃ rows : List (List Value), rows.length = xs.length ∧ (Kd.raw d.sz).R e w base (fun k => some k = v.ownBlock) v rows ∧ ∀ (j : Nat) (x : α) (c : List Value), xs[j]? = some x → rows[j]? = some c → d.M w base (fun k => ok k ∧ some k ≠ v.ownBlock) x c := by
  obtain ⟨h0, inner, ho, hr⟩ := h
  refine ⟨Kd.chunks d.sz xs.length inner, Kd.chunks_length _ _ _, ⟨fun k hk => hk.symm, inner, by rw [Kd.chunks_length]; exact ho, Kd.reps_raw hr (fun x c hp => ⟨d.K_len (d.K_of_M hp), d.K_one (d.K_of_M hp)⟩)⟩, fun j x c hx hc => ?_⟩
  rw [Kd.chunks_get hc]
  exact hr.2 j x hx
theorem hear_of_raw {α : Type} {d : Kd α} {e : Nat} {w : World} {base : Nat} {ok : Nat → Prop} {v : Value} {xs : List α} {rows : List (List Value)} (h0 : ∀ k, v.ownBlock = some k → ok k) (hl : rows.length = xs.length) (h : (Kd.raw d.sz).R e w base (fun k => some k = v.ownBlock) v rows)
    (hM : ∀ (j : Nat) (x : α) (c : List Value), xs[j]? = some x → rows[j]? = some c → d.M w base (fun k => ok k ∧ some k ≠ v.ownBlock) x c) : d.R e w base ok v xs := by
  obtain ⟨_, inner, ho, hr⟩ := h
  refine ⟨h0, inner, by rw [← hl]; exact ho, by rw [← hl]; exact hr.1, fun j x hx => ?_⟩
  have hjl : j < rows.length := by rw [hl]; exact (List.getElem?_eq_some_iff.1 hx).1
  have hc := List.getElem?_eq_getElem hjl
  have h1 : (inner.drop (j * d.sz)).take d.sz = rows[j] := (hr.2 j _ hc).1
  rw [h1]
  exact hM j x _ hx hc
theorem hear_kept {α : Type} {xs : List α} {rows : List (List Value)} (hl : rows.length = xs.length) (p : α → Bool) (p' : List Value → Bool) (hp : ∀ (j : Nat) (x : α) (c : List Value), xs[j]? = some x → rows[j]? = some c → p' c = p x) :
    (rows.filter p').length = (xs.filter p).length ∧ ∀ (j : Nat) (x : α) (c : List Value), (xs.filter p)[j]? = some x → (rows.filter p')[j]? = some c → ∃ i : Nat, xs[i]? = some x ∧ rows[i]? = some c := by
  induction xs generalizing rows with
  | nil =>
    have : rows = [] := List.eq_nil_of_length_eq_zero hl
    subst this
    exact ⟨rfl, fun j x c h => by simp at h⟩
  | cons x0 xs ih =>
    cases rows with
    | nil => simp at hl
    | cons c0 rows =>
      have h0 := hp 0 x0 c0 rfl rfl
      obtain ⟨i1, i2⟩ := ih (rows := rows) (by simpa using hl) (fun j x c hx hc => hp (j + 1) x c (by simpa using hx) (by simpa using hc))
      cases hx0 : p x0 with
      | true =>
        rw [hx0] at h0
        simp only [List.filter_cons, hx0, h0, if_pos]
        refine ⟨by simp [i1], fun j x c hx hc => ?_⟩
        cases j with
        | zero =>
          simp at hx hc
          exact ⟨0, by simp [hx], by simp [hc]⟩
        | succ j =>
          obtain ⟨i, h1, h2⟩ := i2 j x c (by simpa using hx) (by simpa using hc)
          exact ⟨i + 1, by simpa using h1, by simpa using h2⟩
      | false =>
        rw [hx0] at h0
        simp only [List.filter_cons, hx0, h0]
        refine ⟨by simpa using i1, fun j x c hx hc => ?_⟩
        obtain ⟨i, h1, h2⟩ := i2 j x c (by simpa using hx) (by simpa using hc)
        exact ⟨i + 1, by simpa using h1, by simpa using h2⟩
theorem hear_sub {α : Type} {d : Kd α} {e : Nat} {w : World} {base : Nat} {ok : Nat → Prop} {v : Value} {f : Nat → Nat} {zs : List (α × Nat)} (h : (Kd.tag f d).R e w base ok v zs) (hnd : (zs.map (·.2)).Nodup) : Kd.S d e w base ok v (zs.map (·.1)) := by
  obtain ⟨h0, inner, ho, hr⟩ := h
  refine ⟨fun b => (zs.map (·.2)).idxOf (f b), h0, inner, by rw [List.length_zipIdx, List.length_map]; exact ho, by rw [List.length_zipIdx, List.length_map]; exact hr.1, fun j p hj => ?_⟩
  rw [List.getElem?_zipIdx, Nat.zero_add] at hj
  obtain ⟨x, hx, rfl⟩ := Option.map_eq_some_iff.1 hj
  rw [List.getElem?_map] at hx
  obtain ⟨z, hz, rfl⟩ := Option.map_eq_some_iff.1 hx
  refine d.M_mono (fun b hb => ⟨hb.1, ?_⟩) (hr.2 j z hz)
  have h2 : f b = z.2 := hb.2
  show (zs.map (·.2)).idxOf (f b) = j
  obtain ⟨hj1, hj2⟩ := List.getElem?_eq_some_iff.1 hz
  have hjm : j < (zs.map (·.2)).length := by rw [List.length_map]; exact hj1
  have : (zs.map (·.2))[j] = z.2 := by rw [List.getElem_map, hj2]
  rw [h2, ← this]
  exact List.Nodup.idxOf_getElem hnd j hjm
theorem hear_zip {α : Type} (p : α → Bool) : ∀ (xs : List α) (k : Nat), ((xs.zipIdx k).filter (fun z => p z.1)).map (·.1) = xs.filter p ∧ (((xs.zipIdx k).filter (fun z => p z.1)).map (·.2)).Nodup ∧ ∀ n ∈ ((xs.zipIdx k).filter (fun z => p z.1)).map (·.2), k ≤ n
  | [], k => ⟨rfl, List.nodup_nil, fun _ h => by cases h⟩
  | x :: xs, k => by
    obtain ⟨i1, i2, i3⟩ := hear_zip p xs (k + 1)
    rw [List.zipIdx_cons]
    cases hx : p x with
    | true =>
      simp only [List.filter_cons, hx, if_pos, List.map_cons]
      refine ⟨by rw [i1], List.nodup_cons.2 ⟨fun h => by have := i3 k h; omega, i2⟩, fun n hn => ?_⟩
      rcases List.mem_cons.1 hn with rfl | hn
      · exact Nat.le_refl _
      · have := i3 n hn; omega
    | false =>
      simp only [List.filter_cons, hx]
      exact ⟨by simpa using i1, by simpa using i2, fun n hn => by have := i3 n (by simpa using hn); omega⟩
theorem hear_past {sz e base g c m : Nat} {ok : Nat → Prop} {w : World} {rows : List (List Value)} (HO : (Kd.raw sz).R e w base ok (.slice (some ⟨g, 0, none⟩) m c) rows) (o : Nat) (ho : m * sz ≤ o) (vs : List Value) (hfit : o + vs.length ≤ c * sz) :
    (Kd.raw sz).R e (w.setCells g o vs) base ok (.slice (some ⟨g, 0, none⟩) m c) rows ∧ w.grownBy (w.setCells g o vs) (some g) := by
  have hm : m = rows.length := (Kd.R_reads' HO).1
  obtain ⟨h0, inner, hown, hr⟩ := HO
  obtain ⟨s1, s2, s3, s4⟩ := setCells_same g vs o w
  refine ⟨⟨h0, inner, ⟨hown.1, ?_⟩, hr⟩, ⟨s1, s2, s3, by rw [s4]; exact Nat.le_refl _, fun k _ hk => setCells_far _ _ k (fun he => hk (by rw [he]))⟩⟩
  rcases hown.2 with ⟨hv, _⟩ | ⟨g', cap', cur, hv, hb, hh, hnc, hcm, hcs, htk⟩
  · cases hv
  injection hv with ha _ hc
  injection ha with ha
  injection ha with hg'
  subst hg'; subst hc
  have hcs' : c * sz ≤ cur.size := hcs
  have hcl : cur.toList.length = cur.size := Array.length_toList
  obtain ⟨cur', h3, h4, h5⟩ := setCells_row vs o w cur hh (by omega)
  have hk : rows.length * sz ≤ o := by rw [← hm]; exact ho
  have hk2 : rows.length * sz ≤ cur.size := Nat.le_trans (Nat.mul_le_mul_right _ hnc) hcs'
  refine .inr ⟨g, c, cur', by rw [hm], hb, h3, hnc, hcm, by rw [h4]; exact hcs, ?_⟩
  rw [← htk, h5, List.append_assoc]
  show (cur.toList.take o ++ _).take (rows.length * sz) = cur.toList.take (rows.length * sz)
  rw [List.take_append_of_le_length (by rw [List.length_take]; omega), List.take_take]
  congr 1
  omega
theorem hear_clear {P : Program} (w : World) (t e : TypeId) (z : Value) (ht : P.underlying t = some (.slice e)) (hv : ∀ w, (zeroValue e).run P w = .ok z w) (g o n c : Nat) (h0 : 0 < n) {cur : Array Value} (hg : w.heap[g]? = some (.cells cur e (0, 0))) (hfit : o + n * z.cells.size ≤ cur.size) (h1 : ∀ v ∈ z.cells, v.oneCell' = true) :
    ∃ vs : List Value, vs.length = n * z.cells.size ∧ ∀ ty, (Builtin.clear_ #[t] ty #[.slice (some ⟨g, o, none⟩) n c]).run P w = .ok (.tuple #[]) (w.setCells g o vs) := by
  have hl : (Builtin.zeroCells z.cells n).toList.length = n * z.cells.size := by rw [Array.length_toList]; exact size_zeroCells _ _
  have ho : ∀ v ∈ (Builtin.zeroCells z.cells n).toList, v.oneCell' = true := fun v hv' => by
    simp only [Builtin.zeroCells, Array.toList_map, List.mem_map, Array.mem_toList_iff, Array.mem_range] at hv'
    obtain ⟨i, hi, rfl⟩ := hv'
    rcases Nat.eq_zero_or_pos z.cells.size with h | h
    · rw [h] at hi; omega
    · rw [getElem!_pos z.cells _ (Nat.mod_lt _ h)]; exact h1 _ (Array.getElem_mem _)
  refine ⟨_, hl, fun ty => ?_⟩
  have hst := run_storeCells_cells (P := P) g o (Builtin.zeroCells z.cells n).toList 0 w (fun j hj => by rw [cell_of_row w g _ cur e (0, 0) hg]; simp; omega) (fun j _ => blk_frozen hg _) ho
  simp only [Nat.add_zero] at hst
  obtain ⟨m, rfl⟩ : ∃ m, n = m + 1 := ⟨n - 1, by omega⟩
  simp [Builtin.clear_, run_underlying ht, hv, hst]
theorem hear_grown {w W W' : World} {row : Option Nat} (h : w.grownBy W row) (hb : Below W.heap.size W W') : w.grownBy W' row :=
  ⟨hb.os.trans h.os, hb.tape.trans h.tape, hb.output.trans h.output, Nat.le_trans h.size hb.size, fun k hk hne => (hb.block k (Nat.lt_of_lt_of_le hk h.size)).trans (h.block k hk hne)⟩
theorem hear_grown2 {w W W' : World} {row : Option Nat} (h : w.grownBy W row) (hb : W.grownBy W' row) : w.grownBy W' row :=
  ⟨hb.os.trans h.os, hb.tape.trans h.tape, hb.output.trans h.output, Nat.le_trans h.size hb.size, fun k hk hne => (hb.block k (Nat.lt_of_lt_of_le hk h.size) hne).trans (h.block k hk hne)⟩
theorem hear_grown_below {W W' : World} {row : Option Nat} (hb : Below W.heap.size W W') : W.grownBy W' row := ⟨hb.os, hb.tape, hb.output, hb.size, fun k hk _ => hb.block k hk⟩
theorem hear_cur {sz e base g n c : Nat} {ok : Nat → Prop} {w : World} {rows : List (List Value)} (HO : (Kd.raw sz).R e w base ok (.slice (some ⟨g, 0, none⟩) n c) rows) : ∃ cur, w.heap[g]? = some (.cells cur e (0, 0)) ∧ c * sz ≤ cur.size := by
  obtain ⟨_, inner, hown, _⟩ := HO
  rcases hown.2 with ⟨hv, _⟩ | ⟨g', cap', cur, hv, hb, hh, hnc, hcm, hcs, htk⟩
  · cases hv
  injection hv with ha _ hc
  injection ha with ha
  injection ha with hg'
  subst hg'; subst hc
  exact ⟨cur, hh, hcs⟩
theorem hear_set {α : Type} : ∀ (L : List α) (a : Nat) (r : α), a < L.length → (L.set a r).take (a + 1) = L.take a ++ [r]
  | [], _, _, h => by simp at h
  | _ :: _, 0, _, _ => by simp
  | _ :: L, a + 1, r, h => by
    rw [List.set_cons_succ, List.take_succ_cons, List.take_succ_cons, List.cons_append, hear_set L a r (by simpa using h)]
set_option maxHeartbeats 2000000 in
theorem impl_NearEntry_42.pred (gq : Nat) (a : Int) (b1 b2 : Int) (q0 q1 q2 q3 : Int) (w0 : World) (hq : w0.heap[gq]? = some (.cells #[.int .i64 q0, .int .i64 q1, .int .i64 q2, .int .i64 q3] 37 (0, 0))) :
    Calls Try.prog 43 #[.agg #[.int .i64 a, .int .i64 b1, .int .i64 b2], .pointer (some ⟨gq, 0, none⟩)] w0 fun r w' => r = .returned (.bool (a == q2)) ∧ Below w0.heap.size w0 w' := by
  have hgb : gq < w0.heap.size := (Array.getElem?_eq_some_iff.1 hq).1
  have hne : gq ≠ w0.heap.size := by omega
  have hb := Below.refl w0.heap.size w0
  have Z := zz4 (Aside0.mk hq)
  clear hq
  go_enter Try.func43, Try.ntmps43
  go_wp2
  all_goals (go_ret; exact ⟨by simp_all, hb.alloc hb.size _⟩)
theorem impl_NearEntry_42.at {w : World} {A : Option Addr} {n : Nat} {rows : List (List Value)} (h : (Kd.raw 3).C w A n rows) (j : Nat) (h1 : j < n) {r : List Value} (hr : rows[j]? = some r) {a : Int} {b1 b2 : Int} (e : r = [.int .i64 a, .int .i64 b1, .int .i64 b2]) :
    ∃ ad, A = some ad ∧ w.cell? (ad.add (j * 3)) = some (.int .i64 a) ∧ w.cell? ⟨(ad.add (j * 3)).block, (ad.add (j * 3)).off + 1, none⟩ = some (.int .i64 b1) ∧ w.cell? ⟨(ad.add (j * 3)).block, (ad.add (j * 3)).off + 2, none⟩ = some (.int .i64 b2) := by
  obtain ⟨ad, c, ha, _, hK, hc0⟩ := Kd.C_get h [] (j : Int) (by omega) (by omega)
  have hc : ∀ t u, c[t]? = some u → w.cell? (ad.add (j * 3 + t)) = some u := hc0
  have hc1 : c = r := by rw [hK.1, Int.toNat_natCast, List.getD_eq_getElem?_getD, hr]; rfl
  rw [hc1, e] at hc
  exact ⟨ad, ha, hc 0 _ rfl, by rw [← add_field _ _ 1 (by omega)]; exact hc 1 _ rfl, by rw [← add_field _ _ 2 (by omega)]; exact hc 2 _ rfl⟩
set_option maxHeartbeats 4000000 in
theorem impl_NearEntry_42.index (gq : Nat) (q0 q1 q2 q3 : Int) (rows : List (List Value)) (hrow : ∀ r ∈ rows, ∃ (b1 b2 : Int), r = [.int .i64 (hear_kf r), .int .i64 b1, .int .i64 b2]) (A : Option Addr) (n c : Nat) (hn : n = rows.length) (hbig : rows.length ≤ 9223372036854775807) (w : World)
    (hq : w.heap[gq]? = some (.cells #[.int .i64 q0, .int .i64 q1, .int .i64 q2, .int .i64 q3] 37 (0, 0))) (hr : (Kd.raw 3).C w A n rows) :
    Calls Try.prog 69 #[.slice A n c, .func (.func 43) #[] #[.pointer (some ⟨gq, 0, none⟩)]] w fun e w' => e = .returned (.int .i64 (hear_ix q2 0 rows)) ∧ Below w.heap.size w w' := by
  subst hn
  have HR := Aside0.mk hr; have HQ := Aside0.mk hq; have HRW := Aside0.mk hrow
  clear hq hr hrow
  go_enter Try.func69, Try.ntmps69
  go_wp2
  go_loopg [5, 8] rows.length (fun gg _ s8 wr => ∃ kk : Nat, kk ≤ rows.length ∧ rows.length - kk ≤ gg ∧ s8 = .int .i64 kk ∧ Aside0 (Below w.heap.size w wr) ∧ Aside0 (hear_ix q2 0 rows = hear_ix q2 kk (rows.drop kk)))
  case atStart => exact ⟨0, Nat.zero_le _, by omega, rfl, ⟨Below.refl _ w⟩, ⟨rfl⟩⟩
  case round =>
    obtain ⟨kk, hkk, hg, rfl, HB, HA⟩ := hrel
    by_cases hlt : kk < rows.length
    · have hltz : (kk : Int) < (rows.length : Int) := by omega
      obtain ⟨r, hrr⟩ : ∃ r, rows[kk]? = some r := ⟨_, List.getElem?_eq_getElem hlt⟩
      have hmem : r ∈ rows := List.mem_of_getElem? hrr
      obtain ⟨b1, b2, he⟩ := HRW.out r hmem
      have hstep : hear_ix q2 kk (rows.drop kk) = if hear_kf r == q2 then (kk : Int) else hear_ix q2 (kk + 1) (rows.drop (kk + 1)) := by
        obtain ⟨h1, h2⟩ := List.getElem?_eq_some_iff.1 hrr
        rw [List.drop_eq_getElem_cons h1, h2]; rfl
      obtain ⟨ad, e1, hx0, hx1, hx2⟩ := impl_NearEntry_42.at HR.out kk hlt hrr he
      cases e1
      replace hx0 := cc_ HB hx0
      replace hx1 := cc_ HB hx1
      replace hx2 := cc_ HB hx2
      have hqw : wr.heap[gq]? = some (.cells #[.int .i64 q0, .int .i64 q1, .int .i64 q2, .int .i64 q3] 37 (0, 0)) := blk_below HQ.out HB.out
      have hcall := impl_NearEntry_42.pred gq (hear_kf r) b1 b2 q0 q1 q2 q3 wr hqw
      have HS := Aside0.mk hstep; clear hstep hqw hmem hrr he
      generalize hear_kf r = a at *
      cases hqq : (a == q2) with
      | true =>
        rw [hqq] at hcall; replace hcall := Aside0.mk hcall
        go_wp2_with (first | ((with_reducible refine gateT_ (u := 11) rfl ?_); refine goesB_ (u := 11) (some 16) rfl rfl Try.func43 (by kernel_rfl) rfl #[.agg #[.int .i64 a, .int .i64 b1, .int .i64 b2]] #[.pointer (some ⟨gq, 0, none⟩)] rfl rfl ar_ ?_; refine Calls.mono hcall.out ?_; rintro e w' ⟨rfl, hb'⟩; refine ⟨_, rfl, ?_⟩; have HB2 := bs_ HB hb'; clear hb'))
        go_ret
        refine ⟨?_, HB2.out⟩
        rw [HA.out, HS.out, hqq]; rfl
      | false =>
        rw [hqq] at hcall; replace hcall := Aside0.mk hcall
        go_wp2_with (first | ((with_reducible refine gateT_ (u := 11) rfl ?_); refine goesB_ (u := 11) (some 16) rfl rfl Try.func43 (by kernel_rfl) rfl #[.agg #[.int .i64 a, .int .i64 b1, .int .i64 b2]] #[.pointer (some ⟨gq, 0, none⟩)] rfl rfl ar_ ?_; refine Calls.mono hcall.out ?_; rintro e w' ⟨rfl, hb'⟩; refine ⟨_, rfl, ?_⟩; have HB2 := bs_ HB hb'; clear hb'))
        go_roundg (rows.length - (kk + 1))
        case measure => omega
        case rel =>
          refine ⟨kk + 1, by omega, by omega, by go_num, HB2, ⟨?_⟩⟩
          rw [HA.out, HS.out, hqq]; rfl
    · have hltz : ¬ (kk : Int) < (rows.length : Int) := by omega
      have : kk = rows.length := by omega
      subst this
      go_wp2
      go_ret
      refine ⟨?_, HB.out⟩
      rw [HA.out, List.drop_length]; rfl
set_option maxHeartbeats 16000000 in
set_option maxRecDepth 100000 in
theorem impl_NearEntry_42.raw (gq : Nat) (q0 q1 q2 q3 : Int) (rows : List (List Value)) (hrow : ∀ r ∈ rows, ∃ (b1 b2 : Int), r = [.int .i64 (hear_kf r), .int .i64 b1, .int .i64 b2]) {w : World} {base g n c : Nat}
    (HO : (Kd.raw 3).R 63 w base (fun k => some k = some g) (.slice (some ⟨g, 0, none⟩) n c) rows) (hq : w.heap[gq]? = some (.cells #[.int .i64 q0, .int .i64 q1, .int .i64 q2, .int .i64 q3] 37 (0, 0))) (hne : gq ≠ g) :
    Calls Try.prog 42 #[.slice (some ⟨g, 0, none⟩) n c, .func (.func 43) #[] #[.pointer (some ⟨gq, 0, none⟩)]] w fun e w' => ∃ m, e = .returned (.slice (some ⟨g, 0, none⟩) m c) ∧ m = (rows.filter (fun r => !(hear_kf r == q2))).length ∧
      (Kd.raw 3).R 63 w' base (fun k => some k = some g) (.slice (some ⟨g, 0, none⟩) m c) (rows.filter (fun r => !(hear_kf r == q2))) ∧ w.grownBy w' (some g) := by
  obtain ⟨hn, hnc, hC⟩ := Kd.R_reads' HO
  subst hn
  have hcm := Kd.R_capmax HO
  have HI := impl_NearEntry_42.index gq q0 q1 q2 q3 rows hrow (some ⟨g, 0, none⟩) rows.length c rfl (by omega) w hq hC
  have hgw : g < w.heap.size := Kd.R_lt HO g (by simp [Value.ownBlock])
  obtain ⟨ad, had⟩ : ∃ ad : Addr, (⟨g, 0, none⟩ : Addr) = ad := ⟨_, rfl⟩
  have HAD := Aside0.mk had
  rw [had] at HI HO ⊢
  have HR := Aside0.mk HO; have HQ := Aside0.mk hq; have HRW := Aside0.mk hrow; have HNE := Aside0.mk hne; have HCM := Aside0.mk hcm
  clear HO hq hC hrow hne had hcm
  rcases hear_ix_eq q2 rows 0 with ⟨h1, h2⟩ | ⟨i, h1, hi, h3, r0, h4, h5⟩
  · rw [h1] at HI; replace HI := Aside0.mk HI
    have HF := Aside0.mk (hear_filter_all h2); clear h1 h2
    go_enter Try.func42, Try.ntmps42
    go_wp2_with (first | ((with_reducible refine gate_callee (f := 69) rfl ?_); refine goesL_ (some 10) rfl rfl Try.func69 (by kernel_rfl) rfl #[.slice (some ad) rows.length c, .func (.func 43) #[] #[.pointer (some ⟨gq, 0, none⟩)]] rfl ar_ ?_; refine HI.out.mono ?_; rintro e w7 ⟨rfl, hb⟩; refine ⟨_, rfl, ?_⟩; have HB := Aside0.mk hb; clear hb))
    go_ret
    exact ⟨rows.length, rfl, by rw [HF.out], by rw [HF.out]; exact Kd.R_below HR.out HB.out, hear_grown_below HB.out⟩
  · rw [Nat.zero_add] at h1
    rw [h1] at HI; replace HI := Aside0.mk HI
    have hz1 : (((i : Nat) : Int) == -1) = false := beq_eq_false_iff_ne.mpr (by omega)
    have hin : (i : Int) < (rows.length : Int) := by omega
    have HS := Aside0.mk (show rows.take i = (rows.take (i + 1)).filter (fun r => !(hear_kf r == q2)) from by
      rw [hear_take_succ h4, h5, if_pos rfl, List.append_nil]; exact (hear_filter_all h3).symm)
    clear h1 h3 h4 h5 r0
    go_enter Try.func42, Try.ntmps42
    go_wp2_with (first | ((with_reducible refine gate_callee (f := 69) rfl ?_); refine goesL_ (some 10) rfl rfl Try.func69 (by kernel_rfl) rfl #[.slice (some ad) rows.length c, .func (.func 43) #[] #[.pointer (some ⟨gq, 0, none⟩)]] rfl ar_ ?_; refine HI.out.mono ?_; rintro e w7 ⟨rfl, hb⟩; refine ⟨_, rfl, ?_⟩; replace HR := Aside0.mk (Kd.R_below HR.out hb); replace HQ := Aside0.mk (blk_below HQ.out hb); have HG := Aside0.mk (hear_grown_below (row := some g) hb); clear hb))
    clear hz1 HI
    go_loopg [5, 6] rows.length (fun gg v5 v6 wr => ∃ (a b : Nat) (L : List (List Value)), v5 = .int .i64 a ∧ v6 = .int .i64 b ∧ a < b ∧ b ≤ rows.length ∧ rows.length ≤ gg + b ∧ Aside0 (L.length = rows.length ∧ L.take a = (rows.take b).filter (fun r => !(hear_kf r == q2)) ∧ L.drop b = rows.drop b) ∧
      Aside0 ((Kd.raw 3).R 63 wr base (fun k => some k = some g) (.slice (some ad) rows.length c) L) ∧ Aside0 (wr.heap[gq]? = some (.cells #[.int .i64 q0, .int .i64 q1, .int .i64 q2, .int .i64 q3] 37 (0, 0))) ∧ Aside0 (w.grownBy wr (some g)))
    case atStart => exact ⟨i, i + 1, rows, rfl, by rw [show wrap64 ((i : Int) + 1) = ((i + 1 : Nat) : Int) by have := HCM.out; unfold wrap64; omega], by omega, by omega, by omega, ⟨rfl, HS.out, rfl⟩, HR, HQ, HG⟩
    case round =>
      clear HR HQ HG HS hin hi
      obtain ⟨a, b, L, rfl, rfl, hab, hbn, hgg, HL, HR, HQ, HG⟩ := hrel
      have hcm := HCM.out
      by_cases hlt : b < rows.length
      · have hltz : (b : Int) < (rows.length : Int) := by omega
        have hwb : wrap64 ((b : Int) + 1) = ((b + 1 : Nat) : Int) := by unfold wrap64; omega
        have hwa : wrap64 ((a : Int) + 1) = ((a + 1 : Nat) : Int) := by unfold wrap64; omega
        obtain ⟨r, hrr⟩ : ∃ r, rows[b]? = some r := ⟨_, List.getElem?_eq_getElem hlt⟩
        obtain ⟨b1, b2, he⟩ := HRW.out r (List.mem_of_getElem? hrr)
        have hLb : L[b]? = some r := by
          have h0 := congrArg (fun l => l[0]?) HL.out.2.2
          simpa [hrr] using h0
        have hts := hear_take_succ hrr q2
        obtain ⟨a0, ha0⟩ : ∃ a0, hear_kf r = a0 := ⟨_, rfl⟩
        rw [ha0] at he hts
        obtain ⟨ad', e1, hx0, hx1, hx2⟩ := impl_NearEntry_42.at (Kd.R_reads' HR.out).2.2 b (by rw [HL.out.1]; exact hlt) hLb he
        injection e1 with e1; subst e1
        have hpred : ∀ W : World, Below wr.heap.size wr W → Calls Try.prog 43 #[.agg #[.int .i64 a0, .int .i64 b1, .int .i64 b2], .pointer (some ⟨gq, 0, none⟩)] W fun r w' => r = .returned (.bool (a0 == q2)) ∧ Below W.heap.size W w' :=
          fun W hW => impl_NearEntry_42.pred gq a0 b1 b2 q0 q1 q2 q3 W (blk_below HQ.out hW)
        have HBr := Aside0.mk (Below.refl wr.heap.size wr)
        have HLb := Aside0.mk hLb; have HE := Aside0.mk he; have HWA := Aside0.mk hwa; have HWB := Aside0.mk hwb; have HRR := Aside0.mk hrr
        clear hLb ha0 he hwa hwb hrr
        cases hqq : (a0 == q2) with
        | true =>
          simp only [hqq] at hpred
          rw [hqq, if_pos rfl, List.append_nil] at hts
          have HTS := Aside0.mk hts; have HPR := Aside0.mk hpred; clear hts hpred
          go_wp2_with (first
            | ((with_reducible refine gate_dst (N := 7) rfl ?_); refine box_ (N := 7) (cs := #[.int .i64 0, .int .i64 0, .int .i64 0]) (t := 63) (fun gb hg w1 hbox hb => ?_); have BK7 := Aside0.mk hbox; have GE7 := ge_ hg HBr; replace HBr := bs_ HBr hb; clear hb hbox hg; have Z7 := zz3 BK7)
            | ((with_reducible refine gateT_ (u := 26) rfl ?_); refine goesB_ (u := 26) (some 28) rfl rfl Try.func43 (by kernel_rfl) rfl #[.agg #[.int .i64 a0, .int .i64 b1, .int .i64 b2]] #[.pointer (some ⟨gq, 0, none⟩)] rfl rfl ar_ ?_; refine Calls.mono (HPR.out _ (hbA_ HBr.out)) ?_; rintro e w2 ⟨rfl, hb⟩; refine ⟨_, rfl, ?_⟩; replace HBr := bs_ HBr hb; clear hb))
          go_roundg (rows.length - (b + 1))
          case measure => omega
          case rel =>
            refine ⟨a, b + 1, L, rfl, by first | rfl | go_num, by omega, by omega, by omega, ⟨HL.out.1, by rw [HTS.out]; exact HL.out.2.1, ?_⟩, ⟨Kd.R_below HR.out HBr.out⟩, ⟨blk_below HQ.out HBr.out⟩, ⟨hear_grown HG.out HBr.out⟩⟩
            have h0 := congrArg (fun l => l.drop 1) HL.out.2.2
            simpa [List.drop_drop] using h0
        | false =>
          simp only [hqq] at hpred
          rw [hqq, if_neg (by decide)] at hts
          have HTS := Aside0.mk hts; have HPR := Aside0.mk hpred; clear hts hpred
          have haz : (a : Int) < (rows.length : Int) := by omega
          have HAA := Aside0.mk (show ad.add (a * 3) = ⟨g, a * 3, none⟩ by rw [← HAD.out, Addr.add_lit, Nat.zero_add])
          go_wp2_with (first
            | ((with_reducible refine gate_dst (N := 7) rfl ?_); refine box_ (N := 7) (cs := #[.int .i64 0, .int .i64 0, .int .i64 0]) (t := 63) (fun gb hg w1 hbox hb => ?_); have BK7 := Aside0.mk hbox; have GE7 := ge_ hg HBr; replace HBr := bs_ HBr hb; clear hb hbox hg; have Z7 := zz3 BK7)
            | ((with_reducible refine gateT_ (u := 26) rfl ?_); refine goesB_ (u := 26) (some 28) rfl rfl Try.func43 (by kernel_rfl) rfl #[.agg #[.int .i64 a0, .int .i64 b1, .int .i64 b2]] #[.pointer (some ⟨gq, 0, none⟩)] rfl rfl ar_ ?_; refine Calls.mono (HPR.out _ (hbA_ HBr.out)) ?_; rintro e w2 ⟨rfl, hb⟩; refine ⟨_, rfl, ?_⟩; replace BK7 := Aside0.mk (blk_below (o := .cells #[.int .i64 a0, .int .i64 b1, .int .i64 b2] 63 (0, 0)) (pz3 (cs := #[.int .i64 0, .int .i64 0, .int .i64 0]) BK7.out) hb); replace HBr := bs_ HBr hb; replace HR := Aside0.mk (Kd.R_below HR.out HBr.out); replace HQ := Aside0.mk (blk_below HQ.out HBr.out); replace HG := Aside0.mk (hear_grown HG.out HBr.out); clear hb HBr GE7 Z7; have Z7 := zz3 BK7)
            | ((with_reducible refine gate_store (t := 63) (p := 33) rfl ?_); have HOL := (show (Kd.raw 3).R 63 w2 base (fun k => some k = some g) (.slice (some ⟨g, 0, none⟩) rows.length c) L from by rw [HAD.out]; exact HR.out); obtain ⟨c_, hcl_, hcM_, hcc_, _⟩ := Kd.R_elem HOL [] (a : Int) (by omega) (by omega); refine Kd.R_store (Kd.raw 3) (w0 := w2) base rfl rfl 63 (.tmp 33) (.tmp 32) rfl 63 (g := g) (n := rows.length) (cap := c) (o' := a * 3) (a : Int) 0 L r (.agg #[.int .i64 a0, .int .i64 b1, .int .i64 b2]) [.int .i64 a0, .int .i64 b1, .int .i64 b2] c_ (fun k => some k = some g) (fun _ => False) (Eq.trans rfl (congrArg (fun z => Value.pointer (some z)) HAA.out)) (by rw [Int.toNat_natCast]; rfl) rfl rfl (by kernel_rfl) (by intro q_ hq_; simp only [List.mem_cons, List.not_mem_nil, or_false] at hq_; rcases hq_ with rfl | rfl | rfl <;> rfl) HOL (by omega) (by omega) hcl_ hcc_ (by show 0 + 3 ≤ 3; omega) ?hM (fun _ h_ => h_.elim) (Below.refl _ _) ?_; (case hM => have e_ : c_.take 0 ++ [.int .i64 a0, .int .i64 b1, .int .i64 b2] ++ c_.drop (0 + [Value.int .i64 a0, .int .i64 b1, .int .i64 b2].length) = [.int .i64 a0, .int .i64 b1, .int .i64 b2] := (by simp [hcl_, Kd.raw]); rw [e_]; exact ⟨HE.out.symm, rfl, by intro q_ hq_; simp only [List.mem_cons, List.not_mem_nil, or_false] at hq_; rcases hq_ with rfl | rfl | rfl <;> rfl⟩); intro w3 ho_ hb_ hg_; rw [Int.toNat_natCast, HAD.out] at ho_; replace HR := Aside0.mk ho_; replace HQ := bgA_ HQ hg_ (by intro h_; injection h_ with h_; exact HNE.out h_); replace HG := Aside0.mk (hear_grown2 HG.out hg_); clear ho_ hb_ hg_ HOL hcl_ hcM_ hcc_ c_ Z7 BK7))
          go_roundg (rows.length - (b + 1))
          case measure => omega
          case rel =>
            refine ⟨a + 1, b + 1, L.set a r, by first | rfl | go_num, by first | rfl | go_num, by omega, by omega, by omega, ⟨by rw [List.length_set]; exact HL.out.1, ?_, ?_⟩, HR, HQ, HG⟩
            · have hal : a < L.length := by rw [HL.out.1]; omega
              rw [HTS.out, ← HL.out.2.1, hear_set L a r hal]
            · rw [List.drop_set_of_lt (by omega)]
              have h0 := congrArg (fun l => l.drop 1) HL.out.2.2
              simpa [List.drop_drop] using h0
      · obtain rfl : b = rows.length := by omega
        obtain ⟨i0, hi0, hz0, hz1, hz2⟩ := info_parts info63
        have HOL := (show (Kd.raw 3).R 63 wr base (fun k => some k = some g) (.slice (some ⟨g, 0, none⟩) rows.length c) L from by rw [HAD.out]; exact HR.out)
        have hAA : ad.add (a * 3) = ⟨g, a * 3, none⟩ := by rw [← HAD.out, Addr.add_lit, Nat.zero_add]
        have hcf : ∀ W, (Instr.slice 29 (.slice (some ad) rows.length c) (some (.int .i64 (a : Int))) none none).run Try.prog W = .ok (.slice (some ⟨g, a * 3, none⟩) (rows.length - a) (c - a)) W := fun W => by
          have h := cut_from (P := Try.prog) 29 63 .i64 Try.underlying29 hi0 3 hz1 (some ad) rows.length c (a : Int) (by omega) (by omega) W
          rw [h, Int.toNat_natCast, if_neg (by omega), Option.map_some, hAA]
        have hct : ∀ W, (Instr.slice 29 (.slice (some ad) rows.length c) none (some (.int .i64 (a : Int))) none).run Try.prog W = .ok (.slice (some ad) a c) W := fun W => by
          have h := cut_to (P := Try.prog) 29 63 .i64 Try.underlying29 hi0 (some ad) rows.length c (a : Int) (by omega) (by omega) (by omega) W
          rw [h, Int.toNat_natCast]
        have hv : ∀ w, (zeroValue 63).run Try.prog w = .ok (.agg #[.int .i64 0, .int .i64 0, .int .i64 0]) w := fun w => by simp [zeroValue, typeInfo, hi0, hz0]
        obtain ⟨cur, hcur, hcs⟩ := hear_cur HOL
        obtain ⟨vs, hvl, hcl⟩ := hear_clear (P := Try.prog) wr 29 63 (.agg #[.int .i64 0, .int .i64 0, .int .i64 0]) Try.underlying29 hv g (a * 3) (rows.length - a) (c - a) (by omega) hcur (by show a * 3 + (rows.length - a) * 3 ≤ cur.size; omega) (by intro q_ hq_; have hq2_ : q_ ∈ ([.int .i64 0, .int .i64 0, .int .i64 0] : List Value) := (Array.mem_toList_iff.2 hq_); simp only [List.mem_cons, List.not_mem_nil, or_false] at hq2_; rcases hq2_ with rfl | rfl | rfl <;> rfl)
        have hvl' : vs.length = (rows.length - a) * 3 := hvl
        have hLT := Kd.R_take (m := a) HOL (by rw [HL.out.1]; omega)
        obtain ⟨p1, p2⟩ := hear_past hLT (a * 3) (Nat.le_refl _) vs (by rw [hvl']; omega)
        have ht := HL.out.2.1
        rw [List.take_length] at ht
        have hla : a = (L.take a).length := by rw [List.length_take, HL.out.1]; omega
        rw [HAD.out] at p1
        have HP1 := Aside0.mk p1; have HP2 := Aside0.mk (hear_grown2 HG.out p2); have HT := Aside0.mk ht; have HLA := Aside0.mk hla
        clear hvl hvl' hLT p1 p2 ht hla hv hAA HOL hcur hcs hi0 hz0 hz1 hz2
        generalize wr.setCells g (a * 3) vs = w9 at *
        go_wp2
        go_ret
        exact ⟨a, rfl, by rw [← HT.out]; exact HLA.out, by rw [← HT.out]; exact HP1.out, HP2.out⟩
set_option maxHeartbeats 2000000 in
set_option maxRecDepth 100000 in
theorem impl_NearEntry_42.nil (gq : Nat) (q0 q1 q2 q3 : Int) (w : World) (hq : w.heap[gq]? = some (.cells #[.int .i64 q0, .int .i64 q1, .int .i64 q2, .int .i64 q3] 37 (0, 0))) :
    Calls Try.prog 42 #[.slice none 0 0, .func (.func 43) #[] #[.pointer (some ⟨gq, 0, none⟩)]] w fun e w' => e = .returned (.slice none 0 0) ∧ Below w.heap.size w w' := by
  have HI := Aside0.mk (impl_NearEntry_42.index gq q0 q1 q2 q3 [] (fun r hr => by cases hr) none 0 0 rfl (by decide) w hq ⟨rfl, by decide, fun h => absurd h (by decide)⟩)
  clear hq
  go_enter Try.func42, Try.ntmps42
  go_wp2_with (first | ((with_reducible refine gate_callee (f := 69) rfl ?_); refine goesL_ (some 10) rfl rfl Try.func69 (by kernel_rfl) rfl #[.slice none 0 0, .func (.func 43) #[] #[.pointer (some ⟨gq, 0, none⟩)]] rfl ar_ ?_; refine HI.out.mono ?_; rintro e w7 ⟨rfl, hb⟩; refine ⟨_, rfl, ?_⟩; have HB := Aside0.mk hb; clear hb; simp only [hear_ix]))
  go_ret
  exact ⟨rfl, HB.out⟩
theorem impl_NearEntry_42.dR {α : Type} {d : Kd α} (hsz : d.sz = 3) (key : α → Int) (hK : ∀ {w : World} {base : Nat} {ok : Nat → Prop} {x : α} {cs : List Value}, d.M w base ok x cs → ∃ (b1 b2 : Int), cs = [.int .i64 (key x), .int .i64 b1, .int .i64 b2])
    {w0 w : World} {base gq n c : Nat} {A : Option Addr} {ok : Nat → Prop} {x : List α} (q0 q1 q2 q3 : Int) (HO : d.R 63 w base ok (.slice A n c) x) (hB : Below base w0 w) (hbase : base ≤ w.heap.size)
    (hq : w.heap[gq]? = some (.cells #[.int .i64 q0, .int .i64 q1, .int .i64 q2, .int .i64 q3] 37 (0, 0))) :
    Calls Try.prog 42 #[.slice A n c, .func (.func 43) #[] #[.pointer (some ⟨gq, 0, none⟩)]] w fun e w' => ∃ m, e = .returned (.slice A m c) ∧ m = (x.filter (fun h_ => !(key h_ == q2))).length ∧
      d.R 63 w' base ok (.slice A m c) (x.filter (fun h_ => !(key h_ == q2))) ∧ Below base w0 w' ∧ w.grownBy w' (Value.slice A n c).ownBlock := by
  have hba : ∀ k, (Value.slice A n c).ownBlock = some k → base ≤ k := fun k hk => Kd.R_base HO k hk
  cases A with
  | none =>
    have h0 : n = 0 ∧ c = 0 ∧ x = [] := by
      obtain ⟨_, inner, ho, _⟩ := HO
      rcases ho.2 with ⟨hv, hl⟩ | ⟨g', cap', cur, hv, _⟩
      · injection hv with _ h1 h2; exact ⟨h1, h2, List.eq_nil_of_length_eq_zero hl⟩
      · injection hv with ha; cases ha
    obtain ⟨rfl, rfl, rfl⟩ := h0
    refine (impl_NearEntry_42.nil gq q0 q1 q2 q3 w hq).mono ?_
    rintro e w' ⟨rfl, hb⟩
    exact ⟨0, rfl, rfl, Kd.R_nil _ _ _ _ _, hB.grown (hear_grown_below hb) hbase hba, hear_grown_below hb⟩
  | some ad =>
    obtain ⟨g, rfl⟩ := Kd.R_head HO
    have hne : gq ≠ g := fun h_ => Kd.R_ne HO hq (by decide) (by rw [h_]; rfl)
    have h0 := HO.1
    obtain ⟨rows, hl, hR, hM⟩ := hear_raw HO
    rw [hsz] at hR
    have hkf : ∀ (j : Nat) (y : α) (r : List Value), x[j]? = some y → rows[j]? = some r → hear_kf r = key y ∧ ∃ (b1 b2 : Int), r = [.int .i64 (key y), .int .i64 b1, .int .i64 b2] := fun j y r hy hr => by
      obtain ⟨b1, b2, e_⟩ := hK (hM j y r hy hr)
      exact ⟨by rw [e_]; rfl, b1, b2, e_⟩
    have hrow : ∀ r ∈ rows, ∃ (b1 b2 : Int), r = [.int .i64 (hear_kf r), .int .i64 b1, .int .i64 b2] := fun r hr => by
      obtain ⟨j, hj, hjr⟩ := List.getElem_of_mem hr
      obtain ⟨h1, h2⟩ := hkf j x[j] r (List.getElem?_eq_getElem (by omega)) (List.getElem?_eq_some_iff.2 ⟨hj, hjr⟩)
      rw [h1]; exact h2
    refine (impl_NearEntry_42.raw gq q0 q1 q2 q3 rows hrow hR hq hne).mono ?_
    rintro e w' ⟨m, rfl, hm, hr, hg⟩
    obtain ⟨k1, k2⟩ := hear_kept hl (fun h_ => !(key h_ == q2)) (fun r => !(hear_kf r == q2)) (fun j y r hy hr => by simp only [(hkf j y r hy hr).1])
    refine ⟨m, rfl, hm.trans k1, hear_of_raw (fun k hk => h0 k hk) k1 (by rw [hsz]; exact hr) (fun j y r hy hc => ?_), hB.grown hg hbase (fun k hk => hba k hk), hg⟩
    obtain ⟨i, h1, h2⟩ := k2 j y r hy hc
    exact Kd.M_grown (hM i y r h1 h2) hg (fun k hk => hk.2)
theorem impl_NearEntry_42.calls {w0 w : World} {base gq n c : Nat} {A : Option Addr} {ok : Nat → Prop} {x : List S63} (q0 q1 q2 q3 : Int) (HO : Kd.R k63 63 w base ok (.slice A n c) x) (hB : Below base w0 w) (hbase : base ≤ w.heap.size)
    (hq : w.heap[gq]? = some (.cells #[.int .i64 q0, .int .i64 q1, .int .i64 q2, .int .i64 q3] 37 (0, 0))) :
    Calls Try.prog 42 #[.slice A n c, .func (.func 43) #[] #[.pointer (some ⟨gq, 0, none⟩)]] w fun e w' => ∃ m, e = .returned (.slice A m c) ∧ m = (x.filter (fun h_ => !(h_.f0 == q2))).length ∧
      Kd.R k63 63 w' base ok (.slice A m c) (x.filter (fun h_ => !(h_.f0 == q2))) ∧ Below base w0 w' ∧ w.grownBy w' (Value.slice A n c).ownBlock :=
  impl_NearEntry_42.dR (d := k63) rfl (fun h_ => h_.f0) (fun {_ _ _ x cs} h => ⟨x.f1, x.f2, k63_open (k63.K_of_M h)⟩) q0 q1 q2 q3 HO hB hbase hq
set_option maxHeartbeats 2000000 in
theorem impl_NearHeld_45.pred (gq : Nat) (a : Int) (A1 : Option Addr) (n1 c1 : Nat) (q0 q1 q2 q3 : Int) (w0 : World) (hq : w0.heap[gq]? = some (.cells #[.int .i64 q0, .int .i64 q1, .int .i64 q2, .int .i64 q3] 37 (0, 0))) :
    Calls Try.prog 38 #[.agg #[.int .i64 a, .slice A1 n1 c1], .pointer (some ⟨gq, 0, none⟩)] w0 fun r w' => r = .returned (.bool (a == q2)) ∧ Below w0.heap.size w0 w' := by
  have hgb : gq < w0.heap.size := (Array.getElem?_eq_some_iff.1 hq).1
  have hne : gq ≠ w0.heap.size := by omega
  have hb := Below.refl w0.heap.size w0
  have Z := zz4 (Aside0.mk hq)
  clear hq
  go_enter Try.func38, Try.ntmps38
  go_wp2
  all_goals (go_ret; exact ⟨by simp_all, hb.alloc hb.size _⟩)
theorem impl_NearHeld_45.at {w : World} {A : Option Addr} {n : Nat} {rows : List (List Value)} (h : (Kd.raw 2).C w A n rows) (j : Nat) (h1 : j < n) {r : List Value} (hr : rows[j]? = some r) {a : Int} {A1 : Option Addr} {n1 c1 : Nat} (e : r = [.int .i64 a, .slice A1 n1 c1]) :
    ∃ ad, A = some ad ∧ w.cell? (ad.add (j * 2)) = some (.int .i64 a) ∧ w.cell? ⟨(ad.add (j * 2)).block, (ad.add (j * 2)).off + 1, none⟩ = some (.slice A1 n1 c1) := by
  obtain ⟨ad, c, ha, _, hK, hc0⟩ := Kd.C_get h [] (j : Int) (by omega) (by omega)
  have hc : ∀ t u, c[t]? = some u → w.cell? (ad.add (j * 2 + t)) = some u := hc0
  have hc1 : c = r := by rw [hK.1, Int.toNat_natCast, List.getD_eq_getElem?_getD, hr]; rfl
  rw [hc1, e] at hc
  exact ⟨ad, ha, hc 0 _ rfl, by rw [← add_field _ _ 1 (by omega)]; exact hc 1 _ rfl⟩
set_option maxHeartbeats 4000000 in
theorem impl_NearHeld_45.index (gq : Nat) (q0 q1 q2 q3 : Int) (rows : List (List Value)) (hrow : ∀ r ∈ rows, ∃ (A1 : Option Addr) (n1 c1 : Nat), r = [.int .i64 (hear_kf r), .slice A1 n1 c1]) (A : Option Addr) (n c : Nat) (hn : n = rows.length) (hbig : rows.length ≤ 9223372036854775807) (w : World)
    (hq : w.heap[gq]? = some (.cells #[.int .i64 q0, .int .i64 q1, .int .i64 q2, .int .i64 q3] 37 (0, 0))) (hr : (Kd.raw 2).C w A n rows) :
    Calls Try.prog 71 #[.slice A n c, .func (.func 38) #[] #[.pointer (some ⟨gq, 0, none⟩)]] w fun e w' => e = .returned (.int .i64 (hear_ix q2 0 rows)) ∧ Below w.heap.size w w' := by
  subst hn
  have HR := Aside0.mk hr; have HQ := Aside0.mk hq; have HRW := Aside0.mk hrow
  clear hq hr hrow
  go_enter Try.func71, Try.ntmps71
  go_wp2
  go_loopg [5, 8] rows.length (fun gg _ s8 wr => ∃ kk : Nat, kk ≤ rows.length ∧ rows.length - kk ≤ gg ∧ s8 = .int .i64 kk ∧ Aside0 (Below w.heap.size w wr) ∧ Aside0 (hear_ix q2 0 rows = hear_ix q2 kk (rows.drop kk)))
  case atStart => exact ⟨0, Nat.zero_le _, by omega, rfl, ⟨Below.refl _ w⟩, ⟨rfl⟩⟩
  case round =>
    obtain ⟨kk, hkk, hg, rfl, HB, HA⟩ := hrel
    by_cases hlt : kk < rows.length
    · have hltz : (kk : Int) < (rows.length : Int) := by omega
      obtain ⟨r, hrr⟩ : ∃ r, rows[kk]? = some r := ⟨_, List.getElem?_eq_getElem hlt⟩
      have hmem : r ∈ rows := List.mem_of_getElem? hrr
      obtain ⟨A1, n1, c1, he⟩ := HRW.out r hmem
      have hstep : hear_ix q2 kk (rows.drop kk) = if hear_kf r == q2 then (kk : Int) else hear_ix q2 (kk + 1) (rows.drop (kk + 1)) := by
        obtain ⟨h1, h2⟩ := List.getElem?_eq_some_iff.1 hrr
        rw [List.drop_eq_getElem_cons h1, h2]; rfl
      obtain ⟨ad, e1, hx0, hx1⟩ := impl_NearHeld_45.at HR.out kk hlt hrr he
      cases e1
      replace hx0 := cc_ HB hx0
      replace hx1 := cc_ HB hx1
      have hqw : wr.heap[gq]? = some (.cells #[.int .i64 q0, .int .i64 q1, .int .i64 q2, .int .i64 q3] 37 (0, 0)) := blk_below HQ.out HB.out
      have hcall := impl_NearHeld_45.pred gq (hear_kf r) A1 n1 c1 q0 q1 q2 q3 wr hqw
      have HS := Aside0.mk hstep; clear hstep hqw hmem hrr he
      generalize hear_kf r = a at *
      cases hqq : (a == q2) with
      | true =>
        rw [hqq] at hcall; replace hcall := Aside0.mk hcall
        go_wp2_with (first | ((with_reducible refine gateT_ (u := 11) rfl ?_); refine goesB_ (u := 11) (some 16) rfl rfl Try.func38 (by kernel_rfl) rfl #[.agg #[.int .i64 a, .slice A1 n1 c1]] #[.pointer (some ⟨gq, 0, none⟩)] rfl rfl ar_ ?_; refine Calls.mono hcall.out ?_; rintro e w' ⟨rfl, hb'⟩; refine ⟨_, rfl, ?_⟩; have HB2 := bs_ HB hb'; clear hb'))
        go_ret
        refine ⟨?_, HB2.out⟩
        rw [HA.out, HS.out, hqq]; rfl
      | false =>
        rw [hqq] at hcall; replace hcall := Aside0.mk hcall
        go_wp2_with (first | ((with_reducible refine gateT_ (u := 11) rfl ?_); refine goesB_ (u := 11) (some 16) rfl rfl Try.func38 (by kernel_rfl) rfl #[.agg #[.int .i64 a, .slice A1 n1 c1]] #[.pointer (some ⟨gq, 0, none⟩)] rfl rfl ar_ ?_; refine Calls.mono hcall.out ?_; rintro e w' ⟨rfl, hb'⟩; refine ⟨_, rfl, ?_⟩; have HB2 := bs_ HB hb'; clear hb'))
        go_roundg (rows.length - (kk + 1))
        case measure => omega
        case rel =>
          refine ⟨kk + 1, by omega, by omega, by go_num, HB2, ⟨?_⟩⟩
          rw [HA.out, HS.out, hqq]; rfl
    · have hltz : ¬ (kk : Int) < (rows.length : Int) := by omega
      have : kk = rows.length := by omega
      subst this
      go_wp2
      go_ret
      refine ⟨?_, HB.out⟩
      rw [HA.out, List.drop_length]; rfl
set_option maxHeartbeats 16000000 in
set_option maxRecDepth 100000 in
theorem impl_NearHeld_45.raw (gq : Nat) (q0 q1 q2 q3 : Int) (rows : List (List Value)) (hrow : ∀ r ∈ rows, ∃ (A1 : Option Addr) (n1 c1 : Nat), r = [.int .i64 (hear_kf r), .slice A1 n1 c1]) {w : World} {base g n c : Nat}
    (HO : (Kd.raw 2).R 65 w base (fun k => some k = some g) (.slice (some ⟨g, 0, none⟩) n c) rows) (hq : w.heap[gq]? = some (.cells #[.int .i64 q0, .int .i64 q1, .int .i64 q2, .int .i64 q3] 37 (0, 0))) (hne : gq ≠ g) :
    Calls Try.prog 45 #[.slice (some ⟨g, 0, none⟩) n c, .func (.func 38) #[] #[.pointer (some ⟨gq, 0, none⟩)]] w fun e w' => ∃ m, e = .returned (.slice (some ⟨g, 0, none⟩) m c) ∧ m = (rows.filter (fun r => !(hear_kf r == q2))).length ∧
      (Kd.raw 2).R 65 w' base (fun k => some k = some g) (.slice (some ⟨g, 0, none⟩) m c) (rows.filter (fun r => !(hear_kf r == q2))) ∧ w.grownBy w' (some g) := by
  obtain ⟨hn, hnc, hC⟩ := Kd.R_reads' HO
  subst hn
  have hcm := Kd.R_capmax HO
  have HI := impl_NearHeld_45.index gq q0 q1 q2 q3 rows hrow (some ⟨g, 0, none⟩) rows.length c rfl (by omega) w hq hC
  have hgw : g < w.heap.size := Kd.R_lt HO g (by simp [Value.ownBlock])
  obtain ⟨ad, had⟩ : ∃ ad : Addr, (⟨g, 0, none⟩ : Addr) = ad := ⟨_, rfl⟩
  have HAD := Aside0.mk had
  rw [had] at HI HO ⊢
  have HR := Aside0.mk HO; have HQ := Aside0.mk hq; have HRW := Aside0.mk hrow; have HNE := Aside0.mk hne; have HCM := Aside0.mk hcm
  clear HO hq hC hrow hne had hcm
  rcases hear_ix_eq q2 rows 0 with ⟨h1, h2⟩ | ⟨i, h1, hi, h3, r0, h4, h5⟩
  · rw [h1] at HI; replace HI := Aside0.mk HI
    have HF := Aside0.mk (hear_filter_all h2); clear h1 h2
    go_enter Try.func45, Try.ntmps45
    go_wp2_with (first | ((with_reducible refine gate_callee (f := 71) rfl ?_); refine goesL_ (some 10) rfl rfl Try.func71 (by kernel_rfl) rfl #[.slice (some ad) rows.length c, .func (.func 38) #[] #[.pointer (some ⟨gq, 0, none⟩)]] rfl ar_ ?_; refine HI.out.mono ?_; rintro e w7 ⟨rfl, hb⟩; refine ⟨_, rfl, ?_⟩; have HB := Aside0.mk hb; clear hb))
    go_ret
    exact ⟨rows.length, rfl, by rw [HF.out], by rw [HF.out]; exact Kd.R_below HR.out HB.out, hear_grown_below HB.out⟩
  · rw [Nat.zero_add] at h1
    rw [h1] at HI; replace HI := Aside0.mk HI
    have hz1 : (((i : Nat) : Int) == -1) = false := beq_eq_false_iff_ne.mpr (by omega)
    have hin : (i : Int) < (rows.length : Int) := by omega
    have HS := Aside0.mk (show rows.take i = (rows.take (i + 1)).filter (fun r => !(hear_kf r == q2)) from by
      rw [hear_take_succ h4, h5, if_pos rfl, List.append_nil]; exact (hear_filter_all h3).symm)
    clear h1 h3 h4 h5 r0
    go_enter Try.func45, Try.ntmps45
    go_wp2_with (first | ((with_reducible refine gate_callee (f := 71) rfl ?_); refine goesL_ (some 10) rfl rfl Try.func71 (by kernel_rfl) rfl #[.slice (some ad) rows.length c, .func (.func 38) #[] #[.pointer (some ⟨gq, 0, none⟩)]] rfl ar_ ?_; refine HI.out.mono ?_; rintro e w7 ⟨rfl, hb⟩; refine ⟨_, rfl, ?_⟩; replace HR := Aside0.mk (Kd.R_below HR.out hb); replace HQ := Aside0.mk (blk_below HQ.out hb); have HG := Aside0.mk (hear_grown_below (row := some g) hb); clear hb))
    clear hz1 HI
    go_loopg [5, 6] rows.length (fun gg v5 v6 wr => ∃ (a b : Nat) (L : List (List Value)), v5 = .int .i64 a ∧ v6 = .int .i64 b ∧ a < b ∧ b ≤ rows.length ∧ rows.length ≤ gg + b ∧ Aside0 (L.length = rows.length ∧ L.take a = (rows.take b).filter (fun r => !(hear_kf r == q2)) ∧ L.drop b = rows.drop b) ∧
      Aside0 ((Kd.raw 2).R 65 wr base (fun k => some k = some g) (.slice (some ad) rows.length c) L) ∧ Aside0 (wr.heap[gq]? = some (.cells #[.int .i64 q0, .int .i64 q1, .int .i64 q2, .int .i64 q3] 37 (0, 0))) ∧ Aside0 (w.grownBy wr (some g)))
    case atStart => exact ⟨i, i + 1, rows, rfl, by rw [show wrap64 ((i : Int) + 1) = ((i + 1 : Nat) : Int) by have := HCM.out; unfold wrap64; omega], by omega, by omega, by omega, ⟨rfl, HS.out, rfl⟩, HR, HQ, HG⟩
    case round =>
      clear HR HQ HG HS hin hi
      obtain ⟨a, b, L, rfl, rfl, hab, hbn, hgg, HL, HR, HQ, HG⟩ := hrel
      have hcm := HCM.out
      by_cases hlt : b < rows.length
      · have hltz : (b : Int) < (rows.length : Int) := by omega
        have hwb : wrap64 ((b : Int) + 1) = ((b + 1 : Nat) : Int) := by unfold wrap64; omega
        have hwa : wrap64 ((a : Int) + 1) = ((a + 1 : Nat) : Int) := by unfold wrap64; omega
        obtain ⟨r, hrr⟩ : ∃ r, rows[b]? = some r := ⟨_, List.getElem?_eq_getElem hlt⟩
        obtain ⟨A1, n1, c1, he⟩ := HRW.out r (List.mem_of_getElem? hrr)
        have hLb : L[b]? = some r := by
          have h0 := congrArg (fun l => l[0]?) HL.out.2.2
          simpa [hrr] using h0
        have hts := hear_take_succ hrr q2
        obtain ⟨a0, ha0⟩ : ∃ a0, hear_kf r = a0 := ⟨_, rfl⟩
        rw [ha0] at he hts
        obtain ⟨ad', e1, hx0, hx1⟩ := impl_NearHeld_45.at (Kd.R_reads' HR.out).2.2 b (by rw [HL.out.1]; exact hlt) hLb he
        injection e1 with e1; subst e1
        have hpred : ∀ W : World, Below wr.heap.size wr W → Calls Try.prog 38 #[.agg #[.int .i64 a0, .slice A1 n1 c1], .pointer (some ⟨gq, 0, none⟩)] W fun r w' => r = .returned (.bool (a0 == q2)) ∧ Below W.heap.size W w' :=
          fun W hW => impl_NearHeld_45.pred gq a0 A1 n1 c1 q0 q1 q2 q3 W (blk_below HQ.out hW)
        have HBr := Aside0.mk (Below.refl wr.heap.size wr)
        have HLb := Aside0.mk hLb; have HE := Aside0.mk he; have HWA := Aside0.mk hwa; have HWB := Aside0.mk hwb; have HRR := Aside0.mk hrr
        clear hLb ha0 he hwa hwb hrr
        cases hqq : (a0 == q2) with
        | true =>
          simp only [hqq] at hpred
          rw [hqq, if_pos rfl, List.append_nil] at hts
          have HTS := Aside0.mk hts; have HPR := Aside0.mk hpred; clear hts hpred
          go_wp2_with (first
            | ((with_reducible refine gate_dst (N := 7) rfl ?_); refine box_ (N := 7) (cs := #[.int .i64 0, .slice none 0 0]) (t := 65) (fun gb hg w1 hbox hb => ?_); have BK7 := Aside0.mk hbox; have GE7 := ge_ hg HBr; replace HBr := bs_ HBr hb; clear hb hbox hg; have Z7 := zz2 BK7)
            | ((with_reducible refine gateT_ (u := 26) rfl ?_); refine goesB_ (u := 26) (some 28) rfl rfl Try.func38 (by kernel_rfl) rfl #[.agg #[.int .i64 a0, .slice A1 n1 c1]] #[.pointer (some ⟨gq, 0, none⟩)] rfl rfl ar_ ?_; refine Calls.mono (HPR.out _ (hbA_ HBr.out)) ?_; rintro e w2 ⟨rfl, hb⟩; refine ⟨_, rfl, ?_⟩; replace HBr := bs_ HBr hb; clear hb))
          go_roundg (rows.length - (b + 1))
          case measure => omega
          case rel =>
            refine ⟨a, b + 1, L, rfl, by first | rfl | go_num, by omega, by omega, by omega, ⟨HL.out.1, by rw [HTS.out]; exact HL.out.2.1, ?_⟩, ⟨Kd.R_below HR.out HBr.out⟩, ⟨blk_below HQ.out HBr.out⟩, ⟨hear_grown HG.out HBr.out⟩⟩
            have h0 := congrArg (fun l => l.drop 1) HL.out.2.2
            simpa [List.drop_drop] using h0
        | false =>
          simp only [hqq] at hpred
          rw [hqq, if_neg (by decide)] at hts
          have HTS := Aside0.mk hts; have HPR := Aside0.mk hpred; clear hts hpred
          have haz : (a : Int) < (rows.length : Int) := by omega
          have HAA := Aside0.mk (show ad.add (a * 2) = ⟨g, a * 2, none⟩ by rw [← HAD.out, Addr.add_lit, Nat.zero_add])
          go_wp2_with (first
            | ((with_reducible refine gate_dst (N := 7) rfl ?_); refine box_ (N := 7) (cs := #[.int .i64 0, .slice none 0 0]) (t := 65) (fun gb hg w1 hbox hb => ?_); have BK7 := Aside0.mk hbox; have GE7 := ge_ hg HBr; replace HBr := bs_ HBr hb; clear hb hbox hg; have Z7 := zz2 BK7)
            | ((with_reducible refine gateT_ (u := 26) rfl ?_); refine goesB_ (u := 26) (some 28) rfl rfl Try.func38 (by kernel_rfl) rfl #[.agg #[.int .i64 a0, .slice A1 n1 c1]] #[.pointer (some ⟨gq, 0, none⟩)] rfl rfl ar_ ?_; refine Calls.mono (HPR.out _ (hbA_ HBr.out)) ?_; rintro e w2 ⟨rfl, hb⟩; refine ⟨_, rfl, ?_⟩; replace BK7 := Aside0.mk (blk_below (o := .cells #[.int .i64 a0, .slice A1 n1 c1] 65 (0, 0)) (pz2 (cs := #[.int .i64 0, .slice none 0 0]) BK7.out) hb); replace HBr := bs_ HBr hb; replace HR := Aside0.mk (Kd.R_below HR.out HBr.out); replace HQ := Aside0.mk (blk_below HQ.out HBr.out); replace HG := Aside0.mk (hear_grown HG.out HBr.out); clear hb HBr GE7 Z7; have Z7 := zz2 BK7)
            | ((with_reducible refine gate_store (t := 65) (p := 33) rfl ?_); have HOL := (show (Kd.raw 2).R 65 w2 base (fun k => some k = some g) (.slice (some ⟨g, 0, none⟩) rows.length c) L from by rw [HAD.out]; exact HR.out); obtain ⟨c_, hcl_, hcM_, hcc_, _⟩ := Kd.R_elem HOL [] (a : Int) (by omega) (by omega); refine Kd.R_store (Kd.raw 2) (w0 := w2) base rfl rfl 65 (.tmp 33) (.tmp 32) rfl 65 (g := g) (n := rows.length) (cap := c) (o' := a * 2) (a : Int) 0 L r (.agg #[.int .i64 a0, .slice A1 n1 c1]) [.int .i64 a0, .slice A1 n1 c1] c_ (fun k => some k = some g) (fun _ => False) (Eq.trans rfl (congrArg (fun z => Value.pointer (some z)) HAA.out)) (by rw [Int.toNat_natCast]; rfl) rfl rfl (by kernel_rfl) (by intro q_ hq_; simp only [List.mem_cons, List.not_mem_nil, or_false] at hq_; rcases hq_ with rfl | rfl <;> rfl) HOL (by omega) (by omega) hcl_ hcc_ (by show 0 + 2 ≤ 2; omega) ?hM (fun _ h_ => h_.elim) (Below.refl _ _) ?_; (case hM => have e_ : c_.take 0 ++ [.int .i64 a0, .slice A1 n1 c1] ++ c_.drop (0 + [Value.int .i64 a0, .slice A1 n1 c1].length) = [.int .i64 a0, .slice A1 n1 c1] := (by simp [hcl_, Kd.raw]); rw [e_]; exact ⟨HE.out.symm, rfl, by intro q_ hq_; simp only [List.mem_cons, List.not_mem_nil, or_false] at hq_; rcases hq_ with rfl | rfl <;> rfl⟩); intro w3 ho_ hb_ hg_; rw [Int.toNat_natCast, HAD.out] at ho_; replace HR := Aside0.mk ho_; replace HQ := bgA_ HQ hg_ (by intro h_; injection h_ with h_; exact HNE.out h_); replace HG := Aside0.mk (hear_grown2 HG.out hg_); clear ho_ hb_ hg_ HOL hcl_ hcM_ hcc_ c_ Z7 BK7))
          go_roundg (rows.length - (b + 1))
          case measure => omega
          case rel =>
            refine ⟨a + 1, b + 1, L.set a r, by first | rfl | go_num, by first | rfl | go_num, by omega, by omega, by omega, ⟨by rw [List.length_set]; exact HL.out.1, ?_, ?_⟩, HR, HQ, HG⟩
            · have hal : a < L.length := by rw [HL.out.1]; omega
              rw [HTS.out, ← HL.out.2.1, hear_set L a r hal]
            · rw [List.drop_set_of_lt (by omega)]
              have h0 := congrArg (fun l => l.drop 1) HL.out.2.2
              simpa [List.drop_drop] using h0
      · obtain rfl : b = rows.length := by omega
        obtain ⟨i0, hi0, hz0, hz1, hz2⟩ := info_parts info65
        have HOL := (show (Kd.raw 2).R 65 wr base (fun k => some k = some g) (.slice (some ⟨g, 0, none⟩) rows.length c) L from by rw [HAD.out]; exact HR.out)
        have hAA : ad.add (a * 2) = ⟨g, a * 2, none⟩ := by rw [← HAD.out, Addr.add_lit, Nat.zero_add]
        have hcf : ∀ W, (Instr.slice 30 (.slice (some ad) rows.length c) (some (.int .i64 (a : Int))) none none).run Try.prog W = .ok (.slice (some ⟨g, a * 2, none⟩) (rows.length - a) (c - a)) W := fun W => by
          have h := cut_from (P := Try.prog) 30 65 .i64 Try.underlying30 hi0 2 hz1 (some ad) rows.length c (a : Int) (by omega) (by omega) W
          rw [h, Int.toNat_natCast, if_neg (by omega), Option.map_some, hAA]
        have hct : ∀ W, (Instr.slice 30 (.slice (some ad) rows.length c) none (some (.int .i64 (a : Int))) none).run Try.prog W = .ok (.slice (some ad) a c) W := fun W => by
          have h := cut_to (P := Try.prog) 30 65 .i64 Try.underlying30 hi0 (some ad) rows.length c (a : Int) (by omega) (by omega) (by omega) W
          rw [h, Int.toNat_natCast]
        have hv : ∀ w, (zeroValue 65).run Try.prog w = .ok (.agg #[.int .i64 0, .slice none 0 0]) w := fun w => by simp [zeroValue, typeInfo, hi0, hz0]
        obtain ⟨cur, hcur, hcs⟩ := hear_cur HOL
        obtain ⟨vs, hvl, hcl⟩ := hear_clear (P := Try.prog) wr 30 65 (.agg #[.int .i64 0, .slice none 0 0]) Try.underlying30 hv g (a * 2) (rows.length - a) (c - a) (by omega) hcur (by show a * 2 + (rows.length - a) * 2 ≤ cur.size; omega) (by intro q_ hq_; have hq2_ : q_ ∈ ([.int .i64 0, .slice none 0 0] : List Value) := (Array.mem_toList_iff.2 hq_); simp only [List.mem_cons, List.not_mem_nil, or_false] at hq2_; rcases hq2_ with rfl | rfl <;> rfl)
        have hvl' : vs.length = (rows.length - a) * 2 := hvl
        have hLT := Kd.R_take (m := a) HOL (by rw [HL.out.1]; omega)
        obtain ⟨p1, p2⟩ := hear_past hLT (a * 2) (Nat.le_refl _) vs (by rw [hvl']; omega)
        have ht := HL.out.2.1
        rw [List.take_length] at ht
        have hla : a = (L.take a).length := by rw [List.length_take, HL.out.1]; omega
        rw [HAD.out] at p1
        have HP1 := Aside0.mk p1; have HP2 := Aside0.mk (hear_grown2 HG.out p2); have HT := Aside0.mk ht; have HLA := Aside0.mk hla
        clear hvl hvl' hLT p1 p2 ht hla hv hAA HOL hcur hcs hi0 hz0 hz1 hz2
        generalize wr.setCells g (a * 2) vs = w9 at *
        go_wp2
        go_ret
        exact ⟨a, rfl, by rw [← HT.out]; exact HLA.out, by rw [← HT.out]; exact HP1.out, HP2.out⟩
set_option maxHeartbeats 2000000 in
set_option maxRecDepth 100000 in
theorem impl_NearHeld_45.nil (gq : Nat) (q0 q1 q2 q3 : Int) (w : World) (hq : w.heap[gq]? = some (.cells #[.int .i64 q0, .int .i64 q1, .int .i64 q2, .int .i64 q3] 37 (0, 0))) :
    Calls Try.prog 45 #[.slice none 0 0, .func (.func 38) #[] #[.pointer (some ⟨gq, 0, none⟩)]] w fun e w' => e = .returned (.slice none 0 0) ∧ Below w.heap.size w w' := by
  have HI := Aside0.mk (impl_NearHeld_45.index gq q0 q1 q2 q3 [] (fun r hr => by cases hr) none 0 0 rfl (by decide) w hq ⟨rfl, by decide, fun h => absurd h (by decide)⟩)
  clear hq
  go_enter Try.func45, Try.ntmps45
  go_wp2_with (first | ((with_reducible refine gate_callee (f := 71) rfl ?_); refine goesL_ (some 10) rfl rfl Try.func71 (by kernel_rfl) rfl #[.slice none 0 0, .func (.func 38) #[] #[.pointer (some ⟨gq, 0, none⟩)]] rfl ar_ ?_; refine HI.out.mono ?_; rintro e w7 ⟨rfl, hb⟩; refine ⟨_, rfl, ?_⟩; have HB := Aside0.mk hb; clear hb; simp only [hear_ix]))
  go_ret
  exact ⟨rfl, HB.out⟩
theorem impl_NearHeld_45.dR {α : Type} {d : Kd α} (hsz : d.sz = 2) (key : α → Int) (hK : ∀ {w : World} {base : Nat} {ok : Nat → Prop} {x : α} {cs : List Value}, d.M w base ok x cs → ∃ (A1 : Option Addr) (n1 c1 : Nat), cs = [.int .i64 (key x), .slice A1 n1 c1])
    {w0 w : World} {base gq n c : Nat} {A : Option Addr} {ok : Nat → Prop} {x : List α} (q0 q1 q2 q3 : Int) (HO : d.R 65 w base ok (.slice A n c) x) (hB : Below base w0 w) (hbase : base ≤ w.heap.size)
    (hq : w.heap[gq]? = some (.cells #[.int .i64 q0, .int .i64 q1, .int .i64 q2, .int .i64 q3] 37 (0, 0))) :
    Calls Try.prog 45 #[.slice A n c, .func (.func 38) #[] #[.pointer (some ⟨gq, 0, none⟩)]] w fun e w' => ∃ m, e = .returned (.slice A m c) ∧ m = (x.filter (fun h_ => !(key h_ == q2))).length ∧
      d.R 65 w' base ok (.slice A m c) (x.filter (fun h_ => !(key h_ == q2))) ∧ Below base w0 w' ∧ w.grownBy w' (Value.slice A n c).ownBlock := by
  have hba : ∀ k, (Value.slice A n c).ownBlock = some k → base ≤ k := fun k hk => Kd.R_base HO k hk
  cases A with
  | none =>
    have h0 : n = 0 ∧ c = 0 ∧ x = [] := by
      obtain ⟨_, inner, ho, _⟩ := HO
      rcases ho.2 with ⟨hv, hl⟩ | ⟨g', cap', cur, hv, _⟩
      · injection hv with _ h1 h2; exact ⟨h1, h2, List.eq_nil_of_length_eq_zero hl⟩
      · injection hv with ha; cases ha
    obtain ⟨rfl, rfl, rfl⟩ := h0
    refine (impl_NearHeld_45.nil gq q0 q1 q2 q3 w hq).mono ?_
    rintro e w' ⟨rfl, hb⟩
    exact ⟨0, rfl, rfl, Kd.R_nil _ _ _ _ _, hB.grown (hear_grown_below hb) hbase hba, hear_grown_below hb⟩
  | some ad =>
    obtain ⟨g, rfl⟩ := Kd.R_head HO
    have hne : gq ≠ g := fun h_ => Kd.R_ne HO hq (by decide) (by rw [h_]; rfl)
    have h0 := HO.1
    obtain ⟨rows, hl, hR, hM⟩ := hear_raw HO
    rw [hsz] at hR
    have hkf : ∀ (j : Nat) (y : α) (r : List Value), x[j]? = some y → rows[j]? = some r → hear_kf r = key y ∧ ∃ (A1 : Option Addr) (n1 c1 : Nat), r = [.int .i64 (key y), .slice A1 n1 c1] := fun j y r hy hr => by
      obtain ⟨A1, n1, c1, e_⟩ := hK (hM j y r hy hr)
      exact ⟨by rw [e_]; rfl, A1, n1, c1, e_⟩
    have hrow : ∀ r ∈ rows, ∃ (A1 : Option Addr) (n1 c1 : Nat), r = [.int .i64 (hear_kf r), .slice A1 n1 c1] := fun r hr => by
      obtain ⟨j, hj, hjr⟩ := List.getElem_of_mem hr
      obtain ⟨h1, h2⟩ := hkf j x[j] r (List.getElem?_eq_getElem (by omega)) (List.getElem?_eq_some_iff.2 ⟨hj, hjr⟩)
      rw [h1]; exact h2
    refine (impl_NearHeld_45.raw gq q0 q1 q2 q3 rows hrow hR hq hne).mono ?_
    rintro e w' ⟨m, rfl, hm, hr, hg⟩
    obtain ⟨k1, k2⟩ := hear_kept hl (fun h_ => !(key h_ == q2)) (fun r => !(hear_kf r == q2)) (fun j y r hy hr => by simp only [(hkf j y r hy hr).1])
    refine ⟨m, rfl, hm.trans k1, hear_of_raw (fun k hk => h0 k hk) k1 (by rw [hsz]; exact hr) (fun j y r hy hc => ?_), hB.grown hg hbase (fun k hk => hba k hk), hg⟩
    obtain ⟨i, h1, h2⟩ := k2 j y r hy hc
    exact Kd.M_grown (hM i y r h1 h2) hg (fun k hk => hk.2)
theorem impl_NearHeld_45.calls {w0 w : World} {base gq n c : Nat} {A : Option Addr} {ok : Nat → Prop} {x : List S65} (q0 q1 q2 q3 : Int) (HO : Kd.S k65 65 w base ok (.slice A n c) x) (hB : Below base w0 w) (hbase : base ≤ w.heap.size)
    (hq : w.heap[gq]? = some (.cells #[.int .i64 q0, .int .i64 q1, .int .i64 q2, .int .i64 q3] 37 (0, 0))) :
    Calls Try.prog 45 #[.slice A n c, .func (.func 38) #[] #[.pointer (some ⟨gq, 0, none⟩)]] w fun e w' => ∃ m, e = .returned (.slice A m c) ∧ m = (x.filter (fun h_ => !(h_.f0 == q2))).length ∧
      Kd.S k65 65 w' base ok (.slice A m c) (x.filter (fun h_ => !(h_.f0 == q2))) ∧ Below base w0 w' ∧ w.grownBy w' (Value.slice A n c).ownBlock := by
  obtain ⟨f, HR⟩ := HO
  refine (impl_NearHeld_45.dR (d := Kd.tag f k65) rfl (fun h_ => h_.1.f0) (fun {_ _ _ x cs} h => by obtain ⟨A1, c1, e_, _, _⟩ := k65_open (k65.K_of_M h); exact ⟨A1, _, c1, e_⟩) q0 q1 q2 q3 HR hB hbase hq).mono ?_
  rintro e w' ⟨m, rfl, hm, hr, hb, hg⟩
  obtain ⟨z1, z2, _⟩ := hear_zip (fun h_ => !(h_.f0 == q2)) x 0
  exact ⟨m, rfl, by rw [hm, ← z1, List.length_map], by rw [← z1]; exact hear_sub hr z2, hb, hg⟩
set_option maxHeartbeats 2000000 in
set_option maxRecDepth 100000 in
theorem impl_NearHeld_45.has {w : World} {gq n c : Nat} {A : Option Addr} {x : List S65} (q0 q1 q2 q3 : Int) (hr : Kd.C k65 w A n x) (hn : n = x.length) (hq : w.heap[gq]? = some (.cells #[.int .i64 q0, .int .i64 q1, .int .i64 q2, .int .i64 q3] 37 (0, 0))) :
    Calls Try.prog 40 #[.slice A n c, .func (.func 38) #[] #[.pointer (some ⟨gq, 0, none⟩)]] w fun e w' => e = .returned (.bool (x.any (fun h_ => h_.f0 == q2))) ∧ Below w.heap.size w w' := by
  subst hn
  obtain ⟨rows, hrl, hrr, hrK⟩ := Kd.reads_raw hr (fun x c hk => ⟨k65.K_len hk, k65.K_one hk⟩)
  have hkf : ∀ (j : Nat) (y : S65) (r : List Value), x[j]? = some y → rows[j]? = some r → hear_kf r = y.f0 ∧ ∃ (A1 : Option Addr) (n1 c1 : Nat), r = [.int .i64 y.f0, .slice A1 n1 c1] := fun j y r hy hr => by
    obtain ⟨A1, c1, e_, _, _⟩ := k65_open (hrK j y r hy hr)
    exact ⟨by rw [e_]; rfl, A1, _, c1, e_⟩
  have hrow : ∀ r ∈ rows, ∃ (A1 : Option Addr) (n1 c1 : Nat), r = [.int .i64 (hear_kf r), .slice A1 n1 c1] := fun r hr => by
    obtain ⟨j, hj, hjr⟩ := List.getElem_of_mem hr
    obtain ⟨h1, h2⟩ := hkf j x[j] r (List.getElem?_eq_getElem (by omega)) (List.getElem?_eq_some_iff.2 ⟨hj, hjr⟩)
    rw [h1]; exact h2
  have HI := impl_NearHeld_45.index gq q0 q1 q2 q3 rows hrow A x.length c hrl.symm (by have := hr.2.1; omega) w hq hrr
  have hz : (hear_ix q2 0 rows = -1 ∧ x.any (fun h_ => h_.f0 == q2) = false) ∨ (0 ≤ hear_ix q2 0 rows ∧ x.any (fun h_ => h_.f0 == q2) = true) := by
    rcases hear_ix_eq q2 rows 0 with ⟨h1, h2⟩ | ⟨i, h1, h2, h3, r, h4, h5⟩
    · refine .inl ⟨h1, List.any_eq_false.2 fun y hy => ?_⟩
      obtain ⟨j, hj, hjy⟩ := List.getElem_of_mem hy
      have hj2 : j < rows.length := by omega
      have h6 := hkf j y rows[j] (List.getElem?_eq_some_iff.2 ⟨hj, hjy⟩) (List.getElem?_eq_getElem hj2)
      have h7 := h2 _ (List.getElem_mem hj2)
      rw [h6.1] at h7; rw [h7]; decide
    · have hi : i < x.length := by omega
      have h6 := hkf i x[i] r (List.getElem?_eq_getElem hi) h4
      refine .inr ⟨by rw [h1]; omega, List.any_eq_true.2 ⟨x[i], List.getElem_mem hi, ?_⟩⟩
      rw [← h6.1]; exact h5
  generalize hear_ix q2 0 rows = z at *
  replace HI := Aside0.mk HI
  clear hr hrl hrr hrK hkf hrow hq
  go_enter Try.func40, Try.ntmps40
  rcases hz with ⟨hz, ha⟩ | ⟨hz, ha⟩
  · subst hz
    rw [ha]; clear ha
    go_wp2_with (first | ((with_reducible refine gate_callee (f := 71) rfl ?_); refine goesL_ (some 7) rfl rfl Try.func71 (by kernel_rfl) rfl #[.slice A x.length c, .func (.func 38) #[] #[.pointer (some ⟨gq, 0, none⟩)]] rfl ar_ ?_; refine HI.out.mono ?_; rintro e w7 ⟨rfl, hb⟩; refine ⟨_, rfl, ?_⟩; have HB := Aside0.mk hb; clear hb))
    go_ret
    exact ⟨rfl, HB.out⟩
  · have hz2 : decide (0 ≤ z) = true := decide_eq_true hz
    rw [ha]; clear ha
    go_wp2_with (first | ((with_reducible refine gate_callee (f := 71) rfl ?_); refine goesL_ (some 7) rfl rfl Try.func71 (by kernel_rfl) rfl #[.slice A x.length c, .func (.func 38) #[] #[.pointer (some ⟨gq, 0, none⟩)]] rfl ar_ ?_; refine HI.out.mono ?_; rintro e w7 ⟨rfl, hb⟩; refine ⟨_, rfl, ?_⟩; have HB := Aside0.mk hb; clear hb))
    go_ret
    exact ⟨rfl, HB.out⟩
theorem slices_Clip_byte_byte_46.calls (A0 : Option Addr) (c0 n0 : Nat) (w : World) (hc : n0 ≤ c0) : Calls Try.prog 46 #[.slice A0 n0 c0] w fun e w' => e = .returned (.slice A0 n0 n0) ∧ w' = w := by
  go_enter Try.func46, Try.ntmps46
  go_wp2
  go_ret
  exact ⟨rfl, rfl⟩
def impl_NearHear_waits.f (a0_0 : Int) (l0_1 : List Int) (a1_0 : Int) (a1_1 : Int) (a1_2 : Int) (a1_3 : Int) : Option Bool := some (a0_0 == a1_2)
theorem impl_NearHear_waits.calls {gq : Nat} (a0_0 : Int) (A0_1 : Option Addr) (c0_1 : Nat) (l0_1 : List Int) (a1_0 : Int) (a1_1 : Int) (a1_2 : Int) (a1_3 : Int) (r : Bool) (w : World) (hr0_1 : Kd.C (Kd.int .u8) w A0_1 l0_1.length l0_1) (hc0_1 : l0_1.length ≤ c0_1) (h : impl_NearHear_waits.f a0_0 l0_1 a1_0 a1_1 a1_2 a1_3 = some r) (hq : w.heap[gq]? = some (.cells #[.int .i64 a1_0, .int .i64 a1_1, .int .i64 a1_2, .int .i64 a1_3] 37 (0, 0))) :
    Calls Try.prog 38 #[.agg #[.int .i64 a0_0, .slice A0_1 l0_1.length c0_1], .pointer (some ⟨gq, 0, none⟩)] w fun e w' => e = .returned (.bool r) ∧ Below w.heap.size w w' := by
  unfold impl_NearHear_waits.f at h
  injection h with h
  subst h
  exact impl_NearHeld_45.pred gq a0_0 A0_1 l0_1.length c0_1 a1_0 a1_1 a1_2 a1_3 w hq
def impl_NearHear_has.f (l0 : List (S65)) (a1_0 : Int) (a1_1 : Int) (a1_2 : Int) (a1_3 : Int) : Option Bool := some (l0.any (fun h_ => h_.f0 == a1_2))
theorem impl_NearHear_has.calls {gq : Nat} (A0 : Option Addr) (c0 : Nat) (l0 : List (S65)) (a1_0 : Int) (a1_1 : Int) (a1_2 : Int) (a1_3 : Int) (r : Bool) (w : World) (hr0 : Kd.C k65 w A0 l0.length l0) (hc0 : l0.length ≤ c0) (h : impl_NearHear_has.f l0 a1_0 a1_1 a1_2 a1_3 = some r) (hq : w.heap[gq]? = some (.cells #[.int .i64 a1_0, .int .i64 a1_1, .int .i64 a1_2, .int .i64 a1_3] 37 (0, 0))) :
    Calls Try.prog 40 #[.slice A0 l0.length c0, .func (.func 38) #[] #[.pointer (some ⟨gq, 0, none⟩)]] w fun e w' => e = .returned (.bool r) ∧ Below w.heap.size w w' := by
  unfold impl_NearHear_has.f at h
  injection h with h
  subst h
  exact impl_NearHeld_45.has a1_0 a1_1 a1_2 a1_3 hr0 rfl hq
end Go.Proofs.Ytdoohdbfpnmndaa.PFnNearHear
