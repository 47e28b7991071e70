/- Printed by wip/xp/xprint.sh out of the translation, for this claim: what each function answers, as a plain function, and that the machine does just that. No condition. -/
import Derived.Test.YtpdbnlmdohcgkaaPFnExactPartPutx0
import Derived.Test.YtpdbnlmdohcgkaaPFnExactPartPutx5
namespace Go.Proofs.Ytpdbnlmdohcgkaa.PFnExactPartPut
open Go.RowKit Go.Proofs.YtpdbnlmdohcgkaaW.PrintWords Go.Proofs.YtpdbnlmdohcgkaaW.PrintLast Go.Proofs.YtpdbnlmdohcgkaaW.PrintMore
attribute [local go_sem] max2_int min2_int max_two min_two max_three min_three max_four min_four   -- for this text's walks alone
set_option linter.unusedVariables false
set_option linter.unusedSimpArgs false
def impl_Part_put.same (x q : S36) : Bool := x.f5 == q.f5 && (x.f6 == q.f6 && x.f8 == q.f8)
def impl_Part_put.at (l : List S36) (q : S36) : Nat := l.findIdx (fun x => decide (x.f5 > q.f5))
def impl_Part_put.ins (l : List S36) (q : S36) : List S36 := l.take (impl_Part_put.at l q) ++ [q] ++ l.drop (impl_Part_put.at l q)
def impl_Part_put.g (k : Nat) (l : List S36) (u : Int) (q : S36) : Option ((List (S36)) × Int × Bool) :=
  if l.length = 0 ∨ 1000000 < l.length then none
  else if l.any (fun x => impl_Part_put.same x q) = true then (impl_Part_copy.f k l u).bind fun t => some (t.1, t.2, true)
  else (impl_PartOk.f k (impl_Part_put.ins l q) u).bind fun b => if b = true then ((impl_Part_copy.f k (impl_Part_put.ins l q) u).bind fun t => some (t.1, t.2, true)) else some ([], 0, false)
def impl_Part_put.f (k : Nat) (l0_0 : List (S36)) (a0_1 : Int) (a1_0 : Int) (a1_1 : Int) (a1_2 : Int) (a1_3 : Int) (a1_4 : Int) (a1_5 : Int) (a1_6 : Bool) (a1_7 : Bool) (l1_8 : List Int) : Option ((List (S36)) × Int × Bool) := impl_Part_put.g k l0_0 a0_1 ⟨a1_0, a1_1, a1_2, a1_3, a1_4, a1_5, a1_6, a1_7, l1_8⟩
theorem impl_Part_put.mono : ∀ l u a0 a1 a2 a3 a4 a5 a6 a7 l8 k, LeO (impl_Part_put.f k l u a0 a1 a2 a3 a4 a5 a6 a7 l8) (impl_Part_put.f (k + 1) l u a0 a1 a2 a3 a4 a5 a6 a7 l8) := by
  intro l u a0 a1 a2 a3 a4 a5 a6 a7 l8 k
  unfold impl_Part_put.f impl_Part_put.g
  refine LeO.ite (LeO.none _) (LeO.ite (LeO.bind (impl_Part_copy.mono _ _ _) fun _ => LeO.refl _) (LeO.bind (impl_PartOk.mono _ _ _) fun _ => LeO.ite (LeO.bind (impl_Part_copy.mono _ _ _) fun _ => LeO.refl _) (LeO.refl _)))
theorem impl_Part_put.eq_l (a b : List Int) (hab : a.length = b.length) (hl : a.length ≤ 9223372036854775807) (d : Nat) : ∀ i : Nat, i + d = a.length → slices_Equal_byte_byte.l0 (d + 1) a b (a.length : Int) (i : Int) = some (a.drop i == b.drop i) := by
  induction d with
  | zero =>
    intro i hi
    simp only [slices_Equal_byte_byte.l0, if_neg (show ¬ (i : Int) < (a.length : Int) by omega)]
    rw [List.drop_of_length_le (by omega), List.drop_of_length_le (by omega)]; rfl
  | succ d ih =>
    intro i hi
    have h1 : i < a.length := by omega
    have h2 : i < b.length := by omega
    have r1 : rd a (i : Int) = a[i] := by unfold rd; rw [Int.toNat_natCast, List.getD_eq_getElem?_getD, List.getElem?_eq_getElem h1]; rfl
    have r2 : rd b (i : Int) = b[i] := by unfold rd; rw [Int.toNat_natCast, List.getD_eq_getElem?_getD, List.getElem?_eq_getElem h2]; rfl
    have ih' := ih (i + 1) (by omega)
    rw [slices_Equal_byte_byte.l0]
    rw [if_pos (show (i : Int) < (a.length : Int) by omega), if_pos (show (0 : Int) ≤ (i : Int) by omega), if_pos (show (i : Int) < (a.length : Int) by omega), if_pos (show (i : Int) < (b.length : Int) by omega), r1, r2]
    rw [List.drop_eq_getElem_cons h1, List.drop_eq_getElem_cons h2]
    by_cases e : a[i] = b[i]
    · rw [if_pos e, show wrap64 ((i : Int) + 1) = ((i + 1 : Nat) : Int) by unfold wrap64; omega, ih', e]
      simp only [List.cons_beq_cons, BEq.rfl, Bool.true_and]
    · rw [if_neg e]
      have : (a[i] :: a.drop (i + 1) == b[i] :: b.drop (i + 1)) = false := beq_eq_false_iff_ne.mpr (fun q => e (List.cons.inj q).1)
      rw [this]
theorem impl_Part_put.eq_ (a b : List Int) (hl : a.length ≤ 9223372036854775807) : ∃ k, slices_Equal_byte_byte.f k a b = some (a == b) := by
  by_cases h : a.length = b.length
  · refine ⟨a.length + 1, ?_⟩
    unfold slices_Equal_byte_byte.f
    rw [if_pos (show (a.length : Int) = (b.length : Int) by omega)]
    exact impl_Part_put.eq_l a b h hl a.length 0 (by omega)
  · refine ⟨0, ?_⟩
    unfold slices_Equal_byte_byte.f
    rw [if_neg (show ¬ (a.length : Int) = (b.length : Int) by omega), beq_eq_false_iff_ne.mpr (fun e => h (by rw [e]))]
set_option maxHeartbeats 4000000 in
set_option maxRecDepth 100000 in
theorem impl_Part_put.pred1 (gb : Nat) (q x : S36) (Aq Ax : Option Addr) (cq cx : Nat) (w : World) (hq : w.heap[gb]? = some (.cells #[.int .i64 q.f0, .int .i64 q.f1, .int .i64 q.f2, .int .i64 q.f3, .int .i64 q.f4, .int .i64 q.f5, .bool q.f6, .bool q.f7, .slice Aq q.f8.length cq] 36 (0, 0)))
    (hCq : Kd.C (Kd.int .u8) w Aq q.f8.length q.f8) (hcq : q.f8.length ≤ cq) (hCx : Kd.C (Kd.int .u8) w Ax x.f8.length x.f8) (hcx : x.f8.length ≤ cx) (hxl : x.f8.length ≤ 9223372036854775807) :
    Calls Try.prog 84 #[.agg #[.int .i64 x.f0, .int .i64 x.f1, .int .i64 x.f2, .int .i64 x.f3, .int .i64 x.f4, .int .i64 x.f5, .bool x.f6, .bool x.f7, .slice Ax x.f8.length cx], .pointer (some ⟨gb, 0, none⟩)] w fun e w' => e = .returned (.bool (impl_Part_put.same x q)) ∧ Below w.heap.size w w' := by
  obtain ⟨k, hk⟩ := impl_Part_put.eq_ x.f8 q.f8 hxl
  have HQ := Aside0.mk hq; have HCQ := Aside0.mk hCq; have HCX := Aside0.mk hCx; have HcQ := Aside0.mk hcq; have HcX := Aside0.mk hcx; have HK := Aside0.mk hk
  have hgb : gb < w.heap.size := (Array.getElem?_eq_some_iff.1 hq).1
  clear hq hCq hCx hcq hcx hk hxl
  have HB := Aside0.mk (Below.refl w.heap.size w)
  obtain ⟨x0, x1, x2, x3, x4, x5, x6, x7, x8⟩ := x
  obtain ⟨q0, q1, q2, q3, q4, q5, q6, q7, q8⟩ := q
  dsimp only at *
  have hres : impl_Part_put.same ⟨x0, x1, x2, x3, x4, x5, x6, x7, x8⟩ ⟨q0, q1, q2, q3, q4, q5, q6, q7, q8⟩ = (x5 == q5 && (x6 == q6 && x8 == q8)) := rfl
  rw [hres]
  clear hres
  go_enter Try.func84, Try.ntmps84
  by_cases c5 : x5 = q5
  · by_cases c6 : x6 = q6
    · subst c5; subst c6
      simp only [BEq.rfl, Bool.true_and]
      go_wp2_with (first
        | ((with_reducible refine gate_dst (N := 2) rfl ?_); refine box_ (N := 2) (cs := #[.int .i64 x0, .int .i64 x1, .int .i64 x2, .int .i64 x3, .int .i64 x4, .int .i64 x5, .bool x6, .bool x7, .slice Ax x8.length cx]) (t := 36) (fun gx hg w3 hbox hb => ?_); have BKx := Aside0.mk (hbox); replace HB := (bs_ HB hb); replace HQ := (bbA_ HQ hb); clear hb hbox hg; have Z1 := zz9 BKx; have Z2 := zz9 HQ)
        | (go_at_call 85; (with_reducible refine (slices_Equal_byte_byte.calls k _ _ x8 _ _ q8 _ _ ?side1 ?side2 ?side3 ?side4 HK.out).mono ?_); (case side1 => exact kC_ (Kd.C_below HCX.out HB.out)); (case side2 => exact HcX.out); (case side3 => exact kC_ (Kd.C_below HCQ.out HB.out)); (case side4 => exact HcQ.out); rintro e w7 ⟨rfl, ⟨nd, rfl⟩⟩))
      go_ret
      exact ⟨rfl, hbA_ HB.out⟩
    · subst c5
      have c6b0 : (x6 == q6) = false := beq_eq_false_iff_ne.mpr c6
      simp only [c6b0, BEq.rfl, Bool.true_and, Bool.false_and]
      go_wp2_with (first
        | ((with_reducible refine gate_dst (N := 2) rfl ?_); refine box_ (N := 2) (cs := #[.int .i64 x0, .int .i64 x1, .int .i64 x2, .int .i64 x3, .int .i64 x4, .int .i64 x5, .bool x6, .bool x7, .slice Ax x8.length cx]) (t := 36) (fun gx hg w3 hbox hb => ?_); have BKx := Aside0.mk (hbox); replace HB := (bs_ HB hb); replace HQ := (bbA_ HQ hb); clear hb hbox hg; have Z1 := zz9 BKx; have Z2 := zz9 HQ))
      go_ret
      exact ⟨rfl, hbA_ HB.out⟩
  · have c5b0 : (x5 == q5) = false := beq_eq_false_iff_ne.mpr c5
    simp only [c5b0, Bool.false_and]
    go_wp2_with (first
      | ((with_reducible refine gate_dst (N := 2) rfl ?_); refine box_ (N := 2) (cs := #[.int .i64 x0, .int .i64 x1, .int .i64 x2, .int .i64 x3, .int .i64 x4, .int .i64 x5, .bool x6, .bool x7, .slice Ax x8.length cx]) (t := 36) (fun gx hg w3 hbox hb => ?_); have BKx := Aside0.mk (hbox); replace HB := (bs_ HB hb); replace HQ := (bbA_ HQ hb); clear hb hbox hg; have Z1 := zz9 BKx; have Z2 := zz9 HQ))
    go_ret
    exact ⟨rfl, hbA_ HB.out⟩
set_option maxHeartbeats 4000000 in
set_option maxRecDepth 100000 in
theorem impl_Part_put.pred2 (gb : Nat) (q x : S36) (Aq Ax : Option Addr) (cq cx : Nat) (w : World) (hq : w.heap[gb]? = some (.cells #[.int .i64 q.f0, .int .i64 q.f1, .int .i64 q.f2, .int .i64 q.f3, .int .i64 q.f4, .int .i64 q.f5, .bool q.f6, .bool q.f7, .slice Aq q.f8.length cq] 36 (0, 0))) :
    Calls Try.prog 88 #[.agg #[.int .i64 x.f0, .int .i64 x.f1, .int .i64 x.f2, .int .i64 x.f3, .int .i64 x.f4, .int .i64 x.f5, .bool x.f6, .bool x.f7, .slice Ax x.f8.length cx], .pointer (some ⟨gb, 0, none⟩)] w fun e w' => e = .returned (.bool (decide (x.f5 > q.f5))) ∧ Below w.heap.size w w' := by
  have HQ := Aside0.mk hq
  have hgb : gb < w.heap.size := (Array.getElem?_eq_some_iff.1 hq).1
  clear hq
  have HB := Aside0.mk (Below.refl w.heap.size w)
  obtain ⟨x0, x1, x2, x3, x4, x5, x6, x7, x8⟩ := x
  obtain ⟨q0, q1, q2, q3, q4, q5, q6, q7, q8⟩ := q
  dsimp only at *
  go_enter Try.func88, Try.ntmps88
  go_wp2_with (first
    | ((with_reducible refine gate_dst (N := 2) rfl ?_); refine box_ (N := 2) (cs := #[.int .i64 x0, .int .i64 x1, .int .i64 x2, .int .i64 x3, .int .i64 x4, .int .i64 x5, .bool x6, .bool x7, .slice Ax x8.length cx]) (t := 36) (fun gx hg w3 hbox hb => ?_); have BKx := Aside0.mk (hbox); replace HB := (bs_ HB hb); replace HQ := (bbA_ HQ hb); clear hb hbox hg; have Z1 := zz9 BKx; have Z2 := zz9 HQ))
  go_ret
  exact ⟨rfl, hbA_ HB.out⟩
theorem impl_Part_put.rd (l : List S36) (j : Nat) (h : j < l.length) : rd_T36 l (j : Int) = l[j] := by
  unfold rd_T36; rw [Int.toNat_natCast, List.getD_eq_getElem?_getD, List.getElem?_eq_getElem h]; rfl
def impl_Part_put.ix (P : S36 → Bool) : Nat → List S36 → Int
  | _, [] => -1
  | j, e :: l => if P e = true then (j : Int) else impl_Part_put.ix P (j + 1) l
theorem impl_Part_put.ix_eq (P : S36 → Bool) (l : List S36) : ∀ j : Nat, impl_Part_put.ix P j l = if l.any P = true then ((j + l.findIdx P : Nat) : Int) else -1 := by
  induction l with
  | nil => intro j; rfl
  | cons e l ih =>
    intro j
    rw [impl_Part_put.ix, List.any_cons, List.findIdx_cons]
    cases h : P e with
    | true => simp
    | false =>
      rw [if_neg (by decide), ih (j + 1)]
      simp only [Bool.false_or, cond_false]
      split
      · congr 1; omega
      · rfl
set_option maxHeartbeats 4000000 in
set_option maxRecDepth 100000 in
theorem impl_Part_put.index (P : S36 → Bool) (g gb : Nat) (fn : Func) (hfn : Try.prog.funcs[g]? = some fn) (hname : (fn.name == "runtime.NumGoroutine") = false) (hbody : fn.body.isSome = true) (A : Option Addr) (n c : Nat) (l : List S36) (hn : n = l.length) (hbig : l.length ≤ 1000000) (w : World) (hr : Kd.C k36 w A n l)
    (hP : ∀ (x : S36) (Ax : Option Addr) (cx : Nat) (W : World), x ∈ l → Below w.heap.size w W → Kd.C (Kd.int .u8) W Ax x.f8.length x.f8 → x.f8.length ≤ cx →
      Calls Try.prog g #[.agg #[.int .i64 x.f0, .int .i64 x.f1, .int .i64 x.f2, .int .i64 x.f3, .int .i64 x.f4, .int .i64 x.f5, .bool x.f6, .bool x.f7, .slice Ax x.f8.length cx], .pointer (some ⟨gb, 0, none⟩)] W fun e w' => e = .returned (.bool (P x)) ∧ Below w.heap.size w w') :
    Calls Try.prog 87 #[.slice A n c, .func (.func g) #[] #[.pointer (some ⟨gb, 0, none⟩)]] w fun e w' => e = .returned (.int .i64 (impl_Part_put.ix P 0 l)) ∧ Below w.heap.size w w' := by
  subst hn
  have HR := Aside0.mk hr
  have HP := Aside0.mk hP
  have HF := Aside0.mk hfn; have HN := Aside0.mk hname; have HY := Aside0.mk hbody
  clear hP hr hfn hname hbody
  go_enter Try.func87, Try.ntmps87
  go_wp2
  go_loopg [5, 8] l.length (fun gg _ s8 wr => ∃ kk : Nat, kk ≤ l.length ∧ l.length - kk ≤ gg ∧ s8 = .int .i64 kk ∧ Aside0 (Below w.heap.size w wr) ∧ Aside0 (impl_Part_put.ix P 0 l = impl_Part_put.ix P kk (l.drop kk)))
  case atStart => exact ⟨0, Nat.zero_le _, by omega, rfl, ⟨Below.refl _ w⟩, ⟨rfl⟩⟩
  case round =>
    obtain ⟨kk, hkk, hg, rfl, HB, HA⟩ := hrel
    by_cases hlt : kk < l.length
    · have hltz : (kk : Int) < (l.length : Int) := by omega
      have hstep : impl_Part_put.ix P kk (l.drop kk) = if P (rd_T36 l (kk : Int)) = true then (kk : Int) else impl_Part_put.ix P (kk + 1) (l.drop (kk + 1)) := by
        rw [List.drop_eq_getElem_cons hlt, impl_Part_put.ix, impl_Part_put.rd l kk hlt]
      have hmem : rd_T36 l (kk : Int) ∈ l := by rw [impl_Part_put.rd l kk hlt]; exact List.getElem_mem hlt
      obtain ⟨ad, A8, c8, e1, hx0, hx1, hx2, hx3, hx4, hx5, hx6, hx7, hx8, hl8, hC8⟩ := at_T36 HR.out (kk : Int) (by omega) (by omega)
      cases e1
      replace hx0 := cc_ HB hx0
      replace hx1 := cc_ HB hx1
      replace hx2 := cc_ HB hx2
      replace hx3 := cc_ HB hx3
      replace hx4 := cc_ HB hx4
      replace hx5 := cc_ HB hx5
      replace hx6 := cc_ HB hx6
      replace hx7 := cc_ HB hx7
      replace hx8 := cc_ HB hx8
      simp only [Int.toNat_natCast] at hx0 hx1 hx2 hx3 hx4 hx5 hx6 hx7 hx8
      have hcall := HP.out (rd_T36 l (kk : Int)) A8 c8 wr hmem HB.out (Kd.C_below hC8 HB.out) hl8
      have HS := Aside0.mk hstep; clear hstep hmem hC8 hl8
      generalize rd_T36 l (kk : Int) = y at *
      cases hq : P y with
      | true =>
        rw [hq] at hcall; replace hcall := Aside0.mk hcall
        go_wp2_with (first | ((with_reducible refine gateT_ (u := 11) rfl ?_); refine goesB_ (u := 11) (some 16) rfl rfl HF.out HN.out HY.out #[.agg #[.int .i64 y.f0, .int .i64 y.f1, .int .i64 y.f2, .int .i64 y.f3, .int .i64 y.f4, .int .i64 y.f5, .bool y.f6, .bool y.f7, .slice A8 y.f8.length c8]] #[.pointer (some ⟨gb, 0, none⟩)] rfl rfl ar_ ?_; refine Calls.mono hcall.out ?_; rintro e w' ⟨rfl, hb'⟩; refine ⟨_, rfl, ?_⟩; have HB2 := Aside0.mk hb'; clear hb'))
        go_ret
        refine ⟨?_, HB2.out⟩
        rw [HA.out, HS.out, hq]; rfl
      | false =>
        rw [hq] at hcall; replace hcall := Aside0.mk hcall
        go_wp2_with (first | ((with_reducible refine gateT_ (u := 11) rfl ?_); refine goesB_ (u := 11) (some 16) rfl rfl HF.out HN.out HY.out #[.agg #[.int .i64 y.f0, .int .i64 y.f1, .int .i64 y.f2, .int .i64 y.f3, .int .i64 y.f4, .int .i64 y.f5, .bool y.f6, .bool y.f7, .slice A8 y.f8.length c8]] #[.pointer (some ⟨gb, 0, none⟩)] rfl rfl ar_ ?_; refine Calls.mono hcall.out ?_; rintro e w' ⟨rfl, hb'⟩; refine ⟨_, rfl, ?_⟩; have HB2 := Aside0.mk hb'; clear hb'))
        go_roundg (l.length - (kk + 1))
        case measure => omega
        case rel =>
          refine ⟨kk + 1, by omega, by omega, by go_num, HB2, ⟨?_⟩⟩
          rw [HA.out, HS.out, hq]; rfl
    · have hltz : ¬ (kk : Int) < (l.length : Int) := by omega
      have : kk = l.length := by omega
      subst this
      go_wp2
      go_ret
      refine ⟨?_, HB.out⟩
      rw [HA.out, List.drop_length]; rfl
theorem ins_copy_sz {P : Program} (w : World) (dT sT ty elem : TypeId) (g o dLen dCap : Nat) (a : Addr) (sLen sCap : Nat) (cur : Array Value) (t : TypeId) (cs : List Value) (size m : Nat)
    (hu : P.underlying dT = some (.slice elem)) (hs : (P.info? elem).map (·.size) = some size)
    (hg : w.heap[g]? = some (.cells cur t (0, 0))) (hm : Nat.min sLen dLen = m) (hn : cs.length = m * size)
    (hsrc : ∀ j v, cs[j]? = some v → w.cell? (a.add j) = some v) (hfit : o + cs.length ≤ cur.size) (h1 : ∀ v ∈ cs, v.oneCell' = true) :
    (Builtin.copy_ #[dT, sT] ty #[.slice (some ⟨g, o, none⟩) dLen dCap, .slice (some a) sLen sCap]).run P w =
      .ok (goInt m) (w.setRow g (cur.toList.take o ++ cs ++ cur.toList.drop (o + cs.length)).toArray) := by
  have hl := run_loadCells_list (P := P) w a cs hsrc
  have hst := run_storeCells_at P g o t cs 0 cur w hg (by simpa using hfit) h1
  cases hq : P.info? elem with
  | none => simp [hq] at hs
  | some i =>
    have hi : i.size = size := by simpa [hq] using hs
    simp [Builtin.copy_, run_underlying hu, Builtin.lenOf, Builtin.firstCells, sizeOf, typeInfo, hq, hi, hm, ← hn, hl, hst]
theorem ins_zeros_grow {P : Program} (w : World) (t ti ty e : TypeId) (i : TypeInfo) (z : Value) (size bytes : Nat) (ht : P.underlying t = some (.slice e)) {k : IntKind} (hti : P.underlying ti = some (.int k)) (hi : P.info? e = some i) (hz : i.zero = some z)
    (hsize : i.size = size) (hby : i.bytes = bytes) (hzs : z.cells.size = size) (hsz : 0 < size) (hb0 : 0 < bytes) (kx : IntKind) (n m cap : Nat) (A : Option Addr) (xs : List Value) (hm0 : 0 < m)
    (hbytes : (n + m) * bytes ≤ 140737488355328) (hcap : cap < n + m) (hfo : (Builtin.firstCells i.size n (.slice A n cap)).run P w.drew = .ok xs.toArray w.drew) :
    (Builtin.append_ #[t, ti] ty #[.slice A n cap, .int kx m]).run P w =
      .ok (.slice (some ⟨w.heap.size, 0, none⟩) (n + m) (grownCap w (n + m) cap e)) (w.drew.alloc (.cells (xs.toArray ++ Builtin.zeroCells z.cells m ++ Builtin.zeroCells z.cells (grownCap w (n + m) cap e - (n + m))) e)) := by
  subst hsize
  subst hby
  have hle : n + m ≤ 140737488355328 := Nat.le_trans (Nat.le_mul_of_pos_right _ hb0) hbytes
  have hw : IntKind.i64.wrap (m : Int) = m := by rw [IntKind.wrap_i64]; omega
  have hneg : ¬ ((m : Int) < 0) := by omega
  have hmb : m * i.bytes ≤ 140737488355328 := Nat.le_trans (Nat.mul_le_mul_right _ (Nat.le_add_left m n)) hbytes
  have hbig : ¬ (281474976710656 < (m : Int) * (i.bytes : Int)) := by
    rw [← Int.natCast_mul]
    omega
  have hn : ¬ (n + m ≤ cap) := by omega
  have h63' : ¬ (9223372036854775807 < ((n : Int) + (m : Int))) := by omega
  have hfit := growslice_fits hcap hbytes
  have h48' : ¬ (281474976710656 < Builtin.nextslicecap (n + m) cap * i.bytes) := by omega
  have hmz : ¬ (m * i.size = 0) := Nat.mul_ne_zero (by omega) (by omega)
  simp [Builtin.append_, run_underlying ht, run_underlying hti, sizeOf, typeInfo, zeroValue, hi, hz, asInt, asIntOf, hw, hneg, hbig, hn, h63', h48', Question.forced, hfo, newRow, grownCap, hmz]
theorem ins_list {α : Type} (pre xs post vs : List α) (k s : Nat) (hk : k ≤ xs.length) (hs : vs.length = s) (hp : s ≤ post.length) (L L1 : List α) (hL : L = pre ++ xs ++ post)
    (hL1 : L1 = L.take (pre.length + k + s) ++ xs.drop k ++ L.drop (pre.length + k + s + (xs.drop k).length)) :
    L1.take (pre.length + k) ++ vs ++ L1.drop (pre.length + k + vs.length) = pre ++ xs.take k ++ vs ++ xs.drop k ++ post.drop s ∧ L1.length = L.length := by
  obtain ⟨x1, x2, rfl, rfl⟩ : ∃ x1 x2, xs = x1 ++ x2 ∧ x1.length = k := ⟨xs.take k, xs.drop k, (List.take_append_drop k xs).symm, by rw [List.length_take]; omega⟩
  obtain ⟨p1, p2, rfl, rfl⟩ : ∃ p1 p2, post = p1 ++ p2 ∧ p1.length = s := ⟨post.take s, post.drop s, (List.take_append_drop s post).symm, by rw [List.length_take]; omega⟩
  rw [List.drop_left, List.take_left] at *
  have hLx : L = (pre ++ x1) ++ (x2 ++ p1) ++ p2 := by rw [hL]; simp [List.append_assoc]
  have e3 : L.drop (pre.length + x1.length + p1.length + x2.length) = p2 := by
    rw [hLx, List.drop_left' (by simp; omega)]
  obtain ⟨y, hy, hyl⟩ : ∃ y, L.take (pre.length + x1.length + p1.length) = pre ++ x1 ++ y ∧ y.length = p1.length := by
    refine ⟨(x2 ++ p1).take p1.length, ?_, by rw [List.length_take, List.length_append]; omega⟩
    rw [hLx, List.append_assoc, List.take_append, List.take_of_length_le (by simp), List.length_append, show pre.length + x1.length + p1.length - (pre.length + x1.length) = p1.length by omega, List.take_append_of_le_length (by simp)]
  rw [hy, e3] at hL1
  refine ⟨?_, by rw [hL1, hL]; simp [hyl]; omega⟩
  rw [hL1, hs]
  have t1 : (pre ++ x1 ++ y ++ x2 ++ p2).take (pre.length + x1.length) = pre ++ x1 := by
    rw [show pre ++ x1 ++ y ++ x2 ++ p2 = (pre ++ x1) ++ (y ++ x2 ++ p2) by simp [List.append_assoc]]
    exact List.take_left' (by simp)
  have t2 : (pre ++ x1 ++ y ++ x2 ++ p2).drop (pre.length + x1.length + p1.length) = x2 ++ p2 := by
    rw [show pre ++ x1 ++ y ++ x2 ++ p2 = (pre ++ x1 ++ y) ++ (x2 ++ p2) by simp [List.append_assoc]]
    exact List.drop_left' (by simp [hyl]; omega)
  rw [t1, t2, List.drop_left]
  simp [List.append_assoc]
theorem ins_inserted {α : Type} {d : Kd α} {e : Nat} {W w1 : World} {base i : Nat} {ok okp : Nat → Prop} {v v1 : Value} {xs : List α} {p : α} {inner cs : List Value} (h0 : ∀ k, v.ownBlock = some k → ok k) (hr : Reps (d.M W base (fun k => ok k ∧ some k ≠ v.ownBlock)) d.sz xs inner)
    (hp : d.M W base okp p cs) (hokp : ∀ k, okp k → ok k ∧ some k ≠ v.ownBlock) (hfresh : ∀ k, W.heap.size ≤ k → ok k) (hi : i ≤ xs.length)
    (hown : QRow w1 base e d.sz v1 (xs.length + 1) (inner.take (i * d.sz) ++ cs ++ inner.drop (i * d.sz))) (hg : W.grownBy w1 v.ownBlock) (hat : v1.ownBlock = v.ownBlock ∨ ∃ b, v1.ownBlock = some b ∧ W.heap.size ≤ b) :
    d.Q e w1 base ok v1 (xs.take i ++ [p] ++ xs.drop i) := by
  have hne : ∀ k, some k ≠ v.ownBlock → k < W.heap.size → some k ≠ v1.ownBlock := by
    intro k hk hlt
    rcases hat with hat | ⟨b, hb, hle⟩
    · rw [hat]; exact hk
    · rw [hb]; intro he; injection he with he; omega
  have step : ∀ {q : α} {c : List Value} {o : Nat → Prop}, d.M W base o q c → (∀ k, o k → ok k ∧ some k ≠ v.ownBlock) → d.M w1 base (fun k => ok k ∧ some k ≠ v1.ownBlock) q c := by
    intro q c o hq ho
    have h1 := d.M_move (w1 := w1) (fun k hk => hg.block k hk.2.2.1 (ho k hk.1).2) (d.M_bound hq)
    exact d.M_mono (fun k hk => ⟨(ho k hk.1).1, hne k (ho k hk.1).2 hk.2.2.1⟩) h1
  have hr' := hr.imp_ (R' := d.M w1 base (fun k => ok k ∧ some k ≠ v1.ownBlock)) (fun _ _ hq => step hq (fun _ hk => hk))
  refine ⟨fun k hk => ?_, _, by rw [show (xs.take i ++ [p] ++ xs.drop i).length = xs.length + 1 by simp; omega]; exact hown, ?_⟩
  · rcases hat with hat | ⟨b, hb, hle⟩
    · exact h0 k (hat ▸ hk)
    · rw [hb] at hk; injection hk with hk; exact hfresh k (by omega)
  · exact Kd.reps_append ((Kd.reps_take hr' hi).snoc (step hp hokp) (d.K_len (d.K_of_M hp))) (Kd.reps_drop hr')
set_option maxHeartbeats 4000000 in
set_option maxRecDepth 100000 in
theorem impl_Part_put_ins.shift (b off n c i vb voff m vc : Nat) (cur vcur : Array Value) (cs vs : List Value) (w : World) (hi : i < n) (hm : 0 < m) (hroom : n + m ≤ c) (hc63 : c ≤ 9223372036854775807) (hvb : vb ≠ b)
    (hg : w.heap[b]? = some (.cells cur 36 (0, 0))) (hv : w.heap[vb]? = some (.cells vcur 36 (0, 0))) (hcur : off + c * 9 ≤ cur.size) (hcs : (cur.toList.drop off).take (n * 9) = cs) (hvl : vs.length = m * 9)
    (hvs : ∀ j v, vs[j]? = some v → w.cell? ⟨vb, voff + j, none⟩ = some v) (h1c : ∀ v ∈ cs, v.oneCell' = true) (h1v : ∀ v ∈ vs, v.oneCell' = true) :
    Calls Try.prog 89 #[.slice (some ⟨b, off, none⟩) n c, .int .i64 i, .slice (some ⟨vb, voff, none⟩) m vc] w fun e w' =>
      e = .returned (.slice (some ⟨b, off, none⟩) (n + m) c) ∧ ∃ A : Array Value, w' = w.drew.setRow b A ∧ A.size = cur.size ∧ A.toList = cur.toList.take off ++ cs.take (i * 9) ++ vs ++ cs.drop (i * 9) ++ (cur.toList.drop (off + n * 9)).drop (m * 9) := by
  have t46 := Try.underlying30
  obtain ⟨i0, hi0, hz0, hz1, hz2⟩ := info_parts info36
  have hsz : (Try.prog.info? 36).map (·.size) = some 9 := by rw [hi0]; simp [hz1]
  have hso : ∀ w, (sizeOf 36).run Try.prog w = .ok 9 w := fun w => by simp [sizeOf, typeInfo, hi0, hz1]
  have hcsl : cs.length = n * 9 := by rw [← hcs, List.length_take, List.length_drop, Array.length_toList]; omega
  have hp1 : ¬ ((m : Int) = 0) := by omega
  have hp2 : ¬ ((i : Int) = (n : Int)) := by omega
  have hov : ∀ lb cb, (callFunc 99 #[.slice (some ⟨vb, voff, none⟩) m vc, .slice (some ⟨b, off + (i + m) * 9, none⟩) lb cb]).run Try.prog w = .ok (.value (.bool false)) w := fun lb cb => by
    rw [run_callFunc_extern Try.func99 (by kernel_rfl) (by kernel_rfl) (by kernel_rfl) (e := Extern.SlicesOverlaps.overlaps #[30, 30] #[4]) (by kernel_rfl),
      Lib.run_overlaps_apart w 30 4 36 t46 9 hso ⟨vb, voff, none⟩ ⟨b, off + (i + m) * 9, none⟩ m vc lb cb hvb 36 36 vcur.size cur.size (by simp [World.shape?, hv]) (by simp [World.shape?, hg]) (by omega) (blk_frozen hv _) (blk_frozen hv _)]
    rfl
  have hdl : (cs.drop (i * 9)).length = (n - i) * 9 := by rw [List.length_drop, hcsl, Nat.sub_mul]
  have hgd : w.drew.heap[b]? = some (.cells cur 36 (0, 0)) := hg
  obtain ⟨A1, hA1⟩ : ∃ A1 : Array Value, A1 = (cur.toList.take (off + (i + m) * 9) ++ cs.drop (i * 9) ++ cur.toList.drop (off + (i + m) * 9 + (cs.drop (i * 9)).length)).toArray := ⟨_, rfl⟩
  have hsrc : ∀ j v, (cs.drop (i * 9))[j]? = some v → w.drew.cell? ((⟨b, off + i * 9, none⟩ : Addr).add j) = some v := fun j v hj => by
    rw [Addr.add_lit, cell_of_row w.drew b _ cur 36 (0, 0) hgd]
    rw [List.getElem?_drop, ← hcs] at hj
    have hlt : i * 9 + j < n * 9 := by
      have := (List.getElem?_eq_some_iff.1 hj).1
      rw [List.length_take] at this; omega
    rw [List.getElem?_take_of_lt hlt, List.getElem?_drop] at hj
    rw [← Array.getElem?_toList, show off + i * 9 + j = off + (i * 9 + j) by omega]
    exact hj
  have hcp1 : ∀ ty dc sc, (Builtin.copy_ #[30, 30] ty #[.slice (some ⟨b, off + (i + m) * 9, none⟩) (n + m - (i + m)) dc, .slice (some ⟨b, off + i * 9, none⟩) (n + m - i) sc]).run Try.prog w.drew = .ok (goInt ((n - i : Nat) : Int)) (w.drew.setRow b A1) := fun ty dc sc => by
    rw [hA1]
    exact ins_copy_sz w.drew 30 30 ty 36 b (off + (i + m) * 9) (n + m - (i + m)) dc ⟨b, off + i * 9, none⟩ (n + m - i) sc cur 36 (cs.drop (i * 9)) 9 (n - i) t46 hsz hgd (by simp only [Nat.min_def]; split <;> omega) hdl hsrc (by rw [hdl]; omega) (fun v hv => h1c v (List.mem_of_mem_drop hv))
  obtain ⟨hl2, hl1⟩ := ins_list (cur.toList.take off) cs (cur.toList.drop (off + n * 9)) vs (i * 9) (m * 9) (by omega) hvl (by rw [List.length_drop, Array.length_toList]; omega) cur.toList A1.toList
    (by rw [← hcs, ← List.drop_drop, List.append_assoc, List.take_append_drop, List.take_append_drop]) (by
      have hpl : (cur.toList.take off).length = off := by rw [List.length_take, Array.length_toList]; omega
      rw [hA1, hpl, show off + i * 9 + m * 9 = off + (i + m) * 9 by omega])
  have hpl : (cur.toList.take off).length = off := by rw [List.length_take, Array.length_toList]; omega
  rw [hpl] at hl2
  have hg1 : (w.drew.setRow b A1).heap[b]? = some (.cells A1 36 (0, 0)) := setRow_heap w.drew b cur A1 36 (0, 0) hgd
  obtain ⟨A2, hA2⟩ : ∃ A2 : Array Value, A2 = (A1.toList.take (off + i * 9) ++ vs ++ A1.toList.drop (off + i * 9 + vs.length)).toArray := ⟨_, rfl⟩
  have hcp2 : ∀ ty dc, (Builtin.copy_ #[30, 30] ty #[.slice (some ⟨b, off + i * 9, none⟩) (n + m - i) dc, .slice (some ⟨vb, voff, none⟩) m vc]).run Try.prog (w.drew.setRow b A1) = .ok (goInt (m : Int)) ((w.drew.setRow b A1).setRow b A2) := fun ty dc => by
    rw [hA2]
    exact ins_copy_sz _ 30 30 ty 36 b (off + i * 9) (n + m - i) dc ⟨vb, voff, none⟩ m vc A1 36 vs 9 m t46 hsz hg1 (by simp only [Nat.min_def]; split <;> omega) hvl
      (fun j v hj => by
        rw [Addr.add_lit]
        refine Eq.trans ?_ (hvs j v hj)
        show World.cell? (w.drew.setRow b A1) ⟨vb, voff + j, none⟩ = _
        unfold World.cell? World.setRow
        simp [Array.getElem?_modify, Ne.symm hvb]
        rfl) (by rw [hvl]; have : A1.size = cur.size := by simpa using hl1
                 omega) h1v
  have hfin : A2.size = cur.size := by
    have h1 : A1.size = cur.size := by simpa using hl1
    rw [hA2]; simp; omega
  have hfin2 : A2.toList = cur.toList.take off ++ cs.take (i * 9) ++ vs ++ cs.drop (i * 9) ++ (cur.toList.drop (off + n * 9)).drop (m * 9) := by rw [hA2]; exact hl2
  have HF := Aside0.mk hfin
  have HF2 := Aside0.mk hfin2
  have hw1 : IntKind.i64.wrap ((i : Int) + (m : Int)) = (i : Int) + (m : Int) := by rw [IntKind.wrap_i64]; omega
  have hb1 : (0 : Int) ≤ (i : Int) + (m : Int) := by omega
  have hin : i ≤ n := by omega
  have htn : ((i : Int) + (m : Int)).toNat = i + m := by omega
  have hb2 : ¬ (c = i + m) := by omega
  have hb3 : (i : Int) ≤ (n : Int) + (m : Int) := by omega
  have hb4 : ¬ (c = i) := by omega
  clear hfin hfin2 hl1 hl2 hg1 hgd hsrc hg hv hcur hcs hvl hvs h1c h1v hA1 hA2 hdl hcsl hpl hso hsz
  go_enter Try.func89, Try.ntmps89
  go_wp2_with (simp only [hov])
  go_region_law (refine step_copy_runI rfl _ _ 30 30 rfl _ _ (by simp [Act.eval, Act.put]) (by simp [Act.eval, Act.put]) (hcp1 _ _ _) ?_)
  go_wp2_with (at_builtin; refine wpList_copy_runI _ rfl _ _ 30 30 rfl _ _ rfl rfl (hcp2 _ _) ?_)
  go_ret
  exact ⟨rfl, A2, by rw [setRow_setRow], HF.out, HF2.out⟩
set_option maxHeartbeats 4000000 in
set_option maxRecDepth 100000 in
theorem impl_Part_put_ins.grow (b off n c i vb voff m vc : Nat) (cur vcur : Array Value) (cs vs : List Value) (w : World) (hi : i < n) (hm : 0 < m) (hnc : n ≤ c) (hroom : c < n + m) (hbig : (n + m) * 80 ≤ 140737488355328)
    (hg : w.heap[b]? = some (.cells cur 36 (0, 0))) (hv : w.heap[vb]? = some (.cells vcur 36 (0, 0))) (hcur : off + c * 9 ≤ cur.size) (hcs : (cur.toList.drop off).take (n * 9) = cs) (hvl : vs.length = m * 9)
    (hvs : ∀ j v, vs[j]? = some v → w.cell? ⟨vb, voff + j, none⟩ = some v) (h1c : ∀ v ∈ cs, v.oneCell' = true) (h1v : ∀ v ∈ vs, v.oneCell' = true) :
    Calls Try.prog 89 #[.slice (some ⟨b, off, none⟩) n c, .int .i64 i, .slice (some ⟨vb, voff, none⟩) m vc] w fun e w' =>
      ∃ (N cap : Nat) (A0 A : Array Value), e = .returned (.slice (some ⟨N, 0, none⟩) (n + m) cap) ∧ N = w.heap.size ∧ w' = ((w.alloc (.cells A0 36)).drew.drew.setRow N A) ∧ n + m ≤ cap ∧ cap ≤ maxLen ∧ A.size = cap * 9 ∧ A.toList.take ((n + m) * 9) = cs.take (i * 9) ++ vs ++ cs.drop (i * 9) := by
  have t46 := Try.underlying30
  have t3 := Try.underlying3
  obtain ⟨i0, hi0, hz0, hz1, hz2⟩ := info_parts info36
  have hsz : (Try.prog.info? 36).map (·.size) = some 9 := by rw [hi0]; simp [hz1]
  have hcsl : cs.length = n * 9 := by rw [← hcs, List.length_take, List.length_drop, Array.length_toList]; omega
  have hp1 : ¬ ((m : Int) = 0) := by omega
  have hp2 : ¬ ((i : Int) = (n : Int)) := by omega
  have hp3 : ¬ ((n : Int) + (m : Int) ≤ (c : Int)) := by omega
  have hp4 : (c : Int) < (n : Int) + (m : Int) := by omega
  obtain ⟨k, hik⟩ : ∃ k, i + k = n + m := ⟨n + m - i, by omega⟩
  have hk0 : 0 < k := by omega
  have hkI : (n : Int) + (m : Int) - (i : Int) = (k : Int) := by omega
  have hgd : w.drew.heap[b]? = some (.cells cur 36 (0, 0)) := hg
  have cellb : ∀ (W : World), W.heap[b]? = some (.cells cur 36 (0, 0)) → ∀ j v, cs[j]? = some v → W.cell? ⟨b, off + j, none⟩ = some v := fun W hW j v hj => by
    rw [cell_of_row W b _ cur 36 (0, 0) hW]
    rw [← hcs] at hj
    have hlt : j < n * 9 := by
      have := (List.getElem?_eq_some_iff.1 hj).1
      rw [List.length_take] at this; omega
    rw [List.getElem?_take_of_lt hlt, List.getElem?_drop] at hj
    rw [← Array.getElem?_toList]
    exact hj
  obtain ⟨N, hN⟩ : ∃ N, N = w.heap.size := ⟨_, rfl⟩
  have hbN : b ≠ N := by have := (Array.getElem?_eq_some_iff.1 hg).1; omega
  have hvN : vb ≠ N := by have := (Array.getElem?_eq_some_iff.1 hv).1; omega
  obtain ⟨cap, hcap⟩ : ∃ cap, cap = grownCap w (i + k) c 36 := ⟨_, rfl⟩
  have hcge : n + m ≤ cap := by rw [hcap, ← hik]; exact grownCap_ge w (i + k) c 36
  have hcmx : cap ≤ maxLen := by rw [hcap]; exact grownCap_le_maxLen w (i + k) c 36 (by rw [hik]; simp only [maxLen]; omega)
  obtain ⟨z, hz⟩ : ∃ z : Value, z = (.agg #[(.int .i64 0), (.int .i64 0), (.int .i64 0), (.int .i64 0), (.int .i64 0), (.int .i64 0), (.bool false), (.bool false), (.slice none 0 0)]) := ⟨_, rfl⟩
  rw [← hz] at hz0
  obtain ⟨A0, hA0⟩ : ∃ A0, A0 = (cs.take (i * 9)).toArray ++ Builtin.zeroCells z.cells k ++ Builtin.zeroCells z.cells (cap - (i + k)) := ⟨_, rfl⟩
  have hzs : z.cells.size = 9 := by rw [hz]; rfl
  have hA0s : A0.size = cap * 9 := by
    rw [hA0]; simp only [Array.size_append, List.size_toArray, List.length_take, hcsl, size_zeroCells, hzs]; omega
  have hap : ∀ ty kx, (Builtin.append_ #[30, 3] ty #[.slice (some ⟨b, off, none⟩) i c, .int kx (k : Int)]).run Try.prog w = .ok (.slice (some ⟨N, 0, none⟩) (n + m) cap) (w.alloc (.cells A0 36)).drew := fun ty kx => by
    refine Eq.trans ?_ (show _ = Result.ok (Value.slice (some ⟨N, 0, none⟩) (n + m) cap) (w.drew.alloc (.cells A0 36)) from rfl)
    rw [ins_zeros_grow w 30 3 ty 36 i0 z 9 80 t46 t3 hi0 hz0 hz1 hz2 hzs (by omega) (by omega) kx i k c (some ⟨b, off, none⟩) (cs.take (i * 9)) hk0 (by rw [hik]; exact hbig) (by omega)
      (by rw [hz1]; exact run_firstCells_some (P := Try.prog) w.drew 9 i _ i c (cs.take (i * 9)) (by rw [List.length_take]; omega) (fun j v hj => by
        rw [Addr.add_lit]
        refine cellb w.drew hgd j v ?_
        rw [List.getElem?_take] at hj; split at hj
        · exact hj
        · cases hj)), ← hcap, ← hA0, ← hN, hik]
  have ha0 : ((w.alloc (.cells A0 36)).drew).heap[N]? = some (.cells A0 36 (0, 0)) := by rw [hN]; exact heap_alloc_new w _
  have haOld : ∀ k', k' ≠ N → k' < w.heap.size → (w.alloc (.cells A0 36)).drew.heap[k']? = w.heap[k']? := fun k' hk' hlt => heap_alloc_old w _ hlt
  have hbl : b < w.heap.size := (Array.getElem?_eq_some_iff.1 hg).1
  have hvl' : vb < w.heap.size := (Array.getElem?_eq_some_iff.1 hv).1
  obtain ⟨A1, hA1⟩ : ∃ A1 : Array Value, A1 = (A0.toList.take (i * 9) ++ vs ++ A0.toList.drop (i * 9 + vs.length)).toArray := ⟨_, rfl⟩
  have hcp1 : ∀ ty dc, (Builtin.copy_ #[30, 30] ty #[.slice (some ⟨N, i * 9, none⟩) (n + m - i) dc, .slice (some ⟨vb, voff, none⟩) m vc]).run Try.prog (w.alloc (.cells A0 36)).drew = .ok (goInt (m : Int)) ((w.alloc (.cells A0 36)).drew.setRow N A1) := fun ty dc => by
    rw [hA1]
    exact ins_copy_sz _ 30 30 ty 36 N (i * 9) (n + m - i) dc ⟨vb, voff, none⟩ m vc A0 36 vs 9 m t46 hsz ha0 (by simp only [Nat.min_def]; split <;> omega) hvl
      (fun j v hj => by
        rw [Addr.add_lit]
        refine Eq.trans ?_ (hvs j v hj)
        unfold World.cell?
        rw [haOld vb hvN hvl']) (by rw [hvl, hA0s]; omega) h1v
  have hA1s : A1.size = cap * 9 := by rw [hA1]; simp [hA0s, hvl]; omega
  have ha1 : (((w.alloc (.cells A0 36)).drew.setRow N A1).drew).heap[N]? = some (.cells A1 36 (0, 0)) := setRow_heap _ N A0 A1 36 (0, 0) ha0
  have haB : (((w.alloc (.cells A0 36)).drew.setRow N A1).drew).heap[b]? = some (.cells cur 36 (0, 0)) := by
    show ((w.alloc (.cells A0 36)).drew.setRow N A1).heap[b]? = _
    unfold World.setRow
    simp only [Array.getElem?_modify, if_neg (Ne.symm hbN)]
    rw [haOld b hbN hbl]; exact hg
  have hdl : (cs.drop (i * 9)).length = (n - i) * 9 := by rw [List.length_drop, hcsl, Nat.sub_mul]
  obtain ⟨A2, hA2⟩ : ∃ A2 : Array Value, A2 = (A1.toList.take ((i + m) * 9) ++ cs.drop (i * 9) ++ A1.toList.drop ((i + m) * 9 + (cs.drop (i * 9)).length)).toArray := ⟨_, rfl⟩
  have hcp2 : ∀ ty dc sc, (Builtin.copy_ #[30, 30] ty #[.slice (some ⟨N, (i + m) * 9, none⟩) (n + m - (i + m)) dc, .slice (some ⟨b, off + i * 9, none⟩) (n - i) sc]).run Try.prog ((w.alloc (.cells A0 36)).drew.setRow N A1).drew = .ok (goInt ((n - i : Nat) : Int)) (((w.alloc (.cells A0 36)).drew.setRow N A1).drew.setRow N A2) := fun ty dc sc => by
    rw [hA2]
    exact ins_copy_sz _ 30 30 ty 36 N ((i + m) * 9) (n + m - (i + m)) dc ⟨b, off + i * 9, none⟩ (n - i) sc A1 36 (cs.drop (i * 9)) 9 (n - i) t46 hsz ha1 (by simp only [Nat.min_def]; split <;> omega) hdl
      (fun j v hj => by
        rw [Addr.add_lit, Nat.add_assoc]
        exact cellb _ haB (i * 9 + j) v (by rwa [List.getElem?_drop] at hj)) (by rw [hdl, hA1s]; omega) (fun v hv => h1c v (List.mem_of_mem_drop hv))
  have hfin : A2.size = cap * 9 := by rw [hA2]; simp [hA1s, hdl]; omega
  have hfin2 : A2.toList.take ((n + m) * 9) = cs.take (i * 9) ++ vs ++ cs.drop (i * 9) := by
    have e0 : A0.toList.take (i * 9) = cs.take (i * 9) := by
      rw [hA0]; simp only [Array.toList_append, List.append_assoc]
      exact List.take_left' (by rw [List.length_take]; omega)
    have e1 : A1.toList.take ((i + m) * 9) = cs.take (i * 9) ++ vs := by
      rw [hA1, e0]
      exact List.take_left' (by rw [List.length_append, List.length_take, hvl]; omega)
    rw [hA2, e1]
    exact List.take_left' (by rw [List.length_append, List.length_append, List.length_take, hvl, hdl]; omega)
  have HF := Aside0.mk hfin
  have HF2 := Aside0.mk hfin2
  have HC := Aside0.mk hcge
  have HCM := Aside0.mk hcmx
  have HN := Aside0.mk hN
  have hw1 : IntKind.i64.wrap ((i : Int) + (m : Int)) = (i : Int) + (m : Int) := by rw [IntKind.wrap_i64]; omega
  have hb1 : (0 : Int) ≤ (i : Int) + (m : Int) := by omega
  have hin : i ≤ n := by omega
  have hinm : i ≤ n + m := by omega
  have hic : i ≤ c := by omega
  have htn : ((i : Int) + (m : Int)).toNat = i + m := by omega
  have hb2 : ¬ (cap = i + m) := by omega
  have hb3 : (i : Int) + (m : Int) ≤ (n : Int) + (m : Int) := by omega
  have hb4 : ¬ (c = i) := by omega
  have hb5 : ¬ (cap = i) := by omega
  have hb6 : (i : Int) ≤ (n : Int) + (m : Int) := by omega
  have hb7 : (n : Int) + (m : Int) ≤ (cap : Int) := by omega
  clear hfin hfin2 hg hv hcur hcs hvl hvs h1c h1v hA1 hA2 hA0 hdl hcsl hsz ha0 ha1 haB haOld hbl hvl' hcge hcmx hA0s hA1s hN hcap hz hz0 hzs hgd cellb hik hk0
  go_enter Try.func89, Try.ntmps89
  go_wp2_with (first | (at_builtin; refine Lib.wpList_append_run _ rfl _ _ 30 3 rfl _ _ rfl rfl _ _ (hap _ _) ?_) | (refine wpList_copy_runI _ rfl _ _ 30 30 rfl _ _ rfl rfl (hcp1 _ _) ?_))
  go_region_law (refine step_copy_runI rfl _ _ 30 30 rfl _ _ (by simp [Act.eval, Act.put]) (by simp [Act.eval, Act.put]) (hcp2 _ _ _) ?_)
  go_wp2
  go_ret
  exact ⟨N, cap, A0, A2, rfl, HN.out, (setRow_setRow ((w.alloc (.cells A0 36)).drew.drew) N A1 A2), HC.out, HCM.out, HF.out, HF2.out⟩
set_option maxHeartbeats 4000000 in
set_option maxRecDepth 100000 in
theorem impl_Part_put_ins.last (A : Option Addr) (n c vb vc : Nat) (w w1 : World) (v1 : Value) (hnc : n ≤ c)
    (hap : ∀ ty, (Builtin.append_ #[30, 30] ty #[.slice A n c, .slice (some ⟨vb, 0, none⟩) 1 vc]).run Try.prog w = .ok v1 w1) :
    Calls Try.prog 89 #[.slice A n c, .int .i64 n, .slice (some ⟨vb, 0, none⟩) 1 vc] w fun e w' => e = .returned v1 ∧ w' = w1 := by
  have t46 := Try.underlying30
  obtain ⟨i0, hi0, hz0, hz1, hz2⟩ := info_parts info36
  rcases A with _ | ⟨b, off, pth⟩ <;> (by_cases hcn : c = n)
  all_goals (try subst hcn)
  all_goals go_enter Try.func89, Try.ntmps89
  all_goals go_wp2_with (first | (at_builtin; refine Lib.wpList_append_run _ rfl _ _ 30 30 rfl _ _ rfl rfl _ _ (hap _) ?_))
  all_goals go_ret
  all_goals exact ⟨rfl, rfl⟩
set_option maxHeartbeats 1000000 in
theorem impl_Part_put_ins.Q {α : Type} (d : Kd α) (hd : d.sz = 9) {w0 W : World} (base : Nat) (v : Value) (xs : List α) (p : α) (cs : List Value) (ok okp : Nat → Prop) (i : Nat) (hi : i ≤ xs.length) (hp : d.M W base okp p cs) (hokp : ∀ k, okp k → ok k ∧ some k ≠ v.ownBlock) (hfresh : ∀ k, W.heap.size ≤ k → ok k)
    (HO : d.Q 36 W base ok v xs) (HB : Below base w0 W) (hbase : base ≤ W.heap.size) (hl : (xs.length + 1) * 80 ≤ 140737488355328) :
    Calls Try.prog 89 #[v, .int .i64 i, .slice (some ⟨W.heap.size, 0, none⟩) 1 1] (W.alloc (.cells cs.toArray 36)) fun e w' =>
      ∃ v1, e = .returned v1 ∧ d.Q 36 w' base ok v1 (xs.take i ++ [p] ++ xs.drop i) ∧ Below base w0 w' ∧ W.grownBy w' v.ownBlock ∧ (v1.ownBlock = v.ownBlock ∨ ∃ b, v1.ownBlock = some b ∧ W.heap.size ≤ b) := by
  have hqb : ∀ k, v.ownBlock = some k → base ≤ k := Kd.Q_base HO
  by_cases hin : i < xs.length
  · have HO' := HO
    obtain ⟨h0, inner, hown, hr⟩ := HO
    have hcl : cs.length = 1 * 9 := by rw [d.K_len (d.K_of_M hp), hd]
    have h1s := d.K_one (d.K_of_M hp)
    have h1c : ∀ u ∈ inner, u.oneCell' = true := Kd.reps_one hr (by omega) (fun _ _ h => d.K_one (d.K_of_M h))
    rw [hd] at hown
    have hown' := hown
    rcases hown.2 with ⟨hn0, _⟩ | ⟨g, off, cap, cur, rfl, hb, hh, hnc, hmx, hsz, htk⟩
    · omega
    have hgl := blk_lt hh
    have hne : W.heap.size ≠ g := by omega
    have hh2 : (W.alloc (.cells cs.toArray 36)).heap[g]? = some (.cells cur 36 (0, 0)) := by rw [heap_alloc_old W _ hgl]; exact hh
    have hv2 : (W.alloc (.cells cs.toArray 36)).heap[W.heap.size]? = some (.cells cs.toArray 36 (0, 0)) := heap_alloc_new W _
    have hvs : ∀ j u, cs[j]? = some u → (W.alloc (.cells cs.toArray 36)).cell? ⟨W.heap.size, 0 + j, none⟩ = some u := fun j u hj => by
      rw [cell_of_row _ _ _ _ _ _ hv2, ← Array.getElem?_toList, Nat.zero_add]; exact hj
    have hmx' : off + cap ≤ 9223372036854775807 := by have := hmx; simp only [maxLen] at this; omega
    by_cases hroom : xs.length + 1 ≤ cap
    · have hc := impl_Part_put_ins.shift g (off * 9) xs.length cap i W.heap.size 0 1 1 cur cs.toArray inner cs (W.alloc (.cells cs.toArray 36)) hin (by omega) hroom (by omega) hne hh2 hv2 (by omega) htk hcl hvs h1c h1s
      refine Calls.mono hc ?_
      rintro e w' ⟨rfl, A, rfl, hA1, hA2⟩
      have hg : W.grownBy ((W.alloc (.cells cs.toArray 36)).drew.setRow g A) (Value.slice (some ⟨g, off * 9, none⟩) xs.length cap).ownBlock := by
        refine ⟨rfl, rfl, rfl, ?_, fun k hk hkne => ?_⟩
        · show W.heap.size ≤ ((W.alloc (.cells cs.toArray 36)).heap.modify g _).size
          rw [Array.size_modify]; exact Nat.le_trans (Nat.le_succ _) (Nat.le_of_eq (World.size_alloc W _).symm)
        · have hkg : ¬ g = k := fun he => hkne (by rw [he]; rfl)
          show ((W.alloc (.cells cs.toArray 36)).heap.modify g _)[k]? = _
          rw [Array.getElem?_modify, if_neg hkg]
          exact heap_alloc_old W _ hk
      refine ⟨_, rfl, ?_, HB.grown hg hbase (fun k hk => hqb k hk), hg, .inl rfl⟩
      refine ins_inserted h0 hr hp hokp hfresh hi ?_ hg (.inl rfl)
      rw [hd]
      refine ⟨by simp [hown.1, hcl]; omega, .inr ⟨g, off, cap, A, rfl, hb, setRow_heap _ g cur A 36 (0, 0) hh2, hroom, hmx, by omega, ?_⟩⟩
      have hpl : (cur.toList.take (off * 9)).length = off * 9 := by rw [List.length_take, Array.length_toList]; omega
      have hil := hown.1
      rw [hA2, List.append_assoc, List.append_assoc, List.append_assoc, List.drop_left' hpl, ← List.append_assoc, ← List.append_assoc]
      exact List.take_left' (by simp [hil, hcl]; omega)
    · have hc := impl_Part_put_ins.grow g (off * 9) xs.length cap i W.heap.size 0 1 1 cur cs.toArray inner cs (W.alloc (.cells cs.toArray 36)) hin (by omega) hnc (by omega) hl hh2 hv2 (by omega) htk hcl hvs h1c h1s
      refine Calls.mono hc ?_
      rintro e w' ⟨N, cp, A0, A, rfl, hN, rfl, hcp1, hcp2, hA1, hA2⟩
      have hNs : N = W.heap.size + 1 := by rw [hN]; exact World.size_alloc W _
      have hNh : ((W.alloc (.cells cs.toArray 36)).alloc (.cells A0 36)).heap[N]? = some (.cells A0 36 (0, 0)) := by rw [hN]; exact heap_alloc_new _ _
      have hg : W.grownBy (((W.alloc (.cells cs.toArray 36)).alloc (.cells A0 36)).drew.drew.setRow N A) (Value.slice (some ⟨g, off * 9, none⟩) xs.length cap).ownBlock := by
        refine ⟨rfl, rfl, rfl, ?_, fun k hk hkne => ?_⟩
        · show W.heap.size ≤ (((W.alloc (.cells cs.toArray 36)).alloc (.cells A0 36)).heap.modify N _).size
          rw [Array.size_modify, World.size_alloc, World.size_alloc]; omega
        · have hkN : ¬ N = k := by omega
          show (((W.alloc (.cells cs.toArray 36)).alloc (.cells A0 36)).heap.modify N _)[k]? = _
          rw [Array.getElem?_modify, if_neg hkN, heap_alloc_old (W.alloc (.cells cs.toArray 36)) _ (by rw [World.size_alloc]; omega)]
          exact heap_alloc_old W _ hk
      have hat : (Value.slice (some ⟨N, 0, none⟩) (xs.length + 1) cp).ownBlock = (Value.slice (some ⟨g, off * 9, none⟩) xs.length cap).ownBlock ∨ ∃ b, (Value.slice (some ⟨N, 0, none⟩) (xs.length + 1) cp).ownBlock = some b ∧ W.heap.size ≤ b := .inr ⟨N, rfl, by omega⟩
      refine ⟨_, rfl, ?_, HB.grown hg hbase (fun k hk => hqb k hk), hg, hat⟩
      refine ins_inserted h0 hr hp hokp hfresh hi ?_ hg hat
      rw [hd]
      refine ⟨by simp [hown.1, hcl]; omega, .inr ⟨N, 0, cp, A, by rw [Nat.zero_mul], by omega, setRow_heap _ N A0 A 36 (0, 0) hNh, hcp1, by rw [Nat.zero_add]; exact hcp2, by rw [Nat.zero_add, hA1]; omega, ?_⟩⟩
      rw [Nat.zero_mul, List.drop_zero, hA2]
  · obtain rfl : i = xs.length := by omega
    obtain ⟨A, c, rfl, hxc⟩ := Kd.Q_slice HO
    have hA : A = none → xs.length = c := by
      intro hAn
      obtain ⟨h0, inner, hown, hr⟩ := HO
      rcases hown.2 with ⟨hn0, A', he, _⟩ | ⟨g, off, cap, cur, he, _⟩
      · simp only [Value.slice.injEq] at he; omega
      · simp only [Value.slice.injEq] at he; rw [hAn] at he; exact absurd he.1 (by simp)
    have hinfo : (Try.prog.info? 36).map (fun i => (i.zero, i.size, i.bytes)) = some (some ((.agg #[(.int .i64 0), (.int .i64 0), (.int .i64 0), (.int .i64 0), (.int .i64 0), (.int .i64 0), (.bool false), (.bool false), (.slice none 0 0)])), d.sz, 80) := by rw [hd]; exact info36
    obtain ⟨v1, w1, hr, h1, h2, h3, h4⟩ := Kd.Q_run (P := Try.prog) d base 30 30 36 _ 80 Try.underlying30 hinfo (by rw [hd]; rfl) (by omega) (by omega) _ xs p cs ok okp hp hokp hfresh HO HB hbase hl
    refine Calls.mono (impl_Part_put_ins.last A xs.length c W.heap.size 1 _ w1 v1 hxc (fun ty => ?_)) ?_
    · obtain ⟨v1', w1', hr', _⟩ := Kd.Q_run (P := Try.prog) d base 30 ty 36 _ 80 Try.underlying30 hinfo (by rw [hd]; rfl) (by omega) (by omega) _ xs p cs ok okp hp hokp hfresh HO HB hbase hl
      exact hr
    · rintro e w' ⟨rfl, rfl⟩
      refine ⟨_, rfl, ?_, h2, h3, h4⟩
      rw [List.take_of_length_le (Nat.le_refl _), List.drop_of_length_le (Nat.le_refl _), List.append_nil]
      exact h1
theorem impl_Part_put_ins.calls {α : Type} (d : Kd α) (hd : d.sz = 9) {w0 W : World} (base : Nat) (v : Value) (xs : List α) (p : α) (cs : List Value) (ok okp : Nat → Prop) (ix : Int) (h0 : 0 ≤ ix) (h1 : ix ≤ (xs.length : Int)) (hp : d.M W base okp p cs) (hokp : ∀ k, okp k → ok k ∧ some k ≠ v.ownBlock) (hfresh : ∀ k, W.heap.size ≤ k → ok k)
    (HO : d.Q 36 W base ok v xs) (HB : Below base w0 W) (hbase : base ≤ W.heap.size) (hl : (xs.length + 1) * 80 ≤ 140737488355328) :
    Calls Try.prog 89 #[v, .int .i64 ix, .slice (some ⟨W.heap.size, 0, none⟩) 1 1] (W.alloc (.cells cs.toArray 36)) fun e w' =>
      ∃ v1, e = .returned v1 ∧ d.Q 36 w' base ok v1 (xs.take ix.toNat ++ [p] ++ xs.drop ix.toNat) ∧ Below base w0 w' ∧ W.grownBy w' v.ownBlock ∧ (v1.ownBlock = v.ownBlock ∨ ∃ b, v1.ownBlock = some b ∧ W.heap.size ≤ b) := by
  obtain ⟨i, rfl⟩ := Int.eq_ofNat_of_zero_le h0
  exact impl_Part_put_ins.Q d hd base v xs p cs ok okp i (by omega) hp hokp hfresh HO HB hbase hl
set_option maxHeartbeats 2000000 in
set_option maxRecDepth 100000 in
theorem impl_Part_put.contains (P : S36 → Bool) (g gb : Nat) (fn : Func) (hfn : Try.prog.funcs[g]? = some fn) (hname : (fn.name == "runtime.NumGoroutine") = false) (hbody : fn.body.isSome = true) (A : Option Addr) (n c : Nat) (l : List S36) (hn : n = l.length) (hbig : l.length ≤ 1000000) (w : World) (hr : Kd.C k36 w A n l)
    (hP : ∀ (x : S36) (Ax : Option Addr) (cx : Nat) (W : World), x ∈ l → Below w.heap.size w W → Kd.C (Kd.int .u8) W Ax x.f8.length x.f8 → x.f8.length ≤ cx →
      Calls Try.prog g #[.agg #[.int .i64 x.f0, .int .i64 x.f1, .int .i64 x.f2, .int .i64 x.f3, .int .i64 x.f4, .int .i64 x.f5, .bool x.f6, .bool x.f7, .slice Ax x.f8.length cx], .pointer (some ⟨gb, 0, none⟩)] W fun e w' => e = .returned (.bool (P x)) ∧ Below w.heap.size w w') :
    Calls Try.prog 83 #[.slice A n c, .func (.func g) #[] #[.pointer (some ⟨gb, 0, none⟩)]] w fun e w' => e = .returned (.bool (l.any P)) ∧ Below w.heap.size w w' := by
  have HI := Aside0.mk (impl_Part_put.index P g gb fn hfn hname hbody A n c l hn hbig w hr hP)
  clear hr hP hfn hname hbody
  have hix := impl_Part_put.ix_eq P l 0
  rw [Nat.zero_add] at hix
  generalize impl_Part_put.ix P 0 l = z at *
  go_enter Try.func83, Try.ntmps83
  cases ha : l.any P with
  | true =>
    rw [ha, if_pos rfl] at hix
    have hz : decide (0 ≤ z) = true := decide_eq_true (by omega)
    have hz2 : 0 ≤ z := by omega
    clear hix ha
    go_wp2_with (first | ((with_reducible refine gate_callee (f := 87) rfl ?_); refine goesL_ (some 7) rfl rfl Try.func87 (by kernel_rfl) rfl #[.slice A n c, .func (.func g) #[] #[.pointer (some ⟨gb, 0, none⟩)]] rfl ar_ ?_; refine HI.out.mono ?_; rintro e w7 ⟨rfl, hb⟩; refine ⟨_, rfl, ?_⟩; have HB := Aside0.mk hb; clear hb))
    go_ret
    exact ⟨rfl, HB.out⟩
  | false =>
    rw [ha, if_neg (by decide)] at hix
    have hz : decide (0 ≤ z) = false := decide_eq_false (by omega)
    have hz2 : ¬ 0 ≤ z := by omega
    clear hix ha
    go_wp2_with (first | ((with_reducible refine gate_callee (f := 87) rfl ?_); refine goesL_ (some 7) rfl rfl Try.func87 (by kernel_rfl) rfl #[.slice A n c, .func (.func g) #[] #[.pointer (some ⟨gb, 0, none⟩)]] rfl ar_ ?_; refine HI.out.mono ?_; rintro e w7 ⟨rfl, hb⟩; refine ⟨_, rfl, ?_⟩; have HB := Aside0.mk hb; clear hb))
    go_ret
    exact ⟨rfl, HB.out⟩
theorem impl_Part_put.neq_nil0 (d : Nat) (w : World) (ad : Addr) (n c : Nat) : (Op.equalIn (d + 1) 30 (.slice (some ad) n c) (.slice none 0 0)).run Try.prog w = .ok false w := by
  simp [Op.equalIn, run_underlying Try.underlying30]
theorem impl_Part_put.neq_nil1 (w : World) (ad : Addr) (n c : Nat) : (Op.equal 30 (.slice (some ad) n c) (.slice none 0 0)).run Try.prog w = .ok false w := impl_Part_put.neq_nil0 9999 w ad n c
theorem impl_Part_put.neq_nil (w : World) (ad : Addr) (n c : Nat) : (binOp .eql 30 (.slice (some ad) n c) (.slice none 0 0)).run Try.prog w = .ok (.bool false) w := by
  simp only [binOp]
  simp [impl_Part_put.neq_nil1 w ad n c]
set_option maxHeartbeats 2000000 in
set_option maxRecDepth 100000 in
theorem impl_Part_put.clone (ad : Addr) (n c : Nat) (rows : List (List Value)) (hn : n = rows.length) (hbig : rows.length ≤ 1000000) (w : World) (hr : (Kd.raw 9).C w (some ad) n rows) :
    Calls Try.prog 90 #[.slice (some ad) n c] w fun e w' => ∃ v, e = .returned v ∧ (Kd.raw 9).R 36 w' w.heap.size (fun _ => True) v rows ∧ Below w.heap.size w w' := by
  subst hn
  have hu := Try.underlying30
  have hnn := impl_Part_put.neq_nil
  have HR := Aside0.mk hr
  have HB := Aside0.mk (Below.refl w.heap.size w)
  clear hr
  go_enter Try.func90, Try.ntmps90
  go_wp2_with (first
    | ((with_reducible refine gate_dst (N := 5) rfl ?_); refine Kd.R_lit (Kd.raw 9) _ 36 ?hg (N := 5) ?hd (xs := ([] : List (List Value))) (inner := []) (ok := fun _ => True) (okp := fun _ => True) ?hr ?hp (fun _ hk => hk) trivial (Below.refl _ _) (Nat.le_refl _) (by simp) ?_; (case hd => rfl); (case hg => rfl); (case hr => first | (go_simp; done) | (go_simp; rfl)); (case hp => exact (Reps.none _ _)); intro v1 w5 ho hb hg_ hnew_; clear hg_ hnew_; have HO := Aside0.mk (Kd.R_lower ho (below_size (hbA_ HB.out))); replace HB := (bs_ HB hb); clear hb ho)
    | ((with_reducible refine gate_builtin (b := .append) (xs := #[.tmp 5, .tmp 6]) rfl ?_); at_builtin; refine Kd.R_append_rows (Kd.raw 9) (w0 := w) w.heap.size rfl (.tmp 5) (.tmp 6) 30 36 (.agg #[(.int .i64 0), (.int .i64 0), (.int .i64 0), (.int .i64 0), (.int .i64 0), (.int .i64 0), (.bool false), (.bool false), (.slice none 0 0)]) 80 rfl Try.underlying30 info36 rfl (by decide) (by omega) v1 [] rows _ _ _ (fun _ => True) (fun _ => False) rfl rfl ?aO ?aR (fun _ _ h => h) (fun _ h => h.elim) ?aF ?aB ?aS ?aL ?_; (case aR => exact kC_ (Kd.C_below HR.out HB.out)); (case aB => exact (hbA_ HB.out)); (case aF => exact (fun _ _ => trivial)); (case aO => exact (kR_ HO.out)); (case aS => exact (below_size (hbA_ HB.out))); (case aL => simp only [List.length_nil]; omega); intro v2 w7 ho hb hg hat; have HB2 := Aside0.mk (hb); have HO2 := Aside0.mk (ho); clear ho hb hg hat))
  go_ret
  exact ⟨_, rfl, HO2.out, HB2.out⟩
set_option maxHeartbeats 2000000 in
theorem impl_Part_put.insQ (base vb : Nat) {W : World} (v : Value) (xs : List (List Value)) (cs : List Value) (i : Nat) (hi : i ≤ xs.length) (hc9 : cs.length = 9) (hone : ∀ u ∈ cs, u.oneCell' = true)
    (hv2 : W.heap[vb]? = some (.cells cs.toArray 36 (0, 0))) (hvb : some vb ≠ v.ownBlock) (HO : (Kd.raw 9).Q 36 W base (fun _ => True) v xs) (hbase : base ≤ W.heap.size) (hl : (xs.length + 1) * 80 ≤ 140737488355328) :
    Calls Try.prog 89 #[v, .int .i64 i, .slice (some ⟨vb, 0, none⟩) 1 1] W fun e w' =>
      ∃ v1, e = .returned v1 ∧ (Kd.raw 9).Q 36 w' base (fun _ => True) v1 (xs.take i ++ [cs] ++ xs.drop i) ∧ W.grownBy w' v.ownBlock ∧ (v1.ownBlock = v.ownBlock ∨ ∃ b, v1.ownBlock = some b ∧ W.heap.size ≤ b) := by
  have hp : (Kd.raw 9).M W base (fun _ => False) cs cs := ⟨rfl, hc9, hone⟩
  have hokp : ∀ k, (fun _ : Nat => False) k → (fun _ : Nat => True) k ∧ some k ≠ v.ownBlock := fun k h => h.elim
  have hfresh : ∀ k, W.heap.size ≤ k → (fun _ : Nat => True) k := fun _ _ => trivial
  have hvs : ∀ j u, cs[j]? = some u → W.cell? ⟨vb, 0 + j, none⟩ = some u := fun j u hj => by
    rw [cell_of_row _ _ _ _ _ _ hv2, ← Array.getElem?_toList, Nat.zero_add]; exact hj
  by_cases hin : i < xs.length
  · obtain ⟨h0, inner, hown, hr⟩ := HO
    have hcl : cs.length = 1 * 9 := by omega
    have h1c : ∀ u ∈ inner, u.oneCell' = true := Kd.reps_one hr (by decide) (fun _ _ h => (Kd.raw 9).K_one ((Kd.raw 9).K_of_M h))
    have hown' : QRow W base 36 9 v xs.length inner := hown
    rcases hown'.2 with ⟨hn0, _⟩ | ⟨g, off, cap, cur, rfl, hb, hh, hnc, hmx, hsz, htk⟩
    · omega
    have hne : vb ≠ g := fun e => hvb (by rw [e]; rfl)
    have hmx' : off + cap ≤ 9223372036854775807 := by have := hmx; simp only [maxLen] at this; omega
    by_cases hroom : xs.length + 1 ≤ cap
    · have hc := impl_Part_put_ins.shift g (off * 9) xs.length cap i vb 0 1 1 cur cs.toArray inner cs W hin (by omega) hroom (by omega) hne hh hv2 (by omega) htk hcl hvs h1c hone
      refine Calls.mono hc ?_
      rintro e w' ⟨rfl, A, rfl, hA1, hA2⟩
      have hg : W.grownBy (W.drew.setRow g A) (Value.slice (some ⟨g, off * 9, none⟩) xs.length cap).ownBlock := by
        refine ⟨rfl, rfl, rfl, ?_, fun k hk hkne => ?_⟩
        · show W.heap.size ≤ (W.heap.modify g _).size
          rw [Array.size_modify]; exact Nat.le_refl _
        · have hkg : ¬ g = k := fun he => hkne (by rw [he]; rfl)
          show (W.heap.modify g _)[k]? = _
          rw [Array.getElem?_modify, if_neg hkg]
      refine ⟨_, rfl, ?_, hg, .inl rfl⟩
      refine ins_inserted h0 hr hp hokp hfresh hi ?_ hg (.inl rfl)
      show QRow _ base 36 9 _ _ _
      refine ⟨by have := hown'.1; rw [List.length_append, List.length_append, List.length_take, List.length_drop, hcl]; omega, .inr ⟨g, off, cap, A, rfl, hb, setRow_heap _ g cur A 36 (0, 0) hh, hroom, hmx, by omega, ?_⟩⟩
      have hpl : (cur.toList.take (off * 9)).length = off * 9 := by rw [List.length_take, Array.length_toList]; omega
      have hil : inner.length = xs.length * 9 := hown'.1
      rw [hA2, List.append_assoc, List.append_assoc, List.append_assoc, List.drop_left' hpl, ← List.append_assoc, ← List.append_assoc]
      exact List.take_left' (by simp [hil, hcl]; omega)
    · have hc := impl_Part_put_ins.grow g (off * 9) xs.length cap i vb 0 1 1 cur cs.toArray inner cs W hin (by omega) hnc (by omega) hl hh hv2 (by omega) htk hcl hvs h1c hone
      refine Calls.mono hc ?_
      rintro e w' ⟨N, cp, A0, A, rfl, hN, rfl, hcp1, hcp2, hA1, hA2⟩
      have hNh : (W.alloc (.cells A0 36)).heap[N]? = some (.cells A0 36 (0, 0)) := by rw [hN]; exact heap_alloc_new _ _
      have hg : W.grownBy ((W.alloc (.cells A0 36)).drew.drew.setRow N A) (Value.slice (some ⟨g, off * 9, none⟩) xs.length cap).ownBlock := by
        refine ⟨rfl, rfl, rfl, ?_, fun k hk hkne => ?_⟩
        · show W.heap.size ≤ ((W.alloc (.cells A0 36)).heap.modify N _).size
          rw [Array.size_modify, World.size_alloc]; omega
        · have hkN : ¬ N = k := by omega
          show ((W.alloc (.cells A0 36)).heap.modify N _)[k]? = _
          rw [Array.getElem?_modify, if_neg hkN]
          exact heap_alloc_old W _ hk
      have hat : (Value.slice (some ⟨N, 0, none⟩) (xs.length + 1) cp).ownBlock = (Value.slice (some ⟨g, off * 9, none⟩) xs.length cap).ownBlock ∨ ∃ b, (Value.slice (some ⟨N, 0, none⟩) (xs.length + 1) cp).ownBlock = some b ∧ W.heap.size ≤ b := .inr ⟨N, rfl, by omega⟩
      refine ⟨_, rfl, ?_, hg, hat⟩
      refine ins_inserted h0 hr hp hokp hfresh hi ?_ hg hat
      show QRow _ base 36 9 _ _ _
      refine ⟨by have := hown'.1; rw [List.length_append, List.length_append, List.length_take, List.length_drop, hcl]; omega, .inr ⟨N, 0, cp, A, by rw [Nat.zero_mul], by omega, setRow_heap _ N A0 A 36 (0, 0) hNh, hcp1, by rw [Nat.zero_add]; exact hcp2, by rw [Nat.zero_add, hA1]; omega, ?_⟩⟩
      rw [Nat.zero_mul, List.drop_zero, hA2]
      rfl
  · obtain rfl : i = xs.length := by omega
    obtain ⟨A, c, rfl, hxc⟩ := Kd.Q_slice HO
    obtain ⟨h0, inner, hown, hr⟩ := HO
    obtain ⟨i0, hi0, hzz⟩ := Option.map_eq_some_iff.1 info36
    simp only [Prod.mk.injEq] at hzz
    obtain ⟨hz0, hz1, hz2⟩ := hzz
    have hap : ∀ ty, ∃ v1 w1, (Builtin.append_ #[30, 30] ty #[.slice A xs.length c, .slice (some ⟨vb, 0, none⟩) 1 1]).run Try.prog W = .ok v1 w1 ∧ QRow w1 base 36 9 v1 (xs.length + 1) (inner ++ cs) ∧ W.grownBy w1 (Value.slice A xs.length c).ownBlock ∧ (v1.ownBlock = (Value.slice A xs.length c).ownBlock ∨ ∃ b, v1.ownBlock = some b ∧ W.heap.size ≤ b) := fun ty =>
      q_append (P := Try.prog) W base 30 ty 36 i0 _ 9 80 Try.underlying30 hi0 hz0 hz1 hz2 rfl (by decide) _ xs.length inner hown ⟨vb, 0, none⟩ 1 1 cs (by omega) (fun j u hj => by have := hvs j u hj; rw [Nat.zero_add] at this; rw [show (⟨vb, 0, none⟩ : Addr).add j = ⟨vb, j, none⟩ by unfold Addr.add; split <;> simp_all]; exact this) hone (by decide) (by simp only [maxLen]; omega) hl hbase
    obtain ⟨v1, w1, hr1, h1, h2, h3⟩ := hap 30
    refine Calls.mono (impl_Part_put_ins.last A xs.length c vb 1 _ w1 v1 hxc (fun ty => ?_)) ?_
    · obtain ⟨v1', w1', hr', _⟩ := hap ty
      exact hr1
    · rintro e w' ⟨rfl, rfl⟩
      refine ⟨_, rfl, ?_, h2, h3⟩
      rw [List.take_of_length_le (Nat.le_refl _), List.drop_of_length_le (Nat.le_refl _), List.append_nil]
      exact Kd.Q_appended h0 hr hp hokp hfresh h1 h2 h3
theorem impl_Part_put.C_of {w : World} {A : Option Addr} {n : Nat} {rows : List (List Value)} {l : List S36} (h : (Kd.raw 9).C w A n rows) (hl : rows.length = l.length) (hK : ∀ (j : Nat) (x : S36) (c : List Value), l[j]? = some x → rows[j]? = some c → (k36).K w x c) : Kd.C k36 w A n l := by
  obtain ⟨h1, h2, h3⟩ := h
  refine ⟨by omega, h2, fun hp => ?_⟩
  obtain ⟨ad, he, hcell⟩ := h3 hp
  refine ⟨ad, he, fun j p hj => ?_⟩
  have hjl : j < rows.length := by have := (List.getElem?_eq_some_iff.1 hj).1; omega
  obtain ⟨c', hcl, hk, hcc⟩ := hcell j _ (List.getElem?_eq_getElem hjl)
  refine ⟨c', hcl, ?_, hcc⟩
  rw [show c' = rows[j] from hk.1]
  exact hK j p _ hj (List.getElem?_eq_getElem hjl)
theorem impl_Part_put.ins_all {α β : Type} {R : α → β → Prop} {l : List α} {r : List β} (hl : r.length = l.length) (h : ∀ (j : Nat) (x : α) (c : β), l[j]? = some x → r[j]? = some c → R x c) (q : α) (cq : β) (hq : R q cq) (i : Nat) :
    ∀ (j : Nat) (x : α) (c : β), (l.take i ++ [q] ++ l.drop i)[j]? = some x → (r.take i ++ [cq] ++ r.drop i)[j]? = some c → R x c := by
  intro j x c hx hc
  have e1 : (r.take i).length = (l.take i).length := by rw [List.length_take, List.length_take, hl]
  have e2 : (r.take i ++ [cq]).length = (l.take i ++ [q]).length := by rw [List.length_append, List.length_append, e1]; rfl
  rw [List.getElem?_append] at hx hc
  rw [e2] at hc
  split at hx
  · rename_i h1
    rw [if_pos h1] at hc
    rw [List.getElem?_append] at hx hc
    rw [e1] at hc
    split at hx
    · rename_i h2
      rw [if_pos h2] at hc
      rw [List.getElem?_take] at hx hc
      split at hx
      · rename_i h3
        rw [if_pos h3] at hc
        exact h j x c hx hc
      · cases hx
    · rename_i h2
      rw [if_neg h2] at hc
      generalize j - (l.take i).length = m at hx hc
      match m, hx, hc with
      | 0, hx, hc =>
        simp only [List.getElem?_cons_zero, Option.some.injEq] at hx hc
        rw [← hx, ← hc]; exact hq
      | m + 1, hx, _ => simp at hx
  · rename_i h1
    rw [if_neg h1] at hc
    rw [List.getElem?_drop] at hx hc
    exact h _ x c hx hc
def impl_Part_put.T6 : Bool × List (List Nat × List Nat) := (true, [([], []), ([0], [0]), ([1], [1]), ([], []), ([], []), ([4], [4]), ([2, 3, 5, 2], [2, 3, 5]), ([], []), ([7], [7]), ([6, 8], [6, 8]), ([], []), ([10, 9, 6, 0, 1, 2, 3, 4, 5, 6, 7, 8, 9, 10], [9, 10])])
def impl_Part_put.B6 : List Nat := [0, 1, 3, 0, 0, 16, 63, 0, 128, 511, 0, 2047]
theorem impl_Part_put.tab6 : rtab .any (opsOf Try.f52 6) = impl_Part_put.T6 := by kernel_rfl
theorem impl_Part_put.bits6 : waitsOk impl_Part_put.T6.2 impl_Part_put.B6 = true := by kernel_rfl
set_option maxHeartbeats 16000000 in
set_option maxRecDepth 100000 in
theorem impl_Part_put.calls2 (k : Nat) (A0_0 : Option Addr) (c0_0 : Nat) (l0_0 : List (S36)) (a0_1 : Int) (a1_0 : Int) (a1_1 : Int) (a1_2 : Int) (a1_3 : Int) (a1_4 : Int) (a1_5 : Int) (a1_6 : Bool) (a1_7 : Bool) (A1_8 : Option Addr) (c1_8 : Nat) (l1_8 : List Int) (r1 : List (S36)) (r2 : Int) (r3 : Bool) (w : World) (hr0_0 : Kd.C k36 w A0_0 l0_0.length l0_0) (hc0_0 : l0_0.length ≤ c0_0) (hr1_8 : Kd.C (Kd.int .u8) w A1_8 l1_8.length l1_8) (hc1_8 : l1_8.length ≤ c1_8) (h : impl_Part_put.f k l0_0 a0_1 a1_0 a1_1 a1_2 a1_3 a1_4 a1_5 a1_6 a1_7 l1_8 = some (r1, r2, r3)) :
    Calls Try.prog 52 #[.agg #[.slice A0_0 l0_0.length c0_0, .int .i64 a0_1], .agg #[.int .i64 a1_0, .int .i64 a1_1, .int .i64 a1_2, .int .i64 a1_3, .int .i64 a1_4, .int .i64 a1_5, .bool a1_6, .bool a1_7, .slice A1_8 l1_8.length c1_8]] w fun e w' => ∃ v0_ : Value, e = .returned (.tuple #[.agg #[v0_, .int .i64 r2], .bool r3]) ∧ Kd.S k36 36 w' w.heap.size (fun _ => True) v0_ r1 ∧ Below w.heap.size w w' := by
  have hu32 := Try.underlying32; have hu36 := Try.underlying36
  obtain ⟨q, hq⟩ : ∃ q : S36, (⟨a1_0, a1_1, a1_2, a1_3, a1_4, a1_5, a1_6, a1_7, l1_8⟩ : S36) = q := ⟨_, rfl⟩
  have H : impl_Part_put.g k l0_0 a0_1 q = some (r1, r2, r3) := by rw [← hq]; exact h
  clear h
  unfold impl_Part_put.g at H
  by_cases hb : l0_0.length = 0 ∨ 1000000 < l0_0.length
  · rw [if_pos hb] at H; cases H
  rw [if_neg hb] at H
  have hn0 : 0 < l0_0.length := by omega
  have hbig : l0_0.length ≤ 1000000 := by omega
  clear hb
  obtain ⟨rows, hrl, hrr, hrK⟩ := Kd.reads_raw hr0_0 (fun x c hk => ⟨k36.K_len hk, k36.K_one hk⟩)
  obtain ⟨ad, rfl⟩ : ∃ ad, A0_0 = some ad := by obtain ⟨ad, e, _⟩ := hr0_0.2.2 hn0; exact ⟨ad, e⟩
  have hP1 : ∀ (gq : Nat) (W : World), Below w.heap.size w W → W.heap[gq]? = some (.cells #[.int .i64 a1_0, .int .i64 a1_1, .int .i64 a1_2, .int .i64 a1_3, .int .i64 a1_4, .int .i64 a1_5, .bool a1_6, .bool a1_7, .slice A1_8 l1_8.length c1_8] 36 (0, 0)) →
      Calls Try.prog 83 #[.slice (some ad) l0_0.length c0_0, .func (.func 84) #[] #[.pointer (some ⟨gq, 0, none⟩)]] W fun e w' => e = .returned (.bool (l0_0.any (fun x => impl_Part_put.same x q))) ∧ Below W.heap.size W w' := fun gq W hW hg => by
    refine impl_Part_put.contains _ 84 gq Try.f84 Try.func84 (by kernel_rfl) rfl (some ad) _ c0_0 l0_0 rfl hbig W (Kd.C_below hr0_0 hW) (fun x Ax cx W2 hx hW2 hC hc => ?_)
    have := impl_Part_put.pred1 gq q x A1_8 Ax c1_8 cx W2 ((hW2.block gq (Array.getElem?_eq_some_iff.1 hg).1).trans (by rw [← hq]; exact hg)) (by rw [← hq]; exact Kd.C_below hr1_8 (hW.trans (hW2.mono (below_size hW)))) (by rw [← hq]; exact hc1_8) hC hc hC.2.1
    exact this.mono (fun e w' h => ⟨h.1, hW2.trans (h.2.mono (below_size hW2))⟩)
  have hP2 : ∀ (gq : Nat) (W : World), Below w.heap.size w W → W.heap[gq]? = some (.cells #[.int .i64 a1_0, .int .i64 a1_1, .int .i64 a1_2, .int .i64 a1_3, .int .i64 a1_4, .int .i64 a1_5, .bool a1_6, .bool a1_7, .slice A1_8 l1_8.length c1_8] 36 (0, 0)) →
      Calls Try.prog 87 #[.slice (some ad) l0_0.length c0_0, .func (.func 88) #[] #[.pointer (some ⟨gq, 0, none⟩)]] W fun e w' => e = .returned (.int .i64 (impl_Part_put.ix (fun x => decide (x.f5 > q.f5)) 0 l0_0)) ∧ Below W.heap.size W w' := fun gq W hW hg => by
    refine impl_Part_put.index _ 88 gq Try.f88 Try.func88 (by kernel_rfl) rfl (some ad) _ c0_0 l0_0 rfl hbig W (Kd.C_below hr0_0 hW) (fun x Ax cx W2 hx hW2 hC hc => ?_)
    exact (impl_Part_put.pred2 gq q x A1_8 Ax c1_8 cx W2 ((hW2.block gq (Array.getElem?_eq_some_iff.1 hg).1).trans (by rw [← hq]; exact hg))).mono (fun e w' h => ⟨h.1, hW2.trans (h.2.mono (below_size hW2))⟩)
  have HR0_0 := Aside0.mk hr0_0; have HC0_0 := Aside0.mk hc0_0; have HR1_8 := Aside0.mk hr1_8; have HC1_8 := Aside0.mk hc1_8; have HP1 := Aside0.mk hP1; have HP2 := Aside0.mk hP2; have HRR := Aside0.mk (show (Kd.raw 9).C w (some ad) l0_0.length rows from hrr); have HRK := Aside0.mk hrK; have HRL := Aside0.mk hrl; have HQ := Aside0.mk hq
  clear hr0_0 hc0_0 hr1_8 hc1_8 hP1 hP2 hrr hrK hrl hq
  have HB := Aside0.mk (Below.refl w.heap.size w)
  by_cases ha : l0_0.any (fun x => impl_Part_put.same x q) = true
  · rw [if_pos ha] at H
    obtain ⟨⟨t1, t2⟩, A26, H⟩ := Option.bind_eq_some_iff.1 H
    cases H
    have A26 := Aside0.mk A26
    rw [ha] at HP1
    clear ha
    go_enter Try.func52, Try.ntmps52
    go_wp2_with (first
      | ((with_reducible refine gate_dst (N := 2) rfl ?_); refine box_ (N := 2) (cs := #[.slice (some ad) l0_0.length c0_0, .int .i64 a0_1]) (t := 32) (fun gp hg w3 hbox hb => ?_); have BKp := Aside0.mk (hbox); replace HB := (bs_ HB hb); clear hb hbox hg)
      | ((with_reducible refine gate_dst (N := 3) rfl ?_); refine box_ (N := 3) (cs := #[.int .i64 a1_0, .int .i64 a1_1, .int .i64 a1_2, .int .i64 a1_3, .int .i64 a1_4, .int .i64 a1_5, .bool a1_6, .bool a1_7, .slice A1_8 l1_8.length c1_8]) (t := 36) (fun gq hg w4 hbox hb => ?_); have BKq := Aside0.mk (hbox); replace HB := (bs_ HB hb); replace BKp := (bbA_ BKp hb); clear hb hbox hg)
      | ((with_reducible refine gate_dst (N := 4) rfl ?_); refine box_ (N := 4) (cs := #[.slice none 0 0, .int .i64 0]) (t := 32) (fun gr hg w5 hbox hb => ?_); have BKr := Aside0.mk (hbox); have GWr := ge_ hg HB; have GEr := ge_ hg HB; replace HB := (bs_ HB hb); replace BKq := (bbA_ BKq hb); have NBpr := nl_ hg BKp; have NBrp := ng_ hg BKp; replace BKp := (bbA_ BKp hb); have hn1 := NBpr.out; have hn2 := NBrp.out; clear hb hbox hg; have Z1 := zz2 BKp)
      | ((with_reducible refine gate_callee (f := 83) rfl ?_); refine goesL_ (some 11) rfl rfl Try.func83 (by kernel_rfl) rfl #[.slice (some ad) l0_0.length c0_0, .func (.func 84) #[] #[.pointer (some ⟨gq, 0, none⟩)]] rfl ar_ ?_; (with_reducible refine (HP1.out gq _ ?sideA ?sideB).mono ?_); (case sideA => exact hbA_ HB.out); (case sideB => exact kb_ BKq.out); rintro e w6 ⟨rfl, hb⟩; refine ⟨_, rfl, ?_⟩; replace BKp := (bbA_ BKp hb); replace BKq := (bbA_ BKq hb); replace BKr := (bbA_ BKr hb); replace HB := (bs_ HB hb); clear hb Z1; have Z1 := zz2 BKp)
      | ((with_reducible refine gate_callee (f := 86) rfl ?_); refine goesL_ (some 13) rfl rfl Try.func86 (by kernel_rfl) rfl #[.agg #[.slice (some ad) l0_0.length c0_0, .int .i64 a0_1]] rfl ar_ ?_; (with_reducible refine (impl_Part_copy.calls k _ _ l0_0 a0_1 t1 t2 _ ?side1 ?side2 A26.out).mono ?_); (case side1 => exact kC_ (Kd.C_below HR0_0.out HB.out)); (case side2 => exact HC0_0.out); rintro e w7 ⟨v7, rfl, ho0, hb⟩; refine ⟨_, rfl, ?_⟩; have HO := Aside0.mk (Kd.S_lower (Kd.S_bound ho0) (below_size (hbA_ HB.out))); replace BKr := (bbA_ BKr hb); replace HB := (bs_ HB hb); clear hb ho0; obtain ⟨Ao, co, eo⟩ := Kd.S_slice HO.out; subst eo; have Z3 := zz2 BKr))
    refine bodyPost_ret (results_ct rfl _ _ gr 32 #[.slice Ao t1.length co, .int .i64 t2] (0, 0) _ rfl (by refine kb_ ?_; refine pz2 (cs := #[.slice none 0 0, .int .i64 0]) ?_; refine kb_ ?_; exact BKr.out) Try.underlying32 rfl (by kernel_rfl)) rfl ?_
    exact ⟨_, rfl, by refine kS_ ?_; exact Kd.S_mono (Kd.S_far (p := ⟨gr, 1, none⟩) (Kd.S_far (p := ⟨gr, 0, none⟩) (Kd.S_types HO.out BKr.out (by decide)) (fun _ hk => hk.2) (.slice Ao t1.length co)) (fun _ hk => hk.2) (.int .i64 t2)) (fun _ hk => trivial), hbA_ HB.out⟩
  · rw [if_neg ha] at H
    have ha2 : l0_0.any (fun x => impl_Part_put.same x q) = false := by simpa using ha
    rw [ha2] at HP1
    have hix := impl_Part_put.ix_eq (fun x => decide (x.f5 > q.f5)) l0_0 0
    rw [Nat.zero_add] at hix
    have hidx : impl_Part_put.at l0_0 q ≤ l0_0.length := List.findIdx_le_length
    have hz : (impl_Part_put.ix (fun x => decide (x.f5 > q.f5)) 0 l0_0 = ((impl_Part_put.at l0_0 q : Nat) : Int)) ∨ (impl_Part_put.ix (fun x => decide (x.f5 > q.f5)) 0 l0_0 = -1 ∧ impl_Part_put.at l0_0 q = l0_0.length) := by
      by_cases hany : l0_0.any (fun x => decide (x.f5 > q.f5)) = true
      · rw [if_pos hany] at hix; exact .inl hix
      · rw [if_neg hany] at hix
        refine .inr ⟨hix, ?_⟩
        unfold impl_Part_put.at
        refine List.findIdx_eq_length.2 (fun x hx => ?_)
        have h0 : l0_0.any (fun x => decide (x.f5 > q.f5)) = false := Bool.eq_false_iff.2 hany
        have := List.any_eq_false.1 h0 x hx
        simpa using this
    have HI := Aside0.mk (show impl_Part_put.at l0_0 q ≤ rows.length by rw [HRL.out]; exact hidx)
    have hone : ∀ u ∈ ([.int .i64 a1_0, .int .i64 a1_1, .int .i64 a1_2, .int .i64 a1_3, .int .i64 a1_4, .int .i64 a1_5, .bool a1_6, .bool a1_7, .slice A1_8 l1_8.length c1_8] : List Value), u.oneCell' = true := k36.K_one (k36_mk w (⟨a1_0, a1_1, a1_2, a1_3, a1_4, a1_5, a1_6, a1_7, l1_8⟩ : S36) HC1_8.out HR1_8.out)
    have HONE := Aside0.mk hone
    clear ha ha2 hix hidx hone
    generalize impl_Part_put.ix (fun x => decide (x.f5 > q.f5)) 0 l0_0 = z at *
    obtain ⟨i_, hi_⟩ : ∃ i_, impl_Part_put.at l0_0 q = i_ := ⟨_, rfl⟩
    have hzz : (z = (i_ : Int) ∧ decide (z < 0) = false ∧ ¬ z < 0) ∨ (z = -1 ∧ decide (z < 0) = true ∧ z < 0 ∧ i_ = l0_0.length) := by
      rcases hz with h | ⟨h, h2⟩
      · exact .inl ⟨by rw [h, hi_], decide_eq_false (by omega), by omega⟩
      · exact .inr ⟨h, decide_eq_true (by omega), by omega, by rw [← hi_, h2]⟩
    clear hz
    have HII := Aside0.mk hi_; clear hi_
    go_enter Try.func52, Try.ntmps52
    go_upto_if 19 with (first
      | ((with_reducible refine gate_dst (N := 2) rfl ?_); refine box_ (N := 2) (cs := #[.slice (some ad) l0_0.length c0_0, .int .i64 a0_1]) (t := 32) (fun gp hg w3 hbox hb => ?_); have BKp := Aside0.mk (hbox); replace HB := (bs_ HB hb); clear hb hbox hg)
      | ((with_reducible refine gate_dst (N := 3) rfl ?_); refine box_ (N := 3) (cs := #[.int .i64 a1_0, .int .i64 a1_1, .int .i64 a1_2, .int .i64 a1_3, .int .i64 a1_4, .int .i64 a1_5, .bool a1_6, .bool a1_7, .slice A1_8 l1_8.length c1_8]) (t := 36) (fun gq hg w4 hbox hb => ?_); have BKq := Aside0.mk (hbox); replace HB := (bs_ HB hb); replace BKp := (bbA_ BKp hb); clear hb hbox hg)
      | ((with_reducible refine gate_dst (N := 4) rfl ?_); refine box_ (N := 4) (cs := #[.slice none 0 0, .int .i64 0]) (t := 32) (fun gr hg w5 hbox hb => ?_); have BKr := Aside0.mk (hbox); have GWr := ge_ hg HB; have GEr := ge_ hg HB; replace HB := (bs_ HB hb); replace BKq := (bbA_ BKq hb); have NBpr := nl_ hg BKp; have NBrp := ng_ hg BKp; replace BKp := (bbA_ BKp hb); have hn1 := NBpr.out; have hn2 := NBrp.out; clear hb hbox hg; have Z1 := zz2 BKp)
      | ((with_reducible refine gate_callee (f := 83) rfl ?_); refine goesL_ (some 11) rfl rfl Try.func83 (by kernel_rfl) rfl #[.slice (some ad) l0_0.length c0_0, .func (.func 84) #[] #[.pointer (some ⟨gq, 0, none⟩)]] rfl ar_ ?_; (with_reducible refine (HP1.out gq _ ?sideA ?sideB).mono ?_); (case sideA => exact hbA_ HB.out); (case sideB => exact kb_ BKq.out); rintro e w6 ⟨rfl, hb⟩; refine ⟨_, rfl, ?_⟩; replace BKp := (bbA_ BKp hb); replace BKq := (bbA_ BKq hb); replace BKr := (bbA_ BKr hb); replace HB := (bs_ HB hb); clear hb Z1; have Z1 := zz2 BKp)
      | ((with_reducible refine gate_callee (f := 87) rfl ?_); refine goesL_ (some 17) rfl rfl Try.func87 (by kernel_rfl) rfl #[.slice (some ad) l0_0.length c0_0, .func (.func 88) #[] #[.pointer (some ⟨gq, 0, none⟩)]] rfl ar_ ?_; (with_reducible refine (HP2.out gq _ ?sideA ?sideB).mono ?_); (case sideA => exact hbA_ HB.out); (case sideB => exact kb_ BKq.out); rintro e w8 ⟨rfl, hb⟩; refine ⟨_, rfl, ?_⟩; replace BKp := (bbA_ BKp hb); replace BKq := (bbA_ BKq hb); replace BKr := (bbA_ BKr hb); replace HB := (bs_ HB hb); clear hb Z1; have Z1 := zz2 BKp))
    go_cut [6, 18, 19, 20, 21, 22] (fun v6 v18 v19 v20 v21 v22 wc => v6 = .int .i64 (i_ : Int) ∧ Aside0 (wc.heap[gp]? = some (.cells #[.slice (some ad) l0_0.length c0_0, .int .i64 a0_1] 32 (0, 0))) ∧ Aside0 (wc.heap[gq]? = some (.cells #[.int .i64 a1_0, .int .i64 a1_1, .int .i64 a1_2, .int .i64 a1_3, .int .i64 a1_4, .int .i64 a1_5, .bool a1_6, .bool a1_7, .slice A1_8 l1_8.length c1_8] 36 (0, 0))) ∧ Aside0 (wc.heap[gr]? = some (.cells #[.slice none 0 0, .int .i64 0] 32 (0, 0))) ∧ Aside0 (Below w.heap.size w wc))
    case first =>
      rcases hzz with ⟨rfl, hd1, hd2⟩ | ⟨rfl, hd1, hd2, hd3⟩
      · go_wp2
        go_meet
        case rel => exact ⟨rfl, BKp, BKq, BKr, HB⟩
      · go_wp2
        go_meet
        case rel => exact ⟨by rw [hd3], BKp, BKq, BKr, HB⟩
    case rest =>
      clear hzz Z1 HP1 HP2 BKp BKq BKr HB
      obtain ⟨rfl, BKp, BKq, BKr, HB⟩ := hcut
      have HI : Aside0 (i_ ≤ rows.length) := ⟨HII.out ▸ HI.out⟩
      have hone := HONE.out
      go_upto_region 6 with (fail)
      replace BKp := Aside0.mk (blk_drew BKp.out); replace BKq := Aside0.mk (blk_drew BKq.out); replace BKr := Aside0.mk (blk_drew BKr.out); replace HB := (bd_ HB)
      refine start_ (n := 12) (S := fun w' => w'.cell? ⟨gp, 0, none⟩ = some (.slice (some ad) l0_0.length c0_0) ∧ w'.cell? ⟨gp, 1, none⟩ = some (.int .i64 a0_1) ∧ w'.cell? ⟨gq, 0, none⟩ = some (.int .i64 a1_0) ∧ w'.cell? ⟨gq, 1, none⟩ = some (.int .i64 a1_1) ∧ w'.cell? ⟨gq, 2, none⟩ = some (.int .i64 a1_2) ∧ w'.cell? ⟨gq, 3, none⟩ = some (.int .i64 a1_3) ∧ w'.cell? ⟨gq, 4, none⟩ = some (.int .i64 a1_4) ∧ w'.cell? ⟨gq, 5, none⟩ = some (.int .i64 a1_5) ∧ w'.cell? ⟨gq, 6, none⟩ = some (.bool a1_6) ∧ w'.cell? ⟨gq, 7, none⟩ = some (.bool a1_7) ∧ w'.cell? ⟨gq, 8, none⟩ = some (.slice A1_8 l1_8.length c1_8)) (ds := [11]) #[false, false, false, false, false, false, false, false, false, false, false, false] (by kernel_rfl) rfl rfl ⟨bc_ BKp 0, bc_ BKp 1, bc_ BKq 0, bc_ BKq 1, bc_ BKq 2, bc_ BKq 3, bc_ BKq 4, bc_ BKq 5, bc_ BKq 6, bc_ BKq 7, bc_ BKq 8⟩ (fun hHeld => ?_); refine with_tabW impl_Part_put.tab6 impl_Part_put.bits6 (fun HT_ HW_ => ?_)
      generalize wc.drew = w_0 at BKp BKq BKr HB hHeld ⊢
      refine pu_ (i := 0) (N := some 23) HT_ ?_; refine tk_ (i := 1) (N := some 24) HT_ HW_ hHeld ?_; refine pu_ (i := 3) (N := some 26) HT_ ?_; refine tk_ (i := 4) (N := some 27) HT_ HW_ hHeld ?_; refine pu_ (i := 7) (N := some 30) HT_ ?_; refine tk_ (i := 8) (N := some 31) HT_ HW_ hHeld ?_
      refine join_ (σ := Value × Nat × Option Addr × Nat × Nat × Nat) 1 #[true, true, true, true, true, true, true, true, true, true, true, false] (fun s_ => [(25, s_.1), (28, .slice (some ⟨s_.2.1, 0, none⟩) 1 1), (29, .slice s_.2.2.1 s_.2.2.2.1 s_.2.2.2.2.1), (7, .pointer (some ⟨s_.2.2.2.2.2, 0, none⟩)), (32, .agg #[.slice s_.2.2.1 s_.2.2.2.1 s_.2.2.2.2.1, .int .i64 a0_1])]) (fun s_ w' => (w'.cell? ⟨gp, 0, none⟩ = some (.slice (some ad) l0_0.length c0_0) ∧ w'.cell? ⟨gp, 1, none⟩ = some (.int .i64 a0_1) ∧ w'.cell? ⟨gq, 0, none⟩ = some (.int .i64 a1_0) ∧ w'.cell? ⟨gq, 1, none⟩ = some (.int .i64 a1_1) ∧ w'.cell? ⟨gq, 2, none⟩ = some (.int .i64 a1_2) ∧ w'.cell? ⟨gq, 3, none⟩ = some (.int .i64 a1_3) ∧ w'.cell? ⟨gq, 4, none⟩ = some (.int .i64 a1_4) ∧ w'.cell? ⟨gq, 5, none⟩ = some (.int .i64 a1_5) ∧ w'.cell? ⟨gq, 6, none⟩ = some (.bool a1_6) ∧ w'.cell? ⟨gq, 7, none⟩ = some (.bool a1_7) ∧ w'.cell? ⟨gq, 8, none⟩ = some (.slice A1_8 l1_8.length c1_8)) ∧ (Kd.raw 9).Q 36 w' w.heap.size (fun _ => True) (.slice s_.2.2.1 s_.2.2.2.1 s_.2.2.2.2.1) (rows.take i_ ++ [[.int .i64 a1_0, .int .i64 a1_1, .int .i64 a1_2, .int .i64 a1_3, .int .i64 a1_4, .int .i64 a1_5, .bool a1_6, .bool a1_7, .slice A1_8 l1_8.length c1_8]] ++ rows.drop i_) ∧ w'.heap[gp]? = some (.cells #[.slice (some ad) l0_0.length c0_0, .int .i64 a0_1] 32 (0, 0)) ∧ w'.heap[gq]? = some (.cells #[.int .i64 a1_0, .int .i64 a1_1, .int .i64 a1_2, .int .i64 a1_3, .int .i64 a1_4, .int .i64 a1_5, .bool a1_6, .bool a1_7, .slice A1_8 l1_8.length c1_8] 36 (0, 0)) ∧ w'.heap[gr]? = some (.cells #[.slice none 0 0, .int .i64 0] 32 (0, 0)) ∧ w'.heap[s_.2.2.2.2.2]? = some (.cells #[.slice none 0 0, .int .i64 0] 32 (0, 0)) ∧ gp ≠ s_.2.2.2.2.2 ∧ s_.2.2.2.2.2 ≠ gp ∧ gr ≠ s_.2.2.2.2.2 ∧ s_.2.2.2.2.2 ≠ gr ∧ w.heap.size ≤ s_.2.2.2.2.2 ∧ Below w.heap.size w w') ?_ ?_
      rotate_left
      · intro hCont
        refine three_ (i := 2) (j := 5) (k := 10) (Ni := some 25) (Nj := some 28) (Nk := some 7) #[true, true, true, true, true, false, false, true, true, false, false, false] #[true, true, false, true, true, true, false, true, true, false, false, false] #[true, true, false, true, true, false, false, true, true, false, true, false] rfl rfl rfl rfl rfl rfl (three_of HT_.out (by kernel_rfl)) (by decide) (by decide) (by decide) (fun K hK => ?_) (fun K hK => ?_) (fun K hK => ?_)
        · refine goes_ Try.func90 (by kernel_rfl) rfl #[.slice (some ad) l0_0.length c0_0] (by rfl) rfl rfl ar_ ?_
          refine (impl_Part_put.clone ad l0_0.length c0_0 rows HRL.out.symm (by rw [HRL.out]; exact hbig) _ (kC_ (Kd.C_below HRR.out HB.out))).mono ?_
          rintro e w_1 ⟨vc, rfl, ho, hb⟩
          refine ⟨_, rfl, ?_⟩
          have NQV : Aside0 (some gq ≠ vc.ownBlock) := ⟨fun e_ => by have h1 := Kd.R_base ho _ e_.symm; have h2 := blk_lt BKq.out; omega⟩
          have HV := Aside0.mk (Kd.R_lower ho (below_size HB.out))
          replace BKp := (bbA_ BKp hb)
          replace BKq := (bbA_ BKq hb)
          replace BKr := (bbA_ BKr hb)
          replace HB := (bs_ HB hb)
          clear hb ho
          refine hK.out _ _ ⟨bc_ BKp 0, bc_ BKp 1, bc_ BKq 0, bc_ BKq 1, bc_ BKq 2, bc_ BKq 3, bc_ BKq 4, bc_ BKq 5, bc_ BKq 6, bc_ BKq 7, bc_ BKq 8⟩ (fun hHeld => ?_)
          clear hK K; refine nm_ 25 ?_
          refine two_ (i := 5) (j := 10) (Ni := some 28) (Nj := some 7) #[true, true, true, true, true, true, false, true, true, false, false, false] #[true, true, true, true, true, false, false, true, true, false, true, false] rfl rfl rfl rfl (two_of HT_.out (by kernel_rfl)) (by decide) (by decide) (fun K hK => ?_) (fun K hK => ?_)
          · go_simp
            have BKl : Aside0 ((w_1.alloc (.cells #[.int .i64 a1_0, .int .i64 a1_1, .int .i64 a1_2, .int .i64 a1_3, .int .i64 a1_4, .int .i64 a1_5, .bool a1_6, .bool a1_7, .slice A1_8 l1_8.length c1_8] 36)).heap[w_1.heap.size]? = some (.cells #[.int .i64 a1_0, .int .i64 a1_1, .int .i64 a1_2, .int .i64 a1_3, .int .i64 a1_4, .int .i64 a1_5, .bool a1_6, .bool a1_7, .slice A1_8 l1_8.length c1_8] 36 (0, 0))) := ⟨World.alloc_heap_new _ _⟩
            have hb : Below w_1.heap.size w_1 (w_1.alloc (.cells #[.int .i64 a1_0, .int .i64 a1_1, .int .i64 a1_2, .int .i64 a1_3, .int .i64 a1_4, .int .i64 a1_5, .bool a1_6, .bool a1_7, .slice A1_8 l1_8.length c1_8] 36)) := below_alloc (Below.refl _ _) _
            have NLV : Aside0 (some w_1.heap.size ≠ vc.ownBlock) := ⟨fun e_ => by have h1 := Kd.R_lt HV.out _ e_.symm; omega⟩
            replace HV := Aside0.mk (Kd.R_below HV.out hb)
            replace BKp := (bbA_ BKp hb)
            replace BKq := (bbA_ BKq hb)
            replace BKr := (bbA_ BKr hb)
            replace HB := (bs_ HB hb)
            clear hb
            generalize (w_1.alloc (.cells #[.int .i64 a1_0, .int .i64 a1_1, .int .i64 a1_2, .int .i64 a1_3, .int .i64 a1_4, .int .i64 a1_5, .bool a1_6, .bool a1_7, .slice A1_8 l1_8.length c1_8] 36)) = w_2 at BKl BKp BKq BKr HB HV ⊢
            generalize w_1.heap.size = gl at BKl NLV ⊢
            refine hK.out _ _ ⟨bc_ BKp 0, bc_ BKp 1, bc_ BKq 0, bc_ BKq 1, bc_ BKq 2, bc_ BKq 3, bc_ BKq 4, bc_ BKq 5, bc_ BKq 6, bc_ BKq 7, bc_ BKq 8⟩ (fun hHeld => ?_)
            clear hK K
            refine two_ (i := 6) (j := 10) (Ni := some 29) (Nj := some 7) #[true, true, true, true, true, true, true, true, true, false, false, false] #[true, true, true, true, true, true, false, true, true, false, true, false] rfl rfl rfl rfl (two_of HT_.out (by kernel_rfl)) (by decide) (by decide) (fun K hK => ?_) (fun K hK => ?_)
            · refine goes_ Try.func89 (by kernel_rfl) rfl #[vc, .int .i64 (i_ : Int), .slice (some ⟨gl, 0, none⟩) 1 1] (by rfl) rfl rfl ar_ ?_
              refine (impl_Part_put.insQ w.heap.size gl vc rows [.int .i64 a1_0, .int .i64 a1_1, .int .i64 a1_2, .int .i64 a1_3, .int .i64 a1_4, .int .i64 a1_5, .bool a1_6, .bool a1_7, .slice A1_8 l1_8.length c1_8] i_ HI.out rfl hone BKl.out NLV.out (Kd.Q_of_R HV.out) (below_size HB.out) (by rw [HRL.out]; omega)).mono ?_
              rintro e w_3 ⟨v1, rfl, ho, hg, hat⟩
              refine ⟨_, rfl, ?_⟩
              have HO := Aside0.mk ho
              obtain ⟨A1, n1, c1, rfl⟩ : ∃ A n c, v1 = .slice A n c := by obtain ⟨A, c, e, _⟩ := Kd.Q_slice ho; exact ⟨_, _, _, e⟩
              have hvb := Kd.R_base HV.out
              replace BKp := (bgA_ BKp hg (Kd.R_ne HV.out BKp.out (by decide)))
              replace BKr := (bgA_ BKr hg (Kd.R_ne HV.out BKr.out (by decide)))
              replace BKq := (bgA_ BKq hg NQV.out)
              replace HB := Aside0.mk (HB.out.grown hg (below_size HB.out) (fun k e => hvb k e))
              clear ho hg hat hvb HV BKl
              refine hK.out _ _ ⟨bc_ BKp 0, bc_ BKp 1, bc_ BKq 0, bc_ BKq 1, bc_ BKq 2, bc_ BKq 3, bc_ BKq 4, bc_ BKq 5, bc_ BKq 6, bc_ BKq 7, bc_ BKq 8⟩ (fun hHeld => ?_)
              clear hK K; refine nm_ 29 ?_
              refine pu_ (i := 9) (N := some 32) HT_ ?_
              refine on_ (i := 10) (N := some 7) HT_ (fun K hK => ?_)
              refine box_step ?hg (N := 7) ?hd (cs := #[.slice none 0 0, .int .i64 0]) (t := 32) ?hr ?_; (case hd => rfl); (case hg => rfl); (case hr => first | (go_simp; done) | (go_simp; rfl))
              intro gn hg w_4 hbox hb
              have NPN := nl_ hg BKp; have NNP := ng_ hg BKp; have NRN := nl_ hg BKr; have NNR := ng_ hg BKr; have NGW := ge_ hg HB
              replace BKp := (bbA_ BKp hb)
              replace BKq := (bbA_ BKq hb)
              replace BKr := (bbA_ BKr hb)
              have BKn := Aside0.mk hbox
              replace HO := Aside0.mk (Kd.Q_below HO.out hb)
              replace HB := (bs_ HB hb)
              clear hb hbox hg
              refine hK.out _ _ ⟨bc_ BKp 0, bc_ BKp 1, bc_ BKq 0, bc_ BKq 1, bc_ BKq 2, bc_ BKq 3, bc_ BKq 4, bc_ BKq 5, bc_ BKq 6, bc_ BKq 7, bc_ BKq 8⟩ (fun hHeld => ?_)
              clear hK K; refine nm_ 7 ?_
              exact norm_ (by simp only [putAll, Act.put, List.setIfInBounds_toArray, List.set_cons_zero, List.set_cons_succ]) (hCont (vc, gl, A1, n1, c1, gn) _ ⟨hHeld, HO.out, BKp.out, BKq.out, BKr.out, BKn.out, NPN.out, NNP.out, NRN.out, NNR.out, NGW.out, HB.out⟩)
            · refine box_step ?hg (N := 7) ?hd (cs := #[.slice none 0 0, .int .i64 0]) (t := 32) ?hr ?_; (case hd => rfl); (case hg => rfl); (case hr => first | (go_simp; done) | (go_simp; rfl))
              intro gn hg w_5 hbox hb
              have NPN := nl_ hg BKp; have NNP := ng_ hg BKp; have NRN := nl_ hg BKr; have NNR := ng_ hg BKr; have NGW := ge_ hg HB
              replace BKp := (bbA_ BKp hb)
              replace BKq := (bbA_ BKq hb)
              replace BKr := (bbA_ BKr hb)
              replace BKl := (bbA_ BKl hb)
              have BKn := Aside0.mk hbox
              replace HV := Aside0.mk (Kd.R_below HV.out hb)
              replace HB := (bs_ HB hb)
              clear hb hbox hg
              refine hK.out _ _ ⟨bc_ BKp 0, bc_ BKp 1, bc_ BKq 0, bc_ BKq 1, bc_ BKq 2, bc_ BKq 3, bc_ BKq 4, bc_ BKq 5, bc_ BKq 6, bc_ BKq 7, bc_ BKq 8⟩ (fun hHeld => ?_)
              clear hK K; refine nm_ 7 ?_
              refine on_ (i := 6) (N := some 29) HT_ (fun K hK => ?_)
              refine goes_ Try.func89 (by kernel_rfl) rfl #[vc, .int .i64 (i_ : Int), .slice (some ⟨gl, 0, none⟩) 1 1] (by rfl) rfl rfl ar_ ?_
              refine (impl_Part_put.insQ w.heap.size gl vc rows [.int .i64 a1_0, .int .i64 a1_1, .int .i64 a1_2, .int .i64 a1_3, .int .i64 a1_4, .int .i64 a1_5, .bool a1_6, .bool a1_7, .slice A1_8 l1_8.length c1_8] i_ HI.out rfl hone BKl.out NLV.out (Kd.Q_of_R HV.out) (below_size HB.out) (by rw [HRL.out]; omega)).mono ?_
              rintro e w_6 ⟨v1, rfl, ho, hg, hat⟩
              refine ⟨_, rfl, ?_⟩
              have HO := Aside0.mk ho
              obtain ⟨A1, n1, c1, rfl⟩ : ∃ A n c, v1 = .slice A n c := by obtain ⟨A, c, e, _⟩ := Kd.Q_slice ho; exact ⟨_, _, _, e⟩
              have hvb := Kd.R_base HV.out
              replace BKp := (bgA_ BKp hg (Kd.R_ne HV.out BKp.out (by decide)))
              replace BKr := (bgA_ BKr hg (Kd.R_ne HV.out BKr.out (by decide)))
              replace BKn := (bgA_ BKn hg (Kd.R_ne HV.out BKn.out (by decide)))
              replace BKq := (bgA_ BKq hg NQV.out)
              replace HB := Aside0.mk (HB.out.grown hg (below_size HB.out) (fun k e => hvb k e))
              clear ho hg hat hvb HV BKl
              refine hK.out _ _ ⟨bc_ BKp 0, bc_ BKp 1, bc_ BKq 0, bc_ BKq 1, bc_ BKq 2, bc_ BKq 3, bc_ BKq 4, bc_ BKq 5, bc_ BKq 6, bc_ BKq 7, bc_ BKq 8⟩ (fun hHeld => ?_)
              clear hK K; refine nm_ 29 ?_
              refine pu_ (i := 9) (N := some 32) HT_ ?_
              exact norm_ (by simp only [putAll, Act.put, List.setIfInBounds_toArray, List.set_cons_zero, List.set_cons_succ]) (hCont (vc, gl, A1, n1, c1, gn) _ ⟨hHeld, HO.out, BKp.out, BKq.out, BKr.out, BKn.out, NPN.out, NNP.out, NRN.out, NNR.out, NGW.out, HB.out⟩)
          · refine box_step ?hg (N := 7) ?hd (cs := #[.slice none 0 0, .int .i64 0]) (t := 32) ?hr ?_; (case hd => rfl); (case hg => rfl); (case hr => first | (go_simp; done) | (go_simp; rfl))
            intro gn hg w_7 hbox hb
            have NPN := nl_ hg BKp; have NNP := ng_ hg BKp; have NRN := nl_ hg BKr; have NNR := ng_ hg BKr; have NGW := ge_ hg HB
            replace BKp := (bbA_ BKp hb)
            replace BKq := (bbA_ BKq hb)
            replace BKr := (bbA_ BKr hb)
            have BKn := Aside0.mk hbox
            replace HV := Aside0.mk (Kd.R_below HV.out hb)
            replace HB := (bs_ HB hb)
            clear hb hbox hg
            refine hK.out _ _ ⟨bc_ BKp 0, bc_ BKp 1, bc_ BKq 0, bc_ BKq 1, bc_ BKq 2, bc_ BKq 3, bc_ BKq 4, bc_ BKq 5, bc_ BKq 6, bc_ BKq 7, bc_ BKq 8⟩ (fun hHeld => ?_)
            clear hK K; refine nm_ 7 ?_
            refine on_ (i := 5) (N := some 28) HT_ (fun K hK => ?_)
            go_simp
            have BKl : Aside0 ((w_7.alloc (.cells #[.int .i64 a1_0, .int .i64 a1_1, .int .i64 a1_2, .int .i64 a1_3, .int .i64 a1_4, .int .i64 a1_5, .bool a1_6, .bool a1_7, .slice A1_8 l1_8.length c1_8] 36)).heap[w_7.heap.size]? = some (.cells #[.int .i64 a1_0, .int .i64 a1_1, .int .i64 a1_2, .int .i64 a1_3, .int .i64 a1_4, .int .i64 a1_5, .bool a1_6, .bool a1_7, .slice A1_8 l1_8.length c1_8] 36 (0, 0))) := ⟨World.alloc_heap_new _ _⟩
            have hb : Below w_7.heap.size w_7 (w_7.alloc (.cells #[.int .i64 a1_0, .int .i64 a1_1, .int .i64 a1_2, .int .i64 a1_3, .int .i64 a1_4, .int .i64 a1_5, .bool a1_6, .bool a1_7, .slice A1_8 l1_8.length c1_8] 36)) := below_alloc (Below.refl _ _) _
            have NLV : Aside0 (some w_7.heap.size ≠ vc.ownBlock) := ⟨fun e_ => by have h1 := Kd.R_lt HV.out _ e_.symm; omega⟩
            replace HV := Aside0.mk (Kd.R_below HV.out hb)
            replace BKp := (bbA_ BKp hb)
            replace BKq := (bbA_ BKq hb)
            replace BKr := (bbA_ BKr hb)
            replace BKn := (bbA_ BKn hb)
            replace HB := (bs_ HB hb)
            clear hb
            generalize (w_7.alloc (.cells #[.int .i64 a1_0, .int .i64 a1_1, .int .i64 a1_2, .int .i64 a1_3, .int .i64 a1_4, .int .i64 a1_5, .bool a1_6, .bool a1_7, .slice A1_8 l1_8.length c1_8] 36)) = w_8 at BKl BKp BKq BKr BKn HB HV ⊢
            generalize w_7.heap.size = gl at BKl NLV ⊢
            refine hK.out _ _ ⟨bc_ BKp 0, bc_ BKp 1, bc_ BKq 0, bc_ BKq 1, bc_ BKq 2, bc_ BKq 3, bc_ BKq 4, bc_ BKq 5, bc_ BKq 6, bc_ BKq 7, bc_ BKq 8⟩ (fun hHeld => ?_)
            clear hK K
            refine on_ (i := 6) (N := some 29) HT_ (fun K hK => ?_)
            refine goes_ Try.func89 (by kernel_rfl) rfl #[vc, .int .i64 (i_ : Int), .slice (some ⟨gl, 0, none⟩) 1 1] (by rfl) rfl rfl ar_ ?_
            refine (impl_Part_put.insQ w.heap.size gl vc rows [.int .i64 a1_0, .int .i64 a1_1, .int .i64 a1_2, .int .i64 a1_3, .int .i64 a1_4, .int .i64 a1_5, .bool a1_6, .bool a1_7, .slice A1_8 l1_8.length c1_8] i_ HI.out rfl hone BKl.out NLV.out (Kd.Q_of_R HV.out) (below_size HB.out) (by rw [HRL.out]; omega)).mono ?_
            rintro e w_9 ⟨v1, rfl, ho, hg, hat⟩
            refine ⟨_, rfl, ?_⟩
            have HO := Aside0.mk ho
            obtain ⟨A1, n1, c1, rfl⟩ : ∃ A n c, v1 = .slice A n c := by obtain ⟨A, c, e, _⟩ := Kd.Q_slice ho; exact ⟨_, _, _, e⟩
            have hvb := Kd.R_base HV.out
            replace BKp := (bgA_ BKp hg (Kd.R_ne HV.out BKp.out (by decide)))
            replace BKr := (bgA_ BKr hg (Kd.R_ne HV.out BKr.out (by decide)))
            replace BKn := (bgA_ BKn hg (Kd.R_ne HV.out BKn.out (by decide)))
            replace BKq := (bgA_ BKq hg NQV.out)
            replace HB := Aside0.mk (HB.out.grown hg (below_size HB.out) (fun k e => hvb k e))
            clear ho hg hat hvb HV BKl
            refine hK.out _ _ ⟨bc_ BKp 0, bc_ BKp 1, bc_ BKq 0, bc_ BKq 1, bc_ BKq 2, bc_ BKq 3, bc_ BKq 4, bc_ BKq 5, bc_ BKq 6, bc_ BKq 7, bc_ BKq 8⟩ (fun hHeld => ?_)
            clear hK K; refine nm_ 29 ?_
            refine pu_ (i := 9) (N := some 32) HT_ ?_
            exact norm_ (by simp only [putAll, Act.put, List.setIfInBounds_toArray, List.set_cons_zero, List.set_cons_succ]) (hCont (vc, gl, A1, n1, c1, gn) _ ⟨hHeld, HO.out, BKp.out, BKq.out, BKr.out, BKn.out, NPN.out, NNP.out, NRN.out, NNR.out, NGW.out, HB.out⟩)
        · go_simp
          have BKl : Aside0 ((w_0.alloc (.cells #[.int .i64 a1_0, .int .i64 a1_1, .int .i64 a1_2, .int .i64 a1_3, .int .i64 a1_4, .int .i64 a1_5, .bool a1_6, .bool a1_7, .slice A1_8 l1_8.length c1_8] 36)).heap[w_0.heap.size]? = some (.cells #[.int .i64 a1_0, .int .i64 a1_1, .int .i64 a1_2, .int .i64 a1_3, .int .i64 a1_4, .int .i64 a1_5, .bool a1_6, .bool a1_7, .slice A1_8 l1_8.length c1_8] 36 (0, 0))) := ⟨World.alloc_heap_new _ _⟩
          have hb : Below w_0.heap.size w_0 (w_0.alloc (.cells #[.int .i64 a1_0, .int .i64 a1_1, .int .i64 a1_2, .int .i64 a1_3, .int .i64 a1_4, .int .i64 a1_5, .bool a1_6, .bool a1_7, .slice A1_8 l1_8.length c1_8] 36)) := below_alloc (Below.refl _ _) _
          replace BKp := (bbA_ BKp hb)
          replace BKq := (bbA_ BKq hb)
          replace BKr := (bbA_ BKr hb)
          replace HB := (bs_ HB hb)
          clear hb
          generalize (w_0.alloc (.cells #[.int .i64 a1_0, .int .i64 a1_1, .int .i64 a1_2, .int .i64 a1_3, .int .i64 a1_4, .int .i64 a1_5, .bool a1_6, .bool a1_7, .slice A1_8 l1_8.length c1_8] 36)) = w_10 at BKl BKp BKq BKr HB ⊢
          generalize w_0.heap.size = gl at BKl ⊢
          refine hK.out _ _ ⟨bc_ BKp 0, bc_ BKp 1, bc_ BKq 0, bc_ BKq 1, bc_ BKq 2, bc_ BKq 3, bc_ BKq 4, bc_ BKq 5, bc_ BKq 6, bc_ BKq 7, bc_ BKq 8⟩ (fun hHeld => ?_)
          clear hK K
          refine two_ (i := 2) (j := 10) (Ni := some 25) (Nj := some 7) #[true, true, true, true, true, true, false, true, true, false, false, false] #[true, true, false, true, true, true, false, true, true, false, true, false] rfl rfl rfl rfl (two_of HT_.out (by kernel_rfl)) (by decide) (by decide) (fun K hK => ?_) (fun K hK => ?_)
          · refine goes_ Try.func90 (by kernel_rfl) rfl #[.slice (some ad) l0_0.length c0_0] (by rfl) rfl rfl ar_ ?_
            refine (impl_Part_put.clone ad l0_0.length c0_0 rows HRL.out.symm (by rw [HRL.out]; exact hbig) _ (kC_ (Kd.C_below HRR.out HB.out))).mono ?_
            rintro e w_11 ⟨vc, rfl, ho, hb⟩
            refine ⟨_, rfl, ?_⟩
            have NQV : Aside0 (some gq ≠ vc.ownBlock) := ⟨fun e_ => by have h1 := Kd.R_base ho _ e_.symm; have h2 := blk_lt BKq.out; omega⟩
            have NLV : Aside0 (some gl ≠ vc.ownBlock) := ⟨fun e_ => by have h1 := Kd.R_base ho _ e_.symm; have h2 := blk_lt BKl.out; omega⟩
            have HV := Aside0.mk (Kd.R_lower ho (below_size HB.out))
            replace BKp := (bbA_ BKp hb)
            replace BKq := (bbA_ BKq hb)
            replace BKr := (bbA_ BKr hb)
            replace BKl := (bbA_ BKl hb)
            replace HB := (bs_ HB hb)
            clear hb ho
            refine hK.out _ _ ⟨bc_ BKp 0, bc_ BKp 1, bc_ BKq 0, bc_ BKq 1, bc_ BKq 2, bc_ BKq 3, bc_ BKq 4, bc_ BKq 5, bc_ BKq 6, bc_ BKq 7, bc_ BKq 8⟩ (fun hHeld => ?_)
            clear hK K; refine nm_ 25 ?_
            refine two_ (i := 6) (j := 10) (Ni := some 29) (Nj := some 7) #[true, true, true, true, true, true, true, true, true, false, false, false] #[true, true, true, true, true, true, false, true, true, false, true, false] rfl rfl rfl rfl (two_of HT_.out (by kernel_rfl)) (by decide) (by decide) (fun K hK => ?_) (fun K hK => ?_)
            · refine goes_ Try.func89 (by kernel_rfl) rfl #[vc, .int .i64 (i_ : Int), .slice (some ⟨gl, 0, none⟩) 1 1] (by rfl) rfl rfl ar_ ?_
              refine (impl_Part_put.insQ w.heap.size gl vc rows [.int .i64 a1_0, .int .i64 a1_1, .int .i64 a1_2, .int .i64 a1_3, .int .i64 a1_4, .int .i64 a1_5, .bool a1_6, .bool a1_7, .slice A1_8 l1_8.length c1_8] i_ HI.out rfl hone BKl.out NLV.out (Kd.Q_of_R HV.out) (below_size HB.out) (by rw [HRL.out]; omega)).mono ?_
              rintro e w_12 ⟨v1, rfl, ho, hg, hat⟩
              refine ⟨_, rfl, ?_⟩
              have HO := Aside0.mk ho
              obtain ⟨A1, n1, c1, rfl⟩ : ∃ A n c, v1 = .slice A n c := by obtain ⟨A, c, e, _⟩ := Kd.Q_slice ho; exact ⟨_, _, _, e⟩
              have hvb := Kd.R_base HV.out
              replace BKp := (bgA_ BKp hg (Kd.R_ne HV.out BKp.out (by decide)))
              replace BKr := (bgA_ BKr hg (Kd.R_ne HV.out BKr.out (by decide)))
              replace BKq := (bgA_ BKq hg NQV.out)
              replace HB := Aside0.mk (HB.out.grown hg (below_size HB.out) (fun k e => hvb k e))
              clear ho hg hat hvb HV BKl
              refine hK.out _ _ ⟨bc_ BKp 0, bc_ BKp 1, bc_ BKq 0, bc_ BKq 1, bc_ BKq 2, bc_ BKq 3, bc_ BKq 4, bc_ BKq 5, bc_ BKq 6, bc_ BKq 7, bc_ BKq 8⟩ (fun hHeld => ?_)
              clear hK K; refine nm_ 29 ?_
              refine pu_ (i := 9) (N := some 32) HT_ ?_
              refine on_ (i := 10) (N := some 7) HT_ (fun K hK => ?_)
              refine box_step ?hg (N := 7) ?hd (cs := #[.slice none 0 0, .int .i64 0]) (t := 32) ?hr ?_; (case hd => rfl); (case hg => rfl); (case hr => first | (go_simp; done) | (go_simp; rfl))
              intro gn hg w_13 hbox hb
              have NPN := nl_ hg BKp; have NNP := ng_ hg BKp; have NRN := nl_ hg BKr; have NNR := ng_ hg BKr; have NGW := ge_ hg HB
              replace BKp := (bbA_ BKp hb)
              replace BKq := (bbA_ BKq hb)
              replace BKr := (bbA_ BKr hb)
              have BKn := Aside0.mk hbox
              replace HO := Aside0.mk (Kd.Q_below HO.out hb)
              replace HB := (bs_ HB hb)
              clear hb hbox hg
              refine hK.out _ _ ⟨bc_ BKp 0, bc_ BKp 1, bc_ BKq 0, bc_ BKq 1, bc_ BKq 2, bc_ BKq 3, bc_ BKq 4, bc_ BKq 5, bc_ BKq 6, bc_ BKq 7, bc_ BKq 8⟩ (fun hHeld => ?_)
              clear hK K; refine nm_ 7 ?_
              exact norm_ (by simp only [putAll, Act.put, List.setIfInBounds_toArray, List.set_cons_zero, List.set_cons_succ]) (hCont (vc, gl, A1, n1, c1, gn) _ ⟨hHeld, HO.out, BKp.out, BKq.out, BKr.out, BKn.out, NPN.out, NNP.out, NRN.out, NNR.out, NGW.out, HB.out⟩)
            · refine box_step ?hg (N := 7) ?hd (cs := #[.slice none 0 0, .int .i64 0]) (t := 32) ?hr ?_; (case hd => rfl); (case hg => rfl); (case hr => first | (go_simp; done) | (go_simp; rfl))
              intro gn hg w_14 hbox hb
              have NPN := nl_ hg BKp; have NNP := ng_ hg BKp; have NRN := nl_ hg BKr; have NNR := ng_ hg BKr; have NGW := ge_ hg HB
              replace BKp := (bbA_ BKp hb)
              replace BKq := (bbA_ BKq hb)
              replace BKr := (bbA_ BKr hb)
              replace BKl := (bbA_ BKl hb)
              have BKn := Aside0.mk hbox
              replace HV := Aside0.mk (Kd.R_below HV.out hb)
              replace HB := (bs_ HB hb)
              clear hb hbox hg
              refine hK.out _ _ ⟨bc_ BKp 0, bc_ BKp 1, bc_ BKq 0, bc_ BKq 1, bc_ BKq 2, bc_ BKq 3, bc_ BKq 4, bc_ BKq 5, bc_ BKq 6, bc_ BKq 7, bc_ BKq 8⟩ (fun hHeld => ?_)
              clear hK K; refine nm_ 7 ?_
              refine on_ (i := 6) (N := some 29) HT_ (fun K hK => ?_)
              refine goes_ Try.func89 (by kernel_rfl) rfl #[vc, .int .i64 (i_ : Int), .slice (some ⟨gl, 0, none⟩) 1 1] (by rfl) rfl rfl ar_ ?_
              refine (impl_Part_put.insQ w.heap.size gl vc rows [.int .i64 a1_0, .int .i64 a1_1, .int .i64 a1_2, .int .i64 a1_3, .int .i64 a1_4, .int .i64 a1_5, .bool a1_6, .bool a1_7, .slice A1_8 l1_8.length c1_8] i_ HI.out rfl hone BKl.out NLV.out (Kd.Q_of_R HV.out) (below_size HB.out) (by rw [HRL.out]; omega)).mono ?_
              rintro e w_15 ⟨v1, rfl, ho, hg, hat⟩
              refine ⟨_, rfl, ?_⟩
              have HO := Aside0.mk ho
              obtain ⟨A1, n1, c1, rfl⟩ : ∃ A n c, v1 = .slice A n c := by obtain ⟨A, c, e, _⟩ := Kd.Q_slice ho; exact ⟨_, _, _, e⟩
              have hvb := Kd.R_base HV.out
              replace BKp := (bgA_ BKp hg (Kd.R_ne HV.out BKp.out (by decide)))
              replace BKr := (bgA_ BKr hg (Kd.R_ne HV.out BKr.out (by decide)))
              replace BKn := (bgA_ BKn hg (Kd.R_ne HV.out BKn.out (by decide)))
              replace BKq := (bgA_ BKq hg NQV.out)
              replace HB := Aside0.mk (HB.out.grown hg (below_size HB.out) (fun k e => hvb k e))
              clear ho hg hat hvb HV BKl
              refine hK.out _ _ ⟨bc_ BKp 0, bc_ BKp 1, bc_ BKq 0, bc_ BKq 1, bc_ BKq 2, bc_ BKq 3, bc_ BKq 4, bc_ BKq 5, bc_ BKq 6, bc_ BKq 7, bc_ BKq 8⟩ (fun hHeld => ?_)
              clear hK K; refine nm_ 29 ?_
              refine pu_ (i := 9) (N := some 32) HT_ ?_
              exact norm_ (by simp only [putAll, Act.put, List.setIfInBounds_toArray, List.set_cons_zero, List.set_cons_succ]) (hCont (vc, gl, A1, n1, c1, gn) _ ⟨hHeld, HO.out, BKp.out, BKq.out, BKr.out, BKn.out, NPN.out, NNP.out, NRN.out, NNR.out, NGW.out, HB.out⟩)
          · refine box_step ?hg (N := 7) ?hd (cs := #[.slice none 0 0, .int .i64 0]) (t := 32) ?hr ?_; (case hd => rfl); (case hg => rfl); (case hr => first | (go_simp; done) | (go_simp; rfl))
            intro gn hg w_16 hbox hb
            have NPN := nl_ hg BKp; have NNP := ng_ hg BKp; have NRN := nl_ hg BKr; have NNR := ng_ hg BKr; have NGW := ge_ hg HB
            replace BKp := (bbA_ BKp hb)
            replace BKq := (bbA_ BKq hb)
            replace BKr := (bbA_ BKr hb)
            replace BKl := (bbA_ BKl hb)
            have BKn := Aside0.mk hbox
            replace HB := (bs_ HB hb)
            clear hb hbox hg
            refine hK.out _ _ ⟨bc_ BKp 0, bc_ BKp 1, bc_ BKq 0, bc_ BKq 1, bc_ BKq 2, bc_ BKq 3, bc_ BKq 4, bc_ BKq 5, bc_ BKq 6, bc_ BKq 7, bc_ BKq 8⟩ (fun hHeld => ?_)
            clear hK K; refine nm_ 7 ?_
            refine on_ (i := 2) (N := some 25) HT_ (fun K hK => ?_)
            refine goes_ Try.func90 (by kernel_rfl) rfl #[.slice (some ad) l0_0.length c0_0] (by rfl) rfl rfl ar_ ?_
            refine (impl_Part_put.clone ad l0_0.length c0_0 rows HRL.out.symm (by rw [HRL.out]; exact hbig) _ (kC_ (Kd.C_below HRR.out HB.out))).mono ?_
            rintro e w_17 ⟨vc, rfl, ho, hb⟩
            refine ⟨_, rfl, ?_⟩
            have NQV : Aside0 (some gq ≠ vc.ownBlock) := ⟨fun e_ => by have h1 := Kd.R_base ho _ e_.symm; have h2 := blk_lt BKq.out; omega⟩
            have NLV : Aside0 (some gl ≠ vc.ownBlock) := ⟨fun e_ => by have h1 := Kd.R_base ho _ e_.symm; have h2 := blk_lt BKl.out; omega⟩
            have HV := Aside0.mk (Kd.R_lower ho (below_size HB.out))
            replace BKp := (bbA_ BKp hb)
            replace BKq := (bbA_ BKq hb)
            replace BKr := (bbA_ BKr hb)
            replace BKn := (bbA_ BKn hb)
            replace BKl := (bbA_ BKl hb)
            replace HB := (bs_ HB hb)
            clear hb ho
            refine hK.out _ _ ⟨bc_ BKp 0, bc_ BKp 1, bc_ BKq 0, bc_ BKq 1, bc_ BKq 2, bc_ BKq 3, bc_ BKq 4, bc_ BKq 5, bc_ BKq 6, bc_ BKq 7, bc_ BKq 8⟩ (fun hHeld => ?_)
            clear hK K; refine nm_ 25 ?_
            refine on_ (i := 6) (N := some 29) HT_ (fun K hK => ?_)
            refine goes_ Try.func89 (by kernel_rfl) rfl #[vc, .int .i64 (i_ : Int), .slice (some ⟨gl, 0, none⟩) 1 1] (by rfl) rfl rfl ar_ ?_
            refine (impl_Part_put.insQ w.heap.size gl vc rows [.int .i64 a1_0, .int .i64 a1_1, .int .i64 a1_2, .int .i64 a1_3, .int .i64 a1_4, .int .i64 a1_5, .bool a1_6, .bool a1_7, .slice A1_8 l1_8.length c1_8] i_ HI.out rfl hone BKl.out NLV.out (Kd.Q_of_R HV.out) (below_size HB.out) (by rw [HRL.out]; omega)).mono ?_
            rintro e w_18 ⟨v1, rfl, ho, hg, hat⟩
            refine ⟨_, rfl, ?_⟩
            have HO := Aside0.mk ho
            obtain ⟨A1, n1, c1, rfl⟩ : ∃ A n c, v1 = .slice A n c := by obtain ⟨A, c, e, _⟩ := Kd.Q_slice ho; exact ⟨_, _, _, e⟩
            have hvb := Kd.R_base HV.out
            replace BKp := (bgA_ BKp hg (Kd.R_ne HV.out BKp.out (by decide)))
            replace BKr := (bgA_ BKr hg (Kd.R_ne HV.out BKr.out (by decide)))
            replace BKn := (bgA_ BKn hg (Kd.R_ne HV.out BKn.out (by decide)))
            replace BKq := (bgA_ BKq hg NQV.out)
            replace HB := Aside0.mk (HB.out.grown hg (below_size HB.out) (fun k e => hvb k e))
            clear ho hg hat hvb HV BKl
            refine hK.out _ _ ⟨bc_ BKp 0, bc_ BKp 1, bc_ BKq 0, bc_ BKq 1, bc_ BKq 2, bc_ BKq 3, bc_ BKq 4, bc_ BKq 5, bc_ BKq 6, bc_ BKq 7, bc_ BKq 8⟩ (fun hHeld => ?_)
            clear hK K; refine nm_ 29 ?_
            refine pu_ (i := 9) (N := some 32) HT_ ?_
            exact norm_ (by simp only [putAll, Act.put, List.setIfInBounds_toArray, List.set_cons_zero, List.set_cons_succ]) (hCont (vc, gl, A1, n1, c1, gn) _ ⟨hHeld, HO.out, BKp.out, BKq.out, BKr.out, BKn.out, NPN.out, NNP.out, NRN.out, NNR.out, NGW.out, HB.out⟩)
        · refine box_step ?hg (N := 7) ?hd (cs := #[.slice none 0 0, .int .i64 0]) (t := 32) ?hr ?_; (case hd => rfl); (case hg => rfl); (case hr => first | (go_simp; done) | (go_simp; rfl))
          intro gn hg w_19 hbox hb
          have NPN := nl_ hg BKp; have NNP := ng_ hg BKp; have NRN := nl_ hg BKr; have NNR := ng_ hg BKr; have NGW := ge_ hg HB
          replace BKp := (bbA_ BKp hb)
          replace BKq := (bbA_ BKq hb)
          replace BKr := (bbA_ BKr hb)
          have BKn := Aside0.mk hbox
          replace HB := (bs_ HB hb)
          clear hb hbox hg
          refine hK.out _ _ ⟨bc_ BKp 0, bc_ BKp 1, bc_ BKq 0, bc_ BKq 1, bc_ BKq 2, bc_ BKq 3, bc_ BKq 4, bc_ BKq 5, bc_ BKq 6, bc_ BKq 7, bc_ BKq 8⟩ (fun hHeld => ?_)
          clear hK K; refine nm_ 7 ?_
          refine two_ (i := 2) (j := 5) (Ni := some 25) (Nj := some 28) #[true, true, true, true, true, false, false, true, true, false, true, false] #[true, true, false, true, true, true, false, true, true, false, true, false] rfl rfl rfl rfl (two_of HT_.out (by kernel_rfl)) (by decide) (by decide) (fun K hK => ?_) (fun K hK => ?_)
          · refine goes_ Try.func90 (by kernel_rfl) rfl #[.slice (some ad) l0_0.length c0_0] (by rfl) rfl rfl ar_ ?_
            refine (impl_Part_put.clone ad l0_0.length c0_0 rows HRL.out.symm (by rw [HRL.out]; exact hbig) _ (kC_ (Kd.C_below HRR.out HB.out))).mono ?_
            rintro e w_20 ⟨vc, rfl, ho, hb⟩
            refine ⟨_, rfl, ?_⟩
            have NQV : Aside0 (some gq ≠ vc.ownBlock) := ⟨fun e_ => by have h1 := Kd.R_base ho _ e_.symm; have h2 := blk_lt BKq.out; omega⟩
            have HV := Aside0.mk (Kd.R_lower ho (below_size HB.out))
            replace BKp := (bbA_ BKp hb)
            replace BKq := (bbA_ BKq hb)
            replace BKr := (bbA_ BKr hb)
            replace BKn := (bbA_ BKn hb)
            replace HB := (bs_ HB hb)
            clear hb ho
            refine hK.out _ _ ⟨bc_ BKp 0, bc_ BKp 1, bc_ BKq 0, bc_ BKq 1, bc_ BKq 2, bc_ BKq 3, bc_ BKq 4, bc_ BKq 5, bc_ BKq 6, bc_ BKq 7, bc_ BKq 8⟩ (fun hHeld => ?_)
            clear hK K; refine nm_ 25 ?_
            refine on_ (i := 5) (N := some 28) HT_ (fun K hK => ?_)
            go_simp
            have BKl : Aside0 ((w_20.alloc (.cells #[.int .i64 a1_0, .int .i64 a1_1, .int .i64 a1_2, .int .i64 a1_3, .int .i64 a1_4, .int .i64 a1_5, .bool a1_6, .bool a1_7, .slice A1_8 l1_8.length c1_8] 36)).heap[w_20.heap.size]? = some (.cells #[.int .i64 a1_0, .int .i64 a1_1, .int .i64 a1_2, .int .i64 a1_3, .int .i64 a1_4, .int .i64 a1_5, .bool a1_6, .bool a1_7, .slice A1_8 l1_8.length c1_8] 36 (0, 0))) := ⟨World.alloc_heap_new _ _⟩
            have hb : Below w_20.heap.size w_20 (w_20.alloc (.cells #[.int .i64 a1_0, .int .i64 a1_1, .int .i64 a1_2, .int .i64 a1_3, .int .i64 a1_4, .int .i64 a1_5, .bool a1_6, .bool a1_7, .slice A1_8 l1_8.length c1_8] 36)) := below_alloc (Below.refl _ _) _
            have NLV : Aside0 (some w_20.heap.size ≠ vc.ownBlock) := ⟨fun e_ => by have h1 := Kd.R_lt HV.out _ e_.symm; omega⟩
            replace HV := Aside0.mk (Kd.R_below HV.out hb)
            replace BKp := (bbA_ BKp hb)
            replace BKq := (bbA_ BKq hb)
            replace BKr := (bbA_ BKr hb)
            replace BKn := (bbA_ BKn hb)
            replace HB := (bs_ HB hb)
            clear hb
            generalize (w_20.alloc (.cells #[.int .i64 a1_0, .int .i64 a1_1, .int .i64 a1_2, .int .i64 a1_3, .int .i64 a1_4, .int .i64 a1_5, .bool a1_6, .bool a1_7, .slice A1_8 l1_8.length c1_8] 36)) = w_21 at BKl BKp BKq BKr BKn HB HV ⊢
            generalize w_20.heap.size = gl at BKl NLV ⊢
            refine hK.out _ _ ⟨bc_ BKp 0, bc_ BKp 1, bc_ BKq 0, bc_ BKq 1, bc_ BKq 2, bc_ BKq 3, bc_ BKq 4, bc_ BKq 5, bc_ BKq 6, bc_ BKq 7, bc_ BKq 8⟩ (fun hHeld => ?_)
            clear hK K
            refine on_ (i := 6) (N := some 29) HT_ (fun K hK => ?_)
            refine goes_ Try.func89 (by kernel_rfl) rfl #[vc, .int .i64 (i_ : Int), .slice (some ⟨gl, 0, none⟩) 1 1] (by rfl) rfl rfl ar_ ?_
            refine (impl_Part_put.insQ w.heap.size gl vc rows [.int .i64 a1_0, .int .i64 a1_1, .int .i64 a1_2, .int .i64 a1_3, .int .i64 a1_4, .int .i64 a1_5, .bool a1_6, .bool a1_7, .slice A1_8 l1_8.length c1_8] i_ HI.out rfl hone BKl.out NLV.out (Kd.Q_of_R HV.out) (below_size HB.out) (by rw [HRL.out]; omega)).mono ?_
            rintro e w_22 ⟨v1, rfl, ho, hg, hat⟩
            refine ⟨_, rfl, ?_⟩
            have HO := Aside0.mk ho
            obtain ⟨A1, n1, c1, rfl⟩ : ∃ A n c, v1 = .slice A n c := by obtain ⟨A, c, e, _⟩ := Kd.Q_slice ho; exact ⟨_, _, _, e⟩
            have hvb := Kd.R_base HV.out
            replace BKp := (bgA_ BKp hg (Kd.R_ne HV.out BKp.out (by decide)))
            replace BKr := (bgA_ BKr hg (Kd.R_ne HV.out BKr.out (by decide)))
            replace BKn := (bgA_ BKn hg (Kd.R_ne HV.out BKn.out (by decide)))
            replace BKq := (bgA_ BKq hg NQV.out)
            replace HB := Aside0.mk (HB.out.grown hg (below_size HB.out) (fun k e => hvb k e))
            clear ho hg hat hvb HV BKl
            refine hK.out _ _ ⟨bc_ BKp 0, bc_ BKp 1, bc_ BKq 0, bc_ BKq 1, bc_ BKq 2, bc_ BKq 3, bc_ BKq 4, bc_ BKq 5, bc_ BKq 6, bc_ BKq 7, bc_ BKq 8⟩ (fun hHeld => ?_)
            clear hK K; refine nm_ 29 ?_
            refine pu_ (i := 9) (N := some 32) HT_ ?_
            exact norm_ (by simp only [putAll, Act.put, List.setIfInBounds_toArray, List.set_cons_zero, List.set_cons_succ]) (hCont (vc, gl, A1, n1, c1, gn) _ ⟨hHeld, HO.out, BKp.out, BKq.out, BKr.out, BKn.out, NPN.out, NNP.out, NRN.out, NNR.out, NGW.out, HB.out⟩)
          · go_simp
            have BKl : Aside0 ((w_19.alloc (.cells #[.int .i64 a1_0, .int .i64 a1_1, .int .i64 a1_2, .int .i64 a1_3, .int .i64 a1_4, .int .i64 a1_5, .bool a1_6, .bool a1_7, .slice A1_8 l1_8.length c1_8] 36)).heap[w_19.heap.size]? = some (.cells #[.int .i64 a1_0, .int .i64 a1_1, .int .i64 a1_2, .int .i64 a1_3, .int .i64 a1_4, .int .i64 a1_5, .bool a1_6, .bool a1_7, .slice A1_8 l1_8.length c1_8] 36 (0, 0))) := ⟨World.alloc_heap_new _ _⟩
            have hb : Below w_19.heap.size w_19 (w_19.alloc (.cells #[.int .i64 a1_0, .int .i64 a1_1, .int .i64 a1_2, .int .i64 a1_3, .int .i64 a1_4, .int .i64 a1_5, .bool a1_6, .bool a1_7, .slice A1_8 l1_8.length c1_8] 36)) := below_alloc (Below.refl _ _) _
            replace BKp := (bbA_ BKp hb)
            replace BKq := (bbA_ BKq hb)
            replace BKr := (bbA_ BKr hb)
            replace BKn := (bbA_ BKn hb)
            replace HB := (bs_ HB hb)
            clear hb
            generalize (w_19.alloc (.cells #[.int .i64 a1_0, .int .i64 a1_1, .int .i64 a1_2, .int .i64 a1_3, .int .i64 a1_4, .int .i64 a1_5, .bool a1_6, .bool a1_7, .slice A1_8 l1_8.length c1_8] 36)) = w_23 at BKl BKp BKq BKr BKn HB ⊢
            generalize w_19.heap.size = gl at BKl ⊢
            refine hK.out _ _ ⟨bc_ BKp 0, bc_ BKp 1, bc_ BKq 0, bc_ BKq 1, bc_ BKq 2, bc_ BKq 3, bc_ BKq 4, bc_ BKq 5, bc_ BKq 6, bc_ BKq 7, bc_ BKq 8⟩ (fun hHeld => ?_)
            clear hK K
            refine on_ (i := 2) (N := some 25) HT_ (fun K hK => ?_)
            refine goes_ Try.func90 (by kernel_rfl) rfl #[.slice (some ad) l0_0.length c0_0] (by rfl) rfl rfl ar_ ?_
            refine (impl_Part_put.clone ad l0_0.length c0_0 rows HRL.out.symm (by rw [HRL.out]; exact hbig) _ (kC_ (Kd.C_below HRR.out HB.out))).mono ?_
            rintro e w_24 ⟨vc, rfl, ho, hb⟩
            refine ⟨_, rfl, ?_⟩
            have NQV : Aside0 (some gq ≠ vc.ownBlock) := ⟨fun e_ => by have h1 := Kd.R_base ho _ e_.symm; have h2 := blk_lt BKq.out; omega⟩
            have NLV : Aside0 (some gl ≠ vc.ownBlock) := ⟨fun e_ => by have h1 := Kd.R_base ho _ e_.symm; have h2 := blk_lt BKl.out; omega⟩
            have HV := Aside0.mk (Kd.R_lower ho (below_size HB.out))
            replace BKp := (bbA_ BKp hb)
            replace BKq := (bbA_ BKq hb)
            replace BKr := (bbA_ BKr hb)
            replace BKn := (bbA_ BKn hb)
            replace BKl := (bbA_ BKl hb)
            replace HB := (bs_ HB hb)
            clear hb ho
            refine hK.out _ _ ⟨bc_ BKp 0, bc_ BKp 1, bc_ BKq 0, bc_ BKq 1, bc_ BKq 2, bc_ BKq 3, bc_ BKq 4, bc_ BKq 5, bc_ BKq 6, bc_ BKq 7, bc_ BKq 8⟩ (fun hHeld => ?_)
            clear hK K; refine nm_ 25 ?_
            refine on_ (i := 6) (N := some 29) HT_ (fun K hK => ?_)
            refine goes_ Try.func89 (by kernel_rfl) rfl #[vc, .int .i64 (i_ : Int), .slice (some ⟨gl, 0, none⟩) 1 1] (by rfl) rfl rfl ar_ ?_
            refine (impl_Part_put.insQ w.heap.size gl vc rows [.int .i64 a1_0, .int .i64 a1_1, .int .i64 a1_2, .int .i64 a1_3, .int .i64 a1_4, .int .i64 a1_5, .bool a1_6, .bool a1_7, .slice A1_8 l1_8.length c1_8] i_ HI.out rfl hone BKl.out NLV.out (Kd.Q_of_R HV.out) (below_size HB.out) (by rw [HRL.out]; omega)).mono ?_
            rintro e w_25 ⟨v1, rfl, ho, hg, hat⟩
            refine ⟨_, rfl, ?_⟩
            have HO := Aside0.mk ho
            obtain ⟨A1, n1, c1, rfl⟩ : ∃ A n c, v1 = .slice A n c := by obtain ⟨A, c, e, _⟩ := Kd.Q_slice ho; exact ⟨_, _, _, e⟩
            have hvb := Kd.R_base HV.out
            replace BKp := (bgA_ BKp hg (Kd.R_ne HV.out BKp.out (by decide)))
            replace BKr := (bgA_ BKr hg (Kd.R_ne HV.out BKr.out (by decide)))
            replace BKn := (bgA_ BKn hg (Kd.R_ne HV.out BKn.out (by decide)))
            replace BKq := (bgA_ BKq hg NQV.out)
            replace HB := Aside0.mk (HB.out.grown hg (below_size HB.out) (fun k e => hvb k e))
            clear ho hg hat hvb HV BKl
            refine hK.out _ _ ⟨bc_ BKp 0, bc_ BKp 1, bc_ BKq 0, bc_ BKq 1, bc_ BKq 2, bc_ BKq 3, bc_ BKq 4, bc_ BKq 5, bc_ BKq 6, bc_ BKq 7, bc_ BKq 8⟩ (fun hHeld => ?_)
            clear hK K; refine nm_ 29 ?_
            refine pu_ (i := 9) (N := some 32) HT_ ?_
            exact norm_ (by simp only [putAll, Act.put, List.setIfInBounds_toArray, List.set_cons_zero, List.set_cons_succ]) (hCont (vc, gl, A1, n1, c1, gn) _ ⟨hHeld, HO.out, BKp.out, BKq.out, BKr.out, BKn.out, NPN.out, NNP.out, NRN.out, NNR.out, NGW.out, HB.out⟩)
      rintro ⟨vc, gl, A1, n1, c1, gn⟩ w9 ⟨hHeld, HO, BKp, BKq, BKr, BKn, NPN, NNP, NRN, NNR, NGW, HB⟩
      dsimp only at *
      simp only [putAll, Act.put, List.setIfInBounds_toArray, List.set_cons_zero, List.set_cons_succ]
      refine last_ (i := 11) (N := none) #[true, true, true, true, true, true, true, true, true, true, true, true] rfl rfl (one_of HT_.out (by kernel_rfl)) (by decide) (fun K hK => ?_)
      have BKN := Aside0.mk BKn
      have Z1 := zz2 BKN
      refine skip_ (w1 := ?_) (by rfl) rfl ?_ ?_
      rotate_left
      · go_simp
        rfl
      refine hK.out _ _ ?_
      clear hK K
      refine done_ (done_of HT_.out (by kernel_rfl)) ?_
      have hty : ∀ k, (True ∧ w.heap.size ≤ k ∧ k < w9.heap.size ∧ ∃ q, q ∈ 36 :: (Kd.raw 9).E ∧ ∃ cells, w9.heap[k]? = some (.cells cells q (0, 0))) → k ≠ gn := by
        rintro k ⟨_, _, _, t', ht, cs, hc⟩ rfl
        rw [BKn] at hc
        simp only [Option.some.injEq, Obj.cells.injEq] at hc
        obtain ⟨_, rfl, _⟩ := hc
        simp [Kd.raw] at ht
      have hQ := Kd.Q_far (p := ⟨gn, 1, none⟩) (Kd.Q_far (p := ⟨gn, 0, none⟩) (Kd.Q_mono (Kd.Q_bound HO) hty) (fun k hk => hk) (.slice A1 n1 c1)) (fun k hk => hk) (.int .i64 a0_1)
      have hB10 : Below w.heap.size w ((w9.setCell ⟨gn, 0, none⟩ (.slice A1 n1 c1)).setCell ⟨gn, 1, none⟩ (.int .i64 a0_1)) := (HB.setCell (p := ⟨gn, 0, none⟩) NGW _).setCell (p := ⟨gn, 1, none⟩) NGW _
      have hN10 : ((w9.setCell ⟨gn, 0, none⟩ (.slice A1 n1 c1)).setCell ⟨gn, 1, none⟩ (.int .i64 a0_1)).heap[gn]? = some (.cells #[.slice A1 n1 c1, .int .i64 a0_1] 32 (0, 0)) := pz2 BKn
      have hR10 : ((w9.setCell ⟨gn, 0, none⟩ (.slice A1 n1 c1)).setCell ⟨gn, 1, none⟩ (.int .i64 a0_1)).heap[gr]? = some (.cells #[.slice none 0 0, .int .i64 0] 32 (0, 0)) := (Below.heap_setCell _ ⟨gn, 1, none⟩ _ gr NRN).trans ((Below.heap_setCell _ ⟨gn, 0, none⟩ _ gr NRN).trans BKr)
      obtain ⟨hn1, hnc, hC⟩ := Kd.Q_reads' hQ
      have hins : impl_Part_put.ins l0_0 q = l0_0.take i_ ++ [q] ++ l0_0.drop i_ := by unfold impl_Part_put.ins; rw [HII.out]
      have hlen : n1 = (impl_Part_put.ins l0_0 q).length := by rw [hn1, hins]; simp only [List.length_append, List.length_take, List.length_drop, List.length_singleton, HRL.out]
      have hC36 : Kd.C k36 ((w9.setCell ⟨gn, 0, none⟩ (.slice A1 n1 c1)).setCell ⟨gn, 1, none⟩ (.int .i64 a0_1)) A1 (impl_Part_put.ins l0_0 q).length (impl_Part_put.ins l0_0 q) := by
        rw [← hlen]
        rw [← hn1] at hC
        refine impl_Part_put.C_of hC (by rw [← hn1, hlen]) (fun j x c hx hc => ?_)
        rw [hins] at hx
        refine k36.K_below hB10 ?_
        exact impl_Part_put.ins_all (R := fun x c => k36.K w x c) HRL.out HRK.out q _ (by rw [← HQ.out]; exact k36_mk w (⟨a1_0, a1_1, a1_2, a1_3, a1_4, a1_5, a1_6, a1_7, l1_8⟩ : S36) HC1_8.out HR1_8.out) i_ j x c hx hc
      clear hQ hty hC hins hn1 HO HB hHeld Z1 BKN BKp BKq BKr BKn
      subst hlen
      generalize ((w9.setCell ⟨gn, 0, none⟩ (.slice A1 (impl_Part_put.ins l0_0 q).length c1)).setCell ⟨gn, 1, none⟩ (.int .i64 a0_1)) = w10 at *
      have BKn := Aside0.mk hN10; have BKr := Aside0.mk hR10; have HB := Aside0.mk hB10; have HC36 := Aside0.mk hC36; have HNC := Aside0.mk hnc
      clear hN10 hR10 hB10 hC36 hnc
      have Z1 := zz2 BKn
      obtain ⟨b, Aok, H⟩ := Option.bind_eq_some_iff.1 H
      have AOK := Aside0.mk Aok; clear Aok
      cases b with
      | false =>
        rw [if_neg (by decide)] at H
        cases H
        have Z2 := zz2 BKr
        go_wp2_with (first
          | ((with_reducible refine gate_callee (f := 24) rfl ?_); refine goesL_ (some 34) rfl rfl Try.func24 (by kernel_rfl) rfl #[.agg #[.slice A1 (impl_Part_put.ins l0_0 q).length c1, .int .i64 a0_1]] rfl ar_ ?_; (with_reducible refine (impl_PartOk.calls k _ _ (impl_Part_put.ins l0_0 q) a0_1 false _ ?side1 ?side2 AOK.out).mono ?_); (case side1 => exact HC36.out); (case side2 => exact HNC.out); rintro e w11 ⟨rfl, hb⟩; refine ⟨_, rfl, ?_⟩; replace BKr := (bbA_ BKr hb); replace HB := (bs_ HB hb); clear hb Z1 Z2; have Z2 := zz2 BKr))
        refine bodyPost_ret (results_ct rfl _ _ gr 32 #[.slice none 0 0, .int .i64 0] (0, 0) _ rfl (by refine kb_ ?_; refine pz2 (cs := #[.slice none 0 0, .int .i64 0]) ?_; refine kb_ ?_; exact BKr.out) Try.underlying32 rfl (by kernel_rfl)) rfl ?_
        exact ⟨_, rfl, Kd.S_nil _ _ _ _ _, hbA_ HB.out⟩
      | true =>
        rw [if_pos rfl] at H
        obtain ⟨⟨t1, t2⟩, A26, H⟩ := Option.bind_eq_some_iff.1 H
        cases H
        have A26 := Aside0.mk A26
        go_wp2_with (first
          | ((with_reducible refine gate_callee (f := 24) rfl ?_); refine goesL_ (some 34) rfl rfl Try.func24 (by kernel_rfl) rfl #[.agg #[.slice A1 (impl_Part_put.ins l0_0 q).length c1, .int .i64 a0_1]] rfl ar_ ?_; (with_reducible refine (impl_PartOk.calls k _ _ (impl_Part_put.ins l0_0 q) a0_1 true _ ?side1 ?side2 AOK.out).mono ?_); (case side1 => exact HC36.out); (case side2 => exact HNC.out); rintro e w11 ⟨rfl, hb⟩; refine ⟨_, rfl, ?_⟩; replace BKr := (bbA_ BKr hb); replace BKn := (bbA_ BKn hb); replace HC36 := Aside0.mk (Kd.C_below HC36.out hb); replace HB := (bs_ HB hb); clear hb Z1; have Z1 := zz2 BKn)
          | ((with_reducible refine gate_callee (f := 86) rfl ?_); refine goesL_ (some 38) rfl rfl Try.func86 (by kernel_rfl) rfl #[.agg #[.slice A1 (impl_Part_put.ins l0_0 q).length c1, .int .i64 a0_1]] rfl ar_ ?_; (with_reducible refine (impl_Part_copy.calls k _ _ (impl_Part_put.ins l0_0 q) a0_1 t1 t2 _ ?side1 ?side2 A26.out).mono ?_); (case side1 => exact HC36.out); (case side2 => exact HNC.out); rintro e w7 ⟨v7, rfl, ho0, hb⟩; refine ⟨_, rfl, ?_⟩; have HO := Aside0.mk (Kd.S_lower (Kd.S_bound ho0) (below_size (hbA_ HB.out))); replace BKr := (bbA_ BKr hb); replace HB := (bs_ HB hb); clear hb ho0; obtain ⟨Ao, co, eo⟩ := Kd.S_slice HO.out; subst eo; have Z3 := zz2 BKr))
        refine bodyPost_ret (results_ct rfl _ _ gr 32 #[.slice Ao t1.length co, .int .i64 t2] (0, 0) _ rfl (by refine kb_ ?_; refine pz2 (cs := #[.slice none 0 0, .int .i64 0]) ?_; refine kb_ ?_; exact BKr.out) Try.underlying32 rfl (by kernel_rfl)) rfl ?_
        exact ⟨_, rfl, by refine kS_ ?_; exact Kd.S_mono (Kd.S_far (p := ⟨gr, 1, none⟩) (Kd.S_far (p := ⟨gr, 0, none⟩) (Kd.S_types HO.out BKr.out (by decide)) (fun _ hk => hk.2) (.slice Ao t1.length co)) (fun _ hk => hk.2) (.int .i64 t2)) (fun _ hk => trivial), hbA_ HB.out⟩
theorem impl_Part_put.calls (k : Nat) (A0_0 : Option Addr) (c0_0 : Nat) (l0_0 : List (S36)) (a0_1 : Int) (a1_0 : Int) (a1_1 : Int) (a1_2 : Int) (a1_3 : Int) (a1_4 : Int) (a1_5 : Int) (a1_6 : Bool) (a1_7 : Bool) (A1_8 : Option Addr) (c1_8 : Nat) (l1_8 : List Int) (r1 : List (S36)) (r2 : Int) (r3 : Bool) (w : World) (hr0_0 : Kd.C k36 w A0_0 l0_0.length l0_0) (hc0_0 : l0_0.length ≤ c0_0) (hr1_8 : Kd.C (Kd.int .u8) w A1_8 l1_8.length l1_8) (hc1_8 : l1_8.length ≤ c1_8) (h : impl_Part_put.f k l0_0 a0_1 a1_0 a1_1 a1_2 a1_3 a1_4 a1_5 a1_6 a1_7 l1_8 = some (r1, r2, r3)) :
    Calls Try.prog 52 #[.agg #[.slice A0_0 l0_0.length c0_0, .int .i64 a0_1], .agg #[.int .i64 a1_0, .int .i64 a1_1, .int .i64 a1_2, .int .i64 a1_3, .int .i64 a1_4, .int .i64 a1_5, .bool a1_6, .bool a1_7, .slice A1_8 l1_8.length c1_8]] w fun e w' => ∃ v0_ : Value, e = .returned (.tuple #[.agg #[v0_, .int .i64 r2], .bool r3]) ∧ Kd.S k36 36 w' w.heap.size (fun _ => True) v0_ r1 ∧ Below w.heap.size w w' := by
  exact impl_Part_put.calls2 k A0_0 c0_0 l0_0 a0_1 a1_0 a1_1 a1_2 a1_3 a1_4 a1_5 a1_6 a1_7 A1_8 c1_8 l1_8 r1 r2 r3 w hr0_0 hc0_0 hr1_8 hc1_8 h
end Go.Proofs.Ytpdbnlmdohcgkaa.PFnExactPartPut
