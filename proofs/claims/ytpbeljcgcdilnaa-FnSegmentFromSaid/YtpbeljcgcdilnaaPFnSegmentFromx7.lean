/- Printed by wip/xp/xprint.sh out of the translation, for this claim: what each function answers, as a plain function, and that the machine does just that. No condition. -/
import Derived.Test.YtpbeljcgcdilnaaPFnSegmentFromx0
import Derived.Test.YtpbeljcgcdilnaaPFnSegmentFromx2
import Derived.Test.YtpbeljcgcdilnaaPFnSegmentFromx4
import Derived.Test.YtpbeljcgcdilnaaPFnSegmentFromx5
import Derived.Test.YtpbeljcgcdilnaaPFnSegmentFromx6
namespace Go.Proofs.Ytpbeljcgcdilnaa.PFnSegmentFrom
open Go.RowKit Go.Proofs.YtpbeljcgcdilnaaW.PrintWords Go.Proofs.YtpbeljcgcdilnaaW.PrintLast Go.Proofs.YtpbeljcgcdilnaaW.PrintMore
attribute [local go_sem] max2_int min2_int max_two min_two max_three min_three max_four min_four   -- for this text's walks alone
set_option linter.unusedVariables false
set_option linter.unusedSimpArgs false
section
attribute [local go_sem] Oper.semAt_some
set_option maxHeartbeats 2000000 in
set_option maxRecDepth 100000 in
theorem chunk_in (F : Fence) (n : Nat) (h5 : F.fn 101) (hro : F.round = none) (a : Option Addr) (len cap : Nat) (w : World) :
    CallsIn F n Try.prog 101 #[.slice a len cap, .int .i64 2] w fun e w' => e = .returned (.func (.func 110) #[] #[.pointer (some ⟨w.heap.size, 0, none⟩), .pointer (some ⟨w.heap.size + 1, 0, none⟩)]) ∧ w' = (w.alloc (.cells #[.slice a len cap] 22)).alloc (.cells #[.int .i64 2] 3) := by
  refine callsIn_of_wp Try.func101 rfl h5 ?_ hro
  simp only [Try.ntmps101, List.size_toArray, List.length_cons, List.length_nil, Nat.reduceAdd, Nat.reduceSub, Array.replicate_succ, Array.replicate_zero, List.push_toArray, List.append_toArray, List.nil_append, List.cons_append]
  gi_wp2
  go_ret
  exact ⟨rfl, rfl⟩
def KpB (gs n₀ : Nat) (W W' : World) : Prop := ∀ k, k < n₀ → k ≠ gs → W'.heap[k]? = W.heap[k]?
theorem KpB.refl (gs n₀ : Nat) (W : World) : KpB gs n₀ W W := fun _ _ _ => rfl
theorem KpB.trans {gs n₀ : Nat} {A B C : World} (h : KpB gs n₀ A B) (k : KpB gs n₀ B C) : KpB gs n₀ A C := fun q h1 h2 => (k q h1 h2).trans (h q h1 h2)
theorem KpB.drew {gs n₀ : Nat} {A B : World} (h : KpB gs n₀ A B) : KpB gs n₀ A B.drew := fun q h1 h2 => h q h1 h2
theorem KpB.cell {gs n₀ : Nat} {A B : World} (h : KpB gs n₀ A B) {b o : Nat} (h1 : b < n₀) (h2 : b ≠ gs) : B.cell? ⟨b, o, none⟩ = A.cell? ⟨b, o, none⟩ := World.cell?_of_block (w := A) (h b h1 h2)
theorem KpB.b {gs n₀ : Nat} {w : World} (hn : n₀ ≤ w.heap.size) (W : World) (l : Nat) (o o' : Obj) (hl : w.heap.size ≤ l) (h : W.heap[l]? = some o) (_ : o.isCells = false) (_ : o.isWalk = false) : KpB gs n₀ W (W.putObj l o') :=
  fun k hk _ => (belowK_b hn W l o o' hl h ‹_› ‹_›).block k hk
theorem KpB.below {gs n₀ : Nat} {A B : World} (h : Below n₀ A B) : KpB gs n₀ A B := fun k hk _ => h.block k hk
abbrev Ck (n : Nat) := { x : Nat // 2 * x < n }
def uptoC (n : Nat) : Nat → List (Ck n)
  | 0 => []
  | k + 1 => if h : 2 * k < n then uptoC n k ++ [⟨k, h⟩] else uptoC n k
theorem uptoC_succ {n k : Nat} (h : 2 * k < n) : uptoC n (k + 1) = uptoC n k ++ [⟨k, h⟩] := by rw [uptoC, dif_pos h]
theorem uptoC_length (n k : Nat) : (uptoC n k).length ≤ k := by
  induction k with
  | zero => exact Nat.le_refl _
  | succ k ih =>
    rw [uptoC]
    by_cases h : 2 * k < n
    · rw [dif_pos h, List.length_append, List.length_singleton]; omega
    · rw [dif_neg h]; omega
def chunkV (ad : Addr) (n : Nat) (x : Nat) : Value := .slice (some (ad.add (2 * x))) (if 2 * x + 1 < n then 2 else 1) (if 2 * x + 1 < n then 2 else 1)
set_option maxHeartbeats 2000000 in
set_option maxRecDepth 100000 in
theorem chunk1_in (F : Fence) (n : Nat) (h7 : F.fn 110) (hro : F.round = none) (hn : 1 ≤ n) (l Bs Bn gs n₀ : Nat) (hgs1 : Bs ≠ gs) (hgs2 : Bn ≠ gs) (ad : Addr) (len cap : Nat) (hlc : len ≤ cap) (hreach : len ≤ 140737488351232) (hb : Bs < n₀) (hb2 : Bn < n₀) (J Jx : List (Ck len) → World → Prop)
    (W : World) (hJ : AbidesFrom W.heap.size J)
    (hY : ∀ pre x W, J pre W → pre.length < len → YieldAt F (n - 1) Try.prog l #[chunkV ad len x.1] W fun e W' =>
      (e = .returned (.bool true) ∧ J (pre ++ [x]) W' ∧ KpB gs n₀ W W') ∨ (e = .returned (.bool false) ∧ Jx (pre ++ [x]) W'))
    (hBs : W.cell? ⟨Bs, 0, none⟩ = some (.slice (some ad) len cap)) (hBn : W.cell? ⟨Bn, 0, none⟩ = some (.int .i64 2)) (h0 : J [] W) :
    CallsIn F n Try.prog 110 #[.func (.yield l) #[] #[], .pointer (some ⟨Bs, 0, none⟩), .pointer (some ⟨Bn, 0, none⟩)] W fun e W' => (∃ v, e = .returned v) ∧
      ((∃ ys, ys = uptoC len ((len + 1) / 2) ∧ J ys W') ∨ (∃ pre, (∃ k, k ≤ len ∧ pre = uptoC len k) ∧ Jx pre W')) := by
  refine callsIn_of_wp Try.func110 rfl h7 ?_ hro
  simp only [Try.ntmps110, List.size_toArray, List.length_cons, List.length_nil, Nat.reduceAdd, Nat.reduceSub, Array.replicate_succ, Array.replicate_zero, List.push_toArray, List.append_toArray, List.nil_append, List.cons_append]
  have t22 := Try.underlying22
  obtain ⟨i0, hi0, hz0, hz1, hz2⟩ := info_parts info5
  gi_wp2
  gi_loopw [4] (fun i wr => ∃ q k : Nat, q = 2 * k ∧ q ≤ len + 1 ∧ i = .int .i64 ((q : Nat) : Int) ∧ J (uptoC len k) wr ∧ KpB gs n₀ W wr)
    (fun i _ => len + 1 - (intOf i).toNat)
  case atStart => exact ⟨0, 0, rfl, by omega, rfl, h0, KpB.refl _ _ _⟩
  case round =>
    obtain ⟨q, k, hq, hk, rfl, hJs, hnx⟩ := hrel
    have hBs' := (hnx.cell hb hgs1).trans hBs
    have hBn' := (hnx.cell hb2 hgs2).trans hBn
    by_cases hlt : 2 * k < len
    · have hle : (uptoC len k).length < len := by have := uptoC_length len k; omega
      have hJd : J (uptoC len k) wr.drew := hJ _ wr wr.drew none hJs ⟨rfl, rfl, rfl, Nat.le_refl _, fun _ _ _ => rfl⟩ (fun r e => by cases e)
      obtain ⟨fn, tmps, assign, body, hy, hR⟩ := hY _ ⟨k, hlt⟩ wr.drew hJd hle
      have c1 : (q : Int) < (len : Int) := by omega
      have c1' : q < len := by omega
      have c2 : (q : Int) ≤ (len : Int) := by omega
      have c2' : q ≤ len := by omega
      have c6 : ¬ cap = q := by omega
      have HR := Aside0.mk hR
      have HN := Aside0.mk hnx
      by_cases h2 : 2 * k + 1 < len
      · have hyv : chunkV ad len k = .slice (some (ad.add q)) 2 2 := by unfold chunkV; rw [if_pos h2, hq]
        have c3 : ¬ ((len - q : Nat) : Int) < 2 := by omega
        have c4 : (q : Int) + 2 ≤ (cap : Int) := by omega
        have c5 : ∀ x : Nat, x ≤ 140737488355328 → wrap64 ((x : Int) + 2) = (x : Int) + 2 := fun x hx => by unfold wrap64; omega
        have c5' : ∀ x : Nat, x ≤ 140737488355328 → wrap64 ((x : Int) + 1) = (x : Int) + 1 := fun x hx => by unfold wrap64; omega
        have c7 : q ≤ 140737488355328 := by omega
        have HM := Aside0.mk (show q + 2 ≤ len + 1 by omega)
        have HQ := Aside0.mk hq
        dsimp only at hy
        rw [hyv] at hy
        clear hq hyv hJs hJd hR hnx h2
        gi_wp2
        rename_i Ka hKa Kb hKb
        have hfin : Kb { tmps := #[.func (.yield l) #[] #[], .pointer (some ⟨Bs, 0, none⟩), .pointer (some ⟨Bn, 0, none⟩), undef, .int .i64 q, .int .i64 2, .int .i64 q, .slice (some ad) len cap, .int .i64 len, .bool true, u10, u11, u12, .int .i64 2, .slice (some ad) len cap, .int .i64 q, .slice (some (ad.add q)) (len - q) (cap - q), .int .i64 ((len - q : Nat) : Int), .int .i64 2, u19, u20, u21, u22, u23, u24, u25, u26, u27, u28, u29, u30], defers := [] } wr.drew := by
          refine hKb _ _ ?_
          gi_wp2
          refine HR.out.mono ?_
          rintro e W3 (⟨rfl, hJ3, hk3⟩ | ⟨rfl, hJx3⟩)
          · have hBn3 : W3.cell? ⟨Bn, 0, none⟩ = some (.int .i64 2) := (hk3.cell hb2 hgs2).trans hBn'
            have HJ3 := Aside0.mk hJ3
            have HK3 := Aside0.mk hk3
            clear hJ3 hk3 hy hBs' hBn' hBs hBn
            gi_wp2
            refine ⟨⟨q + 2, k + 1, by rw [HQ.out]; omega, HM.out, by simp, by rw [uptoC_succ hlt]; exact HJ3.out, (HN.out.drew).trans HK3.out⟩, ?_⟩
            clear c5 c5'
            have e1 : ((q : Int) + 2).toNat = q + 2 := by omega
            have e2 : ((q : Int)).toNat = q := by omega
            show len + 1 - ((q : Int) + 2).toNat < len + 1 - ((q : Int)).toNat
            rw [e1, e2]; omega
          · clear hy hBs' hBn' hBs hBn
            have HX := Aside0.mk hJx3
            clear hJx3
            gi_wp2
            refine bodyPost_ret (results_none rfl _ _ _) rfl ?_
            exact ⟨⟨_, rfl⟩, .inr ⟨_, ⟨k + 1, by clear c5 c5'; omega, (uptoC_succ hlt).symm⟩, HX.out⟩⟩
        gi_region
        all_goals (first | exact hfin | (simp only [if_neg (Int.not_lt.2 c3)]; exact hfin))
      · have hyv : chunkV ad len k = .slice (some (ad.add q)) 1 1 := by unfold chunkV; rw [if_neg h2, hq]
        have c3 : len - q = 1 := by omega
        have c4 : (q : Int) + 1 ≤ (cap : Int) := by omega
        have c5 : ∀ x : Nat, x ≤ 140737488355328 → wrap64 ((x : Int) + 2) = (x : Int) + 2 := fun x hx => by unfold wrap64; omega
        have c5' : ∀ x : Nat, x ≤ 140737488355328 → wrap64 ((x : Int) + 1) = (x : Int) + 1 := fun x hx => by unfold wrap64; omega
        have c7 : q ≤ 140737488355328 := by omega
        have HM := Aside0.mk (show q + 2 ≤ len + 1 by omega)
        have HQ := Aside0.mk hq
        dsimp only at hy
        rw [hyv] at hy
        clear hq hyv hJs hJd hR hnx h2
        gi_wp2
        rename_i Ka hKa Kb hKb
        have hfin : Kb { tmps := #[.func (.yield l) #[] #[], .pointer (some ⟨Bs, 0, none⟩), .pointer (some ⟨Bn, 0, none⟩), undef, .int .i64 q, .int .i64 1, .int .i64 q, .slice (some ad) len cap, .int .i64 len, .bool true, u10, u11, u12, .int .i64 2, .slice (some ad) len cap, .int .i64 q, .slice (some (ad.add q)) 1 (cap - q), .int .i64 1, .int .i64 1, u19, u20, u21, u22, u23, u24, u25, u26, u27, u28, u29, u30], defers := [] } wr.drew := by
          refine hKb _ _ ?_
          gi_wp2
          refine HR.out.mono ?_
          rintro e W3 (⟨rfl, hJ3, hk3⟩ | ⟨rfl, hJx3⟩)
          · have hBn3 : W3.cell? ⟨Bn, 0, none⟩ = some (.int .i64 2) := (hk3.cell hb2 hgs2).trans hBn'
            have HJ3 := Aside0.mk hJ3
            have HK3 := Aside0.mk hk3
            clear hJ3 hk3 hy hBs' hBn' hBs hBn
            gi_wp2
            refine ⟨⟨q + 2, k + 1, by rw [HQ.out]; omega, HM.out, by simp, by rw [uptoC_succ hlt]; exact HJ3.out, (HN.out.drew).trans HK3.out⟩, ?_⟩
            clear c5 c5'
            have e1 : ((q : Int) + 2).toNat = q + 2 := by omega
            have e2 : ((q : Int)).toNat = q := by omega
            show len + 1 - ((q : Int) + 2).toNat < len + 1 - ((q : Int)).toNat
            rw [e1, e2]; omega
          · clear hy hBs' hBn' hBs hBn
            have HX := Aside0.mk hJx3
            clear hJx3
            gi_wp2
            refine bodyPost_ret (results_none rfl _ _ _) rfl ?_
            exact ⟨⟨_, rfl⟩, .inr ⟨_, ⟨k + 1, by clear c5 c5'; omega, (uptoC_succ hlt).symm⟩, HX.out⟩⟩
        gi_region
        all_goals (first | exact hfin | (simp only [if_neg (Int.not_lt.2 c3)]; exact hfin))
    · have HJs := Aside0.mk hJs
      have HE := Aside0.mk (show k = (len + 1) / 2 by omega)
      have c1 : ¬ (q : Int) < (len : Int) := by omega
      clear hJs hq hlt
      gi_wp2
      go_end0
      exact ⟨⟨_, rfl⟩, .inl (by rw [← HE.out]; exact HJs.out)⟩
set_option maxHeartbeats 2000000 in
set_option maxRecDepth 100000 in
theorem chunk1_nil_in (F : Fence) (n : Nat) (h7 : F.fn 110) (hro : F.round = none) (l Bs Bn : Nat) (A : Option Addr) (cap : Nat) (J : List (Ck 0) → World → Prop) (W : World) (hBs : W.cell? ⟨Bs, 0, none⟩ = some (.slice A 0 cap)) (h0 : J [] W) :
    CallsIn F n Try.prog 110 #[.func (.yield l) #[] #[], .pointer (some ⟨Bs, 0, none⟩), .pointer (some ⟨Bn, 0, none⟩)] W fun e W' => (∃ v, e = .returned v) ∧ J [] W' := by
  refine callsIn_of_wp Try.func110 rfl h7 ?_ hro
  simp only [Try.ntmps110, List.size_toArray, List.length_cons, List.length_nil, Nat.reduceAdd, Nat.reduceSub, Array.replicate_succ, Array.replicate_zero, List.push_toArray, List.append_toArray, List.nil_append, List.cons_append]
  gi_wp2
  gi_loopw [4] (fun i wr => i = .int .i64 0 ∧ J [] wr ∧ wr.cell? ⟨Bs, 0, none⟩ = some (.slice A 0 cap)) (fun _ _ => 0)
  case atStart => exact ⟨rfl, h0, hBs⟩
  case round =>
    obtain ⟨rfl, hJs, hc⟩ := hrel
    have HJs := Aside0.mk hJs
    clear hJs
    gi_wp2
    go_end0
    exact ⟨⟨_, rfl⟩, HJs.out⟩
def adOf (A : Option Addr) : Addr := A.getD ⟨0, 0, none⟩
theorem chunk_stops (F : Fence) (n : Nat) (h7 : F.fn 110) (hro : F.round = none) (hn : 1 ≤ n) (Bs Bn gs n₀ : Nat) (hgs1 : Bs ≠ gs) (hgs2 : Bn ≠ gs) (A : Option Addr) (len cap : Nat) (hlc : len ≤ cap) (hreach : len ≤ 140737488351232) (hA : 0 < len → ∃ ad, A = some ad) (w : World) (hb : Bs < w.heap.size) (hb2 : Bn < w.heap.size) (hn₀ : n₀ = w.heap.size)
    (hBs : w.cell? ⟨Bs, 0, none⟩ = some (.slice A len cap)) (hBn : w.cell? ⟨Bn, 0, none⟩ = some (.int .i64 2)) :
    SeqStopsK F n Try.prog 110 #[.pointer (some ⟨Bs, 0, none⟩), .pointer (some ⟨Bn, 0, none⟩)] (fun x : Ck len => #[chunkV (adOf A) len x.1]) (KpB gs n₀) (fun ys => ys = uptoC len ((len + 1) / 2)) (fun pre => ∃ k, k ≤ len ∧ pre = uptoC len k) len w := fun l J Jx W hW hJ _ hY h0 => by
  subst hn₀
  have hBs' := (hW.cell (p := ⟨Bs, 0, none⟩) hb).trans hBs
  have hBn' := (hW.cell (p := ⟨Bn, 0, none⟩) hb2).trans hBn
  by_cases hl : 0 < len
  · obtain ⟨ad, rfl⟩ := hA hl
    exact chunk1_in F n h7 hro hn l Bs Bn gs w.heap.size hgs1 hgs2 ad len cap hlc hreach hb hb2 J Jx W hJ hY hBs' hBn' h0
  · obtain rfl : len = 0 := by omega
    exact (chunk1_nil_in F n h7 hro l Bs Bn A cap J W hBs' h0).mono fun e W' ⟨he, hj⟩ => ⟨he, .inl ⟨_, rfl, hj⟩⟩
def ad1 (x y : Int) : Int := if wrap64 (x + y) > 65535 then wrap64 (wrap64 (x + y) - 65535) else wrap64 (x + y)
theorem added_two (s n : Int) : impl_added.f 3 [s, n] = some (ad1 (ad1 0 s) n) := by
  have r0 : rd [s, n] 0 = s := rfl
  have r1 : rd [s, n] 1 = n := rfl
  have w0 : wrap64 ((0 : Int) + 1) = 1 := by unfold wrap64; omega
  have w1 : wrap64 ((1 : Int) + 1) = 2 := by unfold wrap64; omega
  have step : ∀ k x, impl_added.l0 (k + 1) x [s, n] 2 0 = impl_added.l0 k (ad1 x s) [s, n] 2 1 := by
    intro k x
    unfold ad1
    by_cases h : wrap64 (x + s) > 65535
    · simp only [impl_added.l0, r0, w0, if_pos h, List.length_cons, List.length_nil]; rfl
    · simp only [impl_added.l0, r0, w0, if_neg h, List.length_cons, List.length_nil]; rfl
  have step1 : ∀ k x, impl_added.l0 (k + 1) x [s, n] 2 1 = impl_added.l0 k (ad1 x n) [s, n] 2 2 := by
    intro k x
    unfold ad1
    by_cases h : wrap64 (x + n) > 65535
    · simp only [impl_added.l0, r1, w1, if_pos h, List.length_cons, List.length_nil]; rfl
    · simp only [impl_added.l0, r1, w1, if_neg h, List.length_cons, List.length_nil]; rfl
  show impl_added.l0 3 0 [s, n] 2 0 = _
  rw [step, step1]
  rfl
def pairAt (l : List Int) (k : Nat) : Int := if 2 * k + 1 < l.length then Go.bits .or .i64 (wrap64 (wrap64 (rd l ((2 * k : Nat) : Int)) * 256)) (wrap64 (rd l ((2 * k + 1 : Nat) : Int))) else wrap64 (wrap64 (rd l ((2 * k : Nat) : Int)) * 256)
def sumTo (l : List Int) : Nat → Int
  | 0 => 0
  | k + 1 => ad1 (ad1 0 (sumTo l k)) (pairAt l k)
def sumC (l : List Int) (xs : List (Ck l.length)) : Int := xs.foldl (fun s x => ad1 (ad1 0 s) (pairAt l x.1)) 0
theorem sumC_snoc (l : List Int) (xs : List (Ck l.length)) (x : Ck l.length) : sumC l (xs ++ [x]) = ad1 (ad1 0 (sumC l xs)) (pairAt l x.1) := by unfold sumC; rw [List.foldl_append]; rfl
theorem sumC_upto (l : List Int) (k : Nat) (h : 2 * k ≤ l.length + 1) : sumC l (uptoC l.length k) = sumTo l k := by
  induction k with
  | zero => rfl
  | succ k ih => rw [uptoC_succ (by omega), sumC_snoc, ih (by omega)]; rfl
theorem two_C (W : World) (s n : Int) : Kd.C (Kd.int .i64) (W.alloc (.cells #[.int .i64 s, .int .i64 n] 3)) (some ⟨W.heap.size, 0, none⟩) [s, n].length [s, n] := by
  refine ⟨rfl, by simp, fun _ => ⟨_, rfl, fun j p hp => ?_⟩⟩
  match j, hp with
  | 0, hp => 
    simp only [List.getElem?_cons_zero, Option.some.injEq] at hp
    subst hp
    refine ⟨[.int .i64 s], rfl, rfl, fun i u hu => ?_⟩
    match i, hu with
    | 0, hu =>
      simp only [List.getElem?_cons_zero, Option.some.injEq] at hu
      subst hu
      show (W.alloc _).cell? ⟨W.heap.size, 0 + (0 * 1 + 0), none⟩ = _
      simp
    | i + 1, hu => simp at hu
  | 1, hp =>
    simp only [List.getElem?_cons_succ, List.getElem?_cons_zero, Option.some.injEq] at hp
    subst hp
    refine ⟨[.int .i64 n], rfl, rfl, fun i u hu => ?_⟩
    match i, hu with
    | 0, hu =>
      simp only [List.getElem?_cons_zero, Option.some.injEq] at hu
      subst hu
      show (W.alloc _).cell? ⟨W.heap.size, 0 + (1 * 1 + 0), none⟩ = _
      simp
    | i + 1, hu => simp at hu
  | j + 2, hp => simp at hp
theorem added_in (l : Nat) (W : World) (s n : Int) : CallsIn (Fence.wide.inRound l) 2 Try.prog 102 #[.slice (some ⟨W.heap.size, 0, none⟩) 2 2] (W.alloc (.cells #[.int .i64 s, .int .i64 n] 3)) fun e w' => e = .returned (.int .i64 (ad1 (ad1 0 s) n)) ∧ Drawn0 (W.alloc (.cells #[.int .i64 s, .int .i64 n] 3)) w' :=
  CallsIn.inRound l (callsIn_wide.2 (impl_added.calls 3 (some ⟨W.heap.size, 0, none⟩) 2 [s, n] _ _ (two_C W s n) (by simp) (added_two s n)))
theorem round_end (B g n₀ : Nat) (W0 w W W2 : World) (s v : Int) (hg : g = w.heap.size) (hW0 : n₀ ≤ W0.heap.size) (hc : W.cell? ⟨g, 0, none⟩ = some (.int .i64 s)) (hf : W.frozen? ⟨g, 0, none⟩ = false) (hB : Below w.heap.size w W) (hS : Below 0 W0 W) (hk : Below W.heap.size W W2) :
    KeepsFrom B W (W2.setCell ⟨g, 0, none⟩ (.int .i64 v)) ∧ KpB g n₀ W (W2.setCell ⟨g, 0, none⟩ (.int .i64 v)) ∧ ((W2.setCell ⟨g, 0, none⟩ (.int .i64 v)).cell? ⟨g, 0, none⟩ = some (.int .i64 v) ∧ (W2.setCell ⟨g, 0, none⟩ (.int .i64 v)).frozen? ⟨g, 0, none⟩ = false) ∧ Below w.heap.size w (W2.setCell ⟨g, 0, none⟩ (.int .i64 v)) ∧ Below 0 W0 (W2.setCell ⟨g, 0, none⟩ (.int .i64 v)) := by
  have hlt : g < W.heap.size := World.block_lt_of_cell? W _ hc
  have hc2 : W2.cell? ⟨g, 0, none⟩ = some (.int .i64 s) := (hk.cell (p := ⟨g, 0, none⟩) hlt).trans hc
  have hf2 : W2.frozen? ⟨g, 0, none⟩ = false := (hk.frozen (p := ⟨g, 0, none⟩) hlt).trans hf
  have hS2 : W0.heap.size ≤ W.heap.size := hS.size
  refine ⟨(KeepsOthers.trans ⟨hk.size, fun k o h _ => (hk.block k (Array.getElem?_eq_some_iff.1 h).1).trans h⟩ (KeepsOthers.setCell W2 _ _)).from _, ?_, ⟨World.cell?_setCell_same' _ _ _ (by rw [hc2]; rfl), by rw [World.frozen?_setCell]; exact hf2⟩, (hB.trans (hk.mono hB.size)).setCell (p := ⟨g, 0, none⟩) (by rw [hg]; exact Nat.le_refl _) _, (hS.trans (hk.mono (Nat.zero_le _))).setCell (p := ⟨g, 0, none⟩) (Nat.zero_le _) _⟩
  intro k h1 h2
  have h3 := (Below.refl W2.heap.size W2)
  show (W2.heap.modify g _)[k]? = _
  rw [Array.getElem?_modify, if_neg (fun e => h2 e.symm)]
  exact hk.block k (by omega)
def impl_sumOf.f (l0 : List Int) : Option (Int) := if l0.length ≤ 140737488351232 then some (wrap64 (65535 - sumTo l0 ((l0.length + 1) / 2))) else none
set_option maxHeartbeats 4000000 in
set_option maxRecDepth 100000 in
theorem impl_sumOf.calls (A0 : Option Addr) (c0 : Nat) (l0 : List Int) (r : Int) (w : World) (hr0 : Kd.C (Kd.int .u8) w A0 l0.length l0) (hc0 : l0.length ≤ c0) (h : impl_sumOf.f l0 = some r) :
    Calls Try.prog 73 #[.slice A0 l0.length c0] w fun e w' => e = .returned (.int .i64 r) ∧ Below w.heap.size w w' := by
  obtain ⟨hreach, rfl⟩ : l0.length ≤ 140737488351232 ∧ wrap64 (65535 - sumTo l0 ((l0.length + 1) / 2)) = r := by
    unfold impl_sumOf.f at h; split at h
    · exact ⟨by assumption, Option.some.inj h⟩
    · cases h
  clear h
  have hrd := Kd.reads_of_C (d := (0 : Int)) hr0
  have hA : 0 < l0.length → ∃ ad, A0 = some ad := fun h => by obtain ⟨ad, e, _⟩ := hrd.2.2 h; exact ⟨ad, e⟩
  refine (callsIn_wide (n := 5)).1 ?_
  refine callsIn_of_wp_marks Try.func73 rfl trivial ?_ rfl
  simp only [Try.ntmps73, List.size_toArray, List.length_cons, List.length_nil, Nat.reduceAdd, Nat.reduceSub, Array.replicate_succ, Array.replicate_zero, List.push_toArray, List.append_toArray, List.nil_append, List.cons_append]
  gi_wp2
  refine ⟨trivial, ?_⟩
  refine (chunk_in Fence.wide 4 trivial rfl _ _ _ _).mono ?_
  rintro e w' ⟨rfl, rfl⟩
  gi_wp2
  have bS := Boxed.new w 3 (.int .i64 0)
  have bN := Boxed.new (w.alloc (.cells #[.int .i64 0] 3)) 22 (.slice A0 l0.length c0)
  have bT := Boxed.new ((w.alloc (.cells #[.int .i64 0] 3)).alloc (.cells #[.slice A0 l0.length c0] 22)) 3 (.int .i64 2)
  rw [World.size_alloc] at bN
  rw [World.size_alloc, World.size_alloc] at bT
  have hB0 : Below w.heap.size w (((w.alloc (.cells #[.int .i64 0] 3)).alloc (.cells #[.slice A0 l0.length c0] 22)).alloc (.cells #[.int .i64 2] 3)) := (((Below.refl _ w).alloc (Nat.le_refl _) _).alloc (by simp) _).alloc (by simp; omega) _
  refine wpIn_rangeFunc_ownG (F := Fence.wide) (n := 5) rfl (by decide) (gf := 110) (lb := #[.pointer (some ⟨w.heap.size + 1, 0, none⟩), .pointer (some ⟨w.heap.size + 1 + 1, 0, none⟩)]) rfl trivial (fun args w => Go.Proofs.YtpbeljcgcdilnaaW.PrintLast.enters_ Try.func110 (by kernel_rfl) rfl args w)
    (chunk_stops Fence.wide 4 trivial rfl (by decide) (w.heap.size + 1) (w.heap.size + 1 + 1) w.heap.size (w.heap.size + 1 + 1 + 1) (by omega) (by omega) A0 l0.length c0 hc0 hreach hA _ (by simp) (by simp) (by simp) (bN.alloc _).cell bT.cell) (fun h k => KpB.trans h k) (KpB.b (by simp)) (Below.refl _ _) (fun _ => rfl)
    (fun pre W => (W.cell? ⟨w.heap.size, 0, none⟩ = some (.int .i64 (sumC l0 pre)) ∧ W.frozen? ⟨w.heap.size, 0, none⟩ = false) ∧ Below w.heap.size w W ∧ Below 0 (((w.alloc (.cells #[.int .i64 0] 3)).alloc (.cells #[.slice A0 l0.length c0] 22)).alloc (.cells #[.int .i64 2] 3)) W)
    (fun _ _ _ => False)
    (OwnFrom.and (Own.from (fun s A B row hs hg hr => ⟨cell_kept hs.1 hg hr, (frozen_kept hs.1 hg hr).trans hs.2⟩) _) (OwnFrom.and (ownFrom_below (Nat.le_refl _) (by simp; omega)) (ownFrom_below (Nat.zero_le _) (Nat.zero_le _))))
    (fun _ _ _ _ _ hs _ _ => hs)
    ⟨⟨((bS.alloc _).alloc _).cell, ((bS.alloc _).alloc _).frozen⟩, hB0, Below.refl _ _⟩
    (fun x => { tmps := #[.slice A0 l0.length c0, undef, .int .i64 0, .pointer (some ⟨w.heap.size, 0, none⟩), chunkV (adOf A0) l0.length x.1, undef, .slice A0 l0.length c0, .func (.func 110) #[] #[.pointer (some ⟨w.heap.size + 1, 0, none⟩), .pointer (some ⟨w.heap.size + 1 + 1, 0, none⟩)], chunkV (adOf A0) l0.length x.1, undef, undef, undef, undef, undef, undef, undef, undef, undef, undef, undef, undef, undef, undef, undef, undef, undef, undef, undef, undef], defers := [] }) ?assign ?body ?done ?stop
  case assign =>
    intro l x W K hK
    gi_wp2
    exact hK
  case body =>
    rintro l pre x W ⟨⟨hc, hf⟩, hB, hS⟩ _
    obtain ⟨ad, e0, hx0⟩ := Kd.at_int hr0 ((2 * x.1 : Nat) : Int) (by omega) (by have := x.2; omega)
    subst e0
    replace hx0 := (hB.cell (World.block_lt_of_cell? w _ hx0)).trans hx0
    rw [Int.toNat_natCast] at hx0
    have had : adOf (some ad) = ad := rfl
    have hsn := sumC_snoc l0 pre x
    have HSN := Aside0.mk hsn; clear hsn
    have HB := Aside0.mk hB; clear hB
    by_cases h2 : 2 * x.1 + 1 < l0.length
    · obtain ⟨ad', e1, hx1⟩ := Kd.at_int hr0 ((2 * x.1 + 1 : Nat) : Int) (by omega) (by omega)
      cases e1
      replace hx1 := (HB.out.cell (World.block_lt_of_cell? w _ hx1)).trans hx1
      rw [Int.toNat_natCast, ← Addr.add_add] at hx1
      replace hx1 : W.cell? ⟨(ad.add (2 * x.1)).block, (ad.add (2 * x.1)).off + 1, none⟩ = some (.int .u8 (rd l0 ((2 * x.1 + 1 : Nat) : Int))) := hx1
      have hpa : pairAt l0 x.1 = Go.bits .or .i64 (wrap64 (wrap64 (rd l0 ((2 * x.1 : Nat) : Int)) * 256)) (wrap64 (rd l0 ((2 * x.1 + 1 : Nat) : Int))) := by unfold pairAt; rw [if_pos h2]
      have hyv : chunkV (adOf (some ad)) l0.length x.1 = .slice (some (ad.add (2 * x.1))) 2 2 := by unfold chunkV; rw [if_pos h2]; rfl
      rw [hyv]
      have HPA := Aside0.mk hpa; clear hpa hyv
      have H2 := Aside0.mk h2; clear h2
      generalize rd l0 ((2 * x.1 : Nat) : Int) = b0 at *
      generalize rd l0 ((2 * x.1 + 1 : Nat) : Int) = b1 at *
      gi_wp2
      refine ⟨trivial, ?_⟩
      refine (added_in l W _ _).mono ?_
      rintro e w' ⟨rfl, nd, rfl⟩
      have hk2 := pw_below_drewN (below_alloc (Below.refl W.heap.size W) (.cells #[.int .i64 (sumC l0 pre), .int .i64 (Go.bits .or .i64 (wrap64 (wrap64 b0 * 256)) (wrap64 b1))] 3)) nd
      generalize World.drewN (W.alloc _) nd = W2 at hk2 ⊢
      have hfin := round_end (((w.alloc (.cells #[.int .i64 0] 3)).alloc (.cells #[.slice (some ad) l0.length c0] 22)).alloc (.cells #[.int .i64 2] 3)).heap.size w.heap.size (w.heap.size + 1 + 1 + 1) _ w W W2 (sumC l0 pre) (ad1 (ad1 0 (sumC l0 pre)) (Go.bits .or .i64 (wrap64 (wrap64 b0 * 256)) (wrap64 b1))) rfl (by simp) hc hf HB.out hS hk2
      have hlt : w.heap.size < W.heap.size := World.block_lt_of_cell? W _ hc
      have hc2 : W2.cell? ⟨w.heap.size, 0, none⟩ = some (.int .i64 (sumC l0 pre)) := (hk2.cell (p := ⟨w.heap.size, 0, none⟩) hlt).trans hc
      have hf2 : W2.frozen? ⟨w.heap.size, 0, none⟩ = false := (hk2.frozen (p := ⟨w.heap.size, 0, none⟩) hlt).trans hf
      have HF := Aside0.mk hfin
      clear hfin hk2 hc hf hS hx0 hx1
      gi_wp2
      obtain ⟨f1, f2, f3, f4, f5⟩ := HF.out
      exact ⟨f1, f2, ⟨by rw [HSN.out, HPA.out]; exact f3.1, f3.2⟩, f4, f5⟩
    · have hpa : pairAt l0 x.1 = wrap64 (wrap64 (rd l0 ((2 * x.1 : Nat) : Int)) * 256) := by unfold pairAt; rw [if_neg h2]
      have hyv : chunkV (adOf (some ad)) l0.length x.1 = .slice (some (ad.add (2 * x.1))) 1 1 := by unfold chunkV; rw [if_neg h2]; rfl
      rw [hyv]
      have HPA := Aside0.mk hpa; clear hpa hyv
      have H2 := Aside0.mk h2; clear h2
      generalize rd l0 ((2 * x.1 : Nat) : Int) = b0 at *
      gi_wp2
      refine ⟨trivial, ?_⟩
      refine (added_in l W _ _).mono ?_
      rintro e w' ⟨rfl, nd, rfl⟩
      have hk2 := pw_below_drewN (below_alloc (Below.refl W.heap.size W) (.cells #[.int .i64 (sumC l0 pre), .int .i64 (wrap64 (wrap64 b0 * 256))] 3)) nd
      generalize World.drewN (W.alloc _) nd = W2 at hk2 ⊢
      have hfin := round_end (((w.alloc (.cells #[.int .i64 0] 3)).alloc (.cells #[.slice (some ad) l0.length c0] 22)).alloc (.cells #[.int .i64 2] 3)).heap.size w.heap.size (w.heap.size + 1 + 1 + 1) _ w W W2 (sumC l0 pre) (ad1 (ad1 0 (sumC l0 pre)) (wrap64 (wrap64 b0 * 256))) rfl (by simp) hc hf HB.out hS hk2
      have hlt : w.heap.size < W.heap.size := World.block_lt_of_cell? W _ hc
      have hc2 : W2.cell? ⟨w.heap.size, 0, none⟩ = some (.int .i64 (sumC l0 pre)) := (hk2.cell (p := ⟨w.heap.size, 0, none⟩) hlt).trans hc
      have hf2 : W2.frozen? ⟨w.heap.size, 0, none⟩ = false := (hk2.frozen (p := ⟨w.heap.size, 0, none⟩) hlt).trans hf
      have HF := Aside0.mk hfin
      clear hfin hk2 hc hf hS hx0
      gi_wp2
      obtain ⟨f1, f2, f3, f4, f5⟩ := HF.out
      exact ⟨f1, f2, ⟨by rw [HSN.out, HPA.out]; exact f3.1, f3.2⟩, f4, f5⟩
  case done =>
    rintro D ys W hD rfl ⟨⟨hc, _⟩, hB, _⟩ hK
    rw [sumC_upto l0 _ (by omega)] at hc
    gi_wp2
    refine ⟨by simp, .inl ⟨_, _, rfl, run_takeDeferred hK, ?_⟩⟩
    exact ⟨_, results_tmp rfl _ _ _, rfl, hB.trans (belowK_b (w := w) (Nat.le_refl _) W D _ _ (by simp at hD; omega) hK rfl rfl)⟩
  case stop =>
    rintro D c pre W _ _ h _
    exact h.elim
end
def impl_between.f (k : Nat) (a0 : Int) (a1 : Int) : Option (List Int) := (impl_bytesOf.f k a0 2).bind fun t260 => ((impl_bytesOf.f k a1 2).bind fun t263 => ((slices_Concat_byte_byte.f k (([t260, t263] : List (List Int)))).bind fun t269 => (some t269)))
theorem impl_between.mono : ∀ a0 a1 k, LeO (impl_between.f k a0 a1) (impl_between.f (k + 1) a0 a1) := by
 intro a0 a1 k
 unfold impl_between.f
 repeat' first | (with_reducible first | apply impl_bytesOf.mono | apply slices_Concat_byte_byte.mono | exact LeO.refl _ | exact LeO.none _ | refine LeO.ite ?_ ?_ | refine LeO.bind ?_ fun _ => ?_) | apply impl_bytesOf.mono | apply slices_Concat_byte_byte.mono | exact LeO.none _ | refine LeO.ite ?_ ?_ | refine LeO.bind ?_ fun _ => ?_
set_option maxHeartbeats 8000000 in
set_option maxRecDepth 100000 in
theorem impl_between.calls (k : Nat) (a0 : Int) (a1 : Int) (r : List Int) (w : World) (h : impl_between.f k a0 a1 = some r) :
  Calls Try.prog 74 #[.int .i64 a0, .int .i64 a1] w fun e w' => ∃ v0_ : Value, e = .returned (v0_) ∧ Kd.R (Kd.int .u8) 5 w' w.heap.size (fun _ => True) v0_ r ∧ Below w.heap.size w w' := by
 have HB := Aside0.mk (Below.refl w.heap.size w)
 have H : ((impl_bytesOf.f k a0 2).bind fun t260 => ((impl_bytesOf.f k a1 2).bind fun t263 => ((slices_Concat_byte_byte.f k (([t260, t263] : List (List Int)))).bind fun t269 => (some t269)))) = some r := h
 clear h
 replace H := Option.bind_eq_some_iff.mp H
 obtain ⟨t260, A30, H⟩ := H
 (try dsimp only at H)
 have A3 := Aside0.mk A30; clear A30
 replace H := Option.bind_eq_some_iff.mp H
 obtain ⟨t263, A40, H⟩ := H
 (try dsimp only at H)
 have A4 := Aside0.mk A40; clear A40
 obtain ⟨y266, hy266⟩ : ∃ y_ : List (List Int), y_ = (([t260, t263] : List (List Int))) := ⟨_, rfl⟩
 (first | replace H := sb_ hy266 H | rw [← hy266] at H)
 have Ny266 := Aside0.mk hy266; clear hy266
 replace H := Option.bind_eq_some_iff.mp H
 obtain ⟨t269, A50, H⟩ := H
 (try dsimp only at H)
 have A5 := Aside0.mk A50; clear A50
 obtain rfl := Option.some.inj H
 go_enter Try.func74, Try.ntmps74
 go_wp2_with (first | ((with_reducible refine gate_callee (f := 72) rfl ?_); refine goesL_ (some 6) rfl rfl Try.func72 (by kernel_rfl) rfl #[.int .i64 a0, .int .i64 2] rfl ar_ ?_; (with_reducible refine (impl_bytesOf.calls k a0 2 t260 _ A3.out).mono ?_); rintro e w6 ⟨v261, rfl, ho0, hb⟩; refine ⟨_, rfl, ?_⟩; have HO262 := Aside0.mk (Kd.R_lower ho0 (below_size (hbA_ HB.out))); replace HB := (bs_ HB hb); (try clear hb); (try clear hb2); (try clear hk); (try clear hi); (try clear ho0)) | ((with_reducible refine gate_callee (f := 72) rfl ?_); refine goesL_ (some 8) rfl rfl Try.func72 (by kernel_rfl) rfl #[.int .i64 a1, .int .i64 2] rfl ar_ ?_; (with_reducible refine (impl_bytesOf.calls k a1 2 t263 _ A4.out).mono ?_); rintro e w7 ⟨v264, rfl, ho0, hb⟩; refine ⟨_, rfl, ?_⟩; have HO265 := Aside0.mk (Kd.R_lower (Kd.R_new' ho0 (Kd.R_lt (kR_ HO262.out))) (below_size (hbA_ HB.out))); replace HO262 := Aside0.mk (Kd.R_elder' (kR_ HO262.out) (Kd.R_base ho0) hb); replace HB := (bs_ HB hb); (try clear hb); (try clear hb2); (try clear hk); (try clear hi); (try clear ho0); obtain ⟨Ao8, co8, eo8⟩ := Kd.R_slice HO262.out; subst eo8; obtain ⟨Ao9, co9, eo9⟩ := Kd.R_slice HO265.out; subst eo9) | ((with_reducible refine gate_dst (N := 9) rfl ?_); refine Kd.N_lit (Kd.slice 5 (Kd.int .u8)) _ 22 ?hg (N' := 9) ?hd (xs := ([t260, t263] : List (List Int))) (inner := [.slice Ao8 t260.length co8, .slice Ao9 t263.length co9]) (ok := (fun _ => True)) (okp := (fun _ => True)) ?hr ?hp (fun _ hk => hk) ((show ∀ k_, w7.heap.size ≤ k_ → (fun _ => True) k_ from fun k_ hk => trivial) _ (Nat.le_refl _)) (Below.refl _ _) (Nat.le_refl _) (by simp) ?_; (case hd => rfl); (case hg => rfl); (case hr => first | (go_simp; done) | (go_simp; rfl)); (case hp => exact (Reps.one (show Kd.FK (Kd.slice 5 (Kd.int .u8)) _ _ t260 [.slice Ao8 t260.length co8] from (Kd.FK_slice_mk (Kd.R_reads' (Kd.R_mono (ok' := (fun _ => True)) (HO262.out) (fun k_ hk => trivial))).2.1 (Kd.R_F (Kd.R_mono (ok' := (fun _ => True)) (HO262.out) (fun k_ hk => trivial))))) (Reps.one (show Kd.FK (Kd.slice 5 (Kd.int .u8)) _ _ t263 [.slice Ao9 t263.length co9] from (Kd.FK_slice_mk (Kd.R_reads' (Kd.R_mono (ok' := (fun _ => True)) (HO265.out) (fun k_ hk => trivial))).2.1 (Kd.R_F (Kd.R_mono (ok' := (fun _ => True)) (HO265.out) (fun k_ hk => trivial))))) (Reps.none _ _)))); intro v267 w10 ho11 hb hg_ hnew_; clear hg_ hnew_; (first | rw [← Ny266.out] at ho11 | (simp only [Int.reduceToNat] at ho11; rw [← Ny266.out] at ho11)); have HO268 := Aside0.mk (Kd.N_lower ho11 (below_size (hbA_ HB.out))); replace HB := (bs_ HB hb); clear HO262 HO265; clear hb ho11; obtain ⟨Ao12, co12, eo12⟩ := Kd.N_slice HO268.out; subst eo12) | ((with_reducible refine gate_callee (f := 71) rfl ?_); refine goesL_ (some 10) rfl rfl Try.func71 (by kernel_rfl) rfl #[.slice Ao12 y266.length co12] rfl ar_ ?_; (with_reducible refine (slices_Concat_byte_byte.calls k _ _ y266 t269 _ ?side1 ?side2 A5.out).mono ?_); (case side1 => exact kC_ (Kd.N_reads' HO268.out).2.2); (case side2 => exact (Kd.N_reads' HO268.out).2.1); rintro e w13 ⟨v270, rfl, ho0, hb⟩; refine ⟨_, rfl, ?_⟩; replace HO268 := Aside0.mk (Kd.N_elder' (kN_ HO268.out) (Kd.R_base ho0) hb); have HO271 := Aside0.mk (Kd.R_lower ho0 (below_size (hbA_ HB.out))); replace HB := (bs_ HB hb); (try clear hb); (try clear hb2); (try clear hk); (try clear hi); (try clear ho0)))
 go_ret
 exact ⟨_, by first | rfl | (simp [errW_none, errW_some] <;> rfl) | (simp [*, errW_none, errW_some] <;> rfl), kR_ HO271.out, hbA_ HB.out⟩
def impl_SegmentBytes.j0 : Nat → Int → Int → Bool → Int → Int → Int → Int → Int → Bool → Bool → Bool → Bool → List (S90) → List Int → Option (List Int)
 | 0, _, _, _, _, _, _, _, _, _, _, _, _, _, _ => none
 | k + 1, x1, x2, x20, x273000, x273001, x273002, x273003, x273004, x273005, x273006, x273007, x273008, x273009, x273010 => if x20 = true then (some ([] : List Int)) else ((impl_Segment_body.f k x273000 x273001 x273002 x273003 x273004 x273005 x273006 x273007 x273008 x273009 x273010).bind fun t276 => ((impl_between.f k x1 x2).bind fun t279 => ((slices_Concat_byte_byte.f k (([t279, t276] : List (List Int)))).bind fun t285 => ((impl_sumOf.f t285).bind fun t288 => ((impl_bytesOf.f k t288 2).bind fun t289 => ((slices_Concat_byte_byte.f k (([t276, t289] : List (List Int)))).bind fun t295 => (some t295)))))))
def impl_SegmentBytes.f (k : Nat) (a0_0 : Int) (a0_1 : Int) (a0_2 : Int) (a0_3 : Int) (a0_4 : Int) (a0_5 : Bool) (a0_6 : Bool) (a0_7 : Bool) (a0_8 : Bool) (l0_9 : List (S90)) (l0_10 : List Int) (a1 : Int) (a2 : Int) : Option (List Int) := (impl_SegmentOk.f k a0_0 a0_1 a0_2 a0_3 a0_4 a0_5 a0_6 a0_7 a0_8 l0_9 l0_10).bind fun t273 => (if t273 = true then ((impl_word.f a1).bind fun t274 => (if t274 = true then ((impl_word.f a2).bind fun t275 => (impl_SegmentBytes.j0 k a1 a2 (!t275) a0_0 a0_1 a0_2 a0_3 a0_4 a0_5 a0_6 a0_7 a0_8 l0_9 l0_10)) else (impl_SegmentBytes.j0 k a1 a2 true a0_0 a0_1 a0_2 a0_3 a0_4 a0_5 a0_6 a0_7 a0_8 l0_9 l0_10))) else (impl_SegmentBytes.j0 k a1 a2 true a0_0 a0_1 a0_2 a0_3 a0_4 a0_5 a0_6 a0_7 a0_8 l0_9 l0_10))
theorem impl_SegmentBytes.mono_l : ∀ k, (∀ y0 y1 y2 y3 y4 y5 y6 y7 y8 y9 y10 y11 y12 y13, LeO (impl_SegmentBytes.j0 k y0 y1 y2 y3 y4 y5 y6 y7 y8 y9 y10 y11 y12 y13) (impl_SegmentBytes.j0 (k + 1) y0 y1 y2 y3 y4 y5 y6 y7 y8 y9 y10 y11 y12 y13))
 | 0 => fun _ _ _ _ _ _ _ _ _ _ _ _ _ _ r h => by simp [impl_SegmentBytes.j0] at h
 | k + 1 => by
  have ih0 := impl_SegmentBytes.mono_l k
  ·intro y0 y1 y2 y3 y4 y5 y6 y7 y8 y9 y10 y11 y12 y13
   unfold impl_SegmentBytes.j0
   repeat' first | (with_reducible first | apply ih0 | apply impl_SegmentOk.mono | apply impl_Segment_body.mono | apply impl_between.mono | apply impl_bytesOf.mono | apply slices_Concat_byte_byte.mono | exact LeO.refl _ | exact LeO.none _ | refine LeO.ite ?_ ?_ | refine LeO.bind ?_ fun _ => ?_) | apply ih0 | apply impl_SegmentOk.mono | apply impl_Segment_body.mono | apply impl_between.mono | apply impl_bytesOf.mono | apply slices_Concat_byte_byte.mono | exact LeO.none _ | refine LeO.ite ?_ ?_ | refine LeO.bind ?_ fun _ => ?_
theorem impl_SegmentBytes.mono : ∀ a0 a1 a2 a3 a4 a5 a6 a7 a8 a9 a10 a11 a12 k, LeO (impl_SegmentBytes.f k a0 a1 a2 a3 a4 a5 a6 a7 a8 a9 a10 a11 a12) (impl_SegmentBytes.f (k + 1) a0 a1 a2 a3 a4 a5 a6 a7 a8 a9 a10 a11 a12) := by
 intro a0 a1 a2 a3 a4 a5 a6 a7 a8 a9 a10 a11 a12 k
 have ih0 := impl_SegmentBytes.mono_l k
 unfold impl_SegmentBytes.f
 repeat' first | (with_reducible first | apply ih0 | apply impl_SegmentOk.mono | apply impl_Segment_body.mono | apply impl_between.mono | apply impl_bytesOf.mono | apply slices_Concat_byte_byte.mono | exact LeO.refl _ | exact LeO.none _ | refine LeO.ite ?_ ?_ | refine LeO.bind ?_ fun _ => ?_) | apply ih0 | apply impl_SegmentOk.mono | apply impl_Segment_body.mono | apply impl_between.mono | apply impl_bytesOf.mono | apply slices_Concat_byte_byte.mono | exact LeO.none _ | refine LeO.ite ?_ ?_ | refine LeO.bind ?_ fun _ => ?_
set_option maxHeartbeats 8000000 in
set_option maxRecDepth 100000 in
theorem impl_SegmentBytes.calls (k : Nat) (a0_0 : Int) (a0_1 : Int) (a0_2 : Int) (a0_3 : Int) (a0_4 : Int) (a0_5 : Bool) (a0_6 : Bool) (a0_7 : Bool) (a0_8 : Bool) (A0_9 : Option Addr) (c0_9 : Nat) (l0_9 : List (S90)) (A0_10 : Option Addr) (c0_10 : Nat) (l0_10 : List Int) (a1 : Int) (a2 : Int) (r : List Int) (w : World) (hr0_9 : Kd.C k90 w A0_9 l0_9.length l0_9) (hc0_9 : l0_9.length ≤ c0_9) (hr0_10 : Kd.C (Kd.int .u8) w A0_10 l0_10.length l0_10) (hc0_10 : l0_10.length ≤ c0_10) (h : impl_SegmentBytes.f k a0_0 a0_1 a0_2 a0_3 a0_4 a0_5 a0_6 a0_7 a0_8 l0_9 l0_10 a1 a2 = some r) :
  Calls Try.prog 36 #[.agg #[.int .i64 a0_0, .int .i64 a0_1, .int .i64 a0_2, .int .i64 a0_3, .int .i64 a0_4, .bool a0_5, .bool a0_6, .bool a0_7, .bool a0_8, .slice A0_9 l0_9.length c0_9, .slice A0_10 l0_10.length c0_10], .int .i64 a1, .int .i64 a2] w fun e w' => ∃ v0_ : Value, e = .returned (v0_) ∧ Kd.R (Kd.int .u8) 5 w' w.heap.size (fun _ => True) v0_ r ∧ Below w.heap.size w w' := by
 have hu52 := Try.underlying52; have HR0_9 := Aside0.mk hr0_9; have HC0_9 := Aside0.mk hc0_9; clear hr0_9 hc0_9; have HR0_10 := Aside0.mk hr0_10; have HC0_10 := Aside0.mk hc0_10; clear hr0_10 hc0_10
 have HB := Aside0.mk (Below.refl w.heap.size w)
 have H : ((impl_SegmentOk.f k a0_0 a0_1 a0_2 a0_3 a0_4 a0_5 a0_6 a0_7 a0_8 l0_9 l0_10).bind fun t273 => (if t273 = true then ((impl_word.f a1).bind fun t274 => (if t274 = true then ((impl_word.f a2).bind fun t275 => (impl_SegmentBytes.j0 k a1 a2 (!t275) a0_0 a0_1 a0_2 a0_3 a0_4 a0_5 a0_6 a0_7 a0_8 l0_9 l0_10)) else (impl_SegmentBytes.j0 k a1 a2 true a0_0 a0_1 a0_2 a0_3 a0_4 a0_5 a0_6 a0_7 a0_8 l0_9 l0_10))) else (impl_SegmentBytes.j0 k a1 a2 true a0_0 a0_1 a0_2 a0_3 a0_4 a0_5 a0_6 a0_7 a0_8 l0_9 l0_10))) = some r := h
 clear h; have HC4 := Aside0.mk H; clear H
 go_enter Try.func36, Try.ntmps36
 go_upto_region 1 with (first | ((with_reducible refine gate_dst (N := 3) rfl ?_); refine box_ (N := 3) (cs := #[.int .i64 a0_0, .int .i64 a0_1, .int .i64 a0_2, .int .i64 a0_3, .int .i64 a0_4, .bool a0_5, .bool a0_6, .bool a0_7, .bool a0_8, .slice A0_9 l0_9.length c0_9, .slice A0_10 l0_10.length c0_10]) (t := 52) (fun gb272 hg w5 hbox hb => ?_); have BK272 := Aside0.mk (hbox); have GW272 := ge_ hg HB; have GE272 := ge_ hg HB; replace HB := (bs_ HB hb); clear hb hbox hg))
 (try simp only [Act.put, List.setIfInBounds_toArray, List.set_cons_zero, List.set_cons_succ])
 go_cut [20] (fun v20 wc => ∃ (kq : Nat) (x20_3 : Bool), v20 = .bool x20_3 ∧ Aside0 (impl_SegmentBytes.j0 kq a1 a2 x20_3 a0_0 a0_1 a0_2 a0_3 a0_4 a0_5 a0_6 a0_7 a0_8 l0_9 l0_10 = some r) ∧ Aside0 (kq ≤ k) ∧ Aside0 (wc.heap[gb272]? = some (.cells #[.int .i64 a0_0, .int .i64 a0_1, .int .i64 a0_2, .int .i64 a0_3, .int .i64 a0_4, .bool a0_5, .bool a0_6, .bool a0_7, .bool a0_8, (.slice A0_9 l0_9.length c0_9), (.slice A0_10 l0_10.length c0_10)] 52 (0, 0))) ∧ Aside0 (Below w.heap.size w wc))
 case first =>
  have H := HC4.out; clear HC4
  replace H := Option.bind_eq_some_iff.mp H
  obtain ⟨t273, A60, H⟩ := H
  (try dsimp only at H)
  have A6 := Aside0.mk A60; clear A60
  by_cases c7 : t273 = true
  ·subst c7
   rw [if_pos rfl] at H
   replace H := Option.bind_eq_some_iff.mp H
   obtain ⟨t274, A80, H⟩ := H
   (try dsimp only at H)
   have A8 := Aside0.mk A80; clear A80
   by_cases c9 : t274 = true
   ·subst c9
    rw [if_pos rfl] at H
    replace H := Option.bind_eq_some_iff.mp H
    obtain ⟨t275, A100, H⟩ := H
    (try dsimp only at H)
    have A10 := Aside0.mk A100; clear A100
    have H' := Aside0.mk H
    clear H; have Z11 := zz11 BK272
    go_wp2_with (first | ((with_reducible refine gate_callee (f := 69) rfl ?_); refine goesL_ (some 9) rfl rfl Try.func69 (by kernel_rfl) rfl #[.agg #[.int .i64 a0_0, .int .i64 a0_1, .int .i64 a0_2, .int .i64 a0_3, .int .i64 a0_4, .bool a0_5, .bool a0_6, .bool a0_7, .bool a0_8, .slice A0_9 l0_9.length c0_9, .slice A0_10 l0_10.length c0_10]] rfl ar_ ?_; (with_reducible refine (impl_SegmentOk.calls k a0_0 a0_1 a0_2 a0_3 a0_4 a0_5 a0_6 a0_7 a0_8 _ _ l0_9 _ _ l0_10 true _ ?side1 ?side2 ?side3 ?side4 A6.out).mono ?_); (case side1 => exact kC_ (Kd.C_below HR0_9.out HB.out)); (case side2 => exact HC0_9.out); (case side3 => exact kC_ (Kd.C_below HR0_10.out HB.out)); (case side4 => exact HC0_10.out); rintro e w12 ⟨rfl, hb⟩; refine ⟨_, rfl, ?_⟩; replace BK272 := (bbA_ BK272 hb); replace HB := (bs_ HB hb); (try clear hb); (try clear hb2); (try clear hk); (try clear hi)) | (go_at_call 48; (with_reducible refine (impl_word.calls a1 true _ A8.out).mono ?_); rintro e w' ⟨rfl, ⟨nd, rfl⟩⟩) | (go_at_call 48; (with_reducible refine (impl_word.calls a2 t275 _ A10.out).mono ?_); rintro e w' ⟨rfl, ⟨nd, rfl⟩⟩))
    go_meet
    case rel => exact ⟨_, (!t275), (by first | rfl | (simp; done) | (simp [*]; done)), H', ⟨by first | omega | exact Nat.le_refl _⟩, ⟨by refine kb_ ?_; exact BK272.out⟩, ⟨hbA_ HB.out⟩⟩
   ·replace c9 := Bool.eq_false_iff.mpr c9
    subst c9
    rw [if_neg (show ¬ (false = true) by decide)] at H
    have H' := Aside0.mk H
    clear H; have Z13 := zz11 BK272
    go_wp2_with (first | ((with_reducible refine gate_callee (f := 69) rfl ?_); refine goesL_ (some 9) rfl rfl Try.func69 (by kernel_rfl) rfl #[.agg #[.int .i64 a0_0, .int .i64 a0_1, .int .i64 a0_2, .int .i64 a0_3, .int .i64 a0_4, .bool a0_5, .bool a0_6, .bool a0_7, .bool a0_8, .slice A0_9 l0_9.length c0_9, .slice A0_10 l0_10.length c0_10]] rfl ar_ ?_; (with_reducible refine (impl_SegmentOk.calls k a0_0 a0_1 a0_2 a0_3 a0_4 a0_5 a0_6 a0_7 a0_8 _ _ l0_9 _ _ l0_10 true _ ?side1 ?side2 ?side3 ?side4 A6.out).mono ?_); (case side1 => exact kC_ (Kd.C_below HR0_9.out HB.out)); (case side2 => exact HC0_9.out); (case side3 => exact kC_ (Kd.C_below HR0_10.out HB.out)); (case side4 => exact HC0_10.out); rintro e w14 ⟨rfl, hb⟩; refine ⟨_, rfl, ?_⟩; replace BK272 := (bbA_ BK272 hb); replace HB := (bs_ HB hb); (try clear hb); (try clear hb2); (try clear hk); (try clear hi)) | (go_at_call 48; (with_reducible refine (impl_word.calls a1 false _ A8.out).mono ?_); rintro e w' ⟨rfl, ⟨nd, rfl⟩⟩))
    go_meet
    case rel => exact ⟨_, (true), (by first | rfl | (simp; done) | (simp [*]; done)), H', ⟨by first | omega | exact Nat.le_refl _⟩, ⟨by refine kb_ ?_; exact BK272.out⟩, ⟨hbA_ HB.out⟩⟩
  ·replace c7 := Bool.eq_false_iff.mpr c7
   subst c7
   rw [if_neg (show ¬ (false = true) by decide)] at H
   have H' := Aside0.mk H
   clear H; have Z15 := zz11 BK272
   go_wp2_with (first | ((with_reducible refine gate_callee (f := 69) rfl ?_); refine goesL_ (some 9) rfl rfl Try.func69 (by kernel_rfl) rfl #[.agg #[.int .i64 a0_0, .int .i64 a0_1, .int .i64 a0_2, .int .i64 a0_3, .int .i64 a0_4, .bool a0_5, .bool a0_6, .bool a0_7, .bool a0_8, .slice A0_9 l0_9.length c0_9, .slice A0_10 l0_10.length c0_10]] rfl ar_ ?_; (with_reducible refine (impl_SegmentOk.calls k a0_0 a0_1 a0_2 a0_3 a0_4 a0_5 a0_6 a0_7 a0_8 _ _ l0_9 _ _ l0_10 false _ ?side1 ?side2 ?side3 ?side4 A6.out).mono ?_); (case side1 => exact kC_ (Kd.C_below HR0_9.out HB.out)); (case side2 => exact HC0_9.out); (case side3 => exact kC_ (Kd.C_below HR0_10.out HB.out)); (case side4 => exact HC0_10.out); rintro e w16 ⟨rfl, hb⟩; refine ⟨_, rfl, ?_⟩; replace BK272 := (bbA_ BK272 hb); replace HB := (bs_ HB hb); (try clear hb); (try clear hb2); (try clear hk); (try clear hi)))
   go_meet
   case rel => exact ⟨_, (true), (by first | rfl | (simp; done) | (simp [*]; done)), H', ⟨by first | omega | exact Nat.le_refl _⟩, ⟨by refine kb_ ?_; exact BK272.out⟩, ⟨hbA_ HB.out⟩⟩
 case rest =>
  clear HC4; (try clear p2); (try clear c3); (try clear c6); (try clear c7); (try clear c9); (try clear Z11); (try clear Z13); (try clear Z15)
  obtain ⟨kq, x20_3, rfl, HA, HJ3, BK272, HB⟩ := hcut
  cases kq with
  | zero => exact absurd HA.out (by simp [impl_SegmentBytes.j0])
  | succ kj3 =>
   have H := HA.out; clear HA
   simp only [impl_SegmentBytes.j0] at H
   by_cases c17 : x20_3 = true
   ·subst c17
    rw [if_pos rfl] at H
    obtain rfl := Option.some.inj H
    go_wp2
    go_ret
    exact ⟨_, by first | rfl | (simp [errW_none, errW_some] <;> rfl) | (simp [*, errW_none, errW_some] <;> rfl), by first | exact Kd.R_nil _ _ _ _ _ | exact Kd.N_nil _ _ _ _ _ | exact Kd.V_nil _ _ _ _ _ | exact Kd.Q_nil _ _ _ _ _ | exact Kd.S_nil _ _ _ _ _, hbA_ HB.out⟩
   ·replace c17 := Bool.eq_false_iff.mpr c17
    subst c17
    rw [if_neg (show ¬ (false = true) by decide)] at H
    replace H := Option.bind_eq_some_iff.mp H
    obtain ⟨t276, A180, H⟩ := H
    (try dsimp only at H)
    have A18 := Aside0.mk A180; clear A180
    replace H := Option.bind_eq_some_iff.mp H
    obtain ⟨t279, A190, H⟩ := H
    (try dsimp only at H)
    have A19 := Aside0.mk A190; clear A190
    obtain ⟨y282, hy282⟩ : ∃ y_ : List (List Int), y_ = (([t279, t276] : List (List Int))) := ⟨_, rfl⟩
    (first | replace H := sb_ hy282 H | rw [← hy282] at H)
    have Ny282 := Aside0.mk hy282; clear hy282
    replace H := Option.bind_eq_some_iff.mp H
    obtain ⟨t285, A200, H⟩ := H
    (try dsimp only at H)
    have A20 := Aside0.mk A200; clear A200
    replace H := Option.bind_eq_some_iff.mp H
    obtain ⟨t288, A210, H⟩ := H
    (try dsimp only at H)
    have A21 := Aside0.mk A210; clear A210
    replace H := Option.bind_eq_some_iff.mp H
    obtain ⟨t289, A220, H⟩ := H
    (try dsimp only at H)
    have A22 := Aside0.mk A220; clear A220
    obtain ⟨y292, hy292⟩ : ∃ y_ : List (List Int), y_ = (([t276, t289] : List (List Int))) := ⟨_, rfl⟩
    (first | replace H := sb_ hy292 H | rw [← hy292] at H)
    have Ny292 := Aside0.mk hy292; clear hy292
    replace H := Option.bind_eq_some_iff.mp H
    obtain ⟨t295, A230, H⟩ := H
    (try dsimp only at H)
    have A23 := Aside0.mk A230; clear A230
    obtain rfl := Option.some.inj H
    have Z24 := zz11 BK272
    go_wp2_with (first | ((with_reducible refine gate_callee (f := 70) rfl ?_); refine goesL_ (some 22) rfl rfl Try.func70 (by kernel_rfl) rfl #[.agg #[.int .i64 a0_0, .int .i64 a0_1, .int .i64 a0_2, .int .i64 a0_3, .int .i64 a0_4, .bool a0_5, .bool a0_6, .bool a0_7, .bool a0_8, .slice A0_9 l0_9.length c0_9, .slice A0_10 l0_10.length c0_10]] rfl ar_ ?_; (with_reducible refine (impl_Segment_body.calls kj3 a0_0 a0_1 a0_2 a0_3 a0_4 a0_5 a0_6 a0_7 a0_8 _ _ l0_9 _ _ l0_10 t276 _ ?side1 ?side2 ?side3 ?side4 A18.out).mono ?_); (case side1 => exact kC_ (Kd.C_below HR0_9.out HB.out)); (case side2 => exact HC0_9.out); (case side3 => exact kC_ (Kd.C_below HR0_10.out HB.out)); (case side4 => exact HC0_10.out); rintro e w25 ⟨v277, rfl, ho0, hb⟩; refine ⟨_, rfl, ?_⟩; have HO278 := Aside0.mk (Kd.R_lower ho0 (below_size (hbA_ HB.out))); replace BK272 := (bbA_ BK272 hb); replace HB := (bs_ HB hb); (try clear hb); (try clear hb2); (try clear hk); (try clear hi); (try clear ho0)) | ((with_reducible refine gate_callee (f := 74) rfl ?_); refine goesL_ (some 26) rfl rfl Try.func74 (by kernel_rfl) rfl #[.int .i64 a1, .int .i64 a2] rfl ar_ ?_; (with_reducible refine (impl_between.calls kj3 a1 a2 t279 _ A19.out).mono ?_); rintro e w26 ⟨v280, rfl, ho0, hb⟩; refine ⟨_, rfl, ?_⟩; have HO281 := Aside0.mk (Kd.R_lower (Kd.R_new' ho0 (Kd.R_lt (kR_ HO278.out))) (below_size (hbA_ HB.out))); replace HO278 := Aside0.mk (Kd.R_elder' (kR_ HO278.out) (Kd.R_base ho0) hb); replace BK272 := (bbA_ BK272 hb); replace HB := (bs_ HB hb); (try clear hb); (try clear hb2); (try clear hk); (try clear hi); (try clear ho0); obtain ⟨Ao27, co27, eo27⟩ := Kd.R_slice HO281.out; subst eo27; obtain ⟨Ao28, co28, eo28⟩ := Kd.R_slice HO278.out; subst eo28) | ((with_reducible refine gate_dst (N := 28) rfl ?_); refine Kd.N_lit (Kd.slice 5 (Kd.int .u8)) _ 22 ?hg (N' := 28) ?hd (xs := ([t279, t276] : List (List Int))) (inner := [.slice Ao27 t279.length co27, .slice Ao28 t276.length co28]) (ok := (fun k_ => k_ ≠ gb272)) (okp := (fun k_ => k_ ≠ gb272)) ?hr ?hp (fun _ hk => hk) ((show ∀ k_, w26.heap.size ≤ k_ → (fun k_ => k_ ≠ gb272) k_ from fun k_ hk => fb_ BK272 k_ hk) _ (Nat.le_refl _)) (Below.refl _ _) (Nat.le_refl _) (by simp) ?_; (case hd => rfl); (case hg => rfl); (case hr => first | (go_simp; done) | (go_simp; rfl)); (case hp => exact (Reps.one (show Kd.FK (Kd.slice 5 (Kd.int .u8)) _ _ t279 [.slice Ao27 t279.length co27] from (Kd.FK_slice_mk (Kd.R_reads' (Kd.R_mono (ok' := (fun k_ => k_ ≠ gb272)) (Kd.R_types (HO281.out) BK272.out (by decide)) (fun k_ hk => hk.2))).2.1 (Kd.R_F (Kd.R_mono (ok' := (fun k_ => k_ ≠ gb272)) (Kd.R_types (HO281.out) BK272.out (by decide)) (fun k_ hk => hk.2))))) (Reps.one (show Kd.FK (Kd.slice 5 (Kd.int .u8)) _ _ t276 [.slice Ao28 t276.length co28] from (Kd.FK_slice_mk (Kd.R_reads' (Kd.R_mono (ok' := (fun k_ => k_ ≠ gb272)) (Kd.R_types (HO278.out) BK272.out (by decide)) (fun k_ hk => hk.2))).2.1 (Kd.R_F (Kd.R_mono (ok' := (fun k_ => k_ ≠ gb272)) (Kd.R_types (HO278.out) BK272.out (by decide)) (fun k_ hk => hk.2))))) (Reps.none _ _)))); intro v283 w29 ho30 hb hg_ hnew_; clear hg_ hnew_; (first | rw [← Ny282.out] at ho30 | (simp only [Int.reduceToNat] at ho30; rw [← Ny282.out] at ho30)); replace HO278 := Aside0.mk (Kd.R_below (kR_ HO278.out) hb); have HO284 := Aside0.mk (Kd.N_lower ho30 (below_size (hbA_ HB.out))); replace BK272 := (bbA_ BK272 hb); replace HB := (bs_ HB hb); clear HO281; clear hb ho30; obtain ⟨Ao31, co31, eo31⟩ := Kd.N_slice HO284.out; subst eo31) | ((with_reducible refine gate_callee (f := 71) rfl ?_); refine goesL_ (some 29) rfl rfl Try.func71 (by kernel_rfl) rfl #[.slice Ao31 y282.length co31] rfl ar_ ?_; (with_reducible refine (slices_Concat_byte_byte.calls kj3 _ _ y282 t285 _ ?side1 ?side2 A20.out).mono ?_); (case side1 => exact kC_ (Kd.N_reads' HO284.out).2.2); (case side2 => exact (Kd.N_reads' HO284.out).2.1); rintro e w32 ⟨v286, rfl, ho0, hb⟩; refine ⟨_, rfl, ?_⟩; replace HO284 := Aside0.mk (Kd.N_elder' (kN_ HO284.out) (Kd.R_base ho0) hb); have HO287 := Aside0.mk (Kd.R_lower (Kd.R_new' ho0 (Kd.R_lt (kR_ HO278.out))) (below_size (hbA_ HB.out))); replace HO278 := Aside0.mk (Kd.R_elder' (kR_ HO278.out) (Kd.R_base ho0) hb); replace BK272 := (bbA_ BK272 hb); replace HB := (bs_ HB hb); (try clear hb); (try clear hb2); (try clear hk); (try clear hi); (try clear ho0); obtain ⟨Ao33, co33, eo33⟩ := Kd.R_slice HO287.out; subst eo33) | ((with_reducible refine gate_callee (f := 73) rfl ?_); refine goesL_ (some 30) rfl rfl Try.func73 (by kernel_rfl) rfl #[.slice Ao33 t285.length co33] rfl ar_ ?_; (with_reducible refine (impl_sumOf.calls _ _ t285 t288 _ ?side1 ?side2 A21.out).mono ?_); (case side1 => exact kC_ (Kd.R_reads' HO287.out).2.2); (case side2 => exact (Kd.R_reads' HO287.out).2.1); rintro e w34 ⟨rfl, hb⟩; refine ⟨_, rfl, ?_⟩; replace HO278 := Aside0.mk (Kd.R_below (kR_ HO278.out) hb); replace HO284 := Aside0.mk (Kd.N_below (kN_ HO284.out) hb); replace HO287 := Aside0.mk (Kd.R_below (kR_ HO287.out) hb); replace BK272 := (bbA_ BK272 hb); replace HB := (bs_ HB hb); (try clear hb); (try clear hb2); (try clear hk); (try clear hi)) | ((with_reducible refine gate_callee (f := 72) rfl ?_); refine goesL_ (some 31) rfl rfl Try.func72 (by kernel_rfl) rfl #[.int .i64 t288, .int .i64 2] rfl ar_ ?_; (with_reducible refine (impl_bytesOf.calls kj3 t288 2 t289 _ A22.out).mono ?_); rintro e w35 ⟨v290, rfl, ho0, hb⟩; refine ⟨_, rfl, ?_⟩; replace HO284 := Aside0.mk (Kd.N_elder' (kN_ HO284.out) (Kd.R_base ho0) hb); have HO291 := Aside0.mk (Kd.R_lower (Kd.R_new' (Kd.R_new' ho0 (Kd.R_lt (kR_ HO278.out))) (Kd.R_lt (kR_ HO287.out))) (below_size (hbA_ HB.out))); replace HO278 := Aside0.mk (Kd.R_elder' (kR_ HO278.out) (Kd.R_base ho0) hb); replace HO287 := Aside0.mk (Kd.R_elder' (kR_ HO287.out) (Kd.R_base ho0) hb); replace BK272 := (bbA_ BK272 hb); replace HB := (bs_ HB hb); (try clear hb); (try clear hb2); (try clear hk); (try clear hi); (try clear ho0); obtain ⟨Ao36, co36, eo36⟩ := Kd.R_slice HO291.out; subst eo36) | ((with_reducible refine gate_dst (N := 32) rfl ?_); refine Kd.N_lit (Kd.slice 5 (Kd.int .u8)) _ 22 ?hg (N' := 32) ?hd (xs := ([t276, t289] : List (List Int))) (inner := [.slice Ao28 t276.length co28, .slice Ao36 t289.length co36]) (ok := (fun k_ => some k_ ≠ (.slice Ao31 y282.length co31 : Value).ownBlock ∧ some k_ ≠ (.slice Ao33 t285.length co33 : Value).ownBlock ∧ k_ ≠ gb272)) (okp := (fun k_ => some k_ ≠ (.slice Ao31 y282.length co31 : Value).ownBlock ∧ some k_ ≠ (.slice Ao33 t285.length co33 : Value).ownBlock ∧ k_ ≠ gb272)) ?hr ?hp (fun _ hk => hk) ((show ∀ k_, w35.heap.size ≤ k_ → (fun k_ => some k_ ≠ (.slice Ao31 y282.length co31 : Value).ownBlock ∧ some k_ ≠ (.slice Ao33 t285.length co33 : Value).ownBlock ∧ k_ ≠ gb272) k_ from fun k_ hk => ⟨Kd.fresh' (Kd.N_lt (kN_ HO284.out)) k_ hk, Kd.fresh' (Kd.R_lt (kR_ HO287.out)) k_ hk, fb_ BK272 k_ hk⟩) _ (Nat.le_refl _)) (Below.refl _ _) (Nat.le_refl _) (by simp) ?_; (case hd => rfl); (case hg => rfl); (case hr => first | (go_simp; done) | (go_simp; rfl)); (case hp => exact (Reps.one (show Kd.FK (Kd.slice 5 (Kd.int .u8)) _ _ t276 [.slice Ao28 t276.length co28] from (Kd.FK_slice_mk (Kd.R_reads' (Kd.R_mono (ok' := (fun k_ => some k_ ≠ (.slice Ao31 y282.length co31 : Value).ownBlock ∧ some k_ ≠ (.slice Ao33 t285.length co33 : Value).ownBlock ∧ k_ ≠ gb272)) (Kd.R_types (Kd.R_apart' (HO278.out) (Kd.N_typed HO284.out) (by decide)) BK272.out (by decide)) (fun k_ hk => ⟨hk.1.2, ⟨hk.1.1.1.2, hk.2⟩⟩))).2.1 (Kd.R_F (Kd.R_mono (ok' := (fun k_ => some k_ ≠ (.slice Ao31 y282.length co31 : Value).ownBlock ∧ some k_ ≠ (.slice Ao33 t285.length co33 : Value).ownBlock ∧ k_ ≠ gb272)) (Kd.R_types (Kd.R_apart' (HO278.out) (Kd.N_typed HO284.out) (by decide)) BK272.out (by decide)) (fun k_ hk => ⟨hk.1.2, ⟨hk.1.1.1.2, hk.2⟩⟩))))) (Reps.one (show Kd.FK (Kd.slice 5 (Kd.int .u8)) _ _ t289 [.slice Ao36 t289.length co36] from (Kd.FK_slice_mk (Kd.R_reads' (Kd.R_mono (ok' := (fun k_ => some k_ ≠ (.slice Ao31 y282.length co31 : Value).ownBlock ∧ some k_ ≠ (.slice Ao33 t285.length co33 : Value).ownBlock ∧ k_ ≠ gb272)) (Kd.R_types (Kd.R_apart' (HO291.out) (Kd.N_typed HO284.out) (by decide)) BK272.out (by decide)) (fun k_ hk => ⟨hk.1.2, ⟨hk.1.1.2, hk.2⟩⟩))).2.1 (Kd.R_F (Kd.R_mono (ok' := (fun k_ => some k_ ≠ (.slice Ao31 y282.length co31 : Value).ownBlock ∧ some k_ ≠ (.slice Ao33 t285.length co33 : Value).ownBlock ∧ k_ ≠ gb272)) (Kd.R_types (Kd.R_apart' (HO291.out) (Kd.N_typed HO284.out) (by decide)) BK272.out (by decide)) (fun k_ hk => ⟨hk.1.2, ⟨hk.1.1.2, hk.2⟩⟩))))) (Reps.none _ _)))); intro v293 w37 ho38 hb hg_ hnew_; clear hg_ hnew_; (first | rw [← Ny292.out] at ho38 | (simp only [Int.reduceToNat] at ho38; rw [← Ny292.out] at ho38)); replace HO284 := Aside0.mk (Kd.N_elder' (kN_ HO284.out) (Kd.base_ ho38) hb); replace HO287 := Aside0.mk (Kd.R_below (kR_ HO287.out) hb); have HO294 := Aside0.mk (Kd.N_lower ho38 (below_size (hbA_ HB.out))); replace BK272 := (bbA_ BK272 hb); replace HB := (bs_ HB hb); clear HO278 HO291; clear hb ho38; obtain ⟨Ao39, co39, eo39⟩ := Kd.N_slice HO294.out; subst eo39) | ((with_reducible refine gate_callee (f := 71) rfl ?_); refine goesL_ (some 33) rfl rfl Try.func71 (by kernel_rfl) rfl #[.slice Ao39 y292.length co39] rfl ar_ ?_; (with_reducible refine (slices_Concat_byte_byte.calls kj3 _ _ y292 t295 _ ?side1 ?side2 A23.out).mono ?_); (case side1 => exact kC_ (Kd.N_reads' HO294.out).2.2); (case side2 => exact (Kd.N_reads' HO294.out).2.1); rintro e w40 ⟨v296, rfl, ho0, hb⟩; refine ⟨_, rfl, ?_⟩; replace HO284 := Aside0.mk (Kd.N_elder' (kN_ HO284.out) (Kd.R_base ho0) hb); replace HO294 := Aside0.mk (Kd.N_elder' (kN_ HO294.out) (Kd.R_base ho0) hb); have HO297 := Aside0.mk (Kd.R_lower (Kd.R_new' ho0 (Kd.R_lt (kR_ HO287.out))) (below_size (hbA_ HB.out))); replace HO287 := Aside0.mk (Kd.R_elder' (kR_ HO287.out) (Kd.R_base ho0) hb); replace BK272 := (bbA_ BK272 hb); replace HB := (bs_ HB hb); (try clear hb); (try clear hb2); (try clear hk); (try clear hi); (try clear ho0)))
    go_ret
    exact ⟨_, by first | rfl | (simp [errW_none, errW_some] <;> rfl) | (simp [*, errW_none, errW_some] <;> rfl), by refine kR_ ?_; exact Kd.R_mono HO297.out (fun _ hk => trivial), hbA_ HB.out⟩
mutual
def impl_NumberAt.j0 : Nat → List Int → Int → Int → Bool → Option (Int)
 | 0, _, _, _, _ => none
 | k + 1, x0, x1, x2, x24 => if x24 = true then (some (-1)) else (if 0 ≤ x1 then (if x1 ≤ (wrap64 (x1 + x2)) then (if (wrap64 (x1 + x2)) ≤ (x0.length : Int) then (impl_NumberAt.l0 k 0 ((x0.take ((wrap64 (x1 + x2)) : Int).toNat).drop (x1 : Int).toNat) (((x0.take ((wrap64 (x1 + x2)) : Int).toNat).drop (x1 : Int).toNat).length : Int) 0) else (none)) else (none)) else (none))
def impl_NumberAt.l0 : Nat → Int → List Int → Int → Int → Option (Int)
 | 0, _, _, _, _ => none
 | k + 1, x7, x30, x31, x32 => if x32 < x31 then (if 0 ≤ x32 then (if x32 < (x30.length : Int) then (impl_NumberAt.l0 k (Go.bits .or .i64 (wrap64 (x7 * 256)) (wrap64 (rd x30 x32))) x30 x31 (wrap64 (x32 + 1))) else (none)) else (none)) else (some x7)
end
def impl_NumberAt.f (k : Nat) (l0 : List Int) (a1 : Int) (a2 : Int) : Option (Int) := (impl_in.f a2 1 4).bind fun t298 => (if t298 = true then (if a1 < 0 then (impl_NumberAt.j0 k l0 a1 a2 true) else (impl_NumberAt.j0 k l0 a1 a2 (decide (a1 > (wrap64 ((l0.length : Int) - a2)))))) else (impl_NumberAt.j0 k l0 a1 a2 true))
theorem impl_NumberAt.mono_l : ∀ k, (∀ y0 y1 y2 y3, LeO (impl_NumberAt.j0 k y0 y1 y2 y3) (impl_NumberAt.j0 (k + 1) y0 y1 y2 y3)) ∧ (∀ y0 y1 y2 y3, LeO (impl_NumberAt.l0 k y0 y1 y2 y3) (impl_NumberAt.l0 (k + 1) y0 y1 y2 y3))
 | 0 => ⟨fun _ _ _ _ r h => by simp [impl_NumberAt.j0] at h, fun _ _ _ _ r h => by simp [impl_NumberAt.l0] at h⟩
 | k + 1 => by
  obtain ⟨ih0, ih1⟩ := impl_NumberAt.mono_l k
  refine ⟨?_, ?_⟩
  ·intro y0 y1 y2 y3
   unfold impl_NumberAt.j0
   repeat' first | (with_reducible first | apply ih0 | apply ih1 | exact LeO.refl _ | exact LeO.none _ | refine LeO.ite ?_ ?_ | refine LeO.bind ?_ fun _ => ?_) | apply ih0 | apply ih1 | exact LeO.none _ | refine LeO.ite ?_ ?_ | refine LeO.bind ?_ fun _ => ?_
  ·intro y0 y1 y2 y3
   unfold impl_NumberAt.l0
   repeat' first | (with_reducible first | apply ih0 | apply ih1 | exact LeO.refl _ | exact LeO.none _ | refine LeO.ite ?_ ?_ | refine LeO.bind ?_ fun _ => ?_) | apply ih0 | apply ih1 | exact LeO.none _ | refine LeO.ite ?_ ?_ | refine LeO.bind ?_ fun _ => ?_
theorem impl_NumberAt.mono : ∀ a0 a1 a2 k, LeO (impl_NumberAt.f k a0 a1 a2) (impl_NumberAt.f (k + 1) a0 a1 a2) := by
 intro a0 a1 a2 k
 obtain ⟨ih0, ih1⟩ := impl_NumberAt.mono_l k
 unfold impl_NumberAt.f
 repeat' first | (with_reducible first | apply ih0 | apply ih1 | exact LeO.refl _ | exact LeO.none _ | refine LeO.ite ?_ ?_ | refine LeO.bind ?_ fun _ => ?_) | apply ih0 | apply ih1 | exact LeO.none _ | refine LeO.ite ?_ ?_ | refine LeO.bind ?_ fun _ => ?_
set_option maxHeartbeats 8000000 in
set_option maxRecDepth 100000 in
theorem impl_NumberAt.calls (k : Nat) (A0 : Option Addr) (c0 : Nat) (l0 : List Int) (a1 : Int) (a2 : Int) (r : Int) (w : World) (hr0 : Kd.C (Kd.int .u8) w A0 l0.length l0) (hc0 : l0.length ≤ c0) (h : impl_NumberAt.f k l0 a1 a2 = some r) :
  Calls Try.prog 61 #[.slice A0 l0.length c0, .int .i64 a1, .int .i64 a2] w fun e w' => e = .returned (.int .i64 r) ∧ Drawn0 w w' := by
 have HR0 := Aside0.mk hr0; have HC0 := Aside0.mk hc0; clear hr0 hc0
 have H : ((impl_in.f a2 1 4).bind fun t298 => (if t298 = true then (if a1 < 0 then (impl_NumberAt.j0 k l0 a1 a2 true) else (impl_NumberAt.j0 k l0 a1 a2 (decide (a1 > (wrap64 ((l0.length : Int) - a2)))))) else (impl_NumberAt.j0 k l0 a1 a2 true))) = some r := h
 clear h; have HC4 := Aside0.mk H; clear H
 go_enter Try.func61, Try.ntmps61
 go_upto_region 1 with (fail)
 go_cut [24] (fun v24 wc => ∃ (kq : Nat) (x24_3 : Bool), v24 = .bool x24_3 ∧ Aside0 (impl_NumberAt.j0 kq l0 a1 a2 x24_3 = some r) ∧ Aside0 (kq ≤ k) ∧ Drawn0 w wc)
 case first =>
  have H := HC4.out; clear HC4
  replace H := Option.bind_eq_some_iff.mp H
  obtain ⟨t298, A50, H⟩ := H
  (try dsimp only at H)
  have A5 := Aside0.mk A50; clear A50
  by_cases c6 : t298 = true
  ·subst c6
   rw [if_pos rfl] at H
   by_cases c7 : a1 < 0
   ·rw [if_pos c7] at H
    have c7b0 : decide (a1 < 0) = true := decide_eq_true c7
    clear c7
    (first | rw [c7b0] | (simp only [i64_w, i32_w]; rw [c7b0]) | skip)
    have H' := Aside0.mk H
    clear H
    go_wp2_with (first | ((with_reducible refine gate_callee (f := 49) rfl ?_); refine goesL_ (some 11) rfl rfl Try.func49 (by kernel_rfl) rfl #[.int .i64 a2, .int .i64 1, .int .i64 4] rfl ar_ ?_; (with_reducible refine (impl_in.calls a2 1 4 true _ A5.out).mono ?_); rintro e w' ⟨rfl, ⟨nd, rfl⟩⟩; refine ⟨_, rfl, ?_⟩))
    go_meet
    case rel => exact ⟨_, (true), (by first | rfl | (simp; done) | (simp [*]; done)), H', ⟨by first | omega | exact Nat.le_refl _⟩, by repeat (first | exact Drawn0.refl _ | apply Drawn0.step)⟩
   ·rw [if_neg c7] at H
    have c7b0 : decide (a1 < 0) = false := decide_eq_false c7
    clear c7
    (first | rw [c7b0] | (simp only [i64_w, i32_w]; rw [c7b0]) | skip)
    have H' := Aside0.mk H
    clear H
    go_wp2_with (first | ((with_reducible refine gate_callee (f := 49) rfl ?_); refine goesL_ (some 11) rfl rfl Try.func49 (by kernel_rfl) rfl #[.int .i64 a2, .int .i64 1, .int .i64 4] rfl ar_ ?_; (with_reducible refine (impl_in.calls a2 1 4 true _ A5.out).mono ?_); rintro e w' ⟨rfl, ⟨nd, rfl⟩⟩; refine ⟨_, rfl, ?_⟩))
    go_meet
    case rel => exact ⟨_, (decide (a1 > (wrap64 ((l0.length : Int) - a2)))), (by first | rfl | (simp; done) | (simp [*]; done)), H', ⟨by first | omega | exact Nat.le_refl _⟩, by repeat (first | exact Drawn0.refl _ | apply Drawn0.step)⟩
  ·replace c6 := Bool.eq_false_iff.mpr c6
   subst c6
   rw [if_neg (show ¬ (false = true) by decide)] at H
   have H' := Aside0.mk H
   clear H
   go_wp2_with (first | ((with_reducible refine gate_callee (f := 49) rfl ?_); refine goesL_ (some 11) rfl rfl Try.func49 (by kernel_rfl) rfl #[.int .i64 a2, .int .i64 1, .int .i64 4] rfl ar_ ?_; (with_reducible refine (impl_in.calls a2 1 4 false _ A5.out).mono ?_); rintro e w' ⟨rfl, ⟨nd, rfl⟩⟩; refine ⟨_, rfl, ?_⟩))
   go_meet
   case rel => exact ⟨_, (true), (by first | rfl | (simp; done) | (simp [*]; done)), H', ⟨by first | omega | exact Nat.le_refl _⟩, by repeat (first | exact Drawn0.refl _ | apply Drawn0.step)⟩
 case rest =>
  clear HC4; (try clear p2); (try clear c4); (try clear c6); (try clear p6); (try clear c7); (try clear c7b0)
  obtain ⟨kq, x24_3, rfl, HA, HJ3, ⟨mc3, rfl⟩⟩ := hcut
  cases kq with
  | zero => exact absurd HA.out (by simp [impl_NumberAt.j0])
  | succ kj3 =>
   have H := HA.out; clear HA
   simp only [impl_NumberAt.j0] at H
   by_cases c8 : x24_3 = true
   ·subst c8
    rw [if_pos rfl] at H
    obtain rfl := Option.some.inj H
    go_wp2
    go_ret
    exact ⟨by first | rfl | (simp; done) | (simp [*]; done), by repeat (first | exact Drawn0.refl _ | apply Drawn0.step)⟩
   ·replace c8 := Bool.eq_false_iff.mpr c8
    subst c8
    rw [if_neg (show ¬ (false = true) by decide)] at H
    by_cases c9 : 0 ≤ a1
    ·rw [if_pos c9] at H
     have c9b0 := eq_true c9
     have c9b1 : decide (0 ≤ a1) = true := decide_eq_true c9
     clear c9
     by_cases c10 : a1 ≤ (wrap64 (a1 + a2))
     ·rw [if_pos c10] at H
      have c10b0 := eq_true c10
      have c10b1 : decide (a1 ≤ (wrap64 (a1 + a2))) = true := decide_eq_true c10
      by_cases c11 : (wrap64 (a1 + a2)) ≤ (l0.length : Int)
      ·rw [if_pos c11] at H
       have c11b0 := eq_true c11
       have c11b1 : decide ((wrap64 (a1 + a2)) ≤ (l0.length : Int)) = true := decide_eq_true c11
       have H' := Aside0.mk H
       clear H
       obtain ⟨i012, hi012, _, hsz12, _⟩ := info_parts info5
       obtain ⟨A12, hcut12, hA12, hC12⟩ := print_mid_of (P := Try.prog) (Value.int .u8) 0 22 5 .i64 .i64 Try.underlying22 hi012 hsz12 A0 c0 l0 a1 (wrap64 (a1 + a2)) (of_decide_eq_true (by first | (with_reducible assumption) | assumption)) (by first | omega | exact of_decide_eq_true (by first | (with_reducible assumption) | assumption)) (of_decide_eq_true (by first | (with_reducible assumption) | assumption)) HC0.out
       have HR299 := Aside0.mk (Kd.C_of_reads (h1 := fun _ => rfl) (hA12 _ (Kd.reads_of_C HR0.out)))
       have HC299 := Aside0.mk hC12; clear hA12 hC12 hi012 hsz12
       obtain ⟨Y12, hY12⟩ : ∃ Y_, ((l0.take ((wrap64 (a1 + a2)) : Int).toNat).drop (a1 : Int).toNat) = Y_ := ⟨_, rfl⟩; rw [hY12] at H' HR299 HC299 hcut12; have HY12 := Aside0.mk hY12; clear hY12
       go_wp2
       go_loopg [7, 32] kj3 (fun kq v7 v32 w' => ∃ (x7_2 : Int) (x32_2 : Int), v7 = .int .i64 x7_2 ∧ v32 = .int .i64 x32_2 ∧ Aside0 (impl_NumberAt.l0 kq x7_2 Y12 (Y12.length : Int) x32_2 = some r) ∧ Aside0 (kq ≤ kj3) ∧ Drawn0 w w')
       case atStart => exact ⟨(0), (0), (by first | rfl | (simp; done) | (simp [*]; done)), (by first | rfl | (simp; done) | (simp [*]; done)), H', ⟨Nat.le_refl _⟩, by repeat (first | exact Drawn0.refl _ | apply Drawn0.step)⟩
       case round =>
        clear H'; (try clear c1); (try clear p2); (try clear c3); (try clear c4); (try clear c6); (try clear p6); (try clear c7); (try clear c7b0); (try clear c8); (try clear c9); (try clear c9b0); (try clear c9b1); (try clear c10); (try clear c10b0); (try clear c10b1); (try clear c11); (try clear c11b0); (try clear c11b1); (try clear p2); (try clear p6)
        obtain ⟨x7_2, x32_2, rfl, rfl, HA, HK2, ⟨m2, rfl⟩⟩ := hrel
        cases gk with
        | zero => exact absurd HA.out (by simp [impl_NumberAt.l0])
        | succ k2 =>
         have H := HA.out; clear HA
         simp only [impl_NumberAt.l0] at H
         by_cases c13 : x32_2 < (Y12.length : Int)
         ·rw [if_pos c13] at H
          have c13b0 : decide (x32_2 < (Y12.length : Int)) = true := decide_eq_true c13
          clear c13
          by_cases c14 : 0 ≤ x32_2
          ·rw [if_pos c14] at H
           have c14b0 : decide (0 ≤ x32_2) = true := decide_eq_true c14
           clear c14
           by_cases c15 : x32_2 < (Y12.length : Int)
           ·rw [if_pos c15] at H
            have c15b0 : decide (x32_2 < (Y12.length : Int)) = true := decide_eq_true c15
            clear c15
            have H' := Aside0.mk H
            clear H
            have p300 : 0 ≤ (x32_2 : Int) := of_decide_eq_true (by first | (with_reducible assumption) | assumption)
            have q300 : x32_2 < (Y12.length : Int) := of_decide_eq_true (by first | (with_reducible assumption) | assumption)
            obtain ⟨ad300, e300, hx300_0⟩ := Kd.at_int HR299.out x32_2 p300 q300
            cases e300
            replace p300 := eq_true p300
            replace q300 := eq_true q300
            go_wp2
            go_roundg k2
            case measure => have := HJ3.out; have := HK2.out; omega
            case rel => exact ⟨(Go.bits .or .i64 (wrap64 (x7_2 * 256)) (wrap64 (rd Y12 x32_2))), (wrap64 (x32_2 + 1)), (by first | rfl | (simp; done) | (simp [*]; done)), (by first | rfl | (simp; done) | (simp [*]; done)), H', ⟨by have := HJ3.out; have := HK2.out; omega⟩, by repeat (first | exact Drawn0.refl _ | apply Drawn0.step)⟩
           ·rw [if_neg c15] at H
            exact absurd H (by simp)
          ·rw [if_neg c14] at H
           exact absurd H (by simp)
         ·rw [if_neg c13] at H
          have c13b0 : decide (x32_2 < (Y12.length : Int)) = false := decide_eq_false c13
          clear c13
          obtain rfl := Option.some.inj H
          go_wp2
          go_ret
          exact ⟨by first | rfl | (simp; done) | (simp [*]; done), by repeat (first | exact Drawn0.refl _ | apply Drawn0.step)⟩
      ·rw [if_neg c11] at H
       exact absurd H (by simp)
     ·rw [if_neg c10] at H
      exact absurd H (by simp)
    ·rw [if_neg c9] at H
     exact absurd H (by simp)
def slices_Equal_byte_byte.l0 : Nat → List Int → List Int → Int → Int → Option (Bool)
 | 0, _, _, _, _ => none
 | k + 1, x0, x1, x12, x13 => if x13 < x12 then (if 0 ≤ x13 then (if x13 < (x0.length : Int) then (if x13 < (x1.length : Int) then (if (rd x0 x13) = (rd x1 x13) then (slices_Equal_byte_byte.l0 k x0 x1 x12 (wrap64 (x13 + 1))) else (some false)) else (none)) else (none)) else (none)) else (some true)
def slices_Equal_byte_byte.f (k : Nat) (l0 : List Int) (l1 : List Int) : Option (Bool) := if (l0.length : Int) = (l1.length : Int) then (slices_Equal_byte_byte.l0 k l0 l1 (l0.length : Int) 0) else (some false)
theorem slices_Equal_byte_byte.mono_l : ∀ k, (∀ y0 y1 y2 y3, LeO (slices_Equal_byte_byte.l0 k y0 y1 y2 y3) (slices_Equal_byte_byte.l0 (k + 1) y0 y1 y2 y3))
 | 0 => fun _ _ _ _ r h => by simp [slices_Equal_byte_byte.l0] at h
 | k + 1 => by
  have ih0 := slices_Equal_byte_byte.mono_l k
  ·intro y0 y1 y2 y3
   unfold slices_Equal_byte_byte.l0
   repeat' first | (with_reducible first | apply ih0 | exact LeO.refl _ | exact LeO.none _ | refine LeO.ite ?_ ?_ | refine LeO.bind ?_ fun _ => ?_) | apply ih0 | exact LeO.none _ | refine LeO.ite ?_ ?_ | refine LeO.bind ?_ fun _ => ?_
theorem slices_Equal_byte_byte.mono : ∀ a0 a1 k, LeO (slices_Equal_byte_byte.f k a0 a1) (slices_Equal_byte_byte.f (k + 1) a0 a1) := by
 intro a0 a1 k
 have ih0 := slices_Equal_byte_byte.mono_l k
 unfold slices_Equal_byte_byte.f
 repeat' first | (with_reducible first | apply ih0 | exact LeO.refl _ | exact LeO.none _ | refine LeO.ite ?_ ?_ | refine LeO.bind ?_ fun _ => ?_) | apply ih0 | exact LeO.none _ | refine LeO.ite ?_ ?_ | refine LeO.bind ?_ fun _ => ?_
set_option maxHeartbeats 8000000 in
set_option maxRecDepth 100000 in
theorem slices_Equal_byte_byte.calls (k : Nat) (A0 : Option Addr) (c0 : Nat) (l0 : List Int) (A1 : Option Addr) (c1 : Nat) (l1 : List Int) (r : Bool) (w : World) (hr0 : Kd.C (Kd.int .u8) w A0 l0.length l0) (hc0 : l0.length ≤ c0) (hr1 : Kd.C (Kd.int .u8) w A1 l1.length l1) (hc1 : l1.length ≤ c1) (h : slices_Equal_byte_byte.f k l0 l1 = some r) :
  Calls Try.prog 62 #[.slice A0 l0.length c0, .slice A1 l1.length c1] w fun e w' => e = .returned (.bool r) ∧ Drawn0 w w' := by
 have HR0 := Aside0.mk hr0; have HC0 := Aside0.mk hc0; clear hr0 hc0; have HR1 := Aside0.mk hr1; have HC1 := Aside0.mk hc1; clear hr1 hc1
 have H : (if (l0.length : Int) = (l1.length : Int) then (slices_Equal_byte_byte.l0 k l0 l1 (l0.length : Int) 0) else (some false)) = some r := h
 clear h
 by_cases c3 : (l0.length : Int) = (l1.length : Int)
 ·rw [if_pos c3] at H
  have c3b0 : ((l0.length : Int) == (l1.length : Int)) = true := beq_iff_eq.mpr c3
  have c3b1 : ((l0.length : Int) != (l1.length : Int)) = false := bne_eq_false_iff_eq.mpr c3
  have c3b2 : (l0.length == l1.length) = true := by first | simpa using c3 | (simp at c3 ⊢; omega)
  clear c3
  have H' := Aside0.mk H
  clear H
  go_enter Try.func62, Try.ntmps62
  go_wp2
  repeat (go_quiet (fail); try go_wp2)
  go_loopg [13] k (fun kq v13 w' => ∃ (x13_1 : Int), v13 = .int .i64 x13_1 ∧ Aside0 (slices_Equal_byte_byte.l0 kq l0 l1 (l0.length : Int) x13_1 = some r) ∧ Aside0 (kq ≤ k) ∧ Drawn0 w w')
  case atStart => exact ⟨(0), (by first | rfl | (simp; done) | (simp [*]; done)), H', ⟨Nat.le_refl _⟩, by repeat (first | exact Drawn0.refl _ | apply Drawn0.step)⟩
  case round =>
   clear H'; (try clear c1); (try clear p2); (try clear c3); (try clear c3b0); (try clear c3b1); (try clear c3b2)
   obtain ⟨x13_1, rfl, HA, HK1, ⟨m1, rfl⟩⟩ := hrel
   cases gk with
   | zero => exact absurd HA.out (by simp [slices_Equal_byte_byte.l0])
   | succ k1 =>
    have H := HA.out; clear HA
    simp only [slices_Equal_byte_byte.l0] at H
    by_cases c4 : x13_1 < (l0.length : Int)
    ·rw [if_pos c4] at H
     have c4b0 : decide (x13_1 < (l0.length : Int)) = true := decide_eq_true c4
     clear c4
     by_cases c5 : 0 ≤ x13_1
     ·rw [if_pos c5] at H
      have c5b0 : decide (0 ≤ x13_1) = true := decide_eq_true c5
      clear c5
      by_cases c6 : x13_1 < (l0.length : Int)
      ·rw [if_pos c6] at H
       have c6b0 : decide (x13_1 < (l0.length : Int)) = true := decide_eq_true c6
       clear c6
       by_cases c7 : x13_1 < (l1.length : Int)
       ·rw [if_pos c7] at H
        have c7b0 : decide (x13_1 < (l1.length : Int)) = true := decide_eq_true c7
        clear c7
        by_cases c8 : (rd l0 x13_1) = (rd l1 x13_1)
        ·rw [if_pos c8] at H
         have c8b0 : ((rd l0 x13_1) == (rd l1 x13_1)) = true := beq_iff_eq.mpr c8
         have c8b1 : ((rd l0 x13_1) != (rd l1 x13_1)) = false := bne_eq_false_iff_eq.mpr c8
         clear c8
         have H' := Aside0.mk H
         clear H
         have p301 : 0 ≤ (x13_1 : Int) := of_decide_eq_true (by first | (with_reducible assumption) | assumption)
         have q301 : x13_1 < (l0.length : Int) := of_decide_eq_true (by first | (with_reducible assumption) | assumption)
         obtain ⟨ad301, e301, hx301_0⟩ := Kd.at_int HR0.out x13_1 p301 q301
         cases e301
         replace p301 := eq_true p301
         replace q301 := eq_true q301
         have p302 : 0 ≤ (x13_1 : Int) := of_decide_eq_true (by first | (with_reducible assumption) | assumption)
         have q302 : x13_1 < (l1.length : Int) := of_decide_eq_true (by first | (with_reducible assumption) | assumption)
         obtain ⟨ad302, e302, hx302_0⟩ := Kd.at_int HR1.out x13_1 p302 q302
         cases e302
         replace p302 := eq_true p302
         replace q302 := eq_true q302
         go_wp2
         repeat (go_quiet (fail); try go_wp2)
         go_roundg k1
         case measure => have := HK1.out; omega
         case rel => exact ⟨(wrap64 (x13_1 + 1)), (by first | rfl | (simp; done) | (simp [*]; done)), H', ⟨by have := HK1.out; omega⟩, by repeat (first | exact Drawn0.refl _ | apply Drawn0.step)⟩
        ·rw [if_neg c8] at H
         have c8b0 : ((rd l0 x13_1) == (rd l1 x13_1)) = false := beq_eq_false_iff_ne.mpr c8
         have c8b1 : ((rd l0 x13_1) != (rd l1 x13_1)) = true := bne_iff_ne.mpr c8
         obtain rfl := Option.some.inj H
         have p301 : 0 ≤ (x13_1 : Int) := of_decide_eq_true (by first | (with_reducible assumption) | assumption)
         have q301 : x13_1 < (l0.length : Int) := of_decide_eq_true (by first | (with_reducible assumption) | assumption)
         obtain ⟨ad301, e301, hx301_0⟩ := Kd.at_int HR0.out x13_1 p301 q301
         cases e301
         replace p301 := eq_true p301
         replace q301 := eq_true q301
         have p302 : 0 ≤ (x13_1 : Int) := of_decide_eq_true (by first | (with_reducible assumption) | assumption)
         have q302 : x13_1 < (l1.length : Int) := of_decide_eq_true (by first | (with_reducible assumption) | assumption)
         obtain ⟨ad302, e302, hx302_0⟩ := Kd.at_int HR1.out x13_1 p302 q302
         cases e302
         replace p302 := eq_true p302
         replace q302 := eq_true q302
         go_wp2
         repeat (go_quiet (fail); try go_wp2)
         go_ret
         exact ⟨by first | rfl | (simp; done) | (simp [*]; done), by repeat (first | exact Drawn0.refl _ | apply Drawn0.step)⟩
       ·rw [if_neg c7] at H
        exact absurd H (by simp)
      ·rw [if_neg c6] at H
       exact absurd H (by simp)
     ·rw [if_neg c5] at H
      exact absurd H (by simp)
    ·rw [if_neg c4] at H
     have c4b0 : decide (x13_1 < (l0.length : Int)) = false := decide_eq_false c4
     clear c4
     obtain rfl := Option.some.inj H
     go_wp2
     repeat (go_quiet (fail); try go_wp2)
     go_ret
     exact ⟨by first | rfl | (simp; done) | (simp [*]; done), by repeat (first | exact Drawn0.refl _ | apply Drawn0.step)⟩
 ·rw [if_neg c3] at H
  have c3b0 : ((l0.length : Int) == (l1.length : Int)) = false := beq_eq_false_iff_ne.mpr c3
  have c3b1 : ((l0.length : Int) != (l1.length : Int)) = true := bne_iff_ne.mpr c3
  have c3b2 : (l0.length == l1.length) = false := by first | simpa using c3 | (simp at c3 ⊢; omega)
  obtain rfl := Option.some.inj H
  go_enter Try.func62, Try.ntmps62
  go_wp2
  repeat (go_quiet (fail); try go_wp2)
  go_ret
  exact ⟨by first | rfl | (simp; done) | (simp [*]; done), by repeat (first | exact Drawn0.refl _ | apply Drawn0.step)⟩
theorem impl_Range_107.calls (A0 : Option Addr) (c0 n0 : Nat) (w : World) (hc : n0 ≤ c0) : Calls Try.prog 107 #[.slice A0 n0 c0] w fun e w' => e = .returned (.slice A0 n0 n0) ∧ w' = w := by
  go_enter Try.func107, Try.ntmps107
  go_wp2
  go_ret
  exact ⟨rfl, rfl⟩
def impl_Range_92.f (l0 : List (S90)) : Option ((List (S90))) := if l0.length * 16 ≤ 140737488355328 then some l0 else none
theorem impl_Range_92.calls (A0 : Option Addr) (c0 : Nat) (l0 : List (S90)) (r : List (S90)) (w : World) (hr0 : Kd.C k90 w A0 l0.length l0) (hc0 : l0.length ≤ c0) (h : impl_Range_92.f l0 = some r) :
    Calls Try.prog 92 #[.slice A0 l0.length c0] w fun e w' => ∃ v0_ : Value, e = .returned (v0_) ∧ Kd.R k90 90 w' w.heap.size (fun _ => True) v0_ r ∧ Below w.heap.size w w' := by
  obtain ⟨hle, rfl⟩ : l0.length * 16 ≤ 140737488355328 ∧ l0 = r := by
    unfold impl_Range_92.f at h; split at h
    · exact ⟨by assumption, Option.some.inj h⟩
    · cases h
  have hm := hr0.2.1
  have HR := Aside0.mk hr0; clear hr0 h
  by_cases h0 : l0.length = 0
  · have hb : ((l0.length : Int) == 0) = true := by simp [h0]
    have HL : Aside0 (l0 = []) := ⟨List.eq_nil_of_length_eq_zero h0⟩
    clear h0
    go_enter Try.func92, Try.ntmps92
    go_wp2
    go_ret
    refine ⟨_, rfl, ?_, Below.refl _ _⟩
    rw [HL.out]; exact Kd.R_nil _ _ _ _ _
  · have hb : ((l0.length : Int) == 0) = false := by simp; intro hh; exact h0 (by simp [hh])
    clear h0
    go_enter Try.func92, Try.ntmps92
    go_wp2_with (first
      | ((with_reducible refine gate_dst (N := 7) rfl ?_); refine Kd.R_append_rows k90 (Rr := k90.K w) w.heap.size rfl _ _ 50 90 (.agg #[(.int .i64 0), (.int .i64 0)]) 16 rfl Try.underlying50 info90 rfl (by decide) (by decide) (.slice none 0 0) [] l0 A0 l0.length c0 (fun _ => True) (fun _ => True) rfl rfl (Kd.R_nil _ _ _ _ _) HR.out (fun x cs h => by rw [k90_open h]; exact k90_mkM _ _ _ _) (fun k _ => ⟨trivial, by simp [Value.ownBlock]⟩) (fun _ _ => trivial) (Below.refl _ _) (Nat.le_refl _) (by simpa using hle) ?_; intro v1 w1 ho hb1 hg hat; rw [List.nil_append] at ho; obtain ⟨A1, c1, hv1, hc1, _⟩ := Kd.R_reads ho; have HO := Aside0.mk ho; clear ho hat hg; have HB := Aside0.mk hb1; clear hb1; subst hv1)
      | (go_at_call 107; (with_reducible refine (impl_Range_107.calls _ _ _ _ hc1).mono ?_); rintro e w' ⟨rfl, rfl⟩))
    go_ret
    exact ⟨_, rfl, Kd.R_clip HO.out (Nat.le_refl _) hc1, HB.out⟩
theorem slices_Clip_byte_byte.calls (A0 : Option Addr) (c0 n0 : Nat) (w : World) (hc : n0 ≤ c0) : Calls Try.prog 108 #[.slice A0 n0 c0] w fun e w' => e = .returned (.slice A0 n0 n0) ∧ w' = w := by
  go_enter Try.func108, Try.ntmps108
  go_wp2
  go_ret
  exact ⟨rfl, rfl⟩
def impl_clone_byte.f (l0 : List Int) : Option (List Int) := if l0.length * 1 ≤ 140737488355328 then some l0 else none
theorem impl_clone_byte.calls (A0 : Option Addr) (c0 : Nat) (l0 : List Int) (r : List Int) (w : World) (hr0 : Kd.C (Kd.int .u8) w A0 l0.length l0) (hc0 : l0.length ≤ c0) (h : impl_clone_byte.f l0 = some r) :
    Calls Try.prog 93 #[.slice A0 l0.length c0] w fun e w' => ∃ v0_ : Value, e = .returned (v0_) ∧ Kd.R (Kd.int .u8) 5 w' w.heap.size (fun _ => True) v0_ r ∧ Below w.heap.size w w' := by
  obtain ⟨hle, rfl⟩ : l0.length * 1 ≤ 140737488355328 ∧ l0 = r := by
    unfold impl_clone_byte.f at h; split at h
    · exact ⟨by assumption, Option.some.inj h⟩
    · cases h
  have hm := hr0.2.1
  have HR := Aside0.mk hr0; clear hr0 h
  by_cases h0 : l0.length = 0
  · have hb : ((l0.length : Int) == 0) = true := by simp [h0]
    have HL : Aside0 (l0 = []) := ⟨List.eq_nil_of_length_eq_zero h0⟩
    clear h0
    go_enter Try.func93, Try.ntmps93
    go_wp2
    go_ret
    refine ⟨_, rfl, ?_, Below.refl _ _⟩
    rw [HL.out]; exact Kd.R_nil _ _ _ _ _
  · have hb : ((l0.length : Int) == 0) = false := by simp; intro hh; exact h0 (by simp [hh])
    clear h0
    go_enter Try.func93, Try.ntmps93
    go_wp2_with (first
      | ((with_reducible refine gate_dst (N := 7) rfl ?_); refine Kd.R_append_rows (Kd.int .u8) (Rr := (Kd.int .u8).K w) w.heap.size rfl _ _ 22 5 (.int .u8 0) 1 rfl Try.underlying22 info5 rfl (by decide) (by decide) (.slice none 0 0) [] l0 A0 l0.length c0 (fun _ => True) (fun _ => True) rfl rfl (Kd.R_nil _ _ _ _ _) HR.out (fun x cs h => h) (fun k _ => ⟨trivial, by simp [Value.ownBlock]⟩) (fun _ _ => trivial) (Below.refl _ _) (Nat.le_refl _) (by simpa using hle) ?_; intro v1 w1 ho hb1 hg hat; rw [List.nil_append] at ho; obtain ⟨A1, c1, hv1, hc1, _⟩ := Kd.R_reads ho; have HO := Aside0.mk ho; clear ho hat hg; have HB := Aside0.mk hb1; clear hb1; subst hv1)
      | (go_at_call 108; (with_reducible refine (slices_Clip_byte_byte.calls _ _ _ _ hc1).mono ?_); rintro e w' ⟨rfl, rfl⟩))
    go_ret
    exact ⟨_, rfl, Kd.R_clip HO.out (Nat.le_refl _) hc1, HB.out⟩
end Go.Proofs.Ytpbeljcgcdilnaa.PFnSegmentFrom
