/- Printed by wip/xp/xprint.sh out of the translation, for this claim: what each function answers, as a plain function, and that the machine does just that. No condition. -/
import Derived.Test.YtbhofhdmbbipgaaPFnPacketCutx0
import Derived.Test.YtbhofhdmbbipgaaPFnPacketCutx2
namespace Go.Proofs.Ytbhofhdmbbipgaa.PFnPacketCut
open Go.RowKit Go.Proofs.YtbhofhdmbbipgaaW.PrintWords Go.Proofs.YtbhofhdmbbipgaaW.PrintLast Go.Proofs.YtbhofhdmbbipgaaW.PrintMore
attribute [local go_sem] max2_int min2_int max_two min_two max_three min_three max_four min_four   -- for this text's walks alone
set_option linter.unusedVariables false
set_option linter.unusedSimpArgs false
def impl_cut.piece (p : S24) (m k : Nat) : S24 := ⟨p.f0, p.f1, p.f2, p.f3, p.f4, p.f5 + ((k * m : Nat) : Int), true, p.f7, (p.f8.drop (k * m)).take m⟩
def impl_cut.many (p : S24) (m : Nat) : Nat := (p.f8.length + m - 1) / m
def impl_cut.out (p : S24) (m : Nat) : List (S24) × Bool :=
  if p.f8.length ≤ m then ([p], true)
  else if p.f7 = true ∨ p.f5 + (((impl_cut.many p m - 1) * m : Nat) : Int) > 255 then ([], false)
  else ((List.range (impl_cut.many p m - 1)).map (impl_cut.piece p m) ++ [{ impl_cut.piece p m (impl_cut.many p m - 1) with f6 := p.f6 }], true)
def impl_cut.f (a0_0 : Int) (a0_1 : Int) (a0_2 : Int) (a0_3 : Int) (a0_4 : Int) (a0_5 : Int) (a0_6 : Bool) (a0_7 : Bool) (l0_8 : List Int) (a1 : Int) : Option ((List (S24)) × Bool) := if l0_8.length ≤ 48 ∧ 1 ≤ a1 ∧ a1 ≤ 48 ∧ 0 ≤ a0_5 ∧ a0_5 ≤ 255 then some (impl_cut.out ⟨a0_0, a0_1, a0_2, a0_3, a0_4, a0_5, a0_6, a0_7, l0_8⟩ a1.toNat) else none
section
attribute [local go_sem] Oper.semAt_some
set_option maxHeartbeats 2000000 in
set_option maxRecDepth 100000 in
theorem chunkM_in (F : Fence) (n : Nat) (h5 : F.fn 92) (hro : F.round = none) (a : Option Addr) (len cap m : Nat) (hm : 1 ≤ m) (w : World) :
    CallsIn F n Try.prog 92 #[.slice a len cap, .int .i64 (m : Int)] w fun e w' => e = .returned (.func (.func 105) #[] #[.pointer (some ⟨w.heap.size, 0, none⟩), .pointer (some ⟨w.heap.size + 1, 0, none⟩)]) ∧ w' = (w.alloc (.cells #[.slice a len cap] 22)).alloc (.cells #[.int .i64 (m : Int)] 3) := by
  refine callsIn_of_wp Try.func92 rfl h5 ?_ hro
  simp only [Try.ntmps92, List.size_toArray, List.length_cons, List.length_nil, Nat.reduceAdd, Nat.reduceSub, Array.replicate_succ, Array.replicate_zero, List.push_toArray, List.append_toArray, List.nil_append, List.cons_append]
  have c1 : ¬ (m : Int) < 1 := by omega
  gi_wp2
  go_ret
  exact ⟨rfl, rfl⟩
def KpM (g1 g2 n₀ : Nat) (W W' : World) : Prop := ∀ k, k < n₀ → k ≠ g1 → k ≠ g2 → W'.heap[k]? = W.heap[k]?
theorem KpM.refl (g1 g2 n₀ : Nat) (W : World) : KpM g1 g2 n₀ W W := fun _ _ _ _ => rfl
theorem KpM.trans {g1 g2 n₀ : Nat} {A B C : World} (h : KpM g1 g2 n₀ A B) (k : KpM g1 g2 n₀ B C) : KpM g1 g2 n₀ A C := fun q h1 h2 h3 => (k q h1 h2 h3).trans (h q h1 h2 h3)
theorem KpM.drew {g1 g2 n₀ : Nat} {A B : World} (h : KpM g1 g2 n₀ A B) : KpM g1 g2 n₀ A B.drew := fun q h1 h2 h3 => h q h1 h2 h3
theorem KpM.cell {g1 g2 n₀ : Nat} {A B : World} (h : KpM g1 g2 n₀ A B) {b o : Nat} (h1 : b < n₀) (h2 : b ≠ g1) (h3 : b ≠ g2) : B.cell? ⟨b, o, none⟩ = A.cell? ⟨b, o, none⟩ := World.cell?_of_block (w := A) (h b h1 h2 h3)
theorem KpM.b {g1 g2 n₀ : Nat} {w : World} (hn : n₀ ≤ w.heap.size) (W : World) (l : Nat) (o o' : Obj) (hl : w.heap.size ≤ l) (h : W.heap[l]? = some o) (_ : o.isCells = false) (_ : o.isWalk = false) : KpM g1 g2 n₀ W (W.putObj l o') :=
  fun k hk _ _ => (belowK_b hn W l o o' hl h ‹_› ‹_›).block k hk
abbrev CkM (m n : Nat) := { x : Nat // m * x < n }
def uptoM (m n : Nat) : Nat → List (CkM m n)
  | 0 => []
  | k + 1 => if h : m * k < n then uptoM m n k ++ [⟨k, h⟩] else uptoM m n k
theorem uptoM_succ {m n k : Nat} (h : m * k < n) : uptoM m n (k + 1) = uptoM m n k ++ [⟨k, h⟩] := by rw [uptoM, dif_pos h]
theorem uptoM_length (m n k : Nat) : (uptoM m n k).length ≤ k := by
  induction k with
  | zero => exact Nat.le_refl _
  | succ k ih =>
    rw [uptoM]
    by_cases h : m * k < n
    · rw [dif_pos h, List.length_append, List.length_singleton]; omega
    · rw [dif_neg h]; omega
def lenM (m n x : Nat) : Nat := if n - m * x < m then n - m * x else m
def chunkM (ad : Addr) (m n x : Nat) : Value := .slice (some (ad.add (m * x))) (lenM m n x) (lenM m n x)
set_option maxHeartbeats 2000000 in
set_option maxRecDepth 100000 in
theorem chunk1M_in (F : Fence) (n : Nat) (h7 : F.fn 105) (hro : F.round = none) (hn : 1 ≤ n) (l Bs Bn g1 g2 n₀ : Nat) (hs1 : Bs ≠ g1) (hs2 : Bs ≠ g2) (hn1 : Bn ≠ g1) (hn2 : Bn ≠ g2) (ad : Addr) (len cap m : Nat) (hm : 1 ≤ m) (hm2 : m ≤ 1000000) (hlc : len ≤ cap) (hreach : len ≤ 1000000) (hb : Bs < n₀) (hb2 : Bn < n₀) (J Jx : List (CkM m len) → World → Prop)
    (W : World) (hJ : AbidesFrom W.heap.size J)
    (hY : ∀ pre x W, J pre W → pre.length < len → YieldAt F (n - 1) Try.prog l #[chunkM ad m len x.1] W fun e W' =>
      (e = .returned (.bool true) ∧ J (pre ++ [x]) W' ∧ KpM g1 g2 n₀ W W') ∨ (e = .returned (.bool false) ∧ Jx (pre ++ [x]) W'))
    (hBs : W.cell? ⟨Bs, 0, none⟩ = some (.slice (some ad) len cap)) (hBn : W.cell? ⟨Bn, 0, none⟩ = some (.int .i64 (m : Int))) (h0 : J [] W) :
    CallsIn F n Try.prog 105 #[.func (.yield l) #[] #[], .pointer (some ⟨Bs, 0, none⟩), .pointer (some ⟨Bn, 0, none⟩)] W fun e W' => (∃ v, e = .returned v) ∧
      ((∃ ys, (∃ k, ys = uptoM m len k ∧ len ≤ m * k ∧ (∀ j, j < k → m * j < len)) ∧ J ys W') ∨ (∃ pre, True ∧ Jx pre W')) := by
  refine callsIn_of_wp Try.func105 rfl h7 ?_ hro
  simp only [Try.ntmps105, List.size_toArray, List.length_cons, List.length_nil, Nat.reduceAdd, Nat.reduceSub, Array.replicate_succ, Array.replicate_zero, List.push_toArray, List.append_toArray, List.nil_append, List.cons_append]
  have t22 := Try.underlying22
  obtain ⟨i0, hi0, hz0, hz1, hz2⟩ := info_parts info5
  gi_wp2
  gi_loopw [4] (fun i wr => ∃ q k : Nat, q = m * k ∧ q ≤ len + m ∧ (∀ j, j < k → m * j < len) ∧ i = .int .i64 ((q : Nat) : Int) ∧ J (uptoM m len k) wr ∧ KpM g1 g2 n₀ W wr)
    (fun i _ => len + m - (intOf i).toNat)
  case atStart => exact ⟨0, 0, rfl, by omega, fun j h => absurd h (Nat.not_lt_zero _), rfl, h0, KpM.refl _ _ _ _⟩
  case round =>
    obtain ⟨q, k, hq, hk, hall, rfl, hJs, hnx⟩ := hrel
    have hBs' := (hnx.cell hb hs1 hs2).trans hBs
    have hBn' := (hnx.cell hb2 hn1 hn2).trans hBn
    by_cases hlt : m * k < len
    · have hle : (uptoM m len k).length < len := by have := uptoM_length m len k; have := Nat.le_mul_of_pos_left k hm; omega
      have hJd : J (uptoM m len k) wr.drew := hJ _ wr wr.drew none hJs ⟨rfl, rfl, rfl, Nat.le_refl _, fun _ _ _ => rfl⟩ (fun r e => by cases e)
      obtain ⟨fn, tmps, assign, body, hy, hR⟩ := hY _ ⟨k, hlt⟩ wr.drew hJd hle
      have c1' : q < len := by omega
      have c1 : (q : Int) < (len : Int) := by omega
      have c2 : (q : Int) ≤ (len : Int) := by omega
      have c2' : q ≤ len := by omega
      have c6 : ¬ cap = q := by omega
      have hall2 : ∀ j, j < k + 1 → m * j < len := fun j hj => by
        rcases Nat.lt_or_ge j k with h | h
        · exact hall j h
        · obtain rfl : j = k := by omega
          exact hlt
      have HR := Aside0.mk hR
      have HN := Aside0.mk hnx
      have HA := Aside0.mk hall2
      clear hall hall2
      have hsucc : m * (k + 1) = q + m := by rw [Nat.mul_succ, hq]
      have HS := Aside0.mk hsucc
      clear hsucc
      by_cases h2 : len - q < m
      · have hyv : chunkM ad m len k = .slice (some (ad.add q)) (len - q) (len - q) := by unfold chunkM lenM; rw [← hq, if_pos h2]
        have c3 : ((len - q : Nat) : Int) < (m : Int) := by omega
        have c4 : (q : Int) + ((len - q : Nat) : Int) ≤ (cap : Int) := by omega
        have c5 : ∀ x : Nat, x ≤ 1000000 → wrap64 ((x : Int) + (m : Int)) = (x : Int) + (m : Int) := fun x hx => by unfold wrap64; omega
        have c5' : ∀ x y : Nat, x ≤ 1000000 → y ≤ 1000000 → wrap64 ((x : Int) + ((y : Nat) : Int)) = (x : Int) + ((y : Nat) : Int) := fun x y hx hy => by unfold wrap64; omega
        have c7 : q ≤ 1000000 := by omega
        have c8 : len - q ≤ 1000000 := by omega
        have HM := Aside0.mk (show q + m ≤ len + m by omega)
        have HQ := Aside0.mk hq
        dsimp only at hy
        rw [hyv] at hy
        have H2 := Aside0.mk h2
        clear hq hyv hJs hJd hR hnx h2
        gi_wp2
        rename_i Ka hKa Kb hKb
        have hfin : Kb { tmps := #[.func (.yield l) #[] #[], .pointer (some ⟨Bs, 0, none⟩), .pointer (some ⟨Bn, 0, none⟩), undef, .int .i64 q, .int .i64 ((len - q : Nat) : Int), .int .i64 q, .slice (some ad) len cap, .int .i64 len, .bool true, u10, u11, u12, .int .i64 (m : Int), .slice (some ad) len cap, .int .i64 q, .slice (some (ad.add q)) (len - q) (cap - q), .int .i64 ((len - q : Nat) : Int), .int .i64 ((len - q : Nat) : Int), u19, u20, u21, u22, u23, u24, u25, u26, u27, u28, u29, u30], defers := [] } wr.drew := by
          refine hKb _ _ ?_
          gi_wp2
          refine HR.out.mono ?_
          rintro e W3 (⟨rfl, hJ3, hk3⟩ | ⟨rfl, hJx3⟩)
          · have hBn3 : W3.cell? ⟨Bn, 0, none⟩ = some (.int .i64 (m : Int)) := (hk3.cell hb2 hn1 hn2).trans hBn'
            have HJ3 := Aside0.mk hJ3
            have HK3 := Aside0.mk hk3
            clear hJ3 hk3 hy hBs' hBn' hBs hBn
            gi_wp2
            refine ⟨⟨q + m, k + 1, HS.out.symm, HM.out, HA.out, by simp, by rw [uptoM_succ hlt]; exact HJ3.out, (HN.out.drew).trans HK3.out⟩, ?_⟩
            clear c5 c5'
            have e1 : ((q : Int) + (m : Int)).toNat = q + m := by omega
            have e2 : ((q : Int)).toNat = q := by omega
            show len + m - ((q : Int) + (m : Int)).toNat < len + m - ((q : Int)).toNat
            rw [e1, e2]; omega
          · clear hy hBs' hBn' hBs hBn
            have HX := Aside0.mk hJx3
            clear hJx3
            gi_wp2
            refine bodyPost_ret (results_none rfl _ _ _) rfl ?_
            exact ⟨⟨_, rfl⟩, .inr ⟨_, trivial, HX.out⟩⟩
        gi_region
        all_goals (first | exact hfin | (simp only [if_pos c3]; exact hfin) | (simp only [if_neg (Int.not_lt.2 c3)]; exact hfin) | (simp only [if_neg H2.out]; exact hfin) | (simp only [if_pos H2.out]; exact hfin))
      · have hyv : chunkM ad m len k = .slice (some (ad.add q)) m m := by unfold chunkM lenM; rw [← hq, if_neg h2]
        have c3 : ¬ ((len - q : Nat) : Int) < (m : Int) := by omega
        have c4 : (q : Int) + (m : Int) ≤ (cap : Int) := by omega
        have c5 : ∀ x : Nat, x ≤ 1000000 → wrap64 ((x : Int) + (m : Int)) = (x : Int) + (m : Int) := fun x hx => by unfold wrap64; omega
        have c7 : q ≤ 1000000 := by omega
        have HM := Aside0.mk (show q + m ≤ len + m by omega)
        have HQ := Aside0.mk hq
        dsimp only at hy
        rw [hyv] at hy
        have H2 := Aside0.mk h2
        clear hq hyv hJs hJd hR hnx h2
        gi_wp2
        rename_i Ka hKa Kb hKb
        have hfin : Kb { tmps := #[.func (.yield l) #[] #[], .pointer (some ⟨Bs, 0, none⟩), .pointer (some ⟨Bn, 0, none⟩), undef, .int .i64 q, .int .i64 ((m : Nat) : Int), .int .i64 q, .slice (some ad) len cap, .int .i64 len, .bool true, u10, u11, u12, .int .i64 (m : Int), .slice (some ad) len cap, .int .i64 q, .slice (some (ad.add q)) (len - q) (cap - q), .int .i64 ((len - q : Nat) : Int), .int .i64 ((m : Nat) : Int), u19, u20, u21, u22, u23, u24, u25, u26, u27, u28, u29, u30], defers := [] } wr.drew := by
          refine hKb _ _ ?_
          gi_wp2
          refine HR.out.mono ?_
          rintro e W3 (⟨rfl, hJ3, hk3⟩ | ⟨rfl, hJx3⟩)
          · have hBn3 : W3.cell? ⟨Bn, 0, none⟩ = some (.int .i64 (m : Int)) := (hk3.cell hb2 hn1 hn2).trans hBn'
            have HJ3 := Aside0.mk hJ3
            have HK3 := Aside0.mk hk3
            clear hJ3 hk3 hy hBs' hBn' hBs hBn
            gi_wp2
            refine ⟨⟨q + m, k + 1, HS.out.symm, HM.out, HA.out, by simp, by rw [uptoM_succ hlt]; exact HJ3.out, (HN.out.drew).trans HK3.out⟩, ?_⟩
            clear c5
            have e1 : ((q : Int) + (m : Int)).toNat = q + m := by omega
            have e2 : ((q : Int)).toNat = q := by omega
            show len + m - ((q : Int) + (m : Int)).toNat < len + m - ((q : Int)).toNat
            rw [e1, e2]; omega
          · clear hy hBs' hBn' hBs hBn
            have HX := Aside0.mk hJx3
            clear hJx3
            gi_wp2
            refine bodyPost_ret (results_none rfl _ _ _) rfl ?_
            exact ⟨⟨_, rfl⟩, .inr ⟨_, trivial, HX.out⟩⟩
        gi_region
        all_goals (first | exact hfin | (simp only [if_pos c3]; exact hfin) | (simp only [if_neg (Int.not_lt.2 c3)]; exact hfin) | (simp only [if_neg H2.out]; exact hfin) | (simp only [if_pos H2.out]; exact hfin))
    · have HJs := Aside0.mk hJs
      have HE := Aside0.mk (show len ≤ m * k by omega)
      have HA := Aside0.mk hall
      have c1 : ¬ (q : Int) < (len : Int) := by omega
      clear hJs hq hlt hall
      gi_wp2
      go_end0
      exact ⟨⟨_, rfl⟩, .inl ⟨_, ⟨k, rfl, HE.out, HA.out⟩, HJs.out⟩⟩
set_option maxHeartbeats 2000000 in
set_option maxRecDepth 100000 in
theorem chunkM_stops (F : Fence) (n : Nat) (h7 : F.fn 105) (hro : F.round = none) (hn : 1 ≤ n) (Bs Bn g1 g2 n₀ : Nat) (hs1 : Bs ≠ g1) (hs2 : Bs ≠ g2) (hn1 : Bn ≠ g1) (hn2 : Bn ≠ g2) (ad : Addr) (len cap m : Nat) (hm : 1 ≤ m) (hm2 : m ≤ 1000000) (hlc : len ≤ cap) (hreach : len ≤ 1000000) (w : World) (hb : Bs < w.heap.size) (hb2 : Bn < w.heap.size) (hn₀ : n₀ = w.heap.size)
    (hBs : w.cell? ⟨Bs, 0, none⟩ = some (.slice (some ad) len cap)) (hBn : w.cell? ⟨Bn, 0, none⟩ = some (.int .i64 (m : Int))) :
    SeqStopsK F n Try.prog 105 #[.pointer (some ⟨Bs, 0, none⟩), .pointer (some ⟨Bn, 0, none⟩)] (fun x : CkM m len => #[chunkM ad m len x.1]) (KpM g1 g2 n₀) (fun ys => ∃ k, ys = uptoM m len k ∧ len ≤ m * k ∧ (∀ j, j < k → m * j < len)) (fun _ => True) len w := fun l J Jx W hW hJ _ hY h0 => by
  subst hn₀
  have hBs' := (hW.cell (p := ⟨Bs, 0, none⟩) hb).trans hBs
  have hBn' := (hW.cell (p := ⟨Bn, 0, none⟩) hb2).trans hBn
  exact chunk1M_in F n h7 hro hn l Bs Bn g1 g2 w.heap.size hs1 hs2 hn1 hn2 ad len cap m hm hm2 hlc hreach hb hb2 J Jx W hJ hY hBs' hBn' h0
def noDefer (o : Oper) : Bool := match o.op with | .defer _ => false | _ => true
theorem noDefer_op {o : Oper} (h : noDefer o = true) : ∀ c, o.op ≠ .defer c := by
  intro c hc
  rw [noDefer, hc] at h
  cases h
theorem wpR_oper {l n : Nat} {P : Program} {o : Oper} {a : Act} {w : World} {next next' : Act → World → Prop} {Q : Exit → Act → World → Prop} (hd : noDefer o = true) (hn : ∀ a w, next a w → next' a w) (h : o.wp P a w next Q) : o.wpIn (Fence.wide.inRound l) n P a w next' Q := by
  refine ⟨fun _ _ => trivial, ?_⟩
  rw [Oper.semAt_plain _ _ _ (noDefer_op hd)]
  unfold Oper.wp at h
  generalize (execOp a.eval o).run P w = r at *
  cases r with
  | ok x w' =>
    cases x with
    | enter f args =>
      simp only [Oper.upon, Oper.uponIn] at h ⊢
      exact ⟨fun e => absurd e (by simp [Fence.wide]), CallsIn.inRound l (callsIn_wide.2 (Calls.mono h (fun e w'' he => by cases e <;> first | exact hn _ _ he | exact he)))⟩
    | row row args =>
      simp only [Oper.upon, Oper.uponIn] at h ⊢
      refine ⟨fun e => absurd e (by simp [Fence.wide]), fun c cs _ => ?_⟩
      obtain ⟨v, w', r, s⟩ := h c cs
      exact ⟨v, w', hn _ _ r, stepsIn_wide.2 s⟩
    | _ => (simp only [Oper.upon, Oper.uponIn] at h ⊢; try exact hn _ _ h)
  | halt x w' => cases x <;> simp only [Oper.upon, Oper.uponIn] at h ⊢ <;> exact h
theorem wpR_list {l n : Nat} {P : Program} {ops : Array Oper} {Q : Exit → Act → World → Prop} (hQ : ¬ LetsOut Q) : ∀ (rest : List Oper) (_ : rest.all noDefer = true) (a : Act) (w : World), wpList P ops Q rest a w → wpListIn (Fence.wide.inRound l) n P ops Q rest a w
  | [], _, _, _, h => h
  | o :: rest, hd, a, w, h => by
    rw [List.all_cons, Bool.and_eq_true] at hd
    unfold wpList at h
    unfold wpListIn
    split
    · rename_i hw
      rw [if_pos hw] at h
      rcases h with h | h
      · exact wpR_oper hd.1 (fun a w => wpR_list hQ rest hd.2 a w) h
      · exact absurd h.2 hQ
    · rename_i hw
      rw [if_neg hw] at h
      exact ⟨fun _ _ => trivial, wpR_list hQ rest hd.2 _ _ h⟩
theorem wpR_region {l n id : Nat} {P : Program} {ops : Array Oper} {Q : Exit → Act → World → Prop} {a : Act} {w : World} (hQ : ¬ LetsOut Q) (os : List Oper) (ho : ops = os.toArray) (hd : os.all noDefer = true) (h : wpList P ops Q os a w) : (Code.region id ops false).wpIn (Fence.wide.inRound l) n P Q a w := by
  refine wpIn_region ?_
  have e : List.range ops.size = List.range' 0 os.length := by rw [ho, List.size_toArray, List.range_eq_range']
  rw [e, wpOpsIn_eq_wpListIn os 0 (fun j => by rw [ho]; simp)]
  exact wpR_list hQ os hd a w h
theorem wpR_any {l n : Nat} {P : Program} {md : Region.Mode} {ops : Array Oper} {Q : Exit → Act → World → Prop} (hQ : ¬ LetsOut Q) (hd : ops.toList.all noDefer = true) : ∀ (fuel : Nat) (listed : Array Bool) (a : Act) (w : World), wpAny P md ops Q fuel listed a w → wpAnyIn (Fence.wide.inRound l) n P md ops Q fuel listed a w
  | 0, _, _, _, h => h
  | fuel + 1, listed, a, w, h => by
    refine ⟨h.1, fun i hi => ?_⟩
    have h2 := h.2 i hi
    unfold wpOp at h2
    unfold wpOpIn
    cases ho : ops[i]? with
    | none => rw [ho] at h2; exact wpR_any hQ hd fuel _ _ _ h2
    | some o =>
      rw [ho] at h2
      dsimp only at h2 ⊢
      have hdo : noDefer o = true := List.all_eq_true.1 hd o (by
        obtain ⟨hi1, hi2⟩ := Array.getElem?_eq_some_iff.1 ho
        rw [← hi2]; exact Array.mem_toList_iff.2 (Array.getElem_mem hi1))
      split
      · rename_i hw
        rw [if_pos hw] at h2
        rcases h2 with h2 | h2
        · exact wpR_oper hdo (fun a w => wpR_any hQ hd fuel _ a w) h2
        · exact absurd h2.2 hQ
      · rename_i hw
        rw [if_neg hw] at h2
        exact ⟨fun _ _ => trivial, wpR_any hQ hd fuel _ _ _ h2⟩
theorem wpR_region_any {l n id : Nat} {P : Program} {ops : Array Oper} {Q : Exit → Act → World → Prop} {a : Act} {w : World} (hm : P.follows .mixedOrders = true) (hQ : ¬ LetsOut Q) (hd : ops.toList.all noDefer = true) (h : wpAny P .any ops Q ops.size (Array.replicate ops.size false) a w.drew) : (Code.region id ops true).wpIn (Fence.wide.inRound l) n P Q a w :=
  wpIn_region_any hm (wpR_any hQ hd _ _ _ _ h)
theorem lit_S1 {W : World} {base : Nat} {okp : Nat → Prop} {p : S24} {cs : List Value} (hp : k24.M W base okp p cs) (hokp : ∀ k, okp k → k < W.heap.size) (hb : base ≤ W.heap.size) :
    Kd.S k24 24 (W.alloc (.cells cs.toArray 24)) base (fun _ => True) (.slice (some ⟨W.heap.size, 0, none⟩) 1 1) [p] := by
  refine ⟨fun _ => 0, ?_⟩
  have hr : Reps ((Kd.tag (fun _ => 0) k24).M W base (fun k => (fun _ => True) k ∧ some k ≠ (Value.slice none 0 0).ownBlock)) (Kd.tag (fun _ => 0) k24).sz [] [] := Reps.none _ _
  exact Kd.R_appended (d := Kd.tag (fun _ => 0) k24) (v := .slice none 0 0) (xs := []) (p := (p, 0)) (okp := okp) (by simp [Value.ownBlock]) hr (k24.M_mono (fun k hk => ⟨hk, rfl⟩) hp) (fun k hk => ⟨trivial, by simp [Value.ownBlock]⟩) (fun _ _ => trivial)
    (by
      have := World.holdsRow_lit (base := base) (e := 24) (size := 9) W cs.toArray 1 hb (by decide) (by rw [List.size_toArray, k24.K_len (k24.K_of_M hp)]; rfl)
      exact this) (World.grownBy_alloc W _ _) (.inr ⟨_, rfl, Nat.le_refl _⟩)
set_option maxHeartbeats 4000000 in
set_option maxRecDepth 100000 in
theorem cut_short (a0_0 : Int) (a0_1 : Int) (a0_2 : Int) (a0_3 : Int) (a0_4 : Int) (a0_5 : Int) (a0_6 : Bool) (a0_7 : Bool) (A0_8 : Option Addr) (c0_8 : Nat) (l0_8 : List Int) (m : Nat) (w : World) (hr0_8 : Kd.C (Kd.int .u8) w A0_8 l0_8.length l0_8) (hc0_8 : l0_8.length ≤ c0_8) (hl : l0_8.length ≤ 48) (c : l0_8.length ≤ m) :
    Calls Try.prog 57 #[.agg #[.int .i64 a0_0, .int .i64 a0_1, .int .i64 a0_2, .int .i64 a0_3, .int .i64 a0_4, .int .i64 a0_5, .bool a0_6, .bool a0_7, .slice A0_8 l0_8.length c0_8], .int .i64 (m : Int)] w fun e w' => ∃ v0_ : Value, e = .returned (.tuple #[v0_, .bool true]) ∧ Kd.S k24 24 w' w.heap.size (fun _ => True) v0_ [⟨a0_0, a0_1, a0_2, a0_3, a0_4, a0_5, a0_6, a0_7, l0_8⟩] ∧ Below w.heap.size w w' := by
  have hu24 := Try.underlying24
  have hf : impl_Packet_copy.f a0_0 a0_1 a0_2 a0_3 a0_4 a0_5 a0_6 a0_7 l0_8 = some (a0_0, a0_1, a0_2, a0_3, a0_4, a0_5, a0_6, a0_7, l0_8) := by
    unfold impl_Packet_copy.f impl_clone_byte.f
    rw [if_pos (by omega)]; rfl
  have HR0_8 := Aside0.mk hr0_8; have HC0_8 := Aside0.mk hc0_8; have HF := Aside0.mk hf; clear hr0_8 hc0_8 hf
  have HB := Aside0.mk (Below.refl w.heap.size w)
  have cb : decide ((l0_8.length : Int) ≤ (m : Int)) = true := decide_eq_true (by omega)
  have cb2 : decide (l0_8.length ≤ m) = true := decide_eq_true (by omega)
  clear c
  go_enter Try.func57, Try.ntmps57
  go_wp2_with (first
    | ((with_reducible refine gate_dst (N := 2) rfl ?_); refine box_ (N := 2) (cs := #[.int .i64 a0_0, .int .i64 a0_1, .int .i64 a0_2, .int .i64 a0_3, .int .i64 a0_4, .int .i64 a0_5, .bool a0_6, .bool a0_7, .slice A0_8 l0_8.length c0_8]) (t := 24) (fun gp hg w3 hbox hb => ?_); have BKp := Aside0.mk (hbox); replace HB := (bs_ HB hb); clear hb hbox hg; have Z1 := zz9 BKp)
    | ((with_reducible refine gate_callee (f := 91) rfl ?_); refine goesL_ (some 17) rfl rfl Try.func91 (by kernel_rfl) rfl #[.agg #[.int .i64 a0_0, .int .i64 a0_1, .int .i64 a0_2, .int .i64 a0_3, .int .i64 a0_4, .int .i64 a0_5, .bool a0_6, .bool a0_7, .slice A0_8 l0_8.length c0_8]] rfl ar_ ?_; (with_reducible refine (impl_Packet_copy.calls a0_0 a0_1 a0_2 a0_3 a0_4 a0_5 a0_6 a0_7 _ _ l0_8 _ _ _ _ _ _ _ _ _ _ ?side1 ?side2 HF.out).mono ?_); (case side1 => exact kC_ (Kd.C_below HR0_8.out HB.out)); (case side2 => exact HC0_8.out); rintro e w7 ⟨v8_, rfl, ho0, hb⟩; refine ⟨_, rfl, ?_⟩; have HO := Aside0.mk (Kd.R_lower ho0 (below_size (hbA_ HB.out))); replace BKp := (bbA_ BKp hb); replace HB := (bs_ HB hb); clear hb ho0))
  go_ret2
  refine ⟨_, rfl, lit_S1 (cs := [.int .i64 a0_0, .int .i64 a0_1, .int .i64 a0_2, .int .i64 a0_3, .int .i64 a0_4, .int .i64 a0_5, .bool a0_6, .bool a0_7, v8_]) (k24_mkM _ _ _ (⟨a0_0, a0_1, a0_2, a0_3, a0_4, a0_5, a0_6, a0_7, l0_8⟩ : S24) (Kd.R_bound HO.out)) (fun k hk => hk.2.2.1) (below_size (hbA_ HB.out)), ?_⟩
  exact hbA_ HB.out
theorem cut_wrap {x : Int} (h0 : 0 ≤ x) (h1 : x ≤ 1000000) : wrap64 x = x := by unfold wrap64; omega
def atC (p : S24) (m : Nat) (xs : List (CkM m p.f8.length)) : Int := xs.foldl (fun s x => s + (((p.f8.drop (m * x.1)).take m).length : Int)) p.f5
def outC (p : S24) (m : Nat) (xs : List (CkM m p.f8.length)) : List S24 := (xs.foldl (fun (s : Int × List S24) x => (s.1 + (((p.f8.drop (m * x.1)).take m).length : Int), s.2 ++ [⟨p.f0, p.f1, p.f2, p.f3, p.f4, s.1, true, p.f7, (p.f8.drop (m * x.1)).take m⟩])) (p.f5, [])).2
theorem kS_grownP {W W' : World} {row : Option Nat} {base : Nat} {ok : Nat → Prop} {v : Value} {xs : List S24} (h : Kd.S k24 24 W base ok v xs) (hg : W.grownBy W' row) (hr : ∀ r, row = some r → ∃ o : Obj, W.heap[r]? = some o ∧ o.isCells = false) : Kd.S k24 24 W' base ok v xs :=
  Kd.S_mono (Kd.S_step (Kd.S_bound h) (fun k hk hlt => by
    obtain ⟨_, _, _, q, _, cs, hc⟩ := hk
    exact grownBy_keeps_cells hg hr hc rfl)) (fun k hk => hk.1)
theorem C_drop {w : World} {ad : Addr} {l : List Int} (h : Kd.C (Kd.int .u8) w (some ad) l.length l) (o m : Nat) (ho : o < l.length) : Kd.C (Kd.int .u8) w (some (ad.add o)) ((l.drop o).take m).length ((l.drop o).take m) := by
  obtain ⟨h1, h2, h3⟩ := h
  obtain ⟨ad', e, h4⟩ := h3 (by omega)
  cases e
  refine ⟨rfl, by rw [List.length_take, List.length_drop]; omega, fun _ => ⟨_, rfl, fun j p hp => ?_⟩⟩
  have hp2 : l[o + j]? = some p := by
    rw [List.getElem?_take] at hp
    split at hp
    · rw [List.getElem?_drop] at hp; exact hp
    · cases hp
  obtain ⟨cs, k1, k2, k3⟩ := h4 (o + j) p hp2
  refine ⟨cs, k1, k2, fun i u hu => ?_⟩
  have := k3 i u hu
  rw [Addr.add_add]
  rw [show o + (j * (Kd.int .u8).sz + i) = (o + j) * (Kd.int .u8).sz + i by show o + (j * 1 + i) = (o + j) * 1 + i; omega]
  exact this
theorem cut_round_end {W w10 w1 : World} {go ga n₀ : Nat} {v v1 u a1 : Value} {xs ys : List S24} (hgo : go < ga) (hga : ga < n₀) (hn : n₀ ≤ W.heap.size)
    (Ho : W.heap[go]? = some (.cells #[v] 27 (0, 0))) (Ha : W.heap[ga]? = some (.cells #[a1] 3 (0, 0))) (HS : Kd.S k24 24 W n₀ (fun _ => True) v xs)
    (hb : Below W.heap.size W w10) (hg : (w10.setCell ⟨ga, 0, none⟩ u).grownBy w1 v.ownBlock) (hS : Kd.S k24 24 w1 n₀ (fun _ => True) v1 ys) :
    KeepsFrom n₀ W (w1.setCell ⟨go, 0, none⟩ v1) ∧ KpM go ga n₀ W (w1.setCell ⟨go, 0, none⟩ v1) ∧ (w1.setCell ⟨go, 0, none⟩ v1).heap[go]? = some (.cells #[v1] 27 (0, 0)) ∧ (w1.setCell ⟨go, 0, none⟩ v1).heap[ga]? = some (.cells #[u] 3 (0, 0))
      ∧ (∀ q, q ≤ go → Below q W (w1.setCell ⟨go, 0, none⟩ v1)) ∧ Kd.S k24 24 (w1.setCell ⟨go, 0, none⟩ v1) n₀ (fun _ => True) v1 ys := by
  have hown : ∀ k, v.ownBlock = some k → n₀ ≤ k ∧ k < W.heap.size ∧ ∃ q cells, W.heap[k]? = some (.cells cells q (0, 0)) := fun k hk => by
    obtain ⟨_, h1, h2, q, _, cs, h3⟩ := (Kd.S_R (Kd.S_bound HS)).1 k hk
    exact ⟨h1, h2, q, cs, h3⟩
  have hsz : (w10.setCell ⟨ga, 0, none⟩ u).heap.size = w10.heap.size := by simp [World.setCell]
  have hsz1 : (w1.setCell ⟨go, 0, none⟩ v1).heap.size = w1.heap.size := by simp [World.setCell]
  have hs2 : w10.heap.size ≤ w1.heap.size := hsz ▸ hg.size
  have hs1 := hb.size
  have key : ∀ k, k < W.heap.size → k ≠ go → k ≠ ga → some k ≠ v.ownBlock → (w1.setCell ⟨go, 0, none⟩ v1).heap[k]? = W.heap[k]? := fun k h1 h2 h3 h4 =>
    (Below.heap_setCell w1 ⟨go, 0, none⟩ v1 k h2).trans ((hg.block k (by omega) h4).trans ((Below.heap_setCell w10 ⟨ga, 0, none⟩ u k h3).trans (hb.block k h1)))
  have hno : ∀ k, k < n₀ → some k ≠ v.ownBlock := fun k hk e => by have := (hown k e.symm).1; omega
  refine ⟨⟨by omega, fun k o h1 h2 h3 => ?_⟩, fun k h1 h2 h3 => key k (by omega) h2 h3 (hno k h1), ?_, ?_, fun q hq => ?_, ?_⟩
  · have hlt := (Array.getElem?_eq_some_iff.1 h2).1
    refine (key k hlt (by omega) (by omega) (fun e => ?_)).trans h2
    obtain ⟨_, _, q, cs, h4⟩ := hown k e.symm
    rw [h2] at h4; cases h4; cases h3
  · refine blk_put (cs := #[v]) ?_ 0 v1 rfl
    exact (hg.block go (by omega) (hno go (by omega))).trans ((Below.heap_setCell w10 ⟨ga, 0, none⟩ u go (by show go ≠ ga; omega)).trans ((hb.block go (by omega)).trans Ho))
  · refine (Below.heap_setCell w1 ⟨go, 0, none⟩ v1 ga (by show ga ≠ go; omega)).trans ((hg.block ga (by omega) (hno ga hga)).trans ?_)
    exact blk_put (cs := #[a1]) ((hb.block ga (by omega)).trans Ha) 0 u rfl
  · have B1 : Below q W w10 := hb.mono (by omega)
    have B2 := B1.setCell (p := ⟨ga, 0, none⟩) (by show q ≤ ga; omega) u
    have B3 := B2.grown hg (by omega) (fun k e => by have := (hown k e).1; omega)
    exact B3.setCell (p := ⟨go, 0, none⟩) hq v1
  · exact Kd.S_mono (Kd.S_far (p := ⟨go, 0, none⟩) (Kd.S_mono (Kd.S_bound hS) (ok' := fun k => k ≠ go) (fun k hk => by have := hk.2.1; omega)) (fun _ hk => hk) v1) (fun _ _ => trivial)
theorem atC_in (p : S24) (m : Nat) (hl : p.f8.length ≤ 48) (xs : List (CkM m p.f8.length)) : p.f5 ≤ atC p m xs ∧ atC p m xs ≤ p.f5 + 48 * (xs.length : Int) := by
  unfold atC
  generalize p.f5 = s0
  induction xs generalizing s0 with
  | nil => simp
  | cons x xs ih =>
    have hd : ((p.f8.drop (m * x.1)).take m).length ≤ 48 := by rw [List.length_take, List.length_drop]; omega
    have := ih (s0 + (((p.f8.drop (m * x.1)).take m).length : Int))
    rw [List.foldl_cons, List.length_cons]
    omega
theorem atC_snoc (p : S24) (m : Nat) (xs : List (CkM m p.f8.length)) (x : CkM m p.f8.length) : atC p m (xs ++ [x]) = atC p m xs + (((p.f8.drop (m * x.1)).take m).length : Int) := by unfold atC; rw [List.foldl_append]; rfl
theorem outC_snoc (p : S24) (m : Nat) (xs : List (CkM m p.f8.length)) (x : CkM m p.f8.length) : outC p m (xs ++ [x]) = outC p m xs ++ [⟨p.f0, p.f1, p.f2, p.f3, p.f4, atC p m xs, true, p.f7, (p.f8.drop (m * x.1)).take m⟩] := by
  have h : ∀ (xs : List (CkM m p.f8.length)) (s : Int) (ys : List S24), (xs.foldl (fun (s : Int × List S24) x => (s.1 + (((p.f8.drop (m * x.1)).take m).length : Int), s.2 ++ [⟨p.f0, p.f1, p.f2, p.f3, p.f4, s.1, true, p.f7, (p.f8.drop (m * x.1)).take m⟩])) (s, ys)).1 = xs.foldl (fun s x => s + (((p.f8.drop (m * x.1)).take m).length : Int)) s := by
    intro xs
    induction xs with
    | nil => intro s ys; rfl
    | cons x xs ih => intro s ys; rw [List.foldl_cons, List.foldl_cons]; exact ih _ _
  unfold outC atC
  rw [List.foldl_append, ← h xs p.f5 []]
  rfl
theorem outC_length (p : S24) (m : Nat) (xs : List (CkM m p.f8.length)) : (outC p m xs).length = xs.length := by
  have : ∀ n (xs : List (CkM m p.f8.length)), xs.length = n → (outC p m xs).length = n := by
    intro n
    induction n with
    | zero => intro xs h; obtain rfl := List.eq_nil_of_length_eq_zero h; rfl
    | succ n ih =>
      intro xs h
      obtain ⟨ys, y, rfl⟩ : ∃ ys y, xs = ys ++ [y] := ⟨xs.dropLast, xs.getLast (by intro e; subst e; cases h), (List.dropLast_concat_getLast _).symm⟩
      rw [List.length_append, List.length_singleton] at h
      rw [outC_snoc, List.length_append, List.length_singleton, ih ys (by omega)]
  exact this _ xs rfl
theorem outC_upto (p : S24) (m : Nat) (k : Nat) (hk : ∀ j, j < k → m * j < p.f8.length) : outC p m (uptoM m p.f8.length k) = (List.range k).map (impl_cut.piece p m) ∧ atC p m (uptoM m p.f8.length k) = p.f5 + ((min (m * k) p.f8.length : Nat) : Int) := by
  induction k with
  | zero => refine ⟨rfl, ?_⟩; show p.f5 = _; rw [Nat.mul_zero, Nat.zero_min]; simp
  | succ k ih =>
    obtain ⟨i1, i2⟩ := ih (fun j hj => hk j (by omega))
    have hlt := hk k (Nat.lt_succ_self k)
    rw [uptoM_succ hlt, outC_snoc, atC_snoc, i1, i2]
    have e1 : min (m * k) p.f8.length = k * m := by rw [Nat.mul_comm k m]; omega
    refine ⟨?_, ?_⟩
    · rw [List.range_succ, List.map_append, e1]
      simp only [List.map_cons, List.map_nil, impl_cut.piece, Nat.mul_comm m k]
    · rw [List.length_take, List.length_drop, Nat.mul_succ]
      dsimp only
      omega
theorem many_of (p : S24) (m k : Nat) (hm : 1 ≤ m) (h1 : p.f8.length ≤ m * k) (h2 : ∀ j, j < k → m * j < p.f8.length) (h0 : 0 < p.f8.length) : impl_cut.many p m = k ∧ 1 ≤ k := by
  have hk : 1 ≤ k := by
    rcases Nat.eq_zero_or_pos k with h | h
    · subst h; omega
    · exact h
  have h3 := h2 (k - 1) (by omega)
  obtain ⟨q, rfl⟩ : ∃ q, k = q + 1 := ⟨k - 1, by omega⟩
  rw [Nat.add_sub_cancel] at h3
  rw [Nat.mul_succ] at h1
  refine ⟨?_, hk⟩
  unfold impl_cut.many
  refine Nat.div_eq_of_lt_le ?_ ?_
  · rw [Nat.succ_mul, Nat.mul_comm q m]; omega
  · rw [Nat.succ_mul, Nat.succ_mul, Nat.mul_comm q m]; omega
theorem out_of (p : S24) (m k : Nat) (hm : 1 ≤ m) (hc : m < p.f8.length) (h1 : p.f8.length ≤ m * k) (h2 : ∀ j, j < k → m * j < p.f8.length) (xs : List S24) (hx : outC p m (uptoM m p.f8.length k) = xs) :
    xs.length = k ∧ 1 ≤ k ∧ xs.getD (k - 1) p = impl_cut.piece p m (k - 1) ∧ impl_cut.out p m = if p.f7 = true ∨ (impl_cut.piece p m (k - 1)).f5 > 255 then ([], false) else (xs.set (k - 1) { impl_cut.piece p m (k - 1) with f6 := p.f6 }, true) := by
  obtain ⟨e1, hk⟩ := many_of p m k hm h1 h2 (by omega)
  have e2 := (outC_upto p m k h2).1
  rw [hx] at e2
  subst e2
  obtain ⟨q, rfl⟩ : ∃ q, k = q + 1 := ⟨k - 1, by omega⟩
  refine ⟨by simp, hk, ?_, ?_⟩
  · simp
  · unfold impl_cut.out
    rw [if_neg (by omega), e1, Nat.add_sub_cancel]
    show (if _ then _ else _) = (if p.f7 = true ∨ p.f5 + ((q * m : Nat) : Int) > 255 then _ else _)
    split
    · rfl
    · rw [List.range_succ, List.map_append, List.set_append_right _ _ (by simp)]
      simp
set_option maxHeartbeats 4000000 in
set_option maxRecDepth 100000 in
theorem cut_long (a0_0 : Int) (a0_1 : Int) (a0_2 : Int) (a0_3 : Int) (a0_4 : Int) (a0_5 : Int) (a0_6 : Bool) (a0_7 : Bool) (A0_8 : Option Addr) (c0_8 : Nat) (l0_8 : List Int) (m : Nat) (w : World) (hr0_8 : Kd.C (Kd.int .u8) w A0_8 l0_8.length l0_8) (hc0_8 : l0_8.length ≤ c0_8) (hl : l0_8.length ≤ 48) (hm : 1 ≤ m) (c : m < l0_8.length) (h50 : 0 ≤ a0_5) (h5 : a0_5 ≤ 255) (r1 : List S24) (r2 : Bool) (hres : impl_cut.out ⟨a0_0, a0_1, a0_2, a0_3, a0_4, a0_5, a0_6, a0_7, l0_8⟩ m = (r1, r2)) :
    Calls Try.prog 57 #[.agg #[.int .i64 a0_0, .int .i64 a0_1, .int .i64 a0_2, .int .i64 a0_3, .int .i64 a0_4, .int .i64 a0_5, .bool a0_6, .bool a0_7, .slice A0_8 l0_8.length c0_8], .int .i64 (m : Int)] w fun e w' => ∃ v0_ : Value, e = .returned (.tuple #[v0_, .bool r2]) ∧ Kd.S k24 24 w' w.heap.size (fun _ => True) v0_ r1 ∧ Below w.heap.size w w' := by
  have hu24 := Try.underlying24
  obtain ⟨ad, rfl⟩ : ∃ ad, A0_8 = some ad := by obtain ⟨ad, e, _⟩ := (Kd.reads_of_C (d := (0 : Int)) hr0_8).2.2 (by omega); exact ⟨ad, e⟩
  have HR0_8 := Aside0.mk hr0_8; have HC0_8 := Aside0.mk hc0_8; have HRES := Aside0.mk hres; clear hr0_8 hc0_8 hres
  have HB := Aside0.mk (Below.refl w.heap.size w)
  have cb : decide ((l0_8.length : Int) ≤ (m : Int)) = false := decide_eq_false (by omega)
  have cb2 : decide (l0_8.length ≤ m) = false := decide_eq_false (by omega)
  refine (callsIn_wide (n := 5)).1 ?_
  refine callsIn_of_wp_marks Try.func57 rfl trivial ?_ rfl
  simp only [Try.ntmps57, List.size_toArray, List.length_cons, List.length_nil, Nat.reduceAdd, Nat.reduceSub, Array.replicate_succ, Array.replicate_zero, List.push_toArray, List.append_toArray, List.nil_append, List.cons_append]
  refine wpIn_seq (wpIn_wide.2 ?_)
  go_wp2_with (first
    | ((with_reducible refine gate_dst (N := 2) rfl ?_); refine box_ (N := 2) (cs := #[.int .i64 a0_0, .int .i64 a0_1, .int .i64 a0_2, .int .i64 a0_3, .int .i64 a0_4, .int .i64 a0_5, .bool a0_6, .bool a0_7, .slice (some ad) l0_8.length c0_8]) (t := 24) (fun gp hg w3 hbox hb => ?_); have BKp := Aside0.mk (hbox); have hgpw : w.heap.size ≤ gp := Nat.le_of_eq hg.symm; replace HB := (bs_ HB hb); clear hb hbox hg; have Z1 := zz9 BKp))
  refine wpIn_seq (wpIn_wide.2 ?_)
  go_wp2
  refine wpIn_seq (wpIn_wide.2 ?_)
  go_wp2_with (first
    | ((with_reducible refine gate_dst (N := 6) rfl ?_); refine box_ (N := 6) (cs := #[.slice none 0 0]) (t := 27) (fun go hg w4 hbox hb => ?_); have BKo := Aside0.mk (hbox); have HGo := Aside0.mk hg; have hgo : gp < go := hg ▸ (Array.getElem?_eq_some_iff.1 BKp.out).1; replace HB := (bs_ HB hb); replace BKp := (bbA_ BKp hb); clear hb hbox hg Z1; have Z1 := zz9 BKp))
  refine wpIn_seq (wpIn_wide.2 ?_)
  go_wp2
  have hgs : go < w4.heap.size := (Array.getElem?_eq_some_iff.1 BKo.out).1
  have BKa : Aside0 ((w4.alloc (.cells #[.int .i64 a0_5] 3)).heap[w4.heap.size]? = some (.cells #[.int .i64 a0_5] 3 (0, 0))) := ⟨World.alloc_heap_new w4 _⟩
  replace HB := bs_ HB (below_alloc (Below.refl w4.heap.size w4) (.cells #[.int .i64 a0_5] 3))
  replace BKp := bbA_ BKp (below_alloc (Below.refl w4.heap.size w4) (.cells #[.int .i64 a0_5] 3))
  replace BKo := bbA_ BKo (below_alloc (Below.refl w4.heap.size w4) (.cells #[.int .i64 a0_5] 3))
  have hsz : (w4.alloc (.cells #[.int .i64 a0_5] 3)).heap.size = w4.heap.size + 1 := World.size_alloc _ _
  clear HGo Z1
  generalize w4.alloc (.cells #[.int .i64 a0_5] 3) = w5 at *
  generalize w4.heap.size = ga at *
  have Z1 := zz9 BKp
  have HC := fun W : World => (callsIn_wide (n := 5)).1 (chunkM_in Fence.wide 5 trivial rfl (some ad) l0_8.length c0_8 m hm W)
  refine wpIn_seq (wpIn_seq (wpIn_wide.2 ?_))
  go_wp2_with (first | ((with_reducible refine gate_callee (f := 92) rfl ?_); refine goesL_ (some 24) rfl rfl Try.func92 (by kernel_rfl) rfl #[.slice (some ad) l0_8.length c0_8, .int .i64 (m : Int)] rfl ar_ ?_; refine (HC _).mono ?_; rintro e w' ⟨rfl, rfl⟩; refine ⟨_, rfl, ?_⟩))
  gi_wp2
  rw [hsz]
  simp only [Act.put, List.setIfInBounds_toArray, List.set_cons_zero, List.set_cons_succ]
  have hs6 : ((w5.alloc (.cells #[.slice (some ad) l0_8.length c0_8] 22)).alloc (.cells #[.int .i64 (m : Int)] 3)).heap.size = ga + 3 := by rw [World.size_alloc, World.size_alloc, hsz]
  have BKs : ((w5.alloc (.cells #[.slice (some ad) l0_8.length c0_8] 22)).alloc (.cells #[.int .i64 (m : Int)] 3)).heap[ga + 1]? = some (.cells #[.slice (some ad) l0_8.length c0_8] 22 (0, 0)) := blk_alloc (hsz ▸ World.alloc_heap_new w5 _) _
  have BKn : ((w5.alloc (.cells #[.slice (some ad) l0_8.length c0_8] 22)).alloc (.cells #[.int .i64 (m : Int)] 3)).heap[ga + 1 + 1]? = some (.cells #[.int .i64 (m : Int)] 3 (0, 0)) := by
    have := World.alloc_heap_new (w5.alloc (.cells #[.slice (some ad) l0_8.length c0_8] 22)) (.cells #[.int .i64 (m : Int)] 3)
    rw [World.size_alloc, hsz] at this; exact this
  have hb6 : Below w5.heap.size w5 ((w5.alloc (.cells #[.slice (some ad) l0_8.length c0_8] 22)).alloc (.cells #[.int .i64 (m : Int)] 3)) := below_alloc (below_alloc (Below.refl _ w5) _) _
  replace HB := bs_ HB hb6
  replace BKp := bbA_ BKp hb6
  replace BKo := bbA_ BKo hb6
  replace BKa := bbA_ BKa hb6
  clear hb6 Z1 HC hsz
  generalize ((w5.alloc (.cells #[.slice (some ad) l0_8.length c0_8] 22)).alloc (.cells #[.int .i64 (m : Int)] 3)) = W6 at *
  refine wpIn_rangeFunc_ownG (F := Fence.wide) (n := 5) rfl (by decide) (gf := 105) (lb := #[.pointer (some ⟨ga + 1, 0, none⟩), .pointer (some ⟨ga + 1 + 1, 0, none⟩)]) rfl trivial (fun args w => Go.Proofs.YtbhofhdmbbipgaaW.PrintLast.enters_ Try.func105 (by kernel_rfl) rfl args w)
    (chunkM_stops Fence.wide 4 trivial rfl (by decide) (ga + 1) (ga + 1 + 1) go ga (ga + 3) (by omega) (by omega) (by omega) (by omega) ad l0_8.length c0_8 m hm (by omega) HC0_8.out (by omega) W6 (by omega) (by omega) hs6.symm (blk_cell BKs 0) (blk_cell BKn 0)) (fun h k => KpM.trans h k) (KpM.b (by omega)) (Below.refl _ _) (fun _ => rfl)
    (fun pre W => (W.heap[gp]? = some (.cells #[.int .i64 a0_0, .int .i64 a0_1, .int .i64 a0_2, .int .i64 a0_3, .int .i64 a0_4, .int .i64 a0_5, .bool a0_6, .bool a0_7, .slice (some ad) l0_8.length c0_8] 24 (0, 0)) ∧ (∃ v, W.heap[go]? = some (.cells #[v] 27 (0, 0)) ∧ Kd.S k24 24 W (ga + 3) (fun _ => True) v (outC ⟨a0_0, a0_1, a0_2, a0_3, a0_4, a0_5, a0_6, a0_7, l0_8⟩ m pre)) ∧ W.heap[ga]? = some (.cells #[.int .i64 (atC ⟨a0_0, a0_1, a0_2, a0_3, a0_4, a0_5, a0_6, a0_7, l0_8⟩ m pre)] 3 (0, 0))) ∧ Below w.heap.size w W ∧ Below 0 W6 W)
    (fun _ _ _ => False)
    (OwnFrom.and (fun pre A B row hs hg hr => by
      have hr2 : ∀ r, row = some r → ∃ o : Obj, A.heap[r]? = some o ∧ o.isCells = false := fun r e => (hr r e).2
      obtain ⟨h1, ⟨v, h2, h3⟩, h4⟩ := hs
      exact ⟨(grownBy_keeps_cells hg hr2 h1 rfl).trans h1, ⟨v, (grownBy_keeps_cells hg hr2 h2 rfl).trans h2, kS_grownP h3 hg hr2⟩, (grownBy_keeps_cells hg hr2 h4 rfl).trans h4⟩)
      (OwnFrom.and (ownFrom_below (Nat.le_refl _) (below_size HB.out)) (ownFrom_below (Nat.zero_le _) (Nat.zero_le _))))
    (fun _ _ _ _ _ hs _ _ => hs)
    ⟨⟨BKp.out, ⟨_, BKo.out, Kd.S_nil _ _ _ _ _⟩, BKa.out⟩, HB.out, Below.refl _ _⟩
    (fun x => { tmps := #[.agg #[.int .i64 a0_0, .int .i64 a0_1, .int .i64 a0_2, .int .i64 a0_3, .int .i64 a0_4, .int .i64 a0_5, .bool a0_6, .bool a0_7, .slice (some ad) l0_8.length c0_8], .int .i64 (m : Int), .pointer (some ⟨gp, 0, none⟩), undef, .slice none 0 0, .bool false, .pointer (some ⟨go, 0, none⟩), .pointer (some ⟨ga, 0, none⟩), chunkM ad m l0_8.length x.1, undef, undef, .pointer (some ⟨gp, 8, none⟩), .slice (some ad) l0_8.length c0_8, .int .i64 (l0_8.length : Int), .int .i64 (m : Int), .bool false, undef, undef, undef, .pointer (some ⟨gp, 5, none⟩), .int .i64 a0_5, .pointer (some ⟨gp, 8, none⟩), .slice (some ad) l0_8.length c0_8, .int .i64 (m : Int), .func (.func 105) #[] #[.pointer (some ⟨ga + 1, 0, none⟩), .pointer (some ⟨ga + 1 + 1, 0, none⟩)], chunkM ad m l0_8.length x.1, undef, undef, undef, undef, undef, undef, undef, undef, undef, undef, undef, undef, undef, undef, undef, undef, undef, undef, undef, undef, undef, undef, undef, undef, undef, undef, undef, undef, undef, undef, undef, undef, undef, undef, undef, undef], defers := [] }) ?assign ?body ?done ?stop
  case assign =>
    intro l x W K hK
    gi_wp2
    exact hK
  case stop =>
    rintro D c pre W _ _ h _
    exact h.elim
  case done =>
    rintro D ys W hD ⟨k, rfl, hk1, hk2⟩ ⟨⟨Hp, ⟨v, Ho, HS⟩, Ha⟩, HB2, HB3⟩ hK
    obtain ⟨xs, hxs⟩ : ∃ xs, outC ⟨a0_0, a0_1, a0_2, a0_3, a0_4, a0_5, a0_6, a0_7, l0_8⟩ m (uptoM m l0_8.length k) = xs := ⟨_, rfl⟩
    rw [hxs] at HS
    obtain ⟨hn, hk, hlast, hout⟩ := out_of ⟨a0_0, a0_1, a0_2, a0_3, a0_4, a0_5, a0_6, a0_7, l0_8⟩ m k hm c hk1 hk2 xs hxs
    rw [HRES.out] at hout
    obtain ⟨_, hown, _⟩ := (Kd.S_R HS).2
    obtain ⟨g, cap, rfl, hg1, hg2, hcp⟩ : ∃ g cap, v = .slice (some ⟨g, 0, none⟩) xs.length cap ∧ ga + 3 ≤ g ∧ g < W.heap.size ∧ k ≤ cap := by
      rcases hown.2 with ⟨_, h0⟩ | ⟨g, cap, cur, hv, hb, hgg, hnc, _⟩
      · omega
      · exact ⟨g, cap, by rw [hv], hb, (Array.getElem?_eq_some_iff.1 hgg).1, by simpa [hn] using hnc⟩
    have HCAP := Aside0.mk hcp
    clear hown hxs hcp
    have HS1 := Kd.S_start HS ⟨a0_0, a0_1, a0_2, a0_3, a0_4, a0_5, a0_6, a0_7, l0_8⟩ ((k - 1 : Nat) : Int)
    rw [Int.toNat_natCast, hlast] at HS1
    obtain ⟨okp, cs, hM, hcs, hfr, _, _⟩ := Kd.S_cells (i := ((k - 1 : Nat) : Int)) (by rw [Int.toNat_natCast]; exact HS1) (by omega) (by omega)
    obtain ⟨v8, rfl, hv8⟩ := k24_openM hM
    rw [Int.toNat_natCast] at hcs hfr
    have y5 : W.cell? ⟨g, (k - 1) * 9 + 5, none⟩ = some (.int .i64 (impl_cut.piece ⟨a0_0, a0_1, a0_2, a0_3, a0_4, a0_5, a0_6, a0_7, l0_8⟩ m (k - 1)).f5) := hcs 5 _ rfl
    have y6 : W.cell? ⟨g, (k - 1) * 9 + 6, none⟩ = some (.bool (impl_cut.piece ⟨a0_0, a0_1, a0_2, a0_3, a0_4, a0_5, a0_6, a0_7, l0_8⟩ m (k - 1)).f6) := hcs 6 _ rfl
    have f5 : W.frozen? ⟨g, (k - 1) * 9 + 5, none⟩ = false := hfr 5
    have f6 : W.frozen? ⟨g, (k - 1) * 9 + 6, none⟩ = false := hfr 6
    generalize impl_cut.piece ⟨a0_0, a0_1, a0_2, a0_3, a0_4, a0_5, a0_6, a0_7, l0_8⟩ m (k - 1) = pc at *
    clear hcs hfr hM hv8
    dsimp only
    show Code.wpIn Fence.wide 5 Try.prog _ _ _ _
    have Z1 := zz9 (Aside0.mk Hp)
    have Z2 := blk_cell Ho 0
    have cw : ∀ x : Nat, 1 ≤ x → x ≤ 1000000 → wrap64 ((x : Int) - 1) = ((x - 1 : Nat) : Int) := fun x h1 h2 => by unfold wrap64; omega
    have hk48 : k ≤ 1000000 := by
      have h1 : m * (k - 1) < l0_8.length := hk2 (k - 1) (by omega)
      have := Nat.le_mul_of_pos_left (k - 1) hm
      omega
    have ck : k - 1 < k := by omega
    have ckz : ((k - 1 : Nat) : Int) < (k : Int) := by omega
    clear hk1 hk2
    have hcl : ∃ q cells, W.heap[g]? = some (.cells cells q (0, 0)) := by
      obtain ⟨_, _, _, q, _, cs, h3⟩ := (Kd.S_R (Kd.S_bound HS)).1 g rfl
      exact ⟨q, cs, h3⟩
    have hDg : D ≠ g := by rintro rfl; obtain ⟨q, cs, h3⟩ := hcl; rw [hK] at h3; cases h3
    have hput := Kd.S_put1 (i := ((k - 1 : Nat) : Int)) (j := 6) (u := .bool a0_6) (y' := { pc with f6 := a0_6 }) (by rw [Int.toNat_natCast]; exact HS1) (by omega) (by omega) (by decide) (fun {W okp c} h => by
      obtain ⟨v8, rfl, h8⟩ := k24_openM h
      exact k24_mkM _ _ _ { pc with f6 := a0_6 } h8)
    rw [Int.toNat_natCast] at hput
    have HSP := Aside0.mk (show Kd.S k24 24 (W.setCell ⟨g, (k - 1) * 9 + 6, none⟩ (.bool a0_6)) (ga + 3) (fun _ => True) (.slice (some ⟨g, 0, none⟩) xs.length cap) (xs.set (k - 1) { pc with f6 := a0_6 }) from hput.1)
    have HOUT := Aside0.mk hout
    have HDG := Aside0.mk hDg
    have HK0 := Aside0.mk hK
    have HW2 := Aside0.mk HB2
    have hg3 : go ≠ g := by omega
    have hg4 : g ≠ go := hg3.symm
    have hg5 : gp ≠ g := by omega
    have hg6 : g ≠ gp := hg5.symm
    have HGG := Aside0.mk hg1
    have hD2 : ∀ u, (W.setCell ⟨g, (k - 1) * 9 + 6, none⟩ u).heap[D]? = some (.deferred (some [])) := fun u => (Below.heap_setCell W ⟨g, (k - 1) * 9 + 6, none⟩ u D hDg).trans hK
    have hgs2 : ∀ u, (W.setCell ⟨g, (k - 1) * 9 + 6, none⟩ u).heap[go]? = some (.cells #[.slice (some ⟨g, 0, none⟩) xs.length cap] 27 (0, 0)) := fun u => (Below.heap_setCell W ⟨g, (k - 1) * 9 + 6, none⟩ u go (by show go ≠ g; omega)).trans Ho
    have HGO := Aside0.mk hgs2
    have HBF : Aside0 (∀ u o, Below w.heap.size w ((W.setCell ⟨g, (k - 1) * 9 + 6, none⟩ u).putObj D o)) := ⟨fun u o => by
      have h1 := HB2.setCell (p := ⟨g, (k - 1) * 9 + 6, none⟩) (show w.heap.size ≤ g by omega) u
      have h2 : w.heap.size ≤ D := by have := HB2.size; have := HB.out.size; omega
      exact h1.grown (grownBy_putObj' _ D o) h1.size (fun r e => by cases e; exact h2)⟩
    have HSF : Aside0 (∀ o, Kd.S k24 24 ((W.setCell ⟨g, (k - 1) * 9 + 6, none⟩ (.bool a0_6)).putObj D o) w.heap.size (fun _ => True) (.slice (some ⟨g, 0, none⟩) xs.length cap) (xs.set (k - 1) { pc with f6 := a0_6 })) := ⟨fun o =>
      Kd.S_lower (kS_grownP hput.1 (grownBy_putObj' _ D o) (fun r e => by cases e; exact ⟨_, hD2 _, rfl⟩)) (show w.heap.size ≤ ga + 3 by omega)⟩
    have HD2 := Aside0.mk hD2
    clear hput hout hDg hK HB2 HB3 hcl HS HS1 hlast Hp Ho Ha hg1 hg2 hD2 hgs2
    refine wpIn_seq (wpIn_wide.2 ?_)
    go_wp2
    refine wpIn_seq (wpIn_wide.2 ?_)
    go_wp2
    refine wpIn_seq (wpIn_wide.2 ?_)
    by_cases cc : a0_7 = true ∨ pc.f5 > 255
    · have HO := HOUT.out
      rw [if_pos cc] at HO
      cases HO
      by_cases c7 : a0_7 = true
      · subst c7
        go_wp2
        refine ⟨by simp, .inl ⟨_, _, rfl, run_takeDeferred (HD2.out _), ?_⟩⟩
        exact ⟨_, results_tmp2 rfl _ _ _, _, rfl, Kd.S_nil _ _ _ _ _, HBF.out _ _⟩
      · obtain rfl : a0_7 = false := by simpa using c7
        have c5 : decide (255 < pc.f5) = true := decide_eq_true (by simpa using cc)
        go_wp2
        refine ⟨by simp, .inl ⟨_, _, rfl, run_takeDeferred (HD2.out _), ?_⟩⟩
        exact ⟨_, results_tmp2 rfl _ _ _, _, rfl, Kd.S_nil _ _ _ _ _, HBF.out _ _⟩
    · have HO := HOUT.out
      rw [if_neg cc] at HO
      cases HO
      obtain rfl : a0_7 = false := by rcases Bool.eq_false_or_eq_true a0_7 with h | h; exact absurd (Or.inl h) cc; exact h
      have c5 : decide (255 < pc.f5) = false := decide_eq_false (fun h => cc (.inr h))
      go_wp2
      have Z3 := blk_cell (HGO.out (.bool a0_6)) 0
      have hcap := HCAP.out
      refine wpIn_seq (wpIn_wide.2 ?_)
      go_wp2_with (first | ((with_reducible refine gate_callee (f := 93) rfl ?_); refine goesL_ (some 61) rfl rfl Try.func93 (by kernel_rfl) rfl #[.slice (some ⟨g, 0, none⟩) k cap] rfl ar_ ?_; refine (impl_Packet.calls _ _ _ _ hcap).mono ?_; rintro e w' ⟨rfl, rfl⟩; refine ⟨_, rfl, ?_⟩))
      gi_wp2
      refine ⟨by simp, .inl ⟨_, _, rfl, run_takeDeferred (HD2.out _), ?_⟩⟩
      have HSP := HSF.out
      rw [hn] at HSP
      exact ⟨_, results_tmp2 rfl _ _ _, _, rfl, Kd.S_clip (HSP _) (Nat.le_refl _) hcap, HBF.out _ _⟩
  case body =>
    rintro l pre x W ⟨⟨Hp, ⟨v, Ho, HS⟩, Ha⟩, HB2, HB3⟩ hlen
    dsimp only
    have HPP := Aside0.mk Hp; have HOO := Aside0.mk Ho; have HAA := Aside0.mk Ha; have HSS := Aside0.mk HS; have HB2' := Aside0.mk HB2; have HB3' := Aside0.mk HB3
    have HS6 := Aside0.mk hs6
    have HPP0 := Aside0.mk Hp
    clear Hp Ho Ha HS HB2 HB3 BKs BKn BKp BKo BKa HB hs6
    have Z1 := zz9 HPP
    have HW := Aside0.mk (Below.refl W.heap.size W)
    refine wpIn_block (wpIn_seq ?_)
    refine wpR_region (by rintro ⟨_, _, h⟩; exact h) _ rfl (by rfl) ?_
    go_wp2_with (first
      | ((with_reducible refine gate_dst (N := 9) rfl ?_); refine box_ (N := 9) (cs := #[.int .i64 0, .int .i64 0, .int .i64 0, .int .i64 0, .int .i64 0, .int .i64 0, .bool false, .bool false, .slice none 0 0]) (t := 24) (fun gq hg w7 hbox hb => ?_); have BKq := Aside0.mk (hbox); have HGq := Aside0.mk hg; replace HW := (bs_ HW hb); replace HPP := (bbA_ HPP hb); clear hb hbox hg Z1; have Z1 := zz9 HPP; have Z2 := zz9 BKq))
    refine wpIn_seq ?_
    have hb8 : Below W.heap.size W (((((((((w7.setCell ⟨gq, 0, none⟩ (.int .i64 a0_0)).setCell ⟨gq, 1, none⟩ (.int .i64 a0_1)).setCell ⟨gq, 2, none⟩ (.int .i64 a0_2)).setCell ⟨gq, 3, none⟩ (.int .i64 a0_3)).setCell ⟨gq, 4, none⟩ (.int .i64 a0_4)).setCell ⟨gq, 5, none⟩ (.int .i64 a0_5)).setCell ⟨gq, 6, none⟩ (.bool a0_6)).setCell ⟨gq, 7, none⟩ (.bool a0_7)).setCell ⟨gq, 8, none⟩ (.slice (some ad) l0_8.length c0_8)) := by
      have hgq := Nat.le_of_eq HGq.out.symm
      have s : ∀ {w' : World} (o : Nat) (u : Value), Below W.heap.size W w' → Below W.heap.size W (w'.setCell ⟨gq, o, none⟩ u) := fun o u h => h.setCell (p := ⟨gq, o, none⟩) hgq u
      exact s _ _ (s _ _ (s _ _ (s _ _ (s _ _ (s _ _ (s _ _ (s _ _ (s _ _ HW.out))))))))
    have bq8 := pz9 (v0 := .int .i64 a0_0) (v1 := .int .i64 a0_1) (v2 := .int .i64 a0_2) (v3 := .int .i64 a0_3) (v4 := .int .i64 a0_4) (v5 := .int .i64 a0_5) (v6 := .bool a0_6) (v7 := .bool a0_7) (v8 := .slice (some ad) l0_8.length c0_8) BKq.out
    generalize (((((((((w7.setCell ⟨gq, 0, none⟩ (.int .i64 a0_0)).setCell ⟨gq, 1, none⟩ (.int .i64 a0_1)).setCell ⟨gq, 2, none⟩ (.int .i64 a0_2)).setCell ⟨gq, 3, none⟩ (.int .i64 a0_3)).setCell ⟨gq, 4, none⟩ (.int .i64 a0_4)).setCell ⟨gq, 5, none⟩ (.int .i64 a0_5)).setCell ⟨gq, 6, none⟩ (.bool a0_6)).setCell ⟨gq, 7, none⟩ (.bool a0_7)).setCell ⟨gq, 8, none⟩ (.slice (some ad) l0_8.length c0_8)) = w8 at *
    clear Z1 Z2 HW HPP BKq
    have HA8 := bbA_ HAA hb8
    have BKq := Aside0.mk bq8; clear bq8
    have HW := Aside0.mk hb8; clear hb8
    have hgaW : ga < W.heap.size := (Array.getElem?_eq_some_iff.1 HAA.out).1
    have hne1 : gq ≠ ga := by have := HGq.out; omega
    have hne2 : ga ≠ gq := hne1.symm
    have hx := x.2
    obtain ⟨d, hd⟩ : ∃ d, (l0_8.drop (m * x.1)).take m = d := ⟨_, rfl⟩
    have hdl : lenM m l0_8.length x.1 = d.length := by rw [← hd, List.length_take, List.length_drop]; unfold lenM; split <;> omega
    have hdm : d.length ≤ 48 := by rw [← hd, List.length_take, List.length_drop]; omega
    have hch : chunkM ad m l0_8.length x.1 = .slice (some (ad.add (m * x.1))) d.length d.length := by unfold chunkM; rw [hdl]
    rw [hch]
    have HCd : Aside0 (Kd.C (Kd.int .u8) w (some (ad.add (m * x.1))) d.length d) := ⟨hd ▸ C_drop HR0_8.out (m * x.1) m hx⟩
    have hf : impl_clone_byte.f d = some d := if_pos (by omega)
    obtain ⟨at0, hat0⟩ : ∃ a, atC ⟨a0_0, a0_1, a0_2, a0_3, a0_4, a0_5, a0_6, a0_7, l0_8⟩ m pre = a := ⟨_, rfl⟩
    rw [hat0] at HA8 HAA
    have HT := Aside0.mk hat0; clear hat0
    have Z1 := blk_cell HA8.out 0
    have Z1' : w8.frozen? ⟨ga, 0, none⟩ = false := blk_frozen HA8.out 0
    have Z2 := zz9 BKq
    have HBw : Below w.heap.size w w8 := HB2'.out.trans (HW.out.mono (below_size HB2'.out))
    have HC8 := Aside0.mk (Kd.C_drew (Kd.C_below HCd.out HBw)); clear HBw
    have hq8 : gq < w8.heap.size := (Array.getElem?_eq_some_iff.1 BKq.out).1
    have HCALL := fun (c : Nat) (hc : d.length ≤ c) => impl_clone_byte.calls (some (ad.add (m * x.1))) c d d w8.drew HC8.out hc hf
    refine wpR_region_any (by kernel_rfl) (by rintro ⟨_, _, h⟩; exact h) (by rfl) ?_
    refine wpAny_take (i := 1) (v := .slice (some (ad.add (m * x.1))) d.length d.length) rfl (by kernel_rfl) (by kernel_rfl) (by kernel_rfl) (fun _ _ _ h => h) (Or.inl ⟨by rfl, fun w => by go_simp⟩) ?_
    go_simp
    refine wpAny_ready (rs := [0, 2]) (by kernel_rfl) (by simp) (AllReady.cons rfl (fun K hK => ?_) (AllReady.cons rfl (fun K hK => ?_) AllReady.nil))
    case' refine_1 =>
      go_simp
      refine hK _ _ ?_
      clear hK
      refine wpAny_take (i := 3) (v := .pointer (some ⟨gq, 5, none⟩)) rfl (by kernel_rfl) (by kernel_rfl) (by kernel_rfl) (fun _ _ _ h => h) (Or.inl ⟨by rfl, fun w => by go_simp⟩) ?_
      go_simp
      refine wpAny_ready (rs := [2]) (by kernel_rfl) (by simp) (AllReady.cons rfl (fun K hK => ?_) AllReady.nil)
      go_simp
      refine (HCALL _ (Nat.le_refl _)).mono ?_
      rintro e w9 ⟨v8_, rfl, hR, hb9⟩; obtain ⟨A8, c8, rfl⟩ := Kd.R_slice hR
      refine hK _ _ ?_
      clear hK Z1 Z1' Z2
    case' refine_2 =>
      go_simp
      refine (HCALL _ (Nat.le_refl _)).mono ?_
      rintro e w9 ⟨v8_, rfl, hR, hb9⟩; obtain ⟨A8, c8, rfl⟩ := Kd.R_slice hR
      refine hK _ _ ?_
      clear hK Z1 Z1' Z2
      have HA9 := bbA_ HA8 hb9
      have Z1 := blk_cell HA9.out 0
      have Z1' : w9.frozen? ⟨ga, 0, none⟩ = false := blk_frozen HA9.out 0
      refine wpAny_ready (rs := [0]) (by kernel_rfl) (by simp) (AllReady.cons rfl (fun K hK => ?_) AllReady.nil)
      go_simp
      refine hK _ _ ?_
      clear hK Z1 Z1' HA9
      refine wpAny_take (i := 3) (v := .pointer (some ⟨gq, 5, none⟩)) rfl (by kernel_rfl) (by kernel_rfl) (by kernel_rfl) (fun _ _ _ h => h) (Or.inl ⟨by rfl, fun w => by go_simp⟩) ?_
      go_simp
    all_goals
      have BKq9 := bbA_ BKq hb9
      have Z2 := zz9 BKq9
      refine wpAny_ready (rs := [4]) (by kernel_rfl) (by simp) (AllReady.cons rfl (fun K4 hK4 => ?_) AllReady.nil)
      go_simp
      refine hK4 _ _ ?_
      clear hK4
      refine wpAny_ready (rs := [5]) (by kernel_rfl) (by simp) (AllReady.cons rfl (fun K5 hK5 => ?_) AllReady.nil)
      go_simp
      refine hK5 _ _ ?_
      clear hK5
      refine wpAny_ready (rs := [6]) (by kernel_rfl) (by simp) (AllReady.cons rfl (fun K6 hK6 => ?_) AllReady.nil)
      go_simp
      refine hK6 _ _ ?_
      clear hK6
      refine wpAny_ready (rs := [7]) (by kernel_rfl) (by simp) (AllReady.cons rfl (fun K7 hK7 => ?_) AllReady.nil)
      go_simp
      refine hK7 _ _ ?_
      clear hK7
      refine wpAny_ready (rs := [8]) (by kernel_rfl) (by simp) (AllReady.cons rfl (fun K8 hK8 => ?_) AllReady.nil)
      go_simp
      refine hK8 _ _ ?_
      clear hK8
      refine wpAny_done (by kernel_rfl) ?_ _
      have hb9w := bs_ HW hb9
      have hgqW := Nat.le_of_eq HGq.out.symm
      have bq10 := blk_put (blk_put (blk_put BKq9.out 5 (.int .i64 at0) rfl) 8 (.slice A8 d.length c8) rfl) 6 (.bool true) rfl
      have hb10 : Below W.heap.size W (((w9.setCell ⟨gq, 5, none⟩ (.int .i64 at0)).setCell ⟨gq, 8, none⟩ (.slice A8 d.length c8)).setCell ⟨gq, 6, none⟩ (.bool true)) := ((hb9w.out.setCell (p := ⟨gq, 5, none⟩) hgqW _).setCell (p := ⟨gq, 8, none⟩) hgqW _).setCell (p := ⟨gq, 6, none⟩) hgqW _
      have hR2 := Kd.R_far (p := ⟨gq, 6, none⟩) (Kd.R_far (p := ⟨gq, 8, none⟩) (Kd.R_far (p := ⟨gq, 5, none⟩) (Kd.R_mono (Kd.R_bound hR) (ok' := fun k => k ≠ gq ∧ W.heap.size ≤ k) (fun k hk => by have h1 : w8.heap.size ≤ k := hk.2.1; have := HW.out.size; omega)) (fun k hk => hk.1) (.int .i64 at0)) (fun k hk => hk.1) (.slice A8 d.length c8)) (fun k hk => hk.1) (.bool true)
      replace hR2 := Kd.R_lower hR2 (show ga + 3 ≤ w8.drew.heap.size by have := HB3'.out.size; have := HW.out.size; have : W6.heap.size = ga + 3 := HS6.out; show ga + 3 ≤ w8.heap.size; omega)
      generalize ((w9.setCell ⟨gq, 5, none⟩ (.int .i64 at0)).setCell ⟨gq, 8, none⟩ (.slice A8 d.length c8)).setCell ⟨gq, 6, none⟩ (.bool true) = w10 at *
      clear Z2 BKq9 hR hb9w hb9
      show Code.wpIn (Fence.wide.inRound l) 3 Try.prog _ _ _ _
      refine wpIn_seq ?_
      refine wpR_region (by rintro ⟨_, _, h⟩; exact h) _ rfl (by rfl) ?_
      have HA10 := bbA_ HAA hb10
      have Z1 := blk_cell HA10.out 0
      have Z1' : w10.frozen? ⟨ga, 0, none⟩ = false := blk_frozen HA10.out 0
      go_wp2
      have HO10 := bbA_ HOO hb10
      have HO11 := (Below.heap_setCell w10 ⟨ga, 0, none⟩ (.int .i64 (wrap64 (at0 + (d.length : Int)))) go (show go ≠ ga by omega)).trans HO10.out
      have BK11 := Aside0.mk ((Below.heap_setCell w10 ⟨ga, 0, none⟩ (.int .i64 (wrap64 (at0 + (d.length : Int)))) gq (show gq ≠ ga by omega)).trans bq10)
      have hR3 := Aside0.mk (Kd.R_far (p := ⟨ga, 0, none⟩) hR2 (fun k hk => by have := hk.2; show k ≠ ga; omega) (.int .i64 (wrap64 (at0 + (d.length : Int)))))
      have hS3 := Aside0.mk (Kd.S_step (Kd.S_bound HSS.out) (w1 := w10.setCell ⟨ga, 0, none⟩ (.int .i64 (wrap64 (at0 + (d.length : Int))))) (fun k hk hlt => (Below.heap_setCell w10 ⟨ga, 0, none⟩ _ k (by have := hk.2.1; show k ≠ ga; omega)).trans (hb10.block k hlt)))
      have hsz11 : ga + 3 ≤ (w10.setCell ⟨ga, 0, none⟩ (.int .i64 (wrap64 (at0 + (d.length : Int))))).heap.size := by
        have h1 : (w10.setCell ⟨ga, 0, none⟩ (.int .i64 (wrap64 (at0 + (d.length : Int))))).heap.size = w10.heap.size := by simp [World.setCell]
        have := hb10.size; have := HB3'.out.size; have : W6.heap.size = ga + 3 := HS6.out; omega
      have HB10 := Aside0.mk hb10
      clear hb10 hR2 bq10 Z1 Z1'
      have HLW : Aside0 (∀ w1, (w10.setCell ⟨ga, 0, none⟩ (.int .i64 (wrap64 (at0 + (d.length : Int))))).grownBy w1 v.ownBlock ↔ (w10.setCell ⟨ga, 0, none⟩ (.int .i64 (wrap64 (at0 + (d.length : Int))))).grownBy w1 v.ownBlock) := ⟨fun _ => Iff.rfl⟩
      generalize hw11 : w10.setCell ⟨ga, 0, none⟩ (.int .i64 (wrap64 (at0 + (d.length : Int)))) = w11 at *
      have HW11 := Aside0.mk hw11; clear hw11 HLW
      have Z1 := blk_cell HO11 0
      have Z1' : w11.frozen? ⟨go, 0, none⟩ = false := blk_frozen HO11 0
      have HO11' := Aside0.mk HO11; clear HO11
      have Z2 := zz9 BK11
      refine wpR_region (by rintro ⟨_, _, h⟩; exact h) _ rfl (by rfl) ?_
      go_wp2_with (first
        | ((with_reducible refine gate_builtin (b := .append) (xs := #[.tmp 37, .tmp 39]) rfl ?_); at_builtin; refine Kd.S_append k24 (w0 := w11) (ga + 3) rfl (.tmp 37) (.tmp 39) 27 24 (.agg #[(.int .i64 0), (.int .i64 0), (.int .i64 0), (.int .i64 0), (.int .i64 0), (.int .i64 0), (.bool false), (.bool false), (.slice none 0 0)]) 80 rfl Try.underlying27 info24 rfl (by decide) (by omega) v (outC ⟨a0_0, a0_1, a0_2, a0_3, a0_4, a0_5, a0_6, a0_7, l0_8⟩ m pre) (⟨a0_0, a0_1, a0_2, a0_3, a0_4, at0, true, a0_7, d⟩ : S24) [.int .i64 a0_0, .int .i64 a0_1, .int .i64 a0_2, .int .i64 a0_3, .int .i64 a0_4, .int .i64 at0, .bool true, .bool a0_7, .slice A8 d.length c8] (fun _ => True) (fun k_ => some k_ = (.slice A8 d.length c8 : Value).ownBlock) rfl rfl ?aP ?aK (fun _ _ => trivial) ?aO (Below.refl _ _) hsz11 ?aL ?_
           (case aP => exact k24_mkM _ _ _ (⟨a0_0, a0_1, a0_2, a0_3, a0_4, at0, true, a0_7, d⟩ : S24) (Kd.R_tight rfl hR3.out))
           (case aK => exact fun k hk => ⟨trivial, fun e => by have h1 := (hR3.out.1 k hk.symm).2; have h2 := (Kd.S_R hS3.out).1 k e.symm; have := h2.2.2.1; omega⟩)
           (case aO => exact Kd.S_mono hS3.out (fun k hk => ⟨trivial, fun e => by have h1 := (hR3.out.1 k e.symm).2; have := hk.2.2.1; omega⟩))
           (case aL => rw [outC_length]; omega)
           intro v1 w1 ho hb hg hat
           have HF := Aside0.mk (cut_round_end (W := W) (w10 := w10) (u := .int .i64 (wrap64 (at0 + (d.length : Int)))) hgs (show ga < ga + 3 by omega) (show ga + 3 ≤ W.heap.size by have := HB3'.out.size; have : W6.heap.size = ga + 3 := HS6.out; omega) HOO.out HAA.out HSS.out HB10.out (HW11.out ▸ hg) ho)
           have hg1 : w1.heap[go]? = some (.cells #[v] 27 (0, 0)) := (hg.block go (by omega) (fun e => by have h2 := (Kd.S_R hS3.out).1 go e.symm; have := h2.2.1; omega)).trans HO11'.out
           have Z3 := blk_frozen hg1 0
           have Z4 := blk_cell hg1 0
           obtain ⟨A1, n1, c1, rfl⟩ : ∃ A n c, v1 = .slice A n c := by obtain ⟨A, c, e⟩ := Kd.S_slice ho; exact ⟨_, _, _, e⟩
           clear ho hb hg hat Z1 Z1' Z2 hg1))
      obtain ⟨f1, f2, f3, f4, f5, f6⟩ := HF.out
      have hat2 := atC_in ⟨a0_0, a0_1, a0_2, a0_3, a0_4, a0_5, a0_6, a0_7, l0_8⟩ m hl pre
      rw [HT.out] at hat2
      dsimp only at hat2
      have hwr : wrap64 (at0 + (d.length : Int)) = at0 + (d.length : Int) := cut_wrap (by omega) (by omega)
      have hps := HPP0.out
      refine ⟨HS6.out ▸ f1, f2, ⟨(f2 gp (by omega) (by omega) (by omega)).trans hps, ⟨_, f3, ?_⟩, ?_⟩, HB2'.out.trans (f5 w.heap.size (by omega)), HB3'.out.trans (f5 0 (by omega))⟩
      · rw [outC_snoc, HT.out]
        simp only [hd]
        exact f6
      · rw [atC_snoc, HT.out]
        simp only [hd]
        rw [← hwr]; exact f4
set_option maxHeartbeats 4000000 in
theorem cut_calls2 (a0_0 : Int) (a0_1 : Int) (a0_2 : Int) (a0_3 : Int) (a0_4 : Int) (a0_5 : Int) (a0_6 : Bool) (a0_7 : Bool) (A0_8 : Option Addr) (c0_8 : Nat) (l0_8 : List Int) (a1 : Int) (r1 : List (S24)) (r2 : Bool) (w : World) (hr0_8 : Kd.C (Kd.int .u8) w A0_8 l0_8.length l0_8) (hc0_8 : l0_8.length ≤ c0_8) (h : impl_cut.f a0_0 a0_1 a0_2 a0_3 a0_4 a0_5 a0_6 a0_7 l0_8 a1 = some (r1, r2)) :
    Calls Try.prog 57 #[.agg #[.int .i64 a0_0, .int .i64 a0_1, .int .i64 a0_2, .int .i64 a0_3, .int .i64 a0_4, .int .i64 a0_5, .bool a0_6, .bool a0_7, .slice A0_8 l0_8.length c0_8], .int .i64 a1] w fun e w' => ∃ v0_ : Value, e = .returned (.tuple #[v0_, .bool r2]) ∧ Kd.S k24 24 w' w.heap.size (fun _ => True) v0_ r1 ∧ Below w.heap.size w w' := by
  obtain ⟨⟨hl, hm1, hm2, h50, h5⟩, hout⟩ : (l0_8.length ≤ 48 ∧ 1 ≤ a1 ∧ a1 ≤ 48 ∧ 0 ≤ a0_5 ∧ a0_5 ≤ 255) ∧ impl_cut.out ⟨a0_0, a0_1, a0_2, a0_3, a0_4, a0_5, a0_6, a0_7, l0_8⟩ a1.toNat = (r1, r2) := by
    unfold impl_cut.f at h; split at h
    · exact ⟨by assumption, Option.some.inj h⟩
    · cases h
  clear h
  obtain ⟨m, rfl⟩ : ∃ m : Nat, a1 = (m : Int) := ⟨a1.toNat, by omega⟩
  rw [Int.toNat_natCast] at hout
  by_cases c : l0_8.length ≤ m
  · unfold impl_cut.out at hout
    rw [if_pos c] at hout
    cases hout
    exact cut_short a0_0 a0_1 a0_2 a0_3 a0_4 a0_5 a0_6 a0_7 A0_8 c0_8 l0_8 m w hr0_8 hc0_8 hl c
  · exact cut_long a0_0 a0_1 a0_2 a0_3 a0_4 a0_5 a0_6 a0_7 A0_8 c0_8 l0_8 m w hr0_8 hc0_8 hl (by omega) (by omega) h50 h5 r1 r2 hout
end
theorem impl_cut.calls (a0_0 : Int) (a0_1 : Int) (a0_2 : Int) (a0_3 : Int) (a0_4 : Int) (a0_5 : Int) (a0_6 : Bool) (a0_7 : Bool) (A0_8 : Option Addr) (c0_8 : Nat) (l0_8 : List Int) (a1 : Int) (r1 : List (S24)) (r2 : Bool) (w : World) (hr0_8 : Kd.C (Kd.int .u8) w A0_8 l0_8.length l0_8) (hc0_8 : l0_8.length ≤ c0_8) (h : impl_cut.f a0_0 a0_1 a0_2 a0_3 a0_4 a0_5 a0_6 a0_7 l0_8 a1 = some (r1, r2)) :
    Calls Try.prog 57 #[.agg #[.int .i64 a0_0, .int .i64 a0_1, .int .i64 a0_2, .int .i64 a0_3, .int .i64 a0_4, .int .i64 a0_5, .bool a0_6, .bool a0_7, .slice A0_8 l0_8.length c0_8], .int .i64 a1] w fun e w' => ∃ v0_ : Value, e = .returned (.tuple #[v0_, .bool r2]) ∧ Kd.S k24 24 w' w.heap.size (fun _ => True) v0_ r1 ∧ Below w.heap.size w w' := by
  exact cut_calls2 a0_0 a0_1 a0_2 a0_3 a0_4 a0_5 a0_6 a0_7 A0_8 c0_8 l0_8 a1 r1 r2 w hr0_8 hc0_8 h
def impl_PacketCut.f (a0_0 : Int) (a0_1 : Int) (a0_2 : Int) (a0_3 : Int) (a0_4 : Int) (a0_5 : Int) (a0_6 : Bool) (a0_7 : Bool) (l0_8 : List Int) (a1 : Int) : Option ((List (S24)) × Bool) := (impl_PacketOk.f a0_0 a0_1 a0_2 a0_3 a0_4 a0_5 a0_6 a0_7 l0_8).bind fun t228 => (if t228 = true then ((impl_in.f a1 1 48).bind fun t229 => (if t229 = true then ((impl_cut.f a0_0 a0_1 a0_2 a0_3 a0_4 a0_5 a0_6 a0_7 l0_8 a1).bind fun bt230 => (some (bt230.1, bt230.2))) else (some (([] : List (S24)), false)))) else (some (([] : List (S24)), false)))
set_option maxHeartbeats 8000000 in
set_option maxRecDepth 100000 in
theorem impl_PacketCut.calls (a0_0 : Int) (a0_1 : Int) (a0_2 : Int) (a0_3 : Int) (a0_4 : Int) (a0_5 : Int) (a0_6 : Bool) (a0_7 : Bool) (A0_8 : Option Addr) (c0_8 : Nat) (l0_8 : List Int) (a1 : Int) (r1 : List (S24)) (r2 : Bool) (w : World) (hr0_8 : Kd.C (Kd.int .u8) w A0_8 l0_8.length l0_8) (hc0_8 : l0_8.length ≤ c0_8) (h : impl_PacketCut.f a0_0 a0_1 a0_2 a0_3 a0_4 a0_5 a0_6 a0_7 l0_8 a1 = some (r1, r2)) :
  Calls Try.prog 10 #[.agg #[.int .i64 a0_0, .int .i64 a0_1, .int .i64 a0_2, .int .i64 a0_3, .int .i64 a0_4, .int .i64 a0_5, .bool a0_6, .bool a0_7, .slice A0_8 l0_8.length c0_8], .int .i64 a1] w fun e w' => ∃ v0_ : Value, e = .returned (.tuple #[v0_, .bool r2]) ∧ Kd.S k24 24 w' w.heap.size (fun _ => True) v0_ r1 ∧ Below w.heap.size w w' := by
 have hu24 := Try.underlying24; have HR0_8 := Aside0.mk hr0_8; have HC0_8 := Aside0.mk hc0_8; clear hr0_8 hc0_8
 have HB := Aside0.mk (Below.refl w.heap.size w)
 have H : ((impl_PacketOk.f a0_0 a0_1 a0_2 a0_3 a0_4 a0_5 a0_6 a0_7 l0_8).bind fun t228 => (if t228 = true then ((impl_in.f a1 1 48).bind fun t229 => (if t229 = true then ((impl_cut.f a0_0 a0_1 a0_2 a0_3 a0_4 a0_5 a0_6 a0_7 l0_8 a1).bind fun bt230 => (some (bt230.1, bt230.2))) else (some (([] : List (S24)), false)))) else (some (([] : List (S24)), false)))) = some (r1, r2) := h
 clear h
 replace H := Option.bind_eq_some_iff.mp H
 obtain ⟨t228, A30, H⟩ := H
 (try dsimp only at H)
 have A3 := Aside0.mk A30; clear A30
 by_cases c4 : t228 = true
 ·subst c4
  rw [if_pos rfl] at H
  replace H := Option.bind_eq_some_iff.mp H
  obtain ⟨t229, A50, H⟩ := H
  (try dsimp only at H)
  have A5 := Aside0.mk A50; clear A50
  by_cases c6 : t229 = true
  ·subst c6
   rw [if_pos rfl] at H
   replace H := Option.bind_eq_some_iff.mp H
   obtain ⟨⟨t230, t233⟩, A70, H⟩ := H
   (try dsimp only at H)
   have A7 := Aside0.mk A70; clear A70
   simp only [Option.some.injEq, Prod.mk.injEq] at H
   obtain ⟨rfl, rfl⟩ := H
   go_enter Try.func10, Try.ntmps10
   go_wp2_with (first | ((with_reducible refine gate_dst (N := 2) rfl ?_); refine box_ (N := 2) (cs := #[.int .i64 a0_0, .int .i64 a0_1, .int .i64 a0_2, .int .i64 a0_3, .int .i64 a0_4, .int .i64 a0_5, .bool a0_6, .bool a0_7, .slice A0_8 l0_8.length c0_8]) (t := 24) (fun gb227 hg w8 hbox hb => ?_); have BK227 := Aside0.mk (hbox); have GW227 := ge_ hg HB; have GE227 := ge_ hg HB; replace HB := (bs_ HB hb); clear hb hbox hg; have Z9 := zz9 BK227) | ((with_reducible refine gate_callee (f := 14) rfl ?_); refine goesL_ (some 7) rfl rfl Try.func14 (by kernel_rfl) rfl #[.agg #[.int .i64 a0_0, .int .i64 a0_1, .int .i64 a0_2, .int .i64 a0_3, .int .i64 a0_4, .int .i64 a0_5, .bool a0_6, .bool a0_7, .slice A0_8 l0_8.length c0_8]] rfl ar_ ?_; (with_reducible refine (impl_PacketOk.calls a0_0 a0_1 a0_2 a0_3 a0_4 a0_5 a0_6 a0_7 _ _ l0_8 true _ ?side1 ?side2 A3.out).mono ?_); (case side1 => exact kC_ (Kd.C_below HR0_8.out HB.out)); (case side2 => exact HC0_8.out); rintro e w10 ⟨rfl, hb⟩; refine ⟨_, rfl, ?_⟩; replace BK227 := (bbA_ BK227 hb); replace HB := (bs_ HB hb); (try clear hb); (try clear hb2); (try clear hk); (try clear hi)) | (go_at_call 56; (with_reducible refine (impl_in.calls a1 1 48 true _ A5.out).mono ?_); rintro e w' ⟨rfl, ⟨nd, rfl⟩⟩; have Z11 := zz9 BK227) | ((with_reducible refine gate_callee (f := 57) rfl ?_); refine goesL_ (some 16) rfl rfl Try.func57 (by kernel_rfl) rfl #[.agg #[.int .i64 a0_0, .int .i64 a0_1, .int .i64 a0_2, .int .i64 a0_3, .int .i64 a0_4, .int .i64 a0_5, .bool a0_6, .bool a0_7, .slice A0_8 l0_8.length c0_8], .int .i64 a1] rfl ar_ ?_; (with_reducible refine (impl_cut.calls a0_0 a0_1 a0_2 a0_3 a0_4 a0_5 a0_6 a0_7 _ _ l0_8 a1 t230 t233 _ ?side1 ?side2 A7.out).mono ?_); (case side1 => exact kC_ (Kd.C_below HR0_8.out (hbA_ HB.out))); (case side2 => exact HC0_8.out); rintro e w12 ⟨v231, rfl, ho0, hb⟩; refine ⟨_, rfl, ?_⟩; have HO232 := Aside0.mk (Kd.S_lower (nbS_ ho0 BK227) (below_size (hbA_ HB.out))); replace BK227 := (bbA_ BK227 hb); replace HB := (bs_ HB hb); (try clear hb); (try clear hb2); (try clear hk); (try clear hi); (try clear ho0)))
   go_ret2
   exact ⟨_, by first | rfl | (simp [errW_none, errW_some] <;> rfl) | (simp [*, errW_none, errW_some] <;> rfl), by refine kS_ ?_; exact Kd.S_mono HO232.out (fun _ hk => trivial), hbA_ HB.out⟩
  ·replace c6 := Bool.eq_false_iff.mpr c6
   subst c6
   rw [if_neg (show ¬ (false = true) by decide)] at H
   simp only [Option.some.injEq, Prod.mk.injEq] at H
   obtain ⟨rfl, rfl⟩ := H
   go_enter Try.func10, Try.ntmps10
   go_wp2_with (first | ((with_reducible refine gate_dst (N := 2) rfl ?_); refine box_ (N := 2) (cs := #[.int .i64 a0_0, .int .i64 a0_1, .int .i64 a0_2, .int .i64 a0_3, .int .i64 a0_4, .int .i64 a0_5, .bool a0_6, .bool a0_7, .slice A0_8 l0_8.length c0_8]) (t := 24) (fun gb227 hg w13 hbox hb => ?_); have BK227 := Aside0.mk (hbox); have GW227 := ge_ hg HB; have GE227 := ge_ hg HB; replace HB := (bs_ HB hb); clear hb hbox hg; have Z14 := zz9 BK227) | ((with_reducible refine gate_callee (f := 14) rfl ?_); refine goesL_ (some 7) rfl rfl Try.func14 (by kernel_rfl) rfl #[.agg #[.int .i64 a0_0, .int .i64 a0_1, .int .i64 a0_2, .int .i64 a0_3, .int .i64 a0_4, .int .i64 a0_5, .bool a0_6, .bool a0_7, .slice A0_8 l0_8.length c0_8]] rfl ar_ ?_; (with_reducible refine (impl_PacketOk.calls a0_0 a0_1 a0_2 a0_3 a0_4 a0_5 a0_6 a0_7 _ _ l0_8 true _ ?side1 ?side2 A3.out).mono ?_); (case side1 => exact kC_ (Kd.C_below HR0_8.out HB.out)); (case side2 => exact HC0_8.out); rintro e w15 ⟨rfl, hb⟩; refine ⟨_, rfl, ?_⟩; replace BK227 := (bbA_ BK227 hb); replace HB := (bs_ HB hb); (try clear hb); (try clear hb2); (try clear hk); (try clear hi)) | (go_at_call 56; (with_reducible refine (impl_in.calls a1 1 48 false _ A5.out).mono ?_); rintro e w' ⟨rfl, ⟨nd, rfl⟩⟩))
   go_ret2
   exact ⟨_, by first | rfl | (simp [errW_none, errW_some] <;> rfl) | (simp [*, errW_none, errW_some] <;> rfl), by first | exact Kd.S_nil _ _ _ _ _ | exact Kd.N_nil _ _ _ _ _ | exact Kd.V_nil _ _ _ _ _ | exact Kd.Q_nil _ _ _ _ _ | exact Kd.R_nil _ _ _ _ _, hbA_ HB.out⟩
 ·replace c4 := Bool.eq_false_iff.mpr c4
  subst c4
  rw [if_neg (show ¬ (false = true) by decide)] at H
  simp only [Option.some.injEq, Prod.mk.injEq] at H
  obtain ⟨rfl, rfl⟩ := H
  go_enter Try.func10, Try.ntmps10
  go_wp2_with (first | ((with_reducible refine gate_dst (N := 2) rfl ?_); refine box_ (N := 2) (cs := #[.int .i64 a0_0, .int .i64 a0_1, .int .i64 a0_2, .int .i64 a0_3, .int .i64 a0_4, .int .i64 a0_5, .bool a0_6, .bool a0_7, .slice A0_8 l0_8.length c0_8]) (t := 24) (fun gb227 hg w16 hbox hb => ?_); have BK227 := Aside0.mk (hbox); have GW227 := ge_ hg HB; have GE227 := ge_ hg HB; replace HB := (bs_ HB hb); clear hb hbox hg; have Z17 := zz9 BK227) | ((with_reducible refine gate_callee (f := 14) rfl ?_); refine goesL_ (some 7) rfl rfl Try.func14 (by kernel_rfl) rfl #[.agg #[.int .i64 a0_0, .int .i64 a0_1, .int .i64 a0_2, .int .i64 a0_3, .int .i64 a0_4, .int .i64 a0_5, .bool a0_6, .bool a0_7, .slice A0_8 l0_8.length c0_8]] rfl ar_ ?_; (with_reducible refine (impl_PacketOk.calls a0_0 a0_1 a0_2 a0_3 a0_4 a0_5 a0_6 a0_7 _ _ l0_8 false _ ?side1 ?side2 A3.out).mono ?_); (case side1 => exact kC_ (Kd.C_below HR0_8.out HB.out)); (case side2 => exact HC0_8.out); rintro e w18 ⟨rfl, hb⟩; refine ⟨_, rfl, ?_⟩; replace BK227 := (bbA_ BK227 hb); replace HB := (bs_ HB hb); (try clear hb); (try clear hb2); (try clear hk); (try clear hi)))
  go_ret2
  exact ⟨_, by first | rfl | (simp [errW_none, errW_some] <;> rfl) | (simp [*, errW_none, errW_some] <;> rfl), by first | exact Kd.S_nil _ _ _ _ _ | exact Kd.N_nil _ _ _ _ _ | exact Kd.V_nil _ _ _ _ _ | exact Kd.Q_nil _ _ _ _ _ | exact Kd.R_nil _ _ _ _ _, hbA_ HB.out⟩
def spec_l1In.f (a0 : Int) (a1 : Int) (a2 : Int) : Option (Bool) := if a0 ≥ a1 then (some (decide (a0 ≤ a2))) else (some false)
set_option maxHeartbeats 8000000 in
set_option maxRecDepth 100000 in
theorem spec_l1In.calls (a0 : Int) (a1 : Int) (a2 : Int) (r : Bool) (w : World) (h : spec_l1In.f a0 a1 a2 = some r) :
  Calls Try.prog 59 #[.int .i64 a0, .int .i64 a1, .int .i64 a2] w fun e w' => e = .returned (.bool r) ∧ Drawn0 w w' := by
 have H : (if a0 ≥ a1 then (some (decide (a0 ≤ a2))) else (some false)) = some r := h
 clear h
 by_cases c4 : a0 ≥ a1
 ·rw [if_pos c4] at H
  have c4b0 : decide (a1 ≤ a0) = true := decide_eq_true c4
  clear c4
  obtain rfl := Option.some.inj H
  go_enter Try.func59, Try.ntmps59
  go_wp2
  go_ret
  exact ⟨by first | rfl | (simp; done) | (simp [*]; done), by repeat (first | exact Drawn0.refl _ | apply Drawn0.step)⟩
 ·rw [if_neg c4] at H
  have c4b0 : decide (a1 ≤ a0) = false := decide_eq_false c4
  clear c4
  obtain rfl := Option.some.inj H
  go_enter Try.func59, Try.ntmps59
  go_wp2
  go_ret
  exact ⟨by first | rfl | (simp; done) | (simp [*]; done), by repeat (first | exact Drawn0.refl _ | apply Drawn0.step)⟩
end Go.Proofs.Ytbhofhdmbbipgaa.PFnPacketCut
