/- Printed by wip/xp/xprint.sh out of the translation, for this claim: what each function answers, as a plain function, and that the machine does just that. No condition. -/
import Derived.Test.YtegchbdjbefdbaaPFnExactClientOverx0
import Derived.Test.YtegchbdjbefdbaaPFnExactClientOverx1
import Derived.Test.YtegchbdjbefdbaaPFnExactClientOverx2
import Derived.Test.YtegchbdjbefdbaaPFnExactClientOverx3
import Derived.Test.YtegchbdjbefdbaaPFnExactClientOverx5
namespace Go.Proofs.Ytegchbdjbefdbaa.PFnExactClientOver
open Go.RowKit Go.Proofs.YtegchbdjbefdbaaW.PrintWords Go.Proofs.YtegchbdjbefdbaaW.PrintLast Go.Proofs.YtegchbdjbefdbaaW.PrintMore
attribute [local go_sem] max2_int min2_int max_two min_two max_three min_three max_four min_four   -- for this text's walks alone
set_option linter.unusedVariables false
set_option linter.unusedSimpArgs false
def laws_markWordsS.l0 : Nat → List S41 → Int → Int → Option (Int × List S41)
  | 0, _, _, _ => none
  | k + 1, x0, x1, x5 => if x5 < (x0.length : Int) then (if 0 ≤ x5 then ((laws_markByteS.f k (rd_T41 x0 x5).f1 (wrap64 (x1 + 1))).bind fun t => laws_markWordsS.l0 k (x0.set x5.toNat (⟨(x1), t.2⟩ : S41)) t.1 (wrap64 (x5 + 1))) else none) else (some (x1, x0))
def laws_markWordsS.f (k : Nat) (l0 : List S41) (a1 : Int) : Option (Int × List S41) := laws_markWordsS.l0 k l0 a1 0
theorem laws_markWordsS.mono_l : ∀ k, (∀ y0 y1 y2, LeO (laws_markWordsS.l0 k y0 y1 y2) (laws_markWordsS.l0 (k + 1) y0 y1 y2))
  | 0 => fun _ _ _ r h => by simp [laws_markWordsS.l0] at h
  | k + 1 => by
    have ih0 := laws_markWordsS.mono_l k
    · intro y0 y1 y2
      unfold laws_markWordsS.l0
      repeat' first
      | (with_reducible exact ih0 _ _ _)
      | (with_reducible exact laws_markByteS.mono _ _ _)
      | (with_reducible exact LeO.refl _)
      | (with_reducible exact LeO.none _)
      | (with_reducible refine LeO.ite ?_ ?_)
      | (with_reducible refine LeO.bind ?_ (fun _ => ?_))
      | exact ih0 _ _ _
      | exact laws_markByteS.mono _ _ _
      | exact LeO.none _
      | refine LeO.ite ?_ ?_
      | refine LeO.bind ?_ (fun _ => ?_)
theorem laws_markWordsS.mono : ∀ a0 a1 k, LeO (laws_markWordsS.f k a0 a1) (laws_markWordsS.f (k + 1) a0 a1) := by
  intro a0 a1 k
  have ih0 := laws_markWordsS.mono_l k
  unfold laws_markWordsS.f
  repeat' first
      | (with_reducible exact ih0 _ _ _)
      | (with_reducible exact laws_markByteS.mono _ _ _)
      | (with_reducible exact LeO.refl _)
      | (with_reducible exact LeO.none _)
      | (with_reducible refine LeO.ite ?_ ?_)
      | (with_reducible refine LeO.bind ?_ (fun _ => ?_))
      | exact ih0 _ _ _
      | exact laws_markByteS.mono _ _ _
      | exact LeO.none _
      | refine LeO.ite ?_ ?_
      | refine LeO.bind ?_ (fun _ => ?_)
set_option maxHeartbeats 8000000 in
set_option maxRecDepth 100000 in
theorem laws_markWordsS.calls (k : Nat) (P0_ : Nat → Prop) (u9000_ : Value) (l0 : List S41) (a1 : Int) (r1 : Int) (r2 : List S41) (w0 w : World) (hB : Below w0.heap.size w0 w) (ho0 : Kd.S k41 41 w w0.heap.size P0_ u9000_ l0) (h : laws_markWordsS.f k l0 a1 = some (r1, r2)) :
    Calls Try.prog 42 #[u9000_, .int .i64 a1] w fun e w' => e = .returned (.int .i64 r1) ∧ Kd.S k41 41 w' w0.heap.size P0_ u9000_ r2 ∧ Below w0.heap.size w0 w' ∧ Kept w w' (fun k_ => P0_ k_) := by
  have HO0 := Aside0.mk ho0; clear ho0
  have HK := Aside0.mk (Kept.refl w (fun k_ => P0_ k_))
  have HB := Aside0.mk hB; clear hB
  have H' := Aside0.mk (show laws_markWordsS.l0 k l0 a1 0 = some (r1, r2) from h)
  clear h
  go_enter Try.func42, Try.ntmps42
  go_wp2
  go_loopg [1, 5] k (fun kq v1 v5 w' => ∃ (x0_1 : List S41) (x1_1 : Int) (x5_1 : Int), v1 = .int .i64 x1_1 ∧ v5 = .int .i64 x5_1 ∧ Aside0 (laws_markWordsS.l0 kq x0_1 x1_1 x5_1 = some (r1, r2)) ∧ Aside0 (kq ≤ k) ∧ Aside0 (Kd.S k41 41 w' w0.heap.size P0_ u9000_ x0_1) ∧ Aside0 (Kept w w' (fun k_ => P0_ k_)) ∧ Aside0 (Below w0.heap.size w0 w'))
  case atStart => exact ⟨l0, a1, 0, (by first | rfl | (simp; done) | (simp [*]; done)), (by first | rfl | (simp; done) | (simp [*]; done)), H', ⟨Nat.le_refl _⟩, ⟨kS_ HO0.out⟩, ⟨by repeat (first | (with_reducible first | exact HK.out | apply Kept.alloc | apply Kept.drewN | apply Kept.drew) | exact HK.out)⟩, ⟨hbA_ HB.out⟩⟩
  case round =>
    clear H'; (try clear p2)
    obtain ⟨x0_1, x1_1, x5_1, rfl, rfl, HA, HK1, HO_0, HK, HB⟩ := hrel
    cases gk with
    | zero => exact absurd HA.out (by simp [laws_markWordsS.l0])
    | succ k1 =>
      have H := HA.out; clear HA
      simp only [laws_markWordsS.l0] at H
      by_cases c3 : x5_1 < (x0_1.length : Int)
      · rw [if_pos c3] at H
        have c3b0 : decide (x5_1 < (x0_1.length : Int)) = true := decide_eq_true c3
        by_cases c4 : 0 ≤ x5_1
        · rw [if_pos c4] at H
          have c4b0 : decide (0 ≤ x5_1) = true := decide_eq_true c4
          replace H := Option.bind_eq_some_iff.mp H
          obtain ⟨⟨t1, t2⟩, A20, H⟩ := H
          have A2 := Aside0.mk A20; clear A20
          have H' := Aside0.mk H
          clear H
          obtain ⟨Ao6, co6, eo6⟩ := Kd.S_slice HO_0.out
          subst eo6
          have p5 : 0 ≤ (x5_1 : Int) := c4
          have q5 : (x5_1 : Int) < ((x0_1.length : Nat) : Int) := c3
          have P5 := Aside0.mk p5
          have Q5 := Aside0.mk q5
          clear c3 c4
          obtain ⟨go5, co5, eo5, gb5, gl5, cl5, HG5⟩ := Kd.S_form HO_0.out (by omega)
          (first | cases eo5 | (injection eo5 with ea_ en_ ec_; (first | subst ea_ | (injection ea_ with ea_; subst ea_)); subst ec_; clear en_))
          have GB5 := Aside0.mk gb5; clear gb5 gl5 HG5
          have HMgo5 := Aside0.mk (show P0_ go5 from (Kd.S_R HO_0.out).1 _ rfl)
          have HS0 := Aside0.mk (show Kd.S k41 41 wr w0.heap.size P0_ (.slice (some ⟨go5, 0, none⟩) x0_1.length co6) (x0_1.set x5_1.toNat (rd_T41 x0_1 x5_1)) from Kd.S_start HO_0.out z41 x5_1)
          clear HO_0
          obtain ⟨ok0_, c0_, hM0_, hc0_, hf0_, hk0_, hb0_⟩ := Kd.S_cells HS0.out P5.out Q5.out
          obtain ⟨ve0_, rfl, ge0_⟩ := k41_openM hM0_
          have hx0 := hc0_ 0 _ rfl
          have hf0 := hf0_ 0
          (try simp only [show k41.sz = 2 from rfl, Nat.add_zero] at hx0 hf0)
          clear hM0_ hc0_ hf0_ hk0_ hb0_ ge0_
          replace p5 := eq_true p5
          replace q5 := eq_true q5
          have HP0 := Kd.S_put1 HS0.out P5.out Q5.out 0 (.int .i64 x1_1) (by decide) (⟨(x1_1), (rd_T41 x0_1 x5_1).f1⟩ : S41) (fun hM_ => by obtain ⟨v1, rfl, g1⟩ := k41_openM hM_; exact k41_mkM _ _ _ (⟨(x1_1), (rd_T41 x0_1 x5_1).f1⟩ : S41) g1)
          (try simp only [show k41.sz = 2 from rfl, Nat.add_zero] at HP0)
          go_wp2_with (first | ((with_reducible refine gate_store (t := 3) (p := 16) rfl ?_); refine store_event (t := 3) (p := 16) (v := ?vo_w8) (w1 := (wr.setCell ⟨go5, (x5_1 : Int).toNat * 2, none⟩ (.int .i64 x1_1))) ?hg ?ho ?hn ?hr ?_; (case ho => rfl); (case hg => rfl); (case hn => rfl); (case hr => first | (go_simp; done) | (go_simp; rfl)); intro w8 hw; have hg : wr.grownBy w8 (some go5) := (by rw [hw]; exact HP0.2); have HS1 : Aside0 (Kd.S k41 41 w8 w0.heap.size P0_ (.slice (some ⟨go5, 0, none⟩) x0_1.length co6) (x0_1.set x5_1.toNat (⟨(x1_1), (rd_T41 x0_1 x5_1).f1⟩ : S41))) := ⟨by rw [hw]; exact HP0.1⟩; clear HP0; replace HB := Aside0.mk ((by rw [hw]; exact below_set (HB.out) GB5.out : Below w0.heap.size w0 w8)); replace HK := Aside0.mk (Kept.of_grown (S := (fun k_ => P0_ k_)) hg (by repeat (first | (with_reducible first | exact HK.out | apply Kept.alloc | apply Kept.drewN | apply Kept.drew) | exact HK.out)) (fun k_ e_ => .inl (by injection e_ with e_; subst e_; exact HMgo5.out))); clear hg hw HS0 hx0 hf0; obtain ⟨ok1_, c1_, hM1_, hc1_, hf1_, hk1_, hb1_⟩ := Kd.S_cells HS1.out P5.out Q5.out; obtain ⟨ve1_, rfl, ge1_⟩ := k41_openM hM1_; obtain ⟨Ae1_, ce1_, ee1_⟩ := Kd.R_slice ge1_; subst ee1_; have hx1 := hc1_ 1 _ rfl; (try simp only [show k41.sz = 2 from rfl, Nat.add_zero] at hx1); have HG1 := Aside0.mk ge1_; have HK1_ := Aside0.mk hk1_; have HW1 := Aside0.mk @hb1_; clear hM1_ hc1_ hf1_ ge1_ hk1_ hb1_) | ((with_reducible refine gate_callee (f := 34) rfl ?_); refine goesL_ (some 25) rfl rfl Try.func34 (by kernel_rfl) rfl #[.slice Ae1_ (rd_T41 x0_1 x5_1).f1.length ce1_, .int .i64 (wrap64 (x1_1 + 1))] rfl ar_ ?_; refine (laws_markByteS.calls k1 (fun k_ => some k_ = (.slice Ae1_ (rd_T41 x0_1 x5_1).f1.length ce1_ : Value).ownBlock) _ _ _ t1 t2 w0 _ HB.out (Kd.R_tight rfl HG1.out) A2.out).mono ?_; rintro e w30 ⟨rfl, hy, hb, hkp⟩; refine ⟨_, rfl, ?_⟩; have HSe : Aside0 (Kd.S k41 41 w30 w0.heap.size P0_ (.slice (some ⟨go5, 0, none⟩) x0_1.length co6) (x0_1.set x5_1.toNat (⟨(x1_1), t2⟩ : S41))) := ⟨HW1.out hkp (fun k_ e_ => HG1.out.1 k_ e_.symm) (k41_mkM _ _ _ (⟨(x1_1), t2⟩ : S41) (Kd.R_reok rfl hy (fun k_ e_ => HG1.out.1 k_ e_)))⟩; replace HB := Aside0.mk hb; replace HK := Aside0.mk (Kept.then_ (S := (fun k_ => P0_ k_)) (by repeat (first | (with_reducible first | exact HK.out | apply Kept.alloc | apply Kept.drewN | apply Kept.drew) | exact HK.out)) hkp (fun k_ e_ => .inl (HK1_.out k_ (HG1.out.1 k_ e_.symm)).1)); clear hy hb hkp HW1 HS1 hx1 HG1 HK1_))
          go_roundg k1
          case measure => have := HK1.out; omega
          case rel => exact ⟨(x0_1.set x5_1.toNat (⟨(x1_1), t2⟩ : S41)), t1, (wrap64 (x5_1 + 1)), (by first | rfl | (simp; done) | (simp [*]; done)), (by first | rfl | (simp; done) | (simp [*]; done)), H', ⟨by have := HK1.out; omega⟩, ⟨kS_ HSe.out⟩, ⟨by repeat (first | (with_reducible first | exact HK.out | apply Kept.alloc | apply Kept.drewN | apply Kept.drew) | exact HK.out)⟩, ⟨hbA_ HB.out⟩⟩
        · rw [if_neg c4] at H
          exact absurd H (by simp)
      · rw [if_neg c3] at H
        have c3b0 : decide (x5_1 < (x0_1.length : Int)) = false := decide_eq_false c3
        clear c3
        simp only [Option.some.injEq, Prod.mk.injEq] at H
        obtain ⟨rfl, rfl⟩ := H
        obtain ⟨Ao9, co9, eo9⟩ := Kd.S_slice HO_0.out
        subst eo9
        go_wp2
        go_ret
        exact ⟨by first | rfl | (simp [*]; done), kS_ HO_0.out, hbA_ HB.out, by repeat (first | (with_reducible first | exact HK.out | apply Kept.alloc | apply Kept.drewN | apply Kept.drew) | exact HK.out)⟩
def laws_markIntS.l0 : Nat → List Int → Int → Int → Option (Int × List Int)
 | 0, _, _, _ => none
 | k + 1, x0, x1, x5 => if x5 < (x0.length : Int) then (if 0 ≤ x5 then (laws_markIntS.l0 k (x0.set (x5 : Int).toNat x1) (wrap64 (x1 + 1)) (wrap64 (x5 + 1))) else (none)) else (some (x1, x0))
def laws_markIntS.f (k : Nat) (l0 : List Int) (a1 : Int) : Option (Int × List Int) := laws_markIntS.l0 k l0 a1 0
theorem laws_markIntS.mono_l : ∀ k, (∀ y0 y1 y2, LeO (laws_markIntS.l0 k y0 y1 y2) (laws_markIntS.l0 (k + 1) y0 y1 y2))
 | 0 => fun _ _ _ r h => by simp [laws_markIntS.l0] at h
 | k + 1 => by
  have ih0 := laws_markIntS.mono_l k
  ·intro y0 y1 y2
   unfold laws_markIntS.l0
   repeat' first | (with_reducible first | apply ih0 | exact LeO.refl _ | exact LeO.none _ | refine LeO.ite ?_ ?_ | refine LeO.bind ?_ fun _ => ?_) | apply ih0 | exact LeO.none _ | refine LeO.ite ?_ ?_ | refine LeO.bind ?_ fun _ => ?_
theorem laws_markIntS.mono : ∀ a0 a1 k, LeO (laws_markIntS.f k a0 a1) (laws_markIntS.f (k + 1) a0 a1) := by
 intro a0 a1 k
 have ih0 := laws_markIntS.mono_l k
 unfold laws_markIntS.f
 repeat' first | (with_reducible first | apply ih0 | exact LeO.refl _ | exact LeO.none _ | refine LeO.ite ?_ ?_ | refine LeO.bind ?_ fun _ => ?_) | apply ih0 | exact LeO.none _ | refine LeO.ite ?_ ?_ | refine LeO.bind ?_ fun _ => ?_
set_option maxHeartbeats 8000000 in
set_option maxRecDepth 100000 in
theorem laws_markIntS.calls (k : Nat) (P0_ : Nat → Prop) (u9000_ : Value) (l0 : List Int) (a1 : Int) (r1 : Int) (r2 : List Int) (w0 w : World) (hB : Below w0.heap.size w0 w) (ho0 : Kd.R (Kd.int .i64) 3 w w0.heap.size P0_ u9000_ l0) (h : laws_markIntS.f k l0 a1 = some (r1, r2)) :
  Calls Try.prog 67 #[u9000_, .int .i64 a1] w fun e w' => e = .returned (.int .i64 r1) ∧ Kd.R (Kd.int .i64) 3 w' w0.heap.size (fun k_ => (P0_ k_ ∨ w.heap.size ≤ k_)) u9000_ r2 ∧ Below w0.heap.size w0 w' ∧ Kept w w' (fun k_ => P0_ k_) := by
 have HO0 := Aside0.mk (show Kd.R (Kd.int .i64) 3 w w0.heap.size (fun k_ => (P0_ k_ ∨ w.heap.size ≤ k_)) u9000_ l0 from Kd.R_mono ho0 (fun k_ hk => (.inl hk)))
 have HK := Aside0.mk (Kept.refl w (fun k_ => P0_ k_))
 have HW0 := Aside0.mk hB.size; have HB := Aside0.mk hB; clear hB
 have H : (laws_markIntS.l0 k l0 a1 0) = some (r1, r2) := h
 clear h
 have H' := Aside0.mk H
 clear H
 go_enter Try.func67, Try.ntmps67
 go_wp2
 go_loopg [1, 5] k (fun kq v1 v5 w' => ∃ (x0_1 : List Int) (x1_1 : Int) (x5_1 : Int), v1 = .int .i64 x1_1 ∧ v5 = .int .i64 x5_1 ∧ Aside0 (laws_markIntS.l0 kq x0_1 x1_1 x5_1 = some (r1, r2)) ∧ Aside0 (kq ≤ k) ∧ Aside0 (Kd.R (Kd.int .i64) 3 w' w0.heap.size (fun k_ => (P0_ k_ ∨ w.heap.size ≤ k_)) u9000_ x0_1) ∧ Aside0 (Kept w w' (fun k_ => P0_ k_)) ∧ Aside0 (Below w0.heap.size w0 w'))
 case atStart => exact ⟨(l0), (a1), (0), (by first | rfl | (simp; done) | (simp [*]; done)), (by first | rfl | (simp; done) | (simp [*]; done)), H', ⟨Nat.le_refl _⟩, ⟨kR_ HO0.out⟩, ⟨by repeat (first | (with_reducible first | exact HK.out | apply Kept.alloc | apply Kept.drewN | apply Kept.drew) | exact HK.out)⟩, ⟨hbA_ HB.out⟩⟩
 case round =>
  clear H'; (try clear p2)
  obtain ⟨x0_1, x1_1, x5_1, rfl, rfl, HA, HK1, HO_0, HK, HB⟩ := hrel
  cases gk with
  | zero => exact absurd HA.out (by simp [laws_markIntS.l0])
  | succ k1 =>
   have H := HA.out; clear HA
   simp only [laws_markIntS.l0] at H
   by_cases c3 : x5_1 < (x0_1.length : Int)
   ·rw [if_pos c3] at H
    have c3b0 : decide (x5_1 < (x0_1.length : Int)) = true := decide_eq_true c3
    clear c3
    by_cases c4 : 0 ≤ x5_1
    ·rw [if_pos c4] at H
     have c4b0 : decide (0 ≤ x5_1) = true := decide_eq_true c4
     clear c4
     obtain ⟨y302, hy302⟩ : ∃ y_ : List Int, y_ = (x0_1.set (x5_1 : Int).toNat x1_1) := ⟨_, rfl⟩
     (first | replace H := sb_ hy302 H | rw [← hy302] at H)
     have Ny302 := Aside0.mk hy302; clear hy302
     have H' := Aside0.mk H
     clear H
     obtain ⟨Ao6, co6, eo6⟩ := Kd.R_slice HO_0.out
     subst eo6
     have p5 : 0 ≤ (x5_1 : Int) := of_decide_eq_true (by first | (with_reducible assumption) | assumption)
     have q5 : (x5_1 : Int) < ((x0_1.length : Int) : Int) := of_decide_eq_true (by first | (with_reducible assumption) | assumption)
     obtain ⟨go5, co5, eo5, gb5, gl5, cl5, HG5⟩ := Kd.R_form HO_0.out (by omega)
     (first | cases eo5 | (injection eo5 with ea_ en_ ec_; (first | subst ea_ | (injection ea_ with ea_; subst ea_)); subst ec_; clear en_))
     have GB5 := Aside0.mk gb5; have GG5 := Aside0.mk HG5; clear gb5 gl5 HG5
     have HMgo5 := Aside0.mk (show (P0_ go5 ∨ w.heap.size ≤ go5) from (HO_0.out.1 _ rfl))
     obtain ⟨hx5_0, hf5_0⟩ := Kd.R_celln 0 HO_0.out (x5_1 : Int) p5 q5
     replace p5 := eq_true p5
     replace q5 := eq_true q5
     have HP7 := Kd.R_putg HO_0.out (x5_1 : Int) x1_1
     go_wp2_with (first | ((with_reducible refine gate_store (t := 3) (p := 15) rfl ?_); refine store_event (t := 3) (p := 15) (v := ?vo_w8) (w1 := (wr.setCell ⟨go5, (x5_1 : Int).toNat, none⟩ (.int .i64 x1_1))) ?hg ?ho ?hn ?hr ?_; (case ho => rfl); (case hg => rfl); (case hn => rfl); (case hr => first | (go_simp; done) | (go_simp; rfl)); intro w8 hw; have hg : wr.grownBy w8 (some go5) := (by rw [hw]; exact HP7.2); have hp_ : Kd.R (Kd.int .i64) 3 w8 w0.heap.size (fun k_ => (P0_ k_ ∨ w.heap.size ≤ k_)) (.slice (some ⟨go5, 0, none⟩) x0_1.length co6) y302 := (by rw [hw, Ny302.out]; exact HP7.1); clear HP7; replace HB := Aside0.mk ((by rw [hw]; exact below_set (HB.out) GB5.out : Below w0.heap.size w0 w8)); replace HK := Aside0.mk (Kept.of_grown (S := (fun k_ => P0_ k_)) hg (by repeat (first | (with_reducible first | exact HK.out | apply Kept.alloc | apply Kept.drewN | apply Kept.drew) | exact HK.out)) (fun k_ e_ => (HO_0.out.1 k_ e_))); replace HO_0 := Aside0.mk (hp_); clear hg hw hp_))
     go_roundg k1
     case measure => have := HK1.out; omega
     case rel => exact ⟨(y302), (wrap64 (x1_1 + 1)), (wrap64 (x5_1 + 1)), (by first | rfl | (simp; done) | (simp [*]; done)), (by first | rfl | (simp; done) | (simp [*]; done)), H', ⟨by have := HK1.out; omega⟩, ⟨kR_ HO_0.out⟩, ⟨by repeat (first | (with_reducible first | exact HK.out | apply Kept.alloc | apply Kept.drewN | apply Kept.drew) | exact HK.out)⟩, ⟨hbA_ HB.out⟩⟩
    ·rw [if_neg c4] at H
     exact absurd H (by simp)
   ·rw [if_neg c3] at H
    have c3b0 : decide (x5_1 < (x0_1.length : Int)) = false := decide_eq_false c3
    clear c3
    simp only [Option.some.injEq, Prod.mk.injEq] at H
    obtain ⟨rfl, rfl⟩ := H
    obtain ⟨Ao9, co9, eo9⟩ := Kd.R_slice HO_0.out
    subst eo9
    go_wp2
    go_ret
    exact ⟨by first | rfl | (simp [errW_none, errW_some] <;> rfl) | (simp [*, errW_none, errW_some] <;> rfl), kR_ HO_0.out, hbA_ HB.out, by repeat (first | (with_reducible first | exact HK.out | apply Kept.alloc | apply Kept.drewN | apply Kept.drew) | exact HK.out)⟩
def laws_markClient.f (k : Nat) (a0_0 : Int) (l0_1 : List Int) (l0_2 : List (S41)) (l0_3 : List Int) (a1 : Int) : Option (Int × (List Int) × (List (S41)) × (List Int)) := (laws_markIntS.f k l0_1 a1).bind fun b1 => (laws_markWordsS.f k l0_2 b1.1).bind fun b2 => (laws_markIntS.f k l0_3 b2.1).bind fun b3 => some (b3.1, b1.2, b2.2, b3.2)
theorem laws_markClient.mono : ∀ a0 a1 a2 a3 a4 k, LeO (laws_markClient.f k a0 a1 a2 a3 a4) (laws_markClient.f (k + 1) a0 a1 a2 a3 a4) := by
  intro a0 a1 a2 a3 a4 k
  unfold laws_markClient.f
  repeat' first
      | (with_reducible exact laws_markIntS.mono _ _ _)
      | (with_reducible exact laws_markWordsS.mono _ _ _)
      | (with_reducible exact LeO.refl _)
      | (with_reducible exact LeO.none _)
      | (with_reducible refine LeO.ite ?_ ?_)
      | (with_reducible refine LeO.bind ?_ (fun _ => ?_))
      | exact laws_markIntS.mono _ _ _
      | exact laws_markWordsS.mono _ _ _
      | exact LeO.none _
      | refine LeO.ite ?_ ?_
      | refine LeO.bind ?_ (fun _ => ?_)
set_option maxHeartbeats 8000000 in
set_option maxRecDepth 100000 in
theorem laws_markClient.calls (k : Nat) (a0_0 : Int) (P0_1_ : Nat → Prop) (u9000_ : Value) (l0_1 : List Int) (P0_2_ : Nat → Prop) (u9001_ : Value) (l0_2 : List (S41)) (P0_3_ : Nat → Prop) (u9002_ : Value) (l0_3 : List Int) (a1 : Int) (r1 : Int) (r2 : List Int) (r3 : List (S41)) (r4 : List Int) (w0 w : World) (hB : Below w0.heap.size w0 w) (ho0_1 : Kd.R (Kd.int .i64) 3 w w0.heap.size P0_1_ u9000_ l0_1) (hp0_1_0_3 : ∀ k_, P0_1_ k_ → ¬ P0_3_ k_) (ho0_2 : Kd.S k41 41 w w0.heap.size P0_2_ u9001_ l0_2) (ho0_3 : Kd.R (Kd.int .i64) 3 w w0.heap.size P0_3_ u9002_ l0_3) (hp0_3_0_1 : ∀ k_, P0_3_ k_ → ¬ P0_1_ k_) (h : laws_markClient.f k a0_0 l0_1 l0_2 l0_3 a1 = some (r1, r2, r3, r4)) :
    Calls Try.prog 30 #[.agg #[.int .i64 a0_0, u9000_, u9001_, u9002_], .int .i64 a1] w fun e w' => e = .returned (.int .i64 r1) ∧ Kd.R (Kd.int .i64) 3 w' w0.heap.size P0_1_ u9000_ r2 ∧ Kd.S k41 41 w' w0.heap.size P0_2_ u9001_ r3 ∧ Kd.R (Kd.int .i64) 3 w' w0.heap.size P0_3_ u9002_ r4 ∧ Below w0.heap.size w0 w' ∧ Kept w w' (fun k_ => P0_1_ k_ ∨ P0_2_ k_ ∨ P0_3_ k_) := by
  unfold laws_markClient.f at h
  obtain ⟨⟨t1, s1⟩, A10, h⟩ := Option.bind_eq_some_iff.mp h
  (try dsimp only at A10 h)
  have A1 := Aside0.mk A10; clear A10
  obtain ⟨⟨t2, s2⟩, A20, h⟩ := Option.bind_eq_some_iff.mp h
  (try dsimp only at A20 h)
  have A2 := Aside0.mk A20; clear A20
  obtain ⟨⟨t3, s3⟩, A30, h⟩ := Option.bind_eq_some_iff.mp h
  (try dsimp only at A30 h)
  have A3 := Aside0.mk A30; clear A30
  simp only [Option.some.injEq, Prod.mk.injEq] at h
  obtain ⟨rfl, rfl, rfl, rfl⟩ := h
  have HK := Aside0.mk (Kept.refl w (fun k_ => P0_1_ k_ ∨ P0_2_ k_ ∨ P0_3_ k_))
  have HB := Aside0.mk hB; clear hB
  have HO1 := Aside0.mk ho0_1; clear ho0_1
  have Hhp0_1_0_3 := Aside0.mk hp0_1_0_3; clear hp0_1_0_3
  obtain ⟨Av1, cv1, ev1⟩ := Kd.R_slice HO1.out
  subst ev1
  have HO2 := Aside0.mk ho0_2; clear ho0_2
  obtain ⟨Av2, cv2, ev2⟩ := Kd.S_slice HO2.out
  subst ev2
  have HO3 := Aside0.mk ho0_3; clear ho0_3
  have Hhp0_3_0_1 := Aside0.mk hp0_3_0_1; clear hp0_3_0_1
  obtain ⟨Av3, cv3, ev3⟩ := Kd.R_slice HO3.out
  subst ev3
  go_enter Try.func30, Try.ntmps30
  go_wp2_with (first | ((with_reducible refine gate_dst (N := 2) rfl ?_); refine box_ (N := 2) (cs := #[.int .i64 a0_0, .slice Av1 l0_1.length cv1, .slice Av2 l0_2.length cv2, .slice Av3 l0_3.length cv3]) (t := 30) (fun gb hg w1 hbox hb => ?_); replace HO1 := Aside0.mk (Kd.R_below (kR_ HO1.out) hb); replace HO2 := Aside0.mk (Kd.S_below (kS_ HO2.out) hb); replace HO3 := Aside0.mk (Kd.R_below (kR_ HO3.out) hb); replace HK := Aside0.mk (Kept.below HK.out hb); replace HB := (bs_ HB hb); have BK := Aside0.mk hbox; clear hb hbox hg; have hc1 := bc_ BK 1) | ((with_reducible refine gate_callee (f := 67) rfl ?_); refine goesL_ (some 8) rfl rfl Try.func67 (by kernel_rfl) rfl #[.slice Av1 l0_1.length cv1, .int .i64 a1] rfl ar_ ?_; refine (laws_markIntS.calls k (fun k_ => P0_1_ k_ ∧ w0.heap.size ≤ k_ ∧ k_ < w1.heap.size ∧ ∃ q, q ∈ 3 :: (Kd.int .i64).E ∧ ∃ cells, w1.heap[k_]? = some (.cells cells q (0, 0))) _ _ _ t1 s1 w0 w1 HB.out (Kd.R_bound HO1.out) A1.out).mono ?_; rintro e w2 ⟨rfl, hy, hb, hkp⟩; refine ⟨_, rfl, ?_⟩; have n1_ : Aside0 (Kd.R (Kd.int .i64) 3 w2 w0.heap.size P0_1_ (.slice Av1 l0_1.length cv1) s1) := ⟨Kd.R_reok rfl hy (fun k_ e_ => HO1.out.1 k_ e_)⟩; have n2_ := Aside0.mk (Kd.S_keptT HO2.out hkp (by decide)); have n3_ := Aside0.mk (Kd.R_keptP HO3.out hkp Hhp0_3_0_1.out); replace BK := Aside0.mk (blk_keptT BK.out hkp (by decide)); replace HB := Aside0.mk hb; replace HK := Aside0.mk (Kept.then_ (S := (fun k_ => P0_1_ k_ ∨ P0_2_ k_ ∨ P0_3_ k_)) HK.out hkp (fun k_ h_ => .inl (Or.inl h_.1))); clear hy hb hkp hc1; replace HO1 := n1_; replace HO2 := n2_; replace HO3 := n3_; clear n1_ n2_ n3_; have hc2 := bc_ BK 2) | ((with_reducible refine gate_callee (f := 42) rfl ?_); refine goesL_ (some 12) rfl rfl Try.func42 (by kernel_rfl) rfl #[.slice Av2 l0_2.length cv2, .int .i64 t1] rfl ar_ ?_; refine (laws_markWordsS.calls k (fun k_ => P0_2_ k_ ∧ w0.heap.size ≤ k_ ∧ k_ < w2.heap.size ∧ ∃ q, q ∈ 41 :: k41.E ∧ ∃ cells, w2.heap[k_]? = some (.cells cells q (0, 0))) _ _ _ t2 s2 w0 w2 HB.out (Kd.S_bound HO2.out) A2.out).mono ?_; rintro e w3 ⟨rfl, hy, hb, hkp⟩; refine ⟨_, rfl, ?_⟩; have n1_ := Aside0.mk (Kd.R_keptT HO1.out hkp (by decide)); have n2_ : Aside0 (Kd.S k41 41 w3 w0.heap.size P0_2_ (.slice Av2 l0_2.length cv2) s2) := ⟨Kd.S_mono hy (fun _ h_ => h_.1)⟩; have n3_ := Aside0.mk (Kd.R_keptT HO3.out hkp (by decide)); replace BK := Aside0.mk (blk_keptT BK.out hkp (by decide)); replace HB := Aside0.mk hb; replace HK := Aside0.mk (Kept.then_ (S := (fun k_ => P0_1_ k_ ∨ P0_2_ k_ ∨ P0_3_ k_)) HK.out hkp (fun k_ h_ => .inl (Or.inr (Or.inl h_.1)))); clear hy hb hkp hc2; replace HO1 := n1_; replace HO2 := n2_; replace HO3 := n3_; clear n1_ n2_ n3_; have hc3 := bc_ BK 3) | ((with_reducible refine gate_callee (f := 67) rfl ?_); refine goesL_ (some 16) rfl rfl Try.func67 (by kernel_rfl) rfl #[.slice Av3 l0_3.length cv3, .int .i64 t2] rfl ar_ ?_; refine (laws_markIntS.calls k (fun k_ => P0_3_ k_ ∧ w0.heap.size ≤ k_ ∧ k_ < w3.heap.size ∧ ∃ q, q ∈ 3 :: (Kd.int .i64).E ∧ ∃ cells, w3.heap[k_]? = some (.cells cells q (0, 0))) _ _ _ t3 s3 w0 w3 HB.out (Kd.R_bound HO3.out) A3.out).mono ?_; rintro e w4 ⟨rfl, hy, hb, hkp⟩; refine ⟨_, rfl, ?_⟩; have n1_ := Aside0.mk (Kd.R_keptP HO1.out hkp Hhp0_1_0_3.out); have n2_ := Aside0.mk (Kd.S_keptT HO2.out hkp (by decide)); have n3_ : Aside0 (Kd.R (Kd.int .i64) 3 w4 w0.heap.size P0_3_ (.slice Av3 l0_3.length cv3) s3) := ⟨Kd.R_reok rfl hy (fun k_ e_ => HO3.out.1 k_ e_)⟩; replace BK := Aside0.mk (blk_keptT BK.out hkp (by decide)); replace HB := Aside0.mk hb; replace HK := Aside0.mk (Kept.then_ (S := (fun k_ => P0_1_ k_ ∨ P0_2_ k_ ∨ P0_3_ k_)) HK.out hkp (fun k_ h_ => .inl (Or.inr (Or.inr (h_.1))))); clear hy hb hkp hc3; replace HO1 := n1_; replace HO2 := n2_; replace HO3 := n3_; clear n1_ n2_ n3_))
  go_ret
  exact ⟨rfl, kR_ HO1.out, kS_ HO2.out, kR_ HO3.out, hbA_ HB.out, by repeat (first | (with_reducible first | exact HK.out | apply Kept.alloc | apply Kept.drewN | apply Kept.drew) | exact HK.out)⟩
def laws_heldByteS.l0 : Nat → List Int → Int → Int → Option (Int)
 | 0, _, _, _ => none
 | k + 1, x0, x1, x5 => if x5 < (x0.length : Int) then (if 0 ≤ x5 then (if (rd x0 x5) = ((x1) % 256) then (laws_heldByteS.l0 k x0 (wrap64 (x1 + 1)) (wrap64 (x5 + 1))) else (some (-1))) else (none)) else (some x1)
def laws_heldByteS.f (k : Nat) (l0 : List Int) (a1 : Int) : Option (Int) := laws_heldByteS.l0 k l0 a1 0
theorem laws_heldByteS.mono_l : ∀ k, (∀ y0 y1 y2, LeO (laws_heldByteS.l0 k y0 y1 y2) (laws_heldByteS.l0 (k + 1) y0 y1 y2))
 | 0 => fun _ _ _ r h => by simp [laws_heldByteS.l0] at h
 | k + 1 => by
  have ih0 := laws_heldByteS.mono_l k
  ·intro y0 y1 y2
   unfold laws_heldByteS.l0
   repeat' first | (with_reducible first | apply ih0 | exact LeO.refl _ | exact LeO.none _ | refine LeO.ite ?_ ?_ | refine LeO.bind ?_ fun _ => ?_) | apply ih0 | exact LeO.none _ | refine LeO.ite ?_ ?_ | refine LeO.bind ?_ fun _ => ?_
theorem laws_heldByteS.mono : ∀ a0 a1 k, LeO (laws_heldByteS.f k a0 a1) (laws_heldByteS.f (k + 1) a0 a1) := by
 intro a0 a1 k
 have ih0 := laws_heldByteS.mono_l k
 unfold laws_heldByteS.f
 repeat' first | (with_reducible first | apply ih0 | exact LeO.refl _ | exact LeO.none _ | refine LeO.ite ?_ ?_ | refine LeO.bind ?_ fun _ => ?_) | apply ih0 | exact LeO.none _ | refine LeO.ite ?_ ?_ | refine LeO.bind ?_ fun _ => ?_
set_option maxHeartbeats 8000000 in
set_option maxRecDepth 100000 in
theorem laws_heldByteS.calls (k : Nat) (A0 : Option Addr) (c0 : Nat) (l0 : List Int) (a1 : Int) (r : Int) (w : World) (hr0 : Kd.C (Kd.int .u8) w A0 l0.length l0) (hc0 : l0.length ≤ c0) (h : laws_heldByteS.f k l0 a1 = some r) :
  Calls Try.prog 35 #[.slice A0 l0.length c0, .int .i64 a1] w fun e w' => e = .returned (.int .i64 r) ∧ Drawn0 w w' := by
 have HR0 := Aside0.mk hr0; have HC0 := Aside0.mk hc0; clear hr0 hc0
 have H : (laws_heldByteS.l0 k l0 a1 0) = some r := h
 clear h
 have H' := Aside0.mk H
 clear H
 go_enter Try.func35, Try.ntmps35
 go_wp2
 go_loopg [1, 5] k (fun kq v1 v5 w' => ∃ (x1_1 : Int) (x5_1 : Int), v1 = .int .i64 x1_1 ∧ v5 = .int .i64 x5_1 ∧ Aside0 (laws_heldByteS.l0 kq l0 x1_1 x5_1 = some r) ∧ Aside0 (kq ≤ k) ∧ Drawn0 w w')
 case atStart => exact ⟨(a1), (0), (by first | rfl | (simp; done) | (simp [*]; done)), (by first | rfl | (simp; done) | (simp [*]; done)), H', ⟨Nat.le_refl _⟩, by repeat (first | exact Drawn0.refl _ | apply Drawn0.step)⟩
 case round =>
  clear H'; (try clear p2)
  obtain ⟨x1_1, x5_1, rfl, rfl, HA, HK1, ⟨m1, rfl⟩⟩ := hrel
  cases gk with
  | zero => exact absurd HA.out (by simp [laws_heldByteS.l0])
  | succ k1 =>
   have H := HA.out; clear HA
   simp only [laws_heldByteS.l0] at H
   by_cases c3 : x5_1 < (l0.length : Int)
   ·rw [if_pos c3] at H
    have c3b0 : decide (x5_1 < (l0.length : Int)) = true := decide_eq_true c3
    clear c3
    by_cases c4 : 0 ≤ x5_1
    ·rw [if_pos c4] at H
     have c4b0 : decide (0 ≤ x5_1) = true := decide_eq_true c4
     clear c4
     by_cases c5 : (rd l0 x5_1) = ((x1_1) % 256)
     ·rw [if_pos c5] at H
      have c5b0 : ((rd l0 x5_1) == ((x1_1) % 256)) = true := beq_iff_eq.mpr c5
      have c5b1 : ((rd l0 x5_1) != ((x1_1) % 256)) = false := bne_eq_false_iff_eq.mpr c5
      clear c5
      have H' := Aside0.mk H
      clear H
      have p303 : 0 ≤ (x5_1 : Int) := of_decide_eq_true (by first | (with_reducible assumption) | assumption)
      have q303 : x5_1 < (l0.length : Int) := of_decide_eq_true (by first | (with_reducible assumption) | assumption)
      obtain ⟨ad303, e303, hx303_0⟩ := Kd.at_int HR0.out x5_1 p303 q303
      cases e303
      replace p303 := eq_true p303
      replace q303 := eq_true q303
      go_wp2
      go_roundg k1
      case measure => have := HK1.out; omega
      case rel => exact ⟨(wrap64 (x1_1 + 1)), (wrap64 (x5_1 + 1)), (by first | rfl | (simp; done) | (simp [*]; done)), (by first | rfl | (simp; done) | (simp [*]; done)), H', ⟨by have := HK1.out; omega⟩, by repeat (first | exact Drawn0.refl _ | apply Drawn0.step)⟩
     ·rw [if_neg c5] at H
      have c5b0 : ((rd l0 x5_1) == ((x1_1) % 256)) = false := beq_eq_false_iff_ne.mpr c5
      have c5b1 : ((rd l0 x5_1) != ((x1_1) % 256)) = true := bne_iff_ne.mpr c5
      obtain rfl := Option.some.inj H
      have p303 : 0 ≤ (x5_1 : Int) := of_decide_eq_true (by first | (with_reducible assumption) | assumption)
      have q303 : x5_1 < (l0.length : Int) := of_decide_eq_true (by first | (with_reducible assumption) | assumption)
      obtain ⟨ad303, e303, hx303_0⟩ := Kd.at_int HR0.out x5_1 p303 q303
      cases e303
      replace p303 := eq_true p303
      replace q303 := eq_true q303
      go_wp2
      go_ret
      exact ⟨by first | rfl | (simp; done) | (simp [*]; done), by repeat (first | exact Drawn0.refl _ | apply Drawn0.step)⟩
    ·rw [if_neg c4] at H
     exact absurd H (by simp)
   ·rw [if_neg c3] at H
    have c3b0 : decide (x5_1 < (l0.length : Int)) = false := decide_eq_false c3
    clear c3
    obtain rfl := Option.some.inj H
    go_wp2
    go_ret
    exact ⟨by first | rfl | (simp; done) | (simp [*]; done), by repeat (first | exact Drawn0.refl _ | apply Drawn0.step)⟩
def laws_heldWordsS.l0 : Nat → List (S41) → Int → Int → Option (Int)
 | 0, _, _, _ => none
 | k + 1, x0, x1, x5 => if x5 < (x0.length : Int) then (if 0 ≤ x5 then (if ((rd_T41 x0 x5).f0) = x1 then ((laws_heldByteS.f k ((rd_T41 x0 x5).f1) (wrap64 (x1 + 1))).bind fun t306 => (if t306 < 0 then (some (-1)) else (laws_heldWordsS.l0 k x0 t306 (wrap64 (x5 + 1))))) else (some (-1))) else (none)) else (some x1)
def laws_heldWordsS.f (k : Nat) (l0 : List (S41)) (a1 : Int) : Option (Int) := laws_heldWordsS.l0 k l0 a1 0
theorem laws_heldWordsS.mono_l : ∀ k, (∀ y0 y1 y2, LeO (laws_heldWordsS.l0 k y0 y1 y2) (laws_heldWordsS.l0 (k + 1) y0 y1 y2))
 | 0 => fun _ _ _ r h => by simp [laws_heldWordsS.l0] at h
 | k + 1 => by
  have ih0 := laws_heldWordsS.mono_l k
  ·intro y0 y1 y2
   unfold laws_heldWordsS.l0
   repeat' first | (with_reducible first | apply ih0 | apply laws_heldByteS.mono | exact LeO.refl _ | exact LeO.none _ | refine LeO.ite ?_ ?_ | refine LeO.bind ?_ fun _ => ?_) | apply ih0 | apply laws_heldByteS.mono | exact LeO.none _ | refine LeO.ite ?_ ?_ | refine LeO.bind ?_ fun _ => ?_
theorem laws_heldWordsS.mono : ∀ a0 a1 k, LeO (laws_heldWordsS.f k a0 a1) (laws_heldWordsS.f (k + 1) a0 a1) := by
 intro a0 a1 k
 have ih0 := laws_heldWordsS.mono_l k
 unfold laws_heldWordsS.f
 repeat' first | (with_reducible first | apply ih0 | apply laws_heldByteS.mono | exact LeO.refl _ | exact LeO.none _ | refine LeO.ite ?_ ?_ | refine LeO.bind ?_ fun _ => ?_) | apply ih0 | apply laws_heldByteS.mono | exact LeO.none _ | refine LeO.ite ?_ ?_ | refine LeO.bind ?_ fun _ => ?_
set_option maxHeartbeats 8000000 in
set_option maxRecDepth 100000 in
theorem laws_heldWordsS.calls (k : Nat) (A0 : Option Addr) (c0 : Nat) (l0 : List (S41)) (a1 : Int) (r : Int) (w : World) (hr0 : Kd.C k41 w A0 l0.length l0) (hc0 : l0.length ≤ c0) (h : laws_heldWordsS.f k l0 a1 = some r) :
  Calls Try.prog 43 #[.slice A0 l0.length c0, .int .i64 a1] w fun e w' => e = .returned (.int .i64 r) ∧ Drawn0 w w' := by
 have HR0 := Aside0.mk hr0; have HC0 := Aside0.mk hc0; clear hr0 hc0
 have H : (laws_heldWordsS.l0 k l0 a1 0) = some r := h
 clear h
 have H' := Aside0.mk H
 clear H
 go_enter Try.func43, Try.ntmps43
 go_wp2
 go_loopg [1, 5] k (fun kq v1 v5 w' => ∃ (x1_1 : Int) (x5_1 : Int), v1 = .int .i64 x1_1 ∧ v5 = .int .i64 x5_1 ∧ Aside0 (laws_heldWordsS.l0 kq l0 x1_1 x5_1 = some r) ∧ Aside0 (kq ≤ k) ∧ Drawn0 w w')
 case atStart => exact ⟨(a1), (0), (by first | rfl | (simp; done) | (simp [*]; done)), (by first | rfl | (simp; done) | (simp [*]; done)), H', ⟨Nat.le_refl _⟩, by repeat (first | exact Drawn0.refl _ | apply Drawn0.step)⟩
 case round =>
  clear H'; (try clear p2)
  obtain ⟨x1_1, x5_1, rfl, rfl, HA, HK1, ⟨m1, rfl⟩⟩ := hrel
  cases gk with
  | zero => exact absurd HA.out (by simp [laws_heldWordsS.l0])
  | succ k1 =>
   have H := HA.out; clear HA
   simp only [laws_heldWordsS.l0] at H
   by_cases c3 : x5_1 < (l0.length : Int)
   ·rw [if_pos c3] at H
    have c3b0 : decide (x5_1 < (l0.length : Int)) = true := decide_eq_true c3
    clear c3
    by_cases c4 : 0 ≤ x5_1
    ·rw [if_pos c4] at H
     have c4b0 : decide (0 ≤ x5_1) = true := decide_eq_true c4
     clear c4
     by_cases c5 : ((rd_T41 l0 x5_1).f0) = x1_1
     ·rw [if_pos c5] at H
      have c5b0 : (((rd_T41 l0 x5_1).f0) == x1_1) = true := beq_iff_eq.mpr c5
      have c5b1 : (((rd_T41 l0 x5_1).f0) != x1_1) = false := bne_eq_false_iff_eq.mpr c5
      clear c5
      replace H := Option.bind_eq_some_iff.mp H
      obtain ⟨t306, A60, H⟩ := H
      (try dsimp only at H)
      have A6 := Aside0.mk A60; clear A60
      by_cases c7 : t306 < 0
      ·rw [if_pos c7] at H
       have c7b0 : decide (t306 < 0) = true := decide_eq_true c7
       clear c7
       obtain rfl := Option.some.inj H
       have p304 : 0 ≤ (x5_1 : Int) := of_decide_eq_true (by first | (with_reducible assumption) | assumption)
       have q304 : x5_1 < (l0.length : Int) := of_decide_eq_true (by first | (with_reducible assumption) | assumption)
       obtain ⟨ad304, A304_1, c304_1, e304, hx304_0, hx304_1, hl304_1, hi304_1⟩ := at_T41 HR0.out x5_1 p304 q304
       cases e304
       have HR304_1 := Aside0.mk hi304_1; have HC304_1 := Aside0.mk hl304_1; clear hi304_1 hl304_1
       replace p304 := eq_true p304
       replace q304 := eq_true q304
       have p305 : 0 ≤ (x5_1 : Int) := of_decide_eq_true (by first | (with_reducible assumption) | assumption)
       have q305 : x5_1 < (l0.length : Int) := of_decide_eq_true (by first | (with_reducible assumption) | assumption)
       obtain ⟨ad305, A305_1, c305_1, e305, hx305_0, hx305_1, hl305_1, hi305_1⟩ := at_T41 HR0.out x5_1 p305 q305
       obtain rfl : ad304 = ad305 := (by injection e305)
       have HR305_1 := Aside0.mk hi305_1; have HC305_1 := Aside0.mk hl305_1; clear hi305_1 hl305_1
       replace p305 := eq_true p305
       replace q305 := eq_true q305
       have ea_ := Option.some.inj (hx304_1.symm.trans hx305_1)
       injection ea_ with ea_ en_ ec_
       subst ea_; subst ec_; clear en_
       go_wp2_with (first | ((with_reducible refine gate_callee (f := 35) rfl ?_); refine goesL_ (some 27) rfl rfl Try.func35 (by kernel_rfl) rfl #[.slice A304_1 ((rd_T41 l0 x5_1).f1).length c304_1, .int .i64 (wrap64 (x1_1 + 1))] rfl ar_ ?_; (with_reducible refine (laws_heldByteS.calls k1 _ _ ((rd_T41 l0 x5_1).f1) (wrap64 (x1_1 + 1)) t306 _ ?side1 ?side2 A6.out).mono ?_); (case side1 => exact kC_ HR305_1.out); (case side2 => exact HC305_1.out); rintro e w' ⟨rfl, ⟨nd, rfl⟩⟩; refine ⟨_, rfl, ?_⟩))
       go_ret
       exact ⟨by first | rfl | (simp; done) | (simp [*]; done), by repeat (first | exact Drawn0.refl _ | apply Drawn0.step)⟩
      ·rw [if_neg c7] at H
       have c7b0 : decide (t306 < 0) = false := decide_eq_false c7
       clear c7
       have H' := Aside0.mk H
       clear H
       have p304 : 0 ≤ (x5_1 : Int) := of_decide_eq_true (by first | (with_reducible assumption) | assumption)
       have q304 : x5_1 < (l0.length : Int) := of_decide_eq_true (by first | (with_reducible assumption) | assumption)
       obtain ⟨ad304, A304_1, c304_1, e304, hx304_0, hx304_1, hl304_1, hi304_1⟩ := at_T41 HR0.out x5_1 p304 q304
       cases e304
       have HR304_1 := Aside0.mk hi304_1; have HC304_1 := Aside0.mk hl304_1; clear hi304_1 hl304_1
       replace p304 := eq_true p304
       replace q304 := eq_true q304
       have p305 : 0 ≤ (x5_1 : Int) := of_decide_eq_true (by first | (with_reducible assumption) | assumption)
       have q305 : x5_1 < (l0.length : Int) := of_decide_eq_true (by first | (with_reducible assumption) | assumption)
       obtain ⟨ad305, A305_1, c305_1, e305, hx305_0, hx305_1, hl305_1, hi305_1⟩ := at_T41 HR0.out x5_1 p305 q305
       obtain rfl : ad304 = ad305 := (by injection e305)
       have HR305_1 := Aside0.mk hi305_1; have HC305_1 := Aside0.mk hl305_1; clear hi305_1 hl305_1
       replace p305 := eq_true p305
       replace q305 := eq_true q305
       have ea_ := Option.some.inj (hx304_1.symm.trans hx305_1)
       injection ea_ with ea_ en_ ec_
       subst ea_; subst ec_; clear en_
       go_wp2_with (first | ((with_reducible refine gate_callee (f := 35) rfl ?_); refine goesL_ (some 27) rfl rfl Try.func35 (by kernel_rfl) rfl #[.slice A304_1 ((rd_T41 l0 x5_1).f1).length c304_1, .int .i64 (wrap64 (x1_1 + 1))] rfl ar_ ?_; (with_reducible refine (laws_heldByteS.calls k1 _ _ ((rd_T41 l0 x5_1).f1) (wrap64 (x1_1 + 1)) t306 _ ?side1 ?side2 A6.out).mono ?_); (case side1 => exact kC_ HR305_1.out); (case side2 => exact HC305_1.out); rintro e w' ⟨rfl, ⟨nd, rfl⟩⟩; refine ⟨_, rfl, ?_⟩))
       go_roundg k1
       case measure => have := HK1.out; omega
       case rel => exact ⟨(t306), (wrap64 (x5_1 + 1)), (by first | rfl | (simp; done) | (simp [*]; done)), (by first | rfl | (simp; done) | (simp [*]; done)), H', ⟨by have := HK1.out; omega⟩, by repeat (first | exact Drawn0.refl _ | apply Drawn0.step)⟩
     ·rw [if_neg c5] at H
      have c5b0 : (((rd_T41 l0 x5_1).f0) == x1_1) = false := beq_eq_false_iff_ne.mpr c5
      have c5b1 : (((rd_T41 l0 x5_1).f0) != x1_1) = true := bne_iff_ne.mpr c5
      obtain rfl := Option.some.inj H
      have p304 : 0 ≤ (x5_1 : Int) := of_decide_eq_true (by first | (with_reducible assumption) | assumption)
      have q304 : x5_1 < (l0.length : Int) := of_decide_eq_true (by first | (with_reducible assumption) | assumption)
      obtain ⟨ad304, A304_1, c304_1, e304, hx304_0, hx304_1, hl304_1, hi304_1⟩ := at_T41 HR0.out x5_1 p304 q304
      cases e304
      have HR304_1 := Aside0.mk hi304_1; have HC304_1 := Aside0.mk hl304_1; clear hi304_1 hl304_1
      replace p304 := eq_true p304
      replace q304 := eq_true q304
      go_wp2
      go_ret
      exact ⟨by first | rfl | (simp; done) | (simp [*]; done), by repeat (first | exact Drawn0.refl _ | apply Drawn0.step)⟩
    ·rw [if_neg c4] at H
     exact absurd H (by simp)
   ·rw [if_neg c3] at H
    have c3b0 : decide (x5_1 < (l0.length : Int)) = false := decide_eq_false c3
    clear c3
    obtain rfl := Option.some.inj H
    go_wp2
    go_ret
    exact ⟨by first | rfl | (simp; done) | (simp [*]; done), by repeat (first | exact Drawn0.refl _ | apply Drawn0.step)⟩
def laws_heldIntS.l0 : Nat → List Int → Int → Int → Option (Int)
 | 0, _, _, _ => none
 | k + 1, x0, x1, x5 => if x5 < (x0.length : Int) then (if 0 ≤ x5 then (if (rd x0 x5) = x1 then (laws_heldIntS.l0 k x0 (wrap64 (x1 + 1)) (wrap64 (x5 + 1))) else (some (-1))) else (none)) else (some x1)
def laws_heldIntS.f (k : Nat) (l0 : List Int) (a1 : Int) : Option (Int) := laws_heldIntS.l0 k l0 a1 0
theorem laws_heldIntS.mono_l : ∀ k, (∀ y0 y1 y2, LeO (laws_heldIntS.l0 k y0 y1 y2) (laws_heldIntS.l0 (k + 1) y0 y1 y2))
 | 0 => fun _ _ _ r h => by simp [laws_heldIntS.l0] at h
 | k + 1 => by
  have ih0 := laws_heldIntS.mono_l k
  ·intro y0 y1 y2
   unfold laws_heldIntS.l0
   repeat' first | (with_reducible first | apply ih0 | exact LeO.refl _ | exact LeO.none _ | refine LeO.ite ?_ ?_ | refine LeO.bind ?_ fun _ => ?_) | apply ih0 | exact LeO.none _ | refine LeO.ite ?_ ?_ | refine LeO.bind ?_ fun _ => ?_
theorem laws_heldIntS.mono : ∀ a0 a1 k, LeO (laws_heldIntS.f k a0 a1) (laws_heldIntS.f (k + 1) a0 a1) := by
 intro a0 a1 k
 have ih0 := laws_heldIntS.mono_l k
 unfold laws_heldIntS.f
 repeat' first | (with_reducible first | apply ih0 | exact LeO.refl _ | exact LeO.none _ | refine LeO.ite ?_ ?_ | refine LeO.bind ?_ fun _ => ?_) | apply ih0 | exact LeO.none _ | refine LeO.ite ?_ ?_ | refine LeO.bind ?_ fun _ => ?_
set_option maxHeartbeats 8000000 in
set_option maxRecDepth 100000 in
theorem laws_heldIntS.calls (k : Nat) (A0 : Option Addr) (c0 : Nat) (l0 : List Int) (a1 : Int) (r : Int) (w : World) (hr0 : Kd.C (Kd.int .i64) w A0 l0.length l0) (hc0 : l0.length ≤ c0) (h : laws_heldIntS.f k l0 a1 = some r) :
  Calls Try.prog 68 #[.slice A0 l0.length c0, .int .i64 a1] w fun e w' => e = .returned (.int .i64 r) ∧ Drawn0 w w' := by
 have HR0 := Aside0.mk hr0; have HC0 := Aside0.mk hc0; clear hr0 hc0
 have H : (laws_heldIntS.l0 k l0 a1 0) = some r := h
 clear h
 have H' := Aside0.mk H
 clear H
 go_enter Try.func68, Try.ntmps68
 go_wp2
 go_loopg [1, 5] k (fun kq v1 v5 w' => ∃ (x1_1 : Int) (x5_1 : Int), v1 = .int .i64 x1_1 ∧ v5 = .int .i64 x5_1 ∧ Aside0 (laws_heldIntS.l0 kq l0 x1_1 x5_1 = some r) ∧ Aside0 (kq ≤ k) ∧ Drawn0 w w')
 case atStart => exact ⟨(a1), (0), (by first | rfl | (simp; done) | (simp [*]; done)), (by first | rfl | (simp; done) | (simp [*]; done)), H', ⟨Nat.le_refl _⟩, by repeat (first | exact Drawn0.refl _ | apply Drawn0.step)⟩
 case round =>
  clear H'; (try clear p2)
  obtain ⟨x1_1, x5_1, rfl, rfl, HA, HK1, ⟨m1, rfl⟩⟩ := hrel
  cases gk with
  | zero => exact absurd HA.out (by simp [laws_heldIntS.l0])
  | succ k1 =>
   have H := HA.out; clear HA
   simp only [laws_heldIntS.l0] at H
   by_cases c3 : x5_1 < (l0.length : Int)
   ·rw [if_pos c3] at H
    have c3b0 : decide (x5_1 < (l0.length : Int)) = true := decide_eq_true c3
    clear c3
    by_cases c4 : 0 ≤ x5_1
    ·rw [if_pos c4] at H
     have c4b0 : decide (0 ≤ x5_1) = true := decide_eq_true c4
     clear c4
     by_cases c5 : (rd l0 x5_1) = x1_1
     ·rw [if_pos c5] at H
      have c5b0 : ((rd l0 x5_1) == x1_1) = true := beq_iff_eq.mpr c5
      have c5b1 : ((rd l0 x5_1) != x1_1) = false := bne_eq_false_iff_eq.mpr c5
      clear c5
      have H' := Aside0.mk H
      clear H
      have p307 : 0 ≤ (x5_1 : Int) := of_decide_eq_true (by first | (with_reducible assumption) | assumption)
      have q307 : x5_1 < (l0.length : Int) := of_decide_eq_true (by first | (with_reducible assumption) | assumption)
      obtain ⟨ad307, e307, hx307_0⟩ := Kd.at_int HR0.out x5_1 p307 q307
      cases e307
      replace p307 := eq_true p307
      replace q307 := eq_true q307
      go_wp2
      go_roundg k1
      case measure => have := HK1.out; omega
      case rel => exact ⟨(wrap64 (x1_1 + 1)), (wrap64 (x5_1 + 1)), (by first | rfl | (simp; done) | (simp [*]; done)), (by first | rfl | (simp; done) | (simp [*]; done)), H', ⟨by have := HK1.out; omega⟩, by repeat (first | exact Drawn0.refl _ | apply Drawn0.step)⟩
     ·rw [if_neg c5] at H
      have c5b0 : ((rd l0 x5_1) == x1_1) = false := beq_eq_false_iff_ne.mpr c5
      have c5b1 : ((rd l0 x5_1) != x1_1) = true := bne_iff_ne.mpr c5
      obtain rfl := Option.some.inj H
      have p307 : 0 ≤ (x5_1 : Int) := of_decide_eq_true (by first | (with_reducible assumption) | assumption)
      have q307 : x5_1 < (l0.length : Int) := of_decide_eq_true (by first | (with_reducible assumption) | assumption)
      obtain ⟨ad307, e307, hx307_0⟩ := Kd.at_int HR0.out x5_1 p307 q307
      cases e307
      replace p307 := eq_true p307
      replace q307 := eq_true q307
      go_wp2
      go_ret
      exact ⟨by first | rfl | (simp; done) | (simp [*]; done), by repeat (first | exact Drawn0.refl _ | apply Drawn0.step)⟩
    ·rw [if_neg c4] at H
     exact absurd H (by simp)
   ·rw [if_neg c3] at H
    have c3b0 : decide (x5_1 < (l0.length : Int)) = false := decide_eq_false c3
    clear c3
    obtain rfl := Option.some.inj H
    go_wp2
    go_ret
    exact ⟨by first | rfl | (simp; done) | (simp [*]; done), by repeat (first | exact Drawn0.refl _ | apply Drawn0.step)⟩
def laws_heldClient.f (k : Nat) (a0_0 : Int) (l0_1 : List Int) (l0_2 : List (S41)) (l0_3 : List Int) (a1 : Int) : Option (Int) := (laws_heldIntS.f k l0_1 a1).bind fun t309 => (if t309 < 0 then (some (-1)) else ((laws_heldWordsS.f k l0_2 t309).bind fun t310 => (if t310 < 0 then (some (-1)) else ((laws_heldIntS.f k l0_3 t310).bind fun t311 => (if t311 < 0 then (some (-1)) else (some t311))))))
theorem laws_heldClient.mono : ∀ a0 a1 a2 a3 a4 k, LeO (laws_heldClient.f k a0 a1 a2 a3 a4) (laws_heldClient.f (k + 1) a0 a1 a2 a3 a4) := by
 intro a0 a1 a2 a3 a4 k
 unfold laws_heldClient.f
 repeat' first | (with_reducible first | apply laws_heldIntS.mono | apply laws_heldWordsS.mono | exact LeO.refl _ | exact LeO.none _ | refine LeO.ite ?_ ?_ | refine LeO.bind ?_ fun _ => ?_) | apply laws_heldIntS.mono | apply laws_heldWordsS.mono | exact LeO.none _ | refine LeO.ite ?_ ?_ | refine LeO.bind ?_ fun _ => ?_
set_option maxHeartbeats 8000000 in
set_option maxRecDepth 100000 in
theorem laws_heldClient.calls (k : Nat) (a0_0 : Int) (A0_1 : Option Addr) (c0_1 : Nat) (l0_1 : List Int) (A0_2 : Option Addr) (c0_2 : Nat) (l0_2 : List (S41)) (A0_3 : Option Addr) (c0_3 : Nat) (l0_3 : List Int) (a1 : Int) (r : Int) (w : World) (hr0_1 : Kd.C (Kd.int .i64) w A0_1 l0_1.length l0_1) (hc0_1 : l0_1.length ≤ c0_1) (hr0_2 : Kd.C k41 w A0_2 l0_2.length l0_2) (hc0_2 : l0_2.length ≤ c0_2) (hr0_3 : Kd.C (Kd.int .i64) w A0_3 l0_3.length l0_3) (hc0_3 : l0_3.length ≤ c0_3) (h : laws_heldClient.f k a0_0 l0_1 l0_2 l0_3 a1 = some r) :
  Calls Try.prog 31 #[.agg #[.int .i64 a0_0, .slice A0_1 l0_1.length c0_1, .slice A0_2 l0_2.length c0_2, .slice A0_3 l0_3.length c0_3], .int .i64 a1] w fun e w' => e = .returned (.int .i64 r) ∧ Below w.heap.size w w' := by
 have hu30 := Try.underlying30; have HR0_1 := Aside0.mk hr0_1; have HC0_1 := Aside0.mk hc0_1; clear hr0_1 hc0_1; have HR0_2 := Aside0.mk hr0_2; have HC0_2 := Aside0.mk hc0_2; clear hr0_2 hc0_2; have HR0_3 := Aside0.mk hr0_3; have HC0_3 := Aside0.mk hc0_3; clear hr0_3 hc0_3
 have HB := Aside0.mk (Below.refl w.heap.size w)
 have H : ((laws_heldIntS.f k l0_1 a1).bind fun t309 => (if t309 < 0 then (some (-1)) else ((laws_heldWordsS.f k l0_2 t309).bind fun t310 => (if t310 < 0 then (some (-1)) else ((laws_heldIntS.f k l0_3 t310).bind fun t311 => (if t311 < 0 then (some (-1)) else (some t311))))))) = some r := h
 clear h
 replace H := Option.bind_eq_some_iff.mp H
 obtain ⟨t309, A30, H⟩ := H
 (try dsimp only at H)
 have A3 := Aside0.mk A30; clear A30
 by_cases c4 : t309 < 0
 ·rw [if_pos c4] at H
  have c4b0 : decide (t309 < 0) = true := decide_eq_true c4
  clear c4
  obtain rfl := Option.some.inj H
  go_enter Try.func31, Try.ntmps31
  go_wp2_with (first | ((with_reducible refine gate_dst (N := 2) rfl ?_); refine box_ (N := 2) (cs := #[.int .i64 a0_0, .slice A0_1 l0_1.length c0_1, .slice A0_2 l0_2.length c0_2, .slice A0_3 l0_3.length c0_3]) (t := 30) (fun gb308 hg w5 hbox hb => ?_); have BK308 := Aside0.mk (hbox); have GW308 := ge_ hg HB; have GE308 := ge_ hg HB; replace HB := (bs_ HB hb); clear hb hbox hg; have Z6 := zz4 BK308) | ((with_reducible refine gate_callee (f := 68) rfl ?_); refine goesL_ (some 8) rfl rfl Try.func68 (by kernel_rfl) rfl #[.slice A0_1 l0_1.length c0_1, .int .i64 a1] rfl ar_ ?_; (with_reducible refine (laws_heldIntS.calls k _ _ l0_1 a1 t309 _ ?side1 ?side2 A3.out).mono ?_); (case side1 => exact kC_ (Kd.C_below HR0_1.out HB.out)); (case side2 => exact HC0_1.out); rintro e w' ⟨rfl, ⟨nd, rfl⟩⟩; refine ⟨_, rfl, ?_⟩))
  go_ret
  exact ⟨by first | rfl | (simp [errW_none, errW_some] <;> rfl) | (simp [*, errW_none, errW_some] <;> rfl), hbA_ HB.out⟩
 ·rw [if_neg c4] at H
  have c4b0 : decide (t309 < 0) = false := decide_eq_false c4
  clear c4
  replace H := Option.bind_eq_some_iff.mp H
  obtain ⟨t310, A70, H⟩ := H
  (try dsimp only at H)
  have A7 := Aside0.mk A70; clear A70
  by_cases c8 : t310 < 0
  ·rw [if_pos c8] at H
   have c8b0 : decide (t310 < 0) = true := decide_eq_true c8
   clear c8
   obtain rfl := Option.some.inj H
   go_enter Try.func31, Try.ntmps31
   go_wp2_with (first | ((with_reducible refine gate_dst (N := 2) rfl ?_); refine box_ (N := 2) (cs := #[.int .i64 a0_0, .slice A0_1 l0_1.length c0_1, .slice A0_2 l0_2.length c0_2, .slice A0_3 l0_3.length c0_3]) (t := 30) (fun gb308 hg w9 hbox hb => ?_); have BK308 := Aside0.mk (hbox); have GW308 := ge_ hg HB; have GE308 := ge_ hg HB; replace HB := (bs_ HB hb); clear hb hbox hg; have Z10 := zz4 BK308) | ((with_reducible refine gate_callee (f := 68) rfl ?_); refine goesL_ (some 8) rfl rfl Try.func68 (by kernel_rfl) rfl #[.slice A0_1 l0_1.length c0_1, .int .i64 a1] rfl ar_ ?_; (with_reducible refine (laws_heldIntS.calls k _ _ l0_1 a1 t309 _ ?side1 ?side2 A3.out).mono ?_); (case side1 => exact kC_ (Kd.C_below HR0_1.out HB.out)); (case side2 => exact HC0_1.out); rintro e w' ⟨rfl, ⟨nd, rfl⟩⟩; refine ⟨_, rfl, ?_⟩) | ((with_reducible refine gate_callee (f := 43) rfl ?_); refine goesL_ (some 14) rfl rfl Try.func43 (by kernel_rfl) rfl #[.slice A0_2 l0_2.length c0_2, .int .i64 t309] rfl ar_ ?_; (with_reducible refine (laws_heldWordsS.calls k _ _ l0_2 t309 t310 _ ?side1 ?side2 A7.out).mono ?_); (case side1 => exact kC_ (Kd.C_below HR0_2.out (hbA_ HB.out))); (case side2 => exact HC0_2.out); rintro e w' ⟨rfl, ⟨nd, rfl⟩⟩; refine ⟨_, rfl, ?_⟩))
   go_ret
   exact ⟨by first | rfl | (simp [errW_none, errW_some] <;> rfl) | (simp [*, errW_none, errW_some] <;> rfl), hbA_ HB.out⟩
  ·rw [if_neg c8] at H
   have c8b0 : decide (t310 < 0) = false := decide_eq_false c8
   clear c8
   replace H := Option.bind_eq_some_iff.mp H
   obtain ⟨t311, A110, H⟩ := H
   (try dsimp only at H)
   have A11 := Aside0.mk A110; clear A110
   by_cases c12 : t311 < 0
   ·rw [if_pos c12] at H
    have c12b0 : decide (t311 < 0) = true := decide_eq_true c12
    clear c12
    obtain rfl := Option.some.inj H
    go_enter Try.func31, Try.ntmps31
    go_wp2_with (first | ((with_reducible refine gate_dst (N := 2) rfl ?_); refine box_ (N := 2) (cs := #[.int .i64 a0_0, .slice A0_1 l0_1.length c0_1, .slice A0_2 l0_2.length c0_2, .slice A0_3 l0_3.length c0_3]) (t := 30) (fun gb308 hg w13 hbox hb => ?_); have BK308 := Aside0.mk (hbox); have GW308 := ge_ hg HB; have GE308 := ge_ hg HB; replace HB := (bs_ HB hb); clear hb hbox hg; have Z14 := zz4 BK308) | ((with_reducible refine gate_callee (f := 68) rfl ?_); refine goesL_ (some 8) rfl rfl Try.func68 (by kernel_rfl) rfl #[.slice A0_1 l0_1.length c0_1, .int .i64 a1] rfl ar_ ?_; (with_reducible refine (laws_heldIntS.calls k _ _ l0_1 a1 t309 _ ?side1 ?side2 A3.out).mono ?_); (case side1 => exact kC_ (Kd.C_below HR0_1.out HB.out)); (case side2 => exact HC0_1.out); rintro e w' ⟨rfl, ⟨nd, rfl⟩⟩; refine ⟨_, rfl, ?_⟩) | ((with_reducible refine gate_callee (f := 43) rfl ?_); refine goesL_ (some 14) rfl rfl Try.func43 (by kernel_rfl) rfl #[.slice A0_2 l0_2.length c0_2, .int .i64 t309] rfl ar_ ?_; (with_reducible refine (laws_heldWordsS.calls k _ _ l0_2 t309 t310 _ ?side1 ?side2 A7.out).mono ?_); (case side1 => exact kC_ (Kd.C_below HR0_2.out (hbA_ HB.out))); (case side2 => exact HC0_2.out); rintro e w' ⟨rfl, ⟨nd, rfl⟩⟩; refine ⟨_, rfl, ?_⟩) | ((with_reducible refine gate_callee (f := 68) rfl ?_); refine goesL_ (some 20) rfl rfl Try.func68 (by kernel_rfl) rfl #[.slice A0_3 l0_3.length c0_3, .int .i64 t310] rfl ar_ ?_; (with_reducible refine (laws_heldIntS.calls k _ _ l0_3 t310 t311 _ ?side1 ?side2 A11.out).mono ?_); (case side1 => exact kC_ (Kd.C_below HR0_3.out (hbA_ HB.out))); (case side2 => exact HC0_3.out); rintro e w' ⟨rfl, ⟨nd, rfl⟩⟩; refine ⟨_, rfl, ?_⟩))
    go_ret
    exact ⟨by first | rfl | (simp [errW_none, errW_some] <;> rfl) | (simp [*, errW_none, errW_some] <;> rfl), hbA_ HB.out⟩
   ·rw [if_neg c12] at H
    have c12b0 : decide (t311 < 0) = false := decide_eq_false c12
    clear c12
    obtain rfl := Option.some.inj H
    go_enter Try.func31, Try.ntmps31
    go_wp2_with (first | ((with_reducible refine gate_dst (N := 2) rfl ?_); refine box_ (N := 2) (cs := #[.int .i64 a0_0, .slice A0_1 l0_1.length c0_1, .slice A0_2 l0_2.length c0_2, .slice A0_3 l0_3.length c0_3]) (t := 30) (fun gb308 hg w15 hbox hb => ?_); have BK308 := Aside0.mk (hbox); have GW308 := ge_ hg HB; have GE308 := ge_ hg HB; replace HB := (bs_ HB hb); clear hb hbox hg; have Z16 := zz4 BK308) | ((with_reducible refine gate_callee (f := 68) rfl ?_); refine goesL_ (some 8) rfl rfl Try.func68 (by kernel_rfl) rfl #[.slice A0_1 l0_1.length c0_1, .int .i64 a1] rfl ar_ ?_; (with_reducible refine (laws_heldIntS.calls k _ _ l0_1 a1 t309 _ ?side1 ?side2 A3.out).mono ?_); (case side1 => exact kC_ (Kd.C_below HR0_1.out HB.out)); (case side2 => exact HC0_1.out); rintro e w' ⟨rfl, ⟨nd, rfl⟩⟩; refine ⟨_, rfl, ?_⟩) | ((with_reducible refine gate_callee (f := 43) rfl ?_); refine goesL_ (some 14) rfl rfl Try.func43 (by kernel_rfl) rfl #[.slice A0_2 l0_2.length c0_2, .int .i64 t309] rfl ar_ ?_; (with_reducible refine (laws_heldWordsS.calls k _ _ l0_2 t309 t310 _ ?side1 ?side2 A7.out).mono ?_); (case side1 => exact kC_ (Kd.C_below HR0_2.out (hbA_ HB.out))); (case side2 => exact HC0_2.out); rintro e w' ⟨rfl, ⟨nd, rfl⟩⟩; refine ⟨_, rfl, ?_⟩) | ((with_reducible refine gate_callee (f := 68) rfl ?_); refine goesL_ (some 20) rfl rfl Try.func68 (by kernel_rfl) rfl #[.slice A0_3 l0_3.length c0_3, .int .i64 t310] rfl ar_ ?_; (with_reducible refine (laws_heldIntS.calls k _ _ l0_3 t310 t311 _ ?side1 ?side2 A11.out).mono ?_); (case side1 => exact kC_ (Kd.C_below HR0_3.out (hbA_ HB.out))); (case side2 => exact HC0_3.out); rintro e w' ⟨rfl, ⟨nd, rfl⟩⟩; refine ⟨_, rfl, ?_⟩))
    go_ret
    exact ⟨by first | rfl | (simp [errW_none, errW_some] <;> rfl) | (simp [*, errW_none, errW_some] <;> rfl), hbA_ HB.out⟩
def laws_FnExactClientOver.f (k : Nat) (a0_0 : Int) (l0_1 : List Int) (l0_2 : List (S57)) (l0_3 : List Int) : Option (Bool) := (laws_szClient.f k a0_0 l0_1 l0_2 l0_3 1048576).bind fun t313 => (if t313 < 0 then (some true) else ((laws_toClient.f k a0_0 l0_1 l0_2 l0_3).bind fun bt314 => ((spec_ClientOver.f k bt314.1 bt314.2.1 bt314.2.2.1 bt314.2.2.2).bind fun bt324 => ((laws_toClient.f k a0_0 l0_1 l0_2 l0_3).bind fun bt335 => ((impl_ClientOver.f k bt335.1 bt335.2.1 bt335.2.2.1 bt335.2.2.2).bind fun bt346 => ((laws_eqClient.f k bt346.1 bt346.2.1 bt346.2.2.1 bt346.2.2.2 bt324.1 bt324.2.1 bt324.2.2.1 bt324.2.2.2).bind fun t357 => (if t357 = true then ((laws_toClient.f k a0_0 l0_1 l0_2 l0_3).bind fun bt358 => ((laws_eqClient.f k bt335.1 bt335.2.1 bt335.2.2.1 bt335.2.2.2 bt358.1 bt358.2.1 bt358.2.2.1 bt358.2.2.2).bind fun t368 => (if t368 = true then ((laws_markClient.f k bt335.1 bt335.2.1 bt335.2.2.1 bt335.2.2.2 1).bind fun bt369 => (if bt369.1 < 0 then (some false) else ((laws_eqClient.f k bt346.1 bt346.2.1 bt346.2.2.1 bt346.2.2.2 bt324.1 bt324.2.1 bt324.2.2.1 bt324.2.2.2).bind fun t373 => (if t373 = true then ((laws_markClient.f k bt346.1 bt346.2.1 bt346.2.2.1 bt346.2.2.2 1).bind fun bt374 => ((laws_heldClient.f k bt346.1 bt374.2.1 bt374.2.2.1 bt374.2.2.2 1).bind fun t378 => (if t378 < 0 then (some false) else (if t378 = bt374.1 then ((laws_toClient.f k a0_0 l0_1 l0_2 l0_3).bind fun bt379 => ((impl_ClientOver.f k bt379.1 bt379.2.1 bt379.2.2.1 bt379.2.2.2).bind fun bt389 => ((laws_eqClient.f k bt389.1 bt389.2.1 bt389.2.2.1 bt389.2.2.2 bt324.1 bt324.2.1 bt324.2.2.1 bt324.2.2.2).bind fun t400 => (if t400 = true then ((laws_heldClient.f k bt346.1 bt374.2.1 bt374.2.2.1 bt374.2.2.2 1).bind fun t401 => (if t401 < 0 then (some false) else (if t401 = bt374.1 then (some true) else (some false)))) else (some false))))) else (some false))))) else (some false))))) else (some false)))) else (some false))))))))
theorem laws_FnExactClientOver.mono : ∀ a0 a1 a2 a3 k, LeO (laws_FnExactClientOver.f k a0 a1 a2 a3) (laws_FnExactClientOver.f (k + 1) a0 a1 a2 a3) := by
 intro a0 a1 a2 a3 k
 unfold laws_FnExactClientOver.f
 repeat' first | (with_reducible first | apply impl_ClientOver.mono | apply laws_eqClient.mono | apply laws_heldClient.mono | apply laws_markClient.mono | apply laws_szClient.mono | apply laws_toClient.mono | apply spec_ClientOver.mono | exact LeO.refl _ | exact LeO.none _ | refine LeO.ite ?_ ?_ | refine LeO.bind ?_ fun _ => ?_) | apply impl_ClientOver.mono | apply laws_eqClient.mono | apply laws_heldClient.mono | apply laws_markClient.mono | apply laws_szClient.mono | apply laws_toClient.mono | apply spec_ClientOver.mono | exact LeO.none _ | refine LeO.ite ?_ ?_ | refine LeO.bind ?_ fun _ => ?_
set_option maxHeartbeats 8000000 in
set_option maxRecDepth 100000 in
theorem laws_FnExactClientOver.calls (k : Nat) (a0_0 : Int) (A0_1 : Option Addr) (c0_1 : Nat) (l0_1 : List Int) (A0_2 : Option Addr) (c0_2 : Nat) (l0_2 : List (S57)) (A0_3 : Option Addr) (c0_3 : Nat) (l0_3 : List Int) (r : Bool) (w : World) (hr0_1 : Kd.C (Kd.int .i64) w A0_1 l0_1.length l0_1) (hc0_1 : l0_1.length ≤ c0_1) (hr0_2 : Kd.C k57 w A0_2 l0_2.length l0_2) (hc0_2 : l0_2.length ≤ c0_2) (hr0_3 : Kd.C (Kd.int .i64) w A0_3 l0_3.length l0_3) (hc0_3 : l0_3.length ≤ c0_3) (h : laws_FnExactClientOver.f k a0_0 l0_1 l0_2 l0_3 = some r) (hlw : r = true) :
  Calls Try.prog 7 #[.agg #[.int .i64 a0_0, .slice A0_1 l0_1.length c0_1, .slice A0_2 l0_2.length c0_2, .slice A0_3 l0_3.length c0_3]] w fun e w' => e = .returned (.bool r) ∧ Below w.heap.size w w' := by
 have hu25 := Try.underlying25; have hu30 := Try.underlying30; have HLW := Aside0.mk hlw; clear hlw
 have HZ := Aside0.mk (Nat.le_refl w.heap.size)
 have HR0_1 := Aside0.mk hr0_1; have HC0_1 := Aside0.mk hc0_1; clear hr0_1 hc0_1; have HR0_2 := Aside0.mk hr0_2; have HC0_2 := Aside0.mk hc0_2; clear hr0_2 hc0_2; have HR0_3 := Aside0.mk hr0_3; have HC0_3 := Aside0.mk hc0_3; clear hr0_3 hc0_3
 have HB := Aside0.mk (Below.refl w.heap.size w)
 have H : ((laws_szClient.f k a0_0 l0_1 l0_2 l0_3 1048576).bind fun t313 => (if t313 < 0 then (some true) else ((laws_toClient.f k a0_0 l0_1 l0_2 l0_3).bind fun bt314 => ((spec_ClientOver.f k bt314.1 bt314.2.1 bt314.2.2.1 bt314.2.2.2).bind fun bt324 => ((laws_toClient.f k a0_0 l0_1 l0_2 l0_3).bind fun bt335 => ((impl_ClientOver.f k bt335.1 bt335.2.1 bt335.2.2.1 bt335.2.2.2).bind fun bt346 => ((laws_eqClient.f k bt346.1 bt346.2.1 bt346.2.2.1 bt346.2.2.2 bt324.1 bt324.2.1 bt324.2.2.1 bt324.2.2.2).bind fun t357 => (if t357 = true then ((laws_toClient.f k a0_0 l0_1 l0_2 l0_3).bind fun bt358 => ((laws_eqClient.f k bt335.1 bt335.2.1 bt335.2.2.1 bt335.2.2.2 bt358.1 bt358.2.1 bt358.2.2.1 bt358.2.2.2).bind fun t368 => (if t368 = true then ((laws_markClient.f k bt335.1 bt335.2.1 bt335.2.2.1 bt335.2.2.2 1).bind fun bt369 => (if bt369.1 < 0 then (some false) else ((laws_eqClient.f k bt346.1 bt346.2.1 bt346.2.2.1 bt346.2.2.2 bt324.1 bt324.2.1 bt324.2.2.1 bt324.2.2.2).bind fun t373 => (if t373 = true then ((laws_markClient.f k bt346.1 bt346.2.1 bt346.2.2.1 bt346.2.2.2 1).bind fun bt374 => ((laws_heldClient.f k bt346.1 bt374.2.1 bt374.2.2.1 bt374.2.2.2 1).bind fun t378 => (if t378 < 0 then (some false) else (if t378 = bt374.1 then ((laws_toClient.f k a0_0 l0_1 l0_2 l0_3).bind fun bt379 => ((impl_ClientOver.f k bt379.1 bt379.2.1 bt379.2.2.1 bt379.2.2.2).bind fun bt389 => ((laws_eqClient.f k bt389.1 bt389.2.1 bt389.2.2.1 bt389.2.2.2 bt324.1 bt324.2.1 bt324.2.2.1 bt324.2.2.2).bind fun t400 => (if t400 = true then ((laws_heldClient.f k bt346.1 bt374.2.1 bt374.2.2.1 bt374.2.2.2 1).bind fun t401 => (if t401 < 0 then (some false) else (if t401 = bt374.1 then (some true) else (some false)))) else (some false))))) else (some false))))) else (some false))))) else (some false)))) else (some false))))))))) = some r := h
 clear h
 replace H := Option.bind_eq_some_iff.mp H
 obtain ⟨t313, A20, H⟩ := H
 (try dsimp only at H)
 have A2 := Aside0.mk A20; clear A20
 by_cases c3 : t313 < 0
 ·rw [if_pos c3] at H
  have c3b0 : decide (t313 < 0) = true := decide_eq_true c3
  clear c3
  obtain rfl := Option.some.inj H
  go_enter Try.func7, Try.ntmps7
  go_wp2_with (first | ((with_reducible refine gate_dst (N := 1) rfl ?_); refine box_ (N := 1) (cs := #[.int .i64 a0_0, .slice A0_1 l0_1.length c0_1, .slice A0_2 l0_2.length c0_2, .slice A0_3 l0_3.length c0_3]) (t := 25) (fun gb312 hg w4 hbox hb => ?_); have BK312 := Aside0.mk (hbox); have GW312 := ge_ hg HB; have GE312 := ge_ hg HB; replace HB := (bs_ HB hb); have LTb312 := Aside0.mk (zl_ HZ ⟨hg⟩); replace HZ := Aside0.mk ((show gb312 + 1 ≤ w4.heap.size from blk_lt hbox)); clear hb hbox hg; have Z5 := zz4 BK312) | ((with_reducible refine gate_callee (f := 11) rfl ?_); refine goesL_ (some 13) rfl rfl Try.func11 (by kernel_rfl) rfl #[.agg #[.int .i64 a0_0, .slice A0_1 l0_1.length c0_1, .slice A0_2 l0_2.length c0_2, .slice A0_3 l0_3.length c0_3], .int .i64 1048576] rfl ar_ ?_; (with_reducible refine (laws_szClient.calls k a0_0 _ _ l0_1 _ _ l0_2 _ _ l0_3 1048576 t313 _ ?side1 ?side2 ?side3 ?side4 ?side5 ?side6 A2.out).mono ?_); (case side1 => exact kC_ (Kd.C_below HR0_1.out HB.out)); (case side2 => exact HC0_1.out); (case side3 => exact kC_ (Kd.C_below HR0_2.out HB.out)); (case side4 => exact HC0_2.out); (case side5 => exact kC_ (Kd.C_below HR0_3.out HB.out)); (case side6 => exact HC0_3.out); rintro e w6 ⟨rfl, hb⟩; refine ⟨_, rfl, ?_⟩; replace BK312 := (bbA_ BK312 hb); replace HB := (bs_ HB hb); replace HZ := Aside0.mk (zs_ HZ hb); (try clear hb); (try clear hb2); (try clear hk); (try clear hi)))
  go_ret
  exact ⟨by first | rfl | (simp [errW_none, errW_some] <;> rfl) | (simp [*, errW_none, errW_some] <;> rfl), hbA_ HB.out⟩
 ·rw [if_neg c3] at H
  have c3b0 : decide (t313 < 0) = false := decide_eq_false c3
  clear c3
  replace H := Option.bind_eq_some_iff.mp H
  obtain ⟨⟨t314, t315, t318, t321⟩, A70, H⟩ := H
  (try dsimp only at H)
  have A7 := Aside0.mk A70; clear A70
  replace H := Option.bind_eq_some_iff.mp H
  obtain ⟨⟨t324, t325, t328, t331⟩, A80, H⟩ := H
  (try dsimp only at H)
  have A8 := Aside0.mk A80; clear A80
  replace H := Option.bind_eq_some_iff.mp H
  obtain ⟨⟨t335, t336, t339, t342⟩, A90, H⟩ := H
  (try dsimp only at H)
  have A9 := Aside0.mk A90; clear A90
  replace H := Option.bind_eq_some_iff.mp H
  obtain ⟨⟨t346, t347, t350, t353⟩, A100, H⟩ := H
  (try dsimp only at H)
  have A10 := Aside0.mk A100; clear A100
  replace H := Option.bind_eq_some_iff.mp H
  obtain ⟨t357, A110, H⟩ := H
  (try dsimp only at H)
  have A11 := Aside0.mk A110; clear A110
  by_cases c12 : t357 = true
  ·subst c12
   rw [if_pos rfl] at H
   replace H := Option.bind_eq_some_iff.mp H
   obtain ⟨⟨t358, t359, t362, t365⟩, A130, H⟩ := H
   (try dsimp only at H)
   have A13 := Aside0.mk A130; clear A130
   replace H := Option.bind_eq_some_iff.mp H
   obtain ⟨t368, A140, H⟩ := H
   (try dsimp only at H)
   have A14 := Aside0.mk A140; clear A140
   by_cases c15 : t368 = true
   ·subst c15
    rw [if_pos rfl] at H
    replace H := Option.bind_eq_some_iff.mp H
    obtain ⟨⟨t369, t370, t371, t372⟩, A160, H⟩ := H
    (try dsimp only at H)
    have A16 := Aside0.mk A160; clear A160
    by_cases c17 : t369 < 0
    ·rw [if_pos c17] at H
     have c17b0 : decide (t369 < 0) = true := decide_eq_true c17
     clear c17
     exact absurd (Option.some.inj H) (by rw [HLW.out]; exact Bool.false_ne_true)
    ·rw [if_neg c17] at H
     have c17b0 : decide (t369 < 0) = false := decide_eq_false c17
     clear c17
     replace H := Option.bind_eq_some_iff.mp H
     obtain ⟨t373, A180, H⟩ := H
     (try dsimp only at H)
     have A18 := Aside0.mk A180; clear A180
     by_cases c19 : t373 = true
     ·subst c19
      rw [if_pos rfl] at H
      replace H := Option.bind_eq_some_iff.mp H
      obtain ⟨⟨t374, t375, t376, t377⟩, A200, H⟩ := H
      (try dsimp only at H)
      have A20 := Aside0.mk A200; clear A200
      replace H := Option.bind_eq_some_iff.mp H
      obtain ⟨t378, A210, H⟩ := H
      (try dsimp only at H)
      have A21 := Aside0.mk A210; clear A210
      by_cases c22 : t378 < 0
      ·rw [if_pos c22] at H
       have c22b0 : decide (t378 < 0) = true := decide_eq_true c22
       clear c22
       exact absurd (Option.some.inj H) (by rw [HLW.out]; exact Bool.false_ne_true)
      ·rw [if_neg c22] at H
       have c22b0 : decide (t378 < 0) = false := decide_eq_false c22
       clear c22
       by_cases c23 : t378 = t374
       ·rw [if_pos c23] at H
        have c23b0 : (t378 == t374) = true := beq_iff_eq.mpr c23
        have c23b1 : (t378 != t374) = false := bne_eq_false_iff_eq.mpr c23
        clear c23
        replace H := Option.bind_eq_some_iff.mp H
        obtain ⟨⟨t379, t380, t383, t386⟩, A240, H⟩ := H
        (try dsimp only at H)
        have A24 := Aside0.mk A240; clear A240
        replace H := Option.bind_eq_some_iff.mp H
        obtain ⟨⟨t389, t390, t393, t396⟩, A250, H⟩ := H
        (try dsimp only at H)
        have A25 := Aside0.mk A250; clear A250
        replace H := Option.bind_eq_some_iff.mp H
        obtain ⟨t400, A260, H⟩ := H
        (try dsimp only at H)
        have A26 := Aside0.mk A260; clear A260
        by_cases c27 : t400 = true
        ·subst c27
         rw [if_pos rfl] at H
         replace H := Option.bind_eq_some_iff.mp H
         obtain ⟨t401, A280, H⟩ := H
         (try dsimp only at H)
         have A28 := Aside0.mk A280; clear A280
         by_cases c29 : t401 < 0
         ·rw [if_pos c29] at H
          have c29b0 : decide (t401 < 0) = true := decide_eq_true c29
          clear c29
          exact absurd (Option.some.inj H) (by rw [HLW.out]; exact Bool.false_ne_true)
         ·rw [if_neg c29] at H
          have c29b0 : decide (t401 < 0) = false := decide_eq_false c29
          clear c29
          by_cases c30 : t401 = t374
          ·rw [if_pos c30] at H
           have c30b0 : (t401 == t374) = true := beq_iff_eq.mpr c30
           have c30b1 : (t401 != t374) = false := bne_eq_false_iff_eq.mpr c30
           clear c30
           obtain rfl := Option.some.inj H
           go_enter Try.func7, Try.ntmps7
           try go_wp2_with (first | ((with_reducible refine gate_dst (N := 1) rfl ?_); refine box_ (N := 1) (cs := #[.int .i64 a0_0, .slice A0_1 l0_1.length c0_1, .slice A0_2 l0_2.length c0_2, .slice A0_3 l0_3.length c0_3]) (t := 25) (fun gb312 hg w31 hbox hb => ?_); have BK312 := Aside0.mk (hbox); have GW312 := ge_ hg HB; have GE312 := ge_ hg HB; replace HB := (bs_ HB hb); have LTb312 := Aside0.mk (zl_ HZ ⟨hg⟩); replace HZ := Aside0.mk ((show gb312 + 1 ≤ w31.heap.size from blk_lt hbox)); clear hb hbox hg; have Z32 := zz4 BK312) | ((with_reducible refine gate_callee (f := 11) rfl ?_); refine goesL_ (some 13) rfl rfl Try.func11 (by kernel_rfl) rfl #[.agg #[.int .i64 a0_0, .slice A0_1 l0_1.length c0_1, .slice A0_2 l0_2.length c0_2, .slice A0_3 l0_3.length c0_3], .int .i64 1048576] rfl ar_ ?_; (with_reducible refine (laws_szClient.calls k a0_0 _ _ l0_1 _ _ l0_2 _ _ l0_3 1048576 t313 _ ?side1 ?side2 ?side3 ?side4 ?side5 ?side6 A2.out).mono ?_); (case side1 => exact kC_ (Kd.C_below HR0_1.out HB.out)); (case side2 => exact HC0_1.out); (case side3 => exact kC_ (Kd.C_below HR0_2.out HB.out)); (case side4 => exact HC0_2.out); (case side5 => exact kC_ (Kd.C_below HR0_3.out HB.out)); (case side6 => exact HC0_3.out); rintro e w33 ⟨rfl, hb⟩; refine ⟨_, rfl, ?_⟩; replace BK312 := (bbA_ BK312 hb); replace HB := (bs_ HB hb); replace HZ := Aside0.mk (zs_ HZ hb); (try clear hb); (try clear hb2); (try clear hk); (try clear hi); have Z34 := zz4 BK312) | ((with_reducible refine gate_callee (f := 13) rfl ?_); refine goesL_ (some 17) rfl rfl Try.func13 (by kernel_rfl) rfl #[.agg #[.int .i64 a0_0, .slice A0_1 l0_1.length c0_1, .slice A0_2 l0_2.length c0_2, .slice A0_3 l0_3.length c0_3]] rfl ar_ ?_; (with_reducible refine (laws_toClient.calls k a0_0 _ _ l0_1 _ _ l0_2 _ _ l0_3 t314 t315 t318 t321 _ ?side1 ?side2 ?side3 ?side4 ?side5 ?side6 A7.out).mono ?_); (case side1 => exact kC_ (Kd.C_below HR0_1.out HB.out)); (case side2 => exact HC0_1.out); (case side3 => exact kC_ (Kd.C_below HR0_2.out HB.out)); (case side4 => exact HC0_2.out); (case side5 => exact kC_ (Kd.C_below HR0_3.out HB.out)); (case side6 => exact HC0_3.out); rintro e w35 ⟨v316, v319, v322, rfl, ho0, ho1, ho2, hb⟩; refine ⟨_, rfl, ?_⟩; obtain ⟨lo402, hi402, elo402, ehi402⟩ := gr_open hb; have HO317 := Aside0.mk (Kd.R_lower (gr_R elo402 ehi402 ho0) (below_size (hbA_ HB.out))); have HO320 := Aside0.mk (Kd.S_lower (gr_S elo402 ehi402 ho1) (below_size (hbA_ HB.out))); have HO323 := Aside0.mk (Kd.R_lower (gr_R elo402 ehi402 ho2) (below_size (hbA_ HB.out))); have LT402 := Aside0.mk (zl_ HZ elo402); have LE402 := Aside0.mk (zle_ elo402 ehi402 hb); replace HZ := Aside0.mk (Nat.le_of_eq ehi402.out); replace BK312 := (bbA_ BK312 hb); replace HB := (bs_ HB hb); (try clear hb); (try clear hb2); (try clear hk); (try clear hi); (try clear ho0); (try clear ho1); (try clear ho2); obtain ⟨Ao36, co36, eo36⟩ := Kd.R_slice HO317.out; subst eo36; obtain ⟨Ao37, co37, eo37⟩ := Kd.S_slice HO320.out; subst eo37; obtain ⟨Ao38, co38, eo38⟩ := Kd.R_slice HO323.out; subst eo38) | ((with_reducible refine gate_callee (f := 19) rfl ?_); refine goesL_ (some 18) rfl rfl Try.func19 (by kernel_rfl) rfl #[.agg #[.int .i64 t314, .slice Ao36 t315.length co36, .slice Ao37 t318.length co37, .slice Ao38 t321.length co38]] rfl ar_ ?_; (with_reducible refine (spec_ClientOver.calls k t314 _ _ t315 _ _ t318 _ _ t321 t324 t325 t328 t331 _ ?side1 ?side2 ?side3 ?side4 ?side5 ?side6 A8.out).mono ?_); (case side1 => exact kC_ (Kd.R_reads' HO317.out).2.2); (case side2 => exact (Kd.R_reads' HO317.out).2.1); (case side3 => exact kC_ (Kd.S_reads' HO320.out).2.2); (case side4 => exact (Kd.S_reads' HO320.out).2.1); (case side5 => exact kC_ (Kd.R_reads' HO323.out).2.2); (case side6 => exact (Kd.R_reads' HO323.out).2.1); rintro e w39 ⟨v326, v329, v332, rfl, ho0, ho1, ho2, hb⟩; refine ⟨_, rfl, ?_⟩; obtain ⟨lo403, hi403, elo403, ehi403⟩ := gr_open hb; replace HO317 := Aside0.mk (Kd.R_below (kR_ HO317.out) hb); replace HO320 := Aside0.mk (Kd.S_below (kS_ HO320.out) hb); replace HO323 := Aside0.mk (Kd.R_below (kR_ HO323.out) hb); have HO327 := Aside0.mk (Kd.R_lower (gr_R elo403 ehi403 ho0) (below_size (hbA_ HB.out))); have HO330 := Aside0.mk (Kd.S_lower (gr_S elo403 ehi403 ho1) (below_size (hbA_ HB.out))); have HO333 := Aside0.mk (Kd.R_lower (gr_R elo403 ehi403 ho2) (below_size (hbA_ HB.out))); have LT403 := Aside0.mk (zl_ HZ elo403); have LE403 := Aside0.mk (zle_ elo403 ehi403 hb); replace HZ := Aside0.mk (Nat.le_of_eq ehi403.out); replace BK312 := (bbA_ BK312 hb); replace HB := (bs_ HB hb); (try clear hb); (try clear hb2); (try clear hk); (try clear hi); (try clear ho0); (try clear ho1); (try clear ho2)) | ((with_reducible refine gate_dst (N := 4) rfl ?_); refine box_ (N := 4) (cs := #[.int .i64 0, .slice none 0 0, .slice none 0 0, .slice none 0 0]) (t := 30) (fun gb334 hg w40 hbox hb => ?_); replace HO317 := Aside0.mk (Kd.R_below (kR_ HO317.out) hb); replace HO320 := Aside0.mk (Kd.S_below (kS_ HO320.out) hb); replace HO323 := Aside0.mk (Kd.R_below (kR_ HO323.out) hb); replace HO327 := Aside0.mk (Kd.R_below (kR_ HO327.out) hb); replace HO330 := Aside0.mk (Kd.S_below (kS_ HO330.out) hb); replace HO333 := Aside0.mk (Kd.R_below (kR_ HO333.out) hb); have BK334 := Aside0.mk (hbox); have GW334 := ge_ hg HB; have GE334 := ge_ hg HB; replace HB := (bs_ HB hb); have NB312_334 := nl_ hg BK312; have NB334_312 := ng_ hg BK312; replace BK312 := (bbA_ BK312 hb); have LTb334 := Aside0.mk (zl_ HZ ⟨hg⟩); replace HZ := Aside0.mk ((show gb334 + 1 ≤ w40.heap.size from blk_lt hbox)); clear hb hbox hg; have hnb41 := NB334_312.out; have hnc41 := NB312_334.out; have Z42 := zz4 BK334; obtain ⟨Ao43, co43, eo43⟩ := Kd.R_slice HO327.out; subst eo43; obtain ⟨Ao44, co44, eo44⟩ := Kd.S_slice HO330.out; subst eo44; obtain ⟨Ao45, co45, eo45⟩ := Kd.R_slice HO333.out; subst eo45; have Z46 := zz4 BK312) | ((with_reducible refine gate_callee (f := 13) rfl ?_); refine goesL_ (some 20) rfl rfl Try.func13 (by kernel_rfl) rfl #[.agg #[.int .i64 a0_0, .slice A0_1 l0_1.length c0_1, .slice A0_2 l0_2.length c0_2, .slice A0_3 l0_3.length c0_3]] rfl ar_ ?_; (with_reducible refine (laws_toClient.calls k a0_0 _ _ l0_1 _ _ l0_2 _ _ l0_3 t335 t336 t339 t342 _ ?side1 ?side2 ?side3 ?side4 ?side5 ?side6 A9.out).mono ?_); (case side1 => exact Kd.C_below HR0_1.out (hbA_ HB.out)); (case side2 => exact HC0_1.out); (case side3 => exact Kd.C_below HR0_2.out (hbA_ HB.out)); (case side4 => exact HC0_2.out); (case side5 => exact Kd.C_below HR0_3.out (hbA_ HB.out)); (case side6 => exact HC0_3.out); rintro e w47 ⟨v337, v340, v343, rfl, ho0, ho1, ho2, hb⟩; refine ⟨_, rfl, ?_⟩; obtain ⟨lo404, hi404, elo404, ehi404⟩ := gr_open hb; replace HO317 := Aside0.mk (Kd.R_below (by refine kR_ ?_; exact (rfm_ ((Kd.R_types HO317.out BK334.out (by decide))) (fun _ h_ => op1_ h_))) hb); replace HO320 := Aside0.mk (Kd.S_below (by refine kS_ ?_; exact (Kd.S_mono (Kd.S_far (p := ⟨gb334, 3, none⟩) (Kd.S_far (p := ⟨gb334, 2, none⟩) (Kd.S_far (p := ⟨gb334, 1, none⟩) (Kd.S_far (p := ⟨gb334, 0, none⟩) (Kd.S_types HO320.out BK334.out (by decide)) (fun _ hk => hk.2) (.int .i64 t324)) (fun _ hk => hk.2) (.slice Ao43 t325.length co43)) (fun _ hk => hk.2) (.slice Ao44 t328.length co44)) (fun _ hk => hk.2) (.slice Ao45 t331.length co45)) (fun _ h_ => op1_ h_))) hb); replace HO323 := Aside0.mk (Kd.R_below (by refine kR_ ?_; exact (rfm_ ((Kd.R_types HO323.out BK334.out (by decide))) (fun _ h_ => op1_ h_))) hb); replace HO327 := Aside0.mk (Kd.R_below (by refine kR_ ?_; exact (rfm_ ((Kd.R_types HO327.out BK334.out (by decide))) (fun _ h_ => op1_ h_))) hb); replace HO330 := Aside0.mk (Kd.S_below (by refine kS_ ?_; exact (Kd.S_mono (Kd.S_far (p := ⟨gb334, 3, none⟩) (Kd.S_far (p := ⟨gb334, 2, none⟩) (Kd.S_far (p := ⟨gb334, 1, none⟩) (Kd.S_far (p := ⟨gb334, 0, none⟩) (Kd.S_types HO330.out BK334.out (by decide)) (fun _ hk => hk.2) (.int .i64 t324)) (fun _ hk => hk.2) (.slice Ao43 t325.length co43)) (fun _ hk => hk.2) (.slice Ao44 t328.length co44)) (fun _ hk => hk.2) (.slice Ao45 t331.length co45)) (fun _ h_ => op1_ h_))) hb); replace HO333 := Aside0.mk (Kd.R_below (by refine kR_ ?_; exact (rfm_ ((Kd.R_types HO333.out BK334.out (by decide))) (fun _ h_ => op1_ h_))) hb); have HO338 := Aside0.mk (Kd.R_lower (gr_R elo404 ehi404 ho0) (below_size (hbA_ HB.out))); have HO341 := Aside0.mk (Kd.S_lower (gr_S elo404 ehi404 ho1) (below_size (hbA_ HB.out))); have HO344 := Aside0.mk (Kd.R_lower (gr_R elo404 ehi404 ho2) (below_size (hbA_ HB.out))); have LT404 := Aside0.mk (zl_ HZ elo404); have LE404 := Aside0.mk (zle_ elo404 ehi404 hb); replace HZ := Aside0.mk (Nat.le_of_eq ehi404.out); replace BK312 := Aside0.mk (blk_below (g := gb312) (o := .cells #[.int .i64 a0_0, .slice A0_1 l0_1.length c0_1, .slice A0_2 l0_2.length c0_2, .slice A0_3 l0_3.length c0_3] 25 (0, 0)) (by exact kf_ BK312.out) hb); replace BK334 := Aside0.mk (blk_below (g := gb334) (o := .cells #[.int .i64 t324, .slice Ao43 t325.length co43, .slice Ao44 t328.length co44, .slice Ao45 t331.length co45] 30 (0, 0)) (by refine kb_ ?_; refine pz4 (cs := #[.int .i64 0, .slice none 0 0, .slice none 0 0, .slice none 0 0]) ?_; refine kb_ ?_; exact BK334.out) hb); replace HB := (bs_ HB hb); (try clear hb); (try clear hb2); (try clear hk); (try clear hi); (try clear ho0); (try clear ho1); (try clear ho2)) | ((with_reducible refine gate_dst (N := 5) rfl ?_); refine box_ (N := 5) (cs := #[.int .i64 0, .slice none 0 0, .slice none 0 0, .slice none 0 0]) (t := 30) (fun gb345 hg w48 hbox hb => ?_); replace HO317 := Aside0.mk (Kd.R_below (kR_ HO317.out) hb); replace HO320 := Aside0.mk (Kd.S_below (kS_ HO320.out) hb); replace HO323 := Aside0.mk (Kd.R_below (kR_ HO323.out) hb); replace HO327 := Aside0.mk (Kd.R_below (kR_ HO327.out) hb); replace HO330 := Aside0.mk (Kd.S_below (kS_ HO330.out) hb); replace HO333 := Aside0.mk (Kd.R_below (kR_ HO333.out) hb); replace HO338 := Aside0.mk (Kd.R_below (kR_ HO338.out) hb); replace HO341 := Aside0.mk (Kd.S_below (kS_ HO341.out) hb); replace HO344 := Aside0.mk (Kd.R_below (kR_ HO344.out) hb); have BK345 := Aside0.mk (hbox); have GW345 := ge_ hg HB; have GE345 := ge_ hg HB; replace HB := (bs_ HB hb); have NB312_345 := nl_ hg BK312; have NB345_312 := ng_ hg BK312; replace BK312 := (bbA_ BK312 hb); have NB334_345 := nl_ hg BK334; have NB345_334 := ng_ hg BK334; replace BK334 := (bbA_ BK334 hb); have LTb345 := Aside0.mk (zl_ HZ ⟨hg⟩); replace HZ := Aside0.mk ((show gb345 + 1 ≤ w48.heap.size from blk_lt hbox)); clear hb hbox hg; have hnb49 := NB345_312.out; have hnc49 := NB312_345.out; have hnb50 := NB345_334.out; have hnc50 := NB334_345.out; have Z51 := zz4 BK345; obtain ⟨Ao52, co52, eo52⟩ := Kd.R_slice HO338.out; subst eo52; obtain ⟨Ao53, co53, eo53⟩ := Kd.S_slice HO341.out; subst eo53; obtain ⟨Ao54, co54, eo54⟩ := Kd.R_slice HO344.out; subst eo54) | ((with_reducible refine gate_callee (f := 17) rfl ?_); refine goesL_ (some 22) rfl rfl Try.func17 (by kernel_rfl) rfl #[.agg #[.int .i64 t335, .slice Ao52 t336.length co52, .slice Ao53 t339.length co53, .slice Ao54 t342.length co54]] rfl ar_ ?_; (with_reducible refine (impl_ClientOver.calls k t335 _ _ t336 _ _ t339 _ _ t342 t346 t347 t350 t353 _ ?side1 ?side2 ?side3 ?side4 ?side5 ?side6 A10.out).mono ?_); (case side1 => refine (Kd.R_reads' (e := 3) (base := w.heap.size) (ok := fun k_ => (some k_ ≠ (.slice Ao54 t342.length co54 : Value).ownBlock ∧ (lo404 ≤ k_ ∧ k_ < hi404))) (n := t336.length) (c := co52) ?_).2.2; exact (by refine kR_ ?_; exact (rfm_ ((Kd.R_types HO338.out BK345.out (by decide))) (fun _ h_ => op1_ h_)))); (case side2 => exact (Kd.R_reads' HO338.out).2.1); (case side3 => refine (Kd.S_reads' (e := 41) (base := w.heap.size) (ok := fun k_ => (True ∧ (lo404 ≤ k_ ∧ k_ < hi404))) (n := t339.length) (c := co53) ?_).2.2; exact (by refine kS_ ?_; exact (Kd.S_mono (Kd.S_far (p := ⟨gb345, 3, none⟩) (Kd.S_far (p := ⟨gb345, 2, none⟩) (Kd.S_far (p := ⟨gb345, 1, none⟩) (Kd.S_far (p := ⟨gb345, 0, none⟩) (Kd.S_types HO341.out BK345.out (by decide)) (fun _ hk => hk.2) (.int .i64 t335)) (fun _ hk => hk.2) (.slice Ao52 t336.length co52)) (fun _ hk => hk.2) (.slice Ao53 t339.length co53)) (fun _ hk => hk.2) (.slice Ao54 t342.length co54)) (fun _ h_ => op1_ h_)))); (case side4 => exact (Kd.S_reads' HO341.out).2.1); (case side5 => refine (Kd.R_reads' (e := 3) (base := w.heap.size) (ok := fun k_ => (some k_ ≠ (.slice Ao52 t336.length co52 : Value).ownBlock ∧ (lo404 ≤ k_ ∧ k_ < hi404))) (n := t342.length) (c := co54) ?_).2.2; exact (by refine kR_ ?_; exact (rfm_ ((Kd.R_types HO344.out BK345.out (by decide))) (fun _ h_ => op1_ h_)))); (case side6 => exact (Kd.R_reads' HO344.out).2.1); rintro e w55 ⟨v348, v351, v354, rfl, ho0, ho1, ho2, hb⟩; refine ⟨_, rfl, ?_⟩; obtain ⟨lo405, hi405, elo405, ehi405⟩ := gr_open hb; replace HO317 := Aside0.mk (Kd.R_below (by refine kR_ ?_; exact (rfm_ ((Kd.R_types HO317.out BK345.out (by decide))) (fun _ h_ => op1_ h_))) hb); replace HO320 := Aside0.mk (Kd.S_below (by refine kS_ ?_; exact (Kd.S_mono (Kd.S_far (p := ⟨gb345, 3, none⟩) (Kd.S_far (p := ⟨gb345, 2, none⟩) (Kd.S_far (p := ⟨gb345, 1, none⟩) (Kd.S_far (p := ⟨gb345, 0, none⟩) (Kd.S_types HO320.out BK345.out (by decide)) (fun _ hk => hk.2) (.int .i64 t335)) (fun _ hk => hk.2) (.slice Ao52 t336.length co52)) (fun _ hk => hk.2) (.slice Ao53 t339.length co53)) (fun _ hk => hk.2) (.slice Ao54 t342.length co54)) (fun _ h_ => op1_ h_))) hb); replace HO323 := Aside0.mk (Kd.R_below (by refine kR_ ?_; exact (rfm_ ((Kd.R_types HO323.out BK345.out (by decide))) (fun _ h_ => op1_ h_))) hb); replace HO327 := Aside0.mk (Kd.R_below (by refine kR_ ?_; exact (rfm_ ((Kd.R_types HO327.out BK345.out (by decide))) (fun _ h_ => op1_ h_))) hb); replace HO330 := Aside0.mk (Kd.S_below (by refine kS_ ?_; exact (Kd.S_mono (Kd.S_far (p := ⟨gb345, 3, none⟩) (Kd.S_far (p := ⟨gb345, 2, none⟩) (Kd.S_far (p := ⟨gb345, 1, none⟩) (Kd.S_far (p := ⟨gb345, 0, none⟩) (Kd.S_types HO330.out BK345.out (by decide)) (fun _ hk => hk.2) (.int .i64 t335)) (fun _ hk => hk.2) (.slice Ao52 t336.length co52)) (fun _ hk => hk.2) (.slice Ao53 t339.length co53)) (fun _ hk => hk.2) (.slice Ao54 t342.length co54)) (fun _ h_ => op1_ h_))) hb); replace HO333 := Aside0.mk (Kd.R_below (by refine kR_ ?_; exact (rfm_ ((Kd.R_types HO333.out BK345.out (by decide))) (fun _ h_ => op1_ h_))) hb); replace HO338 := Aside0.mk (Kd.R_below (by refine kR_ ?_; exact (rfm_ ((Kd.R_types HO338.out BK345.out (by decide))) (fun _ h_ => op1_ h_))) hb); replace HO341 := Aside0.mk (Kd.S_below (by refine kS_ ?_; exact (Kd.S_mono (Kd.S_far (p := ⟨gb345, 3, none⟩) (Kd.S_far (p := ⟨gb345, 2, none⟩) (Kd.S_far (p := ⟨gb345, 1, none⟩) (Kd.S_far (p := ⟨gb345, 0, none⟩) (Kd.S_types HO341.out BK345.out (by decide)) (fun _ hk => hk.2) (.int .i64 t335)) (fun _ hk => hk.2) (.slice Ao52 t336.length co52)) (fun _ hk => hk.2) (.slice Ao53 t339.length co53)) (fun _ hk => hk.2) (.slice Ao54 t342.length co54)) (fun _ h_ => op1_ h_))) hb); replace HO344 := Aside0.mk (Kd.R_below (by refine kR_ ?_; exact (rfm_ ((Kd.R_types HO344.out BK345.out (by decide))) (fun _ h_ => op1_ h_))) hb); have HO349 := Aside0.mk (Kd.R_lower (gr_R elo405 ehi405 ho0) (below_size (hbA_ HB.out))); have HO352 := Aside0.mk (Kd.S_lower (gr_S elo405 ehi405 ho1) (below_size (hbA_ HB.out))); have HO355 := Aside0.mk (Kd.R_lower (gr_R elo405 ehi405 ho2) (below_size (hbA_ HB.out))); have LT405 := Aside0.mk (zl_ HZ elo405); have LE405 := Aside0.mk (zle_ elo405 ehi405 hb); replace HZ := Aside0.mk (Nat.le_of_eq ehi405.out); replace BK312 := Aside0.mk (blk_below (g := gb312) (o := .cells #[.int .i64 a0_0, .slice A0_1 l0_1.length c0_1, .slice A0_2 l0_2.length c0_2, .slice A0_3 l0_3.length c0_3] 25 (0, 0)) (by exact kf_ BK312.out) hb); replace BK334 := Aside0.mk (blk_below (g := gb334) (o := .cells #[.int .i64 t324, .slice Ao43 t325.length co43, .slice Ao44 t328.length co44, .slice Ao45 t331.length co45] 30 (0, 0)) (by exact kf_ BK334.out) hb); replace BK345 := Aside0.mk (blk_below (g := gb345) (o := .cells #[.int .i64 t335, .slice Ao52 t336.length co52, .slice Ao53 t339.length co53, .slice Ao54 t342.length co54] 30 (0, 0)) (by refine kb_ ?_; refine pz4 (cs := #[.int .i64 0, .slice none 0 0, .slice none 0 0, .slice none 0 0]) ?_; refine kb_ ?_; exact BK345.out) hb); replace HB := (bs_ HB hb); (try clear hb); (try clear hb2); (try clear hk); (try clear hi); (try clear ho0); (try clear ho1); (try clear ho2)) | ((with_reducible refine gate_dst (N := 6) rfl ?_); refine box_ (N := 6) (cs := #[.int .i64 0, .slice none 0 0, .slice none 0 0, .slice none 0 0]) (t := 30) (fun gb356 hg w56 hbox hb => ?_); replace HO317 := Aside0.mk (Kd.R_below (kR_ HO317.out) hb); replace HO320 := Aside0.mk (Kd.S_below (kS_ HO320.out) hb); replace HO323 := Aside0.mk (Kd.R_below (kR_ HO323.out) hb); replace HO327 := Aside0.mk (Kd.R_below (kR_ HO327.out) hb); replace HO330 := Aside0.mk (Kd.S_below (kS_ HO330.out) hb); replace HO333 := Aside0.mk (Kd.R_below (kR_ HO333.out) hb); replace HO338 := Aside0.mk (Kd.R_below (kR_ HO338.out) hb); replace HO341 := Aside0.mk (Kd.S_below (kS_ HO341.out) hb); replace HO344 := Aside0.mk (Kd.R_below (kR_ HO344.out) hb); replace HO349 := Aside0.mk (Kd.R_below (kR_ HO349.out) hb); replace HO352 := Aside0.mk (Kd.S_below (kS_ HO352.out) hb); replace HO355 := Aside0.mk (Kd.R_below (kR_ HO355.out) hb); have BK356 := Aside0.mk (hbox); have GW356 := ge_ hg HB; have GE356 := ge_ hg HB; replace HB := (bs_ HB hb); have NB312_356 := nl_ hg BK312; have NB356_312 := ng_ hg BK312; replace BK312 := (bbA_ BK312 hb); have NB334_356 := nl_ hg BK334; have NB356_334 := ng_ hg BK334; replace BK334 := (bbA_ BK334 hb); have NB345_356 := nl_ hg BK345; have NB356_345 := ng_ hg BK345; replace BK345 := (bbA_ BK345 hb); have LTb356 := Aside0.mk (zl_ HZ ⟨hg⟩); replace HZ := Aside0.mk ((show gb356 + 1 ≤ w56.heap.size from blk_lt hbox)); clear hb hbox hg; have hnb57 := NB356_312.out; have hnc57 := NB312_356.out; have hnb58 := NB356_334.out; have hnc58 := NB334_356.out; have hnb59 := NB356_345.out; have hnc59 := NB345_356.out; have Z60 := zz4 BK356; obtain ⟨Ao61, co61, eo61⟩ := Kd.R_slice HO349.out; subst eo61; obtain ⟨Ao62, co62, eo62⟩ := Kd.S_slice HO352.out; subst eo62; obtain ⟨Ao63, co63, eo63⟩ := Kd.R_slice HO355.out; subst eo63; have Z64 := zz4 BK334) | ((with_reducible refine gate_callee (f := 15) rfl ?_); refine goesL_ (some 25) rfl rfl Try.func15 (by kernel_rfl) rfl #[.agg #[.int .i64 t346, .slice Ao61 t347.length co61, .slice Ao62 t350.length co62, .slice Ao63 t353.length co63], .agg #[.int .i64 t324, .slice Ao43 t325.length co43, .slice Ao44 t328.length co44, .slice Ao45 t331.length co45]] rfl ar_ ?_; (with_reducible refine (laws_eqClient.calls k t346 _ _ t347 _ _ t350 _ _ t353 t324 _ _ t325 _ _ t328 _ _ t331 true _ ?side1 ?side2 ?side3 ?side4 ?side5 ?side6 ?side7 ?side8 ?side9 ?side10 ?side11 ?side12 A11.out).mono ?_); (case side1 => refine (Kd.R_reads' (e := 3) (base := w.heap.size) (ok := fun k_ => (some k_ ≠ (.slice Ao63 t353.length co63 : Value).ownBlock ∧ (lo405 ≤ k_ ∧ k_ < hi405))) (n := t347.length) (c := co61) ?_).2.2; exact (by refine kR_ ?_; exact (rfm_ ((Kd.R_types HO349.out BK356.out (by decide))) (fun _ h_ => op1_ h_)))); (case side2 => exact (Kd.R_reads' HO349.out).2.1); (case side3 => refine (Kd.S_reads' (e := 41) (base := w.heap.size) (ok := fun k_ => (True ∧ (lo405 ≤ k_ ∧ k_ < hi405))) (n := t350.length) (c := co62) ?_).2.2; exact (by refine kS_ ?_; exact (Kd.S_mono (Kd.S_far (p := ⟨gb356, 3, none⟩) (Kd.S_far (p := ⟨gb356, 2, none⟩) (Kd.S_far (p := ⟨gb356, 1, none⟩) (Kd.S_far (p := ⟨gb356, 0, none⟩) (Kd.S_types HO352.out BK356.out (by decide)) (fun _ hk => hk.2) (.int .i64 t346)) (fun _ hk => hk.2) (.slice Ao61 t347.length co61)) (fun _ hk => hk.2) (.slice Ao62 t350.length co62)) (fun _ hk => hk.2) (.slice Ao63 t353.length co63)) (fun _ h_ => op1_ h_)))); (case side4 => exact (Kd.S_reads' HO352.out).2.1); (case side5 => refine (Kd.R_reads' (e := 3) (base := w.heap.size) (ok := fun k_ => (some k_ ≠ (.slice Ao61 t347.length co61 : Value).ownBlock ∧ (lo405 ≤ k_ ∧ k_ < hi405))) (n := t353.length) (c := co63) ?_).2.2; exact (by refine kR_ ?_; exact (rfm_ ((Kd.R_types HO355.out BK356.out (by decide))) (fun _ h_ => op1_ h_)))); (case side6 => exact (Kd.R_reads' HO355.out).2.1); (case side7 => refine (Kd.R_reads' (e := 3) (base := w.heap.size) (ok := fun k_ => (some k_ ≠ (.slice Ao45 t331.length co45 : Value).ownBlock ∧ (lo403 ≤ k_ ∧ k_ < hi403))) (n := t325.length) (c := co43) ?_).2.2; exact (by refine kR_ ?_; exact (rfm_ ((Kd.R_types HO327.out BK356.out (by decide))) (fun _ h_ => op1_ h_)))); (case side8 => exact (Kd.R_reads' HO327.out).2.1); (case side9 => refine (Kd.S_reads' (e := 41) (base := w.heap.size) (ok := fun k_ => (True ∧ (lo403 ≤ k_ ∧ k_ < hi403))) (n := t328.length) (c := co44) ?_).2.2; exact (by refine kS_ ?_; exact (Kd.S_mono (Kd.S_far (p := ⟨gb356, 3, none⟩) (Kd.S_far (p := ⟨gb356, 2, none⟩) (Kd.S_far (p := ⟨gb356, 1, none⟩) (Kd.S_far (p := ⟨gb356, 0, none⟩) (Kd.S_types HO330.out BK356.out (by decide)) (fun _ hk => hk.2) (.int .i64 t346)) (fun _ hk => hk.2) (.slice Ao61 t347.length co61)) (fun _ hk => hk.2) (.slice Ao62 t350.length co62)) (fun _ hk => hk.2) (.slice Ao63 t353.length co63)) (fun _ h_ => op1_ h_)))); (case side10 => exact (Kd.S_reads' HO330.out).2.1); (case side11 => refine (Kd.R_reads' (e := 3) (base := w.heap.size) (ok := fun k_ => (some k_ ≠ (.slice Ao43 t325.length co43 : Value).ownBlock ∧ (lo403 ≤ k_ ∧ k_ < hi403))) (n := t331.length) (c := co45) ?_).2.2; exact (by refine kR_ ?_; exact (rfm_ ((Kd.R_types HO333.out BK356.out (by decide))) (fun _ h_ => op1_ h_)))); (case side12 => exact (Kd.R_reads' HO333.out).2.1); rintro e w65 ⟨rfl, hb⟩; refine ⟨_, rfl, ?_⟩; replace HO317 := Aside0.mk (Kd.R_below (by refine kR_ ?_; exact (rfm_ ((Kd.R_types HO317.out BK356.out (by decide))) (fun _ h_ => op1_ h_))) hb); replace HO320 := Aside0.mk (Kd.S_below (by refine kS_ ?_; exact (Kd.S_mono (Kd.S_far (p := ⟨gb356, 3, none⟩) (Kd.S_far (p := ⟨gb356, 2, none⟩) (Kd.S_far (p := ⟨gb356, 1, none⟩) (Kd.S_far (p := ⟨gb356, 0, none⟩) (Kd.S_types HO320.out BK356.out (by decide)) (fun _ hk => hk.2) (.int .i64 t346)) (fun _ hk => hk.2) (.slice Ao61 t347.length co61)) (fun _ hk => hk.2) (.slice Ao62 t350.length co62)) (fun _ hk => hk.2) (.slice Ao63 t353.length co63)) (fun _ h_ => op1_ h_))) hb); replace HO323 := Aside0.mk (Kd.R_below (by refine kR_ ?_; exact (rfm_ ((Kd.R_types HO323.out BK356.out (by decide))) (fun _ h_ => op1_ h_))) hb); replace HO327 := Aside0.mk (Kd.R_below (by refine kR_ ?_; exact (rfm_ ((Kd.R_types HO327.out BK356.out (by decide))) (fun _ h_ => op1_ h_))) hb); replace HO330 := Aside0.mk (Kd.S_below (by refine kS_ ?_; exact (Kd.S_mono (Kd.S_far (p := ⟨gb356, 3, none⟩) (Kd.S_far (p := ⟨gb356, 2, none⟩) (Kd.S_far (p := ⟨gb356, 1, none⟩) (Kd.S_far (p := ⟨gb356, 0, none⟩) (Kd.S_types HO330.out BK356.out (by decide)) (fun _ hk => hk.2) (.int .i64 t346)) (fun _ hk => hk.2) (.slice Ao61 t347.length co61)) (fun _ hk => hk.2) (.slice Ao62 t350.length co62)) (fun _ hk => hk.2) (.slice Ao63 t353.length co63)) (fun _ h_ => op1_ h_))) hb); replace HO333 := Aside0.mk (Kd.R_below (by refine kR_ ?_; exact (rfm_ ((Kd.R_types HO333.out BK356.out (by decide))) (fun _ h_ => op1_ h_))) hb); replace HO338 := Aside0.mk (Kd.R_below (by refine kR_ ?_; exact (rfm_ ((Kd.R_types HO338.out BK356.out (by decide))) (fun _ h_ => op1_ h_))) hb); replace HO341 := Aside0.mk (Kd.S_below (by refine kS_ ?_; exact (Kd.S_mono (Kd.S_far (p := ⟨gb356, 3, none⟩) (Kd.S_far (p := ⟨gb356, 2, none⟩) (Kd.S_far (p := ⟨gb356, 1, none⟩) (Kd.S_far (p := ⟨gb356, 0, none⟩) (Kd.S_types HO341.out BK356.out (by decide)) (fun _ hk => hk.2) (.int .i64 t346)) (fun _ hk => hk.2) (.slice Ao61 t347.length co61)) (fun _ hk => hk.2) (.slice Ao62 t350.length co62)) (fun _ hk => hk.2) (.slice Ao63 t353.length co63)) (fun _ h_ => op1_ h_))) hb); replace HO344 := Aside0.mk (Kd.R_below (by refine kR_ ?_; exact (rfm_ ((Kd.R_types HO344.out BK356.out (by decide))) (fun _ h_ => op1_ h_))) hb); replace HO349 := Aside0.mk (Kd.R_below (by refine kR_ ?_; exact (rfm_ ((Kd.R_types HO349.out BK356.out (by decide))) (fun _ h_ => op1_ h_))) hb); replace HO352 := Aside0.mk (Kd.S_below (by refine kS_ ?_; exact (Kd.S_mono (Kd.S_far (p := ⟨gb356, 3, none⟩) (Kd.S_far (p := ⟨gb356, 2, none⟩) (Kd.S_far (p := ⟨gb356, 1, none⟩) (Kd.S_far (p := ⟨gb356, 0, none⟩) (Kd.S_types HO352.out BK356.out (by decide)) (fun _ hk => hk.2) (.int .i64 t346)) (fun _ hk => hk.2) (.slice Ao61 t347.length co61)) (fun _ hk => hk.2) (.slice Ao62 t350.length co62)) (fun _ hk => hk.2) (.slice Ao63 t353.length co63)) (fun _ h_ => op1_ h_))) hb); replace HO355 := Aside0.mk (Kd.R_below (by refine kR_ ?_; exact (rfm_ ((Kd.R_types HO355.out BK356.out (by decide))) (fun _ h_ => op1_ h_))) hb); replace BK312 := Aside0.mk (blk_below (g := gb312) (o := .cells #[.int .i64 a0_0, .slice A0_1 l0_1.length c0_1, .slice A0_2 l0_2.length c0_2, .slice A0_3 l0_3.length c0_3] 25 (0, 0)) (by exact kf_ BK312.out) hb); replace BK334 := Aside0.mk (blk_below (g := gb334) (o := .cells #[.int .i64 t324, .slice Ao43 t325.length co43, .slice Ao44 t328.length co44, .slice Ao45 t331.length co45] 30 (0, 0)) (by exact kf_ BK334.out) hb); replace BK345 := Aside0.mk (blk_below (g := gb345) (o := .cells #[.int .i64 t335, .slice Ao52 t336.length co52, .slice Ao53 t339.length co53, .slice Ao54 t342.length co54] 30 (0, 0)) (by exact kf_ BK345.out) hb); replace BK356 := Aside0.mk (blk_below (g := gb356) (o := .cells #[.int .i64 t346, .slice Ao61 t347.length co61, .slice Ao62 t350.length co62, .slice Ao63 t353.length co63] 30 (0, 0)) (by refine kb_ ?_; refine pz4 (cs := #[.int .i64 0, .slice none 0 0, .slice none 0 0, .slice none 0 0]) ?_; refine kb_ ?_; exact BK356.out) hb); replace HB := (bs_ HB hb); replace HZ := Aside0.mk (zs_ HZ hb); (try clear hb); (try clear hb2); (try clear hk); (try clear hi)))
           replace HO317 := Aside0.mk (Kd.R_drew HO317.out); replace HO320 := Aside0.mk (Kd.S_drew HO320.out); replace HO323 := Aside0.mk (Kd.R_drew HO323.out); replace HO327 := Aside0.mk (Kd.R_drew HO327.out); replace HO330 := Aside0.mk (Kd.S_drew HO330.out); replace HO333 := Aside0.mk (Kd.R_drew HO333.out); replace HO338 := Aside0.mk (Kd.R_drew HO338.out); replace HO341 := Aside0.mk (Kd.S_drew HO341.out); replace HO344 := Aside0.mk (Kd.R_drew HO344.out); replace HO349 := Aside0.mk (Kd.R_drew HO349.out); replace HO352 := Aside0.mk (Kd.S_drew HO352.out); replace HO355 := Aside0.mk (Kd.R_drew HO355.out); replace BK312 := Aside0.mk (blk_drew BK312.out); replace BK334 := Aside0.mk (blk_drew BK334.out); replace BK345 := Aside0.mk (blk_drew BK345.out); replace BK356 := Aside0.mk (blk_drew BK356.out); replace HB := (bd_ HB); replace HZ := Aside0.mk (zd_ HZ)
           refine start_ (n := 5) (S := fun w' => w'.cell? ⟨gb345, 0, none⟩ = some (.int .i64 t335) ∧ w'.cell? ⟨gb345, 1, none⟩ = some (.slice Ao52 t336.length co52) ∧ w'.cell? ⟨gb345, 2, none⟩ = some (.slice Ao53 t339.length co53) ∧ w'.cell? ⟨gb345, 3, none⟩ = some (.slice Ao54 t342.length co54) ∧ w'.cell? ⟨gb312, 0, none⟩ = some (.int .i64 a0_0) ∧ w'.cell? ⟨gb312, 1, none⟩ = some (.slice A0_1 l0_1.length c0_1) ∧ w'.cell? ⟨gb312, 2, none⟩ = some (.slice A0_2 l0_2.length c0_2) ∧ w'.cell? ⟨gb312, 3, none⟩ = some (.slice A0_3 l0_3.length c0_3)) (ds := []) #[false, false, false, false, false] (by kernel_rfl) rfl rfl ⟨bc_ BK345 0, bc_ BK345 1, bc_ BK345 2, bc_ BK345 3, bc_ BK312 0, bc_ BK312 1, bc_ BK312 2, bc_ BK312 3⟩ (fun hHeld => ?_)
           generalize w65.drew = w66 at HO317 HO320 HO323 HO327 HO330 HO333 HO338 HO341 HO344 HO349 HO352 HO355 BK312 BK334 BK345 BK356 HB HZ hHeld ⊢
           refine take_ (i := 0) (N := some 27) (v := ?_) (a' := ?_) #[true, false, false, false, false] rfl rfl (by kernel_rfl) (fun _ _ _ h => h) (Or.inl ⟨by rfl, ?_⟩) hHeld ?_ ?_
           rotate_left
           ·rintro w' ⟨s0, s1, s2, s3, s4, s5, s6, s7⟩
            go_simp
            with_reducible rfl
           rotate_left
           ·simp only [Act.put, List.setIfInBounds_toArray, List.set_cons_zero, List.set_cons_succ, i64_w, i32_w]
            rfl
           refine take_ (i := 1) (N := some 28) (v := ?_) (a' := ?_) #[true, true, false, false, false] rfl rfl (by kernel_rfl) (fun _ _ _ h => h) (Or.inl ⟨by rfl, ?_⟩) hHeld ?_ ?_
           rotate_left
           ·rintro w' ⟨s0, s1, s2, s3, s4, s5, s6, s7⟩
            go_simp
            with_reducible rfl
           rotate_left
           ·simp only [Act.put, List.setIfInBounds_toArray, List.set_cons_zero, List.set_cons_succ, i64_w, i32_w]
            rfl
           refine one_ (i := 2) (N := some 29) #[true, true, true, false, false] rfl rfl (by kernel_rfl) (by decide) (fun K hK => ?_)
           refine goes_ Try.func13 (by kernel_rfl) rfl #[.agg #[.int .i64 a0_0, .slice A0_1 l0_1.length c0_1, .slice A0_2 l0_2.length c0_2, .slice A0_3 l0_3.length c0_3]] (by rfl) rfl rfl ar_ ?_
           with_reducible refine (laws_toClient.calls k a0_0 _ _ l0_1 _ _ l0_2 _ _ l0_3 t358 t359 t362 t365 _ ?side1 ?side2 ?side3 ?side4 ?side5 ?side6 A13.out).mono ?_
           (case side1 => exact kC_ (Kd.C_below HR0_1.out HB.out))
           (case side2 => exact HC0_1.out)
           (case side3 => exact kC_ (Kd.C_below HR0_2.out HB.out))
           (case side4 => exact HC0_2.out)
           (case side5 => exact kC_ (Kd.C_below HR0_3.out HB.out))
           (case side6 => exact HC0_3.out)
           rintro e w67 ⟨v360, v363, v366, rfl, ho0, ho1, ho2, hb⟩
           refine ⟨_, rfl, ?_⟩
           obtain ⟨lo406, hi406, elo406, ehi406⟩ := gr_open hb
           replace HO317 := Aside0.mk (Kd.R_below (kR_ HO317.out) hb); replace HO320 := Aside0.mk (Kd.S_below (kS_ HO320.out) hb); replace HO323 := Aside0.mk (Kd.R_below (kR_ HO323.out) hb); replace HO327 := Aside0.mk (Kd.R_below (kR_ HO327.out) hb); replace HO330 := Aside0.mk (Kd.S_below (kS_ HO330.out) hb); replace HO333 := Aside0.mk (Kd.R_below (kR_ HO333.out) hb); replace HO338 := Aside0.mk (Kd.R_below (kR_ HO338.out) hb); replace HO341 := Aside0.mk (Kd.S_below (kS_ HO341.out) hb); replace HO344 := Aside0.mk (Kd.R_below (kR_ HO344.out) hb); replace HO349 := Aside0.mk (Kd.R_below (kR_ HO349.out) hb); replace HO352 := Aside0.mk (Kd.S_below (kS_ HO352.out) hb); replace HO355 := Aside0.mk (Kd.R_below (kR_ HO355.out) hb); have HO361 := Aside0.mk (Kd.R_lower (gr_R elo406 ehi406 ho0) (below_size (hbA_ HB.out))); have HO364 := Aside0.mk (Kd.S_lower (gr_S elo406 ehi406 ho1) (below_size (hbA_ HB.out))); have HO367 := Aside0.mk (Kd.R_lower (gr_R elo406 ehi406 ho2) (below_size (hbA_ HB.out))); have LT406 := Aside0.mk (zl_ HZ elo406); have LE406 := Aside0.mk (zle_ elo406 ehi406 hb); replace HZ := Aside0.mk (Nat.le_of_eq ehi406.out); replace BK312 := (bbA_ BK312 hb); replace BK334 := (bbA_ BK334 hb); replace BK345 := (bbA_ BK345 hb); replace BK356 := (bbA_ BK356 hb); replace HB := (bs_ HB hb); (try clear hb); (try clear hb2); (try clear hk); (try clear hi); (try clear ho0); (try clear ho1); (try clear ho2)
           obtain ⟨Ao68, co68, eo68⟩ := Kd.R_slice HO361.out
           (first | subst eo68 | (injection eo68 with f1_ f2_ f3_; have f4_ := f1_.symm; have f5_ := f3_.symm; clear f1_ f2_ f3_; subst f4_; subst f5_))
           obtain ⟨Ao69, co69, eo69⟩ := Kd.S_slice HO364.out
           (first | subst eo69 | (injection eo69 with f1_ f2_ f3_; have f4_ := f1_.symm; have f5_ := f3_.symm; clear f1_ f2_ f3_; subst f4_; subst f5_))
           obtain ⟨Ao70, co70, eo70⟩ := Kd.R_slice HO367.out
           (first | subst eo70 | (injection eo70 with f1_ f2_ f3_; have f4_ := f1_.symm; have f5_ := f3_.symm; clear f1_ f2_ f3_; subst f4_; subst f5_))
           refine hK.out _ _ ⟨bc_ BK345 0, bc_ BK345 1, bc_ BK345 2, bc_ BK345 3, bc_ BK312 0, bc_ BK312 1, bc_ BK312 2, bc_ BK312 3⟩ (fun hHeld => ?_)
           clear hK K; refine nm_ 29 ?_
           refine one_ (i := 3) (N := some 30) #[true, true, true, true, false] rfl rfl (by kernel_rfl) (by decide) (fun K hK => ?_)
           refine goes_ Try.func15 (by kernel_rfl) rfl #[.agg #[.int .i64 t335, .slice Ao52 t336.length co52, .slice Ao53 t339.length co53, .slice Ao54 t342.length co54], .agg #[.int .i64 t358, .slice Ao68 t359.length co68, .slice Ao69 t362.length co69, .slice Ao70 t365.length co70]] (by rfl) rfl rfl ar_ ?_
           with_reducible refine (laws_eqClient.calls k t335 _ _ t336 _ _ t339 _ _ t342 t358 _ _ t359 _ _ t362 _ _ t365 true _ ?side1 ?side2 ?side3 ?side4 ?side5 ?side6 ?side7 ?side8 ?side9 ?side10 ?side11 ?side12 A14.out).mono ?_
           (case side1 => exact kC_ (Kd.R_reads' HO338.out).2.2)
           (case side2 => exact (Kd.R_reads' HO338.out).2.1)
           (case side3 => exact kC_ (Kd.S_reads' HO341.out).2.2)
           (case side4 => exact (Kd.S_reads' HO341.out).2.1)
           (case side5 => exact kC_ (Kd.R_reads' HO344.out).2.2)
           (case side6 => exact (Kd.R_reads' HO344.out).2.1)
           (case side7 => exact kC_ (Kd.R_reads' HO361.out).2.2)
           (case side8 => exact (Kd.R_reads' HO361.out).2.1)
           (case side9 => exact kC_ (Kd.S_reads' HO364.out).2.2)
           (case side10 => exact (Kd.S_reads' HO364.out).2.1)
           (case side11 => exact kC_ (Kd.R_reads' HO367.out).2.2)
           (case side12 => exact (Kd.R_reads' HO367.out).2.1)
           rintro e w71 ⟨rfl, hb⟩
           refine ⟨_, rfl, ?_⟩
           replace HO317 := Aside0.mk (Kd.R_below (kR_ HO317.out) hb); replace HO320 := Aside0.mk (Kd.S_below (kS_ HO320.out) hb); replace HO323 := Aside0.mk (Kd.R_below (kR_ HO323.out) hb); replace HO327 := Aside0.mk (Kd.R_below (kR_ HO327.out) hb); replace HO330 := Aside0.mk (Kd.S_below (kS_ HO330.out) hb); replace HO333 := Aside0.mk (Kd.R_below (kR_ HO333.out) hb); replace HO338 := Aside0.mk (Kd.R_below (kR_ HO338.out) hb); replace HO341 := Aside0.mk (Kd.S_below (kS_ HO341.out) hb); replace HO344 := Aside0.mk (Kd.R_below (kR_ HO344.out) hb); replace HO349 := Aside0.mk (Kd.R_below (kR_ HO349.out) hb); replace HO352 := Aside0.mk (Kd.S_below (kS_ HO352.out) hb); replace HO355 := Aside0.mk (Kd.R_below (kR_ HO355.out) hb); replace HO361 := Aside0.mk (Kd.R_below (kR_ HO361.out) hb); replace HO364 := Aside0.mk (Kd.S_below (kS_ HO364.out) hb); replace HO367 := Aside0.mk (Kd.R_below (kR_ HO367.out) hb); replace BK312 := (bbA_ BK312 hb); replace BK334 := (bbA_ BK334 hb); replace BK345 := (bbA_ BK345 hb); replace BK356 := (bbA_ BK356 hb); replace HB := (bs_ HB hb); replace HZ := Aside0.mk (zs_ HZ hb); (try clear hb); (try clear hb2); (try clear hk); (try clear hi)
           refine hK.out _ _ ⟨bc_ BK345 0, bc_ BK345 1, bc_ BK345 2, bc_ BK345 3, bc_ BK312 0, bc_ BK312 1, bc_ BK312 2, bc_ BK312 3⟩ (fun hHeld => ?_)
           clear hK K; refine nm_ 30 ?_
           refine pure_ (i := 4) (N := some 31) (v := ?_) (a' := ?_) #[true, true, true, true, true] rfl rfl (by kernel_rfl) (fun _ _ _ h => h) (Or.inl ⟨by rfl, ?_⟩) ?_ ?_
           rotate_left
           ·intro w'
            go_simp
            with_reducible rfl
           rotate_left
           ·simp only [Act.put, List.setIfInBounds_toArray, List.set_cons_zero, List.set_cons_succ, i64_w, i32_w]
            rfl
           refine done_ (by kernel_rfl) ?_
           have Z72 := zz4 BK345
           try go_wp2_with (first | ((with_reducible refine gate_callee (f := 30) rfl ?_); refine goesL_ (some 34) rfl rfl Try.func30 (by kernel_rfl) rfl #[.agg #[.int .i64 t335, .slice Ao52 t336.length co52, .slice Ao53 t339.length co53, .slice Ao54 t342.length co54], .int .i64 1] rfl ar_ ?_; (with_reducible refine (laws_markClient.calls k t335 (fun k_ => some k_ = (.slice Ao52 t336.length co52 : Value).ownBlock) (.slice Ao52 t336.length co52) t336 (fun k_ => (True) ∧ lo404 ≤ k_ ∧ k_ < hi404) (.slice Ao53 t339.length co53) t339 (fun k_ => some k_ = (.slice Ao54 t342.length co54 : Value).ownBlock) (.slice Ao54 t342.length co54) t342 1 t369 t370 t371 t372 w _ ?side1 ?side2 ?side3 ?side4 ?side5 ?side6 A16.out).mono ?_); (case side1 => exact hbA_ HB.out); (case side2 => exact Kd.R_tight rfl (kR_ HO338.out)); (case side3 => exact fun k_ e_ => (HO338.out.1 k_ e_.symm).1); (case side4 => exact (kS_ HO341.out)); (case side5 => exact Kd.R_tight rfl (kR_ HO344.out)); (case side6 => exact fun k_ e_ => (HO344.out.1 k_ e_.symm).1); rintro e w73 ⟨rfl, hy0, hy1, hy2, hb, hkp⟩; refine ⟨_, rfl, ?_⟩; have hkr := gk_mono (lo := lo404) (hi := hi404) hkp (fun k_ hs_ => (Or.elim hs_ (fun hs_ => (HO338.out.1 _ hs_.symm).2) (fun hs_ => (Or.elim hs_ (fun hs_ => hs_.2) (fun hs_ => (HO344.out.1 _ hs_.symm).2))))); replace BK312 := Aside0.mk (blk_kept (kb_ BK312.out) hkr (rng_ne (k := gb312) ⟨Nat.le_refl _, Nat.lt_succ_self _⟩ (Or.inl (Nat.le_trans (Nat.le_trans (Nat.le_trans LT402.out (Nat.le_trans LE402.out LT403.out)) (Nat.le_trans LE403.out LTb334.out)) (Nat.le_trans (Nat.le_succ _) LT404.out))))); replace HO317 := Aside0.mk (gkR_ HO317 hkr (fun k_ hk_ => rng_ne hk_.2 (Or.inl (Nat.le_trans (Nat.le_trans LT403.out (Nat.le_trans LE403.out LTb334.out)) (Nat.le_trans (Nat.le_succ _) LT404.out))))); replace HO320 := Aside0.mk (gkS_ HO320 hkr (fun k_ hk_ => rng_ne hk_.2 (Or.inl (Nat.le_trans (Nat.le_trans LT403.out (Nat.le_trans LE403.out LTb334.out)) (Nat.le_trans (Nat.le_succ _) LT404.out))))); replace HO323 := Aside0.mk (gkR_ HO323 hkr (fun k_ hk_ => rng_ne hk_.2 (Or.inl (Nat.le_trans (Nat.le_trans LT403.out (Nat.le_trans LE403.out LTb334.out)) (Nat.le_trans (Nat.le_succ _) LT404.out))))); replace HO327 := Aside0.mk (gkR_ HO327 hkr (fun k_ hk_ => rng_ne hk_.2 (Or.inl (Nat.le_trans LTb334.out (Nat.le_trans (Nat.le_succ _) LT404.out))))); replace HO330 := Aside0.mk (gkS_ HO330 hkr (fun k_ hk_ => rng_ne hk_.2 (Or.inl (Nat.le_trans LTb334.out (Nat.le_trans (Nat.le_succ _) LT404.out))))); replace HO333 := Aside0.mk (gkR_ HO333 hkr (fun k_ hk_ => rng_ne hk_.2 (Or.inl (Nat.le_trans LTb334.out (Nat.le_trans (Nat.le_succ _) LT404.out))))); replace BK334 := Aside0.mk (blk_kept (kb_ BK334.out) hkr (rng_ne (k := gb334) ⟨Nat.le_refl _, Nat.lt_succ_self _⟩ (Or.inl LT404.out))); replace HO338 := Aside0.mk (Kd.R_reok rfl hy0 (fun k_ e_ => HO338.out.1 k_ e_)); replace HO341 := Aside0.mk (hy1); replace HO344 := Aside0.mk (Kd.R_reok rfl hy2 (fun k_ e_ => HO344.out.1 k_ e_)); replace BK345 := Aside0.mk (blk_kept (kb_ BK345.out) hkr (rng_ne (k := gb345) ⟨Nat.le_refl _, Nat.lt_succ_self _⟩ (Or.inr LTb345.out))); replace HO349 := Aside0.mk (gkR_ HO349 hkr (fun k_ hk_ => rng_ne hk_.2 (Or.inr (Nat.le_trans LTb345.out (Nat.le_trans (Nat.le_succ _) LT405.out))))); replace HO352 := Aside0.mk (gkS_ HO352 hkr (fun k_ hk_ => rng_ne hk_.2 (Or.inr (Nat.le_trans LTb345.out (Nat.le_trans (Nat.le_succ _) LT405.out))))); replace HO355 := Aside0.mk (gkR_ HO355 hkr (fun k_ hk_ => rng_ne hk_.2 (Or.inr (Nat.le_trans LTb345.out (Nat.le_trans (Nat.le_succ _) LT405.out))))); replace BK356 := Aside0.mk (blk_kept (kb_ BK356.out) hkr (rng_ne (k := gb356) ⟨Nat.le_refl _, Nat.lt_succ_self _⟩ (Or.inr (Nat.le_trans (Nat.le_trans LTb345.out (Nat.le_trans (Nat.le_succ _) LT405.out)) (Nat.le_trans LE405.out LTb356.out))))); replace HO361 := Aside0.mk (gkR_ HO361 hkr (fun k_ hk_ => rng_ne hk_.2 (Or.inr (Nat.le_trans (Nat.le_trans (Nat.le_trans LTb345.out (Nat.le_trans (Nat.le_succ _) LT405.out)) (Nat.le_trans LE405.out LTb356.out)) (Nat.le_trans (Nat.le_succ _) LT406.out))))); replace HO364 := Aside0.mk (gkS_ HO364 hkr (fun k_ hk_ => rng_ne hk_.2 (Or.inr (Nat.le_trans (Nat.le_trans (Nat.le_trans LTb345.out (Nat.le_trans (Nat.le_succ _) LT405.out)) (Nat.le_trans LE405.out LTb356.out)) (Nat.le_trans (Nat.le_succ _) LT406.out))))); replace HO367 := Aside0.mk (gkR_ HO367 hkr (fun k_ hk_ => rng_ne hk_.2 (Or.inr (Nat.le_trans (Nat.le_trans (Nat.le_trans LTb345.out (Nat.le_trans (Nat.le_succ _) LT405.out)) (Nat.le_trans LE405.out LTb356.out)) (Nat.le_trans (Nat.le_succ _) LT406.out))))); replace HB := Aside0.mk (hb); replace HZ := Aside0.mk (zk_ HZ hkr); (try clear hb); (try clear hkp); (try clear hkr); (try clear hy0); (try clear hy1); (try clear hy2); have Z74 := zz4 BK356; have Z75 := zz4 BK334) | (go_at_call 15; (with_reducible refine (laws_eqClient.calls k t346 _ _ t347 _ _ t350 _ _ t353 t324 _ _ t325 _ _ t328 _ _ t331 true _ ?side1 ?side2 ?side3 ?side4 ?side5 ?side6 ?side7 ?side8 ?side9 ?side10 ?side11 ?side12 A18.out).mono ?_); (case side1 => exact kC_ (Kd.R_reads' HO349.out).2.2); (case side2 => exact (Kd.R_reads' HO349.out).2.1); (case side3 => exact kC_ (Kd.S_reads' HO352.out).2.2); (case side4 => exact (Kd.S_reads' HO352.out).2.1); (case side5 => exact kC_ (Kd.R_reads' HO355.out).2.2); (case side6 => exact (Kd.R_reads' HO355.out).2.1); (case side7 => exact kC_ (Kd.R_reads' HO327.out).2.2); (case side8 => exact (Kd.R_reads' HO327.out).2.1); (case side9 => exact kC_ (Kd.S_reads' HO330.out).2.2); (case side10 => exact (Kd.S_reads' HO330.out).2.1); (case side11 => exact kC_ (Kd.R_reads' HO333.out).2.2); (case side12 => exact (Kd.R_reads' HO333.out).2.1); rintro e w76 ⟨rfl, hb⟩; replace HO317 := Aside0.mk (Kd.R_below (kR_ HO317.out) hb); replace HO320 := Aside0.mk (Kd.S_below (kS_ HO320.out) hb); replace HO323 := Aside0.mk (Kd.R_below (kR_ HO323.out) hb); replace HO327 := Aside0.mk (Kd.R_below (kR_ HO327.out) hb); replace HO330 := Aside0.mk (Kd.S_below (kS_ HO330.out) hb); replace HO333 := Aside0.mk (Kd.R_below (kR_ HO333.out) hb); replace HO338 := Aside0.mk (Kd.R_below (kR_ HO338.out) hb); replace HO341 := Aside0.mk (Kd.S_below (kS_ HO341.out) hb); replace HO344 := Aside0.mk (Kd.R_below (kR_ HO344.out) hb); replace HO349 := Aside0.mk (Kd.R_below (kR_ HO349.out) hb); replace HO352 := Aside0.mk (Kd.S_below (kS_ HO352.out) hb); replace HO355 := Aside0.mk (Kd.R_below (kR_ HO355.out) hb); replace HO361 := Aside0.mk (Kd.R_below (kR_ HO361.out) hb); replace HO364 := Aside0.mk (Kd.S_below (kS_ HO364.out) hb); replace HO367 := Aside0.mk (Kd.R_below (kR_ HO367.out) hb); replace BK312 := (bbA_ BK312 hb); replace BK334 := (bbA_ BK334 hb); replace BK345 := (bbA_ BK345 hb); replace BK356 := (bbA_ BK356 hb); replace HB := (bs_ HB hb); replace HZ := Aside0.mk (zs_ HZ hb); (try clear hb); (try clear hb2); (try clear hk); (try clear hi); have Z77 := zz4 BK356) | ((with_reducible refine gate_callee (f := 30) rfl ?_); refine goesL_ (some 45) rfl rfl Try.func30 (by kernel_rfl) rfl #[.agg #[.int .i64 t346, .slice Ao61 t347.length co61, .slice Ao62 t350.length co62, .slice Ao63 t353.length co63], .int .i64 1] rfl ar_ ?_; (with_reducible refine (laws_markClient.calls k t346 (fun k_ => some k_ = (.slice Ao61 t347.length co61 : Value).ownBlock) (.slice Ao61 t347.length co61) t347 (fun k_ => (True) ∧ lo405 ≤ k_ ∧ k_ < hi405) (.slice Ao62 t350.length co62) t350 (fun k_ => some k_ = (.slice Ao63 t353.length co63 : Value).ownBlock) (.slice Ao63 t353.length co63) t353 1 t374 t375 t376 t377 w _ ?side1 ?side2 ?side3 ?side4 ?side5 ?side6 A20.out).mono ?_); (case side1 => exact hbA_ HB.out); (case side2 => exact Kd.R_tight rfl (kR_ HO349.out)); (case side3 => exact fun k_ e_ => (HO349.out.1 k_ e_.symm).1); (case side4 => exact (kS_ HO352.out)); (case side5 => exact Kd.R_tight rfl (kR_ HO355.out)); (case side6 => exact fun k_ e_ => (HO355.out.1 k_ e_.symm).1); rintro e w78 ⟨rfl, hy0, hy1, hy2, hb, hkp⟩; refine ⟨_, rfl, ?_⟩; have hkr := gk_mono (lo := lo405) (hi := hi405) hkp (fun k_ hs_ => (Or.elim hs_ (fun hs_ => (HO349.out.1 _ hs_.symm).2) (fun hs_ => (Or.elim hs_ (fun hs_ => hs_.2) (fun hs_ => (HO355.out.1 _ hs_.symm).2))))); replace BK312 := Aside0.mk (blk_kept (kb_ BK312.out) hkr (rng_ne (k := gb312) ⟨Nat.le_refl _, Nat.lt_succ_self _⟩ (Or.inl (Nat.le_trans (Nat.le_trans (Nat.le_trans (Nat.le_trans (Nat.le_trans LT402.out (Nat.le_trans LE402.out LT403.out)) (Nat.le_trans LE403.out LTb334.out)) (Nat.le_trans (Nat.le_succ _) LT404.out)) (Nat.le_trans LE404.out LTb345.out)) (Nat.le_trans (Nat.le_succ _) LT405.out))))); replace HO317 := Aside0.mk (gkR_ HO317 hkr (fun k_ hk_ => rng_ne hk_.2 (Or.inl (Nat.le_trans (Nat.le_trans (Nat.le_trans (Nat.le_trans LT403.out (Nat.le_trans LE403.out LTb334.out)) (Nat.le_trans (Nat.le_succ _) LT404.out)) (Nat.le_trans LE404.out LTb345.out)) (Nat.le_trans (Nat.le_succ _) LT405.out))))); replace HO320 := Aside0.mk (gkS_ HO320 hkr (fun k_ hk_ => rng_ne hk_.2 (Or.inl (Nat.le_trans (Nat.le_trans (Nat.le_trans (Nat.le_trans LT403.out (Nat.le_trans LE403.out LTb334.out)) (Nat.le_trans (Nat.le_succ _) LT404.out)) (Nat.le_trans LE404.out LTb345.out)) (Nat.le_trans (Nat.le_succ _) LT405.out))))); replace HO323 := Aside0.mk (gkR_ HO323 hkr (fun k_ hk_ => rng_ne hk_.2 (Or.inl (Nat.le_trans (Nat.le_trans (Nat.le_trans (Nat.le_trans LT403.out (Nat.le_trans LE403.out LTb334.out)) (Nat.le_trans (Nat.le_succ _) LT404.out)) (Nat.le_trans LE404.out LTb345.out)) (Nat.le_trans (Nat.le_succ _) LT405.out))))); replace HO327 := Aside0.mk (gkR_ HO327 hkr (fun k_ hk_ => rng_ne hk_.2 (Or.inl (Nat.le_trans (Nat.le_trans (Nat.le_trans LTb334.out (Nat.le_trans (Nat.le_succ _) LT404.out)) (Nat.le_trans LE404.out LTb345.out)) (Nat.le_trans (Nat.le_succ _) LT405.out))))); replace HO330 := Aside0.mk (gkS_ HO330 hkr (fun k_ hk_ => rng_ne hk_.2 (Or.inl (Nat.le_trans (Nat.le_trans (Nat.le_trans LTb334.out (Nat.le_trans (Nat.le_succ _) LT404.out)) (Nat.le_trans LE404.out LTb345.out)) (Nat.le_trans (Nat.le_succ _) LT405.out))))); replace HO333 := Aside0.mk (gkR_ HO333 hkr (fun k_ hk_ => rng_ne hk_.2 (Or.inl (Nat.le_trans (Nat.le_trans (Nat.le_trans LTb334.out (Nat.le_trans (Nat.le_succ _) LT404.out)) (Nat.le_trans LE404.out LTb345.out)) (Nat.le_trans (Nat.le_succ _) LT405.out))))); replace BK334 := Aside0.mk (blk_kept (kb_ BK334.out) hkr (rng_ne (k := gb334) ⟨Nat.le_refl _, Nat.lt_succ_self _⟩ (Or.inl (Nat.le_trans (Nat.le_trans LT404.out (Nat.le_trans LE404.out LTb345.out)) (Nat.le_trans (Nat.le_succ _) LT405.out))))); replace HO338 := Aside0.mk (gkR_ HO338 hkr (fun k_ hk_ => rng_ne hk_.2 (Or.inl (Nat.le_trans LTb345.out (Nat.le_trans (Nat.le_succ _) LT405.out))))); replace HO341 := Aside0.mk (gkS_ HO341 hkr (fun k_ hk_ => rng_ne hk_.2 (Or.inl (Nat.le_trans LTb345.out (Nat.le_trans (Nat.le_succ _) LT405.out))))); replace HO344 := Aside0.mk (gkR_ HO344 hkr (fun k_ hk_ => rng_ne hk_.2 (Or.inl (Nat.le_trans LTb345.out (Nat.le_trans (Nat.le_succ _) LT405.out))))); replace BK345 := Aside0.mk (blk_kept (kb_ BK345.out) hkr (rng_ne (k := gb345) ⟨Nat.le_refl _, Nat.lt_succ_self _⟩ (Or.inl LT405.out))); replace HO349 := Aside0.mk (Kd.R_reok rfl hy0 (fun k_ e_ => HO349.out.1 k_ e_)); replace HO352 := Aside0.mk (hy1); replace HO355 := Aside0.mk (Kd.R_reok rfl hy2 (fun k_ e_ => HO355.out.1 k_ e_)); replace BK356 := Aside0.mk (blk_kept (kb_ BK356.out) hkr (rng_ne (k := gb356) ⟨Nat.le_refl _, Nat.lt_succ_self _⟩ (Or.inr LTb356.out))); replace HO361 := Aside0.mk (gkR_ HO361 hkr (fun k_ hk_ => rng_ne hk_.2 (Or.inr (Nat.le_trans LTb356.out (Nat.le_trans (Nat.le_succ _) LT406.out))))); replace HO364 := Aside0.mk (gkS_ HO364 hkr (fun k_ hk_ => rng_ne hk_.2 (Or.inr (Nat.le_trans LTb356.out (Nat.le_trans (Nat.le_succ _) LT406.out))))); replace HO367 := Aside0.mk (gkR_ HO367 hkr (fun k_ hk_ => rng_ne hk_.2 (Or.inr (Nat.le_trans LTb356.out (Nat.le_trans (Nat.le_succ _) LT406.out))))); replace HB := Aside0.mk (hb); replace HZ := Aside0.mk (zk_ HZ hkr); (try clear hb); (try clear hkp); (try clear hkr); (try clear hy0); (try clear hy1); (try clear hy2); have Z79 := zz4 BK356) | ((with_reducible refine gate_callee (f := 31) rfl ?_); refine goesL_ (some 48) rfl rfl Try.func31 (by kernel_rfl) rfl #[.agg #[.int .i64 t346, .slice Ao61 t375.length co61, .slice Ao62 t376.length co62, .slice Ao63 t377.length co63], .int .i64 1] rfl (by (try simp only [List.map_toArray, List.map_cons, List.map_nil]); first | done | (rw [show t375.length = t347.length from (Kd.R_reads' HO349.out).1.symm, show t376.length = t350.length from (Kd.S_reads' HO352.out).1.symm, show t377.length = t353.length from (Kd.R_reads' HO355.out).1.symm] <;> rfl) | rfl | (simp only [List.length_drop, List.length_take]; rfl)) ?_; (with_reducible refine (laws_heldClient.calls k t346 _ _ t375 _ _ t376 _ _ t377 1 t378 _ ?side1 ?side2 ?side3 ?side4 ?side5 ?side6 A21.out).mono ?_); (case side1 => exact kC_ (Kd.R_reads' HO349.out).2.2); (case side2 => rw [show t375.length = t347.length from (Kd.R_reads' HO349.out).1.symm]; exact (Kd.R_reads' HO349.out).2.1); (case side3 => exact kC_ (Kd.S_reads' HO352.out).2.2); (case side4 => rw [show t376.length = t350.length from (Kd.S_reads' HO352.out).1.symm]; exact (Kd.S_reads' HO352.out).2.1); (case side5 => exact kC_ (Kd.R_reads' HO355.out).2.2); (case side6 => rw [show t377.length = t353.length from (Kd.R_reads' HO355.out).1.symm]; exact (Kd.R_reads' HO355.out).2.1); rintro e w80 ⟨rfl, hb⟩; refine ⟨_, rfl, ?_⟩; replace HO317 := Aside0.mk (Kd.R_below (kR_ HO317.out) hb); replace HO320 := Aside0.mk (Kd.S_below (kS_ HO320.out) hb); replace HO323 := Aside0.mk (Kd.R_below (kR_ HO323.out) hb); replace HO327 := Aside0.mk (Kd.R_below (kR_ HO327.out) hb); replace HO330 := Aside0.mk (Kd.S_below (kS_ HO330.out) hb); replace HO333 := Aside0.mk (Kd.R_below (kR_ HO333.out) hb); replace HO338 := Aside0.mk (Kd.R_below (kR_ HO338.out) hb); replace HO341 := Aside0.mk (Kd.S_below (kS_ HO341.out) hb); replace HO344 := Aside0.mk (Kd.R_below (kR_ HO344.out) hb); replace HO349 := Aside0.mk (Kd.R_below (kR_ HO349.out) hb); replace HO352 := Aside0.mk (Kd.S_below (kS_ HO352.out) hb); replace HO355 := Aside0.mk (Kd.R_below (kR_ HO355.out) hb); replace HO361 := Aside0.mk (Kd.R_below (kR_ HO361.out) hb); replace HO364 := Aside0.mk (Kd.S_below (kS_ HO364.out) hb); replace HO367 := Aside0.mk (Kd.R_below (kR_ HO367.out) hb); replace BK312 := (bbA_ BK312 hb); replace BK334 := (bbA_ BK334 hb); replace BK345 := (bbA_ BK345 hb); replace BK356 := (bbA_ BK356 hb); replace HB := (bs_ HB hb); replace HZ := Aside0.mk (zs_ HZ hb); (try clear hb); (try clear hb2); (try clear hk); (try clear hi); have Z81 := zz4 BK312) | ((with_reducible refine gate_callee (f := 13) rfl ?_); refine goesL_ (some 55) rfl rfl Try.func13 (by kernel_rfl) rfl #[.agg #[.int .i64 a0_0, .slice A0_1 l0_1.length c0_1, .slice A0_2 l0_2.length c0_2, .slice A0_3 l0_3.length c0_3]] rfl ar_ ?_; (with_reducible refine (laws_toClient.calls k a0_0 _ _ l0_1 _ _ l0_2 _ _ l0_3 t379 t380 t383 t386 _ ?side1 ?side2 ?side3 ?side4 ?side5 ?side6 A24.out).mono ?_); (case side1 => exact kC_ (Kd.C_below HR0_1.out HB.out)); (case side2 => exact HC0_1.out); (case side3 => exact kC_ (Kd.C_below HR0_2.out HB.out)); (case side4 => exact HC0_2.out); (case side5 => exact kC_ (Kd.C_below HR0_3.out HB.out)); (case side6 => exact HC0_3.out); rintro e w82 ⟨v381, v384, v387, rfl, ho0, ho1, ho2, hb⟩; refine ⟨_, rfl, ?_⟩; obtain ⟨lo407, hi407, elo407, ehi407⟩ := gr_open hb; replace HO317 := Aside0.mk (Kd.R_below (kR_ HO317.out) hb); replace HO320 := Aside0.mk (Kd.S_below (kS_ HO320.out) hb); replace HO323 := Aside0.mk (Kd.R_below (kR_ HO323.out) hb); replace HO327 := Aside0.mk (Kd.R_below (kR_ HO327.out) hb); replace HO330 := Aside0.mk (Kd.S_below (kS_ HO330.out) hb); replace HO333 := Aside0.mk (Kd.R_below (kR_ HO333.out) hb); replace HO338 := Aside0.mk (Kd.R_below (kR_ HO338.out) hb); replace HO341 := Aside0.mk (Kd.S_below (kS_ HO341.out) hb); replace HO344 := Aside0.mk (Kd.R_below (kR_ HO344.out) hb); replace HO349 := Aside0.mk (Kd.R_below (kR_ HO349.out) hb); replace HO352 := Aside0.mk (Kd.S_below (kS_ HO352.out) hb); replace HO355 := Aside0.mk (Kd.R_below (kR_ HO355.out) hb); replace HO361 := Aside0.mk (Kd.R_below (kR_ HO361.out) hb); replace HO364 := Aside0.mk (Kd.S_below (kS_ HO364.out) hb); replace HO367 := Aside0.mk (Kd.R_below (kR_ HO367.out) hb); have HO382 := Aside0.mk (Kd.R_lower (gr_R elo407 ehi407 ho0) (below_size (hbA_ HB.out))); have HO385 := Aside0.mk (Kd.S_lower (gr_S elo407 ehi407 ho1) (below_size (hbA_ HB.out))); have HO388 := Aside0.mk (Kd.R_lower (gr_R elo407 ehi407 ho2) (below_size (hbA_ HB.out))); have LT407 := Aside0.mk (zl_ HZ elo407); have LE407 := Aside0.mk (zle_ elo407 ehi407 hb); replace HZ := Aside0.mk (Nat.le_of_eq ehi407.out); replace BK312 := (bbA_ BK312 hb); replace BK334 := (bbA_ BK334 hb); replace BK345 := (bbA_ BK345 hb); replace BK356 := (bbA_ BK356 hb); replace HB := (bs_ HB hb); (try clear hb); (try clear hb2); (try clear hk); (try clear hi); (try clear ho0); (try clear ho1); (try clear ho2); obtain ⟨Ao83, co83, eo83⟩ := Kd.R_slice HO382.out; subst eo83; obtain ⟨Ao84, co84, eo84⟩ := Kd.S_slice HO385.out; subst eo84; obtain ⟨Ao85, co85, eo85⟩ := Kd.R_slice HO388.out; subst eo85) | ((with_reducible refine gate_callee (f := 17) rfl ?_); refine goesL_ (some 56) rfl rfl Try.func17 (by kernel_rfl) rfl #[.agg #[.int .i64 t379, .slice Ao83 t380.length co83, .slice Ao84 t383.length co84, .slice Ao85 t386.length co85]] rfl ar_ ?_; (with_reducible refine (impl_ClientOver.calls k t379 _ _ t380 _ _ t383 _ _ t386 t389 t390 t393 t396 _ ?side1 ?side2 ?side3 ?side4 ?side5 ?side6 A25.out).mono ?_); (case side1 => exact kC_ (Kd.R_reads' HO382.out).2.2); (case side2 => exact (Kd.R_reads' HO382.out).2.1); (case side3 => exact kC_ (Kd.S_reads' HO385.out).2.2); (case side4 => exact (Kd.S_reads' HO385.out).2.1); (case side5 => exact kC_ (Kd.R_reads' HO388.out).2.2); (case side6 => exact (Kd.R_reads' HO388.out).2.1); rintro e w86 ⟨v391, v394, v397, rfl, ho0, ho1, ho2, hb⟩; refine ⟨_, rfl, ?_⟩; obtain ⟨lo408, hi408, elo408, ehi408⟩ := gr_open hb; replace HO317 := Aside0.mk (Kd.R_below (kR_ HO317.out) hb); replace HO320 := Aside0.mk (Kd.S_below (kS_ HO320.out) hb); replace HO323 := Aside0.mk (Kd.R_below (kR_ HO323.out) hb); replace HO327 := Aside0.mk (Kd.R_below (kR_ HO327.out) hb); replace HO330 := Aside0.mk (Kd.S_below (kS_ HO330.out) hb); replace HO333 := Aside0.mk (Kd.R_below (kR_ HO333.out) hb); replace HO338 := Aside0.mk (Kd.R_below (kR_ HO338.out) hb); replace HO341 := Aside0.mk (Kd.S_below (kS_ HO341.out) hb); replace HO344 := Aside0.mk (Kd.R_below (kR_ HO344.out) hb); replace HO349 := Aside0.mk (Kd.R_below (kR_ HO349.out) hb); replace HO352 := Aside0.mk (Kd.S_below (kS_ HO352.out) hb); replace HO355 := Aside0.mk (Kd.R_below (kR_ HO355.out) hb); replace HO361 := Aside0.mk (Kd.R_below (kR_ HO361.out) hb); replace HO364 := Aside0.mk (Kd.S_below (kS_ HO364.out) hb); replace HO367 := Aside0.mk (Kd.R_below (kR_ HO367.out) hb); replace HO382 := Aside0.mk (Kd.R_below (kR_ HO382.out) hb); replace HO385 := Aside0.mk (Kd.S_below (kS_ HO385.out) hb); replace HO388 := Aside0.mk (Kd.R_below (kR_ HO388.out) hb); have HO392 := Aside0.mk (Kd.R_lower (gr_R elo408 ehi408 ho0) (below_size (hbA_ HB.out))); have HO395 := Aside0.mk (Kd.S_lower (gr_S elo408 ehi408 ho1) (below_size (hbA_ HB.out))); have HO398 := Aside0.mk (Kd.R_lower (gr_R elo408 ehi408 ho2) (below_size (hbA_ HB.out))); have LT408 := Aside0.mk (zl_ HZ elo408); have LE408 := Aside0.mk (zle_ elo408 ehi408 hb); replace HZ := Aside0.mk (Nat.le_of_eq ehi408.out); replace BK312 := (bbA_ BK312 hb); replace BK334 := (bbA_ BK334 hb); replace BK345 := (bbA_ BK345 hb); replace BK356 := (bbA_ BK356 hb); replace HB := (bs_ HB hb); (try clear hb); (try clear hb2); (try clear hk); (try clear hi); (try clear ho0); (try clear ho1); (try clear ho2)) | ((with_reducible refine gate_dst (N := 10) rfl ?_); refine box_ (N := 10) (cs := #[.int .i64 0, .slice none 0 0, .slice none 0 0, .slice none 0 0]) (t := 30) (fun gb399 hg w87 hbox hb => ?_); have n0_ := Aside0.mk (Kd.R_below (kR_ HO317.out) hb); have n1_ := Aside0.mk (Kd.S_below (kS_ HO320.out) hb); have n2_ := Aside0.mk (Kd.R_below (kR_ HO323.out) hb); have n3_ := Aside0.mk (Kd.R_below (kR_ HO327.out) hb); have n4_ := Aside0.mk (Kd.S_below (kS_ HO330.out) hb); have n5_ := Aside0.mk (Kd.R_below (kR_ HO333.out) hb); have n6_ := Aside0.mk (Kd.R_below (kR_ HO338.out) hb); have n7_ := Aside0.mk (Kd.S_below (kS_ HO341.out) hb); have n8_ := Aside0.mk (Kd.R_below (kR_ HO344.out) hb); have n9_ := Aside0.mk (Kd.R_below (kR_ HO349.out) hb); have n10_ := Aside0.mk (Kd.S_below (kS_ HO352.out) hb); have n11_ := Aside0.mk (Kd.R_below (kR_ HO355.out) hb); have n12_ := Aside0.mk (Kd.R_below (kR_ HO361.out) hb); have n13_ := Aside0.mk (Kd.S_below (kS_ HO364.out) hb); have n14_ := Aside0.mk (Kd.R_below (kR_ HO367.out) hb); have n15_ := Aside0.mk (Kd.R_below (kR_ HO382.out) hb); have n16_ := Aside0.mk (Kd.S_below (kS_ HO385.out) hb); have n17_ := Aside0.mk (Kd.R_below (kR_ HO388.out) hb); have n18_ := Aside0.mk (Kd.R_below (kR_ HO392.out) hb); have n19_ := Aside0.mk (Kd.S_below (kS_ HO395.out) hb); have n20_ := Aside0.mk (Kd.R_below (kR_ HO398.out) hb); have n21_ := (bbA_ BK312 hb); have n22_ := (bbA_ BK334 hb); have n23_ := (bbA_ BK345 hb); have n24_ := (bbA_ BK356 hb); have n25_ := (bs_ HB hb); have n26_ := Aside0.mk (hbox); have n27_ := ge_ hg HB; have n28_ := ge_ hg HB; have n29_ := nl_ hg BK312; have n30_ := ng_ hg BK312; have n31_ := nl_ hg BK334; have n32_ := ng_ hg BK334; have n33_ := nl_ hg BK345; have n34_ := ng_ hg BK345; have n35_ := nl_ hg BK356; have n36_ := ng_ hg BK356; have n37_ := Aside0.mk (zl_ HZ ⟨hg⟩); have n38_ := Aside0.mk ((show gb399 + 1 ≤ w87.heap.size from blk_lt hbox)); clear HO317; clear HO320; clear HO323; clear HO327; clear HO330; clear HO333; clear HO338; clear HO341; clear HO344; clear HO349; clear HO352; clear HO355; clear HO361; clear HO364; clear HO367; clear HO382; clear HO385; clear HO388; clear HO392; clear HO395; clear HO398; clear BK312; clear BK334; clear BK345; clear BK356; clear HB; clear HZ; have HO317 := n0_; have HO320 := n1_; have HO323 := n2_; have HO327 := n3_; have HO330 := n4_; have HO333 := n5_; have HO338 := n6_; have HO341 := n7_; have HO344 := n8_; have HO349 := n9_; have HO352 := n10_; have HO355 := n11_; have HO361 := n12_; have HO364 := n13_; have HO367 := n14_; have HO382 := n15_; have HO385 := n16_; have HO388 := n17_; have HO392 := n18_; have HO395 := n19_; have HO398 := n20_; have BK312 := n21_; have BK334 := n22_; have BK345 := n23_; have BK356 := n24_; have HB := n25_; have BK399 := n26_; have GW399 := n27_; have GE399 := n28_; have NB312_399 := n29_; have NB399_312 := n30_; have NB334_399 := n31_; have NB399_334 := n32_; have NB345_399 := n33_; have NB399_345 := n34_; have NB356_399 := n35_; have NB399_356 := n36_; have LTb399 := n37_; have HZ := n38_; clear n0_ n1_ n2_ n3_ n4_ n5_ n6_ n7_ n8_ n9_ n10_ n11_ n12_ n13_ n14_ n15_ n16_ n17_ n18_ n19_ n20_ n21_ n22_ n23_ n24_ n25_ n26_ n27_ n28_ n29_ n30_ n31_ n32_ n33_ n34_ n35_ n36_ n37_ n38_; clear hb hbox hg; have hnb88 := NB399_312.out; have hnc88 := NB312_399.out; have hnb89 := NB399_334.out; have hnc89 := NB334_399.out; have hnb90 := NB399_345.out; have hnc90 := NB345_399.out; have hnb91 := NB399_356.out; have hnc91 := NB356_399.out; have Z92 := zz4 BK399; obtain ⟨Ao93, co93, eo93⟩ := Kd.R_slice HO392.out; subst eo93; obtain ⟨Ao94, co94, eo94⟩ := Kd.S_slice HO395.out; subst eo94; obtain ⟨Ao95, co95, eo95⟩ := Kd.R_slice HO398.out; subst eo95; have Z96 := zz4 BK334) | ((with_reducible refine gate_callee (f := 15) rfl ?_); refine goesL_ (some 59) rfl rfl Try.func15 (by kernel_rfl) rfl #[.agg #[.int .i64 t389, .slice Ao93 t390.length co93, .slice Ao94 t393.length co94, .slice Ao95 t396.length co95], .agg #[.int .i64 t324, .slice Ao43 t325.length co43, .slice Ao44 t328.length co44, .slice Ao45 t331.length co45]] rfl ar_ ?_; (with_reducible refine (laws_eqClient.calls k t389 _ _ t390 _ _ t393 _ _ t396 t324 _ _ t325 _ _ t328 _ _ t331 true _ ?side1 ?side2 ?side3 ?side4 ?side5 ?side6 ?side7 ?side8 ?side9 ?side10 ?side11 ?side12 A26.out).mono ?_); (case side1 => refine (Kd.R_reads' (e := 3) (base := w.heap.size) (ok := fun k_ => (some k_ ≠ (.slice Ao95 t396.length co95 : Value).ownBlock ∧ (lo408 ≤ k_ ∧ k_ < hi408))) (n := t390.length) (c := co93) ?_).2.2; exact (by refine kR_ ?_; exact (rfm_ ((Kd.R_types HO392.out BK399.out (by decide))) (fun _ h_ => op1_ h_)))); (case side2 => exact (Kd.R_reads' HO392.out).2.1); (case side3 => refine (Kd.S_reads' (e := 41) (base := w.heap.size) (ok := fun k_ => (True ∧ (lo408 ≤ k_ ∧ k_ < hi408))) (n := t393.length) (c := co94) ?_).2.2; exact (by refine kS_ ?_; exact (Kd.S_mono (Kd.S_far (p := ⟨gb399, 3, none⟩) (Kd.S_far (p := ⟨gb399, 2, none⟩) (Kd.S_far (p := ⟨gb399, 1, none⟩) (Kd.S_far (p := ⟨gb399, 0, none⟩) (Kd.S_types HO395.out BK399.out (by decide)) (fun _ hk => hk.2) (.int .i64 t389)) (fun _ hk => hk.2) (.slice Ao93 t390.length co93)) (fun _ hk => hk.2) (.slice Ao94 t393.length co94)) (fun _ hk => hk.2) (.slice Ao95 t396.length co95)) (fun _ h_ => op1_ h_)))); (case side4 => exact (Kd.S_reads' HO395.out).2.1); (case side5 => refine (Kd.R_reads' (e := 3) (base := w.heap.size) (ok := fun k_ => (some k_ ≠ (.slice Ao93 t390.length co93 : Value).ownBlock ∧ (lo408 ≤ k_ ∧ k_ < hi408))) (n := t396.length) (c := co95) ?_).2.2; exact (by refine kR_ ?_; exact (rfm_ ((Kd.R_types HO398.out BK399.out (by decide))) (fun _ h_ => op1_ h_)))); (case side6 => exact (Kd.R_reads' HO398.out).2.1); (case side7 => refine (Kd.R_reads' (e := 3) (base := w.heap.size) (ok := fun k_ => (some k_ ≠ (.slice Ao45 t331.length co45 : Value).ownBlock ∧ (lo403 ≤ k_ ∧ k_ < hi403))) (n := t325.length) (c := co43) ?_).2.2; exact (by refine kR_ ?_; exact (rfm_ ((Kd.R_types HO327.out BK399.out (by decide))) (fun _ h_ => op1_ h_)))); (case side8 => exact (Kd.R_reads' HO327.out).2.1); (case side9 => refine (Kd.S_reads' (e := 41) (base := w.heap.size) (ok := fun k_ => (True ∧ (lo403 ≤ k_ ∧ k_ < hi403))) (n := t328.length) (c := co44) ?_).2.2; exact (by refine kS_ ?_; exact (Kd.S_mono (Kd.S_far (p := ⟨gb399, 3, none⟩) (Kd.S_far (p := ⟨gb399, 2, none⟩) (Kd.S_far (p := ⟨gb399, 1, none⟩) (Kd.S_far (p := ⟨gb399, 0, none⟩) (Kd.S_types HO330.out BK399.out (by decide)) (fun _ hk => hk.2) (.int .i64 t389)) (fun _ hk => hk.2) (.slice Ao93 t390.length co93)) (fun _ hk => hk.2) (.slice Ao94 t393.length co94)) (fun _ hk => hk.2) (.slice Ao95 t396.length co95)) (fun _ h_ => op1_ h_)))); (case side10 => exact (Kd.S_reads' HO330.out).2.1); (case side11 => refine (Kd.R_reads' (e := 3) (base := w.heap.size) (ok := fun k_ => (some k_ ≠ (.slice Ao43 t325.length co43 : Value).ownBlock ∧ (lo403 ≤ k_ ∧ k_ < hi403))) (n := t331.length) (c := co45) ?_).2.2; exact (by refine kR_ ?_; exact (rfm_ ((Kd.R_types HO333.out BK399.out (by decide))) (fun _ h_ => op1_ h_)))); (case side12 => exact (Kd.R_reads' HO333.out).2.1); rintro e w97 ⟨rfl, hb⟩; refine ⟨_, rfl, ?_⟩; replace HO317 := Aside0.mk (Kd.R_below (by refine kR_ ?_; exact (rfm_ ((Kd.R_types HO317.out BK399.out (by decide))) (fun _ h_ => op1_ h_))) hb); replace HO320 := Aside0.mk (Kd.S_below (by refine kS_ ?_; exact (Kd.S_mono (Kd.S_far (p := ⟨gb399, 3, none⟩) (Kd.S_far (p := ⟨gb399, 2, none⟩) (Kd.S_far (p := ⟨gb399, 1, none⟩) (Kd.S_far (p := ⟨gb399, 0, none⟩) (Kd.S_types HO320.out BK399.out (by decide)) (fun _ hk => hk.2) (.int .i64 t389)) (fun _ hk => hk.2) (.slice Ao93 t390.length co93)) (fun _ hk => hk.2) (.slice Ao94 t393.length co94)) (fun _ hk => hk.2) (.slice Ao95 t396.length co95)) (fun _ h_ => op1_ h_))) hb); replace HO323 := Aside0.mk (Kd.R_below (by refine kR_ ?_; exact (rfm_ ((Kd.R_types HO323.out BK399.out (by decide))) (fun _ h_ => op1_ h_))) hb); replace HO327 := Aside0.mk (Kd.R_below (by refine kR_ ?_; exact (rfm_ ((Kd.R_types HO327.out BK399.out (by decide))) (fun _ h_ => op1_ h_))) hb); replace HO330 := Aside0.mk (Kd.S_below (by refine kS_ ?_; exact (Kd.S_mono (Kd.S_far (p := ⟨gb399, 3, none⟩) (Kd.S_far (p := ⟨gb399, 2, none⟩) (Kd.S_far (p := ⟨gb399, 1, none⟩) (Kd.S_far (p := ⟨gb399, 0, none⟩) (Kd.S_types HO330.out BK399.out (by decide)) (fun _ hk => hk.2) (.int .i64 t389)) (fun _ hk => hk.2) (.slice Ao93 t390.length co93)) (fun _ hk => hk.2) (.slice Ao94 t393.length co94)) (fun _ hk => hk.2) (.slice Ao95 t396.length co95)) (fun _ h_ => op1_ h_))) hb); replace HO333 := Aside0.mk (Kd.R_below (by refine kR_ ?_; exact (rfm_ ((Kd.R_types HO333.out BK399.out (by decide))) (fun _ h_ => op1_ h_))) hb); replace HO338 := Aside0.mk (Kd.R_below (by refine kR_ ?_; exact (rfm_ ((Kd.R_types HO338.out BK399.out (by decide))) (fun _ h_ => op1_ h_))) hb); replace HO341 := Aside0.mk (Kd.S_below (by refine kS_ ?_; exact (Kd.S_mono (Kd.S_far (p := ⟨gb399, 3, none⟩) (Kd.S_far (p := ⟨gb399, 2, none⟩) (Kd.S_far (p := ⟨gb399, 1, none⟩) (Kd.S_far (p := ⟨gb399, 0, none⟩) (Kd.S_types HO341.out BK399.out (by decide)) (fun _ hk => hk.2) (.int .i64 t389)) (fun _ hk => hk.2) (.slice Ao93 t390.length co93)) (fun _ hk => hk.2) (.slice Ao94 t393.length co94)) (fun _ hk => hk.2) (.slice Ao95 t396.length co95)) (fun _ h_ => op1_ h_))) hb); replace HO344 := Aside0.mk (Kd.R_below (by refine kR_ ?_; exact (rfm_ ((Kd.R_types HO344.out BK399.out (by decide))) (fun _ h_ => op1_ h_))) hb); replace HO349 := Aside0.mk (Kd.R_below (by refine kR_ ?_; exact (rfm_ ((Kd.R_types HO349.out BK399.out (by decide))) (fun _ h_ => op1_ h_))) hb); replace HO352 := Aside0.mk (Kd.S_below (by refine kS_ ?_; exact (Kd.S_mono (Kd.S_far (p := ⟨gb399, 3, none⟩) (Kd.S_far (p := ⟨gb399, 2, none⟩) (Kd.S_far (p := ⟨gb399, 1, none⟩) (Kd.S_far (p := ⟨gb399, 0, none⟩) (Kd.S_types HO352.out BK399.out (by decide)) (fun _ hk => hk.2) (.int .i64 t389)) (fun _ hk => hk.2) (.slice Ao93 t390.length co93)) (fun _ hk => hk.2) (.slice Ao94 t393.length co94)) (fun _ hk => hk.2) (.slice Ao95 t396.length co95)) (fun _ h_ => op1_ h_))) hb); replace HO355 := Aside0.mk (Kd.R_below (by refine kR_ ?_; exact (rfm_ ((Kd.R_types HO355.out BK399.out (by decide))) (fun _ h_ => op1_ h_))) hb); replace HO361 := Aside0.mk (Kd.R_below (by refine kR_ ?_; exact (rfm_ ((Kd.R_types HO361.out BK399.out (by decide))) (fun _ h_ => op1_ h_))) hb); replace HO364 := Aside0.mk (Kd.S_below (by refine kS_ ?_; exact (Kd.S_mono (Kd.S_far (p := ⟨gb399, 3, none⟩) (Kd.S_far (p := ⟨gb399, 2, none⟩) (Kd.S_far (p := ⟨gb399, 1, none⟩) (Kd.S_far (p := ⟨gb399, 0, none⟩) (Kd.S_types HO364.out BK399.out (by decide)) (fun _ hk => hk.2) (.int .i64 t389)) (fun _ hk => hk.2) (.slice Ao93 t390.length co93)) (fun _ hk => hk.2) (.slice Ao94 t393.length co94)) (fun _ hk => hk.2) (.slice Ao95 t396.length co95)) (fun _ h_ => op1_ h_))) hb); replace HO367 := Aside0.mk (Kd.R_below (by refine kR_ ?_; exact (rfm_ ((Kd.R_types HO367.out BK399.out (by decide))) (fun _ h_ => op1_ h_))) hb); replace HO382 := Aside0.mk (Kd.R_below (by refine kR_ ?_; exact (rfm_ ((Kd.R_types HO382.out BK399.out (by decide))) (fun _ h_ => op1_ h_))) hb); replace HO385 := Aside0.mk (Kd.S_below (by refine kS_ ?_; exact (Kd.S_mono (Kd.S_far (p := ⟨gb399, 3, none⟩) (Kd.S_far (p := ⟨gb399, 2, none⟩) (Kd.S_far (p := ⟨gb399, 1, none⟩) (Kd.S_far (p := ⟨gb399, 0, none⟩) (Kd.S_types HO385.out BK399.out (by decide)) (fun _ hk => hk.2) (.int .i64 t389)) (fun _ hk => hk.2) (.slice Ao93 t390.length co93)) (fun _ hk => hk.2) (.slice Ao94 t393.length co94)) (fun _ hk => hk.2) (.slice Ao95 t396.length co95)) (fun _ h_ => op1_ h_))) hb); replace HO388 := Aside0.mk (Kd.R_below (by refine kR_ ?_; exact (rfm_ ((Kd.R_types HO388.out BK399.out (by decide))) (fun _ h_ => op1_ h_))) hb); replace HO392 := Aside0.mk (Kd.R_below (by refine kR_ ?_; exact (rfm_ ((Kd.R_types HO392.out BK399.out (by decide))) (fun _ h_ => op1_ h_))) hb); replace HO395 := Aside0.mk (Kd.S_below (by refine kS_ ?_; exact (Kd.S_mono (Kd.S_far (p := ⟨gb399, 3, none⟩) (Kd.S_far (p := ⟨gb399, 2, none⟩) (Kd.S_far (p := ⟨gb399, 1, none⟩) (Kd.S_far (p := ⟨gb399, 0, none⟩) (Kd.S_types HO395.out BK399.out (by decide)) (fun _ hk => hk.2) (.int .i64 t389)) (fun _ hk => hk.2) (.slice Ao93 t390.length co93)) (fun _ hk => hk.2) (.slice Ao94 t393.length co94)) (fun _ hk => hk.2) (.slice Ao95 t396.length co95)) (fun _ h_ => op1_ h_))) hb); replace HO398 := Aside0.mk (Kd.R_below (by refine kR_ ?_; exact (rfm_ ((Kd.R_types HO398.out BK399.out (by decide))) (fun _ h_ => op1_ h_))) hb); replace BK312 := Aside0.mk (blk_below (g := gb312) (o := .cells #[.int .i64 a0_0, .slice A0_1 l0_1.length c0_1, .slice A0_2 l0_2.length c0_2, .slice A0_3 l0_3.length c0_3] 25 (0, 0)) (by exact kf_ BK312.out) hb); replace BK334 := Aside0.mk (blk_below (g := gb334) (o := .cells #[.int .i64 t324, .slice Ao43 t325.length co43, .slice Ao44 t328.length co44, .slice Ao45 t331.length co45] 30 (0, 0)) (by exact kf_ BK334.out) hb); replace BK345 := Aside0.mk (blk_below (g := gb345) (o := .cells #[.int .i64 t335, .slice Ao52 t336.length co52, .slice Ao53 t339.length co53, .slice Ao54 t342.length co54] 30 (0, 0)) (by exact kf_ BK345.out) hb); replace BK356 := Aside0.mk (blk_below (g := gb356) (o := .cells #[.int .i64 t346, .slice Ao61 t347.length co61, .slice Ao62 t350.length co62, .slice Ao63 t353.length co63] 30 (0, 0)) (by exact kf_ BK356.out) hb); replace BK399 := Aside0.mk (blk_below (g := gb399) (o := .cells #[.int .i64 t389, .slice Ao93 t390.length co93, .slice Ao94 t393.length co94, .slice Ao95 t396.length co95] 30 (0, 0)) (by refine kb_ ?_; refine pz4 (cs := #[.int .i64 0, .slice none 0 0, .slice none 0 0, .slice none 0 0]) ?_; refine kb_ ?_; exact BK399.out) hb); replace HB := (bs_ HB hb); replace HZ := Aside0.mk (zs_ HZ hb); (try clear hb); (try clear hb2); (try clear hk); (try clear hi); have Z98 := zz4 BK356) | ((with_reducible refine gate_callee (f := 31) rfl ?_); refine goesL_ (some 63) rfl rfl Try.func31 (by kernel_rfl) rfl #[.agg #[.int .i64 t346, .slice Ao61 t375.length co61, .slice Ao62 t376.length co62, .slice Ao63 t377.length co63], .int .i64 1] rfl (by (try simp only [List.map_toArray, List.map_cons, List.map_nil]); first | done | (rw [show t375.length = t347.length from (Kd.R_reads' HO349.out).1.symm, show t376.length = t350.length from (Kd.S_reads' HO352.out).1.symm, show t377.length = t353.length from (Kd.R_reads' HO355.out).1.symm] <;> rfl) | rfl | (simp only [List.length_drop, List.length_take]; rfl)) ?_; (with_reducible refine (laws_heldClient.calls k t346 _ _ t375 _ _ t376 _ _ t377 1 t401 _ ?side1 ?side2 ?side3 ?side4 ?side5 ?side6 A28.out).mono ?_); (case side1 => exact kC_ (Kd.R_reads' HO349.out).2.2); (case side2 => rw [show t375.length = t347.length from (Kd.R_reads' HO349.out).1.symm]; exact (Kd.R_reads' HO349.out).2.1); (case side3 => exact kC_ (Kd.S_reads' HO352.out).2.2); (case side4 => rw [show t376.length = t350.length from (Kd.S_reads' HO352.out).1.symm]; exact (Kd.S_reads' HO352.out).2.1); (case side5 => exact kC_ (Kd.R_reads' HO355.out).2.2); (case side6 => rw [show t377.length = t353.length from (Kd.R_reads' HO355.out).1.symm]; exact (Kd.R_reads' HO355.out).2.1); rintro e w99 ⟨rfl, hb⟩; refine ⟨_, rfl, ?_⟩; replace HO317 := Aside0.mk (Kd.R_below (kR_ HO317.out) hb); replace HO320 := Aside0.mk (Kd.S_below (kS_ HO320.out) hb); replace HO323 := Aside0.mk (Kd.R_below (kR_ HO323.out) hb); replace HO327 := Aside0.mk (Kd.R_below (kR_ HO327.out) hb); replace HO330 := Aside0.mk (Kd.S_below (kS_ HO330.out) hb); replace HO333 := Aside0.mk (Kd.R_below (kR_ HO333.out) hb); replace HO338 := Aside0.mk (Kd.R_below (kR_ HO338.out) hb); replace HO341 := Aside0.mk (Kd.S_below (kS_ HO341.out) hb); replace HO344 := Aside0.mk (Kd.R_below (kR_ HO344.out) hb); replace HO349 := Aside0.mk (Kd.R_below (kR_ HO349.out) hb); replace HO352 := Aside0.mk (Kd.S_below (kS_ HO352.out) hb); replace HO355 := Aside0.mk (Kd.R_below (kR_ HO355.out) hb); replace HO361 := Aside0.mk (Kd.R_below (kR_ HO361.out) hb); replace HO364 := Aside0.mk (Kd.S_below (kS_ HO364.out) hb); replace HO367 := Aside0.mk (Kd.R_below (kR_ HO367.out) hb); replace HO382 := Aside0.mk (Kd.R_below (kR_ HO382.out) hb); replace HO385 := Aside0.mk (Kd.S_below (kS_ HO385.out) hb); replace HO388 := Aside0.mk (Kd.R_below (kR_ HO388.out) hb); replace HO392 := Aside0.mk (Kd.R_below (kR_ HO392.out) hb); replace HO395 := Aside0.mk (Kd.S_below (kS_ HO395.out) hb); replace HO398 := Aside0.mk (Kd.R_below (kR_ HO398.out) hb); replace BK312 := (bbA_ BK312 hb); replace BK334 := (bbA_ BK334 hb); replace BK345 := (bbA_ BK345 hb); replace BK356 := (bbA_ BK356 hb); replace BK399 := (bbA_ BK399 hb); replace HB := (bs_ HB hb); replace HZ := Aside0.mk (zs_ HZ hb); (try clear hb); (try clear hb2); (try clear hk); (try clear hi)))
           go_ret
           exact ⟨by first | rfl | (simp [errW_none, errW_some] <;> rfl) | (simp [*, errW_none, errW_some] <;> rfl), hbA_ HB.out⟩
          ·rw [if_neg c30] at H
           have c30b0 : (t401 == t374) = false := beq_eq_false_iff_ne.mpr c30
           have c30b1 : (t401 != t374) = true := bne_iff_ne.mpr c30
           exact absurd (Option.some.inj H) (by rw [HLW.out]; exact Bool.false_ne_true)
        ·replace c27 := Bool.eq_false_iff.mpr c27
         subst c27
         rw [if_neg (show ¬ (false = true) by decide)] at H
         exact absurd (Option.some.inj H) (by rw [HLW.out]; exact Bool.false_ne_true)
       ·rw [if_neg c23] at H
        have c23b0 : (t378 == t374) = false := beq_eq_false_iff_ne.mpr c23
        have c23b1 : (t378 != t374) = true := bne_iff_ne.mpr c23
        exact absurd (Option.some.inj H) (by rw [HLW.out]; exact Bool.false_ne_true)
     ·replace c19 := Bool.eq_false_iff.mpr c19
      subst c19
      rw [if_neg (show ¬ (false = true) by decide)] at H
      exact absurd (Option.some.inj H) (by rw [HLW.out]; exact Bool.false_ne_true)
   ·replace c15 := Bool.eq_false_iff.mpr c15
    subst c15
    rw [if_neg (show ¬ (false = true) by decide)] at H
    exact absurd (Option.some.inj H) (by rw [HLW.out]; exact Bool.false_ne_true)
  ·replace c12 := Bool.eq_false_iff.mpr c12
   subst c12
   rw [if_neg (show ¬ (false = true) by decide)] at H
   exact absurd (Option.some.inj H) (by rw [HLW.out]; exact Bool.false_ne_true)
def laws_FnExactClientOver.Pure : Prop := ∀ (a0_0 : Int) (l0_1 : List Int) (l0_2 : List (S57)) (l0_3 : List Int), ((Lit.int .i64 a0_0).wf = true) → (l0_1.length ≤ maxLen ∧ ∀ y0_ ∈ l0_1, (Lit.int .i64 y0_).wf = true) → (l0_2.length ≤ maxLen ∧ ∀ y0_ ∈ l0_2, ((Lit.int .i64 y0_.f0).wf = true) ∧ (y0_.f1.length ≤ maxLen ∧ ∀ y1_ ∈ y0_.f1, (Lit.int .u8 y1_).wf = true)) → (l0_3.length ≤ maxLen ∧ ∀ y0_ ∈ l0_3, (Lit.int .i64 y0_).wf = true) → ∃ k, laws_FnExactClientOver.f k a0_0 l0_1 l0_2 l0_3 = some true
end Go.Proofs.Ytegchbdjbefdbaa.PFnExactClientOver
