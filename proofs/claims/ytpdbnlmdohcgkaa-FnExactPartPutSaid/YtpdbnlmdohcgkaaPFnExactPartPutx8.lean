/- Printed by wip/xp/xprint.sh out of the translation, for this claim: what each function answers, as a plain function, and that the machine does just that. No condition. -/
import Derived.Test.YtpdbnlmdohcgkaaPFnExactPartPutx0
import Derived.Test.YtpdbnlmdohcgkaaPFnExactPartPutx7
namespace Go.Proofs.Ytpdbnlmdohcgkaa.PFnExactPartPut
open Go.RowKit Go.Proofs.YtpdbnlmdohcgkaaW.PrintWords Go.Proofs.YtpdbnlmdohcgkaaW.PrintLast Go.Proofs.YtpdbnlmdohcgkaaW.PrintMore
attribute [local go_sem] max2_int min2_int max_two min_two max_three min_three max_four min_four   -- for this text's walks alone
set_option linter.unusedVariables false
set_option linter.unusedSimpArgs false
def laws_markPacketS.l0 : Nat → List S36 → Int → Int → Option (Int × List S36)
  | 0, _, _, _ => none
  | k + 1, x0, x1, x5 => if x5 < (x0.length : Int) then (if 0 ≤ x5 then ((laws_markByteS.f k (rd_T36 x0 x5).f8 (wrap64 ((wrap64 ((wrap64 ((wrap64 ((wrap64 ((wrap64 ((wrap64 ((wrap64 (x1 + 1)) + 1)) + 1)) + 1)) + 1)) + 1)) + 1)) + 1))).bind fun t => laws_markPacketS.l0 k (x0.set x5.toNat (⟨(x1), ((wrap64 (x1 + 1))), ((wrap64 ((wrap64 (x1 + 1)) + 1))), ((wrap64 ((wrap64 ((wrap64 (x1 + 1)) + 1)) + 1))), ((wrap64 ((wrap64 ((wrap64 ((wrap64 (x1 + 1)) + 1)) + 1)) + 1))), ((wrap64 ((wrap64 ((wrap64 ((wrap64 ((wrap64 (x1 + 1)) + 1)) + 1)) + 1)) + 1))), (decide (Int.tmod (wrap64 ((wrap64 ((wrap64 ((wrap64 ((wrap64 ((wrap64 (x1 + 1)) + 1)) + 1)) + 1)) + 1)) + 1)) 3 = 0)), (decide (Int.tmod (wrap64 ((wrap64 ((wrap64 ((wrap64 ((wrap64 ((wrap64 ((wrap64 (x1 + 1)) + 1)) + 1)) + 1)) + 1)) + 1)) + 1)) 3 = 0)), t.2⟩ : S36)) t.1 (wrap64 (x5 + 1))) else none) else (some (x1, x0))
def laws_markPacketS.f (k : Nat) (l0 : List S36) (a1 : Int) : Option (Int × List S36) := laws_markPacketS.l0 k l0 a1 0
theorem laws_markPacketS.mono_l : ∀ k, (∀ y0 y1 y2, LeO (laws_markPacketS.l0 k y0 y1 y2) (laws_markPacketS.l0 (k + 1) y0 y1 y2))
  | 0 => fun _ _ _ r h => by simp [laws_markPacketS.l0] at h
  | k + 1 => by
    have ih0 := laws_markPacketS.mono_l k
    · intro y0 y1 y2
      unfold laws_markPacketS.l0
      repeat' first
      | (with_reducible exact ih0 _ _ _)
      | (with_reducible exact laws_markByteS.mono _ _ _)
      | (with_reducible exact LeO.refl _)
      | (with_reducible exact LeO.none _)
      | (with_reducible refine LeO.ite ?_ ?_)
      | (with_reducible refine LeO.bind ?_ (fun _ => ?_))
      | exact ih0 _ _ _
      | exact laws_markByteS.mono _ _ _
      | exact LeO.none _
      | refine LeO.ite ?_ ?_
      | refine LeO.bind ?_ (fun _ => ?_)
theorem laws_markPacketS.mono : ∀ a0 a1 k, LeO (laws_markPacketS.f k a0 a1) (laws_markPacketS.f (k + 1) a0 a1) := by
  intro a0 a1 k
  have ih0 := laws_markPacketS.mono_l k
  unfold laws_markPacketS.f
  repeat' first
      | (with_reducible exact ih0 _ _ _)
      | (with_reducible exact laws_markByteS.mono _ _ _)
      | (with_reducible exact LeO.refl _)
      | (with_reducible exact LeO.none _)
      | (with_reducible refine LeO.ite ?_ ?_)
      | (with_reducible refine LeO.bind ?_ (fun _ => ?_))
      | exact ih0 _ _ _
      | exact laws_markByteS.mono _ _ _
      | exact LeO.none _
      | refine LeO.ite ?_ ?_
      | refine LeO.bind ?_ (fun _ => ?_)
set_option maxHeartbeats 8000000 in
set_option maxRecDepth 100000 in
theorem laws_markPacketS.calls (k : Nat) (P0_ : Nat → Prop) (u9000_ : Value) (l0 : List S36) (a1 : Int) (r1 : Int) (r2 : List S36) (w0 w : World) (hB : Below w0.heap.size w0 w) (ho0 : Kd.S k36 36 w w0.heap.size P0_ u9000_ l0) (h : laws_markPacketS.f k l0 a1 = some (r1, r2)) :
    Calls Try.prog 55 #[u9000_, .int .i64 a1] w fun e w' => e = .returned (.int .i64 r1) ∧ Kd.S k36 36 w' w0.heap.size P0_ u9000_ r2 ∧ Below w0.heap.size w0 w' ∧ Kept w w' (fun k_ => P0_ k_) := by
  have HO0 := Aside0.mk ho0; clear ho0
  have HK := Aside0.mk (Kept.refl w (fun k_ => P0_ k_))
  have HB := Aside0.mk hB; clear hB
  have H' := Aside0.mk (show laws_markPacketS.l0 k l0 a1 0 = some (r1, r2) from h)
  clear h
  go_enter Try.func55, Try.ntmps55
  go_wp2
  go_loopg [1, 5] k (fun kq v1 v5 w' => ∃ (x0_1 : List S36) (x1_1 : Int) (x5_1 : Int), v1 = .int .i64 x1_1 ∧ v5 = .int .i64 x5_1 ∧ Aside0 (laws_markPacketS.l0 kq x0_1 x1_1 x5_1 = some (r1, r2)) ∧ Aside0 (kq ≤ k) ∧ Aside0 (Kd.S k36 36 w' w0.heap.size P0_ u9000_ x0_1) ∧ Aside0 (Kept w w' (fun k_ => P0_ k_)) ∧ Aside0 (Below w0.heap.size w0 w'))
  case atStart => exact ⟨l0, a1, 0, (by first | rfl | (simp; done) | (simp [*]; done)), (by first | rfl | (simp; done) | (simp [*]; done)), H', ⟨Nat.le_refl _⟩, ⟨kS_ HO0.out⟩, ⟨by repeat (first | (with_reducible first | exact HK.out | apply Kept.alloc | apply Kept.drewN | apply Kept.drew) | exact HK.out)⟩, ⟨hbA_ HB.out⟩⟩
  case round =>
    clear H'; (try clear p2)
    obtain ⟨x0_1, x1_1, x5_1, rfl, rfl, HA, HK1, HO_0, HK, HB⟩ := hrel
    cases gk with
    | zero => exact absurd HA.out (by simp [laws_markPacketS.l0])
    | succ k1 =>
      have H := HA.out; clear HA
      simp only [laws_markPacketS.l0] at H
      by_cases c3 : x5_1 < (x0_1.length : Int)
      · rw [if_pos c3] at H
        have c3b0 : decide (x5_1 < (x0_1.length : Int)) = true := decide_eq_true c3
        by_cases c4 : 0 ≤ x5_1
        · rw [if_pos c4] at H
          have c4b0 : decide (0 ≤ x5_1) = true := decide_eq_true c4
          replace H := Option.bind_eq_some_iff.mp H
          obtain ⟨⟨t1, t2⟩, A20, H⟩ := H
          have A2 := Aside0.mk A20; clear A20
          have H' := Aside0.mk H
          clear H
          obtain ⟨Ao6, co6, eo6⟩ := Kd.S_slice HO_0.out
          subst eo6
          have p5 : 0 ≤ (x5_1 : Int) := c4
          have q5 : (x5_1 : Int) < ((x0_1.length : Nat) : Int) := c3
          have P5 := Aside0.mk p5
          have Q5 := Aside0.mk q5
          clear c3 c4
          obtain ⟨go5, co5, eo5, gb5, gl5, cl5, HG5⟩ := Kd.S_form HO_0.out (by omega)
          (first | cases eo5 | (injection eo5 with ea_ en_ ec_; (first | subst ea_ | (injection ea_ with ea_; subst ea_)); subst ec_; clear en_))
          have GB5 := Aside0.mk gb5; clear gb5 gl5 HG5
          have HMgo5 := Aside0.mk (show P0_ go5 from (Kd.S_R HO_0.out).1 _ rfl)
          have HS0 := Aside0.mk (show Kd.S k36 36 wr w0.heap.size P0_ (.slice (some ⟨go5, 0, none⟩) x0_1.length co6) (x0_1.set x5_1.toNat (rd_T36 x0_1 x5_1)) from Kd.S_start HO_0.out z36 x5_1)
          clear HO_0
          obtain ⟨ok0_, c0_, hM0_, hc0_, hf0_, hk0_, hb0_⟩ := Kd.S_cells HS0.out P5.out Q5.out
          obtain ⟨ve0_, rfl, ge0_⟩ := k36_openM hM0_
          have hx0 := hc0_ 0 _ rfl
          have hf0 := hf0_ 0
          (try simp only [show k36.sz = 9 from rfl, Nat.add_zero] at hx0 hf0)
          clear hM0_ hc0_ hf0_ hk0_ hb0_ ge0_
          replace p5 := eq_true p5
          replace q5 := eq_true q5
          have HP0 := Kd.S_put1 HS0.out P5.out Q5.out 0 (.int .i64 x1_1) (by decide) (⟨(x1_1), (rd_T36 x0_1 x5_1).f1, (rd_T36 x0_1 x5_1).f2, (rd_T36 x0_1 x5_1).f3, (rd_T36 x0_1 x5_1).f4, (rd_T36 x0_1 x5_1).f5, (rd_T36 x0_1 x5_1).f6, (rd_T36 x0_1 x5_1).f7, (rd_T36 x0_1 x5_1).f8⟩ : S36) (fun hM_ => by obtain ⟨v1, rfl, g1⟩ := k36_openM hM_; exact k36_mkM _ _ _ (⟨(x1_1), (rd_T36 x0_1 x5_1).f1, (rd_T36 x0_1 x5_1).f2, (rd_T36 x0_1 x5_1).f3, (rd_T36 x0_1 x5_1).f4, (rd_T36 x0_1 x5_1).f5, (rd_T36 x0_1 x5_1).f6, (rd_T36 x0_1 x5_1).f7, (rd_T36 x0_1 x5_1).f8⟩ : S36) g1)
          (try simp only [show k36.sz = 9 from rfl, Nat.add_zero] at HP0)
          go_wp2_with (first | ((with_reducible refine gate_store (t := 3) (p := 16) rfl ?_); refine store_event (t := 3) (p := 16) (v := ?vo_w8) (w1 := (wr.setCell ⟨go5, (x5_1 : Int).toNat * 9, none⟩ (.int .i64 x1_1))) ?hg ?ho ?hn ?hr ?_; (case ho => rfl); (case hg => rfl); (case hn => rfl); (case hr => first | (go_simp; done) | (go_simp; rfl)); intro w8 hw; have hg : wr.grownBy w8 (some go5) := (by rw [hw]; exact HP0.2); have HS1 : Aside0 (Kd.S k36 36 w8 w0.heap.size P0_ (.slice (some ⟨go5, 0, none⟩) x0_1.length co6) (x0_1.set x5_1.toNat (⟨(x1_1), (rd_T36 x0_1 x5_1).f1, (rd_T36 x0_1 x5_1).f2, (rd_T36 x0_1 x5_1).f3, (rd_T36 x0_1 x5_1).f4, (rd_T36 x0_1 x5_1).f5, (rd_T36 x0_1 x5_1).f6, (rd_T36 x0_1 x5_1).f7, (rd_T36 x0_1 x5_1).f8⟩ : S36))) := ⟨by rw [hw]; exact HP0.1⟩; clear HP0; replace HB := Aside0.mk ((by rw [hw]; exact below_set (HB.out) GB5.out : Below w0.heap.size w0 w8)); replace HK := Aside0.mk (Kept.of_grown (S := (fun k_ => P0_ k_)) hg (by repeat (first | (with_reducible first | exact HK.out | apply Kept.alloc | apply Kept.drewN | apply Kept.drew) | exact HK.out)) (fun k_ e_ => .inl (by injection e_ with e_; subst e_; exact HMgo5.out))); clear hg hw HS0 hx0 hf0; obtain ⟨ok0_, c0_, hM0_, hc0_, hf0_, hk0_, hb0_⟩ := Kd.S_cells HS1.out P5.out Q5.out; obtain ⟨ve0_, rfl, ge0_⟩ := k36_openM hM0_; have hx0 := hc0_ 1 _ rfl; have hf0 := hf0_ 1; (try simp only [show k36.sz = 9 from rfl, Nat.add_zero] at hx0 hf0); clear hM0_ hc0_ hf0_ hk0_ hb0_ ge0_; have HP1 := Kd.S_put1 HS1.out P5.out Q5.out 1 (.int .i64 (wrap64 (x1_1 + 1))) (by decide) (⟨(x1_1), ((wrap64 (x1_1 + 1))), (rd_T36 x0_1 x5_1).f2, (rd_T36 x0_1 x5_1).f3, (rd_T36 x0_1 x5_1).f4, (rd_T36 x0_1 x5_1).f5, (rd_T36 x0_1 x5_1).f6, (rd_T36 x0_1 x5_1).f7, (rd_T36 x0_1 x5_1).f8⟩ : S36) (fun hM_ => by obtain ⟨v1, rfl, g1⟩ := k36_openM hM_; exact k36_mkM _ _ _ (⟨(x1_1), ((wrap64 (x1_1 + 1))), (rd_T36 x0_1 x5_1).f2, (rd_T36 x0_1 x5_1).f3, (rd_T36 x0_1 x5_1).f4, (rd_T36 x0_1 x5_1).f5, (rd_T36 x0_1 x5_1).f6, (rd_T36 x0_1 x5_1).f7, (rd_T36 x0_1 x5_1).f8⟩ : S36) g1); (try simp only [show k36.sz = 9 from rfl, Nat.add_zero] at HP1)) | ((with_reducible refine gate_store (t := 3) (p := 23) rfl ?_); refine store_event (t := 3) (p := 23) (v := ?vo_w9) (w1 := (w8.setCell ⟨go5, (x5_1 : Int).toNat * 9 + 1, none⟩ (.int .i64 (wrap64 (x1_1 + 1))))) ?hg ?ho ?hn ?hr ?_; (case ho => rfl); (case hg => rfl); (case hn => rfl); (case hr => first | (go_simp; done) | (go_simp; rfl)); intro w9 hw; have hg : w8.grownBy w9 (some go5) := (by rw [hw]; exact HP1.2); have HS2 : Aside0 (Kd.S k36 36 w9 w0.heap.size P0_ (.slice (some ⟨go5, 0, none⟩) x0_1.length co6) (x0_1.set x5_1.toNat (⟨(x1_1), ((wrap64 (x1_1 + 1))), (rd_T36 x0_1 x5_1).f2, (rd_T36 x0_1 x5_1).f3, (rd_T36 x0_1 x5_1).f4, (rd_T36 x0_1 x5_1).f5, (rd_T36 x0_1 x5_1).f6, (rd_T36 x0_1 x5_1).f7, (rd_T36 x0_1 x5_1).f8⟩ : S36))) := ⟨by rw [hw]; exact HP1.1⟩; clear HP1; replace HB := Aside0.mk ((by rw [hw]; exact below_set (HB.out) GB5.out : Below w0.heap.size w0 w9)); replace HK := Aside0.mk (Kept.of_grown (S := (fun k_ => P0_ k_)) hg (by repeat (first | (with_reducible first | exact HK.out | apply Kept.alloc | apply Kept.drewN | apply Kept.drew) | exact HK.out)) (fun k_ e_ => .inl (by injection e_ with e_; subst e_; exact HMgo5.out))); clear hg hw HS1 hx0 hf0; obtain ⟨ok0_, c0_, hM0_, hc0_, hf0_, hk0_, hb0_⟩ := Kd.S_cells HS2.out P5.out Q5.out; obtain ⟨ve0_, rfl, ge0_⟩ := k36_openM hM0_; have hx0 := hc0_ 2 _ rfl; have hf0 := hf0_ 2; (try simp only [show k36.sz = 9 from rfl, Nat.add_zero] at hx0 hf0); clear hM0_ hc0_ hf0_ hk0_ hb0_ ge0_; have HP2 := Kd.S_put1 HS2.out P5.out Q5.out 2 (.int .i64 (wrap64 ((wrap64 (x1_1 + 1)) + 1))) (by decide) (⟨(x1_1), ((wrap64 (x1_1 + 1))), ((wrap64 ((wrap64 (x1_1 + 1)) + 1))), (rd_T36 x0_1 x5_1).f3, (rd_T36 x0_1 x5_1).f4, (rd_T36 x0_1 x5_1).f5, (rd_T36 x0_1 x5_1).f6, (rd_T36 x0_1 x5_1).f7, (rd_T36 x0_1 x5_1).f8⟩ : S36) (fun hM_ => by obtain ⟨v1, rfl, g1⟩ := k36_openM hM_; exact k36_mkM _ _ _ (⟨(x1_1), ((wrap64 (x1_1 + 1))), ((wrap64 ((wrap64 (x1_1 + 1)) + 1))), (rd_T36 x0_1 x5_1).f3, (rd_T36 x0_1 x5_1).f4, (rd_T36 x0_1 x5_1).f5, (rd_T36 x0_1 x5_1).f6, (rd_T36 x0_1 x5_1).f7, (rd_T36 x0_1 x5_1).f8⟩ : S36) g1); (try simp only [show k36.sz = 9 from rfl, Nat.add_zero] at HP2)) | ((with_reducible refine gate_store (t := 3) (p := 30) rfl ?_); refine store_event (t := 3) (p := 30) (v := ?vo_w10) (w1 := (w9.setCell ⟨go5, (x5_1 : Int).toNat * 9 + 2, none⟩ (.int .i64 (wrap64 ((wrap64 (x1_1 + 1)) + 1))))) ?hg ?ho ?hn ?hr ?_; (case ho => rfl); (case hg => rfl); (case hn => rfl); (case hr => first | (go_simp; done) | (go_simp; rfl)); intro w10 hw; have hg : w9.grownBy w10 (some go5) := (by rw [hw]; exact HP2.2); have HS3 : Aside0 (Kd.S k36 36 w10 w0.heap.size P0_ (.slice (some ⟨go5, 0, none⟩) x0_1.length co6) (x0_1.set x5_1.toNat (⟨(x1_1), ((wrap64 (x1_1 + 1))), ((wrap64 ((wrap64 (x1_1 + 1)) + 1))), (rd_T36 x0_1 x5_1).f3, (rd_T36 x0_1 x5_1).f4, (rd_T36 x0_1 x5_1).f5, (rd_T36 x0_1 x5_1).f6, (rd_T36 x0_1 x5_1).f7, (rd_T36 x0_1 x5_1).f8⟩ : S36))) := ⟨by rw [hw]; exact HP2.1⟩; clear HP2; replace HB := Aside0.mk ((by rw [hw]; exact below_set (HB.out) GB5.out : Below w0.heap.size w0 w10)); replace HK := Aside0.mk (Kept.of_grown (S := (fun k_ => P0_ k_)) hg (by repeat (first | (with_reducible first | exact HK.out | apply Kept.alloc | apply Kept.drewN | apply Kept.drew) | exact HK.out)) (fun k_ e_ => .inl (by injection e_ with e_; subst e_; exact HMgo5.out))); clear hg hw HS2 hx0 hf0; obtain ⟨ok0_, c0_, hM0_, hc0_, hf0_, hk0_, hb0_⟩ := Kd.S_cells HS3.out P5.out Q5.out; obtain ⟨ve0_, rfl, ge0_⟩ := k36_openM hM0_; have hx0 := hc0_ 3 _ rfl; have hf0 := hf0_ 3; (try simp only [show k36.sz = 9 from rfl, Nat.add_zero] at hx0 hf0); clear hM0_ hc0_ hf0_ hk0_ hb0_ ge0_; have HP3 := Kd.S_put1 HS3.out P5.out Q5.out 3 (.int .i64 (wrap64 ((wrap64 ((wrap64 (x1_1 + 1)) + 1)) + 1))) (by decide) (⟨(x1_1), ((wrap64 (x1_1 + 1))), ((wrap64 ((wrap64 (x1_1 + 1)) + 1))), ((wrap64 ((wrap64 ((wrap64 (x1_1 + 1)) + 1)) + 1))), (rd_T36 x0_1 x5_1).f4, (rd_T36 x0_1 x5_1).f5, (rd_T36 x0_1 x5_1).f6, (rd_T36 x0_1 x5_1).f7, (rd_T36 x0_1 x5_1).f8⟩ : S36) (fun hM_ => by obtain ⟨v1, rfl, g1⟩ := k36_openM hM_; exact k36_mkM _ _ _ (⟨(x1_1), ((wrap64 (x1_1 + 1))), ((wrap64 ((wrap64 (x1_1 + 1)) + 1))), ((wrap64 ((wrap64 ((wrap64 (x1_1 + 1)) + 1)) + 1))), (rd_T36 x0_1 x5_1).f4, (rd_T36 x0_1 x5_1).f5, (rd_T36 x0_1 x5_1).f6, (rd_T36 x0_1 x5_1).f7, (rd_T36 x0_1 x5_1).f8⟩ : S36) g1); (try simp only [show k36.sz = 9 from rfl, Nat.add_zero] at HP3)) | ((with_reducible refine gate_store (t := 3) (p := 37) rfl ?_); refine store_event (t := 3) (p := 37) (v := ?vo_w11) (w1 := (w10.setCell ⟨go5, (x5_1 : Int).toNat * 9 + 3, none⟩ (.int .i64 (wrap64 ((wrap64 ((wrap64 (x1_1 + 1)) + 1)) + 1))))) ?hg ?ho ?hn ?hr ?_; (case ho => rfl); (case hg => rfl); (case hn => rfl); (case hr => first | (go_simp; done) | (go_simp; rfl)); intro w11 hw; have hg : w10.grownBy w11 (some go5) := (by rw [hw]; exact HP3.2); have HS4 : Aside0 (Kd.S k36 36 w11 w0.heap.size P0_ (.slice (some ⟨go5, 0, none⟩) x0_1.length co6) (x0_1.set x5_1.toNat (⟨(x1_1), ((wrap64 (x1_1 + 1))), ((wrap64 ((wrap64 (x1_1 + 1)) + 1))), ((wrap64 ((wrap64 ((wrap64 (x1_1 + 1)) + 1)) + 1))), (rd_T36 x0_1 x5_1).f4, (rd_T36 x0_1 x5_1).f5, (rd_T36 x0_1 x5_1).f6, (rd_T36 x0_1 x5_1).f7, (rd_T36 x0_1 x5_1).f8⟩ : S36))) := ⟨by rw [hw]; exact HP3.1⟩; clear HP3; replace HB := Aside0.mk ((by rw [hw]; exact below_set (HB.out) GB5.out : Below w0.heap.size w0 w11)); replace HK := Aside0.mk (Kept.of_grown (S := (fun k_ => P0_ k_)) hg (by repeat (first | (with_reducible first | exact HK.out | apply Kept.alloc | apply Kept.drewN | apply Kept.drew) | exact HK.out)) (fun k_ e_ => .inl (by injection e_ with e_; subst e_; exact HMgo5.out))); clear hg hw HS3 hx0 hf0; obtain ⟨ok0_, c0_, hM0_, hc0_, hf0_, hk0_, hb0_⟩ := Kd.S_cells HS4.out P5.out Q5.out; obtain ⟨ve0_, rfl, ge0_⟩ := k36_openM hM0_; have hx0 := hc0_ 4 _ rfl; have hf0 := hf0_ 4; (try simp only [show k36.sz = 9 from rfl, Nat.add_zero] at hx0 hf0); clear hM0_ hc0_ hf0_ hk0_ hb0_ ge0_; have HP4 := Kd.S_put1 HS4.out P5.out Q5.out 4 (.int .i64 (wrap64 ((wrap64 ((wrap64 ((wrap64 (x1_1 + 1)) + 1)) + 1)) + 1))) (by decide) (⟨(x1_1), ((wrap64 (x1_1 + 1))), ((wrap64 ((wrap64 (x1_1 + 1)) + 1))), ((wrap64 ((wrap64 ((wrap64 (x1_1 + 1)) + 1)) + 1))), ((wrap64 ((wrap64 ((wrap64 ((wrap64 (x1_1 + 1)) + 1)) + 1)) + 1))), (rd_T36 x0_1 x5_1).f5, (rd_T36 x0_1 x5_1).f6, (rd_T36 x0_1 x5_1).f7, (rd_T36 x0_1 x5_1).f8⟩ : S36) (fun hM_ => by obtain ⟨v1, rfl, g1⟩ := k36_openM hM_; exact k36_mkM _ _ _ (⟨(x1_1), ((wrap64 (x1_1 + 1))), ((wrap64 ((wrap64 (x1_1 + 1)) + 1))), ((wrap64 ((wrap64 ((wrap64 (x1_1 + 1)) + 1)) + 1))), ((wrap64 ((wrap64 ((wrap64 ((wrap64 (x1_1 + 1)) + 1)) + 1)) + 1))), (rd_T36 x0_1 x5_1).f5, (rd_T36 x0_1 x5_1).f6, (rd_T36 x0_1 x5_1).f7, (rd_T36 x0_1 x5_1).f8⟩ : S36) g1); (try simp only [show k36.sz = 9 from rfl, Nat.add_zero] at HP4)) | ((with_reducible refine gate_store (t := 3) (p := 44) rfl ?_); refine store_event (t := 3) (p := 44) (v := ?vo_w12) (w1 := (w11.setCell ⟨go5, (x5_1 : Int).toNat * 9 + 4, none⟩ (.int .i64 (wrap64 ((wrap64 ((wrap64 ((wrap64 (x1_1 + 1)) + 1)) + 1)) + 1))))) ?hg ?ho ?hn ?hr ?_; (case ho => rfl); (case hg => rfl); (case hn => rfl); (case hr => first | (go_simp; done) | (go_simp; rfl)); intro w12 hw; have hg : w11.grownBy w12 (some go5) := (by rw [hw]; exact HP4.2); have HS5 : Aside0 (Kd.S k36 36 w12 w0.heap.size P0_ (.slice (some ⟨go5, 0, none⟩) x0_1.length co6) (x0_1.set x5_1.toNat (⟨(x1_1), ((wrap64 (x1_1 + 1))), ((wrap64 ((wrap64 (x1_1 + 1)) + 1))), ((wrap64 ((wrap64 ((wrap64 (x1_1 + 1)) + 1)) + 1))), ((wrap64 ((wrap64 ((wrap64 ((wrap64 (x1_1 + 1)) + 1)) + 1)) + 1))), (rd_T36 x0_1 x5_1).f5, (rd_T36 x0_1 x5_1).f6, (rd_T36 x0_1 x5_1).f7, (rd_T36 x0_1 x5_1).f8⟩ : S36))) := ⟨by rw [hw]; exact HP4.1⟩; clear HP4; replace HB := Aside0.mk ((by rw [hw]; exact below_set (HB.out) GB5.out : Below w0.heap.size w0 w12)); replace HK := Aside0.mk (Kept.of_grown (S := (fun k_ => P0_ k_)) hg (by repeat (first | (with_reducible first | exact HK.out | apply Kept.alloc | apply Kept.drewN | apply Kept.drew) | exact HK.out)) (fun k_ e_ => .inl (by injection e_ with e_; subst e_; exact HMgo5.out))); clear hg hw HS4 hx0 hf0; obtain ⟨ok0_, c0_, hM0_, hc0_, hf0_, hk0_, hb0_⟩ := Kd.S_cells HS5.out P5.out Q5.out; obtain ⟨ve0_, rfl, ge0_⟩ := k36_openM hM0_; have hx0 := hc0_ 5 _ rfl; have hf0 := hf0_ 5; (try simp only [show k36.sz = 9 from rfl, Nat.add_zero] at hx0 hf0); clear hM0_ hc0_ hf0_ hk0_ hb0_ ge0_; have HP5 := Kd.S_put1 HS5.out P5.out Q5.out 5 (.int .i64 (wrap64 ((wrap64 ((wrap64 ((wrap64 ((wrap64 (x1_1 + 1)) + 1)) + 1)) + 1)) + 1))) (by decide) (⟨(x1_1), ((wrap64 (x1_1 + 1))), ((wrap64 ((wrap64 (x1_1 + 1)) + 1))), ((wrap64 ((wrap64 ((wrap64 (x1_1 + 1)) + 1)) + 1))), ((wrap64 ((wrap64 ((wrap64 ((wrap64 (x1_1 + 1)) + 1)) + 1)) + 1))), ((wrap64 ((wrap64 ((wrap64 ((wrap64 ((wrap64 (x1_1 + 1)) + 1)) + 1)) + 1)) + 1))), (rd_T36 x0_1 x5_1).f6, (rd_T36 x0_1 x5_1).f7, (rd_T36 x0_1 x5_1).f8⟩ : S36) (fun hM_ => by obtain ⟨v1, rfl, g1⟩ := k36_openM hM_; exact k36_mkM _ _ _ (⟨(x1_1), ((wrap64 (x1_1 + 1))), ((wrap64 ((wrap64 (x1_1 + 1)) + 1))), ((wrap64 ((wrap64 ((wrap64 (x1_1 + 1)) + 1)) + 1))), ((wrap64 ((wrap64 ((wrap64 ((wrap64 (x1_1 + 1)) + 1)) + 1)) + 1))), ((wrap64 ((wrap64 ((wrap64 ((wrap64 ((wrap64 (x1_1 + 1)) + 1)) + 1)) + 1)) + 1))), (rd_T36 x0_1 x5_1).f6, (rd_T36 x0_1 x5_1).f7, (rd_T36 x0_1 x5_1).f8⟩ : S36) g1); (try simp only [show k36.sz = 9 from rfl, Nat.add_zero] at HP5)) | ((with_reducible refine gate_store (t := 3) (p := 51) rfl ?_); refine store_event (t := 3) (p := 51) (v := ?vo_w13) (w1 := (w12.setCell ⟨go5, (x5_1 : Int).toNat * 9 + 5, none⟩ (.int .i64 (wrap64 ((wrap64 ((wrap64 ((wrap64 ((wrap64 (x1_1 + 1)) + 1)) + 1)) + 1)) + 1))))) ?hg ?ho ?hn ?hr ?_; (case ho => rfl); (case hg => rfl); (case hn => rfl); (case hr => first | (go_simp; done) | (go_simp; rfl)); intro w13 hw; have hg : w12.grownBy w13 (some go5) := (by rw [hw]; exact HP5.2); have HS6 : Aside0 (Kd.S k36 36 w13 w0.heap.size P0_ (.slice (some ⟨go5, 0, none⟩) x0_1.length co6) (x0_1.set x5_1.toNat (⟨(x1_1), ((wrap64 (x1_1 + 1))), ((wrap64 ((wrap64 (x1_1 + 1)) + 1))), ((wrap64 ((wrap64 ((wrap64 (x1_1 + 1)) + 1)) + 1))), ((wrap64 ((wrap64 ((wrap64 ((wrap64 (x1_1 + 1)) + 1)) + 1)) + 1))), ((wrap64 ((wrap64 ((wrap64 ((wrap64 ((wrap64 (x1_1 + 1)) + 1)) + 1)) + 1)) + 1))), (rd_T36 x0_1 x5_1).f6, (rd_T36 x0_1 x5_1).f7, (rd_T36 x0_1 x5_1).f8⟩ : S36))) := ⟨by rw [hw]; exact HP5.1⟩; clear HP5; replace HB := Aside0.mk ((by rw [hw]; exact below_set (HB.out) GB5.out : Below w0.heap.size w0 w13)); replace HK := Aside0.mk (Kept.of_grown (S := (fun k_ => P0_ k_)) hg (by repeat (first | (with_reducible first | exact HK.out | apply Kept.alloc | apply Kept.drewN | apply Kept.drew) | exact HK.out)) (fun k_ e_ => .inl (by injection e_ with e_; subst e_; exact HMgo5.out))); clear hg hw HS5 hx0 hf0; obtain ⟨ok0_, c0_, hM0_, hc0_, hf0_, hk0_, hb0_⟩ := Kd.S_cells HS6.out P5.out Q5.out; obtain ⟨ve0_, rfl, ge0_⟩ := k36_openM hM0_; have hx0 := hc0_ 6 _ rfl; have hf0 := hf0_ 6; (try simp only [show k36.sz = 9 from rfl, Nat.add_zero] at hx0 hf0); clear hM0_ hc0_ hf0_ hk0_ hb0_ ge0_; have HP6 := Kd.S_put1 HS6.out P5.out Q5.out 6 (.bool (decide (Int.tmod (wrap64 ((wrap64 ((wrap64 ((wrap64 ((wrap64 ((wrap64 (x1_1 + 1)) + 1)) + 1)) + 1)) + 1)) + 1)) 3 = 0))) (by decide) (⟨(x1_1), ((wrap64 (x1_1 + 1))), ((wrap64 ((wrap64 (x1_1 + 1)) + 1))), ((wrap64 ((wrap64 ((wrap64 (x1_1 + 1)) + 1)) + 1))), ((wrap64 ((wrap64 ((wrap64 ((wrap64 (x1_1 + 1)) + 1)) + 1)) + 1))), ((wrap64 ((wrap64 ((wrap64 ((wrap64 ((wrap64 (x1_1 + 1)) + 1)) + 1)) + 1)) + 1))), (decide (Int.tmod (wrap64 ((wrap64 ((wrap64 ((wrap64 ((wrap64 ((wrap64 (x1_1 + 1)) + 1)) + 1)) + 1)) + 1)) + 1)) 3 = 0)), (rd_T36 x0_1 x5_1).f7, (rd_T36 x0_1 x5_1).f8⟩ : S36) (fun hM_ => by obtain ⟨v1, rfl, g1⟩ := k36_openM hM_; exact k36_mkM _ _ _ (⟨(x1_1), ((wrap64 (x1_1 + 1))), ((wrap64 ((wrap64 (x1_1 + 1)) + 1))), ((wrap64 ((wrap64 ((wrap64 (x1_1 + 1)) + 1)) + 1))), ((wrap64 ((wrap64 ((wrap64 ((wrap64 (x1_1 + 1)) + 1)) + 1)) + 1))), ((wrap64 ((wrap64 ((wrap64 ((wrap64 ((wrap64 (x1_1 + 1)) + 1)) + 1)) + 1)) + 1))), (decide (Int.tmod (wrap64 ((wrap64 ((wrap64 ((wrap64 ((wrap64 ((wrap64 (x1_1 + 1)) + 1)) + 1)) + 1)) + 1)) + 1)) 3 = 0)), (rd_T36 x0_1 x5_1).f7, (rd_T36 x0_1 x5_1).f8⟩ : S36) g1); (try simp only [show k36.sz = 9 from rfl, Nat.add_zero] at HP6)) | ((with_reducible refine gate_store (t := 4) (p := 60) rfl ?_); refine store_event (t := 4) (p := 60) (v := ?vo_w14) (w1 := (w13.setCell ⟨go5, (x5_1 : Int).toNat * 9 + 6, none⟩ (.bool (decide (Int.tmod (wrap64 ((wrap64 ((wrap64 ((wrap64 ((wrap64 ((wrap64 (x1_1 + 1)) + 1)) + 1)) + 1)) + 1)) + 1)) 3 = 0))))) ?hg ?ho ?hn ?hr ?_; (case ho => rfl); (case hg => rfl); (case hn => rfl); (case hr => first | (go_simp; done) | (go_simp; rfl)); intro w14 hw; have hg : w13.grownBy w14 (some go5) := (by rw [hw]; exact HP6.2); have HS7 : Aside0 (Kd.S k36 36 w14 w0.heap.size P0_ (.slice (some ⟨go5, 0, none⟩) x0_1.length co6) (x0_1.set x5_1.toNat (⟨(x1_1), ((wrap64 (x1_1 + 1))), ((wrap64 ((wrap64 (x1_1 + 1)) + 1))), ((wrap64 ((wrap64 ((wrap64 (x1_1 + 1)) + 1)) + 1))), ((wrap64 ((wrap64 ((wrap64 ((wrap64 (x1_1 + 1)) + 1)) + 1)) + 1))), ((wrap64 ((wrap64 ((wrap64 ((wrap64 ((wrap64 (x1_1 + 1)) + 1)) + 1)) + 1)) + 1))), (decide (Int.tmod (wrap64 ((wrap64 ((wrap64 ((wrap64 ((wrap64 ((wrap64 (x1_1 + 1)) + 1)) + 1)) + 1)) + 1)) + 1)) 3 = 0)), (rd_T36 x0_1 x5_1).f7, (rd_T36 x0_1 x5_1).f8⟩ : S36))) := ⟨by rw [hw]; exact HP6.1⟩; clear HP6; replace HB := Aside0.mk ((by rw [hw]; exact below_set (HB.out) GB5.out : Below w0.heap.size w0 w14)); replace HK := Aside0.mk (Kept.of_grown (S := (fun k_ => P0_ k_)) hg (by repeat (first | (with_reducible first | exact HK.out | apply Kept.alloc | apply Kept.drewN | apply Kept.drew) | exact HK.out)) (fun k_ e_ => .inl (by injection e_ with e_; subst e_; exact HMgo5.out))); clear hg hw HS6 hx0 hf0; obtain ⟨ok0_, c0_, hM0_, hc0_, hf0_, hk0_, hb0_⟩ := Kd.S_cells HS7.out P5.out Q5.out; obtain ⟨ve0_, rfl, ge0_⟩ := k36_openM hM0_; have hx0 := hc0_ 7 _ rfl; have hf0 := hf0_ 7; (try simp only [show k36.sz = 9 from rfl, Nat.add_zero] at hx0 hf0); clear hM0_ hc0_ hf0_ hk0_ hb0_ ge0_; have HP7 := Kd.S_put1 HS7.out P5.out Q5.out 7 (.bool (decide (Int.tmod (wrap64 ((wrap64 ((wrap64 ((wrap64 ((wrap64 ((wrap64 ((wrap64 (x1_1 + 1)) + 1)) + 1)) + 1)) + 1)) + 1)) + 1)) 3 = 0))) (by decide) (⟨(x1_1), ((wrap64 (x1_1 + 1))), ((wrap64 ((wrap64 (x1_1 + 1)) + 1))), ((wrap64 ((wrap64 ((wrap64 (x1_1 + 1)) + 1)) + 1))), ((wrap64 ((wrap64 ((wrap64 ((wrap64 (x1_1 + 1)) + 1)) + 1)) + 1))), ((wrap64 ((wrap64 ((wrap64 ((wrap64 ((wrap64 (x1_1 + 1)) + 1)) + 1)) + 1)) + 1))), (decide (Int.tmod (wrap64 ((wrap64 ((wrap64 ((wrap64 ((wrap64 ((wrap64 (x1_1 + 1)) + 1)) + 1)) + 1)) + 1)) + 1)) 3 = 0)), (decide (Int.tmod (wrap64 ((wrap64 ((wrap64 ((wrap64 ((wrap64 ((wrap64 ((wrap64 (x1_1 + 1)) + 1)) + 1)) + 1)) + 1)) + 1)) + 1)) 3 = 0)), (rd_T36 x0_1 x5_1).f8⟩ : S36) (fun hM_ => by obtain ⟨v1, rfl, g1⟩ := k36_openM hM_; exact k36_mkM _ _ _ (⟨(x1_1), ((wrap64 (x1_1 + 1))), ((wrap64 ((wrap64 (x1_1 + 1)) + 1))), ((wrap64 ((wrap64 ((wrap64 (x1_1 + 1)) + 1)) + 1))), ((wrap64 ((wrap64 ((wrap64 ((wrap64 (x1_1 + 1)) + 1)) + 1)) + 1))), ((wrap64 ((wrap64 ((wrap64 ((wrap64 ((wrap64 (x1_1 + 1)) + 1)) + 1)) + 1)) + 1))), (decide (Int.tmod (wrap64 ((wrap64 ((wrap64 ((wrap64 ((wrap64 ((wrap64 (x1_1 + 1)) + 1)) + 1)) + 1)) + 1)) + 1)) 3 = 0)), (decide (Int.tmod (wrap64 ((wrap64 ((wrap64 ((wrap64 ((wrap64 ((wrap64 ((wrap64 (x1_1 + 1)) + 1)) + 1)) + 1)) + 1)) + 1)) + 1)) 3 = 0)), (rd_T36 x0_1 x5_1).f8⟩ : S36) g1); (try simp only [show k36.sz = 9 from rfl, Nat.add_zero] at HP7)) | ((with_reducible refine gate_store (t := 4) (p := 69) rfl ?_); refine store_event (t := 4) (p := 69) (v := ?vo_w15) (w1 := (w14.setCell ⟨go5, (x5_1 : Int).toNat * 9 + 7, none⟩ (.bool (decide (Int.tmod (wrap64 ((wrap64 ((wrap64 ((wrap64 ((wrap64 ((wrap64 ((wrap64 (x1_1 + 1)) + 1)) + 1)) + 1)) + 1)) + 1)) + 1)) 3 = 0))))) ?hg ?ho ?hn ?hr ?_; (case ho => rfl); (case hg => rfl); (case hn => rfl); (case hr => first | (go_simp; done) | (go_simp; rfl)); intro w15 hw; have hg : w14.grownBy w15 (some go5) := (by rw [hw]; exact HP7.2); have HS8 : Aside0 (Kd.S k36 36 w15 w0.heap.size P0_ (.slice (some ⟨go5, 0, none⟩) x0_1.length co6) (x0_1.set x5_1.toNat (⟨(x1_1), ((wrap64 (x1_1 + 1))), ((wrap64 ((wrap64 (x1_1 + 1)) + 1))), ((wrap64 ((wrap64 ((wrap64 (x1_1 + 1)) + 1)) + 1))), ((wrap64 ((wrap64 ((wrap64 ((wrap64 (x1_1 + 1)) + 1)) + 1)) + 1))), ((wrap64 ((wrap64 ((wrap64 ((wrap64 ((wrap64 (x1_1 + 1)) + 1)) + 1)) + 1)) + 1))), (decide (Int.tmod (wrap64 ((wrap64 ((wrap64 ((wrap64 ((wrap64 ((wrap64 (x1_1 + 1)) + 1)) + 1)) + 1)) + 1)) + 1)) 3 = 0)), (decide (Int.tmod (wrap64 ((wrap64 ((wrap64 ((wrap64 ((wrap64 ((wrap64 ((wrap64 (x1_1 + 1)) + 1)) + 1)) + 1)) + 1)) + 1)) + 1)) 3 = 0)), (rd_T36 x0_1 x5_1).f8⟩ : S36))) := ⟨by rw [hw]; exact HP7.1⟩; clear HP7; replace HB := Aside0.mk ((by rw [hw]; exact below_set (HB.out) GB5.out : Below w0.heap.size w0 w15)); replace HK := Aside0.mk (Kept.of_grown (S := (fun k_ => P0_ k_)) hg (by repeat (first | (with_reducible first | exact HK.out | apply Kept.alloc | apply Kept.drewN | apply Kept.drew) | exact HK.out)) (fun k_ e_ => .inl (by injection e_ with e_; subst e_; exact HMgo5.out))); clear hg hw HS7 hx0 hf0; obtain ⟨ok1_, c1_, hM1_, hc1_, hf1_, hk1_, hb1_⟩ := Kd.S_cells HS8.out P5.out Q5.out; obtain ⟨ve1_, rfl, ge1_⟩ := k36_openM hM1_; obtain ⟨Ae1_, ce1_, ee1_⟩ := Kd.R_slice ge1_; subst ee1_; have hx1 := hc1_ 8 _ rfl; (try simp only [show k36.sz = 9 from rfl, Nat.add_zero] at hx1); have HG1 := Aside0.mk ge1_; have HK1_ := Aside0.mk hk1_; have HW1 := Aside0.mk @hb1_; clear hM1_ hc1_ hf1_ ge1_ hk1_ hb1_) | ((with_reducible refine gate_callee (f := 56) rfl ?_); refine goesL_ (some 78) rfl rfl Try.func56 (by kernel_rfl) rfl #[.slice Ae1_ (rd_T36 x0_1 x5_1).f8.length ce1_, .int .i64 (wrap64 ((wrap64 ((wrap64 ((wrap64 ((wrap64 ((wrap64 ((wrap64 ((wrap64 (x1_1 + 1)) + 1)) + 1)) + 1)) + 1)) + 1)) + 1)) + 1))] rfl ar_ ?_; refine (laws_markByteS.calls k1 (fun k_ => some k_ = (.slice Ae1_ (rd_T36 x0_1 x5_1).f8.length ce1_ : Value).ownBlock) _ _ _ t1 t2 w0 _ HB.out (Kd.R_tight rfl HG1.out) A2.out).mono ?_; rintro e w30 ⟨rfl, hy, hb, hkp⟩; refine ⟨_, rfl, ?_⟩; have HSe : Aside0 (Kd.S k36 36 w30 w0.heap.size P0_ (.slice (some ⟨go5, 0, none⟩) x0_1.length co6) (x0_1.set x5_1.toNat (⟨(x1_1), ((wrap64 (x1_1 + 1))), ((wrap64 ((wrap64 (x1_1 + 1)) + 1))), ((wrap64 ((wrap64 ((wrap64 (x1_1 + 1)) + 1)) + 1))), ((wrap64 ((wrap64 ((wrap64 ((wrap64 (x1_1 + 1)) + 1)) + 1)) + 1))), ((wrap64 ((wrap64 ((wrap64 ((wrap64 ((wrap64 (x1_1 + 1)) + 1)) + 1)) + 1)) + 1))), (decide (Int.tmod (wrap64 ((wrap64 ((wrap64 ((wrap64 ((wrap64 ((wrap64 (x1_1 + 1)) + 1)) + 1)) + 1)) + 1)) + 1)) 3 = 0)), (decide (Int.tmod (wrap64 ((wrap64 ((wrap64 ((wrap64 ((wrap64 ((wrap64 ((wrap64 (x1_1 + 1)) + 1)) + 1)) + 1)) + 1)) + 1)) + 1)) 3 = 0)), t2⟩ : S36))) := ⟨HW1.out hkp (fun k_ e_ => HG1.out.1 k_ e_.symm) (k36_mkM _ _ _ (⟨(x1_1), ((wrap64 (x1_1 + 1))), ((wrap64 ((wrap64 (x1_1 + 1)) + 1))), ((wrap64 ((wrap64 ((wrap64 (x1_1 + 1)) + 1)) + 1))), ((wrap64 ((wrap64 ((wrap64 ((wrap64 (x1_1 + 1)) + 1)) + 1)) + 1))), ((wrap64 ((wrap64 ((wrap64 ((wrap64 ((wrap64 (x1_1 + 1)) + 1)) + 1)) + 1)) + 1))), (decide (Int.tmod (wrap64 ((wrap64 ((wrap64 ((wrap64 ((wrap64 ((wrap64 (x1_1 + 1)) + 1)) + 1)) + 1)) + 1)) + 1)) 3 = 0)), (decide (Int.tmod (wrap64 ((wrap64 ((wrap64 ((wrap64 ((wrap64 ((wrap64 ((wrap64 (x1_1 + 1)) + 1)) + 1)) + 1)) + 1)) + 1)) + 1)) 3 = 0)), t2⟩ : S36) (Kd.R_reok rfl hy (fun k_ e_ => HG1.out.1 k_ e_)))⟩; replace HB := Aside0.mk hb; replace HK := Aside0.mk (Kept.then_ (S := (fun k_ => P0_ k_)) (by repeat (first | (with_reducible first | exact HK.out | apply Kept.alloc | apply Kept.drewN | apply Kept.drew) | exact HK.out)) hkp (fun k_ e_ => .inl (HK1_.out k_ (HG1.out.1 k_ e_.symm)).1)); clear hy hb hkp HW1 HS8 hx1 HG1 HK1_))
          go_roundg k1
          case measure => have := HK1.out; omega
          case rel => exact ⟨(x0_1.set x5_1.toNat (⟨(x1_1), ((wrap64 (x1_1 + 1))), ((wrap64 ((wrap64 (x1_1 + 1)) + 1))), ((wrap64 ((wrap64 ((wrap64 (x1_1 + 1)) + 1)) + 1))), ((wrap64 ((wrap64 ((wrap64 ((wrap64 (x1_1 + 1)) + 1)) + 1)) + 1))), ((wrap64 ((wrap64 ((wrap64 ((wrap64 ((wrap64 (x1_1 + 1)) + 1)) + 1)) + 1)) + 1))), (decide (Int.tmod (wrap64 ((wrap64 ((wrap64 ((wrap64 ((wrap64 ((wrap64 (x1_1 + 1)) + 1)) + 1)) + 1)) + 1)) + 1)) 3 = 0)), (decide (Int.tmod (wrap64 ((wrap64 ((wrap64 ((wrap64 ((wrap64 ((wrap64 ((wrap64 (x1_1 + 1)) + 1)) + 1)) + 1)) + 1)) + 1)) + 1)) 3 = 0)), t2⟩ : S36)), t1, (wrap64 (x5_1 + 1)), (by first | rfl | (simp; done) | (simp [*]; done)), (by first | rfl | (simp; done) | (simp [*]; done)), H', ⟨by have := HK1.out; omega⟩, ⟨kS_ HSe.out⟩, ⟨by repeat (first | (with_reducible first | exact HK.out | apply Kept.alloc | apply Kept.drewN | apply Kept.drew) | exact HK.out)⟩, ⟨hbA_ HB.out⟩⟩
        · rw [if_neg c4] at H
          exact absurd H (by simp)
      · rw [if_neg c3] at H
        have c3b0 : decide (x5_1 < (x0_1.length : Int)) = false := decide_eq_false c3
        clear c3
        simp only [Option.some.injEq, Prod.mk.injEq] at H
        obtain ⟨rfl, rfl⟩ := H
        obtain ⟨Ao9, co9, eo9⟩ := Kd.S_slice HO_0.out
        subst eo9
        go_wp2
        go_ret
        exact ⟨by first | rfl | (simp [*]; done), kS_ HO_0.out, hbA_ HB.out, by repeat (first | (with_reducible first | exact HK.out | apply Kept.alloc | apply Kept.drewN | apply Kept.drew) | exact HK.out)⟩
def laws_markPart.f (k : Nat) (l0_0 : List (S36)) (a0_1 : Int) (a1 : Int) : Option (Int × (List (S36))) := (laws_markPacketS.f k l0_0 a1).bind fun b1 => some (b1.1, b1.2)
theorem laws_markPart.mono : ∀ a0 a1 a2 k, LeO (laws_markPart.f k a0 a1 a2) (laws_markPart.f (k + 1) a0 a1 a2) := by
  intro a0 a1 a2 k
  unfold laws_markPart.f
  repeat' first
      | (with_reducible exact laws_markPacketS.mono _ _ _)
      | (with_reducible exact LeO.refl _)
      | (with_reducible exact LeO.none _)
      | (with_reducible refine LeO.ite ?_ ?_)
      | (with_reducible refine LeO.bind ?_ (fun _ => ?_))
      | exact laws_markPacketS.mono _ _ _
      | exact LeO.none _
      | refine LeO.ite ?_ ?_
      | refine LeO.bind ?_ (fun _ => ?_)
set_option maxHeartbeats 8000000 in
set_option maxRecDepth 100000 in
theorem laws_markPart.calls (k : Nat) (P0_0_ : Nat → Prop) (u9000_ : Value) (l0_0 : List (S36)) (a0_1 : Int) (a1 : Int) (r1 : Int) (r2 : List (S36)) (w0 w : World) (hB : Below w0.heap.size w0 w) (ho0_0 : Kd.S k36 36 w w0.heap.size P0_0_ u9000_ l0_0) (h : laws_markPart.f k l0_0 a0_1 a1 = some (r1, r2)) :
    Calls Try.prog 17 #[.agg #[u9000_, .int .i64 a0_1], .int .i64 a1] w fun e w' => e = .returned (.int .i64 r1) ∧ Kd.S k36 36 w' w0.heap.size P0_0_ u9000_ r2 ∧ Below w0.heap.size w0 w' ∧ Kept w w' (fun k_ => P0_0_ k_) := by
  unfold laws_markPart.f at h
  obtain ⟨⟨t1, s1⟩, A10, h⟩ := Option.bind_eq_some_iff.mp h
  (try dsimp only at A10 h)
  have A1 := Aside0.mk A10; clear A10
  simp only [Option.some.injEq, Prod.mk.injEq] at h
  obtain ⟨rfl, rfl⟩ := h
  have HK := Aside0.mk (Kept.refl w (fun k_ => P0_0_ k_))
  have HB := Aside0.mk hB; clear hB
  have HO0 := Aside0.mk ho0_0; clear ho0_0
  obtain ⟨Av0, cv0, ev0⟩ := Kd.S_slice HO0.out
  subst ev0
  go_enter Try.func17, Try.ntmps17
  go_wp2_with (first | ((with_reducible refine gate_dst (N := 2) rfl ?_); refine box_ (N := 2) (cs := #[.slice Av0 l0_0.length cv0, .int .i64 a0_1]) (t := 32) (fun gb hg w1 hbox hb => ?_); replace HO0 := Aside0.mk (Kd.S_below (kS_ HO0.out) hb); replace HK := Aside0.mk (Kept.below HK.out hb); replace HB := (bs_ HB hb); have BK := Aside0.mk hbox; clear hb hbox hg; have hc0 := bc_ BK 0) | ((with_reducible refine gate_callee (f := 55) rfl ?_); refine goesL_ (some 8) rfl rfl Try.func55 (by kernel_rfl) rfl #[.slice Av0 l0_0.length cv0, .int .i64 a1] rfl ar_ ?_; refine (laws_markPacketS.calls k (fun k_ => P0_0_ k_ ∧ w0.heap.size ≤ k_ ∧ k_ < w1.heap.size ∧ ∃ q, q ∈ 36 :: k36.E ∧ ∃ cells, w1.heap[k_]? = some (.cells cells q (0, 0))) _ _ _ t1 s1 w0 w1 HB.out (Kd.S_bound HO0.out) A1.out).mono ?_; rintro e w2 ⟨rfl, hy, hb, hkp⟩; refine ⟨_, rfl, ?_⟩; have n0_ : Aside0 (Kd.S k36 36 w2 w0.heap.size P0_0_ (.slice Av0 l0_0.length cv0) s1) := ⟨Kd.S_mono hy (fun _ h_ => h_.1)⟩; replace BK := Aside0.mk (blk_keptT BK.out hkp (by decide)); replace HB := Aside0.mk hb; replace HK := Aside0.mk (Kept.then_ (S := (fun k_ => P0_0_ k_)) HK.out hkp (fun k_ h_ => .inl (h_.1))); clear hy hb hkp hc0; replace HO0 := n0_; clear n0_))
  go_ret
  exact ⟨rfl, kS_ HO0.out, hbA_ HB.out, by repeat (first | (with_reducible first | exact HK.out | apply Kept.alloc | apply Kept.drewN | apply Kept.drew) | exact HK.out)⟩
def laws_markPacket.f (k : Nat) (a0_0 : Int) (a0_1 : Int) (a0_2 : Int) (a0_3 : Int) (a0_4 : Int) (a0_5 : Int) (a0_6 : Bool) (a0_7 : Bool) (l0_8 : List Int) (a1 : Int) : Option (Int × List Int) := (laws_markByteS.f k l0_8 a1).bind fun bt311 => (some (bt311.1, bt311.2))
theorem laws_markPacket.mono : ∀ a0 a1 a2 a3 a4 a5 a6 a7 a8 a9 k, LeO (laws_markPacket.f k a0 a1 a2 a3 a4 a5 a6 a7 a8 a9) (laws_markPacket.f (k + 1) a0 a1 a2 a3 a4 a5 a6 a7 a8 a9) := by
 intro a0 a1 a2 a3 a4 a5 a6 a7 a8 a9 k
 unfold laws_markPacket.f
 repeat' first | (with_reducible first | apply laws_markByteS.mono | exact LeO.refl _ | exact LeO.none _ | refine LeO.ite ?_ ?_ | refine LeO.bind ?_ fun _ => ?_) | apply laws_markByteS.mono | exact LeO.none _ | refine LeO.ite ?_ ?_ | refine LeO.bind ?_ fun _ => ?_
set_option maxHeartbeats 8000000 in
set_option maxRecDepth 100000 in
theorem laws_markPacket.calls (k : Nat) (a0_0 : Int) (a0_1 : Int) (a0_2 : Int) (a0_3 : Int) (a0_4 : Int) (a0_5 : Int) (a0_6 : Bool) (a0_7 : Bool) (P0_8_ : Nat → Prop) (u9000_ : Value) (l0_8 : List Int) (a1 : Int) (r1 : Int) (r2 : List Int) (w0 w : World) (hB : Below w0.heap.size w0 w) (ho0_8 : Kd.R (Kd.int .u8) 5 w w0.heap.size P0_8_ u9000_ l0_8) (h : laws_markPacket.f k a0_0 a0_1 a0_2 a0_3 a0_4 a0_5 a0_6 a0_7 l0_8 a1 = some (r1, r2)) :
  Calls Try.prog 18 #[.agg #[.int .i64 a0_0, .int .i64 a0_1, .int .i64 a0_2, .int .i64 a0_3, .int .i64 a0_4, .int .i64 a0_5, .bool a0_6, .bool a0_7, u9000_], .int .i64 a1] w fun e w' => e = .returned (.int .i64 r1) ∧ Kd.R (Kd.int .u8) 5 w' w0.heap.size (fun k_ => (P0_8_ k_ ∨ w.heap.size ≤ k_)) u9000_ r2 ∧ Below w0.heap.size w0 w' ∧ Kept w w' (fun k_ => P0_8_ k_) := by
 have hu36 := Try.underlying36
 have HO0_8 := Aside0.mk (show Kd.R (Kd.int .u8) 5 w w0.heap.size (fun k_ => (P0_8_ k_ ∨ w.heap.size ≤ k_)) u9000_ l0_8 from Kd.R_mono ho0_8 (fun k_ hk => (.inl hk)))
 have HK := Aside0.mk (Kept.refl w (fun k_ => P0_8_ k_))
 have HW0 := Aside0.mk hB.size; have HB := Aside0.mk hB; clear hB
 have H : ((laws_markByteS.f k l0_8 a1).bind fun bt311 => (some (bt311.1, bt311.2))) = some (r1, r2) := h
 clear h
 replace H := Option.bind_eq_some_iff.mp H
 obtain ⟨⟨t311, t312⟩, A30, H⟩ := H
 (try dsimp only at H)
 have A3 := Aside0.mk A30; clear A30
 simp only [Option.some.injEq, Prod.mk.injEq] at H
 obtain ⟨rfl, rfl⟩ := H
 obtain ⟨Ao4, co4, eo4⟩ := Kd.R_slice HO0_8.out
 subst eo4
 go_enter Try.func18, Try.ntmps18
 go_wp2_with (first | ((with_reducible refine gate_dst (N := 2) rfl ?_); refine box_ (N := 2) (cs := #[.int .i64 a0_0, .int .i64 a0_1, .int .i64 a0_2, .int .i64 a0_3, .int .i64 a0_4, .int .i64 a0_5, .bool a0_6, .bool a0_7, .slice Ao4 l0_8.length co4]) (t := 36) (fun gb310 hg w5 hbox hb => ?_); replace HO0_8 := Aside0.mk (Kd.R_below (kR_ HO0_8.out) hb); have BK310 := Aside0.mk (hbox); have GW310 := Aside0.mk ((by rw [hg]; exact (by first | exact HK.out.1 | exact (show Kept w _ (fun k_ => P0_8_ k_) from by repeat (first | (with_reducible first | exact HK.out | apply Kept.alloc | apply Kept.drewN | apply Kept.drew) | exact HK.out)).1) : w.heap.size ≤ gb310)); replace HK := Aside0.mk (Kept.below (S := (fun k_ => P0_8_ k_)) (by repeat (first | (with_reducible first | exact HK.out | apply Kept.alloc | apply Kept.drewN | apply Kept.drew) | exact HK.out)) hb); have GE310 := ge_ hg HB; replace HB := (bs_ HB hb); clear hb hbox hg; have Z6 := zz9 BK310) | ((with_reducible refine gate_callee (f := 56) rfl ?_); refine goesL_ (some 8) rfl rfl Try.func56 (by kernel_rfl) rfl #[.slice Ao4 l0_8.length co4, .int .i64 a1] rfl ar_ ?_; (with_reducible refine (laws_markByteS.calls k (fun k_ => some k_ = (.slice Ao4 l0_8.length co4 : Value).ownBlock) (.slice Ao4 l0_8.length co4) l0_8 a1 t311 t312 w0 _ ?side1 ?side2 A3.out).mono ?_); (case side1 => exact hbA_ HB.out); (case side2 => exact Kd.R_tight rfl HO0_8.out); rintro e w7 ⟨rfl, hy0, hb, hkp⟩; refine ⟨_, rfl, ?_⟩; replace BK310 := Aside0.mk (blk_kept (g := gb310) (o := .cells #[.int .i64 a0_0, .int .i64 a0_1, .int .i64 a0_2, .int .i64 a0_3, .int .i64 a0_4, .int .i64 a0_5, .bool a0_6, .bool a0_7, .slice Ao4 l0_8.length co4] 36 (0, 0)) (kb_ BK310.out) hkp (fun hs_ => (fun e_ => (Kd.R_ne HO0_8.out BK310.out (by decide)) e_) hs_)); replace HK := Aside0.mk (Kept.then_ (S := (fun k_ => P0_8_ k_)) (by repeat (first | (with_reducible first | exact HK.out | apply Kept.alloc | apply Kept.drewN | apply Kept.drew | refine Kept.setCell ?_ (.inr GW310.out) _) | exact HK.out)) hkp (fun k_ hs_ => (fun e_ => (HO0_8.out.1 k_ e_.symm)) hs_)); replace HO0_8 := Aside0.mk (Kd.R_reok rfl hy0 (fun k_ e_ => HO0_8.out.1 k_ e_)); replace HB := Aside0.mk (hb); (try clear hb); (try clear hkp); (try clear hy0)))
 go_ret
 exact ⟨by first | rfl | (simp [errW_none, errW_some] <;> rfl) | (simp [*, errW_none, errW_some] <;> rfl), kR_ HO0_8.out, hbA_ HB.out, by repeat (first | (with_reducible first | exact HK.out | apply Kept.alloc | apply Kept.drewN | apply Kept.drew | refine Kept.setCell ?_ (.inr GW310.out) _) | exact HK.out)⟩
def laws_heldByteS.l0 : Nat → List Int → Int → Int → Option (Int)
 | 0, _, _, _ => none
 | k + 1, x0, x1, x5 => if x5 < (x0.length : Int) then (if 0 ≤ x5 then (if (rd x0 x5) = ((x1) % 256) then (laws_heldByteS.l0 k x0 (wrap64 (x1 + 1)) (wrap64 (x5 + 1))) else (some (-1))) else (none)) else (some x1)
def laws_heldByteS.f (k : Nat) (l0 : List Int) (a1 : Int) : Option (Int) := laws_heldByteS.l0 k l0 a1 0
theorem laws_heldByteS.mono_l : ∀ k, (∀ y0 y1 y2, LeO (laws_heldByteS.l0 k y0 y1 y2) (laws_heldByteS.l0 (k + 1) y0 y1 y2))
 | 0 => fun _ _ _ r h => by simp [laws_heldByteS.l0] at h
 | k + 1 => by
  have ih0 := laws_heldByteS.mono_l k
  ·intro y0 y1 y2
   unfold laws_heldByteS.l0
   repeat' first | (with_reducible first | apply ih0 | exact LeO.refl _ | exact LeO.none _ | refine LeO.ite ?_ ?_ | refine LeO.bind ?_ fun _ => ?_) | apply ih0 | exact LeO.none _ | refine LeO.ite ?_ ?_ | refine LeO.bind ?_ fun _ => ?_
theorem laws_heldByteS.mono : ∀ a0 a1 k, LeO (laws_heldByteS.f k a0 a1) (laws_heldByteS.f (k + 1) a0 a1) := by
 intro a0 a1 k
 have ih0 := laws_heldByteS.mono_l k
 unfold laws_heldByteS.f
 repeat' first | (with_reducible first | apply ih0 | exact LeO.refl _ | exact LeO.none _ | refine LeO.ite ?_ ?_ | refine LeO.bind ?_ fun _ => ?_) | apply ih0 | exact LeO.none _ | refine LeO.ite ?_ ?_ | refine LeO.bind ?_ fun _ => ?_
set_option maxHeartbeats 8000000 in
set_option maxRecDepth 100000 in
theorem laws_heldByteS.calls (k : Nat) (A0 : Option Addr) (c0 : Nat) (l0 : List Int) (a1 : Int) (r : Int) (w : World) (hr0 : Kd.C (Kd.int .u8) w A0 l0.length l0) (hc0 : l0.length ≤ c0) (h : laws_heldByteS.f k l0 a1 = some r) :
  Calls Try.prog 78 #[.slice A0 l0.length c0, .int .i64 a1] w fun e w' => e = .returned (.int .i64 r) ∧ Drawn0 w w' := by
 have HR0 := Aside0.mk hr0; have HC0 := Aside0.mk hc0; clear hr0 hc0
 have H : (laws_heldByteS.l0 k l0 a1 0) = some r := h
 clear h
 have H' := Aside0.mk H
 clear H
 go_enter Try.func78, Try.ntmps78
 go_wp2
 go_loopg [1, 5] k (fun kq v1 v5 w' => ∃ (x1_1 : Int) (x5_1 : Int), v1 = .int .i64 x1_1 ∧ v5 = .int .i64 x5_1 ∧ Aside0 (laws_heldByteS.l0 kq l0 x1_1 x5_1 = some r) ∧ Aside0 (kq ≤ k) ∧ Drawn0 w w')
 case atStart => exact ⟨(a1), (0), (by first | rfl | (simp; done) | (simp [*]; done)), (by first | rfl | (simp; done) | (simp [*]; done)), H', ⟨Nat.le_refl _⟩, by repeat (first | exact Drawn0.refl _ | apply Drawn0.step)⟩
 case round =>
  clear H'; (try clear p2)
  obtain ⟨x1_1, x5_1, rfl, rfl, HA, HK1, ⟨m1, rfl⟩⟩ := hrel
  cases gk with
  | zero => exact absurd HA.out (by simp [laws_heldByteS.l0])
  | succ k1 =>
   have H := HA.out; clear HA
   simp only [laws_heldByteS.l0] at H
   by_cases c3 : x5_1 < (l0.length : Int)
   ·rw [if_pos c3] at H
    have c3b0 : decide (x5_1 < (l0.length : Int)) = true := decide_eq_true c3
    clear c3
    by_cases c4 : 0 ≤ x5_1
    ·rw [if_pos c4] at H
     have c4b0 : decide (0 ≤ x5_1) = true := decide_eq_true c4
     clear c4
     by_cases c5 : (rd l0 x5_1) = ((x1_1) % 256)
     ·rw [if_pos c5] at H
      have c5b0 : ((rd l0 x5_1) == ((x1_1) % 256)) = true := beq_iff_eq.mpr c5
      have c5b1 : ((rd l0 x5_1) != ((x1_1) % 256)) = false := bne_eq_false_iff_eq.mpr c5
      clear c5
      have H' := Aside0.mk H
      clear H
      have p313 : 0 ≤ (x5_1 : Int) := of_decide_eq_true (by first | (with_reducible assumption) | assumption)
      have q313 : x5_1 < (l0.length : Int) := of_decide_eq_true (by first | (with_reducible assumption) | assumption)
      obtain ⟨ad313, e313, hx313_0⟩ := Kd.at_int HR0.out x5_1 p313 q313
      cases e313
      replace p313 := eq_true p313
      replace q313 := eq_true q313
      go_wp2
      go_roundg k1
      case measure => have := HK1.out; omega
      case rel => exact ⟨(wrap64 (x1_1 + 1)), (wrap64 (x5_1 + 1)), (by first | rfl | (simp; done) | (simp [*]; done)), (by first | rfl | (simp; done) | (simp [*]; done)), H', ⟨by have := HK1.out; omega⟩, by repeat (first | exact Drawn0.refl _ | apply Drawn0.step)⟩
     ·rw [if_neg c5] at H
      have c5b0 : ((rd l0 x5_1) == ((x1_1) % 256)) = false := beq_eq_false_iff_ne.mpr c5
      have c5b1 : ((rd l0 x5_1) != ((x1_1) % 256)) = true := bne_iff_ne.mpr c5
      obtain rfl := Option.some.inj H
      have p313 : 0 ≤ (x5_1 : Int) := of_decide_eq_true (by first | (with_reducible assumption) | assumption)
      have q313 : x5_1 < (l0.length : Int) := of_decide_eq_true (by first | (with_reducible assumption) | assumption)
      obtain ⟨ad313, e313, hx313_0⟩ := Kd.at_int HR0.out x5_1 p313 q313
      cases e313
      replace p313 := eq_true p313
      replace q313 := eq_true q313
      go_wp2
      go_ret
      exact ⟨by first | rfl | (simp; done) | (simp [*]; done), by repeat (first | exact Drawn0.refl _ | apply Drawn0.step)⟩
    ·rw [if_neg c4] at H
     exact absurd H (by simp)
   ·rw [if_neg c3] at H
    have c3b0 : decide (x5_1 < (l0.length : Int)) = false := decide_eq_false c3
    clear c3
    obtain rfl := Option.some.inj H
    go_wp2
    go_ret
    exact ⟨by first | rfl | (simp; done) | (simp [*]; done), by repeat (first | exact Drawn0.refl _ | apply Drawn0.step)⟩
end Go.Proofs.Ytpdbnlmdohcgkaa.PFnExactPartPut
