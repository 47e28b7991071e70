/- Printed by wip/xp/xprint.sh out of the translation, for this claim: what each function answers, as a plain function, and that the machine does just that. No condition. -/
import Derived.Test.YtegchbdjbefdbaaPFnExactClientOkx0
import Derived.Test.YtegchbdjbefdbaaPFnExactClientOkx2
namespace Go.Proofs.Ytegchbdjbefdbaa.PFnExactClientOk
open Go.RowKit Go.Proofs.YtegchbdjbefdbaaW.PrintWords Go.Proofs.YtegchbdjbefdbaaW.PrintLast Go.Proofs.YtegchbdjbefdbaaW.PrintMore
attribute [local go_sem] max2_int min2_int max_two min_two max_three min_three max_four min_four   -- for this text's walks alone
set_option linter.unusedVariables false
set_option linter.unusedSimpArgs false
def laws_toWordsS.l0 : Nat → List (S57) → List (S41) → Int → Option ((List (S41)))
 | 0, _, _, _ => none
 | k + 1, x0, x3, x4 => if x4 < (x0.length : Int) then (if 0 ≤ x4 then ((laws_toWords.f k ((rd_T57 x0 x4).f0) ((rd_T57 x0 x4).f1)).bind fun bt156 => (if x4 < (x3.length : Int) then (laws_toWordsS.l0 k x0 (x3.set (x4 : Int).toNat (⟨bt156.1, bt156.2⟩ : S41)) (wrap64 (x4 + 1))) else (none))) else (none)) else (some x3)
def laws_toWordsS.f (k : Nat) (l0 : List (S57)) : Option ((List (S41))) := if 0 ≤ (l0.length : Int) then (if ((l0.length : Int) : Int).toNat ≤ 8796093022208 then (laws_toWordsS.l0 k l0 (List.replicate ((l0.length : Int) : Int).toNat z41) 0) else (none)) else (none)
theorem laws_toWordsS.mono_l : ∀ k, (∀ y0 y1 y2, LeO (laws_toWordsS.l0 k y0 y1 y2) (laws_toWordsS.l0 (k + 1) y0 y1 y2))
 | 0 => fun _ _ _ r h => by simp [laws_toWordsS.l0] at h
 | k + 1 => by
  have ih0 := laws_toWordsS.mono_l k
  ·intro y0 y1 y2
   unfold laws_toWordsS.l0
   repeat' first | (with_reducible first | apply ih0 | apply laws_toWords.mono | exact LeO.refl _ | exact LeO.none _ | refine LeO.ite ?_ ?_ | refine LeO.bind ?_ fun _ => ?_) | apply ih0 | apply laws_toWords.mono | exact LeO.none _ | refine LeO.ite ?_ ?_ | refine LeO.bind ?_ fun _ => ?_
theorem laws_toWordsS.mono : ∀ a0 k, LeO (laws_toWordsS.f k a0) (laws_toWordsS.f (k + 1) a0) := by
 intro a0 k
 have ih0 := laws_toWordsS.mono_l k
 unfold laws_toWordsS.f
 repeat' first | (with_reducible first | apply ih0 | apply laws_toWords.mono | exact LeO.refl _ | exact LeO.none _ | refine LeO.ite ?_ ?_ | refine LeO.bind ?_ fun _ => ?_) | apply ih0 | apply laws_toWords.mono | exact LeO.none _ | refine LeO.ite ?_ ?_ | refine LeO.bind ?_ fun _ => ?_
set_option maxHeartbeats 8000000 in
set_option maxRecDepth 100000 in
theorem laws_toWordsS.calls (k : Nat) (A0 : Option Addr) (c0 : Nat) (l0 : List (S57)) (r : List (S41)) (w : World) (hr0 : Kd.C k57 w A0 l0.length l0) (hc0 : l0.length ≤ c0) (h : laws_toWordsS.f k l0 = some r) :
  Calls Try.prog 48 #[.slice A0 l0.length c0] w fun e w' => ∃ v0_ : Value, e = .returned (v0_) ∧ Kd.S k41 41 w' w.heap.size (fun _ => True) v0_ r ∧ Below w.heap.size w w' := by
 have hu57 := Try.underlying57; have hu41 := Try.underlying41; have HR0 := Aside0.mk hr0; have HC0 := Aside0.mk hc0; clear hr0 hc0
 have HB := Aside0.mk (Below.refl w.heap.size w)
 have H : (if 0 ≤ (l0.length : Int) then (if ((l0.length : Int) : Int).toNat ≤ 8796093022208 then (laws_toWordsS.l0 k l0 (List.replicate ((l0.length : Int) : Int).toNat z41) 0) else (none)) else (none)) = some r := h
 clear h
 by_cases c2 : 0 ≤ (l0.length : Int)
 ·rw [if_pos c2] at H
  have c2b0 := eq_true c2
  have c2b1 : decide (0 ≤ (l0.length : Int)) = true := decide_eq_true c2
  clear c2
  by_cases c3 : ((l0.length : Int) : Int).toNat ≤ 8796093022208
  ·rw [if_pos c3] at H
   have c3b0 := eq_true c3
   have c3b1 : decide (((l0.length : Int) : Int).toNat ≤ 8796093022208) = true := decide_eq_true c3
   clear c3
   obtain ⟨y152, hy152⟩ : ∃ y_ : List (S41), y_ = (List.replicate ((l0.length : Int) : Int).toNat z41) := ⟨_, rfl⟩
   (first | replace H := sb_ hy152 H | rw [← hy152] at H)
   have Ny152 := Aside0.mk hy152; clear hy152
   have H' := Aside0.mk H
   clear H
   go_enter Try.func48, Try.ntmps48
   go_wp2_with (first | ((with_reducible refine gate_dst (N := 7) rfl ?_); refine Kd.S_make k41 _ 41 rfl (N := 7) rfl 28 _ _ rfl (l0.length : Int) rfl rfl Try.underlying28 (.agg #[(.int .i64 0), (.slice none 0 0)]) 32 info41 rfl (by decide) (by omega) z41 (ok := fun _ => True) (okp := fun _ => True) (k41_mkM _ _ _ z41 (Kd.R_nil _ _ _ _ _)) (fun _ hk => hk) trivial (of_decide_eq_true (by first | (with_reducible assumption) | assumption)) (Nat.le_trans (Nat.mul_le_mul_right _ (of_decide_eq_true (by first | (with_reducible assumption) | assumption) : (l0.length : Int).toNat ≤ 8796093022208)) (by omega)) (Below.refl _ _) (Nat.le_refl _) ?_; intro v153 w4 ho5 hb hg_ hnew_; clear hg_ hnew_; (first | rw [← Ny152.out] at ho5 | (simp only [Int.reduceToNat] at ho5; rw [← Ny152.out] at ho5)); have HO154 := Aside0.mk (Kd.S_lower ho5 (below_size (hbA_ HB.out))); replace HB := (bs_ HB hb); clear hb ho5))
   go_loopg [4] k (fun kq v4 w' => ∃ (x3_1 : List (S41)) (x4_1 : Int), v4 = .int .i64 x4_1 ∧ Aside0 (laws_toWordsS.l0 kq l0 x3_1 x4_1 = some r) ∧ Aside0 (kq ≤ k) ∧ Aside0 (Kd.S k41 41 w' w.heap.size (fun _ => True) v153 x3_1) ∧ Aside0 (Below w.heap.size w w'))
   case atStart => exact ⟨(y152), (0), (by first | rfl | (simp; done) | (simp [*]; done)), H', ⟨Nat.le_refl _⟩, ⟨by refine kS_ ?_; exact HO154.out⟩, ⟨hbA_ HB.out⟩⟩
   case round =>
    clear H'; (try clear c2); (try clear c2b0); (try clear c2b1); (try clear p2); (try clear c3); (try clear c3b0); (try clear c3b1); (try clear c4)
    obtain ⟨x3_1, x4_1, rfl, HA, HK1, HO_3, HB⟩ := hrel
    cases gk with
    | zero => exact absurd HA.out (by simp [laws_toWordsS.l0])
    | succ k1 =>
     have H := HA.out; clear HA
     simp only [laws_toWordsS.l0] at H
     by_cases c6 : x4_1 < (l0.length : Int)
     ·rw [if_pos c6] at H
      have c6b0 : decide (x4_1 < (l0.length : Int)) = true := decide_eq_true c6
      clear c6
      by_cases c7 : 0 ≤ x4_1
      ·rw [if_pos c7] at H
       have c7b0 : decide (0 ≤ x4_1) = true := decide_eq_true c7
       clear c7
       replace H := Option.bind_eq_some_iff.mp H
       obtain ⟨⟨t156, t157⟩, A80, H⟩ := H
       (try dsimp only at H)
       have A8 := Aside0.mk A80; clear A80
       by_cases c9 : x4_1 < (x3_1.length : Int)
       ·rw [if_pos c9] at H
        have c9b0 : decide (x4_1 < (x3_1.length : Int)) = true := decide_eq_true c9
        clear c9
        obtain ⟨y160, hy160⟩ : ∃ y_ : List (S41), y_ = (x3_1.set (x4_1 : Int).toNat (⟨t156, t157⟩ : S41)) := ⟨_, rfl⟩
        (first | replace H := sb_ hy160 H | rw [← hy160] at H)
        have Ny160 := Aside0.mk hy160; clear hy160
        have H' := Aside0.mk H
        clear H
        have p155 : 0 ≤ (x4_1 : Int) := of_decide_eq_true (by first | (with_reducible assumption) | assumption)
        have q155 : x4_1 < (l0.length : Int) := of_decide_eq_true (by first | (with_reducible assumption) | assumption)
        obtain ⟨ad155, A155_1, c155_1, e155, hx155_0, hx155_1, hl155_1, hi155_1⟩ := at_T57 HR0.out x4_1 p155 q155
        cases e155
        replace hx155_0 := cc_ HB hx155_0
        replace hx155_1 := cc_ HB hx155_1
        have HR155_1 := Aside0.mk hi155_1; have HC155_1 := Aside0.mk hl155_1; clear hi155_1 hl155_1
        replace p155 := eq_true p155
        replace q155 := eq_true q155
        go_wp2_with (first | ((with_reducible refine gate_callee (f := 37) rfl ?_); refine goesL_ (some 20) rfl rfl Try.func37 (by kernel_rfl) rfl #[.agg #[.int .i64 ((rd_T57 l0 x4_1).f0), .slice A155_1 ((rd_T57 l0 x4_1).f1).length c155_1]] rfl ar_ ?_; (with_reducible refine (laws_toWords.calls k1 ((rd_T57 l0 x4_1).f0) _ _ ((rd_T57 l0 x4_1).f1) t156 t157 _ ?side1 ?side2 A8.out).mono ?_); (case side1 => exact kC_ (Kd.C_below HR155_1.out HB.out)); (case side2 => exact HC155_1.out); rintro e w11 ⟨v158, rfl, ho0, hb⟩; refine ⟨_, rfl, ?_⟩; replace HO_3 := Aside0.mk (Kd.S_elder' (kS_ HO_3.out) (Kd.R_base ho0) hb); have HO159 := Aside0.mk (Kd.R_lower ho0 (below_size (hbA_ HB.out))); replace HB := (bs_ HB hb); (try clear hb); (try clear hb2); (try clear hk); (try clear hi); (try clear ho0); have p10 : 0 ≤ (x4_1 : Int) := of_decide_eq_true (by first | (with_reducible assumption) | assumption); have q10 : (x4_1 : Int) < ((x3_1.length : Int) : Int) := of_decide_eq_true (by first | (with_reducible assumption) | assumption); obtain ⟨go10, co10, eo10, gb10, gl10, cl10, HG10⟩ := Kd.S_form HO_3.out (by omega); (first | cases eo10 | (injection eo10 with ea_ en_ ec_; (first | subst ea_ | (injection ea_ with ea_; subst ea_)); subst ec_; clear en_)); have GB10 := Aside0.mk gb10; have GG10 := Aside0.mk HG10; clear gb10 gl10 HG10; obtain ⟨_, ce10, hcl10, hM10, hcc10, hfr10, _, _⟩ := Kd.S_elem HO_3.out z41 (x4_1 : Int) p10 q10; obtain ⟨ve10_1, rfl, ge10_1⟩ := k41_openM hM10; have hx10_0 : w11.cell? ⟨go10, (x4_1 : Int).toNat * 2, none⟩ = some (.int .i64 ((rd_T41 x3_1 x4_1).f0)) := hcc10 0 _ rfl; have hx10_1 : w11.cell? ⟨go10, (x4_1 : Int).toNat * 2 + 1, none⟩ = some (ve10_1) := hcc10 1 _ rfl; have hf10_0 : w11.frozen? ⟨go10, (x4_1 : Int).toNat * 2, none⟩ = false := hfr10 0; have hf10_1 : w11.frozen? ⟨go10, (x4_1 : Int).toNat * 2 + 1, none⟩ = false := hfr10 1; clear hcl10 hcc10 hfr10 hM10; replace p10 := eq_true p10; replace q10 := eq_true q10; have n_ := Aside0.mk (Kd.S_mono (ok' := (fun k_ => some k_ ≠ (v158 : Value).ownBlock)) HO_3.out (fun k_ hk => hk.2)); clear HO_3; have HO_3 := n_; clear n_; have HX12 := Aside0.mk (show Kd.S k41 41 w11 w.heap.size (fun k_ => ((fun _ => True)) k_ ∧ ¬ ((fun k_ => some k_ = (v158 : Value).ownBlock)) k_) (.slice (some ⟨go10, 0, none⟩) x3_1.length co10) x3_1 from (by refine kS_ ?_; exact Kd.S_mono HO_3.out (fun k_ hk => ⟨trivial, fun e_ => hk e_⟩))); obtain ⟨oki12, ce12, hcl12, hM12, hcc12, hfr12, hoki12, hH12⟩ := Kd.S_elem HX12.out z41 (x4_1 : Int) (of_decide_eq_true (by first | (with_reducible assumption) | assumption)) (by have h_ : (x4_1 : Int) < ((x3_1.length : Int) : Int) := of_decide_eq_true (by first | (with_reducible assumption) | assumption); first | exact h_ | (have e_ := (Kd.S_reads' HO_3.out).1; omega) | simpa using h_); obtain ⟨ve12_1, rfl, ge12_1⟩ := k41_openM hM12; have HP12 := Kd.S_seg hH12 (of_decide_eq_true (by first | (with_reducible assumption) | assumption)) (by have h_ : (x4_1 : Int) < ((x3_1.length : Int) : Int) := of_decide_eq_true (by first | (with_reducible assumption) | assumption); first | exact h_ | (have e_ := (Kd.S_reads' HO_3.out).1; omega) | simpa using h_) (seg := [.int .i64 t156, v158]) (j := 0) (show 2 ≤ 2 from by decide) (x' := (⟨t156, t157⟩ : S41)) (k41_mkM _ _ _ (⟨t156, t157⟩ : S41) (Kd.R_mono (Kd.R_tight rfl (Kd.R_mono (ok' := fun k_ => ((fun _ => True)) k_ ∧ k_ ≠ go10) (Kd.R_apart' (HO159.out) (Kd.S_typed HO_3.out) (by decide)) (fun k_ hk => ⟨trivial, fun e_ => (hk.2) (by rw [e_]; rfl)⟩))) (fun _ h_ => Or.inr (h_)))) (fun _ hk => hk) (fun k_ hk_ => ((Kd.R_mono (ok' := fun k_ => ((fun _ => True)) k_ ∧ k_ ≠ go10) (Kd.R_apart' (HO159.out) (Kd.S_typed HO_3.out) (by decide)) (fun k_ hk => ⟨trivial, fun e_ => (hk.2) (by rw [e_]; rfl)⟩))).1 k_ hk_.symm); have hx12_0 := hcc12 0 _ rfl; (try simp only [show (k41).sz = 2 from rfl, Nat.mul_one, Nat.add_zero] at hx12_0); have hf12_0 := hfr12 0; (try simp only [show (k41).sz = 2 from rfl, Nat.mul_one, Nat.add_zero] at hf12_0); have hx12_1 := hcc12 1 _ rfl; (try simp only [show (k41).sz = 2 from rfl, Nat.mul_one, Nat.add_zero] at hx12_1); have hf12_1 := hfr12 1; (try simp only [show (k41).sz = 2 from rfl, Nat.mul_one, Nat.add_zero] at hf12_1); clear hcl12 hcc12 hfr12 hM12 hoki12 hH12) | ((with_reducible refine gate_store (t := 41) (p := 21) rfl ?_); refine store_event (t := 41) (p := 21) (v := ?vo_w13) (w1 := ((w11.setCell ⟨go10, (x4_1 : Int).toNat * 2, none⟩ (.int .i64 t156)).setCell ⟨go10, (x4_1 : Int).toNat * 2 + 1, none⟩ (v158))) ?hg ?ho ?hn ?hr ?_; (case ho => rfl); (case hg => rfl); (case hn => rfl); (case hr => (try (obtain ⟨Az_, cz_, ez_⟩ := Kd.R_slice HO159.out; subst ez_)); first | (go_simp; done) | (go_simp; rfl)); intro w13 hw; have hg : w11.grownBy w13 (some go10) := (by rw [hw]; exact HP12.2); have hp_ : Kd.S k41 41 w13 w.heap.size (fun _ => True) (.slice (some ⟨go10, 0, none⟩) x3_1.length co10) y160 := (by rw [hw, Ny160.out]; exact HP12.1); clear HP12; replace HO_3 := Aside0.mk (hp_); replace HB := Aside0.mk ((by rw [hw]; exact below_set (below_set (HB.out) GB10.out) GB10.out : Below w.heap.size w w13)); clear HO159; clear hg hw hp_))
        go_roundg k1
        case measure => have := HK1.out; omega
        case rel => exact ⟨(y160), (wrap64 (x4_1 + 1)), (by first | rfl | (simp; done) | (simp [*]; done)), H', ⟨by have := HK1.out; omega⟩, ⟨by refine kS_ ?_; exact HO_3.out⟩, ⟨hbA_ HB.out⟩⟩
       ·rw [if_neg c9] at H
        exact absurd H (by simp)
      ·rw [if_neg c7] at H
       exact absurd H (by simp)
     ·rw [if_neg c6] at H
      have c6b0 : decide (x4_1 < (l0.length : Int)) = false := decide_eq_false c6
      clear c6
      obtain rfl := Option.some.inj H
      go_wp2
      go_ret
      exact ⟨_, by first | rfl | (simp [errW_none, errW_some] <;> rfl) | (simp [*, errW_none, errW_some] <;> rfl), by refine kS_ ?_; exact HO_3.out, hbA_ HB.out⟩
  ·rw [if_neg c3] at H
   exact absurd H (by simp)
 ·rw [if_neg c2] at H
  exact absurd H (by simp)
def laws_toClient.f (k : Nat) (a0_0 : Int) (l0_1 : List Int) (l0_2 : List (S57)) (l0_3 : List Int) : Option (Int × List Int × (List (S41)) × List Int) := (laws_toIntS.f k l0_1).bind fun t164 => ((laws_toWordsS.f k l0_2).bind fun t167 => ((laws_toIntS.f k l0_3).bind fun t170 => (some (a0_0, t164, t167, t170))))
theorem laws_toClient.mono : ∀ a0 a1 a2 a3 k, LeO (laws_toClient.f k a0 a1 a2 a3) (laws_toClient.f (k + 1) a0 a1 a2 a3) := by
 intro a0 a1 a2 a3 k
 unfold laws_toClient.f
 repeat' first | (with_reducible first | apply laws_toIntS.mono | apply laws_toWordsS.mono | exact LeO.refl _ | exact LeO.none _ | refine LeO.ite ?_ ?_ | refine LeO.bind ?_ fun _ => ?_) | apply laws_toIntS.mono | apply laws_toWordsS.mono | exact LeO.none _ | refine LeO.ite ?_ ?_ | refine LeO.bind ?_ fun _ => ?_
set_option maxHeartbeats 8000000 in
set_option maxRecDepth 100000 in
theorem laws_toClient.calls (k : Nat) (a0_0 : Int) (A0_1 : Option Addr) (c0_1 : Nat) (l0_1 : List Int) (A0_2 : Option Addr) (c0_2 : Nat) (l0_2 : List (S57)) (A0_3 : Option Addr) (c0_3 : Nat) (l0_3 : List Int) (r1 : Int) (r2 : List Int) (r3 : List (S41)) (r4 : List Int) (w : World) (hr0_1 : Kd.C (Kd.int .i64) w A0_1 l0_1.length l0_1) (hc0_1 : l0_1.length ≤ c0_1) (hr0_2 : Kd.C k57 w A0_2 l0_2.length l0_2) (hc0_2 : l0_2.length ≤ c0_2) (hr0_3 : Kd.C (Kd.int .i64) w A0_3 l0_3.length l0_3) (hc0_3 : l0_3.length ≤ c0_3) (h : laws_toClient.f k a0_0 l0_1 l0_2 l0_3 = some (r1, r2, r3, r4)) :
  Calls Try.prog 13 #[.agg #[.int .i64 a0_0, .slice A0_1 l0_1.length c0_1, .slice A0_2 l0_2.length c0_2, .slice A0_3 l0_3.length c0_3]] w fun e w' => ∃ v1_ v2_ v3_ : Value, e = .returned (.agg #[.int .i64 r1, v1_, v2_, v3_]) ∧ Kd.R (Kd.int .i64) 3 w' w.heap.size (fun k_ => some k_ ≠ (v3_ : Value).ownBlock) v1_ r2 ∧ Kd.S k41 41 w' w.heap.size (fun _ => True) v2_ r3 ∧ Kd.R (Kd.int .i64) 3 w' w.heap.size (fun k_ => some k_ ≠ (v1_ : Value).ownBlock) v3_ r4 ∧ Below w.heap.size w w' := by
 have hu25 := Try.underlying25; have hu30 := Try.underlying30; have HR0_1 := Aside0.mk hr0_1; have HC0_1 := Aside0.mk hc0_1; clear hr0_1 hc0_1; have HR0_2 := Aside0.mk hr0_2; have HC0_2 := Aside0.mk hc0_2; clear hr0_2 hc0_2; have HR0_3 := Aside0.mk hr0_3; have HC0_3 := Aside0.mk hc0_3; clear hr0_3 hc0_3
 have HB := Aside0.mk (Below.refl w.heap.size w)
 have H : ((laws_toIntS.f k l0_1).bind fun t164 => ((laws_toWordsS.f k l0_2).bind fun t167 => ((laws_toIntS.f k l0_3).bind fun t170 => (some (a0_0, t164, t167, t170))))) = some (r1, r2, r3, r4) := h
 clear h
 replace H := Option.bind_eq_some_iff.mp H
 obtain ⟨t164, A20, H⟩ := H
 (try dsimp only at H)
 have A2 := Aside0.mk A20; clear A20
 replace H := Option.bind_eq_some_iff.mp H
 obtain ⟨t167, A30, H⟩ := H
 (try dsimp only at H)
 have A3 := Aside0.mk A30; clear A30
 replace H := Option.bind_eq_some_iff.mp H
 obtain ⟨t170, A40, H⟩ := H
 (try dsimp only at H)
 have A4 := Aside0.mk A40; clear A40
 simp only [Option.some.injEq, Prod.mk.injEq] at H
 obtain ⟨rfl, rfl, rfl, rfl⟩ := H
 go_enter Try.func13, Try.ntmps13
 go_wp2_with (first | ((with_reducible refine gate_dst (N := 1) rfl ?_); refine box_ (N := 1) (cs := #[.int .i64 a0_0, .slice A0_1 l0_1.length c0_1, .slice A0_2 l0_2.length c0_2, .slice A0_3 l0_3.length c0_3]) (t := 25) (fun gb161 hg w5 hbox hb => ?_); have BK161 := Aside0.mk (hbox); have GW161 := ge_ hg HB; have GE161 := ge_ hg HB; replace HB := (bs_ HB hb); clear hb hbox hg) | ((with_reducible refine gate_dst (N := 2) rfl ?_); refine box_ (N := 2) (cs := #[.int .i64 0, .slice none 0 0, .slice none 0 0, .slice none 0 0]) (t := 30) (fun gb162 hg w6 hbox hb => ?_); have BK162 := Aside0.mk (hbox); have GW162 := ge_ hg HB; have GE162 := ge_ hg HB; replace HB := (bs_ HB hb); have NB161_162 := nl_ hg BK161; have NB162_161 := ng_ hg BK161; replace BK161 := (bbA_ BK161 hb); clear hb hbox hg) | ((with_reducible refine gate_dst (N := 3) rfl ?_); refine box_ (N := 3) (cs := #[.int .i64 0, .slice none 0 0, .slice none 0 0, .slice none 0 0]) (t := 30) (fun gb163 hg w7 hbox hb => ?_); have BK163 := Aside0.mk (hbox); have GW163 := ge_ hg HB; have GE163 := ge_ hg HB; replace HB := (bs_ HB hb); have NB161_163 := nl_ hg BK161; have NB163_161 := ng_ hg BK161; replace BK161 := (bbA_ BK161 hb); have NB162_163 := nl_ hg BK162; have NB163_162 := ng_ hg BK162; replace BK162 := (bbA_ BK162 hb); clear hb hbox hg; have hnb8 := NB161_162.out; have hnc8 := NB162_161.out; have hnb9 := NB161_163.out; have hnc9 := NB163_161.out; have Z10 := zz4 BK161; have hnb11 := NB163_162.out; have hnc11 := NB162_163.out; have Z12 := zz4 BK163) | ((with_reducible refine gate_callee (f := 47) rfl ?_); refine goesL_ (some 9) rfl rfl Try.func47 (by kernel_rfl) rfl #[.slice A0_1 l0_1.length c0_1] rfl ar_ ?_; (with_reducible refine (laws_toIntS.calls k _ _ l0_1 t164 _ ?side1 ?side2 A2.out).mono ?_); (case side1 => exact Kd.C_below HR0_1.out (hbA_ HB.out)); (case side2 => exact HC0_1.out); rintro e w13 ⟨v165, rfl, ho0, hb⟩; refine ⟨_, rfl, ?_⟩; have HO166 := Aside0.mk (Kd.R_lower ho0 (below_size (hbA_ HB.out))); replace BK161 := Aside0.mk (blk_below (g := gb161) (o := .cells #[.int .i64 a0_0, .slice A0_1 l0_1.length c0_1, .slice A0_2 l0_2.length c0_2, .slice A0_3 l0_3.length c0_3] 25 (0, 0)) (by exact kf_ BK161.out) hb); replace BK162 := Aside0.mk (blk_below (g := gb162) (o := .cells #[.int .i64 0, .slice none 0 0, .slice none 0 0, .slice none 0 0] 30 (0, 0)) (by exact kf_ BK162.out) hb); replace BK163 := Aside0.mk (blk_below (g := gb163) (o := .cells #[.int .i64 a0_0, .slice none 0 0, .slice none 0 0, .slice none 0 0] 30 (0, 0)) (by refine kb_ ?_; refine blk_put (cs := #[.int .i64 0, .slice none 0 0, .slice none 0 0, .slice none 0 0]) ?_ 0 _ rfl; refine kb_ ?_; exact BK163.out) hb); replace HB := (bs_ HB hb); (try clear hb); (try clear hb2); (try clear hk); (try clear hi); (try clear ho0); obtain ⟨Ao14, co14, eo14⟩ := Kd.R_slice HO166.out; subst eo14; have Z15 := zz4 BK163; have Z16 := zz4 BK161) | ((with_reducible refine gate_callee (f := 48) rfl ?_); refine goesL_ (some 13) rfl rfl Try.func48 (by kernel_rfl) rfl #[.slice A0_2 l0_2.length c0_2] rfl ar_ ?_; (with_reducible refine (laws_toWordsS.calls k _ _ l0_2 t167 _ ?side1 ?side2 A3.out).mono ?_); (case side1 => exact Kd.C_below HR0_2.out (hbA_ HB.out)); (case side2 => exact HC0_2.out); rintro e w17 ⟨v168, rfl, ho0, hb⟩; refine ⟨_, rfl, ?_⟩; replace HO166 := Aside0.mk (Kd.R_below (by refine kR_ ?_; exact (Kd.R_mono (Kd.R_f gb163 1 (.slice Ao14 t164.length co14) (Kd.R_types HO166.out BK163.out (by decide))) (fun _ h_ => op1_ h_))) hb); have HO169 := Aside0.mk (Kd.S_lower ho0 (below_size (hbA_ HB.out))); replace BK161 := Aside0.mk (blk_below (g := gb161) (o := .cells #[.int .i64 a0_0, .slice A0_1 l0_1.length c0_1, .slice A0_2 l0_2.length c0_2, .slice A0_3 l0_3.length c0_3] 25 (0, 0)) (by exact kf_ BK161.out) hb); replace BK162 := Aside0.mk (blk_below (g := gb162) (o := .cells #[.int .i64 0, .slice none 0 0, .slice none 0 0, .slice none 0 0] 30 (0, 0)) (by exact kf_ BK162.out) hb); replace BK163 := Aside0.mk (blk_below (g := gb163) (o := .cells #[.int .i64 a0_0, .slice Ao14 t164.length co14, .slice none 0 0, .slice none 0 0] 30 (0, 0)) (by refine kb_ ?_; refine blk_put (cs := #[.int .i64 a0_0, .slice none 0 0, .slice none 0 0, .slice none 0 0]) ?_ 1 _ rfl; refine kb_ ?_; exact BK163.out) hb); replace HB := (bs_ HB hb); (try clear hb); (try clear hb2); (try clear hk); (try clear hi); (try clear ho0); obtain ⟨Ao18, co18, eo18⟩ := Kd.S_slice HO169.out; subst eo18; have Z19 := zz4 BK163; have Z20 := zz4 BK161) | ((with_reducible refine gate_callee (f := 47) rfl ?_); refine goesL_ (some 17) rfl rfl Try.func47 (by kernel_rfl) rfl #[.slice A0_3 l0_3.length c0_3] rfl ar_ ?_; (with_reducible refine (laws_toIntS.calls k _ _ l0_3 t170 _ ?side1 ?side2 A4.out).mono ?_); (case side1 => exact Kd.C_below HR0_3.out (hbA_ HB.out)); (case side2 => exact HC0_3.out); rintro e w21 ⟨v171, rfl, ho0, hb⟩; refine ⟨_, rfl, ?_⟩; replace HO169 := Aside0.mk (Kd.S_below (by refine kS_ ?_; exact (Kd.S_mono (Kd.S_far (p := ⟨gb163, 2, none⟩) (Kd.S_types HO169.out BK163.out (by decide)) (fun _ hk => hk.2) (.slice Ao18 t167.length co18)) (fun _ h_ => op1_ h_))) hb); have HO172 := Aside0.mk (Kd.R_lower (Kd.R_new' ho0 (Kd.R_lt (by refine kR_ ?_; exact (Kd.R_mono (Kd.R_f gb163 2 (.slice Ao18 t167.length co18) (Kd.R_types HO166.out BK163.out (by decide))) (fun _ h_ => op1_ h_))))) (below_size (hbA_ HB.out))); replace HO166 := Aside0.mk (Kd.R_elder' (by refine kR_ ?_; exact (Kd.R_mono (Kd.R_f gb163 2 (.slice Ao18 t167.length co18) (Kd.R_types HO166.out BK163.out (by decide))) (fun _ h_ => op1_ h_))) (Kd.R_base ho0) hb); replace BK161 := Aside0.mk (blk_below (g := gb161) (o := .cells #[.int .i64 a0_0, .slice A0_1 l0_1.length c0_1, .slice A0_2 l0_2.length c0_2, .slice A0_3 l0_3.length c0_3] 25 (0, 0)) (by exact kf_ BK161.out) hb); replace BK162 := Aside0.mk (blk_below (g := gb162) (o := .cells #[.int .i64 0, .slice none 0 0, .slice none 0 0, .slice none 0 0] 30 (0, 0)) (by exact kf_ BK162.out) hb); replace BK163 := Aside0.mk (blk_below (g := gb163) (o := .cells #[.int .i64 a0_0, .slice Ao14 t164.length co14, .slice Ao18 t167.length co18, .slice none 0 0] 30 (0, 0)) (by refine kb_ ?_; refine blk_put (cs := #[.int .i64 a0_0, .slice Ao14 t164.length co14, .slice none 0 0, .slice none 0 0]) ?_ 2 _ rfl; refine kb_ ?_; exact BK163.out) hb); replace HB := (bs_ HB hb); (try clear hb); (try clear hb2); (try clear hk); (try clear hi); (try clear ho0); obtain ⟨Ao22, co22, eo22⟩ := Kd.R_slice HO172.out; subst eo22; have Z23 := zz4 BK163; have Z24 := zz4 BK162))
 refine bodyPost_ret (results_cell_row rfl _ _ gb162 30 #[.int .i64 a0_0, .slice Ao14 t164.length co14, .slice Ao18 t167.length co18, .slice Ao22 t170.length co22] (0, 0) _ rfl (by refine kb_ ?_; refine pz4 (cs := #[.int .i64 0, .slice none 0 0, .slice none 0 0, .slice none 0 0]) ?_; exact kf_ BK162.out) Try.underlying30 rfl (by kernel_rfl)) rfl ?_
 exact ⟨_, _, _, by first | rfl | (simp [errW_none, errW_some] <;> rfl) | (simp [*, errW_none, errW_some] <;> rfl), by refine kR_ ?_; exact rfm_ ((Kd.R_far (p := ⟨gb163, 3, none⟩) (Kd.R_types (Kd.R_types HO166.out BK163.out (by decide)) BK162.out (by decide)) (fun _ hk => hk.1.2) (.slice Ao22 t170.length co22))) (fun _ hk => hk.1.1.2), by refine kS_ ?_; exact Kd.S_mono (Kd.S_far (p := ⟨gb162, 3, none⟩) (Kd.S_far (p := ⟨gb162, 2, none⟩) (Kd.S_far (p := ⟨gb162, 1, none⟩) (Kd.S_far (p := ⟨gb162, 0, none⟩) (Kd.S_far (p := ⟨gb163, 3, none⟩) (Kd.S_types (Kd.S_types HO169.out BK163.out (by decide)) BK162.out (by decide)) (fun _ hk => hk.1.2) (.slice Ao22 t170.length co22)) (fun _ hk => hk.2) (.int .i64 a0_0)) (fun _ hk => hk.2) (.slice Ao14 t164.length co14)) (fun _ hk => hk.2) (.slice Ao18 t167.length co18)) (fun _ hk => hk.2) (.slice Ao22 t170.length co22)) (fun _ hk => trivial), by refine kR_ ?_; exact rfm_ ((Kd.R_far (p := ⟨gb163, 3, none⟩) (Kd.R_types (Kd.R_types HO172.out BK163.out (by decide)) BK162.out (by decide)) (fun _ hk => hk.1.2) (.slice Ao22 t170.length co22))) (fun _ hk => hk.1.1.2), hbA_ HB.out⟩
def impl_in.f (a0 : Int) (a1 : Int) (a2 : Int) : Option (Bool) := if a0 ≥ a1 then (some (decide (a0 ≤ a2))) else (some false)
set_option maxHeartbeats 8000000 in
set_option maxRecDepth 100000 in
theorem impl_in.calls (a0 : Int) (a1 : Int) (a2 : Int) (r : Bool) (w : World) (h : impl_in.f a0 a1 a2 = some r) :
  Calls Try.prog 49 #[.int .i64 a0, .int .i64 a1, .int .i64 a2] w fun e w' => e = .returned (.bool r) ∧ Drawn0 w w' := by
 have H : (if a0 ≥ a1 then (some (decide (a0 ≤ a2))) else (some false)) = some r := h
 clear h
 by_cases c4 : a0 ≥ a1
 ·rw [if_pos c4] at H
  have c4b0 : decide (a1 ≤ a0) = true := decide_eq_true c4
  clear c4
  obtain rfl := Option.some.inj H
  go_enter Try.func49, Try.ntmps49
  go_wp2
  go_ret
  exact ⟨by first | rfl | (simp; done) | (simp [*]; done), by repeat (first | exact Drawn0.refl _ | apply Drawn0.step)⟩
 ·rw [if_neg c4] at H
  have c4b0 : decide (a1 ≤ a0) = false := decide_eq_false c4
  clear c4
  obtain rfl := Option.some.inj H
  go_enter Try.func49, Try.ntmps49
  go_wp2
  go_ret
  exact ⟨by first | rfl | (simp; done) | (simp [*]; done), by repeat (first | exact Drawn0.refl _ | apply Drawn0.step)⟩
def slices_Grow_int_int.f (l0 : List Int) (a1 : Int) : Option (List Int) := if l0.length = 0 ∧ 0 ≤ a1 ∧ a1.toNat * 8 ≤ 140737488355328 then some [] else none
theorem slices_Grow_int_int.calls (A0 : Option Addr) (c0 : Nat) (l0 : List Int) (a1 : Int) (r : List Int) (w : World) (hr0 : Kd.C (Kd.int .i64) w A0 l0.length l0) (hc0 : A0 = none ∧ c0 = 0) (h : slices_Grow_int_int.f l0 a1 = some r) :
    Calls Try.prog 70 #[.slice A0 l0.length c0, .int .i64 a1] w fun e w' => ∃ v0_ : Value, e = .returned (v0_) ∧ Kd.R (Kd.int .i64) 3 w' w.heap.size (fun _ => True) v0_ r ∧ Below w.heap.size w w' := by
  obtain ⟨⟨hl0, h0, hle⟩, rfl⟩ : (l0.length = 0 ∧ 0 ≤ a1 ∧ a1.toNat * 8 ≤ 140737488355328) ∧ [] = r := by
    unfold slices_Grow_int_int.f at h; split at h
    · exact ⟨by assumption, Option.some.inj h⟩
    · cases h
  obtain rfl : l0 = [] := List.eq_nil_of_length_eq_zero hl0
  obtain ⟨rfl, rfl⟩ := hc0
  clear h hl0 hr0
  have hb : a1 ≤ 140737488355328 := by omega
  have HLE := Aside0.mk hle; clear hle
  have hneg : decide (a1 < 0) = false := decide_eq_false (by omega)
  by_cases hz : a1 = 0
  · subst hz
    clear hneg
    go_enter Try.func70, Try.ntmps70
    go_wp2
    go_ret
    exact ⟨_, rfl, Kd.R_nil _ _ _ _ _, Below.refl _ _⟩
  · have hp : decide (a1 > 0) = true := decide_eq_true (by omega)
    have hp2 : decide (0 < a1) = true := decide_eq_true (by omega)
    clear hz
    go_enter Try.func70, Try.ntmps70
    go_wp2_with (first
      | ((with_reducible refine gate_dst (N := 22) rfl ?_); refine Kd.R_append_zeros (Kd.int .i64) w.heap.size rfl _ _ 22 3 3 (.int .i64 0) 8 rfl Try.underlying22 Try.underlying3 info3 rfl (by decide) (by decide) (.slice none 0 0) [] 0 a1 (fun _ => True) rfl rfl (rfl) (fun _ _ => trivial) (Kd.R_nil _ _ _ _ _) h0 (Below.refl _ _) (Nat.le_refl _) (by simpa using HLE.out) ?_; intro v1 w1 ho hb1 hg hat; obtain ⟨A1, c1, hv1, hc1, _⟩ := Kd.R_reads ho; have HO := Aside0.mk ho; clear ho hat hg; have HB := Aside0.mk hb1; clear hb1; subst hv1))
    go_ret
    refine ⟨_, rfl, ?_, HB.out⟩
    have h2 := Kd.R_take (m := 0) HO.out (Nat.zero_le _)
    simpa using h2
mutual
def slices_Concat_int_int.l0 : Nat → List (List Int) → Int → List (List Int) → Int → Int → Option (List Int)
 | 0, _, _, _, _, _ => none
 | k + 1, x0, x3, x9, x10, x11 => if x11 < x10 then (if 0 ≤ x11 then (if x11 < (x9.length : Int) then (if (wrap64 (x3 + ((rd_L6 x9 x11).length : Int))) < 0 then (none) else (slices_Concat_int_int.l0 k x0 (wrap64 (x3 + ((rd_L6 x9 x11).length : Int))) x9 x10 (wrap64 (x11 + 1)))) else (none)) else (none)) else ((slices_Grow_int_int.f ([] : List Int) x3).bind fun t174 => (slices_Concat_int_int.l1 k t174 x0 (x0.length : Int) 0))
def slices_Concat_int_int.l1 : Nat → List Int → List (List Int) → Int → Int → Option (List Int)
 | 0, _, _, _, _ => none
 | k + 1, x6, x25, x26, x27 => if x27 < x26 then (if 0 ≤ x27 then (if x27 < (x25.length : Int) then (if x6.length + (rd_L6 x25 x27).length < 17592186044416 then (slices_Concat_int_int.l1 k (x6 ++ (rd_L6 x25 x27)) x25 x26 (wrap64 (x27 + 1))) else (none)) else (none)) else (none)) else (some x6)
end
def slices_Concat_int_int.f (k : Nat) (l0 : List (List Int)) : Option (List Int) := slices_Concat_int_int.l0 k l0 0 l0 (l0.length : Int) 0
theorem slices_Concat_int_int.mono_l : ∀ k, (∀ y0 y1 y2 y3 y4, LeO (slices_Concat_int_int.l0 k y0 y1 y2 y3 y4) (slices_Concat_int_int.l0 (k + 1) y0 y1 y2 y3 y4)) ∧ (∀ y0 y1 y2 y3, LeO (slices_Concat_int_int.l1 k y0 y1 y2 y3) (slices_Concat_int_int.l1 (k + 1) y0 y1 y2 y3))
 | 0 => ⟨fun _ _ _ _ _ r h => by simp [slices_Concat_int_int.l0] at h, fun _ _ _ _ r h => by simp [slices_Concat_int_int.l1] at h⟩
 | k + 1 => by
  obtain ⟨ih0, ih1⟩ := slices_Concat_int_int.mono_l k
  refine ⟨?_, ?_⟩
  ·intro y0 y1 y2 y3 y4
   unfold slices_Concat_int_int.l0
   repeat' first | (with_reducible first | apply ih0 | apply ih1 | exact LeO.refl _ | exact LeO.none _ | refine LeO.ite ?_ ?_ | refine LeO.bind ?_ fun _ => ?_) | apply ih0 | apply ih1 | exact LeO.none _ | refine LeO.ite ?_ ?_ | refine LeO.bind ?_ fun _ => ?_
  ·intro y0 y1 y2 y3
   unfold slices_Concat_int_int.l1
   repeat' first | (with_reducible first | apply ih0 | apply ih1 | exact LeO.refl _ | exact LeO.none _ | refine LeO.ite ?_ ?_ | refine LeO.bind ?_ fun _ => ?_) | apply ih0 | apply ih1 | exact LeO.none _ | refine LeO.ite ?_ ?_ | refine LeO.bind ?_ fun _ => ?_
theorem slices_Concat_int_int.mono : ∀ a0 k, LeO (slices_Concat_int_int.f k a0) (slices_Concat_int_int.f (k + 1) a0) := by
 intro a0 k
 obtain ⟨ih0, ih1⟩ := slices_Concat_int_int.mono_l k
 unfold slices_Concat_int_int.f
 repeat' first | (with_reducible first | apply ih0 | apply ih1 | exact LeO.refl _ | exact LeO.none _ | refine LeO.ite ?_ ?_ | refine LeO.bind ?_ fun _ => ?_) | apply ih0 | apply ih1 | exact LeO.none _ | refine LeO.ite ?_ ?_ | refine LeO.bind ?_ fun _ => ?_
set_option maxHeartbeats 8000000 in
set_option maxRecDepth 100000 in
theorem slices_Concat_int_int.calls (k : Nat) (A0 : Option Addr) (c0 : Nat) (l0 : List (List Int)) (r : List Int) (w : World) (hr0 : Kd.C (Kd.slice 3 (Kd.int .i64)) w A0 l0.length l0) (hc0 : l0.length ≤ c0) (h : slices_Concat_int_int.f k l0 = some r) :
  Calls Try.prog 50 #[.slice A0 l0.length c0] w fun e w' => ∃ v0_ : Value, e = .returned (v0_) ∧ Kd.R (Kd.int .i64) 3 w' w.heap.size (fun _ => True) v0_ r ∧ Below w.heap.size w w' := by
 have HR0 := Aside0.mk hr0; have HC0 := Aside0.mk hc0; clear hr0 hc0
 have HB := Aside0.mk (Below.refl w.heap.size w)
 have H : (slices_Concat_int_int.l0 k l0 0 l0 (l0.length : Int) 0) = some r := h
 clear h
 have H' := Aside0.mk H
 clear H
 go_enter Try.func50, Try.ntmps50
 go_wp2
 go_loopg [3, 11] k (fun kq v3 v11 w' => ∃ (x3_1 : Int) (x11_1 : Int), v3 = .int .i64 x3_1 ∧ v11 = .int .i64 x11_1 ∧ Aside0 (slices_Concat_int_int.l0 kq l0 x3_1 l0 (l0.length : Int) x11_1 = some r) ∧ Aside0 (kq ≤ k) ∧ Aside0 (Below w.heap.size w w'))
 case atStart => exact ⟨(0), (0), (by first | rfl | (simp; done) | (simp [*]; done)), (by first | rfl | (simp; done) | (simp [*]; done)), H', ⟨Nat.le_refl _⟩, ⟨hbA_ HB.out⟩⟩
 case round =>
  clear H'
  obtain ⟨x3_1, x11_1, rfl, rfl, HA, HK1, HB⟩ := hrel
  cases gk with
  | zero => exact absurd HA.out (by simp [slices_Concat_int_int.l0])
  | succ k1 =>
   have H := HA.out; clear HA
   simp only [slices_Concat_int_int.l0] at H
   by_cases c2 : x11_1 < (l0.length : Int)
   ·rw [if_pos c2] at H
    have c2b0 : decide (x11_1 < (l0.length : Int)) = true := decide_eq_true c2
    clear c2
    by_cases c3 : 0 ≤ x11_1
    ·rw [if_pos c3] at H
     have c3b0 : decide (0 ≤ x11_1) = true := decide_eq_true c3
     clear c3
     by_cases c4 : x11_1 < (l0.length : Int)
     ·rw [if_pos c4] at H
      have c4b0 : decide (x11_1 < (l0.length : Int)) = true := decide_eq_true c4
      clear c4
      by_cases c5 : (wrap64 (x3_1 + ((rd_L6 l0 x11_1).length : Int))) < 0
      ·rw [if_pos c5] at H
       exact absurd H (by simp)
      ·rw [if_neg c5] at H
       have c5b0 : decide ((wrap64 (x3_1 + ((rd_L6 l0 x11_1).length : Int))) < 0) = false := decide_eq_false c5
       clear c5
       have H' := Aside0.mk H
       clear H
       have p173 : 0 ≤ (x11_1 : Int) := of_decide_eq_true (by first | (with_reducible assumption) | assumption)
       have q173 : x11_1 < (l0.length : Int) := of_decide_eq_true (by first | (with_reducible assumption) | assumption)
       obtain ⟨ad173, A173_0, c173_0, e173, hx173_0, hl173_0, hi173_0⟩ := at_L6 HR0.out x11_1 p173 q173
       cases e173
       replace hx173_0 := cc_ HB hx173_0
       have HR173_0 := Aside0.mk hi173_0; have HC173_0 := Aside0.mk hl173_0; clear hi173_0 hl173_0
       replace p173 := eq_true p173
       replace q173 := eq_true q173
       go_wp2
       go_roundg k1
       case measure => have := HK1.out; omega
       case rel => exact ⟨(wrap64 (x3_1 + ((rd_L6 l0 x11_1).length : Int))), (wrap64 (x11_1 + 1)), (by first | rfl | (simp; done) | (simp [*]; done)), (by first | rfl | (simp; done) | (simp [*]; done)), H', ⟨by have := HK1.out; omega⟩, ⟨hbA_ HB.out⟩⟩
     ·rw [if_neg c4] at H
      exact absurd H (by simp)
    ·rw [if_neg c3] at H
     exact absurd H (by simp)
   ·rw [if_neg c2] at H
    have c2b0 : decide (x11_1 < (l0.length : Int)) = false := decide_eq_false c2
    clear c2
    replace H := Option.bind_eq_some_iff.mp H
    obtain ⟨t174, A60, H⟩ := H
    (try dsimp only at H)
    have A6 := Aside0.mk A60; clear A60
    have H' := Aside0.mk H
    clear H
    go_wp2_with (first | ((with_reducible refine gate_callee (f := 70) rfl ?_); refine goesL_ (some 24) rfl rfl Try.func70 (by kernel_rfl) rfl #[.slice none 0 0, .int .i64 x3_1] rfl ar_ ?_; (refine (slices_Grow_int_int.calls _ _ ([] : List Int) x3_1 t174 _ ?side1 ?side2 A6.out).mono ?_); (case side1 => exact Kd.C_nil _ _); (case side2 => first | exact Nat.le_refl _ | exact ⟨rfl, rfl⟩); rintro e w7 ⟨v175, rfl, ho0, hb⟩; refine ⟨_, rfl, ?_⟩; have HO176 := Aside0.mk (Kd.R_lower ho0 (below_size (hbA_ HB.out))); replace HB := (bs_ HB hb); (try clear hb); (try clear hb2); (try clear hk); (try clear hi); (try clear ho0)))
    go_loopg [6, 27] k1 (fun kq v6 v27 w' => ∃ (x6_2 : List Int) (x27_2 : Int), v27 = .int .i64 x27_2 ∧ Aside0 (slices_Concat_int_int.l1 kq x6_2 l0 (l0.length : Int) x27_2 = some r) ∧ Aside0 (kq ≤ k1) ∧ Aside0 (Kd.R (Kd.int .i64) 3 w' w.heap.size (fun _ => True) v6 x6_2) ∧ Aside0 (Below w.heap.size w w'))
    case atStart => exact ⟨(t174), (0), (by first | rfl | (simp; done) | (simp [*]; done)), H', ⟨Nat.le_refl _⟩, ⟨kR_ HO176.out⟩, ⟨hbA_ HB.out⟩⟩
    case round =>
     clear H'; (try clear c1); (try clear p1); (try clear q1); (try clear hx1); (try clear c2); (try clear c2b0); (try clear p2); (try clear c3); (try clear c3b0); (try clear c4); (try clear c4b0); (try clear c5); (try clear c5b0); (try clear p6); (try clear c7); (try clear hx173_0); (try clear p173); (try clear q173)
     obtain ⟨x6_2, x27_2, rfl, HA, HK2, HO_6, HB⟩ := hrel
     cases gk with
     | zero => exact absurd HA.out (by simp [slices_Concat_int_int.l1])
     | succ k2 =>
      have H := HA.out; clear HA
      simp only [slices_Concat_int_int.l1] at H
      by_cases c8 : x27_2 < (l0.length : Int)
      ·rw [if_pos c8] at H
       have c8b0 : decide (x27_2 < (l0.length : Int)) = true := decide_eq_true c8
       clear c8
       by_cases c9 : 0 ≤ x27_2
       ·rw [if_pos c9] at H
        have c9b0 : decide (0 ≤ x27_2) = true := decide_eq_true c9
        clear c9
        by_cases c10 : x27_2 < (l0.length : Int)
        ·rw [if_pos c10] at H
         have c10b0 : decide (x27_2 < (l0.length : Int)) = true := decide_eq_true c10
         clear c10
         by_cases c11 : x6_2.length + (rd_L6 l0 x27_2).length < 17592186044416
         ·rw [if_pos c11] at H
          have LMc11 := Aside0.mk c11; clear c11
          obtain ⟨y178, hy178⟩ : ∃ y_ : List Int, y_ = (x6_2 ++ (rd_L6 l0 x27_2)) := ⟨_, rfl⟩
          (first | replace H := sb_ hy178 H | rw [← hy178] at H)
          have Ny178 := Aside0.mk hy178; clear hy178
          have H' := Aside0.mk H
          clear H
          have p177 : 0 ≤ (x27_2 : Int) := of_decide_eq_true (by first | (with_reducible assumption) | assumption)
          have q177 : x27_2 < (l0.length : Int) := of_decide_eq_true (by first | (with_reducible assumption) | assumption)
          obtain ⟨ad177, A177_0, c177_0, e177, hx177_0, hl177_0, hi177_0⟩ := at_L6 HR0.out x27_2 p177 q177
          cases e177
          replace hx177_0 := cc_ HB hx177_0
          have HR177_0 := Aside0.mk hi177_0; have HC177_0 := Aside0.mk hl177_0; clear hi177_0 hl177_0
          replace p177 := eq_true p177
          replace q177 := eq_true q177
          go_wp2_with (first | ((with_reducible refine gate_builtin (b := .append) (xs := #[.tmp 31, .tmp 32]) rfl ?_); at_builtin; refine Kd.R_append_rows (Kd.int .i64) (w0 := w) w.heap.size rfl (.tmp 31) (.tmp 32) 22 3 (.int .i64 0) 8 rfl Try.underlying22 info3 rfl (by decide) (by omega) u6 x6_2 (rd_L6 l0 x27_2) _ _ _ (fun _ => True) (fun _ => False) rfl rfl ?aO ?aR (fun _ _ h => h) (fun _ h => h.elim) ?aF ?aB ?aS ?aL ?_; (case aR => exact kC_ (Kd.C_below HR177_0.out HB.out)); (case aB => exact (hbA_ HB.out)); (case aF => exact (fun _ _ => trivial)); (case aO => exact (kR_ HO_6.out)); (case aS => exact (below_size (hbA_ HB.out))); (case aL => have := LMc11.out; omega); intro v179 w12 ho hb hg hat; rw [← Ny178.out] at ho; replace HB := Aside0.mk (hb); have HO180 := Aside0.mk (ho); clear HO_6; clear ho hb hg hat))
          go_roundg k2
          case measure => have := HK1.out; have := HK2.out; omega
          case rel => exact ⟨(y178), (wrap64 (x27_2 + 1)), (by first | rfl | (simp; done) | (simp [*]; done)), H', ⟨by have := HK1.out; have := HK2.out; omega⟩, ⟨kR_ HO180.out⟩, ⟨hbA_ HB.out⟩⟩
         ·rw [if_neg c11] at H
          exact absurd H (by simp)
        ·rw [if_neg c10] at H
         exact absurd H (by simp)
       ·rw [if_neg c9] at H
        exact absurd H (by simp)
      ·rw [if_neg c8] at H
       have c8b0 : decide (x27_2 < (l0.length : Int)) = false := decide_eq_false c8
       clear c8
       obtain rfl := Option.some.inj H
       go_wp2
       go_ret
       exact ⟨_, by first | rfl | (simp [errW_none, errW_some] <;> rfl) | (simp [*, errW_none, errW_some] <;> rfl), kR_ HO_6.out, hbA_ HB.out⟩
def impl_ClientOk.met (all : List Int) (next : Int) (nopen : Nat) : Int → List Int → List Int → Bool
 | _, [], _ => true
 | i, n :: rest, seen => if impl_in.f n 0 (wrap64 (next - 1)) = some true then (if seen.contains n = true then false else (if i > 0 ∧ i < (nopen : Int) ∧ rd all (wrap64 (i - 1)) ≥ n then false else impl_ClientOk.met all next nopen (i + 1) rest (n :: seen))) else false
theorem impl_ClientOk.inn_some (a b c : Int) : ∃ t, impl_in.f a b c = some t := by unfold impl_in.f; split <;> exact ⟨_, rfl⟩
theorem impl_ClientOk.inn_wf {n y : Int} (h : impl_in.f n 0 (wrap64 y) = some true) : (Lit.int .i64 n).wf = true := by
 have h0 : 0 ≤ n ∧ n ≤ wrap64 y := by
  unfold impl_in.f at h; split at h
  ·exact ⟨by assumption, by simpa using h⟩
  ·cases h
 have h1 : wrap64 y ≤ 9223372036854775807 := by unfold wrap64; omega
 generalize wrap64 y = z at h0 h1
 simp [Lit.wf, IntKind.min, IntKind.max, IntKind.bits, IntKind.signed]
 omega
theorem impl_ClientOk.rd_drop (l : List Int) (i : Int) (h0 : 0 ≤ i) (h1 : i < (l.length : Int)) : l.drop i.toNat = rd l i :: l.drop (i + 1).toNat := by
 have h : i.toNat < l.length := by omega
 rw [List.drop_eq_getElem_cons h, show (i + 1).toNat = i.toNat + 1 by omega]
 unfold rd
 rw [List.getD_eq_getElem?_getD, List.getElem?_eq_getElem h]; rfl
theorem impl_ClientOk.wrap_pred {i : Int} (h0 : 0 < i) (h1 : i < 17592186044416) : wrap64 (i - 1) = i - 1 := by unfold wrap64; omega
theorem impl_ClientOk.wrap_succ {i : Int} (h0 : 0 ≤ i) (h1 : i < 17592186044416) : wrap64 (i + 1) = i + 1 := by unfold wrap64; omega
mutual
def impl_ClientOk.j0 : Nat → Bool → Int → List Int → List (S41) → List Int → Option (Bool)
 | 0, _, _, _, _, _ => none
 | k + 1, x18, x182000, x182001, x182002, x182003 => if x18 = true then (some false) else ((slices_Concat_int_int.f k (([x182001, x182003] : List (List Int)))).bind fun t186 => (impl_ClientOk.l0 k t186 x182002 (x182002.length : Int) 0 x182000 x182001 x182002 x182003))
def impl_ClientOk.l0 : Nat → List Int → List (S41) → Int → Int → Int → List Int → List (S41) → List Int → Option (Bool)
 | 0, _, _, _, _, _, _, _, _ => none
 | k + 1, x3, x26, x27, x28, x182000, x182001, x182002, x182003 => if x28 < x27 then (if 0 ≤ x28 then (if x28 < (x26.length : Int) then (if (((rd_T41 x26 x28).f1).length : Int) > 9 then (some false) else (if x3.length < 17592186044416 then (impl_ClientOk.l0 k (x3 ++ [(rd_T41 x26 x28).f0]) x26 x27 (wrap64 (x28 + 1)) x182000 x182001 x182002 x182003) else (none))) else (none)) else (none)) else (if x3.length < 17592186044416 then (some (impl_ClientOk.met x3 x182000 x182001.length 0 x3 [] && ((x3.length : Int) == x182000))) else (none))
end
def impl_ClientOk.f (k : Nat) (a0_0 : Int) (l0_1 : List Int) (l0_2 : List (S41)) (l0_3 : List Int) : Option (Bool) := (impl_in.f a0_0 0 256).bind fun t182 => (if t182 = true then (impl_ClientOk.j0 k (decide ((l0_1.length : Int) > 4)) a0_0 l0_1 l0_2 l0_3) else (impl_ClientOk.j0 k true a0_0 l0_1 l0_2 l0_3))
theorem impl_ClientOk.mono_l : ∀ k, (∀ y0 y1 y2 y3 y4, LeO (impl_ClientOk.j0 k y0 y1 y2 y3 y4) (impl_ClientOk.j0 (k + 1) y0 y1 y2 y3 y4)) ∧ (∀ y0 y1 y2 y3 y4 y5 y6 y7, LeO (impl_ClientOk.l0 k y0 y1 y2 y3 y4 y5 y6 y7) (impl_ClientOk.l0 (k + 1) y0 y1 y2 y3 y4 y5 y6 y7))
 | 0 => ⟨fun _ _ _ _ _ r h => by simp [impl_ClientOk.j0] at h, fun _ _ _ _ _ _ _ _ r h => by simp [impl_ClientOk.l0] at h⟩
 | k + 1 => by
  obtain ⟨ih0, ih1⟩ := impl_ClientOk.mono_l k
  refine ⟨?_, ?_⟩
  ·intro y0 y1 y2 y3 y4
   unfold impl_ClientOk.j0
   repeat' first | (with_reducible first | apply ih0 | apply ih1 | apply slices_Concat_int_int.mono | exact LeO.refl _ | exact LeO.none _ | refine LeO.ite ?_ ?_ | refine LeO.bind ?_ fun _ => ?_) | apply ih0 | apply ih1 | apply slices_Concat_int_int.mono | exact LeO.none _ | refine LeO.ite ?_ ?_ | refine LeO.bind ?_ fun _ => ?_
  ·intro y0 y1 y2 y3 y4 y5 y6 y7
   unfold impl_ClientOk.l0
   repeat' first | (with_reducible first | apply ih0 | apply ih1 | apply slices_Concat_int_int.mono | exact LeO.refl _ | exact LeO.none _ | refine LeO.ite ?_ ?_ | refine LeO.bind ?_ fun _ => ?_) | apply ih0 | apply ih1 | apply slices_Concat_int_int.mono | exact LeO.none _ | refine LeO.ite ?_ ?_ | refine LeO.bind ?_ fun _ => ?_
theorem impl_ClientOk.mono : ∀ a0 a1 a2 a3 k, LeO (impl_ClientOk.f k a0 a1 a2 a3) (impl_ClientOk.f (k + 1) a0 a1 a2 a3) := by
 intro a0 a1 a2 a3 k
 obtain ⟨ih0, ih1⟩ := impl_ClientOk.mono_l k
 unfold impl_ClientOk.f
 repeat' first | (with_reducible first | apply ih0 | apply ih1 | apply slices_Concat_int_int.mono | exact LeO.refl _ | exact LeO.none _ | refine LeO.ite ?_ ?_ | refine LeO.bind ?_ fun _ => ?_) | apply ih0 | apply ih1 | apply slices_Concat_int_int.mono | exact LeO.none _ | refine LeO.ite ?_ ?_ | refine LeO.bind ?_ fun _ => ?_
set_option maxHeartbeats 8000000 in
set_option maxRecDepth 100000 in
theorem impl_ClientOk.callsV (k : Nat) (a0_0 : Int) (P0_1_ : Nat → Prop) (A0_1 : Option Addr) (c0_1 : Nat) (l0_1 : List Int) (A0_2 : Option Addr) (c0_2 : Nat) (l0_2 : List (S41)) (P0_3_ : Nat → Prop) (A0_3 : Option Addr) (c0_3 : Nat) (l0_3 : List Int) (r : Bool) (w : World) (hs0_1 : Kd.V (Kd.int .i64) 3 w w.heap.size (fun k_ => P0_1_ k_) (.slice A0_1 l0_1.length c0_1) l0_1) (hr0_2 : Kd.C k41 w A0_2 l0_2.length l0_2) (hc0_2 : l0_2.length ≤ c0_2) (hs0_3 : Kd.V (Kd.int .i64) 3 w w.heap.size (fun k_ => P0_3_ k_) (.slice A0_3 l0_3.length c0_3) l0_3) (h : impl_ClientOk.f k a0_0 l0_1 l0_2 l0_3 = some r) :
  Calls Try.prog 14 #[.agg #[.int .i64 a0_0, .slice A0_1 l0_1.length c0_1, .slice A0_2 l0_2.length c0_2, .slice A0_3 l0_3.length c0_3]] w fun e w' => e = .returned (.bool r) ∧ Below w.heap.size w w' := by
 have hu30 := Try.underlying30; have hu41 := Try.underlying41
 have HO0_1 := Aside0.mk (show Kd.V (Kd.int .i64) 3 w w.heap.size (fun k_ => ((P0_1_ k_ ∨ P0_3_ k_) ∨ w.heap.size ≤ k_)) (.slice A0_1 l0_1.length c0_1) l0_1 from Kd.V_mono hs0_1 (fun k_ hk => .inl (.inl hk)))
 have HR0_2 := Aside0.mk hr0_2; have HC0_2 := Aside0.mk hc0_2; clear hr0_2 hc0_2
 have HO0_3 := Aside0.mk (show Kd.V (Kd.int .i64) 3 w w.heap.size (fun k_ => ((P0_1_ k_ ∨ P0_3_ k_) ∨ w.heap.size ≤ k_)) (.slice A0_3 l0_3.length c0_3) l0_3 from Kd.V_mono hs0_3 (fun k_ hk => .inl (.inr hk)))
 have HB := Aside0.mk (Below.refl w.heap.size w)
 have H : ((impl_in.f a0_0 0 256).bind fun t182 => (if t182 = true then (impl_ClientOk.j0 k (decide ((l0_1.length : Int) > 4)) a0_0 l0_1 l0_2 l0_3) else (impl_ClientOk.j0 k true a0_0 l0_1 l0_2 l0_3))) = some r := h
 clear h; have HC2 := Aside0.mk H; clear H
 go_enter Try.func14, Try.ntmps14
 go_upto_region 1 with (first | ((with_reducible refine gate_dst (N := 1) rfl ?_); (try (refine gate_guard (by rfl) ?_; dsimp only)); refine box_ (N := 1) (cs := #[.int .i64 a0_0, .slice A0_1 l0_1.length c0_1, .slice A0_2 l0_2.length c0_2, .slice A0_3 l0_3.length c0_3]) (t := 30) (fun gb181 hg w3 hbox hb => ?_); replace HO0_1 := Aside0.mk (Kd.V_below (Kd.V_elderB (kV_ HO0_1.out) gb181 (Nat.le_of_eq hg.symm)) hb); replace HO0_3 := Aside0.mk (Kd.V_below (Kd.V_elderB (kV_ HO0_3.out) gb181 (Nat.le_of_eq hg.symm)) hb); have BK181 := Aside0.mk (hbox); have GW181 := ge_ hg HB; have GE181 := ge_ hg HB; replace HB := (bs_ HB hb); clear hb hbox hg))
 (try simp only [Act.put, List.setIfInBounds_toArray, List.set_cons_zero, List.set_cons_succ])
 go_cut [18] (fun v18 wc => ∃ (kq : Nat) (x18_1 : Bool), v18 = .bool x18_1 ∧ Aside0 (impl_ClientOk.j0 kq x18_1 a0_0 l0_1 l0_2 l0_3 = some r) ∧ Aside0 (kq ≤ k) ∧ Aside0 (Kd.V (Kd.int .i64) 3 wc w.heap.size (fun k_ => ((P0_1_ k_ ∨ P0_3_ k_) ∨ w.heap.size ≤ k_) ∧ k_ ≠ gb181) (.slice A0_1 l0_1.length c0_1) l0_1) ∧ Aside0 (Kd.V (Kd.int .i64) 3 wc w.heap.size (fun k_ => ((P0_1_ k_ ∨ P0_3_ k_) ∨ w.heap.size ≤ k_) ∧ k_ ≠ gb181) (.slice A0_3 l0_3.length c0_3) l0_3) ∧ Aside0 (wc.heap[gb181]? = some (.cells #[.int .i64 a0_0, (.slice A0_1 l0_1.length c0_1), (.slice A0_2 l0_2.length c0_2), (.slice A0_3 l0_3.length c0_3)] 30 (0, 0))) ∧ Aside0 (Below w.heap.size w wc))
 case first =>
  have H := HC2.out; clear HC2
  replace H := Option.bind_eq_some_iff.mp H
  obtain ⟨t182, A40, H⟩ := H
  (try dsimp only at H)
  have A4 := Aside0.mk A40; clear A40
  by_cases c5 : t182 = true
  ·subst c5
   rw [if_pos rfl] at H
   have H' := Aside0.mk H
   clear H; have Z6 := zz4 BK181
   go_wp2_with (first | ((with_reducible refine gate_callee (f := 49) rfl ?_); refine goesL_ (some 11) rfl rfl Try.func49 (by kernel_rfl) rfl #[.int .i64 a0_0, .int .i64 0, .int .i64 256] rfl ar_ ?_; (with_reducible refine (impl_in.calls a0_0 0 256 true _ A4.out).mono ?_); rintro e w' ⟨rfl, ⟨nd, rfl⟩⟩; refine ⟨_, rfl, ?_⟩))
   go_meet
   case rel => exact ⟨_, (decide ((l0_1.length : Int) > 4)), (by first | rfl | (simp; done) | (simp [*]; done)), H', ⟨by first | omega | exact Nat.le_refl _⟩, ⟨by refine kV_ ?_; exact HO0_1.out⟩, ⟨by refine kV_ ?_; exact HO0_3.out⟩, ⟨by refine kb_ ?_; exact BK181.out⟩, ⟨hbA_ HB.out⟩⟩
  ·replace c5 := Bool.eq_false_iff.mpr c5
   subst c5
   rw [if_neg (show ¬ (false = true) by decide)] at H
   have H' := Aside0.mk H
   clear H; have Z7 := zz4 BK181
   go_wp2_with (first | ((with_reducible refine gate_callee (f := 49) rfl ?_); refine goesL_ (some 11) rfl rfl Try.func49 (by kernel_rfl) rfl #[.int .i64 a0_0, .int .i64 0, .int .i64 256] rfl ar_ ?_; (with_reducible refine (impl_in.calls a0_0 0 256 false _ A4.out).mono ?_); rintro e w' ⟨rfl, ⟨nd, rfl⟩⟩; refine ⟨_, rfl, ?_⟩))
   go_meet
   case rel => exact ⟨_, (true), (by first | rfl | (simp; done) | (simp [*]; done)), H', ⟨by first | omega | exact Nat.le_refl _⟩, ⟨by refine kV_ ?_; exact HO0_1.out⟩, ⟨by refine kV_ ?_; exact HO0_3.out⟩, ⟨by refine kb_ ?_; exact BK181.out⟩, ⟨hbA_ HB.out⟩⟩
 case rest =>
  clear HC2; (try clear c1); (try clear p2); (try clear c4); (try clear c5); (try clear Z6); (try clear Z7)
  obtain ⟨kq, x18_1, rfl, HA, HJ1, HO_182001, HO_182003, BK181, HB⟩ := hcut
  cases kq with
  | zero => exact absurd HA.out (by simp [impl_ClientOk.j0])
  | succ kj1 =>
   have H := HA.out; clear HA
   simp only [impl_ClientOk.j0] at H
   by_cases c8 : x18_1 = true
   ·subst c8
    rw [if_pos rfl] at H
    obtain rfl := Option.some.inj H
    go_wp2
    go_ret
    exact ⟨by first | rfl | (simp [errW_none, errW_some] <;> rfl) | (simp [*, errW_none, errW_some] <;> rfl), hbA_ HB.out⟩
   ·replace c8 := Bool.eq_false_iff.mpr c8
    subst c8
    rw [if_neg (show ¬ (false = true) by decide)] at H
    obtain ⟨y183, hy183⟩ : ∃ y_ : List (List Int), y_ = (([l0_1, l0_3] : List (List Int))) := ⟨_, rfl⟩
    (first | replace H := sb_ hy183 H | rw [← hy183] at H)
    have Ny183 := Aside0.mk hy183; clear hy183
    replace H := Option.bind_eq_some_iff.mp H
    obtain ⟨t186, A90, H⟩ := H
    (try dsimp only at H)
    have A9 := Aside0.mk A90; clear A90
    have H' := Aside0.mk H
    clear H; have Z10 := zz4 BK181
    go_wp2_with (first | ((with_reducible refine gate_dst (N := 23) rfl ?_); (try (refine gate_guard (by rfl) ?_; dsimp only)); refine Kd.N_lit (Kd.slice 3 (Kd.int .i64)) _ 22 ?hg (N' := 23) ?hd (xs := ([l0_1, l0_3] : List (List Int))) (inner := [.slice A0_1 l0_1.length c0_1, .slice A0_3 l0_3.length c0_3]) (ok := (fun k_ => ((P0_1_ k_ ∨ P0_3_ k_) ∨ w.heap.size ≤ k_) ∧ k_ ≠ gb181)) (okp := (fun k_ => ((P0_1_ k_ ∨ P0_3_ k_) ∨ w.heap.size ≤ k_) ∧ k_ ≠ gb181)) ?hr ?hp (fun _ hk => hk) ((show ∀ k_, wc.heap.size ≤ k_ → (fun k_ => ((P0_1_ k_ ∨ P0_3_ k_) ∨ w.heap.size ≤ k_) ∧ k_ ≠ gb181) k_ from fun k_ hk => ⟨(.inr (Nat.le_trans (below_size (hbA_ HB.out)) hk)), fb_ BK181 k_ hk⟩) _ (Nat.le_refl _)) (Below.refl _ _) (Nat.le_refl _) (by simp) ?_; (case hd => rfl); (case hg => rfl); (case hr => first | (go_simp; done) | (go_simp; rfl)); (case hp => exact (Reps.one (show Kd.FK (Kd.slice 3 (Kd.int .i64)) _ _ l0_1 [.slice A0_1 l0_1.length c0_1] from (Kd.FK_slice_mk (Kd.V_reads' (Kd.V_mono (ok' := (fun k_ => ((P0_1_ k_ ∨ P0_3_ k_) ∨ w.heap.size ≤ k_) ∧ k_ ≠ gb181)) (HO_182001.out) (fun k_ hk => ⟨hk.1, hk.2⟩))).2.1 (Kd.V_F (Kd.V_mono (ok' := (fun k_ => ((P0_1_ k_ ∨ P0_3_ k_) ∨ w.heap.size ≤ k_) ∧ k_ ≠ gb181)) (HO_182001.out) (fun k_ hk => ⟨hk.1, hk.2⟩))))) (Reps.one (show Kd.FK (Kd.slice 3 (Kd.int .i64)) _ _ l0_3 [.slice A0_3 l0_3.length c0_3] from (Kd.FK_slice_mk (Kd.V_reads' (Kd.V_mono (ok' := (fun k_ => ((P0_1_ k_ ∨ P0_3_ k_) ∨ w.heap.size ≤ k_) ∧ k_ ≠ gb181)) (HO_182003.out) (fun k_ hk => ⟨hk.1, hk.2⟩))).2.1 (Kd.V_F (Kd.V_mono (ok' := (fun k_ => ((P0_1_ k_ ∨ P0_3_ k_) ∨ w.heap.size ≤ k_) ∧ k_ ≠ gb181)) (HO_182003.out) (fun k_ hk => ⟨hk.1, hk.2⟩))))) (Reps.none _ _)))); intro v184 w11 ho12 hb hg_ hnew_; clear hg_ hnew_; (first | rw [← Ny183.out] at ho12 | (simp only [Int.reduceToNat] at ho12; rw [← Ny183.out] at ho12)); replace HO_182001 := Aside0.mk (Kd.V_elder' (kV_ HO_182001.out) (Kd.N_base ho12) hb); replace HO_182003 := Aside0.mk (Kd.V_elder' (kV_ HO_182003.out) (Kd.N_base ho12) hb); have HO185 := Aside0.mk (Kd.N_lower ho12 (below_size (hbA_ HB.out))); replace BK181 := (bbA_ BK181 hb); replace HB := (bs_ HB hb); clear hb ho12; obtain ⟨Ao13, co13, eo13⟩ := Kd.N_slice HO185.out; subst eo13) | ((with_reducible refine gate_callee (f := 50) rfl ?_); refine goesL_ (some 24) rfl rfl Try.func50 (by kernel_rfl) rfl #[.slice Ao13 y183.length co13] rfl ar_ ?_; (with_reducible refine (slices_Concat_int_int.calls kj1 _ _ y183 t186 _ ?side1 ?side2 A9.out).mono ?_); (case side1 => exact kC_ (Kd.N_reads' HO185.out).2.2); (case side2 => exact (Kd.N_reads' HO185.out).2.1); rintro e w14 ⟨v187, rfl, ho0, hb⟩; refine ⟨_, rfl, ?_⟩; replace HO_182001 := Aside0.mk (Kd.V_elder' (kV_ HO_182001.out) (Kd.R_base ho0) hb); replace HO_182003 := Aside0.mk (Kd.V_elder' (kV_ HO_182003.out) (Kd.R_base ho0) hb); replace HO185 := Aside0.mk (Kd.N_elder' (kN_ HO185.out) (Kd.R_base ho0) hb); have HO188 := Aside0.mk (Kd.R_lower (Kd.R_newM (M := fun k_ => (w.heap.size ≤ k_)) ho0 (below_size (hbA_ HB.out)) (fun k_ h_ => h_)) (below_size (hbA_ HB.out))); replace BK181 := (bbA_ BK181 hb); replace HB := (bs_ HB hb); (try clear hb); (try clear hb2); (try clear hk); (try clear hi); (try clear ho0); have Z15 := zz4 BK181))
    go_loopg [3, 28] kj1 (fun kq v3 v28 w' => ∃ (x3_2 : List Int) (x28_2 : Int), v28 = .int .i64 x28_2 ∧ Aside0 (impl_ClientOk.l0 kq x3_2 l0_2 (l0_2.length : Int) x28_2 a0_0 l0_1 l0_2 l0_3 = some r) ∧ Aside0 (kq ≤ kj1) ∧ Aside0 (Kd.R (Kd.int .i64) 3 w' w.heap.size (fun k_ => (w.heap.size ≤ k_)) v3 x3_2) ∧ Aside0 (Kd.V (Kd.int .i64) 3 w' w.heap.size (fun k_ => ((P0_1_ k_ ∨ P0_3_ k_) ∨ w.heap.size ≤ k_) ∧ some k_ ≠ (v3 : Value).ownBlock ∧ k_ ≠ gb181) (.slice A0_1 l0_1.length c0_1) l0_1) ∧ Aside0 (Kd.V (Kd.int .i64) 3 w' w.heap.size (fun k_ => ((P0_1_ k_ ∨ P0_3_ k_) ∨ w.heap.size ≤ k_) ∧ some k_ ≠ (v3 : Value).ownBlock ∧ k_ ≠ gb181) (.slice A0_3 l0_3.length c0_3) l0_3) ∧ Aside0 (w'.heap[gb181]? = some (.cells #[.int .i64 a0_0, (.slice A0_1 l0_1.length c0_1), (.slice A0_2 l0_2.length c0_2), (.slice A0_3 l0_3.length c0_3)] 30 (0, 0))) ∧ Aside0 (Below w.heap.size w w'))
    case atStart => exact ⟨(t186), (0), (by first | rfl | (simp; done) | (simp [*]; done)), H', ⟨Nat.le_refl _⟩, ⟨by refine kR_ ?_; exact Kd.R_mono HO188.out (fun _ hk => hk.1)⟩, ⟨by refine kV_ ?_; exact Kd.V_mono HO_182001.out (fun _ hk => ⟨hk.1.1.1, ⟨hk.2, hk.1.1.2⟩⟩)⟩, ⟨by refine kV_ ?_; exact Kd.V_mono HO_182003.out (fun _ hk => ⟨hk.1.1.1, ⟨hk.2, hk.1.1.2⟩⟩)⟩, ⟨by refine kb_ ?_; exact BK181.out⟩, ⟨hbA_ HB.out⟩⟩
    case round =>
     clear H'; (try clear c1); (try clear p2); (try clear c4); (try clear c5); (try clear c8); (try clear c14); (try clear Z10); (try clear Z15); (try clear Z6); (try clear Z7); (try clear p2)
     obtain ⟨x3_2, x28_2, rfl, HA, HK2, HO_3, HO_182001, HO_182003, BK181, HB⟩ := hrel
     cases gk with
     | zero => exact absurd HA.out (by simp [impl_ClientOk.l0])
     | succ k2 =>
      have H := HA.out; clear HA
      simp only [impl_ClientOk.l0] at H
      by_cases c16 : x28_2 < (l0_2.length : Int)
      ·rw [if_pos c16] at H
       have c16b0 : decide (x28_2 < (l0_2.length : Int)) = true := decide_eq_true c16
       clear c16
       by_cases c17 : 0 ≤ x28_2
       ·rw [if_pos c17] at H
        have c17b0 : decide (0 ≤ x28_2) = true := decide_eq_true c17
        clear c17
        by_cases c18 : x28_2 < (l0_2.length : Int)
        ·rw [if_pos c18] at H
         have c18b0 : decide (x28_2 < (l0_2.length : Int)) = true := decide_eq_true c18
         clear c18
         by_cases c19 : (((rd_T41 l0_2 x28_2).f1).length : Int) > 9
         ·rw [if_pos c19] at H
          have c19b0 : decide (9 < (((rd_T41 l0_2 x28_2).f1).length : Int)) = true := decide_eq_true c19
          have c19b1 : decide (9 < ((rd_T41 l0_2 x28_2).f1).length) = true := decide_eq_true (by omega)
          clear c19
          obtain rfl := Option.some.inj H
          have p189 : 0 ≤ (x28_2 : Int) := of_decide_eq_true (by first | (with_reducible assumption) | assumption)
          have q189 : x28_2 < (l0_2.length : Int) := of_decide_eq_true (by first | (with_reducible assumption) | assumption)
          obtain ⟨ad189, A189_1, c189_1, e189, hx189_0, hx189_1, hl189_1, hi189_1⟩ := at_T41 HR0_2.out x28_2 p189 q189
          cases e189
          replace hx189_0 := cc_ HB hx189_0
          replace hx189_1 := cc_ HB hx189_1
          have HR189_1 := Aside0.mk hi189_1; have HC189_1 := Aside0.mk hl189_1; clear hi189_1 hl189_1
          replace p189 := eq_true p189
          replace q189 := eq_true q189
          go_wp2_with (first | ((with_reducible refine gate_dst (N := 5) rfl ?_); (try (refine gate_guard (by rfl) ?_; dsimp only)); refine box_ (N := 5) (cs := #[.int .i64 0, .slice none 0 0]) (t := 41) (fun gb190 hg w20 hbox hb => ?_); replace HO_3 := Aside0.mk (Kd.R_below (kR_ HO_3.out) hb); replace HO_182001 := Aside0.mk (Kd.V_below (Kd.V_elderB (kV_ HO_182001.out) gb190 (Nat.le_of_eq hg.symm)) hb); replace HO_182003 := Aside0.mk (Kd.V_below (Kd.V_elderB (kV_ HO_182003.out) gb190 (Nat.le_of_eq hg.symm)) hb); have BK190 := Aside0.mk (hbox); have GW190 := ge_ hg HB; have GE190 := ge_ hg HB; replace HB := (bs_ HB hb); have NB181_190 := nl_ hg BK181; have NB190_181 := ng_ hg BK181; replace BK181 := (bbA_ BK181 hb); clear hb hbox hg; have hnb21 := NB190_181.out; have hnc21 := NB181_190.out; have Z22 := zz2 BK190))
          go_ret
          exact ⟨by first | rfl | (simp [errW_none, errW_some] <;> rfl) | (simp [*, errW_none, errW_some] <;> rfl), hbA_ HB.out⟩
         ·rw [if_neg c19] at H
          have c19b0 : decide (9 < (((rd_T41 l0_2 x28_2).f1).length : Int)) = false := decide_eq_false c19
          have c19b1 : decide (9 < ((rd_T41 l0_2 x28_2).f1).length) = false := decide_eq_false (by omega)
          clear c19
          by_cases c23 : x3_2.length < 17592186044416
          ·rw [if_pos c23] at H
           have LMc23 := Aside0.mk c23; clear c23
           obtain ⟨y191, hy191⟩ : ∃ y_ : List Int, y_ = (x3_2 ++ [(rd_T41 l0_2 x28_2).f0]) := ⟨_, rfl⟩
           (first | replace H := sb_ hy191 H | rw [← hy191] at H)
           have Ny191 := Aside0.mk hy191; clear hy191
           have H' := Aside0.mk H
           clear H
           have p189 : 0 ≤ (x28_2 : Int) := of_decide_eq_true (by first | (with_reducible assumption) | assumption)
           have q189 : x28_2 < (l0_2.length : Int) := of_decide_eq_true (by first | (with_reducible assumption) | assumption)
           obtain ⟨ad189, A189_1, c189_1, e189, hx189_0, hx189_1, hl189_1, hi189_1⟩ := at_T41 HR0_2.out x28_2 p189 q189
           cases e189
           replace hx189_0 := cc_ HB hx189_0
           replace hx189_1 := cc_ HB hx189_1
           have HR189_1 := Aside0.mk hi189_1; have HC189_1 := Aside0.mk hl189_1; clear hi189_1 hl189_1
           replace p189 := eq_true p189
           replace q189 := eq_true q189
           go_wp2_with (first | ((with_reducible refine gate_dst (N := 5) rfl ?_); (try (refine gate_guard (by rfl) ?_; dsimp only)); refine box_ (N := 5) (cs := #[.int .i64 0, .slice none 0 0]) (t := 41) (fun gb190 hg w24 hbox hb => ?_); replace HO_3 := Aside0.mk (Kd.R_below (kR_ HO_3.out) hb); replace HO_182001 := Aside0.mk (Kd.V_below (Kd.V_elderB (kV_ HO_182001.out) gb190 (Nat.le_of_eq hg.symm)) hb); replace HO_182003 := Aside0.mk (Kd.V_below (Kd.V_elderB (kV_ HO_182003.out) gb190 (Nat.le_of_eq hg.symm)) hb); have BK190 := Aside0.mk (hbox); have GW190 := ge_ hg HB; have GE190 := ge_ hg HB; replace HB := (bs_ HB hb); have NB181_190 := nl_ hg BK181; have NB190_181 := ng_ hg BK181; replace BK181 := (bbA_ BK181 hb); clear hb hbox hg; have hnb25 := NB190_181.out; have hnc25 := NB181_190.out; have Z26 := zz2 BK190) | ((with_reducible refine gate_builtin (b := .append) (xs := #[.tmp 36, .tmp 39]) rfl ?_); (try (refine gate_guard (by rfl) ?_; dsimp only)); at_builtin; refine Kd.R_append (Kd.int .i64) (w0 := w) w.heap.size rfl (.tmp 36) (.tmp 39) 22 3 (.int .i64 0) 8 rfl Try.underlying22 info3 rfl (by decide) (by omega) u3 x3_2 ((rd_T41 l0_2 x28_2).f0) [.int .i64 ((rd_T41 l0_2 x28_2).f0)] (fun k_ => (w.heap.size ≤ k_)) (fun _ => False) rfl (by first | (go_simp; done) | (go_simp; rfl)) ?aP (fun _ hk => hk.elim) ?aF ?aO ?aB ?aS ?aL ?_; (case aP => exact rfl); (case aB => exact (hbA_ HB.out)); (case aF => exact (fun k_ hk => (Nat.le_trans (below_size (hbA_ HB.out)) hk))); (case aO => exact (by refine kR_ ?_; exact rfm_ ((Kd.R_types HO_3.out BK190.out (by decide))) (fun _ hk => hk.1))); (case aS => exact (below_size (hbA_ HB.out))); (case aL => have := LMc23.out; omega); intro v192 w27 ho hb hg hat; rw [← Ny191.out] at ho; replace HO_182001 := Aside0.mk (Kd.V_afterv (ok := (fun k_ => ((P0_1_ k_ ∨ P0_3_ k_) ∨ w.heap.size ≤ k_) ∧ k_ ≠ gb181 ∧ k_ ≠ gb190)) (by refine kV_ ?_; exact nfV_ gb190 HO_182001.out (fun _ hk => hk.2) (fun _ hk => ⟨⟨hk.1.1.1, ⟨hk.1.1.2.2, hk.1.2⟩⟩, hk.1.1.2.1⟩)) hg hat); replace HO_182003 := Aside0.mk (Kd.V_afterv (ok := (fun k_ => ((P0_1_ k_ ∨ P0_3_ k_) ∨ w.heap.size ≤ k_) ∧ k_ ≠ gb181 ∧ k_ ≠ gb190)) (by refine kV_ ?_; exact nfV_ gb190 HO_182003.out (fun _ hk => hk.2) (fun _ hk => ⟨⟨hk.1.1.1, ⟨hk.1.1.2.2, hk.1.2⟩⟩, hk.1.1.2.1⟩)) hg hat); replace BK181 := Aside0.mk (blk_grown (g := gb181) (o := .cells #[.int .i64 a0_0, .slice A0_1 l0_1.length c0_1, .slice (some ad189) l0_2.length c0_2, .slice A0_3 l0_3.length c0_3] 30 (0, 0)) (by exact kf_ BK181.out) hg (Kd.R_ne HO_3.out BK181.out (by decide))); replace BK190 := Aside0.mk (blk_grown (g := gb190) (o := .cells #[.int .i64 ((rd_T41 l0_2 x28_2).f0), .slice A189_1 ((rd_T41 l0_2 x28_2).f1).length c189_1] 41 (0, 0)) (by refine kb_ ?_; refine pz2 (cs := #[.int .i64 0, .slice none 0 0]) ?_; refine kb_ ?_; exact BK190.out) hg (Kd.R_ne HO_3.out BK190.out (by decide))); replace HB := Aside0.mk (hb); have HO193 := Aside0.mk (ho); clear HO_3; clear ho hb hg hat))
           go_roundg k2
           case measure => have := HJ1.out; have := HK2.out; omega
           case rel => exact ⟨(y191), (wrap64 (x28_2 + 1)), (by first | rfl | (simp; done) | (simp [*]; done)), H', ⟨by have := HJ1.out; have := HK2.out; omega⟩, ⟨kR_ HO193.out⟩, ⟨by refine kV_ ?_; exact Kd.V_mono HO_182001.out (fun _ hk => ⟨hk.1.1, ⟨hk.2, hk.1.2.1⟩⟩)⟩, ⟨by refine kV_ ?_; exact Kd.V_mono HO_182003.out (fun _ hk => ⟨hk.1.1, ⟨hk.2, hk.1.2.1⟩⟩)⟩, ⟨by refine kb_ ?_; exact BK181.out⟩, ⟨hbA_ HB.out⟩⟩
          ·rw [if_neg c23] at H
           exact absurd H (by simp)
        ·rw [if_neg c18] at H
         exact absurd H (by simp)
       ·rw [if_neg c17] at H
        exact absurd H (by simp)
      ·rw [if_neg c16] at H
       have c16b0 : decide (x28_2 < (l0_2.length : Int)) = false := decide_eq_false c16
       clear c16
       by_cases cB : x3_2.length < 17592186044416
       ·rw [if_pos cB] at H
        have LB := Aside0.mk cB; clear cB
        have hr_ := Aside0.mk (Option.some.inj H); clear H
        obtain ⟨Ao28, co28, eo28⟩ := Kd.R_slice HO_3.out
        subst eo28; have Z29 := zz4 BK181
        clear HO_182001 HO_182003
        have hmm := @run_makeMap Try.prog
        go_wp2
        have MS := Aside0.mk (MSet.made wr Try.prog 3 4)
        have HBL := Aside0.mk (below_size HB.out)
        replace HO_3 := Aside0.mk (Kd.R_alloc HO_3.out (.map #[] 0)); replace BK181 := Aside0.mk (blk_alloc BK181.out (.map #[] 0)); replace HB := Aside0.mk (below_alloc HB.out (.map #[] 0))
        generalize hbm_ : wr.heap.size = bm at MS HBL ⊢
        generalize wr.alloc (.map #[] 0) = wm at HO_3 BK181 HB MS ⊢
        clear hmm Z29 hbm_
        go_loopg [45] (x3_2.length + 1) (fun kq v45 w' => ∃ (x45_3 : Int) (seen : List Int), v45 = .int .i64 x45_3 ∧ Aside0 ((impl_ClientOk.met x3_2 a0_0 l0_1.length x45_3 (x3_2.drop x45_3.toNat) seen && ((x3_2.length : Int) == a0_0)) = r) ∧ Aside0 (0 ≤ x45_3 ∧ x45_3.toNat + kq = x3_2.length + 1 ∧ seen.length ≤ x45_3.toNat) ∧ Aside0 (Kd.R (Kd.int .i64) 3 w' w.heap.size (fun k_ => (w.heap.size ≤ k_)) (.slice Ao28 x3_2.length co28) x3_2) ∧ Aside0 (MSet Try.prog 3 4 w' bm seen) ∧ Aside0 (w'.heap[gb181]? = some (.cells #[.int .i64 a0_0, (.slice A0_1 l0_1.length c0_1), (.slice A0_2 l0_2.length c0_2), (.slice A0_3 l0_3.length c0_3)] 30 (0, 0))) ∧ Aside0 (Below w.heap.size w w'))
        case atStart => exact ⟨0, [], (by first | rfl | (simp; done)), hr_, ⟨Int.le_refl _, by simp, by simp⟩, HO_3, MS, BK181, HB⟩
        case round =>
         clear hr_ HO_3 MS BK181 HB
         obtain ⟨x45_3, seen, rfl, HA, HK3, HO_3, MS, BK181, HB⟩ := hrel
         by_cases c29 : x45_3 < (x3_2.length : Int)
         ·have c29b0 : decide (x45_3 < (x3_2.length : Int)) = true := decide_eq_true c29
          have c30b0 : decide (0 ≤ x45_3) = true := decide_eq_true HK3.out.1
          have HM := HA.out; clear HA
          rw [impl_ClientOk.rd_drop x3_2 x45_3 HK3.out.1 c29] at HM
          unfold impl_ClientOk.met at HM
          have C29 := Aside0.mk c29; clear c29
          obtain ⟨t195, A33⟩ := impl_ClientOk.inn_some (rd x3_2 x45_3) 0 (wrap64 (a0_0 - 1))
          replace HM := Aside0.mk HM; replace A33 := Aside0.mk A33
          have p194 : 0 ≤ (x45_3 : Int) := HK3.out.1
          have q194 : x45_3 < (x3_2.length : Int) := C29.out
          obtain ⟨ad194, e194, hx194_0⟩ := Kd.at_int (Kd.R_reads' HO_3.out).2.2 x45_3 p194 q194
          cases e194
          replace p194 := eq_true p194
          replace q194 := eq_true q194
          go_upto_region 15 with (fail)
          go_cut [80] (fun v80 wc => ∃ (x80_31 : Bool), v80 = .bool x80_31 ∧ Aside0 ((if x80_31 = true then false else (impl_ClientOk.met x3_2 a0_0 l0_1.length (x45_3 + 1) (x3_2.drop (x45_3 + 1).toNat) (rd x3_2 x45_3 :: seen) && ((x3_2.length : Int) == a0_0))) = r) ∧ Aside0 (x80_31 = false → (Lit.int .i64 (rd x3_2 x45_3)).wf = true) ∧ Aside0 (Kd.R (Kd.int .i64) 3 wc w.heap.size (fun k_ => (w.heap.size ≤ k_)) (.slice (some ad194) x3_2.length co28) x3_2) ∧ Aside0 (MSet Try.prog 3 4 wc bm seen) ∧ Aside0 (wc.heap[gb181]? = some (.cells #[.int .i64 a0_0, (.slice A0_1 l0_1.length c0_1), (.slice A0_2 l0_2.length c0_2), (.slice A0_3 l0_3.length c0_3)] 30 (0, 0))) ∧ Aside0 (Below w.heap.size w wc))
          case first =>
           by_cases c34 : t195 = true
           ·subst c34
            have hwf := impl_ClientOk.inn_wf A33.out
            replace HM := HM.out; rw [if_pos A33.out] at HM
            have hz_ : ∀ W : World, (zeroValue 4).run Try.prog W = .ok (.bool false) W := fun W => by kernel_rfl
            cases c35 : seen.contains (rd x3_2 x45_3) with
            | true =>
             rw [if_pos c35, Bool.false_and] at HM
             have hL : ∀ nd, (Instr.lookup 72 (.map (some bm)) (.int .i64 (rd x3_2 x45_3)) false).run Try.prog (wr.drewN nd) = .ok (.bool true) (wr.drewN nd) := fun nd => by have h_ := (MS.out.drewN nd).look Try.underlying3 Try.underlying4 Try.underlying72 (hz_ _) hwf; rw [c35] at h_; exact h_
             clear hz_ hwf; replace HM := Aside0.mk HM; clear c35; have Z36 := zz4 BK181
             go_wp2_with (first | ((with_reducible refine gate_callee (f := 49) rfl ?_); refine goesL_ (some 54) rfl rfl Try.func49 (by kernel_rfl) rfl #[.int .i64 (rd x3_2 x45_3), .int .i64 0, .int .i64 (wrap64 (a0_0 - 1))] rfl ar_ ?_; (with_reducible refine (impl_in.calls (rd x3_2 x45_3) 0 (wrap64 (a0_0 - 1)) true _ A33.out).mono ?_); rintro e w' ⟨rfl, ⟨nd, rfl⟩⟩; refine ⟨_, rfl, ?_⟩))
             go_meet
             case rel => exact ⟨true, (by first | rfl | (simp; done) | (simp [*]; done)), HM, ⟨fun h_ => by cases h_⟩, ⟨kR_ HO_3.out⟩, ⟨MS.out.drewN _⟩, ⟨by refine kb_ ?_; exact BK181.out⟩, ⟨hbA_ HB.out⟩⟩
            | false =>
             rw [if_neg (by rw [c35]; decide)] at HM
             have hL : ∀ nd, (Instr.lookup 72 (.map (some bm)) (.int .i64 (rd x3_2 x45_3)) false).run Try.prog (wr.drewN nd) = .ok (.bool false) (wr.drewN nd) := fun nd => by have h_ := (MS.out.drewN nd).look Try.underlying3 Try.underlying4 Try.underlying72 (hz_ _) hwf; rw [c35] at h_; exact h_
             replace HWF := Aside0.mk hwf; clear hz_ hwf; replace HM := Aside0.mk HM; clear c35
             by_cases c37 : x45_3 > 0
             ·have c37b0 : decide (0 < x45_3) = true := decide_eq_true c37
              by_cases c38 : x45_3 < (l0_1.length : Int)
              ·have c38b0 : decide (x45_3 < (l0_1.length : Int)) = true := decide_eq_true c38
               obtain ⟨ji39, hji39⟩ : ∃ j_ : Int, (wrap64 (x45_3 - 1)) = j_ := ⟨_, rfl⟩
               have hjv : ji39 = x45_3 - 1 := by rw [← hji39]; exact impl_ClientOk.wrap_pred c37 (by have := C29.out; have := LB.out; omega)
               have c40b0 : decide (0 ≤ (ji39)) = true := decide_eq_true (by omega)
               have c41b0 : decide ((ji39) < (x3_2.length : Int)) = true := decide_eq_true (by have := C29.out; omega)
               replace HM := HM.out; rw [hji39] at HM
               have C3 := Aside0.mk (And.intro c37 c38); clear c37 c38 hjv
               have hji39w : (IntKind.i64.wrap (x45_3 - 1)) = ji39 := (i64_w _).trans hji39
               replace HM := Aside0.mk HM
               have Z42 := zz4 BK181
               go_wp2_with (first | ((with_reducible refine gate_callee (f := 49) rfl ?_); refine goesL_ (some 54) rfl rfl Try.func49 (by kernel_rfl) rfl #[.int .i64 (rd x3_2 x45_3), .int .i64 0, .int .i64 (wrap64 (a0_0 - 1))] rfl ar_ ?_; (with_reducible refine (impl_in.calls (rd x3_2 x45_3) 0 (wrap64 (a0_0 - 1)) true _ A33.out).mono ?_); rintro e w' ⟨rfl, ⟨nd, rfl⟩⟩; refine ⟨_, rfl, ?_⟩; have p196 : 0 ≤ ((ji39) : Int) := of_decide_eq_true (by first | (with_reducible assumption) | assumption); have q196 : (ji39) < (x3_2.length : Int) := of_decide_eq_true (by first | (with_reducible assumption) | assumption); obtain ⟨ad196, e196, hx196_0⟩ := Kd.at_int (Kd.R_reads' HO_3.out).2.2 (ji39) p196 q196; obtain rfl : ad194 = ad196 := (by injection e196); replace p196 := eq_true p196; replace q196 := eq_true q196))
               first | go_meet | ((try simp only [← hji39]); go_meet)
               case rel => exact ⟨(decide ((rd x3_2 (ji39)) ≥ (rd x3_2 x45_3))), (by first | rfl | (simp; done) | (simp only [← hji39] <;> (first | rfl | simp)) | (simp [*]; done)), ⟨by have h_ := HM.out; by_cases hc_ : rd x3_2 ji39 ≥ rd x3_2 x45_3; (· rw [if_pos ⟨C3.out.1, C3.out.2, hc_⟩, Bool.false_and] at h_; rw [if_pos (decide_eq_true hc_)]; exact h_); (· rw [if_neg (fun h => hc_ h.2.2)] at h_; rw [if_neg (by rw [decide_eq_false hc_]; decide)]; exact h_)⟩, ⟨fun _ => HWF.out⟩, ⟨kR_ HO_3.out⟩, ⟨MS.out.drewN _⟩, ⟨by refine kb_ ?_; exact BK181.out⟩, ⟨hbA_ HB.out⟩⟩
              ·have c38b0 : decide (x45_3 < (l0_1.length : Int)) = false := decide_eq_false c38
               replace HM := HM.out; rw [if_neg (fun h => c38 h.2.1)] at HM; clear c38 c37
               replace HM := Aside0.mk HM; have Z43 := zz4 BK181
               go_wp2_with (first | ((with_reducible refine gate_callee (f := 49) rfl ?_); refine goesL_ (some 54) rfl rfl Try.func49 (by kernel_rfl) rfl #[.int .i64 (rd x3_2 x45_3), .int .i64 0, .int .i64 (wrap64 (a0_0 - 1))] rfl ar_ ?_; (with_reducible refine (impl_in.calls (rd x3_2 x45_3) 0 (wrap64 (a0_0 - 1)) true _ A33.out).mono ?_); rintro e w' ⟨rfl, ⟨nd, rfl⟩⟩; refine ⟨_, rfl, ?_⟩))
               go_meet
               case rel => exact ⟨false, (by first | rfl | (simp; done) | (simp [*]; done)), HM, ⟨fun _ => HWF.out⟩, ⟨kR_ HO_3.out⟩, ⟨MS.out.drewN _⟩, ⟨by refine kb_ ?_; exact BK181.out⟩, ⟨hbA_ HB.out⟩⟩
             ·have c37b0 : decide (0 < x45_3) = false := decide_eq_false c37
              replace HM := HM.out; rw [if_neg (fun h => c37 h.1)] at HM; clear c37
              replace HM := Aside0.mk HM; have Z44 := zz4 BK181
              go_wp2_with (first | ((with_reducible refine gate_callee (f := 49) rfl ?_); refine goesL_ (some 54) rfl rfl Try.func49 (by kernel_rfl) rfl #[.int .i64 (rd x3_2 x45_3), .int .i64 0, .int .i64 (wrap64 (a0_0 - 1))] rfl ar_ ?_; (with_reducible refine (impl_in.calls (rd x3_2 x45_3) 0 (wrap64 (a0_0 - 1)) true _ A33.out).mono ?_); rintro e w' ⟨rfl, ⟨nd, rfl⟩⟩; refine ⟨_, rfl, ?_⟩))
              go_meet
              case rel => exact ⟨false, (by first | rfl | (simp; done) | (simp [*]; done)), HM, ⟨fun _ => HWF.out⟩, ⟨kR_ HO_3.out⟩, ⟨MS.out.drewN _⟩, ⟨by refine kb_ ?_; exact BK181.out⟩, ⟨hbA_ HB.out⟩⟩
           ·replace c34 := Bool.eq_false_iff.mpr c34
            subst c34
            replace HM := HM.out; rw [if_neg (by rw [A33.out]; decide), Bool.false_and] at HM
            replace HM := Aside0.mk HM; have Z45 := zz4 BK181
            go_wp2_with (first | ((with_reducible refine gate_callee (f := 49) rfl ?_); refine goesL_ (some 54) rfl rfl Try.func49 (by kernel_rfl) rfl #[.int .i64 (rd x3_2 x45_3), .int .i64 0, .int .i64 (wrap64 (a0_0 - 1))] rfl ar_ ?_; (with_reducible refine (impl_in.calls (rd x3_2 x45_3) 0 (wrap64 (a0_0 - 1)) false _ A33.out).mono ?_); rintro e w' ⟨rfl, ⟨nd, rfl⟩⟩; refine ⟨_, rfl, ?_⟩))
            go_meet
            case rel => exact ⟨true, (by first | rfl | (simp; done) | (simp [*]; done)), HM, ⟨fun h_ => by cases h_⟩, ⟨kR_ HO_3.out⟩, ⟨MS.out.drewN _⟩, ⟨by refine kb_ ?_; exact BK181.out⟩, ⟨hbA_ HB.out⟩⟩
          case rest =>
           clear HM A33 HO_3 MS BK181 HB hx194_0
           obtain ⟨x80_31, rfl, HA, HWF, HO_3, MS, BK181, HB⟩ := hcut
           cases x80_31 with
           | true =>
            have H := HA.out; clear HA
            rw [if_pos rfl] at H
            subst H
            go_wp2
            go_ret
            exact ⟨by first | rfl | (simp [*]; done), hbA_ HB.out⟩
           | false =>
            have H := HA.out; clear HA
            rw [if_neg (by decide)] at H
            have H := Aside0.mk H
            have hn_ : seen.length < maxLen := by have := HK3.out; have := C29.out; have := LB.out; unfold maxLen; omega
            have HN := Aside0.mk hn_; clear hn_
            have hwf_ := HWF.out rfl
            replace HWF := Aside0.mk hwf_; clear hwf_
            go_wp2_with (first | (at_mapUpdate; refine wpList_mapUpdate_set _ rfl (.tmp 81) (.tmp 82) 72 3 4 rfl Try.underlying3 Try.underlying4 Try.underlying72 bm seen rfl MS.out HN.out (rd x3_2 x45_3) rfl HWF.out ?_; intro wn MS2 hgrow; replace HO_3 := Aside0.mk (Kd.R_grown2 HO_3.out rfl hgrow (fun k_ hk_ => by have h_ := MS.out.ne_row HO_3.out; rw [hk_] at h_; exact h_)); replace BK181 := Aside0.mk (blk_grown BK181.out hgrow (MS.out.ne_blk BK181.out)); replace HB := Aside0.mk (pw_below_grown HB.out _ (below_size HB.out) hgrow (fun k_ hk_ => by injection hk_ with hk_; rw [← hk_]; exact HBL.out)); replace MS := Aside0.mk MS2; clear MS2 hgrow))
            go_roundg (gk - 1)
            case measure => have := HK3.out; have := C29.out; omega
            case rel =>
             have hw_ : wrap64 (x45_3 + 1) = x45_3 + 1 := impl_ClientOk.wrap_succ HK3.out.1 (by have := C29.out; have := LB.out; omega)
             exact ⟨(wrap64 (x45_3 + 1)), _, (by first | rfl | (simp; done) | (simp [*]; done)), by rw [hw_]; exact H, ⟨by have := HK3.out; have := C29.out; rw [hw_]; clear hw_; refine ⟨?_, ?_, ?_⟩ <;> (try simp only [List.length_cons]) <;> omega⟩, HO_3, MS, BK181, HB⟩
         ·have c29b0 : decide (x45_3 < (x3_2.length : Int)) = false := decide_eq_false c29
          have HM := HA.out; clear HA
          rw [List.drop_eq_nil_of_le (by have := HK3.out.1; omega)] at HM
          unfold impl_ClientOk.met at HM
          rw [Bool.true_and] at HM
          clear c29
          subst HM
          have Z47 := zz4 BK181
          go_wp2
          go_ret
          exact ⟨by first | rfl | (simp [errW_none, errW_some] <;> rfl) | (simp [*, errW_none, errW_some] <;> rfl), hbA_ HB.out⟩
       ·rw [if_neg cB] at H
        exact absurd H (by simp)
set_option maxHeartbeats 8000000 in
theorem impl_ClientOk.calls (k : Nat) (a0_0 : Int) (A0_1 : Option Addr) (c0_1 : Nat) (l0_1 : List Int) (A0_2 : Option Addr) (c0_2 : Nat) (l0_2 : List (S41)) (A0_3 : Option Addr) (c0_3 : Nat) (l0_3 : List Int) (r : Bool) (w : World) (hr0_1 : Kd.C (Kd.int .i64) w A0_1 l0_1.length l0_1) (hc0_1 : l0_1.length ≤ c0_1) (hr0_2 : Kd.C k41 w A0_2 l0_2.length l0_2) (hc0_2 : l0_2.length ≤ c0_2) (hr0_3 : Kd.C (Kd.int .i64) w A0_3 l0_3.length l0_3) (hc0_3 : l0_3.length ≤ c0_3) (h : impl_ClientOk.f k a0_0 l0_1 l0_2 l0_3 = some r) :
    Calls Try.prog 14 #[.agg #[.int .i64 a0_0, .slice A0_1 l0_1.length c0_1, .slice A0_2 l0_2.length c0_2, .slice A0_3 l0_3.length c0_3]] w fun e w' => e = .returned (.bool r) ∧ Below w.heap.size w w' := by
  refine (impl_ClientOk.callsV k a0_0 (fun _ => True) A0_1 c0_1 l0_1 A0_2 c0_2 l0_2 (fun _ => True) A0_3 c0_3 l0_3 r w (Kd.V_mk hc0_1 (fun W_ hW_ => Kd.Heap.C (Kd.heap_int .i64) (fun k_ hlt_ => hW_ k_ trivial hlt_) hr0_1)) hr0_2 hc0_2 (Kd.V_mk hc0_3 (fun W_ hW_ => Kd.Heap.C (Kd.heap_int .i64) (fun k_ hlt_ => hW_ k_ trivial hlt_) hr0_3)) h).mono ?_
  rintro e w' ⟨rfl, hb⟩
  exact ⟨rfl, hb⟩
def laws_eqByteS.l0 : Nat → List Int → List Int → Int → Option (Bool)
 | 0, _, _, _ => none
 | k + 1, x0, x1, x5 => if x5 < (x0.length : Int) then (if 0 ≤ x5 then (if x5 < (x1.length : Int) then (if (rd x0 x5) = (rd x1 x5) then (laws_eqByteS.l0 k x0 x1 (wrap64 (x5 + 1))) else (some false)) else (none)) else (none)) else (some true)
def laws_eqByteS.f (k : Nat) (l0 : List Int) (l1 : List Int) : Option (Bool) := if (l0.length : Int) = (l1.length : Int) then (laws_eqByteS.l0 k l0 l1 0) else (some false)
theorem laws_eqByteS.mono_l : ∀ k, (∀ y0 y1 y2, LeO (laws_eqByteS.l0 k y0 y1 y2) (laws_eqByteS.l0 (k + 1) y0 y1 y2))
 | 0 => fun _ _ _ r h => by simp [laws_eqByteS.l0] at h
 | k + 1 => by
  have ih0 := laws_eqByteS.mono_l k
  ·intro y0 y1 y2
   unfold laws_eqByteS.l0
   repeat' first | (with_reducible first | apply ih0 | exact LeO.refl _ | exact LeO.none _ | refine LeO.ite ?_ ?_ | refine LeO.bind ?_ fun _ => ?_) | apply ih0 | exact LeO.none _ | refine LeO.ite ?_ ?_ | refine LeO.bind ?_ fun _ => ?_
theorem laws_eqByteS.mono : ∀ a0 a1 k, LeO (laws_eqByteS.f k a0 a1) (laws_eqByteS.f (k + 1) a0 a1) := by
 intro a0 a1 k
 have ih0 := laws_eqByteS.mono_l k
 unfold laws_eqByteS.f
 repeat' first | (with_reducible first | apply ih0 | exact LeO.refl _ | exact LeO.none _ | refine LeO.ite ?_ ?_ | refine LeO.bind ?_ fun _ => ?_) | apply ih0 | exact LeO.none _ | refine LeO.ite ?_ ?_ | refine LeO.bind ?_ fun _ => ?_
set_option maxHeartbeats 8000000 in
set_option maxRecDepth 100000 in
theorem laws_eqByteS.calls (k : Nat) (A0 : Option Addr) (c0 : Nat) (l0 : List Int) (A1 : Option Addr) (c1 : Nat) (l1 : List Int) (r : Bool) (w : World) (hr0 : Kd.C (Kd.int .u8) w A0 l0.length l0) (hc0 : l0.length ≤ c0) (hr1 : Kd.C (Kd.int .u8) w A1 l1.length l1) (hc1 : l1.length ≤ c1) (h : laws_eqByteS.f k l0 l1 = some r) :
  Calls Try.prog 33 #[.slice A0 l0.length c0, .slice A1 l1.length c1] w fun e w' => e = .returned (.bool r) ∧ Drawn0 w w' := by
 have HR0 := Aside0.mk hr0; have HC0 := Aside0.mk hc0; clear hr0 hc0; have HR1 := Aside0.mk hr1; have HC1 := Aside0.mk hc1; clear hr1 hc1
 have H : (if (l0.length : Int) = (l1.length : Int) then (laws_eqByteS.l0 k l0 l1 0) else (some false)) = some r := h
 clear h
 by_cases c3 : (l0.length : Int) = (l1.length : Int)
 ·rw [if_pos c3] at H
  have c3b0 : ((l0.length : Int) == (l1.length : Int)) = true := beq_iff_eq.mpr c3
  have c3b1 : ((l0.length : Int) != (l1.length : Int)) = false := bne_eq_false_iff_eq.mpr c3
  have c3b2 : (l0.length == l1.length) = true := by first | simpa using c3 | (simp at c3 ⊢; omega)
  clear c3
  have H' := Aside0.mk H
  clear H
  go_enter Try.func33, Try.ntmps33
  go_wp2
  repeat (go_quiet (fail); try go_wp2)
  go_loopg [5] k (fun kq v5 w' => ∃ (x5_1 : Int), v5 = .int .i64 x5_1 ∧ Aside0 (laws_eqByteS.l0 kq l0 l1 x5_1 = some r) ∧ Aside0 (kq ≤ k) ∧ Drawn0 w w')
  case atStart => exact ⟨(0), (by first | rfl | (simp; done) | (simp [*]; done)), H', ⟨Nat.le_refl _⟩, by repeat (first | exact Drawn0.refl _ | apply Drawn0.step)⟩
  case round =>
   clear H'; (try clear c1); (try clear p2); (try clear c3); (try clear c3b0); (try clear c3b1); (try clear c3b2)
   obtain ⟨x5_1, rfl, HA, HK1, ⟨m1, rfl⟩⟩ := hrel
   cases gk with
   | zero => exact absurd HA.out (by simp [laws_eqByteS.l0])
   | succ k1 =>
    have H := HA.out; clear HA
    simp only [laws_eqByteS.l0] at H
    by_cases c4 : x5_1 < (l0.length : Int)
    ·rw [if_pos c4] at H
     have c4b0 : decide (x5_1 < (l0.length : Int)) = true := decide_eq_true c4
     clear c4
     by_cases c5 : 0 ≤ x5_1
     ·rw [if_pos c5] at H
      have c5b0 : decide (0 ≤ x5_1) = true := decide_eq_true c5
      clear c5
      by_cases c6 : x5_1 < (l1.length : Int)
      ·rw [if_pos c6] at H
       have c6b0 : decide (x5_1 < (l1.length : Int)) = true := decide_eq_true c6
       clear c6
       by_cases c7 : (rd l0 x5_1) = (rd l1 x5_1)
       ·rw [if_pos c7] at H
        have c7b0 : ((rd l0 x5_1) == (rd l1 x5_1)) = true := beq_iff_eq.mpr c7
        have c7b1 : ((rd l0 x5_1) != (rd l1 x5_1)) = false := bne_eq_false_iff_eq.mpr c7
        clear c7
        have H' := Aside0.mk H
        clear H
        have p194 : 0 ≤ (x5_1 : Int) := of_decide_eq_true (by first | (with_reducible assumption) | assumption)
        have q194 : x5_1 < (l0.length : Int) := of_decide_eq_true (by first | (with_reducible assumption) | assumption)
        obtain ⟨ad194, e194, hx194_0⟩ := Kd.at_int HR0.out x5_1 p194 q194
        cases e194
        replace p194 := eq_true p194
        replace q194 := eq_true q194
        have p195 : 0 ≤ (x5_1 : Int) := of_decide_eq_true (by first | (with_reducible assumption) | assumption)
        have q195 : x5_1 < (l1.length : Int) := of_decide_eq_true (by first | (with_reducible assumption) | assumption)
        obtain ⟨ad195, e195, hx195_0⟩ := Kd.at_int HR1.out x5_1 p195 q195
        cases e195
        replace p195 := eq_true p195
        replace q195 := eq_true q195
        go_wp2
        repeat (go_quiet (fail); try go_wp2)
        go_roundg k1
        case measure => have := HK1.out; omega
        case rel => exact ⟨(wrap64 (x5_1 + 1)), (by first | rfl | (simp; done) | (simp [*]; done)), H', ⟨by have := HK1.out; omega⟩, by repeat (first | exact Drawn0.refl _ | apply Drawn0.step)⟩
       ·rw [if_neg c7] at H
        have c7b0 : ((rd l0 x5_1) == (rd l1 x5_1)) = false := beq_eq_false_iff_ne.mpr c7
        have c7b1 : ((rd l0 x5_1) != (rd l1 x5_1)) = true := bne_iff_ne.mpr c7
        obtain rfl := Option.some.inj H
        have p194 : 0 ≤ (x5_1 : Int) := of_decide_eq_true (by first | (with_reducible assumption) | assumption)
        have q194 : x5_1 < (l0.length : Int) := of_decide_eq_true (by first | (with_reducible assumption) | assumption)
        obtain ⟨ad194, e194, hx194_0⟩ := Kd.at_int HR0.out x5_1 p194 q194
        cases e194
        replace p194 := eq_true p194
        replace q194 := eq_true q194
        have p195 : 0 ≤ (x5_1 : Int) := of_decide_eq_true (by first | (with_reducible assumption) | assumption)
        have q195 : x5_1 < (l1.length : Int) := of_decide_eq_true (by first | (with_reducible assumption) | assumption)
        obtain ⟨ad195, e195, hx195_0⟩ := Kd.at_int HR1.out x5_1 p195 q195
        cases e195
        replace p195 := eq_true p195
        replace q195 := eq_true q195
        go_wp2
        repeat (go_quiet (fail); try go_wp2)
        go_ret
        exact ⟨by first | rfl | (simp; done) | (simp [*]; done), by repeat (first | exact Drawn0.refl _ | apply Drawn0.step)⟩
      ·rw [if_neg c6] at H
       exact absurd H (by simp)
     ·rw [if_neg c5] at H
      exact absurd H (by simp)
    ·rw [if_neg c4] at H
     have c4b0 : decide (x5_1 < (l0.length : Int)) = false := decide_eq_false c4
     clear c4
     obtain rfl := Option.some.inj H
     go_wp2
     repeat (go_quiet (fail); try go_wp2)
     go_ret
     exact ⟨by first | rfl | (simp; done) | (simp [*]; done), by repeat (first | exact Drawn0.refl _ | apply Drawn0.step)⟩
 ·rw [if_neg c3] at H
  have c3b0 : ((l0.length : Int) == (l1.length : Int)) = false := beq_eq_false_iff_ne.mpr c3
  have c3b1 : ((l0.length : Int) != (l1.length : Int)) = true := bne_iff_ne.mpr c3
  have c3b2 : (l0.length == l1.length) = false := by first | simpa using c3 | (simp at c3 ⊢; omega)
  obtain rfl := Option.some.inj H
  go_enter Try.func33, Try.ntmps33
  go_wp2
  repeat (go_quiet (fail); try go_wp2)
  go_ret
  exact ⟨by first | rfl | (simp; done) | (simp [*]; done), by repeat (first | exact Drawn0.refl _ | apply Drawn0.step)⟩
def laws_eqWords.f (k : Nat) (a0_0 : Int) (l0_1 : List Int) (a1_0 : Int) (l1_1 : List Int) : Option (Bool) := if a0_0 = a1_0 then ((laws_eqByteS.f k l0_1 l1_1).bind fun t198 => (if t198 = true then (some true) else (some false))) else (some false)
theorem laws_eqWords.mono : ∀ a0 a1 a2 a3 k, LeO (laws_eqWords.f k a0 a1 a2 a3) (laws_eqWords.f (k + 1) a0 a1 a2 a3) := by
 intro a0 a1 a2 a3 k
 unfold laws_eqWords.f
 repeat' first | (with_reducible first | apply laws_eqByteS.mono | exact LeO.refl _ | exact LeO.none _ | refine LeO.ite ?_ ?_ | refine LeO.bind ?_ fun _ => ?_) | apply laws_eqByteS.mono | exact LeO.none _ | refine LeO.ite ?_ ?_ | refine LeO.bind ?_ fun _ => ?_
set_option maxHeartbeats 8000000 in
set_option maxRecDepth 100000 in
theorem laws_eqWords.calls (k : Nat) (a0_0 : Int) (A0_1 : Option Addr) (c0_1 : Nat) (l0_1 : List Int) (a1_0 : Int) (A1_1 : Option Addr) (c1_1 : Nat) (l1_1 : List Int) (r : Bool) (w : World) (hr0_1 : Kd.C (Kd.int .u8) w A0_1 l0_1.length l0_1) (hc0_1 : l0_1.length ≤ c0_1) (hr1_1 : Kd.C (Kd.int .u8) w A1_1 l1_1.length l1_1) (hc1_1 : l1_1.length ≤ c1_1) (h : laws_eqWords.f k a0_0 l0_1 a1_0 l1_1 = some r) :
  Calls Try.prog 38 #[.agg #[.int .i64 a0_0, .slice A0_1 l0_1.length c0_1], .agg #[.int .i64 a1_0, .slice A1_1 l1_1.length c1_1]] w fun e w' => e = .returned (.bool r) ∧ Below w.heap.size w w' := by
 have hu41 := Try.underlying41; have HR0_1 := Aside0.mk hr0_1; have HC0_1 := Aside0.mk hc0_1; clear hr0_1 hc0_1; have HR1_1 := Aside0.mk hr1_1; have HC1_1 := Aside0.mk hc1_1; clear hr1_1 hc1_1
 have HB := Aside0.mk (Below.refl w.heap.size w)
 have H : (if a0_0 = a1_0 then ((laws_eqByteS.f k l0_1 l1_1).bind fun t198 => (if t198 = true then (some true) else (some false))) else (some false)) = some r := h
 clear h
 by_cases c3 : a0_0 = a1_0
 ·rw [if_pos c3] at H
  have c3b0 : (a0_0 == a1_0) = true := beq_iff_eq.mpr c3
  have c3b1 : (a0_0 != a1_0) = false := bne_eq_false_iff_eq.mpr c3
  clear c3
  replace H := Option.bind_eq_some_iff.mp H
  obtain ⟨t198, A40, H⟩ := H
  (try dsimp only at H)
  have A4 := Aside0.mk A40; clear A40
  by_cases c5 : t198 = true
  ·subst c5
   rw [if_pos rfl] at H
   obtain rfl := Option.some.inj H
   go_enter Try.func38, Try.ntmps38
   go_wp2_with (first | ((with_reducible refine gate_dst (N := 2) rfl ?_); refine box_ (N := 2) (cs := #[.int .i64 a0_0, .slice A0_1 l0_1.length c0_1]) (t := 41) (fun gb196 hg w6 hbox hb => ?_); have BK196 := Aside0.mk (hbox); have GW196 := ge_ hg HB; have GE196 := ge_ hg HB; replace HB := (bs_ HB hb); clear hb hbox hg) | ((with_reducible refine gate_dst (N := 3) rfl ?_); refine box_ (N := 3) (cs := #[.int .i64 a1_0, .slice A1_1 l1_1.length c1_1]) (t := 41) (fun gb197 hg w7 hbox hb => ?_); have BK197 := Aside0.mk (hbox); have GW197 := ge_ hg HB; have GE197 := ge_ hg HB; replace HB := (bs_ HB hb); have NB196_197 := nl_ hg BK196; have NB197_196 := ng_ hg BK196; replace BK196 := (bbA_ BK196 hb); clear hb hbox hg; have hnb8 := NB196_197.out; have hnc8 := NB197_196.out; have Z9 := zz2 BK196; have Z10 := zz2 BK197) | ((with_reducible refine gate_callee (f := 33) rfl ?_); refine goesL_ (some 14) rfl rfl Try.func33 (by kernel_rfl) rfl #[.slice A0_1 l0_1.length c0_1, .slice A1_1 l1_1.length c1_1] rfl ar_ ?_; (with_reducible refine (laws_eqByteS.calls k _ _ l0_1 _ _ l1_1 true _ ?side1 ?side2 ?side3 ?side4 A4.out).mono ?_); (case side1 => exact kC_ (Kd.C_below HR0_1.out HB.out)); (case side2 => exact HC0_1.out); (case side3 => exact kC_ (Kd.C_below HR1_1.out HB.out)); (case side4 => exact HC1_1.out); rintro e w' ⟨rfl, ⟨nd, rfl⟩⟩; refine ⟨_, rfl, ?_⟩))
   go_ret
   exact ⟨by first | rfl | (simp [errW_none, errW_some] <;> rfl) | (simp [*, errW_none, errW_some] <;> rfl), hbA_ HB.out⟩
  ·replace c5 := Bool.eq_false_iff.mpr c5
   subst c5
   rw [if_neg (show ¬ (false = true) by decide)] at H
   obtain rfl := Option.some.inj H
   go_enter Try.func38, Try.ntmps38
   go_wp2_with (first | ((with_reducible refine gate_dst (N := 2) rfl ?_); refine box_ (N := 2) (cs := #[.int .i64 a0_0, .slice A0_1 l0_1.length c0_1]) (t := 41) (fun gb196 hg w11 hbox hb => ?_); have BK196 := Aside0.mk (hbox); have GW196 := ge_ hg HB; have GE196 := ge_ hg HB; replace HB := (bs_ HB hb); clear hb hbox hg) | ((with_reducible refine gate_dst (N := 3) rfl ?_); refine box_ (N := 3) (cs := #[.int .i64 a1_0, .slice A1_1 l1_1.length c1_1]) (t := 41) (fun gb197 hg w12 hbox hb => ?_); have BK197 := Aside0.mk (hbox); have GW197 := ge_ hg HB; have GE197 := ge_ hg HB; replace HB := (bs_ HB hb); have NB196_197 := nl_ hg BK196; have NB197_196 := ng_ hg BK196; replace BK196 := (bbA_ BK196 hb); clear hb hbox hg; have hnb13 := NB196_197.out; have hnc13 := NB197_196.out; have Z14 := zz2 BK196; have Z15 := zz2 BK197) | ((with_reducible refine gate_callee (f := 33) rfl ?_); refine goesL_ (some 14) rfl rfl Try.func33 (by kernel_rfl) rfl #[.slice A0_1 l0_1.length c0_1, .slice A1_1 l1_1.length c1_1] rfl ar_ ?_; (with_reducible refine (laws_eqByteS.calls k _ _ l0_1 _ _ l1_1 false _ ?side1 ?side2 ?side3 ?side4 A4.out).mono ?_); (case side1 => exact kC_ (Kd.C_below HR0_1.out HB.out)); (case side2 => exact HC0_1.out); (case side3 => exact kC_ (Kd.C_below HR1_1.out HB.out)); (case side4 => exact HC1_1.out); rintro e w' ⟨rfl, ⟨nd, rfl⟩⟩; refine ⟨_, rfl, ?_⟩))
   go_ret
   exact ⟨by first | rfl | (simp [errW_none, errW_some] <;> rfl) | (simp [*, errW_none, errW_some] <;> rfl), hbA_ HB.out⟩
 ·rw [if_neg c3] at H
  have c3b0 : (a0_0 == a1_0) = false := beq_eq_false_iff_ne.mpr c3
  have c3b1 : (a0_0 != a1_0) = true := bne_iff_ne.mpr c3
  obtain rfl := Option.some.inj H
  go_enter Try.func38, Try.ntmps38
  go_wp2_with (first | ((with_reducible refine gate_dst (N := 2) rfl ?_); refine box_ (N := 2) (cs := #[.int .i64 a0_0, .slice A0_1 l0_1.length c0_1]) (t := 41) (fun gb196 hg w16 hbox hb => ?_); have BK196 := Aside0.mk (hbox); have GW196 := ge_ hg HB; have GE196 := ge_ hg HB; replace HB := (bs_ HB hb); clear hb hbox hg) | ((with_reducible refine gate_dst (N := 3) rfl ?_); refine box_ (N := 3) (cs := #[.int .i64 a1_0, .slice A1_1 l1_1.length c1_1]) (t := 41) (fun gb197 hg w17 hbox hb => ?_); have BK197 := Aside0.mk (hbox); have GW197 := ge_ hg HB; have GE197 := ge_ hg HB; replace HB := (bs_ HB hb); have NB196_197 := nl_ hg BK196; have NB197_196 := ng_ hg BK196; replace BK196 := (bbA_ BK196 hb); clear hb hbox hg; have hnb18 := NB196_197.out; have hnc18 := NB197_196.out; have Z19 := zz2 BK196; have Z20 := zz2 BK197))
  go_ret
  exact ⟨by first | rfl | (simp [errW_none, errW_some] <;> rfl) | (simp [*, errW_none, errW_some] <;> rfl), hbA_ HB.out⟩
end Go.Proofs.Ytegchbdjbefdbaa.PFnExactClientOk
