/- Printed by wip/xp/xprint.sh out of the translation, for this claim: what each function answers, as a plain function, and that the machine does just that. No condition. -/
import Derived.Test.YtegchbdjbefdbaaPFnClientAskx0
import Derived.Test.YtegchbdjbefdbaaPFnClientAskx1
import Derived.Test.YtegchbdjbefdbaaPFnClientAskx2
import Derived.Test.YtegchbdjbefdbaaPFnClientAskx5
import Derived.Test.YtegchbdjbefdbaaPFnClientAskx6
import Derived.Test.YtegchbdjbefdbaaPFnClientAskx7
namespace Go.Proofs.Ytegchbdjbefdbaa.PFnClientAsk
open Go.RowKit Go.Proofs.YtegchbdjbefdbaaW.PrintWords Go.Proofs.YtegchbdjbefdbaaW.PrintLast Go.Proofs.YtegchbdjbefdbaaW.PrintMore
attribute [local go_sem] max2_int min2_int max_two min_two max_three min_three max_four min_four   -- for this text's walks alone
set_option linter.unusedVariables false
set_option linter.unusedSimpArgs false
def impl_WordsFrom.l0 : Nat → List Int → List (S41) → Int → Option ((List (S41)) × Int × Bool)
 | 0, _, _, _ => none
 | k + 1, x0, x5, x6 => if x6 < (x0.length : Int) then (if 0 ≤ x6 then (if (wrap64 (rd x0 x6)) > 9 then (some (x5, x6, false)) else (if (wrap64 ((wrap64 (x6 + 2)) + (wrap64 (rd x0 x6)))) > (x0.length : Int) then (some (x5, x6, true)) else (if 0 ≤ (wrap64 (x6 + 1)) then (if (wrap64 (x6 + 1)) < (x0.length : Int) then (if 0 ≤ (wrap64 (x6 + 2)) then (if (wrap64 (x6 + 2)) ≤ (wrap64 ((wrap64 (x6 + 2)) + (wrap64 (rd x0 x6)))) then (if (wrap64 ((wrap64 (x6 + 2)) + (wrap64 (rd x0 x6)))) ≤ (x0.length : Int) then ((impl_clone_byte.f ((x0.take ((wrap64 ((wrap64 (x6 + 2)) + (wrap64 (rd x0 x6)))) : Int).toNat).drop ((wrap64 (x6 + 2)) : Int).toNat)).bind fun t504 => (if x5.length < 4398046511104 then (impl_WordsFrom.l0 k x0 (x5 ++ [(⟨wrap64 (rd x0 (wrap64 (x6 + 1))), t504⟩ : S41)]) (wrap64 (x6 + (wrap64 (2 + (wrap64 (rd x0 x6))))))) else (none))) else (none)) else (none)) else (none)) else (none)) else (none)))) else (none)) else (some (x5, x6, true))
def impl_WordsFrom.f (k : Nat) (l0 : List Int) : Option ((List (S41)) × Int × Bool) := impl_WordsFrom.l0 k l0 ([] : List (S41)) 0
theorem impl_WordsFrom.mono_l : ∀ k, (∀ y0 y1 y2, LeO (impl_WordsFrom.l0 k y0 y1 y2) (impl_WordsFrom.l0 (k + 1) y0 y1 y2))
 | 0 => fun _ _ _ r h => by simp [impl_WordsFrom.l0] at h
 | k + 1 => by
  have ih0 := impl_WordsFrom.mono_l k
  ·intro y0 y1 y2
   unfold impl_WordsFrom.l0
   repeat' first | (with_reducible first | apply ih0 | exact LeO.refl _ | exact LeO.none _ | refine LeO.ite ?_ ?_ | refine LeO.bind ?_ fun _ => ?_) | apply ih0 | exact LeO.none _ | refine LeO.ite ?_ ?_ | refine LeO.bind ?_ fun _ => ?_
theorem impl_WordsFrom.mono : ∀ a0 k, LeO (impl_WordsFrom.f k a0) (impl_WordsFrom.f (k + 1) a0) := by
 intro a0 k
 have ih0 := impl_WordsFrom.mono_l k
 unfold impl_WordsFrom.f
 repeat' first | (with_reducible first | apply ih0 | exact LeO.refl _ | exact LeO.none _ | refine LeO.ite ?_ ?_ | refine LeO.bind ?_ fun _ => ?_) | apply ih0 | exact LeO.none _ | refine LeO.ite ?_ ?_ | refine LeO.bind ?_ fun _ => ?_
def impl_WordsFrom.T8 : Bool × List (List Nat × List Nat) := (true, [([], []), ([], []), ([], []), ([2], [2]), ([1, 3], [1, 3]), ([4], [4]), ([5], [5]), ([], []), ([], []), ([8], [8]), ([], []), ([10], [10]), ([], []), ([11, 12], [11, 12]), ([7, 9, 13], [7, 9, 13]), ([14], [14]), ([6, 15], [6, 15]), ([16], [16]), ([0, 17, 15], [0, 17]), ([18, 18, 0, 1, 2, 3, 4, 5, 6, 7, 8, 9, 10, 11, 12, 13, 14, 15, 16, 17, 18], [0, 18])])
def impl_WordsFrom.B8 : List Nat := [0, 0, 0, 4, 14, 30, 62, 0, 0, 256, 0, 1024, 0, 7168, 16256, 32640, 65534, 131070, 262143, 524287]
theorem impl_WordsFrom.tab8 : rtab .any (opsOf Try.f29 8) = impl_WordsFrom.T8 := by kernel_rfl
theorem impl_WordsFrom.bits8 : waitsOk impl_WordsFrom.T8.2 impl_WordsFrom.B8 = true := by kernel_rfl
set_option maxHeartbeats 8000000 in
set_option maxRecDepth 100000 in
theorem impl_WordsFrom.calls (k : Nat) (A0 : Option Addr) (c0 : Nat) (l0 : List Int) (r1 : List (S41)) (r2 : Int) (r3 : Bool) (w : World) (hr0 : Kd.C (Kd.int .u8) w A0 l0.length l0) (hc0 : l0.length ≤ c0) (h : impl_WordsFrom.f k l0 = some (r1, r2, r3)) :
  Calls Try.prog 29 #[.slice A0 l0.length c0] w fun e w' => ∃ v0_ : Value, e = .returned (.tuple #[v0_, .int .i64 r2, .bool r3]) ∧ Kd.S k41 41 w' w.heap.size (fun _ => True) v0_ r1 ∧ Below w.heap.size w w' := by
 have hu41 := Try.underlying41; have HR0 := Aside0.mk hr0; have HC0 := Aside0.mk hc0; clear hr0 hc0
 have HB := Aside0.mk (Below.refl w.heap.size w)
 have H : (impl_WordsFrom.l0 k l0 ([] : List (S41)) 0) = some (r1, r2, r3) := h
 clear h
 have H' := Aside0.mk H
 clear H
 go_enter Try.func29, Try.ntmps29
 go_wp2
 go_loopg [5, 6] k (fun kq v5 v6 w' => ∃ (x5_1 : List (S41)) (x6_1 : Int), v6 = .int .i64 x6_1 ∧ Aside0 (impl_WordsFrom.l0 kq l0 x5_1 x6_1 = some (r1, r2, r3)) ∧ Aside0 (kq ≤ k) ∧ Aside0 (Kd.S k41 41 w' w.heap.size (fun _ => True) v5 x5_1) ∧ Aside0 (Below w.heap.size w w'))
 case atStart => exact ⟨(([] : List (S41))), (0), (by first | rfl | (simp; done) | (simp [*]; done)), H', ⟨Nat.le_refl _⟩, ⟨by first | exact Kd.S_nil _ _ _ _ _ | exact Kd.N_nil _ _ _ _ _ | exact Kd.V_nil _ _ _ _ _ | exact Kd.Q_nil _ _ _ _ _ | exact Kd.R_nil _ _ _ _ _⟩, ⟨hbA_ HB.out⟩⟩
 case round =>
  clear H'
  obtain ⟨x5_1, x6_1, rfl, HA, HK1, HO_5, HB⟩ := hrel
  cases gk with
  | zero => exact absurd HA.out (by simp [impl_WordsFrom.l0])
  | succ k1 =>
   have H := HA.out; clear HA
   simp only [impl_WordsFrom.l0] at H
   by_cases c2 : x6_1 < (l0.length : Int)
   ·rw [if_pos c2] at H
    have c2b0 : decide (x6_1 < (l0.length : Int)) = true := decide_eq_true c2
    clear c2
    by_cases c3 : 0 ≤ x6_1
    ·rw [if_pos c3] at H
     have c3b0 : decide (0 ≤ x6_1) = true := decide_eq_true c3
     clear c3
     by_cases c4 : (wrap64 (rd l0 x6_1)) > 9
     ·rw [if_pos c4] at H
      have c4b0 : decide (9 < (wrap64 (rd l0 x6_1))) = true := decide_eq_true c4
      clear c4
      simp only [Option.some.injEq, Prod.mk.injEq] at H
      obtain ⟨rfl, rfl, rfl⟩ := H
      have p497 : 0 ≤ (x6_1 : Int) := of_decide_eq_true (by first | (with_reducible assumption) | assumption)
      have q497 : x6_1 < (l0.length : Int) := of_decide_eq_true (by first | (with_reducible assumption) | assumption)
      obtain ⟨ad497, e497, hx497_0⟩ := Kd.at_int HR0.out x6_1 p497 q497
      cases e497
      replace hx497_0 := cc_ HB hx497_0
      replace p497 := eq_true p497
      replace q497 := eq_true q497
      obtain ⟨Ao5, co5, eo5⟩ := Kd.S_slice HO_5.out
      subst eo5
      have hq6 := (Kd.S_reads' HO_5.out).2.1
      have hr6 := Aside0.mk (Kd.S_clip HO_5.out (Nat.le_refl _) hq6)
      clear HO_5; have HO499 := hr6; clear hr6
      go_wp2_with (first | (go_at_call 65; (with_reducible refine (impl_Words.calls _ _ _ _ hq6).mono ?_); rintro e w' ⟨rfl, rfl⟩))
      go_ret3
      exact ⟨_, by first | rfl | (simp [errW_none, errW_some] <;> rfl) | (simp [*, errW_none, errW_some] <;> rfl), by refine kS_ ?_; exact HO499.out, hbA_ HB.out⟩
     ·rw [if_neg c4] at H
      have c4b0 : decide (9 < (wrap64 (rd l0 x6_1))) = false := decide_eq_false c4
      clear c4
      by_cases c7 : (wrap64 ((wrap64 (x6_1 + 2)) + (wrap64 (rd l0 x6_1)))) > (l0.length : Int)
      ·rw [if_pos c7] at H
       have c7b0 : decide ((l0.length : Int) < (wrap64 ((wrap64 (x6_1 + 2)) + (wrap64 (rd l0 x6_1))))) = true := decide_eq_true c7
       clear c7
       simp only [Option.some.injEq, Prod.mk.injEq] at H
       obtain ⟨rfl, rfl, rfl⟩ := H
       have p497 : 0 ≤ (x6_1 : Int) := of_decide_eq_true (by first | (with_reducible assumption) | assumption)
       have q497 : x6_1 < (l0.length : Int) := of_decide_eq_true (by first | (with_reducible assumption) | assumption)
       obtain ⟨ad497, e497, hx497_0⟩ := Kd.at_int HR0.out x6_1 p497 q497
       cases e497
       replace hx497_0 := cc_ HB hx497_0
       replace p497 := eq_true p497
       replace q497 := eq_true q497
       obtain ⟨Ao8, co8, eo8⟩ := Kd.S_slice HO_5.out
       subst eo8
       have hq9 := (Kd.S_reads' HO_5.out).2.1
       have hr9 := Aside0.mk (Kd.S_clip HO_5.out (Nat.le_refl _) hq9)
       clear HO_5; have HO501 := hr9; clear hr9
       go_wp2_with (first | (go_at_call 65; (with_reducible refine (impl_Words.calls _ _ _ _ hq9).mono ?_); rintro e w' ⟨rfl, rfl⟩))
       go_ret3
       exact ⟨_, by first | rfl | (simp [errW_none, errW_some] <;> rfl) | (simp [*, errW_none, errW_some] <;> rfl), by refine kS_ ?_; exact HO501.out, hbA_ HB.out⟩
      ·rw [if_neg c7] at H
       have c7b0 : decide ((l0.length : Int) < (wrap64 ((wrap64 (x6_1 + 2)) + (wrap64 (rd l0 x6_1))))) = false := decide_eq_false c7
       clear c7
       obtain ⟨ji10, hji10⟩ : ∃ j_ : Int, (wrap64 (x6_1 + 1)) = j_ := ⟨_, rfl⟩
       (first | rw [hji10] at H | simp only [hji10] at H)
       have hji10w : (IntKind.i64.wrap (x6_1 + 1)) = ji10 := (i64_w _).trans hji10
       by_cases c11 : 0 ≤ (ji10)
       ·rw [if_pos c11] at H
        have c11b0 : decide (0 ≤ (ji10)) = true := decide_eq_true c11
        clear c11
        by_cases c12 : (ji10) < (l0.length : Int)
        ·rw [if_pos c12] at H
         have c12b0 : decide ((ji10) < (l0.length : Int)) = true := decide_eq_true c12
         clear c12
         obtain ⟨ji13, hji13⟩ : ∃ j_ : Int, (wrap64 (x6_1 + 2)) = j_ := ⟨_, rfl⟩
         (first | rw [hji13] at H | simp only [hji13] at H)
         (try rw [hji13] at c7b0)
         have hji13w : (IntKind.i64.wrap (x6_1 + 2)) = ji13 := (i64_w _).trans hji13
         by_cases c14 : 0 ≤ (ji13)
         ·rw [if_pos c14] at H
          have c14b0 := eq_true c14
          have c14b1 : decide (0 ≤ (ji13)) = true := decide_eq_true c14
          clear c14
          by_cases c15 : (ji13) ≤ (wrap64 ((ji13) + (wrap64 (rd l0 x6_1))))
          ·rw [if_pos c15] at H
           have c15b0 := eq_true c15
           have c15b1 : decide ((ji13) ≤ (wrap64 ((ji13) + (wrap64 (rd l0 x6_1))))) = true := decide_eq_true c15
           by_cases c16 : (wrap64 ((ji13) + (wrap64 (rd l0 x6_1)))) ≤ (l0.length : Int)
           ·rw [if_pos c16] at H
            have c16b0 := eq_true c16
            have c16b1 : decide ((wrap64 ((ji13) + (wrap64 (rd l0 x6_1)))) ≤ (l0.length : Int)) = true := decide_eq_true c16
            replace H := Option.bind_eq_some_iff.mp H
            obtain ⟨t504, A170, H⟩ := H
            (try dsimp only at H)
            have A17 := Aside0.mk A170; clear A170
            by_cases c18 : x5_1.length < 4398046511104
            ·rw [if_pos c18] at H
             have LMc18 := Aside0.mk c18; clear c18
             obtain ⟨y507, hy507⟩ : ∃ y_ : List (S41), y_ = (x5_1 ++ [(⟨wrap64 (rd l0 (ji10)), t504⟩ : S41)]) := ⟨_, rfl⟩
             (first | replace H := sb_ hy507 H | rw [← hy507] at H)
             have Ny507 := Aside0.mk hy507; clear hy507
             have H' := Aside0.mk H
             clear H
             have p497 : 0 ≤ (x6_1 : Int) := of_decide_eq_true (by first | (with_reducible assumption) | assumption)
             have q497 : x6_1 < (l0.length : Int) := of_decide_eq_true (by first | (with_reducible assumption) | assumption)
             obtain ⟨ad497, e497, hx497_0⟩ := Kd.at_int HR0.out x6_1 p497 q497
             cases e497
             replace hx497_0 := cc_ HB hx497_0
             replace p497 := eq_true p497
             replace q497 := eq_true q497
             try go_wp2
             replace HO_5 := Aside0.mk (Kd.S_drew HO_5.out); replace HB := (bd_ HB)
             have p502 : 0 ≤ ((ji10) : Int) := of_decide_eq_true (by first | (with_reducible assumption) | assumption)
             have q502 : (ji10) < (l0.length : Int) := of_decide_eq_true (by first | (with_reducible assumption) | assumption)
             obtain ⟨ad502, e502, hx502_0⟩ := Kd.at_int HR0.out (ji10) p502 q502
             have hw502_0 := hx502_0
             obtain rfl : ad497 = ad502 := (by injection e502)
             replace hx502_0 := cc_ HB hx502_0
             replace p502 := eq_true p502
             replace q502 := eq_true q502
             obtain ⟨i020, hi020, _, hsz20, _⟩ := info_parts info5
             obtain ⟨A20, hcut20, hA20, hC20⟩ := print_mid_of (P := Try.prog) (Value.int .u8) 0 34 5 .i64 .i64 Try.underlying34 hi020 hsz20 (some ad497) c0 l0 (ji13) (wrap64 ((ji13) + (wrap64 (rd l0 x6_1)))) (of_decide_eq_true (by first | (with_reducible assumption) | assumption)) (by first | omega | exact of_decide_eq_true (by first | (with_reducible assumption) | assumption)) (of_decide_eq_true (by first | (with_reducible assumption) | assumption)) HC0.out
             have HR503 := Aside0.mk (Kd.C_of_reads (h1 := fun _ => rfl) (hA20 _ (Kd.reads_of_C HR0.out)))
             have HC503 := Aside0.mk hC20; clear hA20 hC20 hi020 hsz20
             refine start_ (n := 20) (S := fun w' => w'.cell? (ad497.add ((ji10)).toNat) = some (.int .u8 (rd l0 (ji10)))) (ds := []) #[false, false, false, false, false, false, false, false, false, false, false, false, false, false, false, false, false, false, false, false] (by kernel_rfl) rfl rfl ((cc_ HB hw502_0)) (fun hHeld => ?_); refine with_tabW impl_WordsFrom.tab8 impl_WordsFrom.bits8 (fun HT_ HW_ => ?_)
             generalize wr.drew = w19 at HO_5 HB HR503 hx502_0 hHeld ⊢
             refine pu_ (i := 0) (N := some 29) HT_ ?_; refine pu_ (i := 1) (N := some 30) HT_ ?_; refine pu_ (i := 2) (N := some 31) HT_ ?_; refine pu_ (i := 3) (N := some 32) HT_ ?_; refine pu_ (i := 4) (N := some 33) HT_ ?_; refine pu_ (i := 7) (N := some 36) HT_ ?_; refine pu_ (i := 8) (N := some 37) HT_ ?_; refine pu_ (i := 9) (N := some 38) HT_ ?_; refine pu_ (i := 10) (N := some 39) HT_ ?_; refine pu_ (i := 11) (N := some 40) HT_ ?_; refine pu_ (i := 12) (N := some 41) HT_ ?_; refine pu_ (i := 13) (N := some 42) HT_ ?_; refine pu_ (i := 14) (N := some 43) HT_ ?_; refine tk_ (i := 5) (N := some 34) HT_ HW_ hHeld ?_; refine pu_ (i := 6) (N := some 35) HT_ ?_
             refine on_ (i := 15) (N := some 44) HT_ (fun K hK => ?_)
             refine goes_ Try.func66 (by kernel_rfl) rfl #[.slice A20 ((l0.take ((wrap64 ((ji13) + (wrap64 (rd l0 x6_1)))) : Int).toNat).drop ((ji13) : Int).toNat).length (c0 - (ji13).toNat)] (by rfl) rfl rfl (by (try simp only [List.map_toArray, List.map_cons, List.map_nil]); first | done | (rw [show ((l0.take ((wrap64 ((ji13) + (wrap64 (rd l0 x6_1)))) : Int).toNat).drop ((ji13) : Int).toNat).length = ((wrap64 ((ji13) + (wrap64 (rd l0 x6_1)))).toNat - (ji13).toNat) from (by rw [List.length_drop, List.length_take]; have h_ : ((wrap64 ((ji13) + (wrap64 (rd l0 x6_1)))) : Int) ≤ (l0.length : Int) := of_decide_eq_true (by first | (with_reducible assumption) | assumption); omega)] <;> rfl) | (simp only [hji13]; rfl) | rfl | (simp only [List.length_drop, List.length_take]; rfl)) ?_
             with_reducible refine (impl_clone_byte.calls _ _ ((l0.take ((wrap64 ((ji13) + (wrap64 (rd l0 x6_1)))) : Int).toNat).drop ((ji13) : Int).toNat) t504 _ ?side1 ?side2 A17.out).mono ?_
             (case side1 => exact kC_ (Kd.C_below HR503.out HB.out))
             (case side2 => exact HC503.out)
             rintro e w21 ⟨v505, rfl, ho0, hb⟩
             refine ⟨_, rfl, ?_⟩
             replace HO_5 := Aside0.mk (Kd.S_elder' (kS_ HO_5.out) (Kd.R_base ho0) hb); have HO506 := Aside0.mk (Kd.R_lower ho0 (below_size (hbA_ HB.out))); replace HB := (bs_ HB hb); (try clear hb); (try clear hb2); (try clear hk); (try clear hi); (try clear ho0)
             obtain ⟨Ao22, co22, eo22⟩ := Kd.R_slice HO506.out
             (first | subst eo22 | (injection eo22 with f1_ f2_ f3_; have f4_ := f1_.symm; have f5_ := f3_.symm; clear f1_ f2_ f3_; subst f4_; subst f5_))
             refine hK.out _ _ ((cc_ HB hw502_0)) (fun hHeld => ?_)
             clear hK K; refine nm_ 44 ?_; refine pu_ (i := 16) (N := some 45) HT_ ?_
             refine on_ (i := 17) (N := some 46) HT_ (fun K hK => ?_)
             refine value_ (w1 := ?_) (v := ?_) (by rfl) rfl ?_ ?_
             rotate_left 2
             ·go_simp
              constructor
              ·rfl
              ·rfl
             refine hK.out _ _ ((World.cell?_alloc_lt _ _ _ (World.block_lt_of_cell? _ _ ((cc_ HB hw502_0)))).trans ((cc_ HB hw502_0))) (fun hHeld => ?_)
             clear hK K; refine nm_ 46 ?_
             refine on_ (i := 18) (N := some 47) HT_ (fun K hK => ?_)
             refine Kd.S_append_step k41 (w0 := w) w.heap.size (by rfl) (.tmp 29) (.tmp 46) 28 41 (.agg #[(.int .i64 0), (.slice none 0 0)]) 32 rfl Try.underlying28 info41 rfl (by decide) (by omega) u5 x5_1 (⟨wrap64 (rd l0 (ji10)), t504⟩ : S41) [.int .i64 (wrap64 (rd l0 (ji10))), .slice Ao22 t504.length co22] (fun _ => True) (fun k_ => some k_ = (.slice Ao22 t504.length co22 : Value).ownBlock) rfl rfl ?aP (fun k_ hk_ => ((Kd.R_mono (ok' := fun k_ => ((fun _ => True)) k_ ∧ some k_ ≠ (u5 : Value).ownBlock) (Kd.R_apart' (HO506.out) (Kd.S_typed HO_5.out) (by decide)) (fun k_ hk => ⟨trivial, hk.2⟩))).1 k_ hk_.symm) ?aF ?aO ?aB ?aS ?aL ?_
             (case aP => exact k41_mkM _ _ _ (⟨wrap64 (rd l0 (ji10)), t504⟩ : S41) (Kd.R_mono (Kd.R_tight rfl (Kd.R_mono (ok' := fun k_ => ((fun _ => True)) k_ ∧ some k_ ≠ (u5 : Value).ownBlock) (Kd.R_apart' (HO506.out) (Kd.S_typed HO_5.out) (by decide)) (fun k_ hk => ⟨trivial, hk.2⟩))) (fun _ h_ => h_)))
             (case aB => exact (hbA_ HB.out))
             (case aF => exact (fun _ _ => trivial))
             (case aO => exact (by refine kS_ ?_; exact Kd.S_mono HO_5.out (fun k_ hk => ⟨trivial, fun e_ => hk.2 e_⟩)))
             (case aS => exact (below_size (hbA_ HB.out)))
             (case aL => have := LMc18.out; omega)
             intro v508 w23 ho hb hg hat
             rw [← Ny507.out] at ho
             have n0_ := Aside0.mk (hb); have n1_ := Aside0.mk (ho); clear HB HO_5 HO506; have HB := n0_; have HO509 := n1_; clear n0_ n1_ ho hb hg hat
             refine hK.out _ _ ((cc_ HB hw502_0)) (fun hHeld => ?_)
             clear hK K; refine nm_ 47 ?_; refine pu_ (i := 19) (N := some 5) HT_ ?_
             refine done_ (done_of HT_.out (by kernel_rfl)) ?_
             try go_wp2
             go_roundg k1
             case measure => have := HK1.out; omega
             case rel => exact ⟨(y507), (wrap64 (x6_1 + (wrap64 (2 + (wrap64 (rd l0 x6_1)))))), (by first | rfl | (simp; done) | (simp [*]; done)), H', ⟨by have := HK1.out; omega⟩, ⟨by refine kS_ ?_; exact HO509.out⟩, ⟨hbA_ HB.out⟩⟩
            ·rw [if_neg c18] at H
             exact absurd H (by simp)
           ·rw [if_neg c16] at H
            exact absurd H (by simp)
          ·rw [if_neg c15] at H
           exact absurd H (by simp)
         ·rw [if_neg c14] at H
          exact absurd H (by simp)
        ·rw [if_neg c12] at H
         exact absurd H (by simp)
       ·rw [if_neg c11] at H
        exact absurd H (by simp)
    ·rw [if_neg c3] at H
     exact absurd H (by simp)
   ·rw [if_neg c2] at H
    have c2b0 : decide (x6_1 < (l0.length : Int)) = false := decide_eq_false c2
    clear c2
    simp only [Option.some.injEq, Prod.mk.injEq] at H
    obtain ⟨rfl, rfl, rfl⟩ := H
    obtain ⟨Ao24, co24, eo24⟩ := Kd.S_slice HO_5.out
    subst eo24
    have hq25 := (Kd.S_reads' HO_5.out).2.1
    have hr25 := Aside0.mk (Kd.S_clip HO_5.out (Nat.le_refl _) hq25)
    clear HO_5; have HO496 := hr25; clear hr25
    go_wp2_with (first | (go_at_call 65; (with_reducible refine (impl_Words.calls _ _ _ _ hq25).mono ?_); rintro e w' ⟨rfl, rfl⟩))
    go_ret3
    exact ⟨_, by first | rfl | (simp [errW_none, errW_some] <;> rfl) | (simp [*, errW_none, errW_some] <;> rfl), by refine kS_ ?_; exact HO496.out, hbA_ HB.out⟩
def laws_FnClientAsk.j0 : Nat → List Int → List Int → Bool → Bool → Int → List Int → List (S41) → List Int → Int → List Int → List (S41) → List Int → Option (Bool)
 | 0, _, _, _, _, _, _, _, _, _, _, _, _ => none
 | k + 1, x4, x6, x7, x50, x524000, x524001, x524002, x524003, x539000, x539001, x539002, x539003 => if x50 = true then (some false) else (if x7 = true then ((impl_WordsFrom.f k x6).bind fun bt557 => ((impl_ClientOk.f k x539000 x539001 x539002 x539003).bind fun t562 => (if t562 = true then (if (bt557.1.length : Int) = 1 then (if 0 < (bt557.1.length : Int) then (if ((rd_T41 bt557.1 0).f0) = x524000 then ((laws_sameBytes.f ((rd_T41 bt557.1 0).f1) x4).bind fun t565 => (if t565 = true then ((laws_hasInt.f k x539001 x524000).bind fun t566 => (if t566 = true then (some (x539000 == (wrap64 (x524000 + 1)))) else (some false))) else (some false))) else (some false)) else (none)) else (some false)) else (some false)))) else (if (x6.length : Int) = 0 then ((laws_alive.f k).bind fun t556 => (some t556)) else (some false)))
def laws_FnClientAsk.f (k : Nat) (l0 : List Int) : Option (Bool) := if (l0.length : Int) > 1048576 then (some true) else ((spec_DrawClientAsk.f k l0).bind fun bt510 => ((impl_ClientAsk.f k bt510.1 bt510.2.1 bt510.2.2.1 bt510.2.2.2.1 bt510.2.2.2.2).bind fun bt524 => ((spec_ClientAsk.f k bt510.1 bt510.2.1 bt510.2.2.1 bt510.2.2.2.1 bt510.2.2.2.2).bind fun bt539 => (if (bt524.2.2.2.2.2 != bt539.2.2.2.2.2) = true then (laws_FnClientAsk.j0 k bt510.2.2.2.2 bt524.2.2.2.2.1 bt524.2.2.2.2.2 true bt510.1 bt510.2.1 bt510.2.2.1 bt510.2.2.2.1 bt524.1 bt524.2.1 bt524.2.2.1 bt524.2.2.2.1) else ((laws_sameBytes.f bt524.2.2.2.2.1 bt539.2.2.2.2.1).bind fun t554 => (if t554 = true then ((laws_sameClient.f k bt524.1 bt524.2.1 bt524.2.2.1 bt524.2.2.2.1 bt539.1 bt539.2.1 bt539.2.2.1 bt539.2.2.2.1).bind fun t555 => (laws_FnClientAsk.j0 k bt510.2.2.2.2 bt524.2.2.2.2.1 bt524.2.2.2.2.2 (!t555) bt510.1 bt510.2.1 bt510.2.2.1 bt510.2.2.2.1 bt524.1 bt524.2.1 bt524.2.2.1 bt524.2.2.2.1)) else (laws_FnClientAsk.j0 k bt510.2.2.2.2 bt524.2.2.2.2.1 bt524.2.2.2.2.2 true bt510.1 bt510.2.1 bt510.2.2.1 bt510.2.2.2.1 bt524.1 bt524.2.1 bt524.2.2.1 bt524.2.2.2.1)))))))
theorem laws_FnClientAsk.mono_l : ∀ k, (∀ y0 y1 y2 y3 y4 y5 y6 y7 y8 y9 y10 y11, LeO (laws_FnClientAsk.j0 k y0 y1 y2 y3 y4 y5 y6 y7 y8 y9 y10 y11) (laws_FnClientAsk.j0 (k + 1) y0 y1 y2 y3 y4 y5 y6 y7 y8 y9 y10 y11))
 | 0 => fun _ _ _ _ _ _ _ _ _ _ _ _ r h => by simp [laws_FnClientAsk.j0] at h
 | k + 1 => by
  have ih0 := laws_FnClientAsk.mono_l k
  ·intro y0 y1 y2 y3 y4 y5 y6 y7 y8 y9 y10 y11
   unfold laws_FnClientAsk.j0
   repeat' first | (with_reducible first | apply ih0 | apply impl_ClientAsk.mono | apply impl_ClientOk.mono | apply impl_WordsFrom.mono | apply laws_alive.mono | apply laws_hasInt.mono | apply laws_sameClient.mono | apply spec_ClientAsk.mono | apply spec_DrawClientAsk.mono | exact LeO.refl _ | exact LeO.none _ | refine LeO.ite ?_ ?_ | refine LeO.bind ?_ fun _ => ?_) | apply ih0 | apply impl_ClientAsk.mono | apply impl_ClientOk.mono | apply impl_WordsFrom.mono | apply laws_alive.mono | apply laws_hasInt.mono | apply laws_sameClient.mono | apply spec_ClientAsk.mono | apply spec_DrawClientAsk.mono | exact LeO.none _ | refine LeO.ite ?_ ?_ | refine LeO.bind ?_ fun _ => ?_
theorem laws_FnClientAsk.mono : ∀ a0 k, LeO (laws_FnClientAsk.f k a0) (laws_FnClientAsk.f (k + 1) a0) := by
 intro a0 k
 have ih0 := laws_FnClientAsk.mono_l k
 unfold laws_FnClientAsk.f
 repeat' first | (with_reducible first | apply ih0 | apply impl_ClientAsk.mono | apply impl_ClientOk.mono | apply impl_WordsFrom.mono | apply laws_alive.mono | apply laws_hasInt.mono | apply laws_sameClient.mono | apply spec_ClientAsk.mono | apply spec_DrawClientAsk.mono | exact LeO.refl _ | exact LeO.none _ | refine LeO.ite ?_ ?_ | refine LeO.bind ?_ fun _ => ?_) | apply ih0 | apply impl_ClientAsk.mono | apply impl_ClientOk.mono | apply impl_WordsFrom.mono | apply laws_alive.mono | apply laws_hasInt.mono | apply laws_sameClient.mono | apply spec_ClientAsk.mono | apply spec_DrawClientAsk.mono | exact LeO.none _ | refine LeO.ite ?_ ?_ | refine LeO.bind ?_ fun _ => ?_
def laws_FnClientAsk.T11 : Bool × List (List Nat × List Nat) := (true, [([], []), ([0], [0]), ([1, 1], [1]), ([2], [2]), ([3, 2], [2, 3]), ([4, 2], [2, 4]), ([2, 5], [2, 5]), ([6, 2], [6]), ([7], [7]), ([8, 7], [7, 8]), ([9, 7], [7, 9]), ([10, 7], [7, 10]), ([7], [7]), ([12, 7], [7, 12]), ([11, 13, 7], [7, 11, 13]), ([7, 14], [7, 14]), ([15, 7], [15]), ([16], [16]), ([17, 16], [16, 17]), ([18, 16], [16, 18]), ([19, 16], [16, 19]), ([16], [16]), ([20, 21, 16, 16], [16, 20, 21]), ([16, 22], [16, 22]), ([23, 22], [23]), ([24], [24]), ([25, 24], [24, 25]), ([24], [24]), ([27, 24], [24, 27]), ([26, 28, 24, 24], [24, 26, 28]), ([24, 29], [24, 29]), ([30, 29], [30]), ([31], [31]), ([32, 31], [31, 32]), ([31], [31]), ([34, 31], [31, 34]), ([35, 31], [31, 35]), ([33, 36, 31], [31, 33, 36]), ([31, 37], [31, 37]), ([38, 31, 0, 1, 2, 3, 4, 5, 6, 7, 8, 9, 10, 11, 12, 13, 14, 15, 16, 17, 18, 19, 20, 21, 22, 23, 24, 25, 26, 27, 28, 29, 30, 31, 32, 33, 34, 35, 36, 37, 38], [38])])
def laws_FnClientAsk.B11 : List Nat := [0, 1, 3, 7, 15, 31, 63, 127, 255, 511, 1023, 2047, 255, 4351, 16383, 32767, 65535, 131071, 262143, 524287, 1048575, 131071, 4194303, 8388607, 16777215, 33554431, 67108863, 33554431, 167772159, 536870911, 1073741823, 2147483647, 4294967295, 8589934591, 4294967295, 21474836479, 55834574847, 137438953471, 274877906943, 549755813887]
theorem laws_FnClientAsk.tab11 : rtab .any (opsOf Try.f6 11) = laws_FnClientAsk.T11 := by kernel_rfl
theorem laws_FnClientAsk.bits11 : waitsOk laws_FnClientAsk.T11.2 laws_FnClientAsk.B11 = true := by kernel_rfl
set_option maxHeartbeats 8000000 in
set_option maxRecDepth 100000 in
theorem laws_FnClientAsk.calls (k : Nat) (A0 : Option Addr) (c0 : Nat) (l0 : List Int) (r : Bool) (w : World) (hr0 : Kd.C (Kd.int .u8) w A0 l0.length l0) (hc0 : l0.length ≤ c0) (h : laws_FnClientAsk.f k l0 = some r) (hlw : r = true) :
  Calls Try.prog 6 #[.slice A0 l0.length c0] w fun e w' => e = .returned (.bool r) ∧ Below w.heap.size w w' := by
 have hu30 := Try.underlying30; have HLW := Aside0.mk hlw; clear hlw; have HR0 := Aside0.mk hr0; have HC0 := Aside0.mk hc0; clear hr0 hc0
 have HB := Aside0.mk (Below.refl w.heap.size w)
 have H : (if (l0.length : Int) > 1048576 then (some true) else ((spec_DrawClientAsk.f k l0).bind fun bt510 => ((impl_ClientAsk.f k bt510.1 bt510.2.1 bt510.2.2.1 bt510.2.2.2.1 bt510.2.2.2.2).bind fun bt524 => ((spec_ClientAsk.f k bt510.1 bt510.2.1 bt510.2.2.1 bt510.2.2.2.1 bt510.2.2.2.2).bind fun bt539 => (if (bt524.2.2.2.2.2 != bt539.2.2.2.2.2) = true then (laws_FnClientAsk.j0 k bt510.2.2.2.2 bt524.2.2.2.2.1 bt524.2.2.2.2.2 true bt510.1 bt510.2.1 bt510.2.2.1 bt510.2.2.2.1 bt524.1 bt524.2.1 bt524.2.2.1 bt524.2.2.2.1) else ((laws_sameBytes.f bt524.2.2.2.2.1 bt539.2.2.2.2.1).bind fun t554 => (if t554 = true then ((laws_sameClient.f k bt524.1 bt524.2.1 bt524.2.2.1 bt524.2.2.2.1 bt539.1 bt539.2.1 bt539.2.2.1 bt539.2.2.2.1).bind fun t555 => (laws_FnClientAsk.j0 k bt510.2.2.2.2 bt524.2.2.2.2.1 bt524.2.2.2.2.2 (!t555) bt510.1 bt510.2.1 bt510.2.2.1 bt510.2.2.2.1 bt524.1 bt524.2.1 bt524.2.2.1 bt524.2.2.2.1)) else (laws_FnClientAsk.j0 k bt510.2.2.2.2 bt524.2.2.2.2.1 bt524.2.2.2.2.2 true bt510.1 bt510.2.1 bt510.2.2.1 bt510.2.2.2.1 bt524.1 bt524.2.1 bt524.2.2.1 bt524.2.2.2.1)))))))) = some r := h
 clear h
 by_cases c2 : (l0.length : Int) > 1048576
 ·rw [if_pos c2] at H
  have c2b0 : decide (1048576 < (l0.length : Int)) = true := decide_eq_true c2
  have c2b1 : decide (1048576 < l0.length) = true := decide_eq_true (by omega)
  clear c2
  obtain rfl := Option.some.inj H
  go_enter Try.func6, Try.ntmps6
  go_wp2
  go_ret
  exact ⟨by first | rfl | (simp [errW_none, errW_some] <;> rfl) | (simp [*, errW_none, errW_some] <;> rfl), hbA_ HB.out⟩
 ·rw [if_neg c2] at H
  have c2b0 : decide (1048576 < (l0.length : Int)) = false := decide_eq_false c2
  have c2b1 : decide (1048576 < l0.length) = false := decide_eq_false (by omega)
  clear c2
  replace H := Option.bind_eq_some_iff.mp H
  obtain ⟨⟨t510, t511, t514, t517, t520⟩, A30, H⟩ := H
  (try dsimp only at H)
  have A3 := Aside0.mk A30; clear A30
  replace H := Option.bind_eq_some_iff.mp H
  obtain ⟨⟨t524, t525, t528, t531, t534, t537⟩, A40, H⟩ := H
  (try dsimp only at H)
  have A4 := Aside0.mk A40; clear A40
  replace H := Option.bind_eq_some_iff.mp H
  obtain ⟨⟨t539, t540, t543, t546, t549, t552⟩, A50, H⟩ := H
  (try dsimp only at H)
  have A5 := Aside0.mk A50; clear A50; have HC6 := Aside0.mk H; clear H
  go_enter Try.func6, Try.ntmps6
  go_upto_region 6 with (first | ((with_reducible refine gate_callee (f := 25) rfl ?_); refine goesL_ (some 19) rfl rfl Try.func25 (by kernel_rfl) rfl #[.slice A0 l0.length c0] rfl ar_ ?_; (with_reducible refine (spec_DrawClientAsk.calls k _ _ l0 t510 t511 t514 t517 t520 _ ?side1 ?side2 A3.out).mono ?_); (case side1 => exact kC_ HR0.out); (case side2 => exact HC0.out); rintro e w7 ⟨v512, v515, v518, v521, rfl, ho0, ho1, ho2, ho3, hb⟩; refine ⟨_, rfl, ?_⟩; have HO513 := Aside0.mk (Kd.R_lower ho0 (below_size (hbA_ HB.out))); have HO516 := Aside0.mk (Kd.S_lower ho1 (below_size (hbA_ HB.out))); have HO519 := Aside0.mk (Kd.R_lower ho2 (below_size (hbA_ HB.out))); have HO522 := Aside0.mk (Kd.R_lower ho3 (below_size (hbA_ HB.out))); replace HB := (bs_ HB hb); (try clear hb); (try clear hb2); (try clear hk); (try clear hi); (try clear ho0); (try clear ho1); (try clear ho2); (try clear ho3)) | ((with_reducible refine gate_dst (N := 3) rfl ?_); (try (refine gate_guard (by rfl) ?_; dsimp only)); refine box_ (N := 3) (cs := #[.int .i64 0, .slice none 0 0, .slice none 0 0, .slice none 0 0]) (t := 30) (fun gb523 hg w8 hbox hb => ?_); replace HO513 := Aside0.mk (Kd.R_below (kR_ HO513.out) hb); replace HO516 := Aside0.mk (Kd.S_below (kS_ HO516.out) hb); replace HO519 := Aside0.mk (Kd.R_below (kR_ HO519.out) hb); replace HO522 := Aside0.mk (Kd.R_below (kR_ HO522.out) hb); have BK523 := Aside0.mk (hbox); have GW523 := ge_ hg HB; have GE523 := ge_ hg HB; replace HB := (bs_ HB hb); clear hb hbox hg; have Z9 := zz4 BK523; obtain ⟨Ao10, co10, eo10⟩ := Kd.R_slice HO513.out; subst eo10; obtain ⟨Ao11, co11, eo11⟩ := Kd.S_slice HO516.out; subst eo11; obtain ⟨Ao12, co12, eo12⟩ := Kd.R_slice HO519.out; subst eo12; obtain ⟨Ao13, co13, eo13⟩ := Kd.R_slice HO522.out; subst eo13) | ((with_reducible refine gate_callee (f := 26) rfl ?_); refine goesL_ (some 25) rfl rfl Try.func26 (by kernel_rfl) rfl #[.agg #[.int .i64 t510, .slice Ao10 t511.length co10, .slice Ao11 t514.length co11, .slice Ao12 t517.length co12], .slice Ao13 t520.length co13] rfl ar_ ?_; (with_reducible refine (impl_ClientAsk.calls k t510 _ _ t511 _ _ t514 _ _ t517 _ _ t520 t524 t525 t528 t531 t534 t537 _ ?side1 ?side2 ?side3 ?side4 ?side5 ?side6 ?side7 ?side8 A4.out).mono ?_); (case side1 => refine (Kd.R_reads' (e := 3) (base := w.heap.size) (ok := fun k_ => some k_ ≠ (.slice Ao12 t517.length co12 : Value).ownBlock) (n := t511.length) (c := co10) ?_).2.2; exact (by refine kR_ ?_; exact (rfm_ ((Kd.R_types HO513.out BK523.out (by decide))) (fun _ h_ => op1_ h_)))); (case side2 => exact (Kd.R_reads' HO513.out).2.1); (case side3 => refine (Kd.S_reads' (e := 41) (base := w.heap.size) (ok := fun k_ => some k_ ≠ (.slice Ao13 t520.length co13 : Value).ownBlock) (n := t514.length) (c := co11) ?_).2.2; exact (by refine kS_ ?_; exact (Kd.S_mono (Kd.S_far (p := ⟨gb523, 3, none⟩) (Kd.S_far (p := ⟨gb523, 2, none⟩) (Kd.S_far (p := ⟨gb523, 1, none⟩) (Kd.S_far (p := ⟨gb523, 0, none⟩) (Kd.S_types HO516.out BK523.out (by decide)) (fun _ hk => hk.2) (.int .i64 t510)) (fun _ hk => hk.2) (.slice Ao10 t511.length co10)) (fun _ hk => hk.2) (.slice Ao11 t514.length co11)) (fun _ hk => hk.2) (.slice Ao12 t517.length co12)) (fun _ h_ => op1_ h_)))); (case side4 => exact (Kd.S_reads' HO516.out).2.1); (case side5 => refine (Kd.R_reads' (e := 3) (base := w.heap.size) (ok := fun k_ => some k_ ≠ (.slice Ao10 t511.length co10 : Value).ownBlock) (n := t517.length) (c := co12) ?_).2.2; exact (by refine kR_ ?_; exact (rfm_ ((Kd.R_types HO519.out BK523.out (by decide))) (fun _ h_ => op1_ h_)))); (case side6 => exact (Kd.R_reads' HO519.out).2.1); (case side7 => refine (Kd.R_reads' (e := 5) (base := w.heap.size) (ok := fun k_ => True) (n := t520.length) (c := co13) ?_).2.2; exact (by refine kR_ ?_; exact (rfm_ ((Kd.R_types HO522.out BK523.out (by decide))) (fun _ h_ => op1_ h_)))); (case side8 => exact (Kd.R_reads' HO522.out).2.1); rintro e w14 ⟨v526, v529, v532, v535, rfl, ho0, ho1, ho2, ho3, hb⟩; refine ⟨_, rfl, ?_⟩; have HO527 := Aside0.mk (Kd.R_lower (Kd.R_new' (Kd.R_new' ho0 (Kd.R_lt (by refine kR_ ?_; exact (rfm_ ((Kd.R_types HO513.out BK523.out (by decide))) (fun _ h_ => op1_ h_))))) (Kd.R_lt (by refine kR_ ?_; exact (rfm_ ((Kd.R_types HO519.out BK523.out (by decide))) (fun _ h_ => op1_ h_))))) (below_size (hbA_ HB.out))); have HO530 := Aside0.mk (Kd.S_lower (Kd.S_new' (Kd.S_new' ho1 (Kd.S_lt (by refine kS_ ?_; exact (Kd.S_mono (Kd.S_far (p := ⟨gb523, 3, none⟩) (Kd.S_far (p := ⟨gb523, 2, none⟩) (Kd.S_far (p := ⟨gb523, 1, none⟩) (Kd.S_far (p := ⟨gb523, 0, none⟩) (Kd.S_types HO516.out BK523.out (by decide)) (fun _ hk => hk.2) (.int .i64 t510)) (fun _ hk => hk.2) (.slice Ao10 t511.length co10)) (fun _ hk => hk.2) (.slice Ao11 t514.length co11)) (fun _ hk => hk.2) (.slice Ao12 t517.length co12)) (fun _ h_ => op1_ h_))))) (Kd.R_lt (by refine kR_ ?_; exact (rfm_ ((Kd.R_types HO522.out BK523.out (by decide))) (fun _ h_ => op1_ h_))))) (below_size (hbA_ HB.out))); replace HO516 := Aside0.mk (Kd.S_mono (Kd.S_told (Kd.S_told (Kd.S_old (by refine kS_ ?_; exact (Kd.S_mono (Kd.S_far (p := ⟨gb523, 3, none⟩) (Kd.S_far (p := ⟨gb523, 2, none⟩) (Kd.S_far (p := ⟨gb523, 1, none⟩) (Kd.S_far (p := ⟨gb523, 0, none⟩) (Kd.S_types HO516.out BK523.out (by decide)) (fun _ hk => hk.2) (.int .i64 t510)) (fun _ hk => hk.2) (.slice Ao10 t511.length co10)) (fun _ hk => hk.2) (.slice Ao11 t514.length co11)) (fun _ hk => hk.2) (.slice Ao12 t517.length co12)) (fun _ h_ => op1_ h_))) hb) (Kd.S_base ho1)) (Kd.R_base ho3)) (fun _ h_ => op1_ h_)); have HO533 := Aside0.mk (Kd.R_lower (Kd.R_new' (Kd.R_new' ho2 (Kd.R_lt (by refine kR_ ?_; exact (rfm_ ((Kd.R_types HO513.out BK523.out (by decide))) (fun _ h_ => op1_ h_))))) (Kd.R_lt (by refine kR_ ?_; exact (rfm_ ((Kd.R_types HO519.out BK523.out (by decide))) (fun _ h_ => op1_ h_))))) (below_size (hbA_ HB.out))); replace HO513 := Aside0.mk (Kd.R_mono (Kd.R_told (Kd.R_told (Kd.R_old (by refine kR_ ?_; exact (rfm_ ((Kd.R_types HO513.out BK523.out (by decide))) (fun _ h_ => op1_ h_))) hb) (Kd.R_base ho0)) (Kd.R_base ho2)) (fun _ h_ => op1_ h_)); replace HO519 := Aside0.mk (Kd.R_mono (Kd.R_told (Kd.R_told (Kd.R_old (by refine kR_ ?_; exact (rfm_ ((Kd.R_types HO519.out BK523.out (by decide))) (fun _ h_ => op1_ h_))) hb) (Kd.R_base ho0)) (Kd.R_base ho2)) (fun _ h_ => op1_ h_)); have HO536 := Aside0.mk (Kd.R_lower (Kd.R_new' ho3 (Kd.R_lt (by refine kR_ ?_; exact (rfm_ ((Kd.R_types HO522.out BK523.out (by decide))) (fun _ h_ => op1_ h_))))) (below_size (hbA_ HB.out))); replace HO522 := Aside0.mk (Kd.R_elder' (by refine kR_ ?_; exact (rfm_ ((Kd.R_types HO522.out BK523.out (by decide))) (fun _ h_ => op1_ h_))) (Kd.R_base ho3) hb); replace BK523 := Aside0.mk (blk_below (g := gb523) (o := .cells #[.int .i64 t510, .slice Ao10 t511.length co10, .slice Ao11 t514.length co11, .slice Ao12 t517.length co12] 30 (0, 0)) (by refine kb_ ?_; refine pz4 (cs := #[.int .i64 0, .slice none 0 0, .slice none 0 0, .slice none 0 0]) ?_; refine kb_ ?_; exact BK523.out) hb); replace HB := (bs_ HB hb); (try clear hb); (try clear hb2); (try clear hk); (try clear hi); (try clear ho0); (try clear ho1); (try clear ho2); (try clear ho3)) | ((with_reducible refine gate_dst (N := 5) rfl ?_); (try (refine gate_guard (by rfl) ?_; dsimp only)); refine box_ (N := 5) (cs := #[.int .i64 0, .slice none 0 0, .slice none 0 0, .slice none 0 0]) (t := 30) (fun gb538 hg w15 hbox hb => ?_); replace HO513 := Aside0.mk (Kd.R_below (kR_ HO513.out) hb); replace HO516 := Aside0.mk (Kd.S_below (kS_ HO516.out) hb); replace HO519 := Aside0.mk (Kd.R_below (kR_ HO519.out) hb); replace HO522 := Aside0.mk (Kd.R_below (kR_ HO522.out) hb); replace HO527 := Aside0.mk (Kd.R_below (kR_ HO527.out) hb); replace HO530 := Aside0.mk (Kd.S_below (kS_ HO530.out) hb); replace HO533 := Aside0.mk (Kd.R_below (kR_ HO533.out) hb); replace HO536 := Aside0.mk (Kd.R_below (kR_ HO536.out) hb); have BK538 := Aside0.mk (hbox); have GW538 := ge_ hg HB; have GE538 := ge_ hg HB; replace HB := (bs_ HB hb); have NB523_538 := nl_ hg BK523; have NB538_523 := ng_ hg BK523; replace BK523 := (bbA_ BK523 hb); clear hb hbox hg; have hnb16 := NB538_523.out; have hnc16 := NB523_538.out; have Z17 := zz4 BK538; obtain ⟨Ao18, co18, eo18⟩ := Kd.R_slice HO527.out; subst eo18; obtain ⟨Ao19, co19, eo19⟩ := Kd.S_slice HO530.out; subst eo19; obtain ⟨Ao20, co20, eo20⟩ := Kd.R_slice HO533.out; subst eo20; have Z21 := zz4 BK523) | ((with_reducible refine gate_callee (f := 27) rfl ?_); refine goesL_ (some 32) rfl rfl Try.func27 (by kernel_rfl) rfl #[.agg #[.int .i64 t510, .slice Ao10 t511.length co10, .slice Ao11 t514.length co11, .slice Ao12 t517.length co12], .slice Ao13 t520.length co13] rfl ar_ ?_; (with_reducible refine (spec_ClientAsk.calls k t510 _ _ t511 _ _ t514 _ _ t517 _ _ t520 t539 t540 t543 t546 t549 t552 _ ?side1 ?side2 ?side3 ?side4 ?side5 ?side6 ?side7 ?side8 A5.out).mono ?_); (case side1 => refine (Kd.R_reads' (e := 3) (base := w.heap.size) (ok := fun k_ => ((some k_ ≠ (.slice Ao12 t517.length co12 : Value).ownBlock ∧ some k_ ≠ (.slice Ao18 t525.length co18 : Value).ownBlock) ∧ some k_ ≠ (.slice Ao20 t531.length co20 : Value).ownBlock)) (n := t511.length) (c := co10) ?_).2.2; exact (by refine kR_ ?_; exact (rfm_ ((Kd.R_types HO513.out BK538.out (by decide))) (fun _ h_ => op1_ h_)))); (case side2 => exact (Kd.R_reads' HO513.out).2.1); (case side3 => refine (Kd.S_reads' (e := 41) (base := w.heap.size) (ok := fun k_ => ((some k_ ≠ (.slice Ao13 t520.length co13 : Value).ownBlock ∧ some k_ ≠ (.slice Ao19 t528.length co19 : Value).ownBlock) ∧ some k_ ≠ (v535 : Value).ownBlock)) (n := t514.length) (c := co11) ?_).2.2; exact (by refine kS_ ?_; exact (Kd.S_mono (Kd.S_far (p := ⟨gb538, 3, none⟩) (Kd.S_far (p := ⟨gb538, 2, none⟩) (Kd.S_far (p := ⟨gb538, 1, none⟩) (Kd.S_far (p := ⟨gb538, 0, none⟩) (Kd.S_types HO516.out BK538.out (by decide)) (fun _ hk => hk.2) (.int .i64 t524)) (fun _ hk => hk.2) (.slice Ao18 t525.length co18)) (fun _ hk => hk.2) (.slice Ao19 t528.length co19)) (fun _ hk => hk.2) (.slice Ao20 t531.length co20)) (fun _ h_ => op1_ h_)))); (case side4 => exact (Kd.S_reads' HO516.out).2.1); (case side5 => refine (Kd.R_reads' (e := 3) (base := w.heap.size) (ok := fun k_ => ((some k_ ≠ (.slice Ao10 t511.length co10 : Value).ownBlock ∧ some k_ ≠ (.slice Ao18 t525.length co18 : Value).ownBlock) ∧ some k_ ≠ (.slice Ao20 t531.length co20 : Value).ownBlock)) (n := t517.length) (c := co12) ?_).2.2; exact (by refine kR_ ?_; exact (rfm_ ((Kd.R_types HO519.out BK538.out (by decide))) (fun _ h_ => op1_ h_)))); (case side6 => exact (Kd.R_reads' HO519.out).2.1); (case side7 => refine (Kd.R_reads' (e := 5) (base := w.heap.size) (ok := fun k_ => (True ∧ some k_ ≠ (v535 : Value).ownBlock)) (n := t520.length) (c := co13) ?_).2.2; exact (by refine kR_ ?_; exact (rfm_ ((Kd.R_types HO522.out BK538.out (by decide))) (fun _ h_ => op1_ h_)))); (case side8 => exact (Kd.R_reads' HO522.out).2.1); rintro e w22 ⟨v541, v544, v547, v550, rfl, ho0, ho1, ho2, ho3, hb⟩; refine ⟨_, rfl, ?_⟩; have HO542 := Aside0.mk (Kd.R_lower (Kd.R_new' (Kd.R_new' (Kd.R_new' (Kd.R_new' ho0 (Kd.R_lt (by refine kR_ ?_; exact (rfm_ ((Kd.R_types HO513.out BK538.out (by decide))) (fun _ h_ => op1_ h_))))) (Kd.R_lt (by refine kR_ ?_; exact (rfm_ ((Kd.R_types HO519.out BK538.out (by decide))) (fun _ h_ => op1_ h_))))) (Kd.R_lt (by refine kR_ ?_; exact (rfm_ ((Kd.R_types HO527.out BK538.out (by decide))) (fun _ h_ => op1_ h_))))) (Kd.R_lt (by refine kR_ ?_; exact (rfm_ ((Kd.R_types HO533.out BK538.out (by decide))) (fun _ h_ => op1_ h_))))) (below_size (hbA_ HB.out))); have HO545 := Aside0.mk (Kd.S_lower (Kd.S_new' (Kd.S_new' (Kd.S_new' (Kd.S_new' ho1 (Kd.S_lt (by refine kS_ ?_; exact (Kd.S_mono (Kd.S_far (p := ⟨gb538, 3, none⟩) (Kd.S_far (p := ⟨gb538, 2, none⟩) (Kd.S_far (p := ⟨gb538, 1, none⟩) (Kd.S_far (p := ⟨gb538, 0, none⟩) (Kd.S_types HO516.out BK538.out (by decide)) (fun _ hk => hk.2) (.int .i64 t524)) (fun _ hk => hk.2) (.slice Ao18 t525.length co18)) (fun _ hk => hk.2) (.slice Ao19 t528.length co19)) (fun _ hk => hk.2) (.slice Ao20 t531.length co20)) (fun _ h_ => op1_ h_))))) (Kd.R_lt (by refine kR_ ?_; exact (rfm_ ((Kd.R_types HO522.out BK538.out (by decide))) (fun _ h_ => op1_ h_))))) (Kd.S_lt (by refine kS_ ?_; exact (Kd.S_mono (Kd.S_far (p := ⟨gb538, 3, none⟩) (Kd.S_far (p := ⟨gb538, 2, none⟩) (Kd.S_far (p := ⟨gb538, 1, none⟩) (Kd.S_far (p := ⟨gb538, 0, none⟩) (Kd.S_types HO530.out BK538.out (by decide)) (fun _ hk => hk.2) (.int .i64 t524)) (fun _ hk => hk.2) (.slice Ao18 t525.length co18)) (fun _ hk => hk.2) (.slice Ao19 t528.length co19)) (fun _ hk => hk.2) (.slice Ao20 t531.length co20)) (fun _ h_ => op1_ h_))))) (Kd.R_lt (by refine kR_ ?_; exact (rfm_ ((Kd.R_types HO536.out BK538.out (by decide))) (fun _ h_ => op1_ h_))))) (below_size (hbA_ HB.out))); replace HO516 := Aside0.mk (Kd.S_mono (Kd.S_told (Kd.S_told (Kd.S_old (by refine kS_ ?_; exact (Kd.S_mono (Kd.S_far (p := ⟨gb538, 3, none⟩) (Kd.S_far (p := ⟨gb538, 2, none⟩) (Kd.S_far (p := ⟨gb538, 1, none⟩) (Kd.S_far (p := ⟨gb538, 0, none⟩) (Kd.S_types HO516.out BK538.out (by decide)) (fun _ hk => hk.2) (.int .i64 t524)) (fun _ hk => hk.2) (.slice Ao18 t525.length co18)) (fun _ hk => hk.2) (.slice Ao19 t528.length co19)) (fun _ hk => hk.2) (.slice Ao20 t531.length co20)) (fun _ h_ => op1_ h_))) hb) (Kd.S_base ho1)) (Kd.R_base ho3)) (fun _ h_ => op1_ h_)); replace HO530 := Aside0.mk (Kd.S_mono (Kd.S_told (Kd.S_told (Kd.S_old (by refine kS_ ?_; exact (Kd.S_mono (Kd.S_far (p := ⟨gb538, 3, none⟩) (Kd.S_far (p := ⟨gb538, 2, none⟩) (Kd.S_far (p := ⟨gb538, 1, none⟩) (Kd.S_far (p := ⟨gb538, 0, none⟩) (Kd.S_types HO530.out BK538.out (by decide)) (fun _ hk => hk.2) (.int .i64 t524)) (fun _ hk => hk.2) (.slice Ao18 t525.length co18)) (fun _ hk => hk.2) (.slice Ao19 t528.length co19)) (fun _ hk => hk.2) (.slice Ao20 t531.length co20)) (fun _ h_ => op1_ h_))) hb) (Kd.S_base ho1)) (Kd.R_base ho3)) (fun _ h_ => op1_ h_)); have HO548 := Aside0.mk (Kd.R_lower (Kd.R_new' (Kd.R_new' (Kd.R_new' (Kd.R_new' ho2 (Kd.R_lt (by refine kR_ ?_; exact (rfm_ ((Kd.R_types HO513.out BK538.out (by decide))) (fun _ h_ => op1_ h_))))) (Kd.R_lt (by refine kR_ ?_; exact (rfm_ ((Kd.R_types HO519.out BK538.out (by decide))) (fun _ h_ => op1_ h_))))) (Kd.R_lt (by refine kR_ ?_; exact (rfm_ ((Kd.R_types HO527.out BK538.out (by decide))) (fun _ h_ => op1_ h_))))) (Kd.R_lt (by refine kR_ ?_; exact (rfm_ ((Kd.R_types HO533.out BK538.out (by decide))) (fun _ h_ => op1_ h_))))) (below_size (hbA_ HB.out))); replace HO513 := Aside0.mk (Kd.R_mono (Kd.R_told (Kd.R_told (Kd.R_old (by refine kR_ ?_; exact (rfm_ ((Kd.R_types HO513.out BK538.out (by decide))) (fun _ h_ => op1_ h_))) hb) (Kd.R_base ho0)) (Kd.R_base ho2)) (fun _ h_ => op1_ h_)); replace HO519 := Aside0.mk (Kd.R_mono (Kd.R_told (Kd.R_told (Kd.R_old (by refine kR_ ?_; exact (rfm_ ((Kd.R_types HO519.out BK538.out (by decide))) (fun _ h_ => op1_ h_))) hb) (Kd.R_base ho0)) (Kd.R_base ho2)) (fun _ h_ => op1_ h_)); replace HO527 := Aside0.mk (Kd.R_mono (Kd.R_told (Kd.R_told (Kd.R_old (by refine kR_ ?_; exact (rfm_ ((Kd.R_types HO527.out BK538.out (by decide))) (fun _ h_ => op1_ h_))) hb) (Kd.R_base ho0)) (Kd.R_base ho2)) (fun _ h_ => op1_ h_)); replace HO533 := Aside0.mk (Kd.R_mono (Kd.R_told (Kd.R_told (Kd.R_old (by refine kR_ ?_; exact (rfm_ ((Kd.R_types HO533.out BK538.out (by decide))) (fun _ h_ => op1_ h_))) hb) (Kd.R_base ho0)) (Kd.R_base ho2)) (fun _ h_ => op1_ h_)); have HO551 := Aside0.mk (Kd.R_lower (Kd.R_new' (Kd.R_new' ho3 (Kd.R_lt (by refine kR_ ?_; exact (rfm_ ((Kd.R_types HO522.out BK538.out (by decide))) (fun _ h_ => op1_ h_))))) (Kd.R_lt (by refine kR_ ?_; exact (rfm_ ((Kd.R_types HO536.out BK538.out (by decide))) (fun _ h_ => op1_ h_))))) (below_size (hbA_ HB.out))); replace HO522 := Aside0.mk (Kd.R_elder' (by refine kR_ ?_; exact (rfm_ ((Kd.R_types HO522.out BK538.out (by decide))) (fun _ h_ => op1_ h_))) (Kd.R_base ho3) hb); replace HO536 := Aside0.mk (Kd.R_elder' (by refine kR_ ?_; exact (rfm_ ((Kd.R_types HO536.out BK538.out (by decide))) (fun _ h_ => op1_ h_))) (Kd.R_base ho3) hb); replace BK523 := Aside0.mk (blk_below (g := gb523) (o := .cells #[.int .i64 t510, .slice Ao10 t511.length co10, .slice Ao11 t514.length co11, .slice Ao12 t517.length co12] 30 (0, 0)) (by exact kf_ BK523.out) hb); replace BK538 := Aside0.mk (blk_below (g := gb538) (o := .cells #[.int .i64 t524, .slice Ao18 t525.length co18, .slice Ao19 t528.length co19, .slice Ao20 t531.length co20] 30 (0, 0)) (by refine kb_ ?_; refine pz4 (cs := #[.int .i64 0, .slice none 0 0, .slice none 0 0, .slice none 0 0]) ?_; refine kb_ ?_; exact BK538.out) hb); replace HB := (bs_ HB hb); (try clear hb); (try clear hb2); (try clear hk); (try clear hi); (try clear ho0); (try clear ho1); (try clear ho2); (try clear ho3)) | ((with_reducible refine gate_dst (N := 8) rfl ?_); (try (refine gate_guard (by rfl) ?_; dsimp only)); refine box_ (N := 8) (cs := #[.int .i64 0, .slice none 0 0, .slice none 0 0, .slice none 0 0]) (t := 30) (fun gb553 hg w23 hbox hb => ?_); replace HO513 := Aside0.mk (Kd.R_below (kR_ HO513.out) hb); replace HO516 := Aside0.mk (Kd.S_below (kS_ HO516.out) hb); replace HO519 := Aside0.mk (Kd.R_below (kR_ HO519.out) hb); replace HO522 := Aside0.mk (Kd.R_below (kR_ HO522.out) hb); replace HO527 := Aside0.mk (Kd.R_below (kR_ HO527.out) hb); replace HO530 := Aside0.mk (Kd.S_below (kS_ HO530.out) hb); replace HO533 := Aside0.mk (Kd.R_below (kR_ HO533.out) hb); replace HO536 := Aside0.mk (Kd.R_below (kR_ HO536.out) hb); replace HO542 := Aside0.mk (Kd.R_below (kR_ HO542.out) hb); replace HO545 := Aside0.mk (Kd.S_below (kS_ HO545.out) hb); replace HO548 := Aside0.mk (Kd.R_below (kR_ HO548.out) hb); replace HO551 := Aside0.mk (Kd.R_below (kR_ HO551.out) hb); have BK553 := Aside0.mk (hbox); have GW553 := ge_ hg HB; have GE553 := ge_ hg HB; replace HB := (bs_ HB hb); have NB523_553 := nl_ hg BK523; have NB553_523 := ng_ hg BK523; replace BK523 := (bbA_ BK523 hb); have NB538_553 := nl_ hg BK538; have NB553_538 := ng_ hg BK538; replace BK538 := (bbA_ BK538 hb); clear hb hbox hg; have hnb24 := NB553_523.out; have hnc24 := NB523_553.out; have hnb25 := NB553_538.out; have hnc25 := NB538_553.out; have Z26 := zz4 BK553; obtain ⟨Ao27, co27, eo27⟩ := Kd.R_slice HO542.out; subst eo27; obtain ⟨Ao28, co28, eo28⟩ := Kd.S_slice HO545.out; subst eo28; obtain ⟨Ao29, co29, eo29⟩ := Kd.R_slice HO548.out; subst eo29))
  (try simp only [Act.put, List.setIfInBounds_toArray, List.set_cons_zero, List.set_cons_succ])
  go_cut [50] (fun v50 wc => ∃ (kq : Nat) (x50_5 : Bool), v50 = .bool x50_5 ∧ Aside0 (laws_FnClientAsk.j0 kq t520 t534 t537 x50_5 t510 t511 t514 t517 t524 t525 t528 t531 = some r) ∧ Aside0 (kq ≤ k) ∧ Aside0 (Kd.R (Kd.int .u8) 5 wc w.heap.size (fun k_ => some k_ ≠ (v535 : Value).ownBlock) (.slice Ao13 t520.length co13) t520) ∧ Aside0 (Kd.R (Kd.int .u8) 5 wc w.heap.size (fun k_ => some k_ ≠ ((.slice Ao13 t520.length co13) : Value).ownBlock) v535 t534) ∧ Aside0 (Kd.R (Kd.int .i64) 3 wc w.heap.size (fun k_ => some k_ ≠ ((.slice Ao12 t517.length co12) : Value).ownBlock ∧ some k_ ≠ ((.slice Ao18 t525.length co18) : Value).ownBlock ∧ some k_ ≠ ((.slice Ao20 t531.length co20) : Value).ownBlock ∧ some k_ ≠ ((.slice Ao27 t540.length co27) : Value).ownBlock ∧ some k_ ≠ ((.slice Ao29 t546.length co29) : Value).ownBlock) (.slice Ao10 t511.length co10) t511) ∧ Aside0 (Kd.S k41 41 wc w.heap.size (fun k_ => some k_ ≠ ((.slice Ao13 t520.length co13) : Value).ownBlock ∧ some k_ ≠ (v535 : Value).ownBlock ∧ some k_ ≠ ((.slice Ao19 t528.length co19) : Value).ownBlock ∧ some k_ ≠ ((.slice Ao28 t543.length co28) : Value).ownBlock) (.slice Ao11 t514.length co11) t514) ∧ Aside0 (Kd.R (Kd.int .i64) 3 wc w.heap.size (fun k_ => some k_ ≠ ((.slice Ao10 t511.length co10) : Value).ownBlock ∧ some k_ ≠ ((.slice Ao18 t525.length co18) : Value).ownBlock ∧ some k_ ≠ ((.slice Ao20 t531.length co20) : Value).ownBlock ∧ some k_ ≠ ((.slice Ao27 t540.length co27) : Value).ownBlock ∧ some k_ ≠ ((.slice Ao29 t546.length co29) : Value).ownBlock) (.slice Ao12 t517.length co12) t517) ∧ Aside0 (Kd.R (Kd.int .i64) 3 wc w.heap.size (fun k_ => some k_ ≠ ((.slice Ao10 t511.length co10) : Value).ownBlock ∧ some k_ ≠ ((.slice Ao12 t517.length co12) : Value).ownBlock ∧ some k_ ≠ ((.slice Ao20 t531.length co20) : Value).ownBlock ∧ some k_ ≠ ((.slice Ao27 t540.length co27) : Value).ownBlock ∧ some k_ ≠ ((.slice Ao29 t546.length co29) : Value).ownBlock) (.slice Ao18 t525.length co18) t525) ∧ Aside0 (Kd.S k41 41 wc w.heap.size (fun k_ => some k_ ≠ ((.slice Ao13 t520.length co13) : Value).ownBlock ∧ some k_ ≠ (v535 : Value).ownBlock ∧ some k_ ≠ ((.slice Ao11 t514.length co11) : Value).ownBlock ∧ some k_ ≠ ((.slice Ao28 t543.length co28) : Value).ownBlock) (.slice Ao19 t528.length co19) t528) ∧ Aside0 (Kd.R (Kd.int .i64) 3 wc w.heap.size (fun k_ => some k_ ≠ ((.slice Ao10 t511.length co10) : Value).ownBlock ∧ some k_ ≠ ((.slice Ao12 t517.length co12) : Value).ownBlock ∧ some k_ ≠ ((.slice Ao18 t525.length co18) : Value).ownBlock ∧ some k_ ≠ ((.slice Ao27 t540.length co27) : Value).ownBlock ∧ some k_ ≠ ((.slice Ao29 t546.length co29) : Value).ownBlock) (.slice Ao20 t531.length co20) t531) ∧ Aside0 (Kd.R (Kd.int .i64) 3 wc w.heap.size (fun k_ => some k_ ≠ ((.slice Ao10 t511.length co10) : Value).ownBlock ∧ some k_ ≠ ((.slice Ao12 t517.length co12) : Value).ownBlock ∧ some k_ ≠ ((.slice Ao18 t525.length co18) : Value).ownBlock ∧ some k_ ≠ ((.slice Ao20 t531.length co20) : Value).ownBlock ∧ some k_ ≠ ((.slice Ao29 t546.length co29) : Value).ownBlock) (.slice Ao27 t540.length co27) t540) ∧ Aside0 (Kd.S k41 41 wc w.heap.size (fun k_ => some k_ ≠ ((.slice Ao13 t520.length co13) : Value).ownBlock ∧ some k_ ≠ (v535 : Value).ownBlock ∧ some k_ ≠ ((.slice Ao11 t514.length co11) : Value).ownBlock ∧ some k_ ≠ ((.slice Ao19 t528.length co19) : Value).ownBlock) (.slice Ao28 t543.length co28) t543) ∧ Aside0 (Kd.R (Kd.int .i64) 3 wc w.heap.size (fun k_ => some k_ ≠ ((.slice Ao10 t511.length co10) : Value).ownBlock ∧ some k_ ≠ ((.slice Ao12 t517.length co12) : Value).ownBlock ∧ some k_ ≠ ((.slice Ao18 t525.length co18) : Value).ownBlock ∧ some k_ ≠ ((.slice Ao20 t531.length co20) : Value).ownBlock ∧ some k_ ≠ ((.slice Ao27 t540.length co27) : Value).ownBlock) (.slice Ao29 t546.length co29) t546) ∧ Aside0 (wc.heap[gb523]? = some (.cells #[.int .i64 t510, (.slice Ao10 t511.length co10), (.slice Ao11 t514.length co11), (.slice Ao12 t517.length co12)] 30 (0, 0))) ∧ Aside0 (wc.heap[gb538]? = some (.cells #[.int .i64 t524, (.slice Ao18 t525.length co18), (.slice Ao19 t528.length co19), (.slice Ao20 t531.length co20)] 30 (0, 0))) ∧ Aside0 (wc.heap[gb553]? = some (.cells #[.int .i64 t539, (.slice Ao27 t540.length co27), (.slice Ao28 t543.length co28), (.slice Ao29 t546.length co29)] 30 (0, 0))) ∧ Aside0 (Below w.heap.size w wc))
  case first =>
   have H := HC6.out; clear HC6
   by_cases c30 : (t537 != t552) = true
   ·rw [if_pos c30] at H
    have c30b0 : (t537 != t552) = true := c30
    (try (have c30b1 : decide (t537 = t552) = false := by simpa using c30))
    (try (have c30b2 : (t537 == t552) = false := by simpa using c30))
    (try (have c30b3 : ¬ (t537 = t552) := by simpa using c30))
    clear c30
    (first | rw [c30b0] | (simp only [i64_w, i32_w]; rw [c30b0]) | skip)
    have H' := Aside0.mk H
    clear H
    go_wp2
    go_meet
    case rel => exact ⟨_, (true), (by first | rfl | (simp; done) | (simp [*]; done)), H', ⟨by first | omega | exact Nat.le_refl _⟩, ⟨by refine kR_ ?_; exact rfm_ ((Kd.R_types HO522.out BK553.out (by decide))) (fun _ hk => hk.1.1.2)⟩, ⟨by refine kR_ ?_; exact rfm_ ((Kd.R_types HO536.out BK553.out (by decide))) (fun _ hk => hk.1.1.2)⟩, ⟨by refine kR_ ?_; exact rfm_ ((Kd.R_types HO513.out BK553.out (by decide))) (fun _ hk => ⟨hk.1.1.1.1.1, ⟨hk.1.1.1.1.2, ⟨hk.1.1.1.2, ⟨hk.1.1.2, hk.1.2⟩⟩⟩⟩)⟩, ⟨by refine kS_ ?_; exact Kd.S_mono (Kd.S_far (p := ⟨gb553, 3, none⟩) (Kd.S_far (p := ⟨gb553, 2, none⟩) (Kd.S_far (p := ⟨gb553, 1, none⟩) (Kd.S_far (p := ⟨gb553, 0, none⟩) (Kd.S_types HO516.out BK553.out (by decide)) (fun _ hk => hk.2) (.int .i64 t539)) (fun _ hk => hk.2) (.slice Ao27 t540.length co27)) (fun _ hk => hk.2) (.slice Ao28 t543.length co28)) (fun _ hk => hk.2) (.slice Ao29 t546.length co29)) (fun _ hk => ⟨hk.1.1.1.1.1, ⟨hk.1.1.1.2, ⟨hk.1.1.1.1.2, hk.1.1.2⟩⟩⟩)⟩, ⟨by refine kR_ ?_; exact rfm_ ((Kd.R_types HO519.out BK553.out (by decide))) (fun _ hk => ⟨hk.1.1.1.1.1, ⟨hk.1.1.1.1.2, ⟨hk.1.1.1.2, ⟨hk.1.1.2, hk.1.2⟩⟩⟩⟩)⟩, ⟨by refine kR_ ?_; exact rfm_ ((Kd.R_types HO527.out BK553.out (by decide))) (fun _ hk => ⟨hk.1.1.1.1.2, ⟨hk.1.1.1.2, ⟨hk.1.1.1.1.1, ⟨hk.1.1.2, hk.1.2⟩⟩⟩⟩)⟩, ⟨by refine kS_ ?_; exact Kd.S_mono (Kd.S_far (p := ⟨gb553, 3, none⟩) (Kd.S_far (p := ⟨gb553, 2, none⟩) (Kd.S_far (p := ⟨gb553, 1, none⟩) (Kd.S_far (p := ⟨gb553, 0, none⟩) (Kd.S_types HO530.out BK553.out (by decide)) (fun _ hk => hk.2) (.int .i64 t539)) (fun _ hk => hk.2) (.slice Ao27 t540.length co27)) (fun _ hk => hk.2) (.slice Ao28 t543.length co28)) (fun _ hk => hk.2) (.slice Ao29 t546.length co29)) (fun _ hk => ⟨hk.1.1.1.2, ⟨hk.1.1.1.1.1, ⟨hk.1.1.1.1.2, hk.1.1.2⟩⟩⟩)⟩, ⟨by refine kR_ ?_; exact rfm_ ((Kd.R_types HO533.out BK553.out (by decide))) (fun _ hk => ⟨hk.1.1.1.1.2, ⟨hk.1.1.1.2, ⟨hk.1.1.1.1.1, ⟨hk.1.1.2, hk.1.2⟩⟩⟩⟩)⟩, ⟨by refine kR_ ?_; exact rfm_ ((Kd.R_types HO542.out BK553.out (by decide))) (fun _ hk => ⟨hk.1.1.1.1.2, ⟨hk.1.1.1.2, ⟨hk.1.1.2, ⟨hk.1.2, hk.1.1.1.1.1⟩⟩⟩⟩)⟩, ⟨by refine kS_ ?_; exact Kd.S_mono (Kd.S_far (p := ⟨gb553, 3, none⟩) (Kd.S_far (p := ⟨gb553, 2, none⟩) (Kd.S_far (p := ⟨gb553, 1, none⟩) (Kd.S_far (p := ⟨gb553, 0, none⟩) (Kd.S_types HO545.out BK553.out (by decide)) (fun _ hk => hk.2) (.int .i64 t539)) (fun _ hk => hk.2) (.slice Ao27 t540.length co27)) (fun _ hk => hk.2) (.slice Ao28 t543.length co28)) (fun _ hk => hk.2) (.slice Ao29 t546.length co29)) (fun _ hk => ⟨hk.1.1.1.2, ⟨hk.1.2, ⟨hk.1.1.1.1.2, hk.1.1.2⟩⟩⟩)⟩, ⟨by refine kR_ ?_; exact rfm_ ((Kd.R_types HO548.out BK553.out (by decide))) (fun _ hk => ⟨hk.1.1.1.1.2, ⟨hk.1.1.1.2, ⟨hk.1.1.2, ⟨hk.1.2, hk.1.1.1.1.1⟩⟩⟩⟩)⟩, ⟨by exact kf_ BK523.out⟩, ⟨by exact kf_ BK538.out⟩, ⟨by refine kb_ ?_; refine pz4 (cs := #[.int .i64 0, .slice none 0 0, .slice none 0 0, .slice none 0 0]) ?_; refine kb_ ?_; exact BK553.out⟩, ⟨hbA_ HB.out⟩⟩
   ·rw [if_neg c30] at H
    have c30b0 : (t537 != t552) = false := by simpa using c30
    (try (have c30b1 : decide (t537 = t552) = true := by simpa using c30))
    (try (have c30b2 : (t537 == t552) = true := by simpa using c30))
    clear c30
    (first | rw [c30b0] | (simp only [i64_w, i32_w]; rw [c30b0]) | skip)
    replace H := Option.bind_eq_some_iff.mp H
    obtain ⟨t554, A310, H⟩ := H
    (try dsimp only at H)
    have A31 := Aside0.mk A310; clear A310
    by_cases c32 : t554 = true
    ·subst c32
     rw [if_pos rfl] at H
     replace H := Option.bind_eq_some_iff.mp H
     obtain ⟨t555, A330, H⟩ := H
     (try dsimp only at H)
     have A33 := Aside0.mk A330; clear A330
     have H' := Aside0.mk H
     clear H
     obtain ⟨Ao34, co34, eo34⟩ := Kd.R_slice HO536.out
     subst eo34
     obtain ⟨Ao35, co35, eo35⟩ := Kd.R_slice HO551.out
     subst eo35
     go_wp2_with (first | (go_at_call 28; (with_reducible refine (laws_sameBytes.calls _ _ t534 _ _ t549 true _ ?side1 ?side2 ?side3 ?side4 A31.out).mono ?_); (case side1 => refine (Kd.R_reads' (e := 5) (base := w.heap.size) (ok := fun k_ => ((True ∧ some k_ ≠ (.slice Ao13 t520.length co13 : Value).ownBlock) ∧ some k_ ≠ (.slice Ao35 t549.length co35 : Value).ownBlock)) (n := t534.length) (c := co34) ?_).2.2; exact (by refine kR_ ?_; exact (rfm_ ((Kd.R_types HO536.out BK553.out (by decide))) (fun _ h_ => op1_ h_)))); (case side2 => exact (Kd.R_reads' HO536.out).2.1); (case side3 => refine (Kd.R_reads' (e := 5) (base := w.heap.size) (ok := fun k_ => ((True ∧ some k_ ≠ (.slice Ao13 t520.length co13 : Value).ownBlock) ∧ some k_ ≠ (.slice Ao34 t534.length co34 : Value).ownBlock)) (n := t549.length) (c := co35) ?_).2.2; exact (by refine kR_ ?_; exact (rfm_ ((Kd.R_types HO551.out BK553.out (by decide))) (fun _ h_ => op1_ h_)))); (case side4 => exact (Kd.R_reads' HO551.out).2.1); rintro e w' ⟨rfl, ⟨nd, rfl⟩⟩; have hnb36 := NB538_523.out; have hnc36 := NB523_538.out; have hnb37 := NB538_553.out; have hnc37 := NB553_538.out; have Z38 := zz4 BK538; have hnb39 := NB553_523.out; have hnc39 := NB523_553.out; have Z40 := zz4 BK553) | (go_at_call 18; (with_reducible refine (laws_sameClient.calls k t524 _ _ t525 _ _ t528 _ _ t531 t539 _ _ t540 _ _ t543 _ _ t546 t555 _ ?side1 ?side2 ?side3 ?side4 ?side5 ?side6 ?side7 ?side8 ?side9 ?side10 ?side11 ?side12 A33.out).mono ?_); (case side1 => refine (Kd.R_reads' (e := 3) (base := w.heap.size) (ok := fun k_ => ((((some k_ ≠ (.slice Ao20 t531.length co20 : Value).ownBlock ∧ some k_ ≠ (.slice Ao10 t511.length co10 : Value).ownBlock) ∧ some k_ ≠ (.slice Ao12 t517.length co12 : Value).ownBlock) ∧ some k_ ≠ (.slice Ao27 t540.length co27 : Value).ownBlock) ∧ some k_ ≠ (.slice Ao29 t546.length co29 : Value).ownBlock)) (n := t525.length) (c := co18) ?_).2.2; exact (by refine kR_ ?_; exact (rfm_ ((Kd.R_types HO527.out BK553.out (by decide))) (fun _ h_ => op1_ h_)))); (case side2 => exact (Kd.R_reads' HO527.out).2.1); (case side3 => refine (Kd.S_reads' (e := 41) (base := w.heap.size) (ok := fun k_ => ((((some k_ ≠ (.slice Ao34 t534.length co34 : Value).ownBlock ∧ some k_ ≠ (.slice Ao11 t514.length co11 : Value).ownBlock) ∧ some k_ ≠ (.slice Ao13 t520.length co13 : Value).ownBlock) ∧ some k_ ≠ (.slice Ao28 t543.length co28 : Value).ownBlock) ∧ some k_ ≠ (.slice Ao35 t549.length co35 : Value).ownBlock)) (n := t528.length) (c := co19) ?_).2.2; exact (by refine kS_ ?_; exact (Kd.S_mono (Kd.S_far (p := ⟨gb553, 3, none⟩) (Kd.S_far (p := ⟨gb553, 2, none⟩) (Kd.S_far (p := ⟨gb553, 1, none⟩) (Kd.S_far (p := ⟨gb553, 0, none⟩) (Kd.S_types HO530.out BK553.out (by decide)) (fun _ hk => hk.2) (.int .i64 t539)) (fun _ hk => hk.2) (.slice Ao27 t540.length co27)) (fun _ hk => hk.2) (.slice Ao28 t543.length co28)) (fun _ hk => hk.2) (.slice Ao29 t546.length co29)) (fun _ h_ => op1_ h_)))); (case side4 => exact (Kd.S_reads' HO530.out).2.1); (case side5 => refine (Kd.R_reads' (e := 3) (base := w.heap.size) (ok := fun k_ => ((((some k_ ≠ (.slice Ao18 t525.length co18 : Value).ownBlock ∧ some k_ ≠ (.slice Ao10 t511.length co10 : Value).ownBlock) ∧ some k_ ≠ (.slice Ao12 t517.length co12 : Value).ownBlock) ∧ some k_ ≠ (.slice Ao27 t540.length co27 : Value).ownBlock) ∧ some k_ ≠ (.slice Ao29 t546.length co29 : Value).ownBlock)) (n := t531.length) (c := co20) ?_).2.2; exact (by refine kR_ ?_; exact (rfm_ ((Kd.R_types HO533.out BK553.out (by decide))) (fun _ h_ => op1_ h_)))); (case side6 => exact (Kd.R_reads' HO533.out).2.1); (case side7 => refine (Kd.R_reads' (e := 3) (base := w.heap.size) (ok := fun k_ => ((((some k_ ≠ (.slice Ao29 t546.length co29 : Value).ownBlock ∧ some k_ ≠ (.slice Ao10 t511.length co10 : Value).ownBlock) ∧ some k_ ≠ (.slice Ao12 t517.length co12 : Value).ownBlock) ∧ some k_ ≠ (.slice Ao18 t525.length co18 : Value).ownBlock) ∧ some k_ ≠ (.slice Ao20 t531.length co20 : Value).ownBlock)) (n := t540.length) (c := co27) ?_).2.2; exact (by refine kR_ ?_; exact (rfm_ ((Kd.R_types HO542.out BK553.out (by decide))) (fun _ h_ => op1_ h_)))); (case side8 => exact (Kd.R_reads' HO542.out).2.1); (case side9 => refine (Kd.S_reads' (e := 41) (base := w.heap.size) (ok := fun k_ => ((((some k_ ≠ (.slice Ao35 t549.length co35 : Value).ownBlock ∧ some k_ ≠ (.slice Ao11 t514.length co11 : Value).ownBlock) ∧ some k_ ≠ (.slice Ao13 t520.length co13 : Value).ownBlock) ∧ some k_ ≠ (.slice Ao19 t528.length co19 : Value).ownBlock) ∧ some k_ ≠ (.slice Ao34 t534.length co34 : Value).ownBlock)) (n := t543.length) (c := co28) ?_).2.2; exact (by refine kS_ ?_; exact (Kd.S_mono (Kd.S_far (p := ⟨gb553, 3, none⟩) (Kd.S_far (p := ⟨gb553, 2, none⟩) (Kd.S_far (p := ⟨gb553, 1, none⟩) (Kd.S_far (p := ⟨gb553, 0, none⟩) (Kd.S_types HO545.out BK553.out (by decide)) (fun _ hk => hk.2) (.int .i64 t539)) (fun _ hk => hk.2) (.slice Ao27 t540.length co27)) (fun _ hk => hk.2) (.slice Ao28 t543.length co28)) (fun _ hk => hk.2) (.slice Ao29 t546.length co29)) (fun _ h_ => op1_ h_)))); (case side10 => exact (Kd.S_reads' HO545.out).2.1); (case side11 => refine (Kd.R_reads' (e := 3) (base := w.heap.size) (ok := fun k_ => ((((some k_ ≠ (.slice Ao27 t540.length co27 : Value).ownBlock ∧ some k_ ≠ (.slice Ao10 t511.length co10 : Value).ownBlock) ∧ some k_ ≠ (.slice Ao12 t517.length co12 : Value).ownBlock) ∧ some k_ ≠ (.slice Ao18 t525.length co18 : Value).ownBlock) ∧ some k_ ≠ (.slice Ao20 t531.length co20 : Value).ownBlock)) (n := t546.length) (c := co29) ?_).2.2; exact (by refine kR_ ?_; exact (rfm_ ((Kd.R_types HO548.out BK553.out (by decide))) (fun _ h_ => op1_ h_)))); (case side12 => exact (Kd.R_reads' HO548.out).2.1); rintro e w41 ⟨rfl, hb⟩; replace HO513 := Aside0.mk (Kd.R_below (by refine kR_ ?_; exact (rfm_ ((Kd.R_types HO513.out BK553.out (by decide))) (fun _ h_ => op1_ h_))) hb); replace HO516 := Aside0.mk (Kd.S_below (by refine kS_ ?_; exact (Kd.S_mono (Kd.S_far (p := ⟨gb553, 3, none⟩) (Kd.S_far (p := ⟨gb553, 2, none⟩) (Kd.S_far (p := ⟨gb553, 1, none⟩) (Kd.S_far (p := ⟨gb553, 0, none⟩) (Kd.S_types HO516.out BK553.out (by decide)) (fun _ hk => hk.2) (.int .i64 t539)) (fun _ hk => hk.2) (.slice Ao27 t540.length co27)) (fun _ hk => hk.2) (.slice Ao28 t543.length co28)) (fun _ hk => hk.2) (.slice Ao29 t546.length co29)) (fun _ h_ => op1_ h_))) hb); replace HO519 := Aside0.mk (Kd.R_below (by refine kR_ ?_; exact (rfm_ ((Kd.R_types HO519.out BK553.out (by decide))) (fun _ h_ => op1_ h_))) hb); replace HO522 := Aside0.mk (Kd.R_below (by refine kR_ ?_; exact (rfm_ ((Kd.R_types HO522.out BK553.out (by decide))) (fun _ h_ => op1_ h_))) hb); replace HO527 := Aside0.mk (Kd.R_below (by refine kR_ ?_; exact (rfm_ ((Kd.R_types HO527.out BK553.out (by decide))) (fun _ h_ => op1_ h_))) hb); replace HO530 := Aside0.mk (Kd.S_below (by refine kS_ ?_; exact (Kd.S_mono (Kd.S_far (p := ⟨gb553, 3, none⟩) (Kd.S_far (p := ⟨gb553, 2, none⟩) (Kd.S_far (p := ⟨gb553, 1, none⟩) (Kd.S_far (p := ⟨gb553, 0, none⟩) (Kd.S_types HO530.out BK553.out (by decide)) (fun _ hk => hk.2) (.int .i64 t539)) (fun _ hk => hk.2) (.slice Ao27 t540.length co27)) (fun _ hk => hk.2) (.slice Ao28 t543.length co28)) (fun _ hk => hk.2) (.slice Ao29 t546.length co29)) (fun _ h_ => op1_ h_))) hb); replace HO533 := Aside0.mk (Kd.R_below (by refine kR_ ?_; exact (rfm_ ((Kd.R_types HO533.out BK553.out (by decide))) (fun _ h_ => op1_ h_))) hb); replace HO536 := Aside0.mk (Kd.R_below (by refine kR_ ?_; exact (rfm_ ((Kd.R_types HO536.out BK553.out (by decide))) (fun _ h_ => op1_ h_))) hb); replace HO542 := Aside0.mk (Kd.R_below (by refine kR_ ?_; exact (rfm_ ((Kd.R_types HO542.out BK553.out (by decide))) (fun _ h_ => op1_ h_))) hb); replace HO545 := Aside0.mk (Kd.S_below (by refine kS_ ?_; exact (Kd.S_mono (Kd.S_far (p := ⟨gb553, 3, none⟩) (Kd.S_far (p := ⟨gb553, 2, none⟩) (Kd.S_far (p := ⟨gb553, 1, none⟩) (Kd.S_far (p := ⟨gb553, 0, none⟩) (Kd.S_types HO545.out BK553.out (by decide)) (fun _ hk => hk.2) (.int .i64 t539)) (fun _ hk => hk.2) (.slice Ao27 t540.length co27)) (fun _ hk => hk.2) (.slice Ao28 t543.length co28)) (fun _ hk => hk.2) (.slice Ao29 t546.length co29)) (fun _ h_ => op1_ h_))) hb); replace HO548 := Aside0.mk (Kd.R_below (by refine kR_ ?_; exact (rfm_ ((Kd.R_types HO548.out BK553.out (by decide))) (fun _ h_ => op1_ h_))) hb); replace HO551 := Aside0.mk (Kd.R_below (by refine kR_ ?_; exact (rfm_ ((Kd.R_types HO551.out BK553.out (by decide))) (fun _ h_ => op1_ h_))) hb); replace BK523 := Aside0.mk (blk_below (g := gb523) (o := .cells #[.int .i64 t510, .slice Ao10 t511.length co10, .slice Ao11 t514.length co11, .slice Ao12 t517.length co12] 30 (0, 0)) (by exact kf_ BK523.out) hb); replace BK538 := Aside0.mk (blk_below (g := gb538) (o := .cells #[.int .i64 t524, .slice Ao18 t525.length co18, .slice Ao19 t528.length co19, .slice Ao20 t531.length co20] 30 (0, 0)) (by exact kf_ BK538.out) hb); replace BK553 := Aside0.mk (blk_below (g := gb553) (o := .cells #[.int .i64 t539, .slice Ao27 t540.length co27, .slice Ao28 t543.length co28, .slice Ao29 t546.length co29] 30 (0, 0)) (by refine kb_ ?_; refine pz4 (cs := #[.int .i64 0, .slice none 0 0, .slice none 0 0, .slice none 0 0]) ?_; refine kb_ ?_; exact BK553.out) hb); replace HB := (bs_ HB hb); (try clear hb); (try clear hb2); (try clear hk); (try clear hi)))
     go_meet
     case rel => exact ⟨_, (!t555), (by first | rfl | (simp; done) | (simp [*]; done)), H', ⟨by first | omega | exact Nat.le_refl _⟩, ⟨by refine kR_ ?_; exact Kd.R_mono HO522.out (fun _ hk => hk.1.2)⟩, ⟨by refine kR_ ?_; exact Kd.R_mono HO536.out (fun _ hk => hk.1.2)⟩, ⟨by refine kR_ ?_; exact Kd.R_mono HO513.out (fun _ hk => op2_ hk)⟩, ⟨by refine kS_ ?_; exact Kd.S_mono HO516.out (fun _ hk => op2_ hk)⟩, ⟨by refine kR_ ?_; exact Kd.R_mono HO519.out (fun _ hk => op2_ hk)⟩, ⟨by refine kR_ ?_; exact Kd.R_mono HO527.out (fun _ hk => op2_ hk)⟩, ⟨by refine kS_ ?_; exact Kd.S_mono HO530.out (fun _ hk => op2_ hk)⟩, ⟨by refine kR_ ?_; exact Kd.R_mono HO533.out (fun _ hk => op2_ hk)⟩, ⟨by refine kR_ ?_; exact Kd.R_mono HO542.out (fun _ hk => op2_ hk)⟩, ⟨by refine kS_ ?_; exact Kd.S_mono HO545.out (fun _ hk => op2_ hk)⟩, ⟨by refine kR_ ?_; exact Kd.R_mono HO548.out (fun _ hk => op2_ hk)⟩, ⟨by refine kb_ ?_; exact BK523.out⟩, ⟨by refine kb_ ?_; exact BK538.out⟩, ⟨by refine kb_ ?_; exact BK553.out⟩, ⟨hbA_ HB.out⟩⟩
    ·replace c32 := Bool.eq_false_iff.mpr c32
     subst c32
     rw [if_neg (show ¬ (false = true) by decide)] at H
     have H' := Aside0.mk H
     clear H
     obtain ⟨Ao42, co42, eo42⟩ := Kd.R_slice HO536.out
     subst eo42
     obtain ⟨Ao43, co43, eo43⟩ := Kd.R_slice HO551.out
     subst eo43
     go_wp2_with (first | (go_at_call 28; (with_reducible refine (laws_sameBytes.calls _ _ t534 _ _ t549 false _ ?side1 ?side2 ?side3 ?side4 A31.out).mono ?_); (case side1 => refine (Kd.R_reads' (e := 5) (base := w.heap.size) (ok := fun k_ => ((True ∧ some k_ ≠ (.slice Ao13 t520.length co13 : Value).ownBlock) ∧ some k_ ≠ (.slice Ao43 t549.length co43 : Value).ownBlock)) (n := t534.length) (c := co42) ?_).2.2; exact (by refine kR_ ?_; exact (rfm_ ((Kd.R_types HO536.out BK553.out (by decide))) (fun _ h_ => op1_ h_)))); (case side2 => exact (Kd.R_reads' HO536.out).2.1); (case side3 => refine (Kd.R_reads' (e := 5) (base := w.heap.size) (ok := fun k_ => ((True ∧ some k_ ≠ (.slice Ao13 t520.length co13 : Value).ownBlock) ∧ some k_ ≠ (.slice Ao42 t534.length co42 : Value).ownBlock)) (n := t549.length) (c := co43) ?_).2.2; exact (by refine kR_ ?_; exact (rfm_ ((Kd.R_types HO551.out BK553.out (by decide))) (fun _ h_ => op1_ h_)))); (case side4 => exact (Kd.R_reads' HO551.out).2.1); rintro e w' ⟨rfl, ⟨nd, rfl⟩⟩))
     go_meet
     case rel => exact ⟨_, (true), (by first | rfl | (simp; done) | (simp [*]; done)), H', ⟨by first | omega | exact Nat.le_refl _⟩, ⟨by refine kR_ ?_; exact rfm_ ((Kd.R_types HO522.out BK553.out (by decide))) (fun _ hk => hk.1.1.2)⟩, ⟨by refine kR_ ?_; exact rfm_ ((Kd.R_types HO536.out BK553.out (by decide))) (fun _ hk => hk.1.1.2)⟩, ⟨by refine kR_ ?_; exact rfm_ ((Kd.R_types HO513.out BK553.out (by decide))) (fun _ hk => ⟨hk.1.1.1.1.1, ⟨hk.1.1.1.1.2, ⟨hk.1.1.1.2, ⟨hk.1.1.2, hk.1.2⟩⟩⟩⟩)⟩, ⟨by refine kS_ ?_; exact Kd.S_mono (Kd.S_far (p := ⟨gb553, 3, none⟩) (Kd.S_far (p := ⟨gb553, 2, none⟩) (Kd.S_far (p := ⟨gb553, 1, none⟩) (Kd.S_far (p := ⟨gb553, 0, none⟩) (Kd.S_types HO516.out BK553.out (by decide)) (fun _ hk => hk.2) (.int .i64 t539)) (fun _ hk => hk.2) (.slice Ao27 t540.length co27)) (fun _ hk => hk.2) (.slice Ao28 t543.length co28)) (fun _ hk => hk.2) (.slice Ao29 t546.length co29)) (fun _ hk => ⟨hk.1.1.1.1.1, ⟨hk.1.1.1.2, ⟨hk.1.1.1.1.2, hk.1.1.2⟩⟩⟩)⟩, ⟨by refine kR_ ?_; exact rfm_ ((Kd.R_types HO519.out BK553.out (by decide))) (fun _ hk => ⟨hk.1.1.1.1.1, ⟨hk.1.1.1.1.2, ⟨hk.1.1.1.2, ⟨hk.1.1.2, hk.1.2⟩⟩⟩⟩)⟩, ⟨by refine kR_ ?_; exact rfm_ ((Kd.R_types HO527.out BK553.out (by decide))) (fun _ hk => ⟨hk.1.1.1.1.2, ⟨hk.1.1.1.2, ⟨hk.1.1.1.1.1, ⟨hk.1.1.2, hk.1.2⟩⟩⟩⟩)⟩, ⟨by refine kS_ ?_; exact Kd.S_mono (Kd.S_far (p := ⟨gb553, 3, none⟩) (Kd.S_far (p := ⟨gb553, 2, none⟩) (Kd.S_far (p := ⟨gb553, 1, none⟩) (Kd.S_far (p := ⟨gb553, 0, none⟩) (Kd.S_types HO530.out BK553.out (by decide)) (fun _ hk => hk.2) (.int .i64 t539)) (fun _ hk => hk.2) (.slice Ao27 t540.length co27)) (fun _ hk => hk.2) (.slice Ao28 t543.length co28)) (fun _ hk => hk.2) (.slice Ao29 t546.length co29)) (fun _ hk => ⟨hk.1.1.1.2, ⟨hk.1.1.1.1.1, ⟨hk.1.1.1.1.2, hk.1.1.2⟩⟩⟩)⟩, ⟨by refine kR_ ?_; exact rfm_ ((Kd.R_types HO533.out BK553.out (by decide))) (fun _ hk => ⟨hk.1.1.1.1.2, ⟨hk.1.1.1.2, ⟨hk.1.1.1.1.1, ⟨hk.1.1.2, hk.1.2⟩⟩⟩⟩)⟩, ⟨by refine kR_ ?_; exact rfm_ ((Kd.R_types HO542.out BK553.out (by decide))) (fun _ hk => ⟨hk.1.1.1.1.2, ⟨hk.1.1.1.2, ⟨hk.1.1.2, ⟨hk.1.2, hk.1.1.1.1.1⟩⟩⟩⟩)⟩, ⟨by refine kS_ ?_; exact Kd.S_mono (Kd.S_far (p := ⟨gb553, 3, none⟩) (Kd.S_far (p := ⟨gb553, 2, none⟩) (Kd.S_far (p := ⟨gb553, 1, none⟩) (Kd.S_far (p := ⟨gb553, 0, none⟩) (Kd.S_types HO545.out BK553.out (by decide)) (fun _ hk => hk.2) (.int .i64 t539)) (fun _ hk => hk.2) (.slice Ao27 t540.length co27)) (fun _ hk => hk.2) (.slice Ao28 t543.length co28)) (fun _ hk => hk.2) (.slice Ao29 t546.length co29)) (fun _ hk => ⟨hk.1.1.1.2, ⟨hk.1.2, ⟨hk.1.1.1.1.2, hk.1.1.2⟩⟩⟩)⟩, ⟨by refine kR_ ?_; exact rfm_ ((Kd.R_types HO548.out BK553.out (by decide))) (fun _ hk => ⟨hk.1.1.1.1.2, ⟨hk.1.1.1.2, ⟨hk.1.1.2, ⟨hk.1.2, hk.1.1.1.1.1⟩⟩⟩⟩)⟩, ⟨by exact kf_ BK523.out⟩, ⟨by exact kf_ BK538.out⟩, ⟨by refine kb_ ?_; refine pz4 (cs := #[.int .i64 0, .slice none 0 0, .slice none 0 0, .slice none 0 0]) ?_; refine kb_ ?_; exact BK553.out⟩, ⟨hbA_ HB.out⟩⟩
  case rest =>
   clear HC6; (try clear c1); (try clear c2); (try clear c2b0); (try clear c2b1); (try clear p2); (try clear c3); (try clear c6); (try clear c16); (try clear c24); (try clear c25); (try clear c26); (try clear c27); (try clear c30); (try clear c30b0); (try clear c30b1); (try clear c30b2); (try clear c32); (try clear c36); (try clear c37); (try clear c39); (try clear Z17); (try clear Z21); (try clear Z26); (try clear Z38); (try clear Z40); (try clear Z9)
   obtain ⟨kq, x50_5, rfl, HA, HJ5, HO_4, HO_6, HO_524001, HO_524002, HO_524003, HO_539001, HO_539002, HO_539003, HO_554001, HO_554002, HO_554003, BK523, BK538, BK553, HB⟩ := hcut
   cases kq with
   | zero => exact absurd HA.out (by simp [laws_FnClientAsk.j0])
   | succ kj5 =>
    have H := HA.out; clear HA
    simp only [laws_FnClientAsk.j0] at H
    by_cases c44 : x50_5 = true
    ·subst c44
     rw [if_pos rfl] at H
     exact absurd (Option.some.inj H) (by rw [HLW.out]; exact Bool.false_ne_true)
    ·replace c44 := Bool.eq_false_iff.mpr c44
     subst c44
     rw [if_neg (show ¬ (false = true) by decide)] at H
     by_cases c45 : t537 = true
     ·subst c45
      rw [if_pos rfl] at H
      replace H := Option.bind_eq_some_iff.mp H
      obtain ⟨⟨t557, t558, t559⟩, A460, H⟩ := H
      (try dsimp only at H)
      have A46 := Aside0.mk A460; clear A460
      replace H := Option.bind_eq_some_iff.mp H
      obtain ⟨t562, A470, H⟩ := H
      (try dsimp only at H)
      have A47 := Aside0.mk A470; clear A470
      by_cases c48 : t562 = true
      ·subst c48
       rw [if_pos rfl] at H
       by_cases c49 : (t557.length : Int) = 1
       ·rw [if_pos c49] at H
        have c49b0 : ((t557.length : Int) == 1) = true := beq_iff_eq.mpr c49
        have c49b1 : ((t557.length : Int) != 1) = false := bne_eq_false_iff_eq.mpr c49
        clear c49
        by_cases c50 : 0 < (t557.length : Int)
        ·rw [if_pos c50] at H
         have c50b0 : decide (0 < (t557.length : Int)) = true := decide_eq_true c50
         have c50b1 : decide (0 < t557.length) = true := decide_eq_true (by omega)
         clear c50
         by_cases c51 : ((rd_T41 t557 0).f0) = t510
         ·rw [if_pos c51] at H
          have c51b0 : (((rd_T41 t557 0).f0) == t510) = true := beq_iff_eq.mpr c51
          have c51b1 : (((rd_T41 t557 0).f0) != t510) = false := bne_eq_false_iff_eq.mpr c51
          clear c51
          replace H := Option.bind_eq_some_iff.mp H
          obtain ⟨t565, A520, H⟩ := H
          (try dsimp only at H)
          have A52 := Aside0.mk A520; clear A520
          by_cases c53 : t565 = true
          ·subst c53
           rw [if_pos rfl] at H
           replace H := Option.bind_eq_some_iff.mp H
           obtain ⟨t566, A540, H⟩ := H
           (try dsimp only at H)
           have A54 := Aside0.mk A540; clear A540
           by_cases c55 : t566 = true
           ·subst c55
            rw [if_pos rfl] at H
            obtain rfl := Option.some.inj H
            obtain ⟨Ao56, co56, eo56⟩ := Kd.R_slice HO_6.out
            subst eo56
            try go_wp2_with (first | ((with_reducible refine gate_callee (f := 29) rfl ?_); refine goesL_ (some 61) rfl rfl Try.func29 (by kernel_rfl) rfl #[.slice Ao56 t534.length co56] rfl ar_ ?_; (with_reducible refine (impl_WordsFrom.calls kj5 _ _ t534 t557 t558 t559 _ ?side1 ?side2 A46.out).mono ?_); (case side1 => exact kC_ (Kd.R_reads' HO_6.out).2.2); (case side2 => exact (Kd.R_reads' HO_6.out).2.1); rintro e w57 ⟨v560, rfl, ho0, hb⟩; refine ⟨_, rfl, ?_⟩; replace HO_524001 := Aside0.mk (Kd.R_below (kR_ HO_524001.out) hb); replace HO_524003 := Aside0.mk (Kd.R_below (kR_ HO_524003.out) hb); replace HO_539001 := Aside0.mk (Kd.R_below (kR_ HO_539001.out) hb); replace HO_539003 := Aside0.mk (Kd.R_below (kR_ HO_539003.out) hb); replace HO_554001 := Aside0.mk (Kd.R_below (kR_ HO_554001.out) hb); replace HO_554003 := Aside0.mk (Kd.R_below (kR_ HO_554003.out) hb); have HO561 := Aside0.mk (Kd.S_lower (Kd.S_new' (Kd.S_new' (Kd.S_new' (Kd.S_new' (Kd.S_new' ho0 (Kd.R_lt (kR_ HO_4.out))) (Kd.R_lt (kR_ HO_6.out))) (Kd.S_lt (kS_ HO_524002.out))) (Kd.S_lt (kS_ HO_539002.out))) (Kd.S_lt (kS_ HO_554002.out))) (below_size (hbA_ HB.out))); replace HO_4 := Aside0.mk (Kd.R_below (kR_ HO_4.out) hb); replace HO_6 := Aside0.mk (Kd.R_below (kR_ HO_6.out) hb); replace HO_524002 := Aside0.mk (Kd.S_elder' (kS_ HO_524002.out) (Kd.S_base ho0) hb); replace HO_539002 := Aside0.mk (Kd.S_elder' (kS_ HO_539002.out) (Kd.S_base ho0) hb); replace HO_554002 := Aside0.mk (Kd.S_elder' (kS_ HO_554002.out) (Kd.S_base ho0) hb); replace BK523 := (bbA_ BK523 hb); replace BK538 := (bbA_ BK538 hb); replace BK553 := (bbA_ BK553 hb); replace HB := (bs_ HB hb); (try clear hb); (try clear hb2); (try clear hk); (try clear hi); (try clear ho0)))
            replace HO_4 := Aside0.mk (Kd.R_drew HO_4.out); replace HO_6 := Aside0.mk (Kd.R_drew HO_6.out); replace HO_524001 := Aside0.mk (Kd.R_drew HO_524001.out); replace HO_524002 := Aside0.mk (Kd.S_drew HO_524002.out); replace HO_524003 := Aside0.mk (Kd.R_drew HO_524003.out); replace HO_539001 := Aside0.mk (Kd.R_drew HO_539001.out); replace HO_539002 := Aside0.mk (Kd.S_drew HO_539002.out); replace HO_539003 := Aside0.mk (Kd.R_drew HO_539003.out); replace HO_554001 := Aside0.mk (Kd.R_drew HO_554001.out); replace HO_554002 := Aside0.mk (Kd.S_drew HO_554002.out); replace HO_554003 := Aside0.mk (Kd.R_drew HO_554003.out); replace HO561 := Aside0.mk (Kd.S_drew HO561.out); replace BK523 := Aside0.mk (blk_drew BK523.out); replace BK538 := Aside0.mk (blk_drew BK538.out); replace BK553 := Aside0.mk (blk_drew BK553.out); replace HB := (bd_ HB)
            have p563 : 0 ≤ (0 : Int) := (by omega)
            have q563 : 0 < (t557.length : Int) := of_decide_eq_true (by first | (with_reducible assumption) | assumption)
            (try (obtain ⟨Aq_, cq_, eq_⟩ := Kd.S_slice HO561.out; subst eq_))
            obtain ⟨ad563, A563_1, c563_1, e563, hx563_0, hx563_1, hl563_1, hi563_1⟩ := at_T41 (Kd.S_reads' HO561.out).2.2 0 p563 q563
            cases e563
            obtain ⟨ce563, hce563, hMe563, hcc563⟩ := Kd.S_get HO561.out z41 0 p563 (by first | exact q563 | exact of_decide_eq_true (by first | (with_reducible assumption) | assumption) | (have e_ := (Kd.S_reads' HO561.out).1; omega))
            obtain ⟨ve563_1, rfl, ge563_1⟩ := k41_openM hMe563
            have hv563_1 := hcc563 1 _ rfl
            rw [add_field _ _ 1 (by omega)] at hv563_1
            replace hv563_1 := Option.some.inj (hv563_1.symm.trans hx563_1)
            rw [hv563_1] at ge563_1
            have HL563_1 := Aside0.mk (show Kd.R (Kd.int .u8) 5 _ _ _ _ ((rd_T41 t557 0).f1) from ge563_1)
            clear hv563_1 ge563_1 hcc563 hce563
            have qi563 : (0 < t557.length) = True := eq_true (by omega)
            (try rw [show ((0 : Int)).toNat = 0 from rfl] at hx563_0)
            (try rw [show 0 * 2 = 0 from rfl] at hx563_0)
            (try rw [Addr.add_zero'] at hx563_0)
            (try rw [show ((0 : Int)).toNat = 0 from rfl] at hx563_1)
            (try rw [show 0 * 2 = 0 from rfl] at hx563_1)
            (try rw [Addr.add_zero'] at hx563_1)
            have HR563_1 := Aside0.mk hi563_1; have HC563_1 := Aside0.mk hl563_1; clear hi563_1 hl563_1
            replace p563 := eq_true p563
            replace q563 := eq_true q563
            have p564 : 0 ≤ (0 : Int) := (by omega)
            have q564 : 0 < (t557.length : Int) := of_decide_eq_true (by first | (with_reducible assumption) | assumption)
            (try (obtain ⟨Aq_, cq_, eq_⟩ := Kd.S_slice HO561.out; subst eq_))
            obtain ⟨ad564, A564_1, c564_1, e564, hx564_0, hx564_1, hl564_1, hi564_1⟩ := at_T41 (Kd.S_reads' HO561.out).2.2 0 p564 q564
            obtain rfl : ad563 = ad564 := (by injection e564)
            obtain ⟨ce564, hce564, hMe564, hcc564⟩ := Kd.S_get HO561.out z41 0 p564 (by first | exact q564 | exact of_decide_eq_true (by first | (with_reducible assumption) | assumption) | (have e_ := (Kd.S_reads' HO561.out).1; omega))
            obtain ⟨ve564_1, rfl, ge564_1⟩ := k41_openM hMe564
            have hv564_1 := hcc564 1 _ rfl
            rw [add_field _ _ 1 (by omega)] at hv564_1
            replace hv564_1 := Option.some.inj (hv564_1.symm.trans hx564_1)
            rw [hv564_1] at ge564_1
            have HL564_1 := Aside0.mk (show Kd.R (Kd.int .u8) 5 _ _ _ _ ((rd_T41 t557 0).f1) from ge564_1)
            clear hv564_1 ge564_1 hcc564 hce564
            have qi564 : (0 < t557.length) = True := eq_true (by omega)
            (try rw [show ((0 : Int)).toNat = 0 from rfl] at hx564_0)
            (try rw [show 0 * 2 = 0 from rfl] at hx564_0)
            (try rw [Addr.add_zero'] at hx564_0)
            (try rw [show ((0 : Int)).toNat = 0 from rfl] at hx564_1)
            (try rw [show 0 * 2 = 0 from rfl] at hx564_1)
            (try rw [Addr.add_zero'] at hx564_1)
            have HR564_1 := Aside0.mk hi564_1; have HC564_1 := Aside0.mk hl564_1; clear hi564_1 hl564_1
            replace p564 := eq_true p564
            replace q564 := eq_true q564
            have ea_ := Option.some.inj (hx563_1.symm.trans hx564_1)
            injection ea_ with ea_ en_ ec_
            subst ea_; subst ec_; clear en_
            refine start_ (n := 40) (S := fun w' => w'.cell? ⟨gb538, 0, none⟩ = some (.int .i64 t524) ∧ w'.cell? ⟨gb538, 1, none⟩ = some (.slice Ao18 t525.length co18) ∧ w'.cell? ⟨gb538, 2, none⟩ = some (.slice Ao19 t528.length co19) ∧ w'.cell? ⟨gb538, 3, none⟩ = some (.slice Ao20 t531.length co20) ∧ w'.cell? ⟨gb523, 0, none⟩ = some (.int .i64 t510) ∧ w'.cell? ⟨gb523, 1, none⟩ = some (.slice Ao10 t511.length co10) ∧ w'.cell? ⟨gb523, 2, none⟩ = some (.slice Ao11 t514.length co11) ∧ w'.cell? ⟨gb523, 3, none⟩ = some (.slice Ao12 t517.length co12) ∧ w'.cell? ad563 = some (.int .i64 ((rd_T41 t557 0).f0)) ∧ w'.cell? ⟨ad563.block, ad563.off + 1, none⟩ = some (.slice A563_1 ((rd_T41 t557 0).f1).length c563_1) ∧ w'.cell? ad563 = some (.int .i64 ((rd_T41 t557 0).f0)) ∧ w'.cell? ⟨ad563.block, ad563.off + 1, none⟩ = some (.slice A563_1 ((rd_T41 t557 0).f1).length c563_1)) (ds := []) #[false, false, false, false, false, false, false, false, false, false, false, false, false, false, false, false, false, false, false, false, false, false, false, false, false, false, false, false, false, false, false, false, false, false, false, false, false, false, false, false] (by kernel_rfl) rfl rfl ⟨bc_ BK538 0, bc_ BK538 1, bc_ BK538 2, bc_ BK538 3, bc_ BK523 0, bc_ BK523 1, bc_ BK523 2, bc_ BK523 3, hx563_0, hx563_1, hx564_0, hx564_1⟩ (fun hHeld => ?_); refine with_tabW laws_FnClientAsk.tab11 laws_FnClientAsk.bits11 (fun HT_ HW_ => ?_)
            generalize w57.drew = w58 at HO_4 HO_6 HO_524001 HO_524002 HO_524003 HO_539001 HO_539002 HO_539003 HO_554001 HO_554002 HO_554003 HO561 BK523 BK538 BK553 HB HL563_1 HL564_1 HR563_1 HR564_1 hx563_0 hx563_1 hx564_0 hx564_1 hHeld ⊢
            refine tk_ (i := 0) (N := some 65) HT_ HW_ hHeld ?_
            refine on_ (i := 1) (N := some 66) HT_ (fun K hK => ?_)
            refine goes_ Try.func14 (by kernel_rfl) rfl #[.agg #[.int .i64 t524, .slice Ao18 t525.length co18, .slice Ao19 t528.length co19, .slice Ao20 t531.length co20]] (by rfl) rfl rfl ar_ ?_
            with_reducible refine (impl_ClientOk.calls kj5 t524 _ _ t525 _ _ t528 _ _ t531 true _ ?side1 ?side2 ?side3 ?side4 ?side5 ?side6 A47.out).mono ?_
            (case side1 => exact kC_ (Kd.R_reads' HO_539001.out).2.2)
            (case side2 => exact (Kd.R_reads' HO_539001.out).2.1)
            (case side3 => exact kC_ (Kd.S_reads' HO_539002.out).2.2)
            (case side4 => exact (Kd.S_reads' HO_539002.out).2.1)
            (case side5 => exact kC_ (Kd.R_reads' HO_539003.out).2.2)
            (case side6 => exact (Kd.R_reads' HO_539003.out).2.1)
            rintro e w59 ⟨rfl, hb⟩
            have HS8_ := (hb.cell (World.block_lt_of_cell? _ _ (hHeld.2.2.2.2.2.2.2.2.1))).trans (hHeld.2.2.2.2.2.2.2.2.1)
            have HS9_ := (hb.cell (World.block_lt_of_cell? _ _ (hHeld.2.2.2.2.2.2.2.2.2.1))).trans (hHeld.2.2.2.2.2.2.2.2.2.1)
            have HS10_ := (hb.cell (World.block_lt_of_cell? _ _ (hHeld.2.2.2.2.2.2.2.2.2.2.1))).trans (hHeld.2.2.2.2.2.2.2.2.2.2.1)
            have HS11_ := (hb.cell (World.block_lt_of_cell? _ _ (hHeld.2.2.2.2.2.2.2.2.2.2.2))).trans (hHeld.2.2.2.2.2.2.2.2.2.2.2)
            refine ⟨_, rfl, ?_⟩
            (try replace HR564_1 := Aside0.mk (Kd.C_below HR564_1.out hb)); replace HO_4 := Aside0.mk (Kd.R_below (kR_ HO_4.out) hb); replace HO_6 := Aside0.mk (Kd.R_below (kR_ HO_6.out) hb); replace HO_524001 := Aside0.mk (Kd.R_below (kR_ HO_524001.out) hb); replace HO_524002 := Aside0.mk (Kd.S_below (kS_ HO_524002.out) hb); replace HO_524003 := Aside0.mk (Kd.R_below (kR_ HO_524003.out) hb); replace HO_539001 := Aside0.mk (Kd.R_below (kR_ HO_539001.out) hb); replace HO_539002 := Aside0.mk (Kd.S_below (kS_ HO_539002.out) hb); replace HO_539003 := Aside0.mk (Kd.R_below (kR_ HO_539003.out) hb); replace HO_554001 := Aside0.mk (Kd.R_below (kR_ HO_554001.out) hb); replace HO_554002 := Aside0.mk (Kd.S_below (kS_ HO_554002.out) hb); replace HO_554003 := Aside0.mk (Kd.R_below (kR_ HO_554003.out) hb); replace HO561 := Aside0.mk (Kd.S_below (kS_ HO561.out) hb); replace BK523 := (bbA_ BK523 hb); replace BK538 := (bbA_ BK538 hb); replace BK553 := (bbA_ BK553 hb); replace HB := (bs_ HB hb); (try clear hb); (try clear hb2); (try clear hk); (try clear hi)
            obtain ⟨Ao60, co60, eo60⟩ := Kd.S_slice HO561.out
            (first | subst eo60 | (injection eo60 with f1_ f2_ f3_; have f4_ := f1_.symm; have f5_ := f3_.symm; clear f1_ f2_ f3_; subst f4_; subst f5_))
            refine hK.out _ _ ⟨bc_ BK538 0, bc_ BK538 1, bc_ BK538 2, bc_ BK538 3, bc_ BK523 0, bc_ BK523 1, bc_ BK523 2, bc_ BK523 3, HS8_, HS9_, HS10_, HS11_⟩ (fun hHeld => ?_)
            clear hK K; refine nm_ 66 ?_; refine pu_ (i := 2) (N := some 67) HT_ ?_; refine pu_ (i := 3) (N := some 68) HT_ ?_; refine pu_ (i := 4) (N := some 69) HT_ ?_; refine pu_ (i := 5) (N := some 70) HT_ ?_; refine pu_ (i := 6) (N := some 71) HT_ ?_; refine pu_ (i := 7) (N := some 72) HT_ ?_; refine pu_ (i := 8) (N := some 73) HT_ ?_; refine pu_ (i := 9) (N := some 74) HT_ ?_; refine pu_ (i := 10) (N := some 75) HT_ ?_; refine pu_ (i := 12) (N := some 77) HT_ ?_; refine tk_ (i := 11) (N := some 76) HT_ HW_ hHeld ?_; refine tk_ (i := 13) (N := some 78) HT_ HW_ hHeld ?_; refine pu_ (i := 14) (N := some 79) HT_ ?_; refine pu_ (i := 15) (N := some 80) HT_ ?_; refine pu_ (i := 16) (N := some 81) HT_ ?_; refine pu_ (i := 17) (N := some 82) HT_ ?_; refine pu_ (i := 18) (N := some 83) HT_ ?_; refine pu_ (i := 19) (N := some 84) HT_ ?_; refine pu_ (i := 21) (N := some 86) HT_ ?_; refine tk_ (i := 20) (N := some 85) HT_ HW_ hHeld ?_
            refine on_ (i := 22) (N := some 87) HT_ (fun K hK => ?_)
            refine goes_ Try.func28 (by kernel_rfl) rfl #[.slice A563_1 ((rd_T41 t557 0).f1).length c563_1, .slice Ao13 t520.length co13] (by rfl) rfl rfl ar_ ?_
            with_reducible refine (laws_sameBytes.calls _ _ ((rd_T41 t557 0).f1) _ _ t520 true _ ?side1 ?side2 ?side3 ?side4 A52.out).mono ?_
            (case side1 => exact kC_ (by repeat (first | (with_reducible exact HR564_1.out) | (with_reducible exact Kd.C_drewN HR564_1.out _) | (with_reducible refine Kd.C_alloc ?_ _) | (with_reducible refine Kd.C_drewN ?_ _) | (with_reducible refine Kd.C_drew ?_) | exact HR564_1.out)))
            (case side2 => exact HC564_1.out)
            (case side3 => exact kC_ (Kd.R_reads' HO_4.out).2.2)
            (case side4 => exact (Kd.R_reads' HO_4.out).2.1)
            rintro e w' ⟨rfl, ⟨nd, rfl⟩⟩
            refine ⟨_, rfl, ?_⟩
            refine hK.out _ _ ⟨bc_ BK538 0, bc_ BK538 1, bc_ BK538 2, bc_ BK538 3, bc_ BK523 0, bc_ BK523 1, bc_ BK523 2, bc_ BK523 3, hHeld.2.2.2.2.2.2.2.2.1, hHeld.2.2.2.2.2.2.2.2.2.1, hHeld.2.2.2.2.2.2.2.2.2.2.1, hHeld.2.2.2.2.2.2.2.2.2.2.2⟩ (fun hHeld => ?_)
            clear hK K; refine nm_ 87 ?_; refine pu_ (i := 23) (N := some 88) HT_ ?_; refine pu_ (i := 24) (N := some 89) HT_ ?_; refine pu_ (i := 25) (N := some 90) HT_ ?_; refine pu_ (i := 27) (N := some 92) HT_ ?_; refine tk_ (i := 26) (N := some 91) HT_ HW_ hHeld ?_; refine tk_ (i := 28) (N := some 93) HT_ HW_ hHeld ?_
            refine on_ (i := 29) (N := some 94) HT_ (fun K hK => ?_)
            refine goes_ Try.func21 (by kernel_rfl) rfl #[.slice Ao18 t525.length co18, .int .i64 t510] (by rfl) rfl rfl ar_ ?_
            with_reducible refine (laws_hasInt.calls kj5 _ _ t525 t510 true _ ?side1 ?side2 A54.out).mono ?_
            (case side1 => exact kC_ (Kd.R_reads' HO_539001.out).2.2)
            (case side2 => exact (Kd.R_reads' HO_539001.out).2.1)
            rintro e w' ⟨rfl, ⟨nd, rfl⟩⟩
            refine ⟨_, rfl, ?_⟩
            refine hK.out _ _ ⟨bc_ BK538 0, bc_ BK538 1, bc_ BK538 2, bc_ BK538 3, bc_ BK523 0, bc_ BK523 1, bc_ BK523 2, bc_ BK523 3, hHeld.2.2.2.2.2.2.2.2.1, hHeld.2.2.2.2.2.2.2.2.2.1, hHeld.2.2.2.2.2.2.2.2.2.2.1, hHeld.2.2.2.2.2.2.2.2.2.2.2⟩ (fun hHeld => ?_)
            clear hK K; refine nm_ 94 ?_; refine pu_ (i := 30) (N := some 95) HT_ ?_; refine pu_ (i := 31) (N := some 96) HT_ ?_; refine pu_ (i := 32) (N := some 97) HT_ ?_; refine pu_ (i := 34) (N := some 99) HT_ ?_; refine tk_ (i := 33) (N := some 98) HT_ HW_ hHeld ?_; refine tk_ (i := 35) (N := some 100) HT_ HW_ hHeld ?_; refine pu_ (i := 36) (N := some 101) HT_ ?_; refine pu_ (i := 37) (N := some 102) HT_ ?_; refine pu_ (i := 38) (N := some 103) HT_ ?_; refine pu_ (i := 39) (N := some 2) HT_ ?_
            refine done_ (done_of HT_.out (by kernel_rfl)) ?_
            try go_wp2
            go_ret
            exact ⟨by first | rfl | (simp [errW_none, errW_some] <;> rfl) | (simp [*, errW_none, errW_some] <;> rfl), hbA_ HB.out⟩
           ·replace c55 := Bool.eq_false_iff.mpr c55
            subst c55
            rw [if_neg (show ¬ (false = true) by decide)] at H
            exact absurd (Option.some.inj H) (by rw [HLW.out]; exact Bool.false_ne_true)
          ·replace c53 := Bool.eq_false_iff.mpr c53
           subst c53
           rw [if_neg (show ¬ (false = true) by decide)] at H
           exact absurd (Option.some.inj H) (by rw [HLW.out]; exact Bool.false_ne_true)
         ·rw [if_neg c51] at H
          have c51b0 : (((rd_T41 t557 0).f0) == t510) = false := beq_eq_false_iff_ne.mpr c51
          have c51b1 : (((rd_T41 t557 0).f0) != t510) = true := bne_iff_ne.mpr c51
          exact absurd (Option.some.inj H) (by rw [HLW.out]; exact Bool.false_ne_true)
        ·rw [if_neg c50] at H
         exact absurd H (by simp)
       ·rw [if_neg c49] at H
        have c49b0 : ((t557.length : Int) == 1) = false := beq_eq_false_iff_ne.mpr c49
        have c49b1 : ((t557.length : Int) != 1) = true := bne_iff_ne.mpr c49
        exact absurd (Option.some.inj H) (by rw [HLW.out]; exact Bool.false_ne_true)
      ·replace c48 := Bool.eq_false_iff.mpr c48
       subst c48
       rw [if_neg (show ¬ (false = true) by decide)] at H
       exact absurd (Option.some.inj H) (by rw [HLW.out]; exact Bool.false_ne_true)
     ·replace c45 := Bool.eq_false_iff.mpr c45
      subst c45
      rw [if_neg (show ¬ (false = true) by decide)] at H
      by_cases c61 : (t534.length : Int) = 0
      ·rw [if_pos c61] at H
       have c61b0 : ((t534.length : Int) == 0) = true := beq_iff_eq.mpr c61
       have c61b1 : ((t534.length : Int) != 0) = false := bne_eq_false_iff_eq.mpr c61
       clear c61
       replace H := Option.bind_eq_some_iff.mp H
       obtain ⟨t556, A620, H⟩ := H
       (try dsimp only at H)
       have A62 := Aside0.mk A620; clear A620
       obtain rfl := Option.some.inj H
       obtain ⟨Ao63, co63, eo63⟩ := Kd.R_slice HO_6.out
       subst eo63
       go_wp2_with (first | (go_at_call 20; (with_reducible refine (laws_alive.calls kj5  t556 _ A62.out).mono ?_); rintro e w64 ⟨rfl, hb⟩; replace HO_4 := Aside0.mk (Kd.R_below (kR_ HO_4.out) hb); replace HO_6 := Aside0.mk (Kd.R_below (kR_ HO_6.out) hb); replace HO_524001 := Aside0.mk (Kd.R_below (kR_ HO_524001.out) hb); replace HO_524002 := Aside0.mk (Kd.S_below (kS_ HO_524002.out) hb); replace HO_524003 := Aside0.mk (Kd.R_below (kR_ HO_524003.out) hb); replace HO_539001 := Aside0.mk (Kd.R_below (kR_ HO_539001.out) hb); replace HO_539002 := Aside0.mk (Kd.S_below (kS_ HO_539002.out) hb); replace HO_539003 := Aside0.mk (Kd.R_below (kR_ HO_539003.out) hb); replace HO_554001 := Aside0.mk (Kd.R_below (kR_ HO_554001.out) hb); replace HO_554002 := Aside0.mk (Kd.S_below (kS_ HO_554002.out) hb); replace HO_554003 := Aside0.mk (Kd.R_below (kR_ HO_554003.out) hb); replace BK523 := (bbA_ BK523 hb); replace BK538 := (bbA_ BK538 hb); replace BK553 := (bbA_ BK553 hb); replace HB := (bs_ HB hb); (try clear hb); (try clear hb2); (try clear hk); (try clear hi)))
       go_ret
       exact ⟨by first | rfl | (simp [errW_none, errW_some] <;> rfl) | (simp [*, errW_none, errW_some] <;> rfl), hbA_ HB.out⟩
      ·rw [if_neg c61] at H
       have c61b0 : ((t534.length : Int) == 0) = false := beq_eq_false_iff_ne.mpr c61
       have c61b1 : ((t534.length : Int) != 0) = true := bne_iff_ne.mpr c61
       have c61b2 : ¬ (t534 = []) := fun h_ => c61 (by rw [h_]; rfl)
       exact absurd (Option.some.inj H) (by rw [HLW.out]; exact Bool.false_ne_true)
def laws_FnClientAsk.Pure : Prop := ∀ (l0 : List Int), l0.length ≤ maxLen → l0.length * 1 ≤ 140737488351232 → (∀ x ∈ l0, (Lit.int .u8 x).wf = true) → ∃ k, laws_FnClientAsk.f k l0 = some true
theorem laws_FnClientAsk.walk (P : laws_FnClientAsk.Pure) (a0 : Option Addr) (len0 cap0 : Nat) (z0 : List Int) (w : World) (w0 : (a0 = none ∧ len0 = 0 ∧ cap0 = 0 ∧ z0 = []) ∨ ∃ x, a0 = some x ∧ len0 ≤ cap0 ∧ cap0 ≤ maxLen ∧ z0.length = cap0 ∧ (∀ i, i < z0.length → w.cell? (x.add i) = some (.int .u8 (z0.getD i 0))) ∧ ∀ n ∈ z0, (Lit.int .u8 n).wf = true) (y0 : len0 * 1 ≤ 140737488351232) :
  Calls Try.prog 6 #[.slice a0 len0 cap0] w fun e w' => e = .returned (.bool true) ∧ Below w.heap.size w w' := by
 obtain ⟨l0, rfl, hr0, hm0, hw0, hc0⟩ := ReadsInt.ofRowC w0
 obtain ⟨k, h⟩ := P l0 hm0 y0 hw0
 refine (laws_FnClientAsk.calls k _ _ l0 true w (Kd.C_of_reads (d := (0 : Int)) (h1 := fun _ => rfl) hr0) hc0 h rfl).mono ?_
 rintro e w' ⟨rfl, hd⟩
 exact ⟨rfl, hd⟩
end Go.Proofs.Ytegchbdjbefdbaa.PFnClientAsk
