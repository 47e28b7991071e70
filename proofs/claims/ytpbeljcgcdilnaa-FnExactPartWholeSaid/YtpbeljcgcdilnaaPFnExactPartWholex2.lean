/- Printed by wip/xp/xprint.sh out of the translation, for this claim: what each function answers, as a plain function, and that the machine does just that. No condition. -/
import Derived.Test.YtpbeljcgcdilnaaPFnExactPartWholex0
import Derived.Test.YtpbeljcgcdilnaaPFnExactPartWholex1
namespace Go.Proofs.Ytpbeljcgcdilnaa.PFnExactPartWhole
open Go.RowKit Go.Proofs.YtpbeljcgcdilnaaW.PrintWords Go.Proofs.YtpbeljcgcdilnaaW.PrintLast Go.Proofs.YtpbeljcgcdilnaaW.PrintMore
attribute [local go_sem] max2_int min2_int max_two min_two max_three min_three max_four min_four   -- for this text's walks alone
set_option linter.unusedVariables false
set_option linter.unusedSimpArgs false
def impl_Part_whole.l0 : Nat → Int → List (S28) → Int → Int → List (S28) → Int → Int → Int → Int → Int → Int → Int → Bool → Bool → List Int → Option (Int × Int × Int × Int × Int × Int × Bool × Bool × List Int × Bool)
 | 0, _, _, _, _, _, _, _, _, _, _, _, _, _, _, _ => none
 | k + 1, x5, x15, x16, x17, x126000, x126001, x140000, x140001, x140002, x140003, x140004, x140005, x140006, x140007, x140008 => if x17 < x16 then (if 0 ≤ x17 then (if x17 < (x15.length : Int) then (if ((rd_T28 x15 x17).f5) = x5 then (if x140008.length + ((rd_T28 x15 x17).f8).length < 140737488355328 then (impl_Part_whole.l0 k (wrap64 (x5 + (((rd_T28 x15 x17).f8).length : Int))) x15 x16 (wrap64 (x17 + 1)) x126000 x126001 x140000 x140001 x140002 x140003 x140004 x140005 x140006 x140007 (x140008 ++ ((rd_T28 x15 x17).f8))) else (none)) else (some (0, 0, 0, 0, 0, 0, false, false, ([] : List Int), false))) else (none)) else (none)) else (if 0 ≤ (wrap64 ((x126000.length : Int) - 1)) then (if (wrap64 ((x126000.length : Int) - 1)) < (x126000.length : Int) then (if (rd_T28 x126000 (wrap64 ((x126000.length : Int) - 1))).f6 = true then (some (0, 0, 0, 0, 0, 0, false, false, ([] : List Int), false)) else ((impl_Packet_copy.f x140000 x140001 x140002 x140003 x140004 x140005 false x140007 x140008).bind fun bt146 => (some (bt146.1, bt146.2.1, bt146.2.2.1, bt146.2.2.2.1, bt146.2.2.2.2.1, bt146.2.2.2.2.2.1, bt146.2.2.2.2.2.2.1, bt146.2.2.2.2.2.2.2.1, bt146.2.2.2.2.2.2.2.2, true)))) else (none)) else (none))
def impl_Part_whole.f (k : Nat) (l0_0 : List (S28)) (a0_1 : Int) : Option (Int × Int × Int × Int × Int × Int × Bool × Bool × List Int × Bool) := if 0 < (l0_0.length : Int) then ((impl_Packet_copy.f ((rd_T28 l0_0 0).f0) ((rd_T28 l0_0 0).f1) ((rd_T28 l0_0 0).f2) ((rd_T28 l0_0 0).f3) ((rd_T28 l0_0 0).f4) ((rd_T28 l0_0 0).f5) ((rd_T28 l0_0 0).f6) ((rd_T28 l0_0 0).f7) ((rd_T28 l0_0 0).f8)).bind fun bt128 => (impl_Part_whole.l0 k 0 l0_0 (l0_0.length : Int) 0 l0_0 a0_1 bt128.1 bt128.2.1 bt128.2.2.1 bt128.2.2.2.1 bt128.2.2.2.2.1 bt128.2.2.2.2.2.1 bt128.2.2.2.2.2.2.1 bt128.2.2.2.2.2.2.2.1 ([] : List Int))) else (none)
theorem impl_Part_whole.mono_l : ∀ k, (∀ y0 y1 y2 y3 y4 y5 y6 y7 y8 y9 y10 y11 y12 y13 y14, LeO (impl_Part_whole.l0 k y0 y1 y2 y3 y4 y5 y6 y7 y8 y9 y10 y11 y12 y13 y14) (impl_Part_whole.l0 (k + 1) y0 y1 y2 y3 y4 y5 y6 y7 y8 y9 y10 y11 y12 y13 y14))
 | 0 => fun _ _ _ _ _ _ _ _ _ _ _ _ _ _ _ r h => by simp [impl_Part_whole.l0] at h
 | k + 1 => by
  have ih0 := impl_Part_whole.mono_l k
  ·intro y0 y1 y2 y3 y4 y5 y6 y7 y8 y9 y10 y11 y12 y13 y14
   unfold impl_Part_whole.l0
   repeat' first | (with_reducible first | apply ih0 | exact LeO.refl _ | exact LeO.none _ | refine LeO.ite ?_ ?_ | refine LeO.bind ?_ fun _ => ?_) | apply ih0 | exact LeO.none _ | refine LeO.ite ?_ ?_ | refine LeO.bind ?_ fun _ => ?_
theorem impl_Part_whole.mono : ∀ a0 a1 k, LeO (impl_Part_whole.f k a0 a1) (impl_Part_whole.f (k + 1) a0 a1) := by
 intro a0 a1 k
 have ih0 := impl_Part_whole.mono_l k
 unfold impl_Part_whole.f
 repeat' first | (with_reducible first | apply ih0 | exact LeO.refl _ | exact LeO.none _ | refine LeO.ite ?_ ?_ | refine LeO.bind ?_ fun _ => ?_) | apply ih0 | exact LeO.none _ | refine LeO.ite ?_ ?_ | refine LeO.bind ?_ fun _ => ?_
set_option maxHeartbeats 8000000 in
set_option maxRecDepth 100000 in
theorem impl_Part_whole.calls (k : Nat) (A0_0 : Option Addr) (c0_0 : Nat) (l0_0 : List (S28)) (a0_1 : Int) (r1 : Int) (r2 : Int) (r3 : Int) (r4 : Int) (r5 : Int) (r6 : Int) (r7 : Bool) (r8 : Bool) (r9 : List Int) (r10 : Bool) (w : World) (hr0_0 : Kd.C k28 w A0_0 l0_0.length l0_0) (hc0_0 : l0_0.length ≤ c0_0) (h : impl_Part_whole.f k l0_0 a0_1 = some (r1, r2, r3, r4, r5, r6, r7, r8, r9, r10)) :
  Calls Try.prog 45 #[.agg #[.slice A0_0 l0_0.length c0_0, .int .i64 a0_1]] w fun e w' => ∃ v8_ : Value, e = .returned (.tuple #[.agg #[.int .i64 r1, .int .i64 r2, .int .i64 r3, .int .i64 r4, .int .i64 r5, .int .i64 r6, .bool r7, .bool r8, v8_], .bool r10]) ∧ Kd.R (Kd.int .u8) 5 w' w.heap.size (fun _ => True) v8_ r9 ∧ Below w.heap.size w w' := by
 have hu25 := Try.underlying25; have hu28 := Try.underlying28; have HR0_0 := Aside0.mk hr0_0; have HC0_0 := Aside0.mk hc0_0; clear hr0_0 hc0_0
 have HB := Aside0.mk (Below.refl w.heap.size w)
 have H : (if 0 < (l0_0.length : Int) then ((impl_Packet_copy.f ((rd_T28 l0_0 0).f0) ((rd_T28 l0_0 0).f1) ((rd_T28 l0_0 0).f2) ((rd_T28 l0_0 0).f3) ((rd_T28 l0_0 0).f4) ((rd_T28 l0_0 0).f5) ((rd_T28 l0_0 0).f6) ((rd_T28 l0_0 0).f7) ((rd_T28 l0_0 0).f8)).bind fun bt128 => (impl_Part_whole.l0 k 0 l0_0 (l0_0.length : Int) 0 l0_0 a0_1 bt128.1 bt128.2.1 bt128.2.2.1 bt128.2.2.2.1 bt128.2.2.2.2.1 bt128.2.2.2.2.2.1 bt128.2.2.2.2.2.2.1 bt128.2.2.2.2.2.2.2.1 ([] : List Int))) else (none)) = some (r1, r2, r3, r4, r5, r6, r7, r8, r9, r10) := h
 clear h
 by_cases c2 : 0 < (l0_0.length : Int)
 ·rw [if_pos c2] at H
  have c2b0 : decide (0 < (l0_0.length : Int)) = true := decide_eq_true c2
  have c2b1 : decide (0 < l0_0.length) = true := decide_eq_true (by omega)
  clear c2
  replace H := Option.bind_eq_some_iff.mp H
  obtain ⟨⟨t128, t129, t130, t131, t132, t133, t134, t135, t136⟩, A30, H⟩ := H
  (try dsimp only at H)
  have A3 := Aside0.mk A30; clear A30
  have H' := Aside0.mk H
  clear H
  go_enter Try.func45, Try.ntmps45
  go_wp2_with (first | ((with_reducible refine gate_dst (N := 1) rfl ?_); refine box_ (N := 1) (cs := #[.slice A0_0 l0_0.length c0_0, .int .i64 a0_1]) (t := 25) (fun gb125 hg w4 hbox hb => ?_); have BK125 := Aside0.mk (hbox); have GW125 := ge_ hg HB; have GE125 := ge_ hg HB; replace HB := (bs_ HB hb); clear hb hbox hg) | ((with_reducible refine gate_dst (N := 2) rfl ?_); refine box_ (N := 2) (cs := #[.int .i64 0, .int .i64 0, .int .i64 0, .int .i64 0, .int .i64 0, .int .i64 0, .bool false, .bool false, .slice none 0 0]) (t := 28) (fun gb126 hg w5 hbox hb => ?_); have BK126 := Aside0.mk (hbox); have GW126 := ge_ hg HB; have GE126 := ge_ hg HB; replace HB := (bs_ HB hb); have NB125_126 := nl_ hg BK125; have NB126_125 := ng_ hg BK125; replace BK125 := (bbA_ BK125 hb); clear hb hbox hg; have hnb6 := NB125_126.out; have hnc6 := NB126_125.out; have Z7 := zz2 BK125; have p127 : 0 ≤ (0 : Int) := (by omega); have q127 : 0 < (l0_0.length : Int) := of_decide_eq_true (by first | (with_reducible assumption) | assumption); obtain ⟨ad127, A127_8, c127_8, e127, hx127_0, hx127_1, hx127_2, hx127_3, hx127_4, hx127_5, hx127_6, hx127_7, hx127_8, hl127_8, hi127_8⟩ := at_T28 HR0_0.out 0 p127 q127; cases e127; have qi127 : (0 < l0_0.length) = True := eq_true (by omega); (try rw [show ((0 : Int)).toNat = 0 from rfl] at hx127_0); (try rw [show 0 * 9 = 0 from rfl] at hx127_0); (try rw [Addr.add_zero'] at hx127_0); (try rw [show ((0 : Int)).toNat = 0 from rfl] at hx127_1); (try rw [show 0 * 9 = 0 from rfl] at hx127_1); (try rw [Addr.add_zero'] at hx127_1); (try rw [show ((0 : Int)).toNat = 0 from rfl] at hx127_2); (try rw [show 0 * 9 = 0 from rfl] at hx127_2); (try rw [Addr.add_zero'] at hx127_2); (try rw [show ((0 : Int)).toNat = 0 from rfl] at hx127_3); (try rw [show 0 * 9 = 0 from rfl] at hx127_3); (try rw [Addr.add_zero'] at hx127_3); (try rw [show ((0 : Int)).toNat = 0 from rfl] at hx127_4); (try rw [show 0 * 9 = 0 from rfl] at hx127_4); (try rw [Addr.add_zero'] at hx127_4); (try rw [show ((0 : Int)).toNat = 0 from rfl] at hx127_5); (try rw [show 0 * 9 = 0 from rfl] at hx127_5); (try rw [Addr.add_zero'] at hx127_5); (try rw [show ((0 : Int)).toNat = 0 from rfl] at hx127_6); (try rw [show 0 * 9 = 0 from rfl] at hx127_6); (try rw [Addr.add_zero'] at hx127_6); (try rw [show ((0 : Int)).toNat = 0 from rfl] at hx127_7); (try rw [show 0 * 9 = 0 from rfl] at hx127_7); (try rw [Addr.add_zero'] at hx127_7); (try rw [show ((0 : Int)).toNat = 0 from rfl] at hx127_8); (try rw [show 0 * 9 = 0 from rfl] at hx127_8); (try rw [Addr.add_zero'] at hx127_8); replace hx127_0 := cc_ HB hx127_0; replace hx127_1 := cc_ HB hx127_1; replace hx127_2 := cc_ HB hx127_2; replace hx127_3 := cc_ HB hx127_3; replace hx127_4 := cc_ HB hx127_4; replace hx127_5 := cc_ HB hx127_5; replace hx127_6 := cc_ HB hx127_6; replace hx127_7 := cc_ HB hx127_7; replace hx127_8 := cc_ HB hx127_8; have HR127_8 := Aside0.mk hi127_8; have HC127_8 := Aside0.mk hl127_8; clear hi127_8 hl127_8; replace p127 := eq_true p127; replace q127 := eq_true q127) | ((with_reducible refine gate_callee (f := 82) rfl ?_); refine goesL_ (some 12) rfl rfl Try.func82 (by kernel_rfl) rfl #[.agg #[.int .i64 ((rd_T28 l0_0 0).f0), .int .i64 ((rd_T28 l0_0 0).f1), .int .i64 ((rd_T28 l0_0 0).f2), .int .i64 ((rd_T28 l0_0 0).f3), .int .i64 ((rd_T28 l0_0 0).f4), .int .i64 ((rd_T28 l0_0 0).f5), .bool ((rd_T28 l0_0 0).f6), .bool ((rd_T28 l0_0 0).f7), .slice A127_8 ((rd_T28 l0_0 0).f8).length c127_8]] rfl ar_ ?_; (with_reducible refine (impl_Packet_copy.calls ((rd_T28 l0_0 0).f0) ((rd_T28 l0_0 0).f1) ((rd_T28 l0_0 0).f2) ((rd_T28 l0_0 0).f3) ((rd_T28 l0_0 0).f4) ((rd_T28 l0_0 0).f5) ((rd_T28 l0_0 0).f6) ((rd_T28 l0_0 0).f7) _ _ ((rd_T28 l0_0 0).f8) t128 t129 t130 t131 t132 t133 t134 t135 t136 _ ?side1 ?side2 A3.out).mono ?_); (case side1 => exact kC_ (Kd.C_below HR127_8.out HB.out)); (case side2 => exact HC127_8.out); rintro e w8 ⟨v137, rfl, ho0, hb⟩; refine ⟨_, rfl, ?_⟩; have HO138 := Aside0.mk (Kd.R_lower ho0 (below_size (hbA_ HB.out))); replace BK125 := (bbA_ BK125 hb); replace BK126 := (bbA_ BK126 hb); replace HB := (bs_ HB hb); (try clear hb); (try clear hb2); (try clear hk); (try clear hi); (try clear ho0)) | ((with_reducible refine gate_dst (N := 4) rfl ?_); refine box_ (N := 4) (cs := #[.int .i64 0, .int .i64 0, .int .i64 0, .int .i64 0, .int .i64 0, .int .i64 0, .bool false, .bool false, .slice none 0 0]) (t := 28) (fun gb139 hg w9 hbox hb => ?_); replace HO138 := Aside0.mk (Kd.R_below (kR_ HO138.out) hb); have BK139 := Aside0.mk (hbox); have GW139 := ge_ hg HB; have GE139 := ge_ hg HB; replace HB := (bs_ HB hb); have NB125_139 := nl_ hg BK125; have NB139_125 := ng_ hg BK125; replace BK125 := (bbA_ BK125 hb); have NB126_139 := nl_ hg BK126; have NB139_126 := ng_ hg BK126; replace BK126 := (bbA_ BK126 hb); clear hb hbox hg; have hnb10 := NB139_125.out; have hnc10 := NB125_139.out; have hnb11 := NB139_126.out; have hnc11 := NB126_139.out; have Z12 := zz9 BK139; obtain ⟨Ao13, co13, eo13⟩ := Kd.R_slice HO138.out; subst eo13; have Z14 := zz2 BK125))
  go_loopg [5, 17] k (fun kq v5 v17 w' => ∃ (x5_1 : Int) (x17_1 : Int) (x127000_1 : Int) (x127001_1 : Int) (x127002_1 : Int) (x127003_1 : Int) (x127004_1 : Int) (x127005_1 : Int) (x127006_1 : Bool) (x127007_1 : Bool) (x140008_1 : List Int) (u140008 : Value), v5 = .int .i64 x5_1 ∧ v17 = .int .i64 x17_1 ∧ Aside0 (impl_Part_whole.l0 kq x5_1 l0_0 (l0_0.length : Int) x17_1 l0_0 a0_1 t128 t129 t130 t131 t132 t133 t134 t135 x140008_1 = some (r1, r2, r3, r4, r5, r6, r7, r8, r9, r10)) ∧ Aside0 (kq ≤ k) ∧ Aside0 (Kd.R (Kd.int .u8) 5 w' w.heap.size (fun _ => True) u140008 x140008_1) ∧ Aside0 (w'.heap[gb125]? = some (.cells #[(.slice (some ad127) l0_0.length c0_0), .int .i64 a0_1] 25 (0, 0))) ∧ Aside0 (w'.heap[gb126]? = some (.cells #[.int .i64 x127000_1, .int .i64 x127001_1, .int .i64 x127002_1, .int .i64 x127003_1, .int .i64 x127004_1, .int .i64 x127005_1, .bool x127006_1, .bool x127007_1, (.slice none 0 0)] 28 (0, 0))) ∧ Aside0 (w'.heap[gb139]? = some (.cells #[.int .i64 t128, .int .i64 t129, .int .i64 t130, .int .i64 t131, .int .i64 t132, .int .i64 t133, .bool t134, .bool t135, u140008] 28 (0, 0))) ∧ Aside0 (Below w.heap.size w w'))
  case atStart => exact ⟨(0), (0), (0), (0), (0), (0), (0), (0), (false), (false), (([] : List Int)), (.slice none 0 0), (by first | rfl | (simp; done) | (simp [*]; done)), (by first | rfl | (simp; done) | (simp [*]; done)), H', ⟨Nat.le_refl _⟩, ⟨by first | exact Kd.R_nil _ _ _ _ _ | exact Kd.N_nil _ _ _ _ _ | exact Kd.V_nil _ _ _ _ _ | exact Kd.Q_nil _ _ _ _ _ | exact Kd.S_nil _ _ _ _ _⟩, ⟨by exact kf_ BK125.out⟩, ⟨by exact kf_ BK126.out⟩, ⟨by refine kb_ ?_; refine blk_put (cs := #[.int .i64 t128, .int .i64 t129, .int .i64 t130, .int .i64 t131, .int .i64 t132, .int .i64 t133, .bool t134, .bool t135, .slice Ao13 t136.length co13]) ?_ 8 _ rfl; refine kb_ ?_; refine pz9 (cs := #[.int .i64 0, .int .i64 0, .int .i64 0, .int .i64 0, .int .i64 0, .int .i64 0, .bool false, .bool false, .slice none 0 0]) ?_; refine kb_ ?_; exact BK139.out⟩, ⟨hbA_ HB.out⟩⟩
  case round =>
   clear H'; (try clear c1); (try clear p1); (try clear q1); (try clear hx1); (try clear qi1); (try clear c2); (try clear c2b0); (try clear c2b1); (try clear p2); (try clear c4); (try clear c6); (try clear c8); (try clear c10); (try clear c11); (try clear c12); (try clear p12); (try clear q12); (try clear hx12); (try clear qi12); (try clear Z12); (try clear Z14); (try clear Z7); (try clear hx127_0); (try clear hx127_1); (try clear hx127_2); (try clear hx127_3); (try clear hx127_4); (try clear hx127_5); (try clear hx127_6); (try clear hx127_7); (try clear hx127_8); (try clear p127); (try clear q127)
   obtain ⟨x5_1, x17_1, x127000_1, x127001_1, x127002_1, x127003_1, x127004_1, x127005_1, x127006_1, x127007_1, x140008_1, u140008, rfl, rfl, HA, HK1, HO_140008, BK125, BK126, BK139, HB⟩ := hrel
   cases gk with
   | zero => exact absurd HA.out (by simp [impl_Part_whole.l0])
   | succ k1 =>
    have H := HA.out; clear HA
    simp only [impl_Part_whole.l0] at H
    by_cases c15 : x17_1 < (l0_0.length : Int)
    ·rw [if_pos c15] at H
     have c15b0 : decide (x17_1 < (l0_0.length : Int)) = true := decide_eq_true c15
     clear c15
     by_cases c16 : 0 ≤ x17_1
     ·rw [if_pos c16] at H
      have c16b0 : decide (0 ≤ x17_1) = true := decide_eq_true c16
      clear c16
      by_cases c17 : x17_1 < (l0_0.length : Int)
      ·rw [if_pos c17] at H
       have c17b0 : decide (x17_1 < (l0_0.length : Int)) = true := decide_eq_true c17
       clear c17
       by_cases c18 : ((rd_T28 l0_0 x17_1).f5) = x5_1
       ·rw [if_pos c18] at H
        have c18b0 : (((rd_T28 l0_0 x17_1).f5) == x5_1) = true := beq_iff_eq.mpr c18
        have c18b1 : (((rd_T28 l0_0 x17_1).f5) != x5_1) = false := bne_eq_false_iff_eq.mpr c18
        clear c18
        by_cases c19 : x140008_1.length + ((rd_T28 l0_0 x17_1).f8).length < 140737488355328
        ·rw [if_pos c19] at H
         have LMc19 := Aside0.mk c19; clear c19
         obtain ⟨y142, hy142⟩ : ∃ y_ : List Int, y_ = (x140008_1 ++ ((rd_T28 l0_0 x17_1).f8)) := ⟨_, rfl⟩
         (first | replace H := sb_ hy142 H | rw [← hy142] at H)
         have Ny142 := Aside0.mk hy142; clear hy142
         have H' := Aside0.mk H
         clear H
         have p140 : 0 ≤ (x17_1 : Int) := of_decide_eq_true (by first | (with_reducible assumption) | assumption)
         have q140 : x17_1 < (l0_0.length : Int) := of_decide_eq_true (by first | (with_reducible assumption) | assumption)
         obtain ⟨ad140, A140_8, c140_8, e140, hx140_0, hx140_1, hx140_2, hx140_3, hx140_4, hx140_5, hx140_6, hx140_7, hx140_8, hl140_8, hi140_8⟩ := at_T28 HR0_0.out x17_1 p140 q140
         obtain rfl : ad127 = ad140 := (by injection e140)
         replace hx140_0 := cc_ HB hx140_0
         replace hx140_1 := cc_ HB hx140_1
         replace hx140_2 := cc_ HB hx140_2
         replace hx140_3 := cc_ HB hx140_3
         replace hx140_4 := cc_ HB hx140_4
         replace hx140_5 := cc_ HB hx140_5
         replace hx140_6 := cc_ HB hx140_6
         replace hx140_7 := cc_ HB hx140_7
         replace hx140_8 := cc_ HB hx140_8
         have HR140_8 := Aside0.mk hi140_8; have HC140_8 := Aside0.mk hl140_8; clear hi140_8 hl140_8
         replace p140 := eq_true p140
         replace q140 := eq_true q140
         go_wp2_with (first | ((with_reducible refine gate_dst (N := 7) rfl ?_); refine box_ (N := 7) (cs := #[.int .i64 0, .int .i64 0, .int .i64 0, .int .i64 0, .int .i64 0, .int .i64 0, .bool false, .bool false, .slice none 0 0]) (t := 28) (fun gb141 hg w20 hbox hb => ?_); replace HO_140008 := Aside0.mk (Kd.R_below (kR_ HO_140008.out) hb); have BK141 := Aside0.mk (hbox); have GW141 := ge_ hg HB; have GE141 := ge_ hg HB; replace HB := (bs_ HB hb); have NB125_141 := nl_ hg BK125; have NB141_125 := ng_ hg BK125; replace BK125 := (bbA_ BK125 hb); have NB126_141 := nl_ hg BK126; have NB141_126 := ng_ hg BK126; replace BK126 := (bbA_ BK126 hb); have NB139_141 := nl_ hg BK139; have NB141_139 := ng_ hg BK139; replace BK139 := (bbA_ BK139 hb); clear hb hbox hg; have hnb21 := NB141_125.out; have hnc21 := NB125_141.out; have hnb22 := NB141_126.out; have hnc22 := NB126_141.out; have hnb23 := NB141_139.out; have hnc23 := NB139_141.out; have Z24 := zz9 BK141; have hnb25 := NB139_125.out; have hnc25 := NB125_139.out; have hnb26 := NB139_126.out; have hnc26 := NB126_139.out; have Z27 := zz9 BK139) | ((with_reducible refine gate_builtin (b := .append) (xs := #[.tmp 27, .tmp 29]) rfl ?_); at_builtin; refine Kd.R_append_rows (Kd.int .u8) (w0 := w) w.heap.size rfl (.tmp 27) (.tmp 29) 22 5 (.int .u8 0) 1 rfl Try.underlying22 info5 rfl (by decide) (by omega) u140008 x140008_1 ((rd_T28 l0_0 x17_1).f8) _ _ _ (fun _ => True) (fun _ => False) rfl rfl ?aO ?aR (fun _ _ h => h) (fun _ h => h.elim) ?aF ?aB ?aS ?aL ?_; (case aR => exact Kd.C_below HR140_8.out (hbA_ HB.out)); (case aB => exact (hbA_ HB.out)); (case aF => exact (fun _ _ => trivial)); (case aO => exact (by refine kR_ ?_; exact rfm_ ((Kd.R_types HO_140008.out BK141.out (by decide))) (fun _ hk => trivial))); (case aS => exact (below_size (hbA_ HB.out))); (case aL => have := LMc19.out; omega); intro v143 w28 ho hb hg hat; rw [← Ny142.out] at ho; replace BK125 := Aside0.mk (blk_grown (g := gb125) (o := .cells #[.slice (some ad127) l0_0.length c0_0, .int .i64 a0_1] 25 (0, 0)) (by exact kf_ BK125.out) hg (Kd.R_ne HO_140008.out BK125.out (by decide))); replace BK126 := Aside0.mk (blk_grown (g := gb126) (o := .cells #[.int .i64 x127000_1, .int .i64 x127001_1, .int .i64 x127002_1, .int .i64 x127003_1, .int .i64 x127004_1, .int .i64 x127005_1, .bool x127006_1, .bool x127007_1, .slice none 0 0] 28 (0, 0)) (by exact kf_ BK126.out) hg (Kd.R_ne HO_140008.out BK126.out (by decide))); replace BK139 := Aside0.mk (blk_grown (g := gb139) (o := .cells #[.int .i64 t128, .int .i64 t129, .int .i64 t130, .int .i64 t131, .int .i64 t132, .int .i64 t133, .bool t134, .bool t135, u140008] 28 (0, 0)) (by exact kf_ BK139.out) hg (Kd.R_ne HO_140008.out BK139.out (by decide))); replace BK141 := Aside0.mk (blk_grown (g := gb141) (o := .cells #[.int .i64 ((rd_T28 l0_0 x17_1).f0), .int .i64 ((rd_T28 l0_0 x17_1).f1), .int .i64 ((rd_T28 l0_0 x17_1).f2), .int .i64 ((rd_T28 l0_0 x17_1).f3), .int .i64 ((rd_T28 l0_0 x17_1).f4), .int .i64 ((rd_T28 l0_0 x17_1).f5), .bool ((rd_T28 l0_0 x17_1).f6), .bool ((rd_T28 l0_0 x17_1).f7), .slice A140_8 ((rd_T28 l0_0 x17_1).f8).length c140_8] 28 (0, 0)) (by refine kb_ ?_; refine pz9 (cs := #[.int .i64 0, .int .i64 0, .int .i64 0, .int .i64 0, .int .i64 0, .int .i64 0, .bool false, .bool false, .slice none 0 0]) ?_; refine kb_ ?_; exact BK141.out) hg (Kd.R_ne HO_140008.out BK141.out (by decide))); replace HB := Aside0.mk (hb); have HO144 := Aside0.mk (ho); clear HO_140008; clear ho hb hg hat; obtain ⟨Ao29, co29, eo29⟩ := Kd.R_slice HO144.out; subst eo29; have Z30 := zz9 BK139; have Z31 := zz9 BK141))
         go_roundg k1
         case measure => have := HK1.out; omega
         case rel => exact ⟨(wrap64 (x5_1 + (((rd_T28 l0_0 x17_1).f8).length : Int))), (wrap64 (x17_1 + 1)), (x127000_1), (x127001_1), (x127002_1), (x127003_1), (x127004_1), (x127005_1), (x127006_1), (x127007_1), (y142), (.slice Ao29 y142.length co29), (by first | rfl | (simp; done) | (simp [*]; done)), (by first | rfl | (simp; done) | (simp [*]; done)), H', ⟨by have := HK1.out; omega⟩, ⟨by refine kR_ ?_; exact Kd.R_mono (Kd.R_f gb139 8 (.slice Ao29 y142.length co29) (Kd.R_types HO144.out BK139.out (by decide))) (fun _ hk => trivial)⟩, ⟨by exact kf_ BK125.out⟩, ⟨by exact kf_ BK126.out⟩, ⟨by refine kb_ ?_; refine blk_put (cs := #[.int .i64 t128, .int .i64 t129, .int .i64 t130, .int .i64 t131, .int .i64 t132, .int .i64 t133, .bool t134, .bool t135, u140008]) ?_ 8 _ rfl; refine kb_ ?_; exact BK139.out⟩, ⟨hbA_ HB.out⟩⟩
        ·rw [if_neg c19] at H
         exact absurd H (by simp)
       ·rw [if_neg c18] at H
        have c18b0 : (((rd_T28 l0_0 x17_1).f5) == x5_1) = false := beq_eq_false_iff_ne.mpr c18
        have c18b1 : (((rd_T28 l0_0 x17_1).f5) != x5_1) = true := bne_iff_ne.mpr c18
        simp only [Option.some.injEq, Prod.mk.injEq] at H
        obtain ⟨rfl, rfl, rfl, rfl, rfl, rfl, rfl, rfl, rfl, rfl⟩ := H
        have p140 : 0 ≤ (x17_1 : Int) := of_decide_eq_true (by first | (with_reducible assumption) | assumption)
        have q140 : x17_1 < (l0_0.length : Int) := of_decide_eq_true (by first | (with_reducible assumption) | assumption)
        obtain ⟨ad140, A140_8, c140_8, e140, hx140_0, hx140_1, hx140_2, hx140_3, hx140_4, hx140_5, hx140_6, hx140_7, hx140_8, hl140_8, hi140_8⟩ := at_T28 HR0_0.out x17_1 p140 q140
        obtain rfl : ad127 = ad140 := (by injection e140)
        replace hx140_0 := cc_ HB hx140_0
        replace hx140_1 := cc_ HB hx140_1
        replace hx140_2 := cc_ HB hx140_2
        replace hx140_3 := cc_ HB hx140_3
        replace hx140_4 := cc_ HB hx140_4
        replace hx140_5 := cc_ HB hx140_5
        replace hx140_6 := cc_ HB hx140_6
        replace hx140_7 := cc_ HB hx140_7
        replace hx140_8 := cc_ HB hx140_8
        have HR140_8 := Aside0.mk hi140_8; have HC140_8 := Aside0.mk hl140_8; clear hi140_8 hl140_8
        replace p140 := eq_true p140
        replace q140 := eq_true q140
        go_wp2_with (first | ((with_reducible refine gate_dst (N := 7) rfl ?_); refine box_ (N := 7) (cs := #[.int .i64 0, .int .i64 0, .int .i64 0, .int .i64 0, .int .i64 0, .int .i64 0, .bool false, .bool false, .slice none 0 0]) (t := 28) (fun gb141 hg w32 hbox hb => ?_); replace HO_140008 := Aside0.mk (Kd.R_below (kR_ HO_140008.out) hb); have BK141 := Aside0.mk (hbox); have GW141 := ge_ hg HB; have GE141 := ge_ hg HB; replace HB := (bs_ HB hb); have NB125_141 := nl_ hg BK125; have NB141_125 := ng_ hg BK125; replace BK125 := (bbA_ BK125 hb); have NB126_141 := nl_ hg BK126; have NB141_126 := ng_ hg BK126; replace BK126 := (bbA_ BK126 hb); have NB139_141 := nl_ hg BK139; have NB141_139 := ng_ hg BK139; replace BK139 := (bbA_ BK139 hb); clear hb hbox hg; have hnb33 := NB141_125.out; have hnc33 := NB125_141.out; have hnb34 := NB141_126.out; have hnc34 := NB126_141.out; have hnb35 := NB141_139.out; have hnc35 := NB139_141.out; have Z36 := zz9 BK141; have hnb37 := NB126_125.out; have hnc37 := NB125_126.out; have hnb38 := NB126_139.out; have hnc38 := NB139_126.out; have Z39 := zz9 BK126))
        refine bodyPost_ret (results_ct rfl _ _ gb126 28 #[.int .i64 0, .int .i64 0, .int .i64 0, .int .i64 0, .int .i64 0, .int .i64 0, .bool false, .bool false, .slice none 0 0] (0, 0) _ rfl (by refine kb_ ?_; refine pz9 (cs := #[.int .i64 x127000_1, .int .i64 x127001_1, .int .i64 x127002_1, .int .i64 x127003_1, .int .i64 x127004_1, .int .i64 x127005_1, .bool x127006_1, .bool x127007_1, .slice none 0 0]) ?_; exact kf_ BK126.out) Try.underlying28 rfl (by kernel_rfl)) rfl ?_
        exact ⟨_, by first | rfl | (simp [errW_none, errW_some] <;> rfl) | (simp [*, errW_none, errW_some] <;> rfl), by first | exact Kd.R_nil _ _ _ _ _ | exact Kd.N_nil _ _ _ _ _ | exact Kd.V_nil _ _ _ _ _ | exact Kd.Q_nil _ _ _ _ _ | exact Kd.S_nil _ _ _ _ _, hbA_ HB.out⟩
      ·rw [if_neg c17] at H
       exact absurd H (by simp)
     ·rw [if_neg c16] at H
      exact absurd H (by simp)
    ·rw [if_neg c15] at H
     have c15b0 : decide (x17_1 < (l0_0.length : Int)) = false := decide_eq_false c15
     clear c15
     obtain ⟨ji40, hji40⟩ : ∃ j_ : Int, (wrap64 ((l0_0.length : Int) - 1)) = j_ := ⟨_, rfl⟩
     (first | rw [hji40] at H | simp only [hji40] at H)
     have hji40w : (IntKind.i64.wrap ((l0_0.length : Int) - 1)) = ji40 := (i64_w _).trans hji40
     by_cases c41 : 0 ≤ (ji40)
     ·rw [if_pos c41] at H
      have c41b0 : decide (0 ≤ (ji40)) = true := decide_eq_true c41
      clear c41
      by_cases c42 : (ji40) < (l0_0.length : Int)
      ·rw [if_pos c42] at H
       have c42b0 : decide ((ji40) < (l0_0.length : Int)) = true := decide_eq_true c42
       clear c42
       obtain ⟨bq43, hbq43⟩ : ∃ b_ : Bool, b_ = ((rd_T28 l0_0 (ji40)).f6) := ⟨_, rfl⟩
       replace H : (if bq43 = true then (some (0, 0, 0, 0, 0, 0, false, false, ([] : List Int), false)) else ((impl_Packet_copy.f t128 t129 t130 t131 t132 t133 false t135 x140008_1).bind fun bt146 => (some (bt146.1, bt146.2.1, bt146.2.2.1, bt146.2.2.2.1, bt146.2.2.2.2.1, bt146.2.2.2.2.2.1, bt146.2.2.2.2.2.2.1, bt146.2.2.2.2.2.2.2.1, bt146.2.2.2.2.2.2.2.2, true)))) = some (r1, r2, r3, r4, r5, r6, r7, r8, r9, r10) := by rw [← hbq43] at H; exact H
       have Nbq43 := Aside0.mk hbq43; clear hbq43
       by_cases c44 : bq43 = true
       ·subst c44
        rw [if_pos rfl] at H
        simp only [Option.some.injEq, Prod.mk.injEq] at H
        obtain ⟨rfl, rfl, rfl, rfl, rfl, rfl, rfl, rfl, rfl, rfl⟩ := H
        have hnb45 := NB125_126.out; have hnc45 := NB126_125.out; have hnb46 := NB125_139.out; have hnc46 := NB139_125.out; have Z47 := zz2 BK125
        have p145 : 0 ≤ ((ji40) : Int) := of_decide_eq_true (by first | (with_reducible assumption) | assumption)
        have q145 : (ji40) < (l0_0.length : Int) := of_decide_eq_true (by first | (with_reducible assumption) | assumption)
        obtain ⟨ad145, A145_8, c145_8, e145, hx145_0, hx145_1, hx145_2, hx145_3, hx145_4, hx145_5, hx145_6, hx145_7, hx145_8, hl145_8, hi145_8⟩ := at_T28 HR0_0.out (ji40) p145 q145
        (try rw [← Nbq43.out] at hx145_6)
        (try rw [← Nbq43.out] at hx145_7)
        obtain rfl : ad127 = ad145 := (by injection e145)
        replace hx145_0 := cc_ HB hx145_0
        replace hx145_1 := cc_ HB hx145_1
        replace hx145_2 := cc_ HB hx145_2
        replace hx145_3 := cc_ HB hx145_3
        replace hx145_4 := cc_ HB hx145_4
        replace hx145_5 := cc_ HB hx145_5
        replace hx145_6 := cc_ HB hx145_6
        replace hx145_7 := cc_ HB hx145_7
        replace hx145_8 := cc_ HB hx145_8
        have HR145_8 := Aside0.mk hi145_8; have HC145_8 := Aside0.mk hl145_8; clear hi145_8 hl145_8
        replace p145 := eq_true p145
        replace q145 := eq_true q145
        have hnb48 := NB126_139.out; have hnc48 := NB139_126.out; have Z49 := zz9 BK126
        go_wp2
        refine bodyPost_ret (results_ct rfl _ _ gb126 28 #[.int .i64 0, .int .i64 0, .int .i64 0, .int .i64 0, .int .i64 0, .int .i64 0, .bool false, .bool false, .slice none 0 0] (0, 0) _ rfl (by refine kb_ ?_; refine pz9 (cs := #[.int .i64 x127000_1, .int .i64 x127001_1, .int .i64 x127002_1, .int .i64 x127003_1, .int .i64 x127004_1, .int .i64 x127005_1, .bool x127006_1, .bool x127007_1, .slice none 0 0]) ?_; refine kb_ ?_; exact BK126.out) Try.underlying28 rfl (by kernel_rfl)) rfl ?_
        exact ⟨_, by first | rfl | (simp [errW_none, errW_some] <;> rfl) | (simp only [← hji40]; first | rfl | (simp [errW_none, errW_some] <;> rfl)) | (simp [*, errW_none, errW_some] <;> rfl), by first | exact Kd.R_nil _ _ _ _ _ | exact Kd.N_nil _ _ _ _ _ | exact Kd.V_nil _ _ _ _ _ | exact Kd.Q_nil _ _ _ _ _ | exact Kd.S_nil _ _ _ _ _, hbA_ HB.out⟩
       ·replace c44 := Bool.eq_false_iff.mpr c44
        subst c44
        rw [if_neg (show ¬ (false = true) by decide)] at H
        replace H := Option.bind_eq_some_iff.mp H
        obtain ⟨⟨t146, t147, t148, t149, t150, t151, t152, t153, t154⟩, A500, H⟩ := H
        (try dsimp only at H)
        have A50 := Aside0.mk A500; clear A500
        simp only [Option.some.injEq, Prod.mk.injEq] at H
        obtain ⟨rfl, rfl, rfl, rfl, rfl, rfl, rfl, rfl, rfl, rfl⟩ := H
        have hnb51 := NB125_126.out; have hnc51 := NB126_125.out; have hnb52 := NB125_139.out; have hnc52 := NB139_125.out; have Z53 := zz2 BK125
        have p145 : 0 ≤ ((ji40) : Int) := of_decide_eq_true (by first | (with_reducible assumption) | assumption)
        have q145 : (ji40) < (l0_0.length : Int) := of_decide_eq_true (by first | (with_reducible assumption) | assumption)
        obtain ⟨ad145, A145_8, c145_8, e145, hx145_0, hx145_1, hx145_2, hx145_3, hx145_4, hx145_5, hx145_6, hx145_7, hx145_8, hl145_8, hi145_8⟩ := at_T28 HR0_0.out (ji40) p145 q145
        (try rw [← Nbq43.out] at hx145_6)
        (try rw [← Nbq43.out] at hx145_7)
        obtain rfl : ad127 = ad145 := (by injection e145)
        replace hx145_0 := cc_ HB hx145_0
        replace hx145_1 := cc_ HB hx145_1
        replace hx145_2 := cc_ HB hx145_2
        replace hx145_3 := cc_ HB hx145_3
        replace hx145_4 := cc_ HB hx145_4
        replace hx145_5 := cc_ HB hx145_5
        replace hx145_6 := cc_ HB hx145_6
        replace hx145_7 := cc_ HB hx145_7
        replace hx145_8 := cc_ HB hx145_8
        have HR145_8 := Aside0.mk hi145_8; have HC145_8 := Aside0.mk hl145_8; clear hi145_8 hl145_8
        replace p145 := eq_true p145
        replace q145 := eq_true q145
        have hnb54 := NB139_126.out; have hnc54 := NB126_139.out; have Z55 := zz9 BK139
        obtain ⟨Ao56, co56, eo56⟩ := Kd.R_slice HO_140008.out
        subst eo56
        go_wp2_with (first | ((with_reducible refine gate_callee (f := 82) rfl ?_); refine goesL_ (some 50) rfl rfl Try.func82 (by kernel_rfl) rfl #[.agg #[.int .i64 t128, .int .i64 t129, .int .i64 t130, .int .i64 t131, .int .i64 t132, .int .i64 t133, .bool false, .bool t135, .slice Ao56 x140008_1.length co56]] rfl ar_ ?_; (with_reducible refine (impl_Packet_copy.calls t128 t129 t130 t131 t132 t133 false t135 _ _ x140008_1 t146 t147 t148 t149 t150 t151 t152 t153 t154 _ ?side1 ?side2 A50.out).mono ?_); (case side1 => refine (Kd.R_reads' (e := 5) (base := w.heap.size) (ok := fun k_ => True) (n := x140008_1.length) (c := co56) ?_).2.2; exact (by refine kR_ ?_; exact (Kd.R_mono (Kd.R_f gb139 6 (.bool false) (Kd.R_types HO_140008.out BK139.out (by decide))) (fun _ h_ => op1_ h_)))); (case side2 => exact (Kd.R_reads' HO_140008.out).2.1); rintro e w57 ⟨v155, rfl, ho0, hb⟩; refine ⟨_, rfl, ?_⟩; have HO156 := Aside0.mk (Kd.R_lower (Kd.R_new' ho0 (Kd.R_lt (by refine kR_ ?_; exact (Kd.R_mono (Kd.R_f gb139 6 (.bool false) (Kd.R_types HO_140008.out BK139.out (by decide))) (fun _ h_ => op1_ h_))))) (below_size (hbA_ HB.out))); replace HO_140008 := Aside0.mk (Kd.R_elder' (by refine kR_ ?_; exact (Kd.R_mono (Kd.R_f gb139 6 (.bool false) (Kd.R_types HO_140008.out BK139.out (by decide))) (fun _ h_ => op1_ h_))) (Kd.R_base ho0) hb); replace BK125 := Aside0.mk (blk_below (g := gb125) (o := .cells #[.slice (some ad127) l0_0.length c0_0, .int .i64 a0_1] 25 (0, 0)) (by exact kf_ BK125.out) hb); replace BK126 := Aside0.mk (blk_below (g := gb126) (o := .cells #[.int .i64 x127000_1, .int .i64 x127001_1, .int .i64 x127002_1, .int .i64 x127003_1, .int .i64 x127004_1, .int .i64 x127005_1, .bool x127006_1, .bool x127007_1, .slice none 0 0] 28 (0, 0)) (by exact kf_ BK126.out) hb); replace BK139 := Aside0.mk (blk_below (g := gb139) (o := .cells #[.int .i64 t128, .int .i64 t129, .int .i64 t130, .int .i64 t131, .int .i64 t132, .int .i64 t133, .bool false, .bool t135, .slice Ao56 x140008_1.length co56] 28 (0, 0)) (by refine kb_ ?_; refine blk_put (cs := #[.int .i64 t128, .int .i64 t129, .int .i64 t130, .int .i64 t131, .int .i64 t132, .int .i64 t133, .bool t134, .bool t135, .slice Ao56 x140008_1.length co56]) ?_ 6 _ rfl; refine kb_ ?_; exact BK139.out) hb); replace HB := (bs_ HB hb); (try clear hb); (try clear hb2); (try clear hk); (try clear hi); (try clear ho0); have Z58 := zz9 BK126; obtain ⟨Ao59, co59, eo59⟩ := Kd.R_slice HO156.out; subst eo59))
        refine bodyPost_ret (results_ct rfl _ _ gb126 28 #[.int .i64 t146, .int .i64 t147, .int .i64 t148, .int .i64 t149, .int .i64 t150, .int .i64 t151, .bool t152, .bool t153, .slice Ao59 t154.length co59] (0, 0) _ rfl (by refine kb_ ?_; refine pz9 (cs := #[.int .i64 x127000_1, .int .i64 x127001_1, .int .i64 x127002_1, .int .i64 x127003_1, .int .i64 x127004_1, .int .i64 x127005_1, .bool x127006_1, .bool x127007_1, .slice none 0 0]) ?_; refine kb_ ?_; exact BK126.out) Try.underlying28 rfl (by kernel_rfl)) rfl ?_
        exact ⟨_, by first | rfl | (simp [errW_none, errW_some] <;> rfl) | (simp only [← hji40]; first | rfl | (simp [errW_none, errW_some] <;> rfl)) | (simp [*, errW_none, errW_some] <;> rfl), by refine kR_ ?_; exact rfm_ ((Kd.R_types HO156.out BK126.out (by decide))) (fun _ hk => trivial), hbA_ HB.out⟩
      ·rw [if_neg c42] at H
       exact absurd H (by simp)
     ·rw [if_neg c41] at H
      exact absurd H (by simp)
 ·rw [if_neg c2] at H
  exact absurd H (by simp)
def impl_PartWhole.f (k : Nat) (l0_0 : List (S28)) (a0_1 : Int) : Option (Int × Int × Int × Int × Int × Int × Bool × Bool × List Int × Bool) := (impl_PartOk.f k l0_0 a0_1).bind fun t159 => (if t159 = true then ((impl_Part_whole.f k l0_0 a0_1).bind fun bt160 => (some (bt160.1, bt160.2.1, bt160.2.2.1, bt160.2.2.2.1, bt160.2.2.2.2.1, bt160.2.2.2.2.2.1, bt160.2.2.2.2.2.2.1, bt160.2.2.2.2.2.2.2.1, bt160.2.2.2.2.2.2.2.2.1, bt160.2.2.2.2.2.2.2.2.2))) else (some (0, 0, 0, 0, 0, 0, false, false, ([] : List Int), false)))
theorem impl_PartWhole.mono : ∀ a0 a1 k, LeO (impl_PartWhole.f k a0 a1) (impl_PartWhole.f (k + 1) a0 a1) := by
 intro a0 a1 k
 unfold impl_PartWhole.f
 repeat' first | (with_reducible first | apply impl_PartOk.mono | apply impl_Part_whole.mono | exact LeO.refl _ | exact LeO.none _ | refine LeO.ite ?_ ?_ | refine LeO.bind ?_ fun _ => ?_) | apply impl_PartOk.mono | apply impl_Part_whole.mono | exact LeO.none _ | refine LeO.ite ?_ ?_ | refine LeO.bind ?_ fun _ => ?_
set_option maxHeartbeats 8000000 in
set_option maxRecDepth 100000 in
theorem impl_PartWhole.calls (k : Nat) (A0_0 : Option Addr) (c0_0 : Nat) (l0_0 : List (S28)) (a0_1 : Int) (r1 : Int) (r2 : Int) (r3 : Int) (r4 : Int) (r5 : Int) (r6 : Int) (r7 : Bool) (r8 : Bool) (r9 : List Int) (r10 : Bool) (w : World) (hr0_0 : Kd.C k28 w A0_0 l0_0.length l0_0) (hc0_0 : l0_0.length ≤ c0_0) (h : impl_PartWhole.f k l0_0 a0_1 = some (r1, r2, r3, r4, r5, r6, r7, r8, r9, r10)) :
  Calls Try.prog 10 #[.agg #[.slice A0_0 l0_0.length c0_0, .int .i64 a0_1]] w fun e w' => ∃ v8_ : Value, e = .returned (.tuple #[.agg #[.int .i64 r1, .int .i64 r2, .int .i64 r3, .int .i64 r4, .int .i64 r5, .int .i64 r6, .bool r7, .bool r8, v8_], .bool r10]) ∧ Kd.R (Kd.int .u8) 5 w' w.heap.size (fun _ => True) v8_ r9 ∧ Below w.heap.size w w' := by
 have hu25 := Try.underlying25; have hu28 := Try.underlying28; have HR0_0 := Aside0.mk hr0_0; have HC0_0 := Aside0.mk hc0_0; clear hr0_0 hc0_0
 have HB := Aside0.mk (Below.refl w.heap.size w)
 have H : ((impl_PartOk.f k l0_0 a0_1).bind fun t159 => (if t159 = true then ((impl_Part_whole.f k l0_0 a0_1).bind fun bt160 => (some (bt160.1, bt160.2.1, bt160.2.2.1, bt160.2.2.2.1, bt160.2.2.2.2.1, bt160.2.2.2.2.2.1, bt160.2.2.2.2.2.2.1, bt160.2.2.2.2.2.2.2.1, bt160.2.2.2.2.2.2.2.2.1, bt160.2.2.2.2.2.2.2.2.2))) else (some (0, 0, 0, 0, 0, 0, false, false, ([] : List Int), false)))) = some (r1, r2, r3, r4, r5, r6, r7, r8, r9, r10) := h
 clear h
 replace H := Option.bind_eq_some_iff.mp H
 obtain ⟨t159, A20, H⟩ := H
 (try dsimp only at H)
 have A2 := Aside0.mk A20; clear A20
 by_cases c3 : t159 = true
 ·subst c3
  rw [if_pos rfl] at H
  replace H := Option.bind_eq_some_iff.mp H
  obtain ⟨⟨t160, t161, t162, t163, t164, t165, t166, t167, t168, t171⟩, A40, H⟩ := H
  (try dsimp only at H)
  have A4 := Aside0.mk A40; clear A40
  simp only [Option.some.injEq, Prod.mk.injEq] at H
  obtain ⟨rfl, rfl, rfl, rfl, rfl, rfl, rfl, rfl, rfl, rfl⟩ := H
  go_enter Try.func10, Try.ntmps10
  go_wp2_with (first | ((with_reducible refine gate_dst (N := 1) rfl ?_); refine box_ (N := 1) (cs := #[.slice A0_0 l0_0.length c0_0, .int .i64 a0_1]) (t := 25) (fun gb157 hg w5 hbox hb => ?_); have BK157 := Aside0.mk (hbox); have GW157 := ge_ hg HB; have GE157 := ge_ hg HB; replace HB := (bs_ HB hb); clear hb hbox hg) | ((with_reducible refine gate_dst (N := 2) rfl ?_); refine box_ (N := 2) (cs := #[.int .i64 0, .int .i64 0, .int .i64 0, .int .i64 0, .int .i64 0, .int .i64 0, .bool false, .bool false, .slice none 0 0]) (t := 28) (fun gb158 hg w6 hbox hb => ?_); have BK158 := Aside0.mk (hbox); have GW158 := ge_ hg HB; have GE158 := ge_ hg HB; replace HB := (bs_ HB hb); have NB157_158 := nl_ hg BK157; have NB158_157 := ng_ hg BK157; replace BK157 := (bbA_ BK157 hb); clear hb hbox hg; have hnb7 := NB157_158.out; have hnc7 := NB158_157.out; have Z8 := zz2 BK157) | ((with_reducible refine gate_callee (f := 44) rfl ?_); refine goesL_ (some 5) rfl rfl Try.func44 (by kernel_rfl) rfl #[.agg #[.slice A0_0 l0_0.length c0_0, .int .i64 a0_1]] rfl ar_ ?_; (with_reducible refine (impl_PartOk.calls k _ _ l0_0 a0_1 true _ ?side1 ?side2 A2.out).mono ?_); (case side1 => exact kC_ (Kd.C_below HR0_0.out HB.out)); (case side2 => exact HC0_0.out); rintro e w9 ⟨rfl, hb⟩; refine ⟨_, rfl, ?_⟩; replace BK157 := (bbA_ BK157 hb); replace BK158 := (bbA_ BK158 hb); replace HB := (bs_ HB hb); (try clear hb); (try clear hb2); (try clear hk); (try clear hi); have Z10 := zz2 BK157) | ((with_reducible refine gate_callee (f := 45) rfl ?_); refine goesL_ (some 9) rfl rfl Try.func45 (by kernel_rfl) rfl #[.agg #[.slice A0_0 l0_0.length c0_0, .int .i64 a0_1]] rfl ar_ ?_; (with_reducible refine (impl_Part_whole.calls k _ _ l0_0 a0_1 t160 t161 t162 t163 t164 t165 t166 t167 t168 t171 _ ?side1 ?side2 A4.out).mono ?_); (case side1 => exact kC_ (Kd.C_below HR0_0.out HB.out)); (case side2 => exact HC0_0.out); rintro e w11 ⟨v169, rfl, ho0, hb⟩; refine ⟨_, rfl, ?_⟩; have HO170 := Aside0.mk (Kd.R_lower ho0 (below_size (hbA_ HB.out))); replace BK157 := (bbA_ BK157 hb); replace BK158 := (bbA_ BK158 hb); replace HB := (bs_ HB hb); (try clear hb); (try clear hb2); (try clear hk); (try clear hi); (try clear ho0); have Z12 := zz9 BK158; obtain ⟨Ao13, co13, eo13⟩ := Kd.R_slice HO170.out; subst eo13))
  refine bodyPost_ret (results_ct rfl _ _ gb158 28 #[.int .i64 t160, .int .i64 t161, .int .i64 t162, .int .i64 t163, .int .i64 t164, .int .i64 t165, .bool t166, .bool t167, .slice Ao13 t168.length co13] (0, 0) _ rfl (by refine kb_ ?_; refine pz9 (cs := #[.int .i64 0, .int .i64 0, .int .i64 0, .int .i64 0, .int .i64 0, .int .i64 0, .bool false, .bool false, .slice none 0 0]) ?_; refine kb_ ?_; exact BK158.out) Try.underlying28 rfl (by kernel_rfl)) rfl ?_
  exact ⟨_, by first | rfl | (simp [errW_none, errW_some] <;> rfl) | (simp [*, errW_none, errW_some] <;> rfl), by refine kR_ ?_; exact rfm_ ((Kd.R_types HO170.out BK158.out (by decide))) (fun _ hk => trivial), hbA_ HB.out⟩
 ·replace c3 := Bool.eq_false_iff.mpr c3
  subst c3
  rw [if_neg (show ¬ (false = true) by decide)] at H
  simp only [Option.some.injEq, Prod.mk.injEq] at H
  obtain ⟨rfl, rfl, rfl, rfl, rfl, rfl, rfl, rfl, rfl, rfl⟩ := H
  go_enter Try.func10, Try.ntmps10
  go_wp2_with (first | ((with_reducible refine gate_dst (N := 1) rfl ?_); refine box_ (N := 1) (cs := #[.slice A0_0 l0_0.length c0_0, .int .i64 a0_1]) (t := 25) (fun gb157 hg w14 hbox hb => ?_); have BK157 := Aside0.mk (hbox); have GW157 := ge_ hg HB; have GE157 := ge_ hg HB; replace HB := (bs_ HB hb); clear hb hbox hg) | ((with_reducible refine gate_dst (N := 2) rfl ?_); refine box_ (N := 2) (cs := #[.int .i64 0, .int .i64 0, .int .i64 0, .int .i64 0, .int .i64 0, .int .i64 0, .bool false, .bool false, .slice none 0 0]) (t := 28) (fun gb158 hg w15 hbox hb => ?_); have BK158 := Aside0.mk (hbox); have GW158 := ge_ hg HB; have GE158 := ge_ hg HB; replace HB := (bs_ HB hb); have NB157_158 := nl_ hg BK157; have NB158_157 := ng_ hg BK157; replace BK157 := (bbA_ BK157 hb); clear hb hbox hg; have hnb16 := NB157_158.out; have hnc16 := NB158_157.out; have Z17 := zz2 BK157) | ((with_reducible refine gate_callee (f := 44) rfl ?_); refine goesL_ (some 5) rfl rfl Try.func44 (by kernel_rfl) rfl #[.agg #[.slice A0_0 l0_0.length c0_0, .int .i64 a0_1]] rfl ar_ ?_; (with_reducible refine (impl_PartOk.calls k _ _ l0_0 a0_1 false _ ?side1 ?side2 A2.out).mono ?_); (case side1 => exact kC_ (Kd.C_below HR0_0.out HB.out)); (case side2 => exact HC0_0.out); rintro e w18 ⟨rfl, hb⟩; refine ⟨_, rfl, ?_⟩; replace BK157 := (bbA_ BK157 hb); replace BK158 := (bbA_ BK158 hb); replace HB := (bs_ HB hb); (try clear hb); (try clear hb2); (try clear hk); (try clear hi); have Z19 := zz9 BK158))
  refine bodyPost_ret (results_ct rfl _ _ gb158 28 #[.int .i64 0, .int .i64 0, .int .i64 0, .int .i64 0, .int .i64 0, .int .i64 0, .bool false, .bool false, .slice none 0 0] (0, 0) _ rfl (by refine kb_ ?_; refine pz9 (cs := #[.int .i64 0, .int .i64 0, .int .i64 0, .int .i64 0, .int .i64 0, .int .i64 0, .bool false, .bool false, .slice none 0 0]) ?_; refine kb_ ?_; exact BK158.out) Try.underlying28 rfl (by kernel_rfl)) rfl ?_
  exact ⟨_, by first | rfl | (simp [errW_none, errW_some] <;> rfl) | (simp [*, errW_none, errW_some] <;> rfl), by first | exact Kd.R_nil _ _ _ _ _ | exact Kd.N_nil _ _ _ _ _ | exact Kd.V_nil _ _ _ _ _ | exact Kd.Q_nil _ _ _ _ _ | exact Kd.S_nil _ _ _ _ _, hbA_ HB.out⟩
def spec_l1In.f (a0 : Int) (a1 : Int) (a2 : Int) : Option (Bool) := if a0 ≥ a1 then (some (decide (a0 ≤ a2))) else (some false)
set_option maxHeartbeats 8000000 in
set_option maxRecDepth 100000 in
theorem spec_l1In.calls (a0 : Int) (a1 : Int) (a2 : Int) (r : Bool) (w : World) (h : spec_l1In.f a0 a1 a2 = some r) :
  Calls Try.prog 52 #[.int .i64 a0, .int .i64 a1, .int .i64 a2] w fun e w' => e = .returned (.bool r) ∧ Drawn0 w w' := by
 have H : (if a0 ≥ a1 then (some (decide (a0 ≤ a2))) else (some false)) = some r := h
 clear h
 by_cases c4 : a0 ≥ a1
 ·rw [if_pos c4] at H
  have c4b0 : decide (a1 ≤ a0) = true := decide_eq_true c4
  clear c4
  obtain rfl := Option.some.inj H
  go_enter Try.func52, Try.ntmps52
  go_wp2
  go_ret
  exact ⟨by first | rfl | (simp; done) | (simp [*]; done), by repeat (first | exact Drawn0.refl _ | apply Drawn0.step)⟩
 ·rw [if_neg c4] at H
  have c4b0 : decide (a1 ≤ a0) = false := decide_eq_false c4
  clear c4
  obtain rfl := Option.some.inj H
  go_enter Try.func52, Try.ntmps52
  go_wp2
  go_ret
  exact ⟨by first | rfl | (simp; done) | (simp [*]; done), by repeat (first | exact Drawn0.refl _ | apply Drawn0.step)⟩
def spec_PacketOk.j0 : Nat → Bool → Int → Int → Int → Int → Int → Int → Bool → Bool → List Int → Option (Bool)
 | 0, _, _, _, _, _, _, _, _, _, _ => none
 | k + 1, x36, x173000, x173001, x173002, x173003, x173004, x173005, x173006, x173007, x173008 => if x36 = true then (some false) else (if (x173008.length : Int) ≤ 48 then (if x173006 = true then (if (x173008.length : Int) > 0 then (if x173007 = true then (if x173005 = 0 then (some (!x173006)) else (some false)) else (some true)) else (some false)) else (if x173007 = true then (if x173005 = 0 then (some (!x173006)) else (some false)) else (some true))) else (some false))
def spec_PacketOk.f (k : Nat) (a0_0 : Int) (a0_1 : Int) (a0_2 : Int) (a0_3 : Int) (a0_4 : Int) (a0_5 : Int) (a0_6 : Bool) (a0_7 : Bool) (l0_8 : List Int) : Option (Bool) := (spec_l1In.f a0_0 0 65535).bind fun t173 => (if t173 = true then ((spec_l1In.f a0_1 0 65535).bind fun t174 => (if t174 = true then ((spec_l1In.f a0_2 0 255).bind fun t175 => (if t175 = true then ((spec_l1In.f a0_3 0 255).bind fun t176 => (if t176 = true then ((spec_l1In.f a0_4 0 255).bind fun t177 => (if t177 = true then ((spec_l1In.f a0_5 0 255).bind fun t178 => (spec_PacketOk.j0 k (!t178) a0_0 a0_1 a0_2 a0_3 a0_4 a0_5 a0_6 a0_7 l0_8)) else (spec_PacketOk.j0 k true a0_0 a0_1 a0_2 a0_3 a0_4 a0_5 a0_6 a0_7 l0_8))) else (spec_PacketOk.j0 k true a0_0 a0_1 a0_2 a0_3 a0_4 a0_5 a0_6 a0_7 l0_8))) else (spec_PacketOk.j0 k true a0_0 a0_1 a0_2 a0_3 a0_4 a0_5 a0_6 a0_7 l0_8))) else (spec_PacketOk.j0 k true a0_0 a0_1 a0_2 a0_3 a0_4 a0_5 a0_6 a0_7 l0_8))) else (spec_PacketOk.j0 k true a0_0 a0_1 a0_2 a0_3 a0_4 a0_5 a0_6 a0_7 l0_8))
theorem spec_PacketOk.mono_l : ∀ k, (∀ y0 y1 y2 y3 y4 y5 y6 y7 y8 y9, LeO (spec_PacketOk.j0 k y0 y1 y2 y3 y4 y5 y6 y7 y8 y9) (spec_PacketOk.j0 (k + 1) y0 y1 y2 y3 y4 y5 y6 y7 y8 y9))
 | 0 => fun _ _ _ _ _ _ _ _ _ _ r h => by simp [spec_PacketOk.j0] at h
 | k + 1 => by
  have ih0 := spec_PacketOk.mono_l k
  ·intro y0 y1 y2 y3 y4 y5 y6 y7 y8 y9
   unfold spec_PacketOk.j0
   repeat' first | (with_reducible first | apply ih0 | exact LeO.refl _ | exact LeO.none _ | refine LeO.ite ?_ ?_ | refine LeO.bind ?_ fun _ => ?_) | apply ih0 | exact LeO.none _ | refine LeO.ite ?_ ?_ | refine LeO.bind ?_ fun _ => ?_
theorem spec_PacketOk.mono : ∀ a0 a1 a2 a3 a4 a5 a6 a7 a8 k, LeO (spec_PacketOk.f k a0 a1 a2 a3 a4 a5 a6 a7 a8) (spec_PacketOk.f (k + 1) a0 a1 a2 a3 a4 a5 a6 a7 a8) := by
 intro a0 a1 a2 a3 a4 a5 a6 a7 a8 k
 have ih0 := spec_PacketOk.mono_l k
 unfold spec_PacketOk.f
 repeat' first | (with_reducible first | apply ih0 | exact LeO.refl _ | exact LeO.none _ | refine LeO.ite ?_ ?_ | refine LeO.bind ?_ fun _ => ?_) | apply ih0 | exact LeO.none _ | refine LeO.ite ?_ ?_ | refine LeO.bind ?_ fun _ => ?_
set_option maxHeartbeats 8000000 in
set_option maxRecDepth 100000 in
theorem spec_PacketOk.calls (k : Nat) (a0_0 : Int) (a0_1 : Int) (a0_2 : Int) (a0_3 : Int) (a0_4 : Int) (a0_5 : Int) (a0_6 : Bool) (a0_7 : Bool) (A0_8 : Option Addr) (c0_8 : Nat) (l0_8 : List Int) (r : Bool) (w : World) (hr0_8 : Kd.C (Kd.int .u8) w A0_8 l0_8.length l0_8) (hc0_8 : l0_8.length ≤ c0_8) (h : spec_PacketOk.f k a0_0 a0_1 a0_2 a0_3 a0_4 a0_5 a0_6 a0_7 l0_8 = some r) :
  Calls Try.prog 77 #[.agg #[.int .i64 a0_0, .int .i64 a0_1, .int .i64 a0_2, .int .i64 a0_3, .int .i64 a0_4, .int .i64 a0_5, .bool a0_6, .bool a0_7, .slice A0_8 l0_8.length c0_8]] w fun e w' => e = .returned (.bool r) ∧ Below w.heap.size w w' := by
 have hu28 := Try.underlying28; have HR0_8 := Aside0.mk hr0_8; have HC0_8 := Aside0.mk hc0_8; clear hr0_8 hc0_8
 have HB := Aside0.mk (Below.refl w.heap.size w)
 have H : ((spec_l1In.f a0_0 0 65535).bind fun t173 => (if t173 = true then ((spec_l1In.f a0_1 0 65535).bind fun t174 => (if t174 = true then ((spec_l1In.f a0_2 0 255).bind fun t175 => (if t175 = true then ((spec_l1In.f a0_3 0 255).bind fun t176 => (if t176 = true then ((spec_l1In.f a0_4 0 255).bind fun t177 => (if t177 = true then ((spec_l1In.f a0_5 0 255).bind fun t178 => (spec_PacketOk.j0 k (!t178) a0_0 a0_1 a0_2 a0_3 a0_4 a0_5 a0_6 a0_7 l0_8)) else (spec_PacketOk.j0 k true a0_0 a0_1 a0_2 a0_3 a0_4 a0_5 a0_6 a0_7 l0_8))) else (spec_PacketOk.j0 k true a0_0 a0_1 a0_2 a0_3 a0_4 a0_5 a0_6 a0_7 l0_8))) else (spec_PacketOk.j0 k true a0_0 a0_1 a0_2 a0_3 a0_4 a0_5 a0_6 a0_7 l0_8))) else (spec_PacketOk.j0 k true a0_0 a0_1 a0_2 a0_3 a0_4 a0_5 a0_6 a0_7 l0_8))) else (spec_PacketOk.j0 k true a0_0 a0_1 a0_2 a0_3 a0_4 a0_5 a0_6 a0_7 l0_8))) = some r := h
 clear h; have HC2 := Aside0.mk H; clear H
 go_enter Try.func77, Try.ntmps77
 go_upto_region 1 with (first | ((with_reducible refine gate_dst (N := 1) rfl ?_); (try (refine gate_guard (by rfl) ?_; dsimp only)); refine box_ (N := 1) (cs := #[.int .i64 a0_0, .int .i64 a0_1, .int .i64 a0_2, .int .i64 a0_3, .int .i64 a0_4, .int .i64 a0_5, .bool a0_6, .bool a0_7, .slice A0_8 l0_8.length c0_8]) (t := 28) (fun gb172 hg w3 hbox hb => ?_); have BK172 := Aside0.mk (hbox); have GW172 := ge_ hg HB; have GE172 := ge_ hg HB; replace HB := (bs_ HB hb); clear hb hbox hg))
 (try simp only [Act.put, List.setIfInBounds_toArray, List.set_cons_zero, List.set_cons_succ])
 go_cut [36] (fun v36 wc => ∃ (kq : Nat) (x36_1 : Bool), v36 = .bool x36_1 ∧ Aside0 (spec_PacketOk.j0 kq x36_1 a0_0 a0_1 a0_2 a0_3 a0_4 a0_5 a0_6 a0_7 l0_8 = some r) ∧ Aside0 (kq ≤ k) ∧ Aside0 (wc.heap[gb172]? = some (.cells #[.int .i64 a0_0, .int .i64 a0_1, .int .i64 a0_2, .int .i64 a0_3, .int .i64 a0_4, .int .i64 a0_5, .bool a0_6, .bool a0_7, (.slice A0_8 l0_8.length c0_8)] 28 (0, 0))) ∧ Aside0 (Below w.heap.size w wc))
 case first =>
  have H := HC2.out; clear HC2
  replace H := Option.bind_eq_some_iff.mp H
  obtain ⟨t173, A40, H⟩ := H
  (try dsimp only at H)
  have A4 := Aside0.mk A40; clear A40
  by_cases c5 : t173 = true
  ·subst c5
   rw [if_pos rfl] at H
   replace H := Option.bind_eq_some_iff.mp H
   obtain ⟨t174, A60, H⟩ := H
   (try dsimp only at H)
   have A6 := Aside0.mk A60; clear A60
   by_cases c7 : t174 = true
   ·subst c7
    rw [if_pos rfl] at H
    replace H := Option.bind_eq_some_iff.mp H
    obtain ⟨t175, A80, H⟩ := H
    (try dsimp only at H)
    have A8 := Aside0.mk A80; clear A80
    by_cases c9 : t175 = true
    ·subst c9
     rw [if_pos rfl] at H
     replace H := Option.bind_eq_some_iff.mp H
     obtain ⟨t176, A100, H⟩ := H
     (try dsimp only at H)
     have A10 := Aside0.mk A100; clear A100
     by_cases c11 : t176 = true
     ·subst c11
      rw [if_pos rfl] at H
      replace H := Option.bind_eq_some_iff.mp H
      obtain ⟨t177, A120, H⟩ := H
      (try dsimp only at H)
      have A12 := Aside0.mk A120; clear A120
      by_cases c13 : t177 = true
      ·subst c13
       rw [if_pos rfl] at H
       replace H := Option.bind_eq_some_iff.mp H
       obtain ⟨t178, A140, H⟩ := H
       (try dsimp only at H)
       have A14 := Aside0.mk A140; clear A140
       have H' := Aside0.mk H
       clear H; have Z15 := zz9 BK172
       go_wp2_with (first | ((with_reducible refine gate_callee (f := 52) rfl ?_); refine goesL_ (some 5) rfl rfl Try.func52 (by kernel_rfl) rfl #[.int .i64 a0_0, .int .i64 0, .int .i64 65535] rfl ar_ ?_; (with_reducible refine (spec_l1In.calls a0_0 0 65535 true _ A4.out).mono ?_); rintro e w' ⟨rfl, ⟨nd, rfl⟩⟩; refine ⟨_, rfl, ?_⟩) | (go_at_call 52; (with_reducible refine (spec_l1In.calls a0_1 0 65535 true _ A6.out).mono ?_); rintro e w' ⟨rfl, ⟨nd, rfl⟩⟩) | (go_at_call 52; (with_reducible refine (spec_l1In.calls a0_2 0 255 true _ A8.out).mono ?_); rintro e w' ⟨rfl, ⟨nd, rfl⟩⟩) | (go_at_call 52; (with_reducible refine (spec_l1In.calls a0_3 0 255 true _ A10.out).mono ?_); rintro e w' ⟨rfl, ⟨nd, rfl⟩⟩) | (go_at_call 52; (with_reducible refine (spec_l1In.calls a0_4 0 255 true _ A12.out).mono ?_); rintro e w' ⟨rfl, ⟨nd, rfl⟩⟩) | (go_at_call 52; (with_reducible refine (spec_l1In.calls a0_5 0 255 t178 _ A14.out).mono ?_); rintro e w' ⟨rfl, ⟨nd, rfl⟩⟩))
       go_meet
       case rel => exact ⟨_, (!t178), (by first | rfl | (simp; done) | (simp [*]; done)), H', ⟨by first | omega | exact Nat.le_refl _⟩, ⟨by refine kb_ ?_; exact BK172.out⟩, ⟨hbA_ HB.out⟩⟩
      ·replace c13 := Bool.eq_false_iff.mpr c13
       subst c13
       rw [if_neg (show ¬ (false = true) by decide)] at H
       have H' := Aside0.mk H
       clear H; have Z16 := zz9 BK172
       go_wp2_with (first | ((with_reducible refine gate_callee (f := 52) rfl ?_); refine goesL_ (some 5) rfl rfl Try.func52 (by kernel_rfl) rfl #[.int .i64 a0_0, .int .i64 0, .int .i64 65535] rfl ar_ ?_; (with_reducible refine (spec_l1In.calls a0_0 0 65535 true _ A4.out).mono ?_); rintro e w' ⟨rfl, ⟨nd, rfl⟩⟩; refine ⟨_, rfl, ?_⟩) | (go_at_call 52; (with_reducible refine (spec_l1In.calls a0_1 0 65535 true _ A6.out).mono ?_); rintro e w' ⟨rfl, ⟨nd, rfl⟩⟩) | (go_at_call 52; (with_reducible refine (spec_l1In.calls a0_2 0 255 true _ A8.out).mono ?_); rintro e w' ⟨rfl, ⟨nd, rfl⟩⟩) | (go_at_call 52; (with_reducible refine (spec_l1In.calls a0_3 0 255 true _ A10.out).mono ?_); rintro e w' ⟨rfl, ⟨nd, rfl⟩⟩) | (go_at_call 52; (with_reducible refine (spec_l1In.calls a0_4 0 255 false _ A12.out).mono ?_); rintro e w' ⟨rfl, ⟨nd, rfl⟩⟩))
       go_meet
       case rel => exact ⟨_, (true), (by first | rfl | (simp; done) | (simp [*]; done)), H', ⟨by first | omega | exact Nat.le_refl _⟩, ⟨by refine kb_ ?_; exact BK172.out⟩, ⟨hbA_ HB.out⟩⟩
     ·replace c11 := Bool.eq_false_iff.mpr c11
      subst c11
      rw [if_neg (show ¬ (false = true) by decide)] at H
      have H' := Aside0.mk H
      clear H; have Z17 := zz9 BK172
      go_wp2_with (first | ((with_reducible refine gate_callee (f := 52) rfl ?_); refine goesL_ (some 5) rfl rfl Try.func52 (by kernel_rfl) rfl #[.int .i64 a0_0, .int .i64 0, .int .i64 65535] rfl ar_ ?_; (with_reducible refine (spec_l1In.calls a0_0 0 65535 true _ A4.out).mono ?_); rintro e w' ⟨rfl, ⟨nd, rfl⟩⟩; refine ⟨_, rfl, ?_⟩) | (go_at_call 52; (with_reducible refine (spec_l1In.calls a0_1 0 65535 true _ A6.out).mono ?_); rintro e w' ⟨rfl, ⟨nd, rfl⟩⟩) | (go_at_call 52; (with_reducible refine (spec_l1In.calls a0_2 0 255 true _ A8.out).mono ?_); rintro e w' ⟨rfl, ⟨nd, rfl⟩⟩) | (go_at_call 52; (with_reducible refine (spec_l1In.calls a0_3 0 255 false _ A10.out).mono ?_); rintro e w' ⟨rfl, ⟨nd, rfl⟩⟩))
      go_meet
      case rel => exact ⟨_, (true), (by first | rfl | (simp; done) | (simp [*]; done)), H', ⟨by first | omega | exact Nat.le_refl _⟩, ⟨by refine kb_ ?_; exact BK172.out⟩, ⟨hbA_ HB.out⟩⟩
    ·replace c9 := Bool.eq_false_iff.mpr c9
     subst c9
     rw [if_neg (show ¬ (false = true) by decide)] at H
     have H' := Aside0.mk H
     clear H; have Z18 := zz9 BK172
     go_wp2_with (first | ((with_reducible refine gate_callee (f := 52) rfl ?_); refine goesL_ (some 5) rfl rfl Try.func52 (by kernel_rfl) rfl #[.int .i64 a0_0, .int .i64 0, .int .i64 65535] rfl ar_ ?_; (with_reducible refine (spec_l1In.calls a0_0 0 65535 true _ A4.out).mono ?_); rintro e w' ⟨rfl, ⟨nd, rfl⟩⟩; refine ⟨_, rfl, ?_⟩) | (go_at_call 52; (with_reducible refine (spec_l1In.calls a0_1 0 65535 true _ A6.out).mono ?_); rintro e w' ⟨rfl, ⟨nd, rfl⟩⟩) | (go_at_call 52; (with_reducible refine (spec_l1In.calls a0_2 0 255 false _ A8.out).mono ?_); rintro e w' ⟨rfl, ⟨nd, rfl⟩⟩))
     go_meet
     case rel => exact ⟨_, (true), (by first | rfl | (simp; done) | (simp [*]; done)), H', ⟨by first | omega | exact Nat.le_refl _⟩, ⟨by refine kb_ ?_; exact BK172.out⟩, ⟨hbA_ HB.out⟩⟩
   ·replace c7 := Bool.eq_false_iff.mpr c7
    subst c7
    rw [if_neg (show ¬ (false = true) by decide)] at H
    have H' := Aside0.mk H
    clear H; have Z19 := zz9 BK172
    go_wp2_with (first | ((with_reducible refine gate_callee (f := 52) rfl ?_); refine goesL_ (some 5) rfl rfl Try.func52 (by kernel_rfl) rfl #[.int .i64 a0_0, .int .i64 0, .int .i64 65535] rfl ar_ ?_; (with_reducible refine (spec_l1In.calls a0_0 0 65535 true _ A4.out).mono ?_); rintro e w' ⟨rfl, ⟨nd, rfl⟩⟩; refine ⟨_, rfl, ?_⟩) | (go_at_call 52; (with_reducible refine (spec_l1In.calls a0_1 0 65535 false _ A6.out).mono ?_); rintro e w' ⟨rfl, ⟨nd, rfl⟩⟩))
    go_meet
    case rel => exact ⟨_, (true), (by first | rfl | (simp; done) | (simp [*]; done)), H', ⟨by first | omega | exact Nat.le_refl _⟩, ⟨by refine kb_ ?_; exact BK172.out⟩, ⟨hbA_ HB.out⟩⟩
  ·replace c5 := Bool.eq_false_iff.mpr c5
   subst c5
   rw [if_neg (show ¬ (false = true) by decide)] at H
   have H' := Aside0.mk H
   clear H; have Z20 := zz9 BK172
   go_wp2_with (first | ((with_reducible refine gate_callee (f := 52) rfl ?_); refine goesL_ (some 5) rfl rfl Try.func52 (by kernel_rfl) rfl #[.int .i64 a0_0, .int .i64 0, .int .i64 65535] rfl ar_ ?_; (with_reducible refine (spec_l1In.calls a0_0 0 65535 false _ A4.out).mono ?_); rintro e w' ⟨rfl, ⟨nd, rfl⟩⟩; refine ⟨_, rfl, ?_⟩))
   go_meet
   case rel => exact ⟨_, (true), (by first | rfl | (simp; done) | (simp [*]; done)), H', ⟨by first | omega | exact Nat.le_refl _⟩, ⟨by refine kb_ ?_; exact BK172.out⟩, ⟨hbA_ HB.out⟩⟩
 case rest =>
  clear HC2; (try clear c1); (try clear p2); (try clear c5); (try clear c7); (try clear c9); (try clear c11); (try clear c13); (try clear Z15); (try clear Z16); (try clear Z17); (try clear Z18); (try clear Z19); (try clear Z20)
  obtain ⟨kq, x36_1, rfl, HA, HJ1, BK172, HB⟩ := hcut
  cases kq with
  | zero => exact absurd HA.out (by simp [spec_PacketOk.j0])
  | succ kj1 =>
   have H := HA.out; clear HA
   simp only [spec_PacketOk.j0] at H
   by_cases c21 : x36_1 = true
   ·subst c21
    rw [if_pos rfl] at H
    obtain rfl := Option.some.inj H
    go_wp2
    go_ret
    exact ⟨by first | rfl | (simp [errW_none, errW_some] <;> rfl) | (simp [*, errW_none, errW_some] <;> rfl), hbA_ HB.out⟩
   ·replace c21 := Bool.eq_false_iff.mpr c21
    subst c21
    rw [if_neg (show ¬ (false = true) by decide)] at H
    by_cases c22 : (l0_8.length : Int) ≤ 48
    ·rw [if_pos c22] at H
     have c22b0 : decide ((l0_8.length : Int) ≤ 48) = true := decide_eq_true c22
     have c22b1 : decide (l0_8.length ≤ 48) = true := decide_eq_true (by omega)
     clear c22
     by_cases c23 : a0_6 = true
     ·subst c23
      rw [if_pos rfl] at H
      by_cases c24 : (l0_8.length : Int) > 0
      ·rw [if_pos c24] at H
       have c24b0 : decide (0 < (l0_8.length : Int)) = true := decide_eq_true c24
       have c24b1 : decide (0 < l0_8.length) = true := decide_eq_true (by omega)
       clear c24
       by_cases c25 : a0_7 = true
       ·subst c25
        rw [if_pos rfl] at H
        by_cases c26 : a0_5 = 0
        ·rw [if_pos c26] at H
         have c26b0 : (a0_5 == 0) = true := beq_iff_eq.mpr c26
         have c26b1 : (a0_5 != 0) = false := bne_eq_false_iff_eq.mpr c26
         clear c26
         obtain rfl := Option.some.inj H
         have Z27 := zz9 BK172
         go_wp2
         go_ret
         exact ⟨by first | rfl | (simp [errW_none, errW_some] <;> rfl) | (simp [*, errW_none, errW_some] <;> rfl), hbA_ HB.out⟩
        ·rw [if_neg c26] at H
         have c26b0 : (a0_5 == 0) = false := beq_eq_false_iff_ne.mpr c26
         have c26b1 : (a0_5 != 0) = true := bne_iff_ne.mpr c26
         obtain rfl := Option.some.inj H
         have Z28 := zz9 BK172
         go_wp2
         go_ret
         exact ⟨by first | rfl | (simp [errW_none, errW_some] <;> rfl) | (simp [*, errW_none, errW_some] <;> rfl), hbA_ HB.out⟩
       ·replace c25 := Bool.eq_false_iff.mpr c25
        subst c25
        rw [if_neg (show ¬ (false = true) by decide)] at H
        obtain rfl := Option.some.inj H
        have Z29 := zz9 BK172
        go_wp2
        go_ret
        exact ⟨by first | rfl | (simp [errW_none, errW_some] <;> rfl) | (simp [*, errW_none, errW_some] <;> rfl), hbA_ HB.out⟩
      ·rw [if_neg c24] at H
       have c24b0 : decide (0 < (l0_8.length : Int)) = false := decide_eq_false c24
       have c24b1 : decide (0 < l0_8.length) = false := decide_eq_false (by omega)
       clear c24
       obtain rfl := Option.some.inj H
       have Z30 := zz9 BK172
       go_wp2
       go_ret
       exact ⟨by first | rfl | (simp [errW_none, errW_some] <;> rfl) | (simp [*, errW_none, errW_some] <;> rfl), hbA_ HB.out⟩
     ·replace c23 := Bool.eq_false_iff.mpr c23
      subst c23
      rw [if_neg (show ¬ (false = true) by decide)] at H
      by_cases c31 : a0_7 = true
      ·subst c31
       rw [if_pos rfl] at H
       by_cases c32 : a0_5 = 0
       ·rw [if_pos c32] at H
        have c32b0 : (a0_5 == 0) = true := beq_iff_eq.mpr c32
        have c32b1 : (a0_5 != 0) = false := bne_eq_false_iff_eq.mpr c32
        clear c32
        obtain rfl := Option.some.inj H
        have Z33 := zz9 BK172
        go_wp2
        go_ret
        exact ⟨by first | rfl | (simp [errW_none, errW_some] <;> rfl) | (simp [*, errW_none, errW_some] <;> rfl), hbA_ HB.out⟩
       ·rw [if_neg c32] at H
        have c32b0 : (a0_5 == 0) = false := beq_eq_false_iff_ne.mpr c32
        have c32b1 : (a0_5 != 0) = true := bne_iff_ne.mpr c32
        obtain rfl := Option.some.inj H
        have Z34 := zz9 BK172
        go_wp2
        go_ret
        exact ⟨by first | rfl | (simp [errW_none, errW_some] <;> rfl) | (simp [*, errW_none, errW_some] <;> rfl), hbA_ HB.out⟩
      ·replace c31 := Bool.eq_false_iff.mpr c31
       subst c31
       rw [if_neg (show ¬ (false = true) by decide)] at H
       obtain rfl := Option.some.inj H
       have Z35 := zz9 BK172
       go_wp2
       go_ret
       exact ⟨by first | rfl | (simp [errW_none, errW_some] <;> rfl) | (simp [*, errW_none, errW_some] <;> rfl), hbA_ HB.out⟩
    ·rw [if_neg c22] at H
     have c22b0 : decide ((l0_8.length : Int) ≤ 48) = false := decide_eq_false c22
     have c22b1 : decide (l0_8.length ≤ 48) = false := decide_eq_false (by omega)
     clear c22
     obtain rfl := Option.some.inj H
     have Z36 := zz9 BK172
     go_wp2
     go_ret
     exact ⟨by first | rfl | (simp [errW_none, errW_some] <;> rfl) | (simp [*, errW_none, errW_some] <;> rfl), hbA_ HB.out⟩
def spec_l5Same.f (a0_0 : Int) (a0_1 : Int) (a0_2 : Int) (a0_3 : Int) (a0_4 : Int) (a0_5 : Int) (a0_6 : Bool) (a0_7 : Bool) (l0_8 : List Int) (a1_0 : Int) (a1_1 : Int) (a1_2 : Int) (a1_3 : Int) (a1_4 : Int) (a1_5 : Int) (a1_6 : Bool) (a1_7 : Bool) (l1_8 : List Int) : Option (Bool) := if a0_0 = a1_0 then (if a0_1 = a1_1 then (if a0_2 = a1_2 then (some (a0_4 == a1_4)) else (some false)) else (some false)) else (some false)
set_option maxHeartbeats 8000000 in
set_option maxRecDepth 100000 in
theorem spec_l5Same.calls (a0_0 : Int) (a0_1 : Int) (a0_2 : Int) (a0_3 : Int) (a0_4 : Int) (a0_5 : Int) (a0_6 : Bool) (a0_7 : Bool) (A0_8 : Option Addr) (c0_8 : Nat) (l0_8 : List Int) (a1_0 : Int) (a1_1 : Int) (a1_2 : Int) (a1_3 : Int) (a1_4 : Int) (a1_5 : Int) (a1_6 : Bool) (a1_7 : Bool) (A1_8 : Option Addr) (c1_8 : Nat) (l1_8 : List Int) (r : Bool) (w : World) (hr0_8 : Kd.C (Kd.int .u8) w A0_8 l0_8.length l0_8) (hc0_8 : l0_8.length ≤ c0_8) (hr1_8 : Kd.C (Kd.int .u8) w A1_8 l1_8.length l1_8) (hc1_8 : l1_8.length ≤ c1_8) (h : spec_l5Same.f a0_0 a0_1 a0_2 a0_3 a0_4 a0_5 a0_6 a0_7 l0_8 a1_0 a1_1 a1_2 a1_3 a1_4 a1_5 a1_6 a1_7 l1_8 = some r) :
  Calls Try.prog 83 #[.agg #[.int .i64 a0_0, .int .i64 a0_1, .int .i64 a0_2, .int .i64 a0_3, .int .i64 a0_4, .int .i64 a0_5, .bool a0_6, .bool a0_7, .slice A0_8 l0_8.length c0_8], .agg #[.int .i64 a1_0, .int .i64 a1_1, .int .i64 a1_2, .int .i64 a1_3, .int .i64 a1_4, .int .i64 a1_5, .bool a1_6, .bool a1_7, .slice A1_8 l1_8.length c1_8]] w fun e w' => e = .returned (.bool r) ∧ Below w.heap.size w w' := by
 have hu28 := Try.underlying28; have HR0_8 := Aside0.mk hr0_8; have HC0_8 := Aside0.mk hc0_8; clear hr0_8 hc0_8; have HR1_8 := Aside0.mk hr1_8; have HC1_8 := Aside0.mk hc1_8; clear hr1_8 hc1_8
 have HB := Aside0.mk (Below.refl w.heap.size w)
 have H : (if a0_0 = a1_0 then (if a0_1 = a1_1 then (if a0_2 = a1_2 then (some (a0_4 == a1_4)) else (some false)) else (some false)) else (some false)) = some r := h
 clear h
 by_cases c3 : a0_0 = a1_0
 ·rw [if_pos c3] at H
  have c3b0 : (a0_0 == a1_0) = true := beq_iff_eq.mpr c3
  have c3b1 : (a0_0 != a1_0) = false := bne_eq_false_iff_eq.mpr c3
  clear c3
  by_cases c4 : a0_1 = a1_1
  ·rw [if_pos c4] at H
   have c4b0 : (a0_1 == a1_1) = true := beq_iff_eq.mpr c4
   have c4b1 : (a0_1 != a1_1) = false := bne_eq_false_iff_eq.mpr c4
   clear c4
   by_cases c5 : a0_2 = a1_2
   ·rw [if_pos c5] at H
    have c5b0 : (a0_2 == a1_2) = true := beq_iff_eq.mpr c5
    have c5b1 : (a0_2 != a1_2) = false := bne_eq_false_iff_eq.mpr c5
    clear c5
    obtain rfl := Option.some.inj H
    go_enter Try.func83, Try.ntmps83
    go_wp2_with (first | ((with_reducible refine gate_dst (N := 2) rfl ?_); refine box_ (N := 2) (cs := #[.int .i64 a0_0, .int .i64 a0_1, .int .i64 a0_2, .int .i64 a0_3, .int .i64 a0_4, .int .i64 a0_5, .bool a0_6, .bool a0_7, .slice A0_8 l0_8.length c0_8]) (t := 28) (fun gb179 hg w6 hbox hb => ?_); have BK179 := Aside0.mk (hbox); have GW179 := ge_ hg HB; have GE179 := ge_ hg HB; replace HB := (bs_ HB hb); clear hb hbox hg) | ((with_reducible refine gate_dst (N := 3) rfl ?_); refine box_ (N := 3) (cs := #[.int .i64 a1_0, .int .i64 a1_1, .int .i64 a1_2, .int .i64 a1_3, .int .i64 a1_4, .int .i64 a1_5, .bool a1_6, .bool a1_7, .slice A1_8 l1_8.length c1_8]) (t := 28) (fun gb180 hg w7 hbox hb => ?_); have BK180 := Aside0.mk (hbox); have GW180 := ge_ hg HB; have GE180 := ge_ hg HB; replace HB := (bs_ HB hb); have NB179_180 := nl_ hg BK179; have NB180_179 := ng_ hg BK179; replace BK179 := (bbA_ BK179 hb); clear hb hbox hg; have hnb8 := NB179_180.out; have hnc8 := NB180_179.out; have Z9 := zz9 BK179; have Z10 := zz9 BK180))
    go_ret
    exact ⟨by first | rfl | (simp [errW_none, errW_some] <;> rfl) | (simp [*, errW_none, errW_some] <;> rfl), hbA_ HB.out⟩
   ·rw [if_neg c5] at H
    have c5b0 : (a0_2 == a1_2) = false := beq_eq_false_iff_ne.mpr c5
    have c5b1 : (a0_2 != a1_2) = true := bne_iff_ne.mpr c5
    obtain rfl := Option.some.inj H
    go_enter Try.func83, Try.ntmps83
    go_wp2_with (first | ((with_reducible refine gate_dst (N := 2) rfl ?_); refine box_ (N := 2) (cs := #[.int .i64 a0_0, .int .i64 a0_1, .int .i64 a0_2, .int .i64 a0_3, .int .i64 a0_4, .int .i64 a0_5, .bool a0_6, .bool a0_7, .slice A0_8 l0_8.length c0_8]) (t := 28) (fun gb179 hg w11 hbox hb => ?_); have BK179 := Aside0.mk (hbox); have GW179 := ge_ hg HB; have GE179 := ge_ hg HB; replace HB := (bs_ HB hb); clear hb hbox hg) | ((with_reducible refine gate_dst (N := 3) rfl ?_); refine box_ (N := 3) (cs := #[.int .i64 a1_0, .int .i64 a1_1, .int .i64 a1_2, .int .i64 a1_3, .int .i64 a1_4, .int .i64 a1_5, .bool a1_6, .bool a1_7, .slice A1_8 l1_8.length c1_8]) (t := 28) (fun gb180 hg w12 hbox hb => ?_); have BK180 := Aside0.mk (hbox); have GW180 := ge_ hg HB; have GE180 := ge_ hg HB; replace HB := (bs_ HB hb); have NB179_180 := nl_ hg BK179; have NB180_179 := ng_ hg BK179; replace BK179 := (bbA_ BK179 hb); clear hb hbox hg; have hnb13 := NB179_180.out; have hnc13 := NB180_179.out; have Z14 := zz9 BK179; have Z15 := zz9 BK180))
    go_ret
    exact ⟨by first | rfl | (simp [errW_none, errW_some] <;> rfl) | (simp [*, errW_none, errW_some] <;> rfl), hbA_ HB.out⟩
  ·rw [if_neg c4] at H
   have c4b0 : (a0_1 == a1_1) = false := beq_eq_false_iff_ne.mpr c4
   have c4b1 : (a0_1 != a1_1) = true := bne_iff_ne.mpr c4
   obtain rfl := Option.some.inj H
   go_enter Try.func83, Try.ntmps83
   go_wp2_with (first | ((with_reducible refine gate_dst (N := 2) rfl ?_); refine box_ (N := 2) (cs := #[.int .i64 a0_0, .int .i64 a0_1, .int .i64 a0_2, .int .i64 a0_3, .int .i64 a0_4, .int .i64 a0_5, .bool a0_6, .bool a0_7, .slice A0_8 l0_8.length c0_8]) (t := 28) (fun gb179 hg w16 hbox hb => ?_); have BK179 := Aside0.mk (hbox); have GW179 := ge_ hg HB; have GE179 := ge_ hg HB; replace HB := (bs_ HB hb); clear hb hbox hg) | ((with_reducible refine gate_dst (N := 3) rfl ?_); refine box_ (N := 3) (cs := #[.int .i64 a1_0, .int .i64 a1_1, .int .i64 a1_2, .int .i64 a1_3, .int .i64 a1_4, .int .i64 a1_5, .bool a1_6, .bool a1_7, .slice A1_8 l1_8.length c1_8]) (t := 28) (fun gb180 hg w17 hbox hb => ?_); have BK180 := Aside0.mk (hbox); have GW180 := ge_ hg HB; have GE180 := ge_ hg HB; replace HB := (bs_ HB hb); have NB179_180 := nl_ hg BK179; have NB180_179 := ng_ hg BK179; replace BK179 := (bbA_ BK179 hb); clear hb hbox hg; have hnb18 := NB179_180.out; have hnc18 := NB180_179.out; have Z19 := zz9 BK179; have Z20 := zz9 BK180))
   go_ret
   exact ⟨by first | rfl | (simp [errW_none, errW_some] <;> rfl) | (simp [*, errW_none, errW_some] <;> rfl), hbA_ HB.out⟩
 ·rw [if_neg c3] at H
  have c3b0 : (a0_0 == a1_0) = false := beq_eq_false_iff_ne.mpr c3
  have c3b1 : (a0_0 != a1_0) = true := bne_iff_ne.mpr c3
  obtain rfl := Option.some.inj H
  go_enter Try.func83, Try.ntmps83
  go_wp2_with (first | ((with_reducible refine gate_dst (N := 2) rfl ?_); refine box_ (N := 2) (cs := #[.int .i64 a0_0, .int .i64 a0_1, .int .i64 a0_2, .int .i64 a0_3, .int .i64 a0_4, .int .i64 a0_5, .bool a0_6, .bool a0_7, .slice A0_8 l0_8.length c0_8]) (t := 28) (fun gb179 hg w21 hbox hb => ?_); have BK179 := Aside0.mk (hbox); have GW179 := ge_ hg HB; have GE179 := ge_ hg HB; replace HB := (bs_ HB hb); clear hb hbox hg) | ((with_reducible refine gate_dst (N := 3) rfl ?_); refine box_ (N := 3) (cs := #[.int .i64 a1_0, .int .i64 a1_1, .int .i64 a1_2, .int .i64 a1_3, .int .i64 a1_4, .int .i64 a1_5, .bool a1_6, .bool a1_7, .slice A1_8 l1_8.length c1_8]) (t := 28) (fun gb180 hg w22 hbox hb => ?_); have BK180 := Aside0.mk (hbox); have GW180 := ge_ hg HB; have GE180 := ge_ hg HB; replace HB := (bs_ HB hb); have NB179_180 := nl_ hg BK179; have NB180_179 := ng_ hg BK179; replace BK179 := (bbA_ BK179 hb); clear hb hbox hg; have hnb23 := NB179_180.out; have hnc23 := NB180_179.out; have Z24 := zz9 BK179; have Z25 := zz9 BK180))
  go_ret
  exact ⟨by first | rfl | (simp [errW_none, errW_some] <;> rfl) | (simp [*, errW_none, errW_some] <;> rfl), hbA_ HB.out⟩
end Go.Proofs.Ytpbeljcgcdilnaa.PFnExactPartWhole
