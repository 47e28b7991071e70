/- Printed by wip/xp/xprint.sh out of the translation, for this claim: what each function answers, as a plain function, and that the machine does just that. No condition. -/
import Derived.Test.YtbhofhdmbbipgaaPFnPacketCutx0
import Derived.Test.YtbhofhdmbbipgaaPFnPacketCutx1
namespace Go.Proofs.Ytbhofhdmbbipgaa.PFnPacketCut
open Go.RowKit Go.Proofs.YtbhofhdmbbipgaaW.PrintWords Go.Proofs.YtbhofhdmbbipgaaW.PrintLast Go.Proofs.YtbhofhdmbbipgaaW.PrintMore
attribute [local go_sem] max2_int min2_int max_two min_two max_three min_three max_four min_four   -- for this text's walks alone
set_option linter.unusedVariables false
set_option linter.unusedSimpArgs false
def spec_DrawPacketCut.f (k : Nat) (l0 : List Int) : Option (Int × Int × Int × Int × Int × Int × Bool × Bool × List Int × Int) := (spec_l20Open.f l0).bind fun bt180 => ((spec_l20Packet.f k bt180.1 bt180.2 12).bind fun bt183 => ((spec_l20Rd_pick.f k bt180.1 bt183.2.2.2.2.2.2.2.2.2 3).bind fun bt196 => (if bt196.1 = 0 then ((spec_l20Long.f k bt180.1 bt196.2).bind fun bt198 => ((spec_l20Rd_pick.f k bt180.1 bt198.2.2.2.2.2.2.2.2.2 10).bind fun bt210 => (some (bt198.1, bt198.2.1, bt198.2.2.1, bt198.2.2.2.1, bt198.2.2.2.2.1, bt198.2.2.2.2.2.1, bt198.2.2.2.2.2.2.1, bt198.2.2.2.2.2.2.2.1, bt198.2.2.2.2.2.2.2.2.1, bt210.1)))) else ((spec_l20Rd_pick.f k bt180.1 bt196.2 10).bind fun bt212 => (some (bt183.1, bt183.2.1, bt183.2.2.1, bt183.2.2.2.1, bt183.2.2.2.2.1, bt183.2.2.2.2.2.1, bt183.2.2.2.2.2.2.1, bt183.2.2.2.2.2.2.2.1, bt183.2.2.2.2.2.2.2.2.1, bt212.1))))))
theorem spec_DrawPacketCut.mono : ∀ a0 k, LeO (spec_DrawPacketCut.f k a0) (spec_DrawPacketCut.f (k + 1) a0) := by
 intro a0 k
 unfold spec_DrawPacketCut.f
 repeat' first | (with_reducible first | apply spec_l20Long.mono | apply spec_l20Packet.mono | apply spec_l20Rd_pick.mono | exact LeO.refl _ | exact LeO.none _ | refine LeO.ite ?_ ?_ | refine LeO.bind ?_ fun _ => ?_) | apply spec_l20Long.mono | apply spec_l20Packet.mono | apply spec_l20Rd_pick.mono | exact LeO.none _ | refine LeO.ite ?_ ?_ | refine LeO.bind ?_ fun _ => ?_
set_option maxHeartbeats 8000000 in
set_option maxRecDepth 100000 in
theorem spec_DrawPacketCut.calls (k : Nat) (A0 : Option Addr) (c0 : Nat) (l0 : List Int) (r1 : Int) (r2 : Int) (r3 : Int) (r4 : Int) (r5 : Int) (r6 : Int) (r7 : Bool) (r8 : Bool) (r9 : List Int) (r10 : Int) (w : World) (hr0 : Kd.C (Kd.int .u8) w A0 l0.length l0) (hc0 : l0.length ≤ c0) (h : spec_DrawPacketCut.f k l0 = some (r1, r2, r3, r4, r5, r6, r7, r8, r9, r10)) :
  Calls Try.prog 9 #[.slice A0 l0.length c0] w fun e w' => ∃ v8_ : Value, e = .returned (.tuple #[.agg #[.int .i64 r1, .int .i64 r2, .int .i64 r3, .int .i64 r4, .int .i64 r5, .int .i64 r6, .bool r7, .bool r8, v8_], .int .i64 r10]) ∧ Kd.R (Kd.int .u8) 5 w' w.heap.size (fun _ => True) v8_ r9 ∧ Below w.heap.size w w' := by
 have hu24 := Try.underlying24; have HR0 := Aside0.mk hr0; have HC0 := Aside0.mk hc0; clear hr0 hc0
 have HB := Aside0.mk (Below.refl w.heap.size w)
 have H : ((spec_l20Open.f l0).bind fun bt180 => ((spec_l20Packet.f k bt180.1 bt180.2 12).bind fun bt183 => ((spec_l20Rd_pick.f k bt180.1 bt183.2.2.2.2.2.2.2.2.2 3).bind fun bt196 => (if bt196.1 = 0 then ((spec_l20Long.f k bt180.1 bt196.2).bind fun bt198 => ((spec_l20Rd_pick.f k bt180.1 bt198.2.2.2.2.2.2.2.2.2 10).bind fun bt210 => (some (bt198.1, bt198.2.1, bt198.2.2.1, bt198.2.2.2.1, bt198.2.2.2.2.1, bt198.2.2.2.2.2.1, bt198.2.2.2.2.2.2.1, bt198.2.2.2.2.2.2.2.1, bt198.2.2.2.2.2.2.2.2.1, bt210.1)))) else ((spec_l20Rd_pick.f k bt180.1 bt196.2 10).bind fun bt212 => (some (bt183.1, bt183.2.1, bt183.2.2.1, bt183.2.2.2.1, bt183.2.2.2.2.1, bt183.2.2.2.2.2.1, bt183.2.2.2.2.2.2.1, bt183.2.2.2.2.2.2.2.1, bt183.2.2.2.2.2.2.2.2.1, bt212.1))))))) = some (r1, r2, r3, r4, r5, r6, r7, r8, r9, r10) := h
 clear h
 replace H := Option.bind_eq_some_iff.mp H
 obtain ⟨⟨t180, t181⟩, A20, H⟩ := H
 (try dsimp only at H)
 have A2 := Aside0.mk A20; clear A20
 replace H := Option.bind_eq_some_iff.mp H
 obtain ⟨⟨t183, t184, t185, t186, t187, t188, t189, t190, t191, t194⟩, A30, H⟩ := H
 (try dsimp only at H)
 have A3 := Aside0.mk A30; clear A30
 replace H := Option.bind_eq_some_iff.mp H
 obtain ⟨⟨t196, t197⟩, A40, H⟩ := H
 (try dsimp only at H)
 have A4 := Aside0.mk A40; clear A40
 by_cases c5 : t196 = 0
 ·rw [if_pos c5] at H
  have c5b0 : (t196 == 0) = true := beq_iff_eq.mpr c5
  have c5b1 : (t196 != 0) = false := bne_eq_false_iff_eq.mpr c5
  clear c5
  replace H := Option.bind_eq_some_iff.mp H
  obtain ⟨⟨t198, t199, t200, t201, t202, t203, t204, t205, t206, t209⟩, A60, H⟩ := H
  (try dsimp only at H)
  have A6 := Aside0.mk A60; clear A60
  replace H := Option.bind_eq_some_iff.mp H
  obtain ⟨⟨t210, t211⟩, A70, H⟩ := H
  (try dsimp only at H)
  have A7 := Aside0.mk A70; clear A70
  simp only [Option.some.injEq, Prod.mk.injEq] at H
  obtain ⟨rfl, rfl, rfl, rfl, rfl, rfl, rfl, rfl, rfl, rfl⟩ := H
  go_enter Try.func9, Try.ntmps9
  try go_wp2_with (first | ((with_reducible refine gate_dst (N := 2) rfl ?_); refine box_ (N := 2) (cs := #[.int .i64 0, .int .i64 0, .int .i64 0, .int .i64 0, .int .i64 0, .int .i64 0, .bool false, .bool false, .slice none 0 0]) (t := 24) (fun gb179 hg w8 hbox hb => ?_); have BK179 := Aside0.mk (hbox); have GW179 := ge_ hg HB; have GE179 := ge_ hg HB; replace HB := (bs_ HB hb); clear hb hbox hg) | ((with_reducible refine gate_callee (f := 52) rfl ?_); refine goesL_ (some 7) rfl rfl Try.func52 (by kernel_rfl) rfl #[.slice A0 l0.length c0] rfl ar_ ?_; (with_reducible refine (spec_l20Open.calls _ _ l0 t180 t181 w _ ?side1 ?side2 ?side3 A2.out).mono ?_); (case side1 => exact hbA_ HB.out); (case side2 => exact HR0.out); (case side3 => exact HC0.out); rintro e w9 ⟨g182, rfl, hi, hb, hb2⟩; refine ⟨_, rfl, ?_⟩; replace HB := Aside0.mk (hb); have HI182 := Aside0.mk (hi); have NB182_179 := Aside0.mk (IsS113.ne_blk hi (bb_ BK179 hb2) (by decide)); have NB179_182 := Aside0.mk (Ne.symm (IsS113.ne_blk hi (bb_ BK179 hb2) (by decide))); replace BK179 := (bbA_ BK179 hb2); (try clear hb); (try clear hb2); (try clear hk); (try clear hi)) | ((with_reducible refine gate_callee (f := 53) rfl ?_); refine goesL_ (some 9) rfl rfl Try.func53 (by kernel_rfl) rfl #[.pointer (some ⟨g182, 0, none⟩), .int .i64 12] rfl ar_ ?_; (with_reducible refine (spec_l20Packet.calls k g182 t180 t181 12 t183 t184 t185 t186 t187 t188 t189 t190 t191 t194 w _ ?side1 ?side2 A3.out).mono ?_); (case side1 => exact is113_ HI182.out); (case side2 => exact hb113_ HB.out); rintro e w10 ⟨v192, rfl, ho0, hi, hb, hk⟩; refine ⟨_, rfl, ?_⟩; replace BK179 := (bkA_ BK179 hk NB179_182); have HO193 := Aside0.mk (Kd.R_lower ho0 (below_size (hb113_ HB.out))); replace HB := Aside0.mk (hb); replace HI182 := Aside0.mk (hi); (try clear hb); (try clear hb2); (try clear hk); (try clear hi); (try clear ho0)) | ((with_reducible refine gate_dst (N := 5) rfl ?_); refine box_ (N := 5) (cs := #[.int .i64 0, .int .i64 0, .int .i64 0, .int .i64 0, .int .i64 0, .int .i64 0, .bool false, .bool false, .slice none 0 0]) (t := 24) (fun gb195 hg w11 hbox hb => ?_); replace HO193 := Aside0.mk (Kd.R_below (kR_ HO193.out) hb); have BK195 := Aside0.mk (hbox); have GW195 := ge113_ hg HB; have GE195 := ge113_ hg HB; replace HB := (bs113_ HB hb); have NB179_195 := nl_ hg BK179; have NB195_179 := ng_ hg BK179; replace BK179 := (bbA_ BK179 hb); have NB182_195 := nl113_ hg HI182; have NB195_182 := ng113_ hg HI182; replace HI182 := (ib113_ HI182 hb); clear hb hbox hg; have hnb12 := NB195_179.out; have hnc12 := NB179_195.out; have hnb13 := NB195_182.out; have hnc13 := NB182_195.out; have Z14 := zz9 BK195; obtain ⟨Ao15, co15, eo15⟩ := Kd.R_slice HO193.out; subst eo15) | ((with_reducible refine gate_callee (f := 54) rfl ?_); refine goesL_ (some 11) rfl rfl Try.func54 (by kernel_rfl) rfl #[.pointer (some ⟨g182, 0, none⟩), .int .i64 3] rfl ar_ ?_; (with_reducible refine (spec_l20Rd_pick.calls k g182 t180 t194 3 t196 t197 w _ ?side1 ?side2 A4.out).mono ?_); (case side1 => exact is113_ HI182.out); (case side2 => exact hb113_ HB.out); rintro e w16 ⟨rfl, hi, hb, hk⟩; refine ⟨_, rfl, ?_⟩; replace BK179 := Aside0.mk (KeepBut.blk hk (g' := gb179) (o := .cells #[.int .i64 0, .int .i64 0, .int .i64 0, .int .i64 0, .int .i64 0, .int .i64 0, .bool false, .bool false, .slice none 0 0] 24 (0, 0)) (by exact kf_ BK179.out) NB179_182.out (by simp)); replace HO193 := Aside0.mk (Kd.R_mono (Kd.R_keep (IsS113.apart (show IsS113 w _ g182 t180 t194 from is113_ HI182.out) (by refine kR_ ?_; exact (rfm_ ((Kd.R_types HO193.out BK195.out (by decide))) (fun _ h_ => op1_ h_))) (by decide)) hk (fun _ h => h.2)) (fun _ h => h.1)); replace BK195 := Aside0.mk (KeepBut.blk hk (g' := gb195) (o := .cells #[.int .i64 t183, .int .i64 t184, .int .i64 t185, .int .i64 t186, .int .i64 t187, .int .i64 t188, .bool t189, .bool t190, .slice Ao15 t191.length co15] 24 (0, 0)) (by refine kb_ ?_; refine pz9 (cs := #[.int .i64 0, .int .i64 0, .int .i64 0, .int .i64 0, .int .i64 0, .int .i64 0, .bool false, .bool false, .slice none 0 0]) ?_; refine kb_ ?_; exact BK195.out) NB195_182.out (by simp)); replace HB := Aside0.mk (hb); replace HI182 := Aside0.mk (hi); (try clear hb); (try clear hb2); (try clear hk); (try clear hi)) | ((with_reducible refine gate_callee (f := 55) rfl ?_); refine goesL_ (some 14) rfl rfl Try.func55 (by kernel_rfl) rfl #[.pointer (some ⟨g182, 0, none⟩)] rfl ar_ ?_; (with_reducible refine (spec_l20Long.calls k g182 t180 t197 t198 t199 t200 t201 t202 t203 t204 t205 t206 t209 w _ ?side1 ?side2 A6.out).mono ?_); (case side1 => exact is113_ HI182.out); (case side2 => exact hb113_ HB.out); rintro e w17 ⟨v207, rfl, ho0, hi, hb, hk⟩; refine ⟨_, rfl, ?_⟩; replace BK179 := (bkA_ BK179 hk NB179_182); replace BK195 := (bkA_ BK195 hk NB195_182); have HO208 := Aside0.mk (Kd.R_lower (Kd.R_new' ho0 (Kd.R_lt (kR_ HO193.out))) (below_size (hb113_ HB.out))); replace HO193 := Aside0.mk (Kd.R_mono (Kd.R_told (Kd.R_oldK (IsS113.apart (show IsS113 w _ g182 t180 t197 from is113_ HI182.out) (kR_ HO193.out) (by decide)) hk) (Kd.R_base ho0)) (fun _ h_ => op1_ h_)); replace HB := Aside0.mk (hb); replace HI182 := Aside0.mk (hi); (try clear hb); (try clear hb2); (try clear hk); (try clear hi); (try clear ho0); have Z18 := zz9 BK195; obtain ⟨Ao19, co19, eo19⟩ := Kd.R_slice HO208.out; subst eo19))
  obtain ⟨w20, h_w20⟩ : ∃ w_, (((((((((w17.setCell ⟨gb195, 0, none⟩ (.int .i64 t198)).setCell ⟨gb195, 1, none⟩ (.int .i64 t199)).setCell ⟨gb195, 2, none⟩ (.int .i64 t200)).setCell ⟨gb195, 3, none⟩ (.int .i64 t201)).setCell ⟨gb195, 4, none⟩ (.int .i64 t202)).setCell ⟨gb195, 5, none⟩ (.int .i64 t203)).setCell ⟨gb195, 6, none⟩ (.bool t204)).setCell ⟨gb195, 7, none⟩ (.bool t205)).setCell ⟨gb195, 8, none⟩ (.slice Ao19 t206.length co19)) = w_ := ⟨_, rfl⟩
  have n0_ : Aside0 (Kd.R (Kd.int .u8) 5 w20 w.heap.size (fun k_ => some k_ ≠ (.slice Ao19 t206.length co19 : Value).ownBlock) (.slice Ao15 t191.length co15) t191) := ⟨by subst h_w20; refine kR_ ?_; exact rfm_ ((Kd.R_types HO193.out BK195.out (by decide))) (fun _ hk => hk.1.2)⟩
  have n1_ : Aside0 (Kd.R (Kd.int .u8) 5 w20 w.heap.size (fun k_ => some k_ ≠ (.slice Ao15 t191.length co15 : Value).ownBlock) (.slice Ao19 t206.length co19) t206) := ⟨by subst h_w20; refine kR_ ?_; exact rfm_ ((Kd.R_types HO208.out BK195.out (by decide))) (fun _ hk => hk.1.2)⟩
  have n2_ : Aside0 (w20.heap[gb179]? = some (.cells #[.int .i64 0, .int .i64 0, .int .i64 0, .int .i64 0, .int .i64 0, .int .i64 0, .bool false, .bool false, .slice none 0 0] 24 (0, 0))) := ⟨by subst h_w20; exact kf_ BK179.out⟩
  have n3_ : Aside0 (w20.heap[gb195]? = some (.cells #[.int .i64 t198, .int .i64 t199, .int .i64 t200, .int .i64 t201, .int .i64 t202, .int .i64 t203, .bool t204, .bool t205, .slice Ao19 t206.length co19] 24 (0, 0))) := ⟨by subst h_w20; refine kb_ ?_; refine pz9 (cs := #[.int .i64 t183, .int .i64 t184, .int .i64 t185, .int .i64 t186, .int .i64 t187, .int .i64 t188, .bool t189, .bool t190, .slice Ao15 t191.length co15]) ?_; refine kb_ ?_; exact BK195.out⟩
  have n4_ : Aside0 (IsS113 w w20 g182 t180 t209) := ⟨by subst h_w20; exact is113_ HI182.out⟩
  have n5_ : Aside0 (Below w.heap.size w w20) := ⟨by subst h_w20; exact hb113_ HB.out⟩
  (try clear HO193); (try clear HO208); (try clear BK179); (try clear BK195); (try clear HI182); (try clear HB)
  (try rw [h_w20]); clear h_w20
  have HO193 := n0_; have HO208 := n1_; have BK179 := n2_; have BK195 := n3_; have HI182 := n4_; have HB := n5_; clear n0_ n1_ n2_ n3_ n4_ n5_; replace HO193 := Aside0.mk (Kd.R_drew HO193.out); replace HO208 := Aside0.mk (Kd.R_drew HO208.out); replace BK179 := Aside0.mk (blk_drew BK179.out); replace BK195 := Aside0.mk (blk_drew BK195.out); replace HI182 := Aside0.mk (IsS113.drew HI182.out); replace HB := (bd_ HB)
  refine start_ (n := 5) (S := fun w' => w'.cell? ⟨gb195, 0, none⟩ = some (.int .i64 t198) ∧ w'.cell? ⟨gb195, 1, none⟩ = some (.int .i64 t199) ∧ w'.cell? ⟨gb195, 2, none⟩ = some (.int .i64 t200) ∧ w'.cell? ⟨gb195, 3, none⟩ = some (.int .i64 t201) ∧ w'.cell? ⟨gb195, 4, none⟩ = some (.int .i64 t202) ∧ w'.cell? ⟨gb195, 5, none⟩ = some (.int .i64 t203) ∧ w'.cell? ⟨gb195, 6, none⟩ = some (.bool t204) ∧ w'.cell? ⟨gb195, 7, none⟩ = some (.bool t205) ∧ w'.cell? ⟨gb195, 8, none⟩ = some (.slice Ao19 t206.length co19)) (ds := []) #[false, false, false, false, false] (by kernel_rfl) rfl rfl (cz9 BK195.out) (fun hHeld => ?_)
  generalize w20.drew = w21 at HO193 HO208 BK179 BK195 HI182 HB hHeld ⊢
  refine pure_ (i := 1) (N := some 16) (v := ?_) (a' := ?_) #[false, true, false, false, false] rfl rfl (by kernel_rfl) (fun _ _ _ h => h) (Or.inl ⟨by rfl, ?_⟩) ?_ ?_
  rotate_left
  ·intro w'
   go_simp
   with_reducible rfl
  rotate_left
  ·simp only [Act.put, List.setIfInBounds_toArray, List.set_cons_zero, List.set_cons_succ, i64_w, i32_w]
   rfl
  refine take_ (i := 0) (N := some 15) (v := ?_) (a' := ?_) #[true, true, false, false, false] rfl rfl (by kernel_rfl) (fun _ _ _ h => h) (Or.inl ⟨by rfl, ?_⟩) hHeld ?_ ?_
  rotate_left
  ·rintro w' ⟨s0, s1, s2, s3, s4, s5, s6, s7, s8⟩
   go_simp
   with_reducible rfl
  rotate_left
  ·simp only [Act.put, List.setIfInBounds_toArray, List.set_cons_zero, List.set_cons_succ, i64_w, i32_w]
   rfl
  refine one_ (i := 2) (N := some 17) #[true, true, true, false, false] rfl rfl (by kernel_rfl) (by decide) (fun K hK => ?_)
  refine goes_ Try.func54 (by kernel_rfl) rfl #[.pointer (some ⟨g182, 0, none⟩), .int .i64 10] (by rfl) rfl rfl ar_ ?_
  with_reducible refine (spec_l20Rd_pick.calls k g182 t180 t209 10 t210 t211 w _ ?side1 ?side2 A7.out).mono ?_
  (case side1 => exact is113_ HI182.out)
  (case side2 => exact hb113_ HB.out)
  rintro e w22 ⟨rfl, hi, hb, hk⟩
  refine ⟨_, rfl, ?_⟩
  replace BK179 := (bkA_ BK179 hk NB179_182); replace HO193 := (rk113_ HI182 HO193 hk); replace BK195 := (bkA_ BK195 hk NB195_182); replace HO208 := (rk113_ HI182 HO208 hk); replace HB := Aside0.mk (hb); replace HI182 := Aside0.mk (hi); (try clear hb); (try clear hb2); (try clear hk); (try clear hi)
  refine hK.out _ _ (cz9 BK195.out) (fun hHeld => ?_)
  clear hK K; refine nm_ 17 ?_
  refine one_ (i := 3) (N := none) #[true, true, true, true, false] rfl rfl (by kernel_rfl) (by decide) (fun K hK => ?_)
  have hs23 : w22.cell? ⟨gb179, 0, none⟩ = some (.int .i64 0) := bc_ BK179 0
  have hfs23 := blk_frozen BK179.out 0
  have hns23_1 := NB195_179.out; have hms23_1 := NB179_195.out
  have hs24 : w22.cell? ⟨gb179, 1, none⟩ = some (.int .i64 0) := bc_ BK179 1
  have hfs24 := blk_frozen BK179.out 1
  have hns24_1 := NB195_179.out; have hms24_1 := NB179_195.out
  have hs25 : w22.cell? ⟨gb179, 2, none⟩ = some (.int .i64 0) := bc_ BK179 2
  have hfs25 := blk_frozen BK179.out 2
  have hns25_1 := NB195_179.out; have hms25_1 := NB179_195.out
  have hs26 : w22.cell? ⟨gb179, 3, none⟩ = some (.int .i64 0) := bc_ BK179 3
  have hfs26 := blk_frozen BK179.out 3
  have hns26_1 := NB195_179.out; have hms26_1 := NB179_195.out
  have hs27 : w22.cell? ⟨gb179, 4, none⟩ = some (.int .i64 0) := bc_ BK179 4
  have hfs27 := blk_frozen BK179.out 4
  have hns27_1 := NB195_179.out; have hms27_1 := NB179_195.out
  have hs28 : w22.cell? ⟨gb179, 5, none⟩ = some (.int .i64 0) := bc_ BK179 5
  have hfs28 := blk_frozen BK179.out 5
  have hns28_1 := NB195_179.out; have hms28_1 := NB179_195.out
  have hs29 : w22.cell? ⟨gb179, 6, none⟩ = some (.bool false) := bc_ BK179 6
  have hfs29 := blk_frozen BK179.out 6
  have hns29_1 := NB195_179.out; have hms29_1 := NB179_195.out
  have hs30 : w22.cell? ⟨gb179, 7, none⟩ = some (.bool false) := bc_ BK179 7
  have hfs30 := blk_frozen BK179.out 7
  have hns30_1 := NB195_179.out; have hms30_1 := NB179_195.out
  have hs31 : w22.cell? ⟨gb179, 8, none⟩ = some (.slice none 0 0) := bc_ BK179 8
  have hfs31 := blk_frozen BK179.out 8
  have hns31_1 := NB195_179.out; have hms31_1 := NB179_195.out
  refine skip_ (w1 := ?_) (by rfl) rfl ?_ ?_
  rotate_left
  ·go_simp
   rfl
  refine hK.out _ _ ⟨((cell_far (p := ⟨gb179, _, none⟩) NB195_179.out _).trans (((cell_far (p := ⟨gb179, _, none⟩) NB195_179.out _).trans (((cell_far (p := ⟨gb179, _, none⟩) NB195_179.out _).trans (((cell_far (p := ⟨gb179, _, none⟩) NB195_179.out _).trans (((cell_far (p := ⟨gb179, _, none⟩) NB195_179.out _).trans (((cell_far (p := ⟨gb179, _, none⟩) NB195_179.out _).trans (((cell_far (p := ⟨gb179, _, none⟩) NB195_179.out _).trans (((cell_far (p := ⟨gb179, _, none⟩) NB195_179.out _).trans (((cell_far (p := ⟨gb179, _, none⟩) NB195_179.out _).trans (hHeld.1)))))))))))))))))), ((cell_far (p := ⟨gb179, _, none⟩) NB195_179.out _).trans (((cell_far (p := ⟨gb179, _, none⟩) NB195_179.out _).trans (((cell_far (p := ⟨gb179, _, none⟩) NB195_179.out _).trans (((cell_far (p := ⟨gb179, _, none⟩) NB195_179.out _).trans (((cell_far (p := ⟨gb179, _, none⟩) NB195_179.out _).trans (((cell_far (p := ⟨gb179, _, none⟩) NB195_179.out _).trans (((cell_far (p := ⟨gb179, _, none⟩) NB195_179.out _).trans (((cell_far (p := ⟨gb179, _, none⟩) NB195_179.out _).trans (((cell_far (p := ⟨gb179, _, none⟩) NB195_179.out _).trans (hHeld.2.1)))))))))))))))))), ((cell_far (p := ⟨gb179, _, none⟩) NB195_179.out _).trans (((cell_far (p := ⟨gb179, _, none⟩) NB195_179.out _).trans (((cell_far (p := ⟨gb179, _, none⟩) NB195_179.out _).trans (((cell_far (p := ⟨gb179, _, none⟩) NB195_179.out _).trans (((cell_far (p := ⟨gb179, _, none⟩) NB195_179.out _).trans (((cell_far (p := ⟨gb179, _, none⟩) NB195_179.out _).trans (((cell_far (p := ⟨gb179, _, none⟩) NB195_179.out _).trans (((cell_far (p := ⟨gb179, _, none⟩) NB195_179.out _).trans (((cell_far (p := ⟨gb179, _, none⟩) NB195_179.out _).trans (hHeld.2.2.1)))))))))))))))))), ((cell_far (p := ⟨gb179, _, none⟩) NB195_179.out _).trans (((cell_far (p := ⟨gb179, _, none⟩) NB195_179.out _).trans (((cell_far (p := ⟨gb179, _, none⟩) NB195_179.out _).trans (((cell_far (p := ⟨gb179, _, none⟩) NB195_179.out _).trans (((cell_far (p := ⟨gb179, _, none⟩) NB195_179.out _).trans (((cell_far (p := ⟨gb179, _, none⟩) NB195_179.out _).trans (((cell_far (p := ⟨gb179, _, none⟩) NB195_179.out _).trans (((cell_far (p := ⟨gb179, _, none⟩) NB195_179.out _).trans (((cell_far (p := ⟨gb179, _, none⟩) NB195_179.out _).trans (hHeld.2.2.2.1)))))))))))))))))), ((cell_far (p := ⟨gb179, _, none⟩) NB195_179.out _).trans (((cell_far (p := ⟨gb179, _, none⟩) NB195_179.out _).trans (((cell_far (p := ⟨gb179, _, none⟩) NB195_179.out _).trans (((cell_far (p := ⟨gb179, _, none⟩) NB195_179.out _).trans (((cell_far (p := ⟨gb179, _, none⟩) NB195_179.out _).trans (((cell_far (p := ⟨gb179, _, none⟩) NB195_179.out _).trans (((cell_far (p := ⟨gb179, _, none⟩) NB195_179.out _).trans (((cell_far (p := ⟨gb179, _, none⟩) NB195_179.out _).trans (((cell_far (p := ⟨gb179, _, none⟩) NB195_179.out _).trans (hHeld.2.2.2.2.1)))))))))))))))))), ((cell_far (p := ⟨gb179, _, none⟩) NB195_179.out _).trans (((cell_far (p := ⟨gb179, _, none⟩) NB195_179.out _).trans (((cell_far (p := ⟨gb179, _, none⟩) NB195_179.out _).trans (((cell_far (p := ⟨gb179, _, none⟩) NB195_179.out _).trans (((cell_far (p := ⟨gb179, _, none⟩) NB195_179.out _).trans (((cell_far (p := ⟨gb179, _, none⟩) NB195_179.out _).trans (((cell_far (p := ⟨gb179, _, none⟩) NB195_179.out _).trans (((cell_far (p := ⟨gb179, _, none⟩) NB195_179.out _).trans (((cell_far (p := ⟨gb179, _, none⟩) NB195_179.out _).trans (hHeld.2.2.2.2.2.1)))))))))))))))))), ((cell_far (p := ⟨gb179, _, none⟩) NB195_179.out _).trans (((cell_far (p := ⟨gb179, _, none⟩) NB195_179.out _).trans (((cell_far (p := ⟨gb179, _, none⟩) NB195_179.out _).trans (((cell_far (p := ⟨gb179, _, none⟩) NB195_179.out _).trans (((cell_far (p := ⟨gb179, _, none⟩) NB195_179.out _).trans (((cell_far (p := ⟨gb179, _, none⟩) NB195_179.out _).trans (((cell_far (p := ⟨gb179, _, none⟩) NB195_179.out _).trans (((cell_far (p := ⟨gb179, _, none⟩) NB195_179.out _).trans (((cell_far (p := ⟨gb179, _, none⟩) NB195_179.out _).trans (hHeld.2.2.2.2.2.2.1)))))))))))))))))), ((cell_far (p := ⟨gb179, _, none⟩) NB195_179.out _).trans (((cell_far (p := ⟨gb179, _, none⟩) NB195_179.out _).trans (((cell_far (p := ⟨gb179, _, none⟩) NB195_179.out _).trans (((cell_far (p := ⟨gb179, _, none⟩) NB195_179.out _).trans (((cell_far (p := ⟨gb179, _, none⟩) NB195_179.out _).trans (((cell_far (p := ⟨gb179, _, none⟩) NB195_179.out _).trans (((cell_far (p := ⟨gb179, _, none⟩) NB195_179.out _).trans (((cell_far (p := ⟨gb179, _, none⟩) NB195_179.out _).trans (((cell_far (p := ⟨gb179, _, none⟩) NB195_179.out _).trans (hHeld.2.2.2.2.2.2.2.1)))))))))))))))))), ((cell_far (p := ⟨gb179, _, none⟩) NB195_179.out _).trans (((cell_far (p := ⟨gb179, _, none⟩) NB195_179.out _).trans (((cell_far (p := ⟨gb179, _, none⟩) NB195_179.out _).trans (((cell_far (p := ⟨gb179, _, none⟩) NB195_179.out _).trans (((cell_far (p := ⟨gb179, _, none⟩) NB195_179.out _).trans (((cell_far (p := ⟨gb179, _, none⟩) NB195_179.out _).trans (((cell_far (p := ⟨gb179, _, none⟩) NB195_179.out _).trans (((cell_far (p := ⟨gb179, _, none⟩) NB195_179.out _).trans (((cell_far (p := ⟨gb179, _, none⟩) NB195_179.out _).trans (hHeld.2.2.2.2.2.2.2.2))))))))))))))))))⟩ (fun hHeld => ?_)
  clear hK K
  refine pure_ (i := 4) (N := some 3) (v := ?_) (a' := ?_) #[true, true, true, true, true] rfl rfl (by kernel_rfl) (fun _ _ _ h => h) (Or.inl ⟨by rfl, ?_⟩) ?_ ?_
  rotate_left
  ·intro w'
   go_simp
   with_reducible rfl
  rotate_left
  ·simp only [Act.put, List.setIfInBounds_toArray, List.set_cons_zero, List.set_cons_succ, i64_w, i32_w]
   rfl
  refine done_ (by kernel_rfl) ?_
  try go_wp2
  refine bodyPost_ret (results_ct rfl _ _ gb179 24 #[.int .i64 t198, .int .i64 t199, .int .i64 t200, .int .i64 t201, .int .i64 t202, .int .i64 t203, .bool t204, .bool t205, .slice Ao19 t206.length co19] (0, 0) _ rfl (by refine kb_ ?_; refine pz9 (cs := #[.int .i64 0, .int .i64 0, .int .i64 0, .int .i64 0, .int .i64 0, .int .i64 0, .bool false, .bool false, .slice none 0 0]) ?_; refine kb_ ?_; exact BK179.out) Try.underlying24 rfl (by kernel_rfl)) rfl ?_
  exact ⟨_, by first | rfl | (simp [errW_none, errW_some] <;> rfl) | (simp [*, errW_none, errW_some] <;> rfl), by refine kR_ ?_; exact rfm_ ((Kd.R_types HO208.out BK179.out (by decide))) (fun _ hk => trivial), hb113_ HB.out⟩
 ·rw [if_neg c5] at H
  have c5b0 : (t196 == 0) = false := beq_eq_false_iff_ne.mpr c5
  have c5b1 : (t196 != 0) = true := bne_iff_ne.mpr c5
  replace H := Option.bind_eq_some_iff.mp H
  obtain ⟨⟨t212, t213⟩, A320, H⟩ := H
  (try dsimp only at H)
  have A32 := Aside0.mk A320; clear A320
  simp only [Option.some.injEq, Prod.mk.injEq] at H
  obtain ⟨rfl, rfl, rfl, rfl, rfl, rfl, rfl, rfl, rfl, rfl⟩ := H
  go_enter Try.func9, Try.ntmps9
  try go_wp2_with (first | ((with_reducible refine gate_dst (N := 2) rfl ?_); refine box_ (N := 2) (cs := #[.int .i64 0, .int .i64 0, .int .i64 0, .int .i64 0, .int .i64 0, .int .i64 0, .bool false, .bool false, .slice none 0 0]) (t := 24) (fun gb179 hg w33 hbox hb => ?_); have BK179 := Aside0.mk (hbox); have GW179 := ge_ hg HB; have GE179 := ge_ hg HB; replace HB := (bs_ HB hb); clear hb hbox hg) | ((with_reducible refine gate_callee (f := 52) rfl ?_); refine goesL_ (some 7) rfl rfl Try.func52 (by kernel_rfl) rfl #[.slice A0 l0.length c0] rfl ar_ ?_; (with_reducible refine (spec_l20Open.calls _ _ l0 t180 t181 w _ ?side1 ?side2 ?side3 A2.out).mono ?_); (case side1 => exact hbA_ HB.out); (case side2 => exact HR0.out); (case side3 => exact HC0.out); rintro e w34 ⟨g182, rfl, hi, hb, hb2⟩; refine ⟨_, rfl, ?_⟩; replace HB := Aside0.mk (hb); have HI182 := Aside0.mk (hi); have NB182_179 := Aside0.mk (IsS113.ne_blk hi (bb_ BK179 hb2) (by decide)); have NB179_182 := Aside0.mk (Ne.symm (IsS113.ne_blk hi (bb_ BK179 hb2) (by decide))); replace BK179 := (bbA_ BK179 hb2); (try clear hb); (try clear hb2); (try clear hk); (try clear hi)) | ((with_reducible refine gate_callee (f := 53) rfl ?_); refine goesL_ (some 9) rfl rfl Try.func53 (by kernel_rfl) rfl #[.pointer (some ⟨g182, 0, none⟩), .int .i64 12] rfl ar_ ?_; (with_reducible refine (spec_l20Packet.calls k g182 t180 t181 12 t183 t184 t185 t186 t187 t188 t189 t190 t191 t194 w _ ?side1 ?side2 A3.out).mono ?_); (case side1 => exact is113_ HI182.out); (case side2 => exact hb113_ HB.out); rintro e w35 ⟨v192, rfl, ho0, hi, hb, hk⟩; refine ⟨_, rfl, ?_⟩; replace BK179 := (bkA_ BK179 hk NB179_182); have HO193 := Aside0.mk (Kd.R_lower ho0 (below_size (hb113_ HB.out))); replace HB := Aside0.mk (hb); replace HI182 := Aside0.mk (hi); (try clear hb); (try clear hb2); (try clear hk); (try clear hi); (try clear ho0)) | ((with_reducible refine gate_dst (N := 5) rfl ?_); refine box_ (N := 5) (cs := #[.int .i64 0, .int .i64 0, .int .i64 0, .int .i64 0, .int .i64 0, .int .i64 0, .bool false, .bool false, .slice none 0 0]) (t := 24) (fun gb195 hg w36 hbox hb => ?_); replace HO193 := Aside0.mk (Kd.R_below (kR_ HO193.out) hb); have BK195 := Aside0.mk (hbox); have GW195 := ge113_ hg HB; have GE195 := ge113_ hg HB; replace HB := (bs113_ HB hb); have NB179_195 := nl_ hg BK179; have NB195_179 := ng_ hg BK179; replace BK179 := (bbA_ BK179 hb); have NB182_195 := nl113_ hg HI182; have NB195_182 := ng113_ hg HI182; replace HI182 := (ib113_ HI182 hb); clear hb hbox hg; have hnb37 := NB195_179.out; have hnc37 := NB179_195.out; have hnb38 := NB195_182.out; have hnc38 := NB182_195.out; have Z39 := zz9 BK195; obtain ⟨Ao40, co40, eo40⟩ := Kd.R_slice HO193.out; subst eo40) | ((with_reducible refine gate_callee (f := 54) rfl ?_); refine goesL_ (some 11) rfl rfl Try.func54 (by kernel_rfl) rfl #[.pointer (some ⟨g182, 0, none⟩), .int .i64 3] rfl ar_ ?_; (with_reducible refine (spec_l20Rd_pick.calls k g182 t180 t194 3 t196 t197 w _ ?side1 ?side2 A4.out).mono ?_); (case side1 => exact is113_ HI182.out); (case side2 => exact hb113_ HB.out); rintro e w41 ⟨rfl, hi, hb, hk⟩; refine ⟨_, rfl, ?_⟩; replace BK179 := Aside0.mk (KeepBut.blk hk (g' := gb179) (o := .cells #[.int .i64 0, .int .i64 0, .int .i64 0, .int .i64 0, .int .i64 0, .int .i64 0, .bool false, .bool false, .slice none 0 0] 24 (0, 0)) (by exact kf_ BK179.out) NB179_182.out (by simp)); replace HO193 := Aside0.mk (Kd.R_mono (Kd.R_keep (IsS113.apart (show IsS113 w _ g182 t180 t194 from is113_ HI182.out) (by refine kR_ ?_; exact (rfm_ ((Kd.R_types HO193.out BK195.out (by decide))) (fun _ h_ => op1_ h_))) (by decide)) hk (fun _ h => h.2)) (fun _ h => h.1)); replace BK195 := Aside0.mk (KeepBut.blk hk (g' := gb195) (o := .cells #[.int .i64 t183, .int .i64 t184, .int .i64 t185, .int .i64 t186, .int .i64 t187, .int .i64 t188, .bool t189, .bool t190, .slice Ao40 t191.length co40] 24 (0, 0)) (by refine kb_ ?_; refine pz9 (cs := #[.int .i64 0, .int .i64 0, .int .i64 0, .int .i64 0, .int .i64 0, .int .i64 0, .bool false, .bool false, .slice none 0 0]) ?_; refine kb_ ?_; exact BK195.out) NB195_182.out (by simp)); replace HB := Aside0.mk (hb); replace HI182 := Aside0.mk (hi); (try clear hb); (try clear hb2); (try clear hk); (try clear hi)))
  replace HO193 := Aside0.mk (Kd.R_drew HO193.out); replace BK179 := Aside0.mk (blk_drew BK179.out); replace BK195 := Aside0.mk (blk_drew BK195.out); replace HI182 := Aside0.mk (IsS113.drew HI182.out); replace HB := (bd_ HB)
  refine start_ (n := 5) (S := fun w' => w'.cell? ⟨gb195, 0, none⟩ = some (.int .i64 t183) ∧ w'.cell? ⟨gb195, 1, none⟩ = some (.int .i64 t184) ∧ w'.cell? ⟨gb195, 2, none⟩ = some (.int .i64 t185) ∧ w'.cell? ⟨gb195, 3, none⟩ = some (.int .i64 t186) ∧ w'.cell? ⟨gb195, 4, none⟩ = some (.int .i64 t187) ∧ w'.cell? ⟨gb195, 5, none⟩ = some (.int .i64 t188) ∧ w'.cell? ⟨gb195, 6, none⟩ = some (.bool t189) ∧ w'.cell? ⟨gb195, 7, none⟩ = some (.bool t190) ∧ w'.cell? ⟨gb195, 8, none⟩ = some (.slice Ao40 t191.length co40)) (ds := []) #[false, false, false, false, false] (by kernel_rfl) rfl rfl (cz9 BK195.out) (fun hHeld => ?_)
  generalize w41.drew = w42 at HO193 BK179 BK195 HI182 HB hHeld ⊢
  refine pure_ (i := 1) (N := some 16) (v := ?_) (a' := ?_) #[false, true, false, false, false] rfl rfl (by kernel_rfl) (fun _ _ _ h => h) (Or.inl ⟨by rfl, ?_⟩) ?_ ?_
  rotate_left
  ·intro w'
   go_simp
   with_reducible rfl
  rotate_left
  ·simp only [Act.put, List.setIfInBounds_toArray, List.set_cons_zero, List.set_cons_succ, i64_w, i32_w]
   rfl
  refine take_ (i := 0) (N := some 15) (v := ?_) (a' := ?_) #[true, true, false, false, false] rfl rfl (by kernel_rfl) (fun _ _ _ h => h) (Or.inl ⟨by rfl, ?_⟩) hHeld ?_ ?_
  rotate_left
  ·rintro w' ⟨s0, s1, s2, s3, s4, s5, s6, s7, s8⟩
   go_simp
   with_reducible rfl
  rotate_left
  ·simp only [Act.put, List.setIfInBounds_toArray, List.set_cons_zero, List.set_cons_succ, i64_w, i32_w]
   rfl
  refine one_ (i := 2) (N := some 17) #[true, true, true, false, false] rfl rfl (by kernel_rfl) (by decide) (fun K hK => ?_)
  refine goes_ Try.func54 (by kernel_rfl) rfl #[.pointer (some ⟨g182, 0, none⟩), .int .i64 10] (by rfl) rfl rfl ar_ ?_
  with_reducible refine (spec_l20Rd_pick.calls k g182 t180 t197 10 t212 t213 w _ ?side1 ?side2 A32.out).mono ?_
  (case side1 => exact is113_ HI182.out)
  (case side2 => exact hb113_ HB.out)
  rintro e w43 ⟨rfl, hi, hb, hk⟩
  refine ⟨_, rfl, ?_⟩
  replace BK179 := (bkA_ BK179 hk NB179_182); replace HO193 := (rk113_ HI182 HO193 hk); replace BK195 := (bkA_ BK195 hk NB195_182); replace HB := Aside0.mk (hb); replace HI182 := Aside0.mk (hi); (try clear hb); (try clear hb2); (try clear hk); (try clear hi)
  refine hK.out _ _ (cz9 BK195.out) (fun hHeld => ?_)
  clear hK K; refine nm_ 17 ?_
  refine one_ (i := 3) (N := none) #[true, true, true, true, false] rfl rfl (by kernel_rfl) (by decide) (fun K hK => ?_)
  have hs44 : w43.cell? ⟨gb179, 0, none⟩ = some (.int .i64 0) := bc_ BK179 0
  have hfs44 := blk_frozen BK179.out 0
  have hns44_1 := NB195_179.out; have hms44_1 := NB179_195.out
  have hs45 : w43.cell? ⟨gb179, 1, none⟩ = some (.int .i64 0) := bc_ BK179 1
  have hfs45 := blk_frozen BK179.out 1
  have hns45_1 := NB195_179.out; have hms45_1 := NB179_195.out
  have hs46 : w43.cell? ⟨gb179, 2, none⟩ = some (.int .i64 0) := bc_ BK179 2
  have hfs46 := blk_frozen BK179.out 2
  have hns46_1 := NB195_179.out; have hms46_1 := NB179_195.out
  have hs47 : w43.cell? ⟨gb179, 3, none⟩ = some (.int .i64 0) := bc_ BK179 3
  have hfs47 := blk_frozen BK179.out 3
  have hns47_1 := NB195_179.out; have hms47_1 := NB179_195.out
  have hs48 : w43.cell? ⟨gb179, 4, none⟩ = some (.int .i64 0) := bc_ BK179 4
  have hfs48 := blk_frozen BK179.out 4
  have hns48_1 := NB195_179.out; have hms48_1 := NB179_195.out
  have hs49 : w43.cell? ⟨gb179, 5, none⟩ = some (.int .i64 0) := bc_ BK179 5
  have hfs49 := blk_frozen BK179.out 5
  have hns49_1 := NB195_179.out; have hms49_1 := NB179_195.out
  have hs50 : w43.cell? ⟨gb179, 6, none⟩ = some (.bool false) := bc_ BK179 6
  have hfs50 := blk_frozen BK179.out 6
  have hns50_1 := NB195_179.out; have hms50_1 := NB179_195.out
  have hs51 : w43.cell? ⟨gb179, 7, none⟩ = some (.bool false) := bc_ BK179 7
  have hfs51 := blk_frozen BK179.out 7
  have hns51_1 := NB195_179.out; have hms51_1 := NB179_195.out
  have hs52 : w43.cell? ⟨gb179, 8, none⟩ = some (.slice none 0 0) := bc_ BK179 8
  have hfs52 := blk_frozen BK179.out 8
  have hns52_1 := NB195_179.out; have hms52_1 := NB179_195.out
  refine skip_ (w1 := ?_) (by rfl) rfl ?_ ?_
  rotate_left
  ·go_simp
   rfl
  refine hK.out _ _ ⟨((cell_far (p := ⟨gb179, _, none⟩) NB195_179.out _).trans (((cell_far (p := ⟨gb179, _, none⟩) NB195_179.out _).trans (((cell_far (p := ⟨gb179, _, none⟩) NB195_179.out _).trans (((cell_far (p := ⟨gb179, _, none⟩) NB195_179.out _).trans (((cell_far (p := ⟨gb179, _, none⟩) NB195_179.out _).trans (((cell_far (p := ⟨gb179, _, none⟩) NB195_179.out _).trans (((cell_far (p := ⟨gb179, _, none⟩) NB195_179.out _).trans (((cell_far (p := ⟨gb179, _, none⟩) NB195_179.out _).trans (((cell_far (p := ⟨gb179, _, none⟩) NB195_179.out _).trans (hHeld.1)))))))))))))))))), ((cell_far (p := ⟨gb179, _, none⟩) NB195_179.out _).trans (((cell_far (p := ⟨gb179, _, none⟩) NB195_179.out _).trans (((cell_far (p := ⟨gb179, _, none⟩) NB195_179.out _).trans (((cell_far (p := ⟨gb179, _, none⟩) NB195_179.out _).trans (((cell_far (p := ⟨gb179, _, none⟩) NB195_179.out _).trans (((cell_far (p := ⟨gb179, _, none⟩) NB195_179.out _).trans (((cell_far (p := ⟨gb179, _, none⟩) NB195_179.out _).trans (((cell_far (p := ⟨gb179, _, none⟩) NB195_179.out _).trans (((cell_far (p := ⟨gb179, _, none⟩) NB195_179.out _).trans (hHeld.2.1)))))))))))))))))), ((cell_far (p := ⟨gb179, _, none⟩) NB195_179.out _).trans (((cell_far (p := ⟨gb179, _, none⟩) NB195_179.out _).trans (((cell_far (p := ⟨gb179, _, none⟩) NB195_179.out _).trans (((cell_far (p := ⟨gb179, _, none⟩) NB195_179.out _).trans (((cell_far (p := ⟨gb179, _, none⟩) NB195_179.out _).trans (((cell_far (p := ⟨gb179, _, none⟩) NB195_179.out _).trans (((cell_far (p := ⟨gb179, _, none⟩) NB195_179.out _).trans (((cell_far (p := ⟨gb179, _, none⟩) NB195_179.out _).trans (((cell_far (p := ⟨gb179, _, none⟩) NB195_179.out _).trans (hHeld.2.2.1)))))))))))))))))), ((cell_far (p := ⟨gb179, _, none⟩) NB195_179.out _).trans (((cell_far (p := ⟨gb179, _, none⟩) NB195_179.out _).trans (((cell_far (p := ⟨gb179, _, none⟩) NB195_179.out _).trans (((cell_far (p := ⟨gb179, _, none⟩) NB195_179.out _).trans (((cell_far (p := ⟨gb179, _, none⟩) NB195_179.out _).trans (((cell_far (p := ⟨gb179, _, none⟩) NB195_179.out _).trans (((cell_far (p := ⟨gb179, _, none⟩) NB195_179.out _).trans (((cell_far (p := ⟨gb179, _, none⟩) NB195_179.out _).trans (((cell_far (p := ⟨gb179, _, none⟩) NB195_179.out _).trans (hHeld.2.2.2.1)))))))))))))))))), ((cell_far (p := ⟨gb179, _, none⟩) NB195_179.out _).trans (((cell_far (p := ⟨gb179, _, none⟩) NB195_179.out _).trans (((cell_far (p := ⟨gb179, _, none⟩) NB195_179.out _).trans (((cell_far (p := ⟨gb179, _, none⟩) NB195_179.out _).trans (((cell_far (p := ⟨gb179, _, none⟩) NB195_179.out _).trans (((cell_far (p := ⟨gb179, _, none⟩) NB195_179.out _).trans (((cell_far (p := ⟨gb179, _, none⟩) NB195_179.out _).trans (((cell_far (p := ⟨gb179, _, none⟩) NB195_179.out _).trans (((cell_far (p := ⟨gb179, _, none⟩) NB195_179.out _).trans (hHeld.2.2.2.2.1)))))))))))))))))), ((cell_far (p := ⟨gb179, _, none⟩) NB195_179.out _).trans (((cell_far (p := ⟨gb179, _, none⟩) NB195_179.out _).trans (((cell_far (p := ⟨gb179, _, none⟩) NB195_179.out _).trans (((cell_far (p := ⟨gb179, _, none⟩) NB195_179.out _).trans (((cell_far (p := ⟨gb179, _, none⟩) NB195_179.out _).trans (((cell_far (p := ⟨gb179, _, none⟩) NB195_179.out _).trans (((cell_far (p := ⟨gb179, _, none⟩) NB195_179.out _).trans (((cell_far (p := ⟨gb179, _, none⟩) NB195_179.out _).trans (((cell_far (p := ⟨gb179, _, none⟩) NB195_179.out _).trans (hHeld.2.2.2.2.2.1)))))))))))))))))), ((cell_far (p := ⟨gb179, _, none⟩) NB195_179.out _).trans (((cell_far (p := ⟨gb179, _, none⟩) NB195_179.out _).trans (((cell_far (p := ⟨gb179, _, none⟩) NB195_179.out _).trans (((cell_far (p := ⟨gb179, _, none⟩) NB195_179.out _).trans (((cell_far (p := ⟨gb179, _, none⟩) NB195_179.out _).trans (((cell_far (p := ⟨gb179, _, none⟩) NB195_179.out _).trans (((cell_far (p := ⟨gb179, _, none⟩) NB195_179.out _).trans (((cell_far (p := ⟨gb179, _, none⟩) NB195_179.out _).trans (((cell_far (p := ⟨gb179, _, none⟩) NB195_179.out _).trans (hHeld.2.2.2.2.2.2.1)))))))))))))))))), ((cell_far (p := ⟨gb179, _, none⟩) NB195_179.out _).trans (((cell_far (p := ⟨gb179, _, none⟩) NB195_179.out _).trans (((cell_far (p := ⟨gb179, _, none⟩) NB195_179.out _).trans (((cell_far (p := ⟨gb179, _, none⟩) NB195_179.out _).trans (((cell_far (p := ⟨gb179, _, none⟩) NB195_179.out _).trans (((cell_far (p := ⟨gb179, _, none⟩) NB195_179.out _).trans (((cell_far (p := ⟨gb179, _, none⟩) NB195_179.out _).trans (((cell_far (p := ⟨gb179, _, none⟩) NB195_179.out _).trans (((cell_far (p := ⟨gb179, _, none⟩) NB195_179.out _).trans (hHeld.2.2.2.2.2.2.2.1)))))))))))))))))), ((cell_far (p := ⟨gb179, _, none⟩) NB195_179.out _).trans (((cell_far (p := ⟨gb179, _, none⟩) NB195_179.out _).trans (((cell_far (p := ⟨gb179, _, none⟩) NB195_179.out _).trans (((cell_far (p := ⟨gb179, _, none⟩) NB195_179.out _).trans (((cell_far (p := ⟨gb179, _, none⟩) NB195_179.out _).trans (((cell_far (p := ⟨gb179, _, none⟩) NB195_179.out _).trans (((cell_far (p := ⟨gb179, _, none⟩) NB195_179.out _).trans (((cell_far (p := ⟨gb179, _, none⟩) NB195_179.out _).trans (((cell_far (p := ⟨gb179, _, none⟩) NB195_179.out _).trans (hHeld.2.2.2.2.2.2.2.2))))))))))))))))))⟩ (fun hHeld => ?_)
  clear hK K
  refine pure_ (i := 4) (N := some 3) (v := ?_) (a' := ?_) #[true, true, true, true, true] rfl rfl (by kernel_rfl) (fun _ _ _ h => h) (Or.inl ⟨by rfl, ?_⟩) ?_ ?_
  rotate_left
  ·intro w'
   go_simp
   with_reducible rfl
  rotate_left
  ·simp only [Act.put, List.setIfInBounds_toArray, List.set_cons_zero, List.set_cons_succ, i64_w, i32_w]
   rfl
  refine done_ (by kernel_rfl) ?_
  try go_wp2
  refine bodyPost_ret (results_ct rfl _ _ gb179 24 #[.int .i64 t183, .int .i64 t184, .int .i64 t185, .int .i64 t186, .int .i64 t187, .int .i64 t188, .bool t189, .bool t190, .slice Ao40 t191.length co40] (0, 0) _ rfl (by refine kb_ ?_; refine pz9 (cs := #[.int .i64 0, .int .i64 0, .int .i64 0, .int .i64 0, .int .i64 0, .int .i64 0, .bool false, .bool false, .slice none 0 0]) ?_; refine kb_ ?_; exact BK179.out) Try.underlying24 rfl (by kernel_rfl)) rfl ?_
  exact ⟨_, by first | rfl | (simp [errW_none, errW_some] <;> rfl) | (simp [*, errW_none, errW_some] <;> rfl), by refine kR_ ?_; exact rfm_ ((Kd.R_types HO193.out BK179.out (by decide))) (fun _ hk => trivial), hb113_ HB.out⟩
def impl_in.f (a0 : Int) (a1 : Int) (a2 : Int) : Option (Bool) := if a0 ≥ a1 then (some (decide (a0 ≤ a2))) else (some false)
set_option maxHeartbeats 8000000 in
set_option maxRecDepth 100000 in
theorem impl_in.calls (a0 : Int) (a1 : Int) (a2 : Int) (r : Bool) (w : World) (h : impl_in.f a0 a1 a2 = some r) :
  Calls Try.prog 56 #[.int .i64 a0, .int .i64 a1, .int .i64 a2] w fun e w' => e = .returned (.bool r) ∧ Drawn0 w w' := by
 have H : (if a0 ≥ a1 then (some (decide (a0 ≤ a2))) else (some false)) = some r := h
 clear h
 by_cases c4 : a0 ≥ a1
 ·rw [if_pos c4] at H
  have c4b0 : decide (a1 ≤ a0) = true := decide_eq_true c4
  clear c4
  obtain rfl := Option.some.inj H
  go_enter Try.func56, Try.ntmps56
  go_wp2
  go_ret
  exact ⟨by first | rfl | (simp; done) | (simp [*]; done), by repeat (first | exact Drawn0.refl _ | apply Drawn0.step)⟩
 ·rw [if_neg c4] at H
  have c4b0 : decide (a1 ≤ a0) = false := decide_eq_false c4
  clear c4
  obtain rfl := Option.some.inj H
  go_enter Try.func56, Try.ntmps56
  go_wp2
  go_ret
  exact ⟨by first | rfl | (simp; done) | (simp [*]; done), by repeat (first | exact Drawn0.refl _ | apply Drawn0.step)⟩
def impl_word.f (a0 : Int) : Option (Bool) := (impl_in.f a0 0 65535).bind fun t214 => (some t214)
set_option maxHeartbeats 8000000 in
set_option maxRecDepth 100000 in
theorem impl_word.calls (a0 : Int) (r : Bool) (w : World) (h : impl_word.f a0 = some r) :
  Calls Try.prog 62 #[.int .i64 a0] w fun e w' => e = .returned (.bool r) ∧ Drawn0 w w' := by
 have H : ((impl_in.f a0 0 65535).bind fun t214 => (some t214)) = some r := h
 clear h
 replace H := Option.bind_eq_some_iff.mp H
 obtain ⟨t214, A20, H⟩ := H
 (try dsimp only at H)
 have A2 := Aside0.mk A20; clear A20
 obtain rfl := Option.some.inj H
 go_enter Try.func62, Try.ntmps62
 go_wp2_with (first | ((with_reducible refine gate_callee (f := 56) rfl ?_); refine goesL_ (some 4) rfl rfl Try.func56 (by kernel_rfl) rfl #[.int .i64 a0, .int .i64 0, .int .i64 65535] rfl ar_ ?_; (with_reducible refine (impl_in.calls a0 0 65535 t214 _ A2.out).mono ?_); rintro e w' ⟨rfl, ⟨nd, rfl⟩⟩; refine ⟨_, rfl, ?_⟩))
 go_ret
 exact ⟨by first | rfl | (simp; done) | (simp [*]; done), by repeat (first | exact Drawn0.refl _ | apply Drawn0.step)⟩
def impl_PacketOk.f (a0_0 : Int) (a0_1 : Int) (a0_2 : Int) (a0_3 : Int) (a0_4 : Int) (a0_5 : Int) (a0_6 : Bool) (a0_7 : Bool) (l0_8 : List Int) : Option (Bool) := (impl_word.f a0_0).bind fun t216 => (if t216 = true then ((impl_word.f a0_1).bind fun t217 => (if t217 = true then ((impl_in.f a0_2 0 255).bind fun t218 => (if t218 = true then ((impl_in.f a0_3 0 255).bind fun t219 => (if t219 = true then ((impl_in.f a0_4 0 255).bind fun t220 => (if t220 = true then ((impl_in.f a0_5 0 255).bind fun t221 => (if t221 = true then (if (l0_8.length : Int) ≤ 48 then (if a0_6 = true then (if (l0_8.length : Int) > 0 then (if a0_7 = true then (if a0_5 = 0 then (some (!a0_6)) else (some false)) else (some true)) else (some false)) else (if a0_7 = true then (if a0_5 = 0 then (some (!a0_6)) else (some false)) else (some true))) else (some false)) else (some false))) else (some false))) else (some false))) else (some false))) else (some false))) else (some false))
set_option maxHeartbeats 8000000 in
set_option maxRecDepth 100000 in
theorem impl_PacketOk.calls (a0_0 : Int) (a0_1 : Int) (a0_2 : Int) (a0_3 : Int) (a0_4 : Int) (a0_5 : Int) (a0_6 : Bool) (a0_7 : Bool) (A0_8 : Option Addr) (c0_8 : Nat) (l0_8 : List Int) (r : Bool) (w : World) (hr0_8 : Kd.C (Kd.int .u8) w A0_8 l0_8.length l0_8) (hc0_8 : l0_8.length ≤ c0_8) (h : impl_PacketOk.f a0_0 a0_1 a0_2 a0_3 a0_4 a0_5 a0_6 a0_7 l0_8 = some r) :
  Calls Try.prog 14 #[.agg #[.int .i64 a0_0, .int .i64 a0_1, .int .i64 a0_2, .int .i64 a0_3, .int .i64 a0_4, .int .i64 a0_5, .bool a0_6, .bool a0_7, .slice A0_8 l0_8.length c0_8]] w fun e w' => e = .returned (.bool r) ∧ Below w.heap.size w w' := by
 have hu24 := Try.underlying24; have HR0_8 := Aside0.mk hr0_8; have HC0_8 := Aside0.mk hc0_8; clear hr0_8 hc0_8
 have HB := Aside0.mk (Below.refl w.heap.size w)
 have H : ((impl_word.f a0_0).bind fun t216 => (if t216 = true then ((impl_word.f a0_1).bind fun t217 => (if t217 = true then ((impl_in.f a0_2 0 255).bind fun t218 => (if t218 = true then ((impl_in.f a0_3 0 255).bind fun t219 => (if t219 = true then ((impl_in.f a0_4 0 255).bind fun t220 => (if t220 = true then ((impl_in.f a0_5 0 255).bind fun t221 => (if t221 = true then (if (l0_8.length : Int) ≤ 48 then (if a0_6 = true then (if (l0_8.length : Int) > 0 then (if a0_7 = true then (if a0_5 = 0 then (some (!a0_6)) else (some false)) else (some true)) else (some false)) else (if a0_7 = true then (if a0_5 = 0 then (some (!a0_6)) else (some false)) else (some true))) else (some false)) else (some false))) else (some false))) else (some false))) else (some false))) else (some false))) else (some false))) = some r := h
 clear h
 replace H := Option.bind_eq_some_iff.mp H
 obtain ⟨t216, A20, H⟩ := H
 (try dsimp only at H)
 have A2 := Aside0.mk A20; clear A20
 by_cases c3 : t216 = true
 ·subst c3
  rw [if_pos rfl] at H
  replace H := Option.bind_eq_some_iff.mp H
  obtain ⟨t217, A40, H⟩ := H
  (try dsimp only at H)
  have A4 := Aside0.mk A40; clear A40
  by_cases c5 : t217 = true
  ·subst c5
   rw [if_pos rfl] at H
   replace H := Option.bind_eq_some_iff.mp H
   obtain ⟨t218, A60, H⟩ := H
   (try dsimp only at H)
   have A6 := Aside0.mk A60; clear A60
   by_cases c7 : t218 = true
   ·subst c7
    rw [if_pos rfl] at H
    replace H := Option.bind_eq_some_iff.mp H
    obtain ⟨t219, A80, H⟩ := H
    (try dsimp only at H)
    have A8 := Aside0.mk A80; clear A80
    by_cases c9 : t219 = true
    ·subst c9
     rw [if_pos rfl] at H
     replace H := Option.bind_eq_some_iff.mp H
     obtain ⟨t220, A100, H⟩ := H
     (try dsimp only at H)
     have A10 := Aside0.mk A100; clear A100
     by_cases c11 : t220 = true
     ·subst c11
      rw [if_pos rfl] at H
      replace H := Option.bind_eq_some_iff.mp H
      obtain ⟨t221, A120, H⟩ := H
      (try dsimp only at H)
      have A12 := Aside0.mk A120; clear A120
      by_cases c13 : t221 = true
      ·subst c13
       rw [if_pos rfl] at H
       by_cases c14 : (l0_8.length : Int) ≤ 48
       ·rw [if_pos c14] at H
        have c14b0 : decide ((l0_8.length : Int) ≤ 48) = true := decide_eq_true c14
        have c14b1 : decide (l0_8.length ≤ 48) = true := decide_eq_true (by omega)
        clear c14
        by_cases c15 : a0_6 = true
        ·subst c15
         rw [if_pos rfl] at H
         by_cases c16 : (l0_8.length : Int) > 0
         ·rw [if_pos c16] at H
          have c16b0 : decide (0 < (l0_8.length : Int)) = true := decide_eq_true c16
          have c16b1 : decide (0 < l0_8.length) = true := decide_eq_true (by omega)
          clear c16
          by_cases c17 : a0_7 = true
          ·subst c17
           rw [if_pos rfl] at H
           by_cases c18 : a0_5 = 0
           ·rw [if_pos c18] at H
            have c18b0 : (a0_5 == 0) = true := beq_iff_eq.mpr c18
            have c18b1 : (a0_5 != 0) = false := bne_eq_false_iff_eq.mpr c18
            clear c18
            obtain rfl := Option.some.inj H
            go_enter Try.func14, Try.ntmps14
            go_wp2_with (first | ((with_reducible refine gate_dst (N := 1) rfl ?_); (try (refine gate_guard (by rfl) ?_; dsimp only)); refine box_ (N := 1) (cs := #[.int .i64 a0_0, .int .i64 a0_1, .int .i64 a0_2, .int .i64 a0_3, .int .i64 a0_4, .int .i64 a0_5, .bool true, .bool true, .slice A0_8 l0_8.length c0_8]) (t := 24) (fun gb215 hg w19 hbox hb => ?_); have BK215 := Aside0.mk (hbox); have GW215 := ge_ hg HB; have GE215 := ge_ hg HB; replace HB := (bs_ HB hb); clear hb hbox hg; have Z20 := zz9 BK215) | ((with_reducible refine gate_callee (f := 62) rfl ?_); refine goesL_ (some 5) rfl rfl Try.func62 (by kernel_rfl) rfl #[.int .i64 a0_0] rfl ar_ ?_; (with_reducible refine (impl_word.calls a0_0 true _ A2.out).mono ?_); rintro e w' ⟨rfl, ⟨nd, rfl⟩⟩; refine ⟨_, rfl, ?_⟩) | (go_at_call 62; (with_reducible refine (impl_word.calls a0_1 true _ A4.out).mono ?_); rintro e w' ⟨rfl, ⟨nd, rfl⟩⟩) | (go_at_call 56; (with_reducible refine (impl_in.calls a0_2 0 255 true _ A6.out).mono ?_); rintro e w' ⟨rfl, ⟨nd, rfl⟩⟩) | (go_at_call 56; (with_reducible refine (impl_in.calls a0_3 0 255 true _ A8.out).mono ?_); rintro e w' ⟨rfl, ⟨nd, rfl⟩⟩) | (go_at_call 56; (with_reducible refine (impl_in.calls a0_4 0 255 true _ A10.out).mono ?_); rintro e w' ⟨rfl, ⟨nd, rfl⟩⟩) | (go_at_call 56; (with_reducible refine (impl_in.calls a0_5 0 255 true _ A12.out).mono ?_); rintro e w' ⟨rfl, ⟨nd, rfl⟩⟩))
            go_ret
            exact ⟨by first | rfl | (simp [errW_none, errW_some] <;> rfl) | (simp [*, errW_none, errW_some] <;> rfl), hbA_ HB.out⟩
           ·rw [if_neg c18] at H
            have c18b0 : (a0_5 == 0) = false := beq_eq_false_iff_ne.mpr c18
            have c18b1 : (a0_5 != 0) = true := bne_iff_ne.mpr c18
            obtain rfl := Option.some.inj H
            go_enter Try.func14, Try.ntmps14
            go_wp2_with (first | ((with_reducible refine gate_dst (N := 1) rfl ?_); (try (refine gate_guard (by rfl) ?_; dsimp only)); refine box_ (N := 1) (cs := #[.int .i64 a0_0, .int .i64 a0_1, .int .i64 a0_2, .int .i64 a0_3, .int .i64 a0_4, .int .i64 a0_5, .bool true, .bool true, .slice A0_8 l0_8.length c0_8]) (t := 24) (fun gb215 hg w21 hbox hb => ?_); have BK215 := Aside0.mk (hbox); have GW215 := ge_ hg HB; have GE215 := ge_ hg HB; replace HB := (bs_ HB hb); clear hb hbox hg; have Z22 := zz9 BK215) | ((with_reducible refine gate_callee (f := 62) rfl ?_); refine goesL_ (some 5) rfl rfl Try.func62 (by kernel_rfl) rfl #[.int .i64 a0_0] rfl ar_ ?_; (with_reducible refine (impl_word.calls a0_0 true _ A2.out).mono ?_); rintro e w' ⟨rfl, ⟨nd, rfl⟩⟩; refine ⟨_, rfl, ?_⟩) | (go_at_call 62; (with_reducible refine (impl_word.calls a0_1 true _ A4.out).mono ?_); rintro e w' ⟨rfl, ⟨nd, rfl⟩⟩) | (go_at_call 56; (with_reducible refine (impl_in.calls a0_2 0 255 true _ A6.out).mono ?_); rintro e w' ⟨rfl, ⟨nd, rfl⟩⟩) | (go_at_call 56; (with_reducible refine (impl_in.calls a0_3 0 255 true _ A8.out).mono ?_); rintro e w' ⟨rfl, ⟨nd, rfl⟩⟩) | (go_at_call 56; (with_reducible refine (impl_in.calls a0_4 0 255 true _ A10.out).mono ?_); rintro e w' ⟨rfl, ⟨nd, rfl⟩⟩) | (go_at_call 56; (with_reducible refine (impl_in.calls a0_5 0 255 true _ A12.out).mono ?_); rintro e w' ⟨rfl, ⟨nd, rfl⟩⟩))
            go_ret
            exact ⟨by first | rfl | (simp [errW_none, errW_some] <;> rfl) | (simp [*, errW_none, errW_some] <;> rfl), hbA_ HB.out⟩
          ·replace c17 := Bool.eq_false_iff.mpr c17
           subst c17
           rw [if_neg (show ¬ (false = true) by decide)] at H
           obtain rfl := Option.some.inj H
           go_enter Try.func14, Try.ntmps14
           go_wp2_with (first | ((with_reducible refine gate_dst (N := 1) rfl ?_); (try (refine gate_guard (by rfl) ?_; dsimp only)); refine box_ (N := 1) (cs := #[.int .i64 a0_0, .int .i64 a0_1, .int .i64 a0_2, .int .i64 a0_3, .int .i64 a0_4, .int .i64 a0_5, .bool true, .bool false, .slice A0_8 l0_8.length c0_8]) (t := 24) (fun gb215 hg w23 hbox hb => ?_); have BK215 := Aside0.mk (hbox); have GW215 := ge_ hg HB; have GE215 := ge_ hg HB; replace HB := (bs_ HB hb); clear hb hbox hg; have Z24 := zz9 BK215) | ((with_reducible refine gate_callee (f := 62) rfl ?_); refine goesL_ (some 5) rfl rfl Try.func62 (by kernel_rfl) rfl #[.int .i64 a0_0] rfl ar_ ?_; (with_reducible refine (impl_word.calls a0_0 true _ A2.out).mono ?_); rintro e w' ⟨rfl, ⟨nd, rfl⟩⟩; refine ⟨_, rfl, ?_⟩) | (go_at_call 62; (with_reducible refine (impl_word.calls a0_1 true _ A4.out).mono ?_); rintro e w' ⟨rfl, ⟨nd, rfl⟩⟩) | (go_at_call 56; (with_reducible refine (impl_in.calls a0_2 0 255 true _ A6.out).mono ?_); rintro e w' ⟨rfl, ⟨nd, rfl⟩⟩) | (go_at_call 56; (with_reducible refine (impl_in.calls a0_3 0 255 true _ A8.out).mono ?_); rintro e w' ⟨rfl, ⟨nd, rfl⟩⟩) | (go_at_call 56; (with_reducible refine (impl_in.calls a0_4 0 255 true _ A10.out).mono ?_); rintro e w' ⟨rfl, ⟨nd, rfl⟩⟩) | (go_at_call 56; (with_reducible refine (impl_in.calls a0_5 0 255 true _ A12.out).mono ?_); rintro e w' ⟨rfl, ⟨nd, rfl⟩⟩))
           go_ret
           exact ⟨by first | rfl | (simp [errW_none, errW_some] <;> rfl) | (simp [*, errW_none, errW_some] <;> rfl), hbA_ HB.out⟩
         ·rw [if_neg c16] at H
          have c16b0 : decide (0 < (l0_8.length : Int)) = false := decide_eq_false c16
          have c16b1 : decide (0 < l0_8.length) = false := decide_eq_false (by omega)
          clear c16
          obtain rfl := Option.some.inj H
          go_enter Try.func14, Try.ntmps14
          go_wp2_with (first | ((with_reducible refine gate_dst (N := 1) rfl ?_); (try (refine gate_guard (by rfl) ?_; dsimp only)); refine box_ (N := 1) (cs := #[.int .i64 a0_0, .int .i64 a0_1, .int .i64 a0_2, .int .i64 a0_3, .int .i64 a0_4, .int .i64 a0_5, .bool true, .bool a0_7, .slice A0_8 l0_8.length c0_8]) (t := 24) (fun gb215 hg w25 hbox hb => ?_); have BK215 := Aside0.mk (hbox); have GW215 := ge_ hg HB; have GE215 := ge_ hg HB; replace HB := (bs_ HB hb); clear hb hbox hg; have Z26 := zz9 BK215) | ((with_reducible refine gate_callee (f := 62) rfl ?_); refine goesL_ (some 5) rfl rfl Try.func62 (by kernel_rfl) rfl #[.int .i64 a0_0] rfl ar_ ?_; (with_reducible refine (impl_word.calls a0_0 true _ A2.out).mono ?_); rintro e w' ⟨rfl, ⟨nd, rfl⟩⟩; refine ⟨_, rfl, ?_⟩) | (go_at_call 62; (with_reducible refine (impl_word.calls a0_1 true _ A4.out).mono ?_); rintro e w' ⟨rfl, ⟨nd, rfl⟩⟩) | (go_at_call 56; (with_reducible refine (impl_in.calls a0_2 0 255 true _ A6.out).mono ?_); rintro e w' ⟨rfl, ⟨nd, rfl⟩⟩) | (go_at_call 56; (with_reducible refine (impl_in.calls a0_3 0 255 true _ A8.out).mono ?_); rintro e w' ⟨rfl, ⟨nd, rfl⟩⟩) | (go_at_call 56; (with_reducible refine (impl_in.calls a0_4 0 255 true _ A10.out).mono ?_); rintro e w' ⟨rfl, ⟨nd, rfl⟩⟩) | (go_at_call 56; (with_reducible refine (impl_in.calls a0_5 0 255 true _ A12.out).mono ?_); rintro e w' ⟨rfl, ⟨nd, rfl⟩⟩))
          go_ret
          exact ⟨by first | rfl | (simp [errW_none, errW_some] <;> rfl) | (simp [*, errW_none, errW_some] <;> rfl), hbA_ HB.out⟩
        ·replace c15 := Bool.eq_false_iff.mpr c15
         subst c15
         rw [if_neg (show ¬ (false = true) by decide)] at H
         by_cases c27 : a0_7 = true
         ·subst c27
          rw [if_pos rfl] at H
          by_cases c28 : a0_5 = 0
          ·rw [if_pos c28] at H
           have c28b0 : (a0_5 == 0) = true := beq_iff_eq.mpr c28
           have c28b1 : (a0_5 != 0) = false := bne_eq_false_iff_eq.mpr c28
           clear c28
           obtain rfl := Option.some.inj H
           go_enter Try.func14, Try.ntmps14
           go_wp2_with (first | ((with_reducible refine gate_dst (N := 1) rfl ?_); (try (refine gate_guard (by rfl) ?_; dsimp only)); refine box_ (N := 1) (cs := #[.int .i64 a0_0, .int .i64 a0_1, .int .i64 a0_2, .int .i64 a0_3, .int .i64 a0_4, .int .i64 a0_5, .bool false, .bool true, .slice A0_8 l0_8.length c0_8]) (t := 24) (fun gb215 hg w29 hbox hb => ?_); have BK215 := Aside0.mk (hbox); have GW215 := ge_ hg HB; have GE215 := ge_ hg HB; replace HB := (bs_ HB hb); clear hb hbox hg; have Z30 := zz9 BK215) | ((with_reducible refine gate_callee (f := 62) rfl ?_); refine goesL_ (some 5) rfl rfl Try.func62 (by kernel_rfl) rfl #[.int .i64 a0_0] rfl ar_ ?_; (with_reducible refine (impl_word.calls a0_0 true _ A2.out).mono ?_); rintro e w' ⟨rfl, ⟨nd, rfl⟩⟩; refine ⟨_, rfl, ?_⟩) | (go_at_call 62; (with_reducible refine (impl_word.calls a0_1 true _ A4.out).mono ?_); rintro e w' ⟨rfl, ⟨nd, rfl⟩⟩) | (go_at_call 56; (with_reducible refine (impl_in.calls a0_2 0 255 true _ A6.out).mono ?_); rintro e w' ⟨rfl, ⟨nd, rfl⟩⟩) | (go_at_call 56; (with_reducible refine (impl_in.calls a0_3 0 255 true _ A8.out).mono ?_); rintro e w' ⟨rfl, ⟨nd, rfl⟩⟩) | (go_at_call 56; (with_reducible refine (impl_in.calls a0_4 0 255 true _ A10.out).mono ?_); rintro e w' ⟨rfl, ⟨nd, rfl⟩⟩) | (go_at_call 56; (with_reducible refine (impl_in.calls a0_5 0 255 true _ A12.out).mono ?_); rintro e w' ⟨rfl, ⟨nd, rfl⟩⟩))
           go_ret
           exact ⟨by first | rfl | (simp [errW_none, errW_some] <;> rfl) | (simp [*, errW_none, errW_some] <;> rfl), hbA_ HB.out⟩
          ·rw [if_neg c28] at H
           have c28b0 : (a0_5 == 0) = false := beq_eq_false_iff_ne.mpr c28
           have c28b1 : (a0_5 != 0) = true := bne_iff_ne.mpr c28
           obtain rfl := Option.some.inj H
           go_enter Try.func14, Try.ntmps14
           go_wp2_with (first | ((with_reducible refine gate_dst (N := 1) rfl ?_); (try (refine gate_guard (by rfl) ?_; dsimp only)); refine box_ (N := 1) (cs := #[.int .i64 a0_0, .int .i64 a0_1, .int .i64 a0_2, .int .i64 a0_3, .int .i64 a0_4, .int .i64 a0_5, .bool false, .bool true, .slice A0_8 l0_8.length c0_8]) (t := 24) (fun gb215 hg w31 hbox hb => ?_); have BK215 := Aside0.mk (hbox); have GW215 := ge_ hg HB; have GE215 := ge_ hg HB; replace HB := (bs_ HB hb); clear hb hbox hg; have Z32 := zz9 BK215) | ((with_reducible refine gate_callee (f := 62) rfl ?_); refine goesL_ (some 5) rfl rfl Try.func62 (by kernel_rfl) rfl #[.int .i64 a0_0] rfl ar_ ?_; (with_reducible refine (impl_word.calls a0_0 true _ A2.out).mono ?_); rintro e w' ⟨rfl, ⟨nd, rfl⟩⟩; refine ⟨_, rfl, ?_⟩) | (go_at_call 62; (with_reducible refine (impl_word.calls a0_1 true _ A4.out).mono ?_); rintro e w' ⟨rfl, ⟨nd, rfl⟩⟩) | (go_at_call 56; (with_reducible refine (impl_in.calls a0_2 0 255 true _ A6.out).mono ?_); rintro e w' ⟨rfl, ⟨nd, rfl⟩⟩) | (go_at_call 56; (with_reducible refine (impl_in.calls a0_3 0 255 true _ A8.out).mono ?_); rintro e w' ⟨rfl, ⟨nd, rfl⟩⟩) | (go_at_call 56; (with_reducible refine (impl_in.calls a0_4 0 255 true _ A10.out).mono ?_); rintro e w' ⟨rfl, ⟨nd, rfl⟩⟩) | (go_at_call 56; (with_reducible refine (impl_in.calls a0_5 0 255 true _ A12.out).mono ?_); rintro e w' ⟨rfl, ⟨nd, rfl⟩⟩))
           go_ret
           exact ⟨by first | rfl | (simp [errW_none, errW_some] <;> rfl) | (simp [*, errW_none, errW_some] <;> rfl), hbA_ HB.out⟩
         ·replace c27 := Bool.eq_false_iff.mpr c27
          subst c27
          rw [if_neg (show ¬ (false = true) by decide)] at H
          obtain rfl := Option.some.inj H
          go_enter Try.func14, Try.ntmps14
          go_wp2_with (first | ((with_reducible refine gate_dst (N := 1) rfl ?_); (try (refine gate_guard (by rfl) ?_; dsimp only)); refine box_ (N := 1) (cs := #[.int .i64 a0_0, .int .i64 a0_1, .int .i64 a0_2, .int .i64 a0_3, .int .i64 a0_4, .int .i64 a0_5, .bool false, .bool false, .slice A0_8 l0_8.length c0_8]) (t := 24) (fun gb215 hg w33 hbox hb => ?_); have BK215 := Aside0.mk (hbox); have GW215 := ge_ hg HB; have GE215 := ge_ hg HB; replace HB := (bs_ HB hb); clear hb hbox hg; have Z34 := zz9 BK215) | ((with_reducible refine gate_callee (f := 62) rfl ?_); refine goesL_ (some 5) rfl rfl Try.func62 (by kernel_rfl) rfl #[.int .i64 a0_0] rfl ar_ ?_; (with_reducible refine (impl_word.calls a0_0 true _ A2.out).mono ?_); rintro e w' ⟨rfl, ⟨nd, rfl⟩⟩; refine ⟨_, rfl, ?_⟩) | (go_at_call 62; (with_reducible refine (impl_word.calls a0_1 true _ A4.out).mono ?_); rintro e w' ⟨rfl, ⟨nd, rfl⟩⟩) | (go_at_call 56; (with_reducible refine (impl_in.calls a0_2 0 255 true _ A6.out).mono ?_); rintro e w' ⟨rfl, ⟨nd, rfl⟩⟩) | (go_at_call 56; (with_reducible refine (impl_in.calls a0_3 0 255 true _ A8.out).mono ?_); rintro e w' ⟨rfl, ⟨nd, rfl⟩⟩) | (go_at_call 56; (with_reducible refine (impl_in.calls a0_4 0 255 true _ A10.out).mono ?_); rintro e w' ⟨rfl, ⟨nd, rfl⟩⟩) | (go_at_call 56; (with_reducible refine (impl_in.calls a0_5 0 255 true _ A12.out).mono ?_); rintro e w' ⟨rfl, ⟨nd, rfl⟩⟩))
          go_ret
          exact ⟨by first | rfl | (simp [errW_none, errW_some] <;> rfl) | (simp [*, errW_none, errW_some] <;> rfl), hbA_ HB.out⟩
       ·rw [if_neg c14] at H
        have c14b0 : decide ((l0_8.length : Int) ≤ 48) = false := decide_eq_false c14
        have c14b1 : decide (l0_8.length ≤ 48) = false := decide_eq_false (by omega)
        clear c14
        obtain rfl := Option.some.inj H
        go_enter Try.func14, Try.ntmps14
        go_wp2_with (first | ((with_reducible refine gate_dst (N := 1) rfl ?_); (try (refine gate_guard (by rfl) ?_; dsimp only)); refine box_ (N := 1) (cs := #[.int .i64 a0_0, .int .i64 a0_1, .int .i64 a0_2, .int .i64 a0_3, .int .i64 a0_4, .int .i64 a0_5, .bool a0_6, .bool a0_7, .slice A0_8 l0_8.length c0_8]) (t := 24) (fun gb215 hg w35 hbox hb => ?_); have BK215 := Aside0.mk (hbox); have GW215 := ge_ hg HB; have GE215 := ge_ hg HB; replace HB := (bs_ HB hb); clear hb hbox hg; have Z36 := zz9 BK215) | ((with_reducible refine gate_callee (f := 62) rfl ?_); refine goesL_ (some 5) rfl rfl Try.func62 (by kernel_rfl) rfl #[.int .i64 a0_0] rfl ar_ ?_; (with_reducible refine (impl_word.calls a0_0 true _ A2.out).mono ?_); rintro e w' ⟨rfl, ⟨nd, rfl⟩⟩; refine ⟨_, rfl, ?_⟩) | (go_at_call 62; (with_reducible refine (impl_word.calls a0_1 true _ A4.out).mono ?_); rintro e w' ⟨rfl, ⟨nd, rfl⟩⟩) | (go_at_call 56; (with_reducible refine (impl_in.calls a0_2 0 255 true _ A6.out).mono ?_); rintro e w' ⟨rfl, ⟨nd, rfl⟩⟩) | (go_at_call 56; (with_reducible refine (impl_in.calls a0_3 0 255 true _ A8.out).mono ?_); rintro e w' ⟨rfl, ⟨nd, rfl⟩⟩) | (go_at_call 56; (with_reducible refine (impl_in.calls a0_4 0 255 true _ A10.out).mono ?_); rintro e w' ⟨rfl, ⟨nd, rfl⟩⟩) | (go_at_call 56; (with_reducible refine (impl_in.calls a0_5 0 255 true _ A12.out).mono ?_); rintro e w' ⟨rfl, ⟨nd, rfl⟩⟩))
        go_ret
        exact ⟨by first | rfl | (simp [errW_none, errW_some] <;> rfl) | (simp [*, errW_none, errW_some] <;> rfl), hbA_ HB.out⟩
      ·replace c13 := Bool.eq_false_iff.mpr c13
       subst c13
       rw [if_neg (show ¬ (false = true) by decide)] at H
       obtain rfl := Option.some.inj H
       go_enter Try.func14, Try.ntmps14
       go_wp2_with (first | ((with_reducible refine gate_dst (N := 1) rfl ?_); (try (refine gate_guard (by rfl) ?_; dsimp only)); refine box_ (N := 1) (cs := #[.int .i64 a0_0, .int .i64 a0_1, .int .i64 a0_2, .int .i64 a0_3, .int .i64 a0_4, .int .i64 a0_5, .bool a0_6, .bool a0_7, .slice A0_8 l0_8.length c0_8]) (t := 24) (fun gb215 hg w37 hbox hb => ?_); have BK215 := Aside0.mk (hbox); have GW215 := ge_ hg HB; have GE215 := ge_ hg HB; replace HB := (bs_ HB hb); clear hb hbox hg; have Z38 := zz9 BK215) | ((with_reducible refine gate_callee (f := 62) rfl ?_); refine goesL_ (some 5) rfl rfl Try.func62 (by kernel_rfl) rfl #[.int .i64 a0_0] rfl ar_ ?_; (with_reducible refine (impl_word.calls a0_0 true _ A2.out).mono ?_); rintro e w' ⟨rfl, ⟨nd, rfl⟩⟩; refine ⟨_, rfl, ?_⟩) | (go_at_call 62; (with_reducible refine (impl_word.calls a0_1 true _ A4.out).mono ?_); rintro e w' ⟨rfl, ⟨nd, rfl⟩⟩) | (go_at_call 56; (with_reducible refine (impl_in.calls a0_2 0 255 true _ A6.out).mono ?_); rintro e w' ⟨rfl, ⟨nd, rfl⟩⟩) | (go_at_call 56; (with_reducible refine (impl_in.calls a0_3 0 255 true _ A8.out).mono ?_); rintro e w' ⟨rfl, ⟨nd, rfl⟩⟩) | (go_at_call 56; (with_reducible refine (impl_in.calls a0_4 0 255 true _ A10.out).mono ?_); rintro e w' ⟨rfl, ⟨nd, rfl⟩⟩) | (go_at_call 56; (with_reducible refine (impl_in.calls a0_5 0 255 false _ A12.out).mono ?_); rintro e w' ⟨rfl, ⟨nd, rfl⟩⟩))
       go_ret
       exact ⟨by first | rfl | (simp [errW_none, errW_some] <;> rfl) | (simp [*, errW_none, errW_some] <;> rfl), hbA_ HB.out⟩
     ·replace c11 := Bool.eq_false_iff.mpr c11
      subst c11
      rw [if_neg (show ¬ (false = true) by decide)] at H
      obtain rfl := Option.some.inj H
      go_enter Try.func14, Try.ntmps14
      go_wp2_with (first | ((with_reducible refine gate_dst (N := 1) rfl ?_); (try (refine gate_guard (by rfl) ?_; dsimp only)); refine box_ (N := 1) (cs := #[.int .i64 a0_0, .int .i64 a0_1, .int .i64 a0_2, .int .i64 a0_3, .int .i64 a0_4, .int .i64 a0_5, .bool a0_6, .bool a0_7, .slice A0_8 l0_8.length c0_8]) (t := 24) (fun gb215 hg w39 hbox hb => ?_); have BK215 := Aside0.mk (hbox); have GW215 := ge_ hg HB; have GE215 := ge_ hg HB; replace HB := (bs_ HB hb); clear hb hbox hg; have Z40 := zz9 BK215) | ((with_reducible refine gate_callee (f := 62) rfl ?_); refine goesL_ (some 5) rfl rfl Try.func62 (by kernel_rfl) rfl #[.int .i64 a0_0] rfl ar_ ?_; (with_reducible refine (impl_word.calls a0_0 true _ A2.out).mono ?_); rintro e w' ⟨rfl, ⟨nd, rfl⟩⟩; refine ⟨_, rfl, ?_⟩) | (go_at_call 62; (with_reducible refine (impl_word.calls a0_1 true _ A4.out).mono ?_); rintro e w' ⟨rfl, ⟨nd, rfl⟩⟩) | (go_at_call 56; (with_reducible refine (impl_in.calls a0_2 0 255 true _ A6.out).mono ?_); rintro e w' ⟨rfl, ⟨nd, rfl⟩⟩) | (go_at_call 56; (with_reducible refine (impl_in.calls a0_3 0 255 true _ A8.out).mono ?_); rintro e w' ⟨rfl, ⟨nd, rfl⟩⟩) | (go_at_call 56; (with_reducible refine (impl_in.calls a0_4 0 255 false _ A10.out).mono ?_); rintro e w' ⟨rfl, ⟨nd, rfl⟩⟩))
      go_ret
      exact ⟨by first | rfl | (simp [errW_none, errW_some] <;> rfl) | (simp [*, errW_none, errW_some] <;> rfl), hbA_ HB.out⟩
    ·replace c9 := Bool.eq_false_iff.mpr c9
     subst c9
     rw [if_neg (show ¬ (false = true) by decide)] at H
     obtain rfl := Option.some.inj H
     go_enter Try.func14, Try.ntmps14
     go_wp2_with (first | ((with_reducible refine gate_dst (N := 1) rfl ?_); (try (refine gate_guard (by rfl) ?_; dsimp only)); refine box_ (N := 1) (cs := #[.int .i64 a0_0, .int .i64 a0_1, .int .i64 a0_2, .int .i64 a0_3, .int .i64 a0_4, .int .i64 a0_5, .bool a0_6, .bool a0_7, .slice A0_8 l0_8.length c0_8]) (t := 24) (fun gb215 hg w41 hbox hb => ?_); have BK215 := Aside0.mk (hbox); have GW215 := ge_ hg HB; have GE215 := ge_ hg HB; replace HB := (bs_ HB hb); clear hb hbox hg; have Z42 := zz9 BK215) | ((with_reducible refine gate_callee (f := 62) rfl ?_); refine goesL_ (some 5) rfl rfl Try.func62 (by kernel_rfl) rfl #[.int .i64 a0_0] rfl ar_ ?_; (with_reducible refine (impl_word.calls a0_0 true _ A2.out).mono ?_); rintro e w' ⟨rfl, ⟨nd, rfl⟩⟩; refine ⟨_, rfl, ?_⟩) | (go_at_call 62; (with_reducible refine (impl_word.calls a0_1 true _ A4.out).mono ?_); rintro e w' ⟨rfl, ⟨nd, rfl⟩⟩) | (go_at_call 56; (with_reducible refine (impl_in.calls a0_2 0 255 true _ A6.out).mono ?_); rintro e w' ⟨rfl, ⟨nd, rfl⟩⟩) | (go_at_call 56; (with_reducible refine (impl_in.calls a0_3 0 255 false _ A8.out).mono ?_); rintro e w' ⟨rfl, ⟨nd, rfl⟩⟩))
     go_ret
     exact ⟨by first | rfl | (simp [errW_none, errW_some] <;> rfl) | (simp [*, errW_none, errW_some] <;> rfl), hbA_ HB.out⟩
   ·replace c7 := Bool.eq_false_iff.mpr c7
    subst c7
    rw [if_neg (show ¬ (false = true) by decide)] at H
    obtain rfl := Option.some.inj H
    go_enter Try.func14, Try.ntmps14
    go_wp2_with (first | ((with_reducible refine gate_dst (N := 1) rfl ?_); (try (refine gate_guard (by rfl) ?_; dsimp only)); refine box_ (N := 1) (cs := #[.int .i64 a0_0, .int .i64 a0_1, .int .i64 a0_2, .int .i64 a0_3, .int .i64 a0_4, .int .i64 a0_5, .bool a0_6, .bool a0_7, .slice A0_8 l0_8.length c0_8]) (t := 24) (fun gb215 hg w43 hbox hb => ?_); have BK215 := Aside0.mk (hbox); have GW215 := ge_ hg HB; have GE215 := ge_ hg HB; replace HB := (bs_ HB hb); clear hb hbox hg; have Z44 := zz9 BK215) | ((with_reducible refine gate_callee (f := 62) rfl ?_); refine goesL_ (some 5) rfl rfl Try.func62 (by kernel_rfl) rfl #[.int .i64 a0_0] rfl ar_ ?_; (with_reducible refine (impl_word.calls a0_0 true _ A2.out).mono ?_); rintro e w' ⟨rfl, ⟨nd, rfl⟩⟩; refine ⟨_, rfl, ?_⟩) | (go_at_call 62; (with_reducible refine (impl_word.calls a0_1 true _ A4.out).mono ?_); rintro e w' ⟨rfl, ⟨nd, rfl⟩⟩) | (go_at_call 56; (with_reducible refine (impl_in.calls a0_2 0 255 false _ A6.out).mono ?_); rintro e w' ⟨rfl, ⟨nd, rfl⟩⟩))
    go_ret
    exact ⟨by first | rfl | (simp [errW_none, errW_some] <;> rfl) | (simp [*, errW_none, errW_some] <;> rfl), hbA_ HB.out⟩
  ·replace c5 := Bool.eq_false_iff.mpr c5
   subst c5
   rw [if_neg (show ¬ (false = true) by decide)] at H
   obtain rfl := Option.some.inj H
   go_enter Try.func14, Try.ntmps14
   go_wp2_with (first | ((with_reducible refine gate_dst (N := 1) rfl ?_); (try (refine gate_guard (by rfl) ?_; dsimp only)); refine box_ (N := 1) (cs := #[.int .i64 a0_0, .int .i64 a0_1, .int .i64 a0_2, .int .i64 a0_3, .int .i64 a0_4, .int .i64 a0_5, .bool a0_6, .bool a0_7, .slice A0_8 l0_8.length c0_8]) (t := 24) (fun gb215 hg w45 hbox hb => ?_); have BK215 := Aside0.mk (hbox); have GW215 := ge_ hg HB; have GE215 := ge_ hg HB; replace HB := (bs_ HB hb); clear hb hbox hg; have Z46 := zz9 BK215) | ((with_reducible refine gate_callee (f := 62) rfl ?_); refine goesL_ (some 5) rfl rfl Try.func62 (by kernel_rfl) rfl #[.int .i64 a0_0] rfl ar_ ?_; (with_reducible refine (impl_word.calls a0_0 true _ A2.out).mono ?_); rintro e w' ⟨rfl, ⟨nd, rfl⟩⟩; refine ⟨_, rfl, ?_⟩) | (go_at_call 62; (with_reducible refine (impl_word.calls a0_1 false _ A4.out).mono ?_); rintro e w' ⟨rfl, ⟨nd, rfl⟩⟩))
   go_ret
   exact ⟨by first | rfl | (simp [errW_none, errW_some] <;> rfl) | (simp [*, errW_none, errW_some] <;> rfl), hbA_ HB.out⟩
 ·replace c3 := Bool.eq_false_iff.mpr c3
  subst c3
  rw [if_neg (show ¬ (false = true) by decide)] at H
  obtain rfl := Option.some.inj H
  go_enter Try.func14, Try.ntmps14
  go_wp2_with (first | ((with_reducible refine gate_dst (N := 1) rfl ?_); (try (refine gate_guard (by rfl) ?_; dsimp only)); refine box_ (N := 1) (cs := #[.int .i64 a0_0, .int .i64 a0_1, .int .i64 a0_2, .int .i64 a0_3, .int .i64 a0_4, .int .i64 a0_5, .bool a0_6, .bool a0_7, .slice A0_8 l0_8.length c0_8]) (t := 24) (fun gb215 hg w47 hbox hb => ?_); have BK215 := Aside0.mk (hbox); have GW215 := ge_ hg HB; have GE215 := ge_ hg HB; replace HB := (bs_ HB hb); clear hb hbox hg; have Z48 := zz9 BK215) | ((with_reducible refine gate_callee (f := 62) rfl ?_); refine goesL_ (some 5) rfl rfl Try.func62 (by kernel_rfl) rfl #[.int .i64 a0_0] rfl ar_ ?_; (with_reducible refine (impl_word.calls a0_0 false _ A2.out).mono ?_); rintro e w' ⟨rfl, ⟨nd, rfl⟩⟩; refine ⟨_, rfl, ?_⟩))
  go_ret
  exact ⟨by first | rfl | (simp [errW_none, errW_some] <;> rfl) | (simp [*, errW_none, errW_some] <;> rfl), hbA_ HB.out⟩
theorem slices_Clip_byte_byte.calls (A0 : Option Addr) (c0 n0 : Nat) (w : World) (hc : n0 ≤ c0) : Calls Try.prog 102 #[.slice A0 n0 c0] w fun e w' => e = .returned (.slice A0 n0 n0) ∧ w' = w := by
  go_enter Try.func102, Try.ntmps102
  go_wp2
  go_ret
  exact ⟨rfl, rfl⟩
def impl_clone_byte.f (l0 : List Int) : Option (List Int) := if l0.length * 1 ≤ 140737488355328 then some l0 else none
theorem impl_clone_byte.calls (A0 : Option Addr) (c0 : Nat) (l0 : List Int) (r : List Int) (w : World) (hr0 : Kd.C (Kd.int .u8) w A0 l0.length l0) (hc0 : l0.length ≤ c0) (h : impl_clone_byte.f l0 = some r) :
    Calls Try.prog 79 #[.slice A0 l0.length c0] w fun e w' => ∃ v0_ : Value, e = .returned (v0_) ∧ Kd.R (Kd.int .u8) 5 w' w.heap.size (fun _ => True) v0_ r ∧ Below w.heap.size w w' := by
  obtain ⟨hle, rfl⟩ : l0.length * 1 ≤ 140737488355328 ∧ l0 = r := by
    unfold impl_clone_byte.f at h; split at h
    · exact ⟨by assumption, Option.some.inj h⟩
    · cases h
  have hm := hr0.2.1
  have HR := Aside0.mk hr0; clear hr0 h
  by_cases h0 : l0.length = 0
  · have hb : ((l0.length : Int) == 0) = true := by simp [h0]
    have HL : Aside0 (l0 = []) := ⟨List.eq_nil_of_length_eq_zero h0⟩
    clear h0
    go_enter Try.func79, Try.ntmps79
    go_wp2
    go_ret
    refine ⟨_, rfl, ?_, Below.refl _ _⟩
    rw [HL.out]; exact Kd.R_nil _ _ _ _ _
  · have hb : ((l0.length : Int) == 0) = false := by simp; intro hh; exact h0 (by simp [hh])
    clear h0
    go_enter Try.func79, Try.ntmps79
    go_wp2_with (first
      | ((with_reducible refine gate_dst (N := 7) rfl ?_); refine Kd.R_append_rows (Kd.int .u8) (Rr := (Kd.int .u8).K w) w.heap.size rfl _ _ 22 5 (.int .u8 0) 1 rfl Try.underlying22 info5 rfl (by decide) (by decide) (.slice none 0 0) [] l0 A0 l0.length c0 (fun _ => True) (fun _ => True) rfl rfl (Kd.R_nil _ _ _ _ _) HR.out (fun x cs h => h) (fun k _ => ⟨trivial, by simp [Value.ownBlock]⟩) (fun _ _ => trivial) (Below.refl _ _) (Nat.le_refl _) (by simpa using hle) ?_; intro v1 w1 ho hb1 hg hat; rw [List.nil_append] at ho; obtain ⟨A1, c1, hv1, hc1, _⟩ := Kd.R_reads ho; have HO := Aside0.mk ho; clear ho hat hg; have HB := Aside0.mk hb1; clear hb1; subst hv1)
      | (go_at_call 102; (with_reducible refine (slices_Clip_byte_byte.calls _ _ _ _ hc1).mono ?_); rintro e w' ⟨rfl, rfl⟩))
    go_ret
    exact ⟨_, rfl, Kd.R_clip HO.out (Nat.le_refl _) hc1, HB.out⟩
def impl_Packet_copy.f (a0_0 : Int) (a0_1 : Int) (a0_2 : Int) (a0_3 : Int) (a0_4 : Int) (a0_5 : Int) (a0_6 : Bool) (a0_7 : Bool) (l0_8 : List Int) : Option (Int × Int × Int × Int × Int × Int × Bool × Bool × List Int) := (impl_clone_byte.f l0_8).bind fun t224 => (some (a0_0, a0_1, a0_2, a0_3, a0_4, a0_5, a0_6, a0_7, t224))
set_option maxHeartbeats 8000000 in
set_option maxRecDepth 100000 in
theorem impl_Packet_copy.calls (a0_0 : Int) (a0_1 : Int) (a0_2 : Int) (a0_3 : Int) (a0_4 : Int) (a0_5 : Int) (a0_6 : Bool) (a0_7 : Bool) (A0_8 : Option Addr) (c0_8 : Nat) (l0_8 : List Int) (r1 : Int) (r2 : Int) (r3 : Int) (r4 : Int) (r5 : Int) (r6 : Int) (r7 : Bool) (r8 : Bool) (r9 : List Int) (w : World) (hr0_8 : Kd.C (Kd.int .u8) w A0_8 l0_8.length l0_8) (hc0_8 : l0_8.length ≤ c0_8) (h : impl_Packet_copy.f a0_0 a0_1 a0_2 a0_3 a0_4 a0_5 a0_6 a0_7 l0_8 = some (r1, r2, r3, r4, r5, r6, r7, r8, r9)) :
  Calls Try.prog 91 #[.agg #[.int .i64 a0_0, .int .i64 a0_1, .int .i64 a0_2, .int .i64 a0_3, .int .i64 a0_4, .int .i64 a0_5, .bool a0_6, .bool a0_7, .slice A0_8 l0_8.length c0_8]] w fun e w' => ∃ v8_ : Value, e = .returned (.agg #[.int .i64 r1, .int .i64 r2, .int .i64 r3, .int .i64 r4, .int .i64 r5, .int .i64 r6, .bool r7, .bool r8, v8_]) ∧ Kd.R (Kd.int .u8) 5 w' w.heap.size (fun _ => True) v8_ r9 ∧ Below w.heap.size w w' := by
 have hu24 := Try.underlying24; have HR0_8 := Aside0.mk hr0_8; have HC0_8 := Aside0.mk hc0_8; clear hr0_8 hc0_8
 have HB := Aside0.mk (Below.refl w.heap.size w)
 have H : ((impl_clone_byte.f l0_8).bind fun t224 => (some (a0_0, a0_1, a0_2, a0_3, a0_4, a0_5, a0_6, a0_7, t224))) = some (r1, r2, r3, r4, r5, r6, r7, r8, r9) := h
 clear h
 replace H := Option.bind_eq_some_iff.mp H
 obtain ⟨t224, A20, H⟩ := H
 (try dsimp only at H)
 have A2 := Aside0.mk A20; clear A20
 simp only [Option.some.injEq, Prod.mk.injEq] at H
 obtain ⟨rfl, rfl, rfl, rfl, rfl, rfl, rfl, rfl, rfl⟩ := H
 go_enter Try.func91, Try.ntmps91
 go_wp2_with (first | ((with_reducible refine gate_dst (N := 1) rfl ?_); refine box_ (N := 1) (cs := #[.int .i64 a0_0, .int .i64 a0_1, .int .i64 a0_2, .int .i64 a0_3, .int .i64 a0_4, .int .i64 a0_5, .bool a0_6, .bool a0_7, .slice A0_8 l0_8.length c0_8]) (t := 24) (fun gb222 hg w3 hbox hb => ?_); have BK222 := Aside0.mk (hbox); have GW222 := ge_ hg HB; have GE222 := ge_ hg HB; replace HB := (bs_ HB hb); clear hb hbox hg) | ((with_reducible refine gate_dst (N := 2) rfl ?_); refine box_ (N := 2) (cs := #[.int .i64 0, .int .i64 0, .int .i64 0, .int .i64 0, .int .i64 0, .int .i64 0, .bool false, .bool false, .slice none 0 0]) (t := 24) (fun gb223 hg w4 hbox hb => ?_); have BK223 := Aside0.mk (hbox); have GW223 := ge_ hg HB; have GE223 := ge_ hg HB; replace HB := (bs_ HB hb); have NB222_223 := nl_ hg BK222; have NB223_222 := ng_ hg BK222; replace BK222 := (bbA_ BK222 hb); clear hb hbox hg; have hnb5 := NB222_223.out; have hnc5 := NB223_222.out; have Z6 := zz9 BK222) | ((with_reducible refine gate_callee (f := 79) rfl ?_); refine goesL_ (some 5) rfl rfl Try.func79 (by kernel_rfl) rfl #[.slice A0_8 l0_8.length c0_8] rfl ar_ ?_; (with_reducible refine (impl_clone_byte.calls _ _ l0_8 t224 _ ?side1 ?side2 A2.out).mono ?_); (case side1 => exact kC_ (Kd.C_below HR0_8.out HB.out)); (case side2 => exact HC0_8.out); rintro e w7 ⟨v225, rfl, ho0, hb⟩; refine ⟨_, rfl, ?_⟩; have HO226 := Aside0.mk (Kd.R_lower ho0 (below_size (hbA_ HB.out))); replace BK222 := (bbA_ BK222 hb); replace BK223 := (bbA_ BK223 hb); replace HB := (bs_ HB hb); (try clear hb); (try clear hb2); (try clear hk); (try clear hi); (try clear ho0); obtain ⟨Ao8, co8, eo8⟩ := Kd.R_slice HO226.out; subst eo8; have Z9 := zz9 BK222; have Z10 := zz9 BK223))
 refine bodyPost_ret (results_cell_row rfl _ _ gb223 24 #[.int .i64 a0_0, .int .i64 a0_1, .int .i64 a0_2, .int .i64 a0_3, .int .i64 a0_4, .int .i64 a0_5, .bool a0_6, .bool a0_7, .slice Ao8 t224.length co8] (0, 0) _ rfl (by refine kb_ ?_; refine pz9 (cs := #[.int .i64 0, .int .i64 0, .int .i64 0, .int .i64 0, .int .i64 0, .int .i64 0, .bool false, .bool false, .slice none 0 0]) ?_; exact kf_ BK223.out) Try.underlying24 rfl (by kernel_rfl)) rfl ?_
 exact ⟨_, by first | rfl | (simp [errW_none, errW_some] <;> rfl) | (simp [*, errW_none, errW_some] <;> rfl), by refine kR_ ?_; exact rfm_ ((Kd.R_far (p := ⟨gb222, 8, none⟩) (Kd.R_types (Kd.R_types HO226.out BK222.out (by decide)) BK223.out (by decide)) (fun _ hk => hk.1.2) (.slice Ao8 t224.length co8))) (fun _ hk => trivial), hbA_ HB.out⟩
-- NOT PRINTED: function 92 (slices_Chunk_byte_byte)
theorem impl_Packet.calls (A0 : Option Addr) (c0 n0 : Nat) (w : World) (hc : n0 ≤ c0) : Calls Try.prog 93 #[.slice A0 n0 c0] w fun e w' => e = .returned (.slice A0 n0 n0) ∧ w' = w := by
  go_enter Try.func93, Try.ntmps93
  go_wp2
  go_ret
  exact ⟨rfl, rfl⟩
end Go.Proofs.Ytbhofhdmbbipgaa.PFnPacketCut
