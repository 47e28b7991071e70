/- Printed by wip/xp/xprint.sh out of the translation, for this claim: what each function answers, as a plain function, and that the machine does just that. No condition. -/
import Derived.Test.YtbhofhdmbbipgaaProg
import Derived.Below
import Derived.Deep.Draws
import Derived.Deep.AppendLies
import Derived.Maps.AppendAt
import Derived.OwnWalk
import Derived.Laws.BytesArg
import Derived.Laws.MakeOwn
import Derived.Laws.OwnMore
import Derived.Deep.OwnRows
import Derived.Tactics
import Derived.Lib.ConvBytes
import Derived.Laws.Slices
import Derived.WalkKit
import Derived.KernelRfl
import Derived.RowKit3
import Derived.Deep.LoopGhost
import Derived.Deep.QuietTactic
import Derived.BigQuiet
import Derived.WideLaws
import Derived.Deep.DeepCutAuto
import Derived.Deep.CutBlock
import Derived.Deep.RegionHeld3
import Derived.Laws.Rows
import Derived.Lib.AppendStr
import Derived.ArgAppend
import Derived.Laws.IdiomCopy
import Derived.OrdersHeld
import Derived.Laws.BitsLemmas
import Derived.RowKit
import Derived.RangeFuncBox
import Derived.RangeFuncLeaves
import Derived.RangeFuncNested
import Derived.RangeFuncBound
import Derived.RangeFuncCalls
import Derived.RangeFuncWrites
import Derived.OwnWalkIn
import Derived.TacticsInMore
import Derived.LoopNIn
import Derived.LoopIn
import Derived.Shelf.Spec.SlicesInsert
import Derived.Laws.CopyRow
import Derived.Test.YtbhofhdmbbipgaaWWords
import Derived.Test.YtbhofhdmbbipgaaWLast
import Derived.Test.YtbhofhdmbbipgaaWTab
import Derived.Test.YtbhofhdmbbipgaaWFour
import Derived.Test.YtbhofhdmbbipgaaWQPut
import Derived.Test.YtbhofhdmbbipgaaWApart
import Derived.Test.YtbhofhdmbbipgaaWArr
import Derived.Test.YtbhofhdmbbipgaaWZeros
import Derived.Test.YtbhofhdmbbipgaaWFoot
import Derived.Test.YtbhofhdmbbipgaaWKept
import Derived.Test.YtbhofhdmbbipgaaWShare
import Derived.Test.YtbhofhdmbbipgaaWN
import Derived.Test.YtbhofhdmbbipgaaWFootNe
import Derived.Test.YtbhofhdmbbipgaaWAt
import Derived.Test.YtbhofhdmbbipgaaWEqStruct
import Derived.Test.YtbhofhdmbbipgaaWRepsOne
import Derived.Test.YtbhofhdmbbipgaaWInv
import Derived.Test.YtbhofhdmbbipgaaWInvWords
import Derived.Test.YtbhofhdmbbipgaaWGuard
import Derived.Test.YtbhofhdmbbipgaaWNEv
import Derived.Test.YtbhofhdmbbipgaaWMore
import Derived.Test.YtbhofhdmbbipgaaWClip
import Derived.Test.YtbhofhdmbbipgaaWCarry
import Derived.Test.YtbhofhdmbbipgaaWMapSet
import Derived.Test.YtbhofhdmbbipgaaWDel
import Derived.Test.YtbhofhdmbbipgaaWMark
namespace Go.Proofs.Ytbhofhdmbbipgaa.PFnEarHear
open Go.RowKit Go.Proofs.YtbhofhdmbbipgaaW.PrintWords Go.Proofs.YtbhofhdmbbipgaaW.PrintLast Go.Proofs.YtbhofhdmbbipgaaW.PrintMore
attribute [local go_sem] max2_int min2_int max_two min_two max_three min_three max_four min_four   -- for this text's walks alone
set_option linter.unusedVariables false
set_option linter.unusedSimpArgs false
def errW : Option Int → Value
  | none => .nilIface
  | some c => .iface 0 (.int .i64 c)
theorem errW_none : errW none = .nilIface := rfl
theorem errW_some (c : Int) : errW (some c) = .iface 0 (.int .i64 c) := rfl
theorem info5 : (Try.prog.info? 5).map (fun i => (i.zero, i.size, i.bytes)) = some (some (.int .u8 0), 1, 1) := by kernel_rfl
theorem info96 : (Try.prog.info? 96).map (fun i => (i.zero, i.size, i.bytes)) = some (some (.agg #[(.int .i64 0), (.int .u8 0)]), 2, 16) := by kernel_rfl
-- the values' own types
structure S96 where
  f0 : Int
  f1 : Int
def z96 : S96 := ⟨(0 : Int), (0 : Int)⟩
def k96 : Kd S96 := Kd.iso (Kd.pair (Kd.int .i64) (Kd.int .u8)) (fun x : S96 => (x.f0, x.f1))
theorem k96_open {w : World} {x : S96} {cs : List Value} (h : k96.K w x cs) : cs = [.int .i64 x.f0, .int .u8 x.f1] := by
  obtain ⟨_, _, rfl, rfl, rfl⟩ := h
  exact rfl
theorem k96_mkM (w : World) (base : Nat) (ok : Nat → Prop) (x : S96)  : k96.M w base ok x [.int .i64 x.f0, .int .u8 x.f1] := ⟨[.int .i64 x.f0], [.int .u8 x.f1], rfl, rfl, rfl⟩
def rd_T96 (xs : List S96) (i : Int) : S96 := xs.getD i.toNat z96
theorem at_T96 {w : World} {A : Option Addr} {n : Nat} {xs : List S96} (h : Kd.C k96 w A n xs) (i : Int) (h0 : 0 ≤ i) (h1 : i < n) : ∃ ad , A = some ad ∧ w.cell? (ad.add (i.toNat * 2)) = some (.int .i64 (rd_T96 xs i).f0) ∧ w.cell? ⟨(ad.add (i.toNat * 2)).block, (ad.add (i.toNat * 2)).off + 1, none⟩ = some (.int .u8 (rd_T96 xs i).f1) := by
  obtain ⟨ad, c, e, _, hK, hc0⟩ := Kd.C_get h z96 i h0 h1
  have hc : ∀ j u, c[j]? = some u → w.cell? (ad.add (i.toNat * 2 + j)) = some u := hc0
  obtain rfl := k96_open hK
  exact ⟨ad, e, hc 0 _ rfl, by rw [← add_field _ _ 1 (by omega)]; exact hc 1 _ rfl⟩
end Go.Proofs.Ytbhofhdmbbipgaa.PFnEarHear
