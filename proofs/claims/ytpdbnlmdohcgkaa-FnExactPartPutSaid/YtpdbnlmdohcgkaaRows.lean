/-
  No cell of these rows narrows 'for every input' (looked for: loops, veiled, ifaces, maps, wideKeys, modest, calm, conditions, laid).
  DERIVED. THE GIVEN ROWS OF THIS SEAT. 6 by the template 'for every input the law returns true; each argument reads behind the call as it read before'; 0 by the template 'total and deterministic' (their statements: YtpdbnlmdohcgkaaTotals.lean).
  GIVEN WITH THE SEED: the statements are not yours to turn. If you find one false, say at which input.
  Laid BY PROGRAM, IN A SANDBOX (cutbox-rows.mjs): the forced cells as the released guide's own fill.sh prints them over the translation 4be34877a472aff4… (all of the seat's roots in one cut). By AI agents, Wed Nov 11 2026. No macro, syntax, notation, axiom, sorry.
-/
import Derived.Test.YtpdbnlmdohcgkaaChecked
import GoSem.Claim
import GoSem.ClaimJoined
import GoSem.ClaimMapViews
import Derived.JoinedTies
import Derived.KernelRfl
namespace Go.Proofs.Ytpdbnlmdohcgkaa
/- THE CELL 'sum', in the pinned program and in every row, IS THE sha256 OF THE DUMP (.gsa) THAT YtpdbnlmdohcgkaaProg.lean LOADS. Nothing in Lean hashes anything: it is a label: what it is worth is what the hold of that sum in a sandbox is worth. -/
noncomputable def Try.pinned : Pinned := { name := "ytpdbnlmdohcgkaa", sum := "4be34877a472aff4295bf4ce45c3c3c730d3eef6089cb95ea3b7229607be9957", checked := Try.checked }
namespace Rows
def none {H : Type} : Left H := { results := [], args := [] }

/-- 'laws.FnExactPartPut': WHATEVER THE INPUT: true; the input reads as it did. -/
def fnExactPartPutSpec : ChangeSpec := { name := "fnExactPartPut", fn := fun _ => fun
  | [d1, d2] => { results := [.lit (.bool true)], args := [d1, d2] }
  | _ => none }
def fnExactPartPutRow : OpenClaim := { program := "ytpdbnlmdohcgkaa", sum := "4be34877a472aff4295bf4ce45c3c3c730d3eef6089cb95ea3b7229607be9957", func := "loop.example/netstack/laws.FnExactPartPut", spec := "fnExactPartPut", inPlace := ["slices.overlaps[loop.example/netstack/impl.Packet]"], unfollowed := true, recurses := true, apart := false }
def FnExactPartPutSaid : Prop := fnExactPartPutRow.holds Try.pinned (OpenSpec.ofChange fnExactPartPutSpec)

/-- ITS FALSE NEIGHBOUR: 'it returns false'. Refute it at one input. -/
def fnExactPartPutWrong : ChangeSpec := { name := "fnExactPartPut", fn := fun _ => fun
  | [d1, d2] => { results := [.lit (.bool false)], args := [d1, d2] }
  | _ => none }
def FnExactPartPutWrongFalsely : Prop := fnExactPartPutRow.holds Try.pinned (OpenSpec.ofChange fnExactPartPutWrong)

/-- 'laws.FnPartPut': WHATEVER THE INPUT: true; the input reads as it did. -/
def fnPartPutSpec : ChangeSpec := { name := "fnPartPut", fn := fun _ => fun
  | [d] => { results := [.lit (.bool true)], args := [d] }
  | _ => none }
def fnPartPutRow : OpenClaim := { program := "ytpdbnlmdohcgkaa", sum := "4be34877a472aff4295bf4ce45c3c3c730d3eef6089cb95ea3b7229607be9957", func := "loop.example/netstack/laws.FnPartPut", spec := "fnPartPut", inPlace := ["slices.overlaps[loop.example/netstack/impl.Packet]"], unfollowed := true, recurses := true, apart := false }
def FnPartPutSaid : Prop := fnPartPutRow.holds Try.pinned (OpenSpec.ofChange fnPartPutSpec)

/-- ITS FALSE NEIGHBOUR: 'it returns false'. Refute it at one input. -/
def fnPartPutWrong : ChangeSpec := { name := "fnPartPut", fn := fun _ => fun
  | [d] => { results := [.lit (.bool false)], args := [d] }
  | _ => none }
def FnPartPutWrongFalsely : Prop := fnPartPutRow.holds Try.pinned (OpenSpec.ofChange fnPartPutWrong)

/-- 'laws.FnPartsShuffled': WHATEVER THE INPUT: true; the input reads as it did. -/
def fnPartsShuffledSpec : ChangeSpec := { name := "fnPartsShuffled", fn := fun _ => fun
  | [d] => { results := [.lit (.bool true)], args := [d] }
  | _ => none }
def fnPartsShuffledRow : OpenClaim := { program := "ytpdbnlmdohcgkaa", sum := "4be34877a472aff4295bf4ce45c3c3c730d3eef6089cb95ea3b7229607be9957", func := "loop.example/netstack/laws.FnPartsShuffled", spec := "fnPartsShuffled", inPlace := ["slices.overlaps[loop.example/netstack/impl.Packet]"], unfollowed := true, recurses := true, apart := false }
def FnPartsShuffledSaid : Prop := fnPartsShuffledRow.holds Try.pinned (OpenSpec.ofChange fnPartsShuffledSpec)

/-- ITS FALSE NEIGHBOUR: 'it returns false'. Refute it at one input. -/
def fnPartsShuffledWrong : ChangeSpec := { name := "fnPartsShuffled", fn := fun _ => fun
  | [d] => { results := [.lit (.bool false)], args := [d] }
  | _ => none }
def FnPartsShuffledWrongFalsely : Prop := fnPartsShuffledRow.holds Try.pinned (OpenSpec.ofChange fnPartsShuffledWrong)

/-- 'laws.FnWholePieces': WHATEVER THE INPUT: true; the input reads as it did. -/
def fnWholePiecesSpec : ChangeSpec := { name := "fnWholePieces", fn := fun _ => fun
  | [d] => { results := [.lit (.bool true)], args := [d] }
  | _ => none }
def fnWholePiecesRow : OpenClaim := { program := "ytpdbnlmdohcgkaa", sum := "4be34877a472aff4295bf4ce45c3c3c730d3eef6089cb95ea3b7229607be9957", func := "loop.example/netstack/laws.FnWholePieces", spec := "fnWholePieces", inPlace := ["slices.overlaps[loop.example/netstack/impl.Packet]"], unfollowed := true, recurses := true, apart := false }
def FnWholePiecesSaid : Prop := fnWholePiecesRow.holds Try.pinned (OpenSpec.ofChange fnWholePiecesSpec)

/-- ITS FALSE NEIGHBOUR: 'it returns false'. Refute it at one input. -/
def fnWholePiecesWrong : ChangeSpec := { name := "fnWholePieces", fn := fun _ => fun
  | [d] => { results := [.lit (.bool false)], args := [d] }
  | _ => none }
def FnWholePiecesWrongFalsely : Prop := fnWholePiecesRow.holds Try.pinned (OpenSpec.ofChange fnWholePiecesWrong)

/-- 'laws.FnExactPartsHear': WHATEVER THE INPUT: true; the input reads as it did. -/
def fnExactPartsHearSpec : ChangeSpec := { name := "fnExactPartsHear", fn := fun _ => fun
  | [d1, d2, d3] => { results := [.lit (.bool true)], args := [d1, d2, d3] }
  | _ => none }
def fnExactPartsHearRow : OpenClaim := { program := "ytpdbnlmdohcgkaa", sum := "4be34877a472aff4295bf4ce45c3c3c730d3eef6089cb95ea3b7229607be9957", func := "loop.example/netstack/laws.FnExactPartsHear", spec := "fnExactPartsHear", inPlace := ["slices.overlaps[loop.example/netstack/impl.Packet]"], unfollowed := true, recurses := true, apart := false }
def FnExactPartsHearSaid : Prop := fnExactPartsHearRow.holds Try.pinned (OpenSpec.ofChange fnExactPartsHearSpec)

/-- ITS FALSE NEIGHBOUR: 'it returns false'. Refute it at one input. -/
def fnExactPartsHearWrong : ChangeSpec := { name := "fnExactPartsHear", fn := fun _ => fun
  | [d1, d2, d3] => { results := [.lit (.bool false)], args := [d1, d2, d3] }
  | _ => none }
def FnExactPartsHearWrongFalsely : Prop := fnExactPartsHearRow.holds Try.pinned (OpenSpec.ofChange fnExactPartsHearWrong)

/-- 'laws.FnPartsHear': WHATEVER THE INPUT: true; the input reads as it did. -/
def fnPartsHearSpec : ChangeSpec := { name := "fnPartsHear", fn := fun _ => fun
  | [d] => { results := [.lit (.bool true)], args := [d] }
  | _ => none }
def fnPartsHearRow : OpenClaim := { program := "ytpdbnlmdohcgkaa", sum := "4be34877a472aff4295bf4ce45c3c3c730d3eef6089cb95ea3b7229607be9957", func := "loop.example/netstack/laws.FnPartsHear", spec := "fnPartsHear", inPlace := ["slices.overlaps[loop.example/netstack/impl.Packet]"], unfollowed := true, recurses := true, apart := false }
def FnPartsHearSaid : Prop := fnPartsHearRow.holds Try.pinned (OpenSpec.ofChange fnPartsHearSpec)

/-- ITS FALSE NEIGHBOUR: 'it returns false'. Refute it at one input. -/
def fnPartsHearWrong : ChangeSpec := { name := "fnPartsHear", fn := fun _ => fun
  | [d] => { results := [.lit (.bool false)], args := [d] }
  | _ => none }
def FnPartsHearWrongFalsely : Prop := fnPartsHearRow.holds Try.pinned (OpenSpec.ofChange fnPartsHearWrong)

/- THE SECOND FORM. 'bulk': how many values and letters a reading holds, each counted each time it is reached (what is shared counts as often as it is met; a slice's spare places count too). A statement '..UptoSaid' is the law's where the arguments, and the package variables that the reading takes, are together of bulk at most 1048576: NARROWER than '..Said'. Prove '..Said' where nothing that the law and all that it calls make is longer than what came in: it says more and counts as full. Else prove '..UptoSaid'. A law counts once. -/
mutual
def uptoBulk {H : Type} : DataW H → Nat
  | .lit (.string bytes) => bytes.length + 1
  | .lit _ => 1
  | .nil => 1
  | .ptr d => uptoBulk d + 1
  | .slice elems spare => uptoBulkAll elems + uptoBulkAll spare + 1
  | .agg parts => uptoBulkAll parts + 1
  | .iface _ d => uptoBulk d + 1
  | .map entries => uptoBulkEntries entries + 1
  | .held _ => 1
def uptoBulkAll {H : Type} : List (DataW H) → Nat
  | [] => 0
  | d :: r => uptoBulk d + uptoBulkAll r
def uptoBulkEntries {H : Type} : List (Lit × DataW H) → Nat
  | [] => 0
  | x :: r => uptoBulkEntry x + uptoBulkEntries r
def uptoBulkEntry {H : Type} : Lit × DataW H → Nat
  | (.string bytes, d) => bytes.length + uptoBulk d + 1
  | (_, d) => uptoBulk d + 1
 end
def uptoSmall : (H : Type) → List (DataW H) → Bool := fun _ ds => decide (uptoBulkAll ds ≤ 1048576)
def OpenSpec.upto (s : _root_.Go.ChangeSpec) : _root_.Go.OpenSpec := { _root_.Go.OpenSpec.ofChange s with cond := some uptoSmall }

/-- 'laws.FnExactPartPut', WHERE WHAT IT READS IS OF BULK AT MOST 1048576: true; the input reads as it did. -/
def fnExactPartPutUptoRow : OpenClaim := { program := "ytpdbnlmdohcgkaa", sum := "4be34877a472aff4295bf4ce45c3c3c730d3eef6089cb95ea3b7229607be9957", func := "loop.example/netstack/laws.FnExactPartPut", spec := "fnExactPartPut", inPlace := ["slices.overlaps[loop.example/netstack/impl.Packet]"], unfollowed := true, recurses := true, apart := false, narrowed := true }
def FnExactPartPutUptoSaid : Prop := fnExactPartPutUptoRow.holds Try.pinned (OpenSpec.upto fnExactPartPutSpec)

/-- 'laws.FnPartPut', WHERE WHAT IT READS IS OF BULK AT MOST 1048576: true; the input reads as it did. -/
def fnPartPutUptoRow : OpenClaim := { program := "ytpdbnlmdohcgkaa", sum := "4be34877a472aff4295bf4ce45c3c3c730d3eef6089cb95ea3b7229607be9957", func := "loop.example/netstack/laws.FnPartPut", spec := "fnPartPut", inPlace := ["slices.overlaps[loop.example/netstack/impl.Packet]"], unfollowed := true, recurses := true, apart := false, narrowed := true }
def FnPartPutUptoSaid : Prop := fnPartPutUptoRow.holds Try.pinned (OpenSpec.upto fnPartPutSpec)

/-- 'laws.FnPartsShuffled', WHERE WHAT IT READS IS OF BULK AT MOST 1048576: true; the input reads as it did. -/
def fnPartsShuffledUptoRow : OpenClaim := { program := "ytpdbnlmdohcgkaa", sum := "4be34877a472aff4295bf4ce45c3c3c730d3eef6089cb95ea3b7229607be9957", func := "loop.example/netstack/laws.FnPartsShuffled", spec := "fnPartsShuffled", inPlace := ["slices.overlaps[loop.example/netstack/impl.Packet]"], unfollowed := true, recurses := true, apart := false, narrowed := true }
def FnPartsShuffledUptoSaid : Prop := fnPartsShuffledUptoRow.holds Try.pinned (OpenSpec.upto fnPartsShuffledSpec)

/-- 'laws.FnWholePieces', WHERE WHAT IT READS IS OF BULK AT MOST 1048576: true; the input reads as it did. -/
def fnWholePiecesUptoRow : OpenClaim := { program := "ytpdbnlmdohcgkaa", sum := "4be34877a472aff4295bf4ce45c3c3c730d3eef6089cb95ea3b7229607be9957", func := "loop.example/netstack/laws.FnWholePieces", spec := "fnWholePieces", inPlace := ["slices.overlaps[loop.example/netstack/impl.Packet]"], unfollowed := true, recurses := true, apart := false, narrowed := true }
def FnWholePiecesUptoSaid : Prop := fnWholePiecesUptoRow.holds Try.pinned (OpenSpec.upto fnWholePiecesSpec)

/-- 'laws.FnExactPartsHear', WHERE WHAT IT READS IS OF BULK AT MOST 1048576: true; the input reads as it did. -/
def fnExactPartsHearUptoRow : OpenClaim := { program := "ytpdbnlmdohcgkaa", sum := "4be34877a472aff4295bf4ce45c3c3c730d3eef6089cb95ea3b7229607be9957", func := "loop.example/netstack/laws.FnExactPartsHear", spec := "fnExactPartsHear", inPlace := ["slices.overlaps[loop.example/netstack/impl.Packet]"], unfollowed := true, recurses := true, apart := false, narrowed := true }
def FnExactPartsHearUptoSaid : Prop := fnExactPartsHearUptoRow.holds Try.pinned (OpenSpec.upto fnExactPartsHearSpec)

/-- 'laws.FnPartsHear', WHERE WHAT IT READS IS OF BULK AT MOST 1048576: true; the input reads as it did. -/
def fnPartsHearUptoRow : OpenClaim := { program := "ytpdbnlmdohcgkaa", sum := "4be34877a472aff4295bf4ce45c3c3c730d3eef6089cb95ea3b7229607be9957", func := "loop.example/netstack/laws.FnPartsHear", spec := "fnPartsHear", inPlace := ["slices.overlaps[loop.example/netstack/impl.Packet]"], unfollowed := true, recurses := true, apart := false, narrowed := true }
def FnPartsHearUptoSaid : Prop := fnPartsHearUptoRow.holds Try.pinned (OpenSpec.upto fnPartsHearSpec)

end Rows
end Go.Proofs.Ytpdbnlmdohcgkaa
