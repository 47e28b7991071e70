/-
  No cell of these rows narrows 'for every input' (looked for: loops, veiled, ifaces, maps, wideKeys, modest, calm, conditions, laid).
  DERIVED. THE GIVEN ROWS OF THIS SEAT. 6 by the template 'for every input the law returns true; each argument reads behind the call as it read before'; 0 by the template 'total and deterministic' (their statements: YtpbeljcgcdilnaaTotals.lean).
  GIVEN WITH THE SEED: the statements are not yours to turn. If you find one false, say at which input.
  Laid BY PROGRAM, IN A SANDBOX (cutbox-rows.mjs): the forced cells as the released guide's own fill.sh prints them over the translation 9b89279586de480c… (all of the seat's roots in one cut). By AI agents, Wed Nov 11 2026. No macro, syntax, notation, axiom, sorry.
-/
import Derived.Test.YtpbeljcgcdilnaaChecked
import GoSem.Claim
import GoSem.ClaimJoined
import GoSem.ClaimMapViews
import Derived.JoinedTies
import Derived.KernelRfl
namespace Go.Proofs.Ytpbeljcgcdilnaa
/- THE CELL 'sum', in the pinned program and in every row, IS THE sha256 OF THE DUMP (.gsa) THAT YtpbeljcgcdilnaaProg.lean LOADS. Nothing in Lean hashes anything: it is a label: what it is worth is what the hold of that sum in a sandbox is worth. -/
noncomputable def Try.pinned : Pinned := { name := "ytpbeljcgcdilnaa", sum := "9b89279586de480cb82f25a277d246fd4a72e67387b57af6f613003ebe810524", checked := Try.checked }
namespace Rows
def none {H : Type} : Left H := { results := [], args := [] }

/-- 'laws.FnPartWhole': WHATEVER THE INPUT: true; the input reads as it did. -/
def fnPartWholeSpec : ChangeSpec := { name := "fnPartWhole", fn := fun _ => fun
  | [d] => { results := [.lit (.bool true)], args := [d] }
  | _ => none }
def fnPartWholeRow : OpenClaim := { program := "ytpbeljcgcdilnaa", sum := "9b89279586de480cb82f25a277d246fd4a72e67387b57af6f613003ebe810524", func := "loop.example/netstack/laws.FnPartWhole", spec := "fnPartWhole", apart := false }
def FnPartWholeSaid : Prop := fnPartWholeRow.holds Try.pinned (OpenSpec.ofChange fnPartWholeSpec)

/-- ITS FALSE NEIGHBOUR: 'it returns false'. Refute it at one input. -/
def fnPartWholeWrong : ChangeSpec := { name := "fnPartWhole", fn := fun _ => fun
  | [d] => { results := [.lit (.bool false)], args := [d] }
  | _ => none }
def FnPartWholeWrongFalsely : Prop := fnPartWholeRow.holds Try.pinned (OpenSpec.ofChange fnPartWholeWrong)

/-- 'laws.FnClientOk': WHATEVER THE INPUT: true; the input reads as it did. -/
def fnClientOkSpec : ChangeSpec := { name := "fnClientOk", fn := fun _ => fun
  | [d] => { results := [.lit (.bool true)], args := [d] }
  | _ => none }
def fnClientOkRow : OpenClaim := { program := "ytpbeljcgcdilnaa", sum := "9b89279586de480cb82f25a277d246fd4a72e67387b57af6f613003ebe810524", func := "loop.example/netstack/laws.FnClientOk", spec := "fnClientOk", apart := false }
def FnClientOkSaid : Prop := fnClientOkRow.holds Try.pinned (OpenSpec.ofChange fnClientOkSpec)

/-- ITS FALSE NEIGHBOUR: 'it returns false'. Refute it at one input. -/
def fnClientOkWrong : ChangeSpec := { name := "fnClientOk", fn := fun _ => fun
  | [d] => { results := [.lit (.bool false)], args := [d] }
  | _ => none }
def FnClientOkWrongFalsely : Prop := fnClientOkRow.holds Try.pinned (OpenSpec.ofChange fnClientOkWrong)

/-- 'laws.FnExactPartWhole': WHATEVER THE INPUT: true; the input reads as it did. -/
def fnExactPartWholeSpec : ChangeSpec := { name := "fnExactPartWhole", fn := fun _ => fun
  | [d] => { results := [.lit (.bool true)], args := [d] }
  | _ => none }
def fnExactPartWholeRow : OpenClaim := { program := "ytpbeljcgcdilnaa", sum := "9b89279586de480cb82f25a277d246fd4a72e67387b57af6f613003ebe810524", func := "loop.example/netstack/laws.FnExactPartWhole", spec := "fnExactPartWhole", apart := false }
def FnExactPartWholeSaid : Prop := fnExactPartWholeRow.holds Try.pinned (OpenSpec.ofChange fnExactPartWholeSpec)

/-- ITS FALSE NEIGHBOUR: 'it returns false'. Refute it at one input. -/
def fnExactPartWholeWrong : ChangeSpec := { name := "fnExactPartWhole", fn := fun _ => fun
  | [d] => { results := [.lit (.bool false)], args := [d] }
  | _ => none }
def FnExactPartWholeWrongFalsely : Prop := fnExactPartWholeRow.holds Try.pinned (OpenSpec.ofChange fnExactPartWholeWrong)

/-- 'laws.FnExactSegmentFrom': WHATEVER THE INPUT: true; the input reads as it did. -/
def fnExactSegmentFromSpec : ChangeSpec := { name := "fnExactSegmentFrom", fn := fun _ => fun
  | [d1, d2, d3] => { results := [.lit (.bool true)], args := [d1, d2, d3] }
  | _ => none }
def fnExactSegmentFromRow : OpenClaim := { program := "ytpbeljcgcdilnaa", sum := "9b89279586de480cb82f25a277d246fd4a72e67387b57af6f613003ebe810524", func := "loop.example/netstack/laws.FnExactSegmentFrom", spec := "fnExactSegmentFrom", unfollowed := true, recurses := true, apart := false }
def FnExactSegmentFromSaid : Prop := fnExactSegmentFromRow.holds Try.pinned (OpenSpec.ofChange fnExactSegmentFromSpec)

/-- ITS FALSE NEIGHBOUR: 'it returns false'. Refute it at one input. -/
def fnExactSegmentFromWrong : ChangeSpec := { name := "fnExactSegmentFrom", fn := fun _ => fun
  | [d1, d2, d3] => { results := [.lit (.bool false)], args := [d1, d2, d3] }
  | _ => none }
def FnExactSegmentFromWrongFalsely : Prop := fnExactSegmentFromRow.holds Try.pinned (OpenSpec.ofChange fnExactSegmentFromWrong)

/-- 'laws.FnSegmentFrom': WHATEVER THE INPUT: true; the input reads as it did. -/
def fnSegmentFromSpec : ChangeSpec := { name := "fnSegmentFrom", fn := fun _ => fun
  | [d] => { results := [.lit (.bool true)], args := [d] }
  | _ => none }
def fnSegmentFromRow : OpenClaim := { program := "ytpbeljcgcdilnaa", sum := "9b89279586de480cb82f25a277d246fd4a72e67387b57af6f613003ebe810524", func := "loop.example/netstack/laws.FnSegmentFrom", spec := "fnSegmentFrom", unfollowed := true, recurses := true, apart := false }
def FnSegmentFromSaid : Prop := fnSegmentFromRow.holds Try.pinned (OpenSpec.ofChange fnSegmentFromSpec)

/-- ITS FALSE NEIGHBOUR: 'it returns false'. Refute it at one input. -/
def fnSegmentFromWrong : ChangeSpec := { name := "fnSegmentFrom", fn := fun _ => fun
  | [d] => { results := [.lit (.bool false)], args := [d] }
  | _ => none }
def FnSegmentFromWrongFalsely : Prop := fnSegmentFromRow.holds Try.pinned (OpenSpec.ofChange fnSegmentFromWrong)

/-- 'laws.FnSegmentBytes': WHATEVER THE INPUT: true; the input reads as it did. -/
def fnSegmentBytesSpec : ChangeSpec := { name := "fnSegmentBytes", fn := fun _ => fun
  | [d] => { results := [.lit (.bool true)], args := [d] }
  | _ => none }
def fnSegmentBytesRow : OpenClaim := { program := "ytpbeljcgcdilnaa", sum := "9b89279586de480cb82f25a277d246fd4a72e67387b57af6f613003ebe810524", func := "loop.example/netstack/laws.FnSegmentBytes", spec := "fnSegmentBytes", unfollowed := true, recurses := true, apart := false }
def FnSegmentBytesSaid : Prop := fnSegmentBytesRow.holds Try.pinned (OpenSpec.ofChange fnSegmentBytesSpec)

/-- ITS FALSE NEIGHBOUR: 'it returns false'. Refute it at one input. -/
def fnSegmentBytesWrong : ChangeSpec := { name := "fnSegmentBytes", fn := fun _ => fun
  | [d] => { results := [.lit (.bool false)], args := [d] }
  | _ => none }
def FnSegmentBytesWrongFalsely : Prop := fnSegmentBytesRow.holds Try.pinned (OpenSpec.ofChange fnSegmentBytesWrong)

/- THE SECOND FORM. 'bulk': how many values and letters a reading holds, each counted each time it is reached (what is shared counts as often as it is met; a slice's spare places count too). A statement '..UptoSaid' is the law's where the arguments, and the package variables that the reading takes, are together of bulk at most 1048576: NARROWER than '..Said'. Prove '..Said' where nothing that the law and all that it calls make is longer than what came in: it says more and counts as full. Else prove '..UptoSaid'. A law counts once. -/
mutual
def uptoBulk {H : Type} : DataW H → Nat
  | .lit (.string bytes) => bytes.length + 1
  | .lit _ => 1
  | .nil => 1
  | .ptr d => uptoBulk d + 1
  | .slice elems spare => uptoBulkAll elems + uptoBulkAll spare + 1
  | .agg parts => uptoBulkAll parts + 1
  | .iface _ d => uptoBulk d + 1
  | .map entries => uptoBulkEntries entries + 1
  | .held _ => 1
def uptoBulkAll {H : Type} : List (DataW H) → Nat
  | [] => 0
  | d :: r => uptoBulk d + uptoBulkAll r
def uptoBulkEntries {H : Type} : List (Lit × DataW H) → Nat
  | [] => 0
  | x :: r => uptoBulkEntry x + uptoBulkEntries r
def uptoBulkEntry {H : Type} : Lit × DataW H → Nat
  | (.string bytes, d) => bytes.length + uptoBulk d + 1
  | (_, d) => uptoBulk d + 1
 end
def uptoSmall : (H : Type) → List (DataW H) → Bool := fun _ ds => decide (uptoBulkAll ds ≤ 1048576)
def OpenSpec.upto (s : _root_.Go.ChangeSpec) : _root_.Go.OpenSpec := { _root_.Go.OpenSpec.ofChange s with cond := some uptoSmall }

/-- 'laws.FnPartWhole', WHERE WHAT IT READS IS OF BULK AT MOST 1048576: true; the input reads as it did. -/
def fnPartWholeUptoRow : OpenClaim := { program := "ytpbeljcgcdilnaa", sum := "9b89279586de480cb82f25a277d246fd4a72e67387b57af6f613003ebe810524", func := "loop.example/netstack/laws.FnPartWhole", spec := "fnPartWhole", apart := false, narrowed := true }
def FnPartWholeUptoSaid : Prop := fnPartWholeUptoRow.holds Try.pinned (OpenSpec.upto fnPartWholeSpec)

/-- 'laws.FnClientOk', WHERE WHAT IT READS IS OF BULK AT MOST 1048576: true; the input reads as it did. -/
def fnClientOkUptoRow : OpenClaim := { program := "ytpbeljcgcdilnaa", sum := "9b89279586de480cb82f25a277d246fd4a72e67387b57af6f613003ebe810524", func := "loop.example/netstack/laws.FnClientOk", spec := "fnClientOk", apart := false, narrowed := true }
def FnClientOkUptoSaid : Prop := fnClientOkUptoRow.holds Try.pinned (OpenSpec.upto fnClientOkSpec)

/-- 'laws.FnExactPartWhole', WHERE WHAT IT READS IS OF BULK AT MOST 1048576: true; the input reads as it did. -/
def fnExactPartWholeUptoRow : OpenClaim := { program := "ytpbeljcgcdilnaa", sum := "9b89279586de480cb82f25a277d246fd4a72e67387b57af6f613003ebe810524", func := "loop.example/netstack/laws.FnExactPartWhole", spec := "fnExactPartWhole", apart := false, narrowed := true }
def FnExactPartWholeUptoSaid : Prop := fnExactPartWholeUptoRow.holds Try.pinned (OpenSpec.upto fnExactPartWholeSpec)

/-- 'laws.FnExactSegmentFrom', WHERE WHAT IT READS IS OF BULK AT MOST 1048576: true; the input reads as it did. -/
def fnExactSegmentFromUptoRow : OpenClaim := { program := "ytpbeljcgcdilnaa", sum := "9b89279586de480cb82f25a277d246fd4a72e67387b57af6f613003ebe810524", func := "loop.example/netstack/laws.FnExactSegmentFrom", spec := "fnExactSegmentFrom", unfollowed := true, recurses := true, apart := false, narrowed := true }
def FnExactSegmentFromUptoSaid : Prop := fnExactSegmentFromUptoRow.holds Try.pinned (OpenSpec.upto fnExactSegmentFromSpec)

/-- 'laws.FnSegmentFrom', WHERE WHAT IT READS IS OF BULK AT MOST 1048576: true; the input reads as it did. -/
def fnSegmentFromUptoRow : OpenClaim := { program := "ytpbeljcgcdilnaa", sum := "9b89279586de480cb82f25a277d246fd4a72e67387b57af6f613003ebe810524", func := "loop.example/netstack/laws.FnSegmentFrom", spec := "fnSegmentFrom", unfollowed := true, recurses := true, apart := false, narrowed := true }
def FnSegmentFromUptoSaid : Prop := fnSegmentFromUptoRow.holds Try.pinned (OpenSpec.upto fnSegmentFromSpec)

/-- 'laws.FnSegmentBytes', WHERE WHAT IT READS IS OF BULK AT MOST 1048576: true; the input reads as it did. -/
def fnSegmentBytesUptoRow : OpenClaim := { program := "ytpbeljcgcdilnaa", sum := "9b89279586de480cb82f25a277d246fd4a72e67387b57af6f613003ebe810524", func := "loop.example/netstack/laws.FnSegmentBytes", spec := "fnSegmentBytes", unfollowed := true, recurses := true, apart := false, narrowed := true }
def FnSegmentBytesUptoSaid : Prop := fnSegmentBytesUptoRow.holds Try.pinned (OpenSpec.upto fnSegmentBytesSpec)

end Rows
end Go.Proofs.Ytpbeljcgcdilnaa
