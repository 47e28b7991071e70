/-
  No cell of these rows narrows 'for every input' (looked for: loops, veiled, ifaces, maps, wideKeys, modest, calm, conditions, laid).
  DERIVED. THE GIVEN ROWS OF THIS SEAT. 8 by the template 'for every input the law returns true; each argument reads behind the call as it read before'; 0 by the template 'total and deterministic' (their statements: YtegchbdjbefdbaaTotals.lean).
  GIVEN WITH THE SEED: the statements are not yours to turn. If you find one false, say at which input.
  Laid BY PROGRAM, IN A SANDBOX (cutbox-rows.mjs): the forced cells as the released guide's own fill.sh prints them over the translation 8e4c96dacb125c1b… (all of the seat's roots in one cut). By AI agents, Wed Nov 11 2026. No macro, syntax, notation, axiom, sorry.
-/
import Derived.Test.YtegchbdjbefdbaaChecked
import GoSem.Claim
import GoSem.ClaimJoined
import GoSem.ClaimMapViews
import Derived.JoinedTies
import Derived.KernelRfl
namespace Go.Proofs.Ytegchbdjbefdbaa
/- THE CELL 'sum', in the pinned program and in every row, IS THE sha256 OF THE DUMP (.gsa) THAT YtegchbdjbefdbaaProg.lean LOADS. Nothing in Lean hashes anything: it is a label: what it is worth is what the hold of that sum in a sandbox is worth. -/
noncomputable def Try.pinned : Pinned := { name := "ytegchbdjbefdbaa", sum := "8e4c96dacb125c1b814283c4d7a31c02307ab53e63fb9c492ca0c80d23b63807", checked := Try.checked }
namespace Rows
def none {H : Type} : Left H := { results := [], args := [] }

/-- 'laws.FnExactClientOk': WHATEVER THE INPUT: true; the input reads as it did. -/
def fnExactClientOkSpec : ChangeSpec := { name := "fnExactClientOk", fn := fun _ => fun
  | [d] => { results := [.lit (.bool true)], args := [d] }
  | _ => none }
def fnExactClientOkRow : OpenClaim := { program := "ytegchbdjbefdbaa", sum := "8e4c96dacb125c1b814283c4d7a31c02307ab53e63fb9c492ca0c80d23b63807", func := "loop.example/netstack/laws.FnExactClientOk", spec := "fnExactClientOk", apart := false }
def FnExactClientOkSaid : Prop := fnExactClientOkRow.holds Try.pinned (OpenSpec.ofChange fnExactClientOkSpec)

/-- ITS FALSE NEIGHBOUR: 'it returns false'. Refute it at one input. -/
def fnExactClientOkWrong : ChangeSpec := { name := "fnExactClientOk", fn := fun _ => fun
  | [d] => { results := [.lit (.bool false)], args := [d] }
  | _ => none }
def FnExactClientOkWrongFalsely : Prop := fnExactClientOkRow.holds Try.pinned (OpenSpec.ofChange fnExactClientOkWrong)

/-- 'laws.FnClientOver': WHATEVER THE INPUT: true; the input reads as it did. -/
def fnClientOverSpec : ChangeSpec := { name := "fnClientOver", fn := fun _ => fun
  | [d] => { results := [.lit (.bool true)], args := [d] }
  | _ => none }
def fnClientOverRow : OpenClaim := { program := "ytegchbdjbefdbaa", sum := "8e4c96dacb125c1b814283c4d7a31c02307ab53e63fb9c492ca0c80d23b63807", func := "loop.example/netstack/laws.FnClientOver", spec := "fnClientOver", apart := false }
def FnClientOverSaid : Prop := fnClientOverRow.holds Try.pinned (OpenSpec.ofChange fnClientOverSpec)

/-- ITS FALSE NEIGHBOUR: 'it returns false'. Refute it at one input. -/
def fnClientOverWrong : ChangeSpec := { name := "fnClientOver", fn := fun _ => fun
  | [d] => { results := [.lit (.bool false)], args := [d] }
  | _ => none }
def FnClientOverWrongFalsely : Prop := fnClientOverRow.holds Try.pinned (OpenSpec.ofChange fnClientOverWrong)

/-- 'laws.FnClientHear': WHATEVER THE INPUT: true; the input reads as it did. -/
def fnClientHearSpec : ChangeSpec := { name := "fnClientHear", fn := fun _ => fun
  | [d] => { results := [.lit (.bool true)], args := [d] }
  | _ => none }
def fnClientHearRow : OpenClaim := { program := "ytegchbdjbefdbaa", sum := "8e4c96dacb125c1b814283c4d7a31c02307ab53e63fb9c492ca0c80d23b63807", func := "loop.example/netstack/laws.FnClientHear", spec := "fnClientHear", apart := false }
def FnClientHearSaid : Prop := fnClientHearRow.holds Try.pinned (OpenSpec.ofChange fnClientHearSpec)

/-- ITS FALSE NEIGHBOUR: 'it returns false'. Refute it at one input. -/
def fnClientHearWrong : ChangeSpec := { name := "fnClientHear", fn := fun _ => fun
  | [d] => { results := [.lit (.bool false)], args := [d] }
  | _ => none }
def FnClientHearWrongFalsely : Prop := fnClientHearRow.holds Try.pinned (OpenSpec.ofChange fnClientHearWrong)

/-- 'laws.FnClientAsk': WHATEVER THE INPUT: true; the input reads as it did. -/
def fnClientAskSpec : ChangeSpec := { name := "fnClientAsk", fn := fun _ => fun
  | [d] => { results := [.lit (.bool true)], args := [d] }
  | _ => none }
def fnClientAskRow : OpenClaim := { program := "ytegchbdjbefdbaa", sum := "8e4c96dacb125c1b814283c4d7a31c02307ab53e63fb9c492ca0c80d23b63807", func := "loop.example/netstack/laws.FnClientAsk", spec := "fnClientAsk", apart := false }
def FnClientAskSaid : Prop := fnClientAskRow.holds Try.pinned (OpenSpec.ofChange fnClientAskSpec)

/-- ITS FALSE NEIGHBOUR: 'it returns false'. Refute it at one input. -/
def fnClientAskWrong : ChangeSpec := { name := "fnClientAsk", fn := fun _ => fun
  | [d] => { results := [.lit (.bool false)], args := [d] }
  | _ => none }
def FnClientAskWrongFalsely : Prop := fnClientAskRow.holds Try.pinned (OpenSpec.ofChange fnClientAskWrong)

/-- 'laws.FnExactClientOver': WHATEVER THE INPUT: true; the input reads as it did. -/
def fnExactClientOverSpec : ChangeSpec := { name := "fnExactClientOver", fn := fun _ => fun
  | [d] => { results := [.lit (.bool true)], args := [d] }
  | _ => none }
def fnExactClientOverRow : OpenClaim := { program := "ytegchbdjbefdbaa", sum := "8e4c96dacb125c1b814283c4d7a31c02307ab53e63fb9c492ca0c80d23b63807", func := "loop.example/netstack/laws.FnExactClientOver", spec := "fnExactClientOver", apart := false }
def FnExactClientOverSaid : Prop := fnExactClientOverRow.holds Try.pinned (OpenSpec.ofChange fnExactClientOverSpec)

/-- ITS FALSE NEIGHBOUR: 'it returns false'. Refute it at one input. -/
def fnExactClientOverWrong : ChangeSpec := { name := "fnExactClientOver", fn := fun _ => fun
  | [d] => { results := [.lit (.bool false)], args := [d] }
  | _ => none }
def FnExactClientOverWrongFalsely : Prop := fnExactClientOverRow.holds Try.pinned (OpenSpec.ofChange fnExactClientOverWrong)

/-- 'laws.FnExactClientAsk': WHATEVER THE INPUT: true; the input reads as it did. -/
def fnExactClientAskSpec : ChangeSpec := { name := "fnExactClientAsk", fn := fun _ => fun
  | [d1, d2] => { results := [.lit (.bool true)], args := [d1, d2] }
  | _ => none }
def fnExactClientAskRow : OpenClaim := { program := "ytegchbdjbefdbaa", sum := "8e4c96dacb125c1b814283c4d7a31c02307ab53e63fb9c492ca0c80d23b63807", func := "loop.example/netstack/laws.FnExactClientAsk", spec := "fnExactClientAsk", apart := false }
def FnExactClientAskSaid : Prop := fnExactClientAskRow.holds Try.pinned (OpenSpec.ofChange fnExactClientAskSpec)

/-- ITS FALSE NEIGHBOUR: 'it returns false'. Refute it at one input. -/
def fnExactClientAskWrong : ChangeSpec := { name := "fnExactClientAsk", fn := fun _ => fun
  | [d1, d2] => { results := [.lit (.bool false)], args := [d1, d2] }
  | _ => none }
def FnExactClientAskWrongFalsely : Prop := fnExactClientAskRow.holds Try.pinned (OpenSpec.ofChange fnExactClientAskWrong)

/-- 'laws.FnExactClientHear': WHATEVER THE INPUT: true; the input reads as it did. -/
def fnExactClientHearSpec : ChangeSpec := { name := "fnExactClientHear", fn := fun _ => fun
  | [d1, d2] => { results := [.lit (.bool true)], args := [d1, d2] }
  | _ => none }
def fnExactClientHearRow : OpenClaim := { program := "ytegchbdjbefdbaa", sum := "8e4c96dacb125c1b814283c4d7a31c02307ab53e63fb9c492ca0c80d23b63807", func := "loop.example/netstack/laws.FnExactClientHear", spec := "fnExactClientHear", apart := false }
def FnExactClientHearSaid : Prop := fnExactClientHearRow.holds Try.pinned (OpenSpec.ofChange fnExactClientHearSpec)

/-- ITS FALSE NEIGHBOUR: 'it returns false'. Refute it at one input. -/
def fnExactClientHearWrong : ChangeSpec := { name := "fnExactClientHear", fn := fun _ => fun
  | [d1, d2] => { results := [.lit (.bool false)], args := [d1, d2] }
  | _ => none }
def FnExactClientHearWrongFalsely : Prop := fnExactClientHearRow.holds Try.pinned (OpenSpec.ofChange fnExactClientHearWrong)

/-- 'laws.FnExactWordsFrom': WHATEVER THE INPUT: true; the input reads as it did. -/
def fnExactWordsFromSpec : ChangeSpec := { name := "fnExactWordsFrom", fn := fun _ => fun
  | [d] => { results := [.lit (.bool true)], args := [d] }
  | _ => none }
def fnExactWordsFromRow : OpenClaim := { program := "ytegchbdjbefdbaa", sum := "8e4c96dacb125c1b814283c4d7a31c02307ab53e63fb9c492ca0c80d23b63807", func := "loop.example/netstack/laws.FnExactWordsFrom", spec := "fnExactWordsFrom", apart := false }
def FnExactWordsFromSaid : Prop := fnExactWordsFromRow.holds Try.pinned (OpenSpec.ofChange fnExactWordsFromSpec)

/-- ITS FALSE NEIGHBOUR: 'it returns false'. Refute it at one input. -/
def fnExactWordsFromWrong : ChangeSpec := { name := "fnExactWordsFrom", fn := fun _ => fun
  | [d] => { results := [.lit (.bool false)], args := [d] }
  | _ => none }
def FnExactWordsFromWrongFalsely : Prop := fnExactWordsFromRow.holds Try.pinned (OpenSpec.ofChange fnExactWordsFromWrong)

/- THE SECOND FORM. 'bulk': how many values and letters a reading holds, each counted each time it is reached (what is shared counts as often as it is met; a slice's spare places count too). A statement '..UptoSaid' is the law's where the arguments, and the package variables that the reading takes, are together of bulk at most 1048576: NARROWER than '..Said'. Prove '..Said' where nothing that the law and all that it calls make is longer than what came in: it says more and counts as full. Else prove '..UptoSaid'. A law counts once. -/
mutual
def uptoBulk {H : Type} : DataW H → Nat
  | .lit (.string bytes) => bytes.length + 1
  | .lit _ => 1
  | .nil => 1
  | .ptr d => uptoBulk d + 1
  | .slice elems spare => uptoBulkAll elems + uptoBulkAll spare + 1
  | .agg parts => uptoBulkAll parts + 1
  | .iface _ d => uptoBulk d + 1
  | .map entries => uptoBulkEntries entries + 1
  | .held _ => 1
def uptoBulkAll {H : Type} : List (DataW H) → Nat
  | [] => 0
  | d :: r => uptoBulk d + uptoBulkAll r
def uptoBulkEntries {H : Type} : List (Lit × DataW H) → Nat
  | [] => 0
  | x :: r => uptoBulkEntry x + uptoBulkEntries r
def uptoBulkEntry {H : Type} : Lit × DataW H → Nat
  | (.string bytes, d) => bytes.length + uptoBulk d + 1
  | (_, d) => uptoBulk d + 1
 end
def uptoSmall : (H : Type) → List (DataW H) → Bool := fun _ ds => decide (uptoBulkAll ds ≤ 1048576)
def OpenSpec.upto (s : _root_.Go.ChangeSpec) : _root_.Go.OpenSpec := { _root_.Go.OpenSpec.ofChange s with cond := some uptoSmall }

/-- 'laws.FnExactClientOk', WHERE WHAT IT READS IS OF BULK AT MOST 1048576: true; the input reads as it did. -/
def fnExactClientOkUptoRow : OpenClaim := { program := "ytegchbdjbefdbaa", sum := "8e4c96dacb125c1b814283c4d7a31c02307ab53e63fb9c492ca0c80d23b63807", func := "loop.example/netstack/laws.FnExactClientOk", spec := "fnExactClientOk", apart := false, narrowed := true }
def FnExactClientOkUptoSaid : Prop := fnExactClientOkUptoRow.holds Try.pinned (OpenSpec.upto fnExactClientOkSpec)

/-- 'laws.FnClientOver', WHERE WHAT IT READS IS OF BULK AT MOST 1048576: true; the input reads as it did. -/
def fnClientOverUptoRow : OpenClaim := { program := "ytegchbdjbefdbaa", sum := "8e4c96dacb125c1b814283c4d7a31c02307ab53e63fb9c492ca0c80d23b63807", func := "loop.example/netstack/laws.FnClientOver", spec := "fnClientOver", apart := false, narrowed := true }
def FnClientOverUptoSaid : Prop := fnClientOverUptoRow.holds Try.pinned (OpenSpec.upto fnClientOverSpec)

/-- 'laws.FnClientHear', WHERE WHAT IT READS IS OF BULK AT MOST 1048576: true; the input reads as it did. -/
def fnClientHearUptoRow : OpenClaim := { program := "ytegchbdjbefdbaa", sum := "8e4c96dacb125c1b814283c4d7a31c02307ab53e63fb9c492ca0c80d23b63807", func := "loop.example/netstack/laws.FnClientHear", spec := "fnClientHear", apart := false, narrowed := true }
def FnClientHearUptoSaid : Prop := fnClientHearUptoRow.holds Try.pinned (OpenSpec.upto fnClientHearSpec)

/-- 'laws.FnClientAsk', WHERE WHAT IT READS IS OF BULK AT MOST 1048576: true; the input reads as it did. -/
def fnClientAskUptoRow : OpenClaim := { program := "ytegchbdjbefdbaa", sum := "8e4c96dacb125c1b814283c4d7a31c02307ab53e63fb9c492ca0c80d23b63807", func := "loop.example/netstack/laws.FnClientAsk", spec := "fnClientAsk", apart := false, narrowed := true }
def FnClientAskUptoSaid : Prop := fnClientAskUptoRow.holds Try.pinned (OpenSpec.upto fnClientAskSpec)

/-- 'laws.FnExactClientOver', WHERE WHAT IT READS IS OF BULK AT MOST 1048576: true; the input reads as it did. -/
def fnExactClientOverUptoRow : OpenClaim := { program := "ytegchbdjbefdbaa", sum := "8e4c96dacb125c1b814283c4d7a31c02307ab53e63fb9c492ca0c80d23b63807", func := "loop.example/netstack/laws.FnExactClientOver", spec := "fnExactClientOver", apart := false, narrowed := true }
def FnExactClientOverUptoSaid : Prop := fnExactClientOverUptoRow.holds Try.pinned (OpenSpec.upto fnExactClientOverSpec)

/-- 'laws.FnExactClientAsk', WHERE WHAT IT READS IS OF BULK AT MOST 1048576: true; the input reads as it did. -/
def fnExactClientAskUptoRow : OpenClaim := { program := "ytegchbdjbefdbaa", sum := "8e4c96dacb125c1b814283c4d7a31c02307ab53e63fb9c492ca0c80d23b63807", func := "loop.example/netstack/laws.FnExactClientAsk", spec := "fnExactClientAsk", apart := false, narrowed := true }
def FnExactClientAskUptoSaid : Prop := fnExactClientAskUptoRow.holds Try.pinned (OpenSpec.upto fnExactClientAskSpec)

/-- 'laws.FnExactClientHear', WHERE WHAT IT READS IS OF BULK AT MOST 1048576: true; the input reads as it did. -/
def fnExactClientHearUptoRow : OpenClaim := { program := "ytegchbdjbefdbaa", sum := "8e4c96dacb125c1b814283c4d7a31c02307ab53e63fb9c492ca0c80d23b63807", func := "loop.example/netstack/laws.FnExactClientHear", spec := "fnExactClientHear", apart := false, narrowed := true }
def FnExactClientHearUptoSaid : Prop := fnExactClientHearUptoRow.holds Try.pinned (OpenSpec.upto fnExactClientHearSpec)

/-- 'laws.FnExactWordsFrom', WHERE WHAT IT READS IS OF BULK AT MOST 1048576: true; the input reads as it did. -/
def fnExactWordsFromUptoRow : OpenClaim := { program := "ytegchbdjbefdbaa", sum := "8e4c96dacb125c1b814283c4d7a31c02307ab53e63fb9c492ca0c80d23b63807", func := "loop.example/netstack/laws.FnExactWordsFrom", spec := "fnExactWordsFrom", apart := false, narrowed := true }
def FnExactWordsFromUptoSaid : Prop := fnExactWordsFromUptoRow.holds Try.pinned (OpenSpec.upto fnExactWordsFromSpec)

end Rows
end Go.Proofs.Ytegchbdjbefdbaa
