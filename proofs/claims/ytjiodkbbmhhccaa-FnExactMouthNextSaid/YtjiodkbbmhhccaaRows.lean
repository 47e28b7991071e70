/-
  No cell of these rows narrows 'for every input' (looked for: loops, veiled, ifaces, maps, wideKeys, modest, calm, conditions, laid).
  DERIVED. THE GIVEN ROWS OF THIS SEAT. 6 by the template 'for every input the law returns true; each argument reads behind the call as it read before'; 0 by the template 'total and deterministic' (their statements: YtjiodkbbmhhccaaTotals.lean).
  GIVEN WITH THE SEED: the statements are not yours to turn. If you find one false, say at which input.
  Laid BY PROGRAM, IN A SANDBOX (cutbox-rows.mjs): the forced cells as the released guide's own fill.sh prints them over the translation 9a1ba7929274619d… (all of the seat's roots in one cut). By AI agents, Wed Nov 11 2026. No macro, syntax, notation, axiom, sorry.
-/
import Derived.Test.YtjiodkbbmhhccaaChecked
import GoSem.Claim
import GoSem.ClaimJoined
import GoSem.ClaimMapViews
import Derived.JoinedTies
import Derived.KernelRfl
namespace Go.Proofs.Ytjiodkbbmhhccaa
/- THE CELL 'sum', in the pinned program and in every row, IS THE sha256 OF THE DUMP (.gsa) THAT YtjiodkbbmhhccaaProg.lean LOADS. Nothing in Lean hashes anything: it is a label: what it is worth is what the hold of that sum in a sandbox is worth. -/
noncomputable def Try.pinned : Pinned := { name := "ytjiodkbbmhhccaa", sum := "9a1ba7929274619d0548294a69119da85bf498ba17556cf7f9464004c2eb6ae3", checked := Try.checked }
namespace Rows
def none {H : Type} : Left H := { results := [], args := [] }

/-- 'laws.FnEarFree': WHATEVER THE INPUT: true; the input reads as it did. -/
def fnEarFreeSpec : ChangeSpec := { name := "fnEarFree", fn := fun _ => fun
  | [d] => { results := [.lit (.bool true)], args := [d] }
  | _ => none }
def fnEarFreeRow : OpenClaim := { program := "ytjiodkbbmhhccaa", sum := "9a1ba7929274619d0548294a69119da85bf498ba17556cf7f9464004c2eb6ae3", func := "loop.example/netstack/laws.FnEarFree", spec := "fnEarFree", apart := false }
def FnEarFreeSaid : Prop := fnEarFreeRow.holds Try.pinned (OpenSpec.ofChange fnEarFreeSpec)

/-- ITS FALSE NEIGHBOUR: 'it returns false'. Refute it at one input. -/
def fnEarFreeWrong : ChangeSpec := { name := "fnEarFree", fn := fun _ => fun
  | [d] => { results := [.lit (.bool false)], args := [d] }
  | _ => none }
def FnEarFreeWrongFalsely : Prop := fnEarFreeRow.holds Try.pinned (OpenSpec.ofChange fnEarFreeWrong)

/-- 'laws.FnEarRead': WHATEVER THE INPUT: true; the input reads as it did. -/
def fnEarReadSpec : ChangeSpec := { name := "fnEarRead", fn := fun _ => fun
  | [d] => { results := [.lit (.bool true)], args := [d] }
  | _ => none }
def fnEarReadRow : OpenClaim := { program := "ytjiodkbbmhhccaa", sum := "9a1ba7929274619d0548294a69119da85bf498ba17556cf7f9464004c2eb6ae3", func := "loop.example/netstack/laws.FnEarRead", spec := "fnEarRead", apart := false }
def FnEarReadSaid : Prop := fnEarReadRow.holds Try.pinned (OpenSpec.ofChange fnEarReadSpec)

/-- ITS FALSE NEIGHBOUR: 'it returns false'. Refute it at one input. -/
def fnEarReadWrong : ChangeSpec := { name := "fnEarRead", fn := fun _ => fun
  | [d] => { results := [.lit (.bool false)], args := [d] }
  | _ => none }
def FnEarReadWrongFalsely : Prop := fnEarReadRow.holds Try.pinned (OpenSpec.ofChange fnEarReadWrong)

/-- 'laws.FnExactEarRead': WHATEVER THE INPUT: true; the input reads as it did. -/
def fnExactEarReadSpec : ChangeSpec := { name := "fnExactEarRead", fn := fun _ => fun
  | [d1, d2] => { results := [.lit (.bool true)], args := [d1, d2] }
  | _ => none }
def fnExactEarReadRow : OpenClaim := { program := "ytjiodkbbmhhccaa", sum := "9a1ba7929274619d0548294a69119da85bf498ba17556cf7f9464004c2eb6ae3", func := "loop.example/netstack/laws.FnExactEarRead", spec := "fnExactEarRead", apart := false }
def FnExactEarReadSaid : Prop := fnExactEarReadRow.holds Try.pinned (OpenSpec.ofChange fnExactEarReadSpec)

/-- ITS FALSE NEIGHBOUR: 'it returns false'. Refute it at one input. -/
def fnExactEarReadWrong : ChangeSpec := { name := "fnExactEarRead", fn := fun _ => fun
  | [d1, d2] => { results := [.lit (.bool false)], args := [d1, d2] }
  | _ => none }
def FnExactEarReadWrongFalsely : Prop := fnExactEarReadRow.holds Try.pinned (OpenSpec.ofChange fnExactEarReadWrong)

/-- 'laws.FnMouthNext': WHATEVER THE INPUT: true; the input reads as it did. -/
def fnMouthNextSpec : ChangeSpec := { name := "fnMouthNext", fn := fun _ => fun
  | [d] => { results := [.lit (.bool true)], args := [d] }
  | _ => none }
def fnMouthNextRow : OpenClaim := { program := "ytjiodkbbmhhccaa", sum := "9a1ba7929274619d0548294a69119da85bf498ba17556cf7f9464004c2eb6ae3", func := "loop.example/netstack/laws.FnMouthNext", spec := "fnMouthNext", apart := false }
def FnMouthNextSaid : Prop := fnMouthNextRow.holds Try.pinned (OpenSpec.ofChange fnMouthNextSpec)

/-- ITS FALSE NEIGHBOUR: 'it returns false'. Refute it at one input. -/
def fnMouthNextWrong : ChangeSpec := { name := "fnMouthNext", fn := fun _ => fun
  | [d] => { results := [.lit (.bool false)], args := [d] }
  | _ => none }
def FnMouthNextWrongFalsely : Prop := fnMouthNextRow.holds Try.pinned (OpenSpec.ofChange fnMouthNextWrong)

/-- 'laws.FnMouthHear': WHATEVER THE INPUT: true; the input reads as it did. -/
def fnMouthHearSpec : ChangeSpec := { name := "fnMouthHear", fn := fun _ => fun
  | [d] => { results := [.lit (.bool true)], args := [d] }
  | _ => none }
def fnMouthHearRow : OpenClaim := { program := "ytjiodkbbmhhccaa", sum := "9a1ba7929274619d0548294a69119da85bf498ba17556cf7f9464004c2eb6ae3", func := "loop.example/netstack/laws.FnMouthHear", spec := "fnMouthHear", apart := false }
def FnMouthHearSaid : Prop := fnMouthHearRow.holds Try.pinned (OpenSpec.ofChange fnMouthHearSpec)

/-- ITS FALSE NEIGHBOUR: 'it returns false'. Refute it at one input. -/
def fnMouthHearWrong : ChangeSpec := { name := "fnMouthHear", fn := fun _ => fun
  | [d] => { results := [.lit (.bool false)], args := [d] }
  | _ => none }
def FnMouthHearWrongFalsely : Prop := fnMouthHearRow.holds Try.pinned (OpenSpec.ofChange fnMouthHearWrong)

/-- 'laws.FnExactMouthNext': WHATEVER THE INPUT: true; the input reads as it did. -/
def fnExactMouthNextSpec : ChangeSpec := { name := "fnExactMouthNext", fn := fun _ => fun
  | [d1, d2] => { results := [.lit (.bool true)], args := [d1, d2] }
  | _ => none }
def fnExactMouthNextRow : OpenClaim := { program := "ytjiodkbbmhhccaa", sum := "9a1ba7929274619d0548294a69119da85bf498ba17556cf7f9464004c2eb6ae3", func := "loop.example/netstack/laws.FnExactMouthNext", spec := "fnExactMouthNext", apart := false }
def FnExactMouthNextSaid : Prop := fnExactMouthNextRow.holds Try.pinned (OpenSpec.ofChange fnExactMouthNextSpec)

/-- ITS FALSE NEIGHBOUR: 'it returns false'. Refute it at one input. -/
def fnExactMouthNextWrong : ChangeSpec := { name := "fnExactMouthNext", fn := fun _ => fun
  | [d1, d2] => { results := [.lit (.bool false)], args := [d1, d2] }
  | _ => none }
def FnExactMouthNextWrongFalsely : Prop := fnExactMouthNextRow.holds Try.pinned (OpenSpec.ofChange fnExactMouthNextWrong)

/- THE SECOND FORM. 'bulk': how many values and letters a reading holds, each counted each time it is reached (what is shared counts as often as it is met; a slice's spare places count too). A statement '..UptoSaid' is the law's where the arguments, and the package variables that the reading takes, are together of bulk at most 1048576: NARROWER than '..Said'. Prove '..Said' where nothing that the law and all that it calls make is longer than what came in: it says more and counts as full. Else prove '..UptoSaid'. A law counts once. -/
mutual
def uptoBulk {H : Type} : DataW H → Nat
  | .lit (.string bytes) => bytes.length + 1
  | .lit _ => 1
  | .nil => 1
  | .ptr d => uptoBulk d + 1
  | .slice elems spare => uptoBulkAll elems + uptoBulkAll spare + 1
  | .agg parts => uptoBulkAll parts + 1
  | .iface _ d => uptoBulk d + 1
  | .map entries => uptoBulkEntries entries + 1
  | .held _ => 1
def uptoBulkAll {H : Type} : List (DataW H) → Nat
  | [] => 0
  | d :: r => uptoBulk d + uptoBulkAll r
def uptoBulkEntries {H : Type} : List (Lit × DataW H) → Nat
  | [] => 0
  | x :: r => uptoBulkEntry x + uptoBulkEntries r
def uptoBulkEntry {H : Type} : Lit × DataW H → Nat
  | (.string bytes, d) => bytes.length + uptoBulk d + 1
  | (_, d) => uptoBulk d + 1
 end
def uptoSmall : (H : Type) → List (DataW H) → Bool := fun _ ds => decide (uptoBulkAll ds ≤ 1048576)
def OpenSpec.upto (s : _root_.Go.ChangeSpec) : _root_.Go.OpenSpec := { _root_.Go.OpenSpec.ofChange s with cond := some uptoSmall }

/-- 'laws.FnEarFree', WHERE WHAT IT READS IS OF BULK AT MOST 1048576: true; the input reads as it did. -/
def fnEarFreeUptoRow : OpenClaim := { program := "ytjiodkbbmhhccaa", sum := "9a1ba7929274619d0548294a69119da85bf498ba17556cf7f9464004c2eb6ae3", func := "loop.example/netstack/laws.FnEarFree", spec := "fnEarFree", apart := false, narrowed := true }
def FnEarFreeUptoSaid : Prop := fnEarFreeUptoRow.holds Try.pinned (OpenSpec.upto fnEarFreeSpec)

/-- 'laws.FnEarRead', WHERE WHAT IT READS IS OF BULK AT MOST 1048576: true; the input reads as it did. -/
def fnEarReadUptoRow : OpenClaim := { program := "ytjiodkbbmhhccaa", sum := "9a1ba7929274619d0548294a69119da85bf498ba17556cf7f9464004c2eb6ae3", func := "loop.example/netstack/laws.FnEarRead", spec := "fnEarRead", apart := false, narrowed := true }
def FnEarReadUptoSaid : Prop := fnEarReadUptoRow.holds Try.pinned (OpenSpec.upto fnEarReadSpec)

/-- 'laws.FnExactEarRead', WHERE WHAT IT READS IS OF BULK AT MOST 1048576: true; the input reads as it did. -/
def fnExactEarReadUptoRow : OpenClaim := { program := "ytjiodkbbmhhccaa", sum := "9a1ba7929274619d0548294a69119da85bf498ba17556cf7f9464004c2eb6ae3", func := "loop.example/netstack/laws.FnExactEarRead", spec := "fnExactEarRead", apart := false, narrowed := true }
def FnExactEarReadUptoSaid : Prop := fnExactEarReadUptoRow.holds Try.pinned (OpenSpec.upto fnExactEarReadSpec)

/-- 'laws.FnMouthNext', WHERE WHAT IT READS IS OF BULK AT MOST 1048576: true; the input reads as it did. -/
def fnMouthNextUptoRow : OpenClaim := { program := "ytjiodkbbmhhccaa", sum := "9a1ba7929274619d0548294a69119da85bf498ba17556cf7f9464004c2eb6ae3", func := "loop.example/netstack/laws.FnMouthNext", spec := "fnMouthNext", apart := false, narrowed := true }
def FnMouthNextUptoSaid : Prop := fnMouthNextUptoRow.holds Try.pinned (OpenSpec.upto fnMouthNextSpec)

/-- 'laws.FnMouthHear', WHERE WHAT IT READS IS OF BULK AT MOST 1048576: true; the input reads as it did. -/
def fnMouthHearUptoRow : OpenClaim := { program := "ytjiodkbbmhhccaa", sum := "9a1ba7929274619d0548294a69119da85bf498ba17556cf7f9464004c2eb6ae3", func := "loop.example/netstack/laws.FnMouthHear", spec := "fnMouthHear", apart := false, narrowed := true }
def FnMouthHearUptoSaid : Prop := fnMouthHearUptoRow.holds Try.pinned (OpenSpec.upto fnMouthHearSpec)

/-- 'laws.FnExactMouthNext', WHERE WHAT IT READS IS OF BULK AT MOST 1048576: true; the input reads as it did. -/
def fnExactMouthNextUptoRow : OpenClaim := { program := "ytjiodkbbmhhccaa", sum := "9a1ba7929274619d0548294a69119da85bf498ba17556cf7f9464004c2eb6ae3", func := "loop.example/netstack/laws.FnExactMouthNext", spec := "fnExactMouthNext", apart := false, narrowed := true }
def FnExactMouthNextUptoSaid : Prop := fnExactMouthNextUptoRow.holds Try.pinned (OpenSpec.upto fnExactMouthNextSpec)

end Rows
end Go.Proofs.Ytjiodkbbmhhccaa
