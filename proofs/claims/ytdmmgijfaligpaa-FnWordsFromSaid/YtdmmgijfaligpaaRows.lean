/-
  No cell of these rows narrows 'for every input' (looked for: loops, veiled, ifaces, maps, wideKeys, modest, calm, conditions, laid).
  DERIVED. THE GIVEN ROWS OF THIS SEAT. 6 by the template 'for every input the law returns true; each argument reads behind the call as it read before'; 0 by the template 'total and deterministic' (their statements: YtdmmgijfaligpaaTotals.lean).
  GIVEN WITH THE SEED: the statements are not yours to turn. If you find one false, say at which input.
  Laid BY PROGRAM, IN A SANDBOX (cutbox-rows.mjs): the forced cells as the released guide's own fill.sh prints them over the translation 7dc688c151365243… (all of the seat's roots in one cut). By AI agents, Wed Nov 11 2026. No macro, syntax, notation, axiom, sorry.
-/
import Derived.Test.YtdmmgijfaligpaaChecked
import GoSem.Claim
import GoSem.ClaimJoined
import GoSem.ClaimMapViews
import Derived.JoinedTies
import Derived.KernelRfl
namespace Go.Proofs.Ytdmmgijfaligpaa
/- THE CELL 'sum', in the pinned program and in every row, IS THE sha256 OF THE DUMP (.gsa) THAT YtdmmgijfaligpaaProg.lean LOADS. Nothing in Lean hashes anything: it is a label: what it is worth is what the hold of that sum in a sandbox is worth. -/
noncomputable def Try.pinned : Pinned := { name := "ytdmmgijfaligpaa", sum := "7dc688c15136524317adf8be15fd1940fbf491305b773b5b80843f327b09313e", checked := Try.checked }
namespace Rows
def none {H : Type} : Left H := { results := [], args := [] }

/-- 'laws.FnExactWordsFrom': WHATEVER THE INPUT: true; the input reads as it did. -/
def fnExactWordsFromSpec : ChangeSpec := { name := "fnExactWordsFrom", fn := fun _ => fun
  | [d] => { results := [.lit (.bool true)], args := [d] }
  | _ => none }
def fnExactWordsFromRow : OpenClaim := { program := "ytdmmgijfaligpaa", sum := "7dc688c15136524317adf8be15fd1940fbf491305b773b5b80843f327b09313e", func := "loop.example/netstack/laws.FnExactWordsFrom", spec := "fnExactWordsFrom", apart := false }
def FnExactWordsFromSaid : Prop := fnExactWordsFromRow.holds Try.pinned (OpenSpec.ofChange fnExactWordsFromSpec)

/-- ITS FALSE NEIGHBOUR: 'it returns false'. Refute it at one input. -/
def fnExactWordsFromWrong : ChangeSpec := { name := "fnExactWordsFrom", fn := fun _ => fun
  | [d] => { results := [.lit (.bool false)], args := [d] }
  | _ => none }
def FnExactWordsFromWrongFalsely : Prop := fnExactWordsFromRow.holds Try.pinned (OpenSpec.ofChange fnExactWordsFromWrong)

/-- 'laws.FnExactWordsBytes': WHATEVER THE INPUT: true; the input reads as it did. -/
def fnExactWordsBytesSpec : ChangeSpec := { name := "fnExactWordsBytes", fn := fun _ => fun
  | [d] => { results := [.lit (.bool true)], args := [d] }
  | _ => none }
def fnExactWordsBytesRow : OpenClaim := { program := "ytdmmgijfaligpaa", sum := "7dc688c15136524317adf8be15fd1940fbf491305b773b5b80843f327b09313e", func := "loop.example/netstack/laws.FnExactWordsBytes", spec := "fnExactWordsBytes", apart := false }
def FnExactWordsBytesSaid : Prop := fnExactWordsBytesRow.holds Try.pinned (OpenSpec.ofChange fnExactWordsBytesSpec)

/-- ITS FALSE NEIGHBOUR: 'it returns false'. Refute it at one input. -/
def fnExactWordsBytesWrong : ChangeSpec := { name := "fnExactWordsBytes", fn := fun _ => fun
  | [d] => { results := [.lit (.bool false)], args := [d] }
  | _ => none }
def FnExactWordsBytesWrongFalsely : Prop := fnExactWordsBytesRow.holds Try.pinned (OpenSpec.ofChange fnExactWordsBytesWrong)

/-- 'laws.FnExactAnswer': WHATEVER THE INPUT: true; the input reads as it did. -/
def fnExactAnswerSpec : ChangeSpec := { name := "fnExactAnswer", fn := fun _ => fun
  | [d] => { results := [.lit (.bool true)], args := [d] }
  | _ => none }
def fnExactAnswerRow : OpenClaim := { program := "ytdmmgijfaligpaa", sum := "7dc688c15136524317adf8be15fd1940fbf491305b773b5b80843f327b09313e", func := "loop.example/netstack/laws.FnExactAnswer", spec := "fnExactAnswer", apart := false }
def FnExactAnswerSaid : Prop := fnExactAnswerRow.holds Try.pinned (OpenSpec.ofChange fnExactAnswerSpec)

/-- ITS FALSE NEIGHBOUR: 'it returns false'. Refute it at one input. -/
def fnExactAnswerWrong : ChangeSpec := { name := "fnExactAnswer", fn := fun _ => fun
  | [d] => { results := [.lit (.bool false)], args := [d] }
  | _ => none }
def FnExactAnswerWrongFalsely : Prop := fnExactAnswerRow.holds Try.pinned (OpenSpec.ofChange fnExactAnswerWrong)

/-- 'laws.FnWordsBytes': WHATEVER THE INPUT: true; the input reads as it did. -/
def fnWordsBytesSpec : ChangeSpec := { name := "fnWordsBytes", fn := fun _ => fun
  | [d] => { results := [.lit (.bool true)], args := [d] }
  | _ => none }
def fnWordsBytesRow : OpenClaim := { program := "ytdmmgijfaligpaa", sum := "7dc688c15136524317adf8be15fd1940fbf491305b773b5b80843f327b09313e", func := "loop.example/netstack/laws.FnWordsBytes", spec := "fnWordsBytes", apart := false }
def FnWordsBytesSaid : Prop := fnWordsBytesRow.holds Try.pinned (OpenSpec.ofChange fnWordsBytesSpec)

/-- ITS FALSE NEIGHBOUR: 'it returns false'. Refute it at one input. -/
def fnWordsBytesWrong : ChangeSpec := { name := "fnWordsBytes", fn := fun _ => fun
  | [d] => { results := [.lit (.bool false)], args := [d] }
  | _ => none }
def FnWordsBytesWrongFalsely : Prop := fnWordsBytesRow.holds Try.pinned (OpenSpec.ofChange fnWordsBytesWrong)

/-- 'laws.FnWordsFrom': WHATEVER THE INPUT: true; the input reads as it did. -/
def fnWordsFromSpec : ChangeSpec := { name := "fnWordsFrom", fn := fun _ => fun
  | [d] => { results := [.lit (.bool true)], args := [d] }
  | _ => none }
def fnWordsFromRow : OpenClaim := { program := "ytdmmgijfaligpaa", sum := "7dc688c15136524317adf8be15fd1940fbf491305b773b5b80843f327b09313e", func := "loop.example/netstack/laws.FnWordsFrom", spec := "fnWordsFrom", apart := false }
def FnWordsFromSaid : Prop := fnWordsFromRow.holds Try.pinned (OpenSpec.ofChange fnWordsFromSpec)

/-- ITS FALSE NEIGHBOUR: 'it returns false'. Refute it at one input. -/
def fnWordsFromWrong : ChangeSpec := { name := "fnWordsFrom", fn := fun _ => fun
  | [d] => { results := [.lit (.bool false)], args := [d] }
  | _ => none }
def FnWordsFromWrongFalsely : Prop := fnWordsFromRow.holds Try.pinned (OpenSpec.ofChange fnWordsFromWrong)

/-- 'laws.FnEarFree': WHATEVER THE INPUT: true; the input reads as it did. -/
def fnEarFreeSpec : ChangeSpec := { name := "fnEarFree", fn := fun _ => fun
  | [d] => { results := [.lit (.bool true)], args := [d] }
  | _ => none }
def fnEarFreeRow : OpenClaim := { program := "ytdmmgijfaligpaa", sum := "7dc688c15136524317adf8be15fd1940fbf491305b773b5b80843f327b09313e", func := "loop.example/netstack/laws.FnEarFree", spec := "fnEarFree", apart := false }
def FnEarFreeSaid : Prop := fnEarFreeRow.holds Try.pinned (OpenSpec.ofChange fnEarFreeSpec)

/-- ITS FALSE NEIGHBOUR: 'it returns false'. Refute it at one input. -/
def fnEarFreeWrong : ChangeSpec := { name := "fnEarFree", fn := fun _ => fun
  | [d] => { results := [.lit (.bool false)], args := [d] }
  | _ => none }
def FnEarFreeWrongFalsely : Prop := fnEarFreeRow.holds Try.pinned (OpenSpec.ofChange fnEarFreeWrong)

/- THE SECOND FORM. 'bulk': how many values and letters a reading holds, each counted each time it is reached (what is shared counts as often as it is met; a slice's spare places count too). A statement '..UptoSaid' is the law's where the arguments, and the package variables that the reading takes, are together of bulk at most 1048576: NARROWER than '..Said'. Prove '..Said' where nothing that the law and all that it calls make is longer than what came in: it says more and counts as full. Else prove '..UptoSaid'. A law counts once. -/
mutual
def uptoBulk {H : Type} : DataW H → Nat
  | .lit (.string bytes) => bytes.length + 1
  | .lit _ => 1
  | .nil => 1
  | .ptr d => uptoBulk d + 1
  | .slice elems spare => uptoBulkAll elems + uptoBulkAll spare + 1
  | .agg parts => uptoBulkAll parts + 1
  | .iface _ d => uptoBulk d + 1
  | .map entries => uptoBulkEntries entries + 1
  | .held _ => 1
def uptoBulkAll {H : Type} : List (DataW H) → Nat
  | [] => 0
  | d :: r => uptoBulk d + uptoBulkAll r
def uptoBulkEntries {H : Type} : List (Lit × DataW H) → Nat
  | [] => 0
  | x :: r => uptoBulkEntry x + uptoBulkEntries r
def uptoBulkEntry {H : Type} : Lit × DataW H → Nat
  | (.string bytes, d) => bytes.length + uptoBulk d + 1
  | (_, d) => uptoBulk d + 1
 end
def uptoSmall : (H : Type) → List (DataW H) → Bool := fun _ ds => decide (uptoBulkAll ds ≤ 1048576)
def OpenSpec.upto (s : _root_.Go.ChangeSpec) : _root_.Go.OpenSpec := { _root_.Go.OpenSpec.ofChange s with cond := some uptoSmall }

/-- 'laws.FnExactWordsFrom', WHERE WHAT IT READS IS OF BULK AT MOST 1048576: true; the input reads as it did. -/
def fnExactWordsFromUptoRow : OpenClaim := { program := "ytdmmgijfaligpaa", sum := "7dc688c15136524317adf8be15fd1940fbf491305b773b5b80843f327b09313e", func := "loop.example/netstack/laws.FnExactWordsFrom", spec := "fnExactWordsFrom", apart := false, narrowed := true }
def FnExactWordsFromUptoSaid : Prop := fnExactWordsFromUptoRow.holds Try.pinned (OpenSpec.upto fnExactWordsFromSpec)

/-- 'laws.FnExactWordsBytes', WHERE WHAT IT READS IS OF BULK AT MOST 1048576: true; the input reads as it did. -/
def fnExactWordsBytesUptoRow : OpenClaim := { program := "ytdmmgijfaligpaa", sum := "7dc688c15136524317adf8be15fd1940fbf491305b773b5b80843f327b09313e", func := "loop.example/netstack/laws.FnExactWordsBytes", spec := "fnExactWordsBytes", apart := false, narrowed := true }
def FnExactWordsBytesUptoSaid : Prop := fnExactWordsBytesUptoRow.holds Try.pinned (OpenSpec.upto fnExactWordsBytesSpec)

/-- 'laws.FnExactAnswer', WHERE WHAT IT READS IS OF BULK AT MOST 1048576: true; the input reads as it did. -/
def fnExactAnswerUptoRow : OpenClaim := { program := "ytdmmgijfaligpaa", sum := "7dc688c15136524317adf8be15fd1940fbf491305b773b5b80843f327b09313e", func := "loop.example/netstack/laws.FnExactAnswer", spec := "fnExactAnswer", apart := false, narrowed := true }
def FnExactAnswerUptoSaid : Prop := fnExactAnswerUptoRow.holds Try.pinned (OpenSpec.upto fnExactAnswerSpec)

/-- 'laws.FnWordsBytes', WHERE WHAT IT READS IS OF BULK AT MOST 1048576: true; the input reads as it did. -/
def fnWordsBytesUptoRow : OpenClaim := { program := "ytdmmgijfaligpaa", sum := "7dc688c15136524317adf8be15fd1940fbf491305b773b5b80843f327b09313e", func := "loop.example/netstack/laws.FnWordsBytes", spec := "fnWordsBytes", apart := false, narrowed := true }
def FnWordsBytesUptoSaid : Prop := fnWordsBytesUptoRow.holds Try.pinned (OpenSpec.upto fnWordsBytesSpec)

/-- 'laws.FnWordsFrom', WHERE WHAT IT READS IS OF BULK AT MOST 1048576: true; the input reads as it did. -/
def fnWordsFromUptoRow : OpenClaim := { program := "ytdmmgijfaligpaa", sum := "7dc688c15136524317adf8be15fd1940fbf491305b773b5b80843f327b09313e", func := "loop.example/netstack/laws.FnWordsFrom", spec := "fnWordsFrom", apart := false, narrowed := true }
def FnWordsFromUptoSaid : Prop := fnWordsFromUptoRow.holds Try.pinned (OpenSpec.upto fnWordsFromSpec)

/-- 'laws.FnEarFree', WHERE WHAT IT READS IS OF BULK AT MOST 1048576: true; the input reads as it did. -/
def fnEarFreeUptoRow : OpenClaim := { program := "ytdmmgijfaligpaa", sum := "7dc688c15136524317adf8be15fd1940fbf491305b773b5b80843f327b09313e", func := "loop.example/netstack/laws.FnEarFree", spec := "fnEarFree", apart := false, narrowed := true }
def FnEarFreeUptoSaid : Prop := fnEarFreeUptoRow.holds Try.pinned (OpenSpec.upto fnEarFreeSpec)

end Rows
end Go.Proofs.Ytdmmgijfaligpaa
