/-
  No cell of these rows narrows 'for every input' (looked for: loops, veiled, ifaces, maps, wideKeys, modest, calm, conditions, laid).
  DERIVED. THE GIVEN ROWS OF THIS SEAT. 3 by the template 'for every input the law returns true; each argument reads behind the call as it read before'; 0 by the template 'total and deterministic' (their statements: YtdoohdbfpnmndaaTotals.lean).
  GIVEN WITH THE SEED: the statements are not yours to turn. If you find one false, say at which input.
  Laid BY PROGRAM, IN A SANDBOX (cutbox-rows.mjs): the forced cells as the released guide's own fill.sh prints them over the translation 872491700bd6ef59… (all of the seat's roots in one cut). By AI agents, Wed Nov 11 2026. No macro, syntax, notation, axiom, sorry.
-/
import Derived.Test.YtdoohdbfpnmndaaChecked
import GoSem.Claim
import GoSem.ClaimJoined
import GoSem.ClaimMapViews
import Derived.JoinedTies
import Derived.KernelRfl
namespace Go.Proofs.Ytdoohdbfpnmndaa
/- THE CELL 'sum', in the pinned program and in every row, IS THE sha256 OF THE DUMP (.gsa) THAT YtdoohdbfpnmndaaProg.lean LOADS. Nothing in Lean hashes anything: it is a label: what it is worth is what the hold of that sum in a sandbox is worth. -/
noncomputable def Try.pinned : Pinned := { name := "ytdoohdbfpnmndaa", sum := "872491700bd6ef591411170ceaa6d31eff6284175272e22d1114737778f05a3c", checked := Try.checked }
namespace Rows
def none {H : Type} : Left H := { results := [], args := [] }

/-- 'laws.FnExactNearHear': WHATEVER THE INPUT: true; the input reads as it did. -/
def fnExactNearHearSpec : ChangeSpec := { name := "fnExactNearHear", fn := fun _ => fun
  | [d1, d2, d3, d4] => { results := [.lit (.bool true)], args := [d1, d2, d3, d4] }
  | _ => none }
def fnExactNearHearRow : OpenClaim := { program := "ytdoohdbfpnmndaa", sum := "872491700bd6ef591411170ceaa6d31eff6284175272e22d1114737778f05a3c", func := "loop.example/netstack/laws.FnExactNearHear", spec := "fnExactNearHear", unfollowed := true, recurses := true, apart := false }
def FnExactNearHearSaid : Prop := fnExactNearHearRow.holds Try.pinned (OpenSpec.ofChange fnExactNearHearSpec)

/-- ITS FALSE NEIGHBOUR: 'it returns false'. Refute it at one input. -/
def fnExactNearHearWrong : ChangeSpec := { name := "fnExactNearHear", fn := fun _ => fun
  | [d1, d2, d3, d4] => { results := [.lit (.bool false)], args := [d1, d2, d3, d4] }
  | _ => none }
def FnExactNearHearWrongFalsely : Prop := fnExactNearHearRow.holds Try.pinned (OpenSpec.ofChange fnExactNearHearWrong)

/-- 'laws.FnNearHear': WHATEVER THE INPUT: true; the input reads as it did. -/
def fnNearHearSpec : ChangeSpec := { name := "fnNearHear", fn := fun _ => fun
  | [d] => { results := [.lit (.bool true)], args := [d] }
  | _ => none }
def fnNearHearRow : OpenClaim := { program := "ytdoohdbfpnmndaa", sum := "872491700bd6ef591411170ceaa6d31eff6284175272e22d1114737778f05a3c", func := "loop.example/netstack/laws.FnNearHear", spec := "fnNearHear", unfollowed := true, recurses := true, apart := false }
def FnNearHearSaid : Prop := fnNearHearRow.holds Try.pinned (OpenSpec.ofChange fnNearHearSpec)

/-- ITS FALSE NEIGHBOUR: 'it returns false'. Refute it at one input. -/
def fnNearHearWrong : ChangeSpec := { name := "fnNearHear", fn := fun _ => fun
  | [d] => { results := [.lit (.bool false)], args := [d] }
  | _ => none }
def FnNearHearWrongFalsely : Prop := fnNearHearRow.holds Try.pinned (OpenSpec.ofChange fnNearHearWrong)

/-- 'laws.FnWholeAsking': WHATEVER THE INPUT: true; the input reads as it did. -/
def fnWholeAskingSpec : ChangeSpec := { name := "fnWholeAsking", fn := fun _ => fun
  | [d] => { results := [.lit (.bool true)], args := [d] }
  | _ => none }
def fnWholeAskingRow : OpenClaim := { program := "ytdoohdbfpnmndaa", sum := "872491700bd6ef591411170ceaa6d31eff6284175272e22d1114737778f05a3c", func := "loop.example/netstack/laws.FnWholeAsking", spec := "fnWholeAsking", unfollowed := true, recurses := true, apart := false }
def FnWholeAskingSaid : Prop := fnWholeAskingRow.holds Try.pinned (OpenSpec.ofChange fnWholeAskingSpec)

/-- ITS FALSE NEIGHBOUR: 'it returns false'. Refute it at one input. -/
def fnWholeAskingWrong : ChangeSpec := { name := "fnWholeAsking", fn := fun _ => fun
  | [d] => { results := [.lit (.bool false)], args := [d] }
  | _ => none }
def FnWholeAskingWrongFalsely : Prop := fnWholeAskingRow.holds Try.pinned (OpenSpec.ofChange fnWholeAskingWrong)

/- THE SECOND FORM. 'bulk': how many values and letters a reading holds, each counted each time it is reached (what is shared counts as often as it is met; a slice's spare places count too). A statement '..UptoSaid' is the law's where the arguments, and the package variables that the reading takes, are together of bulk at most 1048576: NARROWER than '..Said'. Prove '..Said' where nothing that the law and all that it calls make is longer than what came in: it says more and counts as full. Else prove '..UptoSaid'. A law counts once. -/
mutual
def uptoBulk {H : Type} : DataW H → Nat
  | .lit (.string bytes) => bytes.length + 1
  | .lit _ => 1
  | .nil => 1
  | .ptr d => uptoBulk d + 1
  | .slice elems spare => uptoBulkAll elems + uptoBulkAll spare + 1
  | .agg parts => uptoBulkAll parts + 1
  | .iface _ d => uptoBulk d + 1
  | .map entries => uptoBulkEntries entries + 1
  | .held _ => 1
def uptoBulkAll {H : Type} : List (DataW H) → Nat
  | [] => 0
  | d :: r => uptoBulk d + uptoBulkAll r
def uptoBulkEntries {H : Type} : List (Lit × DataW H) → Nat
  | [] => 0
  | x :: r => uptoBulkEntry x + uptoBulkEntries r
def uptoBulkEntry {H : Type} : Lit × DataW H → Nat
  | (.string bytes, d) => bytes.length + uptoBulk d + 1
  | (_, d) => uptoBulk d + 1
 end
def uptoSmall : (H : Type) → List (DataW H) → Bool := fun _ ds => decide (uptoBulkAll ds ≤ 1048576)
def OpenSpec.upto (s : _root_.Go.ChangeSpec) : _root_.Go.OpenSpec := { _root_.Go.OpenSpec.ofChange s with cond := some uptoSmall }

/-- 'laws.FnExactNearHear', WHERE WHAT IT READS IS OF BULK AT MOST 1048576: true; the input reads as it did. -/
def fnExactNearHearUptoRow : OpenClaim := { program := "ytdoohdbfpnmndaa", sum := "872491700bd6ef591411170ceaa6d31eff6284175272e22d1114737778f05a3c", func := "loop.example/netstack/laws.FnExactNearHear", spec := "fnExactNearHear", unfollowed := true, recurses := true, apart := false, narrowed := true }
def FnExactNearHearUptoSaid : Prop := fnExactNearHearUptoRow.holds Try.pinned (OpenSpec.upto fnExactNearHearSpec)

/-- 'laws.FnNearHear', WHERE WHAT IT READS IS OF BULK AT MOST 1048576: true; the input reads as it did. -/
def fnNearHearUptoRow : OpenClaim := { program := "ytdoohdbfpnmndaa", sum := "872491700bd6ef591411170ceaa6d31eff6284175272e22d1114737778f05a3c", func := "loop.example/netstack/laws.FnNearHear", spec := "fnNearHear", unfollowed := true, recurses := true, apart := false, narrowed := true }
def FnNearHearUptoSaid : Prop := fnNearHearUptoRow.holds Try.pinned (OpenSpec.upto fnNearHearSpec)

/-- 'laws.FnWholeAsking', WHERE WHAT IT READS IS OF BULK AT MOST 1048576: true; the input reads as it did. -/
def fnWholeAskingUptoRow : OpenClaim := { program := "ytdoohdbfpnmndaa", sum := "872491700bd6ef591411170ceaa6d31eff6284175272e22d1114737778f05a3c", func := "loop.example/netstack/laws.FnWholeAsking", spec := "fnWholeAsking", unfollowed := true, recurses := true, apart := false, narrowed := true }
def FnWholeAskingUptoSaid : Prop := fnWholeAskingUptoRow.holds Try.pinned (OpenSpec.upto fnWholeAskingSpec)

end Rows
end Go.Proofs.Ytdoohdbfpnmndaa
