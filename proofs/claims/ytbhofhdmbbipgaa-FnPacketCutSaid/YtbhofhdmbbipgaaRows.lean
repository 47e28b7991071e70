/-
  No cell of these rows narrows 'for every input' (looked for: loops, veiled, ifaces, maps, wideKeys, modest, calm, conditions, laid).
  DERIVED. THE GIVEN ROWS OF THIS SEAT. 6 by the template 'for every input the law returns true; each argument reads behind the call as it read before'; 0 by the template 'total and deterministic' (their statements: YtbhofhdmbbipgaaTotals.lean).
  GIVEN WITH THE SEED: the statements are not yours to turn. If you find one false, say at which input.
  Laid BY PROGRAM, IN A SANDBOX (cutbox-rows.mjs): the forced cells as the released guide's own fill.sh prints them over the translation af2be8ad9b4581f0… (all of the seat's roots in one cut). By AI agents, Wed Nov 11 2026. No macro, syntax, notation, axiom, sorry.
-/
import Derived.Test.YtbhofhdmbbipgaaChecked
import GoSem.Claim
import GoSem.ClaimJoined
import GoSem.ClaimMapViews
import Derived.JoinedTies
import Derived.KernelRfl
namespace Go.Proofs.Ytbhofhdmbbipgaa
/- THE CELL 'sum', in the pinned program and in every row, IS THE sha256 OF THE DUMP (.gsa) THAT YtbhofhdmbbipgaaProg.lean LOADS. Nothing in Lean hashes anything: it is a label: what it is worth is what the hold of that sum in a sandbox is worth. -/
noncomputable def Try.pinned : Pinned := { name := "ytbhofhdmbbipgaa", sum := "af2be8ad9b4581f0390313439e7ba82d9a4cee96bba07991e0e3f53b23638cc6", checked := Try.checked }
namespace Rows
def none {H : Type} : Left H := { results := [], args := [] }

/-- 'laws.FnPacketCut': WHATEVER THE INPUT: true; the input reads as it did. -/
def fnPacketCutSpec : ChangeSpec := { name := "fnPacketCut", fn := fun _ => fun
  | [d] => { results := [.lit (.bool true)], args := [d] }
  | _ => none }
def fnPacketCutRow : OpenClaim := { program := "ytbhofhdmbbipgaa", sum := "af2be8ad9b4581f0390313439e7ba82d9a4cee96bba07991e0e3f53b23638cc6", func := "loop.example/netstack/laws.FnPacketCut", spec := "fnPacketCut", unfollowed := true, recurses := true, apart := false }
def FnPacketCutSaid : Prop := fnPacketCutRow.holds Try.pinned (OpenSpec.ofChange fnPacketCutSpec)

/-- ITS FALSE NEIGHBOUR: 'it returns false'. Refute it at one input. -/
def fnPacketCutWrong : ChangeSpec := { name := "fnPacketCut", fn := fun _ => fun
  | [d] => { results := [.lit (.bool false)], args := [d] }
  | _ => none }
def FnPacketCutWrongFalsely : Prop := fnPacketCutRow.holds Try.pinned (OpenSpec.ofChange fnPacketCutWrong)

/-- 'laws.FnExactPacketCut': WHATEVER THE INPUT: true; the input reads as it did. -/
def fnExactPacketCutSpec : ChangeSpec := { name := "fnExactPacketCut", fn := fun _ => fun
  | [d1, d2] => { results := [.lit (.bool true)], args := [d1, d2] }
  | _ => none }
def fnExactPacketCutRow : OpenClaim := { program := "ytbhofhdmbbipgaa", sum := "af2be8ad9b4581f0390313439e7ba82d9a4cee96bba07991e0e3f53b23638cc6", func := "loop.example/netstack/laws.FnExactPacketCut", spec := "fnExactPacketCut", unfollowed := true, recurses := true, apart := false }
def FnExactPacketCutSaid : Prop := fnExactPacketCutRow.holds Try.pinned (OpenSpec.ofChange fnExactPacketCutSpec)

/-- ITS FALSE NEIGHBOUR: 'it returns false'. Refute it at one input. -/
def fnExactPacketCutWrong : ChangeSpec := { name := "fnExactPacketCut", fn := fun _ => fun
  | [d1, d2] => { results := [.lit (.bool false)], args := [d1, d2] }
  | _ => none }
def FnExactPacketCutWrongFalsely : Prop := fnExactPacketCutRow.holds Try.pinned (OpenSpec.ofChange fnExactPacketCutWrong)

/-- 'laws.FnExactEarHear': WHATEVER THE INPUT: true; the input reads as it did. -/
def fnExactEarHearSpec : ChangeSpec := { name := "fnExactEarHear", fn := fun _ => fun
  | [d1, d2, d3] => { results := [.lit (.bool true)], args := [d1, d2, d3] }
  | _ => none }
def fnExactEarHearRow : OpenClaim := { program := "ytbhofhdmbbipgaa", sum := "af2be8ad9b4581f0390313439e7ba82d9a4cee96bba07991e0e3f53b23638cc6", func := "loop.example/netstack/laws.FnExactEarHear", spec := "fnExactEarHear", inPlace := ["slices.overlaps[loop.example/netstack/impl.Early]"], unfollowed := true, recurses := true, apart := false }
def FnExactEarHearSaid : Prop := fnExactEarHearRow.holds Try.pinned (OpenSpec.ofChange fnExactEarHearSpec)

/-- ITS FALSE NEIGHBOUR: 'it returns false'. Refute it at one input. -/
def fnExactEarHearWrong : ChangeSpec := { name := "fnExactEarHear", fn := fun _ => fun
  | [d1, d2, d3] => { results := [.lit (.bool false)], args := [d1, d2, d3] }
  | _ => none }
def FnExactEarHearWrongFalsely : Prop := fnExactEarHearRow.holds Try.pinned (OpenSpec.ofChange fnExactEarHearWrong)

/-- 'laws.FnEarHear': WHATEVER THE INPUT: true; the input reads as it did. -/
def fnEarHearSpec : ChangeSpec := { name := "fnEarHear", fn := fun _ => fun
  | [d] => { results := [.lit (.bool true)], args := [d] }
  | _ => none }
def fnEarHearRow : OpenClaim := { program := "ytbhofhdmbbipgaa", sum := "af2be8ad9b4581f0390313439e7ba82d9a4cee96bba07991e0e3f53b23638cc6", func := "loop.example/netstack/laws.FnEarHear", spec := "fnEarHear", inPlace := ["slices.overlaps[loop.example/netstack/impl.Early]"], unfollowed := true, recurses := true, apart := false }
def FnEarHearSaid : Prop := fnEarHearRow.holds Try.pinned (OpenSpec.ofChange fnEarHearSpec)

/-- ITS FALSE NEIGHBOUR: 'it returns false'. Refute it at one input. -/
def fnEarHearWrong : ChangeSpec := { name := "fnEarHear", fn := fun _ => fun
  | [d] => { results := [.lit (.bool false)], args := [d] }
  | _ => none }
def FnEarHearWrongFalsely : Prop := fnEarHearRow.holds Try.pinned (OpenSpec.ofChange fnEarHearWrong)

/-- 'laws.FnListening': WHATEVER THE INPUT: true; the input reads as it did. -/
def fnListeningSpec : ChangeSpec := { name := "fnListening", fn := fun _ => fun
  | [d] => { results := [.lit (.bool true)], args := [d] }
  | _ => none }
def fnListeningRow : OpenClaim := { program := "ytbhofhdmbbipgaa", sum := "af2be8ad9b4581f0390313439e7ba82d9a4cee96bba07991e0e3f53b23638cc6", func := "loop.example/netstack/laws.FnListening", spec := "fnListening", inPlace := ["slices.overlaps[loop.example/netstack/impl.Early]"], unfollowed := true, recurses := true, apart := false }
def FnListeningSaid : Prop := fnListeningRow.holds Try.pinned (OpenSpec.ofChange fnListeningSpec)

/-- ITS FALSE NEIGHBOUR: 'it returns false'. Refute it at one input. -/
def fnListeningWrong : ChangeSpec := { name := "fnListening", fn := fun _ => fun
  | [d] => { results := [.lit (.bool false)], args := [d] }
  | _ => none }
def FnListeningWrongFalsely : Prop := fnListeningRow.holds Try.pinned (OpenSpec.ofChange fnListeningWrong)

/-- 'laws.FnTalk': WHATEVER THE INPUT: true; the input reads as it did. -/
def fnTalkSpec : ChangeSpec := { name := "fnTalk", fn := fun _ => fun
  | [d] => { results := [.lit (.bool true)], args := [d] }
  | _ => none }
def fnTalkRow : OpenClaim := { program := "ytbhofhdmbbipgaa", sum := "af2be8ad9b4581f0390313439e7ba82d9a4cee96bba07991e0e3f53b23638cc6", func := "loop.example/netstack/laws.FnTalk", spec := "fnTalk", inPlace := ["slices.overlaps[loop.example/netstack/impl.Early]"], unfollowed := true, recurses := true, apart := false }
def FnTalkSaid : Prop := fnTalkRow.holds Try.pinned (OpenSpec.ofChange fnTalkSpec)

/-- ITS FALSE NEIGHBOUR: 'it returns false'. Refute it at one input. -/
def fnTalkWrong : ChangeSpec := { name := "fnTalk", fn := fun _ => fun
  | [d] => { results := [.lit (.bool false)], args := [d] }
  | _ => none }
def FnTalkWrongFalsely : Prop := fnTalkRow.holds Try.pinned (OpenSpec.ofChange fnTalkWrong)

/- THE SECOND FORM. 'bulk': how many values and letters a reading holds, each counted each time it is reached (what is shared counts as often as it is met; a slice's spare places count too). A statement '..UptoSaid' is the law's where the arguments, and the package variables that the reading takes, are together of bulk at most 1048576: NARROWER than '..Said'. Prove '..Said' where nothing that the law and all that it calls make is longer than what came in: it says more and counts as full. Else prove '..UptoSaid'. A law counts once. -/
mutual
def uptoBulk {H : Type} : DataW H → Nat
  | .lit (.string bytes) => bytes.length + 1
  | .lit _ => 1
  | .nil => 1
  | .ptr d => uptoBulk d + 1
  | .slice elems spare => uptoBulkAll elems + uptoBulkAll spare + 1
  | .agg parts => uptoBulkAll parts + 1
  | .iface _ d => uptoBulk d + 1
  | .map entries => uptoBulkEntries entries + 1
  | .held _ => 1
def uptoBulkAll {H : Type} : List (DataW H) → Nat
  | [] => 0
  | d :: r => uptoBulk d + uptoBulkAll r
def uptoBulkEntries {H : Type} : List (Lit × DataW H) → Nat
  | [] => 0
  | x :: r => uptoBulkEntry x + uptoBulkEntries r
def uptoBulkEntry {H : Type} : Lit × DataW H → Nat
  | (.string bytes, d) => bytes.length + uptoBulk d + 1
  | (_, d) => uptoBulk d + 1
 end
def uptoSmall : (H : Type) → List (DataW H) → Bool := fun _ ds => decide (uptoBulkAll ds ≤ 1048576)
def OpenSpec.upto (s : _root_.Go.ChangeSpec) : _root_.Go.OpenSpec := { _root_.Go.OpenSpec.ofChange s with cond := some uptoSmall }

/-- 'laws.FnPacketCut', WHERE WHAT IT READS IS OF BULK AT MOST 1048576: true; the input reads as it did. -/
def fnPacketCutUptoRow : OpenClaim := { program := "ytbhofhdmbbipgaa", sum := "af2be8ad9b4581f0390313439e7ba82d9a4cee96bba07991e0e3f53b23638cc6", func := "loop.example/netstack/laws.FnPacketCut", spec := "fnPacketCut", unfollowed := true, recurses := true, apart := false, narrowed := true }
def FnPacketCutUptoSaid : Prop := fnPacketCutUptoRow.holds Try.pinned (OpenSpec.upto fnPacketCutSpec)

/-- 'laws.FnExactPacketCut', WHERE WHAT IT READS IS OF BULK AT MOST 1048576: true; the input reads as it did. -/
def fnExactPacketCutUptoRow : OpenClaim := { program := "ytbhofhdmbbipgaa", sum := "af2be8ad9b4581f0390313439e7ba82d9a4cee96bba07991e0e3f53b23638cc6", func := "loop.example/netstack/laws.FnExactPacketCut", spec := "fnExactPacketCut", unfollowed := true, recurses := true, apart := false, narrowed := true }
def FnExactPacketCutUptoSaid : Prop := fnExactPacketCutUptoRow.holds Try.pinned (OpenSpec.upto fnExactPacketCutSpec)

/-- 'laws.FnExactEarHear', WHERE WHAT IT READS IS OF BULK AT MOST 1048576: true; the input reads as it did. -/
def fnExactEarHearUptoRow : OpenClaim := { program := "ytbhofhdmbbipgaa", sum := "af2be8ad9b4581f0390313439e7ba82d9a4cee96bba07991e0e3f53b23638cc6", func := "loop.example/netstack/laws.FnExactEarHear", spec := "fnExactEarHear", inPlace := ["slices.overlaps[loop.example/netstack/impl.Early]"], unfollowed := true, recurses := true, apart := false, narrowed := true }
def FnExactEarHearUptoSaid : Prop := fnExactEarHearUptoRow.holds Try.pinned (OpenSpec.upto fnExactEarHearSpec)

/-- 'laws.FnEarHear', WHERE WHAT IT READS IS OF BULK AT MOST 1048576: true; the input reads as it did. -/
def fnEarHearUptoRow : OpenClaim := { program := "ytbhofhdmbbipgaa", sum := "af2be8ad9b4581f0390313439e7ba82d9a4cee96bba07991e0e3f53b23638cc6", func := "loop.example/netstack/laws.FnEarHear", spec := "fnEarHear", inPlace := ["slices.overlaps[loop.example/netstack/impl.Early]"], unfollowed := true, recurses := true, apart := false, narrowed := true }
def FnEarHearUptoSaid : Prop := fnEarHearUptoRow.holds Try.pinned (OpenSpec.upto fnEarHearSpec)

/-- 'laws.FnListening', WHERE WHAT IT READS IS OF BULK AT MOST 1048576: true; the input reads as it did. -/
def fnListeningUptoRow : OpenClaim := { program := "ytbhofhdmbbipgaa", sum := "af2be8ad9b4581f0390313439e7ba82d9a4cee96bba07991e0e3f53b23638cc6", func := "loop.example/netstack/laws.FnListening", spec := "fnListening", inPlace := ["slices.overlaps[loop.example/netstack/impl.Early]"], unfollowed := true, recurses := true, apart := false, narrowed := true }
def FnListeningUptoSaid : Prop := fnListeningUptoRow.holds Try.pinned (OpenSpec.upto fnListeningSpec)

/-- 'laws.FnTalk', WHERE WHAT IT READS IS OF BULK AT MOST 1048576: true; the input reads as it did. -/
def fnTalkUptoRow : OpenClaim := { program := "ytbhofhdmbbipgaa", sum := "af2be8ad9b4581f0390313439e7ba82d9a4cee96bba07991e0e3f53b23638cc6", func := "loop.example/netstack/laws.FnTalk", spec := "fnTalk", inPlace := ["slices.overlaps[loop.example/netstack/impl.Early]"], unfollowed := true, recurses := true, apart := false, narrowed := true }
def FnTalkUptoSaid : Prop := fnTalkUptoRow.holds Try.pinned (OpenSpec.upto fnTalkSpec)

end Rows
end Go.Proofs.Ytbhofhdmbbipgaa
