/-
  No cell of these rows narrows 'for every input' (looked for: loops, veiled, ifaces, maps, wideKeys, modest, calm, conditions, laid).
  DERIVED. THE GIVEN ROWS OF THIS SEAT. 5 by the template 'for every input the law returns true; each argument reads behind the call as it read before'; 0 by the template 'total and deterministic' (their statements: YtlheknapgonakaaTotals.lean).
  GIVEN WITH THE SEED: the statements are not yours to turn. If you find one false, say at which input.
  Laid BY PROGRAM, IN A SANDBOX (cutbox-rows.mjs): the forced cells as the released guide's own fill.sh prints them over the translation 357e6823bec4ed7d… (all of the seat's roots in one cut). By AI agents, Wed Nov 11 2026. No macro, syntax, notation, axiom, sorry.
-/
import Derived.Test.YtlheknapgonakaaChecked
import GoSem.Claim
import GoSem.ClaimJoined
import GoSem.ClaimMapViews
import Derived.JoinedTies
import Derived.KernelRfl
namespace Go.Proofs.Ytlheknapgonakaa
/- THE CELL 'sum', in the pinned program and in every row, IS THE sha256 OF THE DUMP (.gsa) THAT YtlheknapgonakaaProg.lean LOADS. Nothing in Lean hashes anything: it is a label: what it is worth is what the hold of that sum in a sandbox is worth. -/
noncomputable def Try.pinned : Pinned := { name := "ytlheknapgonakaa", sum := "357e6823bec4ed7d2451eb3e897905ff82ef0c9a155f3d86332784aff90eb372", checked := Try.checked }
namespace Rows
def none {H : Type} : Left H := { results := [], args := [] }

/-- 'strakelaw18.ReplayMore': WHATEVER THE INPUT: true; the input reads as it did. -/
def replayMoreSpec : ChangeSpec := { name := "replayMore", fn := fun _ => fun
  | [d1, d2, d3] => { results := [.lit (.bool true)], args := [d1, d2, d3] }
  | _ => none }
def replayMoreRow : OpenClaim := { program := "ytlheknapgonakaa", sum := "357e6823bec4ed7d2451eb3e897905ff82ef0c9a155f3d86332784aff90eb372", func := "strake/strakelaw18.ReplayMore", spec := "replayMore", apart := false }
def ReplayMoreSaid : Prop := replayMoreRow.holds Try.pinned (OpenSpec.ofChange replayMoreSpec)

/-- ITS FALSE NEIGHBOUR: 'it returns false'. Refute it at one input. -/
def replayMoreWrong : ChangeSpec := { name := "replayMore", fn := fun _ => fun
  | [d1, d2, d3] => { results := [.lit (.bool false)], args := [d1, d2, d3] }
  | _ => none }
def ReplayMoreWrongFalsely : Prop := replayMoreRow.holds Try.pinned (OpenSpec.ofChange replayMoreWrong)

/-- 'strakelaw18.ReplayStale': WHATEVER THE INPUT: true; the input reads as it did. -/
def replayStaleSpec : ChangeSpec := { name := "replayStale", fn := fun _ => fun
  | [d1, d2] => { results := [.lit (.bool true)], args := [d1, d2] }
  | _ => none }
def replayStaleRow : OpenClaim := { program := "ytlheknapgonakaa", sum := "357e6823bec4ed7d2451eb3e897905ff82ef0c9a155f3d86332784aff90eb372", func := "strake/strakelaw18.ReplayStale", spec := "replayStale", recurses := true, apart := false }
def ReplayStaleSaid : Prop := replayStaleRow.holds Try.pinned (OpenSpec.ofChange replayStaleSpec)

/-- ITS FALSE NEIGHBOUR: 'it returns false'. Refute it at one input. -/
def replayStaleWrong : ChangeSpec := { name := "replayStale", fn := fun _ => fun
  | [d1, d2] => { results := [.lit (.bool false)], args := [d1, d2] }
  | _ => none }
def ReplayStaleWrongFalsely : Prop := replayStaleRow.holds Try.pinned (OpenSpec.ofChange replayStaleWrong)

/-- 'strakelaw18.ReplayTurned': WHATEVER THE INPUT: true; the input reads as it did. -/
def replayTurnedSpec : ChangeSpec := { name := "replayTurned", fn := fun _ => fun
  | [d1, d2, d3] => { results := [.lit (.bool true)], args := [d1, d2, d3] }
  | _ => none }
def replayTurnedRow : OpenClaim := { program := "ytlheknapgonakaa", sum := "357e6823bec4ed7d2451eb3e897905ff82ef0c9a155f3d86332784aff90eb372", func := "strake/strakelaw18.ReplayTurned", spec := "replayTurned", recurses := true, apart := false }
def ReplayTurnedSaid : Prop := replayTurnedRow.holds Try.pinned (OpenSpec.ofChange replayTurnedSpec)

/-- ITS FALSE NEIGHBOUR: 'it returns false'. Refute it at one input. -/
def replayTurnedWrong : ChangeSpec := { name := "replayTurned", fn := fun _ => fun
  | [d1, d2, d3] => { results := [.lit (.bool false)], args := [d1, d2, d3] }
  | _ => none }
def ReplayTurnedWrongFalsely : Prop := replayTurnedRow.holds Try.pinned (OpenSpec.ofChange replayTurnedWrong)

/-- 'strakelaw18.ReplayAgain': WHATEVER THE INPUT: true; the input reads as it did. -/
def replayAgainSpec : ChangeSpec := { name := "replayAgain", fn := fun _ => fun
  | [d1, d2] => { results := [.lit (.bool true)], args := [d1, d2] }
  | _ => none }
def replayAgainRow : OpenClaim := { program := "ytlheknapgonakaa", sum := "357e6823bec4ed7d2451eb3e897905ff82ef0c9a155f3d86332784aff90eb372", func := "strake/strakelaw18.ReplayAgain", spec := "replayAgain", recurses := true, apart := false }
def ReplayAgainSaid : Prop := replayAgainRow.holds Try.pinned (OpenSpec.ofChange replayAgainSpec)

/-- ITS FALSE NEIGHBOUR: 'it returns false'. Refute it at one input. -/
def replayAgainWrong : ChangeSpec := { name := "replayAgain", fn := fun _ => fun
  | [d1, d2] => { results := [.lit (.bool false)], args := [d1, d2] }
  | _ => none }
def ReplayAgainWrongFalsely : Prop := replayAgainRow.holds Try.pinned (OpenSpec.ofChange replayAgainWrong)

/-- 'strakelaw18.ReplayParts': WHATEVER THE INPUT: true; the input reads as it did. -/
def replayPartsSpec : ChangeSpec := { name := "replayParts", fn := fun _ => fun
  | [d1, d2] => { results := [.lit (.bool true)], args := [d1, d2] }
  | _ => none }
def replayPartsRow : OpenClaim := { program := "ytlheknapgonakaa", sum := "357e6823bec4ed7d2451eb3e897905ff82ef0c9a155f3d86332784aff90eb372", func := "strake/strakelaw18.ReplayParts", spec := "replayParts", recurses := true, apart := false }
def ReplayPartsSaid : Prop := replayPartsRow.holds Try.pinned (OpenSpec.ofChange replayPartsSpec)

/-- ITS FALSE NEIGHBOUR: 'it returns false'. Refute it at one input. -/
def replayPartsWrong : ChangeSpec := { name := "replayParts", fn := fun _ => fun
  | [d1, d2] => { results := [.lit (.bool false)], args := [d1, d2] }
  | _ => none }
def ReplayPartsWrongFalsely : Prop := replayPartsRow.holds Try.pinned (OpenSpec.ofChange replayPartsWrong)

/- THE SECOND FORM. 'bulk': how many values and letters a reading holds, each counted each time it is reached (what is shared counts as often as it is met; a slice's spare places count too). A statement '..UptoSaid' is the law's where the arguments, and the package variables that the reading takes, are together of bulk at most 1048576: NARROWER than '..Said'. Prove '..Said' where nothing that the law and all that it calls make is longer than what came in: it says more and counts as full. Else prove '..UptoSaid'. A law counts once. -/
mutual
def uptoBulk {H : Type} : DataW H → Nat
  | .lit (.string bytes) => bytes.length + 1
  | .lit _ => 1
  | .nil => 1
  | .ptr d => uptoBulk d + 1
  | .slice elems spare => uptoBulkAll elems + uptoBulkAll spare + 1
  | .agg parts => uptoBulkAll parts + 1
  | .iface _ d => uptoBulk d + 1
  | .map entries => uptoBulkEntries entries + 1
  | .held _ => 1
def uptoBulkAll {H : Type} : List (DataW H) → Nat
  | [] => 0
  | d :: r => uptoBulk d + uptoBulkAll r
def uptoBulkEntries {H : Type} : List (Lit × DataW H) → Nat
  | [] => 0
  | x :: r => uptoBulkEntry x + uptoBulkEntries r
def uptoBulkEntry {H : Type} : Lit × DataW H → Nat
  | (.string bytes, d) => bytes.length + uptoBulk d + 1
  | (_, d) => uptoBulk d + 1
 end
def uptoSmall : (H : Type) → List (DataW H) → Bool := fun _ ds => decide (uptoBulkAll ds ≤ 1048576)
def OpenSpec.upto (s : _root_.Go.ChangeSpec) : _root_.Go.OpenSpec := { _root_.Go.OpenSpec.ofChange s with cond := some uptoSmall }

/-- 'strakelaw18.ReplayMore', WHERE WHAT IT READS IS OF BULK AT MOST 1048576: true; the input reads as it did. -/
def replayMoreUptoRow : OpenClaim := { program := "ytlheknapgonakaa", sum := "357e6823bec4ed7d2451eb3e897905ff82ef0c9a155f3d86332784aff90eb372", func := "strake/strakelaw18.ReplayMore", spec := "replayMore", apart := false, narrowed := true }
def ReplayMoreUptoSaid : Prop := replayMoreUptoRow.holds Try.pinned (OpenSpec.upto replayMoreSpec)

/-- 'strakelaw18.ReplayStale', WHERE WHAT IT READS IS OF BULK AT MOST 1048576: true; the input reads as it did. -/
def replayStaleUptoRow : OpenClaim := { program := "ytlheknapgonakaa", sum := "357e6823bec4ed7d2451eb3e897905ff82ef0c9a155f3d86332784aff90eb372", func := "strake/strakelaw18.ReplayStale", spec := "replayStale", recurses := true, apart := false, narrowed := true }
def ReplayStaleUptoSaid : Prop := replayStaleUptoRow.holds Try.pinned (OpenSpec.upto replayStaleSpec)

/-- 'strakelaw18.ReplayTurned', WHERE WHAT IT READS IS OF BULK AT MOST 1048576: true; the input reads as it did. -/
def replayTurnedUptoRow : OpenClaim := { program := "ytlheknapgonakaa", sum := "357e6823bec4ed7d2451eb3e897905ff82ef0c9a155f3d86332784aff90eb372", func := "strake/strakelaw18.ReplayTurned", spec := "replayTurned", recurses := true, apart := false, narrowed := true }
def ReplayTurnedUptoSaid : Prop := replayTurnedUptoRow.holds Try.pinned (OpenSpec.upto replayTurnedSpec)

/-- 'strakelaw18.ReplayAgain', WHERE WHAT IT READS IS OF BULK AT MOST 1048576: true; the input reads as it did. -/
def replayAgainUptoRow : OpenClaim := { program := "ytlheknapgonakaa", sum := "357e6823bec4ed7d2451eb3e897905ff82ef0c9a155f3d86332784aff90eb372", func := "strake/strakelaw18.ReplayAgain", spec := "replayAgain", recurses := true, apart := false, narrowed := true }
def ReplayAgainUptoSaid : Prop := replayAgainUptoRow.holds Try.pinned (OpenSpec.upto replayAgainSpec)

/-- 'strakelaw18.ReplayParts', WHERE WHAT IT READS IS OF BULK AT MOST 1048576: true; the input reads as it did. -/
def replayPartsUptoRow : OpenClaim := { program := "ytlheknapgonakaa", sum := "357e6823bec4ed7d2451eb3e897905ff82ef0c9a155f3d86332784aff90eb372", func := "strake/strakelaw18.ReplayParts", spec := "replayParts", recurses := true, apart := false, narrowed := true }
def ReplayPartsUptoSaid : Prop := replayPartsUptoRow.holds Try.pinned (OpenSpec.upto replayPartsSpec)

end Rows
end Go.Proofs.Ytlheknapgonakaa
