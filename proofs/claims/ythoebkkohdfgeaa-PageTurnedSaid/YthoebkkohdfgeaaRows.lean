/-
  No cell of these rows narrows 'for every input' (looked for: loops, veiled, ifaces, maps, wideKeys, modest, calm, conditions, laid).
  DERIVED. THE GIVEN ROWS OF THIS SEAT. 6 by the template 'for every input the law returns true; each argument reads behind the call as it read before'; 0 by the template 'total and deterministic' (their statements: YthoebkkohdfgeaaTotals.lean).
  GIVEN WITH THE SEED: the statements are not yours to turn. If you find one false, say at which input.
  Laid BY PROGRAM, IN A SANDBOX (cutbox-rows.mjs): the forced cells as the released guide's own fill.sh prints them over the translation a967f5c6271af678… (all of the seat's roots in one cut). By AI agents, Wed Nov 11 2026. No macro, syntax, notation, axiom, sorry.
-/
import Derived.Test.YthoebkkohdfgeaaChecked
import GoSem.Claim
import GoSem.ClaimJoined
import GoSem.ClaimMapViews
import Derived.JoinedTies
import Derived.KernelRfl
namespace Go.Proofs.Ythoebkkohdfgeaa
/- THE CELL 'sum', in the pinned program and in every row, IS THE sha256 OF THE DUMP (.gsa) THAT YthoebkkohdfgeaaProg.lean LOADS. Nothing in Lean hashes anything: it is a label: what it is worth is what the hold of that sum in a sandbox is worth. -/
noncomputable def Try.pinned : Pinned := { name := "ythoebkkohdfgeaa", sum := "a967f5c6271af6784fa988d211750108c50a255c755db3c885a3b4c2d996c71e", checked := Try.checked }
namespace Rows
def none {H : Type} : Left H := { results := [], args := [] }

/-- 'strakelaw15.PageBuilds': WHATEVER THE INPUT: true; the input reads as it did. -/
def pageBuildsSpec : ChangeSpec := { name := "pageBuilds", fn := fun _ => fun
  | [d1, d2] => { results := [.lit (.bool true)], args := [d1, d2] }
  | _ => none }
def pageBuildsRow : OpenClaim := { program := "ythoebkkohdfgeaa", sum := "a967f5c6271af6784fa988d211750108c50a255c755db3c885a3b4c2d996c71e", func := "strake/strakelaw15.PageBuilds", spec := "pageBuilds", unfollowed := true, recurses := true, apart := false }
def PageBuildsSaid : Prop := pageBuildsRow.holds Try.pinned (OpenSpec.ofChange pageBuildsSpec)

/-- ITS FALSE NEIGHBOUR: 'it returns false'. Refute it at one input. -/
def pageBuildsWrong : ChangeSpec := { name := "pageBuilds", fn := fun _ => fun
  | [d1, d2] => { results := [.lit (.bool false)], args := [d1, d2] }
  | _ => none }
def PageBuildsWrongFalsely : Prop := pageBuildsRow.holds Try.pinned (OpenSpec.ofChange pageBuildsWrong)

/-- 'strakelaw15.PageReads': WHATEVER THE INPUT: true; the input reads as it did. -/
def pageReadsSpec : ChangeSpec := { name := "pageReads", fn := fun _ => fun
  | [d1, d2] => { results := [.lit (.bool true)], args := [d1, d2] }
  | _ => none }
def pageReadsRow : OpenClaim := { program := "ythoebkkohdfgeaa", sum := "a967f5c6271af6784fa988d211750108c50a255c755db3c885a3b4c2d996c71e", func := "strake/strakelaw15.PageReads", spec := "pageReads", unfollowed := true, recurses := true, apart := false }
def PageReadsSaid : Prop := pageReadsRow.holds Try.pinned (OpenSpec.ofChange pageReadsSpec)

/-- ITS FALSE NEIGHBOUR: 'it returns false'. Refute it at one input. -/
def pageReadsWrong : ChangeSpec := { name := "pageReads", fn := fun _ => fun
  | [d1, d2] => { results := [.lit (.bool false)], args := [d1, d2] }
  | _ => none }
def PageReadsWrongFalsely : Prop := pageReadsRow.holds Try.pinned (OpenSpec.ofChange pageReadsWrong)

/-- 'strakelaw15.PageBack': WHATEVER THE INPUT: true; the input reads as it did. -/
def pageBackSpec : ChangeSpec := { name := "pageBack", fn := fun _ => fun
  | [d1, d2] => { results := [.lit (.bool true)], args := [d1, d2] }
  | _ => none }
def pageBackRow : OpenClaim := { program := "ythoebkkohdfgeaa", sum := "a967f5c6271af6784fa988d211750108c50a255c755db3c885a3b4c2d996c71e", func := "strake/strakelaw15.PageBack", spec := "pageBack", unfollowed := true, recurses := true, apart := false }
def PageBackSaid : Prop := pageBackRow.holds Try.pinned (OpenSpec.ofChange pageBackSpec)

/-- ITS FALSE NEIGHBOUR: 'it returns false'. Refute it at one input. -/
def pageBackWrong : ChangeSpec := { name := "pageBack", fn := fun _ => fun
  | [d1, d2] => { results := [.lit (.bool false)], args := [d1, d2] }
  | _ => none }
def PageBackWrongFalsely : Prop := pageBackRow.holds Try.pinned (OpenSpec.ofChange pageBackWrong)

/-- 'strakelaw15.PageTurned': WHATEVER THE INPUT: true; the input reads as it did. -/
def pageTurnedSpec : ChangeSpec := { name := "pageTurned", fn := fun _ => fun
  | [d1, d2, d3] => { results := [.lit (.bool true)], args := [d1, d2, d3] }
  | _ => none }
def pageTurnedRow : OpenClaim := { program := "ythoebkkohdfgeaa", sum := "a967f5c6271af6784fa988d211750108c50a255c755db3c885a3b4c2d996c71e", func := "strake/strakelaw15.PageTurned", spec := "pageTurned", unfollowed := true, recurses := true, apart := false }
def PageTurnedSaid : Prop := pageTurnedRow.holds Try.pinned (OpenSpec.ofChange pageTurnedSpec)

/-- ITS FALSE NEIGHBOUR: 'it returns false'. Refute it at one input. -/
def pageTurnedWrong : ChangeSpec := { name := "pageTurned", fn := fun _ => fun
  | [d1, d2, d3] => { results := [.lit (.bool false)], args := [d1, d2, d3] }
  | _ => none }
def PageTurnedWrongFalsely : Prop := pageTurnedRow.holds Try.pinned (OpenSpec.ofChange pageTurnedWrong)

/-- 'strakelaw15.PagePads': WHATEVER THE INPUT: true; the input reads as it did. -/
def pagePadsSpec : ChangeSpec := { name := "pagePads", fn := fun _ => fun
  | [d1, d2] => { results := [.lit (.bool true)], args := [d1, d2] }
  | _ => none }
def pagePadsRow : OpenClaim := { program := "ythoebkkohdfgeaa", sum := "a967f5c6271af6784fa988d211750108c50a255c755db3c885a3b4c2d996c71e", func := "strake/strakelaw15.PagePads", spec := "pagePads", unfollowed := true, recurses := true, apart := false }
def PagePadsSaid : Prop := pagePadsRow.holds Try.pinned (OpenSpec.ofChange pagePadsSpec)

/-- ITS FALSE NEIGHBOUR: 'it returns false'. Refute it at one input. -/
def pagePadsWrong : ChangeSpec := { name := "pagePads", fn := fun _ => fun
  | [d1, d2] => { results := [.lit (.bool false)], args := [d1, d2] }
  | _ => none }
def PagePadsWrongFalsely : Prop := pagePadsRow.holds Try.pinned (OpenSpec.ofChange pagePadsWrong)

/-- 'strakelaw15.PageHeads': WHATEVER THE INPUT: true; the input reads as it did. -/
def pageHeadsSpec : ChangeSpec := { name := "pageHeads", fn := fun _ => fun
  | [d1, d2] => { results := [.lit (.bool true)], args := [d1, d2] }
  | _ => none }
def pageHeadsRow : OpenClaim := { program := "ythoebkkohdfgeaa", sum := "a967f5c6271af6784fa988d211750108c50a255c755db3c885a3b4c2d996c71e", func := "strake/strakelaw15.PageHeads", spec := "pageHeads", unfollowed := true, recurses := true, apart := false }
def PageHeadsSaid : Prop := pageHeadsRow.holds Try.pinned (OpenSpec.ofChange pageHeadsSpec)

/-- ITS FALSE NEIGHBOUR: 'it returns false'. Refute it at one input. -/
def pageHeadsWrong : ChangeSpec := { name := "pageHeads", fn := fun _ => fun
  | [d1, d2] => { results := [.lit (.bool false)], args := [d1, d2] }
  | _ => none }
def PageHeadsWrongFalsely : Prop := pageHeadsRow.holds Try.pinned (OpenSpec.ofChange pageHeadsWrong)

/- THE SECOND FORM. 'bulk': how many values and letters a reading holds, each counted each time it is reached (what is shared counts as often as it is met; a slice's spare places count too). A statement '..UptoSaid' is the law's where the arguments, and the package variables that the reading takes, are together of bulk at most 1048576: NARROWER than '..Said'. Prove '..Said' where nothing that the law and all that it calls make is longer than what came in: it says more and counts as full. Else prove '..UptoSaid'. A law counts once. -/
mutual
def uptoBulk {H : Type} : DataW H → Nat
  | .lit (.string bytes) => bytes.length + 1
  | .lit _ => 1
  | .nil => 1
  | .ptr d => uptoBulk d + 1
  | .slice elems spare => uptoBulkAll elems + uptoBulkAll spare + 1
  | .agg parts => uptoBulkAll parts + 1
  | .iface _ d => uptoBulk d + 1
  | .map entries => uptoBulkEntries entries + 1
  | .held _ => 1
def uptoBulkAll {H : Type} : List (DataW H) → Nat
  | [] => 0
  | d :: r => uptoBulk d + uptoBulkAll r
def uptoBulkEntries {H : Type} : List (Lit × DataW H) → Nat
  | [] => 0
  | x :: r => uptoBulkEntry x + uptoBulkEntries r
def uptoBulkEntry {H : Type} : Lit × DataW H → Nat
  | (.string bytes, d) => bytes.length + uptoBulk d + 1
  | (_, d) => uptoBulk d + 1
 end
def uptoSmall : (H : Type) → List (DataW H) → Bool := fun _ ds => decide (uptoBulkAll ds ≤ 1048576)
def OpenSpec.upto (s : _root_.Go.ChangeSpec) : _root_.Go.OpenSpec := { _root_.Go.OpenSpec.ofChange s with cond := some uptoSmall }

/-- 'strakelaw15.PageBuilds', WHERE WHAT IT READS IS OF BULK AT MOST 1048576: true; the input reads as it did. -/
def pageBuildsUptoRow : OpenClaim := { program := "ythoebkkohdfgeaa", sum := "a967f5c6271af6784fa988d211750108c50a255c755db3c885a3b4c2d996c71e", func := "strake/strakelaw15.PageBuilds", spec := "pageBuilds", unfollowed := true, recurses := true, apart := false, narrowed := true }
def PageBuildsUptoSaid : Prop := pageBuildsUptoRow.holds Try.pinned (OpenSpec.upto pageBuildsSpec)

/-- 'strakelaw15.PageReads', WHERE WHAT IT READS IS OF BULK AT MOST 1048576: true; the input reads as it did. -/
def pageReadsUptoRow : OpenClaim := { program := "ythoebkkohdfgeaa", sum := "a967f5c6271af6784fa988d211750108c50a255c755db3c885a3b4c2d996c71e", func := "strake/strakelaw15.PageReads", spec := "pageReads", unfollowed := true, recurses := true, apart := false, narrowed := true }
def PageReadsUptoSaid : Prop := pageReadsUptoRow.holds Try.pinned (OpenSpec.upto pageReadsSpec)

/-- 'strakelaw15.PageBack', WHERE WHAT IT READS IS OF BULK AT MOST 1048576: true; the input reads as it did. -/
def pageBackUptoRow : OpenClaim := { program := "ythoebkkohdfgeaa", sum := "a967f5c6271af6784fa988d211750108c50a255c755db3c885a3b4c2d996c71e", func := "strake/strakelaw15.PageBack", spec := "pageBack", unfollowed := true, recurses := true, apart := false, narrowed := true }
def PageBackUptoSaid : Prop := pageBackUptoRow.holds Try.pinned (OpenSpec.upto pageBackSpec)

/-- 'strakelaw15.PageTurned', WHERE WHAT IT READS IS OF BULK AT MOST 1048576: true; the input reads as it did. -/
def pageTurnedUptoRow : OpenClaim := { program := "ythoebkkohdfgeaa", sum := "a967f5c6271af6784fa988d211750108c50a255c755db3c885a3b4c2d996c71e", func := "strake/strakelaw15.PageTurned", spec := "pageTurned", unfollowed := true, recurses := true, apart := false, narrowed := true }
def PageTurnedUptoSaid : Prop := pageTurnedUptoRow.holds Try.pinned (OpenSpec.upto pageTurnedSpec)

/-- 'strakelaw15.PagePads', WHERE WHAT IT READS IS OF BULK AT MOST 1048576: true; the input reads as it did. -/
def pagePadsUptoRow : OpenClaim := { program := "ythoebkkohdfgeaa", sum := "a967f5c6271af6784fa988d211750108c50a255c755db3c885a3b4c2d996c71e", func := "strake/strakelaw15.PagePads", spec := "pagePads", unfollowed := true, recurses := true, apart := false, narrowed := true }
def PagePadsUptoSaid : Prop := pagePadsUptoRow.holds Try.pinned (OpenSpec.upto pagePadsSpec)

/-- 'strakelaw15.PageHeads', WHERE WHAT IT READS IS OF BULK AT MOST 1048576: true; the input reads as it did. -/
def pageHeadsUptoRow : OpenClaim := { program := "ythoebkkohdfgeaa", sum := "a967f5c6271af6784fa988d211750108c50a255c755db3c885a3b4c2d996c71e", func := "strake/strakelaw15.PageHeads", spec := "pageHeads", unfollowed := true, recurses := true, apart := false, narrowed := true }
def PageHeadsUptoSaid : Prop := pageHeadsUptoRow.holds Try.pinned (OpenSpec.upto pageHeadsSpec)

end Rows
end Go.Proofs.Ythoebkkohdfgeaa
