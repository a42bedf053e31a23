/-
  No cell of these rows narrows 'for every input' (looked for: loops, veiled, ifaces, maps, wideKeys, modest, calm, conditions, laid).
  DERIVED. THE GIVEN ROWS OF THIS SEAT. 7 by the template 'for every input the law returns true; each argument reads behind the call as it read before'; 0 by the template 'total and deterministic' (their statements: YtlciniiiijfbmaaTotals.lean).
  GIVEN WITH THE SEED: the statements are not yours to turn. If you find one false, say at which input.
  Laid BY PROGRAM, IN A SANDBOX (cutbox-rows.mjs): the forced cells as the released guide's own fill.sh prints them over the translation 2dc627979f3a27ce… (all of the seat's roots in one cut). By AI agents, Wed Nov 11 2026. No macro, syntax, notation, axiom, sorry.
-/
import Derived.Test.YtlciniiiijfbmaaChecked
import GoSem.Claim
import GoSem.ClaimJoined
import GoSem.ClaimMapViews
import Derived.JoinedTies
import Derived.KernelRfl
namespace Go.Proofs.Ytlciniiiijfbmaa
/- THE CELL 'sum', in the pinned program and in every row, IS THE sha256 OF THE DUMP (.gsa) THAT YtlciniiiijfbmaaProg.lean LOADS. Nothing in Lean hashes anything: it is a label: what it is worth is what the hold of that sum in a sandbox is worth. -/
noncomputable def Try.pinned : Pinned := { name := "ytlciniiiijfbmaa", sum := "2dc627979f3a27cea169ce38c1073089939d946fbadd6f7736678414414b2c01", checked := Try.checked }
namespace Rows
def none {H : Type} : Left H := { results := [], args := [] }

/-- 'strakelaw01.CrcSums': WHATEVER THE INPUT: true; the input reads as it did. -/
def crcSumsSpec : ChangeSpec := { name := "crcSums", fn := fun _ => fun
  | [d] => { results := [.lit (.bool true)], args := [d] }
  | _ => none }
def crcSumsRow : OpenClaim := { program := "ytlciniiiijfbmaa", sum := "2dc627979f3a27cea169ce38c1073089939d946fbadd6f7736678414414b2c01", func := "strake/strakelaw01.CrcSums", spec := "crcSums", apart := false }
def CrcSumsSaid : Prop := crcSumsRow.holds Try.pinned (OpenSpec.ofChange crcSumsSpec)

/-- ITS FALSE NEIGHBOUR: 'it returns false'. Refute it at one input. -/
def crcSumsWrong : ChangeSpec := { name := "crcSums", fn := fun _ => fun
  | [d] => { results := [.lit (.bool false)], args := [d] }
  | _ => none }
def CrcSumsWrongFalsely : Prop := crcSumsRow.holds Try.pinned (OpenSpec.ofChange crcSumsWrong)

/-- 'strakelaw01.CrcAdds': WHATEVER THE INPUT: true; the input reads as it did. -/
def crcAddsSpec : ChangeSpec := { name := "crcAdds", fn := fun _ => fun
  | [d1, d2] => { results := [.lit (.bool true)], args := [d1, d2] }
  | _ => none }
def crcAddsRow : OpenClaim := { program := "ytlciniiiijfbmaa", sum := "2dc627979f3a27cea169ce38c1073089939d946fbadd6f7736678414414b2c01", func := "strake/strakelaw01.CrcAdds", spec := "crcAdds", apart := false }
def CrcAddsSaid : Prop := crcAddsRow.holds Try.pinned (OpenSpec.ofChange crcAddsSpec)

/-- ITS FALSE NEIGHBOUR: 'it returns false'. Refute it at one input. -/
def crcAddsWrong : ChangeSpec := { name := "crcAdds", fn := fun _ => fun
  | [d1, d2] => { results := [.lit (.bool false)], args := [d1, d2] }
  | _ => none }
def CrcAddsWrongFalsely : Prop := crcAddsRow.holds Try.pinned (OpenSpec.ofChange crcAddsWrong)

/-- 'strakelaw01.CrcParts': WHATEVER THE INPUT: true; the input reads as it did. -/
def crcPartsSpec : ChangeSpec := { name := "crcParts", fn := fun _ => fun
  | [d1, d2] => { results := [.lit (.bool true)], args := [d1, d2] }
  | _ => none }
def crcPartsRow : OpenClaim := { program := "ytlciniiiijfbmaa", sum := "2dc627979f3a27cea169ce38c1073089939d946fbadd6f7736678414414b2c01", func := "strake/strakelaw01.CrcParts", spec := "crcParts", apart := false }
def CrcPartsSaid : Prop := crcPartsRow.holds Try.pinned (OpenSpec.ofChange crcPartsSpec)

/-- ITS FALSE NEIGHBOUR: 'it returns false'. Refute it at one input. -/
def crcPartsWrong : ChangeSpec := { name := "crcParts", fn := fun _ => fun
  | [d1, d2] => { results := [.lit (.bool false)], args := [d1, d2] }
  | _ => none }
def CrcPartsWrongFalsely : Prop := crcPartsRow.holds Try.pinned (OpenSpec.ofChange crcPartsWrong)

/-- 'strakelaw01.CrcLaid': WHATEVER THE INPUT: true; the input reads as it did. -/
def crcLaidSpec : ChangeSpec := { name := "crcLaid", fn := fun _ => fun
  | [d1, d2, d3] => { results := [.lit (.bool true)], args := [d1, d2, d3] }
  | _ => none }
def crcLaidRow : OpenClaim := { program := "ytlciniiiijfbmaa", sum := "2dc627979f3a27cea169ce38c1073089939d946fbadd6f7736678414414b2c01", func := "strake/strakelaw01.CrcLaid", spec := "crcLaid", apart := false }
def CrcLaidSaid : Prop := crcLaidRow.holds Try.pinned (OpenSpec.ofChange crcLaidSpec)

/-- ITS FALSE NEIGHBOUR: 'it returns false'. Refute it at one input. -/
def crcLaidWrong : ChangeSpec := { name := "crcLaid", fn := fun _ => fun
  | [d1, d2, d3] => { results := [.lit (.bool false)], args := [d1, d2, d3] }
  | _ => none }
def CrcLaidWrongFalsely : Prop := crcLaidRow.holds Try.pinned (OpenSpec.ofChange crcLaidWrong)

/-- 'strakelaw01.CrcTurned': WHATEVER THE INPUT: true; the input reads as it did. -/
def crcTurnedSpec : ChangeSpec := { name := "crcTurned", fn := fun _ => fun
  | [d1, d2, d3] => { results := [.lit (.bool true)], args := [d1, d2, d3] }
  | _ => none }
def crcTurnedRow : OpenClaim := { program := "ytlciniiiijfbmaa", sum := "2dc627979f3a27cea169ce38c1073089939d946fbadd6f7736678414414b2c01", func := "strake/strakelaw01.CrcTurned", spec := "crcTurned", apart := false }
def CrcTurnedSaid : Prop := crcTurnedRow.holds Try.pinned (OpenSpec.ofChange crcTurnedSpec)

/-- ITS FALSE NEIGHBOUR: 'it returns false'. Refute it at one input. -/
def crcTurnedWrong : ChangeSpec := { name := "crcTurned", fn := fun _ => fun
  | [d1, d2, d3] => { results := [.lit (.bool false)], args := [d1, d2, d3] }
  | _ => none }
def CrcTurnedWrongFalsely : Prop := crcTurnedRow.holds Try.pinned (OpenSpec.ofChange crcTurnedWrong)

/-- 'strakelaw01.CrcPieces': WHATEVER THE INPUT: true; the input reads as it did. -/
def crcPiecesSpec : ChangeSpec := { name := "crcPieces", fn := fun _ => fun
  | [d1, d2] => { results := [.lit (.bool true)], args := [d1, d2] }
  | _ => none }
def crcPiecesRow : OpenClaim := { program := "ytlciniiiijfbmaa", sum := "2dc627979f3a27cea169ce38c1073089939d946fbadd6f7736678414414b2c01", func := "strake/strakelaw01.CrcPieces", spec := "crcPieces", apart := false }
def CrcPiecesSaid : Prop := crcPiecesRow.holds Try.pinned (OpenSpec.ofChange crcPiecesSpec)

/-- ITS FALSE NEIGHBOUR: 'it returns false'. Refute it at one input. -/
def crcPiecesWrong : ChangeSpec := { name := "crcPieces", fn := fun _ => fun
  | [d1, d2] => { results := [.lit (.bool false)], args := [d1, d2] }
  | _ => none }
def CrcPiecesWrongFalsely : Prop := crcPiecesRow.holds Try.pinned (OpenSpec.ofChange crcPiecesWrong)

/-- 'strakelaw01.CrcApart': WHATEVER THE INPUT: true; the input reads as it did. -/
def crcApartSpec : ChangeSpec := { name := "crcApart", fn := fun _ => fun
  | [d1, d2, d3] => { results := [.lit (.bool true)], args := [d1, d2, d3] }
  | _ => none }
def crcApartRow : OpenClaim := { program := "ytlciniiiijfbmaa", sum := "2dc627979f3a27cea169ce38c1073089939d946fbadd6f7736678414414b2c01", func := "strake/strakelaw01.CrcApart", spec := "crcApart", apart := false }
def CrcApartSaid : Prop := crcApartRow.holds Try.pinned (OpenSpec.ofChange crcApartSpec)

/-- ITS FALSE NEIGHBOUR: 'it returns false'. Refute it at one input. -/
def crcApartWrong : ChangeSpec := { name := "crcApart", fn := fun _ => fun
  | [d1, d2, d3] => { results := [.lit (.bool false)], args := [d1, d2, d3] }
  | _ => none }
def CrcApartWrongFalsely : Prop := crcApartRow.holds Try.pinned (OpenSpec.ofChange crcApartWrong)

/- THE SECOND FORM. 'bulk': how many values and letters a reading holds, each counted each time it is reached (what is shared counts as often as it is met; a slice's spare places count too). A statement '..UptoSaid' is the law's where the arguments, and the package variables that the reading takes, are together of bulk at most 1048576: NARROWER than '..Said'. Prove '..Said' where nothing that the law and all that it calls make is longer than what came in: it says more and counts as full. Else prove '..UptoSaid'. A law counts once. -/
mutual
def uptoBulk {H : Type} : DataW H → Nat
  | .lit (.string bytes) => bytes.length + 1
  | .lit _ => 1
  | .nil => 1
  | .ptr d => uptoBulk d + 1
  | .slice elems spare => uptoBulkAll elems + uptoBulkAll spare + 1
  | .agg parts => uptoBulkAll parts + 1
  | .iface _ d => uptoBulk d + 1
  | .map entries => uptoBulkEntries entries + 1
  | .held _ => 1
def uptoBulkAll {H : Type} : List (DataW H) → Nat
  | [] => 0
  | d :: r => uptoBulk d + uptoBulkAll r
def uptoBulkEntries {H : Type} : List (Lit × DataW H) → Nat
  | [] => 0
  | x :: r => uptoBulkEntry x + uptoBulkEntries r
def uptoBulkEntry {H : Type} : Lit × DataW H → Nat
  | (.string bytes, d) => bytes.length + uptoBulk d + 1
  | (_, d) => uptoBulk d + 1
 end
def uptoSmall : (H : Type) → List (DataW H) → Bool := fun _ ds => decide (uptoBulkAll ds ≤ 1048576)
def OpenSpec.upto (s : _root_.Go.ChangeSpec) : _root_.Go.OpenSpec := { _root_.Go.OpenSpec.ofChange s with cond := some uptoSmall }

/-- 'strakelaw01.CrcSums', WHERE WHAT IT READS IS OF BULK AT MOST 1048576: true; the input reads as it did. -/
def crcSumsUptoRow : OpenClaim := { program := "ytlciniiiijfbmaa", sum := "2dc627979f3a27cea169ce38c1073089939d946fbadd6f7736678414414b2c01", func := "strake/strakelaw01.CrcSums", spec := "crcSums", apart := false, narrowed := true }
def CrcSumsUptoSaid : Prop := crcSumsUptoRow.holds Try.pinned (OpenSpec.upto crcSumsSpec)

/-- 'strakelaw01.CrcAdds', WHERE WHAT IT READS IS OF BULK AT MOST 1048576: true; the input reads as it did. -/
def crcAddsUptoRow : OpenClaim := { program := "ytlciniiiijfbmaa", sum := "2dc627979f3a27cea169ce38c1073089939d946fbadd6f7736678414414b2c01", func := "strake/strakelaw01.CrcAdds", spec := "crcAdds", apart := false, narrowed := true }
def CrcAddsUptoSaid : Prop := crcAddsUptoRow.holds Try.pinned (OpenSpec.upto crcAddsSpec)

/-- 'strakelaw01.CrcParts', WHERE WHAT IT READS IS OF BULK AT MOST 1048576: true; the input reads as it did. -/
def crcPartsUptoRow : OpenClaim := { program := "ytlciniiiijfbmaa", sum := "2dc627979f3a27cea169ce38c1073089939d946fbadd6f7736678414414b2c01", func := "strake/strakelaw01.CrcParts", spec := "crcParts", apart := false, narrowed := true }
def CrcPartsUptoSaid : Prop := crcPartsUptoRow.holds Try.pinned (OpenSpec.upto crcPartsSpec)

/-- 'strakelaw01.CrcLaid', WHERE WHAT IT READS IS OF BULK AT MOST 1048576: true; the input reads as it did. -/
def crcLaidUptoRow : OpenClaim := { program := "ytlciniiiijfbmaa", sum := "2dc627979f3a27cea169ce38c1073089939d946fbadd6f7736678414414b2c01", func := "strake/strakelaw01.CrcLaid", spec := "crcLaid", apart := false, narrowed := true }
def CrcLaidUptoSaid : Prop := crcLaidUptoRow.holds Try.pinned (OpenSpec.upto crcLaidSpec)

/-- 'strakelaw01.CrcTurned', WHERE WHAT IT READS IS OF BULK AT MOST 1048576: true; the input reads as it did. -/
def crcTurnedUptoRow : OpenClaim := { program := "ytlciniiiijfbmaa", sum := "2dc627979f3a27cea169ce38c1073089939d946fbadd6f7736678414414b2c01", func := "strake/strakelaw01.CrcTurned", spec := "crcTurned", apart := false, narrowed := true }
def CrcTurnedUptoSaid : Prop := crcTurnedUptoRow.holds Try.pinned (OpenSpec.upto crcTurnedSpec)

/-- 'strakelaw01.CrcPieces', WHERE WHAT IT READS IS OF BULK AT MOST 1048576: true; the input reads as it did. -/
def crcPiecesUptoRow : OpenClaim := { program := "ytlciniiiijfbmaa", sum := "2dc627979f3a27cea169ce38c1073089939d946fbadd6f7736678414414b2c01", func := "strake/strakelaw01.CrcPieces", spec := "crcPieces", apart := false, narrowed := true }
def CrcPiecesUptoSaid : Prop := crcPiecesUptoRow.holds Try.pinned (OpenSpec.upto crcPiecesSpec)

/-- 'strakelaw01.CrcApart', WHERE WHAT IT READS IS OF BULK AT MOST 1048576: true; the input reads as it did. -/
def crcApartUptoRow : OpenClaim := { program := "ytlciniiiijfbmaa", sum := "2dc627979f3a27cea169ce38c1073089939d946fbadd6f7736678414414b2c01", func := "strake/strakelaw01.CrcApart", spec := "crcApart", apart := false, narrowed := true }
def CrcApartUptoSaid : Prop := crcApartUptoRow.holds Try.pinned (OpenSpec.upto crcApartSpec)

end Rows
end Go.Proofs.Ytlciniiiijfbmaa
