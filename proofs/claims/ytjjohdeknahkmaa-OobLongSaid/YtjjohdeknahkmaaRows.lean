/-
  No cell of these rows narrows 'for every input' (looked for: loops, veiled, ifaces, maps, wideKeys, modest, calm, conditions, laid).
  DERIVED. THE GIVEN ROWS OF THIS SEAT. 12 by the template 'for every input the law returns true; each argument reads behind the call as it read before'; 0 by the template 'total and deterministic' (their statements: YtjjohdeknahkmaaTotals.lean).
  GIVEN WITH THE SEED: the statements are not yours to turn. If you find one false, say at which input.
  Laid BY PROGRAM, IN A SANDBOX (cutbox-rows.mjs): the forced cells as the released guide's own fill.sh prints them over the translation e553b231ee6618e3… (all of the seat's roots in one cut). By AI agents, Wed Nov 11 2026. No macro, syntax, notation, axiom, sorry.
-/
import Derived.Test.YtjjohdeknahkmaaChecked
import GoSem.Claim
import GoSem.ClaimJoined
import GoSem.ClaimMapViews
import Derived.JoinedTies
import Derived.KernelRfl
namespace Go.Proofs.Ytjjohdeknahkmaa
/- THE CELL 'sum', in the pinned program and in every row, IS THE sha256 OF THE DUMP (.gsa) THAT YtjjohdeknahkmaaProg.lean LOADS. Nothing in Lean hashes anything: it is a label: what it is worth is what the hold of that sum in a sandbox is worth. -/
noncomputable def Try.pinned : Pinned := { name := "ytjjohdeknahkmaa", sum := "e553b231ee6618e379ceabfa9198e94562d4ecbd8be6df1141187c2b915d6a2a", checked := Try.checked }
namespace Rows
def none {H : Type} : Left H := { results := [], args := [] }

/-- 'strakelaw06.MarkApart': WHATEVER THE INPUT: true; the input reads as it did. -/
def markApartSpec : ChangeSpec := { name := "markApart", fn := fun _ => fun
  | [d1, d2] => { results := [.lit (.bool true)], args := [d1, d2] }
  | _ => none }
def markApartRow : OpenClaim := { program := "ytjjohdeknahkmaa", sum := "e553b231ee6618e379ceabfa9198e94562d4ecbd8be6df1141187c2b915d6a2a", func := "strake/strakelaw06.MarkApart", spec := "markApart", apart := false }
def MarkApartSaid : Prop := markApartRow.holds Try.pinned (OpenSpec.ofChange markApartSpec)

/-- ITS FALSE NEIGHBOUR: 'it returns false'. Refute it at one input. -/
def markApartWrong : ChangeSpec := { name := "markApart", fn := fun _ => fun
  | [d1, d2] => { results := [.lit (.bool false)], args := [d1, d2] }
  | _ => none }
def MarkApartWrongFalsely : Prop := markApartRow.holds Try.pinned (OpenSpec.ofChange markApartWrong)

/-- 'strakelaw06.MarkSectors': WHATEVER THE INPUT: true; the input reads as it did. -/
def markSectorsSpec : ChangeSpec := { name := "markSectors", fn := fun _ => fun
  | [d] => { results := [.lit (.bool true)], args := [d] }
  | _ => none }
def markSectorsRow : OpenClaim := { program := "ytjjohdeknahkmaa", sum := "e553b231ee6618e379ceabfa9198e94562d4ecbd8be6df1141187c2b915d6a2a", func := "strake/strakelaw06.MarkSectors", spec := "markSectors", apart := false }
def MarkSectorsSaid : Prop := markSectorsRow.holds Try.pinned (OpenSpec.ofChange markSectorsSpec)

/-- ITS FALSE NEIGHBOUR: 'it returns false'. Refute it at one input. -/
def markSectorsWrong : ChangeSpec := { name := "markSectors", fn := fun _ => fun
  | [d] => { results := [.lit (.bool false)], args := [d] }
  | _ => none }
def MarkSectorsWrongFalsely : Prop := markSectorsRow.holds Try.pinned (OpenSpec.ofChange markSectorsWrong)

/-- 'strakelaw05.OobPacks': WHATEVER THE INPUT: true; the input reads as it did. -/
def oobPacksSpec : ChangeSpec := { name := "oobPacks", fn := fun _ => fun
  | [d1, d2] => { results := [.lit (.bool true)], args := [d1, d2] }
  | _ => none }
def oobPacksRow : OpenClaim := { program := "ytjjohdeknahkmaa", sum := "e553b231ee6618e379ceabfa9198e94562d4ecbd8be6df1141187c2b915d6a2a", func := "strake/strakelaw05.OobPacks", spec := "oobPacks", apart := false }
def OobPacksSaid : Prop := oobPacksRow.holds Try.pinned (OpenSpec.ofChange oobPacksSpec)

/-- ITS FALSE NEIGHBOUR: 'it returns false'. Refute it at one input. -/
def oobPacksWrong : ChangeSpec := { name := "oobPacks", fn := fun _ => fun
  | [d1, d2] => { results := [.lit (.bool false)], args := [d1, d2] }
  | _ => none }
def OobPacksWrongFalsely : Prop := oobPacksRow.holds Try.pinned (OpenSpec.ofChange oobPacksWrong)

/-- 'strakelaw05.OobApart': WHATEVER THE INPUT: true; the input reads as it did. -/
def oobApartSpec : ChangeSpec := { name := "oobApart", fn := fun _ => fun
  | [d1, d2, d3] => { results := [.lit (.bool true)], args := [d1, d2, d3] }
  | _ => none }
def oobApartRow : OpenClaim := { program := "ytjjohdeknahkmaa", sum := "e553b231ee6618e379ceabfa9198e94562d4ecbd8be6df1141187c2b915d6a2a", func := "strake/strakelaw05.OobApart", spec := "oobApart", apart := false }
def OobApartSaid : Prop := oobApartRow.holds Try.pinned (OpenSpec.ofChange oobApartSpec)

/-- ITS FALSE NEIGHBOUR: 'it returns false'. Refute it at one input. -/
def oobApartWrong : ChangeSpec := { name := "oobApart", fn := fun _ => fun
  | [d1, d2, d3] => { results := [.lit (.bool false)], args := [d1, d2, d3] }
  | _ => none }
def OobApartWrongFalsely : Prop := oobApartRow.holds Try.pinned (OpenSpec.ofChange oobApartWrong)

/-- 'strakelaw05.OobNewer': WHATEVER THE INPUT: true; the input reads as it did. -/
def oobNewerSpec : ChangeSpec := { name := "oobNewer", fn := fun _ => fun
  | [d1, d2, d3] => { results := [.lit (.bool true)], args := [d1, d2, d3] }
  | _ => none }
def oobNewerRow : OpenClaim := { program := "ytjjohdeknahkmaa", sum := "e553b231ee6618e379ceabfa9198e94562d4ecbd8be6df1141187c2b915d6a2a", func := "strake/strakelaw05.OobNewer", spec := "oobNewer", apart := false }
def OobNewerSaid : Prop := oobNewerRow.holds Try.pinned (OpenSpec.ofChange oobNewerSpec)

/-- ITS FALSE NEIGHBOUR: 'it returns false'. Refute it at one input. -/
def oobNewerWrong : ChangeSpec := { name := "oobNewer", fn := fun _ => fun
  | [d1, d2, d3] => { results := [.lit (.bool false)], args := [d1, d2, d3] }
  | _ => none }
def OobNewerWrongFalsely : Prop := oobNewerRow.holds Try.pinned (OpenSpec.ofChange oobNewerWrong)

/-- 'strakelaw06.MarkReads': WHATEVER THE INPUT: true; the input reads as it did. -/
def markReadsSpec : ChangeSpec := { name := "markReads", fn := fun _ => fun
  | [d] => { results := [.lit (.bool true)], args := [d] }
  | _ => none }
def markReadsRow : OpenClaim := { program := "ytjjohdeknahkmaa", sum := "e553b231ee6618e379ceabfa9198e94562d4ecbd8be6df1141187c2b915d6a2a", func := "strake/strakelaw06.MarkReads", spec := "markReads", apart := false }
def MarkReadsSaid : Prop := markReadsRow.holds Try.pinned (OpenSpec.ofChange markReadsSpec)

/-- ITS FALSE NEIGHBOUR: 'it returns false'. Refute it at one input. -/
def markReadsWrong : ChangeSpec := { name := "markReads", fn := fun _ => fun
  | [d] => { results := [.lit (.bool false)], args := [d] }
  | _ => none }
def MarkReadsWrongFalsely : Prop := markReadsRow.holds Try.pinned (OpenSpec.ofChange markReadsWrong)

/-- 'strakelaw06.MarkBack': WHATEVER THE INPUT: true; the input reads as it did. -/
def markBackSpec : ChangeSpec := { name := "markBack", fn := fun _ => fun
  | [d1, d2] => { results := [.lit (.bool true)], args := [d1, d2] }
  | _ => none }
def markBackRow : OpenClaim := { program := "ytjjohdeknahkmaa", sum := "e553b231ee6618e379ceabfa9198e94562d4ecbd8be6df1141187c2b915d6a2a", func := "strake/strakelaw06.MarkBack", spec := "markBack", apart := false }
def MarkBackSaid : Prop := markBackRow.holds Try.pinned (OpenSpec.ofChange markBackSpec)

/-- ITS FALSE NEIGHBOUR: 'it returns false'. Refute it at one input. -/
def markBackWrong : ChangeSpec := { name := "markBack", fn := fun _ => fun
  | [d1, d2] => { results := [.lit (.bool false)], args := [d1, d2] }
  | _ => none }
def MarkBackWrongFalsely : Prop := markBackRow.holds Try.pinned (OpenSpec.ofChange markBackWrong)

/-- 'strakelaw06.MarkTurned': WHATEVER THE INPUT: true; the input reads as it did. -/
def markTurnedSpec : ChangeSpec := { name := "markTurned", fn := fun _ => fun
  | [d1, d2] => { results := [.lit (.bool true)], args := [d1, d2] }
  | _ => none }
def markTurnedRow : OpenClaim := { program := "ytjjohdeknahkmaa", sum := "e553b231ee6618e379ceabfa9198e94562d4ecbd8be6df1141187c2b915d6a2a", func := "strake/strakelaw06.MarkTurned", spec := "markTurned", apart := false }
def MarkTurnedSaid : Prop := markTurnedRow.holds Try.pinned (OpenSpec.ofChange markTurnedSpec)

/-- ITS FALSE NEIGHBOUR: 'it returns false'. Refute it at one input. -/
def markTurnedWrong : ChangeSpec := { name := "markTurned", fn := fun _ => fun
  | [d1, d2] => { results := [.lit (.bool false)], args := [d1, d2] }
  | _ => none }
def MarkTurnedWrongFalsely : Prop := markTurnedRow.holds Try.pinned (OpenSpec.ofChange markTurnedWrong)

/-- 'strakelaw05.OobReads': WHATEVER THE INPUT: true; the input reads as it did. -/
def oobReadsSpec : ChangeSpec := { name := "oobReads", fn := fun _ => fun
  | [d1, d2] => { results := [.lit (.bool true)], args := [d1, d2] }
  | _ => none }
def oobReadsRow : OpenClaim := { program := "ytjjohdeknahkmaa", sum := "e553b231ee6618e379ceabfa9198e94562d4ecbd8be6df1141187c2b915d6a2a", func := "strake/strakelaw05.OobReads", spec := "oobReads", apart := false }
def OobReadsSaid : Prop := oobReadsRow.holds Try.pinned (OpenSpec.ofChange oobReadsSpec)

/-- ITS FALSE NEIGHBOUR: 'it returns false'. Refute it at one input. -/
def oobReadsWrong : ChangeSpec := { name := "oobReads", fn := fun _ => fun
  | [d1, d2] => { results := [.lit (.bool false)], args := [d1, d2] }
  | _ => none }
def OobReadsWrongFalsely : Prop := oobReadsRow.holds Try.pinned (OpenSpec.ofChange oobReadsWrong)

/-- 'strakelaw05.OobBack': WHATEVER THE INPUT: true; the input reads as it did. -/
def oobBackSpec : ChangeSpec := { name := "oobBack", fn := fun _ => fun
  | [d1, d2, d3] => { results := [.lit (.bool true)], args := [d1, d2, d3] }
  | _ => none }
def oobBackRow : OpenClaim := { program := "ytjjohdeknahkmaa", sum := "e553b231ee6618e379ceabfa9198e94562d4ecbd8be6df1141187c2b915d6a2a", func := "strake/strakelaw05.OobBack", spec := "oobBack", apart := false }
def OobBackSaid : Prop := oobBackRow.holds Try.pinned (OpenSpec.ofChange oobBackSpec)

/-- ITS FALSE NEIGHBOUR: 'it returns false'. Refute it at one input. -/
def oobBackWrong : ChangeSpec := { name := "oobBack", fn := fun _ => fun
  | [d1, d2, d3] => { results := [.lit (.bool false)], args := [d1, d2, d3] }
  | _ => none }
def OobBackWrongFalsely : Prop := oobBackRow.holds Try.pinned (OpenSpec.ofChange oobBackWrong)

/-- 'strakelaw05.OobTurned': WHATEVER THE INPUT: true; the input reads as it did. -/
def oobTurnedSpec : ChangeSpec := { name := "oobTurned", fn := fun _ => fun
  | [d1, d2, d3] => { results := [.lit (.bool true)], args := [d1, d2, d3] }
  | _ => none }
def oobTurnedRow : OpenClaim := { program := "ytjjohdeknahkmaa", sum := "e553b231ee6618e379ceabfa9198e94562d4ecbd8be6df1141187c2b915d6a2a", func := "strake/strakelaw05.OobTurned", spec := "oobTurned", apart := false }
def OobTurnedSaid : Prop := oobTurnedRow.holds Try.pinned (OpenSpec.ofChange oobTurnedSpec)

/-- ITS FALSE NEIGHBOUR: 'it returns false'. Refute it at one input. -/
def oobTurnedWrong : ChangeSpec := { name := "oobTurned", fn := fun _ => fun
  | [d1, d2, d3] => { results := [.lit (.bool false)], args := [d1, d2, d3] }
  | _ => none }
def OobTurnedWrongFalsely : Prop := oobTurnedRow.holds Try.pinned (OpenSpec.ofChange oobTurnedWrong)

/-- 'strakelaw05.OobLong': WHATEVER THE INPUT: true; the input reads as it did. -/
def oobLongSpec : ChangeSpec := { name := "oobLong", fn := fun _ => fun
  | [d1, d2, d3] => { results := [.lit (.bool true)], args := [d1, d2, d3] }
  | _ => none }
def oobLongRow : OpenClaim := { program := "ytjjohdeknahkmaa", sum := "e553b231ee6618e379ceabfa9198e94562d4ecbd8be6df1141187c2b915d6a2a", func := "strake/strakelaw05.OobLong", spec := "oobLong", apart := false }
def OobLongSaid : Prop := oobLongRow.holds Try.pinned (OpenSpec.ofChange oobLongSpec)

/-- ITS FALSE NEIGHBOUR: 'it returns false'. Refute it at one input. -/
def oobLongWrong : ChangeSpec := { name := "oobLong", fn := fun _ => fun
  | [d1, d2, d3] => { results := [.lit (.bool false)], args := [d1, d2, d3] }
  | _ => none }
def OobLongWrongFalsely : Prop := oobLongRow.holds Try.pinned (OpenSpec.ofChange oobLongWrong)

/- THE SECOND FORM. 'bulk': how many values and letters a reading holds, each counted each time it is reached (what is shared counts as often as it is met; a slice's spare places count too). A statement '..UptoSaid' is the law's where the arguments, and the package variables that the reading takes, are together of bulk at most 1048576: NARROWER than '..Said'. Prove '..Said' where nothing that the law and all that it calls make is longer than what came in: it says more and counts as full. Else prove '..UptoSaid'. A law counts once. -/
mutual
def uptoBulk {H : Type} : DataW H → Nat
  | .lit (.string bytes) => bytes.length + 1
  | .lit _ => 1
  | .nil => 1
  | .ptr d => uptoBulk d + 1
  | .slice elems spare => uptoBulkAll elems + uptoBulkAll spare + 1
  | .agg parts => uptoBulkAll parts + 1
  | .iface _ d => uptoBulk d + 1
  | .map entries => uptoBulkEntries entries + 1
  | .held _ => 1
def uptoBulkAll {H : Type} : List (DataW H) → Nat
  | [] => 0
  | d :: r => uptoBulk d + uptoBulkAll r
def uptoBulkEntries {H : Type} : List (Lit × DataW H) → Nat
  | [] => 0
  | x :: r => uptoBulkEntry x + uptoBulkEntries r
def uptoBulkEntry {H : Type} : Lit × DataW H → Nat
  | (.string bytes, d) => bytes.length + uptoBulk d + 1
  | (_, d) => uptoBulk d + 1
 end
def uptoSmall : (H : Type) → List (DataW H) → Bool := fun _ ds => decide (uptoBulkAll ds ≤ 1048576)
def OpenSpec.upto (s : _root_.Go.ChangeSpec) : _root_.Go.OpenSpec := { _root_.Go.OpenSpec.ofChange s with cond := some uptoSmall }

/-- 'strakelaw06.MarkApart', WHERE WHAT IT READS IS OF BULK AT MOST 1048576: true; the input reads as it did. -/
def markApartUptoRow : OpenClaim := { program := "ytjjohdeknahkmaa", sum := "e553b231ee6618e379ceabfa9198e94562d4ecbd8be6df1141187c2b915d6a2a", func := "strake/strakelaw06.MarkApart", spec := "markApart", apart := false, narrowed := true }
def MarkApartUptoSaid : Prop := markApartUptoRow.holds Try.pinned (OpenSpec.upto markApartSpec)

/-- 'strakelaw06.MarkSectors', WHERE WHAT IT READS IS OF BULK AT MOST 1048576: true; the input reads as it did. -/
def markSectorsUptoRow : OpenClaim := { program := "ytjjohdeknahkmaa", sum := "e553b231ee6618e379ceabfa9198e94562d4ecbd8be6df1141187c2b915d6a2a", func := "strake/strakelaw06.MarkSectors", spec := "markSectors", apart := false, narrowed := true }
def MarkSectorsUptoSaid : Prop := markSectorsUptoRow.holds Try.pinned (OpenSpec.upto markSectorsSpec)

/-- 'strakelaw05.OobPacks', WHERE WHAT IT READS IS OF BULK AT MOST 1048576: true; the input reads as it did. -/
def oobPacksUptoRow : OpenClaim := { program := "ytjjohdeknahkmaa", sum := "e553b231ee6618e379ceabfa9198e94562d4ecbd8be6df1141187c2b915d6a2a", func := "strake/strakelaw05.OobPacks", spec := "oobPacks", apart := false, narrowed := true }
def OobPacksUptoSaid : Prop := oobPacksUptoRow.holds Try.pinned (OpenSpec.upto oobPacksSpec)

/-- 'strakelaw05.OobApart', WHERE WHAT IT READS IS OF BULK AT MOST 1048576: true; the input reads as it did. -/
def oobApartUptoRow : OpenClaim := { program := "ytjjohdeknahkmaa", sum := "e553b231ee6618e379ceabfa9198e94562d4ecbd8be6df1141187c2b915d6a2a", func := "strake/strakelaw05.OobApart", spec := "oobApart", apart := false, narrowed := true }
def OobApartUptoSaid : Prop := oobApartUptoRow.holds Try.pinned (OpenSpec.upto oobApartSpec)

/-- 'strakelaw05.OobNewer', WHERE WHAT IT READS IS OF BULK AT MOST 1048576: true; the input reads as it did. -/
def oobNewerUptoRow : OpenClaim := { program := "ytjjohdeknahkmaa", sum := "e553b231ee6618e379ceabfa9198e94562d4ecbd8be6df1141187c2b915d6a2a", func := "strake/strakelaw05.OobNewer", spec := "oobNewer", apart := false, narrowed := true }
def OobNewerUptoSaid : Prop := oobNewerUptoRow.holds Try.pinned (OpenSpec.upto oobNewerSpec)

/-- 'strakelaw06.MarkReads', WHERE WHAT IT READS IS OF BULK AT MOST 1048576: true; the input reads as it did. -/
def markReadsUptoRow : OpenClaim := { program := "ytjjohdeknahkmaa", sum := "e553b231ee6618e379ceabfa9198e94562d4ecbd8be6df1141187c2b915d6a2a", func := "strake/strakelaw06.MarkReads", spec := "markReads", apart := false, narrowed := true }
def MarkReadsUptoSaid : Prop := markReadsUptoRow.holds Try.pinned (OpenSpec.upto markReadsSpec)

/-- 'strakelaw06.MarkBack', WHERE WHAT IT READS IS OF BULK AT MOST 1048576: true; the input reads as it did. -/
def markBackUptoRow : OpenClaim := { program := "ytjjohdeknahkmaa", sum := "e553b231ee6618e379ceabfa9198e94562d4ecbd8be6df1141187c2b915d6a2a", func := "strake/strakelaw06.MarkBack", spec := "markBack", apart := false, narrowed := true }
def MarkBackUptoSaid : Prop := markBackUptoRow.holds Try.pinned (OpenSpec.upto markBackSpec)

/-- 'strakelaw06.MarkTurned', WHERE WHAT IT READS IS OF BULK AT MOST 1048576: true; the input reads as it did. -/
def markTurnedUptoRow : OpenClaim := { program := "ytjjohdeknahkmaa", sum := "e553b231ee6618e379ceabfa9198e94562d4ecbd8be6df1141187c2b915d6a2a", func := "strake/strakelaw06.MarkTurned", spec := "markTurned", apart := false, narrowed := true }
def MarkTurnedUptoSaid : Prop := markTurnedUptoRow.holds Try.pinned (OpenSpec.upto markTurnedSpec)

/-- 'strakelaw05.OobReads', WHERE WHAT IT READS IS OF BULK AT MOST 1048576: true; the input reads as it did. -/
def oobReadsUptoRow : OpenClaim := { program := "ytjjohdeknahkmaa", sum := "e553b231ee6618e379ceabfa9198e94562d4ecbd8be6df1141187c2b915d6a2a", func := "strake/strakelaw05.OobReads", spec := "oobReads", apart := false, narrowed := true }
def OobReadsUptoSaid : Prop := oobReadsUptoRow.holds Try.pinned (OpenSpec.upto oobReadsSpec)

/-- 'strakelaw05.OobBack', WHERE WHAT IT READS IS OF BULK AT MOST 1048576: true; the input reads as it did. -/
def oobBackUptoRow : OpenClaim := { program := "ytjjohdeknahkmaa", sum := "e553b231ee6618e379ceabfa9198e94562d4ecbd8be6df1141187c2b915d6a2a", func := "strake/strakelaw05.OobBack", spec := "oobBack", apart := false, narrowed := true }
def OobBackUptoSaid : Prop := oobBackUptoRow.holds Try.pinned (OpenSpec.upto oobBackSpec)

/-- 'strakelaw05.OobTurned', WHERE WHAT IT READS IS OF BULK AT MOST 1048576: true; the input reads as it did. -/
def oobTurnedUptoRow : OpenClaim := { program := "ytjjohdeknahkmaa", sum := "e553b231ee6618e379ceabfa9198e94562d4ecbd8be6df1141187c2b915d6a2a", func := "strake/strakelaw05.OobTurned", spec := "oobTurned", apart := false, narrowed := true }
def OobTurnedUptoSaid : Prop := oobTurnedUptoRow.holds Try.pinned (OpenSpec.upto oobTurnedSpec)

/-- 'strakelaw05.OobLong', WHERE WHAT IT READS IS OF BULK AT MOST 1048576: true; the input reads as it did. -/
def oobLongUptoRow : OpenClaim := { program := "ytjjohdeknahkmaa", sum := "e553b231ee6618e379ceabfa9198e94562d4ecbd8be6df1141187c2b915d6a2a", func := "strake/strakelaw05.OobLong", spec := "oobLong", apart := false, narrowed := true }
def OobLongUptoSaid : Prop := oobLongUptoRow.holds Try.pinned (OpenSpec.upto oobLongSpec)

end Rows
end Go.Proofs.Ytjjohdeknahkmaa
