import Derived.Test.YtlheknapgonakaaX42
import Derived.Test.YtlheknapgonakaaFoundsRead
namespace Go.Proofs.Ytlheknapgonakaa.X
open Go.RowKit
def strakelaw18_ReplayTurned.Pure : Prop := ∀ (l0 : List S27) (a1 : Int) (a2 : Int), l0.length ≤ maxLen → (∀ s ∈ l0, foundOk s) → (Lit.int .i64 a1).wf = true → (Lit.int .i64 a2).wf = true → ∃ k, strakelaw18_ReplayTurned.f k l0 a1 a2 = some true
end Go.Proofs.Ytlheknapgonakaa.X
