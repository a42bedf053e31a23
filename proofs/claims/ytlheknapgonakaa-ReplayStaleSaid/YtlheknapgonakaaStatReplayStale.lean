import Derived.Test.YtlheknapgonakaaX34
import Derived.Test.YtlheknapgonakaaFoundsRead
namespace Go.Proofs.Ytlheknapgonakaa.X
open Go.RowKit
def strakelaw18_ReplayStale.Pure : Prop := ∀ (l0 : List S27) (a1 : Int), l0.length ≤ maxLen → (∀ s ∈ l0, foundOk s) → (Lit.int .i64 a1).wf = true → ∃ k, strakelaw18_ReplayStale.f k l0 a1 = some true
end Go.Proofs.Ytlheknapgonakaa.X
