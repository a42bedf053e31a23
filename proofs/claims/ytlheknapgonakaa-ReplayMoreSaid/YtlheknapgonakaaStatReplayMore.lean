import Derived.Test.YtlheknapgonakaaX8
import Derived.Test.YtlheknapgonakaaFoundsRead
namespace Go.Proofs.Ytlheknapgonakaa.X
open Go.RowKit
def strakelaw18_ReplayMore.Pure : Prop := ∀ (l0 : List S27) (a1 : Int) (x2 : S27), l0.length ≤ maxLen → (∀ s ∈ l0, foundOk s) → (Lit.int .i64 a1).wf = true → foundOk x2 → ∃ k, strakelaw18_ReplayMore.f k l0 a1 x2.f0 x2.f1.f0 x2.f1.f1 x2.f1.f2 x2.f2 = some true
end Go.Proofs.Ytlheknapgonakaa.X
