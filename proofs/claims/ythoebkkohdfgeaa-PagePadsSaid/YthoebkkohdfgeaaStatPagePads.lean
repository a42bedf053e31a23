import Derived.Test.YthoebkkohdfgeaaX37
import Derived.Test.YthoebkkohdfgeaaSlotsRead
namespace Go.Proofs.Ythoebkkohdfgeaa.X
open Go.RowKit
def strakelaw15_PagePads.Pure : Prop := ∀ (a0 : Int) (l1 : List S38), (Lit.int .i64 a0).wf = true → l1.length ≤ maxLen → (∀ s ∈ l1, slotOk s) → ∃ k, strakelaw15_PagePads.f k a0 l1 = some true
end Go.Proofs.Ythoebkkohdfgeaa.X
