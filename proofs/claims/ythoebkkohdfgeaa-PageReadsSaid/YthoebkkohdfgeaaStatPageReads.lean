import Derived.Test.YthoebkkohdfgeaaX29
namespace Go.Proofs.Ythoebkkohdfgeaa.X
open Go.RowKit
def strakelaw15_PageReads.Pure : Prop := ∀ (l0 : List (List Int)) (l1 : List (List Int)), l0.length ≤ maxLen → (∀ y ∈ l0, y.length ≤ maxLen) → (∀ y ∈ l0, ∀ x ∈ y, (Lit.int .u8 x).wf = true) → l1.length ≤ maxLen → (∀ y ∈ l1, y.length ≤ maxLen) → (∀ y ∈ l1, ∀ x ∈ y, (Lit.int .u8 x).wf = true) → ∃ k, strakelaw15_PageReads.f k l0 l1 = some true
end Go.Proofs.Ythoebkkohdfgeaa.X
