/- The page of any slots is the reference's. No condition. -/
import Derived.Test.YthoebkkohdfgeaaX24
import Derived.Test.YthoebkkohdfgeaaStatPageBuilds
import Derived.Test.YthoebkkohdfgeaaPage3
import Derived.Test.YthoebkkohdfgeaaPageS
namespace Go.Proofs.Ythoebkkohdfgeaa.Pure
open Go Go.RowKit Go.Proofs.Ythoebkkohdfgeaa.X Go.Proofs.Ythoebkkohdfgeaa.Plain Go.Proofs.YthoebkkohdfgeaaW.PrintWords Go.Proofs.YthoebkkohdfgeaaW.PrintMore

theorem PageBuilds : strakelaw15_PageBuilds.Pure := by
  intro n l hn hl hw
  refine Ev.rounds (g := fun k => strakelaw15_PageBuilds.f k n l) ?_
  unfold strakelaw15_PageBuilds.f
  unfold maxLen at hl
  refine Ev.bind awake15_is (Ev.bind (slim_is l (by omega)) ?_)
  by_cases h1 : (∀ y ∈ l, y.f3.length ≤ 1000) ∧ l.length ≤ 100
  · rw [decide_eq_true h1]
    refine evp rfl ?_
    have hs : Slots l := fun s hs => ⟨bytes_of (hw s hs).2.2.2.2.1, h1.1 s hs⟩
    have la : (built n l).1.length ≤ 1000 ∧ (built n l).2.1.length ≤ 1000 := by
      unfold built
      by_cases hm : May n l
      · rw [if_pos hm]
        have h4 := hm.2.1
        unfold dat bes
        simp only [List.length_append, List.length_map, List.length_replicate]
        omega
      · rw [if_neg hm]
        exact ⟨by decide, by decide⟩
    refine Ev.bind (build_is n l hs) (Ev.bind (rbuild_is n l hs) (Ev.bind (sameBytes_is _ (by omega)) (Ev.bind (sameBytes_is _ (by omega)) ?_)))
    simp only [if_true, beq_self_eq_true]
    exact Ev.now _
  · rw [decide_eq_false h1]
    exact evn (by decide) (Ev.now _)
end Go.Proofs.Ythoebkkohdfgeaa.Pure
