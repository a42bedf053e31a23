/- What any sectors, and what stands beside them, say. No condition. -/
import Derived.Test.YthoebkkohdfgeaaX29
import Derived.Test.YthoebkkohdfgeaaStatPageReads
import Derived.Test.YthoebkkohdfgeaaPage3
import Derived.Test.YthoebkkohdfgeaaPageR
namespace Go.Proofs.Ythoebkkohdfgeaa.Pure
open Go Go.RowKit Go.Proofs.Ythoebkkohdfgeaa.X Go.Proofs.Ythoebkkohdfgeaa.Plain Go.Proofs.YthoebkkohdfgeaaW.PrintWords Go.Proofs.YthoebkkohdfgeaaW.PrintMore

theorem PageReads : strakelaw15_PageReads.Pure := by
  intro d b hd _ hdw hb _ hbw
  refine Ev.rounds (g := fun k => strakelaw15_PageReads.f k d b) ?_
  unfold strakelaw15_PageReads.f
  unfold maxLen at hd hb
  refine Ev.bind awake15_is (Ev.bind (short_is d (by omega)) (Ev.bind (short_is b (by omega)) ?_))
  have yes : Ev (fun k => strakelaw15_PageReads.j0 k d b true true) true :=
    Ev.step (f := fun _ => some true) (fun k => by rw [strakelaw15_PageReads.j0, if_pos rfl]) (Ev.now _)
  by_cases h1 : (∀ y ∈ d, y.length ≤ 1000) ∧ d.length ≤ 100
  · rw [decide_eq_true h1]
    refine evp rfl ?_
    by_cases h2 : (∀ y ∈ b, y.length ≤ 1000) ∧ b.length ≤ 100
    · rw [decide_eq_true h2]
      have rd : Thin d := fun y hy => ⟨bytes_of (hdw y hy), h1.1 y hy⟩
      have rb : Thin b := fun y hy => ⟨bytes_of (hbw y hy), h2.1 y hy⟩
      refine Ev.step (fun k => by rw [strakelaw15_PageReads.j0, if_neg (by decide)]) ?_
      refine Ev.bind (read_is d b rd rb (by omega)) (Ev.bind (rread_is d b rd rb (by omega)) (Ev.bind (sameFound_is _ (by have := told_len 0 d b; omega)) ?_))
      first | exact Ev.now _ | exact evp rfl (Ev.now _)
    · rw [decide_eq_false h2]
      exact yes
  · rw [decide_eq_false h1]
    exact evn (by decide) yes
end Go.Proofs.Ythoebkkohdfgeaa.Pure
