/- Of two the one with the greater stamp alone is newer. No condition. -/
import Derived.Test.YtjjohdeknahkmaaX29
import Derived.Test.YtjjohdeknahkmaaX30
import Derived.Test.YtjjohdeknahkmaaOob1
namespace Go.Proofs.Ytjjohdeknahkmaa.Pure
open Go Go.RowKit Go.Proofs.Ytjjohdeknahkmaa.X Go.Proofs.Ytjjohdeknahkmaa.Plain Go.Proofs.YtjjohdeknahkmaaW.PrintWords Go.Proofs.YtjjohdeknahkmaaW.PrintMore

theorem OobNewer : strakelaw05_OobNewer.Pure := by
  intro a0 a1 a b0 b1 b c0 c1 c _ _ _ _ _ _ _ _ _
  refine Ev.rounds (g := fun k => strakelaw05_OobNewer.f k a0 a1 a b0 b1 b c0 c1 c) ?_
  unfold strakelaw05_OobNewer.f oob_Newer.f
  refine Ev.bind awake5_is ?_
  simp only [Option.bind_some]
  have more : ∀ x : Bool, x = decide (a > b) → Ev (fun k => strakelaw05_OobNewer.j0 k true x (x != decide (a > b)) a0 a1 a b0 b1 b c0 c1 c) true := by
    intro x hx
    refine Ev.step (f := fun _ => some true) (fun k => ?_) (Ev.now _)
    rw [strakelaw05_OobNewer.j0, hx, if_neg (by simp)]
    unfold oob_Newer.f
    simp only [Option.bind_some, if_true]
    by_cases h1 : a > b
    · by_cases h2 : b > c
      · have h3 : a > c := by omega
        simp [h1, h2, h3]
      · simp [h1, h2]
    · simp [h1]
  by_cases h1 : a > b
  · have h2 : ¬ b > a := by omega
    have h3 : a ≠ b := by omega
    simp only [decide_eq_true h1, decide_eq_false h2, if_true, Bool.false_eq_true, if_false, bne_iff_ne.2 h3, bne_self_eq_false]
    have := more true (decide_eq_true h1).symm
    rw [decide_eq_true h1] at this
    exact this
  · by_cases h2 : b > a
    · have h3 : a ≠ b := by omega
      simp only [decide_eq_false h1, decide_eq_true h2, Bool.false_eq_true, if_false, bne_iff_ne.2 h3, bne_self_eq_false]
      have := more false (decide_eq_false h1).symm
      rw [decide_eq_false h1] at this
      exact this
    · have h3 : a = b := by omega
      have h4 : (a != b) = false := by rw [h3]; exact bne_self_eq_false _
      simp only [decide_eq_false h1, decide_eq_false h2, Bool.false_eq_true, if_false, h4, bne_self_eq_false]
      have := more false (decide_eq_false h1).symm
      rw [decide_eq_false h1] at this
      exact this
end Go.Proofs.Ytjjohdeknahkmaa.Pure
