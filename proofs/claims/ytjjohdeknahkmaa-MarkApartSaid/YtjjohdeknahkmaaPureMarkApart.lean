/- Two marks have the same sector just if they are the same. No condition. -/
import Derived.Test.YtjjohdeknahkmaaX3
import Derived.Test.YtjjohdeknahkmaaMark1
namespace Go.Proofs.Ytjjohdeknahkmaa.Pure
open Go Go.RowKit Go.Proofs.Ytjjohdeknahkmaa.X Go.Proofs.Ytjjohdeknahkmaa.Plain Go.Proofs.YtjjohdeknahkmaaW.PrintWords Go.Proofs.YtjjohdeknahkmaaW.PrintMore

theorem MarkApart : strakelaw06_MarkApart.Pure := by
  intro L W S L' W' S' _ _ _ _ _ _
  unfold strakelaw06_MarkApart.f
  rw [awake_is, sector_is, sector_is]
  simp only [Option.bind_some]
  by_cases h : MR L W S
  · rw [if_pos h]
    by_cases h' : MR L' W' S'
    · rw [if_pos h']
      simp only [if_true]
      rw [str_beq (ms_bytes h) (ms_bytes h')]
      by_cases e : ms L W S = ms L' W' S'
      · obtain ⟨rfl, rfl, rfl⟩ := ms_inj h h' e
        simp
      · have hn : (L == L' && (W == W' && S == S')) = false := by
          rw [Bool.eq_false_iff]
          intro hh
          simp only [Bool.and_eq_true, beq_iff_eq] at hh
          obtain ⟨rfl, rfl, rfl⟩ := hh
          exact e rfl
        rw [hn, decide_eq_false e]
        rfl
    · rw [if_neg h']; simp
  · rw [if_neg h]; simp

end Go.Proofs.Ytjjohdeknahkmaa.Pure
