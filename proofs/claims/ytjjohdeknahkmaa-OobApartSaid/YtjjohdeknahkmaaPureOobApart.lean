/- Two that may stand beside one sector have the same bytes just if they are the same. No condition. -/
import Derived.Test.YtjjohdeknahkmaaX28
import Derived.Test.YtjjohdeknahkmaaOob1
namespace Go.Proofs.Ytjjohdeknahkmaa.Pure
open Go Go.RowKit Go.Proofs.Ytjjohdeknahkmaa.X Go.Proofs.Ytjjohdeknahkmaa.Plain Go.Proofs.YtjjohdeknahkmaaW.PrintWords Go.Proofs.YtjjohdeknahkmaaW.PrintMore

theorem pk_inj {K L S K' L' S' : Int} (d : List Int) (h : OR K L S) (h' : OR K' L' S') (e : pk K L S d = pk K' L' S' d) : K = K' ∧ L = L' ∧ S = S' := by
  have := fr_inj h.L h.S ⟨addS_lo 0 (fr K L S ++ d), addS_hi _ _⟩ h'.L h'.S ⟨addS_lo 0 (fr K' L' S' ++ d), addS_hi _ _⟩ e
  exact ⟨this.1, this.2.1, this.2.2.1⟩
theorem OobApart : strakelaw05_OobApart.Pure := by
  intro K L S K' L' S' d _ _ _ _ _ _ _ hn hw
  have hd := bytes_of hw
  refine Ev.rounds (g := fun k => strakelaw05_OobApart.f k K L S K' L' S' d) ?_
  unfold strakelaw05_OobApart.f
  refine Ev.bind awake5_is (Ev.bind (pack_is K L S d hd (by omega)) (Ev.bind (pack_is K' L' S' d hd (by omega)) ?_))
  by_cases h : OR K L S ∧ d.length = 16
  · rw [if_pos h]
    by_cases h' : OR K' L' S' ∧ d.length = 16
    · rw [if_pos h']
      simp only [if_true]
      rw [str_beq (pk_bytes h.1.K L S d) (pk_bytes h'.1.K L' S' d)]
      by_cases e : K = K' ∧ L = L' ∧ S = S'
      · obtain ⟨rfl, rfl, rfl⟩ := e
        simp only [decide_true, beq_self_eq_true, Bool.and_self]
        exact Ev.now _
      · rw [decide_eq_false (fun z => e (pk_inj d h.1 h'.1 z))]
        have : (K == K' && (L == L' && S == S')) = false := by
          rw [Bool.eq_false_iff]
          intro z
          rw [Bool.and_eq_true, Bool.and_eq_true, beq_iff_eq, beq_iff_eq, beq_iff_eq] at z
          exact e z
        rw [this]
        exact Ev.now _
    · rw [if_neg h']
      exact Ev.now _
  · rw [if_neg h]
    exact Ev.now _
end Go.Proofs.Ytjjohdeknahkmaa.Pure
