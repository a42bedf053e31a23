/- What was made is read as it was; what is read was made so. No condition. -/
import Derived.Test.YtjjohdeknahkmaaX8
import Derived.Test.YtjjohdeknahkmaaMark1
namespace Go.Proofs.Ytjjohdeknahkmaa.Pure
open Go Go.RowKit Go.Proofs.Ytjjohdeknahkmaa.X Go.Proofs.Ytjjohdeknahkmaa.Plain Go.Proofs.YtjjohdeknahkmaaW.PrintWords Go.Proofs.YtjjohdeknahkmaaW.PrintMore

theorem MarkBack : strakelaw06_MarkBack.Pure := by
  intro L W S l _ _ _ _ _ hw
  have hb := bytes_of hw
  refine Ev.rounds (g := fun K => strakelaw06_MarkBack.f K L W S l) ?_
  have yes : Ev (fun K => strakelaw06_MarkBack.j0 K l true) true := by
    refine Ev.step (f := fun K => (mark_Read.f K l).bind fun bt347 => (if bt347.2.2.2 = 0 then ((mark_Sector.f bt347.1 bt347.2.1 bt347.2.2.1).bind fun bt352 => (if (strOfNums bt352.1).toList = (strOfNums l).toList then (if bt352.2 = 0 then (some true) else (some false)) else (some false))) else (some true))) (fun K => by rw [strakelaw06_MarkBack.j0]) ?_
    refine Ev.bind (read_is l hb) ?_
    rcases mr_cases l hb with h | ⟨L, W, S, h, hM, hl⟩
    · rw [h]; simp only [if_neg (show ¬ (3 : Int) = 0 by decide)]; exact Ev.now _
    · rw [h]
      simp only [if_true]
      rw [sector_is, if_pos hM]
      simp only [Option.bind_some]
      rw [if_pos (by rw [hl]), if_pos trivial]
      exact Ev.now _
  unfold strakelaw06_MarkBack.f
  rw [awake_is, sector_is]
  simp only [Option.bind_some]
  by_cases hM : MR L W S
  · rw [if_pos hM]
    simp only [if_true]
    refine Ev.bind (read_is _ (ms_bytes hM)) ?_
    rw [mr_ms hM]
    simp only [beq_self_eq_true, Bool.not_true, Bool.or_self, Bool.false_eq_true, if_false, if_true, ms_len]
    exact yes
  · rw [if_neg hM]
    simp only [if_neg (show ¬ (1 : Int) = 0 by decide)]
    exact yes

end Go.Proofs.Ytjjohdeknahkmaa.Pure
