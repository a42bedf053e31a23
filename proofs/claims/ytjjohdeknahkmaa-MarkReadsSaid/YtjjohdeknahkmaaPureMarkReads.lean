/- The mark of any bytes is the reference's. No condition. -/
import Derived.Test.YtjjohdeknahkmaaX8
import Derived.Test.YtjjohdeknahkmaaMark2
namespace Go.Proofs.Ytjjohdeknahkmaa.Pure
open Go Go.RowKit Go.Proofs.Ytjjohdeknahkmaa.X Go.Proofs.Ytjjohdeknahkmaa.Plain Go.Proofs.YtjjohdeknahkmaaW.PrintWords Go.Proofs.YtjjohdeknahkmaaW.PrintMore

theorem MarkReads : strakelaw06_MarkReads.Pure := by
  intro l _ _ hw
  have hb := bytes_of hw
  refine Ev.rounds (g := fun K => strakelaw06_MarkReads.f K l) ?_
  unfold strakelaw06_MarkReads.f
  rw [awake_is]
  simp only [Option.bind_some]
  refine Ev.bind (read_is l hb) (Ev.bind (rread_is l hb) ?_)
  simp only [if_true, beq_self_eq_true, Bool.and_self]
  exact Ev.now _

end Go.Proofs.Ytjjohdeknahkmaa.Pure
