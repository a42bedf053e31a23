/- The bytes beside any sector. No condition. -/
import Derived.Test.YtjjohdeknahkmaaX27
import Derived.Test.YtjjohdeknahkmaaOob2
namespace Go.Proofs.Ytjjohdeknahkmaa.Pure
open Go Go.RowKit Go.Proofs.Ytjjohdeknahkmaa.X Go.Proofs.Ytjjohdeknahkmaa.Plain Go.Proofs.YtjjohdeknahkmaaW.PrintWords Go.Proofs.YtjjohdeknahkmaaW.PrintMore

theorem OobPacks : strakelaw05_OobPacks.Pure := by
  intro K L S d _ _ _ _ hn hw
  have hd := bytes_of hw
  refine Ev.rounds (g := fun k => strakelaw05_OobPacks.f k K L S d) ?_
  unfold strakelaw05_OobPacks.f
  refine Ev.bind awake5_is (Ev.bind (pack_is K L S d hd (by omega)) (Ev.bind (rpack_is K L S d hd) ?_))
  rw [oright_is, rright_is]
  simp only [if_true, Option.bind_some, beq_self_eq_true]
  exact Ev.now _
end Go.Proofs.Ytjjohdeknahkmaa.Pure
