/- The number that any bytes begin with is the reference's. No condition. -/
import Derived.Test.YtnhjjhlplboogaaX4
import Derived.Test.YtnhjjhlplboogaaWire3
namespace Go.Proofs.Ytnhjjhlplboogaa.Pure
open Go Go.RowKit Go.Proofs.Ytnhjjhlplboogaa.X Go.Proofs.Ytnhjjhlplboogaa.Plain Go.Proofs.YtnhjjhlplboogaaW.PrintWords Go.Proofs.YtnhjjhlplboogaaW.PrintMore

theorem WireTakes : strakelaw02_WireTakes.Pure := by
  intro l _ _ hw
  have hb := bytes_of hw
  refine Ev.rounds (g := fun k => strakelaw02_WireTakes.f k l) ?_
  unfold strakelaw02_WireTakes.f
  refine Ev.bind awake_is (Ev.bind (take_is l hb) (Ev.bind (rtake_is l hb) ?_))
  simp only [if_true, beq_self_eq_true]
  exact Ev.now _

end Go.Proofs.Ytnhjjhlplboogaa.Pure
