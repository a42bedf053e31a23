/- A number's four bytes, and the number that any bytes begin with, are the reference's. No condition. -/
import Derived.Test.YtnhjjhlplboogaaX3
import Derived.Test.YtnhjjhlplboogaaWire2
import Derived.Test.YtnhjjhlplboogaaWire4
namespace Go.Proofs.Ytnhjjhlplboogaa.Pure
open Go Go.RowKit Go.Proofs.Ytnhjjhlplboogaa.X Go.Proofs.Ytnhjjhlplboogaa.Plain Go.Proofs.YtnhjjhlplboogaaW.PrintWords Go.Proofs.YtnhjjhlplboogaaW.PrintMore

theorem WireFixed : strakelaw02_WireFixed.Pure := by
  intro n l hn _ _ hw
  have hn := wf_u32 hn
  have hb := bytes_of hw
  refine Ev.rounds (g := fun k => strakelaw02_WireFixed.f k n l) ?_
  unfold strakelaw02_WireFixed.f
  refine Ev.bind awake_is ?_
  simp only [tf_is l hb, rtf_is l hb, fx_is, Option.bind_some, if_true]
  refine Ev.bind (rfx_is n hn.1 hn.2) ?_
  simp only [if_true, beq_self_eq_true]
  exact Ev.now _

end Go.Proofs.Ytnhjjhlplboogaa.Pure
