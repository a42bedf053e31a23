/- The sum of nine bytes. -/
import Derived.Test.YtlciniiiijfbmaaX3
import Derived.Test.YtlciniiiijfbmaaCrcLaws
namespace Go.Proofs.Ytlciniiiijfbmaa.Plain
open Go Go.RowKit Go.Proofs.Ytlciniiiijfbmaa.X Go.Proofs.YtlciniiiijfbmaaW.PrintWords Go.Proofs.YtlciniiiijfbmaaW.PrintMore

theorem awake_is : Ev (fun k => strakelaw01_awake.f k) true := by
  unfold strakelaw01_awake.f
  refine Ev.bind (crc_Sum_is _ (by unfold Bytes; decide) (by decide)) ?_
  rw [awake_sum]; exact Ev.now _

end Go.Proofs.Ytlciniiiijfbmaa.Plain
