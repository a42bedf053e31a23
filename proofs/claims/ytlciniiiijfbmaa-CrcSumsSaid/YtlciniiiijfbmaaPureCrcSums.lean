/- The sum of any bytes is the reference's. No condition. -/
import Derived.Test.YtlciniiiijfbmaaX1
import Derived.Test.YtlciniiiijfbmaaCrcRef
import Derived.Test.YtlciniiiijfbmaaCrcAwake
namespace Go.Proofs.Ytlciniiiijfbmaa.Pure
open Go Go.RowKit Go.Proofs.Ytlciniiiijfbmaa.X Go.Proofs.Ytlciniiiijfbmaa.Plain Go.Proofs.YtlciniiiijfbmaaW.PrintWords Go.Proofs.YtlciniiiijfbmaaW.PrintMore

theorem CrcSums : strakelaw01_CrcSums.Pure := by
  intro l _ hn hw
  have hb := bytes_of hw
  refine Ev.rounds (g := fun k => strakelaw01_CrcSums.f k l) ?_
  unfold strakelaw01_CrcSums.f
  refine Ev.bind awake_is ?_
  by_cases h : (l.length : Int) > 20000
  · simp only [if_pos h]; exact Ev.now _
  · simp only [if_neg h, if_true]
    refine Ev.bind (crc_Sum_is l hb (by omega)) ?_
    refine Ev.bind (ref_Sum_is l hb (by omega)) ?_
    rw [beq_self_eq_true]; exact Ev.now _

end Go.Proofs.Ytlciniiiijfbmaa.Pure
