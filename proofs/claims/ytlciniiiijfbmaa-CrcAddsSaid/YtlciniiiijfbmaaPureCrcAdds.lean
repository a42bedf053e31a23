/- The sum of any bytes that stand behind others, of any sum, is the reference's. No condition. -/
import Derived.Test.YtlciniiiijfbmaaX1
import Derived.Test.YtlciniiiijfbmaaCrcRef
import Derived.Test.YtlciniiiijfbmaaCrcAwake
namespace Go.Proofs.Ytlciniiiijfbmaa.Pure
open Go Go.RowKit Go.Proofs.Ytlciniiiijfbmaa.X Go.Proofs.Ytlciniiiijfbmaa.Plain Go.Proofs.YtlciniiiijfbmaaW.PrintWords Go.Proofs.YtlciniiiijfbmaaW.PrintMore

theorem CrcAdds : strakelaw01_CrcAdds.Pure := by
  intro c l hc _ hn hw
  have hb := bytes_of hw
  obtain ⟨c0, c1⟩ := wf_u32 hc
  refine Ev.rounds (g := fun k => strakelaw01_CrcAdds.f k c l) ?_
  unfold strakelaw01_CrcAdds.f
  refine Ev.bind awake_is ?_
  by_cases h : (l.length : Int) > 20000
  · simp only [if_pos h]; exact Ev.now _
  · simp only [if_neg h, if_true]
    refine Ev.bind (crc_Add_is c c0 c1 l hb (by omega)) ?_
    refine Ev.bind (ref_Add_is c c0 c1 l hb (by omega)) ?_
    rw [beq_self_eq_true]; exact Ev.now _

end Go.Proofs.Ytlciniiiijfbmaa.Pure
