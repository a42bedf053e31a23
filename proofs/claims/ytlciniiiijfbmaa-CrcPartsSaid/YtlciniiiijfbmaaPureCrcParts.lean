/- The sum of bytes, added by those behind, is the sum of all. No condition. -/
import Derived.Test.YtlciniiiijfbmaaX2
import Derived.Test.YtlciniiiijfbmaaCrcRef
import Derived.Test.YtlciniiiijfbmaaCrcAwake
namespace Go.Proofs.Ytlciniiiijfbmaa.Pure
open Go Go.RowKit Go.Proofs.Ytlciniiiijfbmaa.X Go.Proofs.Ytlciniiiijfbmaa.Plain Go.Proofs.YtlciniiiijfbmaaW.PrintWords Go.Proofs.YtlciniiiijfbmaaW.PrintMore

theorem CrcParts : strakelaw01_CrcParts.Pure := by
  intro l m _ hn hw _ hn' hw'
  have hb := bytes_of hw
  have hb' := bytes_of hw'
  refine Ev.rounds (g := fun k => strakelaw01_CrcParts.f k l m) ?_
  unfold strakelaw01_CrcParts.f
  refine Ev.bind awake_is ?_
  have yes : Ev (fun k => strakelaw01_CrcParts.j0 k l m true true) true :=
    Ev.step (f := fun _ => some true) (fun k => by rw [strakelaw01_CrcParts.j0, if_pos rfl]) (Ev.now _)
  by_cases h : (l.length : Int) > 20000
  · simp only [if_pos h]; exact yes
  · simp only [if_neg h]
    by_cases h2 : (m.length : Int) > 20000
    · rw [decide_eq_true h2]; exact yes
    · rw [decide_eq_false h2]
      refine Ev.step (f := fun k => (crc_Sum.f k l).bind fun t127 => (crc_Add.f k t127 m).bind fun t128 => (crc_Sum.f k (l ++ m)).bind fun t129 => some (t128 == t129)) (fun k => ?_) ?_
      · rw [strakelaw01_CrcParts.j0, if_neg (by decide)]
        simp only [Option.bind_some, List.nil_append, List.length_nil]
        rw [if_pos (by omega), if_pos (by omega), if_pos trivial]
      · refine Ev.bind (crc_Sum_is l hb (by omega)) ?_
        refine Ev.bind (crc_Add_is _ (addS_lo _ _) (addS_hi _ _) m hb' (by omega)) ?_
        refine Ev.bind (crc_Sum_is (l ++ m) (hb.app hb') (by rw [List.length_append]; omega)) ?_
        rw [addS_append, beq_self_eq_true]; exact Ev.now _

end Go.Proofs.Ytlciniiiijfbmaa.Pure
