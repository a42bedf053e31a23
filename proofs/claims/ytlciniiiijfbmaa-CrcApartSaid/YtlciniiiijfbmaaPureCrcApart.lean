/- Two texts that differ in one byte alone have unlike sums. No condition. -/
import Derived.Test.YtlciniiiijfbmaaX2
import Derived.Test.YtlciniiiijfbmaaX13
import Derived.Test.YtlciniiiijfbmaaCrcAwake
namespace Go.Proofs.Ytlciniiiijfbmaa.Pure
open Go Go.RowKit Go.Proofs.Ytlciniiiijfbmaa.X Go.Proofs.Ytlciniiiijfbmaa.Plain Go.Proofs.YtlciniiiijfbmaaW.PrintWords Go.Proofs.YtlciniiiijfbmaaW.PrintMore

theorem CrcApart : strakelaw01_CrcApart.Pure := by
  intro a b x y _ hn hw _ hn' hw' hx hy
  have ha := bytes_of hw
  have hb := bytes_of hw'
  have hx := wf_u8 hx
  have hy := wf_u8 hy
  refine Ev.rounds (g := fun K => strakelaw01_CrcApart.f K a b x y) ?_
  unfold strakelaw01_CrcApart.f
  refine Ev.bind awake_is ?_
  have yes : Ev (fun k => strakelaw01_CrcApart.j0 k a b true true x y) true :=
    Ev.step (f := fun _ => some true) (fun k => by rw [strakelaw01_CrcApart.j0, if_pos rfl]) (Ev.now _)
  by_cases h1 : (a.length : Int) > 10000
  · simp only [if_pos h1]; exact yes
  simp only [if_neg h1]
  by_cases h2 : (b.length : Int) > 10000
  · simp only [if_pos h2]; exact yes
  simp only [if_neg h2]
  by_cases h3 : x = y
  · rw [beq_iff_eq.2 h3]; exact yes
  rw [beq_eq_false_iff_ne.2 h3]
  have one : ∀ z : Int, 0 ≤ z ∧ z < 256 → Ev (fun k => crc_Sum.f k (a ++ [z] ++ b)) (addS 0 (a ++ [z] ++ b)) := fun z hz =>
    crc_Sum_is _ (Bytes.app (Bytes.app ha (fun w hw => by rw [List.mem_singleton.1 hw]; exact hz)) hb) (by simp only [List.length_append, List.length_cons, List.length_nil]; omega)
  refine Ev.step (f := fun k => (crc_Sum.f k (a ++ [x] ++ b)).bind fun s => (crc_Sum.f k (a ++ [y] ++ b)).bind fun t => some (s != t)) (fun k => ?_) ?_
  · rw [strakelaw01_CrcApart.j0, if_neg (by decide)]
    simp only [Option.bind_some, List.nil_append, List.length_append, List.length_cons, List.length_nil, if_true]
    rw [if_pos (by omega), if_pos (by omega), if_pos (by omega), if_pos (by omega), if_pos (by omega), if_pos (by omega)]
  · refine Ev.bind (one x hx) (Ev.bind (one y hy) ?_)
    rw [bne_iff_ne.2 (fun h => h3 (addS_one a b x y hx hy h))]
    exact Ev.now _
end Go.Proofs.Ytlciniiiijfbmaa.Pure
