/- What any bytes beside any sector are. No condition. -/
import Derived.Test.YtjjohdeknahkmaaX38
import Derived.Test.YtjjohdeknahkmaaX39
import Derived.Test.YtjjohdeknahkmaaX40
import Derived.Test.YtjjohdeknahkmaaOob2
namespace Go.Proofs.Ytjjohdeknahkmaa.Pure
open Go Go.RowKit Go.Proofs.Ytjjohdeknahkmaa.X Go.Proofs.Ytjjohdeknahkmaa.Plain Go.Proofs.YtjjohdeknahkmaaW.PrintWords Go.Proofs.YtjjohdeknahkmaaW.PrintMore

theorem OobReads : strakelaw05_OobReads.Pure := by
  intro b d _ hn hw _ hn' hw'
  have hb := bytes_of hw
  have hd := bytes_of hw'
  refine Ev.rounds (g := fun k => strakelaw05_OobReads.f k b d) ?_
  unfold strakelaw05_OobReads.f
  refine Ev.bind awake5_is ?_
  have go : ∀ r : Int × Int × Int × Int, Ev (fun k => oob_Unpack.f k b d) r → Ev (fun k => strakeref05_Unpack.f k b d) r →
      Ev (fun k => (oob_Unpack.f k b d).bind fun x => (strakeref05_Unpack.f k b d).bind fun y => (if true = true then (if (x.1 == y.1 && (x.2.1 == y.2.1 && (x.2.2.1 == y.2.2.1))) = true then (some (x.2.2.2 == y.2.2.2)) else (some false)) else (some false))) true := by
    intro r h1 h2
    refine Ev.bind h1 (Ev.bind h2 ?_)
    simp only [beq_self_eq_true, Bool.and_self, if_true]
    exact Ev.now _
  by_cases h : b.length = 17
  · obtain ⟨K, L, S, q, hK, hL, hS, hq, rfl⟩ := oshape hb h
    exact go _ (unpack_is K L S q d hK hL hS hq hd (by omega)) (runpack_is K L S q d hK hL hS hq hd)
  · exact go _ (unpack_not b d h) (runpack_not b d h)
end Go.Proofs.Ytjjohdeknahkmaa.Pure
