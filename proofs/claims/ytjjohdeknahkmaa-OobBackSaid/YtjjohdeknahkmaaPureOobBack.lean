/- What was packed is unpacked as it was; what is unpacked was packed so. No condition. -/
import Derived.Test.YtjjohdeknahkmaaX19
import Derived.Test.YtjjohdeknahkmaaX38
import Derived.Test.YtjjohdeknahkmaaX41
import Derived.Test.YtjjohdeknahkmaaOob1
namespace Go.Proofs.Ytjjohdeknahkmaa.Pure
open Go Go.RowKit Go.Proofs.Ytjjohdeknahkmaa.X Go.Proofs.Ytjjohdeknahkmaa.Plain Go.Proofs.YtjjohdeknahkmaaW.PrintWords Go.Proofs.YtjjohdeknahkmaaW.PrintMore

theorem OobBack : strakelaw05_OobBack.Pure := by
  intro K L S d b _ _ _ _ hn hw _ hn' hw'
  have hd := bytes_of hw
  have hb := bytes_of hw'
  refine Ev.rounds (g := fun k => strakelaw05_OobBack.f k K L S d b) ?_
  unfold strakelaw05_OobBack.f
  refine Ev.bind awake5_is (Ev.bind (pack_is K L S d hd (by omega)) ?_)
  have behind : Ev (fun k => strakelaw05_OobBack.j0 k d b true) true := by
    refine Ev.step (f := fun k => (oob_Unpack.f k b d).bind fun p => (if p.2.2.2 = 0 then ((oob_Pack.f k p.1 p.2.1 p.2.2.1 d).bind fun c => (if (strOfNums c.1).toList = (strOfNums b).toList then (if c.2 = 0 then (some true) else (some false)) else (some false))) else (some true))) (fun k => by rw [strakelaw05_OobBack.j0]) ?_
    by_cases h : b.length = 17
    · obtain ⟨K', L', S', q, hK, hL, hS, hq, rfl⟩ := oshape hb h
      refine Ev.bind (unpack_is K' L' S' q d hK hL hS hq hd (by omega)) ?_
      unfold ut
      by_cases h1 : d.length = 16 ∧ OR K' L' S'
      · rw [if_pos h1]
        by_cases h2 : q = addS 0 (fr K' L' S' ++ d)
        · rw [if_pos h2]
          have rp := pack_is K' L' S' d hd (by omega)
          rw [if_pos ⟨h1.2, h1.1⟩] at rp
          refine evp rfl (Ev.bind rp ?_)
          refine evp (by rw [h2]; rfl) (evp rfl (Ev.now _))
        · rw [if_neg h2]
          exact evn (by decide) (Ev.now _)
      · rw [if_neg h1]
        exact evn (by decide) (Ev.now _)
    · refine Ev.bind (unpack_not b d h) ?_
      exact evn (by decide) (Ev.now _)
  by_cases h : OR K L S ∧ d.length = 16
  · rw [if_pos h]
    refine evp rfl (Ev.bind (unpack_pk h.1 d hd h.2) ?_)
    refine evn (by simp) (evp rfl (evp rfl ?_))
    exact behind
  · rw [if_neg h]
    exact evn (by decide) behind
end Go.Proofs.Ytjjohdeknahkmaa.Pure
