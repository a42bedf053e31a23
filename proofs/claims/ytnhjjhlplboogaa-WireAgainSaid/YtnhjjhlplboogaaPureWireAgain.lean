/- What is read, made again, is the bytes that were read. No condition. -/
import Derived.Test.YtnhjjhlplboogaaX7
import Derived.Test.YtnhjjhlplboogaaWire5
namespace Go.Proofs.Ytnhjjhlplboogaa.Pure
open Go Go.RowKit Go.Proofs.Ytnhjjhlplboogaa.X Go.Proofs.Ytnhjjhlplboogaa.Plain Go.Proofs.YtnhjjhlplboogaaW.PrintWords Go.Proofs.YtnhjjhlplboogaaW.PrintMore

theorem again_j0 (b : List Int) (hb : Bytes b) (hl : b.length ≤ 20000) : Ev (fun K => strakelaw02_WireAgain.j0 K b true false) true := by
  refine Ev.step (f := fun K => (wire_TakeText.f K b).bind fun bt291 => (if bt291.2.2 = 0 then (if bt291.2.1 < 1 then (some false) else (if bt291.2.1 > (b.length : Int) then (some false) else ((wire_Text.f K bt291.1).bind fun t296 => (if 0 ≤ bt291.2.1 then (if bt291.2.1 ≤ (b.length : Int) then (if (strOfNums t296).toList = (strOfNums (b.take (bt291.2.1 : Int).toNat)).toList then (some true) else (some false)) else (none)) else (none))))) else (some true))) (fun K => ?_) ?_
  · rw [strakelaw02_WireAgain.j0, if_neg (by decide)]
  · refine Ev.bind (takeText_is b hb (by omega)) ?_
    rcases tx_cases b hb with h | ⟨s, j, h, h1, h2, h3⟩
    · rw [h]; simp only [if_neg (show ¬ ((3 : Int) = 0) by decide)]; exact Ev.now _
    · rw [h]
      have hs : s.length ≤ b.length := by
        have := congrArg List.length h3
        rw [List.length_append, List.length_take] at this; omega
      simp only [if_true, Int.toNat_natCast]
      refine evn (by omega) (evn (by omega) ?_)
      refine Ev.bind (text_is s (by omega)) ?_
      rw [h3, if_pos (by omega), if_pos (by omega), if_pos rfl]
      exact Ev.now _
theorem WireAgain : strakelaw02_WireAgain.Pure := by
  intro b _ _ hw
  have hb := bytes_of hw
  refine Ev.rounds (g := fun k => strakelaw02_WireAgain.f k b) ?_
  unfold strakelaw02_WireAgain.f
  refine Ev.bind awake_is ?_
  by_cases h1 : (b.length : Int) > 20000
  · simp only [if_pos h1]; exact Ev.now _
  simp only [if_neg h1]
  refine Ev.bind (take_is b hb) ?_
  rcases tk_cases b hb with h | ⟨n, k, h, hv, h2, h3, h4, h5⟩
  · rw [h]; simp only [if_neg (show ¬ ((3 : Int) = 0) by decide)]; exact again_j0 b hb (by omega)
  · rw [h]
    simp only [if_true, Int.toNat_natCast]
    refine evn (by omega) (evn (by omega) (evn (by omega) ?_))
    refine Ev.bind (number_one (by omega)) ?_
    refine evp (by omega) (evp (by omega) ?_)
    rw [hv, bne_self_eq_false]
    exact again_j0 b hb (by omega)

end Go.Proofs.Ytnhjjhlplboogaa.Pure
