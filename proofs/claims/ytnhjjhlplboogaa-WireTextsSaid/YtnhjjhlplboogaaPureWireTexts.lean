/- A text's code, and the text that any bytes begin with, are the reference's. No condition. -/
import Derived.Test.YtnhjjhlplboogaaX6
import Derived.Test.YtnhjjhlplboogaaWire5
namespace Go.Proofs.Ytnhjjhlplboogaa.Pure
open Go Go.RowKit Go.Proofs.Ytnhjjhlplboogaa.X Go.Proofs.Ytnhjjhlplboogaa.Plain Go.Proofs.YtnhjjhlplboogaaW.PrintWords Go.Proofs.YtnhjjhlplboogaaW.PrintMore

theorem WireTexts : strakelaw02_WireTexts.Pure := by
  intro s b _ _ _ _ _ hw'
  have hb := bytes_of hw'
  refine Ev.rounds (g := fun k => strakelaw02_WireTexts.f k s b) ?_
  unfold strakelaw02_WireTexts.f
  refine Ev.bind awake_is ?_
  have yes : Ev (fun k => strakelaw02_WireTexts.j0 k s b true true) true :=
    Ev.step (f := fun _ => some true) (fun k => by rw [strakelaw02_WireTexts.j0, if_pos rfl]) (Ev.now _)
  by_cases h1 : (s.length : Int) > 20000
  · simp only [if_pos h1]; exact yes
  simp only [if_neg h1]
  by_cases h2 : (b.length : Int) > 20000
  · rw [decide_eq_true h2]; exact yes
  rw [decide_eq_false h2]
  refine Ev.step (f := fun k => (wire_TakeText.f k b).bind fun bt261 => ((strakeref02_TakeText.f k b).bind fun bt266 => ((wire_Text.f k s).bind fun t271 => ((strakeref02_Text.f k s).bind fun t274 => (if (strOfNums t271).toList = (strOfNums t274).toList then (if (strOfNums bt261.1).toList = (strOfNums bt266.1).toList then (if bt261.2.1 = bt266.2.1 then (some (bt261.2.2 == bt266.2.2)) else (some false)) else (some false)) else (some false)))))) (fun k => ?_) ?_
  · rw [strakelaw02_WireTexts.j0, if_neg (by decide)]; simp only [if_true]
  · refine Ev.bind (takeText_is b hb (by omega)) (Ev.bind (rtakeText_is b hb (by omega)) (Ev.bind (text_is s (by omega)) (Ev.bind (rtext_is s (by omega)) ?_)))
    simp only [if_true, beq_self_eq_true]
    exact Ev.now _

end Go.Proofs.Ytnhjjhlplboogaa.Pure
