/- What was made is read as it was, whatever stands behind it. No condition. -/
import Derived.Test.YtnhjjhlplboogaaX8
import Derived.Test.YtnhjjhlplboogaaWire5
import Derived.Test.YtnhjjhlplboogaaWire4
namespace Go.Proofs.Ytnhjjhlplboogaa.Pure
open Go Go.RowKit Go.Proofs.Ytnhjjhlplboogaa.X Go.Proofs.Ytnhjjhlplboogaa.Plain Go.Proofs.YtnhjjhlplboogaaW.PrintWords Go.Proofs.YtnhjjhlplboogaaW.PrintMore

theorem back_j2 (s : List Int) (v : Int) (hs : Bytes s) (hl : s.length ≤ 20000) (hv0 : 0 ≤ v) (hv1 : v < 4294967296) : Ev (fun K => strakelaw02_WireBack.j2 K s v true false) true := by
  refine Ev.step (f := fun _ => some true) (fun K => ?_) (Ev.now _)
  rw [strakelaw02_WireBack.j2, if_neg (by decide), fx_is]
  simp only [Option.bind_some]
  rw [if_pos (by rw [fx_len]; omega), tf_is _ ((fx_bytes v).app hs)]
  have e : tf (fx v ++ s) = (v, 0) := by
    unfold tf
    rw [if_neg (by rw [List.length_append, fx_len]; omega), fv_fx v hv0 hv1 s]
  rw [e]
  simp
theorem back_j1 (s : List Int) (v : Int) (q : List Int) (hs : Bytes s) (hq : Bytes q) (hl : s.length ≤ 20000) (hql : q.length ≤ 30000) (hv0 : 0 ≤ v) (hv1 : v < 4294967296) : Ev (fun K => strakelaw02_WireBack.j1 K s v true q false) true := by
  have h9 := @vi_nine s.length (by omega)
  refine Ev.step (f := fun K => (wire_Text.f K s).bind fun t316 => (if t316.length + q.length < 140737488355328 then ((some (t316 ++ q : List Int)).bind fun y319 => ((wire_TakeText.f K y319).bind fun bt322 => (if bt322.2.2 = 0 then (if (strOfNums bt322.1).toList = (strOfNums s).toList then (strakelaw02_WireBack.j2 K s v true (bt322.2.1 != (wrap64 ((y319.length : Int) - (q.length : Int))))) else (strakelaw02_WireBack.j2 K s v true true)) else (strakelaw02_WireBack.j2 K s v true true)))) else (none))) (fun K => ?_) ?_
  · rw [strakelaw02_WireBack.j1, if_neg (by decide)]
  · refine Ev.bind (text_is s (by omega)) ?_
    refine evp (by rw [List.length_append]; omega) ?_
    simp only [Option.bind_some]
    refine Ev.bind (takeText_is _ (((vi_bytes _).app hs).app hq) (by simp only [List.length_append]; omega)) ?_
    rw [tx_text s q (by omega)]
    simp only [if_true]
    have e : wrap64 (((vi s.length ++ s ++ q).length : Int) - (q.length : Int)) = ((vi s.length).length : Int) + (s.length : Int) := by
      rw [List.length_append, List.length_append, wrap_in (by omega) (by omega)]; omega
    rw [e, bne_self_eq_false]
    exact back_j2 s v hs hl hv0 hv1
theorem WireBack : strakelaw02_WireBack.Pure := by
  intro n s v hn _ _ hw hv
  have hs := bytes_of hw
  have hn := wf_i64 hn
  have hv := wf_u32 hv
  refine Ev.rounds (g := fun k => strakelaw02_WireBack.f k n s v) ?_
  unfold strakelaw02_WireBack.f
  refine Ev.bind awake_is ?_
  have yes : Ev (fun k => strakelaw02_WireBack.j0 k n s v true true) true :=
    Ev.step (f := fun _ => some true) (fun k => by rw [strakelaw02_WireBack.j0, if_pos rfl]) (Ev.now _)
  by_cases h1 : n < 0
  · simp only [if_pos h1]; exact yes
  simp only [if_neg h1]
  by_cases h2 : (s.length : Int) > 20000
  · rw [decide_eq_true h2]; exact yes
  rw [decide_eq_false h2]
  obtain ⟨m, rfl⟩ := Int.eq_ofNat_of_zero_le (show 0 ≤ n by omega)
  have h9 := @vi_nine m (by omega)
  refine Ev.step (f := fun K => (wire_Number.f K [(m : Int)]).bind fun t307 => (if t307.length + s.length < 140737488355328 then ((some (t307 ++ s : List Int)).bind fun y310 => ((wire_TakeNumber.f K y310).bind fun bt313 => (if bt313.2.2 = 0 then (if bt313.1 = (m : Int) then (strakelaw02_WireBack.j1 K s v true y310 (bt313.2.1 != (wrap64 ((y310.length : Int) - (s.length : Int))))) else (strakelaw02_WireBack.j1 K s v true y310 true)) else (strakelaw02_WireBack.j1 K s v true y310 true)))) else (none))) (fun K => ?_) ?_
  · rw [strakelaw02_WireBack.j0, if_neg (by decide)]
  · refine Ev.bind (number_one (by omega)) ?_
    refine evp (by omega) ?_
    simp only [Option.bind_some]
    refine Ev.bind (take_is _ ((vi_bytes m).app hs)) ?_
    rw [tk_vi (by omega) s]
    simp only [if_true]
    have e : wrap64 (((vi m ++ s).length : Int) - (s.length : Int)) = ((vi m).length : Int) := by
      rw [List.length_append, wrap_in (by omega) (by omega)]; omega
    rw [e, bne_self_eq_false]
    exact back_j1 s v _ hs ((vi_bytes m).app hs) (by omega) (by rw [List.length_append]; omega) hv.1 hv.2

end Go.Proofs.Ytnhjjhlplboogaa.Pure
