/- Numbers, one behind the other, are read one by one as they were. No condition. -/
import Derived.Test.YtnhjjhlplboogaaX5
import Derived.Test.YtnhjjhlplboogaaWire3
namespace Go.Proofs.Ytnhjjhlplboogaa.Pure
open Go Go.RowKit Go.Proofs.Ytnhjjhlplboogaa.X Go.Proofs.Ytnhjjhlplboogaa.Plain Go.Proofs.YtnhjjhlplboogaaW.PrintWords Go.Proofs.YtnhjjhlplboogaaW.PrintMore

theorem joins (L rest : List Int) (hL : In64 L) (hr : Bytes rest) (d : Nat) : ∀ (i : Nat), i + d = L.length → L.length ≤ 300 →
    Ev (fun K => strakelaw02_WireJoins.l0 K L rest true (numS (L.drop i) ++ rest) (i : Int)) true := by
  induction d with
  | zero =>
    intro i hi _
    refine Ev.step (f := fun _ => some true) (fun K => ?_) (Ev.now _)
    rw [strakelaw02_WireJoins.l0, if_neg (by omega), if_pos rfl, List.drop_eq_nil_of_le (by omega)]
    simp only [numS, List.nil_append, beq_self_eq_true]
  | succ d ih =>
    intro i hi h300
    have hlt : i < L.length := by omega
    have hw : wrap64 ((i : Int) + 1) = ((i + 1 : Nat) : Int) := by rw [wrap_in (by omega) (by omega)]; rfl
    have hn := ih (i + 1) (by omega) h300
    have hx := hL _ (List.getElem_mem hlt)
    rw [List.drop_eq_getElem_cons hlt]
    simp only [numS]
    by_cases h0 : L[i] < 0
    · rw [if_pos h0]
      refine Ev.step (fun K => ?_) hn
      rw [strakelaw02_WireJoins.l0, if_pos (by omega), if_pos (by omega), rd_get hlt, if_pos h0, hw]
    · rw [if_neg h0, List.append_assoc]
      have htk := tk_vi (n := L[i].toNat) (by omega) (numS (L.drop (i + 1)) ++ rest)
      have hbb : Bytes (vi L[i].toNat ++ (numS (L.drop (i + 1)) ++ rest)) := (vi_bytes _).app ((numS_bytes _).app hr)
      have hp := vi_pos L[i].toNat
      have hlen : (vi L[i].toNat ++ (numS (L.drop (i + 1)) ++ rest)).length = (vi L[i].toNat).length + (numS (L.drop (i + 1)) ++ rest).length := List.length_append
      have hdrop : (vi L[i].toNat ++ (numS (L.drop (i + 1)) ++ rest)).drop (vi L[i].toNat).length = numS (L.drop (i + 1)) ++ rest := List.drop_left
      have htake := take_is _ hbb
      generalize hq : vi L[i].toNat ++ (numS (L.drop (i + 1)) ++ rest) = q at *
      refine Ev.step (f := fun K => (wire_TakeNumber.f K q).bind fun bt212 => (if bt212.2.2 = 0 then (if bt212.1 = L[i] then (if bt212.2.1 < 1 then (some false) else (if bt212.2.1 > (q.length : Int) then (some false) else (if 0 ≤ bt212.2.1 then (if bt212.2.1 ≤ (q.length : Int) then (strakelaw02_WireJoins.l0 K L rest true (q.drop (bt212.2.1 : Int).toNat) ((i + 1 : Nat) : Int)) else (none)) else (none)))) else (some false)) else (some false))) (fun K => ?_) ?_
      · rw [strakelaw02_WireJoins.l0, if_pos (by omega), if_pos (by omega), rd_get hlt, if_neg h0, hw]
      · refine Ev.bind htake ?_
        rw [htk]
        simp only [if_true, Int.toNat_natCast]
        refine evp (by omega) (evn (by omega) (evn (by omega) (evp (by omega) (evp (by omega) ?_))))
        rw [hdrop]
        exact hn
theorem WireJoins : strakelaw02_WireJoins.Pure := by
  intro L rest _ _ hw _ _ hw'
  have hL : In64 L := fun x hx => (wf_i64 (hw x hx)).2
  have hr := bytes_of hw'
  refine Ev.rounds (g := fun k => strakelaw02_WireJoins.f k L rest) ?_
  unfold strakelaw02_WireJoins.f
  refine Ev.bind awake_is ?_
  have yes : Ev (fun k => strakelaw02_WireJoins.j0 k L rest true true) true :=
    Ev.step (f := fun _ => some true) (fun k => by rw [strakelaw02_WireJoins.j0, if_pos rfl]) (Ev.now _)
  by_cases h1 : (L.length : Int) > 300
  · simp only [if_pos h1]; exact yes
  simp only [if_neg h1]
  by_cases h2 : (rest.length : Int) > 1000
  · rw [decide_eq_true h2]; exact yes
  rw [decide_eq_false h2]
  have hlen := numS_len L hL
  refine Ev.step (f := fun K => (wire_Number.f K L).bind fun t205 => if t205.length + rest.length < 140737488355328 then strakelaw02_WireJoins.l0 K L rest true (t205 ++ rest) 0 else none) (fun K => ?_) ?_
  · rw [strakelaw02_WireJoins.j0, if_neg (by decide)]
  · refine Ev.bind (number_is L hL (by omega)) ?_
    refine evp (by omega) ?_
    exact joins L rest hL hr L.length 0 (by omega) (by omega)

end Go.Proofs.Ytnhjjhlplboogaa.Pure
