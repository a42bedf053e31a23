/- No number's code is another one's beginning. No condition. -/
import Derived.Test.YtnhjjhlplboogaaX2
import Derived.Test.YtnhjjhlplboogaaWire2
namespace Go.Proofs.Ytnhjjhlplboogaa.Pure
open Go Go.RowKit Go.Proofs.Ytnhjjhlplboogaa.X Go.Proofs.Ytnhjjhlplboogaa.Plain Go.Proofs.YtnhjjhlplboogaaW.PrintWords Go.Proofs.YtnhjjhlplboogaaW.PrintMore

theorem heads (p q : List Int) (n : Nat) (hn : n = min p.length q.length) (h : p.take n = q.take n) : (∃ r, q = p ++ r) ∨ ∃ r, p = q ++ r := by
  by_cases hl : p.length ≤ q.length
  · refine .inl ⟨q.drop n, ?_⟩
    have : p = q.take n := by rw [← h, List.take_of_length_le (by omega)]
    conv => lhs; rw [← List.take_append_drop n q]
    rw [← this]
  · refine .inr ⟨p.drop n, ?_⟩
    have : q = p.take n := by rw [h, List.take_of_length_le (by omega)]
    conv => lhs; rw [← List.take_append_drop n p]
    rw [← this]
theorem WireApart : strakelaw02_WireApart.Pure := by
  intro a b ha hb
  have ha := wf_i64 ha
  have hb := wf_i64 hb
  refine Ev.rounds (g := fun k => strakelaw02_WireApart.f k a b) ?_
  unfold strakelaw02_WireApart.f
  refine Ev.bind awake_is ?_
  have yes : Ev (fun k => strakelaw02_WireApart.j0 k a b true true) true :=
    Ev.step (f := fun _ => some true) (fun k => by rw [strakelaw02_WireApart.j0, if_pos rfl]) (Ev.now _)
  by_cases h1 : a < 0
  · simp only [if_pos h1]; exact yes
  simp only [if_neg h1]
  by_cases h2 : b < 0
  · simp only [if_pos h2]; exact yes
  simp only [if_neg h2]
  by_cases h3 : a = b
  · rw [h3] at yes ⊢; rw [beq_self_eq_true]; exact yes
  rw [beq_eq_false_iff_ne.2 h3]
  obtain ⟨m, rfl⟩ := Int.eq_ofNat_of_zero_le (show 0 ≤ a by omega)
  obtain ⟨n, rfl⟩ := Int.eq_ofNat_of_zero_le (show 0 ≤ b by omega)
  have pm := vi_pos m
  have pn := vi_pos n
  have hmn : mn ((vi m).length : Int) ((vi n).length : Int) = ((min (vi m).length (vi n).length : Nat) : Int) := by
    unfold mn; split <;> omega
  refine Ev.step (f := fun k => (wire_Number.f k [(m : Int)]).bind fun t145 => (wire_Number.f k [(n : Int)]).bind fun t151 => (if (mn (t145.length : Int) (t151.length : Int)) > 0 then (if 0 ≤ (mn (t145.length : Int) (t151.length : Int)) then (if (mn (t145.length : Int) (t151.length : Int)) ≤ (t145.length : Int) then (if (mn (t145.length : Int) (t151.length : Int)) ≤ (t151.length : Int) then (some ((strOfNums (t145.take ((mn (t145.length : Int) (t151.length : Int)) : Int).toNat)).toList != (strOfNums (t151.take ((mn (t145.length : Int) (t151.length : Int)) : Int).toNat)).toList)) else (none)) else (none)) else (none)) else (some false))) (fun k => ?_) ?_
  · rw [strakelaw02_WireApart.j0, if_neg (by decide)]; simp only [if_true]
  · refine Ev.bind (number_one (by omega)) (Ev.bind (number_one (by omega)) ?_)
    rw [hmn, if_pos (by omega), if_pos (by omega), if_pos (by omega), if_pos (by omega), Int.toNat_natCast]
    have hne : ((strOfNums ((vi m).take (min (vi m).length (vi n).length))).toList != (strOfNums ((vi n).take (min (vi m).length (vi n).length))).toList) = true := by
      rw [bne_iff_ne]
      intro e
      have e := str_inj ((vi_bytes m).take _) ((vi_bytes n).take _) e
      rcases heads _ _ _ rfl e with ⟨r, hr⟩ | ⟨r, hr⟩
      · have := vi_apart (by omega) (by omega) hr; omega
      · have := vi_apart (by omega) (by omega) hr; omega
    rw [hne]; exact Ev.now _

end Go.Proofs.Ytnhjjhlplboogaa.Pure
