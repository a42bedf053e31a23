/- Texts: what making and reading them comes to, in the program and in the reference. -/
import Derived.Test.YtnhjjhlplboogaaWire3
import Derived.Test.YtnhjjhlplboogaaX5
import Derived.Test.YtnhjjhlplboogaaX5
import Derived.Test.YtnhjjhlplboogaaX5
import Derived.Test.YtnhjjhlplboogaaX5
namespace Go.Proofs.Ytnhjjhlplboogaa.Plain
open Go Go.RowKit Go.Proofs.Ytnhjjhlplboogaa.X Go.Proofs.YtnhjjhlplboogaaW.PrintWords Go.Proofs.YtnhjjhlplboogaaW.PrintMore

theorem tk_range (b : List Int) (hb : Bytes b) : 0 ≤ (tk b).1 ∧ (tk b).1 < 9223372036854775808 ∧ 0 ≤ (tk b).2.1 ∧ (tk b).2.1 ≤ b.length ∧ (tk b).2.1 ≤ 9 := by
  rcases tk_cases b hb with h | ⟨n, k, h, _, h1, h2, h3, h4⟩
  · rw [h]; simp
  · rw [h]; dsimp only; refine ⟨by omega, by omega, by omega, by omega, by omega⟩
theorem tx_of (b : List Int) (hb : Bytes b) (hl : b.length ≤ 140737488351232) (g : Nat → Option (List Int × Int × Int))
    (hg : ∀ K, g K = if (tk b).2.2 = 0 then (if (tk b).1 > (wrap64 ((b.length : Int) - (tk b).2.1)) then (some (([] : List Int), 0, 3)) else ((some (([] : List Int) : List Int)).bind fun y222 => (if 0 ≤ (tk b).2.1 then (if (tk b).2.1 ≤ (wrap64 ((tk b).2.1 + (tk b).1)) then (if (wrap64 ((tk b).2.1 + (tk b).1)) ≤ (b.length : Int) then ((some ((b.take ((wrap64 ((tk b).2.1 + (tk b).1)) : Int).toNat).drop ((tk b).2.1 : Int).toNat : List Int)).bind fun y225 => (if y222.length + y225.length < 140737488355328 then (some ((y222 ++ y225), wrap64 ((tk b).2.1 + (tk b).1), 0)) else (none))) else (none)) else (none)) else (none)))) else (some (([] : List Int), 0, 3))) : Ev g (tx b) := by
  refine Ev.congr (f := fun _ => some (tx b)) (fun K => ?_) (Ev.now _)
  rw [hg K]
  obtain ⟨h0, h1, h2, h3, h4⟩ := tk_range b hb
  unfold tx
  by_cases he : (tk b).2.2 = 0
  · rw [if_pos he, if_pos he, wrap_in (by omega) (by omega)]
    by_cases hn : (tk b).1 > (b.length : Int) - (tk b).2.1
    · rw [if_pos hn, if_pos hn]
    · rw [if_neg hn, if_neg hn, wrap_in (by omega) (by omega)]
      simp only [Option.bind_some, List.nil_append, List.length_nil]
      rw [if_pos (by omega), if_pos (by omega), if_pos (by omega), if_pos]
      simp only [List.length_drop, List.length_take]; omega
  · rw [if_neg he, if_neg he]
theorem takeText_is (b : List Int) (hb : Bytes b) (hl : b.length ≤ 140737488351232) : Ev (fun K => wire_TakeText.f K b) (tx b) := by
  unfold wire_TakeText.f
  exact Ev.bind (take_is b hb) (tx_of b hb hl _ (fun _ => rfl))
theorem rtakeText_is (b : List Int) (hb : Bytes b) (hl : b.length ≤ 140737488351232) : Ev (fun K => strakeref02_TakeText.f K b) (tx b) := by
  unfold strakeref02_TakeText.f
  exact Ev.bind (rtake_is b hb) (tx_of b hb hl _ (fun _ => rfl))
theorem text_is (s : List Int) (hl : s.length ≤ 140737488351232) : Ev (fun K => wire_Text.f K s) (vi s.length ++ s) := by
  unfold wire_Text.f
  have h9 := @vi_nine s.length (by omega)
  refine Ev.bind (number_one (by omega)) ?_
  rw [if_pos (by omega)]
  exact Ev.now _
theorem rtext_is (s : List Int) (hl : s.length ≤ 140737488351232) : Ev (fun K => strakeref02_Text.f K s) (vi s.length ++ s) := by
  unfold strakeref02_Text.f
  have h9 := @vi_nine s.length (by omega)
  refine Ev.bind (one_is _ (by omega)) ?_
  rw [if_pos (by omega)]
  exact Ev.now _
theorem tx_text (s rest : List Int) (hl : s.length ≤ 140737488351232) : tx (vi s.length ++ s ++ rest) = (s, ((vi s.length).length : Int) + (s.length : Int), 0) := by
  unfold tx
  rw [List.append_assoc, tk_vi (by omega)]
  simp only [if_true]
  rw [if_neg (by simp only [List.length_append]; omega)]
  have e : ((((vi s.length).length : Int) + (s.length : Int))).toNat = (vi s.length).length + s.length := by omega
  rw [e, Int.toNat_natCast, List.take_append, List.take_of_length_le (by omega), Nat.add_sub_cancel_left, List.take_append, List.take_length, Nat.sub_self, List.take_zero, List.append_nil, List.drop_left]
theorem tx_cases (b : List Int) (hb : Bytes b) : tx b = ([], 0, 3) ∨ ∃ s : List Int, ∃ j : Nat, tx b = (s, (j : Int), 0) ∧ 1 ≤ j ∧ j ≤ b.length ∧ vi s.length ++ s = b.take j := by
  unfold tx
  rcases tk_cases b hb with h | ⟨n, k, h, hv, h1, h2, h3, h4⟩
  · rw [h]; simp
  · rw [h]
    simp only [if_true]
    by_cases hn : (n : Int) > (b.length : Int) - (k : Int)
    · rw [if_pos hn]; exact .inl rfl
    · rw [if_neg hn]
      refine .inr ⟨_, k + n, rfl, by omega, by omega, ?_⟩
      have e : (((k : Int) + (n : Int))).toNat = k + n := by omega
      rw [e, Int.toNat_natCast]
      have hlen : ((b.take (k + n)).drop k).length = n := by simp only [List.length_drop, List.length_take]; omega
      rw [hlen, hv]
      have : b.take k = (b.take (k + n)).take k := by rw [List.take_take, Nat.min_eq_left (by omega)]
      rw [this, List.take_append_drop]
end Go.Proofs.Ytnhjjhlplboogaa.Plain
