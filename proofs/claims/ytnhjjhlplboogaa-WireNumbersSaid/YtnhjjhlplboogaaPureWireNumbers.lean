/- The codes of any numbers, one behind the other, are the reference's. No condition. -/
import Derived.Test.YtnhjjhlplboogaaX1
import Derived.Test.YtnhjjhlplboogaaWire3
namespace Go.Proofs.Ytnhjjhlplboogaa.Pure
open Go Go.RowKit Go.Proofs.Ytnhjjhlplboogaa.X Go.Proofs.Ytnhjjhlplboogaa.Plain Go.Proofs.YtnhjjhlplboogaaW.PrintWords Go.Proofs.YtnhjjhlplboogaaW.PrintMore

theorem rnumber (L : List Int) (hL : In64 L) (hl : L.length ≤ 1000) (d : Nat) : ∀ (i : Nat), i + d = L.length →
    Ev (fun K => strakeref02_Number.l0 K L (numS (L.take i)) (i : Int)) (numS L) := by
  induction d with
  | zero =>
    intro i hi
    refine Ev.step (f := fun _ => some (numS L)) (fun K => ?_) (Ev.now _)
    rw [strakeref02_Number.l0, if_neg (by omega), List.take_of_length_le (by omega)]
  | succ d ih =>
    intro i hi
    have hlt : i < L.length := by omega
    have hw : wrap64 ((i : Int) + 1) = ((i + 1 : Nat) : Int) := by rw [wrap_in (by omega) (by omega)]; rfl
    have hn := ih (i + 1) (by omega)
    have hx := hL _ (List.getElem_mem hlt)
    rw [List.take_succ_eq_append_getElem hlt, numS_append] at hn
    have hlen := numS_len (L.take i) (fun z hz => hL z (List.mem_of_mem_take hz))
    rw [List.length_take] at hlen
    by_cases h0 : L[i] < 0
    · have e : numS [L[i]] = [] := by simp only [numS]; rw [if_pos h0]
      rw [e, List.append_nil] at hn
      refine Ev.step (fun K => ?_) hn
      rw [strakeref02_Number.l0, if_pos (by omega), if_pos (by omega), rd_get hlt, if_neg (by omega), hw]
    · have e : numS [L[i]] = vi L[i].toNat := by simp only [numS]; rw [if_neg h0, List.append_nil]
      rw [e] at hn
      have h9 := @vi_nine L[i].toNat (by omega)
      refine Ev.step (f := fun K => (strakeref02_One.f K (L[i].toNat : Int)).bind fun t128 => if (numS (L.take i)).length + t128.length < 140737488355328 then strakeref02_Number.l0 K L (numS (L.take i) ++ t128) ((i + 1 : Nat) : Int) else none) (fun K => ?_) ?_
      · rw [strakeref02_Number.l0, if_pos (by omega), if_pos (by omega), rd_get hlt, if_pos (by omega), Int.toNat_of_nonneg (by omega), hw]
      · refine Ev.bind (one_is _ (by omega)) ?_
        exact evp (by omega) hn
theorem WireNumbers : strakelaw02_WireNumbers.Pure := by
  intro L _ _ hw
  have hL : In64 L := fun x hx => (wf_i64 (hw x hx)).2
  refine Ev.rounds (g := fun k => strakelaw02_WireNumbers.f k L) ?_
  unfold strakelaw02_WireNumbers.f
  refine Ev.bind awake_is ?_
  by_cases h : (L.length : Int) > 1000
  · simp only [if_pos h]; exact Ev.now _
  · simp only [if_neg h, if_true]
    refine Ev.bind (number_is L hL (by omega)) ?_
    have hr : Ev (fun K => strakeref02_Number.f K L) (numS L) := rnumber L hL (by omega) L.length 0 (by omega)
    refine Ev.bind hr ?_
    rw [beq_self_eq_true]; exact Ev.now _

end Go.Proofs.Ytnhjjhlplboogaa.Pure
