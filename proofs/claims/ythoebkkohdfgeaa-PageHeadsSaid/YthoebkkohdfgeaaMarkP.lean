/- A line's mark as a sector, in the program and in the reference. -/
import Derived.Test.YthoebkkohdfgeaaX38
import Derived.Test.YthoebkkohdfgeaaPageT
namespace Go.Proofs.Ythoebkkohdfgeaa.Plain
open Go Go.RowKit Go.Proofs.Ythoebkkohdfgeaa.X Go.Proofs.YthoebkkohdfgeaaW.PrintWords Go.Proofs.YthoebkkohdfgeaaW.PrintMore
def MR (L W S : Int) : Prop := 0 ≤ L ∧ L < 64 ∧ 0 ≤ W ∧ W ≤ 2147483647 ∧ 0 ≤ S ∧ S ≤ 1125899906842624
instance (L W S : Int) : Decidable (MR L W S) := by unfold MR; infer_instance
theorem right_is (L W S : Int) : mark_Right.f L W S = some (decide (MR L W S)) := by
  unfold mark_Right.f
  by_cases h : MR L W S
  · rw [decide_eq_true h]; obtain ⟨h1, h2, h3, h4, h5, h6⟩ := h
    rw [if_pos h1, if_pos h2, if_pos h3, if_pos h4, if_pos h5, decide_eq_true h6]
  · rw [decide_eq_false h]
    by_cases h1 : L ≥ 0
    · rw [if_pos h1]
      by_cases h2 : L < 64
      · rw [if_pos h2]
        by_cases h3 : W ≥ 0
        · rw [if_pos h3]
          by_cases h4 : W ≤ 2147483647
          · rw [if_pos h4]
            by_cases h5 : S ≥ 0
            · rw [if_pos h5, decide_eq_false]; exact fun h6 => h ⟨h1, h2, h3, h4, h5, h6⟩
            · rw [if_neg h5]
          · rw [if_neg h4]
        · rw [if_neg h3]
      · rw [if_neg h2]
    · rw [if_neg h1]
def ms (L W S : Int) : List Int := [72, 76, L, 65 + W % 7] ++ fx W ++ fx (S % 4294967296) ++ fx (S / 4294967296)
theorem ms_len (L W S : Int) : (ms L W S).length = 16 := rfl
theorem ms_bytes {L W S : Int} (h : MR L W S) : Bytes (ms L W S) := by
  obtain ⟨h1, h2, h3, h4, h5, h6⟩ := h
  refine Bytes.app (Bytes.app (Bytes.app ?_ (fx_bytes _)) (fx_bytes _)) (fx_bytes _)
  intro x hx
  simp only [List.mem_cons, List.not_mem_nil, or_false] at hx
  rcases hx with rfl | rfl | rfl | rfl <;> omega
theorem sector_is (L W S : Int) : mark_Sector.f L W S = some (if MR L W S then (ms L W S, 0) else ([], 1)) := by
  unfold mark_Sector.f
  rw [right_is]
  simp only [Option.bind_some]
  by_cases h : MR L W S
  · have h' := h
    obtain ⟨h1, h2, h3, h4, h5, h6⟩ := h
    rw [decide_eq_true h', if_pos rfl, if_pos h']
    unfold mark_letter.f
    rw [if_pos h3]
    simp only [Option.bind_some, fx_is]
    have e1 : L % 256 = L := by omega
    have e2 : W % 4294967296 = W := by omega
    have e3 : S / 4294967296 % 4294967296 = S / 4294967296 := by omega
    simp only [e1, e2, e3, List.length_append, fx_len, List.length_cons, List.length_nil]
    rw [if_pos (by omega), if_pos (by omega), if_pos (by omega)]
    rfl
  · rw [decide_eq_false h, if_neg (by decide), if_neg h]

theorem mrright_is (L W S : Int) : strakeref06_Right.f L W S = some (decide (MR L W S)) := right_is L W S
theorem mrsector_is (L W S : Int) : Ev (fun K => strakeref06_Sector.f K L W S) (if MR L W S then (ms L W S, 0) else ([], 1)) := by
  unfold strakeref06_Sector.f
  rw [mrright_is]
  simp only [Option.bind_some]
  by_cases h : MR L W S
  · have h' := h
    obtain ⟨h1, h2, h3, h4, h5, h6⟩ := h
    rw [decide_eq_true h', if_pos h']
    simp only [if_true]
    have e1 : L % 256 = L := by omega
    have e2 : W % 4294967296 = W := by omega
    have e3 : wrap64 (Int.tdiv S 4294967296) % 4294967296 = S / 4294967296 := by
      rw [Int.tdiv_eq_ediv_of_nonneg h5, wrap_in (by omega) (by omega)]; omega
    have e4 : Int.tmod S 4294967296 % 4294967296 = S % 4294967296 := by
      rw [Int.tmod_eq_emod_of_nonneg h5]; omega
    have e5 : wrap64 (65 + Int.tmod W 7) % 256 = 65 + W % 7 := by
      rw [Int.tmod_eq_emod_of_nonneg h3, wrap_in (by omega) (by omega)]; omega
    rw [e1, e2, e3, e4, e5]
    refine Ev.bind (rfx_is W h3 (by omega)) (evp (by simp only [fx_len, List.length_cons, List.length_nil]; omega) ?_)
    refine Ev.bind (rfx_is (S % 4294967296) (by omega) (by omega)) (evp (by simp only [List.length_append, fx_len, List.length_cons, List.length_nil]; omega) ?_)
    refine Ev.bind (rfx_is (S / 4294967296) (by omega) (by omega)) ?_
    rw [if_pos (by simp only [List.length_append, fx_len, List.length_cons, List.length_nil]; omega)]
    exact Ev.now _
  · rw [decide_eq_false h, if_neg h]
    simp only [Bool.false_eq_true, if_false]
    exact Ev.now _
end Go.Proofs.Ythoebkkohdfgeaa.Plain
