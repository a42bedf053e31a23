/- The page of any mark is the reference's. No condition. -/
import Derived.Test.YthoebkkohdfgeaaX1
import Derived.Test.YthoebkkohdfgeaaX38
import Derived.Test.YthoebkkohdfgeaaMarkP
namespace Go.Proofs.Ythoebkkohdfgeaa.Pure
open Go Go.RowKit Go.Proofs.Ythoebkkohdfgeaa.X Go.Proofs.Ythoebkkohdfgeaa.Plain Go.Proofs.YthoebkkohdfgeaaW.PrintWords Go.Proofs.YthoebkkohdfgeaaW.PrintMore

def headed (n L W S : Int) : List (List Int) × List (List Int) × Int :=
  if 1 ≤ n ∧ n ≤ 4 ∧ MR L W S then ([ms L W S] ++ List.replicate (n.toNat - 1) (List.replicate 16 0), [pk 4 L S (ms L W S)] ++ List.replicate (n.toNat - 1) pad, 0) else ([], [], 1)
theorem OR4 {L W S : Int} (h : MR L W S) : OR 4 L S := by unfold MR at h; unfold OR; omega
theorem head_is (n L W S : Int) : Ev (fun k => page_Head.f k n L W S) (headed n L W S) := by
  unfold page_Head.f
  rw [sector_is]
  simp only [Option.bind_some]
  have no : ∀ x, ¬ (1 ≤ n ∧ n ≤ 4 ∧ MR L W S) → Ev (fun k => page_Head.j0 k n x true L W S) (headed n L W S) := fun x h => by
    unfold headed
    rw [if_neg h]
    exact Ev.step (f := fun _ => some ([], [], 1)) (fun k => by rw [page_Head.j0, if_pos rfl]) (Ev.now _)
  by_cases h1 : n < 1
  · exact evp h1 (no _ fun h => by have := h.1; omega)
  refine evn h1 ?_
  by_cases h4 : n > 4
  · exact evp h4 (no _ fun h => by have := h.2.1; omega)
  refine evn h4 ?_
  by_cases hm : MR L W S
  · rw [if_pos hm]
    have e : ((0 : Int) != 0) = false := rfl
    simp only [e]
    refine Ev.step (fun k => by rw [page_Head.j0, if_neg (by decide)]) ?_
    have ho : mark_Oob.f L W S = some (4, L, S, 0) := by
      unfold mark_Oob.f
      rw [right_is, decide_eq_true hm]
      rfl
    rw [ho]
    simp only [Option.bind_some]
    have hp := pack_is 4 L S (ms L W S) (ms_bytes hm) (by rw [ms_len]; decide)
    rw [if_pos ⟨OR4 hm, ms_len L W S⟩] at hp
    refine Ev.bind hp ?_
    unfold page_pads.f
    simp only [Option.bind_some]
    refine Ev.bind (fill_is 0 n (by omega) (n.toNat - 1) [ms L W S] [pk 4 L S (ms L W S)] (by simp; omega) rfl) ?_
    unfold headed
    rw [if_pos ⟨by omega, by omega, hm⟩]
    exact Ev.now _
  · rw [if_neg hm]
    have e : ((1 : Int) != 0) = true := rfl
    simp only [e]
    exact no _ fun h => hm h.2.2
theorem rhead_is (n L W S : Int) : Ev (fun k => strakeref15_Head.f k n L W S) (headed n L W S) := by
  unfold strakeref15_Head.f
  refine Ev.bind (mrsector_is L W S) ?_
  have no : ∀ x, ¬ (1 ≤ n ∧ n ≤ 4 ∧ MR L W S) → Ev (fun k => strakeref15_Head.j0 k n x true L W S) (headed n L W S) := fun x h => by
    unfold headed
    rw [if_neg h]
    exact Ev.step (f := fun _ => some ([], [], 1)) (fun k => by rw [strakeref15_Head.j0, if_pos rfl]) (Ev.now _)
  by_cases h1 : n < 1
  · exact evp h1 (no _ fun h => by have := h.1; omega)
  refine evn h1 ?_
  by_cases h4 : n > 4
  · exact evp h4 (no _ fun h => by have := h.2.1; omega)
  refine evn h4 ?_
  by_cases hm : MR L W S
  · rw [if_pos hm]
    have e : ((0 : Int) != 0) = false := rfl
    simp only [e]
    refine Ev.step (fun k => by rw [strakeref15_Head.j0, if_neg (by decide)]) ?_
    have ho : strakeref06_Oob.f L W S = some (4, L, S, 0) := by
      unfold strakeref06_Oob.f
      rw [mrright_is, decide_eq_true hm]
      rfl
    rw [ho]
    simp only [Option.bind_some]
    have hp := rpack_is 4 L S (ms L W S) (ms_bytes hm)
    rw [if_pos ⟨OR4 hm, ms_len L W S⟩] at hp
    refine Ev.bind hp ?_
    refine Ev.bind (filled_is n (by omega) (n.toNat - 1) [ms L W S] [pk 4 L S (ms L W S)] (by simp; omega) rfl) ?_
    unfold headed
    rw [if_pos ⟨by omega, by omega, hm⟩]
    exact Ev.now _
  · rw [if_neg hm]
    have e : ((1 : Int) != 0) = true := rfl
    simp only [e]
    exact no _ fun h => hm h.2.2
theorem PageHeads : strakelaw15_PageHeads.Pure := by
  intro n L W S _ _ _ _
  refine Ev.rounds (g := fun k => strakelaw15_PageHeads.f k n L W S) ?_
  unfold strakelaw15_PageHeads.f
  have la : (headed n L W S).1.length ≤ 1000 ∧ (headed n L W S).2.1.length ≤ 1000 := by
    unfold headed
    by_cases h : 1 ≤ n ∧ n ≤ 4 ∧ MR L W S
    · rw [if_pos h]
      simp only [List.length_append, List.length_replicate, List.length_cons, List.length_nil]
      omega
    · rw [if_neg h]
      exact ⟨by decide, by decide⟩
  refine Ev.bind awake15_is (Ev.bind (head_is n L W S) (Ev.bind (rhead_is n L W S) (Ev.bind (sameBytes_is _ (by omega)) (Ev.bind (sameBytes_is _ (by omega)) ?_))))
  simp only [if_true, beq_self_eq_true]
  exact Ev.now _
end Go.Proofs.Ythoebkkohdfgeaa.Pure
