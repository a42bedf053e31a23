/- Rows of bytes that came in as an argument, as a row that is read. -/
import Derived.Test.YthoebkkohdfgeaaWWords
import Derived.Test.YthoebkkohdfgeaaWMore
namespace Go.Proofs.Ythoebkkohdfgeaa.Plain
open Go Go.RowKit Go.Proofs.YthoebkkohdfgeaaW.PrintWords Go.Proofs.YthoebkkohdfgeaaW.PrintMore

theorem one_read {w : World} {A : Option Addr} {L C : Nat} {Z : List Int} (hl : L ≤ C) (hc : C ≤ maxLen) (hz : Z.length = C) (h0 : A = none → C = 0) (h : ∀ a, A = some a → ∀ c, c < C → w.cell? (a.add c) = some (.int .u8 (Z.getD c 0))) :
    Kd.C (Kd.int .u8) w A L (Z.take L) := by
  refine Kd.C_of_reads (d := (0 : Int)) ⟨by rw [List.length_take]; omega, by unfold maxLen at hc; omega, fun hp => ?_⟩
  cases A with
  | none => have := h0 rfl; omega
  | some a =>
    refine ⟨a, rfl, fun j hj => ?_⟩
    rw [h a rfl j (by omega)]
    simp only [List.getD_eq_getElem?_getD, List.getElem?_take, if_pos hj]
theorem rows_read {w : World} {a : Addr} {e len : Nat} {A : Nat → Option Addr} {L C : Nat → Nat} {Z : Nat → List Int} (hm : len ≤ maxLen)
    (h : ∀ r, r < len → w.cell? (a.add r) = some (.slice (A r) (L r) (C r)) ∧ L r ≤ C r ∧ C r ≤ maxLen ∧ (Z r).length = C r ∧ (A r = none → C r = 0) ∧ ∀ a', A r = some a' → ∀ c, c < C r → w.cell? (a'.add c) = some (.int .u8 ((Z r).getD c 0))) :
    Kd.C (Kd.slice e (Kd.int .u8)) w (some a) len ((List.range len).map fun r => (Z r).take (L r)) := by
  refine ⟨by simp, by unfold maxLen at hm; omega, fun _ => ⟨a, rfl, fun j p hj => ?_⟩⟩
  obtain ⟨hlt, hp⟩ := List.getElem?_eq_some_iff.mp hj
  simp only [List.length_map, List.length_range] at hlt
  simp only [List.getElem_map, List.getElem_range] at hp
  subst hp
  obtain ⟨h1, h2, h3, h4, h5, h6⟩ := h j hlt
  have hl : ((Z j).take (L j)).length = L j := by rw [List.length_take]; omega
  refine ⟨[.slice (A j) (L j) (C j)], rfl, ⟨A j, C j, by rw [hl], by omega, by rw [hl]; exact one_read h2 h3 h4 h5 h6⟩, fun i u hi => ?_⟩
  match i, hi with
  | 0, hi =>
    simp only [List.getElem?_cons_zero, Option.some.injEq] at hi
    subst hi
    have e : j * (Kd.slice e (Kd.int .u8)).sz + 0 = j := by show j * 1 + 0 = j; omega
    rw [e]
    exact h1
end Go.Proofs.Ythoebkkohdfgeaa.Plain
