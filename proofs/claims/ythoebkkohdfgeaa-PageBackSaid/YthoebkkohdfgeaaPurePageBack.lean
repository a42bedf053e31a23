/- Of what was built of slots Read tells just these, in order. No condition. -/
import Derived.Test.YthoebkkohdfgeaaX35
import Derived.Test.YthoebkkohdfgeaaStatPageBack
import Derived.Test.YthoebkkohdfgeaaPage3
namespace Go.Proofs.Ythoebkkohdfgeaa.Pure
open Go Go.RowKit Go.Proofs.Ythoebkkohdfgeaa.X Go.Proofs.Ythoebkkohdfgeaa.Plain Go.Proofs.YthoebkkohdfgeaaW.PrintWords Go.Proofs.YthoebkkohdfgeaaW.PrintMore

theorem toldOf_len (l : List S38) : ∀ i, (toldOf i l).length = l.length := by
  induction l with
  | nil => intro i; rfl
  | cons s l ih => intro i; simp [toldOf, ih]
theorem toldOf_at (l : List S38) : ∀ (j i : Nat) (h : i < l.length), rd_T42 (toldOf j l) (i : Int) = ⟨((j + i : Nat) : Int), ⟨l[i].f0, l[i].f1, l[i].f2⟩, sec l[i]⟩ := by
  induction l with
  | nil => intro j i h; simp at h
  | cons s l ih =>
    intro j i h
    cases i with
    | zero => rfl
    | succ i =>
      have := ih (j + 1) i (by simpa using h)
      unfold rd_T42 at this ⊢
      simp only [toldOf, Int.toNat_natCast, List.getD_cons_succ, List.getElem_cons_succ] at this ⊢
      rw [this]
      have e : j + 1 + i = j + (i + 1) := by omega
      rw [e]
theorem back_loop (n : Int) (l : List S38) (h : May n l) : ∀ (m i : Nat), m + i = l.length →
    Ev (fun k => strakelaw15_PageBack.l0 k l true (toldOf 0 l) (i : Int)) true := by
  have h4 := h.2.1
  have hl := h.2.2.2.1
  have lt := toldOf_len l 0
  intro m
  induction m with
  | zero =>
    intro i hm
    exact Ev.step (f := fun _ => some true) (fun k => by rw [strakelaw15_PageBack.l0, if_neg (by omega)]) (Ev.now _)
  | succ m ih =>
    intro i hm
    have hi : i < l.length := by omega
    have g := h.2.2.2.2 _ (List.getElem_mem hi)
    have next := ih (i + 1) (by omega)
    have e : wrap64 ((i : Int) + 1) = ((i + 1 : Nat) : Int) := by rw [wrap_in (by omega) (by omega)]; omega
    refine Ev.step (fun k => by rw [strakelaw15_PageBack.l0]) ?_
    refine evp (by omega) (evp (by omega) (evp (by omega) (evp (by decide) ?_)))
    rw [rd38_get hi, toldOf_at l 0 i hi, e]
    simp only [Nat.zero_add]
    by_cases h1 : l[i].f0 = 1
    · refine evp h1 (evp trivial (evn (by simp) (evp ?_ next)))
      unfold sec; rw [if_neg (by omega)]
    · have h2 : l[i].f0 = 2 := by have a := g.1; have b := g.2.2; unfold OR at a; omega
      refine evn h1 (evp trivial (evn (by simp) (evp ?_ next)))
      unfold sec; rw [if_pos h2]
theorem PageBack : strakelaw15_PageBack.Pure := by
  intro n l hn hl hw
  refine Ev.rounds (g := fun k => strakelaw15_PageBack.f k n l) ?_
  unfold strakelaw15_PageBack.f
  unfold maxLen at hl
  refine Ev.bind awake15_is (Ev.bind (slim_is l (by omega)) ?_)
  by_cases h1 : (∀ y ∈ l, y.f3.length ≤ 1000) ∧ l.length ≤ 100
  · rw [decide_eq_true h1]
    refine evp rfl ?_
    have hs : Slots l := fun s hs => ⟨bytes_of (hw s hs).2.2.2.2.1, h1.1 s hs⟩
    refine Ev.bind (build_is n l hs) ?_
    by_cases hm : May n l
    · rw [built_yes hm]
      have h1 := hm.1
      have h4 := hm.2.1
      have hl := hm.2.2.2.1
      have ld : (dat n.toNat l).length = n.toNat := by unfold dat; simp; omega
      have lb : (bes n.toNat l).length = n.toNat := by unfold bes; simp; omega
      refine evp rfl (Ev.bind (read_built hs hm.2.2.2.2 (by omega) (by omega)) (evp (by simp only; omega) (evp (by simp only; omega) ?_)))
      have e : (((toldOf 0 l).length : Int) != (l.length : Int)) = false := by
        rw [toldOf_len]; simp
      simp only [e]
      refine Ev.step (fun k => by rw [strakelaw15_PageBack.j0, if_neg (by decide)]) ?_
      exact back_loop n l hm l.length 0 (by omega)
    · rw [built_no hm]
      exact evn (by decide) (evp rfl (evp rfl (Ev.now _)))
  · rw [decide_eq_false h1]
    exact evn (by decide) (Ev.now _)
end Go.Proofs.Ythoebkkohdfgeaa.Pure
