/- Addresses apart; two lists of numbers compared; lists in another order. -/
import Derived.Test.YtlheknapgonakaaReplay1
import Derived.Test.YtlheknapgonakaaX40
import Derived.Test.YtlheknapgonakaaX9
namespace Go.Proofs.Ytlheknapgonakaa.Plain
open Go Go.RowKit Go.Proofs.Ytlheknapgonakaa.X Go.Proofs.YtlheknapgonakaaW.PrintWords Go.Proofs.YtlheknapgonakaaW.PrintMore

/-- have no two of the first i one address? -/
def Apart (l : List S27) (i : Nat) : Prop := ∀ a b : Nat, b < a → a < i → (rd_T27 l (a : Int)).f0 ≠ (rd_T27 l (b : Int)).f0
theorem apart_loop (l : List S27) (hl : l.length ≤ 1000000) : ∀ (m i : Nat), m + i = l.length → Apart l i → ∃ r, Ev (fun k => strakelaw18_apart.l0 k l (i : Int)) r ∧ (r = true → Apart l l.length) := by
  intro m
  induction m with
  | zero =>
    intro i hm h
    have e : i = l.length := by omega
    subst e
    exact ⟨true, Ev.step (f := fun _ => some true) (fun k => by rw [strakelaw18_apart.l0, if_neg (by omega)]) (Ev.now _), fun _ => h⟩
  | succ m ih =>
    intro i hm h
    have inner : ∀ (q j : Nat), q + j = i → (∀ b, b < j → (rd_T27 l (i : Int)).f0 ≠ (rd_T27 l (b : Int)).f0) → ∃ r, Ev (fun k => strakelaw18_apart.l1 k l (i : Int) (j : Int)) r ∧ (r = true → Apart l l.length) := by
      intro q
      induction q with
      | zero =>
        intro j hq hj
        have e : j = i := by omega
        subst e
        obtain ⟨r, hr, hp⟩ := ih (j + 1) (by omega) (fun a b hb ha => by
          by_cases e : a = j
          · subst e; exact hj b hb
          · exact h a b hb (by omega))
        refine ⟨r, ?_, hp⟩
        refine Ev.step (fun k => by rw [strakelaw18_apart.l1, if_neg (by omega)]) ?_
        rw [wrap_in (by omega) (by omega)]
        exact_mod_cast hr
      | succ q iq =>
        intro j hq hj
        by_cases c : (rd_T27 l (i : Int)).f0 = (rd_T27 l (j : Int)).f0
        · refine ⟨false, ?_, fun e => by cases e⟩
          refine Ev.step (fun k => by rw [strakelaw18_apart.l1]) ?_
          exact evp (by omega) (evp (by omega) (evp (by omega) (evp (by omega) (evp (by omega) (evp c (Ev.now _))))))
        · obtain ⟨r, hr, hp⟩ := iq (j + 1) (by omega) (fun b hb => by
            by_cases e : b = j
            · subst e; exact c
            · exact hj b (by omega))
          refine ⟨r, ?_, hp⟩
          refine Ev.step (fun k => by rw [strakelaw18_apart.l1]) ?_
          refine evp (by omega) (evp (by omega) (evp (by omega) (evp (by omega) (evp (by omega) (evn c ?_)))))
          rw [wrap_in (by omega) (by omega)]
          exact_mod_cast hr
    obtain ⟨r, hr, hp⟩ := inner i 0 (by omega) (fun b hb => by omega)
    have hr' : Ev (fun k => strakelaw18_apart.l1 k l (i : Int) 0) r := by simpa using hr
    exact ⟨r, Ev.step (fun k => by rw [strakelaw18_apart.l0, if_pos (by omega)]) hr', hp⟩
theorem apart_is (l : List S27) (hl : l.length ≤ 1000000) : ∃ r, Ev (fun k => strakelaw18_apart.f k l) r ∧ (r = true → Apart l l.length) := by
  unfold strakelaw18_apart.f
  exact apart_loop l hl l.length 0 (by omega) (fun a b _ ha => by omega)
theorem apart_eq {l : List S27} (h : Apart l l.length) {x y : S27} (hx : x ∈ l) (hy : y ∈ l) (e : x.f0 = y.f0) : x = y := by
  obtain ⟨i, hi, rfl⟩ := List.getElem_of_mem hx
  obtain ⟨j, hj, rfl⟩ := List.getElem_of_mem hy
  by_cases c : i = j
  · subst c; rfl
  · by_cases c2 : j < i
    · exact absurd (by rw [rd27_get hi, rd27_get hj]; exact e) (h i j c2 hi)
    · exact absurd (by rw [rd27_get hi, rd27_get hj]; exact e.symm) (h j i (by omega) hj)
theorem sameI_loop (l : List Int) (hl : l.length ≤ 1000000) : ∀ (m i : Nat), m + i = l.length → Ev (fun k => strakeref04_Same.l0 k l l (i : Int)) true := by
  intro m
  induction m with
  | zero =>
    intro i hm
    exact Ev.step (f := fun _ => some true) (fun k => by rw [strakeref04_Same.l0, if_neg (by omega)]) (Ev.now _)
  | succ m ih =>
    intro i hm
    have next := ih (i + 1) (by omega)
    refine Ev.step (fun k => by rw [strakeref04_Same.l0]) ?_
    refine evp (by omega) (evp (by omega) (evp (by omega) (evp rfl ?_)))
    rw [wrap_in (by omega) (by omega)]
    exact_mod_cast next
theorem sameI_is (l : List Int) (hl : l.length ≤ 1000000) : Ev (fun k => strakeref18_SameInts.f k l l) true := by
  unfold strakeref18_SameInts.f strakeref04_Same.f
  exact Ev.bind (evp rfl (sameI_loop l hl l.length 0 (by omega))) (Ev.now _)
theorem isBest_perm {l l' : List S27} (hm : ∀ x, x ∈ l ↔ x ∈ l') {n y : Int} {o : Option S27} (h : IsBest l n y o) : IsBest l' n y o := by
  cases o with
  | none => exact fun x hx => h x ((hm x).2 hx)
  | some s => exact ⟨(hm s).1 h.1, h.2.1, h.2.2.1, fun x hx => h.2.2.2 x ((hm x).2 hx)⟩
theorem best_perm {l l' : List S27} (hm : ∀ x, x ∈ l ↔ x ∈ l') (ha : Apart l l.length) {n : Int} (h1 : 1 ≤ n) (h2 : n ≤ 4096) : bestF l n = bestF l' n := by
  funext y
  have p := best_is h1 h2 l y
  have q := isBest_perm (fun x => (hm x).symm) (best_is h1 h2 l' y)
  cases hb : bestF l n y with
  | none =>
    rw [hb] at p
    cases hc : bestF l' n y with
    | none => rfl
    | some t => rw [hc] at q; exact absurd q.2.2.1 (p t q.1 q.2.1)
  | some s =>
    rw [hb] at p
    obtain ⟨t, ht, e1, e2⟩ := best_one p q
    rw [ht] at q ⊢
    rw [apart_eq ha p.1 q.1 e2.symm]
theorem raw_perm (g : Int → Option S27) (n : Int) {l l' : List S27} (h : l.Perm l') : (staleRaw g n l).Perm (staleRaw g n l') := by
  induction h with
  | nil => exact List.Perm.refl _
  | cons x _ ih => simp only [staleRaw]; exact ih.append_left _
  | swap x y l => simp only [staleRaw]; exact List.perm_append_comm_assoc _ _ _
  | trans _ _ ih1 ih2 => exact ih1.trans ih2
theorem sort_perm {l l' : List Int} (h : l.Perm l') : (l.mergeSort fun x y => decide (x ≤ y)) = (l'.mergeSort fun x y => decide (x ≤ y)) := by
  have s : ∀ m : List Int, (m.mergeSort fun x y => decide (x ≤ y)).Pairwise (fun a b => a ≤ b) := fun m => by
    have := List.pairwise_mergeSort (le := fun x y : Int => decide (x ≤ y)) (fun a b c h1 h2 => by simp only [decide_eq_true_eq] at *; omega) (fun a b => by simp only [Bool.or_eq_true, decide_eq_true_eq]; omega) m
    exact this.imp (fun h => by simpa using h)
  exact List.Perm.eq_of_pairwise (fun a b _ _ h1 h2 => by omega) (s l) (s l') (((List.mergeSort_perm l _).trans h).trans (List.mergeSort_perm l' _).symm)
end Go.Proofs.Ytlheknapgonakaa.Plain
