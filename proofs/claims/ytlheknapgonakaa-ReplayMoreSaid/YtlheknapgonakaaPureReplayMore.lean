/- What is not newer, found besides, changes no entry. No condition. -/
import Derived.Test.YtlheknapgonakaaX8
import Derived.Test.YtlheknapgonakaaStatReplayMore
import Derived.Test.YtlheknapgonakaaReplay1
namespace Go.Proofs.Ytlheknapgonakaa.Pure
open Go Go.RowKit Go.Proofs.Ytlheknapgonakaa.X Go.Proofs.Ytlheknapgonakaa.Plain Go.Proofs.YtlheknapgonakaaW.PrintWords Go.Proofs.YtlheknapgonakaaW.PrintMore

theorem best_more {l : List S27} {n : Int} (h1 : 1 ≤ n) (h2 : n ≤ 4096) (x : S27) : bestF (l ++ [x]) n = bestStep n (bestF l n) x := by
  unfold bestF
  rw [if_neg (by omega), if_neg (by omega), if_neg (by omega), if_neg (by omega), List.foldl_append]
  rfl
/-- one more found: at each sector as before, or it is the new one, which is newer -/
theorem more_cases {l : List S27} {n : Int} (h1 : 1 ≤ n) (h2 : n ≤ 4096) (x : S27) (y : Int) :
    bestF (l ++ [x]) n y = bestF l n y ∨ (bestF (l ++ [x]) n y = some x ∧ x.f1.f1 = y ∧ fcnt x n = true ∧ (bestF l n y = none ∨ ∃ o, bestF l n y = some o ∧ fnew x o = true)) := by
  rw [best_more h1 h2]
  unfold bestStep
  by_cases c : fcnt x n = true
  · rw [if_pos c]
    cases hg : bestF l n x.f1.f1 with
    | none =>
      dsimp only
      by_cases e : y = x.f1.f1
      · right; rw [if_pos e]; exact ⟨rfl, e.symm, c, Or.inl (by rw [e]; exact hg)⟩
      · left; rw [if_neg e]
    | some o =>
      dsimp only
      by_cases c2 : fnew x o = true
      · rw [if_pos c2]
        by_cases e : y = x.f1.f1
        · right; rw [if_pos e]; exact ⟨rfl, e.symm, c, Or.inr ⟨o, by rw [e]; exact hg, c2⟩⟩
        · left; rw [if_neg e]
      · rw [if_neg c2]; exact Or.inl rfl
  · rw [if_neg c]; exact Or.inl rfl
theorem fold_mono (q q' : Nat → Int) : ∀ N : Nat, (∀ j, j < N → q j ≤ q' j) → (List.range N).foldl (fun m i => max m (q i)) 0 ≤ (List.range N).foldl (fun m i => max m (q' i)) 0 := by
  intro N
  induction N with
  | zero => intro _; simp
  | succ N ih =>
    intro h
    have h1 := ih (fun j hj => h j (by omega))
    have h2 := h N (by omega)
    rw [List.range_succ, List.foldl_append, List.foldl_append]
    simp only [List.foldl_cons, List.foldl_nil]
    omega
theorem most_more {l : List S27} {n : Int} (h1 : 1 ≤ n) (h2 : n ≤ 4096) (x : S27) : mostL l n ≤ mostL (l ++ [x]) n := by
  unfold mostL
  refine fold_mono _ _ _ (fun j _ => ?_)
  rcases more_cases h1 h2 (l := l) x (j : Int) with h | ⟨h, _, hc, ho⟩
  · rw [h]; exact Int.le_refl _
  · rw [h]
    rcases ho with ho | ⟨o, ho, hf⟩
    · rw [ho]
      rw [fcnt_iff] at hc
      show (0 : Int) ≤ x.f1.f2
      omega
    · rw [ho]
      rw [fnew_iff] at hf
      show o.f1.f2 ≤ x.f1.f2
      omega
theorem more_loop {l : List S27} {n : Int} (h1 : 1 ≤ n) (h2 : n ≤ 4096) (x : S27) : ∀ (m i : Nat), m + i = n.toNat →
    Ev (fun k => strakelaw18_ReplayMore.l0 k true (newestL l n) (newestL (l ++ [x]) n) (i : Int) x.f0 x.f1.f0 x.f1.f1 x.f1.f2 x.f2) true := by
  have ha := newest_len l n
  have hb := newest_len (l ++ [x]) n
  intro m
  induction m with
  | zero =>
    intro i hm
    exact Ev.step (f := fun _ => some true) (fun k => by rw [strakelaw18_ReplayMore.l0, if_neg (by omega)]) (Ev.now _)
  | succ m ih =>
    intro i hm
    have hi : i < n.toNat := by omega
    have next := ih (i + 1) (by omega)
    have e : wrap64 ((i : Int) + 1) = ((i + 1 : Nat) : Int) := by rw [wrap_in (by omega) (by omega)]; omega
    refine Ev.step (fun k => by rw [strakelaw18_ReplayMore.l0]) ?_
    rw [newest_at l n hi, newest_at (l ++ [x]) n hi, e]
    refine evp (by omega) (evp (by omega) (evp (by omega) ?_))
    have skip : Ev (fun k => strakelaw18_ReplayMore.j2 k true (newestL l n) (newestL (l ++ [x]) n) (i : Int) false x.f0 x.f1.f0 x.f1.f1 x.f1.f2 x.f2) true := by
      refine Ev.step (fun k => by rw [strakelaw18_ReplayMore.j2, if_neg (by decide)]) ?_
      rw [e]; exact next
    rcases more_cases h1 h2 (l := l) x (i : Int) with h | ⟨h, hy, hc, ho⟩
    · rw [h]
      exact evp (by simp) next
    · rw [h]
      rw [fcnt_iff] at hc
      by_cases c : (((entryOf (bestF l n (i : Int))).f0 == (entryOf (some x)).f0) && (((entryOf (bestF l n (i : Int))).f1 == (entryOf (some x)).f1) && ((entryOf (bestF l n (i : Int))).f2 == (entryOf (some x)).f2))) = true
      · exact evp c next
      · refine evn c (evp hy (evn (by simp [entryOf]) ?_))
        rcases ho with ho | ⟨o, ho, hf⟩
        · rw [ho]
          refine evn (by simp only [entryOf]; omega) ?_
          by_cases c2 : x.f1.f2 = (entryOf none).f1
          · refine evp c2 ?_
            rw [decide_eq_false (by simp only [entryOf]; omega)]
            exact skip
          · exact evn c2 skip
        · rw [ho]
          rw [fnew_iff] at hf
          refine evn (by simp only [entryOf]; omega) ?_
          by_cases c2 : x.f1.f2 = (entryOf (some o)).f1
          · refine evp c2 ?_
            rw [decide_eq_false (by simp only [entryOf] at c2 ⊢; omega)]
            exact skip
          · exact evn c2 skip
theorem ReplayMore : strakelaw18_ReplayMore.Pure := by
  intro l n x hl hw hn hx
  refine Ev.rounds (g := fun k => strakelaw18_ReplayMore.f k l n x.f0 x.f1.f0 x.f1.f1 x.f1.f2 x.f2) ?_
  unfold strakelaw18_ReplayMore.f
  rw [awake18_is]
  simp only [Option.bind_some]
  by_cases c : (l.length : Int) > 200
  · exact evp c (Ev.now _)
  refine evn c ?_
  have hxx : (⟨x.f0, ⟨x.f1.f0, x.f1.f1, x.f1.f2⟩, x.f2⟩ : S27) = x := rfl
  by_cases h : 1 ≤ n ∧ n ≤ 4096
  · rw [newest_yes h.1 h.2]
    simp only [Option.bind_some, List.nil_append, hxx]
    refine evp (by simp; omega) (evp (by simp; omega) ?_)
    rw [newest_yes h.1 h.2]
    simp only [Option.bind_some]
    have ha := newest_len l n
    have hb := newest_len (l ++ [x]) n
    refine evp (by omega) ?_
    rw [decide_eq_false (by have := most_more h.1 h.2 (l := l) x; omega)]
    refine Ev.step (fun k => by rw [strakelaw18_ReplayMore.j0, if_neg (by decide)]) ?_
    exact more_loop h.1 h.2 x n.toNat 0 (by omega)
  · rw [newest_no h]
    simp only [Option.bind_some, List.nil_append, hxx]
    refine evp (by simp; omega) (evp (by simp; omega) ?_)
    rw [newest_no h]
    simp only [Option.bind_some]
    refine evp (by first | rfl | trivial) ?_
    rw [decide_eq_false (by omega)]
    refine Ev.step (fun k => by rw [strakelaw18_ReplayMore.j0, if_neg (by decide)]) ?_
    exact Ev.step (f := fun _ => some true) (fun k => by rw [strakelaw18_ReplayMore.l0, if_neg (by simp)]) (Ev.now _)
end Go.Proofs.Ytlheknapgonakaa.Pure
