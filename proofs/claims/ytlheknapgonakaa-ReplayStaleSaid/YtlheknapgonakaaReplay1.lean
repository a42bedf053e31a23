/- The newest ones: what 'bestF' is, by what was found. -/
import Derived.Test.YtlheknapgonakaaBase
import Derived.Test.YtlheknapgonakaaX33
import Derived.Test.YtlheknapgonakaaX1
import Derived.Test.YtlheknapgonakaaX41
import Derived.Test.YtlheknapgonakaaFoundsRead
namespace Go.Proofs.Ytlheknapgonakaa.Plain
open Go Go.RowKit Go.Proofs.Ytlheknapgonakaa.X Go.Proofs.YtlheknapgonakaaW.PrintWords Go.Proofs.YtlheknapgonakaaW.PrintMore

theorem awake18_is : strakelaw18_awake.f = some true := by decide +kernel
theorem fnew_iff (a b : S27) : fnew a b = true ↔ (b.f1.f2 < a.f1.f2 ∨ (b.f1.f2 = a.f1.f2 ∧ b.f0 < a.f0)) := by unfold fnew; exact decide_eq_true_iff
theorem fnew_no (a b : S27) : fnew a b = false ↔ ¬ (b.f1.f2 < a.f1.f2 ∨ (b.f1.f2 = a.f1.f2 ∧ b.f0 < a.f0)) := by unfold fnew; exact decide_eq_false_iff_not
theorem fcnt_iff (x : S27) (n : Int) : fcnt x n = true ↔ ((x.f1.f0 = 1 ∨ x.f1.f0 = 2) ∧ 0 ≤ x.f1.f1 ∧ x.f1.f1 < n ∧ 1 ≤ x.f1.f2 ∧ x.f1.f2 ≤ 1125899906842624 ∧ 0 ≤ x.f0) := by unfold fcnt; exact decide_eq_true_iff
/-- what it is to be the newest one at y -/
def IsBest (l : List S27) (n : Int) (y : Int) : Option S27 → Prop
  | none => ∀ x ∈ l, fcnt x n = true → x.f1.f1 ≠ y
  | some s => s ∈ l ∧ fcnt s n = true ∧ s.f1.f1 = y ∧ ∀ x ∈ l, fcnt x n = true → x.f1.f1 = y → fnew x s = false
theorem step_best {l : List S27} {n : Int} {g : Int → Option S27} (h : ∀ y, IsBest l n y (g y)) (x : S27) : ∀ y, IsBest (l ++ [x]) n y (bestStep n g x y) := by
  intro y
  have hy := h y
  unfold bestStep
  by_cases c : fcnt x n = true
  · rw [if_pos c]
    have hx := h x.f1.f1
    cases hg : g x.f1.f1 with
    | none =>
      dsimp only
      by_cases e : y = x.f1.f1
      · rw [if_pos e]
        rw [hg] at hx
        refine ⟨by simp, c, e.symm, fun z hz cz ez => ?_⟩
        rcases List.mem_append.1 hz with hz | hz
        · exact absurd (ez.trans e) (hx z hz cz)
        · rw [List.mem_singleton] at hz; subst hz
          rw [fnew_no]; omega
      · rw [if_neg e]
        cases hgy : g y with
        | none =>
          rw [hgy] at hy
          intro z hz cz ez
          rcases List.mem_append.1 hz with hz | hz
          · exact hy z hz cz ez
          · rw [List.mem_singleton] at hz; subst hz; exact e ez.symm
        | some s =>
          rw [hgy] at hy
          obtain ⟨h1, h2, h3, h4⟩ := hy
          refine ⟨List.mem_append_left _ h1, h2, h3, fun z hz cz ez => ?_⟩
          rcases List.mem_append.1 hz with hz | hz
          · exact h4 z hz cz ez
          · rw [List.mem_singleton] at hz; subst hz; exact absurd ez.symm e
    | some o =>
      dsimp only
      rw [hg] at hx
      obtain ⟨o1, o2, o3, o4⟩ := hx
      by_cases c2 : fnew x o = true
      · rw [if_pos c2]
        by_cases e : y = x.f1.f1
        · rw [if_pos e]
          refine ⟨by simp, c, e.symm, fun z hz cz ez => ?_⟩
          rcases List.mem_append.1 hz with hz | hz
          · have := o4 z hz cz (ez.trans e)
            rw [fnew_no] at this ⊢
            rw [fnew_iff] at c2
            omega
          · rw [List.mem_singleton] at hz; subst hz
            rw [fnew_no]; omega
        · rw [if_neg e]
          cases hgy : g y with
          | none =>
            rw [hgy] at hy
            intro z hz cz ez
            rcases List.mem_append.1 hz with hz | hz
            · exact hy z hz cz ez
            · rw [List.mem_singleton] at hz; subst hz; exact e ez.symm
          | some s =>
            rw [hgy] at hy
            obtain ⟨h1, h2, h3, h4⟩ := hy
            refine ⟨List.mem_append_left _ h1, h2, h3, fun z hz cz ez => ?_⟩
            rcases List.mem_append.1 hz with hz | hz
            · exact h4 z hz cz ez
            · rw [List.mem_singleton] at hz; subst hz; exact absurd ez.symm e
      · rw [if_neg c2]
        have c3 : fnew x o = false := by simpa using c2
        by_cases e : y = x.f1.f1
        · subst e
          rw [hg]
          refine ⟨List.mem_append_left _ o1, o2, o3, fun z hz cz ez => ?_⟩
          rcases List.mem_append.1 hz with hz | hz
          · exact o4 z hz cz ez
          · rw [List.mem_singleton] at hz; subst hz; exact c3
        · cases hgy : g y with
          | none =>
            rw [hgy] at hy
            intro z hz cz ez
            rcases List.mem_append.1 hz with hz | hz
            · exact hy z hz cz ez
            · rw [List.mem_singleton] at hz; subst hz; exact e ez.symm
          | some s =>
            rw [hgy] at hy
            obtain ⟨h1, h2, h3, h4⟩ := hy
            refine ⟨List.mem_append_left _ h1, h2, h3, fun z hz cz ez => ?_⟩
            rcases List.mem_append.1 hz with hz | hz
            · exact h4 z hz cz ez
            · rw [List.mem_singleton] at hz; subst hz; exact absurd ez.symm e
  · rw [if_neg c]
    cases hgy : g y with
    | none =>
      rw [hgy] at hy
      intro z hz cz ez
      rcases List.mem_append.1 hz with hz | hz
      · exact hy z hz cz ez
      · rw [List.mem_singleton] at hz; subst hz; exact c cz
    | some s =>
      rw [hgy] at hy
      obtain ⟨h1, h2, h3, h4⟩ := hy
      refine ⟨List.mem_append_left _ h1, h2, h3, fun z hz cz ez => ?_⟩
      rcases List.mem_append.1 hz with hz | hz
      · exact h4 z hz cz ez
      · rw [List.mem_singleton] at hz; subst hz; exact absurd cz c
theorem fold_best (n : Int) (l : List S27) : ∀ (l0 : List S27) (g : Int → Option S27), (∀ y, IsBest l0 n y (g y)) → ∀ y, IsBest (l0 ++ l) n y (l.foldl (bestStep n) g y) := by
  induction l with
  | nil => intro l0 g h; simpa using h
  | cons x l ih =>
    intro l0 g h
    have := ih (l0 ++ [x]) _ (step_best h x)
    simpa using this
theorem best_is {n : Int} (h1 : 1 ≤ n) (h2 : n ≤ 4096) (l : List S27) (y : Int) : IsBest l n y (bestF l n y) := by
  unfold bestF
  rw [if_neg (by omega), if_neg (by omega)]
  have := fold_best n l [] (fun _ => none) (fun _ x hx _ => by simp at hx) y
  simpa using this
/-- two newest ones tell the same -/
theorem best_one {l : List S27} {n y : Int} {s : S27} {o : Option S27} (h : IsBest l n y (some s)) (h' : IsBest l n y o) : ∃ t, o = some t ∧ t.f1.f2 = s.f1.f2 ∧ t.f0 = s.f0 := by
  obtain ⟨a1, a2, a3, a4⟩ := h
  cases o with
  | none => exact absurd a3 (h' s a1 a2)
  | some t =>
    obtain ⟨b1, b2, b3, b4⟩ := h'
    have p := a4 t b1 b2 b3
    have q := b4 s a1 a2 a3
    rw [fnew_no] at p q
    exact ⟨t, rfl, by omega, by omega⟩
theorem newest_yes {l : List S27} {n : Int} (h1 : 1 ≤ n) (h2 : n ≤ 4096) : replay_Newest.f l n = some (newestL l n, mostL l n) := by
  unfold replay_Newest.f; rw [if_neg (by omega), if_neg (by omega)]
theorem newest_no {l : List S27} {n : Int} (h : ¬ (1 ≤ n ∧ n ≤ 4096)) : replay_Newest.f l n = some ([], 0) := by
  unfold replay_Newest.f
  by_cases c : n < 1
  · rw [if_pos c]
  · rw [if_neg c, if_pos (by omega)]
theorem stale_yes {l : List S27} {n : Int} (h1 : 1 ≤ n) (h2 : n ≤ 4096) (hl : l.length ≤ 1000000) : replay_Stale.f l n = some (Lib.compact ((staleRaw (bestF l n) n l).mergeSort fun x y => decide (x ≤ y))) := by
  unfold replay_Stale.f; rw [if_neg (by omega), if_neg (by omega), if_pos (by omega)]
theorem stale_no {l : List S27} {n : Int} (h : ¬ (1 ≤ n ∧ n ≤ 4096)) : replay_Stale.f l n = some [] := by
  unfold replay_Stale.f
  by_cases c : n < 1
  · rw [if_pos c]
  · rw [if_neg c, if_pos (by omega)]
theorem newest_len (l : List S27) (n : Int) : (newestL l n).length = n.toNat := by unfold newestL; simp
theorem rd33_get {l : List S33} {i : Nat} (h : i < l.length) : rd_T33 l (i : Int) = l[i] := by simp [rd_T33, h]
theorem rd27_get {l : List S27} {i : Nat} (h : i < l.length) : rd_T27 l (i : Int) = l[i] := by simp [rd_T27, h]
theorem newest_at (l : List S27) (n : Int) {i : Nat} (h : i < n.toNat) : rd_T33 (newestL l n) (i : Int) = entryOf (bestF l n (i : Int)) := by
  rw [rd33_get (by rw [newest_len]; exact h)]
  simp [newestL]
theorem same_loop (l : List S33) (hl : l.length ≤ 1000000) : ∀ (m i : Nat), m + i = l.length → Ev (fun k => strakeref18_SameEntries.l0 k l l (i : Int)) true := by
  intro m
  induction m with
  | zero =>
    intro i hm
    exact Ev.step (f := fun _ => some true) (fun k => by rw [strakeref18_SameEntries.l0, if_neg (by omega)]) (Ev.now _)
  | succ m ih =>
    intro i hm
    have next := ih (i + 1) (by omega)
    refine Ev.step (fun k => by rw [strakeref18_SameEntries.l0]) ?_
    refine evp (by omega) (evp (by omega) (evp (by omega) (evn (by simp) ?_)))
    rw [wrap_in (by omega) (by omega)]
    exact_mod_cast next
theorem sameE_is (l : List S33) (hl : l.length ≤ 1000000) : Ev (fun k => strakeref18_SameEntries.f k l l) true := by
  unfold strakeref18_SameEntries.f
  exact evp rfl (same_loop l hl l.length 0 (by omega))
theorem compact_nil : Lib.compact ([] : List Int) = [] := by decide +kernel
end Go.Proofs.Ytlheknapgonakaa.Plain
