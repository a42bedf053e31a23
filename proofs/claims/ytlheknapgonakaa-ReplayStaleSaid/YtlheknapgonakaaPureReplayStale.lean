/- What does not count any more of anything that was found is the reference's. No condition. -/
import Derived.Test.YtlheknapgonakaaX34
import Derived.Test.YtlheknapgonakaaStatReplayStale
import Derived.Test.YtlheknapgonakaaReplay3
namespace Go.Proofs.Ytlheknapgonakaa.Pure
open Go Go.RowKit Go.Proofs.Ytlheknapgonakaa.X Go.Proofs.Ytlheknapgonakaa.Plain Go.Proofs.YtlheknapgonakaaW.PrintWords Go.Proofs.YtlheknapgonakaaW.PrintMore

theorem rcnt_is (x : S27) (n : Int) : strakeref18_counts.f x.f0 x.f1.f0 x.f1.f1 x.f1.f2 x.f2 n = some (fcnt x n) := by
  unfold strakeref18_counts.f fcnt
  repeat' split
  all_goals (refine congrArg some ?_; first | (refine Eq.symm (decide_eq_false ?_); omega) | (refine decide_eq_decide.2 ?_; omega))
theorem rnew_is (a b : S27) : strakeref18_newer.f a.f0 a.f1.f0 a.f1.f1 a.f1.f2 a.f2 b.f0 b.f1.f0 b.f1.f1 b.f1.f2 b.f2 = some (fnew a b) := by
  unfold strakeref18_newer.f fnew
  repeat' split
  all_goals (refine congrArg some ?_; first | (refine Eq.symm (decide_eq_true ?_); omega) | (refine Eq.symm (decide_eq_false ?_); omega) | (refine decide_eq_decide.2 ?_; omega))
/-- is the one at place i the newest of its sector y? -/
def Top (l : List S27) (n y : Int) (i : Nat) : Prop := ∀ b : Nat, b < l.length → fcnt (rd_T27 l (b : Int)) n = true → (rd_T27 l (b : Int)).f1.f1 = y → fnew (rd_T27 l (b : Int)) (rd_T27 l (i : Int)) = false
theorem best_inner (l : List S27) (n y : Int) (hl : l.length ≤ 1000) (i : Nat) (hi : i < l.length) (r : Int)
    (yes : Top l n y i → r = (i : Int)) (no : ¬ Top l n y i → Ev (fun k => strakeref18_Best.l0 k l n y (wrap64 ((i : Int) + 1))) r) : ∀ (m j : Nat) (fl : Bool), m + j = l.length →
    (fl = true ↔ ∀ b : Nat, b < j → fcnt (rd_T27 l (b : Int)) n = true → (rd_T27 l (b : Int)).f1.f1 = y → fnew (rd_T27 l (b : Int)) (rd_T27 l (i : Int)) = false) →
    Ev (fun k => strakeref18_Best.l1 k l n y (i : Int) fl (j : Int)) r := by
  intro m
  induction m with
  | zero =>
    intro j fl hj hf
    have e : j = l.length := by omega
    subst e
    refine Ev.step (fun k => by rw [strakeref18_Best.l1, if_neg (by omega)]) ?_
    by_cases c : fl = true
    · rw [yes (hf.1 c)]
      exact evp c (Ev.now _)
    · exact evn c (no (fun h => c (hf.2 h)))
  | succ m ih =>
    intro j fl hj hf
    have hlt : j < l.length := by omega
    have e : wrap64 ((j : Int) + 1) = ((j + 1 : Nat) : Int) := by rw [wrap_in (by omega) (by omega)]; omega
    refine Ev.step (fun k => by rw [strakeref18_Best.l1]) ?_
    refine evp (by omega) (evp (by omega) ?_)
    rw [rcnt_is, e]
    simp only [Option.bind_some]
    by_cases c1 : fcnt (rd_T27 l (j : Int)) n = true
    · refine evp c1 ?_
      by_cases c2 : (rd_T27 l (j : Int)).f1.f1 = y
      · refine evp c2 (evp (by omega) (evp (by omega) ?_))
        rw [rnew_is]
        simp only [Option.bind_some]
        by_cases c3 : fnew (rd_T27 l (j : Int)) (rd_T27 l (i : Int)) = true
        · refine evp c3 (ih (j + 1) false (by omega) ⟨fun h => (by cases h), fun h => ?_⟩)
          have := h j (by omega) c1 c2
          rw [c3] at this
          cases this
        · refine evn c3 (ih (j + 1) fl (by omega) (hf.trans ⟨fun h b hb h1 h2 => ?_, fun h b hb => h b (by omega)⟩))
          by_cases e2 : b = j
          · subst e2; simpa using c3
          · exact h b (by omega) h1 h2
      · refine evn c2 (ih (j + 1) fl (by omega) (hf.trans ⟨fun h b hb h1 h2 => ?_, fun h b hb => h b (by omega)⟩))
        by_cases e2 : b = j
        · subst e2; exact absurd h2 c2
        · exact h b (by omega) h1 h2
    · refine evn c1 (ih (j + 1) fl (by omega) (hf.trans ⟨fun h b hb h1 h2 => ?_, fun h b hb => h b (by omega)⟩))
      by_cases e2 : b = j
      · subst e2; exact absurd h1 c1
      · exact h b (by omega) h1 h2
theorem best_outer (l : List S27) (n y : Int) (hl : l.length ≤ 1000) : ∀ (m i : Nat), m + i = l.length →
    ∃ r, Ev (fun k => strakeref18_Best.l0 k l n y (i : Int)) r ∧ ((∃ a : Nat, a < l.length ∧ r = (a : Int) ∧ fcnt (rd_T27 l (a : Int)) n = true ∧ (rd_T27 l (a : Int)).f1.f1 = y ∧ Top l n y a) ∨
      (r = -1 ∧ ∀ a : Nat, i ≤ a → a < l.length → ¬ (fcnt (rd_T27 l (a : Int)) n = true ∧ (rd_T27 l (a : Int)).f1.f1 = y ∧ Top l n y a))) := by
  intro m
  induction m with
  | zero =>
    intro i hi
    exact ⟨-1, Ev.step (f := fun _ => some (-1)) (fun k => by rw [strakeref18_Best.l0, if_neg (by omega)]) (Ev.now _), Or.inr ⟨rfl, fun a h1 h2 => by omega⟩⟩
  | succ m ih =>
    intro i hi
    have hlt : i < l.length := by omega
    have e : wrap64 ((i : Int) + 1) = ((i + 1 : Nat) : Int) := by rw [wrap_in (by omega) (by omega)]; omega
    obtain ⟨r, hr, hp⟩ := ih (i + 1) (by omega)
    have skip : ∀ b, b = true → ¬ (fcnt (rd_T27 l (i : Int)) n = true ∧ (rd_T27 l (i : Int)).f1.f1 = y) → Ev (fun k => strakeref18_Best.j1 k l n y (i : Int) b) r := by
      intro b hb _
      subst hb
      refine Ev.step (fun k => by rw [strakeref18_Best.j1, if_pos rfl]) ?_
      rw [e]; exact hr
    have keep : ∀ r', (¬ (fcnt (rd_T27 l (i : Int)) n = true ∧ (rd_T27 l (i : Int)).f1.f1 = y ∧ Top l n y i)) → r' = r → ((∃ a : Nat, a < l.length ∧ r' = (a : Int) ∧ fcnt (rd_T27 l (a : Int)) n = true ∧ (rd_T27 l (a : Int)).f1.f1 = y ∧ Top l n y a) ∨
      (r' = -1 ∧ ∀ a : Nat, i ≤ a → a < l.length → ¬ (fcnt (rd_T27 l (a : Int)) n = true ∧ (rd_T27 l (a : Int)).f1.f1 = y ∧ Top l n y a))) := by
      intro r' hn hr'
      subst hr'
      rcases hp with hp | ⟨hp1, hp2⟩
      · exact Or.inl hp
      · refine Or.inr ⟨hp1, fun a h1 h2 => ?_⟩
        by_cases e2 : a = i
        · subst e2; exact hn
        · exact hp2 a (by omega) h2
    by_cases c1 : fcnt (rd_T27 l (i : Int)) n = true
    · by_cases c2 : (rd_T27 l (i : Int)).f1.f1 = y
      · by_cases c3 : Top l n y i
        · refine ⟨(i : Int), ?_, Or.inl ⟨i, hlt, rfl, c1, c2, c3⟩⟩
          refine Ev.step (fun k => by rw [strakeref18_Best.l0]) ?_
          refine evp (by omega) (evp (by omega) ?_)
          rw [rcnt_is]
          simp only [Option.bind_some]
          refine evp c1 ?_
          have e2 : ((rd_T27 l (i : Int)).f1.f1 != y) = false := by rw [bne_eq_false_iff_eq]; exact c2
          rw [e2]
          refine Ev.step (fun k => by rw [strakeref18_Best.j1, if_neg (by decide)]) ?_
          exact best_inner l n y hl i hlt (i : Int) (fun _ => rfl) (fun h => absurd c3 h) l.length 0 true (by omega) ⟨fun _ b hb => by omega, fun _ => rfl⟩
        · refine ⟨r, ?_, keep r (fun h => c3 h.2.2) rfl⟩
          refine Ev.step (fun k => by rw [strakeref18_Best.l0]) ?_
          refine evp (by omega) (evp (by omega) ?_)
          rw [rcnt_is]
          simp only [Option.bind_some]
          refine evp c1 ?_
          have e2 : ((rd_T27 l (i : Int)).f1.f1 != y) = false := by rw [bne_eq_false_iff_eq]; exact c2
          rw [e2]
          refine Ev.step (fun k => by rw [strakeref18_Best.j1, if_neg (by decide)]) ?_
          exact best_inner l n y hl i hlt r (fun h => absurd h c3) (fun _ => by rw [e]; exact hr) l.length 0 true (by omega) ⟨fun _ b hb => by omega, fun _ => rfl⟩
      · refine ⟨r, ?_, keep r (fun h => c2 h.2.1) rfl⟩
        refine Ev.step (fun k => by rw [strakeref18_Best.l0]) ?_
        refine evp (by omega) (evp (by omega) ?_)
        rw [rcnt_is]
        simp only [Option.bind_some]
        exact evp c1 (skip _ (by simpa using c2) (fun h => c2 h.2))
    · refine ⟨r, ?_, keep r (fun h => c1 h.1) rfl⟩
      refine Ev.step (fun k => by rw [strakeref18_Best.l0]) ?_
      refine evp (by omega) (evp (by omega) ?_)
      rw [rcnt_is]
      simp only [Option.bind_some]
      exact evn c1 (skip true rfl (fun h => c1 h.1))
theorem top_of {l : List S27} {n y : Int} {s : S27} (h : IsBest l n y (some s)) : ∃ a : Nat, a < l.length ∧ fcnt (rd_T27 l (a : Int)) n = true ∧ (rd_T27 l (a : Int)).f1.f1 = y ∧ Top l n y a := by
  obtain ⟨h1, h2, h3, h4⟩ := h
  obtain ⟨a, ha, rfl⟩ := List.getElem_of_mem h1
  refine ⟨a, ha, by rw [rd27_get ha]; exact h2, by rw [rd27_get ha]; exact h3, fun b hb c1 c2 => ?_⟩
  rw [rd27_get hb] at c1 c2 ⊢
  rw [rd27_get ha]
  exact h4 _ (List.getElem_mem hb) c1 c2
theorem rbest_is {l : List S27} {n : Int} (h1 : 1 ≤ n) (h2 : n ≤ 4096) (hl : l.length ≤ 1000) {x : S27} (hx : x ∈ l) (hc : fcnt x n = true) :
    ∃ a : Nat, a < l.length ∧ Ev (fun k => strakeref18_Best.f k l n x.f1.f1) (a : Int) ∧ fnew (rd_T27 l (a : Int)) x = fnew ((bestF l n x.f1.f1).getD z27) x := by
  have hb := best_is h1 h2 l x.f1.f1
  cases ho : bestF l n x.f1.f1 with
  | none => rw [ho] at hb; exact absurd rfl (hb x hx hc)
  | some s =>
    rw [ho] at hb
    obtain ⟨r, hr, hp⟩ := best_outer l n x.f1.f1 hl l.length 0 (by omega)
    rcases hp with ⟨a, ha, rfl, c1, c2, c3⟩ | ⟨_, hp⟩
    · refine ⟨a, ha, hr, ?_⟩
      have ha2 : IsBest l n x.f1.f1 (some (rd_T27 l (a : Int))) := by
        refine ⟨by rw [rd27_get ha]; exact List.getElem_mem ha, c1, c2, fun z hz cz ez => ?_⟩
        obtain ⟨b, hb', rfl⟩ := List.getElem_of_mem hz
        have := c3 b hb' (by rw [rd27_get hb']; exact cz) (by rw [rd27_get hb']; exact ez)
        rwa [rd27_get hb'] at this
      obtain ⟨t, ht, e1, e2⟩ := best_one ha2 hb
      cases ht
      rw [Option.getD_some, Bool.eq_iff_iff, fnew_iff, fnew_iff, e1, e2]
    · obtain ⟨a, ha, q⟩ := top_of hb
      exact absurd q (hp a (by omega) ha)
/-- the reference's list, so far -/
def foldP (r : List Int) : List Int := r.foldl (fun l a => ins a l) []
theorem foldP_snoc (r : List Int) (a : Int) : foldP (r ++ [a]) = ins a (foldP r) := by unfold foldP; rw [List.foldl_append]; rfl
theorem foldP_spec (r : List Int) : (foldP r).Pairwise (fun x y => x < y) ∧ ∀ a, a ∈ foldP r ↔ a ∈ r := by
  suffices h : ∀ (q : List Int) (s : List Int), s.Pairwise (fun x y => x < y) → (q.foldl (fun l a => ins a l) s).Pairwise (fun x y => x < y) ∧ ∀ a, a ∈ q.foldl (fun l a => ins a l) s ↔ a ∈ s ∨ a ∈ q by
    obtain ⟨p1, p2⟩ := h r [] List.Pairwise.nil
    exact ⟨p1, fun a => by have := p2 a; simpa [foldP] using this⟩
  intro q
  induction q with
  | nil => intro s hs; exact ⟨hs, fun a => by simp⟩
  | cons b q ih =>
    intro s hs
    obtain ⟨p1, p2⟩ := ih (ins b s) (ins_rising hs)
    refine ⟨p1, fun a => ?_⟩
    simp only [List.foldl_cons]
    rw [p2 a, ins_mem, List.mem_cons]
    constructor
    · rintro ((h | h) | h)
      · exact Or.inr (Or.inl h)
      · exact Or.inl h
      · exact Or.inr (Or.inr h)
    · rintro (h | h | h)
      · exact Or.inl (Or.inr h)
      · exact Or.inl (Or.inl h)
      · exact Or.inr h
theorem foldP_len (r : List Int) : (foldP r).length ≤ r.length := by
  suffices h : ∀ (q s : List Int), s.Pairwise (fun x y => x < y) → (q.foldl (fun l a => ins a l) s).length ≤ s.length + q.length by
    simpa [foldP] using h r [] List.Pairwise.nil
  intro q
  induction q with
  | nil => intro s _; simp
  | cons b q ih =>
    intro s hs
    have h1 := ih (ins b s) (ins_rising hs)
    have h2 : (ins b s).length ≤ s.length + 1 := by
      unfold ins
      simp only [List.length_append, List.length_cons, List.length_nil]
      have : ∀ t : List Int, (t.filter fun x => decide (x < b)).length + (t.filter fun x => decide (b < x)).length ≤ t.length := by
        intro t
        induction t with
        | nil => simp
        | cons y t it =>
          simp only [List.filter_cons, List.length_cons]
          by_cases c1 : y < b
          · simp [c1, show ¬ b < y by omega]; omega
          · by_cases c2 : b < y
            · simp [c1, c2]; omega
            · simp [c1, c2]; omega
      have := this s
      omega
    simp only [List.foldl_cons, List.length_cons]
    omega
theorem stale_same (r : List Int) : foldP r = Lib.compact (r.mergeSort fun x y => decide (x ≤ y)) := by
  have s : (r.mergeSort fun x y => decide (x ≤ y)).Pairwise (fun a b => a ≤ b) := by
    have := List.pairwise_mergeSort (le := fun x y : Int => decide (x ≤ y)) (fun a b c h1 h2 => by simp only [decide_eq_true_eq] at *; omega) (fun a b => by simp only [Bool.or_eq_true, decide_eq_true_eq]; omega) r
    exact this.imp (fun h => by simpa using h)
  obtain ⟨p1, p2⟩ := sorted_spec _ s
  obtain ⟨q1, q2⟩ := foldP_spec r
  exact rising_one q1 p1 (fun a => by rw [q2 a, p2 a, (List.mergeSort_perm _ _).mem_iff])
theorem rstale_loop {l : List S27} {n : Int} (h1 : 1 ≤ n) (h2 : n ≤ 4096) (hl : l.length ≤ 1000) : ∀ (m i : Nat), m + i = l.length →
    Ev (fun k => strakeref18_Stale.l0 k l n (foldP (staleRaw (bestF l n) n (l.take i))) (i : Int)) (foldP (staleRaw (bestF l n) n l)) := by
  intro m
  induction m with
  | zero =>
    intro i hi
    rw [List.take_of_length_le (by omega)]
    exact Ev.step (f := fun _ => some (foldP (staleRaw (bestF l n) n l))) (fun k => by rw [strakeref18_Stale.l0, if_neg (by omega)]) (Ev.now _)
  | succ m ih =>
    intro i hi
    have hlt : i < l.length := by omega
    have next := ih (i + 1) (by omega)
    have e : wrap64 ((i : Int) + 1) = ((i + 1 : Nat) : Int) := by rw [wrap_in (by omega) (by omega)]; omega
    have hs := raw_step (bestF l n) n l i hlt
    have hlen := raw_len (bestF l n) n (l.take i)
    have hfl := foldP_len (staleRaw (bestF l n) n (l.take i))
    have htl : (l.take i).length ≤ i := by simp; omega
    refine Ev.step (fun k => by rw [strakeref18_Stale.l0]) ?_
    refine evp (by omega) (evp (by omega) ?_)
    rw [rcnt_is, e]
    simp only [Option.bind_some]
    have hxm : rd_T27 l (i : Int) ∈ l := by rw [rd27_get hlt]; exact List.getElem_mem hlt
    generalize rd_T27 l (i : Int) = x at hs hxm ⊢
    by_cases c : fcnt x n = true
    · rw [if_pos c] at hs
      obtain ⟨a, ha, hev, hf⟩ := rbest_is h1 h2 hl hxm c
      refine evp c (Ev.bind hev (evp (by omega) (evp (by omega) ?_)))
      rw [rnew_is, hf]
      simp only [Option.bind_some]
      by_cases c2 : fnew ((bestF l n x.f1.f1).getD z27) x = true
      · rw [if_pos c2] at hs
        rw [hs, foldP_snoc] at next
        exact evp c2 (Ev.bind (put_is _ x.f0 (by omega) (foldP_spec _).1) next)
      · rw [if_neg c2, List.append_nil] at hs
        rw [hs] at next
        exact evn c2 next
    · rw [if_neg c, List.append_nil] at hs
      rw [hs] at next
      exact evn c next
theorem ReplayStale : strakelaw18_ReplayStale.Pure := by
  intro l n hl hw hn
  refine Ev.rounds (g := fun k => strakelaw18_ReplayStale.f k l n) ?_
  unfold strakelaw18_ReplayStale.f
  rw [awake18_is]
  simp only [Option.bind_some]
  by_cases c : (l.length : Int) > 60
  · exact evp c (Ev.now _)
  refine evn c ?_
  have no : ¬ (1 ≤ n ∧ n ≤ 4096) → Ev (fun k => strakeref18_Stale.j0 k l n true) [] := fun _ => Ev.step (f := fun _ => some []) (fun k => by rw [strakeref18_Stale.j0, if_pos rfl]) (Ev.now _)
  by_cases h : 1 ≤ n ∧ n ≤ 4096
  · rw [stale_yes h.1 h.2 (by omega)]
    simp only [Option.bind_some]
    have hr : Ev (fun k => strakeref18_Stale.f k l n) (foldP (staleRaw (bestF l n) n l)) := by
      unfold strakeref18_Stale.f
      refine evn (by omega) ?_
      rw [decide_eq_false (by omega)]
      refine Ev.step (fun k => by rw [strakeref18_Stale.j0, if_neg (by decide)]) ?_
      have := rstale_loop h.1 h.2 (l := l) (by omega) l.length 0 (by omega)
      simpa [staleRaw, foldP] using this
    refine Ev.bind hr ?_
    rw [stale_same]
    refine Ev.bind (sameI_is _ ?_) ?_
    · have q1 := Lib.compact_length_le ((staleRaw (bestF l n) n l).mergeSort fun x y => decide (x ≤ y))
      have q2 := raw_len (bestF l n) n l
      rw [List.length_mergeSort] at q1
      omega
    · first | exact Ev.now _ | exact evp (by first | rfl | trivial) (Ev.now _)
  · rw [stale_no h]
    simp only [Option.bind_some]
    have hr : Ev (fun k => strakeref18_Stale.f k l n) [] := by
      unfold strakeref18_Stale.f
      by_cases c1 : n < 1
      · exact evp c1 (no h)
      · refine evn c1 ?_
        rw [decide_eq_true (by omega)]
        exact no h
    refine Ev.bind hr (Ev.bind (sameI_is [] (by simp)) ?_)
    first | exact Ev.now _ | exact evp (by first | rfl | trivial) (Ev.now _)
end Go.Proofs.Ytlheknapgonakaa.Pure
