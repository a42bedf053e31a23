/- What Newest tells, found alone, tells the same again, and nothing of it is stale. No condition. -/
import Derived.Test.YtlheknapgonakaaX6
import Derived.Test.YtlheknapgonakaaX33
import Derived.Test.YtlheknapgonakaaX41
import Derived.Test.YtlheknapgonakaaX43
import Derived.Test.YtlheknapgonakaaStatReplayAgain
import Derived.Test.YtlheknapgonakaaReplay1
namespace Go.Proofs.Ytlheknapgonakaa.Pure
open Go Go.RowKit Go.Proofs.Ytlheknapgonakaa.X Go.Proofs.Ytlheknapgonakaa.Plain Go.Proofs.YtlheknapgonakaaW.PrintWords Go.Proofs.YtlheknapgonakaaW.PrintMore

/-- what an entry is, found -/
def oneOf (i : Nat) (o : Option S27) : List S27 := match o with
  | none => []
  | some s => [⟨s.f0, ⟨s.f1.f0, (i : Int), s.f1.f2⟩, ⟨none, 0, 0⟩⟩]
def alone (l : List S27) (n : Int) (i : Nat) : List S27 := (List.range i).flatMap fun j => oneOf j (bestF l n (j : Int))
theorem alone_succ (l : List S27) (n : Int) (i : Nat) : alone l n (i + 1) = alone l n i ++ oneOf i (bestF l n (i : Int)) := by
  unfold alone
  rw [List.range_succ, List.flatMap_append]
  simp
theorem alone_len (l : List S27) (n : Int) (i : Nat) : (alone l n i).length ≤ i := by
  induction i with
  | zero => simp [alone]
  | succ i ih =>
    rw [alone_succ, List.length_append]
    have : (oneOf i (bestF l n (i : Int))).length ≤ 1 := by unfold oneOf; split <;> simp
    omega
theorem alone_mem {l : List S27} {n : Int} {i : Nat} {x : S27} : x ∈ alone l n i ↔ ∃ j, j < i ∧ ∃ s, bestF l n (j : Int) = some s ∧ x = ⟨s.f0, ⟨s.f1.f0, (j : Int), s.f1.f2⟩, ⟨none, 0, 0⟩⟩ := by
  unfold alone
  simp only [List.mem_flatMap, List.mem_range]
  constructor
  · rintro ⟨j, hj, hx⟩
    cases hb : bestF l n (j : Int) with
    | none => rw [hb] at hx; simp [oneOf] at hx
    | some s => rw [hb] at hx; exact ⟨j, hj, s, hb, by simpa [oneOf] using hx⟩
  · rintro ⟨j, hj, s, hb, rfl⟩
    exact ⟨j, hj, by rw [hb]; simp [oneOf]⟩
theorem alone_best {l : List S27} {n : Int} (h1 : 1 ≤ n) (h2 : n ≤ 4096) (j : Nat) (hj : j < n.toNat) :
    (∀ s, bestF l n (j : Int) = some s → bestF (alone l n n.toNat) n (j : Int) = some ⟨s.f0, ⟨s.f1.f0, (j : Int), s.f1.f2⟩, ⟨none, 0, 0⟩⟩) ∧ (bestF l n (j : Int) = none → bestF (alone l n n.toNat) n (j : Int) = none) := by
  have hb := best_is h1 h2 (alone l n n.toNat) (j : Int)
  refine ⟨fun s hs => ?_, fun hn => ?_⟩
  · have hx : (⟨s.f0, ⟨s.f1.f0, (j : Int), s.f1.f2⟩, ⟨none, 0, 0⟩⟩ : S27) ∈ alone l n n.toNat := alone_mem.2 ⟨j, hj, s, hs, rfl⟩
    obtain ⟨p1, p2⟩ := best_prop hs
    rw [fcnt_iff] at p1
    cases ho : bestF (alone l n n.toNat) n (j : Int) with
    | none =>
      rw [ho] at hb
      exact absurd rfl (hb _ hx ((fcnt_iff _ _).2 (by dsimp only; omega)))
    | some t =>
      rw [ho] at hb
      obtain ⟨b1, b2, b3, _⟩ := hb
      obtain ⟨k, hk, s', hs', rfl⟩ := alone_mem.1 b1
      have e : k = j := by have : (k : Int) = (j : Int) := b3; omega
      subst e
      rw [hs] at hs'
      cases hs'
      rfl
  · cases ho : bestF (alone l n n.toNat) n (j : Int) with
    | none => rfl
    | some t =>
      rw [ho] at hb
      obtain ⟨b1, b2, b3, _⟩ := hb
      obtain ⟨k, hk, s', hs', rfl⟩ := alone_mem.1 b1
      have e : k = j := by have : (k : Int) = (j : Int) := b3; omega
      subst e
      rw [hn] at hs'
      cases hs'
theorem alone_entries {l : List S27} {n : Int} (h1 : 1 ≤ n) (h2 : n ≤ 4096) (j : Nat) (hj : j < n.toNat) : entryOf (bestF (alone l n n.toNat) n (j : Int)) = entryOf (bestF l n (j : Int)) ∧ stampOf (bestF (alone l n n.toNat) n (j : Int)) = stampOf (bestF l n (j : Int)) := by
  obtain ⟨p, q⟩ := alone_best h1 h2 (l := l) j hj
  cases hb : bestF l n (j : Int) with
  | none => rw [q hb]; exact ⟨rfl, rfl⟩
  | some s => rw [p s hb]; exact ⟨rfl, rfl⟩
theorem foldl_congr {α β : Type} (f g : β → α → β) (l : List α) (h : ∀ b, ∀ a ∈ l, f b a = g b a) : ∀ b, l.foldl f b = l.foldl g b := by
  induction l with
  | nil => intro b; rfl
  | cons a l ih => intro b; simp only [List.foldl_cons]; rw [h b a (by simp), ih (fun b a ha => h b a (by simp [ha]))]
theorem alone_newest {l : List S27} {n : Int} (h1 : 1 ≤ n) (h2 : n ≤ 4096) : newestL (alone l n n.toNat) n = newestL l n ∧ mostL (alone l n n.toNat) n = mostL l n := by
  constructor
  · unfold newestL
    exact List.map_congr_left fun j hj => (alone_entries h1 h2 j (List.mem_range.1 hj)).1
  · unfold mostL
    exact foldl_congr _ _ _ (fun b j hj => by rw [(alone_entries h1 h2 j (List.mem_range.1 hj)).2]) 0
theorem raw_nil (g : Int → Option S27) (n : Int) (l : List S27) (h : ∀ x ∈ l, fcnt x n = true → fnew ((g x.f1.f1).getD z27) x = false) : staleRaw g n l = [] := by
  induction l with
  | nil => rfl
  | cons x l ih =>
    simp only [staleRaw]
    rw [ih (fun y hy => h y (by simp [hy]))]
    by_cases c : fcnt x n = true
    · rw [if_pos c, if_neg (by rw [h x (by simp) c]; decide)]; rfl
    · rw [if_neg c]; rfl
theorem alone_stale {l : List S27} {n : Int} (h1 : 1 ≤ n) (h2 : n ≤ 4096) : staleRaw (bestF (alone l n n.toNat) n) n (alone l n n.toNat) = [] := by
  refine raw_nil _ _ _ (fun x hx _ => ?_)
  obtain ⟨j, hj, s, hs, rfl⟩ := alone_mem.1 hx
  have := (alone_best h1 h2 (l := l) j hj).1 s hs
  dsimp only
  rw [this]
  rw [fnew_no]
  simp
theorem again_end {l : List S27} {n : Int} (h1 : 1 ≤ n) (h2 : n ≤ 4096) : Ev (fun k => (replay_Newest.f (alone l n n.toNat) n).bind fun b => ((strakeref18_SameEntries.f k (newestL l n) b.1).bind fun t => (if true = true then (if t = true then (if b.2 = mostL l n then ((replay_Stale.f (alone l n n.toNat) n).bind fun q => (some ((q.length : Int) == 0))) else (some false)) else (some false)) else (some false)))) true := by
  have hl := alone_len l n n.toNat
  rw [newest_yes h1 h2]
  simp only [Option.bind_some]
  obtain ⟨e1, e2⟩ := alone_newest h1 h2 (l := l)
  rw [e1, e2]
  refine Ev.bind (sameE_is _ (by rw [newest_len]; omega)) (evp (by first | rfl | trivial) (evp (by first | rfl | trivial) (evp (by first | rfl | trivial) ?_)))
  rw [stale_yes h1 h2 (by omega), alone_stale h1 h2]
  simp only [Option.bind_some, List.mergeSort_nil, compact_nil]
  exact Ev.now _
theorem again_loop {l : List S27} {n : Int} (h1 : 1 ≤ n) (h2 : n ≤ 4096) : ∀ (m i : Nat), m + i = n.toNat →
    Ev (fun k => strakelaw18_ReplayAgain.l0 k n true (newestL l n) (mostL l n) (alone l n i) (i : Int)) true := by
  have hln := newest_len l n
  intro m
  induction m with
  | zero =>
    intro i hm
    have e : i = n.toNat := by omega
    subst e
    refine Ev.step (fun k => by rw [strakelaw18_ReplayAgain.l0, if_neg (by omega)]) ?_
    exact again_end h1 h2
  | succ m ih =>
    intro i hm
    have hi : i < n.toNat := by omega
    have next := ih (i + 1) (by omega)
    have e : wrap64 ((i : Int) + 1) = ((i + 1 : Nat) : Int) := by rw [wrap_in (by omega) (by omega)]; omega
    have hal := alone_len l n i
    rw [alone_succ] at next
    refine Ev.step (fun k => by rw [strakelaw18_ReplayAgain.l0]) ?_
    refine evp (by omega) (evp (by omega) ?_)
    rw [newest_at l n hi, e]
    cases hb : bestF l n (i : Int) with
    | none =>
      rw [hb] at next
      refine evn (by simp [entryOf]) ?_
      simpa [oneOf] using next
    | some s =>
      rw [hb] at next
      have p := (best_prop hb).1
      rw [fcnt_iff] at p
      refine evp (by simp only [entryOf]; omega) (evp (by omega) ?_)
      simpa [oneOf, entryOf] using next
theorem ReplayAgain : strakelaw18_ReplayAgain.Pure := by
  intro l n hl hw hn
  refine Ev.rounds (g := fun k => strakelaw18_ReplayAgain.f k l n) ?_
  unfold strakelaw18_ReplayAgain.f
  rw [awake18_is]
  simp only [Option.bind_some]
  by_cases c : (l.length : Int) > 200
  · exact evp c (Ev.now _)
  refine evn c ?_
  by_cases h : 1 ≤ n ∧ n ≤ 4096
  · rw [newest_yes h.1 h.2]
    simp only [Option.bind_some]
    have := again_loop h.1 h.2 (l := l) n.toNat 0 (by omega)
    simpa [alone] using this
  · rw [newest_no h]
    simp only [Option.bind_some]
    refine Ev.step (fun k => by rw [strakelaw18_ReplayAgain.l0, if_neg (by simp)]) ?_
    rw [newest_no h]
    simp only [Option.bind_some]
    refine Ev.bind (sameE_is [] (by simp)) (evp (by first | rfl | trivial) (evp (by first | rfl | trivial) (evp (by first | rfl | trivial) ?_)))
    rw [stale_no h]
    exact Ev.now _
end Go.Proofs.Ytlheknapgonakaa.Pure
