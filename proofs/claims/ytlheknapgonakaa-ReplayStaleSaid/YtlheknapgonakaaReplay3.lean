/- slices.Compact behind slices.Sort: rising, of the same numbers; a number put into a rising list. -/
import Derived.Test.YtlheknapgonakaaReplay2
import Derived.Test.YtlheknapgonakaaX34
namespace Go.Proofs.Ytlheknapgonakaa.Plain
open Go Go.RowKit Go.Proofs.Ytlheknapgonakaa.X Go.Proofs.YtlheknapgonakaaW.PrintWords Go.Proofs.YtlheknapgonakaaW.PrintMore

theorem upTo_spec (d : Array Int) (hs : ∀ i j : Nat, i ≤ j → j < d.size → d[i]! ≤ d[j]!) : ∀ m, m ≤ d.size → (Lib.compactUpTo d m).Pairwise (fun a b => a < b) ∧ ∀ a, a ∈ Lib.compactUpTo d m ↔ ∃ j, j < m ∧ d[j]! = a := by
  intro m
  induction m with
  | zero => intro _; exact ⟨by simp [Lib.compactUpTo], fun a => by simp [Lib.compactUpTo]⟩
  | succ m ih =>
    intro hm
    obtain ⟨p, q⟩ := ih (by omega)
    rw [Lib.compactUpTo_succ]
    by_cases c : Lib.keeps d m = true
    · rw [if_pos c]
      unfold Lib.keeps at c
      rw [decide_eq_true_iff] at c
      refine ⟨List.pairwise_append.2 ⟨p, List.pairwise_singleton _ _, fun a ha b hb => ?_⟩, fun a => ?_⟩
      · rw [List.mem_singleton] at hb
        subst hb
        obtain ⟨j, hj, rfl⟩ := (q a).1 ha
        have h1 := hs j (m - 1) (by omega) (by omega)
        have h2 := hs (m - 1) m (by omega) (by omega)
        rcases c with c | c
        · omega
        · have : d[m - 1]! ≠ d[m]! := fun e => c e.symm
          omega
      · rw [List.mem_append, q a, List.mem_singleton]
        constructor
        · rintro (⟨j, hj, e⟩ | e)
          · exact ⟨j, by omega, e⟩
          · exact ⟨m, by omega, e.symm⟩
        · rintro ⟨j, hj, e⟩
          by_cases e2 : j = m
          · subst e2; exact Or.inr e.symm
          · exact Or.inl ⟨j, by omega, e⟩
    · rw [if_neg c, List.append_nil]
      unfold Lib.keeps at c
      rw [decide_eq_true_iff] at c
      refine ⟨p, fun a => ?_⟩
      rw [q a]
      constructor
      · rintro ⟨j, hj, e⟩; exact ⟨j, by omega, e⟩
      · rintro ⟨j, hj, e⟩
        by_cases e2 : j = m
        · subst e2
          refine ⟨j - 1, by omega, ?_⟩
          have : d[j]! = d[j - 1]! := by
            by_cases e3 : d[j]! = d[j - 1]!
            · exact e3
            · exact absurd (Or.inr e3) c
          rw [← this]; exact e
        · exact ⟨j, by omega, e⟩
theorem sorted_spec (zs : List Int) (h : zs.Pairwise fun a b => a ≤ b) : (Lib.compact zs).Pairwise (fun a b => a < b) ∧ ∀ a, a ∈ Lib.compact zs ↔ a ∈ zs := by
  have hs : ∀ i j : Nat, i ≤ j → j < zs.toArray.size → zs.toArray[i]! ≤ zs.toArray[j]! := by
    intro i j hij hj
    have hj' : j < zs.length := by simpa using hj
    rw [getElem!_pos _ i (by simp; omega), getElem!_pos _ j hj]
    simp only [List.getElem_toArray]
    by_cases e : i = j
    · subst e; exact Int.le_refl _
    · exact List.pairwise_iff_getElem.1 h i j (by omega) hj' (by omega)
  obtain ⟨p, q⟩ := upTo_spec zs.toArray hs zs.length (by simp)
  refine ⟨p, fun a => (q a).trans ?_⟩
  constructor
  · rintro ⟨j, hj, rfl⟩
    rw [getElem!_pos _ j (by simpa using hj)]
    simp only [List.getElem_toArray]
    exact List.getElem_mem hj
  · intro ha
    obtain ⟨j, hj, rfl⟩ := List.getElem_of_mem ha
    exact ⟨j, hj, by rw [getElem!_pos _ j (by simpa using hj)]; simp⟩
theorem rising_one {l m : List Int} (hl : l.Pairwise fun a b => a < b) (hm : m.Pairwise fun a b => a < b) (h : ∀ a, a ∈ l ↔ a ∈ m) : l = m := by
  have nl : l.Nodup := List.nodup_iff_pairwise_ne.2 (hl.imp fun h => by omega)
  have nm : m.Nodup := List.nodup_iff_pairwise_ne.2 (hm.imp fun h => by omega)
  exact List.Perm.eq_of_pairwise (le := fun a b : Int => a < b) (fun a b _ _ h1 h2 => by omega) hl hm ((List.perm_ext_iff_of_nodup nl nm).2 h)
/-- a number put into a rising list -/
def ins (a : Int) (l : List Int) : List Int := (l.filter fun x => decide (x < a)) ++ [a] ++ (l.filter fun x => decide (a < x))
theorem ins_mem (a b : Int) (l : List Int) : b ∈ ins a l ↔ b = a ∨ b ∈ l := by
  unfold ins
  simp only [List.mem_append, List.mem_filter, List.mem_singleton, decide_eq_true_eq]
  constructor
  · rintro ((⟨h, _⟩ | h) | ⟨h, _⟩)
    · exact Or.inr h
    · exact Or.inl h
    · exact Or.inr h
  · rintro (h | h)
    · exact Or.inl (Or.inr h)
    · by_cases c : b < a
      · exact Or.inl (Or.inl ⟨h, c⟩)
      · by_cases c2 : a < b
        · exact Or.inr ⟨h, c2⟩
        · exact Or.inl (Or.inr (by omega))
theorem ins_rising {a : Int} {l : List Int} (h : l.Pairwise fun x y => x < y) : (ins a l).Pairwise fun x y => x < y := by
  unfold ins
  rw [List.pairwise_append, List.pairwise_append]
  refine ⟨⟨h.sublist List.filter_sublist, List.pairwise_singleton _ _, fun x hx y hy => ?_⟩, h.sublist List.filter_sublist, fun x hx y hy => ?_⟩
  · rw [List.mem_filter, decide_eq_true_eq] at hx
    rw [List.mem_singleton] at hy
    omega
  · rw [List.mem_filter, decide_eq_true_eq] at hy
    rw [List.mem_append, List.mem_filter, decide_eq_true_eq, List.mem_singleton] at hx
    omega
theorem ins_low {a x : Int} {l : List Int} (h : x < a) : ins a (x :: l) = x :: ins a l := by
  unfold ins
  simp [h, show ¬ a < x by omega]
theorem ins_high {a x : Int} {l : List Int} (h : ¬ x < a) (hr : (x :: l).Pairwise fun x y => x < y) : ins a (x :: l) = a :: ((x :: l).filter fun y => decide (y ≠ a)) := by
  have hall : ∀ y ∈ x :: l, a ≤ y := by
    intro y hy
    rcases List.mem_cons.1 hy with rfl | hy
    · omega
    · have := (List.pairwise_cons.1 hr).1 y hy; omega
  unfold ins
  have e1 : ((x :: l).filter fun y => decide (y < a)) = [] := List.filter_eq_nil_iff.2 (fun y hy => by have := hall y hy; simp; omega)
  have e2 : ((x :: l).filter fun y => decide (a < y)) = (x :: l).filter fun y => decide (y ≠ a) := List.filter_congr (fun y hy => by have := hall y hy; rw [decide_eq_decide]; omega)
  rw [e1, e2]
  rfl
theorem put_done (l : List Int) (a : Int) (hl : l.length ≤ 100000) : ∀ (m i : Nat) (out : List Int), m + i = l.length → out.length ≤ 200000 + i →
    Ev (fun k => strakeref18_put.l0 k l a out true (i : Int)) (out ++ (l.drop i).filter fun y => decide (y ≠ a)) := by
  intro m
  induction m with
  | zero =>
    intro i out hm ho
    rw [List.drop_eq_nil_of_le (by omega)]
    refine Ev.step (fun k => by rw [strakeref18_put.l0, if_neg (by omega)]) ?_
    simp only [if_true, List.filter_nil, List.append_nil]
    exact Ev.now _
  | succ m ih =>
    intro i out hm ho
    have hi : i < l.length := by omega
    have e : wrap64 ((i : Int) + 1) = ((i + 1 : Nat) : Int) := by rw [wrap_in (by omega) (by omega)]; omega
    have er : rd l (i : Int) = l[i] := rd_get hi
    rw [List.drop_eq_getElem_cons hi, List.filter_cons]
    refine Ev.step (fun k => by rw [strakeref18_put.l0, if_pos (by omega)]) ?_
    refine evp rfl ?_
    refine Ev.step (fun k => by rw [strakeref18_put.j1, if_neg (by decide)]) ?_
    rw [er, e]
    refine evp (by omega) (evp (by omega) ?_)
    by_cases c : l[i] = a
    · refine evp c ?_
      rw [if_neg (by simp [c])]
      exact ih (i + 1) out (by omega) (by omega)
    · refine evn c (evp (by omega) ?_)
      rw [if_pos (by simp [c])]
      have := ih (i + 1) (out ++ [l[i]]) (by omega) (by simp; omega)
      simpa using this
theorem put_loop (l : List Int) (a : Int) (hl : l.length ≤ 100000) (hr : l.Pairwise fun x y => x < y) : ∀ (m i : Nat), m + i = l.length → (∀ j (h : j < l.length), j < i → l[j] < a) →
    Ev (fun k => strakeref18_put.l0 k l a (l.take i) false (i : Int)) (l.take i ++ ins a (l.drop i)) := by
  intro m
  induction m with
  | zero =>
    intro i hm hlow
    rw [List.drop_eq_nil_of_le (by omega)]
    refine Ev.step (fun k => by rw [strakeref18_put.l0, if_neg (by omega)]) ?_
    refine evn (by decide) (evp (by simp; omega) ?_)
    exact Ev.now _
  | succ m ih =>
    intro i hm hlow
    have hi : i < l.length := by omega
    have e : wrap64 ((i : Int) + 1) = ((i + 1 : Nat) : Int) := by rw [wrap_in (by omega) (by omega)]; omega
    have er : rd l (i : Int) = l[i] := rd_get hi
    have hd : l.drop i = l[i] :: l.drop (i + 1) := List.drop_eq_getElem_cons hi
    have hrd : (l[i] :: l.drop (i + 1)).Pairwise fun x y => x < y := by rw [← hd]; exact hr.sublist (List.drop_sublist _ _)
    refine Ev.step (fun k => by rw [strakeref18_put.l0, if_pos (by omega)]) ?_
    refine evn (by decide) (evp (by omega) ?_)
    rw [er]
    by_cases c : l[i] < a
    · rw [decide_eq_false (by omega)]
      refine Ev.step (fun k => by rw [strakeref18_put.j1, if_neg (by decide)]) ?_
      rw [er, e]
      refine evp (by omega) (evp (by omega) (evn (by omega) (evp (by simp; omega) ?_)))
      have next := ih (i + 1) (by omega) (fun j h hj => by
        by_cases e2 : j = i
        · subst e2; exact c
        · exact hlow j h (by omega))
      rw [hd, ins_low c]
      rw [List.take_succ_eq_append_getElem hi, List.append_assoc] at next
      exact next
    · rw [decide_eq_true (show l[i] ≥ a by omega)]
      refine Ev.step (fun k => by rw [strakeref18_put.j1, if_pos rfl]) ?_
      rw [er, e]
      refine evp (by simp; omega) ?_
      simp only [Option.bind_some]
      refine evp (by omega) (evp (by omega) ?_)
      rw [hd, ins_high c hrd, List.filter_cons]
      by_cases c2 : l[i] = a
      · refine evp c2 ?_
        rw [if_neg (by simp [c2])]
        have := put_done l a hl m (i + 1) (l.take i ++ [a]) (by omega) (by simp; omega)
        simpa using this
      · refine evn c2 (evp (by simp; omega) ?_)
        rw [if_pos (by simp [c2])]
        have := put_done l a hl m (i + 1) (l.take i ++ [a] ++ [l[i]]) (by omega) (by simp; omega)
        simpa using this
theorem put_is (l : List Int) (a : Int) (hl : l.length ≤ 100000) (hr : l.Pairwise fun x y => x < y) : Ev (fun k => strakeref18_put.f k l a) (ins a l) := by
  unfold strakeref18_put.f
  have := put_loop l a hl hr l.length 0 (by omega) (fun j _ hj => by omega)
  simpa using this
end Go.Proofs.Ytlheknapgonakaa.Plain
