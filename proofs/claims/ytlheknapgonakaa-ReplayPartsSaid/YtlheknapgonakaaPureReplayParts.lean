/- Each that counts is an entry's, or stale. No condition. -/
import Derived.Test.YtlheknapgonakaaX44
import Derived.Test.YtlheknapgonakaaStatReplayParts
import Derived.Test.YtlheknapgonakaaReplay2
namespace Go.Proofs.Ytlheknapgonakaa.Pure
open Go Go.RowKit Go.Proofs.Ytlheknapgonakaa.X Go.Proofs.Ytlheknapgonakaa.Plain Go.Proofs.YtlheknapgonakaaW.PrintWords Go.Proofs.YtlheknapgonakaaW.PrintMore

def olds (g : Int → Option S27) (n : Int) (l : List S27) : List S27 := l.filter fun x => fcnt x n && fnew ((g x.f1.f1).getD z27) x
def news (g : Int → Option S27) (n : Int) (l : List S27) : List S27 := l.filter fun x => fcnt x n && !fnew ((g x.f1.f1).getD z27) x
theorem raw_olds (g : Int → Option S27) (n : Int) (l : List S27) : staleRaw g n l = (olds g n l).map fun x => x.f0 := by
  induction l with
  | nil => rfl
  | cons x l ih =>
    unfold olds at ih ⊢
    simp only [staleRaw, ih, List.filter_cons]
    cases h1 : fcnt x n <;> cases h2 : fnew ((g x.f1.f1).getD z27) x <;> simp
theorem parts_len (g : Int → Option S27) (n : Int) (l : List S27) : (olds g n l).length + (news g n l).length = (l.filter fun x => fcnt x n).length := by
  induction l with
  | nil => rfl
  | cons x l ih =>
    unfold olds news at ih ⊢
    simp only [List.filter_cons]
    cases h1 : fcnt x n <;> cases h2 : fnew ((g x.f1.f1).getD z27) x <;> simp <;> omega
theorem apart_pair {l : List S27} (h : Apart l l.length) : l.Pairwise fun x y => x.f0 ≠ y.f0 := by
  rw [List.pairwise_iff_getElem]
  intro i j hi hj hij e
  exact h j i hij hj (by rw [rd27_get hi, rd27_get hj]; exact e.symm)
theorem counts_best {l : List S27} {n : Int} (h1 : 1 ≤ n) (h2 : n ≤ 4096) {x : S27} (hx : x ∈ l) (hc : fcnt x n = true) : ∃ s, bestF l n x.f1.f1 = some s ∧ s ∈ l ∧ fcnt s n = true ∧ s.f1.f1 = x.f1.f1 ∧ fnew x s = false := by
  have hb := best_is h1 h2 l x.f1.f1
  cases ho : bestF l n x.f1.f1 with
  | none => rw [ho] at hb; exact absurd rfl (hb x hx hc)
  | some s => rw [ho] at hb; exact ⟨s, rfl, hb.1, hb.2.1, hb.2.2.1, hb.2.2.2 x hx hc rfl⟩
theorem news_is {l : List S27} {n : Int} (h1 : 1 ≤ n) (h2 : n ≤ 4096) (ha : Apart l l.length) {x : S27} (hx : x ∈ news (bestF l n) n l) : x ∈ l ∧ fcnt x n = true ∧ bestF l n x.f1.f1 = some x := by
  unfold news at hx
  rw [List.mem_filter, Bool.and_eq_true] at hx
  obtain ⟨hm, hc, hn⟩ := hx
  obtain ⟨s, hs, s1, s2, s3, s4⟩ := counts_best h1 h2 hm hc
  rw [hs] at hn
  simp only [Option.getD_some, Bool.not_eq_true'] at hn
  rw [fnew_no] at hn s4
  have : s = x := apart_eq ha s1 hm (by omega)
  rw [this] at hs
  exact ⟨hm, hc, hs⟩
/-- how many sectors below i have one -/
def haveN (g : Int → Option S27) (i : Nat) : List Nat := (List.range i).filter fun (j : Nat) => (g (j : Int)).isSome
theorem news_len {l : List S27} {n : Int} (h1 : 1 ≤ n) (h2 : n ≤ 4096) (ha : Apart l l.length) : (news (bestF l n) n l).length = (haveN (bestF l n) n.toNat).length := by
  have p : ((news (bestF l n) n l).map fun x => x.f1.f1.toNat).Perm (haveN (bestF l n) n.toNat) := by
    rw [List.perm_ext_iff_of_nodup]
    · intro j
      unfold haveN
      rw [List.mem_map, List.mem_filter, List.mem_range]
      constructor
      · rintro ⟨x, hx, rfl⟩
        obtain ⟨m1, m2, m3⟩ := news_is h1 h2 ha hx
        rw [fcnt_iff] at m2
        have e : ((x.f1.f1.toNat : Nat) : Int) = x.f1.f1 := by omega
        exact ⟨by omega, by rw [e, m3]; rfl⟩
      · rintro ⟨hj, hs⟩
        obtain ⟨s, hs⟩ := Option.isSome_iff_exists.1 hs
        have hb := best_is h1 h2 l (j : Int)
        rw [hs] at hb
        obtain ⟨b1, b2, b3, b4⟩ := hb
        refine ⟨s, ?_, by rw [b3]; rfl⟩
        unfold news
        rw [List.mem_filter, Bool.and_eq_true]
        refine ⟨b1, b2, ?_⟩
        rw [b3, hs]
        simp only [Option.getD_some, Bool.not_eq_true']
        rw [fnew_no]
        omega
    · rw [List.nodup_iff_pairwise_ne, List.pairwise_map]
      have hp : (news (bestF l n) n l).Pairwise fun x y => x.f0 ≠ y.f0 := (apart_pair ha).sublist List.filter_sublist
      refine hp.imp_of_mem (fun {x y} hx hy hne e => ?_)
      obtain ⟨x1, x2, x3⟩ := news_is h1 h2 ha hx
      obtain ⟨y1, y2, y3⟩ := news_is h1 h2 ha hy
      rw [fcnt_iff] at x2 y2
      have e2 : x.f1.f1 = y.f1.f1 := by omega
      rw [e2, y3] at x3
      cases x3
      exact hne rfl
    · unfold haveN
      exact List.nodup_range.sublist List.filter_sublist
  have := p.length_eq
  rwa [List.length_map] at this
theorem stale_perm {l : List S27} {n : Int} (ha : Apart l l.length) : Lib.compact ((staleRaw (bestF l n) n l).mergeSort fun x y => decide (x ≤ y)) = (staleRaw (bestF l n) n l).mergeSort fun x y => decide (x ≤ y) := by
  refine Lib.compact_all _ (fun j hj => ?_)
  unfold Lib.keeps
  rw [decide_eq_true_iff]
  by_cases c : j = 0
  · exact Or.inl c
  right
  have nd : ((staleRaw (bestF l n) n l).mergeSort fun x y => decide (x ≤ y)).Nodup := by
    rw [(List.mergeSort_perm _ _).nodup_iff, raw_olds, List.nodup_iff_pairwise_ne, List.pairwise_map]
    exact (apart_pair ha).sublist List.filter_sublist
  rw [List.nodup_iff_pairwise_ne, List.pairwise_iff_getElem] at nd
  have := nd (j - 1) j (by omega) hj (by omega)
  intro e
  apply this
  have g1 : (((staleRaw (bestF l n) n l).mergeSort fun x y => decide (x ≤ y)).toArray)[j]! = ((staleRaw (bestF l n) n l).mergeSort fun x y => decide (x ≤ y))[j] := by
    rw [getElem!_pos _ j (by simpa using hj)]; simp
  have g2 : (((staleRaw (bestF l n) n l).mergeSort fun x y => decide (x ≤ y)).toArray)[j - 1]! = ((staleRaw (bestF l n) n l).mergeSort fun x y => decide (x ≤ y))[j - 1]'(by omega) := by
    rw [getElem!_pos _ (j - 1) (by have := hj; simp at this ⊢; omega)]; simp
  rw [g1, g2] at e
  exact e.symm
theorem is_was {l : List S27} {n : Int} (h1 : 1 ≤ n) (h2 : n ≤ 4096) (ha : Apart l l.length) {x : S27} (hx : x ∈ l) (hc : fcnt x n = true) :
    ((entryOf (bestF l n x.f1.f1)).f0 == x.f0) = !decide (x.f0 ∈ (staleRaw (bestF l n) n l).mergeSort fun x y => decide (x ≤ y)) := by
  obtain ⟨s, hs, s1, s2, s3, s4⟩ := counts_best h1 h2 hx hc
  rw [hs]
  have hm : x.f0 ∈ ((staleRaw (bestF l n) n l).mergeSort fun x y => decide (x ≤ y)) ↔ fnew s x = true := by
    rw [(List.mergeSort_perm _ _).mem_iff, raw_olds, List.mem_map]
    constructor
    · rintro ⟨y, hy, e⟩
      unfold olds at hy
      rw [List.mem_filter, Bool.and_eq_true] at hy
      have : y = x := apart_eq ha hy.1 hx e
      subst this
      have := hy.2.2
      rw [hs] at this
      exact this
    · intro hf
      refine ⟨x, ?_, rfl⟩
      unfold olds
      rw [List.mem_filter, Bool.and_eq_true, hs]
      exact ⟨hx, hc, hf⟩
  by_cases e : s.f0 = x.f0
  · have : s = x := apart_eq ha s1 hx e
    subst this
    have hno : ¬ (s.f0 ∈ ((staleRaw (bestF l n) n l).mergeSort fun x y => decide (x ≤ y))) := by rw [hm, fnew_iff]; omega
    rw [decide_eq_false hno]
    simp [entryOf]
  · have hyes : x.f0 ∈ ((staleRaw (bestF l n) n l).mergeSort fun x y => decide (x ≤ y)) := by
      rw [hm, fnew_iff]; rw [fnew_no] at s4; omega
    rw [decide_eq_true hyes]
    simp [entryOf, e]

theorem l2_loop (l : List S27) (A : List S33) (st : List Int) (hst : st.length ≤ 1000) (many : Int) (i : Nat) (is : Bool) (x0 x1 x2 x3 : Int) (x4 : OSl) (hne : (is == decide (x0 ∈ st)) = false)
    (next : Ev (fun k => strakelaw18_ReplayParts.l1 k l true A st many (wrap64 ((i : Int) + 1))) true) : ∀ (m j : Nat) (was : Bool), m + j = st.length → was = decide (x0 ∈ st.take j) →
    Ev (fun k => strakelaw18_ReplayParts.l2 k l true A st many (i : Int) is was (j : Int) x0 x1 x2 x3 x4) true := by
  intro m
  induction m with
  | zero =>
    intro j was hj hw
    rw [List.take_of_length_le (by omega)] at hw
    subst hw
    refine Ev.step (fun k => by rw [strakelaw18_ReplayParts.l2, if_neg (by omega)]) ?_
    exact evn (by rw [hne]; decide) next
  | succ m ih =>
    intro j was hj hw
    have hlt : j < st.length := by omega
    have e : wrap64 ((j : Int) + 1) = ((j + 1 : Nat) : Int) := by rw [wrap_in (by omega) (by omega)]; omega
    refine Ev.step (fun k => by rw [strakelaw18_ReplayParts.l2]) ?_
    rw [e]
    refine evp (by omega) ?_
    have tk : st.take (j + 1) = st.take j ++ [st[j]] := List.take_succ_eq_append_getElem hlt
    by_cases c : was = true
    · refine evp c (ih (j + 1) true (by omega) ?_)
      rw [c] at hw
      have := of_decide_eq_true hw.symm
      rw [tk]
      exact (decide_eq_true (List.mem_append_left _ this)).symm
    · refine evn c (evp (by omega) (ih (j + 1) _ (by omega) ?_))
      have c2 : was = false := by simpa using c
      rw [c2] at hw
      have := of_decide_eq_false hw.symm
      rw [tk]
      have e3 : rd st (j : Int) = st[j] := rd_get hlt
      rw [e3]
      rw [Bool.eq_iff_iff, beq_iff_eq, decide_eq_true_iff, List.mem_append, List.mem_singleton]
      constructor
      · intro h; exact Or.inr h.symm
      · rintro (h | h)
        · exact absurd h this
        · exact h.symm
/-- how many of the first i count -/
def cntN (l : List S27) (N : Int) (i : Nat) : Nat := ((l.take i).filter fun x => fcnt x N).length
theorem cntN_step {l : List S27} {N : Int} {i : Nat} (h : i < l.length) : cntN l N (i + 1) = cntN l N i + (if fcnt l[i] N = true then 1 else 0) := by
  unfold cntN
  rw [List.take_succ_eq_append_getElem h, List.filter_append, List.length_append]
  congr 1
  simp only [List.filter_cons, List.filter_nil]
  split <;> rfl
theorem cntN_le (l : List S27) (N : Int) (i : Nat) : cntN l N i ≤ i := by
  unfold cntN
  exact Nat.le_trans (List.length_filter_le _ _) (by simp; omega)
theorem l1_loop (l : List S27) (A : List S33) (st : List Int) (hl : l.length ≤ 200) (hst : st.length ≤ 1000) (K : Nat) (hK : K ≤ 4096) (hend : (K : Int) - (cntN l (A.length : Int) l.length : Int) + (st.length : Int) = 0)
    (hiw : ∀ x ∈ l, fcnt x (A.length : Int) = true → (((rd_T33 A x.f1.f1).f0 == x.f0) == decide (x.f0 ∈ st)) = false) : ∀ (m i : Nat), m + i = l.length →
    Ev (fun k => strakelaw18_ReplayParts.l1 k l true A st ((K : Int) - (cntN l (A.length : Int) i : Int)) (i : Int)) true := by
  intro m
  induction m with
  | zero =>
    intro i hi
    have e : i = l.length := by omega
    subst e
    have hc := cntN_le l (A.length : Int) l.length
    refine Ev.step (fun k => by rw [strakelaw18_ReplayParts.l1, if_neg (by omega)]) ?_
    refine evp rfl ?_
    rw [wrap_in (by omega) (by omega), hend]
    exact Ev.now _
  | succ m ih =>
    intro i hi
    have hlt : i < l.length := by omega
    have next := ih (i + 1) (by omega)
    have e : wrap64 ((i : Int) + 1) = ((i + 1 : Nat) : Int) := by rw [wrap_in (by omega) (by omega)]; omega
    have hc := cntN_le l (A.length : Int) i
    have hs := cntN_step (l := l) (N := (A.length : Int)) hlt
    rw [hs] at next
    refine Ev.step (fun k => by rw [strakelaw18_ReplayParts.l1]) ?_
    rw [rd27_get hlt]
    refine evp (by omega) (evp (by omega) ?_)
    generalize hx : l[i] = x at next ⊢
    have hxm : x ∈ l := by rw [← hx]; exact List.getElem_mem hlt
    by_cases cc : fcnt x (A.length : Int) = true
    · rw [if_pos cc] at next
      have c := (fcnt_iff _ _).1 cc
      refine evn (by omega) (evn (by omega) (evn (by omega) (evn (by omega) (evn (by omega) (evn (by omega) ?_)))))
      rw [decide_eq_false (show ¬ x.f0 < 0 by omega)]
      refine Ev.step (fun k => by rw [strakelaw18_ReplayParts.j2, if_neg (by decide)]) ?_
      refine evp (by omega) (evp (by omega) ?_)
      rw [wrap_in (by omega) (by omega)]
      refine l2_loop l A st hst _ i _ x.f0 x.f1.f0 x.f1.f1 x.f1.f2 x.f2 (hiw x hxm cc) ?_ st.length 0 false (by omega) (by simp)
      rw [e]
      have e4 : (K : Int) - (cntN l (A.length : Int) i : Int) - 1 = (K : Int) - ((cntN l (A.length : Int) i + 1 : Nat) : Int) := by omega
      rw [e4]
      exact next
    · rw [if_neg cc, Nat.add_zero] at next
      have c := fun h => cc ((fcnt_iff _ _).2 h)
      have skip : ∀ b, b = true → Ev (fun k => strakelaw18_ReplayParts.j2 k l true A st ((K : Int) - (cntN l (A.length : Int) i : Int)) (i : Int) b x.f0 x.f1.f0 x.f1.f1 x.f1.f2 x.f2) true := by
        intro b hb
        subst hb
        refine Ev.step (fun k => by rw [strakelaw18_ReplayParts.j2, if_pos rfl]) ?_
        rw [e]
        exact next
      by_cases a1 : x.f1.f0 < 1
      · exact evp a1 (skip _ rfl)
      refine evn a1 ?_
      by_cases a2 : x.f1.f0 > 2
      · exact evp a2 (skip _ rfl)
      refine evn a2 ?_
      by_cases a3 : x.f1.f1 < 0
      · exact evp a3 (skip _ rfl)
      refine evn a3 ?_
      by_cases a4 : x.f1.f1 ≥ (A.length : Int)
      · exact evp a4 (skip _ rfl)
      refine evn a4 ?_
      by_cases a5 : x.f1.f2 < 1
      · exact evp a5 (skip _ rfl)
      refine evn a5 ?_
      by_cases a6 : x.f1.f2 > 1125899906842624
      · exact evp a6 (skip _ rfl)
      refine evn a6 (skip _ ?_)
      refine decide_eq_true ?_
      by_cases a7 : x.f0 < 0
      · exact a7
      · exact absurd ⟨by omega, by omega, by omega, by omega, by omega, by omega⟩ c
theorem l0_loop (l : List S27) (g : Int → Option S27) (st : List Int) (A : List S33) (hA : A.length ≤ 4096) (hAt : ∀ i, i < A.length → ((rd_T33 A (i : Int)).f0 ≥ 0 ↔ (g (i : Int)).isSome = true))
    (fin : Ev (fun k => strakelaw18_ReplayParts.l1 k l true A st ((haveN g A.length).length : Int) 0) true) : ∀ (m i : Nat), m + i = A.length →
    Ev (fun k => strakelaw18_ReplayParts.l0 k l true A st ((haveN g i).length : Int) (i : Int)) true := by
  intro m
  induction m with
  | zero =>
    intro i hi
    have e : i = A.length := by omega
    subst e
    refine Ev.step (fun k => by rw [strakelaw18_ReplayParts.l0, if_neg (by omega)]) ?_
    exact fin
  | succ m ih =>
    intro i hi
    have next := ih (i + 1) (by omega)
    have e : wrap64 ((i : Int) + 1) = ((i + 1 : Nat) : Int) := by rw [wrap_in (by omega) (by omega)]; omega
    have hle : (haveN g i).length ≤ i := by unfold haveN; exact Nat.le_trans (List.length_filter_le _ _) (by simp)
    have hs : (haveN g (i + 1)).length = (haveN g i).length + (if (g (i : Int)).isSome = true then 1 else 0) := by
      unfold haveN
      rw [List.range_succ, List.filter_append, List.length_append]
      congr 1
      simp only [List.filter_cons, List.filter_nil]
      split <;> rfl
    rw [hs] at next
    refine Ev.step (fun k => by rw [strakelaw18_ReplayParts.l0]) ?_
    rw [e]
    refine evp (by omega) (evp (by omega) ?_)
    have hi2 := hAt i (by omega)
    by_cases c : (g (i : Int)).isSome = true
    · rw [if_pos c] at next
      refine evp (hi2.2 c) ?_
      have e2 : wrap64 (((haveN g i).length : Int) + 1) = (((haveN g i).length + 1 : Nat) : Int) := by rw [wrap_in (by omega) (by omega)]; omega
      rw [e2]
      exact next
    · rw [if_neg c, Nat.add_zero] at next
      exact evn (fun h => c (hi2.1 h)) next
theorem ReplayParts : strakelaw18_ReplayParts.Pure := by
  intro l n hl hw hn
  refine Ev.rounds (g := fun k => strakelaw18_ReplayParts.f k l n) ?_
  unfold strakelaw18_ReplayParts.f
  rw [awake18_is]
  simp only [Option.bind_some]
  by_cases c : (l.length : Int) > 200
  · exact evp c (Ev.now _)
  refine evn c ?_
  obtain ⟨r, hr, hp⟩ := apart_is l (by omega)
  refine Ev.bind hr ?_
  cases r with
  | false => exact evn (by decide) (Ev.now _)
  | true =>
    have ha := hp rfl
    refine evp rfl ?_
    by_cases h : 1 ≤ n ∧ n ≤ 4096
    · rw [newest_yes h.1 h.2, stale_yes h.1 h.2 (by omega), stale_perm ha]
      simp only [Option.bind_some]
      have hlen := newest_len l n
      have hN : ((newestL l n).length : Int) = n := by omega
      have hrl : ((staleRaw (bestF l n) n l).mergeSort fun x y => decide (x ≤ y)).length = (olds (bestF l n) n l).length := by rw [List.length_mergeSort, raw_olds, List.length_map]
      have hpl := parts_len (bestF l n) n l
      have hnl := news_len h.1 h.2 ha
      have hhl : (haveN (bestF l n) n.toNat).length ≤ n.toNat := by unfold haveN; exact Nat.le_trans (List.length_filter_le _ _) (by simp)
      have hcl : cntN l n l.length = (l.filter fun x => fcnt x n).length := by unfold cntN; rw [List.take_length]
      have hol : (olds (bestF l n) n l).length ≤ l.length := List.length_filter_le _ _
      have := l0_loop l (bestF l n) ((staleRaw (bestF l n) n l).mergeSort fun x y => decide (x ≤ y)) (newestL l n) (by omega) (fun i hi => by
          rw [newest_at l n (by omega)]
          cases hb : bestF l n (i : Int) with
          | none => simp [entryOf]
          | some s =>
            have p := (best_prop hb).1
            rw [fcnt_iff] at p
            simp only [entryOf, Option.isSome_some, iff_true]
            omega) ?_ (newestL l n).length 0 (by omega)
      · simpa [haveN] using this
      · have := l1_loop l (newestL l n) ((staleRaw (bestF l n) n l).mergeSort fun x y => decide (x ≤ y)) (by omega) (by rw [hrl]; omega) (haveN (bestF l n) (newestL l n).length).length (by rw [hlen]; omega)
          (by rw [hN, hcl, hlen, hrl]; omega) (fun x hx hc => by
            rw [hN] at hc
            have c2 := (fcnt_iff _ _).1 hc
            obtain ⟨j, hj⟩ := Int.eq_ofNat_of_zero_le c2.2.1
            rw [hj, newest_at l n (by omega), ← hj, is_was h.1 h.2 ha hx hc]
            cases decide (x.f0 ∈ (staleRaw (bestF l n) n l).mergeSort fun x y => decide (x ≤ y)) <;> rfl) l.length 0 (by omega)
        simpa [cntN] using this
    · rw [newest_no h, stale_no h]
      simp only [Option.bind_some]
      have fno : ∀ x : S27, fcnt x 0 = false := fun x => by unfold fcnt; exact decide_eq_false (by omega)
      have := l1_loop l [] [] (by omega) (by simp) 0 (by omega) (by simp [cntN, fno]) (fun x _ hc => by rw [show ((([] : List S33).length : Nat) : Int) = 0 from rfl, fno x] at hc; cases hc) l.length 0 (by omega)
      refine Ev.step (fun k => by rw [strakelaw18_ReplayParts.l0, if_neg (by simp)]) ?_
      simpa [cntN] using this
end Go.Proofs.Ytlheknapgonakaa.Pure
