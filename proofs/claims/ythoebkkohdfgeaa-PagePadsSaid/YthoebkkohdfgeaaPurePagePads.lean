/- Behind its slots a page has pads alone, which say nothing. No condition. -/
import Derived.Test.YthoebkkohdfgeaaX37
import Derived.Test.YthoebkkohdfgeaaStatPagePads
import Derived.Test.YthoebkkohdfgeaaPage3
namespace Go.Proofs.Ythoebkkohdfgeaa.Pure
open Go Go.RowKit Go.Proofs.Ythoebkkohdfgeaa.X Go.Proofs.Ythoebkkohdfgeaa.Plain Go.Proofs.YthoebkkohdfgeaaW.PrintWords Go.Proofs.YthoebkkohdfgeaaW.PrintMore

theorem dat_len {n : Int} {l : List S38} (h : May n l) : (dat n.toNat l).length = n.toNat := by
  have := h.2.2.2.1
  unfold dat; simp; omega
theorem bes_len {n : Int} {l : List S38} (h : May n l) : (bes n.toNat l).length = n.toNat := by
  have := h.2.2.2.1
  unfold bes; simp; omega
theorem dat_at {n : Int} {l : List S38} (_h : May n l) {i : Nat} (h1 : l.length ≤ i) (h2 : i < (dat n.toNat l).length) : (dat n.toNat l)[i] = List.replicate 16 0 := by
  unfold dat at h2 ⊢
  rw [List.getElem_append_right (by simpa using h1)]
  simp
theorem bes_at {n : Int} {l : List S38} (_h : May n l) {i : Nat} (h1 : l.length ≤ i) (h2 : i < (bes n.toNat l).length) : (bes n.toNat l)[i] = pad := by
  unfold bes at h2 ⊢
  rw [List.getElem_append_right (by simpa using h1)]
  simp
theorem pads_loop (n : Int) (l : List S38) (h : May n l) : ∀ (m i : Nat), m + i = n.toNat → l.length ≤ i →
    Ev (fun k => strakelaw15_PagePads.l0 k n l true (dat n.toNat l) (bes n.toNat l) (i : Int)) true := by
  have h1 := h.1
  have h4 := h.2.1
  have hl := h.2.2.2.1
  have ld := dat_len h
  have lb := bes_len h
  intro m
  induction m with
  | zero =>
    intro i hm hi
    refine Ev.step (fun k => by rw [strakelaw15_PagePads.l0, if_neg (by omega)]) ?_
    refine evp rfl (evp (by omega) (evp (by omega) (evp (by omega) ?_)))
    have e1 : (dat n.toNat l).drop ((l.length : Int) : Int).toNat = List.replicate (n.toNat - l.length) (List.replicate 16 0) := by
      unfold dat; rw [show ((l.length : Int) : Int).toNat = (l.map sec).length by simp, List.drop_left]
    have e2 : (bes n.toNat l).drop ((l.length : Int) : Int).toNat = List.replicate (n.toNat - l.length) pad := by
      unfold bes; rw [show ((l.length : Int) : Int).toNat = (l.map fun s => pk s.f0 s.f1 s.f2 (sec s)).length by simp, List.drop_left]
    rw [e1, e2]
    have r := read_is (List.replicate (n.toNat - l.length) (List.replicate 16 0)) (List.replicate (n.toNat - l.length) pad)
      (fun y hy => by rw [List.eq_of_mem_replicate hy]; exact ⟨zeros_bytes 16, by decide⟩)
      (fun y hy => by rw [List.eq_of_mem_replicate hy]; exact ⟨pk_bytes OR3.K _ _ _, by show (pk 3 0 0 (List.replicate 16 0)).length ≤ 1000; rw [pk_len]; decide⟩) (by simp; omega)
    rw [told_pads] at r
    exact Ev.bind r (Ev.now _)
  | succ m ih =>
    intro i hm hi
    have hd : i < (dat n.toNat l).length := by omega
    have hb : i < (bes n.toNat l).length := by omega
    refine Ev.step (fun k => by rw [strakelaw15_PagePads.l0]) ?_
    refine evp (by omega) (evp (by omega) (evp (by omega) (evp (by omega) ?_)))
    rw [rd2_get hb, rd2_get hd, dat_at h hi hd, bes_at h hi hb]
    refine Ev.bind (unpack_pk OR3 (List.replicate 16 0) (zeros_bytes 16) rfl) ?_
    refine evp rfl (evn (by decide) (evp (by decide) ?_))
    have e : ((strOfNums (List.replicate 16 0)).toList != (strOfNums (List.replicate 16 0)).toList) = false := by simp
    rw [e]
    refine Ev.step (fun k => by rw [strakelaw15_PagePads.j2, if_neg (by decide)]) ?_
    have next := ih (i + 1) (by omega) (by omega)
    rw [wrap_in (by omega) (by omega)]
    exact_mod_cast next
theorem PagePads : strakelaw15_PagePads.Pure := by
  intro n l hn hl hw
  refine Ev.rounds (g := fun k => strakelaw15_PagePads.f k n l) ?_
  unfold strakelaw15_PagePads.f
  unfold maxLen at hl
  refine Ev.bind awake15_is (Ev.bind (slim_is l (by omega)) ?_)
  by_cases h1 : (∀ y ∈ l, y.f3.length ≤ 1000) ∧ l.length ≤ 100
  · rw [decide_eq_true h1]
    refine evp rfl ?_
    have hs : Slots l := fun s hs => ⟨bytes_of (hw s hs).2.2.2.2.1, h1.1 s hs⟩
    refine Ev.bind (build_is n l hs) ?_
    by_cases hm : May n l
    · rw [built_yes hm]
      have h1 := hm.1
      have hl := hm.2.2.2.1
      have ld := dat_len hm
      have lb := bes_len hm
      refine evp rfl (evp (by simp only; omega) ?_)
      have e : (((bes n.toNat l).length : Int) != n) = false := by
        rw [bne_eq_false_iff_eq]; omega
      simp only [e]
      refine Ev.step (fun k => by rw [strakelaw15_PagePads.j0, if_neg (by decide)]) ?_
      exact pads_loop n l hm (n.toNat - l.length) l.length (by omega) (by omega)
    · rw [built_no hm]
      exact evn (by decide) (Ev.now _)
  · rw [decide_eq_false h1]
    exact evn (by decide) (Ev.now _)
end Go.Proofs.Ythoebkkohdfgeaa.Pure
