/- A page built of slots: what Build tells in the program, and what Read tells of it. -/
import Derived.Test.YthoebkkohdfgeaaX1
import Derived.Test.YthoebkkohdfgeaaX13
import Derived.Test.YthoebkkohdfgeaaPage2
namespace Go.Proofs.Ythoebkkohdfgeaa.Plain
open Go Go.RowKit Go.Proofs.Ythoebkkohdfgeaa.X Go.Proofs.YthoebkkohdfgeaaW.PrintWords Go.Proofs.YthoebkkohdfgeaaW.PrintMore

theorem Slots.at {l : List S38} (h : Slots l) {i : Nat} (hi : i < l.length) : Bytes l[i].f3 ∧ l[i].f3.length ≤ 1000 := h _ (List.getElem_mem hi)
theorem May.no_left {n : Int} {l : List S38} {i : Nat} (hi : i < l.length) (h : ¬ Good l[i]) : ¬ May n l := fun hm => h (hm.2.2.2.2 _ (List.getElem_mem hi))
theorem take_map_step {β : Type} (f : S38 → β) (l : List S38) (i : Nat) (hi : i < l.length) : (l.take i).map f ++ [f l[i]] = (l.take (i + 1)).map f := by
  rw [List.take_succ_eq_append_getElem hi, List.map_append]; rfl
def laidp (s : S38) : List Int := pk s.f0 s.f1 s.f2 (sec s)
theorem built_yes {n : Int} {l : List S38} (h : May n l) : built n l = (dat n.toNat l, bes n.toNat l, 0) := by unfold built; rw [if_pos h]
theorem built_no {n : Int} {l : List S38} (h : ¬ May n l) : built n l = ([], [], 1) := by unfold built; rw [if_neg h]

theorem build_loop (n : Int) (l : List S38) (hs : Slots l) (hn1 : 1 ≤ n) (hn : n ≤ 4) (h0 : l ≠ []) (hl : (l.length : Int) ≤ n) : ∀ (m i : Nat), m + i = l.length → (∀ s ∈ l.take i, Good s) →
    Ev (fun k => page_Build.l0 k n ((l.take i).map sec) ((l.take i).map laidp) l (l.length : Int) (i : Int)) (built n l) := by
  intro m
  induction m with
  | zero =>
    intro i hm hg
    rw [List.take_of_length_le (by omega)] at hg ⊢
    refine Ev.step (fun k => by rw [page_Build.l0, if_neg (by omega)]) ?_
    have hm' : May n l := ⟨hn1, hn, h0, hl, hg⟩
    rw [built_yes hm']
    have f := fill_is 0 n hn (n.toNat - l.length) (l.map sec) (l.map laidp) (by simp; omega) (by simp)
    unfold page_pads.f
    simp only [Option.bind_some]
    exact Ev.bind f (Ev.now _)
  | succ m ih =>
    intro i hm hg
    have hi : i < l.length := by omega
    obtain ⟨hb, hb2⟩ := hs.at hi
    refine Ev.step (fun k => by rw [page_Build.l0]) ?_
    refine evp (by omega) (evp (by omega) (evp (by omega) ?_))
    rw [rd38_get hi, psector_is _ hb2]
    simp only [Option.bind_some]
    refine Ev.bind (pack_is _ _ _ _ (sec_bytes hb) (by have := sec_len hb2; omega)) ?_
    by_cases hgood : Good l[i]
    · rw [if_pos ⟨hgood.1, hgood.2.1⟩]
      refine evp rfl ?_
      have next := ih (i + 1) (by omega) (fun y hy => by
        rw [List.take_succ_eq_append_getElem hi, List.mem_append, List.mem_singleton] at hy
        rcases hy with hy | rfl
        · exact hg y hy
        · exact hgood)
      rw [← take_map_step sec l i hi, ← take_map_step laidp l i hi] at next
      have e : wrap64 ((i : Int) + 1) = ((i + 1 : Nat) : Int) := by rw [wrap_in (by omega) (by omega)]; omega
      have hK : l[i].f0 = 1 ∨ l[i].f0 = 2 := by have h1 := hgood.1; have h2 := hgood.2.2; unfold OR at h1; omega
      have key : Ev (fun k => if ((l.take i).map sec).length < 5864062014805 then (if ((l.take i).map laidp).length < 5864062014805 then (page_Build.l0 k n ((l.take i).map sec ++ [sec l[i]]) ((l.take i).map laidp ++ [laidp l[i]]) l (l.length : Int) (wrap64 ((i : Int) + 1))) else none) else none) (built n l) := by
        refine evp (by simp; omega) (evp (by simp; omega) ?_)
        rw [e]
        exact next
      by_cases h1 : l[i].f0 = 1
      · exact evp h1 key
      · exact evn h1 (evp (by omega) key)
    · rw [built_no (May.no_left hi hgood)]
      by_cases h1 : OR l[i].f0 l[i].f1 l[i].f2 ∧ (sec l[i]).length = 16
      · rw [if_pos h1]
        have hk : ¬ l[i].f0 ≤ 2 := fun h => hgood ⟨h1.1, h1.2, h⟩
        exact evp rfl (evn (by omega) (evn (by omega) (Ev.now _)))
      · rw [if_neg h1]
        exact evn (by decide) (Ev.now _)
theorem build_is (n : Int) (l : List S38) (hs : Slots l) : Ev (fun k => page_Build.f k n l) (built n l) := by
  have no : ¬ May n l → Ev (fun k => page_Build.j0 k n l true) (built n l) := fun h => by
    rw [built_no h]
    exact Ev.step (f := fun _ => some ([], [], 1)) (fun k => by rw [page_Build.j0, if_pos rfl]) (Ev.now _)
  unfold page_Build.f
  by_cases h1 : n < 1
  · exact evp h1 (no fun h => by have := h.1; omega)
  refine evn h1 ?_
  by_cases h4 : n > 4
  · exact evp h4 (no fun h => by have := h.2.1; omega)
  refine evn h4 ?_
  by_cases h0 : l = []
  · exact evp (by rw [h0]; rfl) (no fun h => h.2.2.1 h0)
  have hp : 0 < l.length := List.length_pos_iff.2 h0
  refine evn (by omega) ?_
  by_cases hl : (l.length : Int) > n
  · rw [decide_eq_true hl]
    exact no fun h => by have := h.2.2.2.1; omega
  rw [decide_eq_false hl]
  refine Ev.step (fun k => by rw [page_Build.j0, if_neg (by decide)]) ?_
  have := build_loop n l hs (by omega) (by omega) h0 (by omega) l.length 0 (by omega) (by simp)
  simpa using this

theorem laidp_bytes {s : S38} (h : Good s) : Bytes (laidp s) := pk_bytes h.1.K _ _ _
theorem laidp_len (s : S38) : (laidp s).length = 17 := rfl
theorem dat_rows {n : Nat} {l : List S38} (hs : Slots l) : Thin (dat n l) := by
  intro y hy
  unfold dat at hy
  rw [List.mem_append, List.mem_map] at hy
  rcases hy with ⟨s, hm, rfl⟩ | hy
  · exact ⟨sec_bytes (hs s hm).1, sec_len (hs s hm).2⟩
  · rw [List.eq_of_mem_replicate hy]; exact ⟨zeros_bytes 16, by decide⟩
theorem bes_rows {n : Nat} {l : List S38} (hg : ∀ s ∈ l, Good s) : Thin (bes n l) := by
  intro y hy
  unfold bes at hy
  rw [List.mem_append, List.mem_map] at hy
  rcases hy with ⟨s, hm, rfl⟩ | hy
  · exact ⟨laidp_bytes (hg s hm), by show (laidp s).length ≤ 1000; rw [laidp_len]; decide⟩
  · rw [List.eq_of_mem_replicate hy]; exact ⟨pk_bytes OR3.K _ _ _, by show (pk 3 0 0 (List.replicate 16 0)).length ≤ 1000; rw [pk_len]; decide⟩
/-- what the sectors of slots tell -/
def toldOf (i : Nat) (l : List S38) : List S42 := match l with
  | [] => []
  | s :: l => ⟨(i : Int), ⟨s.f0, s.f1, s.f2⟩, sec s⟩ :: toldOf (i + 1) l
theorem told_pads (m : Nat) : ∀ i, told i (List.replicate m (List.replicate 16 0)) (List.replicate m pad) = [] := by
  induction m with
  | zero => intro i; simp [told]
  | succ m ih =>
    intro i
    rw [List.replicate_succ (n := m), List.replicate_succ (n := m)]
    simp only [told, ih, List.append_nil]
    unfold tells
    unfold pad
    rw [un_pk OR3 _ (zeros_bytes 16) rfl]
    rfl
theorem told_built (m : Nat) : ∀ (l : List S38) (i : Nat), Slots l → (∀ s ∈ l, Good s) → told i (l.map sec ++ List.replicate m (List.replicate 16 0)) (l.map (fun s => pk s.f0 s.f1 s.f2 (sec s)) ++ List.replicate m pad) = toldOf i l := by
  intro l
  induction l with
  | nil => intro i _ _; simp only [List.map_nil, List.nil_append, told_pads]; rfl
  | cons s l ih =>
    intro i hs hg
    have g := hg s (by simp)
    simp only [List.map_cons, List.cons_append, told]
    rw [ih (i + 1) (fun t ht => hs t (by simp [ht])) (fun t ht => hg t (by simp [ht]))]
    unfold tells
    rw [un_pk g.1 _ (sec_bytes (hs s (by simp)).1) g.2.1]
    have : ¬ s.f0 = 3 := by have := g.2.2; omega
    simp only [if_neg this, if_true]
    rfl
theorem read_built {n : Nat} {l : List S38} (hs : Slots l) (hg : ∀ s ∈ l, Good s) (hn : n ≤ 4) (hl : l.length ≤ n) : Ev (fun k => page_Read.f k (dat n l) (bes n l)) (toldOf 0 l) := by
  have := read_is (dat n l) (bes n l) (dat_rows hs) (bes_rows hg) (by unfold dat; simp; omega)
  unfold dat bes at this ⊢
  rw [told_built _ _ _ hs hg] at this
  exact this
theorem awake15_is : Ev (fun k => strakelaw15_awake.f k) true := by
  have g : Good ⟨2, 5, 9, [], 0⟩ := ⟨by unfold OR; decide, rfl, by decide⟩
  have hs : Slots [⟨2, 5, 9, [], 0⟩] := fun s h => by rw [List.mem_singleton] at h; subst h; exact ⟨Bytes.nil, by decide⟩
  have hm : May 2 [⟨2, 5, 9, [], 0⟩] := ⟨by decide, by decide, by simp, by decide, fun s h => by rw [List.mem_singleton] at h; subst h; exact g⟩
  unfold strakelaw15_awake.f
  refine Ev.bind (build_is 2 _ hs) ?_
  rw [built_yes hm]
  refine Ev.bind (read_built hs hm.2.2.2.2 (by decide) (by decide)) ?_
  refine evp rfl (evp ?_ (evp ?_ (evp rfl (evp ?_ ?_))))
  · rfl
  · rfl
  · decide
  · exact Ev.now _
end Go.Proofs.Ythoebkkohdfgeaa.Plain
