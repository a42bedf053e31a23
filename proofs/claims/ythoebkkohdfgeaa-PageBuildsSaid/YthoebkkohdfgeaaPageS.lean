/- A page built of slots in the reference; two lists of rows compared. -/
import Derived.Test.YthoebkkohdfgeaaX24
import Derived.Test.YthoebkkohdfgeaaPage3
import Derived.Test.YthoebkkohdfgeaaOobP2
namespace Go.Proofs.Ythoebkkohdfgeaa.Plain
open Go Go.RowKit Go.Proofs.Ythoebkkohdfgeaa.X Go.Proofs.YthoebkkohdfgeaaW.PrintWords Go.Proofs.YthoebkkohdfgeaaW.PrintMore

theorem sameBytes_loop (l : List (List Int)) (hl : l.length ≤ 1000000) : ∀ (m i : Nat), m + i = l.length → Ev (fun k => strakeref15_SameBytes.l0 k l l (i : Int)) true := by
  intro m
  induction m with
  | zero =>
    intro i hm
    exact Ev.step (f := fun _ => some true) (fun k => by rw [strakeref15_SameBytes.l0, if_neg (by omega)]) (Ev.now _)
  | succ m ih =>
    intro i hm
    have next := ih (i + 1) (by omega)
    refine Ev.step (fun k => by rw [strakeref15_SameBytes.l0]) ?_
    refine evp (by omega) (evp (by omega) (evp (by omega) (evp rfl ?_)))
    rw [wrap_in (by omega) (by omega)]
    exact_mod_cast next
theorem sameBytes_is (l : List (List Int)) (hl : l.length ≤ 1000000) : Ev (fun k => strakeref15_SameBytes.f k l l) true := by
  unfold strakeref15_SameBytes.f
  exact evp rfl (sameBytes_loop l hl l.length 0 (by omega))

theorem rsector_is (s : S38) (h : s.f3.length ≤ 1000) : strakeref15_Sector.f s.f0 s.f1 s.f2 s.f3 s.f4 = some (sec s) := by
  unfold strakeref15_Sector.f sec
  by_cases h2 : s.f0 = 2
  · simp only [if_pos h2]; rfl
  · simp only [if_neg h2, Option.bind_some]
    rw [if_pos (by simp; omega), List.nil_append]
theorem filled_loop (n : Int) (hn : n ≤ 4) : ∀ (m : Nat) (a b : List (List Int)), m + a.length = n.toNat ∨ (m = 0 ∧ n ≤ a.length) → a.length = b.length →
    Ev (fun k => strakeref15_filled.l0 k n a b pad) (a ++ List.replicate m (List.replicate 16 0), b ++ List.replicate m pad) := by
  intro m
  induction m with
  | zero =>
    intro a b h e
    simp only [List.replicate_zero, List.append_nil]
    exact Ev.step (f := fun _ => some (a, b)) (fun k => by rw [strakeref15_filled.l0, if_neg (by omega)]) (Ev.now _)
  | succ m ih =>
    intro a b h e
    refine Ev.step (fun k => by rw [strakeref15_filled.l0]) ?_
    refine evp (by omega) (evp (by omega) (evp (by unfold pad; rw [pk_len]; decide) (evp (by omega) ?_)))
    have := ih (a ++ [List.replicate 16 0]) (b ++ [pad]) (Or.inl (by simp; omega)) (by simp [e])
    simpa [List.replicate_succ] using this
theorem filled_is (n : Int) (hn : n ≤ 4) (m : Nat) (a b : List (List Int)) (h : m + a.length = n.toNat ∨ (m = 0 ∧ n ≤ a.length)) (e : a.length = b.length) :
    Ev (fun k => strakeref15_filled.f k n a b) (a ++ List.replicate m (List.replicate 16 0), b ++ List.replicate m pad) := by
  unfold strakeref15_filled.f
  have hp := rpack_is 3 0 0 (List.replicate 16 0) (zeros_bytes 16)
  rw [if_pos ⟨OR3, rfl⟩] at hp
  exact Ev.bind hp (filled_loop n hn m a b h e)
theorem rbuild_loop (n : Int) (l : List S38) (hs : Slots l) (hn1 : 1 ≤ n) (hn : n ≤ 4) (h0 : l ≠ []) (hl : (l.length : Int) ≤ n) : ∀ (m i : Nat), m + i = l.length → (∀ s ∈ l.take i, Good s) →
    Ev (fun k => strakeref15_Build.l0 k n l ((l.take i).map sec) ((l.take i).map laidp) (i : Int)) (built n l) := by
  intro m
  induction m with
  | zero =>
    intro i hm hg
    rw [List.take_of_length_le (by omega)] at hg ⊢
    refine Ev.step (fun k => by rw [strakeref15_Build.l0, if_neg (by omega)]) ?_
    have hm' : May n l := ⟨hn1, hn, h0, hl, hg⟩
    rw [built_yes hm']
    have f := filled_is n hn (n.toNat - l.length) (l.map sec) (l.map laidp) (by simp; omega) (by simp)
    exact Ev.bind f (Ev.now _)
  | succ m ih =>
    intro i hm hg
    have hi : i < l.length := by omega
    obtain ⟨hb, hb2⟩ := hs.at hi
    refine Ev.step (fun k => by rw [strakeref15_Build.l0]) ?_
    refine evp (by omega) (evp (by omega) ?_)
    rw [rd38_get hi, rsector_is _ hb2]
    simp only [Option.bind_some]
    refine Ev.bind (rpack_is _ _ _ _ (sec_bytes hb)) ?_
    by_cases hgood : Good l[i]
    · rw [if_pos ⟨hgood.1, hgood.2.1⟩]
      refine evp rfl (evn (by have := hgood.2.2; omega) ?_)
      have next := ih (i + 1) (by omega) (fun y hy => by
        rw [List.take_succ_eq_append_getElem hi, List.mem_append, List.mem_singleton] at hy
        rcases hy with hy | rfl
        · exact hg y hy
        · exact hgood)
      rw [← take_map_step sec l i hi, ← take_map_step laidp l i hi] at next
      have e : wrap64 ((i : Int) + 1) = ((i + 1 : Nat) : Int) := by rw [wrap_in (by omega) (by omega)]; omega
      refine evp (by simp; omega) (evp (by simp; omega) ?_)
      rw [e]
      exact next
    · rw [built_no (May.no_left hi hgood)]
      by_cases h1 : OR l[i].f0 l[i].f1 l[i].f2 ∧ (sec l[i]).length = 16
      · rw [if_pos h1]
        have hk : ¬ l[i].f0 ≤ 2 := fun h => hgood ⟨h1.1, h1.2, h⟩
        exact evp rfl (evp (by omega) (Ev.now _))
      · rw [if_neg h1]
        exact evn (by decide) (Ev.now _)
theorem rbuild_is (n : Int) (l : List S38) (hs : Slots l) : Ev (fun k => strakeref15_Build.f k n l) (built n l) := by
  have no : ¬ May n l → Ev (fun k => strakeref15_Build.j0 k n l true) (built n l) := fun h => by
    rw [built_no h]
    exact Ev.step (f := fun _ => some ([], [], 1)) (fun k => by rw [strakeref15_Build.j0, if_pos rfl]) (Ev.now _)
  unfold strakeref15_Build.f
  by_cases h1 : n < 1
  · exact evp h1 (no fun h => by have := h.1; omega)
  refine evn h1 ?_
  by_cases h4 : n > 4
  · exact evp h4 (no fun h => by have := h.2.1; omega)
  refine evn h4 ?_
  by_cases h0 : l = []
  · exact evp (by rw [h0]; rfl) (no fun h => h.2.2.1 h0)
  have hp : 0 < l.length := List.length_pos_iff.2 h0
  refine evn (by omega) ?_
  by_cases hl : (l.length : Int) > n
  · rw [decide_eq_true hl]
    exact no fun h => by have := h.2.2.2.1; omega
  rw [decide_eq_false hl]
  refine Ev.step (fun k => by rw [strakeref15_Build.j0, if_neg (by decide)]) ?_
  have := rbuild_loop n l hs (by omega) (by omega) h0 (by omega) l.length 0 (by omega) (by simp)
  simpa using this

end Go.Proofs.Ythoebkkohdfgeaa.Plain
