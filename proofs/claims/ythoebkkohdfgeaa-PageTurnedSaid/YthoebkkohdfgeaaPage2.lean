/- A page built: what it is. Sizes of slots; what fills up. -/
import Derived.Test.YthoebkkohdfgeaaX1
import Derived.Test.YthoebkkohdfgeaaX16
import Derived.Test.YthoebkkohdfgeaaPage1
namespace Go.Proofs.Ythoebkkohdfgeaa.Plain
open Go Go.RowKit Go.Proofs.Ythoebkkohdfgeaa.X Go.Proofs.YthoebkkohdfgeaaW.PrintWords Go.Proofs.YthoebkkohdfgeaaW.PrintMore

theorem rd38_get {l : List S38} {i : Nat} (h : i < l.length) : rd_T38 l (i : Int) = l[i] := by
  unfold rd_T38
  simp [h]
theorem slim_loop (l : List S38) (hl : l.length ≤ 9223372036854775807) : ∀ (m i : Nat), m + i = l.length → (∀ y ∈ l.take i, y.f3.length ≤ 1000) →
    Ev (fun k => strakelaw15_slim.l0 k l (i : Int)) (decide ((∀ y ∈ l, y.f3.length ≤ 1000) ∧ l.length ≤ 100)) := by
  intro m
  induction m with
  | zero =>
    intro i hm h
    rw [List.take_of_length_le (by omega)] at h
    refine Ev.step (f := fun _ => some (decide ((∀ y ∈ l, y.f3.length ≤ 1000) ∧ l.length ≤ 100))) (fun k => ?_) (Ev.now _)
    rw [strakelaw15_slim.l0, if_neg (by omega)]
    refine congrArg some (decide_eq_decide.2 ⟨fun h' => ⟨h, by omega⟩, fun h' => by have := h'.2; omega⟩)
  | succ m ih =>
    intro i hm h
    have hi : i < l.length := by omega
    refine Ev.step (fun k => by rw [strakelaw15_slim.l0]) ?_
    refine evp (by omega) (evp (by omega) ?_)
    rw [rd38_get hi]
    by_cases hg : l[i].f3.length ≤ 1000
    · refine evn (by omega) ?_
      have next := ih (i + 1) (by omega) (fun y hy => by
        rw [List.take_succ_eq_append_getElem hi, List.mem_append, List.mem_singleton] at hy
        rcases hy with hy | rfl
        · exact h y hy
        · exact hg)
      rw [wrap_in (by omega) (by omega)]
      exact_mod_cast next
    · refine evp (by omega) ?_
      rw [decide_eq_false (fun h' => hg (h'.1 _ (List.getElem_mem hi)))]
      exact Ev.now _
theorem slim_is (l : List S38) (hl : l.length ≤ 9223372036854775807) : Ev (fun k => strakelaw15_slim.f k l) (decide ((∀ y ∈ l, y.f3.length ≤ 1000) ∧ l.length ≤ 100)) := by
  unfold strakelaw15_slim.f
  exact slim_loop l hl l.length 0 (by omega) (by simp)

/-- a slot's sector -/
def sec (s : S38) : List Int := if s.f0 = 2 then List.replicate 16 0 else s.f3
/-- may that slot be laid? -/
def Good (s : S38) : Prop := OR s.f0 s.f1 s.f2 ∧ (sec s).length = 16 ∧ s.f0 ≤ 2
instance (s : S38) : Decidable (Good s) := by unfold Good; infer_instance
def Slots (l : List S38) : Prop := ∀ s ∈ l, Bytes s.f3 ∧ s.f3.length ≤ 1000
theorem zeros_bytes (n : Nat) : Bytes (List.replicate n 0) := fun x hx => by rw [List.eq_of_mem_replicate hx]; decide
theorem sec_bytes {s : S38} (h : Bytes s.f3) : Bytes (sec s) := by unfold sec; split <;> first | exact zeros_bytes 16 | exact h
theorem sec_len {s : S38} (h : s.f3.length ≤ 1000) : (sec s).length ≤ 1000 := by unfold sec; split <;> first | exact h | simp
def pad : List Int := pk 3 0 0 (List.replicate 16 0)
def dat (n : Nat) (l : List S38) : List (List Int) := l.map sec ++ List.replicate (n - l.length) (List.replicate 16 0)
def bes (n : Nat) (l : List S38) : List (List Int) := l.map (fun s => pk s.f0 s.f1 s.f2 (sec s)) ++ List.replicate (n - l.length) pad
/-- may that page be built? -/
def May (n : Int) (l : List S38) : Prop := 1 ≤ n ∧ n ≤ 4 ∧ l ≠ [] ∧ (l.length : Int) ≤ n ∧ ∀ s ∈ l, Good s
instance (n : Int) (l : List S38) : Decidable (May n l) := by unfold May; infer_instance
def built (n : Int) (l : List S38) : List (List Int) × List (List Int) × Int := if May n l then (dat n.toNat l, bes n.toNat l, 0) else ([], [], 1)

theorem psector_is (s : S38) (h : s.f3.length ≤ 1000) : page_sector.f s.f0 s.f1 s.f2 s.f3 s.f4 = some (sec s) := by
  unfold page_sector.f sec
  by_cases h2 : s.f0 = 2
  · simp only [if_pos h2]; rfl
  · simp only [if_neg h2, Option.bind_some]
    rw [if_pos (by simp; omega), List.nil_append]
theorem OR3 : OR 3 0 0 := by unfold OR; decide
theorem one_is : Ev (fun k => page_one.f k) (List.replicate 16 0, pad) := by
  unfold page_one.f
  have h := pack_is 3 0 0 (List.replicate 16 0) (zeros_bytes 16) (by decide)
  rw [if_pos ⟨OR3, rfl⟩] at h
  first
  | exact Ev.bind h (Ev.now _)
  | (simp only [if_pos (show (16 : Nat) ≤ 281474976710656 by decide)]; exact Ev.bind h (Ev.now _))
theorem fill_is (z n : Int) (hn : n ≤ 4) : ∀ (m : Nat) (a b : List (List Int)), m + a.length = n.toNat ∨ (m = 0 ∧ n ≤ a.length) → a.length = b.length →
    Ev (fun k => page_filler_fill.f k z n a b) (a ++ List.replicate m (List.replicate 16 0), b ++ List.replicate m pad, 0) := by
  intro m
  unfold page_filler_fill.f
  induction m with
  | zero =>
    intro a b h e
    simp only [List.replicate_zero, List.append_nil]
    exact Ev.step (f := fun _ => some (a, b, 0)) (fun k => by rw [page_filler_fill.l0, if_neg (by omega)]) (Ev.now _)
  | succ m ih =>
    intro a b h e
    refine Ev.step (fun k => by rw [page_filler_fill.l0]) ?_
    refine evp (by omega) (Ev.bind one_is (evp (by omega) (evp (by omega) ?_)))
    have := ih (a ++ [List.replicate 16 0]) (b ++ [pad]) (Or.inl (by simp; omega)) (by simp [e])
    simpa [List.replicate_succ] using this
end Go.Proofs.Ythoebkkohdfgeaa.Plain
