/- Two lists of rows compared; what fills a page up in the reference. -/
import Derived.Test.YthoebkkohdfgeaaX25
import Derived.Test.YthoebkkohdfgeaaPage3
import Derived.Test.YthoebkkohdfgeaaOobP2
namespace Go.Proofs.Ythoebkkohdfgeaa.Plain
open Go Go.RowKit Go.Proofs.Ythoebkkohdfgeaa.X Go.Proofs.YthoebkkohdfgeaaW.PrintWords Go.Proofs.YthoebkkohdfgeaaW.PrintMore

theorem sameBytes_loop (l : List (List Int)) (hl : l.length ≤ 1000000) : ∀ (m i : Nat), m + i = l.length → Ev (fun k => strakeref15_SameBytes.l0 k l l (i : Int)) true := by
  intro m
  induction m with
  | zero =>
    intro i hm
    exact Ev.step (f := fun _ => some true) (fun k => by rw [strakeref15_SameBytes.l0, if_neg (by omega)]) (Ev.now _)
  | succ m ih =>
    intro i hm
    have next := ih (i + 1) (by omega)
    refine Ev.step (fun k => by rw [strakeref15_SameBytes.l0]) ?_
    refine evp (by omega) (evp (by omega) (evp (by omega) (evp rfl ?_)))
    rw [wrap_in (by omega) (by omega)]
    exact_mod_cast next
theorem sameBytes_is (l : List (List Int)) (hl : l.length ≤ 1000000) : Ev (fun k => strakeref15_SameBytes.f k l l) true := by
  unfold strakeref15_SameBytes.f
  exact evp rfl (sameBytes_loop l hl l.length 0 (by omega))

theorem filled_loop (n : Int) (hn : n ≤ 4) : ∀ (m : Nat) (a b : List (List Int)), m + a.length = n.toNat ∨ (m = 0 ∧ n ≤ a.length) → a.length = b.length →
    Ev (fun k => strakeref15_filled.l0 k n a b pad) (a ++ List.replicate m (List.replicate 16 0), b ++ List.replicate m pad) := by
  intro m
  induction m with
  | zero =>
    intro a b h e
    simp only [List.replicate_zero, List.append_nil]
    exact Ev.step (f := fun _ => some (a, b)) (fun k => by rw [strakeref15_filled.l0, if_neg (by omega)]) (Ev.now _)
  | succ m ih =>
    intro a b h e
    refine Ev.step (fun k => by rw [strakeref15_filled.l0]) ?_
    refine evp (by omega) (evp (by omega) (evp (by unfold pad; rw [pk_len]; decide) (evp (by omega) ?_)))
    have := ih (a ++ [List.replicate 16 0]) (b ++ [pad]) (Or.inl (by simp; omega)) (by simp [e])
    simpa [List.replicate_succ] using this
theorem filled_is (n : Int) (hn : n ≤ 4) (m : Nat) (a b : List (List Int)) (h : m + a.length = n.toNat ∨ (m = 0 ∧ n ≤ a.length)) (e : a.length = b.length) :
    Ev (fun k => strakeref15_filled.f k n a b) (a ++ List.replicate m (List.replicate 16 0), b ++ List.replicate m pad) := by
  unfold strakeref15_filled.f
  have hp := rpack_is 3 0 0 (List.replicate 16 0) (zeros_bytes 16)
  rw [if_pos ⟨OR3, rfl⟩] at hp
  exact Ev.bind hp (filled_loop n hn m a b h e)
end Go.Proofs.Ythoebkkohdfgeaa.Plain
