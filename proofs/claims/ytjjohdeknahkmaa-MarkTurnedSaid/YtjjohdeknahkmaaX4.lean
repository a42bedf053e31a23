-- laid by wip/tools/xprint.py (our own changes over the printer)
import Derived.Test.YtjjohdeknahkmaaX0
namespace Go.Proofs.Ytjjohdeknahkmaa.X
open Go.RowKit Go.Proofs.YtjjohdeknahkmaaW.PrintWords Go.Proofs.YtjjohdeknahkmaaW.PrintLast Go.Proofs.YtjjohdeknahkmaaW.PrintMore
attribute [local go_sem] max2_int min2_int max_two min_two max_three min_three max_four min_four   -- for this text's walks alone
set_option linter.unusedVariables false
set_option linter.unusedSimpArgs false

/-! ### mark_letter: function 32 -/
def mark_letter.f (a0 : Int) : Option (Int) := if 0 ≤ a0 then some (65 + a0 % 7) else none
set_option maxHeartbeats 8000000 in
set_option maxRecDepth 100000 in
theorem mark_letter.calls (a0 : Int) (r : Int) (w : World) (h : mark_letter.f a0 = some r) :
    Calls Try.prog 32 #[.int .i64 a0] w fun e w' => e = .returned (.int .u8 r) ∧ Below w.heap.size w w' := by
  unfold mark_letter.f at h
  by_cases h0 : 0 ≤ a0
  · rw [if_pos h0] at h
    obtain rfl := Option.some.inj h
    clear h
    have hc : a0 % 7 = 0 ∨ a0 % 7 = 1 ∨ a0 % 7 = 2 ∨ a0 % 7 = 3 ∨ a0 % 7 = 4 ∨ a0 % 7 = 5 ∨ a0 % 7 = 6 := by omega
    rcases hc with hc | hc | hc | hc | hc | hc | hc
    all_goals
      rw [hc]
      go_enter Try.func32, Try.ntmps32
      go_wp2
      go_ret
      exact ⟨rfl, ((Below.refl _ _).alloc (Nat.le_refl _) _)⟩
  · rw [if_neg h0] at h
    exact absurd h (by simp)

end Go.Proofs.Ytjjohdeknahkmaa.X
