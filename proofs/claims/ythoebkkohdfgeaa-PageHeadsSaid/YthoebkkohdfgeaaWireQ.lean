/- Four bytes laid in the reference. -/
import Derived.Test.YthoebkkohdfgeaaWireP
import Derived.Test.YthoebkkohdfgeaaX17
namespace Go.Proofs.Ythoebkkohdfgeaa.Plain
open Go Go.RowKit Go.Proofs.Ythoebkkohdfgeaa.X Go.Proofs.YthoebkkohdfgeaaW.PrintWords Go.Proofs.YthoebkkohdfgeaaW.PrintMore
theorem rfx_is (n : Int) (h0 : 0 ≤ n) (h1 : n < 4294967296) : Ev (fun K => strakeref02_Fixed.f K n) (fx n) := by
  have go : ∀ (K : Nat) (x : Int) (acc : List Int) (i : Int), 0 ≤ x → x < 4294967296 → 0 ≤ i → i < 4 → acc.length ≤ 4 →
      strakeref02_Fixed.l0 (K + 1) x acc i = strakeref02_Fixed.l0 K (x / 256) (acc ++ [x % 256]) (i + 1) := by
    intro K x acc i hx hx1 hi hi1 ha
    rw [strakeref02_Fixed.l0, if_pos (by omega), if_pos (by omega), Int.tdiv_eq_ediv_of_nonneg hx, Int.tmod_eq_emod_of_nonneg hx, wrap_in (by omega) (by omega), Int.emod_eq_of_lt (b := 4294967296) (by omega) (by omega), Int.emod_emod_of_dvd _ (by decide)]
  refine Ev.of (strakeref02_Fixed.mono n) (k := 5) ?_
  show strakeref02_Fixed.l0 5 n [] 0 = some (fx n)
  rw [go 4 n [] 0 h0 h1 (by omega) (by omega) (by simp), go 3 _ _ _ (by omega) (by omega) (by omega) (by omega) (by simp), go 2 _ _ _ (by omega) (by omega) (by omega) (by omega) (by simp), go 1 _ _ _ (by omega) (by omega) (by omega) (by omega) (by simp)]
  rw [strakeref02_Fixed.l0, if_neg (by omega)]
  have e1 : n / 256 / 256 = n / 65536 := by omega
  have e2 : n / 256 / 256 / 256 = n / 16777216 := by omega
  unfold fx
  rw [e2, e1]; rfl
end Go.Proofs.Ythoebkkohdfgeaa.Plain
