/- Four bytes of a number, in the program and in the reference. -/
import Derived.Test.YthoebkkohdfgeaaBase
import Derived.Laws.BitsLemmas
import Derived.Test.YthoebkkohdfgeaaX1
import Derived.Test.YthoebkkohdfgeaaX1
namespace Go.Proofs.Ythoebkkohdfgeaa.Plain
open Go Go.RowKit Go.Proofs.Ythoebkkohdfgeaa.X Go.Proofs.YthoebkkohdfgeaaW.PrintWords Go.Proofs.YthoebkkohdfgeaaW.PrintMore

def fx (n : Int) : List Int := [n % 256, n / 256 % 256, n / 65536 % 256, n / 16777216 % 256]
theorem fx_bytes (n : Int) : Bytes (fx n) := by
  intro x hx
  simp only [fx, List.mem_cons, List.not_mem_nil, or_false] at hx
  rcases hx with rfl | rfl | rfl | rfl <;> omega
theorem fx_len (n : Int) : (fx n).length = 4 := rfl
def fv (l : List Int) : Int := rd l 0 + 256 * rd l 1 + 65536 * rd l 2 + 16777216 * rd l 3
/-- the number of four bytes, or that there is none -/
def tf (l : List Int) : Int × Int := if (l.length : Int) < 4 then (0, 3) else (fv l, 0)
theorem wraps_u32 (n : Int) (h₀ : 0 ≤ n) (h₁ : n < 2 ^ 32) : IntKind.u32.wrap n = n := by rw [IntKind.wrap_u32]; omega
theorem or_join (x y : Int) (i : Nat) (hi : i ≤ 24) (hy₀ : 0 ≤ y) (hy : y % 2 ^ i = 0) (hy₁ : y < 4294967296) (hx₀ : 0 ≤ x) (hx : x < 2 ^ i) : bits .or .u32 x y = x + y := by
  have h2 : (2 : Int) ^ i ≤ 2 ^ 24 := by
    have : (2 : Nat) ^ i ≤ 2 ^ 24 := Nat.pow_le_pow_right (by omega) hi
    exact_mod_cast this
  obtain ⟨a, rfl⟩ := Int.eq_ofNat_of_zero_le hx₀
  obtain ⟨b, rfl⟩ := Int.eq_ofNat_of_zero_le hy₀
  have hc := bits_join .u32 32 (by decide) wraps_u32 i (b : Int) (a : Int) (by omega) hy (by omega) (by omega) hx (by omega)
  have h1 := (bits_nat .u32 32 (by decide) wraps_u32 a b (by omega) (by omega)).2
  have h3 := (bits_nat .u32 32 (by decide) wraps_u32 b a (by omega) (by omega)).2
  rw [h1, Nat.or_comm, ← h3, hc, Int.add_comm]
theorem tf_is (l : List Int) (hb : Bytes l) : wire_TakeFixed.f l = some (tf l) := by
  unfold wire_TakeFixed.f tf
  by_cases h : (l.length : Int) < 4
  · rw [if_pos h, if_pos h]
  · rw [if_neg h, if_neg h, if_pos (by omega), if_pos (by omega), if_pos (by omega), if_pos (by omega)]
    have h0 : 0 ≤ rd l 0 ∧ rd l 0 < 256 := rd_bytes hb (show 0 < l.length by omega)
    have h1 : 0 ≤ rd l 1 ∧ rd l 1 < 256 := rd_bytes hb (show 1 < l.length by omega)
    have h2 : 0 ≤ rd l 2 ∧ rd l 2 < 256 := rd_bytes hb (show 2 < l.length by omega)
    have h3 : 0 ≤ rd l 3 ∧ rd l 3 < 256 := rd_bytes hb (show 3 < l.length by omega)
    unfold fv
    generalize ha : rd l 0 = a at *
    generalize hb' : rd l 1 = b at *
    generalize hc : rd l 2 = c at *
    generalize hd : rd l 3 = d at *
    have e0 : a % 4294967296 = a := Int.emod_eq_of_lt (by omega) (by omega)
    have e1 : b % 4294967296 * 256 % 4294967296 = b * 256 := by omega
    have e2 : c % 4294967296 * 65536 % 4294967296 = c * 65536 := by omega
    have e3 : d % 4294967296 * 16777216 % 4294967296 = d * 16777216 := by omega
    rw [e0, e1, e2, e3, or_join a (b * 256) 8 (by omega) (by omega) (by omega) (by omega) (by omega) (by omega),
      or_join (a + b * 256) (c * 65536) 16 (by omega) (by omega) (by omega) (by omega) (by omega) (by omega),
      or_join (a + b * 256 + c * 65536) (d * 16777216) 24 (by omega) (by omega) (by omega) (by omega) (by omega) (by omega)]
    simp only [Option.some.injEq, Prod.mk.injEq, and_true]
    omega
theorem fx_is (n : Int) : wire_Fixed.f n = some (fx n) := rfl
theorem fv_fx (n : Int) (h0 : 0 ≤ n) (h1 : n < 4294967296) (rest : List Int) : fv (fx n ++ rest) = n := by
  have r0 : rd (fx n ++ rest) 0 = n % 256 := rd_get (l := fx n ++ rest) (i := 0) (by rw [List.length_append, fx_len]; omega)
  have r1 : rd (fx n ++ rest) 1 = n / 256 % 256 := rd_get (l := fx n ++ rest) (i := 1) (by rw [List.length_append, fx_len]; omega)
  have r2 : rd (fx n ++ rest) 2 = n / 65536 % 256 := rd_get (l := fx n ++ rest) (i := 2) (by rw [List.length_append, fx_len]; omega)
  have r3 : rd (fx n ++ rest) 3 = n / 16777216 % 256 := rd_get (l := fx n ++ rest) (i := 3) (by rw [List.length_append, fx_len]; omega)
  unfold fv
  rw [r0, r1, r2, r3]
  omega
end Go.Proofs.Ythoebkkohdfgeaa.Plain
