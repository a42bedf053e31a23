/- Numbers in base 128, and how they are read: 'vi', 'takeS'. No program in sight. -/
import Derived.Test.YtnhjjhlplboogaaBase
namespace Go.Proofs.Ytnhjjhlplboogaa.Plain
open Go Go.RowKit Go.Proofs.YtnhjjhlplboogaaW.PrintWords Go.Proofs.YtnhjjhlplboogaaW.PrintMore

/-- the code of a number -/
def vi (n : Nat) : List Int := if n < 128 then [(n : Int)] else ((n % 128 + 128 : Nat) : Int) :: vi (n / 128)
termination_by n
decreasing_by omega
theorem vi_small {n : Nat} (h : n < 128) : vi n = [(n : Int)] := by rw [vi, if_pos h]
theorem vi_big {n : Nat} (h : 128 ≤ n) : vi n = ((n % 128 + 128 : Nat) : Int) :: vi (n / 128) := by rw [vi, if_neg (by omega)]
theorem vi_bytes (n : Nat) : Bytes (vi n) := by
  induction n using Nat.strongRecOn with
  | _ n ih =>
    by_cases h : n < 128
    · rw [vi_small h]; exact Bytes.nil.cons (by omega)
    · rw [vi_big (by omega)]; exact (ih (n / 128) (by omega)).cons (by omega)
theorem vi_pos (n : Nat) : 1 ≤ (vi n).length := by
  by_cases h : n < 128
  · rw [vi_small h]; simp
  · rw [vi_big (by omega)]; simp
theorem vi_len (k : Nat) : ∀ n : Nat, n < 128 ^ (k + 1) → (vi n).length ≤ k + 1 := by
  induction k with
  | zero => intro n h; rw [vi_small (by simpa using h)]; simp
  | succ k ih =>
    intro n h
    by_cases hn : n < 128
    · rw [vi_small hn]; simp
    · rw [vi_big (by omega), List.length_cons]
      have := ih (n / 128) (by rw [Nat.pow_succ] at h; omega)
      omega
theorem vi_nine {n : Nat} (h : n < 9223372036854775808) : (vi n).length ≤ 9 := vi_len 8 n (by simpa using h)

/-- the number that a list begins with: of at most so many digits -/
def takeS : Nat → List Int → Option (Nat × Nat)
  | 0, _ => none
  | _ + 1, [] => none
  | f + 1, d :: l => if d < 128 then some (d.toNat, 1) else (takeS f l).bind fun p => if p.1 = 0 then none else some (128 * p.1 + (d - 128).toNat, p.2 + 1)
theorem takeS_vi (f : Nat) : ∀ (n : Nat) (rest : List Int), (vi n).length ≤ f → takeS f (vi n ++ rest) = some (n, (vi n).length) := by
  induction f with
  | zero => intro n rest h; have := vi_pos n; omega
  | succ f ih =>
    intro n rest h
    by_cases hn : n < 128
    · rw [vi_small hn]
      simp only [List.cons_append, takeS]
      rw [if_pos (by omega)]; simp
    · rw [vi_big (by omega)] at h ⊢
      simp only [List.cons_append, takeS]
      rw [if_neg (by omega), ih (n / 128) rest (by simpa using h)]
      simp only [Option.bind_some]
      rw [if_neg (by omega)]
      simp only [List.length_cons, Option.some.injEq, Prod.mk.injEq, and_true]
      omega
theorem takeS_back (f : Nat) : ∀ (b : List Int) (n k : Nat), Bytes b → takeS f b = some (n, k) → vi n = b.take k ∧ 1 ≤ k ∧ k ≤ b.length ∧ k ≤ f ∧ n < 128 ^ f := by
  induction f with
  | zero => intro b n k _ h; simp [takeS] at h
  | succ f ih =>
    intro b n k hb h
    cases b with
    | nil => simp [takeS] at h
    | cons d l =>
      have hd := hb d List.mem_cons_self
      simp only [takeS] at h
      have hp : 0 < 128 ^ f := Nat.pow_pos (by omega)
      by_cases h1 : d < 128
      · rw [if_pos h1] at h
        simp only [Option.some.injEq, Prod.mk.injEq] at h
        obtain ⟨rfl, rfl⟩ := h
        refine ⟨?_, by omega, by simp, by omega, by rw [Nat.pow_succ]; omega⟩
        rw [vi_small (by omega)]
        simp only [List.take_succ_cons, List.take_zero, List.cons.injEq, and_true]
        omega
      · rw [if_neg h1] at h
        obtain ⟨⟨m, j⟩, hm, h⟩ := Option.bind_eq_some_iff.1 h
        have hi := ih l m j (fun z hz => hb z (List.mem_cons_of_mem _ hz)) hm
        by_cases h2 : m = 0
        · rw [if_pos h2] at h; cases h
        · rw [if_neg h2] at h
          simp only [Option.some.injEq, Prod.mk.injEq] at h
          obtain ⟨rfl, rfl⟩ := h
          refine ⟨?_, by omega, by simp only [List.length_cons]; omega, by omega, by rw [Nat.pow_succ]; omega⟩
          rw [vi_big (by omega), List.take_succ_cons]
          have e1 : ((128 * m + (d - 128).toNat) % 128 + 128 : Nat) = d.toNat := by omega
          have e2 : (128 * m + (d - 128).toNat) / 128 = m := by omega
          rw [e1, e2, hi.1]
          simp only [List.cons.injEq, and_true]
          omega
/-- What TakeNumber tells: the number, its digits, the error. -/
def tk (b : List Int) : Int × Int × Int := match takeS 9 b with
  | none => (0, 0, 3)
  | some (n, k) => ((n : Int), (k : Int), 0)
theorem tk_vi {n : Nat} (h : n < 9223372036854775808) (rest : List Int) : tk (vi n ++ rest) = ((n : Int), ((vi n).length : Int), 0) := by
  unfold tk; rw [takeS_vi 9 n rest (vi_nine h)]
theorem tk_cases (b : List Int) (hb : Bytes b) : tk b = (0, 0, 3) ∨ ∃ n k : Nat, tk b = ((n : Int), (k : Int), 0) ∧ vi n = b.take k ∧ 1 ≤ k ∧ k ≤ b.length ∧ k ≤ 9 ∧ n < 9223372036854775808 := by
  unfold tk
  cases h : takeS 9 b with
  | none => exact .inl rfl
  | some p =>
    obtain ⟨n, k⟩ := p
    have := takeS_back 9 b n k hb h
    exact .inr ⟨n, k, rfl, this.1, this.2.1, this.2.2.1, this.2.2.2.1, by simpa using this.2.2.2.2⟩
/-- No code is another one's beginning. -/
theorem vi_apart {a b : Nat} (ha : a < 9223372036854775808) (hb : b < 9223372036854775808) {rest : List Int} (h : vi b = vi a ++ rest) : a = b := by
  have h1 := tk_vi ha rest
  have h2 := tk_vi hb []
  rw [List.append_nil, h, h1] at h2
  simp only [Prod.mk.injEq] at h2
  omega
/-- the codes of numbers, one behind the other -/
def numS : List Int → List Int
  | [] => []
  | x :: l => if x < 0 then numS l else vi x.toNat ++ numS l
theorem numS_append : ∀ (l m : List Int), numS (l ++ m) = numS l ++ numS m := by
  intro l m
  induction l with
  | nil => rfl
  | cons x l ih =>
    simp only [List.cons_append, numS]
    by_cases h : x < 0
    · rw [if_pos h, if_pos h, ih]
    · rw [if_neg h, if_neg h, ih, List.append_assoc]
theorem numS_one {n : Nat} : numS [(n : Int)] = vi n := by
  simp only [numS]; rw [if_neg (by omega), List.append_nil, Int.toNat_natCast]
def In64 (l : List Int) : Prop := ∀ x ∈ l, x ≤ 9223372036854775807
theorem numS_len : ∀ (l : List Int), In64 l → (numS l).length ≤ 9 * l.length := by
  intro l
  induction l with
  | nil => intro _; simp [numS]
  | cons x l ih =>
    intro h
    have h1 := ih (fun z hz => h z (List.mem_cons_of_mem _ hz))
    have hx := h x List.mem_cons_self
    simp only [numS]
    by_cases h0 : x < 0
    · rw [if_pos h0]; simp only [List.length_cons]; omega
    · rw [if_neg h0]
      have := @vi_nine x.toNat (by omega)
      simp only [List.length_append, List.length_cons]; omega
theorem numS_bytes : ∀ (l : List Int), Bytes (numS l) := by
  intro l
  induction l with
  | nil => exact Bytes.nil
  | cons x l ih =>
    simp only [numS]
    by_cases h0 : x < 0
    · rw [if_pos h0]; exact ih
    · rw [if_neg h0]; exact (vi_bytes _).app ih
/-- What TakeText tells. -/
def tx (b : List Int) : List Int × Int × Int :=
  if (tk b).2.2 = 0 then (if (tk b).1 > (b.length : Int) - (tk b).2.1 then ([], 0, 3) else ((b.take ((tk b).2.1 + (tk b).1).toNat).drop (tk b).2.1.toNat, (tk b).2.1 + (tk b).1, 0)) else ([], 0, 3)
end Go.Proofs.Ytnhjjhlplboogaa.Plain
