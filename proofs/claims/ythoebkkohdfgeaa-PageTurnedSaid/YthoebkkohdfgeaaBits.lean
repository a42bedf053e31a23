/- Plain facts on 8, 32 and 64 bit words as integers: what Go's bit operations come to, as BitVec operations. No program in sight. -/
import Derived.Laws.BitsLemmas
import Derived.RowKit
namespace Go.Proofs.Ythoebkkohdfgeaa.Plain
open Go

/-- a word of 32 bits as Go's integer -/
def u (c : BitVec 32) : Int := (c.toNat : Int)
def b8 (c : BitVec 8) : Int := (c.toNat : Int)
theorem u_lo (c : BitVec 32) : 0 ≤ u c := Int.natCast_nonneg _
theorem u_hi (c : BitVec 32) : u c < 4294967296 := by have := c.isLt; unfold u; omega
theorem u_inj {a b : BitVec 32} (h : u a = u b) : a = b := BitVec.eq_of_toNat_eq (by unfold u at h; omega)
theorem u_of (x : Int) (h0 : 0 ≤ x) (h1 : x < 4294967296) : u (BitVec.ofInt 32 x) = x := by
  unfold u; rw [BitVec.toNat_ofInt]; omega
theorem of_u (c : BitVec 32) : BitVec.ofInt 32 (u c) = c := by
  apply BitVec.eq_of_toNat_eq; rw [BitVec.toNat_ofInt]; unfold u; have := c.isLt; omega
theorem b8_lo (c : BitVec 8) : 0 ≤ b8 c := Int.natCast_nonneg _
theorem b8_hi (c : BitVec 8) : b8 c < 256 := by have := c.isLt; unfold b8; omega
theorem b8_of (x : Int) (h0 : 0 ≤ x) (h1 : x < 256) : b8 (BitVec.ofInt 8 x) = x := by
  unfold b8; rw [BitVec.toNat_ofInt]; omega
theorem of_b8 (c : BitVec 8) : BitVec.ofInt 8 (b8 c) = c := by
  apply BitVec.eq_of_toNat_eq; rw [BitVec.toNat_ofInt]; unfold b8; have := c.isLt; omega
theorem b8_inj {a b : BitVec 8} (h : b8 a = b8 b) : a = b := BitVec.eq_of_toNat_eq (by unfold b8 at h; omega)

theorem wrap_u (c : BitVec 32) : IntKind.u32.wrap (c.toNat : Int) = (c.toNat : Int) := by
  rw [IntKind.wrap_u32]; have := c.isLt; omega
theorem wrap_b8 (c : BitVec 8) : IntKind.u8.wrap (c.toNat : Int) = (c.toNat : Int) := by
  rw [IntKind.wrap_u8]; have := c.isLt; omega
theorem xor_u (a b : BitVec 32) : bits .xor .u32 (u a) (u b) = u (a ^^^ b) := by
  unfold bits
  show IntKind.u32.wrap (((BitVec.ofInt 32 (u a) ^^^ BitVec.ofInt 32 (u b)).toNat : Nat) : Int) = _
  rw [of_u, of_u, wrap_u]; rfl
theorem and_u (a b : BitVec 32) : bits .and .u32 (u a) (u b) = u (a &&& b) := by
  unfold bits
  show IntKind.u32.wrap (((BitVec.ofInt 32 (u a) &&& BitVec.ofInt 32 (u b)).toNat : Nat) : Int) = _
  rw [of_u, of_u, wrap_u]; rfl
theorem or_u (a b : BitVec 32) : bits .or .u32 (u a) (u b) = u (a ||| b) := by
  unfold bits
  show IntKind.u32.wrap (((BitVec.ofInt 32 (u a) ||| BitVec.ofInt 32 (u b)).toNat : Nat) : Int) = _
  rw [of_u, of_u, wrap_u]; rfl
theorem xor_b8 (a b : BitVec 8) : bits .xor .u8 (b8 a) (b8 b) = b8 (a ^^^ b) := by
  unfold bits
  show IntKind.u8.wrap (((BitVec.ofInt 8 (b8 a) ^^^ BitVec.ofInt 8 (b8 b)).toNat : Nat) : Int) = _
  rw [of_b8, of_b8, wrap_b8]; rfl
theorem not_u (a : BitVec 32) : bits .xor .u32 4294967295 (u a) = u (~~~a) := by
  have h : (4294967295 : Int) = u (BitVec.allOnes 32) := by decide
  rw [h, xor_u, BitVec.allOnes_xor]
theorem u_half (a : BitVec 32) : u a / (2 : Int) = u (a >>> 1) := by
  unfold u; rw [BitVec.toNat_ushiftRight, Nat.shiftRight_eq_div_pow]; omega
theorem low_u (a : BitVec 32) : (bits .and .u32 (u a) 1 = 1) ↔ a.getLsbD 0 = true := by
  have h : (1 : Int) = u 1#32 := by decide
  rw [h, and_u]
  have e : a &&& 1#32 = if a.getLsbD 0 then 1#32 else 0#32 := by
    ext i hi
    by_cases h0 : i = 0
    · subst h0; cases ha : a.getLsbD 0 <;> simp_all [BitVec.getLsbD_eq_getElem]
    · have : (1#32).getLsbD i = false := by
        rw [BitVec.getLsbD_one]; simp [h0]
      cases ha : a.getLsbD 0 <;> simp_all [← BitVec.getLsbD_eq_getElem]
  rw [e]
  cases a.getLsbD 0 <;> decide

/-! the checksum -/
def step (c : BitVec 32) : BitVec 32 := if c.getLsbD 0 then (c >>> 1) ^^^ 0xEDB88320#32 else c >>> 1
def steps : Nat → BitVec 32 → BitVec 32
  | 0, c => c
  | n + 1, c => steps n (step c)
def byte (c : BitVec 32) (x : Int) : BitVec 32 := steps 8 (c ^^^ BitVec.ofInt 32 x)
def run (c : BitVec 32) (l : List Int) : BitVec 32 := l.foldl byte c
/-- the sum of bytes that stand behind others, of the sum of those -/
def addS (c : Int) (l : List Int) : Int := u (~~~ run (~~~ BitVec.ofInt 32 c) l)
theorem run_append (c : BitVec 32) (l m : List Int) : run c (l ++ m) = run (run c l) m := List.foldl_append
theorem addS_lo (c : Int) (l : List Int) : 0 ≤ addS c l := u_lo _
theorem addS_hi (c : Int) (l : List Int) : addS c l < 4294967296 := u_hi _
theorem addS_append (c : Int) (l m : List Int) : addS c (l ++ m) = addS (addS c l) m := by
  unfold addS; rw [of_u, BitVec.not_not, run_append]

theorem xlc (a b c : BitVec 32) : a ^^^ (b ^^^ c) = b ^^^ (a ^^^ c) := by rw [← BitVec.xor_assoc, BitVec.xor_comm a, BitVec.xor_assoc]
theorem step_xor (a b : BitVec 32) : step (a ^^^ b) = step a ^^^ step b := by
  unfold step
  rw [BitVec.getLsbD_xor, BitVec.ushiftRight_xor_distrib]
  cases a.getLsbD 0 <;> cases b.getLsbD 0 <;> simp [BitVec.xor_assoc, BitVec.xor_comm, xlc]
theorem step_zero : step 0#32 = 0#32 := by decide
theorem steps_xor (n : Nat) : ∀ a b : BitVec 32, steps n (a ^^^ b) = steps n a ^^^ steps n b := by
  induction n with
  | zero => intro a b; rfl
  | succ n ih => intro a b; show steps n (step (a ^^^ b)) = _; rw [step_xor, ih]; rfl
theorem steps_add (n m : Nat) : ∀ a : BitVec 32, steps (n + m) a = steps m (steps n a) := by
  induction n with
  | zero => intro a; rw [Nat.zero_add]; rfl
  | succ n ih => intro a; rw [Nat.succ_add]; exact ih (step a)
theorem step_top (a : BitVec 32) : (step a).getLsbD 31 = a.getLsbD 0 := by
  unfold step
  have h : (a >>> 1).getLsbD 31 = false := by rw [BitVec.getLsbD_ushiftRight]; exact BitVec.getLsbD_of_ge _ _ (by omega)
  cases ha : a.getLsbD 0
  · exact h
  · rw [if_pos rfl, BitVec.getLsbD_xor, h]; decide
theorem step_inj {a b : BitVec 32} (h : step a = step b) : a = b := by
  have h0 : a.getLsbD 0 = b.getLsbD 0 := by rw [← step_top a, ← step_top b, h]
  have h1 : a >>> 1 = b >>> 1 := by
    unfold step at h
    rw [h0] at h
    cases hb : b.getLsbD 0
    · rw [hb] at h
      simp only [Bool.false_eq_true, if_false] at h
      exact h
    · rw [hb] at h
      simp only [if_true] at h
      have h2 := congrArg (fun c => c ^^^ 0xEDB88320#32) h
      simpa [BitVec.xor_assoc] using h2
  apply BitVec.eq_of_getLsbD_eq
  intro i hi
  match i with
  | 0 => exact h0
  | i + 1 =>
    have := congrArg (fun c : BitVec 32 => c.getLsbD i) h1
    simp only [BitVec.getLsbD_ushiftRight] at this
    rwa [Nat.add_comm] at this
theorem steps_inj (n : Nat) : ∀ {a b : BitVec 32}, steps n a = steps n b → a = b := by
  induction n with
  | zero => intro a b h; exact h
  | succ n ih => intro a b h; exact step_inj (ih h)
theorem byte_inj {a b : BitVec 32} {x : Int} (h : byte a x = byte b x) : a = b := by
  have h := steps_inj 8 h
  have := congrArg (fun c => c ^^^ BitVec.ofInt 32 x) h
  simpa [BitVec.xor_assoc] using this
theorem run_inj (l : List Int) : ∀ {a b : BitVec 32}, run a l = run b l → a = b := by
  induction l with
  | nil => intro a b h; exact h
  | cons x l ih => intro a b h; exact byte_inj (ih h)
theorem not_inj {a b : BitVec 32} (h : ~~~a = ~~~b) : a = b := by
  have := congrArg (fun c => ~~~c) h
  simpa using this
theorem addS_inj (l : List Int) {c d : Int} (hc0 : 0 ≤ c) (hc : c < 4294967296) (hd0 : 0 ≤ d) (hd : d < 4294967296) (h : addS c l = addS d l) : c = d := by
  unfold addS at h
  have := not_inj (run_inj l (not_inj (u_inj h)))
  rw [← u_of c hc0 hc, ← u_of d hd0 hd, this]
end Go.Proofs.Ythoebkkohdfgeaa.Plain
