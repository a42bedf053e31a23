/- The laws of the checksum, about 'addS' alone: what is unlike within four neighbouring bytes has unlike sums; the XOR of three. -/
import Derived.Test.YthoebkkohdfgeaaCrcFnB
namespace Go.Proofs.Ythoebkkohdfgeaa.Plain
open Go Go.RowKit Go.Proofs.Ythoebkkohdfgeaa.X Go.Proofs.YthoebkkohdfgeaaW.PrintWords Go.Proofs.YthoebkkohdfgeaaW.PrintMore

theorem awake_sum : addS 0 [49, 50, 51, 52, 53, 54, 55, 56, 57] = 3421780262 := by decide +kernel

/-- the bytes, one by one, XORed -/
def xr (x y : Int) : Int := bits .xor .u8 x y
theorem xr_range {x y : Int} (hx : 0 ≤ x ∧ x < 256) (hy : 0 ≤ y ∧ y < 256) : 0 ≤ xr x y ∧ xr x y < 256 := by
  unfold xr
  rw [← b8_of x hx.1 hx.2, ← b8_of y hy.1 hy.2, xor_b8]
  exact ⟨b8_lo _, b8_hi _⟩
theorem xr_32 {x y : Int} (hx : 0 ≤ x ∧ x < 256) (hy : 0 ≤ y ∧ y < 256) : BitVec.ofInt 32 (xr x y) = BitVec.ofInt 32 x ^^^ BitVec.ofInt 32 y := by
  have e : ∀ a : BitVec 8, BitVec.ofInt 32 (b8 a) = a.setWidth 32 := by
    intro a
    apply BitVec.eq_of_toNat_eq
    rw [BitVec.toNat_ofInt, BitVec.toNat_setWidth]; unfold b8; have := a.isLt; omega
  unfold xr
  rw [← b8_of x hx.1 hx.2, ← b8_of y hy.1 hy.2, xor_b8, e, e, e]
  apply BitVec.eq_of_getLsbD_eq
  intro i hi
  simp only [BitVec.getLsbD_setWidth, BitVec.getLsbD_xor]
  cases decide (i < 32) <;> simp
theorem byte_xor (a b : BitVec 32) {x y : Int} (hx : 0 ≤ x ∧ x < 256) (hy : 0 ≤ y ∧ y < 256) : byte (a ^^^ b) (xr x y) = byte a x ^^^ byte b y := by
  unfold byte
  rw [xr_32 hx hy, ← steps_xor]
  congr 1
  simp only [BitVec.xor_assoc]
  congr 1
  rw [xlc]
theorem run_xor : ∀ (l m : List Int) (a b : BitVec 32), l.length = m.length → Bytes l → Bytes m → run (a ^^^ b) (List.zipWith xr l m) = run a l ^^^ run b m := by
  intro l
  induction l with
  | nil =>
    intro m a b h _ _
    cases m with
    | nil => rfl
    | cons y m => simp at h
  | cons x l ih =>
    intro m a b h hl hm
    cases m with
    | nil => simp at h
    | cons y m =>
      show run (byte (a ^^^ b) (xr x y)) (List.zipWith xr l m) = run (byte a x) l ^^^ run (byte b y) m
      rw [byte_xor a b (hl x List.mem_cons_self) (hm y List.mem_cons_self)]
      exact ih m _ _ (by simpa using h) (fun z hz => hl z (List.mem_cons_of_mem _ hz)) (fun z hz => hm z (List.mem_cons_of_mem _ hz))
theorem zip_bytes : ∀ (l m : List Int), Bytes l → Bytes m → Bytes (List.zipWith xr l m) := by
  intro l
  induction l with
  | nil => intro m _ _; simpa using Bytes.nil
  | cons x l ih =>
    intro m hl hm
    cases m with
    | nil => simpa using Bytes.nil
    | cons y m =>
      intro z hz
      simp only [List.zipWith_cons_cons, List.mem_cons] at hz
      rcases hz with rfl | hz
      · exact xr_range (hl x List.mem_cons_self) (hm y List.mem_cons_self)
      · exact ih m (fun z hz => hl z (List.mem_cons_of_mem _ hz)) (fun z hz => hm z (List.mem_cons_of_mem _ hz)) z hz
/-- THE XOR OF THREE. -/
theorem addS_three (l m k : List Int) (h1 : l.length = m.length) (h2 : k.length = m.length) (hl : Bytes l) (hm : Bytes m) (hk : Bytes k) :
    bits .xor .u32 (bits .xor .u32 (addS 0 l) (addS 0 m)) (addS 0 k) = addS 0 (List.zipWith xr (List.zipWith xr l m) k) := by
  unfold addS
  rw [xor_u, xor_u]
  have hlen : (List.zipWith xr l m).length = k.length := by rw [List.length_zipWith]; omega
  have e := run_xor (List.zipWith xr l m) k (~~~ BitVec.ofInt 32 0 ^^^ ~~~ BitVec.ofInt 32 0) (~~~ BitVec.ofInt 32 0) hlen (zip_bytes l m hl hm) hk
  rw [run_xor l m _ _ h1 hl hm, BitVec.xor_self, BitVec.zero_xor] at e
  rw [e]
  apply congrArg u
  generalize run (~~~ BitVec.ofInt 32 0) l = a
  generalize run (~~~ BitVec.ofInt 32 0) m = b
  generalize run (~~~ BitVec.ofInt 32 0) k = c
  apply BitVec.eq_of_getLsbD_eq
  intro i hi
  simp only [BitVec.getLsbD_xor, BitVec.getLsbD_not, decide_eq_true hi, Bool.true_and]
  cases a.getLsbD i <;> cases b.getLsbD i <;> cases c.getLsbD i <;> rfl

/-- a byte of zeros -/
theorem run_zeros (n : Nat) : run 0#32 (List.replicate n 0) = 0#32 := by
  induction n with
  | zero => rfl
  | succ n ih =>
    have hb : byte 0#32 0 = 0#32 := by decide
    show run (byte 0#32 0) (List.replicate n 0) = _
    rw [hb]; exact ih
/-- a low byte of zeros goes out -/
theorem steps_shl8 (y : BitVec 32) (hy : y.toNat < 16777216) : steps 8 (y <<< 8) = y := by
  have one : ∀ (n : Nat) (z : BitVec 32), z.toNat * 2 ^ (n + 1) < 4294967296 → step (z <<< (n + 1)) = z <<< n := by
    intro n z hz
    have h0 : (z <<< (n + 1)).getLsbD 0 = false := by rw [BitVec.getLsbD_shiftLeft]; simp
    unfold step
    rw [h0, if_neg (by decide)]
    apply BitVec.eq_of_toNat_eq
    rw [BitVec.toNat_ushiftRight, BitVec.toNat_shiftLeft, BitVec.toNat_shiftLeft, Nat.shiftRight_eq_div_pow, Nat.shiftLeft_eq, Nat.shiftLeft_eq, Nat.mod_eq_of_lt hz]
    have e : z.toNat * 2 ^ (n + 1) = z.toNat * 2 ^ n * 2 := by rw [Nat.pow_succ, Nat.mul_assoc]
    rw [e] at hz ⊢
    generalize z.toNat * 2 ^ n = q at *
    rw [Nat.mod_eq_of_lt (by omega)]; omega
  show step (step (step (step (step (step (step (step (y <<< 8)))))))) = y
  rw [one 7 y (by omega), one 6 y (by omega), one 5 y (by omega), one 4 y (by omega), one 3 y (by omega), one 2 y (by omega), one 1 y (by omega), one 0 y (by omega), BitVec.shiftLeft_zero]
/-- four bytes behind zeros: as thirty-two steps of their word -/
theorem run_four (t : BitVec 32) : run 0#32 [u (t &&& 255#32), u ((t >>> 8) &&& 255#32), u ((t >>> 16) &&& 255#32), u ((t >>> 24) &&& 255#32)] = steps 32 t := by
  have hone : ∀ a b : BitVec 32, b.toNat < 16777216 → steps 8 (a ^^^ (b <<< 8)) = steps 8 a ^^^ b := by
    intro a b hb; rw [steps_xor, steps_shl8 b hb]
  have split : ∀ s : BitVec 32, s = (s &&& 255#32) ^^^ ((s >>> 8) <<< 8) := by
    intro s
    apply BitVec.eq_of_getLsbD_eq
    intro i hi
    rw [BitVec.getLsbD_xor, BitVec.getLsbD_and, BitVec.getLsbD_shiftLeft, BitVec.getLsbD_ushiftRight]
    have h255 : (255#32).getLsbD i = decide (i < 8) := by
      have : ∀ i : Fin 32, (255#32).getLsbD i.val = decide (i.val < 8) := by decide
      exact this ⟨i, hi⟩
    rw [h255]
    by_cases h8 : i < 8
    · simp [h8]
    · have : 8 + (i - 8) = i := by omega
      simp [h8, hi, this]
  have small : ∀ s : BitVec 32, (s >>> 8).toNat < 16777216 := by
    intro s; rw [BitVec.toNat_ushiftRight, Nat.shiftRight_eq_div_pow]; have := s.isLt; omega
  have adv : ∀ c s : BitVec 32, steps 8 (c ^^^ s) = byte c (u (s &&& 255#32)) ^^^ (s >>> 8) := by
    intro c s
    unfold byte
    rw [of_u, ← hone _ _ (small s), BitVec.xor_assoc, ← split s]
  have h32 : steps 32 t = steps 8 (steps 8 (steps 8 (steps 8 t))) := rfl
  have z : t >>> 8 >>> 8 >>> 8 >>> 8 = 0#32 := by
    apply BitVec.eq_of_toNat_eq
    simp only [BitVec.toNat_ushiftRight, Nat.shiftRight_eq_div_pow]
    have := t.isLt
    simp; omega
  have s16 : t >>> 8 >>> 8 = t >>> 16 := by rw [← BitVec.shiftRight_add]
  have s24 : t >>> 8 >>> 8 >>> 8 = t >>> 24 := by rw [← BitVec.shiftRight_add, ← BitVec.shiftRight_add]
  have e0 := adv 0#32 t
  rw [BitVec.zero_xor] at e0
  rw [h32, e0, adv, adv, adv, z, BitVec.xor_zero, s24, s16]
  rfl
theorem steps_zero (n : Nat) : steps n 0#32 = 0#32 := by
  induction n with
  | zero => rfl
  | succ n ih => show steps n (step 0#32) = _; rw [step_zero]; exact ih

/-- FOUR NEIGHBOURING BYTES. -/
theorem addS_turned (p s : List Int) (f g : List Int) (t : BitVec 32) (ht : t ≠ 0#32) (hf : Bytes f) (hlen : f.length = 4)
    (hg : g = List.zipWith xr f [u (t &&& 255#32), u ((t >>> 8) &&& 255#32), u ((t >>> 16) &&& 255#32), u ((t >>> 24) &&& 255#32)]) :
    addS 0 (p ++ g ++ s) ≠ addS 0 (p ++ f ++ s) := by
  intro h
  unfold addS at h
  have h := not_inj (u_inj h)
  rw [run_append, run_append, run_append, run_append] at h
  have h := run_inj s h
  generalize run (~~~ BitVec.ofInt 32 0) p = c at h
  have hb : Bytes [u (t &&& 255#32), u ((t >>> 8) &&& 255#32), u ((t >>> 16) &&& 255#32), u ((t >>> 24) &&& 255#32)] := by
    have : ∀ a : BitVec 32, 0 ≤ u (a &&& 255#32) ∧ u (a &&& 255#32) < 256 := by
      intro a
      refine ⟨u_lo _, ?_⟩
      unfold u; rw [BitVec.toNat_and]
      have : a.toNat &&& (255#32).toNat < 2 ^ 8 := Nat.and_lt_two_pow _ (by decide)
      omega
    intro x hx
    simp only [List.mem_cons, List.not_mem_nil, or_false] at hx
    rcases hx with rfl | rfl | rfl | rfl <;> exact this _
  have e := run_xor f [u (t &&& 255#32), u ((t >>> 8) &&& 255#32), u ((t >>> 16) &&& 255#32), u ((t >>> 24) &&& 255#32)] c 0#32 hlen hf hb
  rw [BitVec.xor_zero, ← hg, run_four, h] at e
  have e2 := congrArg (fun z => run c f ^^^ z) e
  simp only [BitVec.xor_self, ← BitVec.xor_assoc, BitVec.zero_xor] at e2
  have : steps 32 t = steps 32 0#32 := by rw [steps_zero]; exact e2.symm
  exact ht (steps_inj 32 this)
/-- ONE BYTE. -/
theorem addS_one (p s : List Int) (x y : Int) (hx : 0 ≤ x ∧ x < 256) (hy : 0 ≤ y ∧ y < 256) (h : addS 0 (p ++ [x] ++ s) = addS 0 (p ++ [y] ++ s)) : x = y := by
  unfold addS at h
  have h := not_inj (u_inj h)
  rw [run_append, run_append, run_append, run_append] at h
  have h := run_inj s h
  have h := steps_inj 8 h
  generalize run (~~~ BitVec.ofInt 32 0) p = c at h
  have h2 := congrArg (fun z => c ^^^ z) h
  simp only [← BitVec.xor_assoc, BitVec.xor_self, BitVec.zero_xor] at h2
  rw [← u_of x hx.1 (by omega), ← u_of y hy.1 (by omega), h2]
end Go.Proofs.Ythoebkkohdfgeaa.Plain
