/- The reference's sum, bit by bit, the highest bit first, is the same: 'addS'. -/
import Derived.Test.YthoebkkohdfgeaaCrcFnB
import Derived.Test.YthoebkkohdfgeaaX17
namespace Go.Proofs.Ythoebkkohdfgeaa.Plain
open Go Go.RowKit Go.Proofs.Ythoebkkohdfgeaa.X Go.Proofs.YthoebkkohdfgeaaW.PrintWords Go.Proofs.YthoebkkohdfgeaaW.PrintMore

theorem shr_u (c : BitVec 32) (i : Nat) (hi : i ≤ 32) : shr .u32 (u c) (i : Int) = u (c >>> i) := by
  unfold shr u
  rw [Int.toNat_natCast, show IntKind.u32.bits = 32 from rfl, Nat.min_eq_left hi, BitVec.toNat_ushiftRight, Nat.shiftRight_eq_div_pow]
  simp
theorem shl_one (i : Nat) (hi : i < 32) : shl .u32 1 (i : Int) = u (1#32 <<< i) := by
  unfold shl
  rw [Int.toNat_natCast, show IntKind.u32.bits = 32 from rfl, Nat.min_eq_left (by omega), IntKind.wrap_u32]
  unfold u
  rw [BitVec.toNat_shiftLeft, Nat.shiftLeft_eq]
  simp
theorem bit_u (c : BitVec 32) (i : Nat) (hi : i ≤ 32) : (bits .and .u32 (shr .u32 (u c) (i : Int)) 1 = 1) ↔ c.getLsbD i = true := by
  rw [shr_u c i hi, low_u, BitVec.getLsbD_ushiftRight, Nat.add_zero]
def revTo (c : BitVec 32) : Nat → BitVec 32
  | 0 => 0#32
  | i + 1 => if c.getLsbD i then revTo c i ||| (1#32 <<< (31 - i)) else revTo c i
theorem revTo_bit (c : BitVec 32) : ∀ (i : Nat), i ≤ 32 → ∀ j, j < 32 → (revTo c i).getLsbD j = (decide (31 - j < i) && c.getLsbD (31 - j)) := by
  intro i
  induction i with
  | zero => intro _ j hj; simp [revTo]
  | succ i ih =>
    intro hi j hj
    have h := ih (by omega) j hj
    unfold revTo
    have hone : (1#32 <<< (31 - i)).getLsbD j = decide (j = 31 - i) := by
      rw [BitVec.getLsbD_shiftLeft]
      by_cases e : j = 31 - i
      · subst e; simp [hj]
      · by_cases l : j < 31 - i
        · simp [l, e]
        · have : j - (31 - i) ≠ 0 := by omega
          rw [BitVec.getLsbD_one]; simp [this, e]
    cases hc : c.getLsbD i
    · simp only [Bool.false_eq_true, if_false]
      rw [h]
      by_cases e : 31 - j = i
      · rw [e, hc]; simp
      · have : decide (31 - j < i + 1) = decide (31 - j < i) := by rw [decide_eq_decide]; omega
        rw [this]
    · simp only [if_true]
      rw [BitVec.getLsbD_or, h, hone]
      by_cases e : 31 - j = i
      · have h1 : j = 31 - i := by omega
        rw [decide_eq_true h1, e, hc]; simp
      · have h1 : ¬ j = 31 - i := by omega
        have : decide (31 - j < i + 1) = decide (31 - j < i) := by rw [decide_eq_decide]; omega
        rw [this, decide_eq_false h1, Bool.or_false]
theorem revTo_is (c : BitVec 32) : revTo c 32 = c.reverse := by
  apply BitVec.eq_of_getLsbD_eq
  intro j hj
  rw [revTo_bit c 32 (Nat.le_refl _) j hj, BitVec.getLsbD_reverse, BitVec.getMsbD, decide_eq_true (by omega : 31 - j < 32), decide_eq_true hj]
theorem turned_l0 (c : BitVec 32) (d : Nat) : ∀ i : Nat, i + d = 32 → strakeref01_turned.l0 (d + 1) (u c) (u (revTo c i)) (i : Int) = some (u c.reverse) := by
  induction d with
  | zero =>
    intro i hi
    rw [strakeref01_turned.l0, if_neg (by omega)]
    obtain rfl : i = 32 := by omega
    rw [revTo_is]
  | succ d ih =>
    intro i hi
    have h := ih (i + 1) (by omega)
    have hw : wrap64 ((i : Int) + 1) = ((i + 1 : Nat) : Int) := by rw [wrap_in (by omega) (by omega)]; rfl
    have hv : wrap64 (31 - (i : Int)) = ((31 - i : Nat) : Int) := by rw [wrap_in (by omega) (by omega)]; omega
    rw [strakeref01_turned.l0, if_pos (by omega), if_pos (by omega), hw, hv]
    unfold revTo at h
    by_cases hb : c.getLsbD i = true
    · rw [if_pos ((bit_u c i (by omega)).2 hb), if_pos (by omega), shl_one _ (by omega), or_u]
      rw [if_pos hb] at h; exact h
    · rw [if_neg (fun hh => hb ((bit_u c i (by omega)).1 hh))]
      rw [if_neg hb] at h; exact h
theorem turned_is (c : BitVec 32) : Ev (fun k => strakeref01_turned.f k (u c)) (u c.reverse) :=
  Ev.of (strakeref01_turned.mono (u c)) (k := 33) (turned_l0 c 32 0 (by omega))

theorem rev_shl (a : BitVec 32) : a.reverse <<< 1 = (a >>> 1).reverse := by
  apply BitVec.eq_of_getLsbD_eq
  intro j hj
  rw [BitVec.getLsbD_shiftLeft, BitVec.getLsbD_reverse, BitVec.getLsbD_reverse, BitVec.getMsbD, BitVec.getMsbD, BitVec.getLsbD_ushiftRight]
  match j with
  | 0 => simp
  | j + 1 =>
    have h1 : 32 - 1 - (j + 1 - 1) = 1 + (32 - 1 - (j + 1)) := by omega
    rw [h1]; simp [hj]; intro _; omega
theorem rev_xor (a b : BitVec 32) : a.reverse ^^^ b.reverse = (a ^^^ b).reverse := by
  apply BitVec.eq_of_getLsbD_eq
  intro j hj
  simp only [BitVec.getLsbD_xor, BitVec.getLsbD_reverse, BitVec.getMsbD, decide_eq_true hj, Bool.true_and]
theorem rev_rev (a : BitVec 32) : a.reverse.reverse = a := by
  apply BitVec.eq_of_getLsbD_eq
  intro j hj
  simp only [BitVec.getLsbD_reverse, BitVec.getMsbD, decide_eq_true hj, Bool.true_and]
  rw [decide_eq_true (by omega : 32 - 1 - j < 32), Bool.true_and]
  congr 1; omega
theorem rev_top (a : BitVec 32) : u a.reverse / 2147483648 = if a.getLsbD 0 then 1 else 0 := by
  have h : a.getLsbD 0 = a.reverse.getLsbD 31 := by
    rw [BitVec.getLsbD_reverse, BitVec.getMsbD]; rfl
  rw [h]
  have hm : a.reverse.getLsbD 31 = decide (2147483648 ≤ a.reverse.toNat) := by
    have := BitVec.msb_eq_decide a.reverse
    rw [BitVec.msb_eq_getLsbD_last] at this
    simpa using this
  have := a.reverse.isLt
  unfold u
  rw [hm]
  by_cases hh : 2147483648 ≤ a.reverse.toNat
  · rw [decide_eq_true hh, if_pos rfl]; omega
  · rw [decide_eq_false hh, if_neg (by decide)]; omega
theorem dbl_u (a : BitVec 32) : (u a * (2 : Int)) % (4294967296 : Int) = u (a <<< 1) := by
  unfold u
  rw [BitVec.toNat_shiftLeft, Nat.shiftLeft_eq]
  omega
theorem bit_u8 (x : Int) (h0 : 0 ≤ x) (h1 : x < 256) (k : Nat) (hk : k < 8) : (bits .and .u8 (shr .u8 x (k : Int)) 1) % 4294967296 = if (BitVec.ofInt 32 x).getLsbD k then 1 else 0 := by
  have hs : shr .u8 x (k : Int) = x / 2 ^ k := by
    unfold shr; rw [Int.toNat_natCast, show IntKind.u8.bits = 8 from rfl, Nat.min_eq_left (by omega)]
  obtain ⟨n, rfl⟩ := Int.eq_ofNat_of_zero_le h0
  have hd : ((n : Int) / 2 ^ k) = ((n / 2 ^ k : Nat) : Int) := by simp
  have hlt : n / 2 ^ k < 256 := Nat.lt_of_le_of_lt (Nat.div_le_self _ _) (by omega)
  rw [hs, hd, BitVec.ofInt_natCast, BitVec.getLsbD_ofNat, decide_eq_true (by omega : k < 32), Bool.true_and, Nat.testBit_eq_decide_div_mod_eq]
  generalize n / 2 ^ k = q at hlt
  have hm := bits_mask .u8 8 (by decide) wraps_u8 1 (by decide) (q : Int) (by omega) (by omega)
  have hm' : bits .and .u8 (q : Int) 1 = (q : Int) % 2 := hm
  rw [hm']
  by_cases e : q % 2 = 1
  · rw [decide_eq_true e, if_pos rfl]; omega
  · rw [decide_eq_false e, if_neg (by decide)]; omega

theorem ref_l1 (l : List Int) (i : Nat) (hi : i < l.length) (hb : Bytes l) (hl : l.length ≤ 140737488351232) (r : Int) (d : Nat) : ∀ (k : Nat) (c : BitVec 32) (K : Nat), k + d = 8 →
    strakeref01_Add.l0 K l (u (steps d c ^^^ (BitVec.ofInt 32 (rd l i) >>> 8)).reverse) ((i + 1 : Nat) : Int) = some r →
    strakeref01_Add.l1 (K + d + 1) l (u (c ^^^ (BitVec.ofInt 32 (rd l i) >>> k)).reverse) (i : Int) (k : Int) = some r := by
  have hx := rd_bytes hb hi
  induction d with
  | zero =>
    intro k c K hk h
    obtain rfl : k = 8 := by omega
    rw [strakeref01_Add.l1, if_neg (by omega), wrap_in (by omega) (by omega)]
    exact h
  | succ d ih =>
    intro k c K hk h
    have hk8 : k < 8 := by omega
    have hw : wrap64 ((k : Int) + 1) = ((k + 1 : Nat) : Int) := by rw [wrap_in (by omega) (by omega)]; rfl
    show strakeref01_Add.l1 ((K + d + 1) + 1) l _ (i : Int) (k : Int) = some r
    rw [strakeref01_Add.l1, if_pos (by omega), if_pos (by omega), if_pos (by omega), if_pos (by omega), rev_top, bit_u8 _ hx.1 hx.2 k hk8, hw, dbl_u, rev_shl]
    have hsh : (c ^^^ BitVec.ofInt 32 (rd l i) >>> k) >>> 1 = (c >>> 1) ^^^ (BitVec.ofInt 32 (rd l i) >>> (k + 1)) := by
      rw [BitVec.ushiftRight_xor_distrib, BitVec.shiftRight_add]
    have h0 : (c ^^^ BitVec.ofInt 32 (rd l i) >>> k).getLsbD 0 = (c.getLsbD 0 ^^ (BitVec.ofInt 32 (rd l i)).getLsbD k) := by
      rw [BitVec.getLsbD_xor, BitVec.getLsbD_ushiftRight, Nat.add_zero]
    rw [hsh, h0]
    have hn := ih (k + 1) (step c) K (by omega) h
    cases hc : c.getLsbD 0
    · have hs : step c = c >>> 1 := by unfold step; rw [hc]; simp
      rw [hs] at hn
      rw [Bool.false_xor, if_pos rfl]; exact hn
    · have hs : step c = (c >>> 1) ^^^ 0xEDB88320#32 := by unfold step; rw [hc]; simp
      rw [hs] at hn
      have hne : ¬ ((if (true ^^ (BitVec.ofInt 32 (rd l i)).getLsbD k) = true then (1 : Int) else 0) = if (BitVec.ofInt 32 (rd l i)).getLsbD k = true then 1 else 0) := by
        cases (BitVec.ofInt 32 (rd l i)).getLsbD k <;> decide
      rw [if_neg hne]
      have hp : (79764919 : Int) = u (0xEDB88320#32).reverse := by decide +kernel
      rw [hp, xor_u, rev_xor, BitVec.xor_assoc, BitVec.xor_comm (BitVec.ofInt 32 (rd l i) >>> (k + 1)), ← BitVec.xor_assoc]
      exact hn
theorem ref_l0 (l : List Int) (hb : Bytes l) (hl : l.length ≤ 140737488351232) (d : Nat) : ∀ (c : BitVec 32) (i : Nat), i + d = l.length →
    Ev (fun k => strakeref01_Add.l0 k l (u c.reverse) (i : Int)) (u (~~~ run c (l.drop i))) := by
  induction d with
  | zero =>
    intro c i hi
    rw [List.drop_eq_nil_of_le (by omega)]
    refine Ev.step (f := fun k => (strakeref01_turned.f k (u c.reverse)).bind fun t108 => some (bits .xor .u32 4294967295 t108)) (fun k => ?_) ?_
    · rw [strakeref01_Add.l0, if_neg (by omega)]
    · refine Ev.bind (turned_is _) ?_
      rw [rev_rev, not_u]; exact Ev.now _
  | succ d ih =>
    intro c i hi
    have hlt : i < l.length := by omega
    have hx := rd_bytes hb hlt
    have hz : BitVec.ofInt 32 (rd l i) >>> 8 = 0#32 := by
      apply BitVec.eq_of_toNat_eq
      rw [BitVec.toNat_ushiftRight, BitVec.toNat_ofInt, Nat.shiftRight_eq_div_pow]
      simp
      omega
    obtain ⟨K, hK⟩ := ih (byte c (rd l i)) (i + 1) (by omega)
    refine ⟨K + 8 + 1 + 1, fun k hk => ?_⟩
    obtain ⟨m, rfl⟩ : ∃ m, k = (m + 8 + 1) + 1 := ⟨k - 10, by omega⟩
    show strakeref01_Add.l0 ((m + 8 + 1) + 1) l _ _ = _
    rw [strakeref01_Add.l0, if_pos (by omega)]
    have h := ref_l1 l i hlt hb hl (u (~~~ run (byte c (rd l i)) (l.drop (i + 1)))) 8 0 (c ^^^ BitVec.ofInt 32 (rd l i)) m (by omega)
      (by rw [hz, BitVec.xor_zero]; exact hK m (by omega))
    rw [BitVec.ushiftRight_zero, BitVec.xor_assoc, BitVec.xor_self, BitVec.xor_zero] at h
    refine h.trans ?_
    rw [List.drop_eq_getElem_cons hlt, ← rd_get hlt]
    rfl
theorem ref_Add_is (c : Int) (h0 : 0 ≤ c) (h1 : c < 4294967296) (l : List Int) (hb : Bytes l) (hl : l.length ≤ 140737488351232) : Ev (fun k => strakeref01_Add.f k c l) (addS c l) := by
  unfold strakeref01_Add.f
  have e : bits .xor .u32 4294967295 c = u (~~~ BitVec.ofInt 32 c) := by rw [← not_u, u_of c h0 h1]
  rw [e]
  exact Ev.bind (turned_is _) (ref_l0 l hb hl l.length (~~~ BitVec.ofInt 32 c) 0 (by omega))
theorem ref_Sum_is (l : List Int) (hb : Bytes l) (hl : l.length ≤ 140737488351232) : Ev (fun k => strakeref01_Sum.f k l) (addS 0 l) := by
  unfold strakeref01_Sum.f
  exact Ev.bind (ref_Add_is 0 (by omega) (by omega) l hb hl) (Ev.now _)
end Go.Proofs.Ythoebkkohdfgeaa.Plain
