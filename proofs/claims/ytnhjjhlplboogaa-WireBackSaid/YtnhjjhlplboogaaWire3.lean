/- What reading a number comes to, in the program and in the reference: 'tk'. -/
import Derived.Test.YtnhjjhlplboogaaWire2
import Derived.Test.YtnhjjhlplboogaaX4
import Derived.Test.YtnhjjhlplboogaaX1
import Derived.Test.YtnhjjhlplboogaaX4
namespace Go.Proofs.Ytnhjjhlplboogaa.Plain
open Go Go.RowKit Go.Proofs.Ytnhjjhlplboogaa.X Go.Proofs.YtnhjjhlplboogaaW.PrintWords Go.Proofs.YtnhjjhlplboogaaW.PrintMore

/-- what is told, of what was read so far and what is read on -/
def res (V i : Nat) : Option (Nat × Nat) → Int × Int × Int
  | none => (0, 0, 3)
  | some (n, k) => if 0 < i ∧ n = 0 then (0, 0, 3) else ((V + 2 ^ (7 * i) * n : Nat), ((i + k : Nat) : Int), 0)
theorem res_some (V i n k : Nat) : res V i (some (n, k)) = if 0 < i ∧ n = 0 then ((0, 0, 3) : Int × Int × Int) else (((V + 2 ^ (7 * i) * n : Nat) : Int), ((i + k : Nat) : Int), (0 : Int)) := rfl
theorem pow_seven (i : Nat) : 2 ^ (7 * (i + 1)) = 128 * 2 ^ (7 * i) := by rw [Nat.mul_add, Nat.pow_add, Nat.mul_comm]
theorem res_more (V i e n k : Nat) (hn : n ≠ 0) : res (V + 2 ^ (7 * i) * e) (i + 1) (some (n, k)) = res V i (some (128 * n + e, k + 1)) := by
  rw [res_some, res_some, if_neg (by omega), if_neg (by omega), pow_seven]
  have e1 : 2 ^ (7 * i) * (128 * n + e) = 128 * 2 ^ (7 * i) * n + 2 ^ (7 * i) * e := by
    rw [Nat.mul_add, ← Nat.mul_assoc, Nat.mul_comm (2 ^ (7 * i)) 128]
  rw [e1]
  simp only [Prod.mk.injEq, and_true]
  constructor <;> omega
theorem res_step (V i : Nat) (d : Int) (hd : 128 ≤ d) (f : Nat) (l : List Int) : res (V + 2 ^ (7 * i) * (d - 128).toNat) (i + 1) (takeS f l) = res V i (takeS (f + 1) (d :: l)) := by
  simp only [takeS]
  rw [if_neg (by omega)]
  cases h : takeS f l with
  | none => rfl
  | some p =>
    obtain ⟨n, k⟩ := p
    simp only [Option.bind_some]
    by_cases hn : n = 0
    · rw [if_pos hn, hn, res_some, if_pos ⟨by omega, rfl⟩]; rfl
    · rw [if_neg hn, res_more V i _ n k hn]
theorem pow_le (i : Nat) (hi : i ≤ 8) : 2 ^ (7 * i) ≤ 72057594037927936 := by
  have : 2 ^ (7 * i) ≤ 2 ^ 56 := Nat.pow_le_pow_right (by omega) (by omega)
  omega
/-- the bits of two numbers, one above the other -/
theorem or_add (k : IntKind) (hk : 63 ≤ k.bits) (hw : ∀ n : Int, 0 ≤ n → n < 2 ^ 63 → k.wrap n = n) (V i d : Nat) (hi : i ≤ 8) (hV : V < 2 ^ (7 * i)) (hd : d < 128) :
    bits .or k (V : Int) ((2 ^ (7 * i) * d : Nat) : Int) = ((V + 2 ^ (7 * i) * d : Nat) : Int) := by
  have hp := pow_le i hi
  have h1 : 2 ^ (7 * i) * d ≤ 72057594037927936 * 127 := Nat.mul_le_mul hp (by omega)
  rw [(bits_nat k 63 hk hw V (2 ^ (7 * i) * d) (by omega) (by omega)).2, Nat.or_comm, ← Nat.two_pow_add_eq_or_of_lt hV, Nat.add_comm]
theorem wraps_i64 (n : Int) (h₀ : 0 ≤ n) (h₁ : n < 2 ^ 63) : IntKind.i64.wrap n = n := by rw [IntKind.wrap_i64]; omega
theorem wraps_u64 (n : Int) (h₀ : 0 ≤ n) (h₁ : n < 2 ^ 63) : IntKind.u64.wrap n = n := by simp [IntKind.wrap, IntKind.bits, IntKind.signed]; omega
theorem shl_dig (k : IntKind) (hk : 63 ≤ k.bits) (hw : ∀ n : Int, 0 ≤ n → n < 2 ^ 63 → k.wrap n = n) (i d : Nat) (hi : i ≤ 8) (hd : d < 128) :
    shl k (d : Int) ((7 * i : Nat) : Int) = ((2 ^ (7 * i) * d : Nat) : Int) := by
  have hp := pow_le i hi
  have h1 : 2 ^ (7 * i) * d ≤ 72057594037927936 * 127 := Nat.mul_le_mul hp (by omega)
  unfold shl
  rw [Int.toNat_natCast, Nat.min_eq_left (by omega)]
  have e : (d : Int) * 2 ^ (7 * i) = ((2 ^ (7 * i) * d : Nat) : Int) := by rw [Int.natCast_mul, Int.natCast_pow, Int.mul_comm]; rfl
  rw [e, hw _ (by omega) (by omega)]
theorem val_lt (V i d : Nat) (hi : i ≤ 8) (hV : V < 2 ^ (7 * i)) (hd : d < 128) : V + 2 ^ (7 * i) * d < 9223372036854775808 := by
  have hp := pow_le i hi
  have h1 : 2 ^ (7 * i) * d ≤ 72057594037927936 * 127 := Nat.mul_le_mul hp (by omega)
  omega
theorem wrap_nat {n : Nat} (h : n < 9223372036854775808) : wrap64 (n : Int) = (n : Int) := wrap_in (by omega) (by omega)
theorem take_l0 (b : List Int) (hb : Bytes b) (f : Nat) : ∀ (V i : Nat), i + f = 9 → i ≤ b.length → V < 2 ^ (7 * i) →
    Ev (fun K => wire_TakeNumber.l0 K b (V : Int) (i : Int)) (res V i (takeS f (b.drop i))) := by
  have stop : ∀ (V i : Nat), Ev (fun K => wire_TakeNumber.j1 K b (V : Int) (i : Int) true) (0, 0, 3) := fun V i =>
    Ev.step (f := fun _ => some (0, 0, 3)) (fun K => by rw [wire_TakeNumber.j1, if_pos rfl]) (Ev.now _)
  induction f with
  | zero =>
    intro V i hi _ hV
    obtain rfl : i = 9 := by omega
    refine Ev.step (f := fun K => wire_TakeNumber.j1 K b (V : Int) ((9 : Nat) : Int) true) (fun K => ?_) (stop V 9)
    rw [wire_TakeNumber.l0]
    by_cases h : ((9 : Nat) : Int) ≥ (b.length : Int)
    · rw [if_pos h]
    · rw [if_neg h, decide_eq_true (by omega)]
  | succ f ih =>
    intro V i hi hil hV
    by_cases h : i = b.length
    · rw [List.drop_eq_nil_of_le (by omega)]
      refine Ev.step (f := fun K => wire_TakeNumber.j1 K b (V : Int) (i : Int) true) (fun K => ?_) (stop V i)
      rw [wire_TakeNumber.l0, if_pos (by omega)]
    · have hlt : i < b.length := by omega
      have hd := hb _ (List.getElem_mem hlt)
      have hw1 : wrap64 ((i : Int) + 1) = ((i + 1 : Nat) : Int) := by rw [wrap_in (by omega) (by omega)]; rfl
      have hw7 : wrap64 (7 * (i : Int)) = ((7 * i : Nat) : Int) := by rw [wrap_in (by omega) (by omega)]; omega
      have go : ∀ K, wire_TakeNumber.l0 (K + 1) b (V : Int) (i : Int) = wire_TakeNumber.j1 K b (V : Int) (i : Int) false := by
        intro K; rw [wire_TakeNumber.l0, if_neg (by omega), decide_eq_false (by omega)]
      rw [List.drop_eq_getElem_cons hlt]
      have hm : wrap64 (Int.tmod b[i] 128) = ((b[i] % 128).toNat : Int) := by
        rw [Int.tmod_eq_emod_of_nonneg hd.1, wrap_in (by omega) (by omega)]; omega
      by_cases h1 : b[i] < 128
      · have e2 : (b[i] % 128).toNat = b[i].toNat := by omega
        have hor := or_add .i64 (by decide) wraps_i64 V i b[i].toNat (by omega) hV (by omega)
        have hsh := shl_dig .i64 (by decide) wraps_i64 i b[i].toNat (by omega) (by omega)
        have ht : takeS (f + 1) (b[i] :: b.drop (i + 1)) = some (b[i].toNat, 1) := by simp only [takeS]; rw [if_pos h1]
        rw [ht]
        refine Ev.step go (Ev.step (f := fun _ => some (res V i (some (b[i].toNat, 1)))) (fun K => ?_) (Ev.now _))
        rw [wire_TakeNumber.j1, if_neg (by decide), if_pos (by omega), if_pos (by omega), hw7, if_pos (by omega), rd_get hlt, if_pos h1, hm, e2, hsh, hor, hw1]
        rw [res_some]
        by_cases h0 : b[i] = 0
        · rw [if_pos h0]
          by_cases hi0 : 0 < i
          · rw [if_pos (by omega), if_pos ⟨hi0, by omega⟩]
          · rw [if_neg (by omega), if_neg (by omega)]
        · rw [if_neg h0, if_neg (by omega)]
      · have e2 : (b[i] % 128).toNat = (b[i] - 128).toNat := by omega
        have hor := or_add .i64 (by decide) wraps_i64 V i (b[i] - 128).toNat (by omega) hV (by omega)
        have hsh := shl_dig .i64 (by decide) wraps_i64 i (b[i] - 128).toNat (by omega) (by omega)
        rw [← res_step V i b[i] (by omega) f (b.drop (i + 1))]
        refine Ev.step go (Ev.step (fun K => ?_) (ih (V + 2 ^ (7 * i) * (b[i] - 128).toNat) (i + 1) (by omega) (by omega) ?_))
        · rw [wire_TakeNumber.j1, if_neg (by decide), if_pos (by omega), if_pos (by omega), hw7, if_pos (by omega), rd_get hlt, if_neg h1, hm, e2, hsh, hor, hw1]
        · rw [pow_seven]
          have : 2 ^ (7 * i) * (b[i] - 128).toNat ≤ 2 ^ (7 * i) * 127 := Nat.mul_le_mul_left _ (by omega)
          omega
theorem res_zero (o : Option (Nat × Nat)) : res 0 0 o = match o with | none => (0, 0, 3) | some (n, k) => ((n : Int), (k : Int), 0) := by
  cases o with
  | none => rfl
  | some p => obtain ⟨n, k⟩ := p; rw [res_some]; simp
theorem take_is (b : List Int) (hb : Bytes b) : Ev (fun K => wire_TakeNumber.f K b) (tk b) := by
  have h := take_l0 b hb 9 0 0 rfl (by omega) (by decide)
  rw [List.drop_zero, res_zero] at h
  exact h
/-! the reference -/
theorem one_is (n : Nat) : n < 9223372036854775808 → Ev (fun K => strakeref02_One.f K (n : Int)) (vi n) := by
  induction n using Nat.strongRecOn with
  | _ n ih =>
    intro hn
    by_cases h1 : n < 128
    · rw [vi_small h1]
      refine Ev.step (f := fun _ => some [(n : Int)]) (fun K => ?_) (Ev.now _)
      rw [strakeref02_One.f, if_pos (by omega), Int.emod_eq_of_lt (by omega) (by omega)]
    · rw [vi_big (by omega)]
      have hd : Int.tdiv (n : Int) 128 = ((n / 128 : Nat) : Int) := by rw [Int.tdiv_eq_ediv_of_nonneg (by omega)]; omega
      have ht : Int.tmod (n : Int) 128 = ((n % 128 : Nat) : Int) := by rw [Int.tmod_eq_emod_of_nonneg (by omega)]; omega
      have hw : wrap64 ((n / 128 : Nat) : Int) = ((n / 128 : Nat) : Int) := wrap_in (by omega) (by omega)
      have e : wrap64 (((n % 128 : Nat) : Int) + 128) % 256 = ((n % 128 + 128 : Nat) : Int) := by rw [wrap_in (by omega) (by omega)]; omega
      have h9 := @vi_nine (n / 128) (by omega)
      refine Ev.step (f := fun K => (strakeref02_One.f K ((n / 128 : Nat) : Int)).bind fun t => if ([((n % 128 + 128 : Nat) : Int)] : List Int).length + t.length < 140737488355328 then some ([((n % 128 + 128 : Nat) : Int)] ++ t) else none) (fun K => ?_) ?_
      · rw [strakeref02_One.f, if_neg (by omega), hd, ht, hw, e]; simp only [Option.bind_some]
      · refine Ev.bind (ih (n / 128) (by omega) (by omega)) ?_
        rw [if_pos (by simp only [List.length_cons, List.length_nil]; omega)]
        exact Ev.now _
theorem vi_last (n : Nat) : ∀ p : List Int, vi n = p ++ [0] → n = 0 := by
  induction n using Nat.strongRecOn with
  | _ n ih =>
    intro p h
    by_cases h1 : n < 128
    · rw [vi_small h1] at h
      cases p with
      | nil => simp at h; omega
      | cons x p => simp at h
    · rw [vi_big (by omega)] at h
      cases p with
      | nil => simp at h; omega
      | cons x p =>
        simp only [List.cons_append, List.cons.injEq] at h
        have := ih (n / 128) (by omega) p h.2
        omega
theorem rtake_l0 (b : List Int) (hb : Bytes b) (f : Nat) : ∀ (V i : Nat), i + f = 9 → i ≤ b.length → V < 2 ^ (7 * i) →
    (∀ n, n ≠ 0 ∨ i = 0 → vi (V + 2 ^ (7 * i) * n) = b.take i ++ vi n) →
    Ev (fun K => strakeref02_TakeNumber.l0 K b (V : Int) (i : Int)) (res V i (takeS f (b.drop i))) := by
  have stop : ∀ (V i : Nat), Ev (fun K => strakeref02_TakeNumber.j1 K b (V : Int) (i : Int) false) (0, 0, 3) := fun V i =>
    Ev.step (f := fun _ => some (0, 0, 3)) (fun K => by rw [strakeref02_TakeNumber.j1, if_neg (by decide)]) (Ev.now _)
  induction f with
  | zero =>
    intro V i hi _ hV _
    obtain rfl : i = 9 := by omega
    refine Ev.step (f := fun K => strakeref02_TakeNumber.j1 K b (V : Int) ((9 : Nat) : Int) false) (fun K => ?_) (stop V 9)
    rw [strakeref02_TakeNumber.l0]
    by_cases h : ((9 : Nat) : Int) < (b.length : Int)
    · rw [if_pos h, decide_eq_false (by omega)]
    · rw [if_neg h]
  | succ f ih =>
    intro V i hi hil hV hpre
    by_cases h : i = b.length
    · rw [List.drop_eq_nil_of_le (by omega)]
      refine Ev.step (f := fun K => strakeref02_TakeNumber.j1 K b (V : Int) (i : Int) false) (fun K => ?_) (stop V i)
      rw [strakeref02_TakeNumber.l0, if_neg (by omega)]
    · have hlt : i < b.length := by omega
      have hd := hb _ (List.getElem_mem hlt)
      have hw1 : wrap64 ((i : Int) + 1) = ((i + 1 : Nat) : Int) := by rw [wrap_in (by omega) (by omega)]; rfl
      have hw7 : wrap64 (7 * (i : Int)) = ((7 * i : Nat) : Int) := by rw [wrap_in (by omega) (by omega)]; omega
      have go : ∀ K, strakeref02_TakeNumber.l0 (K + 1) b (V : Int) (i : Int) = strakeref02_TakeNumber.j1 K b (V : Int) (i : Int) true := by
        intro K; rw [strakeref02_TakeNumber.l0, if_pos (by omega), decide_eq_true (by omega)]
      have htake := List.take_succ_eq_append_getElem hlt
      rw [List.drop_eq_getElem_cons hlt]
      have hm : IntKind.u64.wrap (Int.tmod b[i] 128) = ((b[i] % 128).toNat : Int) := by
        rw [Int.tmod_eq_emod_of_nonneg hd.1, wraps_u64 _ (by omega) (by omega)]; omega
      by_cases h1 : b[i] < 128
      · have e2 : (b[i] % 128).toNat = b[i].toNat := by omega
        have hor := or_add .u64 (by decide) wraps_u64 V i b[i].toNat (by omega) hV (by omega)
        have hsh := shl_dig .u64 (by decide) wraps_u64 i b[i].toNat (by omega) (by omega)
        have ht : takeS (f + 1) (b[i] :: b.drop (i + 1)) = some (b[i].toNat, 1) := by simp only [takeS]; rw [if_pos h1]
        rw [ht]
        have hv := hpre b[i].toNat
        rw [res_some]
        have hbd := val_lt V i b[i].toNat (by omega) hV (by omega)
        generalize V + 2 ^ (7 * i) * b[i].toNat = m at hor hv hbd ⊢
        have hwv := wrap_nat hbd
        refine Ev.step go (Ev.step (f := fun K => (strakeref02_One.f K (m : Int)).bind fun t => if (strOfNums t).toList = (strOfNums (b.take (i + 1))).toList then some ((m : Int), ((i + 1 : Nat) : Int), 0) else some (0, 0, 3)) (fun K => ?_) ?_)
        · rw [strakeref02_TakeNumber.j1, if_pos rfl, if_pos (by omega), if_pos (by omega), hw7, if_pos (by omega), rd_get hlt, if_pos h1, hm, e2, hsh, hor, hw1, hwv]
          simp only [if_pos (show (0 : Int) ≤ ((i + 1 : Nat) : Int) by omega), if_pos (show ((i + 1 : Nat) : Int) ≤ (b.length : Int) by omega), Int.toNat_natCast]
        · refine Ev.bind (one_is m hbd) ?_
          by_cases h0 : 0 < i ∧ b[i].toNat = 0
          · rw [if_pos h0, if_neg]
            · exact Ev.now _
            · intro e
              have e := str_inj (vi_bytes _) (hb.take _) e
              rw [htake, show b[i] = 0 by omega] at e
              have hz := vi_last _ _ e
              have hlen := congrArg List.length e
              rw [hz, vi_small (by omega)] at hlen
              simp only [List.length_append, List.length_take, List.length_cons, List.length_nil] at hlen
              omega
          · rw [if_neg h0, if_pos]
            · exact Ev.now _
            · rw [hv (by omega), vi_small (by omega), htake, Int.toNat_of_nonneg hd.1]
      · have e2 : (b[i] % 128).toNat = (b[i] - 128).toNat := by omega
        have hor := or_add .u64 (by decide) wraps_u64 V i (b[i] - 128).toNat (by omega) hV (by omega)
        have hsh := shl_dig .u64 (by decide) wraps_u64 i (b[i] - 128).toNat (by omega) (by omega)
        rw [← res_step V i b[i] (by omega) f (b.drop (i + 1))]
        refine Ev.step go (Ev.step (fun K => ?_) (ih (V + 2 ^ (7 * i) * (b[i] - 128).toNat) (i + 1) (by omega) (by omega) ?_ ?_))
        · rw [strakeref02_TakeNumber.j1, if_pos rfl, if_pos (by omega), if_pos (by omega), hw7, if_pos (by omega), rd_get hlt, if_neg h1, hm, e2, hsh, hor, hw1]
        · rw [pow_seven]
          have : 2 ^ (7 * i) * (b[i] - 128).toNat ≤ 2 ^ (7 * i) * 127 := Nat.mul_le_mul_left _ (by omega)
          omega
        · intro n hn
          have hn : n ≠ 0 := by omega
          have e1 : V + 2 ^ (7 * i) * (b[i] - 128).toNat + 2 ^ (7 * (i + 1)) * n = V + 2 ^ (7 * i) * (128 * n + (b[i] - 128).toNat) := by
            rw [pow_seven, Nat.mul_add, ← Nat.mul_assoc, Nat.mul_comm (2 ^ (7 * i)) 128]; omega
          rw [e1, hpre _ (by omega), vi_big (by omega), htake, List.append_assoc]
          have e3 : ((128 * n + (b[i] - 128).toNat) % 128 + 128 : Nat) = b[i].toNat := by omega
          have e4 : (128 * n + (b[i] - 128).toNat) / 128 = n := by omega
          rw [e3, e4, Int.toNat_of_nonneg hd.1]; rfl
theorem rtake_is (b : List Int) (hb : Bytes b) : Ev (fun K => strakeref02_TakeNumber.f K b) (tk b) := by
  have h := rtake_l0 b hb 9 0 0 rfl (by omega) (by decide) (fun n _ => by simp)
  rw [List.drop_zero, res_zero] at h
  exact h
end Go.Proofs.Ytnhjjhlplboogaa.Plain
