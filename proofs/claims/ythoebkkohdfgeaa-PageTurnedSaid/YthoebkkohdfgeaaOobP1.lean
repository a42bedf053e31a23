/- What stands beside a sector: 'fr' (what is summed), 'pk' (all of it). Pack and Unpack in the program. -/
import Derived.Test.YthoebkkohdfgeaaX1
import Derived.Test.YthoebkkohdfgeaaX13
import Derived.Test.YthoebkkohdfgeaaWireP
import Derived.Test.YthoebkkohdfgeaaCrcFnB
namespace Go.Proofs.Ythoebkkohdfgeaa.Plain
open Go Go.RowKit Go.Proofs.Ythoebkkohdfgeaa.X Go.Proofs.YthoebkkohdfgeaaW.PrintWords Go.Proofs.YthoebkkohdfgeaaW.PrintMore

/-- may that stand beside a sector? -/
def OR (K L S : Int) : Prop := 1 ≤ K ∧ K ≤ 4 ∧ 0 ≤ L ∧ L ≤ 2147483647 ∧ 0 ≤ S ∧ S ≤ 1125899906842624
instance (K L S : Int) : Decidable (OR K L S) := by unfold OR; infer_instance
theorem oright_is (K L S : Int) : oob_Right.f K L S = some (decide (OR K L S)) := by
  unfold oob_Right.f
  repeat' split
  all_goals (first
    | (refine congrArg some (decide_eq_decide.2 ?_); unfold OR; omega)
    | (refine congrArg some (Eq.symm (decide_eq_false ?_)); unfold OR; omega))
def fr (K L S : Int) : List Int := [K] ++ fx L ++ fx (S % 4294967296) ++ fx (S / 4294967296)
theorem fr_len (K L S : Int) : (fr K L S).length = 13 := rfl
theorem fr_bytes {K : Int} (h : 0 ≤ K ∧ K < 256) (L S : Int) : Bytes (fr K L S) :=
  Bytes.app (Bytes.app (Bytes.app (Bytes.cons h Bytes.nil) (fx_bytes _)) (fx_bytes _)) (fx_bytes _)
theorem laid_fr {K L S : Int} (hK : 0 ≤ K ∧ K < 256) (hL : 0 ≤ L ∧ L < 4294967296) (hS : 0 ≤ S ∧ S < 18446744073709551616) : oob_laidL K L S = fr K L S := by
  unfold oob_laidL fr fx
  simp only [List.cons_append, List.nil_append, List.cons.injEq, and_true, true_and]
  and_intros <;> omega
theorem OR.K {K L S : Int} (h : OR K L S) : 0 ≤ K ∧ K < 256 := by unfold OR at h; omega
theorem OR.L {K L S : Int} (h : OR K L S) : 0 ≤ L ∧ L < 4294967296 := by unfold OR at h; omega
theorem OR.S {K L S : Int} (h : OR K L S) : 0 ≤ S ∧ S < 18446744073709551616 := by unfold OR at h; omega
def pk (K L S : Int) (d : List Int) : List Int := fr K L S ++ fx (addS 0 (fr K L S ++ d))
theorem pk_len (K L S : Int) (d : List Int) : (pk K L S d).length = 17 := rfl
theorem pk_bytes {K : Int} (h : 0 ≤ K ∧ K < 256) (L S : Int) (d : List Int) : Bytes (pk K L S d) := Bytes.app (fr_bytes h L S) (fx_bytes _)
theorem pack_is (K L S : Int) (d : List Int) (hd : Bytes d) (hl : d.length ≤ 140737488351232) :
    Ev (fun k => oob_Pack.f k K L S d) (if OR K L S ∧ d.length = 16 then (pk K L S d, 0) else ([], 1)) := by
  unfold oob_Pack.f
  rw [oright_is]
  simp only [Option.bind_some]
  by_cases h : OR K L S
  · rw [decide_eq_true h]
    simp only [if_true]
    by_cases h2 : d.length = 16
    · rw [if_pos ⟨h, h2⟩]
      simp only [if_pos h2]
      rw [laid_fr h.K h.L h.S]
      refine Ev.bind (crc_Sum_is _ (fr_bytes h.K L S) (by rw [fr_len]; decide)) ?_
      refine Ev.bind (crc_Add_is _ (addS_lo _ _) (addS_hi _ _) d hd hl) ?_
      rw [← addS_append]
      exact Ev.now _
    · rw [if_neg (fun e => h2 e.2)]
      simp only [if_neg h2]
      exact Ev.now _
  · rw [decide_eq_false h, if_neg (fun e => h e.1)]
    simp only [Bool.false_eq_true, if_false]
    exact Ev.now _
theorem take_fx (n : Int) (h0 : 0 ≤ n) (h1 : n < 4294967296) (rest : List Int) (hr : Bytes rest) : wire_TakeFixed.f (fx n ++ rest) = some (n, 0) := by
  rw [tf_is _ (Bytes.app (fx_bytes n) hr)]
  unfold tf
  rw [if_neg (by rw [List.length_append, fx_len]; omega), fv_fx n h0 h1]
theorem or_high (a b : Int) (ha0 : 0 ≤ a) (ha : a ≤ 262144) (hb0 : 0 ≤ b) (hb : b < 4294967296) : bits .or .i64 (a * 4294967296) b = a * 4294967296 + b := by
  refine bits_join .i64 62 (by decide) (fun n h0 h1 => ?_) 32 (a * 4294967296) b (by omega) (by omega) (by omega) hb0 (by omega) (by omega)
  rw [IntKind.wrap_i64]; omega
theorem fv_range (a b c d : Int) (ha : 0 ≤ a ∧ a < 256) (hb : 0 ≤ b ∧ b < 256) (hc : 0 ≤ c ∧ c < 256) (hd : 0 ≤ d ∧ d < 256) :
    ∃ n, 0 ≤ n ∧ n < 4294967296 ∧ [a, b, c, d] = fx n := by
  refine ⟨a + 256 * b + 65536 * c + 16777216 * d, by omega, by omega, ?_⟩
  unfold fx
  simp only [List.cons.injEq, and_true]
  refine ⟨by omega, by omega, by omega, by omega⟩
/-- any seventeen bytes are a front and a sum -/
theorem oshape {b : List Int} (hb : Bytes b) (hl : b.length = 17) :
    ∃ K L S q, (0 ≤ K ∧ K < 256) ∧ (0 ≤ L ∧ L < 4294967296) ∧ (0 ≤ S ∧ S < 18446744073709551616) ∧ (0 ≤ q ∧ q < 4294967296) ∧ b = fr K L S ++ fx q := by
  match b, hl with
  | [b0, b1, b2, b3, b4, b5, b6, b7, b8, b9, b10, b11, b12, b13, b14, b15, b16], _ =>
    have r : ∀ x ∈ [b0, b1, b2, b3, b4, b5, b6, b7, b8, b9, b10, b11, b12, b13, b14, b15, b16], 0 ≤ x ∧ x < 256 := hb
    simp only [List.mem_cons, List.not_mem_nil, or_false, forall_eq_or_imp, forall_eq] at r
    obtain ⟨r0, r1, r2, r3, r4, r5, r6, r7, r8, r9, r10, r11, r12, r13, r14, r15, r16⟩ := r
    obtain ⟨L, hL0, hL1, eL⟩ := fv_range b1 b2 b3 b4 r1 r2 r3 r4
    obtain ⟨lo, hl0, hl1, el⟩ := fv_range b5 b6 b7 b8 r5 r6 r7 r8
    obtain ⟨hi, hh0, hh1, eh⟩ := fv_range b9 b10 b11 b12 r9 r10 r11 r12
    obtain ⟨q, hq0, hq1, eq⟩ := fv_range b13 b14 b15 b16 r13 r14 r15 r16
    refine ⟨b0, L, hi * 4294967296 + lo, q, r0, ⟨hL0, hL1⟩, ⟨by omega, by omega⟩, ⟨hq0, hq1⟩, ?_⟩
    have e1 : (hi * 4294967296 + lo) % 4294967296 = lo := by omega
    have e2 : (hi * 4294967296 + lo) / 4294967296 = hi := by omega
    unfold fr
    rw [e1, e2, ← eL, ← el, ← eh, ← eq]
    rfl
theorem fr_inj {K L S q K' L' S' q' : Int} (hL : 0 ≤ L ∧ L < 4294967296) (hS : 0 ≤ S ∧ S < 18446744073709551616) (hq : 0 ≤ q ∧ q < 4294967296) (hL' : 0 ≤ L' ∧ L' < 4294967296) (hS' : 0 ≤ S' ∧ S' < 18446744073709551616) (hq' : 0 ≤ q' ∧ q' < 4294967296)
    (e : fr K L S ++ fx q = fr K' L' S' ++ fx q') : K = K' ∧ L = L' ∧ S = S' ∧ q = q' := by
  unfold fr fx at e
  simp only [List.cons_append, List.nil_append, List.cons.injEq, and_true] at e
  obtain ⟨e0, e1, e2, e3, e4, e5, e6, e7, e8, e9, e10, e11, e12, e13, e14, e15, e16⟩ := e
  exact ⟨e0, by omega, by omega, by omega⟩
/-- what Unpack tells of seventeen bytes -/
def ut (K L S q : Int) (d : List Int) : Int × Int × Int × Int :=
  if d.length = 16 ∧ OR K L S then (if q = addS 0 (fr K L S ++ d) then (K, L, S, 0) else (0, 0, 0, 4)) else (0, 0, 0, 3)
theorem unpack_is (K L S q : Int) (d : List Int) (hK : 0 ≤ K ∧ K < 256) (hL : 0 ≤ L ∧ L < 4294967296) (hS : 0 ≤ S ∧ S < 18446744073709551616) (hq : 0 ≤ q ∧ q < 4294967296) (hd : Bytes d) (hl : d.length ≤ 140737488351232) :
    Ev (fun k => oob_Unpack.f k (fr K L S ++ fx q) d) (ut K L S q d) := by
  unfold oob_Unpack.f ut
  have h17 : (fr K L S ++ fx q).length = 17 := rfl
  simp only [if_pos h17]
  by_cases hd16 : d.length = 16
  · simp only [if_pos hd16]
    have t1 : wire_TakeFixed.f ((fr K L S ++ fx q).drop 1) = some (L, 0) := take_fx L hL.1 hL.2 (fx (S % 4294967296) ++ (fx (S / 4294967296) ++ fx q)) (Bytes.app (fx_bytes _) (Bytes.app (fx_bytes _) (fx_bytes _)))
    have t5 : wire_TakeFixed.f ((fr K L S ++ fx q).drop 5) = some (S % 4294967296, 0) := take_fx (S % 4294967296) (by omega) (by omega) (fx (S / 4294967296) ++ fx q) (Bytes.app (fx_bytes _) (fx_bytes _))
    have t9 : wire_TakeFixed.f ((fr K L S ++ fx q).drop 9) = some (S / 4294967296, 0) := take_fx (S / 4294967296) (by omega) (by omega) (fx q) (fx_bytes _)
    have t13 : wire_TakeFixed.f ((fr K L S ++ fx q).drop 13) = some (q, 0) := by
      have := take_fx q hq.1 hq.2 [] Bytes.nil
      rw [List.append_nil] at this
      exact this
    have tk : (fr K L S ++ fx q).take 13 = fr K L S := rfl
    have r0 : rd (fr K L S ++ fx q) 0 = K := rfl
    simp only [t1, t5, t9, t13, Option.bind_some, tk, r0, hd16, true_and]
    by_cases hh : S / 4294967296 ≤ 262144
    · simp only [if_pos hh]
      rw [wrap_in (x := S / 4294967296) (by omega) (by omega), wrap_in (x := S / 4294967296 * 4294967296) (by omega) (by omega), wrap_in (x := S % 4294967296) (by omega) (by omega), or_high _ _ (by omega) hh (by omega) (by omega)]
      have e : S / 4294967296 * 4294967296 + S % 4294967296 = S := by omega
      rw [e, wrap_in (x := K) (by omega) (by omega), wrap_in (x := L) (by omega) (by omega), oright_is]
      simp only [Option.bind_some]
      by_cases h : OR K L S
      · rw [if_pos h, decide_eq_true h]
        simp only [if_true]
        rw [laid_fr hK hL hS]
        simp only [if_true]
        refine Ev.bind (crc_Sum_is _ (fr_bytes hK L S) (by rw [fr_len]; decide)) ?_
        refine Ev.bind (crc_Add_is _ (addS_lo _ _) (addS_hi _ _) d hd hl) ?_
        rw [← addS_append]
        by_cases hs : q = addS 0 (fr K L S ++ d)
        · simp only [if_pos hs]; exact Ev.now _
        · simp only [if_neg hs]; exact Ev.now _
      · rw [if_neg h, decide_eq_false h]
        simp only [Bool.false_eq_true, if_false]
        exact Ev.now _
    · simp only [if_neg hh]
      rw [if_neg (fun h => hh (by unfold OR at h; omega))]
      exact Ev.now _
  · simp only [if_neg hd16]
    rw [if_neg (fun h => hd16 h.1)]
    exact Ev.now _
theorem unpack_not (b d : List Int) (h : b.length ≠ 17) : Ev (fun k => oob_Unpack.f k b d) (0, 0, 0, 3) := by
  unfold oob_Unpack.f
  simp only [if_neg h]
  exact Ev.now _
theorem unpack_pk {K L S : Int} (h : OR K L S) (d : List Int) (hd : Bytes d) (hl : d.length = 16) : Ev (fun k => oob_Unpack.f k (pk K L S d) d) (K, L, S, 0) := by
  have := unpack_is K L S _ d h.K h.L h.S ⟨addS_lo 0 (fr K L S ++ d), addS_hi _ _⟩ hd (by omega)
  unfold ut at this
  rw [if_pos ⟨hl, h⟩, if_pos rfl] at this
  exact this
end Go.Proofs.Ythoebkkohdfgeaa.Plain
