/- The reference's Pack and Unpack tell the same. -/
import Derived.Test.YthoebkkohdfgeaaX17
import Derived.Test.YthoebkkohdfgeaaX29
import Derived.Test.YthoebkkohdfgeaaOobP1
import Derived.Test.YthoebkkohdfgeaaCrcRefB
namespace Go.Proofs.Ythoebkkohdfgeaa.Plain
open Go Go.RowKit Go.Proofs.Ythoebkkohdfgeaa.X Go.Proofs.YthoebkkohdfgeaaW.PrintWords Go.Proofs.YthoebkkohdfgeaaW.PrintMore

theorem rright_is (K L S : Int) : strakeref05_Right.f K L S = some (decide (OR K L S)) := by
  unfold strakeref05_Right.f
  repeat' split
  all_goals (first
    | (refine congrArg some (decide_eq_decide.2 ?_); unfold OR; omega)
    | (refine congrArg some (Eq.symm (decide_eq_false ?_)); unfold OR; omega))
theorem front_is {K L S : Int} (h : OR K L S) : Ev (fun k => strakeref05_front.f k K L S) (fr K L S) := by
  unfold strakeref05_front.f
  have h' := h
  unfold OR at h'
  have e0 : K % 256 = K := by omega
  have e1 : L % 4294967296 = L := by omega
  have e2 : Int.tmod S 4294967296 % 4294967296 = S % 4294967296 := by rw [Int.tmod_eq_emod_of_nonneg (by omega)]; omega
  have e3 : wrap64 (Int.tdiv S 4294967296) % 4294967296 = S / 4294967296 := by rw [Int.tdiv_eq_ediv_of_nonneg (by omega), wrap_in (by omega) (by omega)]; omega
  simp only [Option.bind_some, e0, e1, e2, e3]
  refine Ev.bind (rfx_is L (by omega) (by omega)) ?_
  refine evp (by show (5 : Nat) < _; decide) ?_
  refine Ev.bind (rfx_is (S % 4294967296) (by omega) (by omega)) ?_
  refine evp (by show (9 : Nat) < _; decide) ?_
  refine Ev.bind (rfx_is (S / 4294967296) (by omega) (by omega)) ?_
  refine evp (by show (13 : Nat) < _; decide) ?_
  exact Ev.now _
theorem rpack_is (K L S : Int) (d : List Int) (hd : Bytes d) :
    Ev (fun k => strakeref05_Pack.f k K L S d) (if OR K L S ∧ d.length = 16 then (pk K L S d, 0) else ([], 1)) := by
  have no : Ev (fun k => strakeref05_Pack.j0 k d true K L S) ([], 1) :=
    Ev.step (f := fun _ => some ([], 1)) (fun k => by rw [strakeref05_Pack.j0, if_pos rfl]) (Ev.now _)
  unfold strakeref05_Pack.f
  rw [rright_is]
  simp only [Option.bind_some]
  by_cases h : OR K L S
  · rw [decide_eq_true h]
    simp only [if_true]
    by_cases h2 : d.length = 16
    · rw [if_pos ⟨h, h2⟩, bne_eq_false_iff_eq.2 (show (d.length : Int) = 16 by omega)]
      refine Ev.step (f := fun k => (strakeref05_front.f k K L S).bind fun t => (if ([] : List Int).length + t.length < 140737488355328 then (if t.length + d.length < 140737488355328 then ((strakeref01_Sum.f k (t ++ d)).bind fun u => ((strakeref02_Fixed.f k u).bind fun v => (if t.length + v.length < 140737488355328 then (some (t ++ v, 0)) else none))) else none) else none)) (fun k => by rw [strakeref05_Pack.j0, if_neg (by decide)]; simp only [Option.bind_some, List.nil_append]) ?_
      refine Ev.bind (front_is h) ?_
      refine evp (by show (13 : Nat) < _; decide) ?_
      refine evp (by rw [fr_len, h2]; decide) ?_
      refine Ev.bind (ref_Sum_is _ (Bytes.app (fr_bytes h.K L S) hd) (by rw [List.length_append, fr_len, h2]; decide)) ?_
      refine Ev.bind (rfx_is _ (addS_lo _ _) (addS_hi _ _)) ?_
      refine evp (by rw [fr_len, fx_len]; decide) ?_
      exact Ev.now _
    · rw [if_neg (fun e => h2 e.2), bne_iff_ne.2 (show (d.length : Int) ≠ 16 by omega)]
      exact no
  · rw [decide_eq_false h, if_neg (fun e => h e.1)]
    simp only [Bool.false_eq_true, if_false]
    exact no
theorem rtake_fx (n : Int) (h0 : 0 ≤ n) (h1 : n < 4294967296) (rest : List Int) (hr : Bytes rest) : strakeref02_TakeFixed.f (fx n ++ rest) = some (n, 0) := by
  rw [rtf_is _ (Bytes.app (fx_bytes n) hr)]
  unfold tf
  rw [if_neg (by rw [List.length_append, fx_len]; omega), fv_fx n h0 h1]
theorem runpack_is (K L S q : Int) (d : List Int) (hK : 0 ≤ K ∧ K < 256) (hL : 0 ≤ L ∧ L < 4294967296) (hS : 0 ≤ S ∧ S < 18446744073709551616) (hq : 0 ≤ q ∧ q < 4294967296) (hd : Bytes d) :
    Ev (fun k => strakeref05_Unpack.f k (fr K L S ++ fx q) d) (ut K L S q d) := by
  unfold strakeref05_Unpack.f
  have h17 : ((fr K L S ++ fx q).length : Int) = 17 := rfl
  simp only [if_pos h17]
  by_cases hd16 : d.length = 16
  · rw [bne_eq_false_iff_eq.2 (show (d.length : Int) = 16 by omega)]
    have t1 : strakeref02_TakeFixed.f ((fr K L S ++ fx q).drop 1) = some (L, 0) := rtake_fx L hL.1 hL.2 (fx (S % 4294967296) ++ (fx (S / 4294967296) ++ fx q)) (Bytes.app (fx_bytes _) (Bytes.app (fx_bytes _) (fx_bytes _)))
    have t5 : strakeref02_TakeFixed.f ((fr K L S ++ fx q).drop 5) = some (S % 4294967296, 0) := rtake_fx (S % 4294967296) (by omega) (by omega) (fx (S / 4294967296) ++ fx q) (Bytes.app (fx_bytes _) (fx_bytes _))
    have t9 : strakeref02_TakeFixed.f ((fr K L S ++ fx q).drop 9) = some (S / 4294967296, 0) := rtake_fx (S / 4294967296) (by omega) (by omega) (fx q) (fx_bytes _)
    have r0 : rd (fr K L S ++ fx q) 0 = K := rfl
    by_cases hh : S / 4294967296 > 262144
    · unfold ut
      rw [if_neg (fun h => by have := h.2; unfold OR at this; omega)]
      refine Ev.step (f := fun _ => some (0, 0, 0, 3)) (fun k => ?_) (Ev.now _)
      rw [strakeref05_Unpack.j0, if_neg (by decide)]
      simp only [h17, t1, t5, t9, Option.bind_some, if_pos hh]
      rfl
    · refine Ev.step (f := fun k => (strakeref05_Pack.f k K L S d).bind fun p => (if p.2 = 0 then (if (strOfNums p.1).toList = (strOfNums (fr K L S ++ fx q)).toList then (some (K, L, S, 0)) else (some (0, 0, 0, 4))) else (some (0, 0, 0, 3)))) (fun k => ?_) ?_
      · rw [strakeref05_Unpack.j0, if_neg (by decide)]
        simp only [h17, t1, t5, t9, Option.bind_some, if_neg hh, r0]
        rw [wrap_in (x := S / 4294967296) (by omega) (by omega), wrap_in (x := S / 4294967296 * 4294967296) (by omega) (by omega), wrap_in (x := S % 4294967296) (by omega) (by omega)]
        have e : S / 4294967296 * 4294967296 + S % 4294967296 = S := by omega
        rw [e, wrap_in (x := K) (by omega) (by omega), wrap_in (x := L) (by omega) (by omega), wrap_in (x := S) (by omega) (by omega)]
        rfl
      · have rp := rpack_is K L S d hd
        unfold ut
        by_cases h : OR K L S
        · rw [if_pos ⟨h, hd16⟩] at rp
          rw [if_pos ⟨hd16, h⟩]
          refine Ev.bind rp (evp rfl ?_)
          by_cases hs : q = addS 0 (fr K L S ++ d)
          · rw [if_pos hs]
            exact evp (by rw [hs]; rfl) (Ev.now _)
          · rw [if_neg hs]
            refine evn (fun e => ?_) (Ev.now _)
            have := str_inj (pk_bytes hK L S d) (Bytes.app (fr_bytes hK L S) (fx_bytes q)) e
            exact hs (fr_inj hL hS ⟨addS_lo 0 (fr K L S ++ d), addS_hi _ _⟩ hL hS hq this).2.2.2.symm
        · rw [if_neg (fun e => h e.1)] at rp
          rw [if_neg (fun e => h e.2)]
          exact Ev.bind rp (evn (by decide) (Ev.now _))
  · rw [bne_iff_ne.2 (show (d.length : Int) ≠ 16 by omega)]
    unfold ut
    rw [if_neg (fun h => hd16 h.1)]
    exact Ev.step (f := fun _ => some (0, 0, 0, 3)) (fun k => by rw [strakeref05_Unpack.j0, if_pos rfl]) (Ev.now _)
theorem runpack_not (b d : List Int) (h : b.length ≠ 17) : Ev (fun k => strakeref05_Unpack.f k b d) (0, 0, 0, 3) := by
  unfold strakeref05_Unpack.f
  simp only [if_neg (show ¬ (b.length : Int) = 17 by omega)]
  exact Ev.step (f := fun _ => some (0, 0, 0, 3)) (fun k => by rw [strakeref05_Unpack.j0, if_pos rfl]) (Ev.now _)
end Go.Proofs.Ythoebkkohdfgeaa.Plain
