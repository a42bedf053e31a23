/- The reference's Pack and Unpack tell the same. -/
import Derived.Test.YthoebkkohdfgeaaX17
import Derived.Test.YthoebkkohdfgeaaOobP1
import Derived.Test.YthoebkkohdfgeaaWireQ
import Derived.Test.YthoebkkohdfgeaaCrcRefB
namespace Go.Proofs.Ythoebkkohdfgeaa.Plain
open Go Go.RowKit Go.Proofs.Ythoebkkohdfgeaa.X Go.Proofs.YthoebkkohdfgeaaW.PrintWords Go.Proofs.YthoebkkohdfgeaaW.PrintMore

theorem rright_is (K L S : Int) : strakeref05_Right.f K L S = some (decide (OR K L S)) := by
  unfold strakeref05_Right.f
  repeat' split
  all_goals (first
    | (refine congrArg some (decide_eq_decide.2 ?_); unfold OR; omega)
    | (refine congrArg some (Eq.symm (decide_eq_false ?_)); unfold OR; omega))
theorem front_is {K L S : Int} (h : OR K L S) : Ev (fun k => strakeref05_front.f k K L S) (fr K L S) := by
  unfold strakeref05_front.f
  have h' := h
  unfold OR at h'
  have e0 : K % 256 = K := by omega
  have e1 : L % 4294967296 = L := by omega
  have e2 : Int.tmod S 4294967296 % 4294967296 = S % 4294967296 := by rw [Int.tmod_eq_emod_of_nonneg (by omega)]; omega
  have e3 : wrap64 (Int.tdiv S 4294967296) % 4294967296 = S / 4294967296 := by rw [Int.tdiv_eq_ediv_of_nonneg (by omega), wrap_in (by omega) (by omega)]; omega
  simp only [Option.bind_some, e0, e1, e2, e3]
  refine Ev.bind (rfx_is L (by omega) (by omega)) ?_
  refine evp (by show (5 : Nat) < _; decide) ?_
  refine Ev.bind (rfx_is (S % 4294967296) (by omega) (by omega)) ?_
  refine evp (by show (9 : Nat) < _; decide) ?_
  refine Ev.bind (rfx_is (S / 4294967296) (by omega) (by omega)) ?_
  refine evp (by show (13 : Nat) < _; decide) ?_
  exact Ev.now _
theorem rpack_is (K L S : Int) (d : List Int) (hd : Bytes d) :
    Ev (fun k => strakeref05_Pack.f k K L S d) (if OR K L S ∧ d.length = 16 then (pk K L S d, 0) else ([], 1)) := by
  have no : Ev (fun k => strakeref05_Pack.j0 k d true K L S) ([], 1) :=
    Ev.step (f := fun _ => some ([], 1)) (fun k => by rw [strakeref05_Pack.j0, if_pos rfl]) (Ev.now _)
  unfold strakeref05_Pack.f
  rw [rright_is]
  simp only [Option.bind_some]
  by_cases h : OR K L S
  · rw [decide_eq_true h]
    simp only [if_true]
    by_cases h2 : d.length = 16
    · rw [if_pos ⟨h, h2⟩, bne_eq_false_iff_eq.2 (show (d.length : Int) = 16 by omega)]
      refine Ev.step (f := fun k => (strakeref05_front.f k K L S).bind fun t => (if ([] : List Int).length + t.length < 140737488355328 then (if t.length + d.length < 140737488355328 then ((strakeref01_Sum.f k (t ++ d)).bind fun u => ((strakeref02_Fixed.f k u).bind fun v => (if t.length + v.length < 140737488355328 then (some (t ++ v, 0)) else none))) else none) else none)) (fun k => by rw [strakeref05_Pack.j0, if_neg (by decide)]; simp only [Option.bind_some, List.nil_append]) ?_
      refine Ev.bind (front_is h) ?_
      refine evp (by show (13 : Nat) < _; decide) ?_
      refine evp (by rw [fr_len, h2]; decide) ?_
      refine Ev.bind (ref_Sum_is _ (Bytes.app (fr_bytes h.K L S) hd) (by rw [List.length_append, fr_len, h2]; decide)) ?_
      refine Ev.bind (rfx_is _ (addS_lo _ _) (addS_hi _ _)) ?_
      refine evp (by rw [fr_len, fx_len]; decide) ?_
      exact Ev.now _
    · rw [if_neg (fun e => h2 e.2), bne_iff_ne.2 (show (d.length : Int) ≠ 16 by omega)]
      exact no
  · rw [decide_eq_false h, if_neg (fun e => h e.1)]
    simp only [Bool.false_eq_true, if_false]
    exact no
end Go.Proofs.Ythoebkkohdfgeaa.Plain
