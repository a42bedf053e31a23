import Derived.Test.YthoebkkohdfgeaaRows
import Derived.Test.YthoebkkohdfgeaaStatPageReads
import Derived.Test.YthoebkkohdfgeaaPurePageReads
import Derived.Test.YthoebkkohdfgeaaRowsRead
import Derived.WalkKit
import Derived.ProofKit
import Derived.OpenShut
import Derived.ChangeOld
import Derived.Below
import Derived.SizedLaws
import Derived.Deep.Matrix
namespace Go.Proofs.Ythoebkkohdfgeaa.pageReads
open Go Go.Deep Go.ChangeShapes Go.WideShapes Go.ChangeAt Go.RowKit Go.Proofs.YthoebkkohdfgeaaW.PrintWords
set_option linter.unusedVariables false
theorem own : ownKnob Try.prog.godebug = none := by kernel_rfl
theorem laidOut : laidOutB Try.prog = true := by kernel_rfl
set_option maxRecDepth 100000 in
theorem lifted (os : Os) (started : os.Started) (H : Type) (enc : TypeId × Value → H) :
    ReturnsInHanded {} Try.checked os 4 .any (Rows.pageReadsSpec.pre6 enc Try.prog Try.f4 Rows.pageReadsRow.domain false) (Rows.pageReadsSpec.post enc Try.prog Try.f4 false true false false) := by
  refine returnsInHanded_of_change_sized (C := Try.checked) own started (by kernel_rfl) Try.func4
    (ChangeSpec.witness6 (enc := enc) (C := Try.checked) false ⟨#[], #[.slice none 0 0, .slice none 0 0], []⟩ 8 (by kernel_rfl) (by kernel_rfl) (by kernel_rfl) (by kernel_rfl)) ?_
  intro W base args ds gs before hval0 hW hcnd hsz0 _
  have hval : ∀ (j : Nat) t v, Try.f4.params[j]? = some t → args[j]? = some v → Value.okWide Try.prog W .any base t v := hval0
  have hW' := hW
  obtain ⟨p, q, hA0, hV, rfl, hfz, hnd⟩ := hW
  have hA : DataW.TrodAll enc Try.prog W 0 (fun _ => true) true Try.f4.params.toList args.toList ds p := hA0
  rw [Try.params4] at hA hval
  obtain ⟨v0, vs0, d0, ds0, p0, q0, hargs, rfl, rfl, h0, r0⟩ := trodAll_cons hA
  obtain ⟨v1, vs1, d1, ds1, p1, q1, rfl, rfl, rfl, h1, r1⟩ := trodAll_cons r0
  obtain ⟨rfl, rfl, rfl⟩ := trodAll_nil r1
  obtain rfl : args = #[v0, v1] := by cases args; simp_all
  obtain ⟨rfl, rfl⟩ := trodVars_none hV
  obtain ⟨a0, len0, cap0, rfl⟩ := okWide_slice Try.underlying25 (hval 0 25 v0 rfl rfl)
  have k0 := h0
  have lt0 : ∀ x ∈ p0, x.block < W.heap.size := by obtain ⟨m, hm⟩ := k0; exact DataW.trod_lt m _ _ _ hm
  obtain ⟨l0, rfl, hc0, hr0, hm0, hn0, hw0⟩ : ∃ l : List (List Int), l.length = len0 ∧ l.length ≤ cap0 ∧ Kd.C (Kd.slice 5 (Kd.int .u8)) W a0 l.length l ∧ l.length ≤ maxLen ∧ (∀ y ∈ l, y.length ≤ maxLen) ∧ ∀ y ∈ l, ∀ x ∈ y, (Lit.int .u8 x).wf = true := by
    obtain ⟨fuel, hf⟩ := h0
    rcases open_int_rows Try.underlying25 Try.underlying36 Try.underlying5 (by kernel_rfl) (by kernel_rfl) hf with ⟨hcs, _⟩ | ⟨a, len, cap, A, L, C, Z, hcs, _, hl, hm, _, hr⟩
    · simp [Value.cells] at hcs
      obtain ⟨rfl, rfl, rfl⟩ := hcs
      exact ⟨[], rfl, Nat.le_refl _, Kd.C_nil _ _, by simp, by simp, by simp⟩
    · simp [Value.cells] at hcs
      obtain ⟨rfl, rfl, rfl⟩ := hcs
      have hlen : ((List.range len0).map fun r => (Z r).take (L r)).length = len0 := by simp
      refine ⟨(List.range len0).map fun r => (Z r).take (L r), hlen, by rw [hlen]; exact hl, ?_, by rw [hlen]; omega, fun y hy => ?_, fun y hy x hx => ?_⟩
      · rw [hlen]
        exact Plain.rows_read (by omega) (fun r hr' => (by obtain ⟨h1, h2, h3, h4, _, h6, h7⟩ := hr r (by omega); exact ⟨h1, h2, h3, h4, h6, fun a' ha => (h7 a' ha).2⟩))
      · obtain ⟨r, hr', rfl⟩ := List.mem_map.1 hy
        obtain ⟨_, h2, h3, _⟩ := hr r (by have := List.mem_range.1 hr'; omega)
        rw [List.length_take]; omega
      · obtain ⟨r, hr', rfl⟩ := List.mem_map.1 hy
        obtain ⟨_, _, _, _, h5, _⟩ := hr r (by have := List.mem_range.1 hr'; omega)
        exact h5 x (List.mem_of_mem_take hx)
  obtain ⟨a1, len1, cap1, rfl⟩ := okWide_slice Try.underlying25 (hval 1 25 v1 rfl rfl)
  have k1 := h1
  have lt1 : ∀ x ∈ p1, x.block < W.heap.size := by obtain ⟨m, hm⟩ := k1; exact DataW.trod_lt m _ _ _ hm
  obtain ⟨l1, rfl, hc1, hr1, hm1, hn1, hw1⟩ : ∃ l : List (List Int), l.length = len1 ∧ l.length ≤ cap1 ∧ Kd.C (Kd.slice 5 (Kd.int .u8)) W a1 l.length l ∧ l.length ≤ maxLen ∧ (∀ y ∈ l, y.length ≤ maxLen) ∧ ∀ y ∈ l, ∀ x ∈ y, (Lit.int .u8 x).wf = true := by
    obtain ⟨fuel, hf⟩ := h1
    rcases open_int_rows Try.underlying25 Try.underlying36 Try.underlying5 (by kernel_rfl) (by kernel_rfl) hf with ⟨hcs, _⟩ | ⟨a, len, cap, A, L, C, Z, hcs, _, hl, hm, _, hr⟩
    · simp [Value.cells] at hcs
      obtain ⟨rfl, rfl, rfl⟩ := hcs
      exact ⟨[], rfl, Nat.le_refl _, Kd.C_nil _ _, by simp, by simp, by simp⟩
    · simp [Value.cells] at hcs
      obtain ⟨rfl, rfl, rfl⟩ := hcs
      have hlen : ((List.range len1).map fun r => (Z r).take (L r)).length = len1 := by simp
      refine ⟨(List.range len1).map fun r => (Z r).take (L r), hlen, by rw [hlen]; exact hl, ?_, by rw [hlen]; omega, fun y hy => ?_, fun y hy x hx => ?_⟩
      · rw [hlen]
        exact Plain.rows_read (by omega) (fun r hr' => (by obtain ⟨h1, h2, h3, h4, _, h6, h7⟩ := hr r (by omega); exact ⟨h1, h2, h3, h4, h6, fun a' ha => (h7 a' ha).2⟩))
      · obtain ⟨r, hr', rfl⟩ := List.mem_map.1 hy
        obtain ⟨_, h2, h3, _⟩ := hr r (by have := List.mem_range.1 hr'; omega)
        rw [List.length_take]; omega
      · obtain ⟨r, hr', rfl⟩ := List.mem_map.1 hy
        obtain ⟨_, _, _, _, h5, _⟩ := hr r (by have := List.mem_range.1 hr'; omega)
        exact h5 x (List.mem_of_mem_take hx)
  clear hA0 hval0 hsz0
  obtain ⟨k, h⟩ := Pure.PageReads l0 l1 hm0 hn0 hw0 hm1 hn1 hw1
  refine (X.strakelaw15_PageReads.calls k _ _ l0 _ _ l1 true W hr0 hc0 hr1 hc1 h).mono fun e W' ⟨he, bel⟩ => ?_
  subst he
  exact ⟨_, rfl, _, _, _, [], _, [], hW', trodAll_mk1 (shut_bool Try.underlying4 _), (trodAll_cons_mk (Below.trod laidOut (by kernel_rfl) (of_decide_eq_true (by kernel_rfl)) k0 bel lt0) (trodAll_cons_mk (Below.trod laidOut (by kernel_rfl) (of_decide_eq_true (by kernel_rfl)) k1 bel lt1) trodAll_mk0)), rfl, bel.frame _, fun h => by cases h⟩
theorem over : Rows.pageReadsRow.holds Try.pinned (OpenSpec.ofChange Rows.pageReadsSpec) :=
  OpenClaim.holds_of_wide 4 Try.f4 rfl rfl rfl rfl rfl rfl rfl ⟨rfl, rfl, rfl, rfl, rfl⟩ rfl rfl rfl rfl rfl (by kernel_rfl) Try.func4 (by kernel_rfl)
    (of_decide_eq_true (by kernel_rfl)) (by unfold Func.isWrapper; first | (rw [if_pos (by decide +kernel)]; kernel_rfl) | (rw [if_neg (by decide +kernel)]; exact ⟨rfl, rfl⟩))
    (fun os started H enc _ => lifted os started H enc)
theorem proved : Rows.PageReadsSaid := over
#print axioms proved
end Go.Proofs.Ythoebkkohdfgeaa.pageReads
