/- The reference's mark: its sector, and what it reads. -/
import Derived.Test.YtjjohdeknahkmaaMark1
import Derived.Test.YtjjohdeknahkmaaX3
import Derived.Test.YtjjohdeknahkmaaX8
namespace Go.Proofs.Ytjjohdeknahkmaa.Plain
open Go Go.RowKit Go.Proofs.Ytjjohdeknahkmaa.X Go.Proofs.Ytjjohdeknahkmaa.Plain Go.Proofs.YtjjohdeknahkmaaW.PrintWords Go.Proofs.YtjjohdeknahkmaaW.PrintMore

theorem rright_is (L W S : Int) : strakeref06_Right.f L W S = some (decide (MR L W S)) := right_is L W S
theorem rsector_is (L W S : Int) : Ev (fun K => strakeref06_Sector.f K L W S) (if MR L W S then (ms L W S, 0) else ([], 1)) := by
  unfold strakeref06_Sector.f
  rw [rright_is]
  simp only [Option.bind_some]
  by_cases h : MR L W S
  · have h' := h
    obtain ⟨h1, h2, h3, h4, h5, h6⟩ := h
    rw [decide_eq_true h', if_pos h']
    simp only [if_true]
    have e1 : L % 256 = L := by omega
    have e2 : W % 4294967296 = W := by omega
    have e3 : wrap64 (Int.tdiv S 4294967296) % 4294967296 = S / 4294967296 := by
      rw [Int.tdiv_eq_ediv_of_nonneg h5, wrap_in (by omega) (by omega)]; omega
    have e4 : Int.tmod S 4294967296 % 4294967296 = S % 4294967296 := by
      rw [Int.tmod_eq_emod_of_nonneg h5]; omega
    have e5 : wrap64 (65 + Int.tmod W 7) % 256 = 65 + W % 7 := by
      rw [Int.tmod_eq_emod_of_nonneg h3, wrap_in (by omega) (by omega)]; omega
    rw [e1, e2, e3, e4, e5]
    refine Ev.bind (rfx_is W h3 (by omega)) (evp (by simp only [fx_len, List.length_cons, List.length_nil]; omega) ?_)
    refine Ev.bind (rfx_is (S % 4294967296) (by omega) (by omega)) (evp (by simp only [List.length_append, fx_len, List.length_cons, List.length_nil]; omega) ?_)
    refine Ev.bind (rfx_is (S / 4294967296) (by omega) (by omega)) ?_
    rw [if_pos (by simp only [List.length_append, fx_len, List.length_cons, List.length_nil]; omega)]
    exact Ev.now _
  · rw [decide_eq_false h, if_neg h]
    simp only [Bool.false_eq_true, if_false]
    exact Ev.now _
theorem rread_is (l : List Int) (hb : Bytes l) : Ev (fun K => strakeref06_Read.f K l) (mr l) := by
  unfold strakeref06_Read.f
  by_cases hl : l.length = 16
  · obtain ⟨b0, b1, b2, b3, b4, b5, b6, b7, b8, b9, b10, b11, b12, b13, b14, b15, rfl⟩ := len16 hl
    have r : ∀ x ∈ [b0, b1, b2, b3, b4, b5, b6, b7, b8, b9, b10, b11, b12, b13, b14, b15], 0 ≤ x ∧ x < 256 := hb
    simp only [List.mem_cons, List.not_mem_nil, or_false, forall_eq_or_imp, forall_eq] at r
    obtain ⟨r0, r1, r2, r3, r4, r5, r6, r7, r8, r9, r10, r11, r12, r13, r14, r15⟩ := r
    have q2 : rd [b0, b1, b2, b3, b4, b5, b6, b7, b8, b9, b10, b11, b12, b13, b14, b15] 2 = b2 := rfl
    have t4 : tf ([b0, b1, b2, b3, b4, b5, b6, b7, b8, b9, b10, b11, b12, b13, b14, b15].drop 4) = (f4 b4 b5 b6 b7, 0) := rfl
    have t8 : tf ([b0, b1, b2, b3, b4, b5, b6, b7, b8, b9, b10, b11, b12, b13, b14, b15].drop 8) = (f4 b8 b9 b10 b11, 0) := rfl
    have t12 : tf ([b0, b1, b2, b3, b4, b5, b6, b7, b8, b9, b10, b11, b12, b13, b14, b15].drop 12) = (f4 b12 b13 b14 b15, 0) := rfl
    have d4 := rtf_is _ (tf_drop hb 4)
    have d8 := rtf_is _ (tf_drop hb 8)
    have d12 := rtf_is _ (tf_drop hb 12)
    rw [t4] at d4
    rw [t8] at d8
    rw [t12] at d12
    have g4 := f4_range r4 r5 r6 r7
    have g8 := f4_range r8 r9 r10 r11
    have g12 := f4_range r12 r13 r14 r15
    have hms : ∀ L W S, MR L W S → (ms L W S = [b0, b1, b2, b3, b4, b5, b6, b7, b8, b9, b10, b11, b12, b13, b14, b15] → mr [b0, b1, b2, b3, b4, b5, b6, b7, b8, b9, b10, b11, b12, b13, b14, b15] = (L, W, S, 0)) := by
      intro L W S hM e; rw [← e]; exact mr_ms hM
    have hmr : mr [b0, b1, b2, b3, b4, b5, b6, b7, b8, b9, b10, b11, b12, b13, b14, b15] = if b0 = 72 ∧ b1 = 76 ∧ MR b2 (f4 b4 b5 b6 b7) (f4 b12 b13 b14 b15 * 4294967296 + f4 b8 b9 b10 b11) ∧ b3 = 65 + f4 b4 b5 b6 b7 % 7 then (b2, f4 b4 b5 b6 b7, f4 b12 b13 b14 b15 * 4294967296 + f4 b8 b9 b10 b11, 0) else (0, 0, 0, 3) := rfl
    have hca := mr_cases _ hb
    generalize [b0, b1, b2, b3, b4, b5, b6, b7, b8, b9, b10, b11, b12, b13, b14, b15] = l at *
    clear t4 t8 t12
    have w2 : wrap64 b2 = b2 := wrap_in (by omega) (by omega)
    have w4 : wrap64 (f4 b4 b5 b6 b7) = f4 b4 b5 b6 b7 := wrap_in (by omega) (by omega)
    have w8 : wrap64 (f4 b8 b9 b10 b11) = f4 b8 b9 b10 b11 := wrap_in (by omega) (by omega)
    have w12 : wrap64 (f4 b12 b13 b14 b15) = f4 b12 b13 b14 b15 := wrap_in (by omega) (by omega)
    generalize f4 b4 b5 b6 b7 = W at *
    generalize f4 b8 b9 b10 b11 = lo at *
    generalize f4 b12 b13 b14 b15 = hi at *
    refine evp (by omega) (evp (by omega) ?_)
    rw [d4]
    simp only [Option.bind_some]
    refine evp (by omega) ?_
    rw [d8]
    simp only [Option.bind_some]
    refine evp (by omega) ?_
    rw [d12]
    simp only [Option.bind_some]
    by_cases h2 : hi > 262144
    · refine (evp h2 ?_)
      rw [hmr, if_neg]
      · exact Ev.now _
      · rintro ⟨_, _, ⟨_, _, _, _, _, hS⟩, _⟩
        omega
    · refine evn h2 (evp (by omega) ?_)
      rw [q2, w2, w4, w8, w12, wrap_in (x := hi * 4294967296) (by omega) (by omega), wrap_in (x := hi * 4294967296 + lo) (by omega) (by omega)]
      refine Ev.bind (rsector_is _ _ _) ?_
      by_cases hM : MR b2 W (hi * 4294967296 + lo)
      · rw [if_pos hM]
        simp only [if_true]
        by_cases he : (strOfNums (ms b2 W (hi * 4294967296 + lo))).toList = (strOfNums l).toList
        · have he' := str_inj (ms_bytes hM) hb he
          rw [if_pos he, hms _ _ _ hM he']
          exact Ev.now _
        · rw [if_neg he]
          rcases hca with h | ⟨L, W', S, h, hM', hl'⟩
          · rw [h]; exact Ev.now _
          · exfalso
            rw [h] at hmr
            by_cases hc : b0 = 72 ∧ b1 = 76 ∧ MR b2 W (hi * 4294967296 + lo) ∧ b3 = 65 + W % 7
            · rw [if_pos hc] at hmr
              simp only [Prod.mk.injEq, and_true] at hmr
              obtain ⟨rfl, rfl, rfl⟩ := hmr
              exact he (by rw [hl'])
            · rw [if_neg hc] at hmr
              simp at hmr
      · rw [if_neg hM]
        simp only [if_neg (show ¬ (1 : Int) = 0 by decide)]
        rw [hmr, if_neg (fun h => hM h.2.2.1)]
        exact Ev.now _
  · refine evn (by omega) ?_
    have : mr l = (0, 0, 0, 3) := by
      unfold mr
      split
      · exact absurd rfl hl
      · rfl
    rw [this]; exact Ev.now _

end Go.Proofs.Ytjjohdeknahkmaa.Plain
