/- A mark's sector: 'ms'; what any bytes say: 'mr'. In the program and in the reference. -/
import Derived.Test.YtjjohdeknahkmaaX3
import Derived.Test.YtjjohdeknahkmaaX4
import Derived.Test.YtjjohdeknahkmaaX7
import Derived.Test.YtjjohdeknahkmaaWire4
import Derived.Test.YtjjohdeknahkmaaX6
import Derived.Test.YtjjohdeknahkmaaX32
namespace Go.Proofs.Ytjjohdeknahkmaa.Plain
open Go Go.RowKit Go.Proofs.Ytjjohdeknahkmaa.X Go.Proofs.YtjjohdeknahkmaaW.PrintWords Go.Proofs.YtjjohdeknahkmaaW.PrintMore

/-- may a mark be? -/
def MR (L W S : Int) : Prop := 0 ≤ L ∧ L < 64 ∧ 0 ≤ W ∧ W ≤ 2147483647 ∧ 0 ≤ S ∧ S ≤ 1125899906842624
instance (L W S : Int) : Decidable (MR L W S) := by unfold MR; infer_instance
theorem right_is (L W S : Int) : mark_Right.f L W S = some (decide (MR L W S)) := by
  unfold mark_Right.f
  by_cases h : MR L W S
  · rw [decide_eq_true h]; obtain ⟨h1, h2, h3, h4, h5, h6⟩ := h
    rw [if_pos h1, if_pos h2, if_pos h3, if_pos h4, if_pos h5, decide_eq_true h6]
  · rw [decide_eq_false h]
    by_cases h1 : L ≥ 0
    · rw [if_pos h1]
      by_cases h2 : L < 64
      · rw [if_pos h2]
        by_cases h3 : W ≥ 0
        · rw [if_pos h3]
          by_cases h4 : W ≤ 2147483647
          · rw [if_pos h4]
            by_cases h5 : S ≥ 0
            · rw [if_pos h5, decide_eq_false]; exact fun h6 => h ⟨h1, h2, h3, h4, h5, h6⟩
            · rw [if_neg h5]
          · rw [if_neg h4]
        · rw [if_neg h3]
      · rw [if_neg h2]
    · rw [if_neg h1]
def ms (L W S : Int) : List Int := [72, 76, L, 65 + W % 7] ++ fx W ++ fx (S % 4294967296) ++ fx (S / 4294967296)
theorem ms_len (L W S : Int) : (ms L W S).length = 16 := rfl
theorem ms_bytes {L W S : Int} (h : MR L W S) : Bytes (ms L W S) := by
  obtain ⟨h1, h2, h3, h4, h5, h6⟩ := h
  refine Bytes.app (Bytes.app (Bytes.app ?_ (fx_bytes _)) (fx_bytes _)) (fx_bytes _)
  intro x hx
  simp only [List.mem_cons, List.not_mem_nil, or_false] at hx
  rcases hx with rfl | rfl | rfl | rfl <;> omega
theorem sector_is (L W S : Int) : mark_Sector.f L W S = some (if MR L W S then (ms L W S, 0) else ([], 1)) := by
  unfold mark_Sector.f
  rw [right_is]
  simp only [Option.bind_some]
  by_cases h : MR L W S
  · have h' := h
    obtain ⟨h1, h2, h3, h4, h5, h6⟩ := h
    rw [decide_eq_true h', if_pos rfl, if_pos h']
    unfold mark_letter.f
    rw [if_pos h3]
    simp only [Option.bind_some, fx_is]
    have e1 : L % 256 = L := by omega
    have e2 : W % 4294967296 = W := by omega
    have e3 : S / 4294967296 % 4294967296 = S / 4294967296 := by omega
    simp only [e1, e2, e3, List.length_append, fx_len, List.length_cons, List.length_nil]
    rw [if_pos (by omega), if_pos (by omega), if_pos (by omega)]
    rfl
  · rw [decide_eq_false h, if_neg (by decide), if_neg h]

theorem len16 {l : List Int} (h : l.length = 16) : ∃ b0 b1 b2 b3 b4 b5 b6 b7 b8 b9 b10 b11 b12 b13 b14 b15, l = [b0, b1, b2, b3, b4, b5, b6, b7, b8, b9, b10, b11, b12, b13, b14, b15] := by
  match l, h with
  | [b0, b1, b2, b3, b4, b5, b6, b7, b8, b9, b10, b11, b12, b13, b14, b15], _ => exact ⟨b0, b1, b2, b3, b4, b5, b6, b7, b8, b9, b10, b11, b12, b13, b14, b15, rfl⟩
def f4 (a b c d : Int) : Int := a + 256 * b + 65536 * c + 16777216 * d
theorem fx_f4 {a b c d : Int} (ha : 0 ≤ a ∧ a < 256) (hb : 0 ≤ b ∧ b < 256) (hc : 0 ≤ c ∧ c < 256) (hd : 0 ≤ d ∧ d < 256) : fx (f4 a b c d) = [a, b, c, d] := by
  unfold fx f4
  simp only [List.cons.injEq, and_true]
  refine ⟨by omega, by omega, by omega, by omega⟩
theorem f4_range {a b c d : Int} (ha : 0 ≤ a ∧ a < 256) (hb : 0 ≤ b ∧ b < 256) (hc : 0 ≤ c ∧ c < 256) (hd : 0 ≤ d ∧ d < 256) : 0 ≤ f4 a b c d ∧ f4 a b c d < 4294967296 := by
  unfold f4; omega
theorem f4_fx (n : Int) (h0 : 0 ≤ n) (h1 : n < 4294967296) : f4 (n % 256) (n / 256 % 256) (n / 65536 % 256) (n / 16777216 % 256) = n := by
  unfold f4; omega
/-- What sixteen bytes, or any others, say: a mark, or nothing. -/
def mr (l : List Int) : Int × Int × Int × Int :=
  match l with
  | [b0, b1, b2, b3, b4, b5, b6, b7, b8, b9, b10, b11, b12, b13, b14, b15] =>
    if b0 = 72 ∧ b1 = 76 ∧ MR b2 (f4 b4 b5 b6 b7) (f4 b12 b13 b14 b15 * 4294967296 + f4 b8 b9 b10 b11) ∧ b3 = 65 + f4 b4 b5 b6 b7 % 7 then (b2, f4 b4 b5 b6 b7, f4 b12 b13 b14 b15 * 4294967296 + f4 b8 b9 b10 b11, 0) else (0, 0, 0, 3)
  | _ => (0, 0, 0, 3)
theorem mr_ms {L W S : Int} (h : MR L W S) : mr (ms L W S) = (L, W, S, 0) := by
  have h' := h
  obtain ⟨h1, h2, h3, h4, h5, h6⟩ := h
  show (if (72 : Int) = 72 ∧ (76 : Int) = 76 ∧ MR L (f4 (W % 256) (W / 256 % 256) (W / 65536 % 256) (W / 16777216 % 256)) (f4 (S / 4294967296 % 256) (S / 4294967296 / 256 % 256) (S / 4294967296 / 65536 % 256) (S / 4294967296 / 16777216 % 256) * 4294967296 + f4 (S % 4294967296 % 256) (S % 4294967296 / 256 % 256) (S % 4294967296 / 65536 % 256) (S % 4294967296 / 16777216 % 256)) ∧ 65 + W % 7 = 65 + f4 (W % 256) (W / 256 % 256) (W / 65536 % 256) (W / 16777216 % 256) % 7 then (L, f4 (W % 256) (W / 256 % 256) (W / 65536 % 256) (W / 16777216 % 256), f4 (S / 4294967296 % 256) (S / 4294967296 / 256 % 256) (S / 4294967296 / 65536 % 256) (S / 4294967296 / 16777216 % 256) * 4294967296 + f4 (S % 4294967296 % 256) (S % 4294967296 / 256 % 256) (S % 4294967296 / 65536 % 256) (S % 4294967296 / 16777216 % 256), 0) else ((0, 0, 0, 3) : Int × Int × Int × Int)) = _
  rw [f4_fx W (by omega) (by omega), f4_fx (S / 4294967296) (by omega) (by omega), f4_fx (S % 4294967296) (by omega) (by omega)]
  have e : S / 4294967296 * 4294967296 + S % 4294967296 = S := by omega
  rw [e, if_pos ⟨rfl, rfl, h', rfl⟩]
theorem mr_cases (l : List Int) (hb : Bytes l) : mr l = (0, 0, 0, 3) ∨ ∃ L W S, mr l = (L, W, S, 0) ∧ MR L W S ∧ l = ms L W S := by
  by_cases hl : l.length = 16
  · obtain ⟨b0, b1, b2, b3, b4, b5, b6, b7, b8, b9, b10, b11, b12, b13, b14, b15, rfl⟩ := len16 hl
    have r : ∀ x ∈ [b0, b1, b2, b3, b4, b5, b6, b7, b8, b9, b10, b11, b12, b13, b14, b15], 0 ≤ x ∧ x < 256 := hb
    simp only [List.mem_cons, List.not_mem_nil, or_false, forall_eq_or_imp, forall_eq] at r
    obtain ⟨r0, r1, r2, r3, r4, r5, r6, r7, r8, r9, r10, r11, r12, r13, r14, r15⟩ := r
    by_cases h : b0 = 72 ∧ b1 = 76 ∧ MR b2 (f4 b4 b5 b6 b7) (f4 b12 b13 b14 b15 * 4294967296 + f4 b8 b9 b10 b11) ∧ b3 = 65 + f4 b4 b5 b6 b7 % 7
    · refine .inr ⟨b2, f4 b4 b5 b6 b7, f4 b12 b13 b14 b15 * 4294967296 + f4 b8 b9 b10 b11, ?_, h.2.2.1, ?_⟩
      · show (if _ then _ else _) = _
        rw [if_pos h]
      · obtain ⟨rfl, rfl, _, rfl⟩ := h
        have hlo := f4_range r8 r9 r10 r11
        have e1 : (f4 b12 b13 b14 b15 * 4294967296 + f4 b8 b9 b10 b11) % 4294967296 = f4 b8 b9 b10 b11 := by omega
        have e2 : (f4 b12 b13 b14 b15 * 4294967296 + f4 b8 b9 b10 b11) / 4294967296 = f4 b12 b13 b14 b15 := by omega
        unfold ms
        rw [e1, e2, fx_f4 r4 r5 r6 r7, fx_f4 r8 r9 r10 r11, fx_f4 r12 r13 r14 r15]
        rfl
    · refine .inl ?_
      show (if _ then _ else _) = _
      rw [if_neg h]
  · refine .inl ?_
    unfold mr
    split
    · exact absurd rfl hl
    · rfl
theorem ms_inj {L W S L' W' S' : Int} (h : MR L W S) (h' : MR L' W' S') (e : ms L W S = ms L' W' S') : L = L' ∧ W = W' ∧ S = S' := by
  have e1 := mr_ms h
  rw [e, mr_ms h'] at e1
  simp only [Prod.mk.injEq] at e1
  exact ⟨e1.1.symm, e1.2.1.symm, e1.2.2.1.symm⟩
theorem or_high (a b : Int) (ha0 : 0 ≤ a) (ha : a ≤ 262144) (hb0 : 0 ≤ b) (hb : b < 4294967296) : bits .or .i64 (a * 4294967296) b = a * 4294967296 + b := by
  refine bits_join .i64 62 (by decide) (fun n h0 h1 => ?_) 32 (a * 4294967296) b (by omega) (by omega) (by omega) hb0 (by omega) (by omega)
  rw [IntKind.wrap_i64]; omega
theorem tf_drop {b0 b1 b2 b3 b4 b5 b6 b7 b8 b9 b10 b11 b12 b13 b14 b15 : Int} (hb : Bytes [b0, b1, b2, b3, b4, b5, b6, b7, b8, b9, b10, b11, b12, b13, b14, b15]) (i : Nat) : Bytes ([b0, b1, b2, b3, b4, b5, b6, b7, b8, b9, b10, b11, b12, b13, b14, b15].drop i) := hb.drop i
theorem read_is (l : List Int) (hb : Bytes l) : Ev (fun K => mark_Read.f K l) (mr l) := by
  have no : Ev (fun K => mark_Read.j0 K l true) (0, 0, 0, 3) := Ev.step (f := fun _ => some (0, 0, 0, 3)) (fun K => by rw [mark_Read.j0, if_pos rfl]) (Ev.now _)
  unfold mark_Read.f
  by_cases hl : l.length = 16
  · obtain ⟨b0, b1, b2, b3, b4, b5, b6, b7, b8, b9, b10, b11, b12, b13, b14, b15, rfl⟩ := len16 hl
    have r : ∀ x ∈ [b0, b1, b2, b3, b4, b5, b6, b7, b8, b9, b10, b11, b12, b13, b14, b15], 0 ≤ x ∧ x < 256 := hb
    simp only [List.mem_cons, List.not_mem_nil, or_false, forall_eq_or_imp, forall_eq] at r
    obtain ⟨r0, r1, r2, r3, r4, r5, r6, r7, r8, r9, r10, r11, r12, r13, r14, r15⟩ := r
    have q0 : rd [b0, b1, b2, b3, b4, b5, b6, b7, b8, b9, b10, b11, b12, b13, b14, b15] 0 = b0 := rfl
    have q1 : rd [b0, b1, b2, b3, b4, b5, b6, b7, b8, b9, b10, b11, b12, b13, b14, b15] 1 = b1 := rfl
    have q2 : rd [b0, b1, b2, b3, b4, b5, b6, b7, b8, b9, b10, b11, b12, b13, b14, b15] 2 = b2 := rfl
    have q3 : rd [b0, b1, b2, b3, b4, b5, b6, b7, b8, b9, b10, b11, b12, b13, b14, b15] 3 = b3 := rfl
    have t4 : tf ([b0, b1, b2, b3, b4, b5, b6, b7, b8, b9, b10, b11, b12, b13, b14, b15].drop 4) = (f4 b4 b5 b6 b7, 0) := rfl
    have t8 : tf ([b0, b1, b2, b3, b4, b5, b6, b7, b8, b9, b10, b11, b12, b13, b14, b15].drop 8) = (f4 b8 b9 b10 b11, 0) := rfl
    have t12 : tf ([b0, b1, b2, b3, b4, b5, b6, b7, b8, b9, b10, b11, b12, b13, b14, b15].drop 12) = (f4 b12 b13 b14 b15, 0) := rfl
    have d4 := tf_is _ (tf_drop hb 4)
    have d8 := tf_is _ (tf_drop hb 8)
    have d12 := tf_is _ (tf_drop hb 12)
    rw [t4] at d4
    rw [t8] at d8
    rw [t12] at d12
    have g4 := f4_range r4 r5 r6 r7
    have g8 := f4_range r8 r9 r10 r11
    have g12 := f4_range r12 r13 r14 r15
    have hmr : mr [b0, b1, b2, b3, b4, b5, b6, b7, b8, b9, b10, b11, b12, b13, b14, b15] = if b0 = 72 ∧ b1 = 76 ∧ MR b2 (f4 b4 b5 b6 b7) (f4 b12 b13 b14 b15 * 4294967296 + f4 b8 b9 b10 b11) ∧ b3 = 65 + f4 b4 b5 b6 b7 % 7 then (b2, f4 b4 b5 b6 b7, f4 b12 b13 b14 b15 * 4294967296 + f4 b8 b9 b10 b11, 0) else (0, 0, 0, 3) := rfl
    generalize [b0, b1, b2, b3, b4, b5, b6, b7, b8, b9, b10, b11, b12, b13, b14, b15] = l at *
    rw [hmr]
    clear hmr t4 t8 t12
    have w2 : wrap64 b2 = b2 := wrap_in (by omega) (by omega)
    have w4 : wrap64 (f4 b4 b5 b6 b7) = f4 b4 b5 b6 b7 := wrap_in (by omega) (by omega)
    have w8 : wrap64 (f4 b8 b9 b10 b11) = f4 b8 b9 b10 b11 := wrap_in (by omega) (by omega)
    have w12 : wrap64 (f4 b12 b13 b14 b15) = f4 b12 b13 b14 b15 := wrap_in (by omega) (by omega)
    generalize f4 b4 b5 b6 b7 = W at *
    generalize f4 b8 b9 b10 b11 = lo at *
    generalize f4 b12 b13 b14 b15 = hi at *
    refine evp (by omega) (evp (by omega) ?_)
    rw [q0]
    by_cases h0 : b0 = 72
    · refine evp h0 (evp (by omega) ?_)
      rw [q1]
      by_cases h1 : b1 = 76
      · rw [bne_eq_false_iff_eq.2 h1]
        refine Ev.step (f := fun _ => some _) (fun K => ?_) (Ev.now _)
        rw [mark_Read.j0, if_neg (by decide), if_pos (by omega), d4]
        simp only [Option.bind_some]
        rw [if_pos (by omega), d8]
        simp only [Option.bind_some]
        rw [if_pos (by omega), d12]
        simp only [Option.bind_some]
        by_cases h2 : hi > 262144
        · rw [if_pos h2, if_neg]
          rintro ⟨_, _, ⟨_, _, _, _, _, hS⟩, _⟩
          omega
        · rw [if_neg h2, if_pos (by omega), q2, w2, w4, w8, w12, wrap_in (x := hi * 4294967296) (by omega) (by omega), or_high hi lo g12.1 (by omega) g8.1 g8.2, right_is]
          simp only [Option.bind_some]
          by_cases hM : MR b2 W (hi * 4294967296 + lo)
          · rw [decide_eq_true hM, if_pos rfl, if_pos (by omega)]
            unfold mark_letter.f
            rw [if_pos g4.1]
            simp only [Option.bind_some]
            rw [q3]
            by_cases h3 : b3 = 65 + W % 7
            · rw [if_pos h3, if_pos ⟨h0, h1, hM, h3⟩]
            · rw [if_neg h3, if_neg (fun h => h3 h.2.2.2)]
          · rw [decide_eq_false hM, if_neg (by decide), if_neg (fun h => hM h.2.2.1)]
      · rw [bne_iff_ne.2 h1, if_neg (fun h => h1 h.2.1)]
        exact no
    · refine evn h0 ?_
      rw [if_neg (fun h => h0 h.1)]
      exact no
  · refine evn (by omega) ?_
    have : mr l = (0, 0, 0, 3) := by
      unfold mr
      split
      · exact absurd rfl hl
      · rfl
    rw [this]; exact no
theorem awake_is : strakelaw06_awake.f = some true := by
  unfold strakelaw06_awake.f
  rw [sector_is, if_pos (by decide)]
  rfl
end Go.Proofs.Ytjjohdeknahkmaa.Plain
